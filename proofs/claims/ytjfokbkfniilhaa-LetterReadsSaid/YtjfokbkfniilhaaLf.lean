/- What letter's writers write. Conditions: those that each theorem names. -/
import Derived.Test.YtjfokbkfniilhaaLe
set_option linter.unusedVariables false
set_option linter.unusedSimpArgs false
namespace Go.Proofs.Ytjfokbkfniilhaa
open Go.RowKit Go.Proofs.YtjfokbkfniilhaaW.PrintWords Go.Proofs.Ytjfokbkfniilhaa.PLa

def txE (s : ByteArray) : ByteArray := encB s.size ++ s
def encW (x : S66) : ByteArray := txE x.f0 ++ encF x.f2 ++ txE x.f1
def encX (x : S24) : ByteArray := encB x.f0 ++ encB x.f1
def encP (x : S68) : ByteArray := txE x.f0 ++ txE x.f1
/-- Of a list, one behind the other. -/
def encs {α : Type} (f : α → ByteArray) : List α → ByteArray
  | [] => ByteArray.empty
  | x :: l => f x ++ encs f l
theorem encs_snoc {α : Type} (f : α → ByteArray) (l : List α) (x : α) : encs f (l ++ [x]) = encs f l ++ f x := by
  induction l with
  | nil => simp [encs]
  | cons y l ih => rw [List.cons_append, encs, ih, encs, ByteArray.append_assoc]
theorem encs_take {α : Type} (f : α → ByteArray) (l : List α) (i : Nat) (h : i < l.length) : encs f (l.take (i + 1)) = encs f (l.take i) ++ f l[i] := by
  rw [List.take_succ_eq_append_getElem h, encs_snoc]
theorem encs_size {α : Type} (f : α → ByteArray) (m : Nat) (l : List α) (h : ∀ x ∈ l, (f x).size ≤ m) : (encs f l).size ≤ l.length * m := by
  induction l with
  | nil => simp [encs]
  | cons y l ih =>
    have h1 := h y (List.mem_cons_self ..)
    have h2 := ih fun x hx => h x (List.mem_cons_of_mem _ hx)
    rw [encs, ByteArray.size_append, List.length_cons, Nat.succ_mul]
    omega
def encAsk (q : Rq) : ByteArray := encB q.k ++ (encB q.bc ++ encB q.bn) ++ (encB q.sp ++ encB q.sl) ++ (encB q.ap ++ encB q.al) ++ txE q.key ++ txE q.tt ++ encB q.lim ++ encB q.parts ++ encB q.ws.length ++ encs encW q.ws ++ encB q.sk.length ++ encs encX q.sk
def encRep (r : Rp) : ByteArray := encB r.k ++ encB r.er ++ encF r.fd ++ txE r.val ++ encB r.ps.length ++ encs encP r.ps ++ (encB r.wc ++ encB r.wn) ++ (encB r.sp ++ encB r.sl) ++ (encB r.ap ++ encB r.al) ++ txE r.pr ++ (encB r.np ++ encB r.nl)
theorem bz (n : Int) (h : 0 ≤ n ∧ n ≤ 18446744073709551615) : (encB n).size ≤ 9 := by have := encB_size (n := n) (by omega); omega
theorem tz (s : ByteArray) (m : Nat) (h : s.size ≤ m) (hm : m ≤ 1000) : (txE s).size ≤ 9 + m := by
  unfold txE
  rw [ByteArray.size_append]
  have := bz (s.size : Int) ⟨by omega, by omega⟩
  omega
theorem fits_le {a b : ByteArray} (h : fitsB a b = true) : a.size ≤ 32 ∧ b.size ≤ 256 := by
  unfold fitsB at h
  simpa using h
set_option maxRecDepth 100000 in
set_option maxHeartbeats 1000000 in
theorem wtxn (w0 w : World) (g : Nat) (s : ByteArray) (p l : Int) (hp : U32 p) (hll : U32 l) (hI : IsS53 w0 w g s) (hB : Below w0.heap.size w0 w) (hl : s.size + 18 ≤ 140737488355328) :
    Calls Try.prog 43 #[.pointer (some ⟨g, 0, none⟩), .agg #[.int .u32 p, .int .u32 l]] w fun e w' => e = .returned (.tuple #[]) ∧ IsS53 w0 w' g (s ++ (encB p ++ encB l)) ∧ Below w0.heap.size w0 w' ∧ KeepW w w' g := by
  obtain ⟨hp1, hp2⟩ := hp
  obtain ⟨hl1, hl2⟩ := hll
  have hgl := hI.lt
  have hI1 := hI.alloc (.cells #[.int .u32 p, .int .u32 l] 24)
  have hB1 := below_alloc' hB (.cells #[.int .u32 p, .int .u32 l] 24)
  have HI1 := Lib.hid hI1
  have hs := bz p ⟨hp1, by omega⟩
  have HN := Lib.hid (wnum w0 _ g s p (by omega) (by omega) hI1 hB1 (by omega))
  have hb0 : (w.alloc (.cells #[.int .u32 p, .int .u32 l] 24)).heap[w.heap.size]? = some (.cells #[.int .u32 p, .int .u32 l] 24 (0, 0)) := heap_alloc_new w _
  have Hb0 := Lib.hid hb0
  have HK0 := Lib.hid ((KeepW.refl w g).alloc (.cells #[.int .u32 p, .int .u32 l] 24))
  have hne : w.heap.size ≠ g := by omega
  have Hne := Lib.hid hne
  rw [← ByteArray.append_assoc]
  obtain ⟨u, hu⟩ : ∃ u, u = s ++ encB p := ⟨_, rfl⟩
  have hus : u.size + 9 ≤ 140737488355328 := by rw [hu, ByteArray.size_append]; omega
  rw [← hu]
  rw [← hu] at HN
  clear hI hB hI1 hB1 hb0 hne hu hs
  go_enter Try.func43, Try.ntmps43
  go_wp2_with fail
  refine HN.out.mono ?_
  rintro e w1 ⟨rfl, hI2, hB2, hK2⟩
  have hbk := (KeepW.block hK2 HI1.out w.heap.size Hne.out Hb0.out (by decide)).trans Hb0.out
  have c1 : w1.cell? ⟨w.heap.size, 1, none⟩ = some (.int .u32 l) := (blk_cell hbk 1).trans rfl
  have HN2 := Lib.hid (wnum w0 _ g u l (by omega) (by omega) hI2 hB2 hus)
  have HK := Lib.hid (HK0.out.trans hK2)
  clear hI2 hB2 hK2 hbk
  go_wp2_with fail
  refine HN2.out.mono ?_
  rintro e w2 ⟨rfl, hI3, hB3, hK3⟩
  have Hend := Lib.hid (show IsS53 w0 w2 g (u ++ encB l) ∧ Below w0.heap.size w0 w2 ∧ KeepW w w2 g from ⟨hI3, hB3, HK.out.trans hK3⟩)
  clear hI3 hB3 hK3
  go_wp2
  go_end0
  exact ⟨rfl, Hend.out⟩
set_option maxRecDepth 100000 in
set_option maxHeartbeats 16000000 in
theorem wputAsk (w0 w : World) (g : Nat) (s : ByteArray) (q : Rq) (A1 A2 : Option Addr) (c1 c2 : Nat) (hq : QOk q) (ha : askR q = true) (hC1 : Kd.C k66 w0 A1 q.ws.length q.ws) (hC2 : Kd.C k24 w0 A2 q.sk.length q.sk) (hs : s.size ≤ 1000) (hI : IsS53 w0 w g s) (hB : Below w0.heap.size w0 w) :
    Calls Try.prog 16 #[.pointer (some ⟨g, 0, none⟩), .agg #[.int .i64 q.k, .int .u32 q.bc, .int .u32 q.bn, .int .u64 q.sp, .int .u32 q.sl, .int .u64 q.ap, .int .u32 q.al, .string q.key, .string q.tt, .int .i64 q.lim, .int .u8 q.parts, .slice A1 q.ws.length c1, .slice A2 q.sk.length c2]] w fun e w' => e = .returned (.tuple #[]) ∧ IsS53 w0 w' g (s ++ encAsk q) ∧ Below w0.heap.size w0 w' ∧ KeepW w w' g := by
  have hws : q.ws.length ≤ 16 := by have h := ha; unfold askR at h; simp only [Bool.and_eq_true, decide_eq_true_eq] at h; omega
  have hsk : q.sk.length ≤ 16 := by have h := ha; unfold askR at h; simp only [Bool.and_eq_true, decide_eq_true_eq] at h; omega
  have hk1 : 1 ≤ q.k ∧ q.k ≤ 9 := by have h := ha; unfold askR at h; simp only [Bool.and_eq_true, decide_eq_true_eq] at h; omega
  have hl1 : 0 ≤ q.lim ∧ q.lim ≤ 32 := by have h := ha; unfold askR at h; simp only [Bool.and_eq_true, decide_eq_true_eq] at h; omega
  have hky : q.key.size ≤ 32 := by have h := ha; unfold askR at h; simp only [Bool.and_eq_true, decide_eq_true_eq] at h; exact (fits_le h.2.1.1.1.1.1.2).1
  have hty : q.tt.size ≤ 32 := by have h := ha; unfold askR at h; simp only [Bool.and_eq_true, decide_eq_true_eq] at h; exact (fits_le h.2.1.1.1.1.2).1
  have hall : ∀ x ∈ q.ws, x.f0.size ≤ 32 ∧ x.f1.size ≤ 256 := by
    have h := ha; unfold askR at h; simp only [Bool.and_eq_true] at h
    intro x hx
    exact fits_le (List.all_eq_true.1 h.1 x hx)
  have HwsE : Hid (∀ x ∈ q.ws, x.f0.size ≤ 32 ∧ x.f1.size ≤ 256) := Lib.hid hall
  have HskE : Hid (∀ x ∈ q.sk, U32 x.f0 ∧ U32 x.f1) := Lib.hid hq.skx
  have Hws : Hid (∀ x ∈ q.ws, (encW x).size ≤ 400) := Lib.hid (fun x hx => by
    have h := hall x hx
    have h1 := tz x.f0 32 h.1 (by omega)
    have h2 := tz x.f1 256 h.2 (by omega)
    have h3 := encF_size x.f2
    unfold encW
    rw [ByteArray.size_append, ByteArray.size_append]
    omega)
  have Hsk : Hid (∀ x ∈ q.sk, (encX x).size ≤ 18) := Lib.hid (fun x hx => by
    have h := hq.skx x hx
    have h1 := bz x.f0 ⟨h.1.1, by have := h.1.2; omega⟩
    have h2 := bz x.f1 ⟨h.2.1, by have := h.2.2; omega⟩
    unfold encX
    rw [ByteArray.size_append]
    omega)
  have HCws := Lib.hid hC1
  have HCsk := Lib.hid hC2
  obtain ⟨hqk, ⟨hb1, hb2⟩, ⟨hb3, hb4⟩, ⟨hb5, hb6⟩, ⟨hb7, hb8⟩, ⟨hb9, hb10⟩, ⟨hb11, hb12⟩, hqlim, ⟨hb13, hb14⟩, _, _, _⟩ := hq
  clear hall hC1 hC2 ha hqk hqlim
  obtain ⟨hk1, hk2⟩ := hk1
  obtain ⟨hl1, hl2⟩ := hl1
  obtain ⟨k, bc, bn, sp, sl, ap, al, key, tt, lim, parts, ws, sk⟩ := q
  dsimp only at *
  have HNE : Hid (w.heap.size ≠ g) := Lib.hid (by have := hI.lt; omega)
  have HX := Lib.hid (heap_alloc_new w (.cells #[.int .i64 k, .int .u32 bc, .int .u32 bn, .int .u64 sp, .int .u32 sl, .int .u64 ap, .int .u32 al, .string key, .string tt, .int .i64 lim, .int .u8 parts, .slice A1 ws.length c1, .slice A2 sk.length c2] 31))
  have HI := Lib.hid (hI.alloc (.cells #[.int .i64 k, .int .u32 bc, .int .u32 bn, .int .u64 sp, .int .u32 sl, .int .u64 ap, .int .u32 al, .string key, .string tt, .int .i64 lim, .int .u8 parts, .slice A1 ws.length c1, .slice A2 sk.length c2] 31))
  have HB := Lib.hid (below_alloc' hB (.cells #[.int .i64 k, .int .u32 bc, .int .u32 bn, .int .u64 sp, .int .u32 sl, .int .u64 ap, .int .u32 al, .string key, .string tt, .int .i64 lim, .int .u8 parts, .slice A1 ws.length c1, .slice A2 sk.length c2] 31))
  have HK := Lib.hid ((KeepW.refl w g).alloc (.cells #[.int .i64 k, .int .u32 bc, .int .u32 bn, .int .u64 sp, .int .u32 sl, .int .u64 ap, .int .u32 al, .string key, .string tt, .int .i64 lim, .int .u8 parts, .slice A1 ws.length c1, .slice A2 sk.length c2] 31))
  clear hI hB
  go_enter Try.func16, Try.ntmps16
  have hz := hs
  go_wp2_with fail
  refine (wnum w0 _ g s (k) (by omega) (by omega) HI.out HB.out (by omega)).mono ?_
  clear hz
  rintro e w1 ⟨rfl, hI, hB, hK⟩
  have hX := (KeepW.block hK HI.out w.heap.size HNE.out HX.out (by decide)).trans HX.out
  obtain ⟨m1, hu⟩ : ∃ u, u = s ++ encB (k) := ⟨_, rfl⟩
  have z1 : m1.size ≤ 1009 := by rw [hu, ByteArray.size_append]; have := bz (k) ⟨by omega, by omega⟩; omega
  replace hI : IsS53 w0 w1 g m1 := by rw [hu]; exact hI
  have HU1 := Lib.hid hu
  replace HK := Lib.hid (HK.out.trans hK)
  replace HX := Lib.hid hX
  replace HI := Lib.hid hI
  replace HB := Lib.hid hB
  clear hI hB hK hX hu
  have d1 := (blk_cell HX.out 1).trans (show _ = some (.int .u32 bc) from rfl)
  have d2 := (blk_cell HX.out 2).trans (show _ = some (.int .u32 bn) from rfl)
  have hz := z1
  go_wp2_with fail
  refine (wtxn w0 _ g m1 bc bn ⟨by omega, by omega⟩ ⟨by omega, by omega⟩ HI.out HB.out (by omega)).mono ?_
  clear d1
  clear d2
  clear hz
  rintro e w2 ⟨rfl, hI, hB, hK⟩
  have hX := (KeepW.block hK HI.out w.heap.size HNE.out HX.out (by decide)).trans HX.out
  obtain ⟨m2, hu⟩ : ∃ u, u = m1 ++ (encB bc ++ encB bn) := ⟨_, rfl⟩
  have z2 : m2.size ≤ 1027 := by rw [hu, ByteArray.size_append]; have := bz bc ⟨by omega, by omega⟩; have := bz bn ⟨by omega, by omega⟩; rw [ByteArray.size_append]; omega
  replace hI : IsS53 w0 w2 g m2 := by rw [hu]; exact hI
  have HU2 := Lib.hid hu
  replace HK := Lib.hid (HK.out.trans hK)
  replace HX := Lib.hid hX
  replace HI := Lib.hid hI
  replace HB := Lib.hid hB
  clear hI hB hK hX hu
  have d3 := (blk_cell HX.out 3).trans (show _ = some (.int .u64 sp) from rfl)
  have d4 := (blk_cell HX.out 4).trans (show _ = some (.int .u32 sl) from rfl)
  have hz := z2
  go_wp2_with fail
  refine (wstamp w0 _ g m2 sp sl ⟨by omega, by omega⟩ ⟨by omega, by omega⟩ HI.out HB.out (by omega)).mono ?_
  rw [ByteArray.append_assoc]
  clear d3
  clear d4
  clear hz
  rintro e w3 ⟨rfl, hI, hB, hK⟩
  have hX := (KeepW.block hK HI.out w.heap.size HNE.out HX.out (by decide)).trans HX.out
  obtain ⟨m3, hu⟩ : ∃ u, u = m2 ++ (encB sp ++ encB sl) := ⟨_, rfl⟩
  have z3 : m3.size ≤ 1045 := by rw [hu, ByteArray.size_append]; have := bz sp ⟨by omega, by omega⟩; have := bz sl ⟨by omega, by omega⟩; rw [ByteArray.size_append]; omega
  replace hI : IsS53 w0 w3 g m3 := by rw [hu]; exact hI
  have HU3 := Lib.hid hu
  replace HK := Lib.hid (HK.out.trans hK)
  replace HX := Lib.hid hX
  replace HI := Lib.hid hI
  replace HB := Lib.hid hB
  clear hI hB hK hX hu
  have d5 := (blk_cell HX.out 5).trans (show _ = some (.int .u64 ap) from rfl)
  have d6 := (blk_cell HX.out 6).trans (show _ = some (.int .u32 al) from rfl)
  have hz := z3
  go_wp2_with fail
  refine (wstamp w0 _ g m3 ap al ⟨by omega, by omega⟩ ⟨by omega, by omega⟩ HI.out HB.out (by omega)).mono ?_
  rw [ByteArray.append_assoc]
  clear d5
  clear d6
  clear hz
  rintro e w4 ⟨rfl, hI, hB, hK⟩
  have hX := (KeepW.block hK HI.out w.heap.size HNE.out HX.out (by decide)).trans HX.out
  obtain ⟨m4, hu⟩ : ∃ u, u = m3 ++ (encB ap ++ encB al) := ⟨_, rfl⟩
  have z4 : m4.size ≤ 1063 := by rw [hu, ByteArray.size_append]; have := bz ap ⟨by omega, by omega⟩; have := bz al ⟨by omega, by omega⟩; rw [ByteArray.size_append]; omega
  replace hI : IsS53 w0 w4 g m4 := by rw [hu]; exact hI
  have HU4 := Lib.hid hu
  replace HK := Lib.hid (HK.out.trans hK)
  replace HX := Lib.hid hX
  replace HI := Lib.hid hI
  replace HB := Lib.hid hB
  clear hI hB hK hX hu
  have d7 := (blk_cell HX.out 7).trans (show _ = some (.string key) from rfl)
  have hz := z4
  go_wp2_with fail
  refine (wtext w0 _ g m4 key HI.out HB.out (by omega)).mono ?_
  rw [ByteArray.append_assoc]
  clear d7
  clear hz
  rintro e w5 ⟨rfl, hI, hB, hK⟩
  have hX := (KeepW.block hK HI.out w.heap.size HNE.out HX.out (by decide)).trans HX.out
  obtain ⟨m5, hu⟩ : ∃ u, u = m4 ++ txE key := ⟨_, rfl⟩
  have z5 : m5.size ≤ 1104 := by rw [hu, ByteArray.size_append]; have := tz key 32 (by omega) (by omega); omega
  replace hI : IsS53 w0 w5 g m5 := by rw [hu]; exact hI
  have HU5 := Lib.hid hu
  replace HK := Lib.hid (HK.out.trans hK)
  replace HX := Lib.hid hX
  replace HI := Lib.hid hI
  replace HB := Lib.hid hB
  clear hI hB hK hX hu
  have d8 := (blk_cell HX.out 8).trans (show _ = some (.string tt) from rfl)
  have hz := z5
  go_wp2_with fail
  refine (wtext w0 _ g m5 tt HI.out HB.out (by omega)).mono ?_
  rw [ByteArray.append_assoc]
  clear d8
  clear hz
  rintro e w6 ⟨rfl, hI, hB, hK⟩
  have hX := (KeepW.block hK HI.out w.heap.size HNE.out HX.out (by decide)).trans HX.out
  obtain ⟨m6, hu⟩ : ∃ u, u = m5 ++ txE tt := ⟨_, rfl⟩
  have z6 : m6.size ≤ 1145 := by rw [hu, ByteArray.size_append]; have := tz tt 32 (by omega) (by omega); omega
  replace hI : IsS53 w0 w6 g m6 := by rw [hu]; exact hI
  have HU6 := Lib.hid hu
  replace HK := Lib.hid (HK.out.trans hK)
  replace HX := Lib.hid hX
  replace HI := Lib.hid hI
  replace HB := Lib.hid hB
  clear hI hB hK hX hu
  have d9 := (blk_cell HX.out 9).trans (show _ = some (.int .i64 lim) from rfl)
  have hz := z6
  go_wp2_with fail
  refine (wnum w0 _ g m6 (lim) (by omega) (by omega) HI.out HB.out (by omega)).mono ?_
  clear d9
  clear hz
  rintro e w7 ⟨rfl, hI, hB, hK⟩
  have hX := (KeepW.block hK HI.out w.heap.size HNE.out HX.out (by decide)).trans HX.out
  obtain ⟨m7, hu⟩ : ∃ u, u = m6 ++ encB (lim) := ⟨_, rfl⟩
  have z7 : m7.size ≤ 1154 := by rw [hu, ByteArray.size_append]; have := bz (lim) ⟨by omega, by omega⟩; omega
  replace hI : IsS53 w0 w7 g m7 := by rw [hu]; exact hI
  have HU7 := Lib.hid hu
  replace HK := Lib.hid (HK.out.trans hK)
  replace HX := Lib.hid hX
  replace HI := Lib.hid hI
  replace HB := Lib.hid hB
  clear hI hB hK hX hu
  have d10 := (blk_cell HX.out 10).trans (show _ = some (.int .u8 parts) from rfl)
  have hz := z7
  go_wp2_with fail
  refine (wnum w0 _ g m7 (parts) (by omega) (by omega) HI.out HB.out (by omega)).mono ?_
  clear d10
  clear hz
  rintro e w8 ⟨rfl, hI, hB, hK⟩
  have hX := (KeepW.block hK HI.out w.heap.size HNE.out HX.out (by decide)).trans HX.out
  obtain ⟨m8, hu⟩ : ∃ u, u = m7 ++ encB (parts) := ⟨_, rfl⟩
  have z8 : m8.size ≤ 1163 := by rw [hu, ByteArray.size_append]; have := bz (parts) ⟨by omega, by omega⟩; omega
  replace hI : IsS53 w0 w8 g m8 := by rw [hu]; exact hI
  have HU8 := Lib.hid hu
  replace HK := Lib.hid (HK.out.trans hK)
  replace HX := Lib.hid hX
  replace HI := Lib.hid hI
  replace HB := Lib.hid hB
  clear hI hB hK hX hu
  have d11 := (blk_cell HX.out 11).trans (show _ = some (.slice A1 ws.length c1) from rfl)
  have hz := z8
  go_wp2_with fail
  refine (wnum w0 _ g m8 ((ws.length : Int)) (by omega) (by omega) HI.out HB.out (by omega)).mono ?_
  clear d11
  clear hz
  rintro e w9 ⟨rfl, hI, hB, hK⟩
  have hX := (KeepW.block hK HI.out w.heap.size HNE.out HX.out (by decide)).trans HX.out
  obtain ⟨m9, hu⟩ : ∃ u, u = m8 ++ encB ((ws.length : Int)) := ⟨_, rfl⟩
  have z9 : m9.size ≤ 1172 := by rw [hu, ByteArray.size_append]; have := bz ((ws.length : Int)) ⟨by omega, by omega⟩; omega
  replace hI : IsS53 w0 w9 g m9 := by rw [hu]; exact hI
  have HU9 := Lib.hid hu
  replace HK := Lib.hid (HK.out.trans hK)
  replace HX := Lib.hid hX
  replace HI := Lib.hid hI
  replace HB := Lib.hid hB
  clear hI hB hK hX hu
  have d11 := (blk_cell HX.out 11).trans (show _ = some (.slice A1 ws.length c1) from rfl)
  have hz := z9
  go_wp2_with fail
  clear d11
  go_loopg [52] (ws.length + 1) (fun gk v52 wr => ∃ i : Nat, i ≤ ws.length ∧ v52 = .int .i64 (i : Int) ∧ Aside0 (i + gk = ws.length + 1) ∧ Aside0 (IsS53 w0 wr g (m9 ++ encs encW (ws.take i)) ∧ Below w0.heap.size w0 wr ∧ KeepW w wr g ∧ wr.heap[w.heap.size]? = some (.cells #[.int .i64 k, .int .u32 bc, .int .u32 bn, .int .u64 sp, .int .u32 sl, .int .u64 ap, .int .u32 al, .string key, .string tt, .int .i64 lim, .int .u8 parts, .slice A1 ws.length c1, .slice A2 sk.length c2] 31 (0, 0))))
  case atStart => exact ⟨0, Nat.zero_le _, rfl, ⟨by omega⟩, ⟨by rw [List.take_zero, encs, ByteArray.append_empty]; exact HI.out, HB.out, HK.out, HX.out⟩⟩
  case round =>
  obtain ⟨i, hi, rfl, ⟨hg⟩, ⟨hI, hB, hK, hX⟩⟩ := hrel
  have HG := Lib.hid hg
  replace HI := Lib.hid hI
  replace HB := Lib.hid hB
  replace HK := Lib.hid hK
  replace HX := Lib.hid hX
  clear hg hI hB hK hX
  rcases (show i < ws.length ∨ i = ws.length by omega) with hlt | rfl
  · have hsz := encs_size encW 400 (ws.take i) (fun x hx => Hws.out x (List.mem_of_mem_take hx))
    have hel := HwsE.out (ws[i]) (List.getElem_mem hlt)
    obtain ⟨U, hU⟩ : ∃ U, U = m9 ++ encs encW (ws.take i) := ⟨_, rfl⟩
    have hUz : U.size ≤ 7572 := by
      rw [hU, ByteArray.size_append]
      have h1 : (ws.take i).length ≤ 16 := by rw [List.length_take]; omega
      have h2 : (ws.take i).length * 400 ≤ 16 * 400 := Nat.mul_le_mul_right _ h1
      omega
    rw [← hU] at HI
    have HU := Lib.hid hU
    obtain ⟨ad, rfl, k0, k1, k2⟩ := at_T66 (Kd.C_below HCws.out HB.out) (i : Int) (by omega) (by omega)
    rw [Int.toNat_natCast] at k0 k1 k2
    have HE : Hid (rd_T66 ws (i : Int) = ws[i]) := Lib.hid (by
      unfold rd_T66
      rw [List.getD_eq_getElem?_getD, Int.toNat_natCast, List.getElem?_eq_getElem hlt]
      rfl)
    rw [← HE.out] at hel
    generalize rd_T66 ws (i : Int) = x at *
    obtain ⟨x0, x1, x2⟩ := x
    dsimp only at *
    have HNX : Hid (wr.heap.size ≠ g) := Lib.hid (by have := HI.out.lt; omega)
    have HY := Lib.hid (heap_alloc_new wr (.cells #[.string x0, .string x1, .bool x2] 66))
    have HX2 := Lib.hid (((below_alloc (Below.refl wr.heap.size wr) (.cells #[.string x0, .string x1, .bool x2] 66)).block _ (lt_at HX.out)).trans HX.out)
    have HI2 := Lib.hid (HI.out.alloc (.cells #[.string x0, .string x1, .bool x2] 66))
    have HB2 := Lib.hid (below_alloc' HB.out (.cells #[.string x0, .string x1, .bool x2] 66))
    have HK2 := Lib.hid (HK.out.alloc (.cells #[.string x0, .string x1, .bool x2] 66))
    clear hU hsz HI HB HK HX
    go_wp2_with fail
    refine (wtext w0 _ g U x0 HI2.out HB2.out (by omega)).mono ?_
    rw [ByteArray.append_assoc]
    rintro e y0 ⟨rfl, hI, hB, hK⟩
    have hX := (KeepW.block hK HI2.out w.heap.size HNE.out HX2.out (by decide)).trans HX2.out
    have hY := (KeepW.block hK HI2.out wr.heap.size HNX.out HY.out (by decide)).trans HY.out
    obtain ⟨v0, hu⟩ : ∃ u, u = U ++ txE x0 := ⟨_, rfl⟩
    have q0 : v0.size ≤ U.size + 265 := by rw [hu, ByteArray.size_append]; have := tz x0 256 (by omega) (by omega); omega
    replace hI : IsS53 w0 y0 g v0 := by rw [hu]; exact hI
    have HV0 := Lib.hid hu
    replace HK2 := Lib.hid (HK2.out.trans hK)
    replace HX2 := Lib.hid hX
    replace HY := Lib.hid hY
    replace HI2 := Lib.hid hI
    replace HB2 := Lib.hid hB
    clear hI hB hK hX hY hu
    have e2 := (blk_cell HY.out 2).trans (show _ = some (.bool x2) from rfl)
    go_wp2_with fail
    refine (wflag w0 _ g v0 x2 HI2.out HB2.out (by omega)).mono ?_
    rintro e y1 ⟨rfl, hI, hB, hK⟩
    have hX := (KeepW.block hK HI2.out w.heap.size HNE.out HX2.out (by decide)).trans HX2.out
    have hY := (KeepW.block hK HI2.out wr.heap.size HNX.out HY.out (by decide)).trans HY.out
    obtain ⟨v1, hu⟩ : ∃ u, u = v0 ++ encF x2 := ⟨_, rfl⟩
    have q1 : v1.size ≤ v0.size + 1 := by rw [hu, ByteArray.size_append]; have := encF_size x2; omega
    replace hI : IsS53 w0 y1 g v1 := by rw [hu]; exact hI
    have HV1 := Lib.hid hu
    replace HK2 := Lib.hid (HK2.out.trans hK)
    replace HX2 := Lib.hid hX
    replace HY := Lib.hid hY
    replace HI2 := Lib.hid hI
    replace HB2 := Lib.hid hB
    clear hI hB hK hX hY hu
    clear e2
    have e1 := (blk_cell HY.out 1).trans (show _ = some (.string x1) from rfl)
    go_wp2_with fail
    refine (wtext w0 _ g v1 x1 HI2.out HB2.out (by omega)).mono ?_
    rw [ByteArray.append_assoc]
    rintro e y2 ⟨rfl, hI, hB, hK⟩
    have hX := (KeepW.block hK HI2.out w.heap.size HNE.out HX2.out (by decide)).trans HX2.out
    have hY := (KeepW.block hK HI2.out wr.heap.size HNX.out HY.out (by decide)).trans HY.out
    obtain ⟨v2, hu⟩ : ∃ u, u = v1 ++ txE x1 := ⟨_, rfl⟩
    have q2 : v2.size ≤ v1.size + 265 := by rw [hu, ByteArray.size_append]; have := tz x1 256 (by omega) (by omega); omega
    replace hI : IsS53 w0 y2 g v2 := by rw [hu]; exact hI
    have HV2 := Lib.hid hu
    replace HK2 := Lib.hid (HK2.out.trans hK)
    replace HX2 := Lib.hid hX
    replace HY := Lib.hid hY
    replace HI2 := Lib.hid hI
    replace HB2 := Lib.hid hB
    clear hI hB hK hX hY hu
    clear e1
    have HW : Hid (m9 ++ encs encW (ws.take (i + 1)) = v2) := Lib.hid (by
      rw [encs_take encW ws i hlt, ← HE.out, HV2.out, HV1.out, HV0.out, HU.out]
      simp only [encW, ByteArray.append_assoc])
    go_wp2
    go_roundg (gk - 1)
    case measure => have := HG.out; omega
    case rel => exact ⟨i + 1, by omega, by go_num, ⟨by have := HG.out; omega⟩, ⟨by rw [HW.out]; exact HI2.out, HB2.out, HK2.out, HX2.out⟩⟩
  have hsz := encs_size encW 400 ws (fun x hx => Hws.out x hx)
  rw [List.take_length] at HI
  obtain ⟨L10, hu⟩ : ∃ u, u = m9 ++ encs encW ws := ⟨_, rfl⟩
  have z10 : L10.size ≤ 7572 := by
    rw [hu, ByteArray.size_append]
    have h2 : ws.length * 400 ≤ 16 * 400 := Nat.mul_le_mul_right _ (by omega)
    omega
  rw [← hu] at HI
  have HU10 := Lib.hid hu
  clear hu hsz HG hz
  skip
  have d12 := (blk_cell HX.out 12).trans (show _ = some (.slice A2 sk.length c2) from rfl)
  have hz := z10
  go_wp2_with fail
  refine (wnum w0 _ g L10 ((sk.length : Int)) (by omega) (by omega) HI.out HB.out (by omega)).mono ?_
  clear d12
  clear hz
  rintro e w11 ⟨rfl, hI, hB, hK⟩
  have hX := (KeepW.block hK HI.out w.heap.size HNE.out HX.out (by decide)).trans HX.out
  obtain ⟨m11, hu⟩ : ∃ u, u = L10 ++ encB ((sk.length : Int)) := ⟨_, rfl⟩
  have z11 : m11.size ≤ 7581 := by rw [hu, ByteArray.size_append]; have := bz ((sk.length : Int)) ⟨by omega, by omega⟩; omega
  replace hI : IsS53 w0 w11 g m11 := by rw [hu]; exact hI
  have HU11 := Lib.hid hu
  replace HK := Lib.hid (HK.out.trans hK)
  replace HX := Lib.hid hX
  replace HI := Lib.hid hI
  replace HB := Lib.hid hB
  clear hI hB hK hX hu
  have d12 := (blk_cell HX.out 12).trans (show _ = some (.slice A2 sk.length c2) from rfl)
  have hz := z11
  go_wp2_with fail
  clear d12
  go_loopg [78] (sk.length + 1) (fun gk v78 wr => ∃ i : Nat, i ≤ sk.length ∧ v78 = .int .i64 (i : Int) ∧ Aside0 (i + gk = sk.length + 1) ∧ Aside0 (IsS53 w0 wr g (m11 ++ encs encX (sk.take i)) ∧ Below w0.heap.size w0 wr ∧ KeepW w wr g ∧ wr.heap[w.heap.size]? = some (.cells #[.int .i64 k, .int .u32 bc, .int .u32 bn, .int .u64 sp, .int .u32 sl, .int .u64 ap, .int .u32 al, .string key, .string tt, .int .i64 lim, .int .u8 parts, .slice A1 ws.length c1, .slice A2 sk.length c2] 31 (0, 0))))
  case atStart => exact ⟨0, Nat.zero_le _, rfl, ⟨by omega⟩, ⟨by rw [List.take_zero, encs, ByteArray.append_empty]; exact HI.out, HB.out, HK.out, HX.out⟩⟩
  case round =>
  obtain ⟨i, hi, rfl, ⟨hg⟩, ⟨hI, hB, hK, hX⟩⟩ := hrel
  have HG := Lib.hid hg
  replace HI := Lib.hid hI
  replace HB := Lib.hid hB
  replace HK := Lib.hid hK
  replace HX := Lib.hid hX
  clear hg hI hB hK hX
  rcases (show i < sk.length ∨ i = sk.length by omega) with hlt | rfl
  · have hsz := encs_size encX 18 (sk.take i) (fun x hx => Hsk.out x (List.mem_of_mem_take hx))
    have hel := HskE.out (sk[i]) (List.getElem_mem hlt)
    obtain ⟨U, hU⟩ : ∃ U, U = m11 ++ encs encX (sk.take i) := ⟨_, rfl⟩
    have hUz : U.size ≤ 7869 := by
      rw [hU, ByteArray.size_append]
      have h1 : (sk.take i).length ≤ 16 := by rw [List.length_take]; omega
      have h2 : (sk.take i).length * 18 ≤ 16 * 18 := Nat.mul_le_mul_right _ h1
      omega
    rw [← hU] at HI
    have HU := Lib.hid hU
    obtain ⟨ad, rfl, k0, k1⟩ := at_T24 (Kd.C_below HCsk.out HB.out) (i : Int) (by omega) (by omega)
    rw [Int.toNat_natCast] at k0 k1
    have HE : Hid (rd_T24 sk (i : Int) = sk[i]) := Lib.hid (by
      unfold rd_T24
      rw [List.getD_eq_getElem?_getD, Int.toNat_natCast, List.getElem?_eq_getElem hlt]
      rfl)
    rw [← HE.out] at hel
    generalize rd_T24 sk (i : Int) = x at *
    obtain ⟨x0, x1⟩ := x
    dsimp only at *
    have HNX : Hid (wr.heap.size ≠ g) := Lib.hid (by have := HI.out.lt; omega)
    have HY := Lib.hid (heap_alloc_new wr (.cells #[.int .u32 x0, .int .u32 x1] 24))
    have HX2 := Lib.hid (((below_alloc (Below.refl wr.heap.size wr) (.cells #[.int .u32 x0, .int .u32 x1] 24)).block _ (lt_at HX.out)).trans HX.out)
    have HI2 := Lib.hid (HI.out.alloc (.cells #[.int .u32 x0, .int .u32 x1] 24))
    have HB2 := Lib.hid (below_alloc' HB.out (.cells #[.int .u32 x0, .int .u32 x1] 24))
    have HK2 := Lib.hid (HK.out.alloc (.cells #[.int .u32 x0, .int .u32 x1] 24))
    clear hU hsz HI HB HK HX
    go_wp2_with fail
    refine (wtxn w0 _ g U x0 x1 hel.1 hel.2 HI2.out HB2.out (by omega)).mono ?_
    rintro e y0 ⟨rfl, hI, hB, hK⟩
    have hX := (KeepW.block hK HI2.out w.heap.size HNE.out HX2.out (by decide)).trans HX2.out
    have hY := (KeepW.block hK HI2.out wr.heap.size HNX.out HY.out (by decide)).trans HY.out
    obtain ⟨v0, hu⟩ : ∃ u, u = U ++ (encB x0 ++ encB x1) := ⟨_, rfl⟩
    have q0 : v0.size ≤ U.size + 18 := by rw [hu, ByteArray.size_append]; have := bz x0 ⟨hel.1.1, by have := hel.1.2; omega⟩; have := bz x1 ⟨hel.2.1, by have := hel.2.2; omega⟩; rw [ByteArray.size_append]; omega
    replace hI : IsS53 w0 y0 g v0 := by rw [hu]; exact hI
    have HV0 := Lib.hid hu
    replace HK2 := Lib.hid (HK2.out.trans hK)
    replace HX2 := Lib.hid hX
    replace HY := Lib.hid hY
    replace HI2 := Lib.hid hI
    replace HB2 := Lib.hid hB
    clear hI hB hK hX hY hu
    have HW : Hid (m11 ++ encs encX (sk.take (i + 1)) = v0) := Lib.hid (by
      rw [encs_take encX sk i hlt, ← HE.out, HV0.out, HU.out]
      simp only [encX, ByteArray.append_assoc])
    go_wp2
    go_roundg (gk - 1)
    case measure => have := HG.out; omega
    case rel => exact ⟨i + 1, by omega, by go_num, ⟨by have := HG.out; omega⟩, ⟨by rw [HW.out]; exact HI2.out, HB2.out, HK2.out, HX2.out⟩⟩
  have hsz := encs_size encX 18 sk (fun x hx => Hsk.out x hx)
  rw [List.take_length] at HI
  obtain ⟨L12, hu⟩ : ∃ u, u = m11 ++ encs encX sk := ⟨_, rfl⟩
  have z12 : L12.size ≤ 7869 := by
    rw [hu, ByteArray.size_append]
    have h2 : sk.length * 18 ≤ 16 * 18 := Nat.mul_le_mul_right _ (by omega)
    omega
  rw [← hu] at HI
  have HU12 := Lib.hid hu
  clear hu hsz HG hz
  skip
  have HE : Hid (L12 = s ++ encAsk ⟨k, bc, bn, sp, sl, ap, al, key, tt, lim, parts, ws, sk⟩) := Lib.hid (by
    rw [HU12.out, HU11.out, HU10.out, HU9.out, HU8.out, HU7.out, HU6.out, HU5.out, HU4.out, HU3.out, HU2.out, HU1.out]
    simp only [encAsk, encRep, ByteArray.append_assoc])
  go_wp2
  go_end0
  exact ⟨rfl, by rw [← HE.out]; exact HI.out, HB.out, HK.out⟩
set_option maxRecDepth 100000 in
set_option maxHeartbeats 16000000 in
theorem wputReply (w0 w : World) (g : Nat) (s : ByteArray) (r : Rp) (A3 : Option Addr) (c3 : Nat) (hq : POk r) (ha : replyR r = true) (hC3 : Kd.C k68 w0 A3 r.ps.length r.ps) (hs : s.size ≤ 1000) (hI : IsS53 w0 w g s) (hB : Below w0.heap.size w0 w) :
    Calls Try.prog 15 #[.pointer (some ⟨g, 0, none⟩), .agg #[.int .i64 r.k, .int .i64 r.er, .bool r.fd, .string r.val, .slice A3 r.ps.length c3, .int .u32 r.wc, .int .u32 r.wn, .int .u64 r.sp, .int .u32 r.sl, .int .u64 r.ap, .int .u32 r.al, .string r.pr, .int .u64 r.np, .int .u32 r.nl]] w fun e w' => e = .returned (.tuple #[]) ∧ IsS53 w0 w' g (s ++ encRep r) ∧ Below w0.heap.size w0 w' ∧ KeepW w w' g := by
  have hps : r.ps.length ≤ 32 := by have h := ha; unfold replyR at h; simp only [Bool.and_eq_true, decide_eq_true_eq] at h; omega
  have hk1 : 0 ≤ r.k ∧ r.k ≤ 10 := by have h := ha; unfold replyR at h; simp only [Bool.and_eq_true, decide_eq_true_eq] at h; omega
  have hl1 : 0 ≤ r.er ∧ r.er ≤ 255 := by have h := ha; unfold replyR at h; simp only [Bool.and_eq_true, decide_eq_true_eq] at h; omega
  have hpv : r.pr.size ≤ 32 ∧ r.val.size ≤ 256 := by have h := ha; unfold replyR at h; simp only [Bool.and_eq_true, decide_eq_true_eq] at h; exact fits_le h.2.1.2
  have hall : ∀ x ∈ r.ps, x.f0.size ≤ 32 ∧ x.f1.size ≤ 256 := by
    have h := ha; unfold replyR at h; simp only [Bool.and_eq_true] at h
    intro x hx
    exact fits_le (List.all_eq_true.1 h.1 x hx)
  have HpsE : Hid (∀ x ∈ r.ps, x.f0.size ≤ 32 ∧ x.f1.size ≤ 256) := Lib.hid hall
  have Hps : Hid (∀ x ∈ r.ps, (encP x).size ≤ 400) := Lib.hid (fun x hx => by
    have h := hall x hx
    have h1 := tz x.f0 32 h.1 (by omega)
    have h2 := tz x.f1 256 h.2 (by omega)
    unfold encP
    rw [ByteArray.size_append]
    omega)
  have HCps := Lib.hid hC3
  obtain ⟨hqk, hqer, _, ⟨hb1, hb2⟩, ⟨hb3, hb4⟩, ⟨hb5, hb6⟩, ⟨hb7, hb8⟩, ⟨hb9, hb10⟩, ⟨hb11, hb12⟩, ⟨hb13, hb14⟩, ⟨hb15, hb16⟩⟩ := hq
  clear hall hC3 ha hqk hqer
  obtain ⟨hk1, hk2⟩ := hk1
  obtain ⟨hl1, hl2⟩ := hl1
  obtain ⟨hp1, hp2⟩ := hpv
  obtain ⟨k, er, fd, val, ps, wc, wn, sp, sl, ap, al, pr, np, nl⟩ := r
  dsimp only at *
  have HNE : Hid (w.heap.size ≠ g) := Lib.hid (by have := hI.lt; omega)
  have HX := Lib.hid (heap_alloc_new w (.cells #[.int .i64 k, .int .i64 er, .bool fd, .string val, .slice A3 ps.length c3, .int .u32 wc, .int .u32 wn, .int .u64 sp, .int .u32 sl, .int .u64 ap, .int .u32 al, .string pr, .int .u64 np, .int .u32 nl] 35))
  have HI := Lib.hid (hI.alloc (.cells #[.int .i64 k, .int .i64 er, .bool fd, .string val, .slice A3 ps.length c3, .int .u32 wc, .int .u32 wn, .int .u64 sp, .int .u32 sl, .int .u64 ap, .int .u32 al, .string pr, .int .u64 np, .int .u32 nl] 35))
  have HB := Lib.hid (below_alloc' hB (.cells #[.int .i64 k, .int .i64 er, .bool fd, .string val, .slice A3 ps.length c3, .int .u32 wc, .int .u32 wn, .int .u64 sp, .int .u32 sl, .int .u64 ap, .int .u32 al, .string pr, .int .u64 np, .int .u32 nl] 35))
  have HK := Lib.hid ((KeepW.refl w g).alloc (.cells #[.int .i64 k, .int .i64 er, .bool fd, .string val, .slice A3 ps.length c3, .int .u32 wc, .int .u32 wn, .int .u64 sp, .int .u32 sl, .int .u64 ap, .int .u32 al, .string pr, .int .u64 np, .int .u32 nl] 35))
  clear hI hB
  go_enter Try.func15, Try.ntmps15
  have hz := hs
  go_wp2_with fail
  refine (wnum w0 _ g s (k) (by omega) (by omega) HI.out HB.out (by omega)).mono ?_
  clear hz
  rintro e w1 ⟨rfl, hI, hB, hK⟩
  have hX := (KeepW.block hK HI.out w.heap.size HNE.out HX.out (by decide)).trans HX.out
  obtain ⟨m1, hu⟩ : ∃ u, u = s ++ encB (k) := ⟨_, rfl⟩
  have z1 : m1.size ≤ 1009 := by rw [hu, ByteArray.size_append]; have := bz (k) ⟨by omega, by omega⟩; omega
  replace hI : IsS53 w0 w1 g m1 := by rw [hu]; exact hI
  have HU1 := Lib.hid hu
  replace HK := Lib.hid (HK.out.trans hK)
  replace HX := Lib.hid hX
  replace HI := Lib.hid hI
  replace HB := Lib.hid hB
  clear hI hB hK hX hu
  have d1 := (blk_cell HX.out 1).trans (show _ = some (.int .i64 er) from rfl)
  have hz := z1
  go_wp2_with fail
  refine (wnum w0 _ g m1 (er) (by omega) (by omega) HI.out HB.out (by omega)).mono ?_
  clear d1
  clear hz
  rintro e w2 ⟨rfl, hI, hB, hK⟩
  have hX := (KeepW.block hK HI.out w.heap.size HNE.out HX.out (by decide)).trans HX.out
  obtain ⟨m2, hu⟩ : ∃ u, u = m1 ++ encB (er) := ⟨_, rfl⟩
  have z2 : m2.size ≤ 1018 := by rw [hu, ByteArray.size_append]; have := bz (er) ⟨by omega, by omega⟩; omega
  replace hI : IsS53 w0 w2 g m2 := by rw [hu]; exact hI
  have HU2 := Lib.hid hu
  replace HK := Lib.hid (HK.out.trans hK)
  replace HX := Lib.hid hX
  replace HI := Lib.hid hI
  replace HB := Lib.hid hB
  clear hI hB hK hX hu
  have d2 := (blk_cell HX.out 2).trans (show _ = some (.bool fd) from rfl)
  have hz := z2
  go_wp2_with fail
  refine (wflag w0 _ g m2 fd HI.out HB.out (by omega)).mono ?_
  clear d2
  clear hz
  rintro e w3 ⟨rfl, hI, hB, hK⟩
  have hX := (KeepW.block hK HI.out w.heap.size HNE.out HX.out (by decide)).trans HX.out
  obtain ⟨m3, hu⟩ : ∃ u, u = m2 ++ encF fd := ⟨_, rfl⟩
  have z3 : m3.size ≤ 1019 := by rw [hu, ByteArray.size_append]; have := encF_size fd; omega
  replace hI : IsS53 w0 w3 g m3 := by rw [hu]; exact hI
  have HU3 := Lib.hid hu
  replace HK := Lib.hid (HK.out.trans hK)
  replace HX := Lib.hid hX
  replace HI := Lib.hid hI
  replace HB := Lib.hid hB
  clear hI hB hK hX hu
  have d3 := (blk_cell HX.out 3).trans (show _ = some (.string val) from rfl)
  have hz := z3
  go_wp2_with fail
  refine (wtext w0 _ g m3 val HI.out HB.out (by omega)).mono ?_
  rw [ByteArray.append_assoc]
  clear d3
  clear hz
  rintro e w4 ⟨rfl, hI, hB, hK⟩
  have hX := (KeepW.block hK HI.out w.heap.size HNE.out HX.out (by decide)).trans HX.out
  obtain ⟨m4, hu⟩ : ∃ u, u = m3 ++ txE val := ⟨_, rfl⟩
  have z4 : m4.size ≤ 1284 := by rw [hu, ByteArray.size_append]; have := tz val 256 (by omega) (by omega); omega
  replace hI : IsS53 w0 w4 g m4 := by rw [hu]; exact hI
  have HU4 := Lib.hid hu
  replace HK := Lib.hid (HK.out.trans hK)
  replace HX := Lib.hid hX
  replace HI := Lib.hid hI
  replace HB := Lib.hid hB
  clear hI hB hK hX hu
  have d4 := (blk_cell HX.out 4).trans (show _ = some (.slice A3 ps.length c3) from rfl)
  have hz := z4
  go_wp2_with fail
  refine (wnum w0 _ g m4 ((ps.length : Int)) (by omega) (by omega) HI.out HB.out (by omega)).mono ?_
  clear d4
  clear hz
  rintro e w5 ⟨rfl, hI, hB, hK⟩
  have hX := (KeepW.block hK HI.out w.heap.size HNE.out HX.out (by decide)).trans HX.out
  obtain ⟨m5, hu⟩ : ∃ u, u = m4 ++ encB ((ps.length : Int)) := ⟨_, rfl⟩
  have z5 : m5.size ≤ 1293 := by rw [hu, ByteArray.size_append]; have := bz ((ps.length : Int)) ⟨by omega, by omega⟩; omega
  replace hI : IsS53 w0 w5 g m5 := by rw [hu]; exact hI
  have HU5 := Lib.hid hu
  replace HK := Lib.hid (HK.out.trans hK)
  replace HX := Lib.hid hX
  replace HI := Lib.hid hI
  replace HB := Lib.hid hB
  clear hI hB hK hX hu
  have d4 := (blk_cell HX.out 4).trans (show _ = some (.slice A3 ps.length c3) from rfl)
  have hz := z5
  go_wp2_with fail
  clear d4
  go_loopg [33] (ps.length + 1) (fun gk v33 wr => ∃ i : Nat, i ≤ ps.length ∧ v33 = .int .i64 (i : Int) ∧ Aside0 (i + gk = ps.length + 1) ∧ Aside0 (IsS53 w0 wr g (m5 ++ encs encP (ps.take i)) ∧ Below w0.heap.size w0 wr ∧ KeepW w wr g ∧ wr.heap[w.heap.size]? = some (.cells #[.int .i64 k, .int .i64 er, .bool fd, .string val, .slice A3 ps.length c3, .int .u32 wc, .int .u32 wn, .int .u64 sp, .int .u32 sl, .int .u64 ap, .int .u32 al, .string pr, .int .u64 np, .int .u32 nl] 35 (0, 0))))
  case atStart => exact ⟨0, Nat.zero_le _, rfl, ⟨by omega⟩, ⟨by rw [List.take_zero, encs, ByteArray.append_empty]; exact HI.out, HB.out, HK.out, HX.out⟩⟩
  case round =>
  obtain ⟨i, hi, rfl, ⟨hg⟩, ⟨hI, hB, hK, hX⟩⟩ := hrel
  have HG := Lib.hid hg
  replace HI := Lib.hid hI
  replace HB := Lib.hid hB
  replace HK := Lib.hid hK
  replace HX := Lib.hid hX
  clear hg hI hB hK hX
  rcases (show i < ps.length ∨ i = ps.length by omega) with hlt | rfl
  · have hsz := encs_size encP 400 (ps.take i) (fun x hx => Hps.out x (List.mem_of_mem_take hx))
    have hel := HpsE.out (ps[i]) (List.getElem_mem hlt)
    obtain ⟨U, hU⟩ : ∃ U, U = m5 ++ encs encP (ps.take i) := ⟨_, rfl⟩
    have hUz : U.size ≤ 14093 := by
      rw [hU, ByteArray.size_append]
      have h1 : (ps.take i).length ≤ 32 := by rw [List.length_take]; omega
      have h2 : (ps.take i).length * 400 ≤ 32 * 400 := Nat.mul_le_mul_right _ h1
      omega
    rw [← hU] at HI
    have HU := Lib.hid hU
    obtain ⟨ad, rfl, k0, k1⟩ := at_T68 (Kd.C_below HCps.out HB.out) (i : Int) (by omega) (by omega)
    rw [Int.toNat_natCast] at k0 k1
    have HE : Hid (rd_T68 ps (i : Int) = ps[i]) := Lib.hid (by
      unfold rd_T68
      rw [List.getD_eq_getElem?_getD, Int.toNat_natCast, List.getElem?_eq_getElem hlt]
      rfl)
    rw [← HE.out] at hel
    generalize rd_T68 ps (i : Int) = x at *
    obtain ⟨x0, x1⟩ := x
    dsimp only at *
    have HNX : Hid (wr.heap.size ≠ g) := Lib.hid (by have := HI.out.lt; omega)
    have HY := Lib.hid (heap_alloc_new wr (.cells #[.string x0, .string x1] 68))
    have HX2 := Lib.hid (((below_alloc (Below.refl wr.heap.size wr) (.cells #[.string x0, .string x1] 68)).block _ (lt_at HX.out)).trans HX.out)
    have HI2 := Lib.hid (HI.out.alloc (.cells #[.string x0, .string x1] 68))
    have HB2 := Lib.hid (below_alloc' HB.out (.cells #[.string x0, .string x1] 68))
    have HK2 := Lib.hid (HK.out.alloc (.cells #[.string x0, .string x1] 68))
    clear hU hsz HI HB HK HX
    go_wp2_with fail
    refine (wtext w0 _ g U x0 HI2.out HB2.out (by omega)).mono ?_
    rw [ByteArray.append_assoc]
    rintro e y0 ⟨rfl, hI, hB, hK⟩
    have hX := (KeepW.block hK HI2.out w.heap.size HNE.out HX2.out (by decide)).trans HX2.out
    have hY := (KeepW.block hK HI2.out wr.heap.size HNX.out HY.out (by decide)).trans HY.out
    obtain ⟨v0, hu⟩ : ∃ u, u = U ++ txE x0 := ⟨_, rfl⟩
    have q0 : v0.size ≤ U.size + 265 := by rw [hu, ByteArray.size_append]; have := tz x0 256 (by omega) (by omega); omega
    replace hI : IsS53 w0 y0 g v0 := by rw [hu]; exact hI
    have HV0 := Lib.hid hu
    replace HK2 := Lib.hid (HK2.out.trans hK)
    replace HX2 := Lib.hid hX
    replace HY := Lib.hid hY
    replace HI2 := Lib.hid hI
    replace HB2 := Lib.hid hB
    clear hI hB hK hX hY hu
    have e1 := (blk_cell HY.out 1).trans (show _ = some (.string x1) from rfl)
    go_wp2_with fail
    refine (wtext w0 _ g v0 x1 HI2.out HB2.out (by omega)).mono ?_
    rw [ByteArray.append_assoc]
    rintro e y1 ⟨rfl, hI, hB, hK⟩
    have hX := (KeepW.block hK HI2.out w.heap.size HNE.out HX2.out (by decide)).trans HX2.out
    have hY := (KeepW.block hK HI2.out wr.heap.size HNX.out HY.out (by decide)).trans HY.out
    obtain ⟨v1, hu⟩ : ∃ u, u = v0 ++ txE x1 := ⟨_, rfl⟩
    have q1 : v1.size ≤ v0.size + 265 := by rw [hu, ByteArray.size_append]; have := tz x1 256 (by omega) (by omega); omega
    replace hI : IsS53 w0 y1 g v1 := by rw [hu]; exact hI
    have HV1 := Lib.hid hu
    replace HK2 := Lib.hid (HK2.out.trans hK)
    replace HX2 := Lib.hid hX
    replace HY := Lib.hid hY
    replace HI2 := Lib.hid hI
    replace HB2 := Lib.hid hB
    clear hI hB hK hX hY hu
    clear e1
    have HW : Hid (m5 ++ encs encP (ps.take (i + 1)) = v1) := Lib.hid (by
      rw [encs_take encP ps i hlt, ← HE.out, HV1.out, HV0.out, HU.out]
      simp only [encP, ByteArray.append_assoc])
    go_wp2
    go_roundg (gk - 1)
    case measure => have := HG.out; omega
    case rel => exact ⟨i + 1, by omega, by go_num, ⟨by have := HG.out; omega⟩, ⟨by rw [HW.out]; exact HI2.out, HB2.out, HK2.out, HX2.out⟩⟩
  have hsz := encs_size encP 400 ps (fun x hx => Hps.out x hx)
  rw [List.take_length] at HI
  obtain ⟨L6, hu⟩ : ∃ u, u = m5 ++ encs encP ps := ⟨_, rfl⟩
  have z6 : L6.size ≤ 14093 := by
    rw [hu, ByteArray.size_append]
    have h2 : ps.length * 400 ≤ 32 * 400 := Nat.mul_le_mul_right _ (by omega)
    omega
  rw [← hu] at HI
  have HU6 := Lib.hid hu
  clear hu hsz HG hz
  skip
  have d5 := (blk_cell HX.out 5).trans (show _ = some (.int .u32 wc) from rfl)
  have d6 := (blk_cell HX.out 6).trans (show _ = some (.int .u32 wn) from rfl)
  have hz := z6
  go_wp2_with fail
  refine (wtxn w0 _ g L6 wc wn ⟨by omega, by omega⟩ ⟨by omega, by omega⟩ HI.out HB.out (by omega)).mono ?_
  clear d5
  clear d6
  clear hz
  rintro e w7 ⟨rfl, hI, hB, hK⟩
  have hX := (KeepW.block hK HI.out w.heap.size HNE.out HX.out (by decide)).trans HX.out
  obtain ⟨m7, hu⟩ : ∃ u, u = L6 ++ (encB wc ++ encB wn) := ⟨_, rfl⟩
  have z7 : m7.size ≤ 14111 := by rw [hu, ByteArray.size_append]; have := bz wc ⟨by omega, by omega⟩; have := bz wn ⟨by omega, by omega⟩; rw [ByteArray.size_append]; omega
  replace hI : IsS53 w0 w7 g m7 := by rw [hu]; exact hI
  have HU7 := Lib.hid hu
  replace HK := Lib.hid (HK.out.trans hK)
  replace HX := Lib.hid hX
  replace HI := Lib.hid hI
  replace HB := Lib.hid hB
  clear hI hB hK hX hu
  have d7 := (blk_cell HX.out 7).trans (show _ = some (.int .u64 sp) from rfl)
  have d8 := (blk_cell HX.out 8).trans (show _ = some (.int .u32 sl) from rfl)
  have hz := z7
  go_wp2_with fail
  refine (wstamp w0 _ g m7 sp sl ⟨by omega, by omega⟩ ⟨by omega, by omega⟩ HI.out HB.out (by omega)).mono ?_
  rw [ByteArray.append_assoc]
  clear d7
  clear d8
  clear hz
  rintro e w8 ⟨rfl, hI, hB, hK⟩
  have hX := (KeepW.block hK HI.out w.heap.size HNE.out HX.out (by decide)).trans HX.out
  obtain ⟨m8, hu⟩ : ∃ u, u = m7 ++ (encB sp ++ encB sl) := ⟨_, rfl⟩
  have z8 : m8.size ≤ 14129 := by rw [hu, ByteArray.size_append]; have := bz sp ⟨by omega, by omega⟩; have := bz sl ⟨by omega, by omega⟩; rw [ByteArray.size_append]; omega
  replace hI : IsS53 w0 w8 g m8 := by rw [hu]; exact hI
  have HU8 := Lib.hid hu
  replace HK := Lib.hid (HK.out.trans hK)
  replace HX := Lib.hid hX
  replace HI := Lib.hid hI
  replace HB := Lib.hid hB
  clear hI hB hK hX hu
  have d9 := (blk_cell HX.out 9).trans (show _ = some (.int .u64 ap) from rfl)
  have d10 := (blk_cell HX.out 10).trans (show _ = some (.int .u32 al) from rfl)
  have hz := z8
  go_wp2_with fail
  refine (wstamp w0 _ g m8 ap al ⟨by omega, by omega⟩ ⟨by omega, by omega⟩ HI.out HB.out (by omega)).mono ?_
  rw [ByteArray.append_assoc]
  clear d9
  clear d10
  clear hz
  rintro e w9 ⟨rfl, hI, hB, hK⟩
  have hX := (KeepW.block hK HI.out w.heap.size HNE.out HX.out (by decide)).trans HX.out
  obtain ⟨m9, hu⟩ : ∃ u, u = m8 ++ (encB ap ++ encB al) := ⟨_, rfl⟩
  have z9 : m9.size ≤ 14147 := by rw [hu, ByteArray.size_append]; have := bz ap ⟨by omega, by omega⟩; have := bz al ⟨by omega, by omega⟩; rw [ByteArray.size_append]; omega
  replace hI : IsS53 w0 w9 g m9 := by rw [hu]; exact hI
  have HU9 := Lib.hid hu
  replace HK := Lib.hid (HK.out.trans hK)
  replace HX := Lib.hid hX
  replace HI := Lib.hid hI
  replace HB := Lib.hid hB
  clear hI hB hK hX hu
  have d11 := (blk_cell HX.out 11).trans (show _ = some (.string pr) from rfl)
  have hz := z9
  go_wp2_with fail
  refine (wtext w0 _ g m9 pr HI.out HB.out (by omega)).mono ?_
  rw [ByteArray.append_assoc]
  clear d11
  clear hz
  rintro e w10 ⟨rfl, hI, hB, hK⟩
  have hX := (KeepW.block hK HI.out w.heap.size HNE.out HX.out (by decide)).trans HX.out
  obtain ⟨m10, hu⟩ : ∃ u, u = m9 ++ txE pr := ⟨_, rfl⟩
  have z10 : m10.size ≤ 14188 := by rw [hu, ByteArray.size_append]; have := tz pr 32 (by omega) (by omega); omega
  replace hI : IsS53 w0 w10 g m10 := by rw [hu]; exact hI
  have HU10 := Lib.hid hu
  replace HK := Lib.hid (HK.out.trans hK)
  replace HX := Lib.hid hX
  replace HI := Lib.hid hI
  replace HB := Lib.hid hB
  clear hI hB hK hX hu
  have d12 := (blk_cell HX.out 12).trans (show _ = some (.int .u64 np) from rfl)
  have d13 := (blk_cell HX.out 13).trans (show _ = some (.int .u32 nl) from rfl)
  have hz := z10
  go_wp2_with fail
  refine (wstamp w0 _ g m10 np nl ⟨by omega, by omega⟩ ⟨by omega, by omega⟩ HI.out HB.out (by omega)).mono ?_
  rw [ByteArray.append_assoc]
  clear d12
  clear d13
  clear hz
  rintro e w11 ⟨rfl, hI, hB, hK⟩
  have hX := (KeepW.block hK HI.out w.heap.size HNE.out HX.out (by decide)).trans HX.out
  obtain ⟨m11, hu⟩ : ∃ u, u = m10 ++ (encB np ++ encB nl) := ⟨_, rfl⟩
  have z11 : m11.size ≤ 14206 := by rw [hu, ByteArray.size_append]; have := bz np ⟨by omega, by omega⟩; have := bz nl ⟨by omega, by omega⟩; rw [ByteArray.size_append]; omega
  replace hI : IsS53 w0 w11 g m11 := by rw [hu]; exact hI
  have HU11 := Lib.hid hu
  replace HK := Lib.hid (HK.out.trans hK)
  replace HX := Lib.hid hX
  replace HI := Lib.hid hI
  replace HB := Lib.hid hB
  clear hI hB hK hX hu
  have HE : Hid (m11 = s ++ encRep ⟨k, er, fd, val, ps, wc, wn, sp, sl, ap, al, pr, np, nl⟩) := Lib.hid (by
    rw [HU11.out, HU10.out, HU9.out, HU8.out, HU7.out, HU6.out, HU5.out, HU4.out, HU3.out, HU2.out, HU1.out]
    simp only [encAsk, encRep, ByteArray.append_assoc])
  go_wp2
  go_end0
  exact ⟨rfl, by rw [← HE.out]; exact HI.out, HB.out, HK.out⟩
end Go.Proofs.Ytjfokbkfniilhaa
