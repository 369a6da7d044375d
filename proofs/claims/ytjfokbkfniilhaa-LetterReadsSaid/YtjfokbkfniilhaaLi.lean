/- letter.Read: what it reads. Conditions: those that each theorem names. -/
import Derived.Test.YtjfokbkfniilhaaLh
import Derived.Deep.MidRow
import Derived.Laws.Rows
set_option linter.unusedVariables false
set_option linter.unusedSimpArgs false
namespace Go.Proofs.Ytjfokbkfniilhaa
open Go.RowKit Go.Proofs.YtjfokbkfniilhaaW.PrintWords Go.Proofs.Ytjfokbkfniilhaa.PLa Go.Proofs.Ytjfokbkfniilhaa.PRd

def zRq : Rq := ⟨0, 0, 0, 0, 0, 0, 0, ⟨#[]⟩, ⟨#[]⟩, 0, 0, [], []⟩
def zRp : Rp := ⟨0, 0, false, ⟨#[]⟩, [], 0, 0, 0, 0, 0, 0, ⟨#[]⟩, 0, 0⟩
def zLt : Lt := ⟨0, 0, 0, false, zRq, zRp⟩
/-- The parts of a letter, as they are read. -/
def rdParts (s : ByteArray) : Lt × ByteArray × Int :=
  let a := rdNum s 0 3
  let b := rdNum a.2.1 a.2.2 7
  let c := rdNum b.2.1 b.2.2 4294967295
  let d := rdFlag c.2.1 c.2.2
  if d.1 = true then
    let r := rdRep d.2.1 d.2.2
    (⟨a.1, b.1, c.1, d.1, zRq, r.1⟩, r.2.1, r.2.2)
  else
    let q := rdAsk d.2.1 d.2.2
    (⟨a.1, b.1, c.1, d.1, q.1, zRp⟩, q.2.1, q.2.2)
def readR (s : ByteArray) : Lt × Int := if rdEnd (rdParts s).2.1 (rdParts s).2.2 = 0 then (if rightR (rdParts s).1 = true then ((rdParts s).1, 0) else (zLt, 2)) else (zLt, 2)

/-! Whole rows are stored and loaded; the world is named only by what it holds. -/
theorem blk_keep {w w1 : World} {i g : Nat} {o : Obj} (h : w.heap[i]? = some o) (hk : KeepBut w w1 g none) (hne : i ≠ g) : w1.heap[i]? = some o := (hk.2 i (lt_at h) hne (by simp)).trans h
theorem R_thru {α : Type} {k : Kd α} {e base : Nat} {v : Value} {xs : List α} {w w1 : World} {g t : Nat} {cells : Array Value} (h : Kd.R k e w base (fun _ => True) v xs) (hb : w.heap[g]? = some (.cells cells t (0, 0))) (ht : ∀ q, q ∈ e :: k.E → q ≠ t) (hk : KeepBut w w1 g none) : Kd.R k e w1 base (fun _ => True) v xs :=
  Kd.R_mono (Kd.R_keep (Kd.R_types h hb ht) hk fun _ hx => hx.2) fun _ _ => trivial
theorem s_keep {w0 w w1 : World} {r g : Nat} {s : ByteArray} {er : Int} (h : IsS92 w0 w r s er) (hk : KeepBut w w1 g none) (hne : r ≠ g) : IsS92 w0 w1 r s er := ⟨blk_keep h.1 hk hne, h.2⟩
theorem bel_keep {w0 w w1 : World} {g : Nat} (h : Below w0.heap.size w0 w) (hs : w1.heap.size = w.heap.size) (hk : ∀ k, k ≠ g → w1.heap[k]? = w.heap[k]?) (hg : w0.heap.size ≤ g) (hos : w1.os = w.os) (hout : True) : True := trivial
def putAll (cur : Array Value) : Nat → List Value → Array Value
  | _, [] => cur
  | o, v :: r => putAll (cur.setIfInBounds o v) (o + 1) r
theorem heap_setCells (b : Nat) (t : TypeId) : ∀ (vs : List Value) (o : Nat) (cur : Array Value) (w : World), w.heap[b]? = some (.cells cur t (0, 0)) → (w.setCells b o vs).heap[b]? = some (.cells (putAll cur o vs) t (0, 0)) := by
  intro vs
  induction vs with
  | nil => intro o cur w h; exact h
  | cons v vs ih =>
    intro o cur w h
    refine ih (o + 1) (cur.setIfInBounds o v) _ ?_
    simp only [World.setCell, Array.getElem?_modify, h]
    simp
theorem below_setCells {base : Nat} {w0 : World} (b : Nat) (hb : base ≤ b) : ∀ (vs : List Value) (o : Nat) (w : World), Below base w0 w → Below base w0 (w.setCells b o vs) := by
  intro vs
  induction vs with
  | nil => intro o w h; exact h
  | cons v vs ih => intro o w h; exact ih (o + 1) _ (h.setCell hb _)
theorem keep_setCells (b : Nat) : ∀ (vs : List Value) (o : Nat) (w0 w : World), KeepBut w0 w b none → KeepBut w0 (w.setCells b o vs) b none := by
  intro vs
  induction vs with
  | nil => intro o w0 w h; exact h
  | cons v vs ih => intro o w0 w h; exact ih (o + 1) w0 _ (h.set_ o v)
/-- Some cells of a row, written over. -/
def spl (cur : List Value) (o : Nat) (vs : List Value) : List Value := cur.take o ++ (vs ++ cur.drop (o + vs.length))
theorem take_at {α : Type} (A B : List α) (v : α) (o : Nat) (h : A.length = o) : (A ++ v :: B).take (o + 1) = A ++ [v] := by
  subst h
  rw [List.take_append, List.take_of_length_le (by omega), show A.length + 1 - A.length = 1 by omega]
  simp
theorem drop_at {α : Type} (A B : List α) (v : α) (o n : Nat) (h : A.length = o) : (A ++ v :: B).drop (o + 1 + n) = B.drop n := by
  subst h
  rw [List.drop_append, List.drop_of_length_le (by omega), show A.length + 1 + n - A.length = n + 1 by omega]
  simp
theorem putAll_spl (vs : List Value) : ∀ (o : Nat) (cur : Array Value), o + vs.length ≤ cur.size → putAll cur o vs = (spl cur.toList o vs).toArray := by
  induction vs with
  | nil => intro o cur h; simp [putAll, spl]
  | cons v vs ih =>
    intro o cur h
    have hl : o < cur.toList.length := by rw [List.length_cons] at h; simp; omega
    have hs : (cur.setIfInBounds o v).toList = cur.toList.take o ++ v :: cur.toList.drop (o + 1) := by
      rw [Array.toList_setIfInBounds, List.set_eq_take_append_cons_drop, if_pos hl]
    rw [putAll, ih (o + 1) _ (by rw [Array.size_setIfInBounds]; rw [List.length_cons] at h; omega)]
    unfold spl
    rw [hs, take_at _ _ v o (by rw [List.length_take]; omega), drop_at _ _ v o vs.length (by rw [List.length_take]; omega), List.drop_drop, List.append_assoc, List.length_cons, show o + (vs.length + 1) = o + 1 + vs.length by omega]
    rfl
section
variable {P : Program} {ops : Array Oper} {rest : List Oper} {o : Oper} {a : Act} {Q : Exit → Act → World → Prop}
theorem store_mid_ev {w0 w : World} (hgd : o.guard = none) (ty : TypeId) (x y : Operand) (ho : o.op = .store ty x y) (hd : o.dst = none)
    (b off : Nat) (cells : Array Value) (hx : a.eval x = .pointer (some ⟨b, off, none⟩)) (hy : a.eval y = .agg cells)
    (t : TypeId) (old new : Array Value) (hg : w.heap[b]? = some (.cells old t (0, 0))) (hi : (P.info? ty).map (·.size) = some cells.size) (hsz : off + cells.size ≤ old.size) (h1 : cells.all (·.oneCell') = true)
    (hnew : (spl old.toList off cells.toList).toArray = new) (hB : Below w0.heap.size w0 w) (hb : w0.heap.size ≤ b)
    (h : ∀ w1, w1.heap[b]? = some (.cells new t (0, 0)) → KeepBut w w1 b none → Below w0.heap.size w0 w1 → wpList P ops Q rest a w1) : wpList P ops Q (o :: rest) a w := by
  refine wpList_store_mid hgd ty x y ho b off cells hx hy (fun j hj => ⟨?_, blk_frozen hg _⟩) hi h1 ?_
  · rw [cell_of_row w b (off + j) old t (0, 0) hg, Array.getElem?_eq_getElem (by omega)]
    rfl
  · rw [hd]
    exact h _ (by rw [← hnew, ← putAll_spl _ _ _ (by simpa using hsz)]; exact heap_setCells b t _ _ _ _ hg) (keep_setCells b _ _ _ _ (KeepBut.refl w b none)) (below_setCells b hb _ _ _ hB)
end
/-- A letter as a value. -/
def LtV (l : Lt) (A1 : Option Addr) (c1 : Nat) (A2 : Option Addr) (c2 : Nat) (A3 : Option Addr) (c3 : Nat) : Value := .agg #[.int .u32 l.cl, .int .u32 l.sh, .int .u32 l.sq, .bool l.an, .int .i64 l.q.k, .int .u32 l.q.bc, .int .u32 l.q.bn, .int .u64 l.q.sp, .int .u32 l.q.sl, .int .u64 l.q.ap, .int .u32 l.q.al, .string l.q.key, .string l.q.tt, .int .i64 l.q.lim, .int .u8 l.q.parts, .slice A1 l.q.ws.length c1, .slice A2 l.q.sk.length c2, .int .i64 l.r.k, .int .i64 l.r.er, .bool l.r.fd, .string l.r.val, .slice A3 l.r.ps.length c3, .int .u32 l.r.wc, .int .u32 l.r.wn, .int .u64 l.r.sp, .int .u32 l.r.sl, .int .u64 l.r.ap, .int .u32 l.r.al, .string l.r.pr, .int .u64 l.r.np, .int .u32 l.r.nl]
/-- Where a letter's lists lie. -/
structure LtIn (w : World) (l : Lt) (A1 : Option Addr) (c1 : Nat) (A2 : Option Addr) (c2 : Nat) (A3 : Option Addr) (c3 : Nat) : Prop where
  h1 : Kd.C k66 w A1 l.q.ws.length l.q.ws
  z1 : l.q.ws.length ≤ c1
  h2 : Kd.C k24 w A2 l.q.sk.length l.q.sk
  z2 : l.q.sk.length ≤ c2
  h3 : Kd.C k68 w A3 l.r.ps.length l.r.ps
  z3 : l.r.ps.length ≤ c3
theorem LtIn.below {w w1 : World} {l : Lt} {A1 A2 A3 : Option Addr} {c1 c2 c3 : Nat} (h : LtIn w l A1 c1 A2 c2 A3 c3) (hb : Below w.heap.size w w1) : LtIn w1 l A1 c1 A2 c2 A3 c3 :=
  ⟨Kd.C_below h.h1 hb, h.z1, Kd.C_below h.h2 hb, h.z2, Kd.C_below h.h3 hb, h.z3⟩
def ReadP (s : ByteArray) (w : World) (e : Ending) (w' : World) : Prop := ∃ A1 c1 A2 c2 A3 c3, e = .returned (.tuple #[LtV (readR s).1 A1 c1 A2 c2 A3 c3, .int .i64 (readR s).2]) ∧ LtIn w' (readR s).1 A1 c1 A2 c2 A3 c3 ∧ Below w.heap.size w w'
theorem numOk (s : ByteArray) (er m : Int) (h : 0 ≤ m) (h2 : m ≤ 4294967295) : U32 (rdNum s er m).1 := by
  have := rdNum_facts s er m h
  exact ⟨this.1, by omega⟩
theorem stampOk (s : ByteArray) (er : Int) : U64 (rdStamp s er).1 ∧ U32 (rdStamp s er).2.1 := by
  have h1 := rdNum_facts s er 281474976710656 (by decide)
  have h2 := rdNum_facts (rdNum s er 281474976710656).2.1 (rdNum s er 281474976710656).2.2 4095 (by decide)
  unfold rdStamp
  dsimp only
  split
  · exact ⟨⟨h1.1, by dsimp only; omega⟩, ⟨h2.1, by dsimp only; omega⟩⟩
  · exact ⟨⟨Int.le_refl _, by dsimp only; decide⟩, ⟨Int.le_refl _, by dsimp only; decide⟩⟩
theorem lst_all {α : Type} (one : ByteArray → Int → α × ByteArray × Int) (p : α → Prop) (h : ∀ s er, p (one s er).1) (n : Nat) : ∀ s er, ∀ x ∈ (lstR one n s er).1, p x := by
  induction n with
  | zero => intro s er x hx; cases hx
  | succ n ih =>
    intro s er x hx
    rcases List.mem_cons.1 hx with rfl | hx
    · exact h _ _
    · exact ih _ _ x hx
theorem askOk (s : ByteArray) (er : Int) : QOk (rdAsk s er).1 := by
  have hn : ∀ s er m, 0 ≤ m → m ≤ 100000 → I64 (rdNum s er m).1 := fun s er m h h2 => by
    have := rdNum_facts s er m h
    exact ⟨by omega, by omega⟩
  have hc : ∀ s er, (rdCount s er 16).1.toNat ≤ 9223372036854775807 := fun s er => by
    have := count_le s er 16 (by decide)
    omega
  refine ⟨hn _ _ _ (by decide) (by decide), numOk _ _ _ (by decide) (by decide), numOk _ _ _ (by decide) (by decide), (stampOk _ _).1, (stampOk _ _).2, (stampOk _ _).1, (stampOk _ _).2, hn _ _ _ (by decide) (by decide), ?_, ?_, ?_, ?_⟩
  · exact ⟨(rdNum_facts _ _ 255 (by decide)).1, (rdNum_facts _ _ 255 (by decide)).2.1⟩
  · exact Nat.le_trans (Nat.le_of_eq (lst_len _ _ _ _)) (hc _ _)
  · exact Nat.le_trans (Nat.le_of_eq (lst_len _ _ _ _)) (hc _ _)
  · exact lst_all rdX (fun x => U32 x.f0 ∧ U32 x.f1) (fun s er => ⟨numOk _ _ _ (by decide) (by decide), numOk _ _ _ (by decide) (by decide)⟩) _ _ _
theorem repOk (s : ByteArray) (er : Int) : POk (rdRep s er).1 := by
  have hn : ∀ s er m, 0 ≤ m → m ≤ 100000 → I64 (rdNum s er m).1 := fun s er m h h2 => by
    have := rdNum_facts s er m h
    exact ⟨by omega, by omega⟩
  have hc : ∀ s er, (rdCount s er 32).1.toNat ≤ 9223372036854775807 := fun s er => by
    have := count_le s er 32 (by decide)
    omega
  refine ⟨hn _ _ _ (by decide) (by decide), hn _ _ _ (by decide) (by decide), Nat.le_trans (Nat.le_of_eq (lst_len _ _ _ _)) (hc _ _), numOk _ _ _ (by decide) (by decide), numOk _ _ _ (by decide) (by decide), (stampOk _ _).1, (stampOk _ _).2, (stampOk _ _).1, (stampOk _ _).2, (stampOk _ _).1, (stampOk _ _).2⟩
theorem zqOk : QOk zRq := by constructor <;> first | exact ⟨by decide, by decide⟩ | decide | (intro x hx; cases hx)
theorem zpOk : POk zRp := by constructor <;> first | exact ⟨by decide, by decide⟩ | decide
set_option maxRecDepth 100000 in
set_option maxHeartbeats 16000000 in
theorem read_calls (s : ByteArray) (hs : s.size ≤ 9223372036854775807) (w : World) : Calls Try.prog 10 #[.string s] w (ReadP s w) := by
  have HX20 := Lib.hid (heap_alloc_new w (.cells #[.int .u32 0, .int .u32 0, .int .u32 0, .bool false, .int .i64 0, .int .u32 0, .int .u32 0, .int .u64 0, .int .u32 0, .int .u64 0, .int .u32 0, .string ⟨#[]⟩, .string ⟨#[]⟩, .int .i64 0, .int .u8 0, .slice none 0 0, .slice none 0 0, .int .i64 0, .int .i64 0, .bool false, .string ⟨#[]⟩, .slice none 0 0, .int .u32 0, .int .u32 0, .int .u64 0, .int .u32 0, .int .u64 0, .int .u32 0, .string ⟨#[]⟩, .int .u64 0, .int .u32 0] 37))
  have HB0 := Lib.hid (below_alloc' (Below.refl _ w) (.cells #[.int .u32 0, .int .u32 0, .int .u32 0, .bool false, .int .i64 0, .int .u32 0, .int .u32 0, .int .u64 0, .int .u32 0, .int .u64 0, .int .u32 0, .string ⟨#[]⟩, .string ⟨#[]⟩, .int .i64 0, .int .u8 0, .slice none 0 0, .slice none 0 0, .int .i64 0, .int .i64 0, .bool false, .string ⟨#[]⟩, .slice none 0 0, .int .u32 0, .int .u32 0, .int .u64 0, .int .u32 0, .int .u64 0, .int .u32 0, .string ⟨#[]⟩, .int .u64 0, .int .u32 0] 37))
  go_enter Try.func10, Try.ntmps10
  go_wp2_with fail
  refine (rnew s HB0.out).mono ?_
  rintro e w1 ⟨g, rfl, hI, hB, hb1, hge⟩
  have HX21 := Lib.hid ((hb1.block _ (lt_at HX20.out)).trans HX20.out)
  have HN2 : Hid (w.heap.size ≠ g) := Lib.hid (by have := lt_at HX20.out; omega)
  have HI1 := Lib.hid hI
  have HB1 := Lib.hid hB
  clear hI hB hb1 hge HX20 HB0
  go_wp2_with fail
  refine (rnumber w _ g s 0 3 (by decide) (by decide) HI1.out HB1.out).mono ?_
  rintro e w2 ⟨rfl, hI, hB, hK⟩
  have HX22 := Lib.hid (blk_keep HX21.out hK HN2.out)
  have hf := rdNum_facts s 0 3 (by decide)
  have hoka := numOk s 0 3 (by decide) (by decide)
  obtain ⟨a, ha⟩ : ∃ a, a = rdNum s 0 3 := ⟨_, rfl⟩
  rw [← ha] at hI hf hoka ⊢
  have HA := Lib.hid ha
  have hw1 : a.1 % 4294967296 = a.1 := Int.emod_eq_of_lt hf.1 (by omega)
  have HI2 := Lib.hid hI
  have HB2 := Lib.hid hB
  have haz := hf.2.2
  clear hI hB hK ha HI1 HB1 HX21 hf
  go_wp2_with fail
  refine (rnumber w _ g _ _ 7 (by decide) (by decide) HI2.out HB2.out).mono ?_
  rintro e w3 ⟨rfl, hI, hB, hK⟩
  have HX23 := Lib.hid (blk_keep HX22.out hK HN2.out)
  have hf := rdNum_facts a.2.1 a.2.2 7 (by decide)
  have hokb := numOk a.2.1 a.2.2 7 (by decide) (by decide)
  obtain ⟨b, hb⟩ : ∃ b, b = rdNum a.2.1 a.2.2 7 := ⟨_, rfl⟩
  rw [← hb] at hI hf hokb ⊢
  have HBB := Lib.hid hb
  have hw2 : b.1 % 4294967296 = b.1 := Int.emod_eq_of_lt hf.1 (by omega)
  have HI3 := Lib.hid hI
  have HB3 := Lib.hid hB
  have hbz := hf.2.2
  clear hI hB hK hb HI2 HB2 HX22 hf
  go_wp2_with fail
  refine (rnumber w _ g _ _ 4294967295 (by decide) (by decide) HI3.out HB3.out).mono ?_
  rintro e w4 ⟨rfl, hI, hB, hK⟩
  have HX24 := Lib.hid (blk_keep HX23.out hK HN2.out)
  have hf := rdNum_facts b.2.1 b.2.2 4294967295 (by decide)
  have hokc := numOk b.2.1 b.2.2 4294967295 (by decide) (by decide)
  obtain ⟨c, hc⟩ : ∃ c, c = rdNum b.2.1 b.2.2 4294967295 := ⟨_, rfl⟩
  rw [← hc] at hI hf hokc ⊢
  have HC := Lib.hid hc
  have hw3 : c.1 % 4294967296 = c.1 := Int.emod_eq_of_lt hf.1 (by omega)
  have HI4 := Lib.hid hI
  have HB4 := Lib.hid hB
  have hcz := hf.2.2
  clear hI hB hK hc HI3 HB3 HX23 hf
  go_wp2_with fail
  refine (rflag HI4.out HB4.out).mono ?_
  rintro e wf ⟨rfl, hI, hB, hK⟩
  have HX2f := Lib.hid (blk_keep HX24.out hK HN2.out)
  have hdz := flag_sz c.2.1 c.2.2
  obtain ⟨d, hd⟩ : ∃ d, d = rdFlag c.2.1 c.2.2 := ⟨_, rfl⟩
  rw [← hd] at hI hdz ⊢
  have HD := Lib.hid hd
  have HI4' := Lib.hid hI
  have HB4' := Lib.hid hB
  clear hI hB hK hd HI4 HB4 HX24
  have hdz2 : d.2.1.size ≤ 9223372036854775807 := by omega
  clear haz hbz hcz hdz hs
  have HX50 : Hid ((wf.alloc (.cells #[.int .u32 0, .int .u32 0, .int .u32 0, .bool false, .int .i64 0, .int .u32 0, .int .u32 0, .int .u64 0, .int .u32 0, .int .u64 0, .int .u32 0, .string ⟨#[]⟩, .string ⟨#[]⟩, .int .i64 0, .int .u8 0, .slice none 0 0, .slice none 0 0, .int .i64 0, .int .i64 0, .bool false, .string ⟨#[]⟩, .slice none 0 0, .int .u32 0, .int .u32 0, .int .u64 0, .int .u32 0, .int .u64 0, .int .u32 0, .string ⟨#[]⟩, .int .u64 0, .int .u32 0] 37)).heap[wf.heap.size]? = some (.cells #[.int .u32 0, .int .u32 0, .int .u32 0, .bool false, .int .i64 0, .int .u32 0, .int .u32 0, .int .u64 0, .int .u32 0, .int .u64 0, .int .u32 0, .string ⟨#[]⟩, .string ⟨#[]⟩, .int .i64 0, .int .u8 0, .slice none 0 0, .slice none 0 0, .int .i64 0, .int .i64 0, .bool false, .string ⟨#[]⟩, .slice none 0 0, .int .u32 0, .int .u32 0, .int .u64 0, .int .u32 0, .int .u64 0, .int .u32 0, .string ⟨#[]⟩, .int .u64 0, .int .u32 0] 37 (0, 0))) := Lib.hid (heap_alloc_new wf _)
  have HX2g := Lib.hid (((below_alloc (Below.refl wf.heap.size wf) (.cells #[.int .u32 0, .int .u32 0, .int .u32 0, .bool false, .int .i64 0, .int .u32 0, .int .u32 0, .int .u64 0, .int .u32 0, .int .u64 0, .int .u32 0, .string ⟨#[]⟩, .string ⟨#[]⟩, .int .i64 0, .int .u8 0, .slice none 0 0, .slice none 0 0, .int .i64 0, .int .i64 0, .bool false, .string ⟨#[]⟩, .slice none 0 0, .int .u32 0, .int .u32 0, .int .u64 0, .int .u32 0, .int .u64 0, .int .u32 0, .string ⟨#[]⟩, .int .u64 0, .int .u32 0] 37)).block _ (lt_at HX2f.out)).trans HX2f.out)
  have HIg := Lib.hid (HI4'.out.alloc (.cells #[.int .u32 0, .int .u32 0, .int .u32 0, .bool false, .int .i64 0, .int .u32 0, .int .u32 0, .int .u64 0, .int .u32 0, .int .u64 0, .int .u32 0, .string ⟨#[]⟩, .string ⟨#[]⟩, .int .i64 0, .int .u8 0, .slice none 0 0, .slice none 0 0, .int .i64 0, .int .i64 0, .bool false, .string ⟨#[]⟩, .slice none 0 0, .int .u32 0, .int .u32 0, .int .u64 0, .int .u32 0, .int .u64 0, .int .u32 0, .string ⟨#[]⟩, .int .u64 0, .int .u32 0] 37))
  have HBg := Lib.hid (below_alloc' HB4'.out (.cells #[.int .u32 0, .int .u32 0, .int .u32 0, .bool false, .int .i64 0, .int .u32 0, .int .u32 0, .int .u64 0, .int .u32 0, .int .u64 0, .int .u32 0, .string ⟨#[]⟩, .string ⟨#[]⟩, .int .i64 0, .int .u8 0, .slice none 0 0, .slice none 0 0, .int .i64 0, .int .i64 0, .bool false, .string ⟨#[]⟩, .slice none 0 0, .int .u32 0, .int .u32 0, .int .u64 0, .int .u32 0, .int .u64 0, .int .u32 0, .string ⟨#[]⟩, .int .u64 0, .int .u32 0] 37))
  have HG5 : Hid (w.heap.size ≤ wf.heap.size) := Lib.hid (by have := lt_at HX2f.out; omega)
  have HN25 : Hid (w.heap.size ≠ wf.heap.size) := Lib.hid (by have := lt_at HX2f.out; omega)
  have HNg5 : Hid (g ≠ wf.heap.size) := Lib.hid (by have := lt_at HI4'.out.1; omega)
  have HN5 : Hid (wf.heap.size ≠ g) := Lib.hid (fun e => HNg5.out e.symm)
  cases hd1 : d.1 with
  | true =>
    as_aux_lemma =>
      go_wp2_with ((with_reducible refine gate_store (t := 37) (p := 5) (v := .tmp 19) rfl ?_); refine store_mid_ev (w0 := w) rfl 37 (.tmp 5) (.tmp 19) rfl rfl wf.heap.size 0 #[.int .u32 a.1, .int .u32 b.1, .int .u32 c.1, .bool true, .int .i64 0, .int .u32 0, .int .u32 0, .int .u64 0, .int .u32 0, .int .u64 0, .int .u32 0, .string ⟨#[]⟩, .string ⟨#[]⟩, .int .i64 0, .int .u8 0, .slice none 0 0, .slice none 0 0, .int .i64 0, .int .i64 0, .bool false, .string ⟨#[]⟩, .slice none 0 0, .int .u32 0, .int .u32 0, .int .u64 0, .int .u32 0, .int .u64 0, .int .u32 0, .string ⟨#[]⟩, .int .u64 0, .int .u32 0] rfl rfl 37 _ #[.int .u32 a.1, .int .u32 b.1, .int .u32 c.1, .bool true, .int .i64 0, .int .u32 0, .int .u32 0, .int .u64 0, .int .u32 0, .int .u64 0, .int .u32 0, .string ⟨#[]⟩, .string ⟨#[]⟩, .int .i64 0, .int .u8 0, .slice none 0 0, .slice none 0 0, .int .i64 0, .int .i64 0, .bool false, .string ⟨#[]⟩, .slice none 0 0, .int .u32 0, .int .u32 0, .int .u64 0, .int .u32 0, .int .u64 0, .int .u32 0, .string ⟨#[]⟩, .int .u64 0, .int .u32 0] HX50.out (by kernel_rfl) (by show 0 + 31 ≤ 31; decide) (by kernel_rfl) (by kernel_rfl) HBg.out HG5.out ?_; intro w5 hX hK5 hB5; have HX55 := Lib.hid hX; have HK5 := Lib.hid hK5; have HB5 := Lib.hid hB5; clear hX hK5 hB5; have x3 := (blk_cell HX55.out 3).trans (show _ = some (.bool true) from rfl))
      have HX25 := Lib.hid (blk_keep HX2g.out HK5.out HN25.out)
      have HI5 := Lib.hid (s_keep HIg.out HK5.out HNg5.out)
      clear HK5 HX50 HX2g HIg HBg HX2f HI4' HB4' x3
      generalize wf.heap.size = b5 at *
      obtain ⟨r, hr⟩ : ∃ r, r = rdRep d.2.1 d.2.2 := ⟨_, rfl⟩
      have hrf := rep_f d.2.1 d.2.2 (by omega)
      rw [← hr] at hrf
      have HRR := Lib.hid hr
      have HOKx := Lib.hid (repOk d.2.1 d.2.2)
      rw [← hr] at HOKx
      clear hr
      refine (letter_readReply.calls 100 g d.2.1 d.2.2 _ _ _ _ _ _ _ _ _ _ _ _ _ _ _ _ w w5 HI5.out HB5.out hrf).mono ?_
      clear hrf
      rintro e w6 ⟨v3, rfl, hR3, hI, hB, hK⟩
      obtain ⟨A3, c3, rfl, hz3, _⟩ := Kd.R_reads hR3
      have HOK : Hid (LOk ⟨a.1, b.1, c.1, true, zRq, r.1⟩) := Lib.hid ⟨hoka, hokb, hokc, zqOk, HOKx.out⟩
      have HX26 := Lib.hid (blk_keep HX25.out hK HN2.out)
      have HX56 := Lib.hid (blk_keep HX55.out hK HN5.out)
      have HR36 := Lib.hid hR3
      have HI6 := Lib.hid hI
      have HB6 := Lib.hid hB
      clear hI hB hK hR3
      go_wp2_with ((with_reducible refine gate_store (t := 35) (p := 24) (v := .tmp 23) rfl ?_); refine store_mid_ev (w0 := w) rfl 35 (.tmp 24) (.tmp 23) rfl rfl b5 17 #[.int .i64 r.1.k, .int .i64 r.1.er, .bool r.1.fd, .string r.1.val, .slice A3 r.1.ps.length c3, .int .u32 r.1.wc, .int .u32 r.1.wn, .int .u64 r.1.sp, .int .u32 r.1.sl, .int .u64 r.1.ap, .int .u32 r.1.al, .string r.1.pr, .int .u64 r.1.np, .int .u32 r.1.nl] rfl rfl 37 _ #[.int .u32 a.1, .int .u32 b.1, .int .u32 c.1, .bool true, .int .i64 zRq.k, .int .u32 zRq.bc, .int .u32 zRq.bn, .int .u64 zRq.sp, .int .u32 zRq.sl, .int .u64 zRq.ap, .int .u32 zRq.al, .string zRq.key, .string zRq.tt, .int .i64 zRq.lim, .int .u8 zRq.parts, .slice none zRq.ws.length 0, .slice none zRq.sk.length 0, .int .i64 r.1.k, .int .i64 r.1.er, .bool r.1.fd, .string r.1.val, .slice A3 r.1.ps.length c3, .int .u32 r.1.wc, .int .u32 r.1.wn, .int .u64 r.1.sp, .int .u32 r.1.sl, .int .u64 r.1.ap, .int .u32 r.1.al, .string r.1.pr, .int .u64 r.1.np, .int .u32 r.1.nl] HX56.out (by kernel_rfl) (by show 17 + 14 ≤ 31; decide) (by kernel_rfl) (by kernel_rfl) HB6.out HG5.out ?_; intro w7 hX hK7 hB7; have HX57 := Lib.hid hX; have HK7 := Lib.hid hK7; have HB7 := Lib.hid hB7; clear hX hK7 hB7)
      have HX27 := Lib.hid (blk_keep HX26.out HK7.out HN25.out)
      have HI7 := Lib.hid (s_keep HI6.out HK7.out HNg5.out)
      have HR37 := Lib.hid (R_thru HR36.out HX56.out (by decide) HK7.out)
      clear HK7 HI6 HB6
      go_wp2_with fail
      refine (rend HI7.out HB7.out).mono ?_
      rintro e w8 ⟨rfl, hI, hB, hK⟩
      have HX58 := Lib.hid (blk_keep HX57.out hK HN5.out)
      have HX28 := Lib.hid (blk_keep HX27.out hK HN2.out)
      have HB8 := Lib.hid hB
      have HR38 := Lib.hid (R_thru HR37.out HI7.out.1 (by decide) hK)
      clear hI hB hK HI7 HB7
      obtain ⟨en, hen⟩ : ∃ en, en = rdEnd r.2.1 r.2.2 := ⟨_, rfl⟩
      rw [← hen]
      have HEN := Lib.hid hen
      clear hen
      have HRD : Hid (readR s = if en = 0 then (if rightR ⟨a.1, b.1, c.1, true, zRq, r.1⟩ = true then (⟨a.1, b.1, c.1, true, zRq, r.1⟩, 0) else (zLt, 2)) else (zLt, 2)) := Lib.hid (by
        have hp : rdParts s = (⟨a.1, b.1, c.1, true, zRq, r.1⟩, r.2.1, r.2.2) := by
          simp only [rdParts, ← HA.out, ← HBB.out, ← HC.out, ← HD.out, hd1, if_true, Bool.false_eq_true, if_false, ← HRR.out]
        unfold readR
        rw [hp, ← HEN.out])
      have HZ : Hid (∀ W : World, LtIn W zLt none 0 none 0 none 0) := Lib.hid (fun W => ⟨Kd.C_nil _ _, Nat.le_refl _, Kd.C_nil _ _, Nat.le_refl _, Kd.C_nil _ _, Nat.le_refl _⟩)
      rcases (show en = 0 ∨ en ≠ 0 from by omega) with he | he
      · subst he
        have HL : Hid (LtIn w8 ⟨a.1, b.1, c.1, true, zRq, r.1⟩ none 0 none 0 A3 c3) := Lib.hid (by obtain ⟨A, c, e, h1, h2⟩ := Kd.R_reads HR38.out; cases e; exact ⟨Kd.C_nil _ _, Nat.le_refl _, Kd.C_nil _ _, Nat.le_refl _, h2, h1⟩)
        cases hri : rightR ⟨a.1, b.1, c.1, true, zRq, r.1⟩ with
        | false =>
          have HR2 : Hid (readR s = (zLt, 2)) := Lib.hid (by rw [HRD.out, if_pos rfl, if_neg (by rw [hri]; decide)])
          have HRI := Lib.hid (right_calls ⟨a.1, b.1, c.1, true, zRq, r.1⟩ none none A3 0 0 c3 w8 HOK.out HL.out.h1 HL.out.h3)
          rw [hri] at HRI
          clear hri
          go_wp2_with (first | ((with_reducible refine gate_dst (N := 32) rfl ?_); refine wpList_load_row rfl 37 (.tmp 5) rfl b5 rfl 37 _ (0, 0) _ HX58.out Try.underlying37 rfl (by kernel_rfl) ?_) | ((with_reducible refine gate_dst (N := 32) rfl ?_); refine gate_guard (by rfl) ?_; refine wpList_load_row rfl 37 (.tmp 5) rfl b5 rfl 37 _ (0, 0) _ HX58.out Try.underlying37 rfl (by kernel_rfl) ?_))
          refine HRI.out.mono ?_
          rintro e wr ⟨rfl, hBr⟩
          have HX2r := Lib.hid ((hBr.block _ (lt_at HX28.out)).trans HX28.out)
          have HBr := Lib.hid (bel_then HB8.out hBr)
          clear hBr
          go_wp2_with ((with_reducible refine gate_store (t := 37) (p := 2) (v := .tmp 36) rfl ?_); refine store_mid_ev (w0 := w) rfl 37 (.tmp 2) (.tmp 36) rfl rfl w.heap.size 0 #[.int .u32 0, .int .u32 0, .int .u32 0, .bool false, .int .i64 0, .int .u32 0, .int .u32 0, .int .u64 0, .int .u32 0, .int .u64 0, .int .u32 0, .string ⟨#[]⟩, .string ⟨#[]⟩, .int .i64 0, .int .u8 0, .slice none 0 0, .slice none 0 0, .int .i64 0, .int .i64 0, .bool false, .string ⟨#[]⟩, .slice none 0 0, .int .u32 0, .int .u32 0, .int .u64 0, .int .u32 0, .int .u64 0, .int .u32 0, .string ⟨#[]⟩, .int .u64 0, .int .u32 0] rfl rfl 37 _ #[.int .u32 0, .int .u32 0, .int .u32 0, .bool false, .int .i64 0, .int .u32 0, .int .u32 0, .int .u64 0, .int .u32 0, .int .u64 0, .int .u32 0, .string ⟨#[]⟩, .string ⟨#[]⟩, .int .i64 0, .int .u8 0, .slice none 0 0, .slice none 0 0, .int .i64 0, .int .i64 0, .bool false, .string ⟨#[]⟩, .slice none 0 0, .int .u32 0, .int .u32 0, .int .u64 0, .int .u32 0, .int .u64 0, .int .u32 0, .string ⟨#[]⟩, .int .u64 0, .int .u32 0] HX2r.out (by kernel_rfl) (by show 0 + 31 ≤ 31; decide) (by kernel_rfl) (by kernel_rfl) HBr.out (Nat.le_refl _) ?_; intro w9 hX9 hK9 hB9; have HX9 := Lib.hid hX9; have HK9 := Lib.hid hK9; have HB9 := Lib.hid hB9; clear hX9 hK9 hB9)
          refine bodyPost_ret (results_ct rfl _ _ w.heap.size 37 _ (0, 0) _ rfl HX9.out Try.underlying37 rfl (by kernel_rfl)) rfl ?_
          exact ⟨none, 0, none, 0, none, 0, by rw [HR2.out]; rfl, by rw [HR2.out]; exact HZ.out _, HB9.out⟩

        | true =>
          have HR2 : Hid (readR s = (⟨a.1, b.1, c.1, true, zRq, r.1⟩, 0)) := Lib.hid (by rw [HRD.out, if_pos rfl, if_pos hri])
          have HRI := Lib.hid (right_calls ⟨a.1, b.1, c.1, true, zRq, r.1⟩ none none A3 0 0 c3 w8 HOK.out HL.out.h1 HL.out.h3)
          rw [hri] at HRI
          clear hri
          go_wp2_with (first | ((with_reducible refine gate_dst (N := 32) rfl ?_); refine wpList_load_row rfl 37 (.tmp 5) rfl b5 rfl 37 _ (0, 0) _ HX58.out Try.underlying37 rfl (by kernel_rfl) ?_) | ((with_reducible refine gate_dst (N := 32) rfl ?_); refine gate_guard (by rfl) ?_; refine wpList_load_row rfl 37 (.tmp 5) rfl b5 rfl 37 _ (0, 0) _ HX58.out Try.underlying37 rfl (by kernel_rfl) ?_))
          refine HRI.out.mono ?_
          rintro e wr ⟨rfl, hBr⟩
          have HX2r := Lib.hid ((hBr.block _ (lt_at HX28.out)).trans HX28.out)
          have HX5r := Lib.hid ((hBr.block _ (lt_at HX58.out)).trans HX58.out)
          have HBr := Lib.hid (bel_then HB8.out hBr)
          have HR3r := Lib.hid (Kd.R_below HR38.out hBr)
          clear hBr
          go_wp2_with (first | ((with_reducible refine gate_dst (N := 37) rfl ?_); refine wpList_load_row rfl 37 (.tmp 5) rfl b5 rfl 37 _ (0, 0) _ HX5r.out Try.underlying37 rfl (by kernel_rfl) ?_) | ((with_reducible refine gate_store (t := 37) (p := 2) (v := .tmp 37) rfl ?_); refine store_mid_ev (w0 := w) rfl 37 (.tmp 2) (.tmp 37) rfl rfl w.heap.size 0 #[.int .u32 a.1, .int .u32 b.1, .int .u32 c.1, .bool true, .int .i64 zRq.k, .int .u32 zRq.bc, .int .u32 zRq.bn, .int .u64 zRq.sp, .int .u32 zRq.sl, .int .u64 zRq.ap, .int .u32 zRq.al, .string zRq.key, .string zRq.tt, .int .i64 zRq.lim, .int .u8 zRq.parts, .slice none zRq.ws.length 0, .slice none zRq.sk.length 0, .int .i64 r.1.k, .int .i64 r.1.er, .bool r.1.fd, .string r.1.val, .slice A3 r.1.ps.length c3, .int .u32 r.1.wc, .int .u32 r.1.wn, .int .u64 r.1.sp, .int .u32 r.1.sl, .int .u64 r.1.ap, .int .u32 r.1.al, .string r.1.pr, .int .u64 r.1.np, .int .u32 r.1.nl] rfl rfl 37 _ #[.int .u32 a.1, .int .u32 b.1, .int .u32 c.1, .bool true, .int .i64 zRq.k, .int .u32 zRq.bc, .int .u32 zRq.bn, .int .u64 zRq.sp, .int .u32 zRq.sl, .int .u64 zRq.ap, .int .u32 zRq.al, .string zRq.key, .string zRq.tt, .int .i64 zRq.lim, .int .u8 zRq.parts, .slice none zRq.ws.length 0, .slice none zRq.sk.length 0, .int .i64 r.1.k, .int .i64 r.1.er, .bool r.1.fd, .string r.1.val, .slice A3 r.1.ps.length c3, .int .u32 r.1.wc, .int .u32 r.1.wn, .int .u64 r.1.sp, .int .u32 r.1.sl, .int .u64 r.1.ap, .int .u32 r.1.al, .string r.1.pr, .int .u64 r.1.np, .int .u32 r.1.nl] HX2r.out (by kernel_rfl) (by show 0 + 31 ≤ 31; decide) (by kernel_rfl) (by kernel_rfl) HBr.out (Nat.le_refl _) ?_; intro w9 hX9 hK9 hB9; have HX9 := Lib.hid hX9; have HK9 := Lib.hid hK9; have HB9 := Lib.hid hB9; clear hX9 hK9 hB9))
          have HR3f := R_thru HR3r.out HX2r.out (by decide) HK9.out
          refine bodyPost_ret (results_ct rfl _ _ w.heap.size 37 _ (0, 0) _ rfl HX9.out Try.underlying37 rfl (by kernel_rfl)) rfl ?_
          obtain ⟨A, c, e, h1, h2⟩ := Kd.R_reads HR3f
          cases e
          exact ⟨none, 0, none, 0, _, _, by rw [HR2.out]; rfl, by rw [HR2.out]; exact ⟨Kd.C_nil _ _, Nat.le_refl _, Kd.C_nil _ _, Nat.le_refl _, h2, h1⟩, HB9.out⟩
      · have HR2 : Hid (readR s = (zLt, 2)) := Lib.hid (by rw [HRD.out, if_neg he])
        go_wp2_with ((with_reducible refine gate_store (t := 37) (p := 2) (v := .tmp 36) rfl ?_); refine store_mid_ev (w0 := w) rfl 37 (.tmp 2) (.tmp 36) rfl rfl w.heap.size 0 #[.int .u32 0, .int .u32 0, .int .u32 0, .bool false, .int .i64 0, .int .u32 0, .int .u32 0, .int .u64 0, .int .u32 0, .int .u64 0, .int .u32 0, .string ⟨#[]⟩, .string ⟨#[]⟩, .int .i64 0, .int .u8 0, .slice none 0 0, .slice none 0 0, .int .i64 0, .int .i64 0, .bool false, .string ⟨#[]⟩, .slice none 0 0, .int .u32 0, .int .u32 0, .int .u64 0, .int .u32 0, .int .u64 0, .int .u32 0, .string ⟨#[]⟩, .int .u64 0, .int .u32 0] rfl rfl 37 _ #[.int .u32 0, .int .u32 0, .int .u32 0, .bool false, .int .i64 0, .int .u32 0, .int .u32 0, .int .u64 0, .int .u32 0, .int .u64 0, .int .u32 0, .string ⟨#[]⟩, .string ⟨#[]⟩, .int .i64 0, .int .u8 0, .slice none 0 0, .slice none 0 0, .int .i64 0, .int .i64 0, .bool false, .string ⟨#[]⟩, .slice none 0 0, .int .u32 0, .int .u32 0, .int .u64 0, .int .u32 0, .int .u64 0, .int .u32 0, .string ⟨#[]⟩, .int .u64 0, .int .u32 0] HX28.out (by kernel_rfl) (by show 0 + 31 ≤ 31; decide) (by kernel_rfl) (by kernel_rfl) HB8.out (Nat.le_refl _) ?_; intro w9 hX9 hK9 hB9; have HX9 := Lib.hid hX9; have HK9 := Lib.hid hK9; have HB9 := Lib.hid hB9; clear hX9 hK9 hB9)
        refine bodyPost_ret (results_ct rfl _ _ w.heap.size 37 _ (0, 0) _ rfl HX9.out Try.underlying37 rfl (by kernel_rfl)) rfl ?_
        exact ⟨none, 0, none, 0, none, 0, by rw [HR2.out]; rfl, by rw [HR2.out]; exact HZ.out _, HB9.out⟩

  | false =>
    as_aux_lemma =>
      go_wp2_with ((with_reducible refine gate_store (t := 37) (p := 5) (v := .tmp 19) rfl ?_); refine store_mid_ev (w0 := w) rfl 37 (.tmp 5) (.tmp 19) rfl rfl wf.heap.size 0 #[.int .u32 a.1, .int .u32 b.1, .int .u32 c.1, .bool false, .int .i64 0, .int .u32 0, .int .u32 0, .int .u64 0, .int .u32 0, .int .u64 0, .int .u32 0, .string ⟨#[]⟩, .string ⟨#[]⟩, .int .i64 0, .int .u8 0, .slice none 0 0, .slice none 0 0, .int .i64 0, .int .i64 0, .bool false, .string ⟨#[]⟩, .slice none 0 0, .int .u32 0, .int .u32 0, .int .u64 0, .int .u32 0, .int .u64 0, .int .u32 0, .string ⟨#[]⟩, .int .u64 0, .int .u32 0] rfl rfl 37 _ #[.int .u32 a.1, .int .u32 b.1, .int .u32 c.1, .bool false, .int .i64 0, .int .u32 0, .int .u32 0, .int .u64 0, .int .u32 0, .int .u64 0, .int .u32 0, .string ⟨#[]⟩, .string ⟨#[]⟩, .int .i64 0, .int .u8 0, .slice none 0 0, .slice none 0 0, .int .i64 0, .int .i64 0, .bool false, .string ⟨#[]⟩, .slice none 0 0, .int .u32 0, .int .u32 0, .int .u64 0, .int .u32 0, .int .u64 0, .int .u32 0, .string ⟨#[]⟩, .int .u64 0, .int .u32 0] HX50.out (by kernel_rfl) (by show 0 + 31 ≤ 31; decide) (by kernel_rfl) (by kernel_rfl) HBg.out HG5.out ?_; intro w5 hX hK5 hB5; have HX55 := Lib.hid hX; have HK5 := Lib.hid hK5; have HB5 := Lib.hid hB5; clear hX hK5 hB5; have x3 := (blk_cell HX55.out 3).trans (show _ = some (.bool false) from rfl))
      have HX25 := Lib.hid (blk_keep HX2g.out HK5.out HN25.out)
      have HI5 := Lib.hid (s_keep HIg.out HK5.out HNg5.out)
      clear HK5 HX50 HX2g HIg HBg HX2f HI4' HB4' x3
      generalize wf.heap.size = b5 at *
      obtain ⟨q, hr⟩ : ∃ r, r = rdAsk d.2.1 d.2.2 := ⟨_, rfl⟩
      have hrf := ask_f d.2.1 d.2.2 (by omega)
      rw [← hr] at hrf
      have HRR := Lib.hid hr
      have HOKx := Lib.hid (askOk d.2.1 d.2.2)
      rw [← hr] at HOKx
      clear hr
      refine (letter_readAsk.calls 100 g d.2.1 d.2.2 _ _ _ _ _ _ _ _ _ _ _ _ _ _ _ w w5 HI5.out HB5.out hrf).mono ?_
      clear hrf
      rintro e w6 ⟨v1, v2, rfl, hR1, hR2, hI, hB, hK⟩
      obtain ⟨A1, c1, rfl, hz1, _⟩ := Kd.R_reads hR1
      obtain ⟨A2, c2, rfl, hz2, _⟩ := Kd.R_reads hR2
      have HOK : Hid (LOk ⟨a.1, b.1, c.1, false, q.1, zRp⟩) := Lib.hid ⟨hoka, hokb, hokc, HOKx.out, zpOk⟩
      have HX26 := Lib.hid (blk_keep HX25.out hK HN2.out)
      have HX56 := Lib.hid (blk_keep HX55.out hK HN5.out)
      have HR16 := Lib.hid hR1
      have HR26 := Lib.hid hR2
      have HI6 := Lib.hid hI
      have HB6 := Lib.hid hB
      clear hI hB hK hR1 hR2
      go_wp2_with ((with_reducible refine gate_store (t := 31) (p := 27) (v := .tmp 26) rfl ?_); refine store_mid_ev (w0 := w) rfl 31 (.tmp 27) (.tmp 26) rfl rfl b5 4 #[.int .i64 q.1.k, .int .u32 q.1.bc, .int .u32 q.1.bn, .int .u64 q.1.sp, .int .u32 q.1.sl, .int .u64 q.1.ap, .int .u32 q.1.al, .string q.1.key, .string q.1.tt, .int .i64 q.1.lim, .int .u8 q.1.parts, .slice A1 q.1.ws.length c1, .slice A2 q.1.sk.length c2] rfl rfl 37 _ #[.int .u32 a.1, .int .u32 b.1, .int .u32 c.1, .bool false, .int .i64 q.1.k, .int .u32 q.1.bc, .int .u32 q.1.bn, .int .u64 q.1.sp, .int .u32 q.1.sl, .int .u64 q.1.ap, .int .u32 q.1.al, .string q.1.key, .string q.1.tt, .int .i64 q.1.lim, .int .u8 q.1.parts, .slice A1 q.1.ws.length c1, .slice A2 q.1.sk.length c2, .int .i64 zRp.k, .int .i64 zRp.er, .bool zRp.fd, .string zRp.val, .slice none zRp.ps.length 0, .int .u32 zRp.wc, .int .u32 zRp.wn, .int .u64 zRp.sp, .int .u32 zRp.sl, .int .u64 zRp.ap, .int .u32 zRp.al, .string zRp.pr, .int .u64 zRp.np, .int .u32 zRp.nl] HX56.out (by kernel_rfl) (by show 4 + 13 ≤ 31; decide) (by kernel_rfl) (by kernel_rfl) HB6.out HG5.out ?_; intro w7 hX hK7 hB7; have HX57 := Lib.hid hX; have HK7 := Lib.hid hK7; have HB7 := Lib.hid hB7; clear hX hK7 hB7)
      have HX27 := Lib.hid (blk_keep HX26.out HK7.out HN25.out)
      have HI7 := Lib.hid (s_keep HI6.out HK7.out HNg5.out)
      have HR17 := Lib.hid (R_thru HR16.out HX56.out (by decide) HK7.out)
      have HR27 := Lib.hid (R_thru HR26.out HX56.out (by decide) HK7.out)
      clear HK7 HI6 HB6
      go_wp2_with fail
      refine (rend HI7.out HB7.out).mono ?_
      rintro e w8 ⟨rfl, hI, hB, hK⟩
      have HX58 := Lib.hid (blk_keep HX57.out hK HN5.out)
      have HX28 := Lib.hid (blk_keep HX27.out hK HN2.out)
      have HB8 := Lib.hid hB
      have HR18 := Lib.hid (R_thru HR17.out HI7.out.1 (by decide) hK)
      have HR28 := Lib.hid (R_thru HR27.out HI7.out.1 (by decide) hK)
      clear hI hB hK HI7 HB7
      obtain ⟨en, hen⟩ : ∃ en, en = rdEnd q.2.1 q.2.2 := ⟨_, rfl⟩
      rw [← hen]
      have HEN := Lib.hid hen
      clear hen
      have HRD : Hid (readR s = if en = 0 then (if rightR ⟨a.1, b.1, c.1, false, q.1, zRp⟩ = true then (⟨a.1, b.1, c.1, false, q.1, zRp⟩, 0) else (zLt, 2)) else (zLt, 2)) := Lib.hid (by
        have hp : rdParts s = (⟨a.1, b.1, c.1, false, q.1, zRp⟩, q.2.1, q.2.2) := by
          simp only [rdParts, ← HA.out, ← HBB.out, ← HC.out, ← HD.out, hd1, if_true, Bool.false_eq_true, if_false, ← HRR.out]
        unfold readR
        rw [hp, ← HEN.out])
      have HZ : Hid (∀ W : World, LtIn W zLt none 0 none 0 none 0) := Lib.hid (fun W => ⟨Kd.C_nil _ _, Nat.le_refl _, Kd.C_nil _ _, Nat.le_refl _, Kd.C_nil _ _, Nat.le_refl _⟩)
      rcases (show en = 0 ∨ en ≠ 0 from by omega) with he | he
      · subst he
        have HL : Hid (LtIn w8 ⟨a.1, b.1, c.1, false, q.1, zRp⟩ A1 c1 A2 c2 none 0) := Lib.hid (by obtain ⟨A, c, e, h1, h2⟩ := Kd.R_reads HR18.out; cases e; obtain ⟨A, c, e, h3, h4⟩ := Kd.R_reads HR28.out; cases e; exact ⟨h2, h1, h4, h3, Kd.C_nil _ _, Nat.le_refl _⟩)
        cases hri : rightR ⟨a.1, b.1, c.1, false, q.1, zRp⟩ with
        | false =>
          have HR2 : Hid (readR s = (zLt, 2)) := Lib.hid (by rw [HRD.out, if_pos rfl, if_neg (by rw [hri]; decide)])
          have HRI := Lib.hid (right_calls ⟨a.1, b.1, c.1, false, q.1, zRp⟩ A1 A2 none c1 c2 0 w8 HOK.out HL.out.h1 HL.out.h3)
          rw [hri] at HRI
          clear hri
          go_wp2_with (first | ((with_reducible refine gate_dst (N := 32) rfl ?_); refine wpList_load_row rfl 37 (.tmp 5) rfl b5 rfl 37 _ (0, 0) _ HX58.out Try.underlying37 rfl (by kernel_rfl) ?_) | ((with_reducible refine gate_dst (N := 32) rfl ?_); refine gate_guard (by rfl) ?_; refine wpList_load_row rfl 37 (.tmp 5) rfl b5 rfl 37 _ (0, 0) _ HX58.out Try.underlying37 rfl (by kernel_rfl) ?_))
          refine HRI.out.mono ?_
          rintro e wr ⟨rfl, hBr⟩
          have HX2r := Lib.hid ((hBr.block _ (lt_at HX28.out)).trans HX28.out)
          have HBr := Lib.hid (bel_then HB8.out hBr)
          clear hBr
          go_wp2_with ((with_reducible refine gate_store (t := 37) (p := 2) (v := .tmp 36) rfl ?_); refine store_mid_ev (w0 := w) rfl 37 (.tmp 2) (.tmp 36) rfl rfl w.heap.size 0 #[.int .u32 0, .int .u32 0, .int .u32 0, .bool false, .int .i64 0, .int .u32 0, .int .u32 0, .int .u64 0, .int .u32 0, .int .u64 0, .int .u32 0, .string ⟨#[]⟩, .string ⟨#[]⟩, .int .i64 0, .int .u8 0, .slice none 0 0, .slice none 0 0, .int .i64 0, .int .i64 0, .bool false, .string ⟨#[]⟩, .slice none 0 0, .int .u32 0, .int .u32 0, .int .u64 0, .int .u32 0, .int .u64 0, .int .u32 0, .string ⟨#[]⟩, .int .u64 0, .int .u32 0] rfl rfl 37 _ #[.int .u32 0, .int .u32 0, .int .u32 0, .bool false, .int .i64 0, .int .u32 0, .int .u32 0, .int .u64 0, .int .u32 0, .int .u64 0, .int .u32 0, .string ⟨#[]⟩, .string ⟨#[]⟩, .int .i64 0, .int .u8 0, .slice none 0 0, .slice none 0 0, .int .i64 0, .int .i64 0, .bool false, .string ⟨#[]⟩, .slice none 0 0, .int .u32 0, .int .u32 0, .int .u64 0, .int .u32 0, .int .u64 0, .int .u32 0, .string ⟨#[]⟩, .int .u64 0, .int .u32 0] HX2r.out (by kernel_rfl) (by show 0 + 31 ≤ 31; decide) (by kernel_rfl) (by kernel_rfl) HBr.out (Nat.le_refl _) ?_; intro w9 hX9 hK9 hB9; have HX9 := Lib.hid hX9; have HK9 := Lib.hid hK9; have HB9 := Lib.hid hB9; clear hX9 hK9 hB9)
          refine bodyPost_ret (results_ct rfl _ _ w.heap.size 37 _ (0, 0) _ rfl HX9.out Try.underlying37 rfl (by kernel_rfl)) rfl ?_
          exact ⟨none, 0, none, 0, none, 0, by rw [HR2.out]; rfl, by rw [HR2.out]; exact HZ.out _, HB9.out⟩

        | true =>
          have HR2 : Hid (readR s = (⟨a.1, b.1, c.1, false, q.1, zRp⟩, 0)) := Lib.hid (by rw [HRD.out, if_pos rfl, if_pos hri])
          have HRI := Lib.hid (right_calls ⟨a.1, b.1, c.1, false, q.1, zRp⟩ A1 A2 none c1 c2 0 w8 HOK.out HL.out.h1 HL.out.h3)
          rw [hri] at HRI
          clear hri
          go_wp2_with (first | ((with_reducible refine gate_dst (N := 32) rfl ?_); refine wpList_load_row rfl 37 (.tmp 5) rfl b5 rfl 37 _ (0, 0) _ HX58.out Try.underlying37 rfl (by kernel_rfl) ?_) | ((with_reducible refine gate_dst (N := 32) rfl ?_); refine gate_guard (by rfl) ?_; refine wpList_load_row rfl 37 (.tmp 5) rfl b5 rfl 37 _ (0, 0) _ HX58.out Try.underlying37 rfl (by kernel_rfl) ?_))
          refine HRI.out.mono ?_
          rintro e wr ⟨rfl, hBr⟩
          have HX2r := Lib.hid ((hBr.block _ (lt_at HX28.out)).trans HX28.out)
          have HX5r := Lib.hid ((hBr.block _ (lt_at HX58.out)).trans HX58.out)
          have HBr := Lib.hid (bel_then HB8.out hBr)
          have HR1r := Lib.hid (Kd.R_below HR18.out hBr)
          have HR2r := Lib.hid (Kd.R_below HR28.out hBr)
          clear hBr
          go_wp2_with (first | ((with_reducible refine gate_dst (N := 37) rfl ?_); refine wpList_load_row rfl 37 (.tmp 5) rfl b5 rfl 37 _ (0, 0) _ HX5r.out Try.underlying37 rfl (by kernel_rfl) ?_) | ((with_reducible refine gate_store (t := 37) (p := 2) (v := .tmp 37) rfl ?_); refine store_mid_ev (w0 := w) rfl 37 (.tmp 2) (.tmp 37) rfl rfl w.heap.size 0 #[.int .u32 a.1, .int .u32 b.1, .int .u32 c.1, .bool false, .int .i64 q.1.k, .int .u32 q.1.bc, .int .u32 q.1.bn, .int .u64 q.1.sp, .int .u32 q.1.sl, .int .u64 q.1.ap, .int .u32 q.1.al, .string q.1.key, .string q.1.tt, .int .i64 q.1.lim, .int .u8 q.1.parts, .slice A1 q.1.ws.length c1, .slice A2 q.1.sk.length c2, .int .i64 zRp.k, .int .i64 zRp.er, .bool zRp.fd, .string zRp.val, .slice none zRp.ps.length 0, .int .u32 zRp.wc, .int .u32 zRp.wn, .int .u64 zRp.sp, .int .u32 zRp.sl, .int .u64 zRp.ap, .int .u32 zRp.al, .string zRp.pr, .int .u64 zRp.np, .int .u32 zRp.nl] rfl rfl 37 _ #[.int .u32 a.1, .int .u32 b.1, .int .u32 c.1, .bool false, .int .i64 q.1.k, .int .u32 q.1.bc, .int .u32 q.1.bn, .int .u64 q.1.sp, .int .u32 q.1.sl, .int .u64 q.1.ap, .int .u32 q.1.al, .string q.1.key, .string q.1.tt, .int .i64 q.1.lim, .int .u8 q.1.parts, .slice A1 q.1.ws.length c1, .slice A2 q.1.sk.length c2, .int .i64 zRp.k, .int .i64 zRp.er, .bool zRp.fd, .string zRp.val, .slice none zRp.ps.length 0, .int .u32 zRp.wc, .int .u32 zRp.wn, .int .u64 zRp.sp, .int .u32 zRp.sl, .int .u64 zRp.ap, .int .u32 zRp.al, .string zRp.pr, .int .u64 zRp.np, .int .u32 zRp.nl] HX2r.out (by kernel_rfl) (by show 0 + 31 ≤ 31; decide) (by kernel_rfl) (by kernel_rfl) HBr.out (Nat.le_refl _) ?_; intro w9 hX9 hK9 hB9; have HX9 := Lib.hid hX9; have HK9 := Lib.hid hK9; have HB9 := Lib.hid hB9; clear hX9 hK9 hB9))
          have HR1f := R_thru HR1r.out HX2r.out (by decide) HK9.out
          have HR2f := R_thru HR2r.out HX2r.out (by decide) HK9.out
          refine bodyPost_ret (results_ct rfl _ _ w.heap.size 37 _ (0, 0) _ rfl HX9.out Try.underlying37 rfl (by kernel_rfl)) rfl ?_
          obtain ⟨A, c, e, h1, h2⟩ := Kd.R_reads HR1f
          cases e
          obtain ⟨A, c, e, h3, h4⟩ := Kd.R_reads HR2f
          cases e
          exact ⟨_, _, _, _, none, 0, by rw [HR2.out]; rfl, by rw [HR2.out]; exact ⟨h2, h1, h4, h3, Kd.C_nil _ _, Nat.le_refl _⟩, HB9.out⟩
      · have HR2 : Hid (readR s = (zLt, 2)) := Lib.hid (by rw [HRD.out, if_neg he])
        go_wp2_with ((with_reducible refine gate_store (t := 37) (p := 2) (v := .tmp 36) rfl ?_); refine store_mid_ev (w0 := w) rfl 37 (.tmp 2) (.tmp 36) rfl rfl w.heap.size 0 #[.int .u32 0, .int .u32 0, .int .u32 0, .bool false, .int .i64 0, .int .u32 0, .int .u32 0, .int .u64 0, .int .u32 0, .int .u64 0, .int .u32 0, .string ⟨#[]⟩, .string ⟨#[]⟩, .int .i64 0, .int .u8 0, .slice none 0 0, .slice none 0 0, .int .i64 0, .int .i64 0, .bool false, .string ⟨#[]⟩, .slice none 0 0, .int .u32 0, .int .u32 0, .int .u64 0, .int .u32 0, .int .u64 0, .int .u32 0, .string ⟨#[]⟩, .int .u64 0, .int .u32 0] rfl rfl 37 _ #[.int .u32 0, .int .u32 0, .int .u32 0, .bool false, .int .i64 0, .int .u32 0, .int .u32 0, .int .u64 0, .int .u32 0, .int .u64 0, .int .u32 0, .string ⟨#[]⟩, .string ⟨#[]⟩, .int .i64 0, .int .u8 0, .slice none 0 0, .slice none 0 0, .int .i64 0, .int .i64 0, .bool false, .string ⟨#[]⟩, .slice none 0 0, .int .u32 0, .int .u32 0, .int .u64 0, .int .u32 0, .int .u64 0, .int .u32 0, .string ⟨#[]⟩, .int .u64 0, .int .u32 0] HX28.out (by kernel_rfl) (by show 0 + 31 ≤ 31; decide) (by kernel_rfl) (by kernel_rfl) HB8.out (Nat.le_refl _) ?_; intro w9 hX9 hK9 hB9; have HX9 := Lib.hid hX9; have HK9 := Lib.hid hK9; have HB9 := Lib.hid hB9; clear hX9 hK9 hB9)
        refine bodyPost_ret (results_ct rfl _ _ w.heap.size 37 _ (0, 0) _ rfl HX9.out Try.underlying37 rfl (by kernel_rfl)) rfl ?_
        exact ⟨none, 0, none, 0, none, 0, by rw [HR2.out]; rfl, by rw [HR2.out]; exact HZ.out _, HB9.out⟩

end Go.Proofs.Ytjfokbkfniilhaa
