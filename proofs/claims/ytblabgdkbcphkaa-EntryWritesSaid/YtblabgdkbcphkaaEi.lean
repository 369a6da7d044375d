/- What an entry's readers read, in plain words; entry's list and slices.Clip. Conditions: those that each theorem names. -/
import Derived.Test.YtblabgdkbcphkaaEh
import Derived.Test.YtblabgdkbcphkaaWGuard
set_option linter.unusedVariables false
set_option linter.unusedSimpArgs false
set_option linter.constructorNameAsVariable false
namespace Go.Proofs.Ytblabgdkbcphkaa
open Go.RowKit Go.Deep Go.Proofs.YtblabgdkbcphkaaW.PrintWords Go.Proofs.YtblabgdkbcphkaaW.PrintLast Go.Proofs.YtblabgdkbcphkaaW.PrintMore Go.Proofs.Ytblabgdkbcphkaa.PEs Go.Proofs.Ytblabgdkbcphkaa.PRd
/-- Two numbers, one behind the other. -/
def rdX (s : ByteArray) (er : Int) : Int × Int × ByteArray × Int :=
  let a := rdNum s er 4294967295
  let b := rdNum a.2.1 a.2.2 4294967295
  (a.1, b.1, b.2.1, b.2.2)
def rdW (s : ByteArray) (er : Int) : S54 × ByteArray × Int :=
  let a := rdText s er 1 32
  let b := rdFlag a.2.1 a.2.2
  let c := rdText b.2.1 b.2.2 0 256
  (⟨a.1, c.1, b.1⟩, c.2.1, c.2.2)
/-- So many, one behind the other. -/
def lstR {α : Type} (one : ByteArray → Int → α × ByteArray × Int) : Nat → ByteArray → Int → List α × ByteArray × Int
  | 0, s, er => ([], s, er)
  | n + 1, s, er =>
    let a := one s er
    let r := lstR one n a.2.1 a.2.2
    (a.1 :: r.1, r.2.1, r.2.2)
def orX (b : Bool) (f : ByteArray → Int → Int × Int × ByteArray × Int) (s : ByteArray) (er : Int) : Int × Int × ByteArray × Int := if b = true then f s er else (0, 0, s, er)
/-- What stands behind the kind. -/
def rdTail (k : Int) (s : ByteArray) (er : Int) : En × ByteArray × Int :=
  let b := orX (hB k) rdX s er
  let c := orX (hS k) rdStamp b.2.2.1 b.2.2.2
  let d := orX (hM k) rdStamp c.2.2.1 c.2.2.2
  let e := orX (hA k) rdStamp d.2.2.1 d.2.2.2
  let p := if hM k = true then rdText e.2.2.1 e.2.2.2 1 32 else (⟨#[]⟩, e.2.2.1, e.2.2.2)
  let n := if hM k = true then rdCount p.2.1 p.2.2 16 else (if hW k = true then 1 else 0, p.2.1, p.2.2)
  let l := lstR rdW n.1.toNat n.2.1 n.2.2
  let t := if hT k = true then rdNum l.2.1 l.2.2 255 else (0, l.2.1, l.2.2)
  let x := if hD k = true then rdFlag t.2.1 t.2.2 else (false, t.2.1, t.2.2)
  (⟨k, b.1, b.2.1, c.1, c.2.1, e.1, e.2.1, d.1, d.2.1, p.1, t.1, x.1, l.1⟩, x.2.1, x.2.2)
def rdE (s : ByteArray) : En × ByteArray × Int := rdTail (rdNum s 0 9).1 (rdNum s 0 9).2.1 (rdNum s 0 9).2.2
def zE : En := ⟨0, 0, 0, 0, 0, 0, 0, 0, 0, ⟨#[]⟩, 0, false, []⟩
def readE (s : ByteArray) : En × Int := if rdEnd (rdE s).2.1 (rdE s).2.2 = 0 then (if rightE (rdE s).1 = true then ((rdE s).1, 0) else (zE, 2)) else (zE, 2)
/-! The bytes that are left never grow. -/
theorem num_sz (s : ByteArray) (er m : Int) (h : 0 ≤ m) : (rdNum s er m).2.1.size ≤ s.size := (rdNum_facts s er m h).2.2
theorem text_sz (s : ByteArray) (er lo hi : Int) : (rdText s er lo hi).2.1.size ≤ s.size := by
  have h := num_sz s er M64 (by decide)
  unfold rdText
  split
  · split
    · exact Nat.zero_le _
    · split
      · exact Nat.zero_le _
      · show ((rdNum s er M64).2.1.extract _ _).size ≤ _
        rw [ByteArray.size_extract]
        omega
  · exact h
theorem stamp_sz (s : ByteArray) (er : Int) : (rdStamp s er).2.2.1.size ≤ s.size := by
  have h := num_sz s er 281474976710656 (by decide)
  have h2 := num_sz (rdNum s er 281474976710656).2.1 (rdNum s er 281474976710656).2.2 4095 (by decide)
  unfold rdStamp
  dsimp only
  split <;> (dsimp only; omega)
theorem flag_sz (s : ByteArray) (er : Int) : (rdFlag s er).2.1.size ≤ s.size := by
  unfold rdFlag
  split
  · split
    · exact Nat.zero_le _
    · split
      · exact Nat.zero_le _
      · show (s.extract _ _).size ≤ _
        rw [ByteArray.size_extract]
        omega
  · exact Nat.le_refl _
theorem count_sz (s : ByteArray) (er m : Int) (h : 0 ≤ m) : (rdCount s er m).2.1.size ≤ s.size := num_sz _ _ _ (by unfold mx; split <;> omega)
theorem count_le (s : ByteArray) (er m : Int) (h : 0 ≤ m) : 0 ≤ (rdCount s er m).1 ∧ (rdCount s er m).1 ≤ m := by
  have e : mx m 0 = m := by unfold mx; split <;> omega
  unfold rdCount
  rw [e]
  have := rdNum_facts s er m h
  exact ⟨this.1, this.2.1⟩
theorem w_sz (s : ByteArray) (er : Int) : (rdW s er).2.1.size ≤ s.size := Nat.le_trans (text_sz _ _ _ _) (Nat.le_trans (flag_sz _ _) (text_sz _ _ _ _))
theorem lst_sz {α : Type} (one : ByteArray → Int → α × ByteArray × Int) (h : ∀ s er, (one s er).2.1.size ≤ s.size) (n : Nat) : ∀ s er, (lstR one n s er).2.1.size ≤ s.size := by
  induction n with
  | zero => intro s er; exact Nat.le_refl _
  | succ n ih => intro s er; exact Nat.le_trans (ih _ _) (h _ _)
theorem lst_len {α : Type} (one : ByteArray → Int → α × ByteArray × Int) (n : Nat) : ∀ s er, (lstR one n s er).1.length = n := by
  induction n with
  | zero => intro s er; rfl
  | succ n ih => intro s er; show (_ :: _).length = _; rw [List.length_cons, ih]
theorem numOk (s : ByteArray) (er m : Int) (h : 0 ≤ m) (h2 : m ≤ 4294967295) : U32 (rdNum s er m).1 := by
  have := rdNum_facts s er m h
  exact ⟨this.1, by omega⟩
theorem stampOk (s : ByteArray) (er : Int) : U64 (rdStamp s er).1 ∧ U32 (rdStamp s er).2.1 := by
  have h1 := rdNum_facts s er 281474976710656 (by decide)
  have h2 := rdNum_facts (rdNum s er 281474976710656).2.1 (rdNum s er 281474976710656).2.2 4095 (by decide)
  unfold rdStamp
  dsimp only
  split
  · exact ⟨⟨h1.1, by dsimp only; omega⟩, ⟨h2.1, by dsimp only; omega⟩⟩
  · exact ⟨⟨Int.le_refl _, by dsimp only; decide⟩, ⟨Int.le_refl _, by dsimp only; decide⟩⟩
theorem orX_ok (b : Bool) (f : ByteArray → Int → Int × Int × ByteArray × Int) (p q : Int → Prop) (h : ∀ s er, p (f s er).1 ∧ q (f s er).2.1) (h0 : p 0 ∧ q 0) (s : ByteArray) (er : Int) : p (orX b f s er).1 ∧ q (orX b f s er).2.1 := by
  unfold orX
  split
  · exact h s er
  · exact h0
theorem tailOk (k : Int) (hk : 0 ≤ k ∧ k ≤ 9) (s : ByteArray) (er : Int) : EOk (rdTail k s er).1 := by
  have hx := fun b s er => orX_ok b rdX U32 U32 (fun s er => ⟨numOk _ _ _ (by decide) (by decide), numOk _ _ _ (by decide) (by decide)⟩) ⟨⟨by decide, by decide⟩, ⟨by decide, by decide⟩⟩ s er
  have ht := fun b s er => orX_ok b rdStamp U64 U32 stampOk ⟨⟨by decide, by decide⟩, ⟨by decide, by decide⟩⟩ s er
  refine ⟨⟨by show _ ≤ k; omega, by show k ≤ _; omega⟩, (hx _ _ _).1, (hx _ _ _).2, (ht _ _ _).1, (ht _ _ _).2, (ht _ _ _).1, (ht _ _ _).2, (ht _ _ _).1, (ht _ _ _).2, ?_, ?_⟩
  · show 0 ≤ (if hT k = true then _ else _ : Int × ByteArray × Int).1 ∧ (if hT k = true then _ else _ : Int × ByteArray × Int).1 ≤ 255
    split
    · exact ⟨(rdNum_facts _ _ 255 (by decide)).1, (rdNum_facts _ _ 255 (by decide)).2.1⟩
    · exact ⟨Int.le_refl _, by show (0 : Int) ≤ 255; decide⟩
  · have hc : ∀ s er, (rdCount s er 16).1.toNat ≤ 9223372036854775807 := fun s er => by
      have := count_le s er 16 (by decide)
      omega
    show (lstR rdW _ _ _).1.length ≤ _
    rw [lst_len]
    split
    · exact hc _ _
    · show (if hW k = true then (1 : Int) else 0).toNat ≤ _
      split <;> decide
/-- So much is known while a list is being read. -/
structure LSt (w0 w : World) (g : Nat) (s : ByteArray) (er : Int) (W : World) : Prop where
  i : IsS81 w0 W g s er
  b : Below w0.heap.size w0 W
  k : KeepBut w W g none
section
variable {w0 w W W1 : World} {g : Nat} {s s1 : ByteArray} {er er1 : Int}
theorem LSt.call (h : LSt w0 w g s er W) (hl : Left_ w0 W W1 g s1 er1) : LSt w0 w g s1 er1 W1 := ⟨hl.1, hl.2.1, h.k.trans hl.2.2 (.inl rfl)⟩
theorem LSt.other (h : LSt w0 w g s er W) {b : Nat} (hk : KeepBut W W1 b none) (hb : ∀ base w0, base ≤ b → Below base w0 W → Below base w0 W1) (h1 : w0.heap.size ≤ b) (h2 : w.heap.size ≤ b) (h3 : b ≠ g) : LSt w0 w g s er W1 :=
  ⟨⟨blk_keep2 h.i.1 hk (Ne.symm h3), h.i.2⟩, hb _ _ h1 h.b,
   ⟨Nat.le_trans h.k.1 hk.1, fun i hi hg hr => (hk.2 i (Nat.lt_of_lt_of_le hi h.k.1) (by omega) (by simp)).trans (h.k.2 i hi hg hr)⟩⟩
theorem LSt.alloc (h : LSt w0 w g s er W) (o : Obj) : LSt w0 w g s er (W.alloc o) := ⟨h.i.alloc o, below_alloc h.b o, keep_alloc h.k o⟩
theorem LSt.grown (h : LSt w0 w g s er W) (ha : w0.heap.size ≤ w.heap.size) {α : Type} {d : Kd α} {e : TypeId} {ok : Nat → Prop} {v : Value} {xs : List α} (hR : d.R e W w.heap.size ok v xs) (he2 : e ≠ 81)
    (hg : W.grownBy W1 v.ownBlock) (hb : Below w.heap.size W W1) : LSt w0 w g s er W1 :=
  ⟨⟨blk_grown h.i.1 hg (Kd.R_ne hR h.i.1 he2), h.i.2⟩, below_weaken h.b ha hb, h.k.trans (KeepBut.of_grown hg g) (Kd.R_base2 hR)⟩
end
theorem lst_snoc {α : Type} (one : ByteArray → Int → α × ByteArray × Int) : ∀ (i : Nat) (s : ByteArray) (er : Int),
    lstR one (i + 1) s er = ((lstR one i s er).1 ++ [(one (lstR one i s er).2.1 (lstR one i s er).2.2).1], (one (lstR one i s er).2.1 (lstR one i s er).2.2).2.1, (one (lstR one i s er).2.1 (lstR one i s er).2.2).2.2) := by
  intro i
  induction i with
  | zero => intro s er; rfl
  | succ i ih => intro s er; rw [lstR, ih]; rfl
def ListP (w0 w : World) (g : Nat) (r : List S54 × ByteArray × Int) (e : Ending) (w' : World) : Prop := ∃ v, e = .returned v ∧ Kd.R k54 54 w' w.heap.size (fun _ => True) v r.1 ∧ Left_ w0 w w' g r.2.1 r.2.2
set_option maxRecDepth 100000 in
set_option maxHeartbeats 16000000 in
theorem list_calls {w0 w : World} {g : Nat} {s : ByteArray} {er : Int} (N : Nat) (h16 : N ≤ 16) (hs : s.size ≤ 9223372036854775807) (hI : IsS81 w0 w g s er) (hB : Below w0.heap.size w0 w) :
    Calls Try.prog 33 #[.pointer (some ⟨g, 0, none⟩), .int .i64 (N : Int)] w (ListP w0 w g (lstR rdW N s er)) := by
  have HS0 : Hid (LSt w0 w g s er w) := Lib.hid ⟨hI, hB, KeepBut.refl w g none⟩
  have HWW := Lib.hid hB.size
  have HGW : Hid (g < w.heap.size) := Lib.hid (lt_at2 hI.1)
  clear hI hB
  go_enter Try.func33, Try.ntmps33
  go_wp2_with fail
  go_loopg [5, 8] (N + 1) (fun gk v5 v8 wr => ∃ (i : Nat) (A : Option Addr) (L cp : Nat), i ≤ N ∧ v5 = .slice A L cp ∧ v8 = .int .i64 (i : Int) ∧ Aside0 (i + gk = N + 1) ∧ Aside0 (Kd.R k54 54 wr w.heap.size (fun _ => True) (.slice A L cp) (lstR rdW i s er).1) ∧ Aside0 (LSt w0 w g (lstR rdW i s er).2.1 (lstR rdW i s er).2.2 wr))
  case atStart => exact ⟨0, none, 0, 0, Nat.zero_le _, rfl, rfl, ⟨by omega⟩, ⟨Kd.R_nil _ _ _ _ _⟩, ⟨HS0.out⟩⟩
  case round =>
  obtain ⟨i, A, L, cp, hi, rfl, rfl, ⟨hgk⟩, ⟨hR⟩, ⟨hS⟩⟩ := hrel
  have HG := Lib.hid hgk
  have hsl := lst_sz rdW w_sz i s er
  have hll := lst_len rdW i s er
  obtain ⟨r, hr⟩ : ∃ r, r = lstR rdW i s er := ⟨_, rfl⟩
  rw [← hr] at hR hS hsl hll
  have ER := Lib.hid hr
  have HR1 := Lib.hid hR
  have HS1 := Lib.hid hS
  have HLX := Lib.hid hll
  clear hgk hR hS hr hll HS0
  by_cases hlt : i < N
  · as_aux_lemma =>
      go_wp2_with fail
      refine (rtext 1 32 HS1.out.i HS1.out.b (by omega) (by decide) (by decide)).mono ?_
      rintro e w2 ⟨rfl, hl⟩
      have HR2 := Lib.hid (R_thru2 HR1.out HS1.out.i.1 (by decide) hl.2.2)
      have zp := text_sz r.2.1 r.2.2 1 32
      obtain ⟨p, hp⟩ : ∃ x, x = rdText r.2.1 r.2.2 1 32 := ⟨_, rfl⟩
      rw [← hp] at hl zp ⊢
      have EP := Lib.hid hp
      have HS2 := Lib.hid (HS1.out.call hl)
      clear hl hp HS1 HR1
      have HX2a := Lib.hid (heap_alloc_new w2 (.cells #[.string ⟨#[]⟩, .string ⟨#[]⟩, .bool false] 54))
      have HS2a := Lib.hid (HS2.out.alloc (.cells #[.string ⟨#[]⟩, .string ⟨#[]⟩, .bool false] 54))
      have HR2a := Lib.hid (R_apart2 HR2.out (.cells #[.string ⟨#[]⟩, .string ⟨#[]⟩, .bool false] 54))
      have H36 : Hid (w0.heap.size ≤ w2.heap.size) := Lib.hid HS2.out.b.size
      have H37 : Hid (w.heap.size ≤ w2.heap.size) := Lib.hid HS2.out.k.1
      have HNG : Hid (w2.heap.size ≠ g) := Lib.hid (by have := lt_at2 HS2.out.i.1; omega)
      clear HS2 HR2
      go_wp2_with ((with_reducible refine gate_store (t := 54) (p := 6) (v := .tmp 12) rfl ?_); refine store_ev2 (P := Try.prog) rfl 54 (.tmp 6) (.tmp 12) rfl rfl w2.heap.size 0 (.agg #[.string p.1, .string ⟨#[]⟩, .bool false]) #[.string p.1, .string ⟨#[]⟩, .bool false] rfl rfl rfl 54 _ #[.string p.1, .string ⟨#[]⟩, .bool false] HX2a.out (by kernel_rfl) (by show 0 + 3 ≤ 3; decide) (by kernel_rfl) (by kernel_rfl) ?_; intro w3 hq hk hb; have HX3 := Lib.hid hq; have HR3 := Lib.hid (R_keep2 HR2a.out hk); have HS3 := Lib.hid (HS2a.out.other hk hb H36.out H37.out HNG.out); clear hq hk hb)
      clear HX2a HS2a HR2a
      generalize w2.heap.size = b6 at *
      refine (rflag HS3.out.i HS3.out.b).mono ?_
      rintro e w4 ⟨rfl, hl⟩
      have HR4 := Lib.hid (R_thru2 HR3.out HS3.out.i.1 (by decide) hl.2.2)
      have HX4 := Lib.hid (blk_keep2 HX3.out hl.2.2 HNG.out)
      have zq := flag_sz p.2.1 p.2.2
      obtain ⟨q, hq⟩ : ∃ x, x = rdFlag p.2.1 p.2.2 := ⟨_, rfl⟩
      rw [← hq] at hl zq ⊢
      have EQ := Lib.hid hq
      have HS4 := Lib.hid (HS3.out.call hl)
      clear hl hq HS3 HR3 HX3
      go_wp2_with ((with_reducible refine gate_store (t := 4) (p := 15) (v := .tmp 14) rfl ?_); refine store_ev2 (P := Try.prog) rfl 4 (.tmp 15) (.tmp 14) rfl rfl b6 2 (.bool q.1) #[.bool q.1] rfl rfl rfl 54 _ #[.string p.1, .string ⟨#[]⟩, .bool q.1] HX4.out (by kernel_rfl) (by show 2 + 1 ≤ 3; decide) (by kernel_rfl) (by kernel_rfl) ?_; intro w5 hq hk hb; have HX5 := Lib.hid hq; have HR5 := Lib.hid (R_keep2 HR4.out hk); have HS5 := Lib.hid (HS4.out.other hk hb H36.out H37.out HNG.out); clear hq hk hb)
      clear HX4 HS4 HR4
      refine (rtext 0 256 HS5.out.i HS5.out.b (by omega) (by decide) (by decide)).mono ?_
      rintro e w6 ⟨rfl, hl⟩
      have HR6 := Lib.hid (R_thru2 HR5.out HS5.out.i.1 (by decide) hl.2.2)
      have HX6 := Lib.hid (blk_keep2 HX5.out hl.2.2 HNG.out)
      obtain ⟨u, hu⟩ : ∃ x, x = rdText q.2.1 q.2.2 0 256 := ⟨_, rfl⟩
      rw [← hu] at hl ⊢
      have EU := Lib.hid hu
      have HS6 := Lib.hid (HS5.out.call hl)
      clear hl hu HS5 HR5 HX5
      go_wp2_with (first | ((with_reducible refine gate_store (t := 9) (p := 18) (v := .tmp 17) rfl ?_); refine store_ev2 (P := Try.prog) rfl 9 (.tmp 18) (.tmp 17) rfl rfl b6 1 (.string u.1) #[.string u.1] rfl rfl rfl 54 _ #[.string p.1, .string u.1, .bool q.1] HX6.out (by kernel_rfl) (by show 1 + 1 ≤ 3; decide) (by kernel_rfl) (by kernel_rfl) ?_; intro w7 hq hk hb; have HX7 := Lib.hid hq; have HR7 := Lib.hid (R_keep2 HR6.out hk); have HS7 := Lib.hid (HS6.out.other hk hb H36.out H37.out HNG.out); clear hq hk hb) | ((with_reducible refine gate_dst (N := 20) rfl ?_); refine wpList_load_row rfl 54 (.tmp 6) rfl b6 rfl 54 _ (0, 0) _ HX7.out Try.underlying54 rfl (by kernel_rfl) ?_) | ((with_reducible refine gate_dst (N := 22) rfl ?_); refine Kd.R_append k54 w.heap.size rfl (.tmp 19) (.tmp 21) 28 54 (.agg #[(.string ⟨#[]⟩), (.string ⟨#[]⟩), (.bool false)]) 40 rfl Try.underlying28 info54 rfl (by decide) (by omega) (.slice A L cp) r.1 (⟨p.1, u.1, q.1⟩ : S54) [.string p.1, .string u.1, .bool q.1] (fun _ => True) (fun _ => False) rfl rfl ?aP (fun _ hk => hk.elim) (fun _ _ => trivial) (R_free2 HR7.out) (Below.refl _ _) (keep_size HS7.out.k) ?aL ?_; (case aP => exact k54_mkM _ _ _ (⟨p.1, u.1, q.1⟩ : S54)); (case aL => have := HLX.out; omega); intro v8 w8 hR hb hg hat; have HS8 := Lib.hid (HS7.out.grown HWW.out (R_free2 HR7.out) (by decide) hg hb); obtain ⟨A8, c8, e8, hz8, _⟩ := Kd.R_reads hR; obtain rfl := e8.trans (congrArg (fun n => Value.slice A8 n c8) (List.length_append : (r.1 ++ [(⟨p.1, u.1, q.1⟩ : S54)]).length = r.1.length + 1)); have HR8 := Lib.hid hR; clear e8 hz8 hR hb hg hat))
      go_roundg (gk - 1)
      case measure => have := HG.out; omega
      have hs : lstR rdW (i + 1) s er = (r.1 ++ [(⟨p.1, u.1, q.1⟩ : S54)], u.2.1, u.2.2) := by rw [lst_snoc, ← ER.out]; simp only [rdW, ← EP.out, ← EQ.out, ← EU.out]
      case rel => exact ⟨i + 1, A8, _, c8, by omega, rfl, by go_num, ⟨by have := HG.out; omega⟩, ⟨by rw [hs]; exact HR8.out⟩, ⟨by rw [hs]; exact HS8.out⟩⟩
  · as_aux_lemma =>
      obtain rfl : i = N := by omega
      have HE : Hid (ListP w0 w g (lstR rdW i s er) (.returned (.slice A L cp)) wr) := Lib.hid ⟨_, rfl, by rw [← ER.out]; exact HR1.out, by rw [← ER.out]; exact ⟨HS1.out.i, HS1.out.b, HS1.out.k⟩⟩
      go_wp2_with fail
      go_ret
      exact HE.out
set_option maxHeartbeats 1000000 in
theorem clip_calls (A : Option Addr) (n c : Nat) (w : World) (hn : n ≤ c) (hz : c ≤ 9223372036854775807) (h0 : A = none → n = 0 ∧ c = 0) :
    Calls Try.prog 37 #[.slice A n c] w fun e w' => e = .returned (.slice A n n) ∧ w' = w := by
  have hz2 : (c : Int) ≤ 9223372036854775807 := by omega
  have hn2 : (n : Int) ≤ c := by omega
  cases A with
  | none =>
    obtain ⟨rfl, rfl⟩ := h0 rfl
    go_enter Try.func37, Try.ntmps37
    go_wp2
    go_ret
    exact ⟨rfl, rfl⟩
  | some ad =>
    go_enter Try.func37, Try.ntmps37
    go_wp2
    all_goals go_ret
    all_goals exact ⟨rfl, rfl⟩
theorem R_clip {W : World} {base e : Nat} {ok : Nat → Prop} {A : Option Addr} {n c : Nat} {xs : List S54} (h : Kd.R k54 e W base ok (.slice A n c) xs) : c ≤ 9223372036854775807 ∧ (A = none → n = 0 ∧ c = 0) := by
  obtain ⟨inner, ho⟩ := Kd.R_own h
  rcases ho.2 with ⟨hv, _⟩ | ⟨g, cap, cur, hv, _, _, _, hm, _⟩
  · injection hv with h1 h2 h3
    subst h2 h3
    exact ⟨by omega, fun _ => ⟨rfl, rfl⟩⟩
  · injection hv with h1 h2 h3
    subst h3
    unfold maxLen at hm
    exact ⟨hm, fun h => by rw [h1] at h; cases h⟩
end Go.Proofs.Ytblabgdkbcphkaa
