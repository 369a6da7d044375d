/- Entries and their bytes: what was written is read as it was; what was read is written as just these bytes. No program in sight. -/
import Derived.Test.YtblabgdkbcphkaaEi
set_option linter.unusedVariables false
set_option linter.unusedSimpArgs false
set_option linter.constructorNameAsVariable false
namespace Go.Proofs.Ytblabgdkbcphkaa
open Go.RowKit Go.Proofs.YtblabgdkbcphkaaW.PrintWords Go.Proofs.Ytblabgdkbcphkaa.PEs Go.Proofs.Ytblabgdkbcphkaa.PRd
def pX (b : Bool) (x y : Int) : ByteArray := if b = true then encB x ++ encB y else ByteArray.empty
/-- What stands behind the kind. -/
def tailB (e : En) : ByteArray := pX (hB e.k) e.bc e.bn ++ (pX (hS e.k) e.sp e.sl ++ (pX (hM e.k) e.mp e.ml ++ (pX (hA e.k) e.ap e.al ++ ((if hM e.k = true then txE e.pr ++ encB e.ws.length else ByteArray.empty) ++ (encs encW e.ws ++ ((if hT e.k = true then encB e.parts else ByteArray.empty) ++ (if hD e.k = true then encF e.done else ByteArray.empty)))))))
theorem encE_eq (e : En) : encE e = encB e.k ++ tailB e := by
  unfold encE tailB pX
  simp only [ByteArray.append_assoc]
/-- What lies in just the fields of the kind. -/
structure Fits (e : En) : Prop where
  k : 1 ≤ e.k ∧ e.k ≤ 9
  b : U32 e.bc ∧ U32 e.bn
  bz : hB e.k = false → e.bc = 0 ∧ e.bn = 0
  s : (0 ≤ e.sp ∧ e.sp ≤ 281474976710656) ∧ (0 ≤ e.sl ∧ e.sl ≤ 4095)
  sz : hS e.k = false → e.sp = 0 ∧ e.sl = 0
  m : (0 ≤ e.mp ∧ e.mp ≤ 281474976710656) ∧ (0 ≤ e.ml ∧ e.ml ≤ 4095)
  mz : hM e.k = false → e.mp = 0 ∧ e.ml = 0
  a : (0 ≤ e.ap ∧ e.ap ≤ 281474976710656) ∧ (0 ≤ e.al ∧ e.al ≤ 4095)
  az : hA e.k = false → e.ap = 0 ∧ e.al = 0
  p : hM e.k = true → 1 ≤ e.pr.size ∧ e.pr.size ≤ 32
  pz : hM e.k = false → e.pr = ⟨#[]⟩
  w : e.ws.length ≤ 16 ∧ ∀ x ∈ e.ws, (1 ≤ x.f0.size ∧ x.f0.size ≤ 32) ∧ x.f1.size ≤ 256
  w1 : hM e.k = false → (e.ws.length : Int) = if hW e.k = true then 1 else 0
  t : 0 ≤ e.parts ∧ e.parts ≤ 255
  tz : hT e.k = false → e.parts = 0
  dz : hD e.k = false → e.done = false
theorem z_eq {x : Int} (h : z x = true) : x = 0 := by unfold z at h; simpa using h
theorem e0_eq {s : ByteArray} (h : e0 s = true) : s = ⟨#[]⟩ := by
  unfold e0 at h
  have h1 : s.toList = [] := by simpa using h
  have h2 : s.size = 0 := by rw [← tl_size, h1]; rfl
  exact size0 h2
theorem fits_of (e : En) (hok : EOk e) (hr : rightE e = true) : Fits e := by
  obtain ⟨hk, ho, h1, h2, h3, _⟩ := right_facts e hr
  have hws := right_ws e hr
  unfold okE at ho
  simp only [Bool.and_eq_true] at ho
  obtain ⟨⟨⟨⟨⟨⟨⟨o1, o2⟩, o3⟩, o4⟩, o5⟩, o6⟩, o7⟩, o8⟩ := ho
  refine ⟨hk, ⟨hok.bc, hok.bn⟩, ?_, ⟨⟨hok.sp.1, h1.1⟩, ⟨hok.sl.1, h1.2⟩⟩, ?_, ⟨⟨hok.mp.1, h3.1⟩, ⟨hok.ml.1, h3.2⟩⟩, ?_, ⟨⟨hok.ap.1, h2.1⟩, ⟨hok.al.1, h2.2⟩⟩, ?_, ?_, ?_, hws, ?_, hok.parts, ?_, ?_⟩
  · intro h; rw [h, Bool.false_or, Bool.and_eq_true] at o1; exact ⟨z_eq o1.1, z_eq o1.2⟩
  · intro h; rw [h, Bool.false_or, Bool.and_eq_true] at o2; exact ⟨z_eq o2.1, z_eq o2.2⟩
  · intro h; rw [h, Bool.false_or, Bool.and_eq_true] at o3; exact ⟨z_eq o3.1, z_eq o3.2⟩
  · intro h; rw [h, Bool.false_or, Bool.and_eq_true] at o4; exact ⟨z_eq o4.1, z_eq o4.2⟩
  · intro h; exact (right_pr e hr (by unfold hM at h; simpa using h)).1
  · intro h; rw [h, Bool.false_or] at o5; exact e0_eq o5
  · intro h
    cases hw : hW e.k with
    | false => rw [right_nows e hr hw]; rfl
    | true =>
      have h8 : e.k = 8 := by
        unfold hW at hw
        unfold hM at h
        simp only [Bool.or_eq_true, decide_eq_true_eq] at hw
        rw [decide_eq_false_iff_not] at h
        rcases hw with hw | hw
        · exact absurd hw h
        · exact hw
      rw [(right_one e hr h8).1]; rfl
  · intro h; rw [h, Bool.false_or] at o7; exact z_eq o7
  · intro h; rw [h, Bool.false_or] at o8; simpa using o8
theorem orX_x (b : Bool) (x y : Int) (t : ByteArray) (h : U32 x ∧ U32 y) (h0 : b = false → x = 0 ∧ y = 0) : orX b rdX (pX b x y ++ t) 0 = (x, y, t, 0) := by
  obtain ⟨⟨h1, h2⟩, ⟨h3, h4⟩⟩ := h
  cases b with
  | true =>
    unfold orX pX rdX
    rw [if_pos rfl, if_pos rfl, ByteArray.append_assoc, rdNum_enc x 4294967295 _ h1 (by omega) h2]
    dsimp only
    rw [rdNum_enc y 4294967295 _ h3 (by omega) h4]
  | false =>
    obtain ⟨rfl, rfl⟩ := h0 rfl
    unfold orX pX
    rw [if_neg (by decide), if_neg (by decide), ByteArray.empty_append]
theorem orX_s (b : Bool) (x y : Int) (t : ByteArray) (h : (0 ≤ x ∧ x ≤ 281474976710656) ∧ (0 ≤ y ∧ y ≤ 4095)) (h0 : b = false → x = 0 ∧ y = 0) : orX b rdStamp (pX b x y ++ t) 0 = (x, y, t, 0) := by
  obtain ⟨⟨h1, h2⟩, ⟨h3, h4⟩⟩ := h
  cases b with
  | true =>
    unfold orX pX
    rw [if_pos rfl, if_pos rfl, rdStamp_enc x y t h1 h2 h3 h4]
  | false =>
    obtain ⟨rfl, rfl⟩ := h0 rfl
    unfold orX pX
    rw [if_neg (by decide), if_neg (by decide), ByteArray.empty_append]
theorem rdTx_enc (x t : ByteArray) (lo m : Int) (hl : lo ≤ x.size) (h : (x.size : Int) ≤ m) (h2 : x.size ≤ 9223372036854775807) : rdText (txE x ++ t) 0 lo m = (x, t, 0) := rdText_enc x t lo m h2 hl h
theorem rdW_enc (x : S54) (t : ByteArray) (h : (1 ≤ x.f0.size ∧ x.f0.size ≤ 32) ∧ x.f1.size ≤ 256) : rdW (encW x ++ t) 0 = (x, t, 0) := by
  unfold rdW encW
  rw [ByteArray.append_assoc, ByteArray.append_assoc, rdTx_enc x.f0 _ 1 32 (by omega) (by omega) (by omega)]
  dsimp only
  rw [rdFlag_enc]
  dsimp only
  rw [rdTx_enc x.f1 _ 0 256 (by omega) (by omega) (by omega)]
theorem lstR_enc {α : Type} (f : α → ByteArray) (one : ByteArray → Int → α × ByteArray × Int) (ok : α → Prop) (h1 : ∀ x t, ok x → one (f x ++ t) 0 = (x, t, 0)) : ∀ (l : List α) (t : ByteArray), (∀ x ∈ l, ok x) → lstR one l.length (encs f l ++ t) 0 = (l, t, 0) := by
  intro l
  induction l with
  | nil => intro t _; show ([], encs f [] ++ t, (0 : Int)) = _; rw [encs, ByteArray.empty_append]
  | cons x l ih =>
    intro t h
    rw [List.length_cons, lstR, encs, ByteArray.append_assoc, h1 x _ (h x (List.mem_cons_self ..))]
    dsimp only
    rw [ih t fun y hy => h y (List.mem_cons_of_mem _ hy)]
theorem rdTail_enc (e : En) (F : Fits e) (t : ByteArray) : rdTail e.k (tailB e ++ t) 0 = (e, t, 0) := by
  obtain ⟨hk, hb, hbz, hs, hsz, hm, hmz, ha, haz, hp, hpz, hw, hw1, ht, htz, hdz⟩ := F
  obtain ⟨k, bc, bn, sp, sl, ap, al, mp, ml, pr, parts, done, ws⟩ := e
  dsimp only at *
  unfold rdTail tailB
  dsimp only
  simp only [ByteArray.append_assoc]
  rw [orX_x (hB k) bc bn _ hb hbz]
  dsimp only
  rw [orX_s (hS k) sp sl _ hs hsz]
  dsimp only
  rw [orX_s (hM k) mp ml _ hm hmz]
  dsimp only
  rw [orX_s (hA k) ap al _ ha haz]
  dsimp only
  have hl := fun t => lstR_enc encW rdW (fun x => (1 ≤ x.f0.size ∧ x.f0.size ≤ 32) ∧ x.f1.size ≤ 256) rdW_enc ws t hw.2
  have hpn : ∀ u : ByteArray, (let p := if hM k = true then rdText ((if hM k = true then txE pr ++ encB (ws.length : Int) else ByteArray.empty) ++ u) 0 1 32 else ((⟨#[]⟩ : ByteArray), (if hM k = true then txE pr ++ encB (ws.length : Int) else ByteArray.empty) ++ u, (0 : Int));
      (p.1, (if hM k = true then rdCount p.2.1 p.2.2 16 else (if hW k = true then (1 : Int) else 0, p.2.1, p.2.2)))) = (pr, ((ws.length : Int), u, 0)) := by
    intro u
    cases hc : hM k with
    | true =>
      have hq := hp hc
      simp only [if_true]
      rw [ByteArray.append_assoc, rdTx_enc pr _ 1 32 (by omega) (by omega) (by omega)]
      dsimp only
      have e : mx 16 0 = 16 := by decide
      unfold rdCount
      rw [e, rdNum_enc (ws.length : Int) 16 _ (by omega) (by omega) (by omega)]
    | false =>
      simp only [Bool.false_eq_true, if_false]
      rw [ByteArray.empty_append, hpz hc, hw1 hc]
  have hpu := hpn (encs encW ws ++ ((if hT k = true then encB parts else ByteArray.empty) ++ ((if hD k = true then encF done else ByteArray.empty) ++ t)))
  dsimp only at hpu
  simp only [Prod.mk.injEq] at hpu
  obtain ⟨g1, g2⟩ := hpu
  rw [g1, g2]
  dsimp only
  rw [Int.toNat_natCast, hl]
  dsimp only
  have hq : (if hT k = true then rdNum ((if hT k = true then encB parts else ByteArray.empty) ++ ((if hD k = true then encF done else ByteArray.empty) ++ t)) 0 255 else (0, (if hT k = true then encB parts else ByteArray.empty) ++ ((if hD k = true then encF done else ByteArray.empty) ++ t), 0)) = (parts, ((if hD k = true then encF done else ByteArray.empty) ++ t), 0) := by
    cases hc : hT k with
    | true => simp only [if_true]; rw [rdNum_enc parts 255 _ ht.1 (by omega) ht.2]
    | false => simp only [Bool.false_eq_true, if_false]; rw [ByteArray.empty_append, htz hc]
  rw [hq]
  dsimp only
  have hx : (if hD k = true then rdFlag ((if hD k = true then encF done else ByteArray.empty) ++ t) 0 else (false, (if hD k = true then encF done else ByteArray.empty) ++ t, 0)) = (done, t, 0) := by
    cases hc : hD k with
    | true => simp only [if_true]; rw [rdFlag_enc]
    | false => simp only [Bool.false_eq_true, if_false]; rw [ByteArray.empty_append, hdz hc]
  rw [hx]
/-- What was written is read as it was, whatever stands behind it. -/
theorem rdE_enc (e : En) (F : Fits e) (t : ByteArray) : rdE (encE e ++ t) = (e, t, 0) := by
  unfold rdE
  rw [encE_eq, ByteArray.append_assoc, rdNum_enc e.k 9 _ (by have := F.k; omega) (by have := F.k; omega) F.k.2]
  exact rdTail_enc e F t
theorem end0 : rdEnd ByteArray.empty 0 = 0 := by decide
theorem read_enc (e : En) (hok : EOk e) (hr : rightE e = true) : readE (encE e) = (e, 0) := by
  have h := rdE_enc e (fits_of e hok hr) ByteArray.empty
  rw [ByteArray.append_empty] at h
  unfold readE
  rw [h]
  dsimp only
  rw [end0, if_pos rfl, if_pos hr]
/-! The other way round. -/
theorem enc_size (e : En) (F : Fits e) : (encE e).size ≤ 7000 := by
  have hx : ∀ b x y, (0 ≤ x ∧ x ≤ 18446744073709551615) → (0 ≤ y ∧ y ≤ 18446744073709551615) → (pX b x y).size ≤ 18 := by
    intro b x y h1 h2
    have := bz x h1
    have := bz y h2
    unfold pX
    split
    · rw [ByteArray.size_append]; omega
    · exact Nat.zero_le _
  have h1 := hx (hB e.k) e.bc e.bn ⟨F.b.1.1, by have := F.b.1.2; omega⟩ ⟨F.b.2.1, by have := F.b.2.2; omega⟩
  have h2 := hx (hS e.k) e.sp e.sl ⟨F.s.1.1, by have := F.s.1.2; omega⟩ ⟨F.s.2.1, by have := F.s.2.2; omega⟩
  have h3 := hx (hM e.k) e.mp e.ml ⟨F.m.1.1, by have := F.m.1.2; omega⟩ ⟨F.m.2.1, by have := F.m.2.2; omega⟩
  have h4 := hx (hA e.k) e.ap e.al ⟨F.a.1.1, by have := F.a.1.2; omega⟩ ⟨F.a.2.1, by have := F.a.2.2; omega⟩
  have h5 : (if hM e.k = true then txE e.pr ++ encB e.ws.length else ByteArray.empty).size ≤ 50 := by
    split
    · rename_i h
      have := tz e.pr 32 (F.p h).2 (by omega)
      have := bz (e.ws.length : Int) ⟨by omega, by have := F.w.1; omega⟩
      rw [ByteArray.size_append]
      omega
    · exact Nat.zero_le _
  have h6 := encs_size encW 400 e.ws (fun x hx => encW_size x ⟨(F.w.2 x hx).1.2, (F.w.2 x hx).2⟩)
  have h7 : e.ws.length * 400 ≤ 16 * 400 := Nat.mul_le_mul_right _ F.w.1
  have h8 : (if hT e.k = true then encB e.parts else ByteArray.empty).size ≤ 9 := by
    split
    · exact bz e.parts ⟨F.t.1, by have := F.t.2; omega⟩
    · exact Nat.zero_le _
  have h9 : (if hD e.k = true then encF e.done else ByteArray.empty).size ≤ 9 := by
    split
    · rw [encF_size]; omega
    · exact Nat.zero_le _
  have h0 := bz e.k ⟨by have := F.k; omega, by have := F.k; omega⟩
  rw [encE_eq]
  unfold tailB
  simp only [ByteArray.size_append]
  omega
end Go.Proofs.Ytblabgdkbcphkaa
