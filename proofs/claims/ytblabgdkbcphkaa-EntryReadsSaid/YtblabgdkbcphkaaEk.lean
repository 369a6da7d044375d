/- Entries and their bytes: what was written is read as it was; what was read is written as just these bytes. No program in sight. -/
import Derived.Test.YtblabgdkbcphkaaEi
set_option linter.unusedVariables false
set_option linter.unusedSimpArgs false
set_option linter.constructorNameAsVariable false
namespace Go.Proofs.Ytblabgdkbcphkaa
open Go.RowKit Go.Proofs.YtblabgdkbcphkaaW.PrintWords Go.Proofs.Ytblabgdkbcphkaa.PEs Go.Proofs.Ytblabgdkbcphkaa.PRd
def pX (b : Bool) (x y : Int) : ByteArray := if b = true then encB x ++ encB y else ByteArray.empty
/-- What stands behind the kind. -/
def tailB (e : En) : ByteArray := pX (hB e.k) e.bc e.bn ++ (pX (hS e.k) e.sp e.sl ++ (pX (hM e.k) e.mp e.ml ++ (pX (hA e.k) e.ap e.al ++ ((if hM e.k = true then txE e.pr ++ encB e.ws.length else ByteArray.empty) ++ (encs encW e.ws ++ ((if hT e.k = true then encB e.parts else ByteArray.empty) ++ (if hD e.k = true then encF e.done else ByteArray.empty)))))))
theorem encE_eq (e : En) : encE e = encB e.k ++ tailB e := by
  unfold encE tailB pX
  simp only [ByteArray.append_assoc]
theorem z_eq {x : Int} (h : z x = true) : x = 0 := by unfold z at h; simpa using h
theorem e0_eq {s : ByteArray} (h : e0 s = true) : s = ⟨#[]⟩ := by
  unfold e0 at h
  have h1 : s.toList = [] := by simpa using h
  have h2 : s.size = 0 := by rw [← tl_size, h1]; rfl
  exact size0 h2
/-! The other way round. -/
theorem i_num (s : ByteArray) (er m : Int) (h : (rdNum s er m).2.2 = 0) : er = 0 ∧ s = encB (rdNum s er m).1 ++ (rdNum s er m).2.1 := ⟨(rdNum_inv s er m h).1, (rdNum_inv s er m h).2.1⟩
theorem i_text (s : ByteArray) (er lo hi : Int) (h : (rdText s er lo hi).2.2 = 0) : er = 0 ∧ s = txE (rdText s er lo hi).1 ++ (rdText s er lo hi).2.1 := ⟨(rdText_inv s er lo hi h).1, (rdText_inv s er lo hi h).2.1⟩
theorem i_count (s : ByteArray) (er m : Int) (h : (rdCount s er m).2.2 = 0) : er = 0 ∧ s = encB (rdCount s er m).1 ++ (rdCount s er m).2.1 := i_num _ _ _ h
theorem i_x (b : Bool) (s : ByteArray) (er : Int) (h : (orX b rdX s er).2.2.2 = 0) : er = 0 ∧ s = pX b (orX b rdX s er).1 (orX b rdX s er).2.1 ++ (orX b rdX s er).2.2.1 := by
  cases b with
  | true =>
    unfold orX pX at *
    rw [if_pos rfl] at h ⊢
    rw [if_pos rfl]
    unfold rdX at *
    dsimp only at *
    obtain ⟨h1, h2⟩ := i_num _ _ _ h
    obtain ⟨h3, h4⟩ := i_num _ _ _ h1
    refine ⟨h3, ?_⟩
    rw [ByteArray.append_assoc, ← h2]
    exact h4
  | false =>
    unfold orX pX at *
    rw [if_neg (by decide)] at h ⊢
    rw [if_neg (by decide)]
    exact ⟨h, by rw [ByteArray.empty_append]⟩
theorem i_s (b : Bool) (s : ByteArray) (er : Int) (h : (orX b rdStamp s er).2.2.2 = 0) : er = 0 ∧ s = pX b (orX b rdStamp s er).1 (orX b rdStamp s er).2.1 ++ (orX b rdStamp s er).2.2.1 := by
  cases b with
  | true =>
    unfold orX pX at *
    rw [if_pos rfl] at h ⊢
    rw [if_pos rfl]
    exact ⟨(rdStamp_inv s er h).1, (rdStamp_inv s er h).2.1⟩
  | false =>
    unfold orX pX at *
    rw [if_neg (by decide)] at h ⊢
    rw [if_neg (by decide)]
    exact ⟨h, by rw [ByteArray.empty_append]⟩
theorem i_w (s : ByteArray) (er : Int) (h : (rdW s er).2.2 = 0) : er = 0 ∧ s = encW (rdW s er).1 ++ (rdW s er).2.1 := by
  unfold rdW at *
  dsimp only at *
  obtain ⟨h1, h2⟩ := i_text _ _ _ _ h
  have h3 := rdFlag_inv _ _ h1
  obtain ⟨h5, h6⟩ := i_text _ _ _ _ h3.1
  refine ⟨h5, ?_⟩
  unfold encW
  dsimp only
  rw [ByteArray.append_assoc, ByteArray.append_assoc, ← h2, ← h3.2]
  exact h6
theorem i_lst {α : Type} (f : α → ByteArray) (one : ByteArray → Int → α × ByteArray × Int) (h1 : ∀ s er, (one s er).2.2 = 0 → er = 0 ∧ s = f (one s er).1 ++ (one s er).2.1) : ∀ (n : Nat) (s : ByteArray) (er : Int), (lstR one n s er).2.2 = 0 → er = 0 ∧ s = encs f (lstR one n s er).1 ++ (lstR one n s er).2.1 := by
  intro n
  induction n with
  | zero => intro s er h; exact ⟨h, by show s = encs f [] ++ s; rw [encs, ByteArray.empty_append]⟩
  | succ n ih =>
    intro s er h
    obtain ⟨h2, h3⟩ := ih _ _ h
    obtain ⟨h4, h5⟩ := h1 _ _ h2
    refine ⟨h4, ?_⟩
    show s = encs f ((one s er).1 :: _) ++ _
    rw [encs, ByteArray.append_assoc]
    exact h5.trans (congrArg (f (one s er).1 ++ ·) h3)
theorem i_opt {α : Type} (b : Bool) (f : ByteArray → Int → α × ByteArray × Int) (g : α → ByteArray) (d : α) (hf : ∀ s er, (f s er).2.2 = 0 → er = 0 ∧ s = g (f s er).1 ++ (f s er).2.1) (s : ByteArray) (er : Int) (h : (if b = true then f s er else (d, s, er)).2.2 = 0) :
    er = 0 ∧ s = (if b = true then g (if b = true then f s er else (d, s, er)).1 else ByteArray.empty) ++ (if b = true then f s er else (d, s, er)).2.1 := by
  cases b with
  | true => simp only [if_true] at *; exact hf s er h
  | false => simp only [Bool.false_eq_true, if_false] at *; exact ⟨h, by rw [ByteArray.empty_append]⟩
theorem i_tail (k : Int) (s : ByteArray) (er : Int) (h : (rdTail k s er).2.2 = 0) : er = 0 ∧ s = tailB (rdTail k s er).1 ++ (rdTail k s er).2.1 := by
  unfold rdTail at *
  dsimp only at *
  obtain ⟨b, hb⟩ : ∃ x, x = orX (hB k) rdX s er := ⟨_, rfl⟩
  rw [← hb] at h ⊢
  obtain ⟨c, hc⟩ : ∃ x, x = orX (hS k) rdStamp b.2.2.1 b.2.2.2 := ⟨_, rfl⟩
  rw [← hc] at h ⊢
  obtain ⟨d, hd⟩ : ∃ x, x = orX (hM k) rdStamp c.2.2.1 c.2.2.2 := ⟨_, rfl⟩
  rw [← hd] at h ⊢
  obtain ⟨e, he⟩ : ∃ x, x = orX (hA k) rdStamp d.2.2.1 d.2.2.2 := ⟨_, rfl⟩
  rw [← he] at h ⊢
  obtain ⟨p, hp⟩ : ∃ x, x = (if hM k = true then rdText e.2.2.1 e.2.2.2 1 32 else (⟨#[]⟩, e.2.2.1, e.2.2.2)) := ⟨_, rfl⟩
  rw [← hp] at h ⊢
  obtain ⟨n, hn⟩ : ∃ x, x = (if hM k = true then rdCount p.2.1 p.2.2 16 else (if hW k = true then 1 else 0, p.2.1, p.2.2)) := ⟨_, rfl⟩
  rw [← hn] at h ⊢
  obtain ⟨l, hl⟩ : ∃ x, x = lstR rdW n.1.toNat n.2.1 n.2.2 := ⟨_, rfl⟩
  rw [← hl] at h ⊢
  obtain ⟨t, ht⟩ : ∃ x, x = (if hT k = true then rdNum l.2.1 l.2.2 255 else (0, l.2.1, l.2.2)) := ⟨_, rfl⟩
  rw [← ht] at h ⊢
  obtain ⟨x, hx⟩ : ∃ x, x = (if hD k = true then rdFlag t.2.1 t.2.2 else (false, t.2.1, t.2.2)) := ⟨_, rfl⟩
  rw [← hx] at h ⊢
  have jx := i_opt (hD k) rdFlag encF false rdFlag_inv t.2.1 t.2.2 (by rw [← hx]; exact h)
  rw [← hx] at jx
  have jt := i_opt (hT k) (fun s er => rdNum s er 255) encB 0 (fun s er => i_num s er 255) l.2.1 l.2.2 (by rw [← ht]; exact jx.1)
  try dsimp only at jt
  rw [← ht] at jt
  have jl := i_lst encW rdW i_w n.1.toNat n.2.1 n.2.2 (by rw [← hl]; exact jt.1)
  rw [← hl] at jl
  have hll : l.1.length = n.1.toNat := by rw [hl]; exact lst_len _ _ _ _
  have jn : e.2.2.2 = 0 ∧ e.2.2.1 = (if hM k = true then txE p.1 ++ encB (l.1.length : Int) else ByteArray.empty) ++ n.2.1 := by
    cases hm : hM k with
    | true =>
      rw [hm, if_pos rfl] at hp hn
      rw [if_pos rfl]
      have h1 := i_count p.2.1 p.2.2 16 (by rw [← hn]; exact jl.1)
      rw [← hn] at h1
      have h2 := i_text e.2.2.1 e.2.2.2 1 32 (by rw [← hp]; exact h1.1)
      rw [← hp] at h2
      refine ⟨h2.1, ?_⟩
      have h3 := count_le p.2.1 p.2.2 16 (by decide)
      rw [← hn] at h3
      rw [hll, Int.toNat_of_nonneg h3.1, ByteArray.append_assoc, ← h1.2]
      exact h2.2
    | false =>
      rw [hm, if_neg (by decide)] at hp hn
      rw [if_neg (by decide), ByteArray.empty_append]
      have h1 := jl.1
      rw [hn, hp] at h1
      refine ⟨h1, ?_⟩
      rw [hn, hp]
  have je := i_s (hA k) d.2.2.1 d.2.2.2 (by rw [← he]; exact jn.1)
  rw [← he] at je
  have jd := i_s (hM k) c.2.2.1 c.2.2.2 (by rw [← hd]; exact je.1)
  rw [← hd] at jd
  have jc := i_s (hS k) b.2.2.1 b.2.2.2 (by rw [← hc]; exact jd.1)
  rw [← hc] at jc
  have jb := i_x (hB k) s er (by rw [← hb]; exact jc.1)
  rw [← hb] at jb
  refine ⟨jb.1, ?_⟩
  unfold tailB
  dsimp only
  simp only [ByteArray.append_assoc]
  rw [← jx.2, ← jt.2, ← jl.2]
  have q := jn.2
  try simp only [ByteArray.append_assoc] at q
  rw [← q, ← je.2, ← jd.2, ← jc.2]
  exact jb.2
theorem i_end (s : ByteArray) (er : Int) (h : rdEnd s er = 0) : er = 0 ∧ s = ByteArray.empty := by
  unfold rdEnd at h
  split at h
  · rename_i he
    split at h
    · rename_i h0; exact ⟨he, size0 h0⟩
    · cases h
  · rename_i he; exact absurd h he
/-- Either nothing is read, or an entry that is right, whose bytes these are. -/
theorem read_ways (s : ByteArray) : readE s = (zE, 2) ∨ ∃ e, readE s = (e, 0) ∧ rightE e = true ∧ EOk e ∧ encE e = s := by
  unfold readE
  by_cases h : rdEnd (rdE s).2.1 (rdE s).2.2 = 0
  · rw [if_pos h]
    by_cases hr : rightE (rdE s).1 = true
    · rw [if_pos hr]
      refine .inr ⟨_, rfl, hr, ?_, ?_⟩
      · have h9 := rdNum_facts s 0 9 (by decide)
        exact tailOk _ ⟨h9.1, h9.2.1⟩ _ _
      · obtain ⟨h1, h2⟩ := i_end _ _ h
        obtain ⟨h3, h4⟩ := i_tail _ _ _ h1
        obtain ⟨_, h5⟩ := i_num _ _ _ h3
        rw [encE_eq]
        have h6 : tailB (rdE s).1 = (rdNum s 0 9).2.1 := by
          have : (rdNum s 0 9).2.1 = tailB (rdE s).1 ++ (rdE s).2.1 := h4
          rw [h2, ByteArray.append_empty] at this
          exact this.symm
        rw [h6]
        exact h5.symm
    · rw [if_neg hr]; exact .inl rfl
  · rw [if_neg h]; exact .inl rfl
end Go.Proofs.Ytblabgdkbcphkaa
