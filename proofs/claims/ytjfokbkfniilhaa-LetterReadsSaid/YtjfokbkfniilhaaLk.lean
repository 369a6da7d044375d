/- Letters that have the same bytes are the same. No program in sight. -/
import Derived.Test.YtjfokbkfniilhaaLj
set_option linter.unusedVariables false
set_option linter.unusedSimpArgs false
namespace Go.Proofs.Ytjfokbkfniilhaa
open Go.RowKit Go.Proofs.YtjfokbkfniilhaaW.PrintWords Go.Proofs.Ytjfokbkfniilhaa.PLa Go.Proofs.Ytjfokbkfniilhaa.PRd

/-! Each code is told from what stands behind it. -/
/-- f tells x and what is behind it, among the x that are right. -/
def Tells {α : Type} (f : α → ByteArray) (ok : α → Prop) : Prop := ∀ x y s t, ok x → ok y → f x ++ s = f y ++ t → x = y ∧ s = t
theorem t_num (x y : Int) (s t : ByteArray) (hx : 0 ≤ x ∧ x ≤ 18446744073709551615) (hy : 0 ≤ y ∧ y ≤ 18446744073709551615) (h : encB x ++ s = encB y ++ t) : x = y ∧ s = t := by
  have h1 := rdNum_enc x 18446744073709551615 s hx.1 hx.2 hx.2
  have h2 := rdNum_enc y 18446744073709551615 t hy.1 hy.2 hy.2
  rw [h] at h1
  rw [h1] at h2
  injection h2 with h3 h4
  injection h4 with h5 h6
  exact ⟨h3, h5⟩
theorem t_text : Tells txE (fun s => s.size ≤ 1000) := by
  intro x y s t hx hy h
  have h1 := rdText_enc x s 0 1000 (by omega) (by omega) (by omega)
  have h2 := rdText_enc y t 0 1000 (by omega) (by omega) (by omega)
  unfold txE at h
  rw [h] at h1
  rw [h1] at h2
  injection h2 with h3 h4
  injection h4 with h5 h6
  exact ⟨h3, h5⟩
theorem t_flag : Tells encF (fun _ => True) := by
  intro x y s t _ _ h
  have h1 := rdFlag_enc x s
  have h2 := rdFlag_enc y t
  rw [h] at h1
  rw [h1] at h2
  injection h2 with h3 h4
  injection h4 with h5 h6
  exact ⟨h3, h5⟩
theorem t_list {α : Type} {f : α → ByteArray} {ok : α → Prop} (h : Tells f ok) : ∀ (l m : List α) (s t : ByteArray), l.length = m.length → (∀ x ∈ l, ok x) → (∀ x ∈ m, ok x) → encs f l ++ s = encs f m ++ t → l = m ∧ s = t := by
  intro l
  induction l with
  | nil =>
    intro m s t hl _ _ he
    cases m with
    | nil => exact ⟨rfl, by simpa [encs] using he⟩
    | cons y m => cases hl
  | cons x l ih =>
    intro m s t hl h1 h2 he
    cases m with
    | nil => cases hl
    | cons y m =>
      rw [encs, encs, ByteArray.append_assoc, ByteArray.append_assoc] at he
      obtain ⟨rfl, h3⟩ := h x y _ _ (h1 x (List.mem_cons_self ..)) (h2 y (List.mem_cons_self ..)) he
      obtain ⟨rfl, h4⟩ := ih m s t (by simpa using hl) (fun z hz => h1 z (List.mem_cons_of_mem _ hz)) (fun z hz => h2 z (List.mem_cons_of_mem _ hz)) h3
      exact ⟨rfl, h4⟩
theorem t_txn : Tells encX (fun x => U32 x.f0 ∧ U32 x.f1) := by
  rintro ⟨x0, x1⟩ ⟨y0, y1⟩ s t hx hy h
  unfold encX at h
  rw [ByteArray.append_assoc, ByteArray.append_assoc] at h
  obtain ⟨h1, g1⟩ := t_num x0 y0 _ _ ⟨hx.1.1, by have := hx.1.2; dsimp only at this; omega⟩ ⟨hy.1.1, by have := hy.1.2; dsimp only at this; omega⟩ h
  obtain ⟨h2, g2⟩ := t_num x1 y1 _ _ ⟨hx.2.1, by have := hx.2.2; dsimp only at this; omega⟩ ⟨hy.2.1, by have := hy.2.2; dsimp only at this; omega⟩ g1
  subst h1 h2
  exact ⟨rfl, g2⟩
def okT (a b : ByteArray) : Prop := a.size ≤ 32 ∧ b.size ≤ 256
theorem t_w : Tells encW (fun x => okT x.f0 x.f1) := by
  rintro ⟨x0, x1, x2⟩ ⟨y0, y1, y2⟩ s t ⟨hx1, hx2⟩ ⟨hy1, hy2⟩ h
  unfold encW at h
  simp only [ByteArray.append_assoc] at h
  dsimp only at *
  obtain ⟨h1, g1⟩ := t_text x0 y0 _ _ (by omega) (by omega) h
  obtain ⟨h2, g2⟩ := t_flag x2 y2 _ _ trivial trivial g1
  obtain ⟨h3, g3⟩ := t_text x1 y1 _ _ (by omega) (by omega) g2
  subst h1 h2 h3
  exact ⟨rfl, g3⟩
theorem t_p : Tells encP (fun x => okT x.f0 x.f1) := by
  rintro ⟨x0, x1⟩ ⟨y0, y1⟩ s t ⟨hx1, hx2⟩ ⟨hy1, hy2⟩ h
  unfold encP at h
  simp only [ByteArray.append_assoc] at h
  dsimp only at *
  obtain ⟨h1, g1⟩ := t_text x0 y0 _ _ (by omega) (by omega) h
  obtain ⟨h3, g3⟩ := t_text x1 y1 _ _ (by omega) (by omega) g1
  subst h1 h3
  exact ⟨rfl, g3⟩
/-- What a right request's parts are. -/
structure AskFacts (q : Rq) : Prop where
  ok : QOk q
  k : 1 ≤ q.k ∧ q.k ≤ 9
  lim : 0 ≤ q.lim ∧ q.lim ≤ 32
  key : q.key.size ≤ 32
  tt : q.tt.size ≤ 32
  ws : q.ws.length ≤ 16
  sk : q.sk.length ≤ 16
  wx : ∀ x ∈ q.ws, okT x.f0 x.f1
theorem askFacts (q : Rq) (hq : QOk q) (h : askR q = true) : AskFacts q := by
  unfold askR at h
  simp only [Bool.and_eq_true, decide_eq_true_eq] at h
  obtain ⟨h1, ⟨⟨⟨⟨⟨⟨⟨h2, h3⟩, h4⟩, h5⟩, h6⟩, h7⟩, h8⟩, h9⟩, h10⟩ := h
  exact ⟨hq, ⟨h2, h3⟩, ⟨h7, h8⟩, (fits_le h5).1, (fits_le h6).1, by omega, by omega, fun x hx => fits_le (List.all_eq_true.1 h1 x hx)⟩
theorem w32 {x : Int} (h : U32 x) : 0 ≤ x ∧ x ≤ 18446744073709551615 := ⟨h.1, by have := h.2; omega⟩
theorem askTells (q q' : Rq) (h : AskFacts q) (h' : AskFacts q') (he : encAsk q = encAsk q') : q = q' := by
  have e : encAsk q ++ ByteArray.empty = encAsk q' ++ ByteArray.empty := by rw [he]
  obtain ⟨k, bc, bn, sp, sl, ap, al, key, tt, lim, parts, ws, sk⟩ := q
  obtain ⟨k', bc', bn', sp', sl', ap', al', key', tt', lim', parts', ws', sk'⟩ := q'
  unfold encAsk at e
  simp only [ByteArray.append_assoc] at e
  have o := h.ok
  have o' := h'.ok
  have g1 := h.k; have g1' := h'.k; have g2 := h.lim; have g2' := h'.lim
  have g3 := h.ws; have g3' := h'.ws; have g4 := h.sk; have g4' := h'.sk
  have g5 := h.key; have g5' := h'.key; have g6 := h.tt; have g6' := h'.tt
  have g7 := o.parts; have g7' := o'.parts
  dsimp only at *
  have g := t_num (k) (k') _ _ ⟨by omega, by omega⟩ ⟨by omega, by omega⟩ e
  clear e
  obtain ⟨rfl, e⟩ := g
  have g := t_num (bc) (bc') _ _ (w32 o.bc) (w32 o'.bc) e
  clear e
  obtain ⟨rfl, e⟩ := g
  have g := t_num (bn) (bn') _ _ (w32 o.bn) (w32 o'.bn) e
  clear e
  obtain ⟨rfl, e⟩ := g
  have g := t_num (sp) (sp') _ _ o.sp o'.sp e
  clear e
  obtain ⟨rfl, e⟩ := g
  have g := t_num (sl) (sl') _ _ (w32 o.sl) (w32 o'.sl) e
  clear e
  obtain ⟨rfl, e⟩ := g
  have g := t_num (ap) (ap') _ _ o.ap o'.ap e
  clear e
  obtain ⟨rfl, e⟩ := g
  have g := t_num (al) (al') _ _ (w32 o.al) (w32 o'.al) e
  clear e
  obtain ⟨rfl, e⟩ := g
  have g := t_text (key) (key') _ _ (by omega) (by omega) e
  clear e
  obtain ⟨rfl, e⟩ := g
  have g := t_text (tt) (tt') _ _ (by omega) (by omega) e
  clear e
  obtain ⟨rfl, e⟩ := g
  have g := t_num (lim) (lim') _ _ ⟨by omega, by omega⟩ ⟨by omega, by omega⟩ e
  clear e
  obtain ⟨rfl, e⟩ := g
  have g := t_num (parts) (parts') _ _ ⟨by omega, by omega⟩ ⟨by omega, by omega⟩ e
  clear e
  obtain ⟨rfl, e⟩ := g
  have g := t_num ((ws.length : Int)) ((ws'.length : Int)) _ _ ⟨by omega, by omega⟩ ⟨by omega, by omega⟩ e
  clear e
  obtain ⟨e1, e⟩ := g
  have g := t_list t_w ws ws' _ _ (by omega) h.wx h'.wx e
  clear e
  obtain ⟨rfl, e⟩ := g
  have g := t_num ((sk.length : Int)) ((sk'.length : Int)) _ _ ⟨by omega, by omega⟩ ⟨by omega, by omega⟩ e
  clear e
  obtain ⟨e2, e⟩ := g
  have g := t_list t_txn sk sk' _ _ (by omega) o.skx o'.skx e
  clear e
  obtain ⟨rfl, e⟩ := g
  rfl
structure RepFacts (r : Rp) : Prop where
  ok : POk r
  k : 0 ≤ r.k ∧ r.k ≤ 10
  er : 0 ≤ r.er ∧ r.er ≤ 255
  pr : r.pr.size ≤ 32
  val : r.val.size ≤ 256
  ps : r.ps.length ≤ 32
  px : ∀ x ∈ r.ps, okT x.f0 x.f1
theorem repFacts (r : Rp) (hr : POk r) (h : replyR r = true) : RepFacts r := by
  unfold replyR at h
  simp only [Bool.and_eq_true, decide_eq_true_eq] at h
  obtain ⟨h1, ⟨⟨⟨⟨⟨h2, h3⟩, h4⟩, h5⟩, h6⟩, h7⟩, h8⟩ := h
  exact ⟨hr, ⟨h2, h3⟩, ⟨h4, h5⟩, (fits_le h7).1, (fits_le h7).2, by omega, fun x hx => fits_le (List.all_eq_true.1 h1 x hx)⟩
theorem repTells (q q' : Rp) (h : RepFacts q) (h' : RepFacts q') (he : encRep q = encRep q') : q = q' := by
  have e : encRep q ++ ByteArray.empty = encRep q' ++ ByteArray.empty := by rw [he]
  obtain ⟨k, er, fd, val, ps, wc, wn, sp, sl, ap, al, pr, np, nl⟩ := q
  obtain ⟨k', er', fd', val', ps', wc', wn', sp', sl', ap', al', pr', np', nl'⟩ := q'
  unfold encRep at e
  simp only [ByteArray.append_assoc] at e
  have o := h.ok
  have o' := h'.ok
  have g1 := h.k; have g1' := h'.k; have g2 := h.er; have g2' := h'.er
  have g3 := h.ps; have g3' := h'.ps
  have g5 := h.pr; have g5' := h'.pr; have g6 := h.val; have g6' := h'.val
  dsimp only at *
  have g := t_num (k) (k') _ _ ⟨by omega, by omega⟩ ⟨by omega, by omega⟩ e
  clear e
  obtain ⟨rfl, e⟩ := g
  have g := t_num (er) (er') _ _ ⟨by omega, by omega⟩ ⟨by omega, by omega⟩ e
  clear e
  obtain ⟨rfl, e⟩ := g
  have g := t_flag (fd) (fd') _ _ trivial trivial e
  clear e
  obtain ⟨rfl, e⟩ := g
  have g := t_text (val) (val') _ _ (by omega) (by omega) e
  clear e
  obtain ⟨rfl, e⟩ := g
  have g := t_num ((ps.length : Int)) ((ps'.length : Int)) _ _ ⟨by omega, by omega⟩ ⟨by omega, by omega⟩ e
  clear e
  obtain ⟨e1, e⟩ := g
  have g := t_list t_p ps ps' _ _ (by omega) h.px h'.px e
  clear e
  obtain ⟨rfl, e⟩ := g
  have g := t_num (wc) (wc') _ _ (w32 o.wc) (w32 o'.wc) e
  clear e
  obtain ⟨rfl, e⟩ := g
  have g := t_num (wn) (wn') _ _ (w32 o.wn) (w32 o'.wn) e
  clear e
  obtain ⟨rfl, e⟩ := g
  have g := t_num (sp) (sp') _ _ o.sp o'.sp e
  clear e
  obtain ⟨rfl, e⟩ := g
  have g := t_num (sl) (sl') _ _ (w32 o.sl) (w32 o'.sl) e
  clear e
  obtain ⟨rfl, e⟩ := g
  have g := t_num (ap) (ap') _ _ o.ap o'.ap e
  clear e
  obtain ⟨rfl, e⟩ := g
  have g := t_num (al) (al') _ _ (w32 o.al) (w32 o'.al) e
  clear e
  obtain ⟨rfl, e⟩ := g
  have g := t_text (pr) (pr') _ _ (by omega) (by omega) e
  clear e
  obtain ⟨rfl, e⟩ := g
  have g := t_num (np) (np') _ _ o.np o'.np e
  clear e
  obtain ⟨rfl, e⟩ := g
  have g := t_num (nl) (nl') _ _ (w32 o.nl) (w32 o'.nl) e
  clear e
  obtain ⟨rfl, e⟩ := g
  rfl
theorem tl0 (s : ByteArray) (h : s.toList = ([] : List UInt8)) : s = ⟨#[]⟩ := tl_inj.1 (h.trans (by rw [ByteArray.toList_eq]))
theorem zq_eq (q : Rq) (h : zq q = true) : q = zRq := by
  obtain ⟨k, bc, bn, sp, sl, ap, al, key, tt, lim, parts, ws, sk⟩ := q
  unfold zq z e0 at h
  simp only [Bool.and_eq_true, decide_eq_true_eq, beq_iff_eq] at h
  obtain ⟨⟨⟨⟨⟨⟨⟨⟨rfl, rfl, rfl⟩, rfl, rfl⟩, rfl, rfl⟩, h1⟩, h2⟩, rfl⟩, rfl⟩, h3⟩ := h
  obtain rfl := tl0 _ h1
  obtain rfl := tl0 _ h2
  have hw : ws.length = 0 := by omega
  have hs : sk.length = 0 := by omega
  obtain rfl := List.eq_nil_of_length_eq_zero hw
  obtain rfl := List.eq_nil_of_length_eq_zero hs
  rfl
theorem zr_eq (r : Rp) (h : zr r = true) : r = zRp := by
  obtain ⟨k, er, fd, val, ps, wc, wn, sp, sl, ap, al, pr, np, nl⟩ := r
  unfold zr z e0 at h
  simp only [Bool.and_eq_true, decide_eq_true_eq, beq_iff_eq, Bool.not_eq_true'] at h
  obtain ⟨⟨⟨⟨⟨⟨⟨⟨⟨rfl, rfl⟩, rfl⟩, h1⟩, h2⟩, rfl, rfl⟩, rfl, rfl⟩, rfl, rfl⟩, h3⟩, rfl, rfl⟩ := h
  obtain rfl := tl0 _ h1
  obtain rfl := tl0 _ h3
  obtain rfl : ps = [] := List.eq_nil_of_length_eq_zero (by omega)
  rfl
theorem letterTells (a b : Lt) (ha : LOk a) (hb : LOk b) (h : rightR a = true) (h' : rightR b = true) (he : encL a = encL b) : a = b := by
  obtain ⟨cl, sh, sq, an, q, r⟩ := a
  obtain ⟨cl', sh', sq', an', q', r'⟩ := b
  unfold encL at he
  simp only [ByteArray.append_assoc] at he
  have g := t_num (cl) (cl') _ _ (w32 ha.cl) (w32 hb.cl) he
  clear he
  obtain ⟨rfl, he⟩ := g
  have g := t_num (sh) (sh') _ _ (w32 ha.sh) (w32 hb.sh) he
  clear he
  obtain ⟨rfl, he⟩ := g
  have g := t_num (sq) (sq') _ _ (w32 ha.sq) (w32 hb.sq) he
  clear he
  obtain ⟨rfl, he⟩ := g
  have g := t_flag (an) (an') _ _ trivial trivial he
  clear he
  obtain ⟨rfl, he⟩ := g
  unfold rightR at h h'
  dsimp only at h h' he
  split at h
  · cases h
  · split at h
    · cases h
    · rename_i n1 n2
      rw [if_neg n1, if_neg n2] at h'
      cases an with
      | true =>
        simp only [if_true, Bool.and_eq_true] at h h' he
        obtain rfl := zq_eq q h.1
        obtain rfl := zq_eq q' h'.1
        obtain rfl := repTells r r' (repFacts _ ha.r h.2) (repFacts _ hb.r h'.2) he
        rfl
      | false =>
        simp only [Bool.false_eq_true, if_false, Bool.and_eq_true] at h h' he
        obtain rfl := zr_eq r h.1
        obtain rfl := zr_eq r' h'.1
        obtain rfl := askTells q q' (askFacts _ ha.q h.2) (askFacts _ hb.q h'.2) he
        rfl
end Go.Proofs.Ytjfokbkfniilhaa
