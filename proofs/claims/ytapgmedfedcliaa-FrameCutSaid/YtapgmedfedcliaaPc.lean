/- Of frames that are cut off anywhere just those are scanned that are whole. No program in sight but what the print wrote. -/
import Derived.Test.YtapgmedfedcliaaPLcx
import Derived.Deep.Slices
import Derived.ChangeArms
import Derived.SizedLaws
import Derived.OpenShut
set_option linter.unusedVariables false
set_option linter.unusedSimpArgs false
namespace Go.Proofs.Ytapgmedfedcliaa
open Go.RowKit Go.Deep Go.Proofs.YtapgmedfedcliaaW.PrintWords PRd PLc

/-- The frames of payloads, one behind the other; where each ends. -/
def frms : List ByteArray → ByteArray
  | [] => ByteArray.empty
  | p :: l => frm p ++ frms l
theorem frms_snoc (l : List ByteArray) (p : ByteArray) : frms (l ++ [p]) = frms l ++ frm p := by
  induction l with
  | nil => show frm p ++ ByteArray.empty = ByteArray.empty ++ frm p; rw [ByteArray.append_empty, ByteArray.empty_append]
  | cons q l ih => show frm q ++ frms (l ++ [p]) = frm q ++ frms l ++ frm p; rw [ih, ByteArray.append_assoc]
theorem frms_take (l : List ByteArray) (i : Nat) (h : i < l.length) : frms (l.take (i + 1)) = frms (l.take i) ++ frm l[i] := by
  rw [List.take_succ_eq_append_getElem h, frms_snoc]
/-- A frame that is cut off isn't read. -/
theorem nxt_part (p u v : ByteArray) (hp : p.size ≤ 16384) (h : frm p = u ++ v) (hv : 0 < v.size) : (nxt u).2.2 ≠ 0 := by
  intro he
  obtain ⟨t, e1, e2, e3⟩ := nxt_inv u he
  rw [e1, ByteArray.append_assoc] at h
  have hq := frm_apart _ p _ e2 hp h
  have := congrArg ByteArray.size h
  rw [hq, ByteArray.size_append, ByteArray.size_append] at this
  omega
theorem nxt_none : (nxt ByteArray.empty).2.2 ≠ 0 := by decide
theorem extract_mid' (a b : ByteArray) (n : Nat) (h : n = a.size) : (a ++ b).extract n (a ++ b).size = b := extract_right _ _ _ _ h (by rw [ByteArray.size_append])
/-- What is scanned of a text that begins with so many frames. -/
theorem scanN_frms (l : List ByteArray) (hl : ∀ p ∈ l, p.size ≤ 16384) : ∀ (k : Nat) (pre : ByteArray) (acc : List ByteArray) (u : ByteArray), l.length < k → (nxt u).2.2 ≠ 0 →
    scanN k (pre ++ (frms l ++ u)) acc pre.size = (acc ++ l, pre.size + (frms l).size) := by
  induction l with
  | nil =>
    intro k pre acc u hk hu
    obtain ⟨k, rfl⟩ : ∃ j, k = j + 1 := ⟨k - 1, by omega⟩
    show scanN (k + 1) (pre ++ (ByteArray.empty ++ u)) acc pre.size = _
    rw [ByteArray.empty_append]
    unfold scanN
    rw [extract_mid' _ _ _ rfl, if_neg hu, List.append_nil]
    rfl
  | cons p l ih =>
    intro k pre acc u hk hu
    obtain ⟨k, rfl⟩ : ∃ j, k = j + 1 := ⟨k - 1, by simp at hk; omega⟩
    have hp := hl p (List.mem_cons_self ..)
    have e : pre ++ (frms (p :: l) ++ u) = pre ++ (frm p ++ (frms l ++ u)) := by show pre ++ ((frm p ++ frms l) ++ u) = _; rw [ByteArray.append_assoc (a := frm p)]
    rw [e]
    unfold scanN
    rw [extract_mid' _ _ _ rfl, nxt_frm p _ hp]
    dsimp only
    rw [if_pos rfl, Int.toNat_natCast, ← ByteArray.size_append, ← ByteArray.append_assoc]
    have := ih (fun q hq => hl q (List.mem_cons_of_mem _ hq)) k (pre ++ frm p) (acc ++ [p]) u (by simp at hk; omega) hu
    rw [this]
    have e2 : acc ++ [p] ++ l = acc ++ p :: l := by simp
    have e3 : (pre ++ frm p).size + (frms l).size = pre.size + (frms (p :: l)).size := by
      show _ = pre.size + (frm p ++ frms l).size
      rw [ByteArray.size_append, ByteArray.size_append]; omega
    rw [e2, e3]
theorem scan_frms (l : List ByteArray) (hl : ∀ p ∈ l, p.size ≤ 16384) (u : ByteArray) (hu : (nxt u).2.2 ≠ 0) (hn : l.length ≤ (frms l).size) : scan (frms l ++ u) = (l, (frms l).size) := by
  have := scanN_frms l hl ((frms l ++ u).size + 1) ByteArray.empty [] u (by rw [ByteArray.size_append]; omega) hu
  rw [ByteArray.empty_append, List.nil_append] at this
  unfold scan
  rw [show ByteArray.empty.size = 0 from rfl] at this
  rw [this]
  simp
theorem frm_pos (p : ByteArray) : 5 ≤ (frm p).size := by have := frm_size p; omega
theorem frms_len (l : List ByteArray) : l.length ≤ (frms l).size := by
  induction l with
  | nil => exact Nat.zero_le _
  | cons p l ih => have := frm_pos p; show l.length + 1 ≤ (frm p ++ frms l).size; rw [ByteArray.size_append]; omega
/-- The text, cut off behind n frames and a part of the next one. -/
theorem cut_scan (l : List ByteArray) (hl : ∀ p ∈ l, p.size ≤ 16384) (cut n : Nat) (hn : n ≤ l.length) (h1 : (frms (l.take n)).size ≤ cut) (h2 : ∀ h : n < l.length, cut < (frms (l.take (n + 1))).size) (hc : cut ≤ (frms l).size) :
    scan ((frms l).extract 0 cut) = (l.take n, (frms (l.take n)).size) := by
  have key : ∀ u : ByteArray, (nxt u).2.2 ≠ 0 → (frms l).extract 0 cut = frms (l.take n) ++ u → scan ((frms l).extract 0 cut) = (l.take n, (frms (l.take n)).size) := by
    intro u hu e
    rw [e]
    exact scan_frms _ (fun p hp => hl p (List.mem_of_mem_take hp)) u hu (frms_len _)
  have spl : ∀ a b : List ByteArray, frms (a ++ b) = frms a ++ frms b := by
    intro a b
    induction a with
    | nil => show frms b = ByteArray.empty ++ frms b; rw [ByteArray.empty_append]
    | cons p a ih => show frm p ++ frms (a ++ b) = frm p ++ frms a ++ frms b; rw [ih, ByteArray.append_assoc]
  rcases Nat.lt_or_ge n l.length with hlt | hge
  · have e0 : frms l = frms (l.take n) ++ (frm l[n] ++ frms (l.drop (n + 1))) := by
      conv => lhs; rw [← List.take_append_drop n l, spl, List.drop_eq_getElem_cons hlt]
      rfl
    have h3 := h2 hlt
    rw [frms_take l n hlt, ByteArray.size_append] at h3
    have hp := hl l[n] (List.getElem_mem hlt)
    generalize l[n] = p at *
    generalize hA : frms (l.take n) = A at *
    have ef : frm p = (frm p).extract 0 (cut - A.size) ++ (frm p).extract (cut - A.size) (frm p).size := extract_both _ _
    refine key ((frm p).extract 0 (cut - A.size)) (nxt_part p _ _ hp ef (by rw [ByteArray.size_extract]; omega)) ?_
    have e1 : frms l = A ++ (frm p).extract 0 (cut - A.size) ++ ((frm p).extract (cut - A.size) (frm p).size ++ frms (l.drop (n + 1))) := by
      rw [ByteArray.append_assoc, ← ByteArray.append_assoc (a := (frm p).extract 0 (cut - A.size)), ← ef]
      exact e0
    rw [e1]
    exact extract_left _ _ _ (by rw [ByteArray.size_append, ByteArray.size_extract]; omega)
  · have hn2 : l.take n = l := List.take_of_length_le hge
    rw [hn2] at h1 key ⊢
    have hcut : cut = (frms l).size := by omega
    refine key ByteArray.empty nxt_none ?_
    rw [ByteArray.append_empty]
    have := extract_left (frms l) ByteArray.empty cut hcut
    rwa [ByteArray.append_empty] at this

/-! ### The law -/
theorem rdOf_at (l : List ByteArray) (i : Nat) (h : i < l.length) : rdOf ByteArray.empty l (i : Int) = l[i] := by
  unfold rdOf
  rw [List.getD_eq_getElem?_getD, Int.toNat_natCast, List.getElem?_eq_getElem h]; rfl
theorem same_l0 (l : List ByteArray) : ∀ (d i k : Nat), i + d = l.length → l.length ≤ 1000 → d < k → dovecoteref03_Same.l0 k l l (i : Int) = some true := by
  intro d
  induction d with
  | zero =>
    intro i k hi hl hk
    obtain ⟨k, rfl⟩ : ∃ j, k = j + 1 := ⟨k - 1, by omega⟩
    unfold dovecoteref03_Same.l0
    rw [if_neg (by omega)]
  | succ d ih =>
    intro i k hi hl hk
    obtain ⟨k, rfl⟩ : ∃ j, k = j + 1 := ⟨k - 1, by omega⟩
    unfold dovecoteref03_Same.l0
    rw [if_pos (by omega), if_pos (by omega), if_pos (by omega), if_pos rfl, show wrap64 ((i : Int) + 1) = ((i + 1 : Nat) : Int) by unfold wrap64; omega]
    exact ih (i + 1) k (by omega) hl (by omega)
theorem same_f (l : List ByteArray) (k : Nat) (hl : l.length ≤ 1000) (hk : l.length < k) : dovecoteref03_Same.f k l l = some true := by
  unfold dovecoteref03_Same.f
  rw [if_pos rfl]
  exact same_l0 l l.length 0 k (by omega) hl hk
/-- Where each frame ends. -/
def endsOf (l : List ByteArray) (i : Nat) : List Int := (List.range i).map fun j => ((frms (l.take (j + 1))).size : Int)
theorem endsOf_length (l : List ByteArray) (i : Nat) : (endsOf l i).length = i := by simp [endsOf]
theorem endsOf_succ (l : List ByteArray) (i : Nat) : endsOf l (i + 1) = endsOf l i ++ [((frms (l.take (i + 1))).size : Int)] := by simp [endsOf, List.range_succ]
theorem endsOf_at (l : List ByteArray) (i n : Nat) (h : n < i) : rd (endsOf l i) (n : Int) = ((frms (l.take (n + 1))).size : Int) := by
  unfold rd endsOf
  simp [h, List.getD_eq_getElem?_getD]
theorem cut_l1 (l : List ByteArray) (hl : l.length ≤ 20) (cut : Nat) (got : List ByteArray) (at_ : Int)
    (H : ∀ n, n ≤ l.length → (frms (l.take n)).size ≤ cut → (∀ h : n < l.length, cut < (frms (l.take (n + 1))).size) → got = l.take n ∧ at_ = ((frms (l.take n)).size : Int)) :
    ∀ d n, n + d = l.length → (frms (l.take n)).size ≤ cut → dovecotelaw03_FrameCut.l1 (d + 30) l (cut : Int) (endsOf l l.length) got at_ (n : Int) ((frms (l.take n)).size : Int) = some true := by
  have fin : ∀ n k, n ≤ l.length → 25 ≤ k → got = l.take n ∧ at_ = ((frms (l.take n)).size : Int) → ((dovecoteref03_Same.f k got (l.take ((n : Int)).toNat)).bind fun t => if t = true then some (at_ == ((frms (l.take n)).size : Int)) else some false) = some true := by
    rintro n k hn hk ⟨rfl, rfl⟩
    rw [Int.toNat_natCast, same_f _ _ (by rw [List.length_take]; omega) (by rw [List.length_take]; omega)]
    simp
  intro d
  induction d with
  | zero =>
    intro n hn hle
    have hh := H n (by omega) hle (fun h => by omega)
    show dovecotelaw03_FrameCut.l1 (29 + 1) _ _ _ _ _ _ _ = _
    unfold dovecotelaw03_FrameCut.l1
    rw [if_neg (by omega), if_pos (by omega), if_pos (by omega)]
    exact fin n 29 (by omega) (by omega) hh
  | succ d ih =>
    intro n hn hle
    rw [show d + 1 + 30 = (d + 30) + 1 by omega]
    unfold dovecotelaw03_FrameCut.l1
    rw [if_pos (by omega), if_pos (by omega), if_pos (by rw [endsOf_length]; omega), endsOf_at l l.length n (by omega)]
    by_cases hc : (frms (l.take (n + 1))).size ≤ cut
    · rw [if_pos (by omega), show wrap64 ((n : Int) + 1) = ((n + 1 : Nat) : Int) by unfold wrap64; omega]
      exact ih (n + 1) (by omega) hc
    · rw [if_neg (by omega), if_pos (by omega)]
      exact fin n (d + 30) (by omega) (by omega) (H n (by omega) hle (fun _ => by omega))
theorem cut_j1 (l : List ByteArray) (hl : l.length ≤ 20) (hp : ∀ p ∈ l, p.size ≤ 3000) (cut : Int) (b : Bool) (k : Nat) (hk : k = l.length + 30) (hb : b = false → 0 ≤ cut ∧ cut ≤ ((frms l).size : Int)) (hs : (frms l).size ≤ 200000) :
    dovecotelaw03_FrameCut.j1 (k + 1) l cut (frms l) (endsOf l l.length) b = some true := by
  rw [dovecotelaw03_FrameCut.j1]
  cases b with
  | true => rfl
  | false =>
    obtain ⟨h0, h1⟩ := hb rfl
    obtain ⟨c, rfl⟩ : ∃ c : Nat, cut = (c : Int) := ⟨cut.toNat, by omega⟩
    rw [if_neg (by decide), if_pos h0, if_pos h1, Int.toNat_natCast]
    have e : frame_Scan.f ((frms l).extract 0 c) = some ((scan ((frms l).extract 0 c)).1, ((scan ((frms l).extract 0 c)).2 : Int)) := if_pos (by rw [ByteArray.size_extract]; omega)
    rw [e, Option.bind_some, hk]
    refine cut_l1 l hl c _ _ (fun n hn h2 h3 => ?_) l.length 0 (by omega) (Nat.zero_le _)
    have := cut_scan l (fun p h => by have := hp p h; omega) c n hn h2 h3 (by omega)
    rw [this]
    exact ⟨rfl, rfl⟩
theorem frms_size (l : List ByteArray) (hp : ∀ p ∈ l, p.size ≤ 3000) : (frms l).size ≤ 3014 * l.length := by
  induction l with
  | nil => exact Nat.zero_le _
  | cons p l ih =>
    have h1 := hp p (List.mem_cons_self ..)
    have h2 := ih (fun q hq => hp q (List.mem_cons_of_mem _ hq))
    have h3 := frm_size p
    have h4 := encB_size (n := (p.size : Int)) (by omega)
    show (frm p ++ frms l).size ≤ 3014 * (l.length + 1)
    rw [ByteArray.size_append]; omega
theorem cut_l0 (l : List ByteArray) (hl : l.length ≤ 20) (cut : Int) : ∀ d i, i + d = l.length → (∀ p ∈ l.take i, p.size ≤ 3000) →
    dovecotelaw03_FrameCut.l0 (d + l.length + 32) l cut (frms (l.take i)) (endsOf l i) l (l.length : Int) (i : Int) = some true := by
  intro d
  induction d with
  | zero =>
    intro i hi hp
    have hil : i = l.length := by omega
    subst hil
    rw [List.take_length] at hp ⊢
    have hs := frms_size l hp
    rw [show 0 + l.length + 32 = (l.length + 30 + 1) + 1 by omega]
    unfold dovecotelaw03_FrameCut.l0
    rw [if_neg (by omega)]
    by_cases hc : cut < 0
    · rw [if_pos hc]
      exact cut_j1 l hl hp cut true _ rfl (fun h => by cases h) (by omega)
    · rw [if_neg hc]
      exact cut_j1 l hl hp cut _ _ rfl (fun h => by have := of_decide_eq_false h; omega) (by omega)
  | succ d ih =>
    intro i hi hp
    have hil : i < l.length := by omega
    rw [show d + 1 + l.length + 32 = (d + l.length + 32) + 1 by omega]
    unfold dovecotelaw03_FrameCut.l0
    rw [if_pos (by omega), if_pos (by omega), if_pos (by omega), rdOf_at l i hil]
    by_cases hx : l[i].size > 3000
    · rw [if_pos (by omega)]
    · rw [if_neg (by omega)]
      have hw : wrp l[i] = (frm l[i], 0) := by unfold wrp; rw [if_neg (by omega)]
      have e : frame_Wrap.f l[i] = some (wrp l[i]) := rfl
      rw [e, Option.bind_some, hw]
      dsimp only
      have hs := frms_size (l.take i) hp
      have hti : (l.take i).length = i := by rw [List.length_take]; omega
      have h3 := frm_size l[i]
      have h4 := encB_size (n := (l[i].size : Int)) (by omega)
      rw [if_pos (by omega), if_pos (by rw [endsOf_length]; omega), ← frms_take l i hil, ← endsOf_succ, show wrap64 ((i : Int) + 1) = ((i + 1 : Nat) : Int) by unfold wrap64; omega]
      refine ih (i + 1) (by omega) (fun p h => ?_)
      rw [List.take_succ_eq_append_getElem hil] at h
      rcases List.mem_append.1 h with h | h
      · exact hp p h
      · rw [List.mem_singleton.1 h]; omega
theorem cut_true (l : List ByteArray) (cut : Int) : ∃ k, dovecotelaw03_FrameCut.f k l cut = some true := by
  refine ⟨l.length + l.length + 32, ?_⟩
  unfold dovecotelaw03_FrameCut.f
  have e : dovecotelaw03_awake.f = some true := rfl
  rw [e, Option.bind_some, if_pos rfl]
  by_cases h : (l.length : Int) > 20
  · rw [if_pos h]
  · rw [if_neg h]
    exact cut_l0 l (by omega) cut l.length 0 (by omega) (fun p hp => by simp at hp)


/-- A slice's datum and the list that is read: element by element. -/
def QSlice {H : Type} {α : Type} (Q : α → DataW H → Prop) (l : List α) (d : DataW H) : Prop :=
  (d = .nil ∧ l = []) ∨ ∃ (ds sp : List (DataW H)), d = .slice ds sp ∧ ds.length = l.length ∧ ∀ i (h : i < l.length) (h' : i < ds.length), Q l[i] ds[i]

theorem mapM_range {α : Type} (f : Nat → Option α) : ∀ (n : Nat) (cs : List α), (List.range n).mapM f = some cs → cs.length = n ∧ ∀ i, i < n → f i = cs[i]? := by
  intro n
  induction n with
  | zero => intro cs h; simp at h; subst h; simp
  | succ n ih =>
    intro cs h
    rw [List.range_succ, List.mapM_append] at h
    cases h1 : (List.range n).mapM f with
    | none => simp [h1] at h
    | some c1 =>
      cases h2 : f n with
      | none => simp [h1, h2] at h
      | some x =>
        simp [h1, h2] at h
        subst h
        obtain ⟨hl, hi⟩ := ih c1 h1
        refine ⟨by simp [hl], fun i hin => ?_⟩
        by_cases hc : i < n
        · rw [hi i hc, List.getElem?_append_left (by omega)]
        · obtain rfl : i = n := by omega
          rw [h2, List.getElem?_append_right (by omega), hl]; simp

theorem choose_list {α : Type} : ∀ (n : Nat) (p : Nat → α → Prop), (∀ i, i < n → ∃ y, p i y) → ∃ l : List α, l.length = n ∧ ∀ i (h : i < l.length), p i l[i] := by
  intro n
  induction n with
  | zero => intro p _; exact ⟨[], rfl, fun i h => absurd h (by simp)⟩
  | succ n ih =>
    intro p h
    obtain ⟨l, hl, hp⟩ := ih p (fun i hi => h i (by omega))
    obtain ⟨y, hy⟩ := h n (by omega)
    refine ⟨l ++ [y], by simp [hl], fun i hi => ?_⟩
    by_cases hc : i < l.length
    · rw [List.getElem_append_left hc]; exact hp i hc
    · obtain rfl : i = n := by simp at hi; omega
      rw [List.getElem_append_right (by omega)]; simpa using hy
theorem add_add' (a : Addr) (i j : Nat) : (a.add i).add j = a.add (i + j) := by
  unfold Addr.add
  by_cases hi : i = 0 <;> by_cases hj : j = 0 <;> simp [hi, hj, Nat.add_assoc]

section
variable {H : Type} {enc : TypeId × Value → H} {P : Program} {W : World} {base : Nat} {spare : Nat → Bool} {held : Bool}
theorem open_kd {α : Type} {k : Kd α} {Q : α → DataW H → Prop} {t e : TypeId} {fuel : Nat} {cs : List Value} {x : DataW H × List MemPlace}
    (ht : P.underlying t = some (.slice e)) (hsz : P.cellsOf e = k.sz)
    (hO : ∀ n cs x, DataW.trod enc P W base spare held n e cs = some x → ∃ a, k.K W a cs ∧ Q a x.1)
    (h : DataW.trod enc P W base spare held fuel t cs = some x) :
    ∃ (A : Option Addr) (c : Nat) (l : List α), cs = [.slice A l.length c] ∧ l.length ≤ c ∧ k.C W A l.length l ∧ QSlice Q l x.1 := by
  rcases open_slice ht h with ⟨rfl, rfl⟩ | ⟨a, len, cap, m, n, D, Pl, rfl, hb, hl, hm, hmm, rfl, hx⟩
  · exact ⟨none, 0, [], rfl, Nat.le_refl _, Kd.C_nil k W, .inl ⟨rfl, rfl⟩⟩
  · have hlm : len ≤ m := by rw [hmm]; split <;> omega
    have key : ∀ i, i < len → ∃ y : α, ∃ c, c.length = k.sz ∧ k.K W y c ∧ Q y (D i) ∧ ∀ j u, c[j]? = some u → W.cell? (a.add (i * k.sz + j)) = some u := by
      intro i hi
      obtain ⟨c, hc, ht⟩ := hx i (by omega)
      obtain ⟨y, hK, hQ⟩ := hO _ _ _ ht
      rw [hsz] at hc
      unfold World.cells? at hc
      split at hc
      · obtain ⟨hcl, hci⟩ := mapM_range _ _ _ hc
        refine ⟨y, c, hcl, hK, hQ, fun j u hu => ?_⟩
        have hj : j < c.length := by
          rcases Nat.lt_or_ge j c.length with h | h
          · exact h
          · rw [List.getElem?_eq_none h] at hu; cases hu
        rw [← add_add', hci j (by omega), hu]
      · cases hc
    obtain ⟨l, rfl, hf⟩ := choose_list len _ key
    refine ⟨some a, cap, l, rfl, hl, ⟨rfl, by unfold maxLen at hm; omega, fun _ => ⟨a, rfl, fun j p hp => ?_⟩⟩, ?_⟩
    · obtain ⟨hj, rfl⟩ := List.getElem?_eq_some_iff.1 hp
      obtain ⟨c, h1, h2, _, h4⟩ := hf j hj
      exact ⟨c, h1, h2, h4⟩
    · right
      refine ⟨_, _, rfl, by simp, fun i h h' => ?_⟩
      obtain ⟨c, _, _, h3, _⟩ := hf i h
      simpa using h3
end
theorem open_Str {H : Type} {enc : TypeId × Value → H} {W : World} {base : Nat} {spare : Nat → Bool} {held : Bool} (n : Nat) (cs : List Value) (x : DataW H × List MemPlace) (h : DataW.trod enc Try.prog W base spare held n 9 cs = some x) : ∃ a : ByteArray, Kd.string.K W a cs ∧ x.1 = .lit (.string a.data.toList) := by
  obtain ⟨a, q, z, w⟩ := DataW.trod_string Try.underlying9 h
  subst z
  exact ⟨a, by first | exact q | (subst q; rfl), rfl⟩
theorem walk_FrameCut {H : Type} {enc : TypeId × Value → H} (W : World) (v0 : Value) (d0 : DataW H) (p0 : List MemPlace) (n : Int)
    (h0 : DataW.Trod enc Try.prog W 0 (fun _ => true) true 38 v0 d0 p0) {base : Nat} (u0 : Value.okWide Try.prog W .any base 38 v0) (z0 : ∀ n ∈ DataW.weights Try.prog 38 d0, n ≤ reachBytes) (w1 : (Lit.int .i64 n).wf = true) :
    Calls Try.prog 8 #[v0, .int .i64 n] W fun e w' => e = .returned (.bool true) ∧ Below W.heap.size W w' := by
  obtain ⟨a, len, cap, rfl⟩ := WideShapes.okWide_slice Try.underlying38 u0
  obtain ⟨fuel, hf⟩ := h0
  obtain ⟨A, c, l, hcs, hlc, hC, hQ⟩ := open_kd (k := Kd.string) (Q := fun (a : ByteArray) (d : DataW H) => d = .lit (.string a.data.toList)) Try.underlying38 (by kernel_rfl) open_Str hf
  simp only [Value.cells, List.cons.injEq, Value.slice.injEq, and_true] at hcs
  obtain ⟨rfl, rfl, rfl⟩ := hcs
  obtain ⟨k, hk⟩ := cut_true l n
  exact dovecotelaw03_FrameCut.calls k a cap l n true W hC hlc hk
end Go.Proofs.Ytapgmedfedcliaa
