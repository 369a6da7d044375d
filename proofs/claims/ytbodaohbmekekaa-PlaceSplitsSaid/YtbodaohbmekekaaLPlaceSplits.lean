/- PlaceSplits: writes are split by their keys' shards, each once, in their order, as the document says, and told as bits: the law answers true for every input. No condition beside the row's own. -/
import Derived.Test.YtbodaohbmekekaaOPlaceSplits
set_option linter.unusedVariables false
set_option linter.unusedSimpArgs false
namespace Go.Proofs.Ytbodaohbmekekaa
open Go.RowKit Go.Deep Go.Proofs.YtbodaohbmekekaaW.PrintWords PPlaceSplits

def lv (n m : Int) (w : S44) : Bool := decide (se w.f0 n = 0 ∧ sv w.f0 n = m)
def rows (n : Int) (c : Nat) (l : List S44) : List (List S44) := (List.range c).map fun (m : Nat) => l.filter (lv n m)
theorem rows_length (n : Int) (c : Nat) (l : List S44) : (rows n c l).length = c := by simp [rows]
theorem rows_get (n : Int) (c : Nat) (l : List S44) (m : Nat) (h : m < c) : (rows n c l)[m]'(by rw [rows_length]; exact h) = l.filter (lv n m) := by simp [rows]
theorem rd_rows (n : Int) (c : Nat) (l : List S44) (m : Int) (h0 : 0 ≤ m) (h : m < c) : rd_L3 (rows n c l) m = l.filter (lv n m) := by
  unfold rd_L3
  rw [List.getD_eq_getElem?_getD, List.getElem?_eq_getElem (by rw [rows_length]; omega), Option.getD_some, rows_get n c l m.toNat (by omega)]
  congr 2
  omega
theorem rd_at (l : List S44) (i : Nat) (h : i < l.length) : rd_T44 l i = l[i] := by
  unfold rd_T44
  rw [List.getD_eq_getElem?_getD, Int.toNat_natCast, List.getElem?_eq_getElem h, Option.getD_some]
theorem take_step (l : List S44) (i : Nat) (h : i < l.length) : l.take (i + 1) = l.take i ++ [l[i]] := by rw [List.take_succ_eq_append_getElem h]
theorem filter_len (l : List S44) (p : S44 → Bool) (i : Nat) : ((l.take i).filter p).length ≤ l.length := Nat.le_trans (List.length_filter_le _ _) (by simp; omega)
theorem sv_range (s : ByteArray) (n : Int) (hn : 1 ≤ n) (h : se s n = 0) : 0 ≤ sv s n ∧ sv s n < n := by
  unfold se at h
  unfold sv
  cases hk : okShard s n with
  | true => simp [shardOf]; exact ⟨Int.emod_nonneg _ (by omega), Int.emod_lt_of_pos _ (by omega)⟩
  | false => rw [hk] at h; simp at h
theorem wrap_small {i : Nat} (h : i ≤ 1000) : wrap64 ((i : Int) + 1) = ((i + 1 : Nat) : Int) := by unfold wrap64; omega

theorem split_l0 (n : Int) (c : Nat) (hn : 1 ≤ n) (hc : (c : Int) = n) (l : List S44) (hl : l.length ≤ 1000) (d : Nat) : ∀ (k i : Nat), i + d = l.length → d < k →
    place_Split.l0 k n (rows n c (l.take i)) l (l.length : Int) (i : Int) = some (rows n c l) := by
  induction d with
  | zero =>
    intro k i hi hk
    obtain ⟨k, rfl⟩ : ∃ m, k = m + 1 := ⟨k - 1, by omega⟩
    simp only [place_Split.l0]
    rw [if_neg (by omega), List.take_of_length_le (by omega)]
  | succ d ih =>
    intro k i hi hk
    obtain ⟨k, rfl⟩ : ∃ m, k = m + 1 := ⟨k - 1, by omega⟩
    have hlt : i < l.length := by omega
    simp only [place_Split.l0]
    rw [if_pos (by omega), if_pos (by omega), if_pos (by omega), rd_at l i hlt]
    simp only [place_Shard.f, Option.bind_some]
    by_cases h : se l[i].f0 n = 0
    · obtain ⟨h1, h2⟩ := sv_range l[i].f0 n hn h
      have e : ((rows n c (l.take i)).set (sv l[i].f0 n).toNat (rd_L3 (rows n c (l.take i)) (sv l[i].f0 n) ++ [l[i]])) = rows n c (l.take (i + 1)) := by
        rw [rd_rows n c _ _ h1 (by omega)]
        apply List.ext_getElem
        · simp [rows]
        · intro m hm1 hm2
          simp only [rows_length] at hm2
          rw [List.getElem_set, rows_get n c (l.take (i + 1)) m hm2, take_step l i hlt, List.filter_append]
          split
          · rename_i hm
            have : (m : Int) = sv l[i].f0 n := by omega
            have hl : lv n m l[i] = true := by rw [lv, decide_eq_true_eq]; exact ⟨h, this.symm⟩
            rw [List.filter_cons, hl, ← this]; simp
          · rename_i hm
            have hl : lv n m l[i] = false := by rw [lv, decide_eq_false_iff_not]; rintro ⟨_, h'⟩; omega
            rw [rows_get n c _ m hm2, List.filter_cons, hl]; simp
      rw [if_pos h, if_pos h1, if_pos (by rw [rows_length]; omega), if_pos (by rw [rd_rows n c _ _ h1 (by omega)]; have := filter_len l (lv n (sv l[i].f0 n)) i; omega), e, wrap_small (by omega)]
      exact ih k (i + 1) (by omega) (by omega)
    · have e : rows n c (l.take i) = rows n c (l.take (i + 1)) := by
        unfold rows
        apply List.map_congr_left
        intro m _
        have hl : lv n m l[i] = false := by rw [lv, decide_eq_false_iff_not]; rintro ⟨h', _⟩; exact h h'
        rw [take_step l i hlt, List.filter_append, List.filter_cons, hl]; simp
      rw [if_neg h, wrap_small (by omega), e]
      exact ih k (i + 1) (by omega) (by omega)

theorem ref_l1 (n : Int) (l : List S44) (hl : l.length ≤ 1000) (x5 : List (List S44)) (h5 : x5.length < 5864062014805) (m : Nat) (d : Nat) : ∀ (k i : Nat), i + d = l.length →
    dovecoteref13_Split.l1 (k + d + 1) l n x5 m ((l.take i).filter (lv n m)) (i : Int) = dovecoteref13_Split.l0 k l n (x5 ++ [l.filter (lv n m)]) (wrap64 ((m : Int) + 1)) := by
  induction d with
  | zero =>
    intro k i hi
    simp only [dovecoteref13_Split.l1]
    rw [if_neg (by omega), if_pos h5, List.take_of_length_le (by omega)]
  | succ d ih =>
    intro k i hi
    have hlt : i < l.length := by omega
    rw [show k + (d + 1) + 1 = (k + d + 1) + 1 by omega]
    have ih := ih k (i + 1) (by omega)
    generalize k + d + 1 = K at *
    simp only [dovecoteref13_Split.l1]
    rw [if_pos (by omega), if_pos (by omega), rd_at l i hlt]
    simp only [dovecoteref13_Shard.f, Option.bind_some]
    by_cases h : se l[i].f0 n = 0
    · rw [if_pos h]
      by_cases h2 : sv l[i].f0 n = m
      · have hv : lv n m l[i] = true := by rw [lv, decide_eq_true_eq]; exact ⟨h, h2⟩
        rw [if_pos h2, if_pos (by have := filter_len l (lv n m) i; omega), wrap_small (by omega), ← ih, take_step l i hlt, List.filter_append, List.filter_cons, hv]
        rfl
      · have hv : lv n m l[i] = false := by rw [lv, decide_eq_false_iff_not]; rintro ⟨_, h'⟩; exact h2 h'
        rw [if_neg h2, wrap_small (by omega), ← ih, take_step l i hlt, List.filter_append, List.filter_cons, hv]
        simp only [List.filter_nil, List.append_nil, Bool.false_eq_true, if_false]
    · have hv : lv n m l[i] = false := by rw [lv, decide_eq_false_iff_not]; rintro ⟨h', _⟩; exact h h'
      rw [if_neg h, wrap_small (by omega), ← ih, take_step l i hlt, List.filter_append, List.filter_cons, hv]
      simp only [List.filter_nil, List.append_nil, Bool.false_eq_true, if_false]
theorem ref_l0 (n : Int) (c : Nat) (hn : n ≤ 8) (hc : (c : Int) = n) (l : List S44) (hl : l.length ≤ 1000) (d : Nat) : ∀ (k m : Nat), m + d = c →
    dovecoteref13_Split.l0 (k + d * (l.length + 2) + 1) l n (rows n m l) (m : Int) = some (rows n c l) := by
  induction d with
  | zero =>
    intro k m hm
    simp only [dovecoteref13_Split.l0, Nat.zero_mul]
    rw [if_neg (by omega)]
    rw [show m = c by omega]
  | succ d ih =>
    intro k m hm
    rw [show k + (d + 1) * (l.length + 2) + 1 = ((k + d * (l.length + 2) + 1) + l.length + 1) + 1 by rw [Nat.add_mul]; omega]
    simp only [dovecoteref13_Split.l0]
    rw [if_pos (by omega)]
    have h := ref_l1 n l hl (rows n m l) (by rw [rows_length]; omega) m l.length (k + d * (l.length + 2) + 1) 0 (by omega)
    simp only [List.take_zero, List.filter_nil, Int.natCast_zero] at h
    rw [h, wrap_small (by omega), ← ih k (m + 1) (by omega)]
    congr 1
    simp [rows, List.range_succ]

/-- Bits laid together, as u8. -/
def or8 (x b : Int) : Int := Go.bits .or .u8 x b
theorem or8_eq (x b : Int) : or8 x b = ((BitVec.ofInt 8 x ||| BitVec.ofInt 8 b).toNat : Int) := by
  have h := (BitVec.ofInt 8 x ||| BitVec.ofInt 8 b).isLt
  show IntKind.u8.wrap ((BitVec.ofInt 8 x ||| BitVec.ofInt 8 b).toNat : Int) = _
  generalize (BitVec.ofInt 8 x ||| BitVec.ofInt 8 b).toNat = t at *
  have e : IntKind.u8.wrap (t : Int) = (t : Int) % 256 := rfl
  rw [e]; omega
theorem or8_twice (x b : Int) : or8 (or8 x b) b = or8 x b := by
  rw [or8_eq (or8 x b) b, or8_eq x b]
  congr 1
  rw [BitVec.ofInt_natCast, BitVec.ofNat_toNat, BitVec.setWidth_eq]
  rw [BitVec.or_assoc, BitVec.or_self]

/-- The bits of the first i rows. -/
def bitsTo (r : List (List S44)) : Nat → Int
  | 0 => 0
  | i + 1 => if (rd_L3 r i).length > 0 then or8 (bitsTo r i) (shl .u8 1 i) else bitsTo r i
theorem parts_l0 (r : List (List S44)) (hr : r.length ≤ 1000) (d : Nat) : ∀ (k i : Nat), i + d = r.length → d < k → place_Parts.l0 k (bitsTo r i) r (r.length : Int) (i : Int) = some (bitsTo r r.length) := by
  induction d with
  | zero =>
    intro k i hi hk
    obtain ⟨k, rfl⟩ : ∃ m, k = m + 1 := ⟨k - 1, by omega⟩
    simp only [place_Parts.l0]
    rw [if_neg (by omega), show i = r.length by omega]
  | succ d ih =>
    intro k i hi hk
    obtain ⟨k, rfl⟩ : ∃ m, k = m + 1 := ⟨k - 1, by omega⟩
    simp only [place_Parts.l0]
    rw [if_pos (by omega), if_pos (by omega), if_pos (by omega)]
    by_cases h : ((rd_L3 r i).length : Int) > 0
    · rw [if_pos h, wrap_small (by omega), ← ih k (i + 1) (by omega) (by omega)]
      simp only [bitsTo]
      rw [if_pos (by omega)]
      rfl
    · rw [if_neg h, wrap_small (by omega), ← ih k (i + 1) (by omega) (by omega)]
      simp only [bitsTo]
      rw [if_neg (by omega)]
theorem law_l1 (l : List S44) (n : Int) (r : List (List S44)) (len : Int) (i : Nat) (hi : i < r.length) (hrow : (rd_L3 r i).length ≤ 1000) (p : Int) (d : Nat) : ∀ (k j : Nat) (x : Int), j + d = (rd_L3 r i).length → x = (if 0 < j then or8 p (shl .u8 1 i) else p) →
    dovecotelaw13_PlaceSplits.l1 (k + d + 1) l n r r x (i : Int) len (i : Int) ((rd_L3 r i).length : Int) (j : Int) = dovecotelaw13_PlaceSplits.l0 k l n r r (if 0 < (rd_L3 r i).length then or8 p (shl .u8 1 i) else p) len (wrap64 ((i : Int) + 1)) := by
  induction d with
  | zero =>
    intro k j x hj hx
    simp only [dovecotelaw13_PlaceSplits.l1]
    rw [if_neg (by omega), hx, show j = (rd_L3 r i).length by omega]
  | succ d ih =>
    intro k j x hj hx
    rw [show k + (d + 1) + 1 = (k + d + 1) + 1 by omega]
    simp only [dovecotelaw13_PlaceSplits.l1]
    rw [if_pos (by omega), if_pos (by omega), if_pos (by omega), if_pos (by omega), if_pos (by omega), if_pos (by omega), if_pos (by omega), if_neg (by simp), wrap_small (by omega)]
    refine ih k (j + 1) _ (by omega) ?_
    rw [if_pos (by omega), hx]
    show or8 _ _ = _
    split
    · exact or8_twice _ _
    · rfl
theorem law_l0 (l : List S44) (n : Int) (r : List (List S44)) (hr : r.length ≤ 8) (hrow : ∀ i, (rd_L3 r i).length ≤ 1000) (K : Nat) (hP : ∀ k, K ≤ k → place_Parts.f k l n = some (bitsTo r r.length)) (C : Nat) (hC : 1002 ≤ C) (d : Nat) : ∀ (k i : Nat), i + d = r.length → K + d * C < k →
    dovecotelaw13_PlaceSplits.l0 k l n r r (bitsTo r i) (r.length : Int) (i : Int) = some true := by
  induction d with
  | zero =>
    intro k i hi hk
    obtain ⟨k, rfl⟩ : ∃ m, k = m + 1 := ⟨k - 1, by omega⟩
    simp only [dovecotelaw13_PlaceSplits.l0]
    rw [if_neg (by omega), hP k (by omega), show i = r.length by omega]
    simp
  | succ d ih =>
    intro k i hi hk
    have hle := hrow i
    rw [Nat.succ_mul] at hk
    obtain ⟨k, rfl, hk2⟩ : ∃ m, k = (m + (rd_L3 r i).length + 1) + 1 ∧ K + d * C < m := by
      generalize d * C = D at *
      generalize (rd_L3 r i).length = L at *
      exact ⟨k - L - 2, by omega, by omega⟩
    simp only [dovecotelaw13_PlaceSplits.l0]
    rw [if_pos (by omega), if_pos (by omega), if_pos (by omega), if_pos (by omega), if_pos trivial]
    have h := law_l1 l n r (r.length : Int) i (by omega) hle (bitsTo r i) (rd_L3 r i).length k 0 (bitsTo r i) (by omega) rfl
    rw [show ((0 : Nat) : Int) = 0 from rfl] at h
    rw [h, wrap_small (by omega)]
    exact ih k (i + 1) (by omega) hk2
theorem rd_len (n : Int) (c : Nat) (l : List S44) (hl : l.length ≤ 1000) (i : Int) : (rd_L3 (rows n c l) i).length ≤ 1000 := by
  unfold rd_L3
  rw [List.getD_eq_getElem?_getD]
  cases h : (rows n c l)[i.toNat]? with
  | none => simp
  | some x =>
    obtain ⟨h1, rfl⟩ := List.getElem?_eq_some_iff.1 h
    simp only [rows, List.getElem_map, Option.getD_some]
    exact Nat.le_trans (List.length_filter_le _ _) hl

theorem splits_true (l : List S44) (n : Int) : ∃ k, dovecotelaw13_PlaceSplits.f k l n = some true := by
  by_cases hl : (l.length : Int) > 1000
  · refine ⟨0, ?_⟩
    simp only [dovecotelaw13_PlaceSplits.f, dovecotelaw13_awake.f, Option.bind_some]
    rw [if_pos trivial, if_pos hl]
  · by_cases hn : 1 ≤ n ∧ n ≤ 8
    · obtain ⟨c, rfl⟩ : ∃ c : Nat, (c : Int) = n := ⟨n.toNat, by omega⟩
      have hS : ∀ k, 1010 ≤ k → place_Split.f k l (c : Int) = some (rows c c l) := by
        intro k hk
        obtain ⟨k, rfl⟩ : ∃ m, k = m + 1 := ⟨k - 1, by omega⟩
        simp only [place_Split.f]
        rw [if_neg (by omega)]
        simp only [place_Split.j0]
        rw [if_neg (by simp; omega), if_pos (by omega), if_pos (by omega)]
        have h := split_l0 c c (by omega) rfl l (by omega) l.length k 0 (by omega) (by omega)
        rw [← h]
        congr 1
        apply List.ext_getElem
        · simp [rows]
        · intro i h1 h2; simp [rows]
      have hR : ∀ k, 9000 ≤ k → dovecoteref13_Split.f k l (c : Int) = some (rows c c l) := by
        intro k hk
        obtain ⟨k, rfl⟩ : ∃ m, k = m + 1 := ⟨k - 1, by omega⟩
        simp only [dovecoteref13_Split.f]
        rw [if_neg (by omega)]
        simp only [dovecoteref13_Split.j0]
        rw [if_neg (by simp; omega)]
        have hb : c * (l.length + 2) ≤ 8 * 1002 := Nat.mul_le_mul (by omega) (by omega)
        obtain ⟨q, rfl⟩ : ∃ q, k = q + c * (l.length + 2) + 1 := ⟨k - c * (l.length + 2) - 1, by omega⟩
        have h := ref_l0 c c (by omega) rfl l (by omega) c q 0 (by omega)
        rw [← h]
        rfl
      have hP : ∀ k, 2000 ≤ k → place_Parts.f k l (c : Int) = some (bitsTo (rows c c l) (rows c c l).length) := by
        intro k hk
        simp only [place_Parts.f]
        rw [hS k (by omega)]
        simp only [Option.bind_some]
        exact parts_l0 _ (by rw [rows_length]; omega) (rows c c l).length k 0 (by omega) (by rw [rows_length]; omega)
      refine ⟨20000, ?_⟩
      simp only [dovecotelaw13_PlaceSplits.f, dovecotelaw13_awake.f, Option.bind_some]
      rw [if_pos trivial, if_neg hl, hS _ (by omega), Option.bind_some, hR _ (by omega), Option.bind_some, if_pos rfl]
      exact law_l0 l c _ (by rw [rows_length]; omega) (fun i => rd_len c c l (by omega) i) 2000 hP 1002 (Nat.le_refl _) (rows c c l).length _ 0 (by omega) (by rw [rows_length]; omega)
    · have hS : ∀ k, 1 ≤ k → place_Split.f k l n = some [] := by
        intro k hk
        obtain ⟨k, rfl⟩ : ∃ m, k = m + 1 := ⟨k - 1, by omega⟩
        simp only [place_Split.f]
        split
        · simp [place_Split.j0]
        · simp only [place_Split.j0]; rw [if_pos (by simp; omega)]
      have hR : ∀ k, 1 ≤ k → dovecoteref13_Split.f k l n = some [] := by
        intro k hk
        obtain ⟨k, rfl⟩ : ∃ m, k = m + 1 := ⟨k - 1, by omega⟩
        simp only [dovecoteref13_Split.f]
        split
        · simp [dovecoteref13_Split.j0]
        · simp only [dovecoteref13_Split.j0]; rw [if_pos (by simp; omega)]
      refine ⟨10, ?_⟩
      simp only [dovecotelaw13_PlaceSplits.f, dovecotelaw13_awake.f, Option.bind_some]
      rw [if_pos trivial, if_neg hl, hS _ (by omega), Option.bind_some, hR _ (by omega), Option.bind_some, if_pos rfl]
      simp only [dovecotelaw13_PlaceSplits.l0, place_Parts.f]
      rw [if_neg (by simp), hS _ (by omega)]
      simp [place_Parts.l0]

theorem walk_PlaceSplits {H : Type} {enc : TypeId × Value → H} (W : World) (v0 : Value) (d0 : DataW H) (p0 : List MemPlace) (n : Int)
    (h0 : DataW.Trod enc Try.prog W 0 (fun _ => true) true 40 v0 d0 p0) {base : Nat} (u0 : Value.okWide Try.prog W .any base 40 v0) (z0 : ∀ n ∈ DataW.weights Try.prog 40 d0, n ≤ reachBytes) (w1 : (Lit.int .i64 n).wf = true) :
    Calls Try.prog 7 #[v0, .int .i64 n] W fun e w' => e = .returned (.bool true) ∧ Below W.heap.size W w' := by
  obtain ⟨a, len, cap, rfl⟩ := WideShapes.okWide_slice Try.underlying40 u0
  obtain ⟨fuel, hf⟩ := h0
  obtain ⟨A, c, l, hcs, hlc, hC, _⟩ := open_kd (k := k44) (Q := fun a d => Q44 a d) Try.underlying40 (by kernel_rfl) open_S44 hf
  simp only [Value.cells, List.cons.injEq, Value.slice.injEq, and_true] at hcs
  obtain ⟨rfl, rfl, rfl⟩ := hcs
  obtain ⟨k, hk⟩ := splits_true l n
  exact dovecotelaw13_PlaceSplits.calls k a cap l n true W hC hlc hk
end Go.Proofs.Ytbodaohbmekekaa
