/- Of what was written no beginning is read whole: the plain law. No program in sight. -/
import Derived.Test.YtbmodiomoogffaaRi
set_option linter.unusedVariables false
set_option linter.unusedSimpArgs false
namespace Go.Proofs.Ytbmodiomoogffaa
open Go.RowKit Go.Proofs.YtbmodiomoogffaaW.PrintWords PRd

/-- A text that is put together twice. -/
theorem split_both {a b x y : ByteArray} (h : a ++ b = x ++ y) : (∃ l, x = a ++ l ∧ 0 < l.size ∧ b = l ++ y) ∨ (∃ l, a = x ++ l ∧ l ++ b = y) := by
  have h2 := congrArg bytesOf h
  rw [bytesOf_append, bytesOf_append] at h2
  have put : ∀ (l : List Int) (u : ByteArray) (v : ByteArray), bytesOf u = bytesOf v ++ l → Bytes l := fun l u v he q hq => bytesOf_bytes u q (by rw [he]; exact List.mem_append_right _ hq)
  rcases List.append_eq_append_iff.1 h2 with ⟨l, h3, h4⟩ | ⟨l, h3, h4⟩
  · have hl := put l x a h3
    have e1 : x = a ++ strOfNums l := bytes_ext (by rw [bytesOf_append, bytesOf_nums _ hl, h3])
    have e2 : b = strOfNums l ++ y := bytes_ext (by rw [bytesOf_append, bytesOf_nums _ hl, h4])
    rcases (show (strOfNums l).size = 0 ∨ 0 < (strOfNums l).size by omega) with h0 | h0
    · right
      have h5 := size0 h0
      rw [h5] at e1 e2
      rw [ByteArray.append_empty] at e1
      rw [ByteArray.empty_append] at e2
      exact ⟨ByteArray.empty, by rw [ByteArray.append_empty, e1], by rw [ByteArray.empty_append, e2]⟩
    · exact .inl ⟨_, e1, h0, e2⟩
  · have hl := put l a x h3
    exact .inr ⟨strOfNums l, bytes_ext (by rw [bytesOf_append, bytesOf_nums _ hl, h3]), bytes_ext (by rw [bytesOf_append, bytesOf_nums _ hl, h4])⟩
theorem rdNum_cut (n m : Int) (a b : ByteArray) (h0 : 0 ≤ n) (h1 : n ≤ 18446744073709551615) (he : encB n = a ++ b) (hb : 0 < b.size) : rdNum a 0 m = (0, ByteArray.empty, 4) := by
  unfold rdNum
  rw [if_pos rfl]
  exact numR_cut n m a b h0 h1 he hb
theorem rdNum4 (m : Int) : rdNum ByteArray.empty 4 m = (0, ByteArray.empty, 4) := by unfold rdNum; rw [if_neg (by decide)]
theorem rdText4 (lo hi : Int) : rdText ByteArray.empty 4 lo hi = (ByteArray.empty, ByteArray.empty, 4) := by unfold rdText; rw [rdNum4, if_neg (by decide)]
theorem rdStamp4 : rdStamp ByteArray.empty 4 = (0, 0, ByteArray.empty, 4) := by unfold rdStamp; simp only [rdNum4]; exact if_neg (by decide)
theorem rdText_cut (x a b : ByteArray) (lo hi : Int) (hx : x.size ≤ 9223372036854775807) (hl : lo ≤ x.size) (hh : (x.size : Int) ≤ hi) (he : encB x.size ++ x = a ++ b) (hb : 0 < b.size) : rdText a 0 lo hi = (ByteArray.empty, ByteArray.empty, 4) := by
  rcases split_both he.symm with ⟨l, h1, h2, h3⟩ | ⟨l, h1, h2⟩
  · unfold rdText
    rw [rdNum_cut _ _ a l (by omega) (by omega) h1 h2, if_neg (by decide)]
  · unfold rdText
    rw [h1, rdNum_enc _ _ _ (by omega) (by omega) (by show (x.size : Int) ≤ 18446744073709551615; omega)]
    have hs : l.size + b.size = x.size := by rw [← ByteArray.size_append, h2]
    have hm : mx lo 0 ≤ (x.size : Int) := by unfold mx; split <;> omega
    dsimp only
    rw [if_pos rfl, if_neg (by omega), if_pos (by omega)]
theorem rdStamp_cut (p q : Int) (a b : ByteArray) (h0 : 0 ≤ p) (h1 : p ≤ 281474976710656) (h2 : 0 ≤ q) (h3 : q ≤ 4095) (he : encB p ++ encB q = a ++ b) (hb : 0 < b.size) : rdStamp a 0 = (0, 0, ByteArray.empty, 4) := by
  rcases split_both he.symm with ⟨l, k1, k2, k3⟩ | ⟨l, k1, k2⟩
  · unfold rdStamp
    rw [rdNum_cut _ _ a l h0 (by omega) k1 k2]
    dsimp only
    rw [rdNum4, if_neg (by decide)]
  · unfold rdStamp
    rw [k1, rdNum_enc _ _ _ h0 (by omega) h1]
    dsimp only
    rw [rdNum_cut _ _ l b h2 (by omega) k2.symm hb, if_neg (by decide)]
/-- The law's three questions. -/
theorem cuts (n p q : Int) (x a b : ByteArray) (hn : 0 ≤ n ∧ n ≤ 18446744073709551615) (hx : x.size ≤ 400) (hp : 0 ≤ p ∧ p ≤ 281474976710656) (hq : 0 ≤ q ∧ q ≤ 4095)
    (he : a ++ b = encB n ++ encB x.size ++ x ++ encB p ++ encB q) (hb : 0 < b.size) :
    ∃ n1 s1 e1 t s2 e2 p1 q1, rdNum a 0 M64 = (n1, s1, e1) ∧ rdText s1 e1 0 400 = (t, s2, e2) ∧ rdStamp s2 e2 = (p1, q1, ByteArray.empty, 4) ∧ s1.size ≤ a.size := by
  have he2 : a ++ b = encB n ++ ((encB x.size ++ x) ++ (encB p ++ encB q)) := by rw [he]; simp only [ByteArray.append_assoc]
  rcases split_both he2 with ⟨l, k1, k2, _⟩ | ⟨l, k1, k2⟩
  · exact ⟨_, _, _, _, _, _, _, _, rdNum_cut _ _ a l hn.1 hn.2 k1 k2, rdText4 _ _, rdStamp4, Nat.zero_le _⟩
  · have r1 : rdNum a 0 M64 = (n, l, 0) := by rw [k1]; exact rdNum_enc _ _ _ hn.1 hn.2 hn.2
    have hsz : l.size ≤ a.size := by rw [k1, ByteArray.size_append]; omega
    rcases split_both k2 with ⟨l2, j1, j2, _⟩ | ⟨l2, j1, j2⟩
    · exact ⟨_, _, _, _, _, _, _, _, r1, rdText_cut x l l2 0 400 (by omega) (by omega) (by omega) j1 j2, rdStamp4, hsz⟩
    · have r2 : rdText l 0 0 400 = (x, l2, 0) := by rw [j1]; exact rdText_enc _ _ _ _ (by omega) (by omega) (by omega)
      exact ⟨_, _, _, _, _, _, _, _, r1, r2, rdStamp_cut p q l2 b hp.1 hp.2 hq.1 hq.2 j2.symm hb, hsz⟩
end Go.Proofs.Ytbmodiomoogffaa
