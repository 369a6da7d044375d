/- What letter's readers read, in plain words. No program in sight. -/
import Derived.Test.YtjfokbkfniilhaaPLax1
import Derived.Test.YtjfokbkfniilhaaPLax2
import Derived.Test.YtjfokbkfniilhaaLg
set_option linter.unusedVariables false
set_option linter.unusedSimpArgs false
namespace Go.Proofs.Ytjfokbkfniilhaa
open Go.RowKit Go.Proofs.YtjfokbkfniilhaaW.PrintWords Go.Proofs.Ytjfokbkfniilhaa.PLa

def rdX (s : ByteArray) (er : Int) : S24 × ByteArray × Int :=
  let a := rdNum s er 4294967295
  let b := rdNum a.2.1 a.2.2 4294967295
  (⟨a.1, b.1⟩, b.2.1, b.2.2)
def rdW (s : ByteArray) (er : Int) : S66 × ByteArray × Int :=
  let a := rdText s er 0 32
  let b := rdFlag a.2.1 a.2.2
  let c := rdText b.2.1 b.2.2 0 256
  (⟨a.1, c.1, b.1⟩, c.2.1, c.2.2)
def rdP (s : ByteArray) (er : Int) : S68 × ByteArray × Int :=
  let a := rdText s er 0 32
  let c := rdText a.2.1 a.2.2 0 256
  (⟨a.1, c.1⟩, c.2.1, c.2.2)
/-- So many, one behind the other. -/
def lstR {α : Type} (one : ByteArray → Int → α × ByteArray × Int) : Nat → ByteArray → Int → List α × ByteArray × Int
  | 0, s, er => ([], s, er)
  | n + 1, s, er =>
    let a := one s er
    let r := lstR one n a.2.1 a.2.2
    (a.1 :: r.1, r.2.1, r.2.2)
def rdAsk (s : ByteArray) (er : Int) : Rq × ByteArray × Int :=
  let a := rdNum s er 9
  let b := rdX a.2.1 a.2.2
  let c := rdStamp b.2.1 b.2.2
  let d := rdStamp c.2.2.1 c.2.2.2
  let e := rdText d.2.2.1 d.2.2.2 0 32
  let f := rdText e.2.1 e.2.2 0 32
  let g := rdNum f.2.1 f.2.2 32
  let h := rdNum g.2.1 g.2.2 255
  let n := rdCount h.2.1 h.2.2 16
  let ws := lstR rdW n.1.toNat n.2.1 n.2.2
  let m := rdCount ws.2.1 ws.2.2 16
  let sk := lstR rdX m.1.toNat m.2.1 m.2.2
  (⟨a.1, b.1.f0, b.1.f1, c.1, c.2.1, d.1, d.2.1, e.1, f.1, g.1, h.1, ws.1, sk.1⟩, sk.2.1, sk.2.2)
def rdRep (s : ByteArray) (er : Int) : Rp × ByteArray × Int :=
  let a := rdNum s er 10
  let b := rdNum a.2.1 a.2.2 255
  let c := rdFlag b.2.1 b.2.2
  let d := rdText c.2.1 c.2.2 0 256
  let n := rdCount d.2.1 d.2.2 32
  let ps := lstR rdP n.1.toNat n.2.1 n.2.2
  let e := rdX ps.2.1 ps.2.2
  let f := rdStamp e.2.1 e.2.2
  let g := rdStamp f.2.2.1 f.2.2.2
  let h := rdText g.2.2.1 g.2.2.2 0 32
  let i := rdStamp h.2.1 h.2.2
  (⟨a.1, b.1, c.1, d.1, ps.1, e.1.f0, e.1.f1, f.1, f.2.1, g.1, g.2.1, h.1, i.1, i.2.1⟩, i.2.2.1, i.2.2.2)

/-! The bytes that are left never grow. -/
theorem num_sz (s : ByteArray) (er m : Int) (h : 0 ≤ m) : (rdNum s er m).2.1.size ≤ s.size := (rdNum_facts s er m h).2.2
theorem text_sz (s : ByteArray) (er lo hi : Int) : (rdText s er lo hi).2.1.size ≤ s.size := by
  have h := num_sz s er M64 (by decide)
  unfold rdText
  split
  · split
    · exact Nat.zero_le _
    · split
      · exact Nat.zero_le _
      · show ((rdNum s er M64).2.1.extract _ _).size ≤ _
        rw [ByteArray.size_extract]
        omega
  · exact h
theorem stamp_sz (s : ByteArray) (er : Int) : (rdStamp s er).2.2.1.size ≤ s.size := by
  have h := num_sz s er 281474976710656 (by decide)
  have h2 := num_sz (rdNum s er 281474976710656).2.1 (rdNum s er 281474976710656).2.2 4095 (by decide)
  unfold rdStamp
  dsimp only
  split <;> (dsimp only; omega)
theorem flag_sz (s : ByteArray) (er : Int) : (rdFlag s er).2.1.size ≤ s.size := by
  unfold rdFlag
  split
  · split
    · exact Nat.zero_le _
    · split
      · exact Nat.zero_le _
      · show (s.extract _ _).size ≤ _
        rw [ByteArray.size_extract]
        omega
  · exact Nat.le_refl _
theorem count_sz (s : ByteArray) (er m : Int) (h : 0 ≤ m) : (rdCount s er m).2.1.size ≤ s.size := num_sz _ _ _ (by unfold mx; split <;> omega)
theorem count_le (s : ByteArray) (er m : Int) (h : 0 ≤ m) : 0 ≤ (rdCount s er m).1 ∧ (rdCount s er m).1 ≤ m := by
  have e : mx m 0 = m := by unfold mx; split <;> omega
  unfold rdCount
  rw [e]
  have := rdNum_facts s er m h
  exact ⟨this.1, this.2.1⟩
theorem x_sz (s : ByteArray) (er : Int) : (rdX s er).2.1.size ≤ s.size := Nat.le_trans (num_sz _ _ _ (by decide)) (num_sz _ _ _ (by decide))
theorem w_sz (s : ByteArray) (er : Int) : (rdW s er).2.1.size ≤ s.size := Nat.le_trans (text_sz _ _ _ _) (Nat.le_trans (flag_sz _ _) (text_sz _ _ _ _))
theorem p_sz (s : ByteArray) (er : Int) : (rdP s er).2.1.size ≤ s.size := Nat.le_trans (text_sz _ _ _ _) (text_sz _ _ _ _)
theorem lst_sz {α : Type} (one : ByteArray → Int → α × ByteArray × Int) (h : ∀ s er, (one s er).2.1.size ≤ s.size) (n : Nat) : ∀ s er, (lstR one n s er).2.1.size ≤ s.size := by
  induction n with
  | zero => intro s er; exact Nat.le_refl _
  | succ n ih => intro s er; exact Nat.le_trans (ih _ _) (h _ _)
theorem lst_len {α : Type} (one : ByteArray → Int → α × ByteArray × Int) (n : Nat) : ∀ s er, (lstR one n s er).1.length = n := by
  induction n with
  | zero => intro s er; rfl
  | succ n ih => intro s er; show (_ :: _).length = _; rw [List.length_cons, ih]
theorem num_f (s : ByteArray) (er m : Int) (h0 : 0 ≤ m) (h1 : m ≤ 18446744073709551615) : pack_Reader_Number.f s er m = some (rdNum s er m) := by
  unfold pack_Reader_Number.f
  rw [if_pos h0, if_pos h1]
theorem text_k (k : Nat) (s : ByteArray) (er lo hi : Int) (hs : s.size ≤ 9223372036854775807) (h1 : lo ≤ 9223372036854775807) (h2 : hi ≤ 9223372036854775807) : PRt.pack_Reader_Text.f (k + 1) s er lo hi = some (rdText s er lo hi) := by
  induction k with
  | zero => exact text_f s er lo hi hs h1 h2
  | succ k ih => exact PRt.pack_Reader_Text.mono s er lo hi (k + 1) _ ih
theorem txn_f (s : ByteArray) (er : Int) : letter_txn.f s er = some ((rdX s er).1.f0, (rdX s er).1.f1, (rdX s er).2.1, (rdX s er).2.2) := by
  have h1 := rdNum_facts s er 4294967295 (by decide)
  have h2 := rdNum_facts (rdNum s er 4294967295).2.1 (rdNum s er 4294967295).2.2 4294967295 (by decide)
  unfold letter_txn.f
  rw [num_f _ _ _ (by decide) (by decide), Option.bind_some, num_f _ _ _ (by decide) (by decide), Option.bind_some, Int.emod_eq_of_lt h1.1 (by omega), Int.emod_eq_of_lt h2.1 (by omega)]
  rfl
theorem wid (x : Int) (h0 : 0 ≤ x) (h1 : x ≤ 100000) : wrap64 x = x := by unfold wrap64; omega
theorem askl1 (d : Nat) : ∀ (k : Nat) (n i : Int) (s : ByteArray) (er : Int) (y0 y1 y2 y3 y4 y5 y6 : Int) (y7 y8 : ByteArray) (y9 y10 : Int) (ws : List S66) (sk : List S24), d < k → n = i + d → 0 ≤ i → n ≤ 16 → sk.length ≤ i →
    letter_readAsk.l1 k n i s er y0 y1 y2 y3 y4 y5 y6 y7 y8 y9 y10 ws sk = some (y0, y1, y2, y3, y4, y5, y6, y7, y8, y9, y10, ws, sk ++ (lstR rdX d s er).1, (lstR rdX d s er).2.1, (lstR rdX d s er).2.2) := by
  induction d with
  | zero =>
    intro k n i s er y0 y1 y2 y3 y4 y5 y6 y7 y8 y9 y10 ws sk hk hn h0 h16 hl
    obtain ⟨k, rfl⟩ : ∃ j, k = j + 1 := ⟨k - 1, by omega⟩
    rw [letter_readAsk.l1, if_neg (by omega)]
    show _ = some (_, _, _, _, _, _, _, _, _, _, _, _, sk ++ [], s, er)
    rw [List.append_nil]
  | succ d ih =>
    intro k n i s er y0 y1 y2 y3 y4 y5 y6 y7 y8 y9 y10 ws sk hk hn h0 h16 hl
    obtain ⟨k, rfl⟩ : ∃ j, k = j + 1 := ⟨k - 1, by omega⟩
    rw [letter_readAsk.l1, if_pos (by omega), txn_f, Option.bind_some, if_pos (by omega), wid (i + 1) (by omega) (by omega)]
    refine (ih k n (i + 1) _ _ _ _ _ _ _ _ _ _ _ _ _ _ _ (by omega) (by omega) (by omega) h16 (by rw [List.length_append]; simp; omega)).trans ?_
    simp [lstR]
theorem askl0 (d : Nat) : ∀ (k : Nat) (n i : Int) (s : ByteArray) (er : Int) (y0 y1 y2 y3 y4 y5 y6 : Int) (y7 y8 : ByteArray) (y9 y10 : Int) (ws : List S66), d + 20 < k → n = i + d → 0 ≤ i → n ≤ 16 → ws.length ≤ i → s.size ≤ 9223372036854775807 →
    letter_readAsk.l0 k n i s er y0 y1 y2 y3 y4 y5 y6 y7 y8 y9 y10 ws = (let r := lstR rdW d s er
      let m := rdCount r.2.1 r.2.2 16
      let q := lstR rdX m.1.toNat m.2.1 m.2.2
      some (y0, y1, y2, y3, y4, y5, y6, y7, y8, y9, y10, ws ++ r.1, q.1, q.2.1, q.2.2)) := by
  induction d with
  | zero =>
    intro k n i s er y0 y1 y2 y3 y4 y5 y6 y7 y8 y9 y10 ws hk hn h0 h16 hl hs
    obtain ⟨k, rfl⟩ : ∃ j, k = j + 1 := ⟨k - 1, by omega⟩
    have hc := count_le s er 16 (by decide)
    rw [letter_readAsk.l0, if_neg (by omega), count_f _ _ _ (by decide), Option.bind_some]
    rw [askl1 (rdCount s er 16).1.toNat k _ 0 _ _ _ _ _ _ _ _ _ _ _ _ _ _ _ (by omega) (by omega) (by decide) hc.2 (by simp)]
    show _ = some (_, _, _, _, _, _, _, _, _, _, _, ws ++ [], _, _, _)
    rw [List.append_nil]
    rfl
  | succ d ih =>
    intro k n i s er y0 y1 y2 y3 y4 y5 y6 y7 y8 y9 y10 ws hk hn h0 h16 hl hs
    obtain ⟨k, rfl⟩ : ∃ j, k = j + 1 := ⟨k - 1, by omega⟩
    obtain ⟨k, rfl⟩ : ∃ j, k = j + 1 := ⟨k - 1, by omega⟩
    have z1 := text_sz s er 0 32
    have z2 := flag_sz (rdText s er 0 32).2.1 (rdText s er 0 32).2.2
    have z3 := w_sz s er
    rw [letter_readAsk.l0, if_pos (by omega), text_k k _ _ _ _ hs (by decide) (by decide), Option.bind_some, flag_f, Option.bind_some, text_k k _ _ _ _ (by omega) (by decide) (by decide), Option.bind_some, if_pos (by omega), wid (i + 1) (by omega) (by omega)]
    refine (ih (k + 1) n (i + 1) _ _ _ _ _ _ _ _ _ _ _ _ _ _ (by omega) (by omega) (by omega) h16 (by rw [List.length_append]; simp; omega) (by exact Nat.le_trans z3 hs)).trans ?_
    simp [lstR, rdW]
theorem ask_f (s : ByteArray) (er : Int) (hs : s.size ≤ 9223372036854775807) : letter_readAsk.f 100 s er = some ((rdAsk s er).1.k, (rdAsk s er).1.bc, (rdAsk s er).1.bn, (rdAsk s er).1.sp, (rdAsk s er).1.sl, (rdAsk s er).1.ap, (rdAsk s er).1.al, (rdAsk s er).1.key, (rdAsk s er).1.tt, (rdAsk s er).1.lim, (rdAsk s er).1.parts, (rdAsk s er).1.ws, (rdAsk s er).1.sk, (rdAsk s er).2.1, (rdAsk s er).2.2) := by
  unfold letter_readAsk.f
  rw [num_f _ _ _ (by decide) (by decide), Option.bind_some, txn_f, Option.bind_some]
  try dsimp only
  rw [stamp_f, Option.bind_some]
  try dsimp only
  rw [stamp_f, Option.bind_some]
  try dsimp only
  have z1 := num_sz s er 9 (by decide)
  have z2 := x_sz (rdNum s er 9).2.1 (rdNum s er 9).2.2
  obtain ⟨b, hb⟩ : ∃ b, b = rdX (rdNum s er 9).2.1 (rdNum s er 9).2.2 := ⟨_, rfl⟩
  rw [← hb] at z2 ⊢
  have z3 := stamp_sz b.2.1 b.2.2
  obtain ⟨c, hc⟩ : ∃ c, c = rdStamp b.2.1 b.2.2 := ⟨_, rfl⟩
  rw [← hc] at z3 ⊢
  have z4 := stamp_sz c.2.2.1 c.2.2.2
  obtain ⟨d, hd⟩ : ∃ d, d = rdStamp c.2.2.1 c.2.2.2 := ⟨_, rfl⟩
  rw [← hd] at z4 ⊢
  rw [text_k 99 _ _ _ _ (by omega) (by decide) (by decide), Option.bind_some]
  have z5 := text_sz d.2.2.1 d.2.2.2 0 32
  obtain ⟨e, he⟩ : ∃ e, e = rdText d.2.2.1 d.2.2.2 0 32 := ⟨_, rfl⟩
  rw [← he] at z5 ⊢
  rw [text_k 99 _ _ _ _ (by omega) (by decide) (by decide), Option.bind_some]
  have z6 := text_sz e.2.1 e.2.2 0 32
  obtain ⟨f, hf⟩ : ∃ f, f = rdText e.2.1 e.2.2 0 32 := ⟨_, rfl⟩
  rw [← hf] at z6 ⊢
  rw [num_f _ _ _ (by decide) (by decide), Option.bind_some]
  have z7 := rdNum_facts f.2.1 f.2.2 32 (by decide)
  obtain ⟨g, hg⟩ : ∃ g, g = rdNum f.2.1 f.2.2 32 := ⟨_, rfl⟩
  rw [← hg] at z7 ⊢
  rw [num_f _ _ _ (by decide) (by decide), Option.bind_some]
  have z8 := rdNum_facts g.2.1 g.2.2 255 (by decide)
  obtain ⟨h, hh⟩ : ∃ h, h = rdNum g.2.1 g.2.2 255 := ⟨_, rfl⟩
  rw [← hh] at z8 ⊢
  rw [count_f _ _ _ (by decide), Option.bind_some]
  have z9 := count_sz h.2.1 h.2.2 16 (by decide)
  have z10 := count_le h.2.1 h.2.2 16 (by decide)
  obtain ⟨n, hn⟩ : ∃ n, n = rdCount h.2.1 h.2.2 16 := ⟨_, rfl⟩
  rw [← hn] at z9 z10 ⊢
  have z0 := rdNum_facts s er 9 (by decide)
  rw [askl0 n.1.toNat 100 _ 0 _ _ _ _ _ _ _ _ _ _ _ _ _ _ (by omega) (by omega) (by decide) z10.2 (by simp) (by omega)]
  rw [wid _ z0.1 (by omega), wid _ z7.1 (by omega), Int.emod_eq_of_lt z8.1 (by omega)]
  subst hn hh hg hf he hd hc hb
  rfl
theorem repl0 (d : Nat) : ∀ (k : Nat) (n i : Int) (s : ByteArray) (er : Int) (y0 y1 : Int) (y2 : Bool) (y3 : ByteArray) (ps : List S68) (y5 y6 y7 y8 y9 y10 : Int) (y11 : ByteArray) (y12 y13 : Int), d + 3 < k → n = i + d → 0 ≤ i → n ≤ 32 → ps.length ≤ i → s.size ≤ 9223372036854775807 →
    letter_readReply.l0 k n i s er y0 y1 y2 y3 ps y5 y6 y7 y8 y9 y10 y11 y12 y13 = (let q := lstR rdP d s er
      let e := rdX q.2.1 q.2.2
      let f := rdStamp e.2.1 e.2.2
      let g := rdStamp f.2.2.1 f.2.2.2
      let h := rdText g.2.2.1 g.2.2.2 0 32
      let i := rdStamp h.2.1 h.2.2
      some (y0, y1, y2, y3, ps ++ q.1, e.1.f0, e.1.f1, f.1, f.2.1, g.1, g.2.1, h.1, i.1, i.2.1, i.2.2.1, i.2.2.2)) := by
  induction d with
  | zero =>
    intro k n i s er y0 y1 y2 y3 ps y5 y6 y7 y8 y9 y10 y11 y12 y13 hk hn h0 h16 hl hs
    obtain ⟨k, rfl⟩ : ∃ j, k = j + 1 := ⟨k - 1, by omega⟩
    obtain ⟨k, rfl⟩ : ∃ j, k = j + 1 := ⟨k - 1, by omega⟩
    have z2 := x_sz s er
    have z3 := stamp_sz (rdX s er).2.1 (rdX s er).2.2
    have z4 := stamp_sz (rdStamp (rdX s er).2.1 (rdX s er).2.2).2.2.1 (rdStamp (rdX s er).2.1 (rdX s er).2.2).2.2.2
    rw [letter_readReply.l0, if_neg (by omega), txn_f, Option.bind_some]
    try dsimp only
    rw [stamp_f, Option.bind_some, stamp_f, Option.bind_some, text_k k _ _ _ _ (by omega) (by decide) (by decide), Option.bind_some, stamp_f, Option.bind_some]
    show _ = some (_, _, _, _, ps ++ [], _, _, _, _, _, _, _, _, _, _, _)
    rw [List.append_nil]
    rfl
  | succ d ih =>
    intro k n i s er y0 y1 y2 y3 ps y5 y6 y7 y8 y9 y10 y11 y12 y13 hk hn h0 h16 hl hs
    obtain ⟨k, rfl⟩ : ∃ j, k = j + 1 := ⟨k - 1, by omega⟩
    obtain ⟨k, rfl⟩ : ∃ j, k = j + 1 := ⟨k - 1, by omega⟩
    have z1 := text_sz s er 0 32
    have z3 := p_sz s er
    rw [letter_readReply.l0, if_pos (by omega), text_k k _ _ _ _ hs (by decide) (by decide), Option.bind_some, text_k k _ _ _ _ (by omega) (by decide) (by decide), Option.bind_some, if_pos (by omega), wid (i + 1) (by omega) (by omega)]
    refine (ih (k + 1) n (i + 1) _ _ _ _ _ _ _ _ _ _ _ _ _ _ _ _ (by omega) (by omega) (by omega) h16 (by rw [List.length_append]; simp; omega) (by exact Nat.le_trans z3 hs)).trans ?_
    simp [lstR, rdP]
theorem rep_f (s : ByteArray) (er : Int) (hs : s.size ≤ 9223372036854775807) : letter_readReply.f 100 s er = some ((rdRep s er).1.k, (rdRep s er).1.er, (rdRep s er).1.fd, (rdRep s er).1.val, (rdRep s er).1.ps, (rdRep s er).1.wc, (rdRep s er).1.wn, (rdRep s er).1.sp, (rdRep s er).1.sl, (rdRep s er).1.ap, (rdRep s er).1.al, (rdRep s er).1.pr, (rdRep s er).1.np, (rdRep s er).1.nl, (rdRep s er).2.1, (rdRep s er).2.2) := by
  unfold letter_readReply.f
  have z1 := rdNum_facts s er 10 (by decide)
  rw [num_f _ _ _ (by decide) (by decide), Option.bind_some]
  obtain ⟨a, ha⟩ : ∃ a, a = rdNum s er 10 := ⟨_, rfl⟩
  rw [← ha] at z1 ⊢
  have z2 := rdNum_facts a.2.1 a.2.2 255 (by decide)
  rw [num_f _ _ _ (by decide) (by decide), Option.bind_some]
  obtain ⟨b, hb⟩ : ∃ b, b = rdNum a.2.1 a.2.2 255 := ⟨_, rfl⟩
  rw [← hb] at z2 ⊢
  have z3 := flag_sz b.2.1 b.2.2
  rw [flag_f, Option.bind_some]
  obtain ⟨c, hc⟩ : ∃ c, c = rdFlag b.2.1 b.2.2 := ⟨_, rfl⟩
  rw [← hc] at z3 ⊢
  rw [text_k 99 _ _ _ _ (by omega) (by decide) (by decide), Option.bind_some]
  have z4 := text_sz c.2.1 c.2.2 0 256
  obtain ⟨d, hd⟩ : ∃ d, d = rdText c.2.1 c.2.2 0 256 := ⟨_, rfl⟩
  rw [← hd] at z4 ⊢
  rw [count_f _ _ _ (by decide), Option.bind_some]
  have z9 := count_sz d.2.1 d.2.2 32 (by decide)
  have z10 := count_le d.2.1 d.2.2 32 (by decide)
  obtain ⟨n, hn⟩ : ∃ n, n = rdCount d.2.1 d.2.2 32 := ⟨_, rfl⟩
  rw [← hn] at z9 z10 ⊢
  rw [repl0 n.1.toNat 100 _ 0 _ _ _ _ _ _ _ _ _ _ _ _ _ _ _ _ (by omega) (by omega) (by decide) z10.2 (by simp) (by omega)]
  rw [wid _ z1.1 (by omega), wid _ z2.1 (by omega)]
  subst hn hd hc hb ha
  rfl
end Go.Proofs.Ytjfokbkfniilhaa
