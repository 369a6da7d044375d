/- A scope through which the run goes by several labels: what holds at each jump, and a measure that each pass lowers. Over any program. -/
import Derived.ScopeJumps
import Derived.WalkMore
import Derived.Test.YtblabgdkbcphkaaPRdx
import Derived.Test.YtblabgdkbcphkaaZw
import Derived.Test.YtblabgdkbcphkaaShelf
import Derived.Lib.Hide
import Derived.WalkKit
import Derived.WalkLawsBesides
set_option linter.unusedVariables false
set_option linter.unusedSimpArgs false
namespace Go.Proofs.Ytblabgdkbcphkaa

/-- As Q; by a goto to label l: J l. -/
def jumps (J : Nat → Act → World → Prop) (Q : Exit → Act → World → Prop) : Exit → Act → World → Prop
  | .goto l, a, w => J l a w
  | e, a, w => Q e a w
section
variable {P : Program} {a : Act} {w : World} {Q : Exit → Act → World → Prop}
theorem jumps_ret (J : Nat → Act → World → Prop) : jumps J Q .ret a w = Q .ret a w := rfl
theorem wp_scope_many {c : Code} (J : Nat → Nat → Act → World → Prop)
    (first : c.wp P (jumps (fun l a w => ∃ n, J n l a w) Q) a w)
    (pass : ∀ n l a w, J n l a w → ∃ r, findLabel c l = some r ∧ r.wp P (jumps (fun l a w => ∃ m, m < n ∧ J m l a w) Q) a w) : (Code.scope c).wp P Q a w := by
  intro b k cs
  have key : ∀ n l a w, J n l a w → ∃ rest, gotoIn l (.inScope c :: k) = some (.code rest :: .inScope c :: k) ∧ ∃ e a' w', Q e a' w' ∧ Arrives P (lone (b.at a (.code rest :: .inScope c :: k)) cs w) b k cs e a' w' := by
    intro n
    induction n using Nat.strongRecOn with
    | _ n ih =>
      intro l a w hJ
      obtain ⟨rest, hf, hw⟩ := pass n l a w hJ
      have hg : gotoIn l (.inScope c :: k) = some (.code rest :: .inScope c :: k) := by simp [gotoIn, hf]
      refine ⟨rest, hg, ?_⟩
      obtain ⟨e, a₁, w₁, hq, harr⟩ := hw b (.inScope c :: k) cs
      cases e with
      | normal => exact ⟨.normal, a₁, w₁, hq, Steps.trans harr (.one step_inScope)⟩
      | exit id => exact ⟨.exit id, a₁, w₁, hq, fun k' hk => harr k' (by simp [exitTo, hk])⟩
      | goto l' =>
        obtain ⟨m, hlt, hJ'⟩ := hq
        obtain ⟨rest', hg', e₂, a₂, w₂, hq₂, harr₂⟩ := ih m hlt l' a₁ w₁ hJ'
        exact ⟨e₂, a₂, w₂, hq₂, .of_steps (harr _ hg') harr₂⟩
      | ret => exact ⟨_, a₁, w₁, hq, harr⟩
      | panic ch => exact ⟨_, a₁, w₁, hq, harr⟩
      | outgrown => exact ⟨_, a₁, w₁, hq, harr⟩
  obtain ⟨e, a₁, w₁, hq, harr⟩ := first b (.inScope c :: k) cs
  cases e with
  | normal => exact ⟨.normal, a₁, w₁, hq, .head step_scope (Steps.trans harr (.one step_inScope))⟩
  | exit id => exact ⟨.exit id, a₁, w₁, hq, fun k' hk => .head step_scope (harr k' (by simp [exitTo, hk]))⟩
  | goto l' =>
    obtain ⟨n, hJ'⟩ := hq
    obtain ⟨rest', hg', e₂, a₂, w₂, hq₂, harr₂⟩ := key n l' a₁ w₁ hJ'
    exact ⟨e₂, a₂, w₂, hq₂, .of_steps (.head step_scope (harr _ hg')) harr₂⟩
  | ret => exact ⟨_, a₁, w₁, hq, .of_steps (.one step_scope) harr⟩
  | panic ch => exact ⟨_, a₁, w₁, hq, .of_steps (.one step_scope) harr⟩
  | outgrown => exact ⟨_, a₁, w₁, hq, .of_steps (.one step_scope) harr⟩
end
end Go.Proofs.Ytblabgdkbcphkaa

/- pack.Reader's Number: read with labels and gotos. Conditions: those that the theorem names. -/
set_option linter.unusedVariables false
set_option linter.unusedSimpArgs false
namespace Go.Proofs.Ytblabgdkbcphkaa
open Go.RowKit Go.Proofs.YtblabgdkbcphkaaW.PrintWords PRd

/-- The number of the c bytes behind the first. -/
def beVal (s : ByteArray) : Nat → Nat
  | 0 => 0
  | c + 1 => beVal s c * 256 + (bt s ((c + 1 : Nat) : Int)).toNat
theorem beVal_lt (s : ByteArray) (c : Nat) : beVal s c < 256 ^ c := by
  induction c with
  | zero => simp [beVal]
  | succ c ih =>
    have := bt_range s ((c + 1 : Nat) : Int)
    simp only [beVal, Nat.pow_succ]
    omega
def numFin (s : ByteArray) (most v : Int) (sz : Nat) : Int × ByteArray × Int := if v ≤ most then (v, s.extract sz s.size, 0) else (0, ByteArray.empty, 3)
def numBig (s : ByteArray) (most : Int) (k : Nat) : Int × ByteArray × Int := if beVal s k < 248 ∨ byteLen (beVal s k) ≠ k then (0, ByteArray.empty, 2) else numFin s most (beVal s k) (k + 1)
/-- What is read: the number, what is left, the error. -/
def numR (s : ByteArray) (most : Int) : Int × ByteArray × Int :=
  if s.size = 0 then (0, ByteArray.empty, 4)
  else if bt s 0 < 248 then numFin s most (bt s 0) 1
  else if s.size ≤ (bt s 0 - 247).toNat then (0, ByteArray.empty, 4)
  else numBig s most (bt s 0 - 247).toNat

/-- What holds at a jump to 'bad'. -/
def NumJ0 (g : Nat) (s : ByteArray) (most : Int) (w : World) (a : Act) (w' : World) : Prop := ∃ (code : Int) (u : Nat → Value), a = { tmps := #[.pointer (some ⟨g, 0, none⟩), .int .u64 most, u 2, u 3, .int .u64 0, u 5, .int .i64 code, u 7, u 8, u 9, u 10, u 11, u 12, u 13, u 14, u 15, u 16, u 17, u 18, u 19, u 20, u 21, u 22, u 23, u 24, u 25, u 26, u 27, u 28, u 29, u 30, u 31, u 32, u 33, u 34, u 35, u 36, u 37, u 38, u 39, u 40, u 41, u 42, u 43, u 44, u 45, u 46, u 47, u 48, u 49, u 50, u 51, u 52, u 53, u 54, u 55, u 56, u 57, u 58, u 59, u 60, u 61, u 62, u 63, u 64, u 65, u 66, u 67, u 68, u 69, u 70, u 71, u 72, u 73, u 74, u 75, u 76, u 77, u 78, u 79, u 80, u 81], defers := [] } ∧ Aside0 (numR s most = (0, ByteArray.empty, code)) ∧ Drawn0 w w'
/-- What holds at a jump to 'whole'. -/
def NumJ1 (g : Nat) (s : ByteArray) (most : Int) (w : World) (a : Act) (w' : World) : Prop := ∃ (v : Int) (sz : Nat) (u : Nat → Value), a = { tmps := #[.pointer (some ⟨g, 0, none⟩), .int .u64 most, u 2, u 3, .int .u64 0, .int .u64 v, u 6, .int .i64 (sz : Int), u 8, u 9, u 10, u 11, u 12, u 13, u 14, u 15, u 16, u 17, u 18, u 19, u 20, u 21, u 22, u 23, u 24, u 25, u 26, u 27, u 28, u 29, u 30, u 31, u 32, u 33, u 34, u 35, u 36, u 37, u 38, u 39, u 40, u 41, u 42, u 43, u 44, u 45, u 46, u 47, u 48, u 49, u 50, u 51, u 52, u 53, u 54, u 55, u 56, u 57, u 58, u 59, u 60, u 61, u 62, u 63, u 64, u 65, u 66, u 67, u 68, u 69, u 70, u 71, u 72, u 73, u 74, u 75, u 76, u 77, u 78, u 79, u 80, u 81], defers := [] } ∧ Aside0 (numR s most = numFin s most v sz ∧ 0 ≤ v ∧ v ≤ 18446744073709551615 ∧ sz ≤ s.size ∧ 1 ≤ sz) ∧ Drawn0 w w'
/-- What holds at a jump to 'next', n more rounds to go at the most. -/
def NumJ2 (g : Nat) (s : ByteArray) (most : Int) (w : World) (n : Nat) (a : Act) (w' : World) : Prop := ∃ (c k : Nat) (u : Nat → Value), a = { tmps := #[.pointer (some ⟨g, 0, none⟩), .int .u64 most, u 2, u 3, .int .u64 0, .int .u64 (beVal s c : Int), u 6, .int .i64 ((c : Int) + 1), .int .i64 (k : Int), u 9, u 10, u 11, u 12, u 13, u 14, u 15, u 16, u 17, u 18, u 19, u 20, u 21, u 22, u 23, u 24, u 25, u 26, u 27, u 28, u 29, u 30, u 31, u 32, u 33, u 34, u 35, u 36, u 37, u 38, u 39, u 40, u 41, u 42, u 43, u 44, u 45, u 46, u 47, u 48, u 49, u 50, u 51, u 52, u 53, u 54, u 55, u 56, u 57, u 58, u 59, u 60, u 61, u 62, u 63, u 64, u 65, u 66, u 67, u 68, u 69, u 70, u 71, u 72, u 73, u 74, u 75, u 76, u 77, u 78, u 79, u 80, u 81], defers := [] } ∧ Aside0 (numR s most = numBig s most k ∧ k ≤ 8 ∧ k < s.size ∧ c + n + 1 = k) ∧ Drawn0 w w'
theorem NumJ0.mk {g : Nat} {s : ByteArray} {most : Int} {w : World} (code : Int) {u2 u3 u5 u7 u8 u9 u10 u11 u12 u13 u14 u15 u16 u17 u18 u19 u20 u21 u22 u23 u24 u25 u26 u27 u28 u29 u30 u31 u32 u33 u34 u35 u36 u37 u38 u39 u40 u41 u42 u43 u44 u45 u46 u47 u48 u49 u50 u51 u52 u53 u54 u55 u56 u57 u58 u59 u60 u61 u62 u63 u64 u65 u66 u67 u68 u69 u70 u71 u72 u73 u74 u75 u76 u77 u78 u79 u80 u81 : Value} {w' : World} (h2 : Aside0 (numR s most = (0, ByteArray.empty, code))) (h3 : Drawn0 w w') : NumJ0 g s most w { tmps := #[.pointer (some ⟨g, 0, none⟩), .int .u64 most, u2, u3, .int .u64 0, u5, .int .i64 code, u7, u8, u9, u10, u11, u12, u13, u14, u15, u16, u17, u18, u19, u20, u21, u22, u23, u24, u25, u26, u27, u28, u29, u30, u31, u32, u33, u34, u35, u36, u37, u38, u39, u40, u41, u42, u43, u44, u45, u46, u47, u48, u49, u50, u51, u52, u53, u54, u55, u56, u57, u58, u59, u60, u61, u62, u63, u64, u65, u66, u67, u68, u69, u70, u71, u72, u73, u74, u75, u76, u77, u78, u79, u80, u81], defers := [] } w' :=
  ⟨code, fun i => ([.bool false, .bool false, u2, u3, .bool false, u5, .bool false, u7, u8, u9, u10, u11, u12, u13, u14, u15, u16, u17, u18, u19, u20, u21, u22, u23, u24, u25, u26, u27, u28, u29, u30, u31, u32, u33, u34, u35, u36, u37, u38, u39, u40, u41, u42, u43, u44, u45, u46, u47, u48, u49, u50, u51, u52, u53, u54, u55, u56, u57, u58, u59, u60, u61, u62, u63, u64, u65, u66, u67, u68, u69, u70, u71, u72, u73, u74, u75, u76, u77, u78, u79, u80, u81] : List Value).getD i (.bool false), rfl, h2, h3⟩
theorem NumJ1.mk {g : Nat} {s : ByteArray} {most : Int} {w : World} (v : Int) (sz : Nat) {u2 u3 u6 u8 u9 u10 u11 u12 u13 u14 u15 u16 u17 u18 u19 u20 u21 u22 u23 u24 u25 u26 u27 u28 u29 u30 u31 u32 u33 u34 u35 u36 u37 u38 u39 u40 u41 u42 u43 u44 u45 u46 u47 u48 u49 u50 u51 u52 u53 u54 u55 u56 u57 u58 u59 u60 u61 u62 u63 u64 u65 u66 u67 u68 u69 u70 u71 u72 u73 u74 u75 u76 u77 u78 u79 u80 u81 : Value} {w' : World} (h2 : Aside0 (numR s most = numFin s most v sz ∧ 0 ≤ v ∧ v ≤ 18446744073709551615 ∧ sz ≤ s.size ∧ 1 ≤ sz)) (h3 : Drawn0 w w') : NumJ1 g s most w { tmps := #[.pointer (some ⟨g, 0, none⟩), .int .u64 most, u2, u3, .int .u64 0, .int .u64 v, u6, .int .i64 (sz : Int), u8, u9, u10, u11, u12, u13, u14, u15, u16, u17, u18, u19, u20, u21, u22, u23, u24, u25, u26, u27, u28, u29, u30, u31, u32, u33, u34, u35, u36, u37, u38, u39, u40, u41, u42, u43, u44, u45, u46, u47, u48, u49, u50, u51, u52, u53, u54, u55, u56, u57, u58, u59, u60, u61, u62, u63, u64, u65, u66, u67, u68, u69, u70, u71, u72, u73, u74, u75, u76, u77, u78, u79, u80, u81], defers := [] } w' :=
  ⟨v, sz, fun i => ([.bool false, .bool false, u2, u3, .bool false, .bool false, u6, .bool false, u8, u9, u10, u11, u12, u13, u14, u15, u16, u17, u18, u19, u20, u21, u22, u23, u24, u25, u26, u27, u28, u29, u30, u31, u32, u33, u34, u35, u36, u37, u38, u39, u40, u41, u42, u43, u44, u45, u46, u47, u48, u49, u50, u51, u52, u53, u54, u55, u56, u57, u58, u59, u60, u61, u62, u63, u64, u65, u66, u67, u68, u69, u70, u71, u72, u73, u74, u75, u76, u77, u78, u79, u80, u81] : List Value).getD i (.bool false), rfl, h2, h3⟩
theorem NumJ2.mk {g : Nat} {s : ByteArray} {most : Int} {w : World} {n : Nat} (c k : Nat) {u2 u3 u6 u9 u10 u11 u12 u13 u14 u15 u16 u17 u18 u19 u20 u21 u22 u23 u24 u25 u26 u27 u28 u29 u30 u31 u32 u33 u34 u35 u36 u37 u38 u39 u40 u41 u42 u43 u44 u45 u46 u47 u48 u49 u50 u51 u52 u53 u54 u55 u56 u57 u58 u59 u60 u61 u62 u63 u64 u65 u66 u67 u68 u69 u70 u71 u72 u73 u74 u75 u76 u77 u78 u79 u80 u81 : Value} {w' : World} (h2 : Aside0 (numR s most = numBig s most k ∧ k ≤ 8 ∧ k < s.size ∧ c + n + 1 = k)) (h3 : Drawn0 w w') : NumJ2 g s most w n { tmps := #[.pointer (some ⟨g, 0, none⟩), .int .u64 most, u2, u3, .int .u64 0, .int .u64 (beVal s c : Int), u6, .int .i64 ((c : Int) + 1), .int .i64 (k : Int), u9, u10, u11, u12, u13, u14, u15, u16, u17, u18, u19, u20, u21, u22, u23, u24, u25, u26, u27, u28, u29, u30, u31, u32, u33, u34, u35, u36, u37, u38, u39, u40, u41, u42, u43, u44, u45, u46, u47, u48, u49, u50, u51, u52, u53, u54, u55, u56, u57, u58, u59, u60, u61, u62, u63, u64, u65, u66, u67, u68, u69, u70, u71, u72, u73, u74, u75, u76, u77, u78, u79, u80, u81], defers := [] } w' :=
  ⟨c, k, fun i => ([.bool false, .bool false, u2, u3, .bool false, .bool false, u6, .bool false, .bool false, u9, u10, u11, u12, u13, u14, u15, u16, u17, u18, u19, u20, u21, u22, u23, u24, u25, u26, u27, u28, u29, u30, u31, u32, u33, u34, u35, u36, u37, u38, u39, u40, u41, u42, u43, u44, u45, u46, u47, u48, u49, u50, u51, u52, u53, u54, u55, u56, u57, u58, u59, u60, u61, u62, u63, u64, u65, u66, u67, u68, u69, u70, u71, u72, u73, u74, u75, u76, u77, u78, u79, u80, u81] : List Value).getD i (.bool false), rfl, h2, h3⟩
/-- What holds at a jump. -/
def NumJ (g : Nat) (s : ByteArray) (most : Int) (w : World) (n l : Nat) (a : Act) (w' : World) : Prop :=
  (n = 0 ∧ l = 0 ∧ NumJ0 g s most w a w') ∨ (n = 1 ∧ l = 1 ∧ NumJ1 g s most w a w') ∨ (∃ m, n = m + 2 ∧ l = 2 ∧ NumJ2 g s most w m a w')

theorem or_byte (v b : Nat) (hv : v < 72057594037927936) (hb : b < 256) : bits .or .u64 (v * 256 : Nat) (b : Int) = ((v * 256 + b : Nat) : Int) := by
  show IntKind.u64.wrap ((BitVec.ofInt 64 ((v * 256 : Nat) : Int) ||| BitVec.ofInt 64 (b : Int)).toNat : Int) = _
  rw [BitVec.ofInt_natCast, BitVec.ofInt_natCast, BitVec.toNat_or, BitVec.toNat_ofNat, BitVec.toNat_ofNat, Nat.mod_eq_of_lt (by omega), Nat.mod_eq_of_lt (by omega)]
  have e : v * 256 ||| b = v * 256 + b := by
    have := Nat.two_pow_add_eq_or_of_lt (i := 8) (b := b) (by omega) v
    rw [Nat.mul_comm v 256]
    exact this.symm
  rw [e]
  have e2 : IntKind.u64.wrap ((v * 256 + b : Nat) : Int) = ((v * 256 + b : Nat) : Int) % 18446744073709551616 := rfl
  rw [e2]
  omega

theorem fin_store {w0 w : World} {g : Nat} {s : ByteArray} (hI : IsS81 w0 w g s 0) (hB : Below w0.heap.size w0 w) (m : Nat) (x : ByteArray) :
    IsS81 w0 ((w.drewN m).setCell ⟨g, 0, none⟩ (.string x)) g x 0 ∧ Below w0.heap.size w0 ((w.drewN m).setCell ⟨g, 0, none⟩ (.string x)) ∧ KeepBut w ((w.drewN m).setCell ⟨g, 0, none⟩ (.string x)) g none :=
  ⟨(IsS81.drewN hI m).set_0 x, (pw_below_drewN hB m).setCell (IsS81.ge hI) _, KeepBut.set_ (w1 := w.drewN m) ⟨Nat.le_refl _, fun _ _ _ _ => rfl⟩ 0 _⟩
set_option maxRecDepth 100000 in
set_option maxHeartbeats 8000000 in
theorem rnum (w0 w : World) (g : Nat) (s : ByteArray) (most : Int) (hm0 : 0 ≤ most) (hm1 : most ≤ 18446744073709551615) (hI : IsS81 w0 w g s 0) (hB : Below w0.heap.size w0 w) :
    Calls Try.prog 30 #[.pointer (some ⟨g, 0, none⟩), .int .u64 most] w fun e w' => e = .returned (.int .u64 (numR s most).1) ∧ IsS81 w0 w' g (numR s most).2.1 (numR s most).2.2 ∧ Below w0.heap.size w0 w' ∧ KeepBut w w' g none := by
  have HI := Lib.hid hI
  have HB := Lib.hid hB
  have HF : Hid (∀ m code, Calls Try.prog 50 #[.pointer (some ⟨g, 0, none⟩), .int .i64 code] (w.drewN m) fun e w' => e = .returned (.tuple #[]) ∧ IsS81 w0 w' g ByteArray.empty code ∧ Below w0.heap.size w0 w' ∧ KeepBut w w' g none) := by
    intro m code
    refine (pack_Reader_fail.calls g s 0 code ByteArray.empty code w0 (w.drewN m) (IsS81.drewN hI m) (pw_below_drewN hB m) rfl).mono fun e w' h => ?_
    obtain ⟨h1, h2, h3, h4⟩ := h
    exact ⟨h1, h2, h3, ⟨h4.1, h4.2⟩⟩
  have hb := hI.1
  have c0 := cellS81_0 hb
  have c1 := cellS81_1 hb
  have f0 := blk_frozen hb 0
  have f1 := blk_frozen hb 1
  clear hI hB hb
  go_enter Try.func30, Try.ntmps30
  go_wp2
  refine wp_scope_many (NumJ g s most w) ?first ?pass
  case first =>
    rcases (show s.size = 0 ∨ 1 ≤ s.size by omega) with h0 | h0
    · have hs : (s.toList == []) = true := by
        have : s.toList.length = s.size := by rw [ByteArray.toList_eq, data_length]
        rw [List.eq_nil_of_length_eq_zero (this.trans h0)]; rfl
      have Hr : Hid (numR s most = (0, ByteArray.empty, 4)) := by unfold numR; rw [if_pos h0]; rfl
      clear h0
      go_wp2
      go_step3
      show ∃ n, NumJ g s most w n 0 _ _
      exact ⟨0, .inl ⟨rfl, rfl, NumJ0.mk 4 ⟨Hr.out⟩ (Drawn0.refl _)⟩⟩
    · have hs : (s.toList == []) = false := by
        have : s.toList.length = s.size := by rw [ByteArray.toList_eq, data_length]
        cases h' : s.toList with
        | nil => rw [h'] at this; simp at this; omega
        | cons a l => rfl
      have hx5 : ∀ h : 0 < s.size, ((s[0]'h).toNat : Int) = bt s 0 := bt_at s 0
      have hp : (0 : Int) < s.size := by omega
      have hr := bt_range s 0
      obtain ⟨hr0, hr1⟩ := hr
      have Hdef : Hid (numR s most = if bt s 0 < 248 then numFin s most (bt s 0) 1 else if s.size ≤ (bt s 0 - 247).toNat then (0, ByteArray.empty, 4) else numBig s most (bt s 0 - 247).toNat) := by
        show _ = _
        conv => lhs; unfold numR
        rw [if_neg (by omega)]
      rcases (show bt s 0 < 248 ∨ 248 ≤ bt s 0 by omega) with hc | hc
      · have Hr : Hid (numR s most = numFin s most (bt s 0) 1) := by have := Hdef.out; rw [if_pos hc] at this; exact this
        clear Hdef
        generalize bt s 0 = b at *
        go_wp2
        go_step3
        show ∃ n, NumJ g s most w n 1 _ _
        exact ⟨1, .inr (.inl ⟨rfl, rfl, NumJ1.mk b 1 ⟨Hr.out, by omega, by omega, by omega, by omega⟩ (Drawn0.refl _)⟩)⟩
      · obtain ⟨k, hk⟩ : ∃ k : Nat, (k : Int) = bt s 0 - 247 := ⟨(bt s 0 - 247).toNat, by omega⟩
        have hk8 : k ≤ 8 := by omega
        have hk1 : 1 ≤ k := by omega
        have hbk : bt s 0 = 247 + (k : Int) := by omega
        have Hdef2 : Hid (numR s most = if s.size ≤ k then (0, ByteArray.empty, 4) else numBig s most k) := by
          have := Hdef.out
          rw [if_neg (by omega), show (bt s 0 - 247).toNat = k by omega] at this
          exact this
        have hx6 : ∀ h : 0 < s.size, ((s[0]'h).toNat : Int) = 247 + (k : Int) := fun h => by rw [hx5 h, hbk]
        clear Hdef hx5 hr0 hr1 hc hk hbk
        rcases (show s.size ≤ k ∨ k < s.size by omega) with hl | hl
        · have Hr : Hid (numR s most = (0, ByteArray.empty, 4)) := by have := Hdef2.out; rw [if_pos hl] at this; exact this
          clear Hdef2
          go_wp2
          go_step3
          show ∃ n, NumJ g s most w n 0 _ _
          exact ⟨0, .inl ⟨rfl, rfl, NumJ0.mk 4 ⟨Hr.out⟩ (Drawn0.refl _)⟩⟩
        · have Hr : Hid (numR s most = numBig s most k) := by have := Hdef2.out; rw [if_neg (by omega)] at this; exact this
          clear Hdef2
          go_wp2
          go_step3
          have hbr := bt_range s ((1 : Nat) : Int)
          obtain ⟨b, hb⟩ : ∃ b : Nat, (b : Int) = bt s ((1 : Nat) : Int) := ⟨(bt s ((1 : Nat) : Int)).toNat, by omega⟩
          have hb256 : b < 256 := by omega
          have hx7 : ∀ h : 1 < s.size, ((s[1]'h).toNat : Int) = (b : Int) := fun h => by rw [hb]; exact bt_at s ((1 : Nat) : Int) h
          have HV : Hid (beVal s 1 = b) := by show _ = _; simp only [beVal]; rw [← hb]; simp
          have hor := or_byte 0 b (by omega) hb256
          have hor2 : bits .or .u64 0 (b : Int) = (b : Int) := by simpa using hor
          have hcs : (1 : Int) < s.size := by omega
          clear hbr hb hor
          rcases (show 1 < k ∨ k = 1 by omega) with hlt | hlt
          · have hcc : Hid ((b : Int) = (beVal s 1 : Int)) := by show _ = _; rw [HV.out]
            go_wp2
            go_step3
            rw [hcc.out, show (247 + (k : Int) - 247) = (k : Int) by omega]
            show ∃ m2, NumJ g s most w m2 2 _ _
            obtain ⟨m', hm'⟩ : ∃ m', 1 + m' + 1 = k := ⟨k - 2, by omega⟩
            exact ⟨m' + 2, .inr (.inr ⟨m', rfl, rfl, NumJ2.mk 1 k ⟨Hr.out, hk8, hl, hm'⟩ (by repeat (first | exact Drawn0.refl _ | apply Drawn0.step))⟩)⟩
          · subst hlt
            obtain ⟨V2, hV2⟩ : ∃ V2 : Nat, V2 = b := ⟨_, rfl⟩
            have hW : beVal s 1 = b := HV.out
            have Hb2 : Hid (numR s most = if b < 248 ∨ byteLen b ≠ 1 then (0, ByteArray.empty, 2) else numFin s most (b : Int) (1 + 1)) := by
              have := Hr.out
              unfold numBig at this
              rw [hW] at this
              exact this
            have hL : Hid (∀ w, Calls Try.prog 44 #[.int .u64 (b : Int)] w fun e w' => e = .returned (.int .i64 (Lib.bitLen b)) ∧ w = w') := fun w => (Try.bits_Len64 (b : Int) w (by omega) (by omega)).mono fun _ _ ⟨a, b⟩ => ⟨by simpa using a, b.symm⟩
            have hkb := bitLen_le (x := b) (m := 64) (Nat.le_refl _) (by omega)
            have hlen : Hid ((Lib.bitLen b + 7) / 8 = byteLen b) := rfl
            generalize Lib.bitLen b = L at *
            clear hV2 hW Hr HV
            rcases (show b < 248 ∨ 248 ≤ b by omega) with hsm | hsm
            · have HR : Hid (numR s most = (0, ByteArray.empty, 2)) := by have := Hb2.out; rw [if_pos (.inl hsm)] at this; exact this
              clear Hb2
              go_wp2
              go_step3
              show ∃ m2, NumJ g s most w m2 0 _ _
              exact ⟨0, .inl ⟨rfl, rfl, NumJ0.mk 2 ⟨HR.out⟩ (by repeat (first | exact Drawn0.refl _ | apply Drawn0.step))⟩⟩
            · by_cases hne : byteLen b = 1
              · have HR0 : Hid (numR s most = numFin s most (b : Int) (1 + 1)) := by have := Hb2.out; rw [if_neg (by omega)] at this; exact this
                have hq : ((L : Int) + 7) / 8 = 1 := by have := hlen.out; omega
                clear Hb2 hlen hne
                rcases (show (b : Int) ≤ most ∨ most < (b : Int) by omega) with hle2 | hle2
                · have HR : Hid (numR s most = ((b : Int), s.extract (1 + 1) s.size, 0)) := by have := HR0.out; unfold numFin at this; rw [if_pos hle2] at this; exact this
                  go_wp2_with (go_at_call 44; refine (hL.out _).mono ?_; rintro e w' ⟨rfl, rfl⟩)
                  go_step3
                  go_wp2
                  simp only [jumps_ret]
                  go_ret
                  exact ⟨by rw [HR.out]; rfl, by rw [HR.out]; exact fin_store HI.out HB.out 0 _⟩
                · have HR : Hid (numR s most = (0, ByteArray.empty, 3)) := by have := HR0.out; unfold numFin at this; rw [if_neg (by omega)] at this; exact this
                  go_wp2_with (go_at_call 44; refine (hL.out _).mono ?_; rintro e w' ⟨rfl, rfl⟩)
                  go_step3
                  go_wp2
                  go_step3
                  go_wp2_with (go_at_call 50; refine (HF.out 0 _).mono ?_; rintro e w9 ⟨rfl, h9⟩; have H9 := Lib.hid h9; clear h9)
                  simp only [jumps_ret]
                  go_ret
                  exact ⟨by rw [HR.out]; rfl, by rw [HR.out]; exact H9.out⟩
              · have HR : Hid (numR s most = (0, ByteArray.empty, 2)) := by have := Hb2.out; rw [if_pos (.inr hne)] at this; exact this
                obtain ⟨kk, hkk⟩ : ∃ kk, kk = byteLen b := ⟨_, rfl⟩
                have hq : ((L : Int) + 7) / 8 = (kk : Int) := by have := hlen.out; omega
                have hne2 : ((kk : Int) != 1) = true := by rw [bne_iff_ne]; omega
                have hne3 : ((kk : Int) == 1) = false := by rw [beq_eq_false_iff_ne]; omega
                clear Hb2 hlen hne hkk
                go_wp2_with (go_at_call 44; refine (hL.out _).mono ?_; rintro e w' ⟨rfl, rfl⟩)
                go_step3
                show ∃ m2, NumJ g s most w m2 0 _ _
                exact ⟨0, .inl ⟨rfl, rfl, NumJ0.mk 2 ⟨HR.out⟩ (by repeat (first | exact Drawn0.refl _ | apply Drawn0.step))⟩⟩
  case pass =>
    intro n l a w' hJ
    rcases hJ with ⟨rfl, rfl, hJ⟩ | ⟨rfl, rfl, hJ⟩ | ⟨m, rfl, rfl, hJ⟩
    · obtain ⟨code, u, rfl, ⟨hr⟩, ⟨m1, rfl⟩⟩ := hJ
      refine ⟨_, rfl, ?_⟩
      have HR := Lib.hid hr
      clear hr
      go_wp2_with (go_at_call 50; refine (HF.out _ _).mono ?_; rintro e w9 ⟨rfl, h9⟩; have H9 := Lib.hid h9; clear h9)
      simp only [jumps_ret]
      go_ret
      exact ⟨by rw [HR.out]; rfl, by rw [HR.out]; exact H9.out⟩
    · obtain ⟨v, sz, u, rfl, ⟨hr, hv0, hv1, hsz, hsz1⟩, ⟨m1, rfl⟩⟩ := hJ
      refine ⟨_, rfl, ?_⟩
      have HR0 := Lib.hid hr
      clear hr
      rcases (show v ≤ most ∨ most < v by omega) with hle | hle
      · have HR : Hid (numR s most = (v, s.extract (sz) s.size, 0)) := by have := HR0.out; unfold numFin at this; rw [if_pos hle] at this; exact this
        go_wp2
        simp only [jumps_ret]
        go_ret
        exact ⟨by rw [HR.out]; rfl, by rw [HR.out]; exact fin_store HI.out HB.out _ _⟩
      · have HR : Hid (numR s most = (0, ByteArray.empty, 3)) := by have := HR0.out; unfold numFin at this; rw [if_neg (by omega)] at this; exact this
        go_wp2
        go_step3
        go_wp2_with (go_at_call 50; refine (HF.out _ _).mono ?_; rintro e w9 ⟨rfl, h9⟩; have H9 := Lib.hid h9; clear h9)
        simp only [jumps_ret]
        go_ret
        exact ⟨by rw [HR.out]; rfl, by rw [HR.out]; exact H9.out⟩
    · obtain ⟨c, k, u, rfl, ⟨hr, hk8, hks, hck⟩, ⟨m1, rfl⟩⟩ := hJ
      refine ⟨_, rfl, ?_⟩
      have HR0 := Lib.hid hr
      clear hr
      have hv := beVal_lt s c
      have hv7 : beVal s c < 72057594037927936 := by
        have : (256 : Nat) ^ c ≤ 256 ^ 7 := Nat.pow_le_pow_right (by omega) (by omega)
        have e : (256 : Nat) ^ 7 = 72057594037927936 := by decide
        omega
      have hbr := bt_range s ((c + 1 : Nat) : Int)
      obtain ⟨b, hb⟩ : ∃ b : Nat, (b : Int) = bt s ((c + 1 : Nat) : Int) := ⟨(bt s ((c + 1 : Nat) : Int)).toNat, by omega⟩
      have hb256 : b < 256 := by omega
      have hx5 : ∀ h : c + 1 < s.size, ((s[c + 1]'h).toNat : Int) = (b : Int) := fun h => by rw [hb]; exact bt_at s ((c + 1 : Nat) : Int) h
      have HV : Hid (beVal s (c + 1) = beVal s c * 256 + b) := by show _ = _; simp only [beVal]; rw [← hb]; simp
      have hor := or_byte (beVal s c) b hv7 hb256
      have hor2 : bits .or .u64 ((beVal s c : Int) * 256) (b : Int) = ((beVal s c * 256 + b : Nat) : Int) := by rw [← hor]; push_cast; rfl
      have hcs : ((c : Int) + 1) < s.size := by omega
      clear hv hbr hb hor
      generalize hVV : beVal s c = V at *
      rcases (show c + 1 < k ∨ k = c + 1 by omega) with hlt | hlt
      · obtain ⟨m', rfl⟩ : ∃ m', m = m' + 1 := ⟨m - 1, by omega⟩
        have hcc : Hid ((V : Int) * 256 + (b : Int) = (beVal s (c + 1) : Int)) := by show _ = _; rw [HV.out]; push_cast; rfl
        clear hVV
        go_wp2
        go_step3
        show ∃ m2, m2 < m' + 1 + 2 ∧ NumJ g s most w m2 2 _ _
        rw [hcc.out]
        exact ⟨m' + 2, by omega, .inr (.inr ⟨m', rfl, rfl, NumJ2.mk (c + 1) k ⟨HR0.out, hk8, hks, by omega⟩ (by repeat (first | exact Drawn0.refl _ | apply Drawn0.step))⟩)⟩
      · clear hVV
        subst hlt
        clear hck hks
        have hbig : Hid (numR s most = numBig s most (c + 1)) := HR0.out
        obtain ⟨V2, hV2⟩ : ∃ V2 : Nat, V2 = V * 256 + b := ⟨_, rfl⟩
        have hW : beVal s (c + 1) = V2 := by rw [HV.out, hV2]
        have hV64 : V2 < 2 ^ 64 := by omega
        have hcast : (V : Int) * 256 + (b : Int) = (V2 : Int) := by omega
        have hcast2 : ((V * 256 + b : Nat) : Int) = (V2 : Int) := by omega
        rw [hcast2] at hor2
        have Hb2 : Hid (numR s most = if V2 < 248 ∨ byteLen V2 ≠ c + 1 then (0, ByteArray.empty, 2) else numFin s most (V2 : Int) (c + 1 + 1)) := by
          have := hbig.out
          unfold numBig at this
          rw [hW] at this
          exact this
        have hL : Hid (∀ w, Calls Try.prog 44 #[.int .u64 (V2 : Int)] w fun e w' => e = .returned (.int .i64 (Lib.bitLen V2)) ∧ w = w') := fun w => (Try.bits_Len64 (V2 : Int) w (by omega) (by omega)).mono fun _ _ ⟨a, b⟩ => ⟨by simpa using a, b.symm⟩
        have hkb := bitLen_le (x := V2) (m := 64) (Nat.le_refl _) hV64
        have hlen : Hid ((Lib.bitLen V2 + 7) / 8 = byteLen V2) := rfl
        generalize Lib.bitLen V2 = L at *
        clear hV2 hW hbig HR0 hcast2 hV64 HV
        rcases (show V2 < 248 ∨ 248 ≤ V2 by omega) with hsm | hsm
        · have HR : Hid (numR s most = (0, ByteArray.empty, 2)) := by have := Hb2.out; rw [if_pos (.inl hsm)] at this; exact this
          clear Hb2
          go_wp2
          go_step3
          show ∃ m2, m2 < m + 2 ∧ NumJ g s most w m2 0 _ _
          exact ⟨0, by omega, .inl ⟨rfl, rfl, NumJ0.mk 2 ⟨HR.out⟩ (by repeat (first | exact Drawn0.refl _ | apply Drawn0.step))⟩⟩
        · by_cases hne : byteLen V2 = c + 1
          · have HR0 : Hid (numR s most = numFin s most (V2 : Int) (c + 1 + 1)) := by have := Hb2.out; rw [if_neg (by omega)] at this; exact this
            have hq : ((L : Int) + 7) / 8 = (c : Int) + 1 := by have := hlen.out; omega
            clear Hb2 hlen hne
            rcases (show (V2 : Int) ≤ most ∨ most < (V2 : Int) by omega) with hle2 | hle2
            · have HR : Hid (numR s most = ((V2 : Int), s.extract (c + 1 + 1) s.size, 0)) := by have := HR0.out; unfold numFin at this; rw [if_pos hle2] at this; exact this
              go_wp2_with (go_at_call 44; refine (hL.out _).mono ?_; rintro e w' ⟨rfl, rfl⟩)
              go_step3
              go_wp2
              simp only [jumps_ret]
              go_ret
              exact ⟨by rw [HR.out]; rfl, by rw [HR.out]; exact fin_store HI.out HB.out _ _⟩
            · have HR : Hid (numR s most = (0, ByteArray.empty, 3)) := by have := HR0.out; unfold numFin at this; rw [if_neg (by omega)] at this; exact this
              go_wp2_with (go_at_call 44; refine (hL.out _).mono ?_; rintro e w' ⟨rfl, rfl⟩)
              go_step3
              go_wp2
              go_step3
              go_wp2_with (go_at_call 50; refine (HF.out _ _).mono ?_; rintro e w9 ⟨rfl, h9⟩; have H9 := Lib.hid h9; clear h9)
              simp only [jumps_ret]
              go_ret
              exact ⟨by rw [HR.out]; rfl, by rw [HR.out]; exact H9.out⟩
          · have HR : Hid (numR s most = (0, ByteArray.empty, 2)) := by have := Hb2.out; rw [if_pos (.inr hne)] at this; exact this
            obtain ⟨kk, hkk⟩ : ∃ kk, kk = byteLen V2 := ⟨_, rfl⟩
            have hq : ((L : Int) + 7) / 8 = (kk : Int) := by have := hlen.out; omega
            have hne2 : ((kk : Int) != (c : Int) + 1) = true := by rw [bne_iff_ne]; omega
            have hne3 : ((kk : Int) == (c : Int) + 1) = false := by rw [beq_eq_false_iff_ne]; omega
            clear Hb2 hlen hne hkk
            go_wp2_with (go_at_call 44; refine (hL.out _).mono ?_; rintro e w' ⟨rfl, rfl⟩)
            go_step3
            show ∃ m2, m2 < m + 2 ∧ NumJ g s most w m2 0 _ _
            exact ⟨0, by omega, .inl ⟨rfl, rfl, NumJ0.mk 2 ⟨HR.out⟩ (by repeat (first | exact Drawn0.refl _ | apply Drawn0.step))⟩⟩
end Go.Proofs.Ytblabgdkbcphkaa

/- pack.Reader's Number: with an error nothing is read; both cases together. Conditions: those that the theorems name. -/
set_option linter.unusedVariables false
set_option linter.unusedSimpArgs false
namespace Go.Proofs.Ytblabgdkbcphkaa
open Go.RowKit Go.Proofs.YtblabgdkbcphkaaW.PrintWords PRd
set_option maxRecDepth 100000 in
set_option maxHeartbeats 8000000 in
theorem rnum_err (w0 w : World) (g : Nat) (s : ByteArray) (er most : Int) (her : er ≠ 0) (hI : IsS81 w0 w g s er) (hB : Below w0.heap.size w0 w) :
    Calls Try.prog 30 #[.pointer (some ⟨g, 0, none⟩), .int .u64 most] w fun e w' => e = .returned (.int .u64 0) ∧ IsS81 w0 w' g s er ∧ Below w0.heap.size w0 w' ∧ KeepBut w w' g none := by
  have HI := Lib.hid hI
  have HB := Lib.hid hB
  have hb := hI.1
  have c0 := cellS81_0 hb
  have c1 := cellS81_1 hb
  have f0 := blk_frozen hb 0
  have f1 := blk_frozen hb 1
  have he1 : (er != 0) = true := by rw [bne_iff_ne]; exact her
  have he2 : (er == 0) = false := by rw [beq_eq_false_iff_ne]; exact her
  clear hI hB hb
  go_enter Try.func30, Try.ntmps30
  go_wp2
  refine wp_scope_many (fun _ _ _ _ => False) ?_ (fun _ _ _ _ h => h.elim)
  go_wp2
  simp only [jumps_ret]
  go_ret
  exact ⟨rfl, HI.out, HB.out, KeepBut.refl w g none⟩
/-- What Number answers, what is left, the error. -/
def rdNum (s : ByteArray) (er most : Int) : Int × ByteArray × Int := if er = 0 then numR s most else (0, s, er)
theorem rnumber (w0 w : World) (g : Nat) (s : ByteArray) (er most : Int) (hm0 : 0 ≤ most) (hm1 : most ≤ 18446744073709551615) (hI : IsS81 w0 w g s er) (hB : Below w0.heap.size w0 w) :
    Calls Try.prog 30 #[.pointer (some ⟨g, 0, none⟩), .int .u64 most] w fun e w' => e = .returned (.int .u64 (rdNum s er most).1) ∧ IsS81 w0 w' g (rdNum s er most).2.1 (rdNum s er most).2.2 ∧ Below w0.heap.size w0 w' ∧ KeepBut w w' g none := by
  unfold rdNum
  by_cases h : er = 0
  · subst h
    rw [if_pos rfl]
    exact rnum w0 w g s most hm0 hm1 hI hB
  · rw [if_neg h]
    exact rnum_err w0 w g s er most h hI hB
end Go.Proofs.Ytblabgdkbcphkaa

