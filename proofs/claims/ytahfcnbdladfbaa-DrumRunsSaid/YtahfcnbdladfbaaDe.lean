/- The drum's Write and Read. Conditions: those that each theorem names. -/
import Derived.Test.YtahfcnbdladfbaaDd
import Derived.Deep.RegionLaw
import Derived.Deep.AppendLies
set_option linter.unusedVariables false
set_option linter.unusedSimpArgs false
namespace Go.Proofs.Ytahfcnbdladfbaa
open Go.RowKit Go.Proofs.YtahfcnbdladfbaaW.PrintWords

section
variable {P : Program} {ops : Array Oper} {o : Oper} {a : Act} {Q : Exit → Act → World → Prop} {Kc : Act → World → Prop} {E : Prop}
theorem step_append_str {w0 W : World} (base : Nat) (hgd : o.guard = none) (s x : Operand) (t u e : TypeId)
    (ho : o.op = .call { callee := .builtin .append, args := #[s, x], argTypes := #[t, u] })
    (ht : P.underlying t = some (.slice e)) (hu : P.underlying u = some .string) (hinfo : (P.info? e).map (fun i => (i.zero, i.size, i.bytes)) = some (some (.int .u8 0), 1, 1))
    (v : Value) (z y : ByteArray) (hs : a.eval s = v) (hx : a.eval x = .string y)
    (HO : W.ownsRow base e 1 v z.size (nums .u8 (bytesOf z))) (HB : Below base w0 W) (hbase : base ≤ W.heap.size) (hl : z.size + y.size ≤ 140737488355328)
    (h : ∀ v1 w1, w1.ownsRow base e 1 v1 (z ++ y).size (nums .u8 (bytesOf (z ++ y))) → Below base w0 w1 → W.grownBy w1 v.ownBlock → (v1.ownBlock = v.ownBlock ∨ ∃ b, v1.ownBlock = some b ∧ W.heap.size ≤ b) → Kc (a.put o.dst v1) w1) :
    if Region.wanted o (yielded ops a.tmps) = true then Oper.wp P o a W Kc Q else E := by
  have hw : Region.wanted o (yielded ops a.tmps) = true := by simp [Region.wanted, hgd]
  rw [if_pos hw]
  obtain ⟨i0, hi, hzz⟩ := Option.map_eq_some_iff.1 hinfo
  simp only [Prod.mk.injEq] at hzz
  obtain ⟨hz0, hz1, hz2⟩ := hzz
  obtain ⟨v1, w1, hr, h2, h3, h4⟩ := Lib.run_append_own_string (P := P) W base t u o.type e i0 ht hu hi hz0 hz1 hz2 v z.size _ HO y (by simp only [maxLen]; omega) hl hbase
  have hat := append_str_at (P := P) W base t u o.type e i0 ht hu hi hz0 hz1 hz2 v z.size _ HO y (by simp only [maxLen]; omega) hl hbase hr
  unfold Oper.wp execOp
  simp only [ho, resolve, invoke, builtin, Sem.run_bind, Sem.run_pure, Result.andThen_ok, List.map_toArray, List.map_cons, List.map_nil, hs, hx, hr]
  refine h v1 w1 ?_ (HB.grown h3 hbase (own_base HO)) h3 ?_
  · rw [ByteArray.size_append, bytesOf_append]
    have e : nums .u8 (bytesOf z ++ bytesOf y) = nums .u8 (bytesOf z) ++ Lib.strCells y := by
      simp [nums, Lib.strCells, bytesOf]
    rw [e]
    exact h2
  · rcases hat with hat | hat
    · exact .inl hat
    · exact .inr ⟨_, hat, Nat.le_refl _⟩
end
theorem Try.infoByte : (Try.prog.info? 5).map (fun i => (i.zero, i.size, i.bytes)) = some (some (.int .u8 0), 1, 1) := by kernel_rfl
section
variable {X : Nat → Obj → Prop} {w0 w : World} {g : Nat} {room left : Int} {down : Bool} {A : Nat → Ar} {K : Nat → Nat} {V : Nat → Value}
/-- What a write is refused for. -/
def writeRef (u len : Nat) (room : Int) (a : Ar) : Int := if a.isSome then (if ((u + len : Nat) : Int) ≤ room then 0 else 10) else 12
def writeAct (s : ByteArray) (a : Ar) : Ar := a.map fun x => (x.1 ++ s, x.2)
set_option maxHeartbeats 2000000 in
theorem write1_calls (bd bs : Nat) (s : ByteArray) (n : Nat) (h1 : w.heap[bd]? = some (.cells #[.pointer (some ⟨g, 0, none⟩)] 23 (0, 0))) (h2 : w.heap[bs]? = some (.cells #[.string s] 9 (0, 0))) (hI : IsD X w0 w g room left down A K V) (hB : Below w0.heap.size w0 w) (hu : usedTo A 4 + s.size ≤ 9223372036854775807) :
    Calls Try.prog 32 #[ptr (A n) (K n), .pointer (some ⟨bd, 0, none⟩), .pointer (some ⟨bs, 0, none⟩)] w fun e w' => e = .returned (.int .i64 (writeRef (usedTo A 4) s.size room (A n))) ∧ Drawn0 w w' := by
  have d1 : w.cell? ⟨bd, 0, none⟩ = some (.pointer (some ⟨g, 0, none⟩)) := (blk_cell h1 0).trans rfl
  have d2 : w.cell? ⟨bs, 0, none⟩ = some (.string s) := (blk_cell h2 0).trans rfl
  have c0 := hI.c0
  have HI := Lib.hid hI
  have HB := Lib.hid hB
  have HT := Lib.hid (there_calls (A n) (K n) w)
  clear hI hB h1 h2
  generalize ptr (A n) (K n) = pv at *
  cases hA : A n with
  | none =>
    rw [hA] at HT
    have HR : Hid (writeRef (usedTo A 4) s.size room none = 12) := rfl
    go_enter Try.func32, Try.ntmps32
    go_wp2_with fail
    refine HT.out.mono ?_
    rintro e w1 ⟨rfl, rfl⟩
    go_wp2_with fail
    go_region
    all_goals go_wp2
    all_goals go_ret
    all_goals exact ⟨by rw [HR.out]; rfl, by first | exact ⟨1, rfl⟩ | exact Drawn0.refl _⟩
  | some x =>
    rw [hA] at HT
    have HU := Lib.hid hu
    have HR : Hid (writeRef (usedTo A 4) s.size room (some x) = if ((usedTo A 4 + s.size : Nat) : Int) ≤ room then 0 else 10) := rfl
    go_enter Try.func32, Try.ntmps32
    go_wp2_with fail
    refine HT.out.mono ?_
    rintro e w1 ⟨rfl, rfl⟩
    clear HT
    have HK : Hid (∀ w', Drawn0 w1 w' → (Drawn0 w1 w' ∧ w'.cell? ⟨bd, 0, none⟩ = some (.pointer (some ⟨g, 0, none⟩)) ∧ w'.cell? ⟨bs, 0, none⟩ = some (.string s) ∧ w'.cell? ⟨g, 0, none⟩ = some (.int .i64 room))) := Lib.hid (by
      rintro w' ⟨m, rfl⟩; exact ⟨⟨m, rfl⟩, d1, d2, c0⟩)
    have HC : Hid (∀ w', Drawn0 w1 w' → Calls Try.prog 14 #[.pointer (some ⟨g, 0, none⟩)] w' fun e w'' => e = .returned (.int .i64 (usedTo A 4 : Int)) ∧ Drawn0 w1 w'') := Lib.hid (by
      rintro w' ⟨m, rfl⟩
      refine (used_calls (w0 := w0) (w := w1.drewN m) (HI.out.move fun _ _ => rfl) (pw_below_drewN HB.out m) (by have := HU.out; omega)).mono ?_
      rintro e w'' ⟨rfl, ⟨m2, rfl⟩⟩
      exact ⟨rfl, m + m2, by simp [World.drewN, Nat.add_assoc]⟩)
    have hw : IntKind.i64.wrap ((usedTo A 4 + s.size : Nat) : Int) = ((usedTo A 4 + s.size : Nat) : Int) := by rw [IntKind.wrap_i64]; omega
    have hww : (usedTo A 4 : Int) + (s.size : Int) = ((usedTo A 4 + s.size : Nat) : Int) := by omega
    generalize hz : usedTo A 4 + s.size = z at *
    have HZ := Lib.hid hz
    clear hz
    generalize huu : usedTo A 4 = uu at *
    have HUU := Lib.hid huu
    clear huu
    go_wp2_with fail
    go_region_held3 (fun w' => Drawn0 w1 w' ∧ w'.cell? ⟨bd, 0, none⟩ = some (.pointer (some ⟨g, 0, none⟩)) ∧ w'.cell? ⟨bs, 0, none⟩ = some (.string s) ∧ w'.cell? ⟨g, 0, none⟩ = some (.int .i64 room)) (first | exact HK.out _ ⟨1, rfl⟩ | exact HK.out _ (by assumption) | go_keep) (first | (go_at_call 14; refine (HC.out _ (by first | assumption | exact And.left (by assumption) | exact ⟨1, rfl⟩)).mono ?_; rintro e w6 ⟨rfl, hD6⟩))
    have HD := Lib.hid hD6
    clear hD6 d1 d2 c0 HC HK
    rcases (show (z : Int) ≤ room ∨ room < (z : Int) by omega) with hzr | hzr
    · rw [if_pos hzr] at HR
      go_wp2
      go_ret
      exact ⟨by rw [HUU.out, HR.out]; rfl, HD.out⟩
    · rw [if_neg (by omega)] at HR
      go_wp2
      go_ret
      exact ⟨by rw [HUU.out, HR.out]; rfl, HD.out⟩
theorem write2_calls (n : Nat) (hn : n < 4) (bs : Nat) (s : ByteArray) (h2 : w.heap[bs]? = some (.cells #[.string s] 9 (0, 0))) {b : ByteArray} {sr : Nat} (hA : A n = some (b, sr)) (hI : IsD X w0 w g room left down A K V) (hB : Below w0.heap.size w0 w) (hu : b.size + s.size ≤ 140737488355328) :
    Calls Try.prog 34 #[.pointer (some ⟨g, 3 + n, none⟩), .pointer (some ⟨bs, 0, none⟩)] w fun e w' => e = .returned (.tuple #[]) ∧ (∃ K' V', IsD X w0 w' g room left down (upd A n (some (b ++ s, sr))) K' V') ∧ Below w0.heap.size w0 w' := by
  have d2 : w.cell? ⟨bs, 0, none⟩ = some (.string s) := (blk_cell h2 0).trans rfl
  have cp0 := hI.cp n hn
  rw [ptr_some hA] at cp0
  obtain ⟨h1, h3, h4⟩ := hI.ha n hn b sr hA
  have c0 : w.cell? ⟨K n, 0, none⟩ = some (V n) := (blk_cell h1 0).trans rfl
  have f0 := blk_frozen h1 0
  obtain ⟨R, c, hv⟩ := own_slice h4
  rw [hv] at c0
  have HI := Lib.hid hI
  have HB := Lib.hid hB
  have H1 := Lib.hid h1
  have H3 := Lib.hid h3
  have H4 := Lib.hid h4
  have HV := Lib.hid hv
  have HA := Lib.hid hA
  clear hI hB h1 h3 h4 h2 hv hA
  generalize hk : K n = kn at *
  have HK := Lib.hid hk
  have HO4 : Hid (w.ownsRow w0.heap.size 5 1 (.slice R b.size c) b.size (nums .u8 (bytesOf b))) := by rw [← HV.out]; exact H4.out
  have HBK : Hid (∀ w3, w.drew.grownBy w3 (Value.slice R b.size c).ownBlock → w3.heap[kn]? = some (.cells #[V n, .int .i64 (sr : Int)] 66 (0, 0))) := Lib.hid (fun w3 hg => (hg.block kn (lt_of_at H1.out) (fun e => row_ne HO4.out H1.out (by decide) kn e.symm rfl)).trans H1.out)
  have HCE : Hid (∀ w3, w.drew.grownBy w3 (Value.slice R b.size c).ownBlock → w3.cell? ⟨kn, 0, none⟩ = some (.slice R b.size c)) := Lib.hid (fun w3 hg => by rw [← HV.out]; exact (blk_cell (HBK.out w3 hg) 0).trans rfl)
  have HCG : Hid (∀ w3, w.drew.grownBy w3 (Value.slice R b.size c).ownBlock → w3.cell? ⟨g, 3 + n, none⟩ = some (.pointer (some ⟨kn, 0, none⟩))) := Lib.hid (fun w3 hg => by
    have hh := (hg.block g (lt_of_at HI.out.hb) (fun e => row_ne HO4.out HI.out.hb (by decide) g e.symm rfl)).trans HI.out.hb
    have := (blk_cell hh (3 + n)).trans (dcells_at _ _ _ _ n hn)
    rw [ptr_some HA.out, HK.out] at this
    exact this)
  have HFR : Hid (∀ w3, w.drew.grownBy w3 (Value.slice R b.size c).ownBlock → w3.frozen? ⟨kn, 0, none⟩ = false) := Lib.hid (fun w3 hg => blk_frozen (HBK.out w3 hg) 0)
  clear hk
  go_enter Try.func34, Try.ntmps34
  go_wp2_with fail
  have HBd := Lib.hid (below_drew1 HB.out)
  go_region_law ((refine step_append_str (w0 := w0) w0.heap.size (by rfl) (.tmp 11) (.tmp 12) 64 9 5 (by rfl) Try.underlying64 Try.underlying9 Try.infoByte (.slice R b.size c) b s (by rfl) (by rfl) (show (w.drew).ownsRow _ _ _ _ _ _ from HO4.out) HBd.out HBd.out.size hu ?_; intro v1 w3 hown3 hB3 hgr3 hat3; obtain ⟨R1, c1, rfl⟩ := own_slice hown3; have hcg3 := HCG.out w3 hgr3; have hce3 : w3.cell? ⟨kn, 0, none⟩ = some (.slice R b.size c) := HCE.out w3 hgr3; have hfr3 : w3.frozen? ⟨kn, 0, none⟩ = false := HFR.out w3 hgr3))
  all_goals (
    have hown4 : w3.ownsRow w0.heap.size 5 1 (.slice R1 (b.size + s.size) c1) (b ++ s).size (nums .u8 (bytesOf (b ++ s))) := by rw [← ByteArray.size_append]; exact hown3
    have HE : Hid (IsD X w0 (w3.setCell ⟨kn, 0, none⟩ (.slice R1 (b.size + s.size) c1)) g room left down (upd A n (some (b ++ s, sr))) K (upd V n (.slice R1 (b.size + s.size) c1))) := Lib.hid (by
      have hk := HK.out
      have hbk := HBK.out w3 hgr3
      refine HI.out.area n hn HA.out (by rw [hk]; exact area_store0 hbk) (own_move hown4 fun k hk2 => Below.heap_setCell w3 ⟨kn, 0, none⟩ _ k (row_ne hown4 hbk (by decide) k hk2)) ?_ ?_
      · rcases hat3 with h | ⟨k, h, h2⟩
        · exact .inl (by rw [HV.out, ← ByteArray.size_append]; exact h)
        · exact .inr (.inr ⟨k, by rw [← ByteArray.size_append]; exact h, h2⟩)
      · intro k hk1 hk2 hk3
        rw [hk] at hk2
        rw [HV.out] at hk3
        exact (Below.heap_setCell w3 ⟨kn, 0, none⟩ _ k hk2).trans (hgr3.block k hk1 hk3))
    have HB3 := Lib.hid (hB3.setCell (p := ⟨kn, 0, none⟩) H3.out (.slice R1 (b.size + s.size) c1))
    clear hown3 hown4 hB3 hgr3 hat3
    go_wp2
    go_end0
    exact ⟨rfl, ⟨_, _, by first | exact HE.out | exact HE.out.drew⟩, by first | exact HB3.out | exact below_drew1 HB3.out⟩)
end
end Go.Proofs.Ytahfcnbdladfbaa
