/- The document's Write is the letter's. Conditions: those that each theorem names. -/
import Derived.Test.YtjfokbkfniilhaaLr
import Derived.Test.YtjfokbkfniilhaaLp
set_option linter.unusedVariables false
set_option linter.unusedSimpArgs false
namespace Go.Proofs.Ytjfokbkfniilhaa
open Go.RowKit Go.Proofs.YtjfokbkfniilhaaW.PrintWords Go.Proofs.YtjfokbkfniilhaaW.PrintLast Go.Proofs.YtjfokbkfniilhaaW.PrintMore Go.Proofs.Ytjfokbkfniilhaa.PLa
attribute [local go_sem] max2_int min2_int max_two min_two max_three min_three max_four min_four   -- for this text's walks alone
abbrev yy : Bool := true
abbrev nn : Bool := false
/-- What holds while a drawing region is walked: what was there before the call stands, and block g is this row. -/
def St (w : World) (g : Nat) (R : Array Value) (t : TypeId) (W : World) : Prop := Below w.heap.size w W ∧ W.heap[g]? = some (.cells R t (0, 0))
section
variable {w W W1 : World} {g : Nat} {R : Array Value} {t : TypeId}
theorem St.mk' (h1 : Below w.heap.size w W) (h2 : W.heap[g]? = some (.cells R t (0, 0))) : St w g R t W := ⟨h1, h2⟩
theorem St.drew (h : St w g R t W) : St w g R t W.drew := ⟨below_drew1 h.1, blk_drew h.2⟩
theorem St.go (h : St w g R t W) (hb : Below W.heap.size W W1) : St w g R t W1 := ⟨bel_then h.1 hb, (hb.block _ (lt_at h.2)).trans h.2⟩
theorem St.cell (h : St w g R t W) (k : Nat) (v : Value) (hk : R[k]? = some v) : W.cell? ⟨g, k, none⟩ = some v := (blk_cell h.2 k).trans hk
theorem St.old (h : St w g R t W) {p : Addr} {v : Value} (hc : w.cell? p = some v) : W.cell? p = some v := (h.1.cell (World.block_lt_of_cell? w _ hc)).trans hc
end
theorem cat3 {x m : Nat} (h : x ≤ m) : ((x ≤ m) = True) ∧ (decide (x ≤ m) = true) ∧ ((m < x) = False) := ⟨eq_true h, decide_eq_true h, eq_false (Nat.not_lt.2 h)⟩
theorem num_pack (n : Int) (h0 : 0 ≤ n) (h1 : n ≤ 9223372036854775807) : ∃ t, encB n = t ∧ t.size ≤ 9 ∧ Hid (∀ W, Calls Try.prog 19 #[.int .u64 (IntKind.u64.wrap n)] W fun e w' => e = .returned (.string t) ∧ Below W.heap.size W w') :=
  ⟨_, rfl, bz n ⟨h0, by omega⟩, Lib.hid (fun W => ref_num n h0 h1 W)⟩
theorem num_pack0 (n : Int) (h0 : 0 ≤ n) (h1 : n ≤ 9223372036854775807) : ∃ t, encB n = t ∧ t.size ≤ 9 ∧ Hid (∀ W, Calls Try.prog 19 #[.int .u64 n] W fun e w' => e = .returned (.string t) ∧ Below W.heap.size W w') :=
  ⟨_, rfl, bz n ⟨h0, by omega⟩, Lib.hid (fun W => by have h := ref_num n h0 h1 W; rw [u64_id _ h0 h1] at h; exact h)⟩
theorem txn_pack (a b : Int) (ha : U32 a) (hb : U32 b) : ∃ t, encB a ++ encB b = t ∧ t.size ≤ 18 ∧ Hid (∀ W, Calls Try.prog 21 #[.agg #[.int .u32 a, .int .u32 b]] W fun e w' => e = .returned (.string t) ∧ Below W.heap.size W w') :=
  ⟨_, rfl, by have := bz a (w32 ha); have := bz b (w32 hb); rw [ByteArray.size_append]; omega, Lib.hid (fun W => ref_txn a b ha hb W)⟩
theorem stamp_pack (a b : Int) (ha : U64 a) (hb : U32 b) : ∃ t, encB a ++ encB b = t ∧ t.size ≤ 18 ∧ Hid (∀ W, Calls Try.prog 22 #[.agg #[.int .u64 a, .int .u32 b]] W fun e w' => e = .returned (.string t) ∧ Below W.heap.size W w') :=
  ⟨_, rfl, by have := bz a ha; have := bz b (w32 hb); rw [ByteArray.size_append]; omega, Lib.hid (fun W => ref_stamp a b ha hb W)⟩
theorem flag_pack (b : Bool) : ∃ t, encF b = t ∧ t.size ≤ 1 ∧ Hid (∀ W, Calls Try.prog 20 #[.bool b] W fun e w' => e = .returned (.string t) ∧ Below W.heap.size W w') :=
  ⟨_, rfl, by cases b <;> decide, Lib.hid (fun W => ref_flag b W)⟩
theorem text_pack (s : ByteArray) (m : Nat) (h : s.size ≤ m) (hm : m ≤ 1000) : ∃ t, txE s = t ∧ t.size ≤ 9 + m ∧ Hid (∀ W, Calls Try.prog 23 #[.string s] W fun e w' => e = .returned (.string t) ∧ Below W.heap.size W w') :=
  ⟨_, rfl, tz s m h hm, Lib.hid (fun W => ref_text s (by omega) W)⟩
def wT3 : Bool × List (List Nat × List Nat) := (true, [([], []), ([0], [0]), ([1], [1]), ([2], [2]), ([], []), ([4], [4]), ([5], [5]), ([6, 3], [6]), ([3, 7], [3, 7]), ([], []), ([9], [9]), ([10], [10]), ([11, 7], [11]), ([8, 12], [8, 12]), ([], []), ([14], [14]), ([15, 12], [15]), ([13, 16], [13, 16]), ([17, 16, 0, 1, 2, 3, 4, 5, 6, 7, 8, 9, 10, 11, 12, 13, 14, 15, 16, 17], [17])])
def wB3 : List Nat := [0, 1, 3, 7, 0, 16, 48, 127, 255, 0, 512, 1536, 3839, 8191, 0, 16384, 57087, 131071, 262143]
theorem wtab3 : rtab .any (opsOf Try.f8 3) = wT3 := by kernel_rfl
theorem wbits3 : waitsOk wT3.2 wB3 = true := by kernel_rfl
def wT18 : Bool × List (List Nat × List Nat) := (true, [([], []), ([], []), ([1], [1]), ([2], [2]), ([3], [3]), ([0, 4], [0, 4]), ([], []), ([6], [6]), ([7], [7]), ([8, 4], [8]), ([5, 9], [5, 9]), ([], []), ([11], [11]), ([12, 9], [12]), ([10, 13], [10, 13]), ([], []), ([15], [15]), ([16, 13], [16]), ([14, 17], [14, 17]), ([], []), ([19], [19]), ([20], [20]), ([21], [21]), ([22, 17], [22]), ([18, 23], [18, 23]), ([24, 23, 0, 1, 2, 3, 4, 5, 6, 7, 8, 9, 10, 11, 12, 13, 14, 15, 16, 17, 18, 19, 20, 21, 22, 23, 24], [0, 24])])
def wB18 : List Nat := [0, 0, 2, 6, 14, 31, 0, 64, 192, 478, 1023, 0, 2048, 7134, 16383, 0, 32768, 113630, 262143, 0, 524288, 1572864, 3670016, 8109022, 16777215, 33554431]
theorem wtab18 : rtab .any (opsOf Try.f8 18) = wT18 := by kernel_rfl
theorem wbits18 : waitsOk wT18.2 wB18 = true := by kernel_rfl
def wT22 : Bool × List (List Nat × List Nat) := (true, [([], []), ([], []), ([1], [1]), ([], []), ([2, 3], [2, 3]), ([4], [4]), ([5], [5]), ([6], [6]), ([0, 7], [0, 7]), ([], []), ([9], [9]), ([], []), ([10, 11], [10, 11]), ([12], [12]), ([13], [13]), ([14, 7], [14]), ([8, 15], [8, 15]), ([16, 15, 0, 1, 2, 3, 4, 5, 6, 7, 8, 9, 10, 11, 12, 13, 14, 15, 16], [0, 16])])
def wB22 : List Nat := [0, 0, 2, 0, 14, 30, 62, 126, 255, 0, 512, 0, 3584, 7680, 15872, 32510, 65535, 131071]
theorem wtab22 : rtab .any (opsOf Try.f8 22) = wT22 := by kernel_rfl
theorem wbits22 : waitsOk wT22.2 wB22 = true := by kernel_rfl
def wT23 : Bool × List (List Nat × List Nat) := (true, [([], []), ([], []), ([1], [1]), ([2], [2]), ([0, 3], [0, 3]), ([], []), ([5], [5]), ([6, 3], [6]), ([4, 7], [4, 7]), ([], []), ([9], [9]), ([10, 7], [10]), ([8, 11], [8, 11]), ([], []), ([13], [13]), ([14, 11], [14]), ([12, 15], [12, 15]), ([], []), ([17], [17]), ([18, 15], [18]), ([16, 19], [16, 19]), ([20, 19, 0, 1, 2, 3, 4, 5, 6, 7, 8, 9, 10, 11, 12, 13, 14, 15, 16, 17, 18, 19, 20], [20]), ([21, 0, 1, 2, 3, 4, 5, 6, 7, 8, 9, 10, 11, 12, 13, 14, 15, 16, 17, 18, 19, 20, 21], [])])
def wB23 : List Nat := [0, 0, 2, 6, 15, 0, 32, 110, 255, 0, 512, 1774, 4095, 0, 8192, 28398, 65535, 0, 131072, 454382, 1048575, 2097151, 4194303]
theorem wtab23 : rtab .any (opsOf Try.f8 23) = wT23 := by kernel_rfl
theorem wbits23 : waitsOk wT23.2 wB23 = true := by kernel_rfl
def wT6 : Bool × List (List Nat × List Nat) := (true, [([], []), ([], []), ([1], [1]), ([2], [2]), ([3], [3]), ([0, 4], [0, 4]), ([], []), ([6], [6]), ([7, 4], [7]), ([5, 8], [5, 8]), ([], []), ([10], [10]), ([11, 8], [11]), ([9, 12], [9, 12]), ([], []), ([14], [14]), ([15, 12], [15]), ([13, 16], [13, 16]), ([], []), ([18], [18]), ([19, 16], [19]), ([17, 20], [17, 20]), ([], []), ([22], [22]), ([23, 20], [23]), ([21, 24], [21, 24]), ([], []), ([26], [26]), ([27], [27]), ([28, 24], [28]), ([25, 29], [25, 29]), ([], []), ([31], [31]), ([32], [32]), ([33, 29], [33]), ([30, 34], [30, 34]), ([], []), ([36], [36]), ([37], [37]), ([38], [38]), ([39, 34], [39]), ([35, 40], [35, 40]), ([41, 40, 0, 1, 2, 3, 4, 5, 6, 7, 8, 9, 10, 11, 12, 13, 14, 15, 16, 17, 18, 19, 20, 21, 22, 23, 24, 25, 26, 27, 28, 29, 30, 31, 32, 33, 34, 35, 36, 37, 38, 39, 40, 41], [0, 41])])
def wB6 : List Nat := [0, 0, 2, 6, 14, 31, 0, 64, 222, 511, 0, 1024, 3550, 8191, 0, 16384, 56798, 131071, 0, 262144, 908766, 2097151, 0, 4194304, 14540254, 33554431, 0, 67108864, 201326592, 501079518, 1073741823, 0, 2147483648, 6442450944, 16070335966, 34359738367, 0, 68719476736, 206158430208, 481036337152, 1064042356190, 2199023255551, 4398046511103]
theorem wtab6 : rtab .any (opsOf Try.f8 6) = wT6 := by kernel_rfl
theorem wbits6 : waitsOk wT6.2 wB6 = true := by kernel_rfl
def wT10 : Bool × List (List Nat × List Nat) := (true, [([], []), ([], []), ([1], [1]), ([], []), ([2, 3], [2, 3]), ([4], [4]), ([5], [5]), ([6], [6]), ([0, 7], [0, 7]), ([], []), ([9], [9]), ([], []), ([10, 11], [10, 11]), ([12], [12]), ([13], [13]), ([14, 7], [14]), ([8, 15], [8, 15]), ([], []), ([17], [17]), ([], []), ([18, 19], [18, 19]), ([20], [20]), ([21], [21]), ([22, 15], [22]), ([16, 23], [16, 23]), ([24, 23, 0, 1, 2, 3, 4, 5, 6, 7, 8, 9, 10, 11, 12, 13, 14, 15, 16, 17, 18, 19, 20, 21, 22, 23, 24], [0, 24])])
def wB10 : List Nat := [0, 0, 2, 0, 14, 30, 62, 126, 255, 0, 512, 0, 3584, 7680, 15872, 32510, 65535, 0, 131072, 0, 917504, 1966080, 4063232, 8322814, 16777215, 33554431]
theorem wtab10 : rtab .any (opsOf Try.f8 10) = wT10 := by kernel_rfl
theorem wbits10 : waitsOk wT10.2 wB10 = true := by kernel_rfl
theorem encW_size (x : S66) (h : okT x.f0 x.f1) : (encW x).size ≤ 307 := by
  have h1 := tz x.f0 32 h.1 (by decide)
  have h2 := tz x.f1 256 h.2 (by decide)
  have h3 : (encF x.f2).size ≤ 1 := by cases x.f2 <;> decide
  simp only [encW, ByteArray.size_append]
  omega
theorem encP_size (x : S68) (h : okT x.f0 x.f1) : (encP x).size ≤ 306 := by
  have h1 := tz x.f0 32 h.1 (by decide)
  have h2 := tz x.f1 256 h.2 (by decide)
  simp only [encP, ByteArray.size_append]
  omega
theorem encX_size (x : S24) (h : U32 x.f0 ∧ U32 x.f1) : (encX x).size ≤ 18 := by
  have h1 := bz x.f0 (w32 h.1)
  have h2 := bz x.f1 (w32 h.2)
  simp only [encX, ByteArray.size_append]
  omega
set_option maxRecDepth 100000 in
set_option maxHeartbeats 16000000 in
theorem rwrite_calls (l : Lt) (A1 A2 A3 : Option Addr) (c1 c2 c3 : Nat) (w : World) (hl : LOk l) (h1 : Kd.C k66 w A1 l.q.ws.length l.q.ws) (h2 : Kd.C k24 w A2 l.q.sk.length l.q.sk) (h3 : Kd.C k68 w A3 l.r.ps.length l.r.ps) :
    Calls Try.prog 8 #[.agg #[.int .u32 l.cl, .int .u32 l.sh, .int .u32 l.sq, .bool l.an, .int .i64 l.q.k, .int .u32 l.q.bc, .int .u32 l.q.bn, .int .u64 l.q.sp, .int .u32 l.q.sl, .int .u64 l.q.ap, .int .u32 l.q.al, .string l.q.key, .string l.q.tt, .int .i64 l.q.lim, .int .u8 l.q.parts, .slice A1 l.q.ws.length c1, .slice A2 l.q.sk.length c2, .int .i64 l.r.k, .int .i64 l.r.er, .bool l.r.fd, .string l.r.val, .slice A3 l.r.ps.length c3, .int .u32 l.r.wc, .int .u32 l.r.wn, .int .u64 l.r.sp, .int .u32 l.r.sl, .int .u64 l.r.ap, .int .u32 l.r.al, .string l.r.pr, .int .u64 l.r.np, .int .u32 l.r.nl]] w fun e w' => e = .returned (.tuple #[.string (writeR l).1, .int .i64 (writeR l).2]) ∧ Below w.heap.size w w' := by
  have HRI := Lib.hid (fun W (hb : Below w.heap.size w W) => rrightL_calls l A1 A2 A3 c1 c2 c3 W hl (Kd.C_below h1 hb) (Kd.C_below h2 hb) (Kd.C_below h3 hb))
  have HAF := Lib.hid (fun (ha : askR l.q = true) => askFacts l.q hl.q ha)
  have HRF := Lib.hid (fun (ha : replyR l.r = true) => repFacts l.r hl.r ha)
  have H1 := Lib.hid h1
  have H2 := Lib.hid h2
  have H3 := Lib.hid h3
  obtain ⟨hcl1, hcl2⟩ := hl.cl
  obtain ⟨hsh1, hsh2⟩ := hl.sh
  obtain ⟨hsq1, hsq2⟩ := hl.sq
  clear hl h1 h2 h3
  have HRR : Hid (∀ b, rightR l = b → b = true → if l.an = true then replyR l.r = true else askR l.q = true) := Lib.hid (by
    intro b hb e
    rw [e] at hb
    unfold rightR at hb
    split at hb
    · cases hb
    · split at hb
      · cases hb
      · split at hb
        · rename_i h; rw [if_pos h]; simp only [Bool.and_eq_true] at hb; exact hb.2
        · rename_i h; rw [if_neg h]; simp only [Bool.and_eq_true] at hb; exact hb.2)
  have HWR : Hid (writeR l = if rightR l = true then (encL l, 0) else (⟨#[]⟩, 1)) := rfl
  obtain ⟨cl, sh, sq, an, q, r⟩ := l
  dsimp only at *
  generalize hri : rightR ⟨cl, sh, sq, an, q, r⟩ = bri at *
  have HRR2 := Lib.hid (HRR.out bri rfl)
  clear HRR hri
  obtain ⟨k, bc, bn, sp, sl, ap, al, key, tt, lim, parts, ws, sk⟩ := q
  obtain ⟨rk, er, fd, val, ps, wc, wn, rsp, rsl, rap, ral, pr, np, nl⟩ := r
  dsimp only at *
  have HX0 := Lib.hid (heap_alloc_new w (.cells #[.int .u32 cl, .int .u32 sh, .int .u32 sq, .bool an, .int .i64 k, .int .u32 bc, .int .u32 bn, .int .u64 sp, .int .u32 sl, .int .u64 ap, .int .u32 al, .string key, .string tt, .int .i64 lim, .int .u8 parts, .slice A1 ws.length c1, .slice A2 sk.length c2, .int .i64 rk, .int .i64 er, .bool fd, .string val, .slice A3 ps.length c3, .int .u32 wc, .int .u32 wn, .int .u64 rsp, .int .u32 rsl, .int .u64 rap, .int .u32 ral, .string pr, .int .u64 np, .int .u32 nl] 37))
  have HB0 := Lib.hid (below_alloc' (Below.refl _ w) (.cells #[.int .u32 cl, .int .u32 sh, .int .u32 sq, .bool an, .int .i64 k, .int .u32 bc, .int .u32 bn, .int .u64 sp, .int .u32 sl, .int .u64 ap, .int .u32 al, .string key, .string tt, .int .i64 lim, .int .u8 parts, .slice A1 ws.length c1, .slice A2 sk.length c2, .int .i64 rk, .int .i64 er, .bool fd, .string val, .slice A3 ps.length c3, .int .u32 wc, .int .u32 wn, .int .u64 rsp, .int .u32 rsl, .int .u64 rap, .int .u32 ral, .string pr, .int .u64 np, .int .u32 nl] 37))
  go_enter Try.func8, Try.ntmps8
  go_wp2_with (refine wpList_load_row rfl 37 (.tmp 1) rfl w.heap.size rfl 37 _ (0, 0) _ HX0.out Try.underlying37 rfl (by kernel_rfl) ?_)
  refine (HRI.out _ HB0.out).mono ?_
  rintro e w1 ⟨rfl, hB1⟩
  have HS := Lib.hid (St.go (St.mk' HB0.out HX0.out) hB1)
  clear hB1 HB0 HX0 HRI
  generalize (Value.agg #[.int .u32 cl, .int .u32 sh, .int .u32 sq, .bool an, .int .i64 k, .int .u32 bc, .int .u32 bn, .int .u64 sp, .int .u32 sl, .int .u64 ap, .int .u32 al, .string key, .string tt, .int .i64 lim, .int .u8 parts, .slice A1 ws.length c1, .slice A2 sk.length c2, .int .i64 rk, .int .i64 er, .bool fd, .string val, .slice A3 ps.length c3, .int .u32 wc, .int .u32 wn, .int .u64 rsp, .int .u32 rsl, .int .u64 rap, .int .u32 ral, .string pr, .int .u64 np, .int .u32 nl]) = vg
  cases bri with
  | false =>
    as_aux_lemma =>
      have HR : Hid (writeR ⟨cl, sh, sq, an, ⟨k, bc, bn, sp, sl, ap, al, key, tt, lim, parts, ws, sk⟩, ⟨rk, er, fd, val, ps, wc, wn, rsp, rsl, rap, ral, pr, np, nl⟩⟩ = (⟨#[]⟩, 1)) := HWR
      go_wp2_with fail
      go_ret2
      exact ⟨by rw [HR.out]; rfl, HS.out.1⟩
  | true =>
    have HR : Hid (writeR ⟨cl, sh, sq, an, ⟨k, bc, bn, sp, sl, ap, al, key, tt, lim, parts, ws, sk⟩, ⟨rk, er, fd, val, ps, wc, wn, rsp, rsl, rap, ral, pr, np, nl⟩⟩ = (encL ⟨cl, sh, sq, an, ⟨k, bc, bn, sp, sl, ap, al, key, tt, lim, parts, ws, sk⟩, ⟨rk, er, fd, val, ps, wc, wn, rsp, rsl, rap, ral, pr, np, nl⟩⟩, 0)) := HWR
    have HRT := Lib.hid (HRR2.out rfl)
    clear HWR HRR2
    obtain ⟨t1, e1, z1, N1⟩ := num_pack cl hcl1 (by omega)
    obtain ⟨t2, e2, z2, N2⟩ := num_pack sh hsh1 (by omega)
    obtain ⟨t3, e3, z3, N3⟩ := num_pack sq hsq1 (by omega)
    obtain ⟨t4, e4, z4, N4⟩ := flag_pack an
    have HE := Lib.hid (And.intro e1 (And.intro e2 (And.intro e3 e4)))
    clear e1 e2 e3 e4
    obtain ⟨ca1, cb1, cc1⟩ := cat3 (show t1.size + t2.size ≤ 9223372036854775807 by omega)
    obtain ⟨ca2, cb2, cc2⟩ := cat3 (show t1.size + t2.size + t3.size ≤ 9223372036854775807 by omega)
    obtain ⟨ca3, cb3, cc3⟩ := cat3 (show t1.size + t2.size + t3.size + t4.size ≤ 9223372036854775807 by omega)
    go_wp2_with fail
    refine start_ (n := 19) (S := St w w.heap.size #[.int .u32 cl, .int .u32 sh, .int .u32 sq, .bool an, .int .i64 k, .int .u32 bc, .int .u32 bn, .int .u64 sp, .int .u32 sl, .int .u64 ap, .int .u32 al, .string key, .string tt, .int .i64 lim, .int .u8 parts, .slice A1 ws.length c1, .slice A2 sk.length c2, .int .i64 rk, .int .i64 er, .bool fd, .string val, .slice A3 ps.length c3, .int .u32 wc, .int .u32 wn, .int .u64 rsp, .int .u32 rsl, .int .u64 rap, .int .u32 ral, .string pr, .int .u64 np, .int .u32 nl] 37) (ds := []) #[nn, nn, nn, nn, nn, nn, nn, nn, nn, nn, nn, nn, nn, nn, nn, nn, nn, nn, nn] (by kernel_rfl) rfl rfl (St.drew HS.out) (fun hHeld => ?_); refine with_tabW wtab3 wbits3 (fun HT_ HW_ => ?_)
    clear HS
    refine pure_ (i := 0) (N := some 13) (v := ?_) (a' := ?_) #[yy, nn, nn, nn, nn, nn, nn, nn, nn, nn, nn, nn, nn, nn, nn, nn, nn, nn, nn] rfl rfl (any_of HT_.out (by kernel_rfl)) (fun _ _ _ h => h) (Or.inl ⟨by rfl, ?_⟩) ?_ ?_
    rotate_left
    · intro w'; go_simp; with_reducible rfl
    rotate_left
    · simp only [Act.put, List.setIfInBounds_toArray, List.set_cons_zero, List.set_cons_succ, i64_w, i32_w]; rfl
    refine pure_ (i := 4) (N := some 17) (v := ?_) (a' := ?_) #[yy, nn, nn, nn, yy, nn, nn, nn, nn, nn, nn, nn, nn, nn, nn, nn, nn, nn, nn] rfl rfl (any_of HT_.out (by kernel_rfl)) (fun _ _ _ h => h) (Or.inl ⟨by rfl, ?_⟩) ?_ ?_
    rotate_left
    · intro w'; go_simp; with_reducible rfl
    rotate_left
    · simp only [Act.put, List.setIfInBounds_toArray, List.set_cons_zero, List.set_cons_succ, i64_w, i32_w]; rfl
    refine pure_ (i := 9) (N := some 22) (v := ?_) (a' := ?_) #[yy, nn, nn, nn, yy, nn, nn, nn, nn, yy, nn, nn, nn, nn, nn, nn, nn, nn, nn] rfl rfl (any_of HT_.out (by kernel_rfl)) (fun _ _ _ h => h) (Or.inl ⟨by rfl, ?_⟩) ?_ ?_
    rotate_left
    · intro w'; go_simp; with_reducible rfl
    rotate_left
    · simp only [Act.put, List.setIfInBounds_toArray, List.set_cons_zero, List.set_cons_succ, i64_w, i32_w]; rfl
    refine pure_ (i := 14) (N := some 27) (v := ?_) (a' := ?_) #[yy, nn, nn, nn, yy, nn, nn, nn, nn, yy, nn, nn, nn, nn, yy, nn, nn, nn, nn] rfl rfl (any_of HT_.out (by kernel_rfl)) (fun _ _ _ h => h) (Or.inl ⟨by rfl, ?_⟩) ?_ ?_
    rotate_left
    · intro w'; go_simp; with_reducible rfl
    rotate_left
    · simp only [Act.put, List.setIfInBounds_toArray, List.set_cons_zero, List.set_cons_succ, i64_w, i32_w]; rfl
    refine take_ (i := 1) (N := some 14) (v := ?_) (a' := ?_) #[yy, yy, nn, nn, yy, nn, nn, nn, nn, yy, nn, nn, nn, nn, yy, nn, nn, nn, nn] rfl rfl (take_ofW HT_.out HW_.out (by kernel_rfl)) (fun _ _ _ h => h) (Or.inl ⟨by rfl, ?_⟩) hHeld ?_ ?_
    rotate_left
    · intro w' hs; have s0 := hs.cell 0 (.int .u32 cl) rfl; go_simp; with_reducible rfl
    rotate_left
    · simp only [Act.put, List.setIfInBounds_toArray, List.set_cons_zero, List.set_cons_succ, i64_w, i32_w]; rfl
    refine pure_ (i := 2) (N := some 15) (v := ?_) (a' := ?_) #[yy, yy, yy, nn, yy, nn, nn, nn, nn, yy, nn, nn, nn, nn, yy, nn, nn, nn, nn] rfl rfl (any_of HT_.out (by kernel_rfl)) (fun _ _ _ h => h) (Or.inl ⟨by rfl, ?_⟩) ?_ ?_
    rotate_left
    · intro w'; go_simp; with_reducible rfl
    rotate_left
    · simp only [Act.put, List.setIfInBounds_toArray, List.set_cons_zero, List.set_cons_succ, i64_w, i32_w]; rfl
    refine take_ (i := 5) (N := some 18) (v := ?_) (a' := ?_) #[yy, yy, yy, nn, yy, yy, nn, nn, nn, yy, nn, nn, nn, nn, yy, nn, nn, nn, nn] rfl rfl (take_ofW HT_.out HW_.out (by kernel_rfl)) (fun _ _ _ h => h) (Or.inl ⟨by rfl, ?_⟩) hHeld ?_ ?_
    rotate_left
    · intro w' hs; have s1 := hs.cell 1 (.int .u32 sh) rfl; go_simp; with_reducible rfl
    rotate_left
    · simp only [Act.put, List.setIfInBounds_toArray, List.set_cons_zero, List.set_cons_succ, i64_w, i32_w]; rfl
    refine pure_ (i := 6) (N := some 19) (v := ?_) (a' := ?_) #[yy, yy, yy, nn, yy, yy, yy, nn, nn, yy, nn, nn, nn, nn, yy, nn, nn, nn, nn] rfl rfl (any_of HT_.out (by kernel_rfl)) (fun _ _ _ h => h) (Or.inl ⟨by rfl, ?_⟩) ?_ ?_
    rotate_left
    · intro w'; go_simp; with_reducible rfl
    rotate_left
    · simp only [Act.put, List.setIfInBounds_toArray, List.set_cons_zero, List.set_cons_succ, i64_w, i32_w]; rfl
    refine take_ (i := 10) (N := some 23) (v := ?_) (a' := ?_) #[yy, yy, yy, nn, yy, yy, yy, nn, nn, yy, yy, nn, nn, nn, yy, nn, nn, nn, nn] rfl rfl (take_ofW HT_.out HW_.out (by kernel_rfl)) (fun _ _ _ h => h) (Or.inl ⟨by rfl, ?_⟩) hHeld ?_ ?_
    rotate_left
    · intro w' hs; have s2 := hs.cell 2 (.int .u32 sq) rfl; go_simp; with_reducible rfl
    rotate_left
    · simp only [Act.put, List.setIfInBounds_toArray, List.set_cons_zero, List.set_cons_succ, i64_w, i32_w]; rfl
    refine pure_ (i := 11) (N := some 24) (v := ?_) (a' := ?_) #[yy, yy, yy, nn, yy, yy, yy, nn, nn, yy, yy, yy, nn, nn, yy, nn, nn, nn, nn] rfl rfl (any_of HT_.out (by kernel_rfl)) (fun _ _ _ h => h) (Or.inl ⟨by rfl, ?_⟩) ?_ ?_
    rotate_left
    · intro w'; go_simp; with_reducible rfl
    rotate_left
    · simp only [Act.put, List.setIfInBounds_toArray, List.set_cons_zero, List.set_cons_succ, i64_w, i32_w]; rfl
    refine take_ (i := 15) (N := some 28) (v := ?_) (a' := ?_) #[yy, yy, yy, nn, yy, yy, yy, nn, nn, yy, yy, yy, nn, nn, yy, yy, nn, nn, nn] rfl rfl (take_ofW HT_.out HW_.out (by kernel_rfl)) (fun _ _ _ h => h) (Or.inl ⟨by rfl, ?_⟩) hHeld ?_ ?_
    rotate_left
    · intro w' hs; have s3 := hs.cell 3 (.bool an) rfl; go_simp; with_reducible rfl
    rotate_left
    · simp only [Act.put, List.setIfInBounds_toArray, List.set_cons_zero, List.set_cons_succ, i64_w, i32_w]; rfl
    refine one_ (i := 3) (N := some 16) #[yy, yy, yy, yy, yy, yy, yy, nn, nn, yy, yy, yy, nn, nn, yy, yy, nn, nn, nn] rfl rfl (one_of HT_.out (by kernel_rfl)) (by decide) (fun K hK => ?_)
    refine goes_ Try.func19 (by kernel_rfl) rfl #[.int .u64 (IntKind.u64.wrap cl)] (by rfl) rfl rfl (by (try simp only [List.map_toArray, List.map_cons, List.map_nil]); first | done | rfl) ?_
    with_reducible refine (N1.out _).mono ?_
    rintro e wa1 ⟨rfl, hb⟩
    refine ⟨_, rfl, ?_⟩
    have hh := St.go hHeld hb
    clear hHeld hb
    refine hK.out _ _ hh (fun hHeld => ?_)
    clear hK K hh
    refine norm_ (a' := ?_) ?_ ?_
    rotate_left
    · show Act.put _ (some 16) _ = _; simp only [Act.put, List.setIfInBounds_toArray, List.set_cons_zero, List.set_cons_succ, i64_w, i32_w]; rfl
    refine one_ (i := 7) (N := some 20) #[yy, yy, yy, yy, yy, yy, yy, yy, nn, yy, yy, yy, nn, nn, yy, yy, nn, nn, nn] rfl rfl (one_of HT_.out (by kernel_rfl)) (by decide) (fun K hK => ?_)
    refine goes_ Try.func19 (by kernel_rfl) rfl #[.int .u64 (IntKind.u64.wrap sh)] (by rfl) rfl rfl (by (try simp only [List.map_toArray, List.map_cons, List.map_nil]); first | done | rfl) ?_
    with_reducible refine (N2.out _).mono ?_
    rintro e wa2 ⟨rfl, hb⟩
    refine ⟨_, rfl, ?_⟩
    have hh := St.go hHeld hb
    clear hHeld hb
    refine hK.out _ _ hh (fun hHeld => ?_)
    clear hK K hh
    refine norm_ (a' := ?_) ?_ ?_
    rotate_left
    · show Act.put _ (some 20) _ = _; simp only [Act.put, List.setIfInBounds_toArray, List.set_cons_zero, List.set_cons_succ, i64_w, i32_w]; rfl
    refine pure_ (i := 8) (N := some 21) (v := ?_) (a' := ?_) #[yy, yy, yy, yy, yy, yy, yy, yy, yy, yy, yy, yy, nn, nn, yy, yy, nn, nn, nn] rfl rfl (any_of HT_.out (by kernel_rfl)) (fun _ _ _ h => h) (Or.inl ⟨by rfl, ?_⟩) ?_ ?_
    rotate_left
    · intro w'; go_simp; with_reducible rfl
    rotate_left
    · simp only [Act.put, List.setIfInBounds_toArray, List.set_cons_zero, List.set_cons_succ, i64_w, i32_w]; rfl
    refine one_ (i := 12) (N := some 25) #[yy, yy, yy, yy, yy, yy, yy, yy, yy, yy, yy, yy, yy, nn, yy, yy, nn, nn, nn] rfl rfl (one_of HT_.out (by kernel_rfl)) (by decide) (fun K hK => ?_)
    refine goes_ Try.func19 (by kernel_rfl) rfl #[.int .u64 (IntKind.u64.wrap sq)] (by rfl) rfl rfl (by (try simp only [List.map_toArray, List.map_cons, List.map_nil]); first | done | rfl) ?_
    with_reducible refine (N3.out _).mono ?_
    rintro e wa3 ⟨rfl, hb⟩
    refine ⟨_, rfl, ?_⟩
    have hh := St.go hHeld hb
    clear hHeld hb
    refine hK.out _ _ hh (fun hHeld => ?_)
    clear hK K hh
    refine norm_ (a' := ?_) ?_ ?_
    rotate_left
    · show Act.put _ (some 25) _ = _; simp only [Act.put, List.setIfInBounds_toArray, List.set_cons_zero, List.set_cons_succ, i64_w, i32_w]; rfl
    refine pure_ (i := 13) (N := some 26) (v := ?_) (a' := ?_) #[yy, yy, yy, yy, yy, yy, yy, yy, yy, yy, yy, yy, yy, yy, yy, yy, nn, nn, nn] rfl rfl (any_of HT_.out (by kernel_rfl)) (fun _ _ _ h => h) (Or.inl ⟨by rfl, ?_⟩) ?_ ?_
    rotate_left
    · intro w'; go_simp; with_reducible rfl
    rotate_left
    · simp only [Act.put, List.setIfInBounds_toArray, List.set_cons_zero, List.set_cons_succ, i64_w, i32_w]; rfl
    refine one_ (i := 16) (N := some 29) #[yy, yy, yy, yy, yy, yy, yy, yy, yy, yy, yy, yy, yy, yy, yy, yy, yy, nn, nn] rfl rfl (one_of HT_.out (by kernel_rfl)) (by decide) (fun K hK => ?_)
    refine goes_ Try.func20 (by kernel_rfl) rfl #[.bool an] (by rfl) rfl rfl (by (try simp only [List.map_toArray, List.map_cons, List.map_nil]); first | done | rfl) ?_
    with_reducible refine (N4.out _).mono ?_
    rintro e wa4 ⟨rfl, hb⟩
    refine ⟨_, rfl, ?_⟩
    have hh := St.go hHeld hb
    clear hHeld hb
    refine hK.out _ _ hh (fun hHeld => ?_)
    clear hK K hh
    refine norm_ (a' := ?_) ?_ ?_
    rotate_left
    · show Act.put _ (some 29) _ = _; simp only [Act.put, List.setIfInBounds_toArray, List.set_cons_zero, List.set_cons_succ, i64_w, i32_w]; rfl
    refine pure_ (i := 17) (N := some 30) (v := ?_) (a' := ?_) #[yy, yy, yy, yy, yy, yy, yy, yy, yy, yy, yy, yy, yy, yy, yy, yy, yy, yy, nn] rfl rfl (any_of HT_.out (by kernel_rfl)) (fun _ _ _ h => h) (Or.inl ⟨by rfl, ?_⟩) ?_ ?_
    rotate_left
    · intro w'; go_simp; with_reducible rfl
    rotate_left
    · simp only [Act.put, List.setIfInBounds_toArray, List.set_cons_zero, List.set_cons_succ, i64_w, i32_w]; rfl
    refine pure_ (i := 18) (N := some 4) (v := ?_) (a' := ?_) #[yy, yy, yy, yy, yy, yy, yy, yy, yy, yy, yy, yy, yy, yy, yy, yy, yy, yy, yy] rfl rfl (any_of HT_.out (by kernel_rfl)) (fun _ _ _ h => h) (Or.inl ⟨by rfl, ?_⟩) ?_ ?_
    rotate_left
    · intro w'; go_simp; with_reducible rfl
    rotate_left
    · simp only [Act.put, List.setIfInBounds_toArray, List.set_cons_zero, List.set_cons_succ, i64_w, i32_w]; rfl
    refine done_ (done_of HT_.out (by kernel_rfl)) ?_
    have HS := Lib.hid hHeld
    clear hHeld HT_ HW_
    obtain ⟨m, hm⟩ : ∃ m, m = t1 ++ t2 ++ t3 ++ t4 := ⟨_, rfl⟩
    have zm : m.size ≤ 28 := by rw [hm]; simp only [ByteArray.size_append]; omega
    rw [← hm]
    have HM := Lib.hid hm
    clear hm ca1 cb1 cc1 ca2 cb2 cc2 ca3 cb3 cc3 z1 z2 z3 z4 N1 N2 N3 N4
    cases an with
    | false =>
      as_aux_lemma =>
        have F := HAF.out (by have h := HRT.out; simpa using h)
        have hlx := lt_at HS.out.2
        have x3 := HS.out.cell 3 (.bool false) rfl
        have x4 := HS.out.cell 4 (.int .i64 k) rfl
        have x5 := HS.out.cell 5 (.int .u32 bc) rfl
        have x6 := HS.out.cell 6 (.int .u32 bn) rfl
        have x7 := HS.out.cell 7 (.int .u64 sp) rfl
        have x8 := HS.out.cell 8 (.int .u32 sl) rfl
        have x9 := HS.out.cell 9 (.int .u64 ap) rfl
        have x10 := HS.out.cell 10 (.int .u32 al) rfl
        have x11 := HS.out.cell 11 (.string key) rfl
        have x12 := HS.out.cell 12 (.string tt) rfl
        have x13 := HS.out.cell 13 (.int .i64 lim) rfl
        have x14 := HS.out.cell 14 (.int .u8 parts) rfl
        have x15 := HS.out.cell 15 (.slice A1 ws.length c1) rfl
        have x16 := HS.out.cell 16 (.slice A2 sk.length c2) rfl
        have HX5 := Lib.hid (heap_alloc_new wa4 (.cells #[.int .i64 0, .int .u32 0, .int .u32 0, .int .u64 0, .int .u32 0, .int .u64 0, .int .u32 0, .string ⟨#[]⟩, .string ⟨#[]⟩, .int .i64 0, .int .u8 0, .slice none 0 0, .slice none 0 0] 31))
        have HB5 := Lib.hid (below_alloc' HS.out.1 (.cells #[.int .i64 0, .int .u32 0, .int .u32 0, .int .u64 0, .int .u32 0, .int .u64 0, .int .u32 0, .string ⟨#[]⟩, .string ⟨#[]⟩, .int .i64 0, .int .u8 0, .slice none 0 0, .slice none 0 0] 31))
        have HGE : Hid (w.heap.size ≤ wa4.heap.size) := Lib.hid HS.out.1.size
        have HF := Lib.hid F
        clear F HS
        go_wp2_with (first | ((with_reducible refine gate_store (t := 31) (p := 5) (v := .tmp 35) rfl ?_); refine store_mid_ev (w0 := w) rfl 31 (.tmp 5) (.tmp 35) rfl rfl wa4.heap.size 0 #[.int .i64 k, .int .u32 bc, .int .u32 bn, .int .u64 sp, .int .u32 sl, .int .u64 ap, .int .u32 al, .string key, .string tt, .int .i64 lim, .int .u8 parts, .slice A1 ws.length c1, .slice A2 sk.length c2] rfl rfl 31 _ #[.int .i64 k, .int .u32 bc, .int .u32 bn, .int .u64 sp, .int .u32 sl, .int .u64 ap, .int .u32 al, .string key, .string tt, .int .i64 lim, .int .u8 parts, .slice A1 ws.length c1, .slice A2 sk.length c2] HX5.out (by kernel_rfl) (by show 0 + 13 ≤ 13; decide) (by kernel_rfl) (by kernel_rfl) HB5.out HGE.out ?_; intro w9 hX9 hK9 hB9; have HS := Lib.hid (St.mk' hB9 hX9); clear hX9 hK9 hB9))
        obtain ⟨⟨hk, hbc, hbn, hsp, hsl, hap, hal, hlim, hparts, hws, hsk, hskx⟩, ⟨hk0, hk1⟩, ⟨hl0, hl1⟩, hkey, htt, hw16, hs16, hwx⟩ := HF.out
        dsimp only at *
        obtain ⟨u1, e1, z1, P1⟩ := num_pack k (by omega) (by omega)
        obtain ⟨u2, e2, z2, P2⟩ := txn_pack bc bn hbc hbn
        obtain ⟨u3, e3, z3, P3⟩ := stamp_pack sp sl hsp hsl
        obtain ⟨u4, e4, z4, P4⟩ := stamp_pack ap al hap hal
        obtain ⟨u5, e5, z5, P5⟩ := text_pack key 32 hkey (by decide)
        obtain ⟨u6, e6, z6, P6⟩ := text_pack tt 32 htt (by decide)
        obtain ⟨u7, e7, z7, P7⟩ := num_pack lim (by omega) (by omega)
        obtain ⟨u8, e8, z8, P8⟩ := num_pack parts (by omega) (by omega)
        obtain ⟨u9, e9, z9, P9⟩ := num_pack (ws.length : Int) (by omega) (by omega)
        obtain ⟨v9, e10, z10, P10⟩ := num_pack0 (sk.length : Int) (by omega) (by omega)
        have HE2 := Lib.hid (And.intro e1 (And.intro e2 (And.intro e3 (And.intro e4 (And.intro e5 (And.intro e6 (And.intro e7 (And.intro e8 (And.intro e9 e10)))))))))
        have HWX := Lib.hid hwx
        have HSX := Lib.hid hskx
        clear e1 e2 e3 e4 e5 e6 e7 e8 e9 e10 hwx hskx HF HX5 HB5 hlx x3 x4 x5 x6 x7 x8 x9 x10 x11 x12 x13 x14 x15 x16 hk hbc hbn hsp hsl hap hal hlim hparts
        obtain ⟨ca0, cb0, cc0⟩ := cat3 (show m.size + u1.size ≤ 9223372036854775807 by omega)
        obtain ⟨ca1, cb1, cc1⟩ := cat3 (show m.size + u1.size + u2.size ≤ 9223372036854775807 by omega)
        obtain ⟨ca2, cb2, cc2⟩ := cat3 (show m.size + u1.size + u2.size + u3.size ≤ 9223372036854775807 by omega)
        obtain ⟨ca3, cb3, cc3⟩ := cat3 (show m.size + u1.size + u2.size + u3.size + u4.size ≤ 9223372036854775807 by omega)
        obtain ⟨ca4, cb4, cc4⟩ := cat3 (show m.size + u1.size + u2.size + u3.size + u4.size + u5.size ≤ 9223372036854775807 by omega)
        obtain ⟨ca5, cb5, cc5⟩ := cat3 (show m.size + u1.size + u2.size + u3.size + u4.size + u5.size + u6.size ≤ 9223372036854775807 by omega)
        obtain ⟨ca6, cb6, cc6⟩ := cat3 (show m.size + u1.size + u2.size + u3.size + u4.size + u5.size + u6.size + u7.size ≤ 9223372036854775807 by omega)
        obtain ⟨ca7, cb7, cc7⟩ := cat3 (show m.size + u1.size + u2.size + u3.size + u4.size + u5.size + u6.size + u7.size + u8.size ≤ 9223372036854775807 by omega)
        obtain ⟨ca8, cb8, cc8⟩ := cat3 (show m.size + u1.size + u2.size + u3.size + u4.size + u5.size + u6.size + u7.size + u8.size + u9.size ≤ 9223372036854775807 by omega)
        refine start_ (n := 43) (S := St w wa4.heap.size #[.int .i64 k, .int .u32 bc, .int .u32 bn, .int .u64 sp, .int .u32 sl, .int .u64 ap, .int .u32 al, .string key, .string tt, .int .i64 lim, .int .u8 parts, .slice A1 ws.length c1, .slice A2 sk.length c2] 31) (ds := []) #[nn, nn, nn, nn, nn, nn, nn, nn, nn, nn, nn, nn, nn, nn, nn, nn, nn, nn, nn, nn, nn, nn, nn, nn, nn, nn, nn, nn, nn, nn, nn, nn, nn, nn, nn, nn, nn, nn, nn, nn, nn, nn, nn] (by kernel_rfl) rfl rfl (St.drew HS.out) (fun hHeld => ?_); refine with_tabW wtab6 wbits6 (fun HT_ HW_ => ?_)
        clear HS
        refine pure_ (i := 0) (N := some 36) (v := ?_) (a' := ?_) #[yy, nn, nn, nn, nn, nn, nn, nn, nn, nn, nn, nn, nn, nn, nn, nn, nn, nn, nn, nn, nn, nn, nn, nn, nn, nn, nn, nn, nn, nn, nn, nn, nn, nn, nn, nn, nn, nn, nn, nn, nn, nn, nn] rfl rfl (any_of HT_.out (by kernel_rfl)) (fun _ _ _ h => h) (Or.inl ⟨by rfl, ?_⟩) ?_ ?_
        rotate_left
        · intro w'; go_simp; with_reducible rfl
        rotate_left
        · simp only [Act.put, List.setIfInBounds_toArray, List.set_cons_zero, List.set_cons_succ, i64_w, i32_w]; rfl
        refine pure_ (i := 1) (N := some 37) (v := ?_) (a' := ?_) #[yy, yy, nn, nn, nn, nn, nn, nn, nn, nn, nn, nn, nn, nn, nn, nn, nn, nn, nn, nn, nn, nn, nn, nn, nn, nn, nn, nn, nn, nn, nn, nn, nn, nn, nn, nn, nn, nn, nn, nn, nn, nn, nn] rfl rfl (any_of HT_.out (by kernel_rfl)) (fun _ _ _ h => h) (Or.inl ⟨by rfl, ?_⟩) ?_ ?_
        rotate_left
        · intro w'; go_simp; with_reducible rfl
        rotate_left
        · simp only [Act.put, List.setIfInBounds_toArray, List.set_cons_zero, List.set_cons_succ, i64_w, i32_w]; rfl
        refine pure_ (i := 6) (N := some 42) (v := ?_) (a' := ?_) #[yy, yy, nn, nn, nn, nn, yy, nn, nn, nn, nn, nn, nn, nn, nn, nn, nn, nn, nn, nn, nn, nn, nn, nn, nn, nn, nn, nn, nn, nn, nn, nn, nn, nn, nn, nn, nn, nn, nn, nn, nn, nn, nn] rfl rfl (any_of HT_.out (by kernel_rfl)) (fun _ _ _ h => h) (Or.inl ⟨by rfl, ?_⟩) ?_ ?_
        rotate_left
        · intro w'; go_simp; with_reducible rfl
        rotate_left
        · simp only [Act.put, List.setIfInBounds_toArray, List.set_cons_zero, List.set_cons_succ, i64_w, i32_w]; rfl
        refine pure_ (i := 10) (N := some 46) (v := ?_) (a' := ?_) #[yy, yy, nn, nn, nn, nn, yy, nn, nn, nn, yy, nn, nn, nn, nn, nn, nn, nn, nn, nn, nn, nn, nn, nn, nn, nn, nn, nn, nn, nn, nn, nn, nn, nn, nn, nn, nn, nn, nn, nn, nn, nn, nn] rfl rfl (any_of HT_.out (by kernel_rfl)) (fun _ _ _ h => h) (Or.inl ⟨by rfl, ?_⟩) ?_ ?_
        rotate_left
        · intro w'; go_simp; with_reducible rfl
        rotate_left
        · simp only [Act.put, List.setIfInBounds_toArray, List.set_cons_zero, List.set_cons_succ, i64_w, i32_w]; rfl
        refine pure_ (i := 14) (N := some 50) (v := ?_) (a' := ?_) #[yy, yy, nn, nn, nn, nn, yy, nn, nn, nn, yy, nn, nn, nn, yy, nn, nn, nn, nn, nn, nn, nn, nn, nn, nn, nn, nn, nn, nn, nn, nn, nn, nn, nn, nn, nn, nn, nn, nn, nn, nn, nn, nn] rfl rfl (any_of HT_.out (by kernel_rfl)) (fun _ _ _ h => h) (Or.inl ⟨by rfl, ?_⟩) ?_ ?_
        rotate_left
        · intro w'; go_simp; with_reducible rfl
        rotate_left
        · simp only [Act.put, List.setIfInBounds_toArray, List.set_cons_zero, List.set_cons_succ, i64_w, i32_w]; rfl
        refine pure_ (i := 18) (N := some 54) (v := ?_) (a' := ?_) #[yy, yy, nn, nn, nn, nn, yy, nn, nn, nn, yy, nn, nn, nn, yy, nn, nn, nn, yy, nn, nn, nn, nn, nn, nn, nn, nn, nn, nn, nn, nn, nn, nn, nn, nn, nn, nn, nn, nn, nn, nn, nn, nn] rfl rfl (any_of HT_.out (by kernel_rfl)) (fun _ _ _ h => h) (Or.inl ⟨by rfl, ?_⟩) ?_ ?_
        rotate_left
        · intro w'; go_simp; with_reducible rfl
        rotate_left
        · simp only [Act.put, List.setIfInBounds_toArray, List.set_cons_zero, List.set_cons_succ, i64_w, i32_w]; rfl
        refine pure_ (i := 22) (N := some 58) (v := ?_) (a' := ?_) #[yy, yy, nn, nn, nn, nn, yy, nn, nn, nn, yy, nn, nn, nn, yy, nn, nn, nn, yy, nn, nn, nn, yy, nn, nn, nn, nn, nn, nn, nn, nn, nn, nn, nn, nn, nn, nn, nn, nn, nn, nn, nn, nn] rfl rfl (any_of HT_.out (by kernel_rfl)) (fun _ _ _ h => h) (Or.inl ⟨by rfl, ?_⟩) ?_ ?_
        rotate_left
        · intro w'; go_simp; with_reducible rfl
        rotate_left
        · simp only [Act.put, List.setIfInBounds_toArray, List.set_cons_zero, List.set_cons_succ, i64_w, i32_w]; rfl
        refine pure_ (i := 26) (N := some 62) (v := ?_) (a' := ?_) #[yy, yy, nn, nn, nn, nn, yy, nn, nn, nn, yy, nn, nn, nn, yy, nn, nn, nn, yy, nn, nn, nn, yy, nn, nn, nn, yy, nn, nn, nn, nn, nn, nn, nn, nn, nn, nn, nn, nn, nn, nn, nn, nn] rfl rfl (any_of HT_.out (by kernel_rfl)) (fun _ _ _ h => h) (Or.inl ⟨by rfl, ?_⟩) ?_ ?_
        rotate_left
        · intro w'; go_simp; with_reducible rfl
        rotate_left
        · simp only [Act.put, List.setIfInBounds_toArray, List.set_cons_zero, List.set_cons_succ, i64_w, i32_w]; rfl
        refine pure_ (i := 31) (N := some 67) (v := ?_) (a' := ?_) #[yy, yy, nn, nn, nn, nn, yy, nn, nn, nn, yy, nn, nn, nn, yy, nn, nn, nn, yy, nn, nn, nn, yy, nn, nn, nn, yy, nn, nn, nn, nn, yy, nn, nn, nn, nn, nn, nn, nn, nn, nn, nn, nn] rfl rfl (any_of HT_.out (by kernel_rfl)) (fun _ _ _ h => h) (Or.inl ⟨by rfl, ?_⟩) ?_ ?_
        rotate_left
        · intro w'; go_simp; with_reducible rfl
        rotate_left
        · simp only [Act.put, List.setIfInBounds_toArray, List.set_cons_zero, List.set_cons_succ, i64_w, i32_w]; rfl
        refine pure_ (i := 36) (N := some 72) (v := ?_) (a' := ?_) #[yy, yy, nn, nn, nn, nn, yy, nn, nn, nn, yy, nn, nn, nn, yy, nn, nn, nn, yy, nn, nn, nn, yy, nn, nn, nn, yy, nn, nn, nn, nn, yy, nn, nn, nn, nn, yy, nn, nn, nn, nn, nn, nn] rfl rfl (any_of HT_.out (by kernel_rfl)) (fun _ _ _ h => h) (Or.inl ⟨by rfl, ?_⟩) ?_ ?_
        rotate_left
        · intro w'; go_simp; with_reducible rfl
        rotate_left
        · simp only [Act.put, List.setIfInBounds_toArray, List.set_cons_zero, List.set_cons_succ, i64_w, i32_w]; rfl
        refine take_ (i := 2) (N := some 38) (v := ?_) (a' := ?_) #[yy, yy, yy, nn, nn, nn, yy, nn, nn, nn, yy, nn, nn, nn, yy, nn, nn, nn, yy, nn, nn, nn, yy, nn, nn, nn, yy, nn, nn, nn, nn, yy, nn, nn, nn, nn, yy, nn, nn, nn, nn, nn, nn] rfl rfl (take_ofW HT_.out HW_.out (by kernel_rfl)) (fun _ _ _ h => h) (Or.inl ⟨by rfl, ?_⟩) hHeld ?_ ?_
        rotate_left
        · intro w' hs; have s0 := hs.cell 0 (.int .i64 k) rfl; go_simp; with_reducible rfl
        rotate_left
        · simp only [Act.put, List.setIfInBounds_toArray, List.set_cons_zero, List.set_cons_succ, i64_w, i32_w]; rfl
        refine pure_ (i := 3) (N := some 39) (v := ?_) (a' := ?_) #[yy, yy, yy, yy, nn, nn, yy, nn, nn, nn, yy, nn, nn, nn, yy, nn, nn, nn, yy, nn, nn, nn, yy, nn, nn, nn, yy, nn, nn, nn, nn, yy, nn, nn, nn, nn, yy, nn, nn, nn, nn, nn, nn] rfl rfl (any_of HT_.out (by kernel_rfl)) (fun _ _ _ h => h) (Or.inl ⟨by rfl, ?_⟩) ?_ ?_
        rotate_left
        · intro w'; go_simp; with_reducible rfl
        rotate_left
        · simp only [Act.put, List.setIfInBounds_toArray, List.set_cons_zero, List.set_cons_succ, i64_w, i32_w]; rfl
        refine take_ (i := 7) (N := some 43) (v := ?_) (a' := ?_) #[yy, yy, yy, yy, nn, nn, yy, yy, nn, nn, yy, nn, nn, nn, yy, nn, nn, nn, yy, nn, nn, nn, yy, nn, nn, nn, yy, nn, nn, nn, nn, yy, nn, nn, nn, nn, yy, nn, nn, nn, nn, nn, nn] rfl rfl (take_ofW HT_.out HW_.out (by kernel_rfl)) (fun _ _ _ h => h) (Or.inl ⟨by rfl, ?_⟩) hHeld ?_ ?_
        rotate_left
        · intro w' hs; have s1 := hs.cell 1 (.int .u32 bc) rfl; have s2 := hs.cell 2 (.int .u32 bn) rfl; go_simp; with_reducible rfl
        rotate_left
        · simp only [Act.put, List.setIfInBounds_toArray, List.set_cons_zero, List.set_cons_succ, i64_w, i32_w]; rfl
        refine take_ (i := 11) (N := some 47) (v := ?_) (a' := ?_) #[yy, yy, yy, yy, nn, nn, yy, yy, nn, nn, yy, yy, nn, nn, yy, nn, nn, nn, yy, nn, nn, nn, yy, nn, nn, nn, yy, nn, nn, nn, nn, yy, nn, nn, nn, nn, yy, nn, nn, nn, nn, nn, nn] rfl rfl (take_ofW HT_.out HW_.out (by kernel_rfl)) (fun _ _ _ h => h) (Or.inl ⟨by rfl, ?_⟩) hHeld ?_ ?_
        rotate_left
        · intro w' hs; have s3 := hs.cell 3 (.int .u64 sp) rfl; have s4 := hs.cell 4 (.int .u32 sl) rfl; go_simp; with_reducible rfl
        rotate_left
        · simp only [Act.put, List.setIfInBounds_toArray, List.set_cons_zero, List.set_cons_succ, i64_w, i32_w]; rfl
        refine take_ (i := 15) (N := some 51) (v := ?_) (a' := ?_) #[yy, yy, yy, yy, nn, nn, yy, yy, nn, nn, yy, yy, nn, nn, yy, yy, nn, nn, yy, nn, nn, nn, yy, nn, nn, nn, yy, nn, nn, nn, nn, yy, nn, nn, nn, nn, yy, nn, nn, nn, nn, nn, nn] rfl rfl (take_ofW HT_.out HW_.out (by kernel_rfl)) (fun _ _ _ h => h) (Or.inl ⟨by rfl, ?_⟩) hHeld ?_ ?_
        rotate_left
        · intro w' hs; have s5 := hs.cell 5 (.int .u64 ap) rfl; have s6 := hs.cell 6 (.int .u32 al) rfl; go_simp; with_reducible rfl
        rotate_left
        · simp only [Act.put, List.setIfInBounds_toArray, List.set_cons_zero, List.set_cons_succ, i64_w, i32_w]; rfl
        refine take_ (i := 19) (N := some 55) (v := ?_) (a' := ?_) #[yy, yy, yy, yy, nn, nn, yy, yy, nn, nn, yy, yy, nn, nn, yy, yy, nn, nn, yy, yy, nn, nn, yy, nn, nn, nn, yy, nn, nn, nn, nn, yy, nn, nn, nn, nn, yy, nn, nn, nn, nn, nn, nn] rfl rfl (take_ofW HT_.out HW_.out (by kernel_rfl)) (fun _ _ _ h => h) (Or.inl ⟨by rfl, ?_⟩) hHeld ?_ ?_
        rotate_left
        · intro w' hs; have s7 := hs.cell 7 (.string key) rfl; go_simp; with_reducible rfl
        rotate_left
        · simp only [Act.put, List.setIfInBounds_toArray, List.set_cons_zero, List.set_cons_succ, i64_w, i32_w]; rfl
        refine take_ (i := 23) (N := some 59) (v := ?_) (a' := ?_) #[yy, yy, yy, yy, nn, nn, yy, yy, nn, nn, yy, yy, nn, nn, yy, yy, nn, nn, yy, yy, nn, nn, yy, yy, nn, nn, yy, nn, nn, nn, nn, yy, nn, nn, nn, nn, yy, nn, nn, nn, nn, nn, nn] rfl rfl (take_ofW HT_.out HW_.out (by kernel_rfl)) (fun _ _ _ h => h) (Or.inl ⟨by rfl, ?_⟩) hHeld ?_ ?_
        rotate_left
        · intro w' hs; have s8 := hs.cell 8 (.string tt) rfl; go_simp; with_reducible rfl
        rotate_left
        · simp only [Act.put, List.setIfInBounds_toArray, List.set_cons_zero, List.set_cons_succ, i64_w, i32_w]; rfl
        refine take_ (i := 27) (N := some 63) (v := ?_) (a' := ?_) #[yy, yy, yy, yy, nn, nn, yy, yy, nn, nn, yy, yy, nn, nn, yy, yy, nn, nn, yy, yy, nn, nn, yy, yy, nn, nn, yy, yy, nn, nn, nn, yy, nn, nn, nn, nn, yy, nn, nn, nn, nn, nn, nn] rfl rfl (take_ofW HT_.out HW_.out (by kernel_rfl)) (fun _ _ _ h => h) (Or.inl ⟨by rfl, ?_⟩) hHeld ?_ ?_
        rotate_left
        · intro w' hs; have s9 := hs.cell 9 (.int .i64 lim) rfl; go_simp; with_reducible rfl
        rotate_left
        · simp only [Act.put, List.setIfInBounds_toArray, List.set_cons_zero, List.set_cons_succ, i64_w, i32_w]; rfl
        refine pure_ (i := 28) (N := some 64) (v := ?_) (a' := ?_) #[yy, yy, yy, yy, nn, nn, yy, yy, nn, nn, yy, yy, nn, nn, yy, yy, nn, nn, yy, yy, nn, nn, yy, yy, nn, nn, yy, yy, yy, nn, nn, yy, nn, nn, nn, nn, yy, nn, nn, nn, nn, nn, nn] rfl rfl (any_of HT_.out (by kernel_rfl)) (fun _ _ _ h => h) (Or.inl ⟨by rfl, ?_⟩) ?_ ?_
        rotate_left
        · intro w'; go_simp; with_reducible rfl
        rotate_left
        · simp only [Act.put, List.setIfInBounds_toArray, List.set_cons_zero, List.set_cons_succ, i64_w, i32_w]; rfl
        refine take_ (i := 32) (N := some 68) (v := ?_) (a' := ?_) #[yy, yy, yy, yy, nn, nn, yy, yy, nn, nn, yy, yy, nn, nn, yy, yy, nn, nn, yy, yy, nn, nn, yy, yy, nn, nn, yy, yy, yy, nn, nn, yy, yy, nn, nn, nn, yy, nn, nn, nn, nn, nn, nn] rfl rfl (take_ofW HT_.out HW_.out (by kernel_rfl)) (fun _ _ _ h => h) (Or.inl ⟨by rfl, ?_⟩) hHeld ?_ ?_
        rotate_left
        · intro w' hs; have s10 := hs.cell 10 (.int .u8 parts) rfl; go_simp; with_reducible rfl
        rotate_left
        · simp only [Act.put, List.setIfInBounds_toArray, List.set_cons_zero, List.set_cons_succ, i64_w, i32_w]; rfl
        refine pure_ (i := 33) (N := some 69) (v := ?_) (a' := ?_) #[yy, yy, yy, yy, nn, nn, yy, yy, nn, nn, yy, yy, nn, nn, yy, yy, nn, nn, yy, yy, nn, nn, yy, yy, nn, nn, yy, yy, yy, nn, nn, yy, yy, yy, nn, nn, yy, nn, nn, nn, nn, nn, nn] rfl rfl (any_of HT_.out (by kernel_rfl)) (fun _ _ _ h => h) (Or.inl ⟨by rfl, ?_⟩) ?_ ?_
        rotate_left
        · intro w'; go_simp; with_reducible rfl
        rotate_left
        · simp only [Act.put, List.setIfInBounds_toArray, List.set_cons_zero, List.set_cons_succ, i64_w, i32_w]; rfl
        refine take_ (i := 37) (N := some 73) (v := ?_) (a' := ?_) #[yy, yy, yy, yy, nn, nn, yy, yy, nn, nn, yy, yy, nn, nn, yy, yy, nn, nn, yy, yy, nn, nn, yy, yy, nn, nn, yy, yy, yy, nn, nn, yy, yy, yy, nn, nn, yy, yy, nn, nn, nn, nn, nn] rfl rfl (take_ofW HT_.out HW_.out (by kernel_rfl)) (fun _ _ _ h => h) (Or.inl ⟨by rfl, ?_⟩) hHeld ?_ ?_
        rotate_left
        · intro w' hs; have s11 := hs.cell 11 (.slice A1 ws.length c1) rfl; go_simp; with_reducible rfl
        rotate_left
        · simp only [Act.put, List.setIfInBounds_toArray, List.set_cons_zero, List.set_cons_succ, i64_w, i32_w]; rfl
        refine pure_ (i := 38) (N := some 74) (v := ?_) (a' := ?_) #[yy, yy, yy, yy, nn, nn, yy, yy, nn, nn, yy, yy, nn, nn, yy, yy, nn, nn, yy, yy, nn, nn, yy, yy, nn, nn, yy, yy, yy, nn, nn, yy, yy, yy, nn, nn, yy, yy, yy, nn, nn, nn, nn] rfl rfl (any_of HT_.out (by kernel_rfl)) (fun _ _ _ h => h) (Or.inl ⟨by rfl, ?_⟩) ?_ ?_
        rotate_left
        · intro w'; go_simp; with_reducible rfl
        rotate_left
        · simp only [Act.put, List.setIfInBounds_toArray, List.set_cons_zero, List.set_cons_succ, i64_w, i32_w]; rfl
        refine pure_ (i := 39) (N := some 75) (v := ?_) (a' := ?_) #[yy, yy, yy, yy, nn, nn, yy, yy, nn, nn, yy, yy, nn, nn, yy, yy, nn, nn, yy, yy, nn, nn, yy, yy, nn, nn, yy, yy, yy, nn, nn, yy, yy, yy, nn, nn, yy, yy, yy, yy, nn, nn, nn] rfl rfl (any_of HT_.out (by kernel_rfl)) (fun _ _ _ h => h) (Or.inl ⟨by rfl, ?_⟩) ?_ ?_
        rotate_left
        · intro w'; go_simp; with_reducible rfl
        rotate_left
        · simp only [Act.put, List.setIfInBounds_toArray, List.set_cons_zero, List.set_cons_succ, i64_w, i32_w]; rfl
        refine one_ (i := 4) (N := some 40) #[yy, yy, yy, yy, yy, nn, yy, yy, nn, nn, yy, yy, nn, nn, yy, yy, nn, nn, yy, yy, nn, nn, yy, yy, nn, nn, yy, yy, yy, nn, nn, yy, yy, yy, nn, nn, yy, yy, yy, yy, nn, nn, nn] rfl rfl (one_of HT_.out (by kernel_rfl)) (by decide) (fun K hK => ?_)
        refine goes_ Try.func19 (by kernel_rfl) rfl #[.int .u64 (IntKind.u64.wrap k)] (by rfl) rfl rfl (by (try simp only [List.map_toArray, List.map_cons, List.map_nil]); first | done | rfl) ?_
        with_reducible refine (P1.out _).mono ?_
        rintro e wb1 ⟨rfl, hb⟩
        refine ⟨_, rfl, ?_⟩
        have hh := St.go hHeld hb
        clear hHeld hb
        refine hK.out _ _ hh (fun hHeld => ?_)
        clear hK K hh
        refine norm_ (a' := ?_) ?_ ?_
        rotate_left
        · show Act.put _ (some 40) _ = _; simp only [Act.put, List.setIfInBounds_toArray, List.set_cons_zero, List.set_cons_succ, i64_w, i32_w]; rfl
        refine pure_ (i := 5) (N := some 41) (v := ?_) (a' := ?_) #[yy, yy, yy, yy, yy, yy, yy, yy, nn, nn, yy, yy, nn, nn, yy, yy, nn, nn, yy, yy, nn, nn, yy, yy, nn, nn, yy, yy, yy, nn, nn, yy, yy, yy, nn, nn, yy, yy, yy, yy, nn, nn, nn] rfl rfl (any_of HT_.out (by kernel_rfl)) (fun _ _ _ h => h) (Or.inl ⟨by rfl, ?_⟩) ?_ ?_
        rotate_left
        · intro w'; go_simp; with_reducible rfl
        rotate_left
        · simp only [Act.put, List.setIfInBounds_toArray, List.set_cons_zero, List.set_cons_succ, i64_w, i32_w]; rfl
        refine one_ (i := 8) (N := some 44) #[yy, yy, yy, yy, yy, yy, yy, yy, yy, nn, yy, yy, nn, nn, yy, yy, nn, nn, yy, yy, nn, nn, yy, yy, nn, nn, yy, yy, yy, nn, nn, yy, yy, yy, nn, nn, yy, yy, yy, yy, nn, nn, nn] rfl rfl (one_of HT_.out (by kernel_rfl)) (by decide) (fun K hK => ?_)
        refine goes_ Try.func21 (by kernel_rfl) rfl #[.agg #[.int .u32 bc, .int .u32 bn]] (by rfl) rfl rfl (by (try simp only [List.map_toArray, List.map_cons, List.map_nil]); first | done | rfl) ?_
        with_reducible refine (P2.out _).mono ?_
        rintro e wb2 ⟨rfl, hb⟩
        refine ⟨_, rfl, ?_⟩
        have hh := St.go hHeld hb
        clear hHeld hb
        refine hK.out _ _ hh (fun hHeld => ?_)
        clear hK K hh
        refine norm_ (a' := ?_) ?_ ?_
        rotate_left
        · show Act.put _ (some 44) _ = _; simp only [Act.put, List.setIfInBounds_toArray, List.set_cons_zero, List.set_cons_succ, i64_w, i32_w]; rfl
        refine pure_ (i := 9) (N := some 45) (v := ?_) (a' := ?_) #[yy, yy, yy, yy, yy, yy, yy, yy, yy, yy, yy, yy, nn, nn, yy, yy, nn, nn, yy, yy, nn, nn, yy, yy, nn, nn, yy, yy, yy, nn, nn, yy, yy, yy, nn, nn, yy, yy, yy, yy, nn, nn, nn] rfl rfl (any_of HT_.out (by kernel_rfl)) (fun _ _ _ h => h) (Or.inl ⟨by rfl, ?_⟩) ?_ ?_
        rotate_left
        · intro w'; go_simp; with_reducible rfl
        rotate_left
        · simp only [Act.put, List.setIfInBounds_toArray, List.set_cons_zero, List.set_cons_succ, i64_w, i32_w]; rfl
        refine one_ (i := 12) (N := some 48) #[yy, yy, yy, yy, yy, yy, yy, yy, yy, yy, yy, yy, yy, nn, yy, yy, nn, nn, yy, yy, nn, nn, yy, yy, nn, nn, yy, yy, yy, nn, nn, yy, yy, yy, nn, nn, yy, yy, yy, yy, nn, nn, nn] rfl rfl (one_of HT_.out (by kernel_rfl)) (by decide) (fun K hK => ?_)
        refine goes_ Try.func22 (by kernel_rfl) rfl #[.agg #[.int .u64 sp, .int .u32 sl]] (by rfl) rfl rfl (by (try simp only [List.map_toArray, List.map_cons, List.map_nil]); first | done | rfl) ?_
        with_reducible refine (P3.out _).mono ?_
        rintro e wb3 ⟨rfl, hb⟩
        refine ⟨_, rfl, ?_⟩
        have hh := St.go hHeld hb
        clear hHeld hb
        refine hK.out _ _ hh (fun hHeld => ?_)
        clear hK K hh
        refine norm_ (a' := ?_) ?_ ?_
        rotate_left
        · show Act.put _ (some 48) _ = _; simp only [Act.put, List.setIfInBounds_toArray, List.set_cons_zero, List.set_cons_succ, i64_w, i32_w]; rfl
        refine pure_ (i := 13) (N := some 49) (v := ?_) (a' := ?_) #[yy, yy, yy, yy, yy, yy, yy, yy, yy, yy, yy, yy, yy, yy, yy, yy, nn, nn, yy, yy, nn, nn, yy, yy, nn, nn, yy, yy, yy, nn, nn, yy, yy, yy, nn, nn, yy, yy, yy, yy, nn, nn, nn] rfl rfl (any_of HT_.out (by kernel_rfl)) (fun _ _ _ h => h) (Or.inl ⟨by rfl, ?_⟩) ?_ ?_
        rotate_left
        · intro w'; go_simp; with_reducible rfl
        rotate_left
        · simp only [Act.put, List.setIfInBounds_toArray, List.set_cons_zero, List.set_cons_succ, i64_w, i32_w]; rfl
        refine one_ (i := 16) (N := some 52) #[yy, yy, yy, yy, yy, yy, yy, yy, yy, yy, yy, yy, yy, yy, yy, yy, yy, nn, yy, yy, nn, nn, yy, yy, nn, nn, yy, yy, yy, nn, nn, yy, yy, yy, nn, nn, yy, yy, yy, yy, nn, nn, nn] rfl rfl (one_of HT_.out (by kernel_rfl)) (by decide) (fun K hK => ?_)
        refine goes_ Try.func22 (by kernel_rfl) rfl #[.agg #[.int .u64 ap, .int .u32 al]] (by rfl) rfl rfl (by (try simp only [List.map_toArray, List.map_cons, List.map_nil]); first | done | rfl) ?_
        with_reducible refine (P4.out _).mono ?_
        rintro e wb4 ⟨rfl, hb⟩
        refine ⟨_, rfl, ?_⟩
        have hh := St.go hHeld hb
        clear hHeld hb
        refine hK.out _ _ hh (fun hHeld => ?_)
        clear hK K hh
        refine norm_ (a' := ?_) ?_ ?_
        rotate_left
        · show Act.put _ (some 52) _ = _; simp only [Act.put, List.setIfInBounds_toArray, List.set_cons_zero, List.set_cons_succ, i64_w, i32_w]; rfl
        refine pure_ (i := 17) (N := some 53) (v := ?_) (a' := ?_) #[yy, yy, yy, yy, yy, yy, yy, yy, yy, yy, yy, yy, yy, yy, yy, yy, yy, yy, yy, yy, nn, nn, yy, yy, nn, nn, yy, yy, yy, nn, nn, yy, yy, yy, nn, nn, yy, yy, yy, yy, nn, nn, nn] rfl rfl (any_of HT_.out (by kernel_rfl)) (fun _ _ _ h => h) (Or.inl ⟨by rfl, ?_⟩) ?_ ?_
        rotate_left
        · intro w'; go_simp; with_reducible rfl
        rotate_left
        · simp only [Act.put, List.setIfInBounds_toArray, List.set_cons_zero, List.set_cons_succ, i64_w, i32_w]; rfl
        refine one_ (i := 20) (N := some 56) #[yy, yy, yy, yy, yy, yy, yy, yy, yy, yy, yy, yy, yy, yy, yy, yy, yy, yy, yy, yy, yy, nn, yy, yy, nn, nn, yy, yy, yy, nn, nn, yy, yy, yy, nn, nn, yy, yy, yy, yy, nn, nn, nn] rfl rfl (one_of HT_.out (by kernel_rfl)) (by decide) (fun K hK => ?_)
        refine goes_ Try.func23 (by kernel_rfl) rfl #[.string key] (by rfl) rfl rfl (by (try simp only [List.map_toArray, List.map_cons, List.map_nil]); first | done | rfl) ?_
        with_reducible refine (P5.out _).mono ?_
        rintro e wb5 ⟨rfl, hb⟩
        refine ⟨_, rfl, ?_⟩
        have hh := St.go hHeld hb
        clear hHeld hb
        refine hK.out _ _ hh (fun hHeld => ?_)
        clear hK K hh
        refine norm_ (a' := ?_) ?_ ?_
        rotate_left
        · show Act.put _ (some 56) _ = _; simp only [Act.put, List.setIfInBounds_toArray, List.set_cons_zero, List.set_cons_succ, i64_w, i32_w]; rfl
        refine pure_ (i := 21) (N := some 57) (v := ?_) (a' := ?_) #[yy, yy, yy, yy, yy, yy, yy, yy, yy, yy, yy, yy, yy, yy, yy, yy, yy, yy, yy, yy, yy, yy, yy, yy, nn, nn, yy, yy, yy, nn, nn, yy, yy, yy, nn, nn, yy, yy, yy, yy, nn, nn, nn] rfl rfl (any_of HT_.out (by kernel_rfl)) (fun _ _ _ h => h) (Or.inl ⟨by rfl, ?_⟩) ?_ ?_
        rotate_left
        · intro w'; go_simp; with_reducible rfl
        rotate_left
        · simp only [Act.put, List.setIfInBounds_toArray, List.set_cons_zero, List.set_cons_succ, i64_w, i32_w]; rfl
        refine one_ (i := 24) (N := some 60) #[yy, yy, yy, yy, yy, yy, yy, yy, yy, yy, yy, yy, yy, yy, yy, yy, yy, yy, yy, yy, yy, yy, yy, yy, yy, nn, yy, yy, yy, nn, nn, yy, yy, yy, nn, nn, yy, yy, yy, yy, nn, nn, nn] rfl rfl (one_of HT_.out (by kernel_rfl)) (by decide) (fun K hK => ?_)
        refine goes_ Try.func23 (by kernel_rfl) rfl #[.string tt] (by rfl) rfl rfl (by (try simp only [List.map_toArray, List.map_cons, List.map_nil]); first | done | rfl) ?_
        with_reducible refine (P6.out _).mono ?_
        rintro e wb6 ⟨rfl, hb⟩
        refine ⟨_, rfl, ?_⟩
        have hh := St.go hHeld hb
        clear hHeld hb
        refine hK.out _ _ hh (fun hHeld => ?_)
        clear hK K hh
        refine norm_ (a' := ?_) ?_ ?_
        rotate_left
        · show Act.put _ (some 60) _ = _; simp only [Act.put, List.setIfInBounds_toArray, List.set_cons_zero, List.set_cons_succ, i64_w, i32_w]; rfl
        refine pure_ (i := 25) (N := some 61) (v := ?_) (a' := ?_) #[yy, yy, yy, yy, yy, yy, yy, yy, yy, yy, yy, yy, yy, yy, yy, yy, yy, yy, yy, yy, yy, yy, yy, yy, yy, yy, yy, yy, yy, nn, nn, yy, yy, yy, nn, nn, yy, yy, yy, yy, nn, nn, nn] rfl rfl (any_of HT_.out (by kernel_rfl)) (fun _ _ _ h => h) (Or.inl ⟨by rfl, ?_⟩) ?_ ?_
        rotate_left
        · intro w'; go_simp; with_reducible rfl
        rotate_left
        · simp only [Act.put, List.setIfInBounds_toArray, List.set_cons_zero, List.set_cons_succ, i64_w, i32_w]; rfl
        refine one_ (i := 29) (N := some 65) #[yy, yy, yy, yy, yy, yy, yy, yy, yy, yy, yy, yy, yy, yy, yy, yy, yy, yy, yy, yy, yy, yy, yy, yy, yy, yy, yy, yy, yy, yy, nn, yy, yy, yy, nn, nn, yy, yy, yy, yy, nn, nn, nn] rfl rfl (one_of HT_.out (by kernel_rfl)) (by decide) (fun K hK => ?_)
        refine goes_ Try.func19 (by kernel_rfl) rfl #[.int .u64 (IntKind.u64.wrap lim)] (by rfl) rfl rfl (by (try simp only [List.map_toArray, List.map_cons, List.map_nil]); first | done | rfl) ?_
        with_reducible refine (P7.out _).mono ?_
        rintro e wb7 ⟨rfl, hb⟩
        refine ⟨_, rfl, ?_⟩
        have hh := St.go hHeld hb
        clear hHeld hb
        refine hK.out _ _ hh (fun hHeld => ?_)
        clear hK K hh
        refine norm_ (a' := ?_) ?_ ?_
        rotate_left
        · show Act.put _ (some 65) _ = _; simp only [Act.put, List.setIfInBounds_toArray, List.set_cons_zero, List.set_cons_succ, i64_w, i32_w]; rfl
        refine pure_ (i := 30) (N := some 66) (v := ?_) (a' := ?_) #[yy, yy, yy, yy, yy, yy, yy, yy, yy, yy, yy, yy, yy, yy, yy, yy, yy, yy, yy, yy, yy, yy, yy, yy, yy, yy, yy, yy, yy, yy, yy, yy, yy, yy, nn, nn, yy, yy, yy, yy, nn, nn, nn] rfl rfl (any_of HT_.out (by kernel_rfl)) (fun _ _ _ h => h) (Or.inl ⟨by rfl, ?_⟩) ?_ ?_
        rotate_left
        · intro w'; go_simp; with_reducible rfl
        rotate_left
        · simp only [Act.put, List.setIfInBounds_toArray, List.set_cons_zero, List.set_cons_succ, i64_w, i32_w]; rfl
        refine one_ (i := 34) (N := some 70) #[yy, yy, yy, yy, yy, yy, yy, yy, yy, yy, yy, yy, yy, yy, yy, yy, yy, yy, yy, yy, yy, yy, yy, yy, yy, yy, yy, yy, yy, yy, yy, yy, yy, yy, yy, nn, yy, yy, yy, yy, nn, nn, nn] rfl rfl (one_of HT_.out (by kernel_rfl)) (by decide) (fun K hK => ?_)
        refine goes_ Try.func19 (by kernel_rfl) rfl #[.int .u64 (IntKind.u64.wrap parts)] (by rfl) rfl rfl (by (try simp only [List.map_toArray, List.map_cons, List.map_nil]); first | done | rfl) ?_
        with_reducible refine (P8.out _).mono ?_
        rintro e wb8 ⟨rfl, hb⟩
        refine ⟨_, rfl, ?_⟩
        have hh := St.go hHeld hb
        clear hHeld hb
        refine hK.out _ _ hh (fun hHeld => ?_)
        clear hK K hh
        refine norm_ (a' := ?_) ?_ ?_
        rotate_left
        · show Act.put _ (some 70) _ = _; simp only [Act.put, List.setIfInBounds_toArray, List.set_cons_zero, List.set_cons_succ, i64_w, i32_w]; rfl
        refine pure_ (i := 35) (N := some 71) (v := ?_) (a' := ?_) #[yy, yy, yy, yy, yy, yy, yy, yy, yy, yy, yy, yy, yy, yy, yy, yy, yy, yy, yy, yy, yy, yy, yy, yy, yy, yy, yy, yy, yy, yy, yy, yy, yy, yy, yy, yy, yy, yy, yy, yy, nn, nn, nn] rfl rfl (any_of HT_.out (by kernel_rfl)) (fun _ _ _ h => h) (Or.inl ⟨by rfl, ?_⟩) ?_ ?_
        rotate_left
        · intro w'; go_simp; with_reducible rfl
        rotate_left
        · simp only [Act.put, List.setIfInBounds_toArray, List.set_cons_zero, List.set_cons_succ, i64_w, i32_w]; rfl
        refine one_ (i := 40) (N := some 76) #[yy, yy, yy, yy, yy, yy, yy, yy, yy, yy, yy, yy, yy, yy, yy, yy, yy, yy, yy, yy, yy, yy, yy, yy, yy, yy, yy, yy, yy, yy, yy, yy, yy, yy, yy, yy, yy, yy, yy, yy, yy, nn, nn] rfl rfl (one_of HT_.out (by kernel_rfl)) (by decide) (fun K hK => ?_)
        refine goes_ Try.func19 (by kernel_rfl) rfl #[.int .u64 (IntKind.u64.wrap (ws.length : Int))] (by rfl) rfl rfl (by (try simp only [List.map_toArray, List.map_cons, List.map_nil]); first | done | rfl) ?_
        with_reducible refine (P9.out _).mono ?_
        rintro e wb9 ⟨rfl, hb⟩
        refine ⟨_, rfl, ?_⟩
        have hh := St.go hHeld hb
        clear hHeld hb
        refine hK.out _ _ hh (fun hHeld => ?_)
        clear hK K hh
        refine norm_ (a' := ?_) ?_ ?_
        rotate_left
        · show Act.put _ (some 76) _ = _; simp only [Act.put, List.setIfInBounds_toArray, List.set_cons_zero, List.set_cons_succ, i64_w, i32_w]; rfl
        refine pure_ (i := 41) (N := some 77) (v := ?_) (a' := ?_) #[yy, yy, yy, yy, yy, yy, yy, yy, yy, yy, yy, yy, yy, yy, yy, yy, yy, yy, yy, yy, yy, yy, yy, yy, yy, yy, yy, yy, yy, yy, yy, yy, yy, yy, yy, yy, yy, yy, yy, yy, yy, yy, nn] rfl rfl (any_of HT_.out (by kernel_rfl)) (fun _ _ _ h => h) (Or.inl ⟨by rfl, ?_⟩) ?_ ?_
        rotate_left
        · intro w'; go_simp; with_reducible rfl
        rotate_left
        · simp only [Act.put, List.setIfInBounds_toArray, List.set_cons_zero, List.set_cons_succ, i64_w, i32_w]; rfl
        refine pure_ (i := 42) (N := some 4) (v := ?_) (a' := ?_) #[yy, yy, yy, yy, yy, yy, yy, yy, yy, yy, yy, yy, yy, yy, yy, yy, yy, yy, yy, yy, yy, yy, yy, yy, yy, yy, yy, yy, yy, yy, yy, yy, yy, yy, yy, yy, yy, yy, yy, yy, yy, yy, yy] rfl rfl (any_of HT_.out (by kernel_rfl)) (fun _ _ _ h => h) (Or.inl ⟨by rfl, ?_⟩) ?_ ?_
        rotate_left
        · intro w'; go_simp; with_reducible rfl
        rotate_left
        · simp only [Act.put, List.setIfInBounds_toArray, List.set_cons_zero, List.set_cons_succ, i64_w, i32_w]; rfl
        refine done_ (done_of HT_.out (by kernel_rfl)) ?_
        have HS := Lib.hid hHeld
        clear hHeld HT_ HW_
        obtain ⟨m2, hm2⟩ : ∃ m2, m2 = m ++ u1 ++ u2 ++ u3 ++ u4 ++ u5 ++ u6 ++ u7 ++ u8 ++ u9 := ⟨_, rfl⟩
        have zm2 : m2.size ≤ 300 := by rw [hm2]; simp only [ByteArray.size_append]; omega
        rw [← hm2]
        have HM2 := Lib.hid hm2
        clear hm2 ca0 cb0 cc0 ca1 cb1 cc1 ca2 cb2 cc2 ca3 cb3 cc3 ca4 cb4 cc4 ca5 cb5 cc5 ca6 cb6 cc6 ca7 cb7 cc7 ca8 cb8 cc8 z1 z2 z3 z4 z5 z6 z7 z8 z9 P1 P2 P3 P4 P5 P6 P7 P8 P9
        go_wp2_with fail
        go_loopg [4, 6] (ws.length + 1) (fun gk v4 v6 wr => ∃ i : Nat, i ≤ ws.length ∧ v4 = .string (m2 ++ encs encW (ws.take i)) ∧ v6 = .int .i64 (i : Int) ∧ Aside0 (i + gk = ws.length + 1) ∧ Aside0 (St w wa4.heap.size #[.int .i64 k, .int .u32 bc, .int .u32 bn, .int .u64 sp, .int .u32 sl, .int .u64 ap, .int .u32 al, .string key, .string tt, .int .i64 lim, .int .u8 parts, .slice A1 ws.length c1, .slice A2 sk.length c2] 31 wr))
        case atStart => exact ⟨0, Nat.zero_le _, by simp [encs], rfl, ⟨by omega⟩, ⟨HS.out⟩⟩
        case round =>
          obtain ⟨i, hi, rfl, rfl, ⟨hg⟩, ⟨hSt⟩⟩ := hrel
          have HG := Lib.hid hg
          have HS := Lib.hid hSt
          clear hg hSt
          have hsz : (encs encW (ws.take i)).size ≤ 5000 := by
            have h1 := encs_size encW 307 (ws.take i) (fun x hx => encW_size x (HWX.out x (List.mem_of_mem_take hx)))
            have h2 : (ws.take i).length ≤ 16 := by rw [List.length_take]; omega
            have h3 : (ws.take i).length * 307 ≤ 16 * 307 := Nat.mul_le_mul_right _ h2
            omega
          have hlx := lt_at HS.out.2
          have d11 := HS.out.cell 11 (.slice A1 ws.length c1) rfl
          have d12 := HS.out.cell 12 (.slice A2 sk.length c2) rfl
          rcases (show i < ws.length ∨ i = ws.length by omega) with hlt | rfl
          · as_aux_lemma =>
            obtain ⟨ad, rfl, k0, k1, k2⟩ := at_T66 H1.out (i : Int) (by omega) (by omega)
            rw [Int.toNat_natCast] at k0 k1 k2
            have HE3 : Hid (rd_T66 ws (i : Int) = ws[i]) := Lib.hid (by
              unfold rd_T66
              rw [List.getD_eq_getElem?_getD, Int.toNat_natCast, List.getElem?_eq_getElem hlt]
              rfl)
            have hx := HWX.out ws[i] (List.getElem_mem hlt)
            rw [← HE3.out] at hx
            generalize rd_T66 ws (i : Int) = x at *
            obtain ⟨x0, x1, x2⟩ := x
            obtain ⟨hx0, hx1⟩ := hx
            dsimp only at *
            obtain ⟨v1, e1, z1, X1⟩ := text_pack x0 32 hx0 (by decide)
            obtain ⟨v2, e2, z2, X2⟩ := flag_pack x2
            obtain ⟨v3, e3, z3, X3⟩ := text_pack x1 256 hx1 (by decide)
            obtain ⟨s, hs⟩ : ∃ s, s = m2 ++ encs encW (ws.take i) := ⟨_, rfl⟩
            have zs : s.size ≤ 6000 := by rw [hs, ByteArray.size_append]; omega
            rw [← hs]
            have HSTR : Hid (s ++ v1 ++ v2 ++ v3 = m2 ++ encs encW (ws.take (i + 1))) := Lib.hid (by
              rw [encs_take encW ws i hlt, ← HE3.out, hs, ← e1, ← e2, ← e3]
              simp only [encW, ByteArray.append_assoc])
            clear e1 e2 e3 hs HE3 HE HE2 HM HM2 HWX HSX hx0 hx1 hsz
            obtain ⟨ca0, cb0, cc0⟩ := cat3 (show s.size + v1.size ≤ 9223372036854775807 by omega)
            obtain ⟨ca1, cb1, cc1⟩ := cat3 (show s.size + v1.size + v2.size ≤ 9223372036854775807 by omega)
            obtain ⟨ca2, cb2, cc2⟩ := cat3 (show s.size + v1.size + v2.size + v3.size ≤ 9223372036854775807 by omega)
            have hi0 : (0 : Int) ≤ (i : Int) := by omega
            have hi1 : (i : Int) < (ws.length : Int) := by omega
            go_wp2_with fail
            refine start_ (n := 26) (S := St w wa4.heap.size #[.int .i64 k, .int .u32 bc, .int .u32 bn, .int .u64 sp, .int .u32 sl, .int .u64 ap, .int .u32 al, .string key, .string tt, .int .i64 lim, .int .u8 parts, .slice (some ad) ws.length c1, .slice A2 sk.length c2] 31) (ds := []) #[nn, nn, nn, nn, nn, nn, nn, nn, nn, nn, nn, nn, nn, nn, nn, nn, nn, nn, nn, nn, nn, nn, nn, nn, nn, nn] (by kernel_rfl) rfl rfl (St.drew HS.out) (fun hHeld => ?_); refine with_tabW wtab10 wbits10 (fun HT_ HW_ => ?_)
            clear HS
            refine pure_ (i := 0) (N := some 85) (v := ?_) (a' := ?_) #[yy, nn, nn, nn, nn, nn, nn, nn, nn, nn, nn, nn, nn, nn, nn, nn, nn, nn, nn, nn, nn, nn, nn, nn, nn, nn] rfl rfl (any_of HT_.out (by kernel_rfl)) (fun _ _ _ h => h) (Or.inl ⟨by rfl, ?_⟩) ?_ ?_
            rotate_left
            · intro w'; go_simp; with_reducible rfl
            rotate_left
            · simp only [Act.put, List.setIfInBounds_toArray, List.set_cons_zero, List.set_cons_succ, i64_w, i32_w]; rfl
            refine pure_ (i := 1) (N := some 86) (v := ?_) (a' := ?_) #[yy, yy, nn, nn, nn, nn, nn, nn, nn, nn, nn, nn, nn, nn, nn, nn, nn, nn, nn, nn, nn, nn, nn, nn, nn, nn] rfl rfl (any_of HT_.out (by kernel_rfl)) (fun _ _ _ h => h) (Or.inl ⟨by rfl, ?_⟩) ?_ ?_
            rotate_left
            · intro w'; go_simp; with_reducible rfl
            rotate_left
            · simp only [Act.put, List.setIfInBounds_toArray, List.set_cons_zero, List.set_cons_succ, i64_w, i32_w]; rfl
            refine pure_ (i := 3) (N := some 88) (v := ?_) (a' := ?_) #[yy, yy, nn, yy, nn, nn, nn, nn, nn, nn, nn, nn, nn, nn, nn, nn, nn, nn, nn, nn, nn, nn, nn, nn, nn, nn] rfl rfl (any_of HT_.out (by kernel_rfl)) (fun _ _ _ h => h) (Or.inl ⟨by rfl, ?_⟩) ?_ ?_
            rotate_left
            · intro w'; go_simp; with_reducible rfl
            rotate_left
            · simp only [Act.put, List.setIfInBounds_toArray, List.set_cons_zero, List.set_cons_succ, i64_w, i32_w]; rfl
            refine pure_ (i := 9) (N := some 94) (v := ?_) (a' := ?_) #[yy, yy, nn, yy, nn, nn, nn, nn, nn, yy, nn, nn, nn, nn, nn, nn, nn, nn, nn, nn, nn, nn, nn, nn, nn, nn] rfl rfl (any_of HT_.out (by kernel_rfl)) (fun _ _ _ h => h) (Or.inl ⟨by rfl, ?_⟩) ?_ ?_
            rotate_left
            · intro w'; go_simp; with_reducible rfl
            rotate_left
            · simp only [Act.put, List.setIfInBounds_toArray, List.set_cons_zero, List.set_cons_succ, i64_w, i32_w]; rfl
            refine pure_ (i := 11) (N := some 96) (v := ?_) (a' := ?_) #[yy, yy, nn, yy, nn, nn, nn, nn, nn, yy, nn, yy, nn, nn, nn, nn, nn, nn, nn, nn, nn, nn, nn, nn, nn, nn] rfl rfl (any_of HT_.out (by kernel_rfl)) (fun _ _ _ h => h) (Or.inl ⟨by rfl, ?_⟩) ?_ ?_
            rotate_left
            · intro w'; go_simp; with_reducible rfl
            rotate_left
            · simp only [Act.put, List.setIfInBounds_toArray, List.set_cons_zero, List.set_cons_succ, i64_w, i32_w]; rfl
            refine pure_ (i := 17) (N := some 102) (v := ?_) (a' := ?_) #[yy, yy, nn, yy, nn, nn, nn, nn, nn, yy, nn, yy, nn, nn, nn, nn, nn, yy, nn, nn, nn, nn, nn, nn, nn, nn] rfl rfl (any_of HT_.out (by kernel_rfl)) (fun _ _ _ h => h) (Or.inl ⟨by rfl, ?_⟩) ?_ ?_
            rotate_left
            · intro w'; go_simp; with_reducible rfl
            rotate_left
            · simp only [Act.put, List.setIfInBounds_toArray, List.set_cons_zero, List.set_cons_succ, i64_w, i32_w]; rfl
            refine pure_ (i := 19) (N := some 104) (v := ?_) (a' := ?_) #[yy, yy, nn, yy, nn, nn, nn, nn, nn, yy, nn, yy, nn, nn, nn, nn, nn, yy, nn, yy, nn, nn, nn, nn, nn, nn] rfl rfl (any_of HT_.out (by kernel_rfl)) (fun _ _ _ h => h) (Or.inl ⟨by rfl, ?_⟩) ?_ ?_
            rotate_left
            · intro w'; go_simp; with_reducible rfl
            rotate_left
            · simp only [Act.put, List.setIfInBounds_toArray, List.set_cons_zero, List.set_cons_succ, i64_w, i32_w]; rfl
            refine take_ (i := 2) (N := some 87) (v := ?_) (a' := ?_) #[yy, yy, yy, yy, nn, nn, nn, nn, nn, yy, nn, yy, nn, nn, nn, nn, nn, yy, nn, yy, nn, nn, nn, nn, nn, nn] rfl rfl (take_ofW HT_.out HW_.out (by kernel_rfl)) (fun _ _ _ h => h) (Or.inl ⟨by rfl, ?_⟩) hHeld ?_ ?_
            rotate_left
            · intro w' hs; have s11 := hs.cell 11 (.slice (some ad) ws.length c1) rfl; go_simp; with_reducible rfl
            rotate_left
            · simp only [Act.put, List.setIfInBounds_toArray, List.set_cons_zero, List.set_cons_succ, i64_w, i32_w]; rfl
            refine pure_ (i := 4) (N := some 89) (v := ?_) (a' := ?_) #[yy, yy, yy, yy, yy, nn, nn, nn, nn, yy, nn, yy, nn, nn, nn, nn, nn, yy, nn, yy, nn, nn, nn, nn, nn, nn] rfl rfl (any_of HT_.out (by kernel_rfl)) (fun _ _ _ h => h) (Or.inl ⟨by rfl, ?_⟩) ?_ ?_
            rotate_left
            · intro w'; go_simp; with_reducible rfl
            rotate_left
            · simp only [Act.put, List.setIfInBounds_toArray, List.set_cons_zero, List.set_cons_succ, i64_w, i32_w]; rfl
            refine pure_ (i := 5) (N := some 90) (v := ?_) (a' := ?_) #[yy, yy, yy, yy, yy, yy, nn, nn, nn, yy, nn, yy, nn, nn, nn, nn, nn, yy, nn, yy, nn, nn, nn, nn, nn, nn] rfl rfl (any_of HT_.out (by kernel_rfl)) (fun _ _ _ h => h) (Or.inl ⟨by rfl, ?_⟩) ?_ ?_
            rotate_left
            · intro w'; go_simp; with_reducible rfl
            rotate_left
            · simp only [Act.put, List.setIfInBounds_toArray, List.set_cons_zero, List.set_cons_succ, i64_w, i32_w]; rfl
            refine take_ (i := 6) (N := some 91) (v := ?_) (a' := ?_) #[yy, yy, yy, yy, yy, yy, yy, nn, nn, yy, nn, yy, nn, nn, nn, nn, nn, yy, nn, yy, nn, nn, nn, nn, nn, nn] rfl rfl (take_ofW HT_.out HW_.out (by kernel_rfl)) (fun _ _ _ h => h) (Or.inl ⟨by rfl, ?_⟩) hHeld ?_ ?_
            rotate_left
            · intro w' hs; have s0 := hs.old k0; go_simp; with_reducible rfl
            rotate_left
            · simp only [Act.put, List.setIfInBounds_toArray, List.set_cons_zero, List.set_cons_succ, i64_w, i32_w]; rfl
            refine take_ (i := 10) (N := some 95) (v := ?_) (a' := ?_) #[yy, yy, yy, yy, yy, yy, yy, nn, nn, yy, yy, yy, nn, nn, nn, nn, nn, yy, nn, yy, nn, nn, nn, nn, nn, nn] rfl rfl (take_ofW HT_.out HW_.out (by kernel_rfl)) (fun _ _ _ h => h) (Or.inl ⟨by rfl, ?_⟩) hHeld ?_ ?_
            rotate_left
            · intro w' hs; have s11 := hs.cell 11 (.slice (some ad) ws.length c1) rfl; go_simp; with_reducible rfl
            rotate_left
            · simp only [Act.put, List.setIfInBounds_toArray, List.set_cons_zero, List.set_cons_succ, i64_w, i32_w]; rfl
            refine pure_ (i := 12) (N := some 97) (v := ?_) (a' := ?_) #[yy, yy, yy, yy, yy, yy, yy, nn, nn, yy, yy, yy, yy, nn, nn, nn, nn, yy, nn, yy, nn, nn, nn, nn, nn, nn] rfl rfl (any_of HT_.out (by kernel_rfl)) (fun _ _ _ h => h) (Or.inl ⟨by rfl, ?_⟩) ?_ ?_
            rotate_left
            · intro w'; go_simp; with_reducible rfl
            rotate_left
            · simp only [Act.put, List.setIfInBounds_toArray, List.set_cons_zero, List.set_cons_succ, i64_w, i32_w]; rfl
            refine pure_ (i := 13) (N := some 98) (v := ?_) (a' := ?_) #[yy, yy, yy, yy, yy, yy, yy, nn, nn, yy, yy, yy, yy, yy, nn, nn, nn, yy, nn, yy, nn, nn, nn, nn, nn, nn] rfl rfl (any_of HT_.out (by kernel_rfl)) (fun _ _ _ h => h) (Or.inl ⟨by rfl, ?_⟩) ?_ ?_
            rotate_left
            · intro w'; go_simp; with_reducible rfl
            rotate_left
            · simp only [Act.put, List.setIfInBounds_toArray, List.set_cons_zero, List.set_cons_succ, i64_w, i32_w]; rfl
            refine take_ (i := 14) (N := some 99) (v := ?_) (a' := ?_) #[yy, yy, yy, yy, yy, yy, yy, nn, nn, yy, yy, yy, yy, yy, yy, nn, nn, yy, nn, yy, nn, nn, nn, nn, nn, nn] rfl rfl (take_ofW HT_.out HW_.out (by kernel_rfl)) (fun _ _ _ h => h) (Or.inl ⟨by rfl, ?_⟩) hHeld ?_ ?_
            rotate_left
            · intro w' hs; have s0 := hs.old k2; go_simp; with_reducible rfl
            rotate_left
            · simp only [Act.put, List.setIfInBounds_toArray, List.set_cons_zero, List.set_cons_succ, i64_w, i32_w]; rfl
            refine take_ (i := 18) (N := some 103) (v := ?_) (a' := ?_) #[yy, yy, yy, yy, yy, yy, yy, nn, nn, yy, yy, yy, yy, yy, yy, nn, nn, yy, yy, yy, nn, nn, nn, nn, nn, nn] rfl rfl (take_ofW HT_.out HW_.out (by kernel_rfl)) (fun _ _ _ h => h) (Or.inl ⟨by rfl, ?_⟩) hHeld ?_ ?_
            rotate_left
            · intro w' hs; have s11 := hs.cell 11 (.slice (some ad) ws.length c1) rfl; go_simp; with_reducible rfl
            rotate_left
            · simp only [Act.put, List.setIfInBounds_toArray, List.set_cons_zero, List.set_cons_succ, i64_w, i32_w]; rfl
            refine pure_ (i := 20) (N := some 105) (v := ?_) (a' := ?_) #[yy, yy, yy, yy, yy, yy, yy, nn, nn, yy, yy, yy, yy, yy, yy, nn, nn, yy, yy, yy, yy, nn, nn, nn, nn, nn] rfl rfl (any_of HT_.out (by kernel_rfl)) (fun _ _ _ h => h) (Or.inl ⟨by rfl, ?_⟩) ?_ ?_
            rotate_left
            · intro w'; go_simp; with_reducible rfl
            rotate_left
            · simp only [Act.put, List.setIfInBounds_toArray, List.set_cons_zero, List.set_cons_succ, i64_w, i32_w]; rfl
            refine pure_ (i := 21) (N := some 106) (v := ?_) (a' := ?_) #[yy, yy, yy, yy, yy, yy, yy, nn, nn, yy, yy, yy, yy, yy, yy, nn, nn, yy, yy, yy, yy, yy, nn, nn, nn, nn] rfl rfl (any_of HT_.out (by kernel_rfl)) (fun _ _ _ h => h) (Or.inl ⟨by rfl, ?_⟩) ?_ ?_
            rotate_left
            · intro w'; go_simp; with_reducible rfl
            rotate_left
            · simp only [Act.put, List.setIfInBounds_toArray, List.set_cons_zero, List.set_cons_succ, i64_w, i32_w]; rfl
            refine take_ (i := 22) (N := some 107) (v := ?_) (a' := ?_) #[yy, yy, yy, yy, yy, yy, yy, nn, nn, yy, yy, yy, yy, yy, yy, nn, nn, yy, yy, yy, yy, yy, yy, nn, nn, nn] rfl rfl (take_ofW HT_.out HW_.out (by kernel_rfl)) (fun _ _ _ h => h) (Or.inl ⟨by rfl, ?_⟩) hHeld ?_ ?_
            rotate_left
            · intro w' hs; have s0 := hs.old k1; go_simp; with_reducible rfl
            rotate_left
            · simp only [Act.put, List.setIfInBounds_toArray, List.set_cons_zero, List.set_cons_succ, i64_w, i32_w]; rfl
            refine one_ (i := 7) (N := some 92) #[yy, yy, yy, yy, yy, yy, yy, yy, nn, yy, yy, yy, yy, yy, yy, nn, nn, yy, yy, yy, yy, yy, yy, nn, nn, nn] rfl rfl (one_of HT_.out (by kernel_rfl)) (by decide) (fun K hK => ?_)
            refine goes_ Try.func23 (by kernel_rfl) rfl #[.string x0] (by rfl) rfl rfl (by (try simp only [List.map_toArray, List.map_cons, List.map_nil]); first | done | rfl) ?_
            with_reducible refine (X1.out _).mono ?_
            rintro e wc1 ⟨rfl, hb⟩
            refine ⟨_, rfl, ?_⟩
            have hh := St.go hHeld hb
            clear hHeld hb
            refine hK.out _ _ hh (fun hHeld => ?_)
            clear hK K hh
            refine norm_ (a' := ?_) ?_ ?_
            rotate_left
            · show Act.put _ (some 92) _ = _; simp only [Act.put, List.setIfInBounds_toArray, List.set_cons_zero, List.set_cons_succ, i64_w, i32_w]; rfl
            refine pure_ (i := 8) (N := some 93) (v := ?_) (a' := ?_) #[yy, yy, yy, yy, yy, yy, yy, yy, yy, yy, yy, yy, yy, yy, yy, nn, nn, yy, yy, yy, yy, yy, yy, nn, nn, nn] rfl rfl (any_of HT_.out (by kernel_rfl)) (fun _ _ _ h => h) (Or.inl ⟨by rfl, ?_⟩) ?_ ?_
            rotate_left
            · intro w'; go_simp; with_reducible rfl
            rotate_left
            · simp only [Act.put, List.setIfInBounds_toArray, List.set_cons_zero, List.set_cons_succ, i64_w, i32_w]; rfl
            refine one_ (i := 15) (N := some 100) #[yy, yy, yy, yy, yy, yy, yy, yy, yy, yy, yy, yy, yy, yy, yy, yy, nn, yy, yy, yy, yy, yy, yy, nn, nn, nn] rfl rfl (one_of HT_.out (by kernel_rfl)) (by decide) (fun K hK => ?_)
            refine goes_ Try.func20 (by kernel_rfl) rfl #[.bool x2] (by rfl) rfl rfl (by (try simp only [List.map_toArray, List.map_cons, List.map_nil]); first | done | rfl) ?_
            with_reducible refine (X2.out _).mono ?_
            rintro e wc2 ⟨rfl, hb⟩
            refine ⟨_, rfl, ?_⟩
            have hh := St.go hHeld hb
            clear hHeld hb
            refine hK.out _ _ hh (fun hHeld => ?_)
            clear hK K hh
            refine norm_ (a' := ?_) ?_ ?_
            rotate_left
            · show Act.put _ (some 100) _ = _; simp only [Act.put, List.setIfInBounds_toArray, List.set_cons_zero, List.set_cons_succ, i64_w, i32_w]; rfl
            refine pure_ (i := 16) (N := some 101) (v := ?_) (a' := ?_) #[yy, yy, yy, yy, yy, yy, yy, yy, yy, yy, yy, yy, yy, yy, yy, yy, yy, yy, yy, yy, yy, yy, yy, nn, nn, nn] rfl rfl (any_of HT_.out (by kernel_rfl)) (fun _ _ _ h => h) (Or.inl ⟨by rfl, ?_⟩) ?_ ?_
            rotate_left
            · intro w'; go_simp; with_reducible rfl
            rotate_left
            · simp only [Act.put, List.setIfInBounds_toArray, List.set_cons_zero, List.set_cons_succ, i64_w, i32_w]; rfl
            refine one_ (i := 23) (N := some 108) #[yy, yy, yy, yy, yy, yy, yy, yy, yy, yy, yy, yy, yy, yy, yy, yy, yy, yy, yy, yy, yy, yy, yy, yy, nn, nn] rfl rfl (one_of HT_.out (by kernel_rfl)) (by decide) (fun K hK => ?_)
            refine goes_ Try.func23 (by kernel_rfl) rfl #[.string x1] (by rfl) rfl rfl (by (try simp only [List.map_toArray, List.map_cons, List.map_nil]); first | done | rfl) ?_
            with_reducible refine (X3.out _).mono ?_
            rintro e wc3 ⟨rfl, hb⟩
            refine ⟨_, rfl, ?_⟩
            have hh := St.go hHeld hb
            clear hHeld hb
            refine hK.out _ _ hh (fun hHeld => ?_)
            clear hK K hh
            refine norm_ (a' := ?_) ?_ ?_
            rotate_left
            · show Act.put _ (some 108) _ = _; simp only [Act.put, List.setIfInBounds_toArray, List.set_cons_zero, List.set_cons_succ, i64_w, i32_w]; rfl
            refine pure_ (i := 24) (N := some 109) (v := ?_) (a' := ?_) #[yy, yy, yy, yy, yy, yy, yy, yy, yy, yy, yy, yy, yy, yy, yy, yy, yy, yy, yy, yy, yy, yy, yy, yy, yy, nn] rfl rfl (any_of HT_.out (by kernel_rfl)) (fun _ _ _ h => h) (Or.inl ⟨by rfl, ?_⟩) ?_ ?_
            rotate_left
            · intro w'; go_simp; with_reducible rfl
            rotate_left
            · simp only [Act.put, List.setIfInBounds_toArray, List.set_cons_zero, List.set_cons_succ, i64_w, i32_w]; rfl
            refine pure_ (i := 25) (N := some 4) (v := ?_) (a' := ?_) #[yy, yy, yy, yy, yy, yy, yy, yy, yy, yy, yy, yy, yy, yy, yy, yy, yy, yy, yy, yy, yy, yy, yy, yy, yy, yy] rfl rfl (any_of HT_.out (by kernel_rfl)) (fun _ _ _ h => h) (Or.inl ⟨by rfl, ?_⟩) ?_ ?_
            rotate_left
            · intro w'; go_simp; with_reducible rfl
            rotate_left
            · simp only [Act.put, List.setIfInBounds_toArray, List.set_cons_zero, List.set_cons_succ, i64_w, i32_w]; rfl
            refine done_ (done_of HT_.out (by kernel_rfl)) ?_
            have HS := Lib.hid hHeld
            clear hHeld HT_ HW_
            have hlx := lt_at HS.out.2
            go_wp2_with fail
            go_roundg (gk - 1)
            case measure => have := HG.out; omega
            case rel => exact ⟨i + 1, by omega, by rw [← HSTR.out], by go_num, ⟨by have := HG.out; omega⟩, ⟨HS.out⟩⟩
          · obtain ⟨s, hs⟩ : ∃ s, s = m2 ++ encs encW (ws.take ws.length) := ⟨_, rfl⟩
            have zs : s.size ≤ 6000 := by rw [hs, ByteArray.size_append]; omega
            rw [← hs]
            rw [List.take_length] at hs
            have HSS := Lib.hid hs
            obtain ⟨ca0, cb0, cc0⟩ := cat3 (show s.size + v9.size ≤ 9223372036854775807 by omega)
            clear hs hsz
            obtain ⟨gout, rfl⟩ : ∃ x, x = gk := ⟨_, rfl⟩
            go_wp2_with fail
            refine (P10.out _).mono ?_
            rintro e wd ⟨rfl, hb⟩
            have hh := St.go HS.out hb
            clear HS hb
            have HS := Lib.hid hh
            clear hh P10
            have hly := lt_at HS.out.2
            obtain ⟨m3, hm3⟩ : ∃ m3, m3 = s ++ v9 := ⟨_, rfl⟩
            have zm3 : m3.size ≤ 6100 := by rw [hm3, ByteArray.size_append]; omega
            go_wp2_with fail
            rw [← hm3]
            have HM3 := Lib.hid hm3
            clear hm3 ca0 cb0 cc0
            go_loopg [4, 7] (sk.length + 1) (fun gk v4 v7 wr2 => ∃ i : Nat, i ≤ sk.length ∧ v4 = .string (m3 ++ encs encX (sk.take i)) ∧ v7 = .int .i64 (i : Int) ∧ Aside0 (i + gk = sk.length + 1) ∧ Aside0 (St w wa4.heap.size #[.int .i64 k, .int .u32 bc, .int .u32 bn, .int .u64 sp, .int .u32 sl, .int .u64 ap, .int .u32 al, .string key, .string tt, .int .i64 lim, .int .u8 parts, .slice A1 ws.length c1, .slice A2 sk.length c2] 31 wr2))
            case atStart => exact ⟨0, Nat.zero_le _, by simp [encs], rfl, ⟨by omega⟩, ⟨HS.out⟩⟩
            case round =>
              obtain ⟨i, hi, rfl, rfl, ⟨hg⟩, ⟨hSt⟩⟩ := hrel
              clear HS
              have HG := Lib.hid hg
              have HS := Lib.hid hSt
              clear hg hSt
              have hsz : (encs encX (sk.take i)).size ≤ 300 := by
                have h1 := encs_size encX 18 (sk.take i) (fun x hx => encX_size x (HSX.out x (List.mem_of_mem_take hx)))
                have h2 : (sk.take i).length ≤ 16 := by rw [List.length_take]; omega
                have h3 : (sk.take i).length * 18 ≤ 16 * 18 := Nat.mul_le_mul_right _ h2
                omega
              have hlz := lt_at HS.out.2
              have d12 := HS.out.cell 12 (.slice A2 sk.length c2) rfl
              rcases (show i < sk.length ∨ i = sk.length by omega) with hlt | rfl
              · as_aux_lemma =>
                obtain ⟨ad, rfl, k0, k1⟩ := at_T24 (Kd.C_below H2.out HS.out.1) (i : Int) (by omega) (by omega)
                rw [Int.toNat_natCast] at k0 k1
                have HE3 : Hid (rd_T24 sk (i : Int) = sk[i]) := Lib.hid (by
                  unfold rd_T24
                  rw [List.getD_eq_getElem?_getD, Int.toNat_natCast, List.getElem?_eq_getElem hlt]
                  rfl)
                have hx := HSX.out sk[i] (List.getElem_mem hlt)
                rw [← HE3.out] at hx
                generalize rd_T24 sk (i : Int) = x at *
                obtain ⟨x0, x1⟩ := x
                obtain ⟨hx0, hx1⟩ := hx
                dsimp only at *
                obtain ⟨v1, e1, z1, X1⟩ := txn_pack x0 x1 hx0 hx1
                obtain ⟨s2, hs⟩ : ∃ s2, s2 = m3 ++ encs encX (sk.take i) := ⟨_, rfl⟩
                have zs2 : s2.size ≤ 6500 := by rw [hs, ByteArray.size_append]; omega
                rw [← hs]
                have HSTR : Hid (s2 ++ v1 = m3 ++ encs encX (sk.take (i + 1))) := Lib.hid (by
                  rw [encs_take encX sk i hlt, ← HE3.out, hs, ← e1]
                  simp only [encX, ByteArray.append_assoc])
                clear e1 hs HE3 HE HE2 HM HM2 HM3 HSS HWX HSX hx0 hx1 hsz
                obtain ⟨ca0, cb0, cc0⟩ := cat3 (show s2.size + v1.size ≤ 9223372036854775807 by omega)
                go_wp2_with fail
                refine (X1.out _).mono ?_
                rintro e we ⟨rfl, hb⟩
                have hh := St.go HS.out hb
                clear hb X1
                have HS4 := Lib.hid hh
                clear hh
                go_wp2_with fail
                go_roundg (gk - 1)
                case measure => have := HG.out; omega
                case rel => exact ⟨i + 1, by omega, by rw [← HSTR.out], by go_num, ⟨by have := HG.out; omega⟩, ⟨HS4.out⟩⟩
              · obtain ⟨s2, hs⟩ : ∃ s2, s2 = m3 ++ encs encX (sk.take sk.length) := ⟨_, rfl⟩
                rw [← hs]
                have HFIN : Hid (s2 = encL ⟨cl, sh, sq, false, ⟨k, bc, bn, sp, sl, ap, al, key, tt, lim, parts, ws, sk⟩, ⟨rk, er, fd, val, ps, wc, wn, rsp, rsl, rap, ral, pr, np, nl⟩⟩) := Lib.hid (by
                  obtain ⟨e1, e2, e3, e4⟩ := HE.out
                  obtain ⟨f1, f2, f3, f4, f5, f6, f7, f8, f9, f10⟩ := HE2.out
                  unfold encL encAsk
                  dsimp only
                  rw [if_neg (by decide), e1, e2, e3, e4, f1, f2, f3, f4, f5, f6, f7, f8, f9, f10, hs, List.take_length, HM3.out, HSS.out, HM2.out, HM.out]
                  simp only [ByteArray.append_assoc])
                clear hs HE HE2 HM HM2 HM3 HSS HWX HSX hsz
                go_wp2_with fail
                go_ret2
                exact ⟨by rw [HR.out, ← HFIN.out]; rfl, HS.out.1⟩
    | true =>
      as_aux_lemma =>
        have F := HRF.out (by have h := HRT.out; simpa using h)
        have hlx := lt_at HS.out.2
        have x3 := HS.out.cell 3 (.bool true) rfl
        have x17 := HS.out.cell 17 (.int .i64 rk) rfl
        have x18 := HS.out.cell 18 (.int .i64 er) rfl
        have x19 := HS.out.cell 19 (.bool fd) rfl
        have x20 := HS.out.cell 20 (.string val) rfl
        have x21 := HS.out.cell 21 (.slice A3 ps.length c3) rfl
        have x22 := HS.out.cell 22 (.int .u32 wc) rfl
        have x23 := HS.out.cell 23 (.int .u32 wn) rfl
        have x24 := HS.out.cell 24 (.int .u64 rsp) rfl
        have x25 := HS.out.cell 25 (.int .u32 rsl) rfl
        have x26 := HS.out.cell 26 (.int .u64 rap) rfl
        have x27 := HS.out.cell 27 (.int .u32 ral) rfl
        have x28 := HS.out.cell 28 (.string pr) rfl
        have x29 := HS.out.cell 29 (.int .u64 np) rfl
        have x30 := HS.out.cell 30 (.int .u32 nl) rfl
        have HX5 := Lib.hid (heap_alloc_new wa4 (.cells #[.int .i64 0, .int .i64 0, .bool false, .string ⟨#[]⟩, .slice none 0 0, .int .u32 0, .int .u32 0, .int .u64 0, .int .u32 0, .int .u64 0, .int .u32 0, .string ⟨#[]⟩, .int .u64 0, .int .u32 0] 35))
        have HB5 := Lib.hid (below_alloc' HS.out.1 (.cells #[.int .i64 0, .int .i64 0, .bool false, .string ⟨#[]⟩, .slice none 0 0, .int .u32 0, .int .u32 0, .int .u64 0, .int .u32 0, .int .u64 0, .int .u32 0, .string ⟨#[]⟩, .int .u64 0, .int .u32 0] 35))
        have HGE : Hid (w.heap.size ≤ wa4.heap.size) := Lib.hid HS.out.1.size
        have HF := Lib.hid F
        clear F HS
        go_wp2_with (first | ((with_reducible refine gate_store (t := 35) (p := 8) (v := .tmp 134) rfl ?_); refine store_mid_ev (w0 := w) rfl 35 (.tmp 8) (.tmp 134) rfl rfl wa4.heap.size 0 #[.int .i64 rk, .int .i64 er, .bool fd, .string val, .slice A3 ps.length c3, .int .u32 wc, .int .u32 wn, .int .u64 rsp, .int .u32 rsl, .int .u64 rap, .int .u32 ral, .string pr, .int .u64 np, .int .u32 nl] rfl rfl 35 _ #[.int .i64 rk, .int .i64 er, .bool fd, .string val, .slice A3 ps.length c3, .int .u32 wc, .int .u32 wn, .int .u64 rsp, .int .u32 rsl, .int .u64 rap, .int .u32 ral, .string pr, .int .u64 np, .int .u32 nl] HX5.out (by kernel_rfl) (by show 0 + 14 ≤ 14; decide) (by kernel_rfl) (by kernel_rfl) HB5.out HGE.out ?_; intro w9 hX9 hK9 hB9; have HS := Lib.hid (St.mk' hB9 hX9); clear hX9 hK9 hB9))
        obtain ⟨⟨pk, per, pps, pwc, pwn, psp, psl, pap, pal, pnp, pnl⟩, ⟨hk0, hk1⟩, ⟨hl0, hl1⟩, hpr, hval, hp32, hpx⟩ := HF.out
        dsimp only at *
        obtain ⟨u1, e1, z1, P1⟩ := num_pack rk (by omega) (by omega)
        obtain ⟨u2, e2, z2, P2⟩ := num_pack er (by omega) (by omega)
        obtain ⟨u3, e3, z3, P3⟩ := flag_pack fd
        obtain ⟨u4, e4, z4, P4⟩ := text_pack val 256 hval (by decide)
        obtain ⟨u5, e5, z5, P5⟩ := num_pack (ps.length : Int) (by omega) (by omega)
        obtain ⟨y1, e6, zy1, Y1⟩ := txn_pack wc wn pwc pwn
        obtain ⟨y2, e7, zy2, Y2⟩ := stamp_pack rsp rsl psp psl
        obtain ⟨y3, e8, zy3, Y3⟩ := stamp_pack rap ral pap pal
        obtain ⟨y4, e9, zy4, Y4⟩ := text_pack pr 32 hpr (by decide)
        obtain ⟨y5, e10, zy5, Y5⟩ := stamp_pack np nl pnp pnl
        have HE2 := Lib.hid (And.intro e1 (And.intro e2 (And.intro e3 (And.intro e4 (And.intro e5 (And.intro e6 (And.intro e7 (And.intro e8 (And.intro e9 e10)))))))))
        have HPX := Lib.hid hpx
        clear e1 e2 e3 e4 e5 e6 e7 e8 e9 e10 hpx HF HX5 HB5 hlx x3 x17 x18 x19 x20 x21 x22 x23 x24 x25 x26 x27 x28 x29 x30 pk per pwc pwn psp psl pap pal pnp pnl
        obtain ⟨ca0, cb0, cc0⟩ := cat3 (show m.size + u1.size ≤ 9223372036854775807 by omega)
        obtain ⟨ca1, cb1, cc1⟩ := cat3 (show m.size + u1.size + u2.size ≤ 9223372036854775807 by omega)
        obtain ⟨ca2, cb2, cc2⟩ := cat3 (show m.size + u1.size + u2.size + u3.size ≤ 9223372036854775807 by omega)
        obtain ⟨ca3, cb3, cc3⟩ := cat3 (show m.size + u1.size + u2.size + u3.size + u4.size ≤ 9223372036854775807 by omega)
        obtain ⟨ca4, cb4, cc4⟩ := cat3 (show m.size + u1.size + u2.size + u3.size + u4.size + u5.size ≤ 9223372036854775807 by omega)
        refine start_ (n := 26) (S := St w wa4.heap.size #[.int .i64 rk, .int .i64 er, .bool fd, .string val, .slice A3 ps.length c3, .int .u32 wc, .int .u32 wn, .int .u64 rsp, .int .u32 rsl, .int .u64 rap, .int .u32 ral, .string pr, .int .u64 np, .int .u32 nl] 35) (ds := []) #[nn, nn, nn, nn, nn, nn, nn, nn, nn, nn, nn, nn, nn, nn, nn, nn, nn, nn, nn, nn, nn, nn, nn, nn, nn, nn] (by kernel_rfl) rfl rfl (St.drew HS.out) (fun hHeld => ?_); refine with_tabW wtab18 wbits18 (fun HT_ HW_ => ?_)
        clear HS
        refine pure_ (i := 0) (N := some 135) (v := ?_) (a' := ?_) #[yy, nn, nn, nn, nn, nn, nn, nn, nn, nn, nn, nn, nn, nn, nn, nn, nn, nn, nn, nn, nn, nn, nn, nn, nn, nn] rfl rfl (any_of HT_.out (by kernel_rfl)) (fun _ _ _ h => h) (Or.inl ⟨by rfl, ?_⟩) ?_ ?_
        rotate_left
        · intro w'; go_simp; with_reducible rfl
        rotate_left
        · simp only [Act.put, List.setIfInBounds_toArray, List.set_cons_zero, List.set_cons_succ, i64_w, i32_w]; rfl
        refine pure_ (i := 1) (N := some 136) (v := ?_) (a' := ?_) #[yy, yy, nn, nn, nn, nn, nn, nn, nn, nn, nn, nn, nn, nn, nn, nn, nn, nn, nn, nn, nn, nn, nn, nn, nn, nn] rfl rfl (any_of HT_.out (by kernel_rfl)) (fun _ _ _ h => h) (Or.inl ⟨by rfl, ?_⟩) ?_ ?_
        rotate_left
        · intro w'; go_simp; with_reducible rfl
        rotate_left
        · simp only [Act.put, List.setIfInBounds_toArray, List.set_cons_zero, List.set_cons_succ, i64_w, i32_w]; rfl
        refine pure_ (i := 6) (N := some 141) (v := ?_) (a' := ?_) #[yy, yy, nn, nn, nn, nn, yy, nn, nn, nn, nn, nn, nn, nn, nn, nn, nn, nn, nn, nn, nn, nn, nn, nn, nn, nn] rfl rfl (any_of HT_.out (by kernel_rfl)) (fun _ _ _ h => h) (Or.inl ⟨by rfl, ?_⟩) ?_ ?_
        rotate_left
        · intro w'; go_simp; with_reducible rfl
        rotate_left
        · simp only [Act.put, List.setIfInBounds_toArray, List.set_cons_zero, List.set_cons_succ, i64_w, i32_w]; rfl
        refine pure_ (i := 11) (N := some 146) (v := ?_) (a' := ?_) #[yy, yy, nn, nn, nn, nn, yy, nn, nn, nn, nn, yy, nn, nn, nn, nn, nn, nn, nn, nn, nn, nn, nn, nn, nn, nn] rfl rfl (any_of HT_.out (by kernel_rfl)) (fun _ _ _ h => h) (Or.inl ⟨by rfl, ?_⟩) ?_ ?_
        rotate_left
        · intro w'; go_simp; with_reducible rfl
        rotate_left
        · simp only [Act.put, List.setIfInBounds_toArray, List.set_cons_zero, List.set_cons_succ, i64_w, i32_w]; rfl
        refine pure_ (i := 15) (N := some 150) (v := ?_) (a' := ?_) #[yy, yy, nn, nn, nn, nn, yy, nn, nn, nn, nn, yy, nn, nn, nn, yy, nn, nn, nn, nn, nn, nn, nn, nn, nn, nn] rfl rfl (any_of HT_.out (by kernel_rfl)) (fun _ _ _ h => h) (Or.inl ⟨by rfl, ?_⟩) ?_ ?_
        rotate_left
        · intro w'; go_simp; with_reducible rfl
        rotate_left
        · simp only [Act.put, List.setIfInBounds_toArray, List.set_cons_zero, List.set_cons_succ, i64_w, i32_w]; rfl
        refine pure_ (i := 19) (N := some 154) (v := ?_) (a' := ?_) #[yy, yy, nn, nn, nn, nn, yy, nn, nn, nn, nn, yy, nn, nn, nn, yy, nn, nn, nn, yy, nn, nn, nn, nn, nn, nn] rfl rfl (any_of HT_.out (by kernel_rfl)) (fun _ _ _ h => h) (Or.inl ⟨by rfl, ?_⟩) ?_ ?_
        rotate_left
        · intro w'; go_simp; with_reducible rfl
        rotate_left
        · simp only [Act.put, List.setIfInBounds_toArray, List.set_cons_zero, List.set_cons_succ, i64_w, i32_w]; rfl
        refine take_ (i := 2) (N := some 137) (v := ?_) (a' := ?_) #[yy, yy, yy, nn, nn, nn, yy, nn, nn, nn, nn, yy, nn, nn, nn, yy, nn, nn, nn, yy, nn, nn, nn, nn, nn, nn] rfl rfl (take_ofW HT_.out HW_.out (by kernel_rfl)) (fun _ _ _ h => h) (Or.inl ⟨by rfl, ?_⟩) hHeld ?_ ?_
        rotate_left
        · intro w' hs; have s0 := hs.cell 0 (.int .i64 rk) rfl; go_simp; with_reducible rfl
        rotate_left
        · simp only [Act.put, List.setIfInBounds_toArray, List.set_cons_zero, List.set_cons_succ, i64_w, i32_w]; rfl
        refine pure_ (i := 3) (N := some 138) (v := ?_) (a' := ?_) #[yy, yy, yy, yy, nn, nn, yy, nn, nn, nn, nn, yy, nn, nn, nn, yy, nn, nn, nn, yy, nn, nn, nn, nn, nn, nn] rfl rfl (any_of HT_.out (by kernel_rfl)) (fun _ _ _ h => h) (Or.inl ⟨by rfl, ?_⟩) ?_ ?_
        rotate_left
        · intro w'; go_simp; with_reducible rfl
        rotate_left
        · simp only [Act.put, List.setIfInBounds_toArray, List.set_cons_zero, List.set_cons_succ, i64_w, i32_w]; rfl
        refine take_ (i := 7) (N := some 142) (v := ?_) (a' := ?_) #[yy, yy, yy, yy, nn, nn, yy, yy, nn, nn, nn, yy, nn, nn, nn, yy, nn, nn, nn, yy, nn, nn, nn, nn, nn, nn] rfl rfl (take_ofW HT_.out HW_.out (by kernel_rfl)) (fun _ _ _ h => h) (Or.inl ⟨by rfl, ?_⟩) hHeld ?_ ?_
        rotate_left
        · intro w' hs; have s1 := hs.cell 1 (.int .i64 er) rfl; go_simp; with_reducible rfl
        rotate_left
        · simp only [Act.put, List.setIfInBounds_toArray, List.set_cons_zero, List.set_cons_succ, i64_w, i32_w]; rfl
        refine pure_ (i := 8) (N := some 143) (v := ?_) (a' := ?_) #[yy, yy, yy, yy, nn, nn, yy, yy, yy, nn, nn, yy, nn, nn, nn, yy, nn, nn, nn, yy, nn, nn, nn, nn, nn, nn] rfl rfl (any_of HT_.out (by kernel_rfl)) (fun _ _ _ h => h) (Or.inl ⟨by rfl, ?_⟩) ?_ ?_
        rotate_left
        · intro w'; go_simp; with_reducible rfl
        rotate_left
        · simp only [Act.put, List.setIfInBounds_toArray, List.set_cons_zero, List.set_cons_succ, i64_w, i32_w]; rfl
        refine take_ (i := 12) (N := some 147) (v := ?_) (a' := ?_) #[yy, yy, yy, yy, nn, nn, yy, yy, yy, nn, nn, yy, yy, nn, nn, yy, nn, nn, nn, yy, nn, nn, nn, nn, nn, nn] rfl rfl (take_ofW HT_.out HW_.out (by kernel_rfl)) (fun _ _ _ h => h) (Or.inl ⟨by rfl, ?_⟩) hHeld ?_ ?_
        rotate_left
        · intro w' hs; have s2 := hs.cell 2 (.bool fd) rfl; go_simp; with_reducible rfl
        rotate_left
        · simp only [Act.put, List.setIfInBounds_toArray, List.set_cons_zero, List.set_cons_succ, i64_w, i32_w]; rfl
        refine take_ (i := 16) (N := some 151) (v := ?_) (a' := ?_) #[yy, yy, yy, yy, nn, nn, yy, yy, yy, nn, nn, yy, yy, nn, nn, yy, yy, nn, nn, yy, nn, nn, nn, nn, nn, nn] rfl rfl (take_ofW HT_.out HW_.out (by kernel_rfl)) (fun _ _ _ h => h) (Or.inl ⟨by rfl, ?_⟩) hHeld ?_ ?_
        rotate_left
        · intro w' hs; have s3 := hs.cell 3 (.string val) rfl; go_simp; with_reducible rfl
        rotate_left
        · simp only [Act.put, List.setIfInBounds_toArray, List.set_cons_zero, List.set_cons_succ, i64_w, i32_w]; rfl
        refine take_ (i := 20) (N := some 155) (v := ?_) (a' := ?_) #[yy, yy, yy, yy, nn, nn, yy, yy, yy, nn, nn, yy, yy, nn, nn, yy, yy, nn, nn, yy, yy, nn, nn, nn, nn, nn] rfl rfl (take_ofW HT_.out HW_.out (by kernel_rfl)) (fun _ _ _ h => h) (Or.inl ⟨by rfl, ?_⟩) hHeld ?_ ?_
        rotate_left
        · intro w' hs; have s4 := hs.cell 4 (.slice A3 ps.length c3) rfl; go_simp; with_reducible rfl
        rotate_left
        · simp only [Act.put, List.setIfInBounds_toArray, List.set_cons_zero, List.set_cons_succ, i64_w, i32_w]; rfl
        refine pure_ (i := 21) (N := some 156) (v := ?_) (a' := ?_) #[yy, yy, yy, yy, nn, nn, yy, yy, yy, nn, nn, yy, yy, nn, nn, yy, yy, nn, nn, yy, yy, yy, nn, nn, nn, nn] rfl rfl (any_of HT_.out (by kernel_rfl)) (fun _ _ _ h => h) (Or.inl ⟨by rfl, ?_⟩) ?_ ?_
        rotate_left
        · intro w'; go_simp; with_reducible rfl
        rotate_left
        · simp only [Act.put, List.setIfInBounds_toArray, List.set_cons_zero, List.set_cons_succ, i64_w, i32_w]; rfl
        refine pure_ (i := 22) (N := some 157) (v := ?_) (a' := ?_) #[yy, yy, yy, yy, nn, nn, yy, yy, yy, nn, nn, yy, yy, nn, nn, yy, yy, nn, nn, yy, yy, yy, yy, nn, nn, nn] rfl rfl (any_of HT_.out (by kernel_rfl)) (fun _ _ _ h => h) (Or.inl ⟨by rfl, ?_⟩) ?_ ?_
        rotate_left
        · intro w'; go_simp; with_reducible rfl
        rotate_left
        · simp only [Act.put, List.setIfInBounds_toArray, List.set_cons_zero, List.set_cons_succ, i64_w, i32_w]; rfl
        refine one_ (i := 4) (N := some 139) #[yy, yy, yy, yy, yy, nn, yy, yy, yy, nn, nn, yy, yy, nn, nn, yy, yy, nn, nn, yy, yy, yy, yy, nn, nn, nn] rfl rfl (one_of HT_.out (by kernel_rfl)) (by decide) (fun K hK => ?_)
        refine goes_ Try.func19 (by kernel_rfl) rfl #[.int .u64 (IntKind.u64.wrap rk)] (by rfl) rfl rfl (by (try simp only [List.map_toArray, List.map_cons, List.map_nil]); first | done | rfl) ?_
        with_reducible refine (P1.out _).mono ?_
        rintro e wb1 ⟨rfl, hb⟩
        refine ⟨_, rfl, ?_⟩
        have hh := St.go hHeld hb
        clear hHeld hb
        refine hK.out _ _ hh (fun hHeld => ?_)
        clear hK K hh
        refine norm_ (a' := ?_) ?_ ?_
        rotate_left
        · show Act.put _ (some 139) _ = _; simp only [Act.put, List.setIfInBounds_toArray, List.set_cons_zero, List.set_cons_succ, i64_w, i32_w]; rfl
        refine pure_ (i := 5) (N := some 140) (v := ?_) (a' := ?_) #[yy, yy, yy, yy, yy, yy, yy, yy, yy, nn, nn, yy, yy, nn, nn, yy, yy, nn, nn, yy, yy, yy, yy, nn, nn, nn] rfl rfl (any_of HT_.out (by kernel_rfl)) (fun _ _ _ h => h) (Or.inl ⟨by rfl, ?_⟩) ?_ ?_
        rotate_left
        · intro w'; go_simp; with_reducible rfl
        rotate_left
        · simp only [Act.put, List.setIfInBounds_toArray, List.set_cons_zero, List.set_cons_succ, i64_w, i32_w]; rfl
        refine one_ (i := 9) (N := some 144) #[yy, yy, yy, yy, yy, yy, yy, yy, yy, yy, nn, yy, yy, nn, nn, yy, yy, nn, nn, yy, yy, yy, yy, nn, nn, nn] rfl rfl (one_of HT_.out (by kernel_rfl)) (by decide) (fun K hK => ?_)
        refine goes_ Try.func19 (by kernel_rfl) rfl #[.int .u64 (IntKind.u64.wrap er)] (by rfl) rfl rfl (by (try simp only [List.map_toArray, List.map_cons, List.map_nil]); first | done | rfl) ?_
        with_reducible refine (P2.out _).mono ?_
        rintro e wb2 ⟨rfl, hb⟩
        refine ⟨_, rfl, ?_⟩
        have hh := St.go hHeld hb
        clear hHeld hb
        refine hK.out _ _ hh (fun hHeld => ?_)
        clear hK K hh
        refine norm_ (a' := ?_) ?_ ?_
        rotate_left
        · show Act.put _ (some 144) _ = _; simp only [Act.put, List.setIfInBounds_toArray, List.set_cons_zero, List.set_cons_succ, i64_w, i32_w]; rfl
        refine pure_ (i := 10) (N := some 145) (v := ?_) (a' := ?_) #[yy, yy, yy, yy, yy, yy, yy, yy, yy, yy, yy, yy, yy, nn, nn, yy, yy, nn, nn, yy, yy, yy, yy, nn, nn, nn] rfl rfl (any_of HT_.out (by kernel_rfl)) (fun _ _ _ h => h) (Or.inl ⟨by rfl, ?_⟩) ?_ ?_
        rotate_left
        · intro w'; go_simp; with_reducible rfl
        rotate_left
        · simp only [Act.put, List.setIfInBounds_toArray, List.set_cons_zero, List.set_cons_succ, i64_w, i32_w]; rfl
        refine one_ (i := 13) (N := some 148) #[yy, yy, yy, yy, yy, yy, yy, yy, yy, yy, yy, yy, yy, yy, nn, yy, yy, nn, nn, yy, yy, yy, yy, nn, nn, nn] rfl rfl (one_of HT_.out (by kernel_rfl)) (by decide) (fun K hK => ?_)
        refine goes_ Try.func20 (by kernel_rfl) rfl #[.bool fd] (by rfl) rfl rfl (by (try simp only [List.map_toArray, List.map_cons, List.map_nil]); first | done | rfl) ?_
        with_reducible refine (P3.out _).mono ?_
        rintro e wb3 ⟨rfl, hb⟩
        refine ⟨_, rfl, ?_⟩
        have hh := St.go hHeld hb
        clear hHeld hb
        refine hK.out _ _ hh (fun hHeld => ?_)
        clear hK K hh
        refine norm_ (a' := ?_) ?_ ?_
        rotate_left
        · show Act.put _ (some 148) _ = _; simp only [Act.put, List.setIfInBounds_toArray, List.set_cons_zero, List.set_cons_succ, i64_w, i32_w]; rfl
        refine pure_ (i := 14) (N := some 149) (v := ?_) (a' := ?_) #[yy, yy, yy, yy, yy, yy, yy, yy, yy, yy, yy, yy, yy, yy, yy, yy, yy, nn, nn, yy, yy, yy, yy, nn, nn, nn] rfl rfl (any_of HT_.out (by kernel_rfl)) (fun _ _ _ h => h) (Or.inl ⟨by rfl, ?_⟩) ?_ ?_
        rotate_left
        · intro w'; go_simp; with_reducible rfl
        rotate_left
        · simp only [Act.put, List.setIfInBounds_toArray, List.set_cons_zero, List.set_cons_succ, i64_w, i32_w]; rfl
        refine one_ (i := 17) (N := some 152) #[yy, yy, yy, yy, yy, yy, yy, yy, yy, yy, yy, yy, yy, yy, yy, yy, yy, yy, nn, yy, yy, yy, yy, nn, nn, nn] rfl rfl (one_of HT_.out (by kernel_rfl)) (by decide) (fun K hK => ?_)
        refine goes_ Try.func23 (by kernel_rfl) rfl #[.string val] (by rfl) rfl rfl (by (try simp only [List.map_toArray, List.map_cons, List.map_nil]); first | done | rfl) ?_
        with_reducible refine (P4.out _).mono ?_
        rintro e wb4 ⟨rfl, hb⟩
        refine ⟨_, rfl, ?_⟩
        have hh := St.go hHeld hb
        clear hHeld hb
        refine hK.out _ _ hh (fun hHeld => ?_)
        clear hK K hh
        refine norm_ (a' := ?_) ?_ ?_
        rotate_left
        · show Act.put _ (some 152) _ = _; simp only [Act.put, List.setIfInBounds_toArray, List.set_cons_zero, List.set_cons_succ, i64_w, i32_w]; rfl
        refine pure_ (i := 18) (N := some 153) (v := ?_) (a' := ?_) #[yy, yy, yy, yy, yy, yy, yy, yy, yy, yy, yy, yy, yy, yy, yy, yy, yy, yy, yy, yy, yy, yy, yy, nn, nn, nn] rfl rfl (any_of HT_.out (by kernel_rfl)) (fun _ _ _ h => h) (Or.inl ⟨by rfl, ?_⟩) ?_ ?_
        rotate_left
        · intro w'; go_simp; with_reducible rfl
        rotate_left
        · simp only [Act.put, List.setIfInBounds_toArray, List.set_cons_zero, List.set_cons_succ, i64_w, i32_w]; rfl
        refine one_ (i := 23) (N := some 158) #[yy, yy, yy, yy, yy, yy, yy, yy, yy, yy, yy, yy, yy, yy, yy, yy, yy, yy, yy, yy, yy, yy, yy, yy, nn, nn] rfl rfl (one_of HT_.out (by kernel_rfl)) (by decide) (fun K hK => ?_)
        refine goes_ Try.func19 (by kernel_rfl) rfl #[.int .u64 (IntKind.u64.wrap (ps.length : Int))] (by rfl) rfl rfl (by (try simp only [List.map_toArray, List.map_cons, List.map_nil]); first | done | rfl) ?_
        with_reducible refine (P5.out _).mono ?_
        rintro e wb5 ⟨rfl, hb⟩
        refine ⟨_, rfl, ?_⟩
        have hh := St.go hHeld hb
        clear hHeld hb
        refine hK.out _ _ hh (fun hHeld => ?_)
        clear hK K hh
        refine norm_ (a' := ?_) ?_ ?_
        rotate_left
        · show Act.put _ (some 158) _ = _; simp only [Act.put, List.setIfInBounds_toArray, List.set_cons_zero, List.set_cons_succ, i64_w, i32_w]; rfl
        refine pure_ (i := 24) (N := some 159) (v := ?_) (a' := ?_) #[yy, yy, yy, yy, yy, yy, yy, yy, yy, yy, yy, yy, yy, yy, yy, yy, yy, yy, yy, yy, yy, yy, yy, yy, yy, nn] rfl rfl (any_of HT_.out (by kernel_rfl)) (fun _ _ _ h => h) (Or.inl ⟨by rfl, ?_⟩) ?_ ?_
        rotate_left
        · intro w'; go_simp; with_reducible rfl
        rotate_left
        · simp only [Act.put, List.setIfInBounds_toArray, List.set_cons_zero, List.set_cons_succ, i64_w, i32_w]; rfl
        refine pure_ (i := 25) (N := some 4) (v := ?_) (a' := ?_) #[yy, yy, yy, yy, yy, yy, yy, yy, yy, yy, yy, yy, yy, yy, yy, yy, yy, yy, yy, yy, yy, yy, yy, yy, yy, yy] rfl rfl (any_of HT_.out (by kernel_rfl)) (fun _ _ _ h => h) (Or.inl ⟨by rfl, ?_⟩) ?_ ?_
        rotate_left
        · intro w'; go_simp; with_reducible rfl
        rotate_left
        · simp only [Act.put, List.setIfInBounds_toArray, List.set_cons_zero, List.set_cons_succ, i64_w, i32_w]; rfl
        refine done_ (done_of HT_.out (by kernel_rfl)) ?_
        have HS := Lib.hid hHeld
        clear hHeld HT_ HW_
        obtain ⟨m2, hm2⟩ : ∃ m2, m2 = m ++ u1 ++ u2 ++ u3 ++ u4 ++ u5 := ⟨_, rfl⟩
        have zm2 : m2.size ≤ 400 := by rw [hm2]; simp only [ByteArray.size_append]; omega
        rw [← hm2]
        have HM2 := Lib.hid hm2
        clear hm2 ca0 cb0 cc0 ca1 cb1 cc1 ca2 cb2 cc2 ca3 cb3 cc3 ca4 cb4 cc4 z1 z2 z3 z4 z5 P1 P2 P3 P4 P5
        go_wp2_with fail
        go_loopg [4, 9] (ps.length + 1) (fun gk v4 v9 wr => ∃ i : Nat, i ≤ ps.length ∧ v4 = .string (m2 ++ encs encP (ps.take i)) ∧ v9 = .int .i64 (i : Int) ∧ Aside0 (i + gk = ps.length + 1) ∧ Aside0 (St w wa4.heap.size #[.int .i64 rk, .int .i64 er, .bool fd, .string val, .slice A3 ps.length c3, .int .u32 wc, .int .u32 wn, .int .u64 rsp, .int .u32 rsl, .int .u64 rap, .int .u32 ral, .string pr, .int .u64 np, .int .u32 nl] 35 wr))
        case atStart => exact ⟨0, Nat.zero_le _, by simp [encs], rfl, ⟨by omega⟩, ⟨HS.out⟩⟩
        case round =>
          obtain ⟨i, hi, rfl, rfl, ⟨hg⟩, ⟨hSt⟩⟩ := hrel
          have HG := Lib.hid hg
          have HS := Lib.hid hSt
          clear hg hSt
          have hsz : (encs encP (ps.take i)).size ≤ 9800 := by
            have h1 := encs_size encP 306 (ps.take i) (fun x hx => encP_size x (HPX.out x (List.mem_of_mem_take hx)))
            have h2 : (ps.take i).length ≤ 32 := by rw [List.length_take]; omega
            have h3 : (ps.take i).length * 306 ≤ 32 * 306 := Nat.mul_le_mul_right _ h2
            omega
          have hlx := lt_at HS.out.2
          have d4 := HS.out.cell 4 (.slice A3 ps.length c3) rfl
          rcases (show i < ps.length ∨ i = ps.length by omega) with hlt | rfl
          · as_aux_lemma =>
            obtain ⟨ad, rfl, k0, k1⟩ := at_T68 H3.out (i : Int) (by omega) (by omega)
            rw [Int.toNat_natCast] at k0 k1
            have HE3 : Hid (rd_T68 ps (i : Int) = ps[i]) := Lib.hid (by
              unfold rd_T68
              rw [List.getD_eq_getElem?_getD, Int.toNat_natCast, List.getElem?_eq_getElem hlt]
              rfl)
            have hx := HPX.out ps[i] (List.getElem_mem hlt)
            rw [← HE3.out] at hx
            generalize rd_T68 ps (i : Int) = x at *
            obtain ⟨x0, x1⟩ := x
            obtain ⟨hx0, hx1⟩ := hx
            dsimp only at *
            obtain ⟨v1, e1, z1, X1⟩ := text_pack x0 32 hx0 (by decide)
            obtain ⟨v2, e2, z2, X2⟩ := text_pack x1 256 hx1 (by decide)
            obtain ⟨s, hs⟩ : ∃ s, s = m2 ++ encs encP (ps.take i) := ⟨_, rfl⟩
            have zs : s.size ≤ 11000 := by rw [hs, ByteArray.size_append]; omega
            rw [← hs]
            have HSTR : Hid (s ++ v1 ++ v2 = m2 ++ encs encP (ps.take (i + 1))) := Lib.hid (by
              rw [encs_take encP ps i hlt, ← HE3.out, hs, ← e1, ← e2]
              simp only [encP, ByteArray.append_assoc])
            clear e1 e2 hs HE3 HE HE2 HM HM2 HPX hx0 hx1 hsz Y1 Y2 Y3 Y4 Y5
            obtain ⟨ca0, cb0, cc0⟩ := cat3 (show s.size + v1.size ≤ 9223372036854775807 by omega)
            obtain ⟨ca1, cb1, cc1⟩ := cat3 (show s.size + v1.size + v2.size ≤ 9223372036854775807 by omega)
            have hi0 : (0 : Int) ≤ (i : Int) := by omega
            have hi1 : (i : Int) < (ps.length : Int) := by omega
            go_wp2_with fail
            refine start_ (n := 18) (S := St w wa4.heap.size #[.int .i64 rk, .int .i64 er, .bool fd, .string val, .slice (some ad) ps.length c3, .int .u32 wc, .int .u32 wn, .int .u64 rsp, .int .u32 rsl, .int .u64 rap, .int .u32 ral, .string pr, .int .u64 np, .int .u32 nl] 35) (ds := []) #[nn, nn, nn, nn, nn, nn, nn, nn, nn, nn, nn, nn, nn, nn, nn, nn, nn, nn] (by kernel_rfl) rfl rfl (St.drew HS.out) (fun hHeld => ?_); refine with_tabW wtab22 wbits22 (fun HT_ HW_ => ?_)
            clear HS
            refine pure_ (i := 0) (N := some 167) (v := ?_) (a' := ?_) #[yy, nn, nn, nn, nn, nn, nn, nn, nn, nn, nn, nn, nn, nn, nn, nn, nn, nn] rfl rfl (any_of HT_.out (by kernel_rfl)) (fun _ _ _ h => h) (Or.inl ⟨by rfl, ?_⟩) ?_ ?_
            rotate_left
            · intro w'; go_simp; with_reducible rfl
            rotate_left
            · simp only [Act.put, List.setIfInBounds_toArray, List.set_cons_zero, List.set_cons_succ, i64_w, i32_w]; rfl
            refine pure_ (i := 1) (N := some 168) (v := ?_) (a' := ?_) #[yy, yy, nn, nn, nn, nn, nn, nn, nn, nn, nn, nn, nn, nn, nn, nn, nn, nn] rfl rfl (any_of HT_.out (by kernel_rfl)) (fun _ _ _ h => h) (Or.inl ⟨by rfl, ?_⟩) ?_ ?_
            rotate_left
            · intro w'; go_simp; with_reducible rfl
            rotate_left
            · simp only [Act.put, List.setIfInBounds_toArray, List.set_cons_zero, List.set_cons_succ, i64_w, i32_w]; rfl
            refine pure_ (i := 3) (N := some 170) (v := ?_) (a' := ?_) #[yy, yy, nn, yy, nn, nn, nn, nn, nn, nn, nn, nn, nn, nn, nn, nn, nn, nn] rfl rfl (any_of HT_.out (by kernel_rfl)) (fun _ _ _ h => h) (Or.inl ⟨by rfl, ?_⟩) ?_ ?_
            rotate_left
            · intro w'; go_simp; with_reducible rfl
            rotate_left
            · simp only [Act.put, List.setIfInBounds_toArray, List.set_cons_zero, List.set_cons_succ, i64_w, i32_w]; rfl
            refine pure_ (i := 9) (N := some 176) (v := ?_) (a' := ?_) #[yy, yy, nn, yy, nn, nn, nn, nn, nn, yy, nn, nn, nn, nn, nn, nn, nn, nn] rfl rfl (any_of HT_.out (by kernel_rfl)) (fun _ _ _ h => h) (Or.inl ⟨by rfl, ?_⟩) ?_ ?_
            rotate_left
            · intro w'; go_simp; with_reducible rfl
            rotate_left
            · simp only [Act.put, List.setIfInBounds_toArray, List.set_cons_zero, List.set_cons_succ, i64_w, i32_w]; rfl
            refine pure_ (i := 11) (N := some 178) (v := ?_) (a' := ?_) #[yy, yy, nn, yy, nn, nn, nn, nn, nn, yy, nn, yy, nn, nn, nn, nn, nn, nn] rfl rfl (any_of HT_.out (by kernel_rfl)) (fun _ _ _ h => h) (Or.inl ⟨by rfl, ?_⟩) ?_ ?_
            rotate_left
            · intro w'; go_simp; with_reducible rfl
            rotate_left
            · simp only [Act.put, List.setIfInBounds_toArray, List.set_cons_zero, List.set_cons_succ, i64_w, i32_w]; rfl
            refine take_ (i := 2) (N := some 169) (v := ?_) (a' := ?_) #[yy, yy, yy, yy, nn, nn, nn, nn, nn, yy, nn, yy, nn, nn, nn, nn, nn, nn] rfl rfl (take_ofW HT_.out HW_.out (by kernel_rfl)) (fun _ _ _ h => h) (Or.inl ⟨by rfl, ?_⟩) hHeld ?_ ?_
            rotate_left
            · intro w' hs; have s4 := hs.cell 4 (.slice (some ad) ps.length c3) rfl; go_simp; with_reducible rfl
            rotate_left
            · simp only [Act.put, List.setIfInBounds_toArray, List.set_cons_zero, List.set_cons_succ, i64_w, i32_w]; rfl
            refine pure_ (i := 4) (N := some 171) (v := ?_) (a' := ?_) #[yy, yy, yy, yy, yy, nn, nn, nn, nn, yy, nn, yy, nn, nn, nn, nn, nn, nn] rfl rfl (any_of HT_.out (by kernel_rfl)) (fun _ _ _ h => h) (Or.inl ⟨by rfl, ?_⟩) ?_ ?_
            rotate_left
            · intro w'; go_simp; with_reducible rfl
            rotate_left
            · simp only [Act.put, List.setIfInBounds_toArray, List.set_cons_zero, List.set_cons_succ, i64_w, i32_w]; rfl
            refine pure_ (i := 5) (N := some 172) (v := ?_) (a' := ?_) #[yy, yy, yy, yy, yy, yy, nn, nn, nn, yy, nn, yy, nn, nn, nn, nn, nn, nn] rfl rfl (any_of HT_.out (by kernel_rfl)) (fun _ _ _ h => h) (Or.inl ⟨by rfl, ?_⟩) ?_ ?_
            rotate_left
            · intro w'; go_simp; with_reducible rfl
            rotate_left
            · simp only [Act.put, List.setIfInBounds_toArray, List.set_cons_zero, List.set_cons_succ, i64_w, i32_w]; rfl
            refine take_ (i := 6) (N := some 173) (v := ?_) (a' := ?_) #[yy, yy, yy, yy, yy, yy, yy, nn, nn, yy, nn, yy, nn, nn, nn, nn, nn, nn] rfl rfl (take_ofW HT_.out HW_.out (by kernel_rfl)) (fun _ _ _ h => h) (Or.inl ⟨by rfl, ?_⟩) hHeld ?_ ?_
            rotate_left
            · intro w' hs; have s0 := hs.old k0; go_simp; with_reducible rfl
            rotate_left
            · simp only [Act.put, List.setIfInBounds_toArray, List.set_cons_zero, List.set_cons_succ, i64_w, i32_w]; rfl
            refine take_ (i := 10) (N := some 177) (v := ?_) (a' := ?_) #[yy, yy, yy, yy, yy, yy, yy, nn, nn, yy, yy, yy, nn, nn, nn, nn, nn, nn] rfl rfl (take_ofW HT_.out HW_.out (by kernel_rfl)) (fun _ _ _ h => h) (Or.inl ⟨by rfl, ?_⟩) hHeld ?_ ?_
            rotate_left
            · intro w' hs; have s4 := hs.cell 4 (.slice (some ad) ps.length c3) rfl; go_simp; with_reducible rfl
            rotate_left
            · simp only [Act.put, List.setIfInBounds_toArray, List.set_cons_zero, List.set_cons_succ, i64_w, i32_w]; rfl
            refine pure_ (i := 12) (N := some 179) (v := ?_) (a' := ?_) #[yy, yy, yy, yy, yy, yy, yy, nn, nn, yy, yy, yy, yy, nn, nn, nn, nn, nn] rfl rfl (any_of HT_.out (by kernel_rfl)) (fun _ _ _ h => h) (Or.inl ⟨by rfl, ?_⟩) ?_ ?_
            rotate_left
            · intro w'; go_simp; with_reducible rfl
            rotate_left
            · simp only [Act.put, List.setIfInBounds_toArray, List.set_cons_zero, List.set_cons_succ, i64_w, i32_w]; rfl
            refine pure_ (i := 13) (N := some 180) (v := ?_) (a' := ?_) #[yy, yy, yy, yy, yy, yy, yy, nn, nn, yy, yy, yy, yy, yy, nn, nn, nn, nn] rfl rfl (any_of HT_.out (by kernel_rfl)) (fun _ _ _ h => h) (Or.inl ⟨by rfl, ?_⟩) ?_ ?_
            rotate_left
            · intro w'; go_simp; with_reducible rfl
            rotate_left
            · simp only [Act.put, List.setIfInBounds_toArray, List.set_cons_zero, List.set_cons_succ, i64_w, i32_w]; rfl
            refine take_ (i := 14) (N := some 181) (v := ?_) (a' := ?_) #[yy, yy, yy, yy, yy, yy, yy, nn, nn, yy, yy, yy, yy, yy, yy, nn, nn, nn] rfl rfl (take_ofW HT_.out HW_.out (by kernel_rfl)) (fun _ _ _ h => h) (Or.inl ⟨by rfl, ?_⟩) hHeld ?_ ?_
            rotate_left
            · intro w' hs; have s0 := hs.old k1; go_simp; with_reducible rfl
            rotate_left
            · simp only [Act.put, List.setIfInBounds_toArray, List.set_cons_zero, List.set_cons_succ, i64_w, i32_w]; rfl
            refine one_ (i := 7) (N := some 174) #[yy, yy, yy, yy, yy, yy, yy, yy, nn, yy, yy, yy, yy, yy, yy, nn, nn, nn] rfl rfl (one_of HT_.out (by kernel_rfl)) (by decide) (fun K hK => ?_)
            refine goes_ Try.func23 (by kernel_rfl) rfl #[.string x0] (by rfl) rfl rfl (by (try simp only [List.map_toArray, List.map_cons, List.map_nil]); first | done | rfl) ?_
            with_reducible refine (X1.out _).mono ?_
            rintro e wc1 ⟨rfl, hb⟩
            refine ⟨_, rfl, ?_⟩
            have hh := St.go hHeld hb
            clear hHeld hb
            refine hK.out _ _ hh (fun hHeld => ?_)
            clear hK K hh
            refine norm_ (a' := ?_) ?_ ?_
            rotate_left
            · show Act.put _ (some 174) _ = _; simp only [Act.put, List.setIfInBounds_toArray, List.set_cons_zero, List.set_cons_succ, i64_w, i32_w]; rfl
            refine pure_ (i := 8) (N := some 175) (v := ?_) (a' := ?_) #[yy, yy, yy, yy, yy, yy, yy, yy, yy, yy, yy, yy, yy, yy, yy, nn, nn, nn] rfl rfl (any_of HT_.out (by kernel_rfl)) (fun _ _ _ h => h) (Or.inl ⟨by rfl, ?_⟩) ?_ ?_
            rotate_left
            · intro w'; go_simp; with_reducible rfl
            rotate_left
            · simp only [Act.put, List.setIfInBounds_toArray, List.set_cons_zero, List.set_cons_succ, i64_w, i32_w]; rfl
            refine one_ (i := 15) (N := some 182) #[yy, yy, yy, yy, yy, yy, yy, yy, yy, yy, yy, yy, yy, yy, yy, yy, nn, nn] rfl rfl (one_of HT_.out (by kernel_rfl)) (by decide) (fun K hK => ?_)
            refine goes_ Try.func23 (by kernel_rfl) rfl #[.string x1] (by rfl) rfl rfl (by (try simp only [List.map_toArray, List.map_cons, List.map_nil]); first | done | rfl) ?_
            with_reducible refine (X2.out _).mono ?_
            rintro e wc2 ⟨rfl, hb⟩
            refine ⟨_, rfl, ?_⟩
            have hh := St.go hHeld hb
            clear hHeld hb
            refine hK.out _ _ hh (fun hHeld => ?_)
            clear hK K hh
            refine norm_ (a' := ?_) ?_ ?_
            rotate_left
            · show Act.put _ (some 182) _ = _; simp only [Act.put, List.setIfInBounds_toArray, List.set_cons_zero, List.set_cons_succ, i64_w, i32_w]; rfl
            refine pure_ (i := 16) (N := some 183) (v := ?_) (a' := ?_) #[yy, yy, yy, yy, yy, yy, yy, yy, yy, yy, yy, yy, yy, yy, yy, yy, yy, nn] rfl rfl (any_of HT_.out (by kernel_rfl)) (fun _ _ _ h => h) (Or.inl ⟨by rfl, ?_⟩) ?_ ?_
            rotate_left
            · intro w'; go_simp; with_reducible rfl
            rotate_left
            · simp only [Act.put, List.setIfInBounds_toArray, List.set_cons_zero, List.set_cons_succ, i64_w, i32_w]; rfl
            refine pure_ (i := 17) (N := some 4) (v := ?_) (a' := ?_) #[yy, yy, yy, yy, yy, yy, yy, yy, yy, yy, yy, yy, yy, yy, yy, yy, yy, yy] rfl rfl (any_of HT_.out (by kernel_rfl)) (fun _ _ _ h => h) (Or.inl ⟨by rfl, ?_⟩) ?_ ?_
            rotate_left
            · intro w'; go_simp; with_reducible rfl
            rotate_left
            · simp only [Act.put, List.setIfInBounds_toArray, List.set_cons_zero, List.set_cons_succ, i64_w, i32_w]; rfl
            refine done_ (done_of HT_.out (by kernel_rfl)) ?_
            have HS := Lib.hid hHeld
            clear hHeld HT_ HW_
            have hlx := lt_at HS.out.2
            go_wp2_with fail
            go_roundg (gk - 1)
            case measure => have := HG.out; omega
            case rel => exact ⟨i + 1, by omega, by rw [← HSTR.out], by go_num, ⟨by have := HG.out; omega⟩, ⟨HS.out⟩⟩
          · as_aux_lemma =>
            obtain ⟨s, hs⟩ : ∃ s, s = m2 ++ encs encP (ps.take ps.length) := ⟨_, rfl⟩
            have zs : s.size ≤ 11000 := by rw [hs, ByteArray.size_append]; omega
            rw [← hs]
            have HFIN : Hid (s ++ y1 ++ y2 ++ y3 ++ y4 ++ y5 = encL ⟨cl, sh, sq, true, ⟨k, bc, bn, sp, sl, ap, al, key, tt, lim, parts, ws, sk⟩, ⟨rk, er, fd, val, ps, wc, wn, rsp, rsl, rap, ral, pr, np, nl⟩⟩) := Lib.hid (by
              obtain ⟨e1, e2, e3, e4⟩ := HE.out
              obtain ⟨f1, f2, f3, f4, f5, f6, f7, f8, f9, f10⟩ := HE2.out
              unfold encL encRep
              dsimp only
              rw [if_pos rfl, e1, e2, e3, e4, f1, f2, f3, f4, f5, f6, f7, f8, f9, f10, hs, List.take_length, HM2.out, HM.out]
              simp only [ByteArray.append_assoc])
            clear hs HE HE2 HM HM2 HPX hsz
            obtain ⟨ca0, cb0, cc0⟩ := cat3 (show s.size + y1.size ≤ 9223372036854775807 by omega)
            obtain ⟨ca1, cb1, cc1⟩ := cat3 (show s.size + y1.size + y2.size ≤ 9223372036854775807 by omega)
            obtain ⟨ca2, cb2, cc2⟩ := cat3 (show s.size + y1.size + y2.size + y3.size ≤ 9223372036854775807 by omega)
            obtain ⟨ca3, cb3, cc3⟩ := cat3 (show s.size + y1.size + y2.size + y3.size + y4.size ≤ 9223372036854775807 by omega)
            obtain ⟨ca4, cb4, cc4⟩ := cat3 (show s.size + y1.size + y2.size + y3.size + y4.size + y5.size ≤ 9223372036854775807 by omega)
            go_wp2_with fail
            refine start_ (n := 23) (S := St w wa4.heap.size #[.int .i64 rk, .int .i64 er, .bool fd, .string val, .slice A3 ps.length c3, .int .u32 wc, .int .u32 wn, .int .u64 rsp, .int .u32 rsl, .int .u64 rap, .int .u32 ral, .string pr, .int .u64 np, .int .u32 nl] 35) (ds := []) #[nn, nn, nn, nn, nn, nn, nn, nn, nn, nn, nn, nn, nn, nn, nn, nn, nn, nn, nn, nn, nn, nn, nn] (by kernel_rfl) rfl rfl (St.drew HS.out) (fun hHeld => ?_); refine with_tabW wtab23 wbits23 (fun HT_ HW_ => ?_)
            clear HS
            refine pure_ (i := 0) (N := some 184) (v := ?_) (a' := ?_) #[yy, nn, nn, nn, nn, nn, nn, nn, nn, nn, nn, nn, nn, nn, nn, nn, nn, nn, nn, nn, nn, nn, nn] rfl rfl (any_of HT_.out (by kernel_rfl)) (fun _ _ _ h => h) (Or.inl ⟨by rfl, ?_⟩) ?_ ?_
            rotate_left
            · intro w'; go_simp; with_reducible rfl
            rotate_left
            · simp only [Act.put, List.setIfInBounds_toArray, List.set_cons_zero, List.set_cons_succ, i64_w, i32_w]; rfl
            refine pure_ (i := 1) (N := some 185) (v := ?_) (a' := ?_) #[yy, yy, nn, nn, nn, nn, nn, nn, nn, nn, nn, nn, nn, nn, nn, nn, nn, nn, nn, nn, nn, nn, nn] rfl rfl (any_of HT_.out (by kernel_rfl)) (fun _ _ _ h => h) (Or.inl ⟨by rfl, ?_⟩) ?_ ?_
            rotate_left
            · intro w'; go_simp; with_reducible rfl
            rotate_left
            · simp only [Act.put, List.setIfInBounds_toArray, List.set_cons_zero, List.set_cons_succ, i64_w, i32_w]; rfl
            refine pure_ (i := 5) (N := some 189) (v := ?_) (a' := ?_) #[yy, yy, nn, nn, nn, yy, nn, nn, nn, nn, nn, nn, nn, nn, nn, nn, nn, nn, nn, nn, nn, nn, nn] rfl rfl (any_of HT_.out (by kernel_rfl)) (fun _ _ _ h => h) (Or.inl ⟨by rfl, ?_⟩) ?_ ?_
            rotate_left
            · intro w'; go_simp; with_reducible rfl
            rotate_left
            · simp only [Act.put, List.setIfInBounds_toArray, List.set_cons_zero, List.set_cons_succ, i64_w, i32_w]; rfl
            refine pure_ (i := 9) (N := some 193) (v := ?_) (a' := ?_) #[yy, yy, nn, nn, nn, yy, nn, nn, nn, yy, nn, nn, nn, nn, nn, nn, nn, nn, nn, nn, nn, nn, nn] rfl rfl (any_of HT_.out (by kernel_rfl)) (fun _ _ _ h => h) (Or.inl ⟨by rfl, ?_⟩) ?_ ?_
            rotate_left
            · intro w'; go_simp; with_reducible rfl
            rotate_left
            · simp only [Act.put, List.setIfInBounds_toArray, List.set_cons_zero, List.set_cons_succ, i64_w, i32_w]; rfl
            refine pure_ (i := 13) (N := some 197) (v := ?_) (a' := ?_) #[yy, yy, nn, nn, nn, yy, nn, nn, nn, yy, nn, nn, nn, yy, nn, nn, nn, nn, nn, nn, nn, nn, nn] rfl rfl (any_of HT_.out (by kernel_rfl)) (fun _ _ _ h => h) (Or.inl ⟨by rfl, ?_⟩) ?_ ?_
            rotate_left
            · intro w'; go_simp; with_reducible rfl
            rotate_left
            · simp only [Act.put, List.setIfInBounds_toArray, List.set_cons_zero, List.set_cons_succ, i64_w, i32_w]; rfl
            refine pure_ (i := 17) (N := some 201) (v := ?_) (a' := ?_) #[yy, yy, nn, nn, nn, yy, nn, nn, nn, yy, nn, nn, nn, yy, nn, nn, nn, yy, nn, nn, nn, nn, nn] rfl rfl (any_of HT_.out (by kernel_rfl)) (fun _ _ _ h => h) (Or.inl ⟨by rfl, ?_⟩) ?_ ?_
            rotate_left
            · intro w'; go_simp; with_reducible rfl
            rotate_left
            · simp only [Act.put, List.setIfInBounds_toArray, List.set_cons_zero, List.set_cons_succ, i64_w, i32_w]; rfl
            refine take_ (i := 2) (N := some 186) (v := ?_) (a' := ?_) #[yy, yy, yy, nn, nn, yy, nn, nn, nn, yy, nn, nn, nn, yy, nn, nn, nn, yy, nn, nn, nn, nn, nn] rfl rfl (take_ofW HT_.out HW_.out (by kernel_rfl)) (fun _ _ _ h => h) (Or.inl ⟨by rfl, ?_⟩) hHeld ?_ ?_
            rotate_left
            · intro w' hs; have s5 := hs.cell 5 (.int .u32 wc) rfl; have s6 := hs.cell 6 (.int .u32 wn) rfl; go_simp; with_reducible rfl
            rotate_left
            · simp only [Act.put, List.setIfInBounds_toArray, List.set_cons_zero, List.set_cons_succ, i64_w, i32_w]; rfl
            refine take_ (i := 6) (N := some 190) (v := ?_) (a' := ?_) #[yy, yy, yy, nn, nn, yy, yy, nn, nn, yy, nn, nn, nn, yy, nn, nn, nn, yy, nn, nn, nn, nn, nn] rfl rfl (take_ofW HT_.out HW_.out (by kernel_rfl)) (fun _ _ _ h => h) (Or.inl ⟨by rfl, ?_⟩) hHeld ?_ ?_
            rotate_left
            · intro w' hs; have s7 := hs.cell 7 (.int .u64 rsp) rfl; have s8 := hs.cell 8 (.int .u32 rsl) rfl; go_simp; with_reducible rfl
            rotate_left
            · simp only [Act.put, List.setIfInBounds_toArray, List.set_cons_zero, List.set_cons_succ, i64_w, i32_w]; rfl
            refine take_ (i := 10) (N := some 194) (v := ?_) (a' := ?_) #[yy, yy, yy, nn, nn, yy, yy, nn, nn, yy, yy, nn, nn, yy, nn, nn, nn, yy, nn, nn, nn, nn, nn] rfl rfl (take_ofW HT_.out HW_.out (by kernel_rfl)) (fun _ _ _ h => h) (Or.inl ⟨by rfl, ?_⟩) hHeld ?_ ?_
            rotate_left
            · intro w' hs; have s9 := hs.cell 9 (.int .u64 rap) rfl; have s10 := hs.cell 10 (.int .u32 ral) rfl; go_simp; with_reducible rfl
            rotate_left
            · simp only [Act.put, List.setIfInBounds_toArray, List.set_cons_zero, List.set_cons_succ, i64_w, i32_w]; rfl
            refine take_ (i := 14) (N := some 198) (v := ?_) (a' := ?_) #[yy, yy, yy, nn, nn, yy, yy, nn, nn, yy, yy, nn, nn, yy, yy, nn, nn, yy, nn, nn, nn, nn, nn] rfl rfl (take_ofW HT_.out HW_.out (by kernel_rfl)) (fun _ _ _ h => h) (Or.inl ⟨by rfl, ?_⟩) hHeld ?_ ?_
            rotate_left
            · intro w' hs; have s11 := hs.cell 11 (.string pr) rfl; go_simp; with_reducible rfl
            rotate_left
            · simp only [Act.put, List.setIfInBounds_toArray, List.set_cons_zero, List.set_cons_succ, i64_w, i32_w]; rfl
            refine take_ (i := 18) (N := some 202) (v := ?_) (a' := ?_) #[yy, yy, yy, nn, nn, yy, yy, nn, nn, yy, yy, nn, nn, yy, yy, nn, nn, yy, yy, nn, nn, nn, nn] rfl rfl (take_ofW HT_.out HW_.out (by kernel_rfl)) (fun _ _ _ h => h) (Or.inl ⟨by rfl, ?_⟩) hHeld ?_ ?_
            rotate_left
            · intro w' hs; have s12 := hs.cell 12 (.int .u64 np) rfl; have s13 := hs.cell 13 (.int .u32 nl) rfl; go_simp; with_reducible rfl
            rotate_left
            · simp only [Act.put, List.setIfInBounds_toArray, List.set_cons_zero, List.set_cons_succ, i64_w, i32_w]; rfl
            refine one_ (i := 3) (N := some 187) #[yy, yy, yy, yy, nn, yy, yy, nn, nn, yy, yy, nn, nn, yy, yy, nn, nn, yy, yy, nn, nn, nn, nn] rfl rfl (one_of HT_.out (by kernel_rfl)) (by decide) (fun K hK => ?_)
            refine goes_ Try.func21 (by kernel_rfl) rfl #[.agg #[.int .u32 wc, .int .u32 wn]] (by rfl) rfl rfl (by (try simp only [List.map_toArray, List.map_cons, List.map_nil]); first | done | rfl) ?_
            with_reducible refine (Y1.out _).mono ?_
            rintro e wd1 ⟨rfl, hb⟩
            refine ⟨_, rfl, ?_⟩
            have hh := St.go hHeld hb
            clear hHeld hb
            refine hK.out _ _ hh (fun hHeld => ?_)
            clear hK K hh
            refine norm_ (a' := ?_) ?_ ?_
            rotate_left
            · show Act.put _ (some 187) _ = _; simp only [Act.put, List.setIfInBounds_toArray, List.set_cons_zero, List.set_cons_succ, i64_w, i32_w]; rfl
            refine pure_ (i := 4) (N := some 188) (v := ?_) (a' := ?_) #[yy, yy, yy, yy, yy, yy, yy, nn, nn, yy, yy, nn, nn, yy, yy, nn, nn, yy, yy, nn, nn, nn, nn] rfl rfl (any_of HT_.out (by kernel_rfl)) (fun _ _ _ h => h) (Or.inl ⟨by rfl, ?_⟩) ?_ ?_
            rotate_left
            · intro w'; go_simp; with_reducible rfl
            rotate_left
            · simp only [Act.put, List.setIfInBounds_toArray, List.set_cons_zero, List.set_cons_succ, i64_w, i32_w]; rfl
            refine one_ (i := 7) (N := some 191) #[yy, yy, yy, yy, yy, yy, yy, yy, nn, yy, yy, nn, nn, yy, yy, nn, nn, yy, yy, nn, nn, nn, nn] rfl rfl (one_of HT_.out (by kernel_rfl)) (by decide) (fun K hK => ?_)
            refine goes_ Try.func22 (by kernel_rfl) rfl #[.agg #[.int .u64 rsp, .int .u32 rsl]] (by rfl) rfl rfl (by (try simp only [List.map_toArray, List.map_cons, List.map_nil]); first | done | rfl) ?_
            with_reducible refine (Y2.out _).mono ?_
            rintro e wd2 ⟨rfl, hb⟩
            refine ⟨_, rfl, ?_⟩
            have hh := St.go hHeld hb
            clear hHeld hb
            refine hK.out _ _ hh (fun hHeld => ?_)
            clear hK K hh
            refine norm_ (a' := ?_) ?_ ?_
            rotate_left
            · show Act.put _ (some 191) _ = _; simp only [Act.put, List.setIfInBounds_toArray, List.set_cons_zero, List.set_cons_succ, i64_w, i32_w]; rfl
            refine pure_ (i := 8) (N := some 192) (v := ?_) (a' := ?_) #[yy, yy, yy, yy, yy, yy, yy, yy, yy, yy, yy, nn, nn, yy, yy, nn, nn, yy, yy, nn, nn, nn, nn] rfl rfl (any_of HT_.out (by kernel_rfl)) (fun _ _ _ h => h) (Or.inl ⟨by rfl, ?_⟩) ?_ ?_
            rotate_left
            · intro w'; go_simp; with_reducible rfl
            rotate_left
            · simp only [Act.put, List.setIfInBounds_toArray, List.set_cons_zero, List.set_cons_succ, i64_w, i32_w]; rfl
            refine one_ (i := 11) (N := some 195) #[yy, yy, yy, yy, yy, yy, yy, yy, yy, yy, yy, yy, nn, yy, yy, nn, nn, yy, yy, nn, nn, nn, nn] rfl rfl (one_of HT_.out (by kernel_rfl)) (by decide) (fun K hK => ?_)
            refine goes_ Try.func22 (by kernel_rfl) rfl #[.agg #[.int .u64 rap, .int .u32 ral]] (by rfl) rfl rfl (by (try simp only [List.map_toArray, List.map_cons, List.map_nil]); first | done | rfl) ?_
            with_reducible refine (Y3.out _).mono ?_
            rintro e wd3 ⟨rfl, hb⟩
            refine ⟨_, rfl, ?_⟩
            have hh := St.go hHeld hb
            clear hHeld hb
            refine hK.out _ _ hh (fun hHeld => ?_)
            clear hK K hh
            refine norm_ (a' := ?_) ?_ ?_
            rotate_left
            · show Act.put _ (some 195) _ = _; simp only [Act.put, List.setIfInBounds_toArray, List.set_cons_zero, List.set_cons_succ, i64_w, i32_w]; rfl
            refine pure_ (i := 12) (N := some 196) (v := ?_) (a' := ?_) #[yy, yy, yy, yy, yy, yy, yy, yy, yy, yy, yy, yy, yy, yy, yy, nn, nn, yy, yy, nn, nn, nn, nn] rfl rfl (any_of HT_.out (by kernel_rfl)) (fun _ _ _ h => h) (Or.inl ⟨by rfl, ?_⟩) ?_ ?_
            rotate_left
            · intro w'; go_simp; with_reducible rfl
            rotate_left
            · simp only [Act.put, List.setIfInBounds_toArray, List.set_cons_zero, List.set_cons_succ, i64_w, i32_w]; rfl
            refine one_ (i := 15) (N := some 199) #[yy, yy, yy, yy, yy, yy, yy, yy, yy, yy, yy, yy, yy, yy, yy, yy, nn, yy, yy, nn, nn, nn, nn] rfl rfl (one_of HT_.out (by kernel_rfl)) (by decide) (fun K hK => ?_)
            refine goes_ Try.func23 (by kernel_rfl) rfl #[.string pr] (by rfl) rfl rfl (by (try simp only [List.map_toArray, List.map_cons, List.map_nil]); first | done | rfl) ?_
            with_reducible refine (Y4.out _).mono ?_
            rintro e wd4 ⟨rfl, hb⟩
            refine ⟨_, rfl, ?_⟩
            have hh := St.go hHeld hb
            clear hHeld hb
            refine hK.out _ _ hh (fun hHeld => ?_)
            clear hK K hh
            refine norm_ (a' := ?_) ?_ ?_
            rotate_left
            · show Act.put _ (some 199) _ = _; simp only [Act.put, List.setIfInBounds_toArray, List.set_cons_zero, List.set_cons_succ, i64_w, i32_w]; rfl
            refine pure_ (i := 16) (N := some 200) (v := ?_) (a' := ?_) #[yy, yy, yy, yy, yy, yy, yy, yy, yy, yy, yy, yy, yy, yy, yy, yy, yy, yy, yy, nn, nn, nn, nn] rfl rfl (any_of HT_.out (by kernel_rfl)) (fun _ _ _ h => h) (Or.inl ⟨by rfl, ?_⟩) ?_ ?_
            rotate_left
            · intro w'; go_simp; with_reducible rfl
            rotate_left
            · simp only [Act.put, List.setIfInBounds_toArray, List.set_cons_zero, List.set_cons_succ, i64_w, i32_w]; rfl
            refine one_ (i := 19) (N := some 203) #[yy, yy, yy, yy, yy, yy, yy, yy, yy, yy, yy, yy, yy, yy, yy, yy, yy, yy, yy, yy, nn, nn, nn] rfl rfl (one_of HT_.out (by kernel_rfl)) (by decide) (fun K hK => ?_)
            refine goes_ Try.func22 (by kernel_rfl) rfl #[.agg #[.int .u64 np, .int .u32 nl]] (by rfl) rfl rfl (by (try simp only [List.map_toArray, List.map_cons, List.map_nil]); first | done | rfl) ?_
            with_reducible refine (Y5.out _).mono ?_
            rintro e wd5 ⟨rfl, hb⟩
            refine ⟨_, rfl, ?_⟩
            have hh := St.go hHeld hb
            clear hHeld hb
            refine hK.out _ _ hh (fun hHeld => ?_)
            clear hK K hh
            refine norm_ (a' := ?_) ?_ ?_
            rotate_left
            · show Act.put _ (some 203) _ = _; simp only [Act.put, List.setIfInBounds_toArray, List.set_cons_zero, List.set_cons_succ, i64_w, i32_w]; rfl
            refine pure_ (i := 20) (N := some 204) (v := ?_) (a' := ?_) #[yy, yy, yy, yy, yy, yy, yy, yy, yy, yy, yy, yy, yy, yy, yy, yy, yy, yy, yy, yy, yy, nn, nn] rfl rfl (any_of HT_.out (by kernel_rfl)) (fun _ _ _ h => h) (Or.inl ⟨by rfl, ?_⟩) ?_ ?_
            rotate_left
            · intro w'; go_simp; with_reducible rfl
            rotate_left
            · simp only [Act.put, List.setIfInBounds_toArray, List.set_cons_zero, List.set_cons_succ, i64_w, i32_w]; rfl
            refine pure_ (i := 21) (N := some 2) (v := ?_) (a' := ?_) #[yy, yy, yy, yy, yy, yy, yy, yy, yy, yy, yy, yy, yy, yy, yy, yy, yy, yy, yy, yy, yy, yy, nn] rfl rfl (any_of HT_.out (by kernel_rfl)) (fun _ _ _ h => h) (Or.inl ⟨by rfl, ?_⟩) ?_ ?_
            rotate_left
            · intro w'; go_simp; with_reducible rfl
            rotate_left
            · simp only [Act.put, List.setIfInBounds_toArray, List.set_cons_zero, List.set_cons_succ, i64_w, i32_w]; rfl
            refine pure_ (i := 22) (N := some 3) (v := ?_) (a' := ?_) #[yy, yy, yy, yy, yy, yy, yy, yy, yy, yy, yy, yy, yy, yy, yy, yy, yy, yy, yy, yy, yy, yy, yy] rfl rfl (any_of HT_.out (by kernel_rfl)) (fun _ _ _ h => h) (Or.inl ⟨by rfl, ?_⟩) ?_ ?_
            rotate_left
            · intro w'; go_simp; with_reducible rfl
            rotate_left
            · simp only [Act.put, List.setIfInBounds_toArray, List.set_cons_zero, List.set_cons_succ, i64_w, i32_w]; rfl
            refine done_ (done_of HT_.out (by kernel_rfl)) ?_
            have HS := Lib.hid hHeld
            clear hHeld HT_ HW_
            go_wp2_with fail
            go_ret2
            exact ⟨by rw [HR.out, ← HFIN.out]; rfl, HS.out.1⟩
end Go.Proofs.Ytjfokbkfniilhaa
