/- What Read reads of what Write wrote. No program in sight. -/
import Derived.Test.YtjfokbkfniilhaaLi
import Derived.Test.YtjfokbkfniilhaaLk
set_option linter.unusedVariables false
set_option linter.unusedSimpArgs false
namespace Go.Proofs.Ytjfokbkfniilhaa
open Go.RowKit Go.Proofs.YtjfokbkfniilhaaW.PrintWords Go.Proofs.Ytjfokbkfniilhaa.PLa Go.Proofs.Ytjfokbkfniilhaa.PRd
theorem rdTx_enc (x t : ByteArray) (m : Int) (h : (x.size : Int) ≤ m) (h2 : x.size ≤ 9223372036854775807) : rdText (txE x ++ t) 0 0 m = (x, t, 0) := rdText_enc x t 0 m h2 (by omega) h
theorem rdX_enc (x : S24) (t : ByteArray) (h : U32 x.f0 ∧ U32 x.f1) : rdX (encX x ++ t) 0 = (x, t, 0) := by
  obtain ⟨a, b⟩ := x
  obtain ⟨⟨a0, a1⟩, ⟨b0, b1⟩⟩ := h
  dsimp only at *
  have h1 := rdNum_enc a 4294967295 (encB b ++ t) a0 (by omega) a1
  have h2 := rdNum_enc b 4294967295 t b0 (by omega) b1
  simp only [rdX, encX, ByteArray.append_assoc, h1, h2]
theorem rdW_enc (x : S66) (t : ByteArray) (h : okT x.f0 x.f1) : rdW (encW x ++ t) 0 = (x, t, 0) := by
  obtain ⟨a, b, c⟩ := x
  obtain ⟨h0, h1⟩ := h
  dsimp only at *
  have h2 := rdTx_enc a (encF c ++ (txE b ++ t)) 32 (by omega) (by omega)
  have h3 := rdFlag_enc c (txE b ++ t)
  have h4 := rdTx_enc b t 256 (by omega) (by omega)
  simp only [rdW, encW, ByteArray.append_assoc, h2, h3, h4]
theorem rdP_enc (x : S68) (t : ByteArray) (h : okT x.f0 x.f1) : rdP (encP x ++ t) 0 = (x, t, 0) := by
  obtain ⟨a, b⟩ := x
  obtain ⟨h0, h1⟩ := h
  dsimp only at *
  have h2 := rdTx_enc a (txE b ++ t) 32 (by omega) (by omega)
  have h4 := rdTx_enc b t 256 (by omega) (by omega)
  simp only [rdP, encP, ByteArray.append_assoc, h2, h4]
theorem lstR_enc {α : Type} (f : α → ByteArray) (one : ByteArray → Int → α × ByteArray × Int) (ok : α → Prop) (h1 : ∀ x t, ok x → one (f x ++ t) 0 = (x, t, 0)) : ∀ (l : List α) (t : ByteArray), (∀ x ∈ l, ok x) → lstR one l.length (encs f l ++ t) 0 = (l, t, 0) := by
  intro l
  induction l with
  | nil => intro t _; simp [lstR, encs]
  | cons x l ih =>
    intro t h
    have h2 := h1 x (encs f l ++ t) (h x (List.mem_cons_self ..))
    have h3 := ih t (fun y hy => h y (List.mem_cons_of_mem _ hy))
    simp only [List.length_cons, lstR, encs, ByteArray.append_assoc, h2, h3]
theorem rts_le {p l : Int} (h : rts p l = true) : p ≤ 281474976710656 ∧ l ≤ 4095 := by
  unfold rts at h
  simpa using h
theorem rdAsk_enc (q : Rq) (t : ByteArray) (F : AskFacts q) (hs1 : rts q.sp q.sl = true) (hs2 : rts q.ap q.al = true) : rdAsk (encAsk q ++ t) 0 = (q, t, 0) := by
  obtain ⟨k, bc, bn, sp, sl, ap, al, key, tt, lim, parts, ws, sk⟩ := q
  obtain ⟨⟨hk, hbc, hbn, hsp, hsl, hap, hal, hlim, hparts, hws, hsk, skx⟩, ⟨hk0, hk1⟩, ⟨hl0, hl1⟩, hkey, htt, hw16, hs16, wx⟩ := F
  have s1 := rts_le hs1
  have s2 := rts_le hs2
  unfold U32 at hbc hbn hsl hal
  unfold U64 at hsp hap
  dsimp only at *
  obtain ⟨t11, e11⟩ : ∃ x, x = encs encX sk ++ t := ⟨_, rfl⟩
  obtain ⟨t10, e10⟩ : ∃ x, x = encB (sk.length : Int) ++ t11 := ⟨_, rfl⟩
  obtain ⟨t9, e9⟩ : ∃ x, x = encs encW ws ++ t10 := ⟨_, rfl⟩
  obtain ⟨t8, e8⟩ : ∃ x, x = encB (ws.length : Int) ++ t9 := ⟨_, rfl⟩
  obtain ⟨t7, e7⟩ : ∃ x, x = encB parts ++ t8 := ⟨_, rfl⟩
  obtain ⟨t6, e6⟩ : ∃ x, x = encB lim ++ t7 := ⟨_, rfl⟩
  obtain ⟨t5, e5⟩ : ∃ x, x = txE tt ++ t6 := ⟨_, rfl⟩
  obtain ⟨t4, e4⟩ : ∃ x, x = txE key ++ t5 := ⟨_, rfl⟩
  obtain ⟨t3, e3⟩ : ∃ x, x = (encB ap ++ encB al) ++ t4 := ⟨_, rfl⟩
  obtain ⟨t2, e2⟩ : ∃ x, x = (encB sp ++ encB sl) ++ t3 := ⟨_, rfl⟩
  obtain ⟨t1, e1⟩ : ∃ x, x = (encB bc ++ encB bn) ++ t2 := ⟨_, rfl⟩
  obtain ⟨t0, e0⟩ : ∃ x, x = encB k ++ t1 := ⟨_, rfl⟩
  have E : encAsk ⟨k, bc, bn, sp, sl, ap, al, key, tt, lim, parts, ws, sk⟩ ++ t = t0 := by rw [e0, e1, e2, e3, e4, e5, e6, e7, e8, e9, e10, e11]; simp only [encAsk, ByteArray.append_assoc]
  have h0 : rdNum t0 0 9 = (k, t1, 0) := by rw [e0]; exact rdNum_enc k 9 t1 (by omega) (by omega) (by omega)
  have h1 : rdX t1 0 = ((⟨bc, bn⟩ : S24), t2, 0) := by rw [e1]; exact rdX_enc ⟨bc, bn⟩ t2 ⟨hbc, hbn⟩
  have h2 : rdStamp t2 0 = (sp, sl, t3, 0) := by rw [e2]; exact rdStamp_enc sp sl t3 (by omega) s1.1 (by omega) s1.2
  have h3 : rdStamp t3 0 = (ap, al, t4, 0) := by rw [e3]; exact rdStamp_enc ap al t4 (by omega) s2.1 (by omega) s2.2
  have h4 : rdText t4 0 0 32 = (key, t5, 0) := by rw [e4]; exact rdTx_enc key t5 32 (by omega) (by omega)
  have h5 : rdText t5 0 0 32 = (tt, t6, 0) := by rw [e5]; exact rdTx_enc tt t6 32 (by omega) (by omega)
  have h6 : rdNum t6 0 32 = (lim, t7, 0) := by rw [e6]; exact rdNum_enc lim 32 t7 (by omega) (by omega) (by omega)
  have h7 : rdNum t7 0 255 = (parts, t8, 0) := by rw [e7]; exact rdNum_enc parts 255 t8 (by omega) (by omega) (by omega)
  have h8 : rdCount t8 0 16 = ((ws.length : Int), t9, 0) := by rw [e8]; exact (show rdNum (encB (ws.length : Int) ++ t9) 0 (mx 16 0) = _ by rw [show mx 16 0 = 16 from by decide]; exact rdNum_enc _ _ _ (by omega) (by omega) (by omega))
  have h9 : lstR rdW ws.length t9 0 = (ws, t10, 0) := by rw [e9]; exact lstR_enc encW rdW (fun x => okT x.f0 x.f1) (fun x t h => rdW_enc x t h) ws t10 wx
  have h10 : rdCount t10 0 16 = ((sk.length : Int), t11, 0) := by rw [e10]; exact (show rdNum (encB (sk.length : Int) ++ t11) 0 (mx 16 0) = _ by rw [show mx 16 0 = 16 from by decide]; exact rdNum_enc _ _ _ (by omega) (by omega) (by omega))
  have h11 : lstR rdX sk.length t11 0 = (sk, t, 0) := by rw [e11]; exact lstR_enc encX rdX (fun x => U32 x.f0 ∧ U32 x.f1) (fun x t h => rdX_enc x t h) sk t skx
  rw [E]
  simp only [rdAsk, h0, h1, h2, h3, h4, h5, h6, h7, h8, h9, h10, h11, Int.toNat_natCast]
theorem rdRep_enc (r : Rp) (t : ByteArray) (F : RepFacts r) (hs1 : rts r.sp r.sl = true) (hs2 : rts r.ap r.al = true) (hs3 : rts r.np r.nl = true) : rdRep (encRep r ++ t) 0 = (r, t, 0) := by
  obtain ⟨k, er, fd, val, ps, wc, wn, sp, sl, ap, al, pr, np, nl⟩ := r
  obtain ⟨⟨pk, per, pps, pwc, pwn, psp, psl, pap, pal, pnp, pnl⟩, ⟨hk0, hk1⟩, ⟨hl0, hl1⟩, hpr, hval, hp32, px⟩ := F
  have s1 := rts_le hs1
  have s2 := rts_le hs2
  have s3 := rts_le hs3
  unfold U32 at pwc pwn psl pal pnl
  unfold U64 at psp pap pnp
  dsimp only at *
  obtain ⟨t10, e10⟩ : ∃ x, x = (encB np ++ encB nl) ++ t := ⟨_, rfl⟩
  obtain ⟨t9, e9⟩ : ∃ x, x = txE pr ++ t10 := ⟨_, rfl⟩
  obtain ⟨t8, e8⟩ : ∃ x, x = (encB ap ++ encB al) ++ t9 := ⟨_, rfl⟩
  obtain ⟨t7, e7⟩ : ∃ x, x = (encB sp ++ encB sl) ++ t8 := ⟨_, rfl⟩
  obtain ⟨t6, e6⟩ : ∃ x, x = (encB wc ++ encB wn) ++ t7 := ⟨_, rfl⟩
  obtain ⟨t5, e5⟩ : ∃ x, x = encs encP ps ++ t6 := ⟨_, rfl⟩
  obtain ⟨t4, e4⟩ : ∃ x, x = encB (ps.length : Int) ++ t5 := ⟨_, rfl⟩
  obtain ⟨t3, e3⟩ : ∃ x, x = txE val ++ t4 := ⟨_, rfl⟩
  obtain ⟨t2, e2⟩ : ∃ x, x = encF fd ++ t3 := ⟨_, rfl⟩
  obtain ⟨t1, e1⟩ : ∃ x, x = encB er ++ t2 := ⟨_, rfl⟩
  obtain ⟨t0, e0⟩ : ∃ x, x = encB k ++ t1 := ⟨_, rfl⟩
  have E : encRep ⟨k, er, fd, val, ps, wc, wn, sp, sl, ap, al, pr, np, nl⟩ ++ t = t0 := by rw [e0, e1, e2, e3, e4, e5, e6, e7, e8, e9, e10]; simp only [encRep, ByteArray.append_assoc]
  have h0 : rdNum t0 0 10 = (k, t1, 0) := by rw [e0]; exact rdNum_enc k 10 t1 (by omega) (by omega) (by omega)
  have h1 : rdNum t1 0 255 = (er, t2, 0) := by rw [e1]; exact rdNum_enc er 255 t2 (by omega) (by omega) (by omega)
  have h2 : rdFlag t2 0 = (fd, t3, 0) := by rw [e2]; exact rdFlag_enc fd t3
  have h3 : rdText t3 0 0 256 = (val, t4, 0) := by rw [e3]; exact rdTx_enc val t4 256 (by omega) (by omega)
  have h4 : rdCount t4 0 32 = ((ps.length : Int), t5, 0) := by rw [e4]; exact (show rdNum (encB (ps.length : Int) ++ t5) 0 (mx 32 0) = _ by rw [show mx 32 0 = 32 from by decide]; exact rdNum_enc _ _ _ (by omega) (by omega) (by omega))
  have h5 : lstR rdP ps.length t5 0 = (ps, t6, 0) := by rw [e5]; exact lstR_enc encP rdP (fun x => okT x.f0 x.f1) (fun x t h => rdP_enc x t h) ps t6 px
  have h6 : rdX t6 0 = ((⟨wc, wn⟩ : S24), t7, 0) := by rw [e6]; exact rdX_enc ⟨wc, wn⟩ t7 ⟨pwc, pwn⟩
  have h7 : rdStamp t7 0 = (sp, sl, t8, 0) := by rw [e7]; exact rdStamp_enc sp sl t8 (by omega) s1.1 (by omega) s1.2
  have h8 : rdStamp t8 0 = (ap, al, t9, 0) := by rw [e8]; exact rdStamp_enc ap al t9 (by omega) s2.1 (by omega) s2.2
  have h9 : rdText t9 0 0 32 = (pr, t10, 0) := by rw [e9]; exact rdTx_enc pr t10 32 (by omega) (by omega)
  have h10 : rdStamp t10 0 = (np, nl, t, 0) := by rw [e10]; exact rdStamp_enc np nl t (by omega) s3.1 (by omega) s3.2
  rw [E]
  simp only [rdRep, h0, h1, h2, h3, h4, h5, h6, h7, h8, h9, h10, Int.toNat_natCast]
theorem read_encL (l : Lt) (hl : LOk l) (h : rightR l = true) : readR (encL l) = (l, 0) := by
  have hr := h
  obtain ⟨cl, sh, sq, an, q, r⟩ := l
  obtain ⟨⟨c0, c1⟩, ⟨s0, s1⟩, ⟨q0, q1⟩, hq, hp⟩ := hl
  dsimp only at *
  unfold rightR at h
  dsimp only at h
  split at h
  · cases h
  rename_i hcl
  split at h
  · cases h
  rename_i hsh
  have hE : rdEnd ByteArray.empty 0 = 0 := by decide
  cases an with
  | true =>
    rw [if_pos rfl, Bool.and_eq_true] at h
    obtain ⟨hz, hy⟩ := h
    obtain rfl := zq_eq q hz
    have F := repFacts r hp hy
    have hy2 := hy
    unfold replyR at hy2
    simp only [Bool.and_eq_true, decide_eq_true_eq] at hy2
    have h1 := rdNum_enc cl 3 (encB sh ++ (encB sq ++ (encF true ++ encRep r))) c0 (by omega) (by omega)
    have h2 := rdNum_enc sh 7 (encB sq ++ (encF true ++ encRep r)) s0 (by omega) (by omega)
    have h3 := rdNum_enc sq 4294967295 (encF true ++ encRep r) q0 (by omega) (by omega)
    have h4 := rdFlag_enc true (encRep r)
    have h5 := rdRep_enc r ByteArray.empty F hy2.2.1.1.2.1.1 hy2.2.1.1.2.1.2 hy2.2.1.1.2.2
    rw [ByteArray.append_empty] at h5
    have hP : rdParts (encL ⟨cl, sh, sq, true, zRq, r⟩) = (⟨cl, sh, sq, true, zRq, r⟩, ByteArray.empty, 0) := by
      simp only [rdParts, encL, ByteArray.append_assoc, if_true, h1, h2, h3, h4, h5]
    unfold readR
    rw [hP]
    dsimp only
    rw [if_pos hE, if_pos hr]
  | false =>
    rw [if_neg (by decide), Bool.and_eq_true] at h
    obtain ⟨hz, hy⟩ := h
    obtain rfl := zr_eq r hz
    have F := askFacts q hq hy
    have hy2 := hy
    unfold askR at hy2
    simp only [Bool.and_eq_true, decide_eq_true_eq] at hy2
    have h1 := rdNum_enc cl 3 (encB sh ++ (encB sq ++ (encF false ++ encAsk q))) c0 (by omega) (by omega)
    have h2 := rdNum_enc sh 7 (encB sq ++ (encF false ++ encAsk q)) s0 (by omega) (by omega)
    have h3 := rdNum_enc sq 4294967295 (encF false ++ encAsk q) q0 (by omega) (by omega)
    have h4 := rdFlag_enc false (encAsk q)
    have h5 := rdAsk_enc q ByteArray.empty F hy2.2.1.1.1.1.1.1.2.1 hy2.2.1.1.1.1.1.1.2.2
    rw [ByteArray.append_empty] at h5
    have hP : rdParts (encL ⟨cl, sh, sq, false, q, zRp⟩) = (⟨cl, sh, sq, false, q, zRp⟩, ByteArray.empty, 0) := by
      simp only [rdParts, encL, ByteArray.append_assoc, Bool.false_eq_true, if_false, h1, h2, h3, h4, h5]
    unfold readR
    rw [hP]
    dsimp only
    rw [if_pos hE, if_pos hr]
end Go.Proofs.Ytjfokbkfniilhaa
