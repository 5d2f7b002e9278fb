/- A verified symbolic executor for Go code in the model, contracts and plain laws that the proofs lean on, BZ6. -/
import Derived.Test.YtkbeigcmdlhdbaaBZ5
set_option linter.unusedVariables false
set_option linter.unusedSimpArgs false
/- Contract of style.Splice. -/
namespace Go.SX.Try
open Go.Proofs Go.Proofs.Try Go.SX.Plain
set_option maxRecDepth 100000
set_option maxHeartbeats 0
set_option linter.unusedSimpArgs false
theorem q_ssplice : fact 16 f16 := ⟨by kernel_rfl, rfl, by kernel_rfl⟩
theorem con_ssplice : Con prog 16 (fun ((s, l, f, t, s2, l2) : ByteArray × List Spn × Int × Int × ByteArray × List Spn) => [txAV s l, .v (.int .i64 f), .v (.int .i64 t), txAV s2 l2])
    (fun (s, l, f, t, s2, l2) => .tup [txO (splT s l f t s2 l2) (splL s l f t s2 l2), .v (.int .i64 (splE s l f t s2 l2))]) (fun _ => True) := by
  refine Con.of (by kernel_rfl) T_ok D_spn_ok (.con con_scheck (.con con_ucut (.con con_uplace (.con con_umelts (.con con_ucount (.con con_souter .nil)))))) 3 [13, 29, 32] q_ssplice.1 q_ssplice.2.1 q_ssplice.2.2 (fun _ => rfl) fun i _ => ?_
  obtain ⟨s, l, f, t, s2, l2⟩ := i
  repeat' (first | (with_reducible first | exact fun h => h | refine ExE.row (by with_unfolding_all rfl) ?_ | refine And.intro ?_ ?_) | ((with_reducible intro hq); first | exact bne1 hq (by with_reducible assumption) | exact bne1 (by with_reducible assumption) hq | ((simp only [*, BB, cond_true, cond_false, reduceCtorEq] at hq); done) | (revert hq; with_reducible intro _)) | (with_reducible first | exact True.intro | rfl | refine EntLe.row ?_ | exact LeN.ro rfl | exact LeN.rptr | assumption) | ((with_reducible first | refine WkX.chk ?_ | refine Wk.chk ?_ | refine LeL.chk ?_ | refine LeF.chk ?_ | refine Run.mk ?_); (conv => whnf)) | ((with_reducible show LeO _ _); first | refine LeO.ro ?_ | refine LeO.roCap ?_ | refine LeO.nil ?_ (fun _ => rfl)) | ((with_reducible show LeR _ _ _); first | refine LeR.own rfl rfl rfl ?_ | refine LeR.view rfl rfl rfl ?_ ?_ | refine LeR.ro ?_ | refine LeR.roCap ?_ | refine LeR.nil ?_ (fun _ => rfl)) | ((with_reducible first | show drawOK _ _ = true | show lateOK _ _ = true | show drawOK2 _ _ = true | show drawOK3 _ _ = true); kernel_rfl))
  refine loopI Nat [] (fun i => [(30, .v (.int .i64 (i : Nat)))]) (fun _ => []) (fun i => i ≤ 2 ∧ (1 ≤ i → chkN s.size l (sgN s : Nat) = 0) ∧ (2 ≤ i → chkN s2.size l2 (sgN s2 : Nat) = 0)) (fun i => 2 - i) 0 ⟨by omega, by omega, by omega⟩ (Wk.chk ?_) fun i hx => ?_
  · ((conv => whnf); repeat' (first | (with_reducible first | exact fun h => h | refine ExE.row (by with_unfolding_all rfl) ?_ | refine And.intro ?_ ?_) | ((with_reducible intro hq); first | exact bne1 hq (by with_reducible assumption) | exact bne1 (by with_reducible assumption) hq | ((simp only [*, BB, cond_true, cond_false, reduceCtorEq] at hq); done) | (revert hq; with_reducible intro _)) | (with_reducible first | exact True.intro | rfl | refine EntLe.row ?_ | exact LeN.ro rfl | exact LeN.rptr | assumption) | ((with_reducible first | refine WkX.chk ?_ | refine Wk.chk ?_ | refine LeL.chk ?_ | refine LeF.chk ?_ | refine Run.mk ?_); (conv => whnf)) | ((with_reducible show LeO _ _); first | refine LeO.ro ?_ | refine LeO.roCap ?_ | refine LeO.nil ?_ (fun _ => rfl)) | ((with_reducible show LeR _ _ _); first | refine LeR.own rfl rfl rfl ?_ | refine LeR.view rfl rfl rfl ?_ ?_ | refine LeR.ro ?_ | refine LeR.roCap ?_ | refine LeR.nil ?_ (fun _ => rfl)) | ((with_reducible first | show drawOK _ _ = true | show lateOK _ _ = true | show drawOK2 _ _ = true | show drawOK3 _ _ = true); kernel_rfl)))
    all_goals rfl
  obtain ⟨hi, hc1, hc2⟩ := hx
  obtain rfl | rfl | rfl : i = 0 ∨ i = 1 ∨ i = 2 := by omega
  · have kb : decide (((0 : Nat) : Int) < ((2 : Nat) : Int)) = true := rfl
    by_cases h1 : chkN s.size l (sgN s : Nat) = 0
    · have k1 : (chkN s.size l (sgN s : Nat) != 0) = false := by rw [h1]; rfl
      repeat' (first | (with_reducible refine ⟨(s, l), ⟨(.cons (.agg (.cons (.v _) (.cons (.lent _ _ _ _ _ _) .nil))) .nil), ?_⟩, ?_⟩) | (with_reducible refine ex_of (α := Nat) 1 ⟨⟨?_, fun _ => h1, ?_⟩, ?_⟩ ?_) | (with_reducible first | exact fun h => h | refine ExE.row (by with_unfolding_all rfl) ?_ | refine And.intro ?_ ?_) | ((with_reducible intro hq); first | exact bne1 hq (by with_reducible assumption) | exact bne1 (by with_reducible assumption) hq | ((simp only [*, BB, cond_true, cond_false, reduceCtorEq] at hq); done) | (revert hq; with_reducible intro _)) | (with_reducible first | exact True.intro | rfl | refine EntLe.row ?_ | exact LeN.ro rfl | exact LeN.rptr | assumption) | ((with_reducible first | refine WkX.chk ?_ | refine Wk.chk ?_ | refine LeL.chk ?_ | refine LeF.chk ?_ | refine Run.mk ?_); (conv => whnf)) | ((with_reducible show LeO _ _); first | refine LeO.ro ?_ | refine LeO.roCap ?_ | refine LeO.nil ?_ (fun _ => rfl)) | ((with_reducible show LeR _ _ _); first | refine LeR.own rfl rfl rfl ?_ | refine LeR.view rfl rfl rfl ?_ ?_ | refine LeR.ro ?_ | refine LeR.roCap ?_ | refine LeR.nil ?_ (fun _ => rfl)) | ((with_reducible first | show drawOK _ _ = true | show lateOK _ _ = true | show drawOK2 _ _ = true | show drawOK3 _ _ = true); kernel_rfl))
      all_goals first
        | omega
        | rfl
        | (apply Fits.i64 <;> omega)
        | decide
        | trace_state
    · have k1 : (chkN s.size l (sgN s : Nat) != 0) = true := by simpa using h1
      have hE := splE_1 (f := f) (t := t) (s2 := s2) (l2 := l2) h1
      have hT := splT_no (s := s) (l := l) (f := f) (t := t) (s2 := s2) (l2 := l2) (by rw [hE]; exact h1)
      have hL := splL_no (s := s) (l := l) (f := f) (t := t) (s2 := s2) (l2 := l2) (by rw [hE]; exact h1)
      repeat' (first | (with_reducible refine ⟨(s, l), ⟨(.cons (.agg (.cons (.v _) (.cons (.lent _ _ _ _ _ _) .nil))) .nil), ?_⟩, ?_⟩) | (with_reducible first | exact fun h => h | refine ExE.row (by with_unfolding_all rfl) ?_ | refine And.intro ?_ ?_) | ((with_reducible intro hq); first | exact bne1 hq (by with_reducible assumption) | exact bne1 (by with_reducible assumption) hq | ((simp only [*, BB, cond_true, cond_false, reduceCtorEq] at hq); done) | (revert hq; with_reducible intro _)) | (with_reducible first | exact True.intro | rfl | refine EntLe.row ?_ | exact LeN.ro rfl | exact LeN.rptr | assumption) | ((with_reducible first | refine WkX.chk ?_ | refine Wk.chk ?_ | refine LeL.chk ?_ | refine LeF.chk ?_ | refine Run.mk ?_); (conv => whnf)) | ((with_reducible show LeO _ _); first | refine LeO.ro ?_ | refine LeO.roCap ?_ | refine LeO.nil ?_ (fun _ => rfl)) | ((with_reducible show LeR _ _ _); first | refine LeR.own rfl rfl rfl ?_ | refine LeR.view rfl rfl rfl ?_ ?_ | refine LeR.ro ?_ | refine LeR.roCap ?_ | refine LeR.nil ?_ (fun _ => rfl)) | ((with_reducible first | show drawOK _ _ = true | show lateOK _ _ = true | show drawOK2 _ _ = true | show drawOK3 _ _ = true); kernel_rfl))
      all_goals first
        | exact hE.symm
        | exact hT.symm
        | exact hL.symm
        | decide
        | trace_state
  · have kb : decide (((1 : Nat) : Int) < ((2 : Nat) : Int)) = true := rfl
    have h1 := hc1 (Nat.le_refl _)
    by_cases h2 : chkN s2.size l2 (sgN s2 : Nat) = 0
    · have k1 : (chkN s2.size l2 (sgN s2 : Nat) != 0) = false := by rw [h2]; rfl
      repeat' (first | (with_reducible refine ⟨(s2, l2), ⟨(.cons (.agg (.cons (.v _) (.cons (.lent _ _ _ _ _ _) .nil))) .nil), ?_⟩, ?_⟩) | (with_reducible refine ex_of (α := Nat) 2 ⟨⟨?_, fun _ => h1, fun _ => h2⟩, ?_⟩ ?_) | (with_reducible first | exact fun h => h | refine ExE.row (by with_unfolding_all rfl) ?_ | refine And.intro ?_ ?_) | ((with_reducible intro hq); first | exact bne1 hq (by with_reducible assumption) | exact bne1 (by with_reducible assumption) hq | ((simp only [*, BB, cond_true, cond_false, reduceCtorEq] at hq); done) | (revert hq; with_reducible intro _)) | (with_reducible first | exact True.intro | rfl | refine EntLe.row ?_ | exact LeN.ro rfl | exact LeN.rptr | assumption) | ((with_reducible first | refine WkX.chk ?_ | refine Wk.chk ?_ | refine LeL.chk ?_ | refine LeF.chk ?_ | refine Run.mk ?_); (conv => whnf)) | ((with_reducible show LeO _ _); first | refine LeO.ro ?_ | refine LeO.roCap ?_ | refine LeO.nil ?_ (fun _ => rfl)) | ((with_reducible show LeR _ _ _); first | refine LeR.own rfl rfl rfl ?_ | refine LeR.view rfl rfl rfl ?_ ?_ | refine LeR.ro ?_ | refine LeR.roCap ?_ | refine LeR.nil ?_ (fun _ => rfl)) | ((with_reducible first | show drawOK _ _ = true | show lateOK _ _ = true | show drawOK2 _ _ = true | show drawOK3 _ _ = true); kernel_rfl))
      all_goals first
        | omega
        | rfl
        | (apply Fits.i64 <;> omega)
        | decide
        | trace_state
    · have k1 : (chkN s2.size l2 (sgN s2 : Nat) != 0) = true := by simpa using h2
      have hE := splE_2 (f := f) (t := t) h1 h2
      have hT := splT_no (s := s) (l := l) (f := f) (t := t) (s2 := s2) (l2 := l2) (by rw [hE]; exact h2)
      have hL := splL_no (s := s) (l := l) (f := f) (t := t) (s2 := s2) (l2 := l2) (by rw [hE]; exact h2)
      repeat' (first | (with_reducible refine ⟨(s2, l2), ⟨(.cons (.agg (.cons (.v _) (.cons (.lent _ _ _ _ _ _) .nil))) .nil), ?_⟩, ?_⟩) | (with_reducible first | exact fun h => h | refine ExE.row (by with_unfolding_all rfl) ?_ | refine And.intro ?_ ?_) | ((with_reducible intro hq); first | exact bne1 hq (by with_reducible assumption) | exact bne1 (by with_reducible assumption) hq | ((simp only [*, BB, cond_true, cond_false, reduceCtorEq] at hq); done) | (revert hq; with_reducible intro _)) | (with_reducible first | exact True.intro | rfl | refine EntLe.row ?_ | exact LeN.ro rfl | exact LeN.rptr | assumption) | ((with_reducible first | refine WkX.chk ?_ | refine Wk.chk ?_ | refine LeL.chk ?_ | refine LeF.chk ?_ | refine Run.mk ?_); (conv => whnf)) | ((with_reducible show LeO _ _); first | refine LeO.ro ?_ | refine LeO.roCap ?_ | refine LeO.nil ?_ (fun _ => rfl)) | ((with_reducible show LeR _ _ _); first | refine LeR.own rfl rfl rfl ?_ | refine LeR.view rfl rfl rfl ?_ ?_ | refine LeR.ro ?_ | refine LeR.roCap ?_ | refine LeR.nil ?_ (fun _ => rfl)) | ((with_reducible first | show drawOK _ _ = true | show lateOK _ _ = true | show drawOK2 _ _ = true | show drawOK3 _ _ = true); kernel_rfl))
      all_goals first
        | exact hE.symm
        | exact hT.symm
        | exact hL.symm
        | decide
        | trace_state
  have kb : decide (((2 : Nat) : Int) < ((2 : Nat) : Int)) = false := rfl
  have h1 := hc1 (by omega)
  have h2 := hc2 (by omega)
  clear hc1 hc2
  have ok1 := OkT.of h1
  have ok2 := OkT.of h2
  have hs := ok1.size
  have hs2 := ok2.size
  have hn := sgN_le s
  have hn2 := sgN_le s2
  by_cases hm : 0 ≤ f ∧ f ≤ t ∧ t ≤ sgN s
  case neg =>
    have h3 : mayB f t (sgN s : Nat) = false := by
      unfold mayB
      rw [Bool.eq_false_iff]
      simp only [ne_eq, Bool.and_eq_true, decide_eq_true_eq]
      omega
    have hE := splE_3 h1 h2 h3
    have hT := splT_no (s := s) (l := l) (f := f) (t := t) (s2 := s2) (l2 := l2) (by rw [hE]; decide)
    have hL := splL_no (s := s) (l := l) (f := f) (t := t) (s2 := s2) (l2 := l2) (by rw [hE]; decide)
    have hce : cutE s f t = 1 := by unfold cutE; rw [if_neg hm]
    have k1 : (cutE s f t != 0) = true := by rw [hce]; rfl
    repeat' (first | (with_reducible refine ⟨(_, _, _), ⟨(.cons (.v _) (.cons (.v _) (.cons (.v _) (.cons (.v _) .nil)))), ?_⟩, ?_⟩) | (with_reducible first | exact fun h => h | refine ExE.row (by with_unfolding_all rfl) ?_ | refine And.intro ?_ ?_) | ((with_reducible intro hq); first | exact bne1 hq (by with_reducible assumption) | exact bne1 (by with_reducible assumption) hq | ((simp only [*, BB, cond_true, cond_false, reduceCtorEq] at hq); done) | (revert hq; with_reducible intro _)) | (with_reducible first | exact True.intro | rfl | refine EntLe.row ?_ | exact LeN.ro rfl | exact LeN.rptr | assumption) | ((with_reducible first | refine WkX.chk ?_ | refine Wk.chk ?_ | refine LeL.chk ?_ | refine LeF.chk ?_ | refine Run.mk ?_); (conv => whnf)) | ((with_reducible show LeO _ _); first | refine LeO.ro ?_ | refine LeO.roCap ?_ | refine LeO.nil ?_ (fun _ => rfl)) | ((with_reducible show LeR _ _ _); first | refine LeR.own rfl rfl rfl ?_ | refine LeR.view rfl rfl rfl ?_ ?_ | refine LeR.ro ?_ | refine LeR.roCap ?_ | refine LeR.nil ?_ (fun _ => rfl)) | ((with_reducible first | show drawOK _ _ = true | show lateOK _ _ = true | show drawOK2 _ _ = true | show drawOK3 _ _ = true); kernel_rfl))
    all_goals first
      | (dsimp only; omega)
      | exact hE.symm
      | exact hT.symm
      | exact hL.symm
      | trace_state
  have h3 : mayB f t (sgN s : Nat) = true := by
    unfold mayB
    simp only [Bool.and_eq_true, decide_eq_true_eq]
    omega
  have hce : cutE s f t = 0 := by unfold cutE; rw [if_pos hm]
  have k1 : (cutE s f t != 0) = false := by rw [hce]; rfl
  have hct : cutT s f t = s.extract (posS s f.toNat) (posS s t.toNat) := by unfold cutT; rw [if_pos hm]
  have hpn : plN s f = (posS s f.toNat : Nat) := by unfold plN; rw [if_pos ⟨by omega, by omega⟩]
  have p5 := posS_mono s (i := f.toNat) (j := t.toNat) (by omega) (by omega)
  have p6 := posS_le s t.toNat
  have hcs : (cutT s f t).size = posS s t.toNat - posS s f.toNat := by rw [hct]; exact size_extract' p6
  have hfs : (frontT s f).size = posS s f.toNat := by unfold frontT; rw [size_extract' (by omega)]; omega
  have hrs : (restT s t).size = s.size - posS s t.toNat := by unfold restT; exact size_extract' (Nat.le_refl _)
  have hnsz : (newT s f t s2).size = (frontT s f).size + s2.size + (restT s t).size := by unfold newT; rw [app_size, app_size]
  have hfsz : (frontT s f ++ s2).size = (frontT s f).size + s2.size := app_size _ _
  have e1 : (plN s f + ((cutT s f t).size : Int)).toNat = posS s t.toNat := by rw [hpn, hcs]; omega
  have e2 : (plN s f).toNat = posS s f.toNat := by rw [hpn]; omega
  repeat' (first | (with_reducible refine ⟨(_, _, _), ⟨(.cons (.v _) (.cons (.v _) (.cons (.v _) (.cons (.v _) .nil)))), ?_⟩, ?_⟩) | (with_reducible refine ⟨(_, _), ⟨(.cons (.v _) (.cons (.v _) (.cons (.v _) (.cons (.v _) .nil)))), ?_⟩, ?_⟩) | (with_reducible first | exact fun h => h | refine ExE.row (by with_unfolding_all rfl) ?_ | refine And.intro ?_ ?_) | ((with_reducible intro hq); first | exact bne1 hq (by with_reducible assumption) | exact bne1 (by with_reducible assumption) hq | ((simp only [*, BB, cond_true, cond_false, reduceCtorEq] at hq); done) | (revert hq; with_reducible intro _)) | (with_reducible first | exact True.intro | rfl | refine EntLe.row ?_ | exact LeN.ro rfl | exact LeN.rptr | assumption) | ((with_reducible first | refine WkX.chk ?_ | refine Wk.chk ?_ | refine LeL.chk ?_ | refine LeF.chk ?_ | refine Run.mk ?_); (conv => whnf)) | ((with_reducible show LeO _ _); first | refine LeO.ro ?_ | refine LeO.roCap ?_ | refine LeO.nil ?_ (fun _ => rfl)) | ((with_reducible show LeR _ _ _); first | refine LeR.own rfl rfl rfl ?_ | refine LeR.view rfl rfl rfl ?_ ?_ | refine LeR.ro ?_ | refine LeR.roCap ?_ | refine LeR.nil ?_ (fun _ => rfl)) | ((with_reducible first | show drawOK _ _ = true | show lateOK _ _ = true | show drawOK2 _ _ = true | show drawOK3 _ _ = true); kernel_rfl))
  all_goals (try (dsimp only; omega))
  refine joinI Unit [] (fun _ => [(17, .v (.string (frontT s f))), (18, .v (.string (restT s t)))]) (fun _ => []) (fun _ => True) ?_ fun _ _ => ?_
  · repeat' (first | (with_reducible refine ex_of () trivial ?_) | (with_reducible first | exact fun h => h | refine ExE.row (by with_unfolding_all rfl) ?_ | refine And.intro ?_ ?_) | ((with_reducible intro hq); first | exact bne1 hq (by with_reducible assumption) | exact bne1 (by with_reducible assumption) hq | ((simp only [*, BB, cond_true, cond_false, reduceCtorEq] at hq); done) | (revert hq; with_reducible intro _)) | (with_reducible first | exact True.intro | rfl | refine EntLe.row ?_ | exact LeN.ro rfl | exact LeN.rptr | assumption) | ((with_reducible first | refine WkX.chk ?_ | refine Wk.chk ?_ | refine LeL.chk ?_ | refine LeF.chk ?_ | refine Run.mk ?_); (conv => whnf)) | ((with_reducible show LeO _ _); first | refine LeO.ro ?_ | refine LeO.roCap ?_ | refine LeO.nil ?_ (fun _ => rfl)) | ((with_reducible show LeR _ _ _); first | refine LeR.own rfl rfl rfl ?_ | refine LeR.view rfl rfl rfl ?_ ?_ | refine LeR.ro ?_ | refine LeR.roCap ?_ | refine LeR.nil ?_ (fun _ => rfl)) | ((with_reducible first | show drawOK _ _ = true | show lateOK _ _ = true | show drawOK2 _ _ = true | show drawOK3 _ _ = true); kernel_rfl))
    all_goals first
      | (rw [e2]; rfl)
      | (rw [e1]; rfl)
      | (rw [hpn, hcs]; apply Fits.i64 <;> omega)
      | (rw [hpn, hcs]; omega)
      | (rw [hpn]; omega)
      | trace_state
  have hF : Hid (newT s f t s2 = frontT s f ++ s2 ++ restT s t) := ⟨rfl⟩
  clear e1 e2 hcs hct hpn hce
  by_cases h4 : 4096 < (newT s f t s2).size
  · have hE := splE_4 (l := l) (l2 := l2) h1 h2 h3 h4
    have hT := splT_no (s := s) (l := l) (f := f) (t := t) (s2 := s2) (l2 := l2) (by rw [hE]; decide)
    have hL := splL_no (s := s) (l := l) (f := f) (t := t) (s2 := s2) (l2 := l2) (by rw [hE]; decide)
    have k2 : decide ((4096 : Int) < ((frontT s f).size : Int) + (s2.size : Int) + ((restT s t).size : Int)) = true := decide_eq_true (by omega)
    repeat' (first | (with_reducible first | exact fun h => h | refine ExE.row (by with_unfolding_all rfl) ?_ | refine And.intro ?_ ?_) | ((with_reducible intro hq); first | exact bne1 hq (by with_reducible assumption) | exact bne1 (by with_reducible assumption) hq | ((simp only [*, BB, cond_true, cond_false, reduceCtorEq] at hq); done) | (revert hq; with_reducible intro _)) | (with_reducible first | exact True.intro | rfl | refine EntLe.row ?_ | exact LeN.ro rfl | exact LeN.rptr | assumption) | ((with_reducible first | refine WkX.chk ?_ | refine Wk.chk ?_ | refine LeL.chk ?_ | refine LeF.chk ?_ | refine Run.mk ?_); (conv => whnf)) | ((with_reducible show LeO _ _); first | refine LeO.ro ?_ | refine LeO.roCap ?_ | refine LeO.nil ?_ (fun _ => rfl)) | ((with_reducible show LeR _ _ _); first | refine LeR.own rfl rfl rfl ?_ | refine LeR.view rfl rfl rfl ?_ ?_ | refine LeR.ro ?_ | refine LeR.roCap ?_ | refine LeR.nil ?_ (fun _ => rfl)) | ((with_reducible first | show drawOK _ _ = true | show lateOK _ _ = true | show drawOK2 _ _ = true | show drawOK3 _ _ = true); kernel_rfl))
    all_goals first
      | (apply Fits.i64 <;> omega)
      | exact hE.symm
      | exact hT.symm
      | exact hL.symm
      | trace_state
  have k2 : decide ((4096 : Int) < ((frontT s f).size : Int) + (s2.size : Int) + ((restT s t).size : Int)) = false := decide_eq_false (by omega)
  have hw2 : (frontT s f ++ s2 ++ restT s t).size = (newT s f t s2).size := rfl
  have hfl : (frontT s f).size + s2.size + (restT s t).size ≤ 4096 := by omega
  have hms := Bool.eq_false_or_eq_true (meltB (frontT s f) s2)
  rcases hms with h5 | h5
  · have hE := splE_5 (l := l) (l2 := l2) h1 h2 h3 h4 (.inl h5)
    have hT := splT_no (s := s) (l := l) (f := f) (t := t) (s2 := s2) (l2 := l2) (by rw [hE]; decide)
    have hL := splL_no (s := s) (l := l) (f := f) (t := t) (s2 := s2) (l2 := l2) (by rw [hE]; decide)
    repeat' (first | (with_reducible refine ⟨(_, _), ⟨(.cons (.v _) (.cons (.v _) .nil)), ?_⟩, ?_⟩) | (with_reducible first | exact fun h => h | refine ExE.row (by with_unfolding_all rfl) ?_ | refine And.intro ?_ ?_) | ((with_reducible intro hq); first | exact bne1 hq (by with_reducible assumption) | exact bne1 (by with_reducible assumption) hq | ((simp only [*, BB, cond_true, cond_false, reduceCtorEq] at hq); done) | (revert hq; with_reducible intro _)) | (with_reducible first | exact True.intro | rfl | refine EntLe.row ?_ | exact LeN.ro rfl | exact LeN.rptr | assumption) | ((with_reducible first | refine WkX.chk ?_ | refine Wk.chk ?_ | refine LeL.chk ?_ | refine LeF.chk ?_ | refine Run.mk ?_); (conv => whnf)) | ((with_reducible show LeO _ _); first | refine LeO.ro ?_ | refine LeO.roCap ?_ | refine LeO.nil ?_ (fun _ => rfl)) | ((with_reducible show LeR _ _ _); first | refine LeR.own rfl rfl rfl ?_ | refine LeR.view rfl rfl rfl ?_ ?_ | refine LeR.ro ?_ | refine LeR.roCap ?_ | refine LeR.nil ?_ (fun _ => rfl)) | ((with_reducible first | show drawOK _ _ = true | show lateOK _ _ = true | show drawOK2 _ _ = true | show drawOK3 _ _ = true); kernel_rfl))
    all_goals first
      | omega
      | (apply Fits.i64 <;> omega)
      | (dsimp only; omega)
      | exact hE.symm
      | exact hT.symm
      | exact hL.symm
      | trace_state
  have hms := Bool.eq_false_or_eq_true (meltB (frontT s f ++ s2) (restT s t))
  rcases hms with h6 | h6
  · have hE := splE_5 (l := l) (l2 := l2) h1 h2 h3 h4 (.inr h6)
    have hT := splT_no (s := s) (l := l) (f := f) (t := t) (s2 := s2) (l2 := l2) (by rw [hE]; decide)
    have hL := splL_no (s := s) (l := l) (f := f) (t := t) (s2 := s2) (l2 := l2) (by rw [hE]; decide)
    repeat' (first | (with_reducible refine ⟨(_, _), ⟨(.cons (.v _) (.cons (.v _) .nil)), ?_⟩, ?_⟩) | (with_reducible first | exact fun h => h | refine ExE.row (by with_unfolding_all rfl) ?_ | refine And.intro ?_ ?_) | ((with_reducible intro hq); first | exact bne1 hq (by with_reducible assumption) | exact bne1 (by with_reducible assumption) hq | ((simp only [*, BB, cond_true, cond_false, reduceCtorEq] at hq); done) | (revert hq; with_reducible intro _)) | (with_reducible first | exact True.intro | rfl | refine EntLe.row ?_ | exact LeN.ro rfl | exact LeN.rptr | assumption) | ((with_reducible first | refine WkX.chk ?_ | refine Wk.chk ?_ | refine LeL.chk ?_ | refine LeF.chk ?_ | refine Run.mk ?_); (conv => whnf)) | ((with_reducible show LeO _ _); first | refine LeO.ro ?_ | refine LeO.roCap ?_ | refine LeO.nil ?_ (fun _ => rfl)) | ((with_reducible show LeR _ _ _); first | refine LeR.own rfl rfl rfl ?_ | refine LeR.view rfl rfl rfl ?_ ?_ | refine LeR.ro ?_ | refine LeR.roCap ?_ | refine LeR.nil ?_ (fun _ => rfl)) | ((with_reducible first | show drawOK _ _ = true | show lateOK _ _ = true | show drawOK2 _ _ = true | show drawOK3 _ _ = true); kernel_rfl))
    all_goals first
      | omega
      | (apply Fits.i64 <;> omega)
      | (dsimp only; omega)
      | exact hE.symm
      | exact hT.symm
      | exact hL.symm
      | trace_state
  have hLl : (isort ltO l).length = l.length := isort_len l
  have hl := ok1.len
  have hl2 := ok2.len
  have hd : C_spn.d = zS := rfl
  repeat' (first | (with_reducible refine ⟨(_, _), ⟨(.cons (.v _) (.cons (.v _) .nil)), ?_⟩, ?_⟩) | (with_reducible refine ⟨_, ⟨(.cons (.v _) .nil), ?_⟩, ?_⟩) | (with_reducible refine ⟨(s, l), ⟨(.cons (.agg (.cons (.v _) (.cons (.lent _ _ _ _ _ _) .nil))) .nil), ?_⟩, ?_⟩) | (with_reducible first | exact fun h => h | refine ExE.row (by with_unfolding_all rfl) ?_ | refine And.intro ?_ ?_) | ((with_reducible intro hq); first | exact bne1 hq (by with_reducible assumption) | exact bne1 (by with_reducible assumption) hq | ((simp only [*, BB, cond_true, cond_false, reduceCtorEq] at hq); done) | (revert hq; with_reducible intro _)) | (with_reducible first | exact True.intro | rfl | refine EntLe.row ?_ | exact LeN.ro rfl | exact LeN.rptr | assumption) | ((with_reducible first | refine WkX.chk ?_ | refine Wk.chk ?_ | refine LeL.chk ?_ | refine LeF.chk ?_ | refine Run.mk ?_); (conv => whnf)) | ((with_reducible show LeO _ _); first | refine LeO.ro ?_ | refine LeO.roCap ?_ | refine LeO.nil ?_ (fun _ => rfl)) | ((with_reducible show LeR _ _ _); first | refine LeR.own rfl rfl rfl ?_ | refine LeR.view rfl rfl rfl ?_ ?_ | refine LeR.ro ?_ | refine LeR.roCap ?_ | refine LeR.nil ?_ (fun _ => rfl)) | ((with_reducible first | show drawOK _ _ = true | show lateOK _ _ = true | show drawOK2 _ _ = true | show drawOK3 _ _ = true); kernel_rfl))
  all_goals (try (first | omega | (apply Fits.i64 <;> omega) | (dsimp only; omega)))
  have hin := (spans_in ok1.spans).isort
  have hin2 := spans_in ok2.spans
  have hg : ∀ x, mvS f t (sgN s2 : Nat) x = mvS f t (sgN s2 : Nat) x := fun _ => rfl
  refine loopA 4 1 C_spn 71 (T := T) ⟨fun _ => rfl, by decide, _, rfl, rfl, by decide⟩ (by rfl) (by with_unfolding_all exact rfl) (by with_unfolding_all exact rfl) Nat [] (fun i => [(112, .v (.int .i64 (i : Nat)))]) (fun i => [(5, .row C_spn (outTo (mvS f t (sgN s2 : Nat)) (isort ltO l) i) 71 none)]) (fun i => i ≤ (isort ltO l).length) (fun i => (isort ltO l).length - i) 0 (Nat.zero_le _) (Wk.chk ?_) fun i hi => ?_
  · ((conv => whnf); repeat' (first | (with_reducible first | exact fun h => h | refine ExE.row (by with_unfolding_all rfl) ?_ | refine And.intro ?_ ?_) | ((with_reducible intro hq); first | exact bne1 hq (by with_reducible assumption) | exact bne1 (by with_reducible assumption) hq | ((simp only [*, BB, cond_true, cond_false, reduceCtorEq] at hq); done) | (revert hq; with_reducible intro _)) | (with_reducible first | exact True.intro | rfl | refine EntLe.row ?_ | exact LeN.ro rfl | exact LeN.rptr | assumption) | ((with_reducible first | refine WkX.chk ?_ | refine Wk.chk ?_ | refine LeL.chk ?_ | refine LeF.chk ?_ | refine Run.mk ?_); (conv => whnf)) | ((with_reducible show LeO _ _); first | refine LeO.ro ?_ | refine LeO.roCap ?_ | refine LeO.nil ?_ (fun _ => rfl)) | ((with_reducible show LeR _ _ _); first | refine LeR.own rfl rfl rfl ?_ | refine LeR.view rfl rfl rfl ?_ ?_ | refine LeR.ro ?_ | refine LeR.roCap ?_ | refine LeR.nil ?_ (fun _ => rfl)) | ((with_reducible first | show drawOK _ _ = true | show lateOK _ _ = true | show drawOK2 _ _ = true | show drawOK3 _ _ = true); kernel_rfl)))
    all_goals first
      | rfl
      | trace_state
  have hi : i ≤ (isort ltO l).length := hi
  have e1 : ((i : Int)).toNat = i := Int.toNat_natCast _
  have hol := outTo_len (mvS f t (sgN s2 : Nat)) (isort ltO l) i
  by_cases hil : i < (isort ltO l).length
  · have hlt : decide ((i : Int) < ((isort ltO l).length : Int)) = true := decide_eq_true (by omega)
    have hxb := hin.at hil
    have hoy := outTo_yes (g := mvS f t (sgN s2 : Nat)) hil
    have hon := outTo_no (g := mvS f t (sgN s2 : Nat)) hil
    have hxe : ∃ x, x = (isort ltO l).getD i zS := ⟨_, rfl⟩
    obtain ⟨x, hx⟩ := hxe
    rw [← hx] at hxb hoy hon
    have hxx : (isort ltO l).getD ((i : Int)).toNat C_spn.d = x := by rw [e1, hd, hx]
    have hbb := bgn_bd (f := f) (t := t) (n := (sgN s2 : Nat)) (x := x.frm) hm.1 hm.2.1 (by omega) hxb.1
    have heb := eds_bd (f := f) (t := t) (n := (sgN s2 : Nat)) (x := x.to) hm.1 hm.2.1 (by omega) (by omega)
    repeat' (first | (with_reducible first | exact fun h => h | refine ExE.row (by with_unfolding_all rfl) ?_ | refine And.intro ?_ ?_) | ((with_reducible intro hq); first | exact bne1 hq (by with_reducible assumption) | exact bne1 (by with_reducible assumption) hq | ((simp only [*, BB, cond_true, cond_false, reduceCtorEq] at hq); done) | (revert hq; with_reducible intro _)) | (with_reducible first | exact True.intro | rfl | refine EntLe.row ?_ | exact LeN.ro rfl | exact LeN.rptr | assumption) | ((with_reducible first | refine WkX.chk ?_ | refine Wk.chk ?_ | refine LeL.chk ?_ | refine LeF.chk ?_ | refine Run.mk ?_); (conv => whnf)) | ((with_reducible show LeO _ _); first | refine LeO.ro ?_ | refine LeO.roCap ?_ | refine LeO.nil ?_ (fun _ => rfl)) | ((with_reducible show LeR _ _ _); first | refine LeR.own rfl rfl rfl ?_ | refine LeR.view rfl rfl rfl ?_ ?_ | refine LeR.ro ?_ | refine LeR.roCap ?_ | refine LeR.nil ?_ (fun _ => rfl)) | ((with_reducible first | show drawOK _ _ = true | show lateOK _ _ = true | show drawOK2 _ _ = true | show drawOK3 _ _ = true); kernel_rfl))
    any_goals omega
    refine joinI Unit [] (fun _ => []) (fun _ => [(6, .box [.v (.int .i64 (bgn f t (sgN s2 : Nat) x.frm)), .v (.int .i64 x.to), .v (.int .i64 x.kind), .v (.int .i64 x.val)] 71)]) (fun _ => True) ?_ fun _ _ => ?_
    · by_cases c1 : t ≤ x.frm
      · have kc : decide (t ≤ ((isort ltO l).getD ((i : Int)).toNat C_spn.d).frm) = true := by rw [hxx]; exact decide_eq_true c1
        have hv : bgn f t (sgN s2 : Nat) x.frm = x.frm + ((sgN s2 : Nat) - (t - f)) := by unfold bgn; rw [if_pos c1]
        repeat' (first | (with_reducible refine ex_of () trivial ?_) | (with_reducible first | exact fun h => h | refine ExE.row (by with_unfolding_all rfl) ?_ | refine And.intro ?_ ?_) | ((with_reducible intro hq); first | exact bne1 hq (by with_reducible assumption) | exact bne1 (by with_reducible assumption) hq | ((simp only [*, BB, cond_true, cond_false, reduceCtorEq] at hq); done) | (revert hq; with_reducible intro _)) | (with_reducible first | exact True.intro | rfl | refine EntLe.row ?_ | exact LeN.ro rfl | exact LeN.rptr | assumption) | ((with_reducible first | refine WkX.chk ?_ | refine Wk.chk ?_ | refine LeL.chk ?_ | refine LeF.chk ?_ | refine Run.mk ?_); (conv => whnf)) | ((with_reducible show LeO _ _); first | refine LeO.ro ?_ | refine LeO.roCap ?_ | refine LeO.nil ?_ (fun _ => rfl)) | ((with_reducible show LeR _ _ _); first | refine LeR.own rfl rfl rfl ?_ | refine LeR.view rfl rfl rfl ?_ ?_ | refine LeR.ro ?_ | refine LeR.roCap ?_ | refine LeR.nil ?_ (fun _ => rfl)) | ((with_reducible first | show drawOK _ _ = true | show lateOK _ _ = true | show drawOK2 _ _ = true | show drawOK3 _ _ = true); kernel_rfl))
        all_goals first
        | omega
        | (rw [hxx]; done)
        | (rw [hxx]; apply Fits.i64 <;> omega)
        | (apply Fits.i64 <;> omega)
        | (rw [hxx]; exact hv.symm)
        | exact hv.symm
        | trace_state

      have kc : decide (t ≤ ((isort ltO l).getD ((i : Int)).toNat C_spn.d).frm) = false := by rw [hxx]; exact decide_eq_false c1
      by_cases c2 : f < x.frm
      · have kd : decide (f < ((isort ltO l).getD ((i : Int)).toNat C_spn.d).frm) = true := by rw [hxx]; exact decide_eq_true c2
        have hv : bgn f t (sgN s2 : Nat) x.frm = f + (sgN s2 : Nat) := by unfold bgn; rw [if_neg c1, if_pos c2]
        repeat' (first | (with_reducible refine ex_of () trivial ?_) | (with_reducible first | exact fun h => h | refine ExE.row (by with_unfolding_all rfl) ?_ | refine And.intro ?_ ?_) | ((with_reducible intro hq); first | exact bne1 hq (by with_reducible assumption) | exact bne1 (by with_reducible assumption) hq | ((simp only [*, BB, cond_true, cond_false, reduceCtorEq] at hq); done) | (revert hq; with_reducible intro _)) | (with_reducible first | exact True.intro | rfl | refine EntLe.row ?_ | exact LeN.ro rfl | exact LeN.rptr | assumption) | ((with_reducible first | refine WkX.chk ?_ | refine Wk.chk ?_ | refine LeL.chk ?_ | refine LeF.chk ?_ | refine Run.mk ?_); (conv => whnf)) | ((with_reducible show LeO _ _); first | refine LeO.ro ?_ | refine LeO.roCap ?_ | refine LeO.nil ?_ (fun _ => rfl)) | ((with_reducible show LeR _ _ _); first | refine LeR.own rfl rfl rfl ?_ | refine LeR.view rfl rfl rfl ?_ ?_ | refine LeR.ro ?_ | refine LeR.roCap ?_ | refine LeR.nil ?_ (fun _ => rfl)) | ((with_reducible first | show drawOK _ _ = true | show lateOK _ _ = true | show drawOK2 _ _ = true | show drawOK3 _ _ = true); kernel_rfl))
        all_goals first
        | omega
        | (rw [hxx]; done)
        | (rw [hxx]; apply Fits.i64 <;> omega)
        | (apply Fits.i64 <;> omega)
        | (rw [hxx]; exact hv.symm)
        | exact hv.symm
        | trace_state

      · have kd : decide (f < ((isort ltO l).getD ((i : Int)).toNat C_spn.d).frm) = false := by rw [hxx]; exact decide_eq_false c2
        have hv : bgn f t (sgN s2 : Nat) x.frm = x.frm := by unfold bgn; rw [if_neg c1, if_neg c2]
        repeat' (first | (with_reducible refine ex_of () trivial ?_) | (with_reducible first | exact fun h => h | refine ExE.row (by with_unfolding_all rfl) ?_ | refine And.intro ?_ ?_) | ((with_reducible intro hq); first | exact bne1 hq (by with_reducible assumption) | exact bne1 (by with_reducible assumption) hq | ((simp only [*, BB, cond_true, cond_false, reduceCtorEq] at hq); done) | (revert hq; with_reducible intro _)) | (with_reducible first | exact True.intro | rfl | refine EntLe.row ?_ | exact LeN.ro rfl | exact LeN.rptr | assumption) | ((with_reducible first | refine WkX.chk ?_ | refine Wk.chk ?_ | refine LeL.chk ?_ | refine LeF.chk ?_ | refine Run.mk ?_); (conv => whnf)) | ((with_reducible show LeO _ _); first | refine LeO.ro ?_ | refine LeO.roCap ?_ | refine LeO.nil ?_ (fun _ => rfl)) | ((with_reducible show LeR _ _ _); first | refine LeR.own rfl rfl rfl ?_ | refine LeR.view rfl rfl rfl ?_ ?_ | refine LeR.ro ?_ | refine LeR.roCap ?_ | refine LeR.nil ?_ (fun _ => rfl)) | ((with_reducible first | show drawOK _ _ = true | show lateOK _ _ = true | show drawOK2 _ _ = true | show drawOK3 _ _ = true); kernel_rfl))
        all_goals first
        | omega
        | (rw [hxx]; done)
        | (rw [hxx]; apply Fits.i64 <;> omega)
        | (apply Fits.i64 <;> omega)
        | (rw [hxx]; exact hv.symm)
        | exact hv.symm
        | trace_state

    repeat' (first | (with_reducible first | exact fun h => h | refine ExE.row (by with_unfolding_all rfl) ?_ | refine And.intro ?_ ?_) | ((with_reducible intro hq); first | exact bne1 hq (by with_reducible assumption) | exact bne1 (by with_reducible assumption) hq | ((simp only [*, BB, cond_true, cond_false, reduceCtorEq] at hq); done) | (revert hq; with_reducible intro _)) | (with_reducible first | exact True.intro | rfl | refine EntLe.row ?_ | exact LeN.ro rfl | exact LeN.rptr | assumption) | ((with_reducible first | refine WkX.chk ?_ | refine Wk.chk ?_ | refine LeL.chk ?_ | refine LeF.chk ?_ | refine Run.mk ?_); (conv => whnf)) | ((with_reducible show LeO _ _); first | refine LeO.ro ?_ | refine LeO.roCap ?_ | refine LeO.nil ?_ (fun _ => rfl)) | ((with_reducible show LeR _ _ _); first | refine LeR.own rfl rfl rfl ?_ | refine LeR.view rfl rfl rfl ?_ ?_ | refine LeR.ro ?_ | refine LeR.roCap ?_ | refine LeR.nil ?_ (fun _ => rfl)) | ((with_reducible first | show drawOK _ _ = true | show lateOK _ _ = true | show drawOK2 _ _ = true | show drawOK3 _ _ = true); kernel_rfl))
    refine joinI Unit [] (fun _ => []) (fun _ => [(6, .box [.v (.int .i64 (bgn f t (sgN s2 : Nat) x.frm)), .v (.int .i64 (eds f t (sgN s2 : Nat) x.to)), .v (.int .i64 x.kind), .v (.int .i64 x.val)] 71)]) (fun _ => True) ?_ fun _ _ => ?_
    · by_cases c1 : x.to ≤ f
      · have kc : decide (x.to ≤ f) = true := decide_eq_true c1
        have hv : eds f t (sgN s2 : Nat) x.to = x.to := by unfold eds; rw [if_pos c1]
        repeat' (first | (with_reducible refine ex_of () trivial ?_) | (with_reducible first | exact fun h => h | refine ExE.row (by with_unfolding_all rfl) ?_ | refine And.intro ?_ ?_) | ((with_reducible intro hq); first | exact bne1 hq (by with_reducible assumption) | exact bne1 (by with_reducible assumption) hq | ((simp only [*, BB, cond_true, cond_false, reduceCtorEq] at hq); done) | (revert hq; with_reducible intro _)) | (with_reducible first | exact True.intro | rfl | refine EntLe.row ?_ | exact LeN.ro rfl | exact LeN.rptr | assumption) | ((with_reducible first | refine WkX.chk ?_ | refine Wk.chk ?_ | refine LeL.chk ?_ | refine LeF.chk ?_ | refine Run.mk ?_); (conv => whnf)) | ((with_reducible show LeO _ _); first | refine LeO.ro ?_ | refine LeO.roCap ?_ | refine LeO.nil ?_ (fun _ => rfl)) | ((with_reducible show LeR _ _ _); first | refine LeR.own rfl rfl rfl ?_ | refine LeR.view rfl rfl rfl ?_ ?_ | refine LeR.ro ?_ | refine LeR.roCap ?_ | refine LeR.nil ?_ (fun _ => rfl)) | ((with_reducible first | show drawOK _ _ = true | show lateOK _ _ = true | show drawOK2 _ _ = true | show drawOK3 _ _ = true); kernel_rfl))
        all_goals first
        | omega
        | (rw [hxx]; done)
        | (rw [hxx]; apply Fits.i64 <;> omega)
        | (apply Fits.i64 <;> omega)
        | (rw [hxx]; exact hv.symm)
        | exact hv.symm
        | trace_state

      have kc : decide (x.to ≤ f) = false := decide_eq_false c1
      by_cases c2 : t ≤ x.to
      · have kd : decide (t ≤ x.to) = true := decide_eq_true c2
        have hv : eds f t (sgN s2 : Nat) x.to = x.to + ((sgN s2 : Nat) - (t - f)) := by unfold eds; rw [if_neg c1, if_pos c2]
        repeat' (first | (with_reducible refine ex_of () trivial ?_) | (with_reducible first | exact fun h => h | refine ExE.row (by with_unfolding_all rfl) ?_ | refine And.intro ?_ ?_) | ((with_reducible intro hq); first | exact bne1 hq (by with_reducible assumption) | exact bne1 (by with_reducible assumption) hq | ((simp only [*, BB, cond_true, cond_false, reduceCtorEq] at hq); done) | (revert hq; with_reducible intro _)) | (with_reducible first | exact True.intro | rfl | refine EntLe.row ?_ | exact LeN.ro rfl | exact LeN.rptr | assumption) | ((with_reducible first | refine WkX.chk ?_ | refine Wk.chk ?_ | refine LeL.chk ?_ | refine LeF.chk ?_ | refine Run.mk ?_); (conv => whnf)) | ((with_reducible show LeO _ _); first | refine LeO.ro ?_ | refine LeO.roCap ?_ | refine LeO.nil ?_ (fun _ => rfl)) | ((with_reducible show LeR _ _ _); first | refine LeR.own rfl rfl rfl ?_ | refine LeR.view rfl rfl rfl ?_ ?_ | refine LeR.ro ?_ | refine LeR.roCap ?_ | refine LeR.nil ?_ (fun _ => rfl)) | ((with_reducible first | show drawOK _ _ = true | show lateOK _ _ = true | show drawOK2 _ _ = true | show drawOK3 _ _ = true); kernel_rfl))
        all_goals first
        | omega
        | (rw [hxx]; done)
        | (rw [hxx]; apply Fits.i64 <;> omega)
        | (apply Fits.i64 <;> omega)
        | (rw [hxx]; exact hv.symm)
        | exact hv.symm
        | trace_state

      · have kd : decide (t ≤ x.to) = false := decide_eq_false c2
        have hv : eds f t (sgN s2 : Nat) x.to = f := by unfold eds; rw [if_neg c1, if_neg c2]
        repeat' (first | (with_reducible refine ex_of () trivial ?_) | (with_reducible first | exact fun h => h | refine ExE.row (by with_unfolding_all rfl) ?_ | refine And.intro ?_ ?_) | ((with_reducible intro hq); first | exact bne1 hq (by with_reducible assumption) | exact bne1 (by with_reducible assumption) hq | ((simp only [*, BB, cond_true, cond_false, reduceCtorEq] at hq); done) | (revert hq; with_reducible intro _)) | (with_reducible first | exact True.intro | rfl | refine EntLe.row ?_ | exact LeN.ro rfl | exact LeN.rptr | assumption) | ((with_reducible first | refine WkX.chk ?_ | refine Wk.chk ?_ | refine LeL.chk ?_ | refine LeF.chk ?_ | refine Run.mk ?_); (conv => whnf)) | ((with_reducible show LeO _ _); first | refine LeO.ro ?_ | refine LeO.roCap ?_ | refine LeO.nil ?_ (fun _ => rfl)) | ((with_reducible show LeR _ _ _); first | refine LeR.own rfl rfl rfl ?_ | refine LeR.view rfl rfl rfl ?_ ?_ | refine LeR.ro ?_ | refine LeR.roCap ?_ | refine LeR.nil ?_ (fun _ => rfl)) | ((with_reducible first | show drawOK _ _ = true | show lateOK _ _ = true | show drawOK2 _ _ = true | show drawOK3 _ _ = true); kernel_rfl))
        all_goals first
        | omega
        | (rw [hxx]; done)
        | (rw [hxx]; apply Fits.i64 <;> omega)
        | (apply Fits.i64 <;> omega)
        | (rw [hxx]; exact hv.symm)
        | exact hv.symm
        | trace_state

    have hpb := Bool.eq_false_or_eq_true (posB (mvS f t (sgN s2 : Nat) x))
    rcases hpb with hpb | hpb
    · have hst := (hoy hpb).symm
      have kc : decide (bgn f t (sgN s2 : Nat) x.frm < eds f t (sgN s2 : Nat) x.to) = true := hpb
      clear hoy hon
      repeat' (first | (with_reducible refine ex_of (α := Nat) (i + 1) ⟨?_, ?_⟩ ?_) | (with_reducible first | exact fun h => h | refine ExE.row (by with_unfolding_all rfl) ?_ | refine And.intro ?_ ?_) | ((with_reducible intro hq); first | exact bne1 hq (by with_reducible assumption) | exact bne1 (by with_reducible assumption) hq | ((simp only [*, BB, cond_true, cond_false, reduceCtorEq] at hq); done) | (revert hq; with_reducible intro _)) | (with_reducible first | exact True.intro | rfl | refine EntLe.row ?_ | exact LeN.ro rfl | exact LeN.rptr | assumption) | ((with_reducible first | refine WkX.chk ?_ | refine Wk.chk ?_ | refine LeL.chk ?_ | refine LeF.chk ?_ | refine Run.mk ?_); (conv => whnf)) | ((with_reducible show LeO _ _); first | refine LeO.ro ?_ | refine LeO.roCap ?_ | refine LeO.nil ?_ (fun _ => rfl)) | ((with_reducible show LeR _ _ _); first | refine LeR.own rfl rfl rfl ?_ | refine LeR.view rfl rfl rfl ?_ ?_ | refine LeR.ro ?_ | refine LeR.roCap ?_ | refine LeR.nil ?_ (fun _ => rfl)) | ((with_reducible first | show drawOK _ _ = true | show lateOK _ _ = true | show drawOK2 _ _ = true | show drawOK3 _ _ = true); kernel_rfl))
      all_goals first
        | omega
        | rfl
        | (apply Fits.i64 <;> omega)
        | (show (isort ltO l).length - (i + 1) < (isort ltO l).length - i; omega)
        | (show ((outTo (mvS f t (sgN s2 : Nat)) (isort ltO l) i).length + 1) * 32 ≤ 140737488355328; omega)
        | exact hst
        | trace_state
    · have hst := (hon hpb).symm
      have kc : decide (bgn f t (sgN s2 : Nat) x.frm < eds f t (sgN s2 : Nat) x.to) = false := hpb
      clear hoy hon
      repeat' (first | (with_reducible refine ex_of (α := Nat) (i + 1) ⟨?_, ?_⟩ ?_) | (with_reducible first | exact fun h => h | refine ExE.row (by with_unfolding_all rfl) ?_ | refine And.intro ?_ ?_) | ((with_reducible intro hq); first | exact bne1 hq (by with_reducible assumption) | exact bne1 (by with_reducible assumption) hq | ((simp only [*, BB, cond_true, cond_false, reduceCtorEq] at hq); done) | (revert hq; with_reducible intro _)) | (with_reducible first | exact True.intro | rfl | refine EntLe.row ?_ | exact LeN.ro rfl | exact LeN.rptr | assumption) | ((with_reducible first | refine WkX.chk ?_ | refine Wk.chk ?_ | refine LeL.chk ?_ | refine LeF.chk ?_ | refine Run.mk ?_); (conv => whnf)) | ((with_reducible show LeO _ _); first | refine LeO.ro ?_ | refine LeO.roCap ?_ | refine LeO.nil ?_ (fun _ => rfl)) | ((with_reducible show LeR _ _ _); first | refine LeR.own rfl rfl rfl ?_ | refine LeR.view rfl rfl rfl ?_ ?_ | refine LeR.ro ?_ | refine LeR.roCap ?_ | refine LeR.nil ?_ (fun _ => rfl)) | ((with_reducible first | show drawOK _ _ = true | show lateOK _ _ = true | show drawOK2 _ _ = true | show drawOK3 _ _ = true); kernel_rfl))
      all_goals first
        | omega
        | rfl
        | (apply Fits.i64 <;> omega)
        | (show (isort ltO l).length - (i + 1) < (isort ltO l).length - i; omega)
        | exact hst
        | trace_state
  have hlt : decide ((i : Int) < ((isort ltO l).length : Int)) = false := decide_eq_false (by omega)
  have hii : i = (isort ltO l).length := by omega
  subst hii
  repeat' (first | (with_reducible first | exact fun h => h | refine ExE.row (by with_unfolding_all rfl) ?_ | refine And.intro ?_ ?_) | ((with_reducible intro hq); first | exact bne1 hq (by with_reducible assumption) | exact bne1 (by with_reducible assumption) hq | ((simp only [*, BB, cond_true, cond_false, reduceCtorEq] at hq); done) | (revert hq; with_reducible intro _)) | (with_reducible first | exact True.intro | rfl | refine EntLe.row ?_ | exact LeN.ro rfl | exact LeN.rptr | assumption) | ((with_reducible first | refine WkX.chk ?_ | refine Wk.chk ?_ | refine LeL.chk ?_ | refine LeF.chk ?_ | refine Run.mk ?_); (conv => whnf)) | ((with_reducible show LeO _ _); first | refine LeO.ro ?_ | refine LeO.roCap ?_ | refine LeO.nil ?_ (fun _ => rfl)) | ((with_reducible show LeR _ _ _); first | refine LeR.own rfl rfl rfl ?_ | refine LeR.view rfl rfl rfl ?_ ?_ | refine LeR.ro ?_ | refine LeR.roCap ?_ | refine LeR.nil ?_ (fun _ => rfl)) | ((with_reducible first | show drawOK _ _ = true | show lateOK _ _ = true | show drawOK2 _ _ = true | show drawOK3 _ _ = true); kernel_rfl))
  refine loopI Nat [] (fun j => [(167, .v (.int .i64 (j : Nat)))]) (fun j => [(5, .row C_spn (outTo (mvS f t (sgN s2 : Nat)) (isort ltO l) (isort ltO l).length ++ shTo f l2 j) 71 none)]) (fun j => j ≤ l2.length) (fun j => l2.length - j) 0 (Nat.zero_le _) (Wk.chk ?_) fun j hj => ?_
  · ((conv => whnf); repeat' (first | (with_reducible first | exact fun h => h | refine ExE.row (by with_unfolding_all rfl) ?_ | refine And.intro ?_ ?_) | ((with_reducible intro hq); first | exact bne1 hq (by with_reducible assumption) | exact bne1 (by with_reducible assumption) hq | ((simp only [*, BB, cond_true, cond_false, reduceCtorEq] at hq); done) | (revert hq; with_reducible intro _)) | (with_reducible first | exact True.intro | rfl | refine EntLe.row ?_ | exact LeN.ro rfl | exact LeN.rptr | assumption) | ((with_reducible first | refine WkX.chk ?_ | refine Wk.chk ?_ | refine LeL.chk ?_ | refine LeF.chk ?_ | refine Run.mk ?_); (conv => whnf)) | ((with_reducible show LeO _ _); first | refine LeO.ro ?_ | refine LeO.roCap ?_ | refine LeO.nil ?_ (fun _ => rfl)) | ((with_reducible show LeR _ _ _); first | refine LeR.own rfl rfl rfl ?_ | refine LeR.view rfl rfl rfl ?_ ?_ | refine LeR.ro ?_ | refine LeR.roCap ?_ | refine LeR.nil ?_ (fun _ => rfl)) | ((with_reducible first | show drawOK _ _ = true | show lateOK _ _ = true | show drawOK2 _ _ = true | show drawOK3 _ _ = true); kernel_rfl)))
    all_goals first
      | rfl
      | (simp [shTo]; done)
      | trace_state
  have hj : j ≤ l2.length := hj
  have e1 : ((j : Int)).toNat = j := Int.toNat_natCast _
  have hsl := shTo_len (k := f) hj
  by_cases hjl : j < l2.length
  · have hlt : decide ((j : Int) < (l2.length : Int)) = true := decide_eq_true (by omega)
    have hxb := hin2.at hjl
    have hst := shTo_step (k := f) hjl
    have hxx : l2.getD ((j : Int)).toNat C_spn.d = l2.getD j zS := by rw [e1, hd]
    have hst2 : outTo (mvS f t (sgN s2 : Nat)) (isort ltO l) (isort ltO l).length ++ shTo f l2 j ++ [shS f (l2.getD j zS)] = outTo (mvS f t (sgN s2 : Nat)) (isort ltO l) (isort ltO l).length ++ shTo f l2 (j + 1) := by rw [hst, List.append_assoc]
    repeat' (first | (with_reducible refine ex_of (α := Nat) (j + 1) ⟨?_, ?_⟩ ?_) | (with_reducible first | exact fun h => h | refine ExE.row (by with_unfolding_all rfl) ?_ | refine And.intro ?_ ?_) | ((with_reducible intro hq); first | exact bne1 hq (by with_reducible assumption) | exact bne1 (by with_reducible assumption) hq | ((simp only [*, BB, cond_true, cond_false, reduceCtorEq] at hq); done) | (revert hq; with_reducible intro _)) | (with_reducible first | exact True.intro | rfl | refine EntLe.row ?_ | exact LeN.ro rfl | exact LeN.rptr | assumption) | ((with_reducible first | refine WkX.chk ?_ | refine Wk.chk ?_ | refine LeL.chk ?_ | refine LeF.chk ?_ | refine Run.mk ?_); (conv => whnf)) | ((with_reducible show LeO _ _); first | refine LeO.ro ?_ | refine LeO.roCap ?_ | refine LeO.nil ?_ (fun _ => rfl)) | ((with_reducible show LeR _ _ _); first | refine LeR.own rfl rfl rfl ?_ | refine LeR.view rfl rfl rfl ?_ ?_ | refine LeR.ro ?_ | refine LeR.roCap ?_ | refine LeR.nil ?_ (fun _ => rfl)) | ((with_reducible first | show drawOK _ _ = true | show lateOK _ _ = true | show drawOK2 _ _ = true | show drawOK3 _ _ = true); kernel_rfl))
    all_goals first
      | omega
      | rfl
      | (apply Fits.i64 <;> omega)
      | (rw [hxx]; apply Fits.i64 <;> omega)
      | (show l2.length - (j + 1) < l2.length - j; omega)
      | (show ((outTo (mvS f t (sgN s2 : Nat)) (isort ltO l) (isort ltO l).length ++ shTo f l2 j).length + 1) * 32 ≤ 140737488355328; rw [List.length_append]; omega)
      | exact hst2
      | trace_state
  have hlt : decide ((j : Int) < (l2.length : Int)) = false := decide_eq_false (by omega)
  have hjj : j = l2.length := by omega
  subst hjj
  have hNL : outTo (mvS f t (sgN s2 : Nat)) (isort ltO l) (isort ltO l).length ++ shTo f l2 l2.length = newL l f t s2 l2 := rfl
  by_cases h7 : 256 < (newL l f t s2 l2).length
  · have hE := splE_6 h1 h2 h3 h4 h5 h6 h7
    have hT := splT_no (s := s) (l := l) (f := f) (t := t) (s2 := s2) (l2 := l2) (by rw [hE]; decide)
    have hL := splL_no (s := s) (l := l) (f := f) (t := t) (s2 := s2) (l2 := l2) (by rw [hE]; decide)
    have kc : decide ((256 : Int) < ((outTo (mvS f t (sgN s2 : Nat)) (isort ltO l) (isort ltO l).length ++ shTo f l2 l2.length).length : Int)) = true := decide_eq_true (by rw [hNL]; omega)
    repeat' (first | (with_reducible first | exact fun h => h | refine ExE.row (by with_unfolding_all rfl) ?_ | refine And.intro ?_ ?_) | ((with_reducible intro hq); first | exact bne1 hq (by with_reducible assumption) | exact bne1 (by with_reducible assumption) hq | ((simp only [*, BB, cond_true, cond_false, reduceCtorEq] at hq); done) | (revert hq; with_reducible intro _)) | (with_reducible first | exact True.intro | rfl | refine EntLe.row ?_ | exact LeN.ro rfl | exact LeN.rptr | assumption) | ((with_reducible first | refine WkX.chk ?_ | refine Wk.chk ?_ | refine LeL.chk ?_ | refine LeF.chk ?_ | refine Run.mk ?_); (conv => whnf)) | ((with_reducible show LeO _ _); first | refine LeO.ro ?_ | refine LeO.roCap ?_ | refine LeO.nil ?_ (fun _ => rfl)) | ((with_reducible show LeR _ _ _); first | refine LeR.own rfl rfl rfl ?_ | refine LeR.view rfl rfl rfl ?_ ?_ | refine LeR.ro ?_ | refine LeR.roCap ?_ | refine LeR.nil ?_ (fun _ => rfl)) | ((with_reducible first | show drawOK _ _ = true | show lateOK _ _ = true | show drawOK2 _ _ = true | show drawOK3 _ _ = true); kernel_rfl))
    all_goals first
      | exact hE.symm
      | exact hT.symm
      | exact hL.symm
      | trace_state
  · have hE := splE_7 h1 h2 h3 h4 h5 h6 h7
    have hT := splT_yes hE
    have hL := splL_yes hE
    have kc : decide ((256 : Int) < ((outTo (mvS f t (sgN s2 : Nat)) (isort ltO l) (isort ltO l).length ++ shTo f l2 l2.length).length : Int)) = false := decide_eq_false (by rw [hNL]; omega)
    repeat' (first | (with_reducible first | exact fun h => h | refine ExE.row (by with_unfolding_all rfl) ?_ | refine And.intro ?_ ?_) | ((with_reducible intro hq); first | exact bne1 hq (by with_reducible assumption) | exact bne1 (by with_reducible assumption) hq | ((simp only [*, BB, cond_true, cond_false, reduceCtorEq] at hq); done) | (revert hq; with_reducible intro _)) | (with_reducible first | exact True.intro | rfl | refine EntLe.row ?_ | exact LeN.ro rfl | exact LeN.rptr | assumption) | ((with_reducible first | refine WkX.chk ?_ | refine Wk.chk ?_ | refine LeL.chk ?_ | refine LeF.chk ?_ | refine Run.mk ?_); (conv => whnf)) | ((with_reducible show LeO _ _); first | refine LeO.ro ?_ | refine LeO.roCap ?_ | refine LeO.nil ?_ (fun _ => rfl)) | ((with_reducible show LeR _ _ _); first | refine LeR.own rfl rfl rfl ?_ | refine LeR.view rfl rfl rfl ?_ ?_ | refine LeR.ro ?_ | refine LeR.roCap ?_ | refine LeR.nil ?_ (fun _ => rfl)) | ((with_reducible first | show drawOK _ _ = true | show lateOK _ _ = true | show drawOK2 _ _ = true | show drawOK3 _ _ = true); kernel_rfl))
    all_goals first
      | exact hE.symm
      | exact hT.symm
      | exact hL.symm
      | trace_state
end Go.SX.Try
/- Laying one element into a row, told by its place. No program here. -/
namespace Go.SX.Plain
section
variable {α : Type} {d : α} {lt : α → α → Bool}
theorem insR_at {S : List α} {x : α} {k : Nat} (hk : k ≤ S.length) (hq : ∀ j, k ≤ j → j < S.length → lt x (S.getD j d) = true) (hp : k = 0 ∨ lt x (S.getD (k - 1) d) = false) : insR lt x S = S.take k ++ x :: S.drop k := by
  have hq2 : ∀ z ∈ S.drop k, lt x z = true := fun z hz => by
    obtain ⟨j, hj, rfl⟩ := List.getElem_of_mem hz
    rw [List.length_drop] at hj
    have := hq (k + j) (by omega) (by omega)
    rw [List.getElem_drop]
    simpa [List.getD_eq_getElem?_getD, show k + j < S.length by omega] using this
  rcases Nat.eq_zero_or_pos k with rfl | h0
  · rw [List.drop_zero] at hq2
    rw [List.take_zero, List.drop_zero]
    exact insR_all hq2
  · rcases hp with hp | hp
    · omega
    · have e : S = S.take (k - 1) ++ [S.getD (k - 1) d] ++ S.drop k := by
        rw [take_one S d (show k - 1 < S.length by omega), show k - 1 + 1 = k by omega, List.take_append_drop]
      have hl := insR_last (lt := lt) (x := x) (z := S.getD (k - 1) d) (p := S.take (k - 1)) (q := S.drop k) hp hq2
      rw [← e] at hl
      rw [hl, take_one S d (show k - 1 < S.length by omega), show k - 1 + 1 = k by omega]
end
end Go.SX.Plain
/- A verified symbolic executor for Go code in the model: a row takes another one's name. -/
namespace Go.SX
open Go.RowKit
def moveE (i j : Nat) (p : Nat × Ent) : Option (Nat × Ent) := match p with
  | (k, e) => match e with
    | .loop _ _ _ _ _ _ _ _ _ => none
    | .defer _ => none
    | .box cs t => match Nat.beq k i with
      | true => none
      | false => some (match Nat.beq k j with | true => i | false => k, .box (AV.subL j (.own i) (AV.subL i .junk cs)) t)
    | .row C l t cap => match Nat.beq k i with
      | true => none
      | false => some (match Nat.beq k j with | true => i | false => k, .row C l t cap)
    | .iter s p => match Nat.beq k i with
      | true => none
      | false => some (match Nat.beq k j with | true => i | false => k, .iter s p)
def moveF (i j : Nat) (fr : Fr) : Fr := subF j (.own i) (subF i .junk fr)
def moveS (i j : Nat) (A : Sta) : Sta := match A with
  | ⟨fr, stk, m, nx⟩ => ⟨moveF i j fr, stk.map (moveF i j), m.filterMap (moveE i j), nx⟩
def Env.move (E : Env) (i j : Nat) : Env := { E with h := fun k => if k = i then E.h j else E.h k }
theorem Env.move_i (E : Env) (i j : Nat) : (E.move i j).h i = E.h j := if_pos rfl
theorem Env.move_ne (E : Env) {i j k : Nat} (h : k ≠ i) : (E.move i j).h k = E.h k := if_neg h
section
variable {base : Nat} {w0 : Start} {w : World} {E : Env} {stk : List Fr} {gs : List (Array Value)} {m : Mem}
theorem rel_move {i j : Nat} (hij : i ≠ j) (hi : ∀ b, E.h i ≠ .pointer (some ⟨b, 0, none⟩)) (hd : E.dom i) (hj : ∃ A n c, E.h j = .slice A n c) {a : AV} {v : Value} (h : Rel w E a v) : Rel w (E.move i j) (AV.sub j (.own i) (AV.sub i .junk a)) v := by
  have t1 : Turns i E (E.move i j) w w := ⟨fun id _ hne => E.move_ne hne, hi, fun _ h => h, fun _ h => h, fun _ h => h, fun _ _ => rfl⟩
  have hjj : (E.move i j).h j = E.h j := E.move_ne (Ne.symm hij)
  have hpj : ∀ b, (E.move i j).h j ≠ .pointer (some ⟨b, 0, none⟩) := fun b hb => by
    obtain ⟨A, n, c, hs⟩ := hj
    rw [hjj, hs] at hb
    cases hb
  have t2 : Turns j (E.move i j) (E.move i j) w w := ⟨fun id _ _ => rfl, hpj, fun _ h => h, fun _ h => h, fun _ h => h, fun _ _ => rfl⟩
  refine Rel.sub t2 (fun _ => ?_) (Rel.sub t1 (fun _ => .junk _) h)
  have := Rel.own (w := w) (E := E.move i j) (id := i) hd (by rw [E.move_i]; exact hj)
  rw [E.move_i] at this
  rw [hjj]
  exact this
theorem moveE_some {i j : Nat} {p q : Nat × Ent} (h : moveE i j p = some q) : p.1 ≠ i ∧ q.1 = (if p.1 = j then i else p.1) ∧
    ((∃ cs t, p.2 = .box cs t ∧ q.2 = .box (AV.subL j (.own i) (AV.subL i .junk cs)) t) ∨ q.2 = p.2 ∧ ((∃ (α : Type) (C : Cdc α) (l : List α) (t : Nat) (cap : Option Nat), p.2 = .row C l t cap) ∨ ∃ s pos, p.2 = .iter s pos)) := by
  obtain ⟨k, e⟩ := p
  have key : ∀ {e' : Ent}, (match Nat.beq k i with | true => none | false => some (match Nat.beq k j with | true => i | false => k, e')) = some q → k ≠ i ∧ q.1 = (if k = j then i else k) ∧ q.2 = e' := by
    intro e' h
    cases hb : Nat.beq k i with
    | true => rw [hb] at h; cases h
    | false =>
      rw [hb] at h
      have := Option.some.inj h
      subst this
      refine ⟨fun e => by subst e; simp at hb, ?_, rfl⟩
      cases hb2 : Nat.beq k j with
      | true => rw [if_pos (Nat.eq_of_beq_eq_true hb2)]
      | false => rw [if_neg (fun e => by subst e; simp at hb2)]
  cases e with
  | box cs t =>
    obtain ⟨a, b, c⟩ := key h
    exact ⟨a, b, .inl ⟨cs, t, rfl, c⟩⟩
  | row C l t cap =>
    obtain ⟨a, b, c⟩ := key h
    exact ⟨a, b, .inr ⟨c, .inl ⟨_, C, l, t, cap, rfl⟩⟩⟩
  | iter s p =>
    obtain ⟨a, b, c⟩ := key h
    exact ⟨a, b, .inr ⟨c, .inr ⟨s, p, rfl⟩⟩⟩
  | defer b => cases h
  | loop _ _ _ _ _ _ _ _ _ => cases h
theorem SatM.move (h : SatM base w0 E stk gs m w) {i j : Nat} (hij : i ≠ j) {α α' : Type} {C : Cdc α} {l : List α} {t : Nat} {cap : Option Nat} {C' : Cdc α'} {l' : List α'} {t' : Nat} {cap' : Option Nat} (hi : (i, Ent.row C' l' t' cap') ∈ m) (hj : (j, Ent.row C l t cap) ∈ m) :
    SatM base w0 (E.move i j) (stk.map (moveF i j)) gs (m.filterMap (moveE i j)) w := by
  have hsl : ∀ {k : Nat} {β : Type} {C : Cdc β} {l : List β} {t : Nat} {cap : Option Nat}, (k, Ent.row C l t cap) ∈ m → ∃ A n c, E.h k = .slice A n c := fun hk => by
    obtain ⟨_, ⟨_, _, ⟨xs, ho, _⟩, _⟩, _⟩ := h.ents _ _ hk
    rcases ho.2 with ⟨hv, _⟩ | ⟨g, c, cur, hv, _⟩
    · exact ⟨_, _, _, hv⟩
    · exact ⟨_, _, _, hv⟩
  have hpi : ∀ b, E.h i ≠ .pointer (some ⟨b, 0, none⟩) := fun b hb => by
    obtain ⟨A, n, c, hs⟩ := hsl hi
    rw [hs] at hb
    cases hb
  have hdi := (h.ents _ _ hi).1
  have hrel : ∀ {a : AV} {v : Value}, Rel w E a v → Rel w (E.move i j) (AV.sub j (.own i) (AV.sub i .junk a)) v := fun hr => rel_move hij hpi hdi (hsl hj) hr
  have hhq : ∀ {p q : Nat × Ent}, moveE i j p = some q → (E.move i j).h q.1 = E.h p.1 := fun {p q} hq => by
    obtain ⟨a, b, _⟩ := moveE_some hq
    rw [b]
    split
    · rename_i e; rw [E.move_i, e]
    · exact E.move_ne a
  refine ⟨h.below, h.hb, h.imm, h.keep, h.same, fun id e he => ?_, ?_, by rw [List.length_map]; exact h.len, fun k h1 h2 => ?_⟩
  · obtain ⟨⟨k, e0⟩, hp, hq⟩ := List.mem_filterMap.1 he
    have hh := hhq hq
    obtain ⟨a, b, c⟩ := moveE_some hq
    obtain ⟨d1, d2, d3⟩ := h.ents _ _ hp
    simp only at hh a b c
    refine ⟨?_, ?_, by rw [hh]; exact d3⟩
    · show E.dom id
      rw [b]
      split
      · exact hdi
      · exact d1
    · rcases c with ⟨cs, ty, rfl, rfl⟩ | ⟨rfl, ⟨β, C2, l2, t2, cap2, rfl⟩ | ⟨s, pos, rfl⟩⟩
      · obtain ⟨bb, vs, f1, f2, f3⟩ := d2
        refine ⟨bb, vs, by rw [hh]; exact f1, f2, ?_⟩
        refine ⟨by rw [AV.subL_length, AV.subL_length]; exact f3.1, fun n g1 g2 => ?_⟩
        have g3 : n < (AV.subL i .junk cs).length := by rw [AV.subL_length] at g1; exact g1
        have g4 : n < cs.length := by rw [AV.subL_length] at g3; exact g3
        rw [AV.subL_get _ _ _ n g1 g3, AV.subL_get _ _ _ n g3 g4]
        exact hrel (f3.2 n g4 g2)
      · obtain ⟨f1, f2, ⟨xs, f3, f4⟩, f5⟩ := d2
        refine ⟨f1, f2, ⟨xs, by rw [hh]; exact f3, f4.mono (Goes.bare (fun _ h => h) fun _ _ => rfl)⟩, by rw [hh]; exact f5⟩
      · obtain ⟨bb, f1, f2⟩ := d2
        exact ⟨bb, by rw [hh]; exact f1, f2⟩
  · refine List.Pairwise.filterMap (moveE i j) ?_ (h.disj.imp_of_mem (S := fun p q => (p.1 ≠ q.1 ∧ ∀ b, blk (E.h p.1) = some b → blk (E.h q.1) ≠ some b)) fun _ _ hr => hr)
    intro p q hr p' hp' q' hq'
    have e1 := hhq hp'
    have e2 := hhq hq'
    obtain ⟨a1, b1, _⟩ := moveE_some hp'
    obtain ⟨a2, b2, _⟩ := moveE_some hq'
    refine ⟨?_, fun b hb => by rw [e1] at hb; rw [e2]; exact hr.2 b hb⟩
    rw [b1, b2]
    have := hr.1
    split <;> split <;> omega
  · have hk : k < stk.length := by rw [List.length_map] at h1; exact h1
    rw [List.getElem_map]
    intro t
    rw [moveF, getS_subF, getS_subF]
    exact hrel (h.stk k hk h2 t)
end
theorem Wk.move {A : Sta} {i j : Nat} (hij : Nat.beq i j = false) {α α' : Type} {C : Cdc α} {l : List α} {t : Nat} {cap : Option Nat} {C' : Cdc α'} {l' : List α'} {t' : Nat} {cap' : Option Nat} (hi : getE A.m i = some (.row C' l' t' cap')) (hj : getE A.m j = some (.row C l t cap)) : Wk A (moveS i j A) :=
  ⟨fun base w0 E gs tm w hnx hS => by
    obtain ⟨fr, stk, m, nx⟩ := A
    exact ⟨E.move i j, hnx, hS.move (fun e => by subst e; simp at hij) (mem_of_getE hi) (mem_of_getE hj)⟩⟩
end Go.SX
/- Contracts of the document's may, part, begins, ends, moved, outer. -/
namespace Go.SX.Try
open Go.Proofs Go.Proofs.Try Go.SX.Plain
set_option maxRecDepth 100000
set_option maxHeartbeats 0
set_option linter.unusedSimpArgs false
abbrev Sm4 (f t n x : Int) : Prop := (0 ≤ f ∧ f ≤ 10000) ∧ (0 ≤ t ∧ t ≤ 10000) ∧ (0 ≤ n ∧ n ≤ 10000) ∧ 0 ≤ x ∧ x ≤ 10000
end Go.SX.Try
/- Plain law: the spans of a normal form. -/
namespace Go.SX.Plain
set_option linter.unusedSimpArgs false
def hasK (a : Atr) (k : Int) : Int :=
  if k = 1 then (if a.bold = true then 1 else 0) else if k = 2 then (if a.italic = true then 1 else 0) else if k = 3 then (if a.under = true then 1 else 0) else if k = 4 then (if a.strike = true then 1 else 0) else if k = 5 then a.colour else 0
def ColOK (l : List Atr) : Prop := ∀ a ∈ l, 0 ≤ a.colour ∧ a.colour ≤ 16777216
theorem ColOK.at {l : List Atr} (h : ColOK l) {i : Nat} (hi : i < l.length) : 0 ≤ (l.getD i zA).colour ∧ (l.getD i zA).colour ≤ 16777216 := by
  have := h l[i] (List.getElem_mem hi)
  simpa [List.getD_eq_getElem?_getD, hi] using this
theorem hasK_bd {a : Atr} {k : Int} (h : 0 ≤ a.colour ∧ a.colour ≤ 16777216) : 0 ≤ hasK a k ∧ hasK a k ≤ 16777216 := by
  unfold hasK
  repeat' split
  all_goals omega
def adv (p : Nat → Bool) : Nat → Nat → Nat
  | 0, j => j
  | f + 1, j => if p j = true then adv p f (j + 1) else j
theorem adv_bd (p : Nat → Bool) : ∀ f j, j ≤ adv p f j ∧ adv p f j ≤ j + f
  | 0, j => ⟨Nat.le_refl _, Nat.le_refl _⟩
  | f + 1, j => by
    have := adv_bd p f (j + 1)
    rw [adv]
    split <;> omega
section
variable (l : List Atr) (cut : List Bool) (k : Int)
def goOn (v : Int) (j : Nat) : Bool := decide (hasK (l.getD j zA) k = v) && !(cut.getD j false)
def strE (i : Nat) : Nat := adv (goOn l cut k (hasK (l.getD i zA) k)) (l.length - (i + 1)) (i + 1)
def strS (i : Nat) : List Spn := if hasK (l.getD i zA) k = 0 then [] else [⟨i, (strE l cut k i : Nat), k, if k = 5 then hasK (l.getD i zA) k - 1 else 0⟩]
def strF : Nat → Nat → List Spn
  | 0, _ => []
  | f + 1, i => if i < l.length then strS l cut k i ++ strF f (strE l cut k i) else []
def strT (i : Nat) : List Spn := strF l cut k (l.length - i) i
end
section
variable {l : List Atr} {cut : List Bool} {k : Int}
theorem strE_bd {i : Nat} (h : i < l.length) : i < strE l cut k i ∧ strE l cut k i ≤ l.length := by
  have := adv_bd (goOn l cut k (hasK (l.getD i zA) k)) (l.length - (i + 1)) (i + 1)
  unfold strE
  omega
theorem adv_on {p : Nat → Bool} {n j : Nat} (h : j < n) (hp : p j = true) : adv p (n - j) j = adv p (n - (j + 1)) (j + 1) := by
  rw [show n - j = (n - (j + 1)) + 1 by omega, adv, if_pos hp]
theorem adv_no {p : Nat → Bool} {n j : Nat} (h : j < n) (hp : p j = false) : adv p (n - j) j = j := by
  rw [show n - j = (n - (j + 1)) + 1 by omega, adv, if_neg (by rw [hp]; decide)]
theorem adv_end {p : Nat → Bool} {n j : Nat} (h : n ≤ j) : adv p (n - j) j = j := by
  rw [show n - j = 0 by omega, adv]
theorem strF_fuel : ∀ (f g i : Nat), l.length - i ≤ f → l.length - i ≤ g → strF l cut k f i = strF l cut k g i
  | 0, 0, i, _, _ => rfl
  | 0, g + 1, i, h, _ => by rw [strF, strF, if_neg (by omega)]
  | f + 1, 0, i, _, h => by rw [strF, strF, if_neg (by omega)]
  | f + 1, g + 1, i, h1, h2 => by
    rw [strF, strF]
    split
    · rename_i hi
      have := strE_bd (cut := cut) (k := k) hi
      rw [strF_fuel f g _ (by omega) (by omega)]
    · rfl
theorem strT_step {i : Nat} (h : i < l.length) : strT l cut k i = strS l cut k i ++ strT l cut k (strE l cut k i) := by
  have hb := strE_bd (cut := cut) (k := k) h
  unfold strT
  rw [show l.length - i = (l.length - (i + 1)) + 1 by omega, strF, if_pos h, strF_fuel _ (l.length - strE l cut k i) _ (by omega) (by omega)]
theorem strT_end {i : Nat} (h : ¬ i < l.length) : strT l cut k i = [] := by
  unfold strT
  rw [show l.length - i = 0 by omega, strF]
theorem strS_len (i : Nat) : (strS l cut k i).length ≤ 1 := by
  unfold strS
  split <;> simp
theorem strF_len : ∀ (f i : Nat), (strF l cut k f i).length ≤ f
  | 0, i => by simp [strF]
  | f + 1, i => by
    have h1 := strF_len f (strE l cut k i)
    have h2 := strS_len (l := l) (cut := cut) (k := k) i
    rw [strF]
    split
    · rw [List.length_append]; omega
    · simp
theorem strT_len (i : Nat) : (strT l cut k i).length ≤ l.length - i := strF_len _ _
theorem strF_in : ∀ (f i : Nat), ∀ x ∈ strF l cut k f i, 0 ≤ x.frm ∧ x.frm < x.to ∧ x.to ≤ (l.length : Nat)
  | 0, i, x, hx => by simp [strF] at hx
  | f + 1, i, x, hx => by
    rw [strF] at hx
    split at hx
    · rename_i hi
      have hb := strE_bd (cut := cut) (k := k) hi
      rcases List.mem_append.1 hx with h | h
      · unfold strS at h
        split at h
        · cases h
        · rw [List.mem_singleton] at h
          subst h
          refine ⟨?_, ?_, ?_⟩ <;> simp only <;> omega
      · exact strF_in f _ x h
    · cases hx
theorem strT_in (i : Nat) : InL (strT l cut k i) l.length := fun x hx => strF_in _ _ x hx
end
def mkC (cut : List Bool) (x : Spn) : List Bool := (cut.set x.frm.toNat true).set x.to.toNat true
def mkTo (cut : List Bool) (S : List Spn) (n : Nat) : List Bool := (S.take n).foldl mkC cut
theorem mkTo_step {cut : List Bool} {S : List Spn} {n : Nat} (h : n < S.length) : mkTo cut S (n + 1) = mkC (mkTo cut S n) (S.getD n zS) := by
  unfold mkTo
  rw [← take_one S zS h, List.foldl_append]
  rfl
theorem mkC_len (cut : List Bool) (x : Spn) : (mkC cut x).length = cut.length := by simp [mkC]
theorem foldl_mkC_len : ∀ (S : List Spn) (cut : List Bool), (S.foldl mkC cut).length = cut.length
  | [], _ => rfl
  | x :: S, cut => by rw [List.foldl_cons, foldl_mkC_len S, mkC_len]
theorem mkTo_len (cut : List Bool) (S : List Spn) (n : Nat) : (mkTo cut S n).length = cut.length := foldl_mkC_len _ _
def kindsTo (l : List Atr) : Nat → List Bool × List Spn
  | 0 => (List.replicate (l.length + 1) false, [])
  | k + 1 => (mkTo (kindsTo l k).1 (strT l (kindsTo l k).1 ((k + 1 : Nat) : Int) 0) (strT l (kindsTo l k).1 ((k + 1 : Nat) : Int) 0).length, (kindsTo l k).2 ++ strT l (kindsTo l k).1 ((k + 1 : Nat) : Int) 0)
theorem kinds_cut (l : List Atr) : ∀ k, (kindsTo l k).1.length = l.length + 1
  | 0 => by simp [kindsTo]
  | k + 1 => by rw [kindsTo, mkTo_len]; exact kinds_cut l k
theorem kinds_len (l : List Atr) : ∀ k, (kindsTo l k).2.length ≤ k * l.length
  | 0 => by simp [kindsTo]
  | k + 1 => by
    have h1 := kinds_len l k
    have h2 := strT_len (l := l) (cut := (kindsTo l k).1) (k := ((k + 1 : Nat) : Int)) 0
    rw [kindsTo, List.length_append, Nat.add_mul]
    omega
theorem kinds_mono (l : List Atr) {a : Nat} : ∀ b, a ≤ b → (kindsTo l a).2.length ≤ (kindsTo l b).2.length
  | 0, h => by obtain rfl : a = 0 := by omega
               exact Nat.le_refl _
  | b + 1, h => by
    by_cases hab : a = b + 1
    · subst hab; exact Nat.le_refl _
    · have := kinds_mono (a := a) l b (by omega)
      have e : (kindsTo l (b + 1)).2.length = (kindsTo l b).2.length + (strT l (kindsTo l b).1 ((b + 1 : Nat) : Int) 0).length := by
        rw [kindsTo, List.length_append]
      omega
def normL (l : List Atr) : List Spn := (kindsTo l 5).2
def normS (l : List Atr) : List Spn := isort ltM (normL l)
def madeE (l : List Atr) : Int := if 256 < (normL l).length then 2 else 0
def madeT (s : ByteArray) (l : List Atr) : ByteArray := if 256 < (normL l).length then ByteArray.empty else s
def madeL (l : List Atr) : List Spn := if 256 < (normL l).length then [] else normS l
theorem normS_len (l : List Atr) : (normS l).length = (normL l).length := isort_len _
theorem madeL_len (l : List Atr) : (madeL l).length ≤ 256 := by
  unfold madeL
  split
  · simp
  · rw [normS_len]; omega
theorem isort_snoc {lt : Spn → Spn → Bool} (P : List Spn) (x : Spn) : isort lt (P ++ [x]) = insR lt x (isort lt P) := by
  unfold isort mrg
  rw [List.foldl_append]
  rfl
end Go.SX.Plain
/- Contracts of value, has, ahead, lay. -/
namespace Go.SX.Try
open Go.Proofs Go.Proofs.Try Go.SX.Plain
set_option maxRecDepth 100000
set_option maxHeartbeats 0
set_option linter.unusedSimpArgs false
theorem q_svalue : fact 115 f115 := ⟨by kernel_rfl, rfl, by kernel_rfl⟩
theorem q_rhas : fact 117 f117 := ⟨by kernel_rfl, rfl, by kernel_rfl⟩
theorem q_rahead : fact 123 f123 := ⟨by kernel_rfl, rfl, by kernel_rfl⟩
theorem q_rlay : fact 118 f118 := ⟨by kernel_rfl, rfl, by kernel_rfl⟩
theorem con_svalue : Con prog 115 (fun ((a, k) : Atr × Int) => [.agg (atAV a), .v (.int .i64 k)]) (fun (a, k) => .v (.int .i64 (hasK a k))) (fun (_, k) => 1 ≤ k ∧ k ≤ 5) := by
  refine Con.of (by kernel_rfl) T_ok CdsOK.nil .nil 5 [] q_svalue.1 q_svalue.2.1 q_svalue.2.2 (fun _ => rfl) fun i hi => ?_
  obtain ⟨a, k⟩ := i
  obtain ⟨h1, h2⟩ : 1 ≤ k ∧ k ≤ 5 := hi
  obtain rfl | rfl | rfl | rfl | rfl : k = 1 ∨ k = 2 ∨ k = 3 ∨ k = 4 ∨ k = 5 := by omega
  all_goals (repeat' (first | (with_reducible first | exact fun h => h | refine ExE.row (by with_unfolding_all rfl) ?_ | refine And.intro ?_ ?_) | ((with_reducible intro hq); first | exact bne1 hq (by with_reducible assumption) | exact bne1 (by with_reducible assumption) hq | ((simp only [*, BB, cond_true, cond_false, reduceCtorEq] at hq); done) | (revert hq; with_reducible intro _)) | (with_reducible first | exact True.intro | rfl | refine EntLe.row ?_ | exact LeN.ro rfl | exact LeN.rptr | assumption) | ((with_reducible first | refine WkX.chk ?_ | refine Wk.chk ?_ | refine LeL.chk ?_ | refine LeF.chk ?_ | refine Run.mk ?_); (conv => whnf)) | ((with_reducible show LeO _ _); first | refine LeO.ro ?_ | refine LeO.roCap ?_ | refine LeO.nil ?_ (fun _ => rfl)) | ((with_reducible show LeR _ _ _); first | refine LeR.own rfl rfl rfl ?_ | refine LeR.view rfl rfl rfl ?_ ?_ | refine LeR.ro ?_ | refine LeR.roCap ?_ | refine LeR.nil ?_ (fun _ => rfl)) | ((with_reducible first | show drawOK _ _ = true | show lateOK _ _ = true | show drawOK2 _ _ = true | show drawOK3 _ _ = true); kernel_rfl)))
  all_goals first
    | rfl
    | (unfold hasK; simp_all; done)
    | trace_state
theorem con_rhas : Con prog 117 (fun ((a, k) : Atr × Int) => [.agg (atAV a), .v (.int .i64 k)]) (fun (a, k) => .v (.int .i64 (hasK a k))) (fun (_, k) => 1 ≤ k ∧ k ≤ 5) := by
  refine Con.of (by kernel_rfl) T_ok CdsOK.nil .nil 5 [] q_rhas.1 q_rhas.2.1 q_rhas.2.2 (fun _ => rfl) fun i hi => ?_
  obtain ⟨a, k⟩ := i
  obtain ⟨h1, h2⟩ : 1 ≤ k ∧ k ≤ 5 := hi
  obtain rfl | rfl | rfl | rfl | rfl : k = 1 ∨ k = 2 ∨ k = 3 ∨ k = 4 ∨ k = 5 := by omega
  all_goals (repeat' (first | (with_reducible first | exact fun h => h | refine ExE.row (by with_unfolding_all rfl) ?_ | refine And.intro ?_ ?_) | ((with_reducible intro hq); first | exact bne1 hq (by with_reducible assumption) | exact bne1 (by with_reducible assumption) hq | ((simp only [*, BB, cond_true, cond_false, reduceCtorEq] at hq); done) | (revert hq; with_reducible intro _)) | (with_reducible first | exact True.intro | rfl | refine EntLe.row ?_ | exact LeN.ro rfl | exact LeN.rptr | assumption) | ((with_reducible first | refine WkX.chk ?_ | refine Wk.chk ?_ | refine LeL.chk ?_ | refine LeF.chk ?_ | refine Run.mk ?_); (conv => whnf)) | ((with_reducible show LeO _ _); first | refine LeO.ro ?_ | refine LeO.roCap ?_ | refine LeO.nil ?_ (fun _ => rfl)) | ((with_reducible show LeR _ _ _); first | refine LeR.own rfl rfl rfl ?_ | refine LeR.view rfl rfl rfl ?_ ?_ | refine LeR.ro ?_ | refine LeR.roCap ?_ | refine LeR.nil ?_ (fun _ => rfl)) | ((with_reducible first | show drawOK _ _ = true | show lateOK _ _ = true | show drawOK2 _ _ = true | show drawOK3 _ _ = true); kernel_rfl)))
  all_goals first
    | rfl
    | (unfold hasK; simp_all; done)
    | trace_state
theorem con_rahead : Con prog 123 (fun ((x, y) : Spn × Spn) => [.agg (spAV x), .agg (spAV y)]) (fun (x, y) => .sb (ltM x y)) (fun _ => True) := by
  refine Con.of (by kernel_rfl) T_ok CdsOK.nil .nil 5 [] q_rahead.1 q_rahead.2.1 q_rahead.2.2 (fun _ => rfl) fun i hi => ?_
  obtain ⟨x, y⟩ := i
  have hiff := ltM_iff x y
  repeat' (first | (with_reducible first | exact fun h => h | refine ExE.row (by with_unfolding_all rfl) ?_ | refine And.intro ?_ ?_) | ((with_reducible intro hq); first | exact bne1 hq (by with_reducible assumption) | exact bne1 (by with_reducible assumption) hq | ((simp only [*, BB, cond_true, cond_false, reduceCtorEq] at hq); done) | (revert hq; with_reducible intro _)) | (with_reducible first | exact True.intro | rfl | refine EntLe.row ?_ | exact LeN.ro rfl | exact LeN.rptr | assumption) | ((with_reducible first | refine WkX.chk ?_ | refine Wk.chk ?_ | refine LeL.chk ?_ | refine LeF.chk ?_ | refine Run.mk ?_); (conv => whnf)) | ((with_reducible show LeO _ _); first | refine LeO.ro ?_ | refine LeO.roCap ?_ | refine LeO.nil ?_ (fun _ => rfl)) | ((with_reducible show LeR _ _ _); first | refine LeR.own rfl rfl rfl ?_ | refine LeR.view rfl rfl rfl ?_ ?_ | refine LeR.ro ?_ | refine LeR.roCap ?_ | refine LeR.nil ?_ (fun _ => rfl)) | ((with_reducible first | show drawOK _ _ = true | show lateOK _ _ = true | show drawOK2 _ _ = true | show drawOK3 _ _ = true); kernel_rfl))
  all_goals first
    | (rw [Bool.eq_iff_iff, hiff]; simp only [bne_iff_ne, ne_eq, bne_eq_false_iff_eq, decide_eq_true_eq] at *; omega)
    | trace_state
end Go.SX.Try
/- Contract of style's order of a normal form's spans. -/
namespace Go.SX.Try
open Go.Proofs Go.Proofs.Try Go.SX.Plain
set_option maxRecDepth 100000
set_option maxHeartbeats 0
set_option linter.unusedSimpArgs false
theorem q_made1 : fact 116 f116 := ⟨by kernel_rfl, rfl, by kernel_rfl⟩
theorem con_made1 : Con prog 116 (fun ((x, y) : Spn × Spn) => [.agg (spAV x), .agg (spAV y)]) (fun (x, y) => .v (.int .i64 (cmpM x y))) (fun _ => True) := by
  refine Con.of (by kernel_rfl) T_ok D_int_ok (.con con_compare (.con con_or .nil)) 3 [] q_made1.1 q_made1.2.1 q_made1.2.2 (fun _ => rfl) fun i _ => ?_
  obtain ⟨x, y⟩ := i
  repeat' (first | (with_reducible refine ⟨(_, _), ⟨(.cons (.v _) (.cons (.v _) .nil)), ?_⟩, ?_⟩) | (with_reducible refine ⟨_, ⟨(.cons (.lent _ _ _ _ _ _) .nil), ?_⟩, ?_⟩) | (with_reducible first | exact fun h => h | refine ExE.row (by with_unfolding_all rfl) ?_ | refine And.intro ?_ ?_) | ((with_reducible intro hq); first | exact bne1 hq (by with_reducible assumption) | exact bne1 (by with_reducible assumption) hq | ((simp only [*, BB, cond_true, cond_false, reduceCtorEq] at hq); done) | (revert hq; with_reducible intro _)) | (with_reducible first | exact True.intro | rfl | refine EntLe.row ?_ | exact LeN.ro rfl | exact LeN.rptr | assumption) | ((with_reducible first | refine WkX.chk ?_ | refine Wk.chk ?_ | refine LeL.chk ?_ | refine LeF.chk ?_ | refine Run.mk ?_); (conv => whnf)) | ((with_reducible show LeO _ _); first | refine LeO.ro ?_ | refine LeO.roCap ?_ | refine LeO.nil ?_ (fun _ => rfl)) | ((with_reducible show LeR _ _ _); first | refine LeR.own rfl rfl rfl ?_ | refine LeR.view rfl rfl rfl ?_ ?_ | refine LeR.ro ?_ | refine LeR.roCap ?_ | refine LeR.nil ?_ (fun _ => rfl)) | ((with_reducible first | show drawOK _ _ = true | show lateOK _ _ = true | show drawOK2 _ _ = true | show drawOK3 _ _ = true); kernel_rfl))
  all_goals first
    | rfl
    | (show (3 : Nat) ≤ 1100000; decide)
    | trace_state
end Go.SX.Try
/- Contract of the library's sort by insertion, of spans. (the order of a normal form) -/
namespace Go.SX.Try
open Go.Proofs Go.Proofs.Try Go.SX.Plain
set_option maxRecDepth 100000
set_option maxHeartbeats 0
set_option linter.unusedSimpArgs false
theorem conW_insertion_M : ConW prog 119 C_spn 71 (fun ((a, b) : Int × Int) => [.v (.int .i64 a), .v (.int .i64 b), .fn 116 []]) (fun (a, b) l => insS ltM l a.toNat b.toNat)
    (fun (a, b) l => (0 ≤ a ∧ a ≤ b ∧ b ≤ l.length) ∧ l.length ≤ 1100000) := by
  refine ConW.of (by kernel_rfl) T_ok CdsOK.nil (.con con_made1 .nil) 3 [] q_insertS.1 q_insertS.2.1 q_insertS.2.2 (fun _ => rfl) (fun _ => .cons (.v _) (.cons (.v _) (.cons (.fn _) .nil))) fun i l hi => ?_
  obtain ⟨a, b⟩ := i
  obtain ⟨⟨h1, h2, h3⟩, h5⟩ := hi
  obtain ⟨a, rfl⟩ := Int.eq_ofNat_of_zero_le h1
  obtain ⟨b, rfl⟩ := Int.eq_ofNat_of_zero_le (show 0 ≤ b by omega)
  simp only [Int.toNat_natCast]
  by_cases hab : a = b
  · subst hab
    have hlt : decide ((a : Int) + 1 < (a : Int)) = false := decide_eq_false (by omega)
    repeat' (first | (with_reducible first | exact fun h => h | refine ExE.row (by with_unfolding_all rfl) ?_ | refine And.intro ?_ ?_) | ((with_reducible intro hq); first | exact bne1 hq (by with_reducible assumption) | exact bne1 (by with_reducible assumption) hq | ((simp only [*, BB, cond_true, cond_false, reduceCtorEq] at hq); done) | (revert hq; with_reducible intro _)) | (with_reducible first | exact True.intro | rfl | refine EntLe.row ?_ | exact LeN.ro rfl | exact LeN.rptr | assumption) | ((with_reducible first | refine WkX.chk ?_ | refine Wk.chk ?_ | refine LeL.chk ?_ | refine LeF.chk ?_ | refine Run.mk ?_); (conv => whnf)) | ((with_reducible show LeO _ _); first | refine LeO.ro ?_ | refine LeO.roCap ?_ | refine LeO.nil ?_ (fun _ => rfl)) | ((with_reducible show LeR _ _ _); first | refine LeR.own rfl rfl rfl ?_ | refine LeR.view rfl rfl rfl ?_ ?_ | refine LeR.ro ?_ | refine LeR.roCap ?_ | refine LeR.nil ?_ (fun _ => rfl)) | ((with_reducible first | show drawOK _ _ = true | show lateOK _ _ = true | show drawOK2 _ _ = true | show drawOK3 _ _ = true); kernel_rfl))
    any_goals (apply Fits.i64 <;> omega)
    refine loopI Unit [] (fun _ => [(8, .v (.int .i64 ((a : Int) + 1)))]) (fun _ => []) (fun _ => True) (fun _ => 0) () trivial (Wk.chk ?_) fun _ _ => ?_
    · ((conv => whnf); repeat' (first | (with_reducible first | exact fun h => h | refine ExE.row (by with_unfolding_all rfl) ?_ | refine And.intro ?_ ?_) | ((with_reducible intro hq); first | exact bne1 hq (by with_reducible assumption) | exact bne1 (by with_reducible assumption) hq | ((simp only [*, BB, cond_true, cond_false, reduceCtorEq] at hq); done) | (revert hq; with_reducible intro _)) | (with_reducible first | exact True.intro | rfl | refine EntLe.row ?_ | exact LeN.ro rfl | exact LeN.rptr | assumption) | ((with_reducible first | refine WkX.chk ?_ | refine Wk.chk ?_ | refine LeL.chk ?_ | refine LeF.chk ?_ | refine Run.mk ?_); (conv => whnf)) | ((with_reducible show LeO _ _); first | refine LeO.ro ?_ | refine LeO.roCap ?_ | refine LeO.nil ?_ (fun _ => rfl)) | ((with_reducible show LeR _ _ _); first | refine LeR.own rfl rfl rfl ?_ | refine LeR.view rfl rfl rfl ?_ ?_ | refine LeR.ro ?_ | refine LeR.roCap ?_ | refine LeR.nil ?_ (fun _ => rfl)) | ((with_reducible first | show drawOK _ _ = true | show lateOK _ _ = true | show drawOK2 _ _ = true | show drawOK3 _ _ = true); kernel_rfl)))
      all_goals rfl
    repeat' (first | (with_reducible first | exact fun h => h | refine ExE.row (by with_unfolding_all rfl) ?_ | refine And.intro ?_ ?_) | ((with_reducible intro hq); first | exact bne1 hq (by with_reducible assumption) | exact bne1 (by with_reducible assumption) hq | ((simp only [*, BB, cond_true, cond_false, reduceCtorEq] at hq); done) | (revert hq; with_reducible intro _)) | (with_reducible first | exact True.intro | rfl | refine EntLe.row ?_ | exact LeN.ro rfl | exact LeN.rptr | assumption) | ((with_reducible first | refine WkX.chk ?_ | refine Wk.chk ?_ | refine LeL.chk ?_ | refine LeF.chk ?_ | refine Run.mk ?_); (conv => whnf)) | ((with_reducible show LeO _ _); first | refine LeO.ro ?_ | refine LeO.roCap ?_ | refine LeO.nil ?_ (fun _ => rfl)) | ((with_reducible show LeR _ _ _); first | refine LeR.own rfl rfl rfl ?_ | refine LeR.view rfl rfl rfl ?_ ?_ | refine LeR.ro ?_ | refine LeR.roCap ?_ | refine LeR.nil ?_ (fun _ => rfl)) | ((with_reducible first | show drawOK _ _ = true | show lateOK _ _ = true | show drawOK2 _ _ = true | show drawOK3 _ _ = true); kernel_rfl))
    all_goals first
      | rfl
      | (refine ⟨_, _, rfl, ?_⟩; rw [insS_self]; done)
      | trace_state
  repeat' (first | (with_reducible first | exact fun h => h | refine ExE.row (by with_unfolding_all rfl) ?_ | refine And.intro ?_ ?_) | ((with_reducible intro hq); first | exact bne1 hq (by with_reducible assumption) | exact bne1 (by with_reducible assumption) hq | ((simp only [*, BB, cond_true, cond_false, reduceCtorEq] at hq); done) | (revert hq; with_reducible intro _)) | (with_reducible first | exact True.intro | rfl | refine EntLe.row ?_ | exact LeN.ro rfl | exact LeN.rptr | assumption) | ((with_reducible first | refine WkX.chk ?_ | refine Wk.chk ?_ | refine LeL.chk ?_ | refine LeF.chk ?_ | refine Run.mk ?_); (conv => whnf)) | ((with_reducible show LeO _ _); first | refine LeO.ro ?_ | refine LeO.roCap ?_ | refine LeO.nil ?_ (fun _ => rfl)) | ((with_reducible show LeR _ _ _); first | refine LeR.own rfl rfl rfl ?_ | refine LeR.view rfl rfl rfl ?_ ?_ | refine LeR.ro ?_ | refine LeR.roCap ?_ | refine LeR.nil ?_ (fun _ => rfl)) | ((with_reducible first | show drawOK _ _ = true | show lateOK _ _ = true | show drawOK2 _ _ = true | show drawOK3 _ _ = true); kernel_rfl))
  any_goals (apply Fits.i64 <;> omega)
  refine loopI Nat [] (fun i => [(8, .v (.int .i64 (i : Nat)))]) (fun i => [(0, .row C_spn (insS ltM l a i) 71 none)]) (fun i => a + 1 ≤ i ∧ i ≤ b) (fun i => b - i) (a + 1) ⟨Nat.le_refl _, by omega⟩ (Wk.chk ?_) fun i hi => ?_
  · ((conv => whnf); repeat' (first | (with_reducible first | exact fun h => h | refine ExE.row (by with_unfolding_all rfl) ?_ | refine And.intro ?_ ?_) | ((with_reducible intro hq); first | exact bne1 hq (by with_reducible assumption) | exact bne1 (by with_reducible assumption) hq | ((simp only [*, BB, cond_true, cond_false, reduceCtorEq] at hq); done) | (revert hq; with_reducible intro _)) | (with_reducible first | exact True.intro | rfl | refine EntLe.row ?_ | exact LeN.ro rfl | exact LeN.rptr | assumption) | ((with_reducible first | refine WkX.chk ?_ | refine Wk.chk ?_ | refine LeL.chk ?_ | refine LeF.chk ?_ | refine Run.mk ?_); (conv => whnf)) | ((with_reducible show LeO _ _); first | refine LeO.ro ?_ | refine LeO.roCap ?_ | refine LeO.nil ?_ (fun _ => rfl)) | ((with_reducible show LeR _ _ _); first | refine LeR.own rfl rfl rfl ?_ | refine LeR.view rfl rfl rfl ?_ ?_ | refine LeR.ro ?_ | refine LeR.roCap ?_ | refine LeR.nil ?_ (fun _ => rfl)) | ((with_reducible first | show drawOK _ _ = true | show lateOK _ _ = true | show drawOK2 _ _ = true | show drawOK3 _ _ = true); kernel_rfl)))
    all_goals first
      | rfl
      | (rw [insS_one]; done)
      | trace_state
  obtain ⟨hi1, hi2⟩ := hi
  have hlen := insS_len (lt := ltM) l (a := a) (b := i) (by omega) (by omega)
  by_cases hib : i < b
  · have hlt : decide ((i : Int) < (b : Int)) = true := decide_eq_true (by omega)
    obtain ⟨g1, g2⟩ := Ins.start (lt := ltM) (d := zS) l (a := a) (i := i) (by omega) (by omega)
    repeat' (first | (with_reducible first | exact fun h => h | refine ExE.row (by with_unfolding_all rfl) ?_ | refine And.intro ?_ ?_) | ((with_reducible intro hq); first | exact bne1 hq (by with_reducible assumption) | exact bne1 (by with_reducible assumption) hq | ((simp only [*, BB, cond_true, cond_false, reduceCtorEq] at hq); done) | (revert hq; with_reducible intro _)) | (with_reducible first | exact True.intro | rfl | refine EntLe.row ?_ | exact LeN.ro rfl | exact LeN.rptr | assumption) | ((with_reducible first | refine WkX.chk ?_ | refine Wk.chk ?_ | refine LeL.chk ?_ | refine LeF.chk ?_ | refine Run.mk ?_); (conv => whnf)) | ((with_reducible show LeO _ _); first | refine LeO.ro ?_ | refine LeO.roCap ?_ | refine LeO.nil ?_ (fun _ => rfl)) | ((with_reducible show LeR _ _ _); first | refine LeR.own rfl rfl rfl ?_ | refine LeR.view rfl rfl rfl ?_ ?_ | refine LeR.ro ?_ | refine LeR.roCap ?_ | refine LeR.nil ?_ (fun _ => rfl)) | ((with_reducible first | show drawOK _ _ = true | show lateOK _ _ = true | show drawOK2 _ _ = true | show drawOK3 _ _ = true); kernel_rfl))
    refine loopI (List Spn × List Spn) [] (fun | (P, _) => [(9, .v (.int .i64 ((a + P.length : Nat) : Int)))]) (fun | (P, Q) => [(0, .row C_spn (insC zS l a i P Q) 71 none)]) (fun | (P, Q) => Ins ltM zS l a i P Q) (fun | (P, _) => P.length) (isort ltM (seg l a i), []) g1 (Wk.chk ?_) fun x hx => ?_
    · ((conv => whnf); repeat' (first | (with_reducible first | exact fun h => h | refine ExE.row (by with_unfolding_all rfl) ?_ | refine And.intro ?_ ?_) | ((with_reducible intro hq); first | exact bne1 hq (by with_reducible assumption) | exact bne1 (by with_reducible assumption) hq | ((simp only [*, BB, cond_true, cond_false, reduceCtorEq] at hq); done) | (revert hq; with_reducible intro _)) | (with_reducible first | exact True.intro | rfl | refine EntLe.row ?_ | exact LeN.ro rfl | exact LeN.rptr | assumption) | ((with_reducible first | refine WkX.chk ?_ | refine Wk.chk ?_ | refine LeL.chk ?_ | refine LeF.chk ?_ | refine Run.mk ?_); (conv => whnf)) | ((with_reducible show LeO _ _); first | refine LeO.ro ?_ | refine LeO.roCap ?_ | refine LeO.nil ?_ (fun _ => rfl)) | ((with_reducible show LeR _ _ _); first | refine LeR.own rfl rfl rfl ?_ | refine LeR.view rfl rfl rfl ?_ ?_ | refine LeR.ro ?_ | refine LeR.roCap ?_ | refine LeR.nil ?_ (fun _ => rfl)) | ((with_reducible first | show drawOK _ _ = true | show lateOK _ _ = true | show drawOK2 _ _ = true | show drawOK3 _ _ = true); kernel_rfl)))
      all_goals first
        | rfl
        | (rw [isort_len, seg_len (by omega), show a + (i - a) = i by omega]; done)
        | (rw [g2]; done)
        | trace_state
    obtain ⟨P, Q⟩ := x
    have hx : Ins ltM zS l a i P Q := hx
    obtain ⟨n1, n2⟩ := hx.len (by omega) (by omega)
    have hd : C_spn.d = zS := rfl
    rcases List.eq_nil_or_concat P with rfl | ⟨P, z, rfl⟩
    · have hgt : decide ((a : Int) < ((a + ([] : List Spn).length : Nat) : Int)) = false := decide_eq_false (by simp)
      have hst := hx.stop (by omega) (by omega) (.inl rfl)
      repeat' (first | (with_reducible refine ⟨(_, _), ⟨(.cons (.agg (.cons (.v _) (.cons (.v _) (.cons (.v _) (.cons (.v _) .nil))))) (.cons (.agg (.cons (.v _) (.cons (.v _) (.cons (.v _) (.cons (.v _) .nil))))) .nil)), ?_⟩, ?_⟩) | (with_reducible refine ex_of (α := Nat) (i + 1) ⟨?_, ?_⟩ ?_) | (with_reducible first | exact fun h => h | refine ExE.row (by with_unfolding_all rfl) ?_ | refine And.intro ?_ ?_) | ((with_reducible intro hq); first | exact bne1 hq (by with_reducible assumption) | exact bne1 (by with_reducible assumption) hq | ((simp only [*, BB, cond_true, cond_false, reduceCtorEq] at hq); done) | (revert hq; with_reducible intro _)) | (with_reducible first | exact True.intro | rfl | refine EntLe.row ?_ | exact LeN.ro rfl | exact LeN.rptr | assumption) | ((with_reducible first | refine WkX.chk ?_ | refine Wk.chk ?_ | refine LeL.chk ?_ | refine LeF.chk ?_ | refine Run.mk ?_); (conv => whnf)) | ((with_reducible show LeO _ _); first | refine LeO.ro ?_ | refine LeO.roCap ?_ | refine LeO.nil ?_ (fun _ => rfl)) | ((with_reducible show LeR _ _ _); first | refine LeR.own rfl rfl rfl ?_ | refine LeR.view rfl rfl rfl ?_ ?_ | refine LeR.ro ?_ | refine LeR.roCap ?_ | refine LeR.nil ?_ (fun _ => rfl)) | ((with_reducible first | show drawOK _ _ = true | show lateOK _ _ = true | show drawOK2 _ _ = true | show drawOK3 _ _ = true); kernel_rfl))
      all_goals first
        | omega
        | (apply Fits.i64 <;> omega)
        | (show b - (i + 1) < b - i; omega)
        | (rw [hst]; done)
        | trace_state
    rw [List.concat_eq_append] at hx n1 n2 ⊢
    have hpl : ((P ++ [z]).length : Nat) = P.length + 1 := by simp
    have hgt : decide ((a : Int) < ((a + (P ++ [z]).length : Nat) : Int)) = true := decide_eq_true (by omega)
    have e1 : (((a + (P ++ [z]).length : Nat) : Int)).toNat = a + P.length + 1 := by omega
    have e2 : (((a + (P ++ [z]).length : Nat) : Int) - 1).toNat = a + P.length := by omega
    have ga := hx.at (by omega) (by omega)
    rw [hpl, ← Nat.add_assoc] at ga
    have gz := Ins.at1 (d := zS) (l := l) (a := a) (i := i) (P := P) (z := z) (Q := Q) (by omega) (by omega)
    have hsw := insC_swap (d := zS) (l := l) (a := a) (i := i) (P := P) (z := z) (Q := Q) (by omega) (by omega) (j := a + P.length + 1) rfl
    rw [show a + P.length + 1 - 1 = a + P.length by omega] at hsw
    have kc : (decide ((a : Int) < ((a + (P ++ [z]).length : Nat) : Int)) && decide (cmpM ((insC zS l a i (P ++ [z]) Q).getD (((a + (P ++ [z]).length : Nat) : Int)).toNat C_spn.d) ((insC zS l a i (P ++ [z]) Q).getD ((((a + (P ++ [z]).length : Nat) : Int) - 1)).toNat C_spn.d) < 0)) = ltM (l.getD i zS) z := by
      rw [hgt, e1, e2, hd, ga, gz]
      rfl
    cases hc : ltM (l.getD i zS) z with
    | true =>
      have hst := hx.step hc
      rw [hc] at kc
      repeat' (first | (with_reducible refine ⟨(_, _), ⟨(.cons (.agg (.cons (.v _) (.cons (.v _) (.cons (.v _) (.cons (.v _) .nil))))) (.cons (.agg (.cons (.v _) (.cons (.v _) (.cons (.v _) (.cons (.v _) .nil))))) .nil)), ?_⟩, ?_⟩) | (with_reducible refine ex_of (α := List Spn × List Spn) (P, z :: Q) ⟨hst, ?_⟩ ?_) | (with_reducible first | exact fun h => h | refine ExE.row (by with_unfolding_all rfl) ?_ | refine And.intro ?_ ?_) | ((with_reducible intro hq); first | exact bne1 hq (by with_reducible assumption) | exact bne1 (by with_reducible assumption) hq | ((simp only [*, BB, cond_true, cond_false, reduceCtorEq] at hq); done) | (revert hq; with_reducible intro _)) | (with_reducible first | exact True.intro | rfl | refine EntLe.row ?_ | exact LeN.ro rfl | exact LeN.rptr | assumption) | ((with_reducible first | refine WkX.chk ?_ | refine Wk.chk ?_ | refine LeL.chk ?_ | refine LeF.chk ?_ | refine Run.mk ?_); (conv => whnf)) | ((with_reducible show LeO _ _); first | refine LeO.ro ?_ | refine LeO.roCap ?_ | refine LeO.nil ?_ (fun _ => rfl)) | ((with_reducible show LeR _ _ _); first | refine LeR.own rfl rfl rfl ?_ | refine LeR.view rfl rfl rfl ?_ ?_ | refine LeR.ro ?_ | refine LeR.roCap ?_ | refine LeR.nil ?_ (fun _ => rfl)) | ((with_reducible first | show drawOK _ _ = true | show lateOK _ _ = true | show drawOK2 _ _ = true | show drawOK3 _ _ = true); kernel_rfl))
      all_goals (try simp only [e1, e2, hd, n2, List.length_set])
      all_goals first
        | omega
        | rfl
        | (apply Fits.i64 <;> omega)
        | (show P.length < (P ++ [z]).length; omega)
        | exact hsw
        | trace_state
    | false =>
      have hst := hx.stop (by omega) (by omega) (.inr ⟨P, z, rfl, hc⟩)
      rw [hc] at kc
      repeat' (first | (with_reducible refine ⟨(_, _), ⟨(.cons (.agg (.cons (.v _) (.cons (.v _) (.cons (.v _) (.cons (.v _) .nil))))) (.cons (.agg (.cons (.v _) (.cons (.v _) (.cons (.v _) (.cons (.v _) .nil))))) .nil)), ?_⟩, ?_⟩) | (with_reducible refine ex_of (α := Nat) (i + 1) ⟨?_, ?_⟩ ?_) | (with_reducible first | exact fun h => h | refine ExE.row (by with_unfolding_all rfl) ?_ | refine And.intro ?_ ?_) | ((with_reducible intro hq); first | exact bne1 hq (by with_reducible assumption) | exact bne1 (by with_reducible assumption) hq | ((simp only [*, BB, cond_true, cond_false, reduceCtorEq] at hq); done) | (revert hq; with_reducible intro _)) | (with_reducible first | exact True.intro | rfl | refine EntLe.row ?_ | exact LeN.ro rfl | exact LeN.rptr | assumption) | ((with_reducible first | refine WkX.chk ?_ | refine Wk.chk ?_ | refine LeL.chk ?_ | refine LeF.chk ?_ | refine Run.mk ?_); (conv => whnf)) | ((with_reducible show LeO _ _); first | refine LeO.ro ?_ | refine LeO.roCap ?_ | refine LeO.nil ?_ (fun _ => rfl)) | ((with_reducible show LeR _ _ _); first | refine LeR.own rfl rfl rfl ?_ | refine LeR.view rfl rfl rfl ?_ ?_ | refine LeR.ro ?_ | refine LeR.roCap ?_ | refine LeR.nil ?_ (fun _ => rfl)) | ((with_reducible first | show drawOK _ _ = true | show lateOK _ _ = true | show drawOK2 _ _ = true | show drawOK3 _ _ = true); kernel_rfl))
      all_goals (try simp only [e1, e2, hd, n2, List.length_set])
      all_goals first
        | omega
        | rfl
        | (apply Fits.i64 <;> omega)
        | (show b - (i + 1) < b - i; omega)
        | (rw [hst]; done)
        | trace_state
  obtain rfl : i = b := by omega
  have hlt : decide ((i : Int) < (i : Int)) = false := decide_eq_false (by omega)
  repeat' (first | (with_reducible first | exact fun h => h | refine ExE.row (by with_unfolding_all rfl) ?_ | refine And.intro ?_ ?_) | ((with_reducible intro hq); first | exact bne1 hq (by with_reducible assumption) | exact bne1 (by with_reducible assumption) hq | ((simp only [*, BB, cond_true, cond_false, reduceCtorEq] at hq); done) | (revert hq; with_reducible intro _)) | (with_reducible first | exact True.intro | rfl | refine EntLe.row ?_ | exact LeN.ro rfl | exact LeN.rptr | assumption) | ((with_reducible first | refine WkX.chk ?_ | refine Wk.chk ?_ | refine LeL.chk ?_ | refine LeF.chk ?_ | refine Run.mk ?_); (conv => whnf)) | ((with_reducible show LeO _ _); first | refine LeO.ro ?_ | refine LeO.roCap ?_ | refine LeO.nil ?_ (fun _ => rfl)) | ((with_reducible show LeR _ _ _); first | refine LeR.own rfl rfl rfl ?_ | refine LeR.view rfl rfl rfl ?_ ?_ | refine LeR.ro ?_ | refine LeR.roCap ?_ | refine LeR.nil ?_ (fun _ => rfl)) | ((with_reducible first | show drawOK _ _ = true | show lateOK _ _ = true | show drawOK2 _ _ = true | show drawOK3 _ _ = true); kernel_rfl))
  all_goals first
    | rfl
    | exact ⟨_, _, rfl, rfl⟩
    | trace_state
end Go.SX.Try
/- Contract of the library's merge in place, of spans: one, and a sorted row. (the order of a normal form) -/
namespace Go.SX.Try
open Go.Proofs Go.Proofs.Try Go.SX.Plain
set_option maxRecDepth 100000
set_option maxHeartbeats 0
set_option linter.unusedSimpArgs false
abbrev symAM : Int × Int × Int → List AV := fun (a, m, b) => [.v (.int .i64 a), .v (.int .i64 m), .v (.int .i64 b), .fn 116 []]
abbrev symFM : Int × Int × Int → List Spn → List Spn := fun (a, m, b) l => symR ltM l a.toNat m.toNat b.toNat
abbrev symPM : Int × Int × Int → List Spn → Prop := fun (a, m, b) l => ((0 ≤ a ∧ a < m ∧ m < b ∧ b ≤ l.length) ∧ l.length ≤ 1100000) ∧ Srt ltM (seg l a.toNat m.toNat) ∧ Srt ltM (seg l m.toNat b.toNat)
theorem conW_sym1_M : ConW prog 120 C_spn 71 symAM symFM (fun i l => symPM i l ∧ i.2.1 = i.1 + 1) := by
  refine ConW.of (by kernel_rfl) T_ok CdsOK.nil (.con con_made1 .nil) 3 [5] q_symM.1 q_symM.2.1 q_symM.2.2 (fun _ => rfl) (fun _ => .cons (.v _) (.cons (.v _) (.cons (.v _) (.cons (.fn _) .nil)))) fun i l hi => ?_
  obtain ⟨a, m, b⟩ := i
  obtain ⟨⟨⟨⟨h1, h2, h3, h4⟩, h5⟩, hA, hB⟩, hN⟩ := hi
  obtain ⟨a, rfl⟩ := Int.eq_ofNat_of_zero_le h1
  obtain ⟨m, rfl⟩ := Int.eq_ofNat_of_zero_le (show 0 ≤ m by omega)
  obtain ⟨b, rfl⟩ := Int.eq_ofNat_of_zero_le (show 0 ≤ b by omega)
  simp only [Int.toNat_natCast] at hA hB ⊢
  have hd : C_spn.d = zS := rfl
  have ea : ((a : Int)).toNat = a := Int.toNat_natCast _
  have em : ((m : Int)).toNat = m := Int.toNat_natCast _
  have hN : (m : Int) = (a : Int) + 1 := hN
  have hm1 : m = a + 1 := by omega
  have k1 : ((m : Int) - (a : Int) == 1) = true := by rw [beq_iff_eq]; omega
  repeat' (first | (with_reducible first | exact fun h => h | refine ExE.row (by with_unfolding_all rfl) ?_ | refine And.intro ?_ ?_) | ((with_reducible intro hq); first | exact bne1 hq (by with_reducible assumption) | exact bne1 (by with_reducible assumption) hq | ((simp only [*, BB, cond_true, cond_false, reduceCtorEq] at hq); done) | (revert hq; with_reducible intro _)) | (with_reducible first | exact True.intro | rfl | refine EntLe.row ?_ | exact LeN.ro rfl | exact LeN.rptr | assumption) | ((with_reducible first | refine WkX.chk ?_ | refine Wk.chk ?_ | refine LeL.chk ?_ | refine LeF.chk ?_ | refine Run.mk ?_); (conv => whnf)) | ((with_reducible show LeO _ _); first | refine LeO.ro ?_ | refine LeO.roCap ?_ | refine LeO.nil ?_ (fun _ => rfl)) | ((with_reducible show LeR _ _ _); first | refine LeR.own rfl rfl rfl ?_ | refine LeR.view rfl rfl rfl ?_ ?_ | refine LeR.ro ?_ | refine LeR.roCap ?_ | refine LeR.nil ?_ (fun _ => rfl)) | ((with_reducible first | show drawOK _ _ = true | show lateOK _ _ = true | show drawOK2 _ _ = true | show drawOK3 _ _ = true); kernel_rfl))
  any_goals (apply Fits.i64 <;> omega)
  refine loopI (Nat × Nat) [] (fun | (i, j) => [(10, .v (.int .i64 (i : Nat))), (11, .v (.int .i64 (j : Nat)))]) (fun _ => []) (fun | (i, j) => Bs1 ltM zS l a m b i j) (fun | (i, j) => j - i) (m, b) (Bs1.start l (by omega)) (Wk.chk ?_) fun x hx => ?_
  · ((conv => whnf); repeat' (first | (with_reducible first | exact fun h => h | refine ExE.row (by with_unfolding_all rfl) ?_ | refine And.intro ?_ ?_) | ((with_reducible intro hq); first | exact bne1 hq (by with_reducible assumption) | exact bne1 (by with_reducible assumption) hq | ((simp only [*, BB, cond_true, cond_false, reduceCtorEq] at hq); done) | (revert hq; with_reducible intro _)) | (with_reducible first | exact True.intro | rfl | refine EntLe.row ?_ | exact LeN.ro rfl | exact LeN.rptr | assumption) | ((with_reducible first | refine WkX.chk ?_ | refine Wk.chk ?_ | refine LeL.chk ?_ | refine LeF.chk ?_ | refine Run.mk ?_); (conv => whnf)) | ((with_reducible show LeO _ _); first | refine LeO.ro ?_ | refine LeO.roCap ?_ | refine LeO.nil ?_ (fun _ => rfl)) | ((with_reducible show LeR _ _ _); first | refine LeR.own rfl rfl rfl ?_ | refine LeR.view rfl rfl rfl ?_ ?_ | refine LeR.ro ?_ | refine LeR.roCap ?_ | refine LeR.nil ?_ (fun _ => rfl)) | ((with_reducible first | show drawOK _ _ = true | show lateOK _ _ = true | show drawOK2 _ _ = true | show drawOK3 _ _ = true); kernel_rfl)))
    all_goals rfl
  obtain ⟨i, j⟩ := x
  have hx : Bs1 ltM zS l a m b i j := hx
  obtain ⟨b1, b2, b3, _, _⟩ := id hx
  by_cases hij : i < j
  · have hlt : decide ((i : Int) < (j : Int)) = true := decide_eq_true (by omega)
    repeat' (first | (with_reducible first | exact fun h => h | refine ExE.row (by with_unfolding_all rfl) ?_ | refine And.intro ?_ ?_) | ((with_reducible intro hq); first | exact bne1 hq (by with_reducible assumption) | exact bne1 (by with_reducible assumption) hq | ((simp only [*, BB, cond_true, cond_false, reduceCtorEq] at hq); done) | (revert hq; with_reducible intro _)) | (with_reducible first | exact True.intro | rfl | refine EntLe.row ?_ | exact LeN.ro rfl | exact LeN.rptr | assumption) | ((with_reducible first | refine WkX.chk ?_ | refine Wk.chk ?_ | refine LeL.chk ?_ | refine LeF.chk ?_ | refine Run.mk ?_); (conv => whnf)) | ((with_reducible show LeO _ _); first | refine LeO.ro ?_ | refine LeO.roCap ?_ | refine LeO.nil ?_ (fun _ => rfl)) | ((with_reducible show LeR _ _ _); first | refine LeR.own rfl rfl rfl ?_ | refine LeR.view rfl rfl rfl ?_ ?_ | refine LeR.ro ?_ | refine LeR.roCap ?_ | refine LeR.nil ?_ (fun _ => rfl)) | ((with_reducible first | show drawOK _ _ = true | show lateOK _ _ = true | show drawOK2 _ _ = true | show drawOK3 _ _ = true); kernel_rfl))
    refine joinI Nat [] (fun h => [(12, .v (.int .i64 (h : Nat)))]) (fun _ => []) (fun h => h = (i + j) / 2) ?_ fun h hh => ?_
    · repeat' (first | (with_reducible refine ex_of (α := Nat) ((i + j) / 2) rfl ?_) | (with_reducible first | exact fun h => h | refine ExE.row (by with_unfolding_all rfl) ?_ | refine And.intro ?_ ?_) | ((with_reducible intro hq); first | exact bne1 hq (by with_reducible assumption) | exact bne1 (by with_reducible assumption) hq | ((simp only [*, BB, cond_true, cond_false, reduceCtorEq] at hq); done) | (revert hq; with_reducible intro _)) | (with_reducible first | exact True.intro | rfl | refine EntLe.row ?_ | exact LeN.ro rfl | exact LeN.rptr | assumption) | ((with_reducible first | refine WkX.chk ?_ | refine Wk.chk ?_ | refine LeL.chk ?_ | refine LeF.chk ?_ | refine Run.mk ?_); (conv => whnf)) | ((with_reducible show LeO _ _); first | refine LeO.ro ?_ | refine LeO.roCap ?_ | refine LeO.nil ?_ (fun _ => rfl)) | ((with_reducible show LeR _ _ _); first | refine LeR.own rfl rfl rfl ?_ | refine LeR.view rfl rfl rfl ?_ ?_ | refine LeR.ro ?_ | refine LeR.roCap ?_ | refine LeR.nil ?_ (fun _ => rfl)) | ((with_reducible first | show drawOK _ _ = true | show lateOK _ _ = true | show drawOK2 _ _ = true | show drawOK3 _ _ = true); kernel_rfl))
      all_goals first
        | (apply Fits.i64 <;> omega)
        | (rw [half_eq]; apply Fits.i64 <;> omega)
        | (apply Go.SX.Try.Fits.u64 <;> omega)
        | omega
        | decide
        | exact congrArg (fun z => AV.v (Value.int IntKind.i64 z)) (half_eq i j)
        | exact half_eq i j
        | trace_state
    have hh : h = (i + j) / 2 := hh
    obtain ⟨u1, u2⟩ : i ≤ h ∧ h < j := by omega
    have e0 : ((h : Int)).toNat = h := Int.toNat_natCast _
    have kc : decide (cmpM (l.getD ((h : Int)).toNat C_spn.d) (l.getD ((a : Int)).toNat C_spn.d) < 0) = ltM (l.getD h zS) (l.getD a zS) := by
      rw [e0, ea, hd]
      rfl
    cases hc : ltM (l.getD h zS) (l.getD a zS) with
    | true =>
      rw [hc] at kc
      have hx2 := hx.up ordM (by omega) hB hh hij hc
      clear hh
      repeat' (first | (with_reducible refine ⟨(_, _), ⟨(.cons (.agg (.cons (.v _) (.cons (.v _) (.cons (.v _) (.cons (.v _) .nil))))) (.cons (.agg (.cons (.v _) (.cons (.v _) (.cons (.v _) (.cons (.v _) .nil))))) .nil)), ?_⟩, ?_⟩) | (with_reducible refine ex_of (α := Nat × Nat) (h + 1, j) ⟨hx2, ?_⟩ ?_) | (with_reducible first | exact fun h => h | refine ExE.row (by with_unfolding_all rfl) ?_ | refine And.intro ?_ ?_) | ((with_reducible intro hq); first | exact bne1 hq (by with_reducible assumption) | exact bne1 (by with_reducible assumption) hq | ((simp only [*, BB, cond_true, cond_false, reduceCtorEq] at hq); done) | (revert hq; with_reducible intro _)) | (with_reducible first | exact True.intro | rfl | refine EntLe.row ?_ | exact LeN.ro rfl | exact LeN.rptr | assumption) | ((with_reducible first | refine WkX.chk ?_ | refine Wk.chk ?_ | refine LeL.chk ?_ | refine LeF.chk ?_ | refine Run.mk ?_); (conv => whnf)) | ((with_reducible show LeO _ _); first | refine LeO.ro ?_ | refine LeO.roCap ?_ | refine LeO.nil ?_ (fun _ => rfl)) | ((with_reducible show LeR _ _ _); first | refine LeR.own rfl rfl rfl ?_ | refine LeR.view rfl rfl rfl ?_ ?_ | refine LeR.ro ?_ | refine LeR.roCap ?_ | refine LeR.nil ?_ (fun _ => rfl)) | ((with_reducible first | show drawOK _ _ = true | show lateOK _ _ = true | show drawOK2 _ _ = true | show drawOK3 _ _ = true); kernel_rfl))
      all_goals first
        | omega
        | rfl
        | (apply Fits.i64 <;> omega)
        | (show j - (h + 1) < j - i; omega)
        | trace_state
    | false =>
      rw [hc] at kc
      have hx2 := hx.down ordM (by omega) hB hh hij hc
      clear hh
      repeat' (first | (with_reducible refine ⟨(_, _), ⟨(.cons (.agg (.cons (.v _) (.cons (.v _) (.cons (.v _) (.cons (.v _) .nil))))) (.cons (.agg (.cons (.v _) (.cons (.v _) (.cons (.v _) (.cons (.v _) .nil))))) .nil)), ?_⟩, ?_⟩) | (with_reducible refine ex_of (α := Nat × Nat) (i, h) ⟨hx2, ?_⟩ ?_) | (with_reducible first | exact fun h => h | refine ExE.row (by with_unfolding_all rfl) ?_ | refine And.intro ?_ ?_) | ((with_reducible intro hq); first | exact bne1 hq (by with_reducible assumption) | exact bne1 (by with_reducible assumption) hq | ((simp only [*, BB, cond_true, cond_false, reduceCtorEq] at hq); done) | (revert hq; with_reducible intro _)) | (with_reducible first | exact True.intro | rfl | refine EntLe.row ?_ | exact LeN.ro rfl | exact LeN.rptr | assumption) | ((with_reducible first | refine WkX.chk ?_ | refine Wk.chk ?_ | refine LeL.chk ?_ | refine LeF.chk ?_ | refine Run.mk ?_); (conv => whnf)) | ((with_reducible show LeO _ _); first | refine LeO.ro ?_ | refine LeO.roCap ?_ | refine LeO.nil ?_ (fun _ => rfl)) | ((with_reducible show LeR _ _ _); first | refine LeR.own rfl rfl rfl ?_ | refine LeR.view rfl rfl rfl ?_ ?_ | refine LeR.ro ?_ | refine LeR.roCap ?_ | refine LeR.nil ?_ (fun _ => rfl)) | ((with_reducible first | show drawOK _ _ = true | show lateOK _ _ = true | show drawOK2 _ _ = true | show drawOK3 _ _ = true); kernel_rfl))
      all_goals first
        | omega
        | rfl
        | (apply Fits.i64 <;> omega)
        | (show h - i < j - i; omega)
        | trace_state
  obtain rfl : i = j := by omega
  have hlt : decide ((i : Int) < (i : Int)) = false := decide_eq_false (by omega)
  have hdn := hx.done hm1 (by omega) hB
  repeat' (first | (with_reducible first | exact fun h => h | refine ExE.row (by with_unfolding_all rfl) ?_ | refine And.intro ?_ ?_) | ((with_reducible intro hq); first | exact bne1 hq (by with_reducible assumption) | exact bne1 (by with_reducible assumption) hq | ((simp only [*, BB, cond_true, cond_false, reduceCtorEq] at hq); done) | (revert hq; with_reducible intro _)) | (with_reducible first | exact True.intro | rfl | refine EntLe.row ?_ | exact LeN.ro rfl | exact LeN.rptr | assumption) | ((with_reducible first | refine WkX.chk ?_ | refine Wk.chk ?_ | refine LeL.chk ?_ | refine LeF.chk ?_ | refine Run.mk ?_); (conv => whnf)) | ((with_reducible show LeO _ _); first | refine LeO.ro ?_ | refine LeO.roCap ?_ | refine LeO.nil ?_ (fun _ => rfl)) | ((with_reducible show LeR _ _ _); first | refine LeR.own rfl rfl rfl ?_ | refine LeR.view rfl rfl rfl ?_ ?_ | refine LeR.ro ?_ | refine LeR.roCap ?_ | refine LeR.nil ?_ (fun _ => rfl)) | ((with_reducible first | show drawOK _ _ = true | show lateOK _ _ = true | show drawOK2 _ _ = true | show drawOK3 _ _ = true); kernel_rfl))
  refine loopI Nat [] (fun k => [(13, .v (.int .i64 (k : Nat)))]) (fun k => [(0, .row C_spn (mov1 zS l a k) 71 none)]) (fun k => a ≤ k ∧ k ≤ i - 1) (fun k => i - 1 - k) a ⟨Nat.le_refl _, by omega⟩ (Wk.chk ?_) fun k hk => ?_
  · ((conv => whnf); repeat' (first | (with_reducible first | exact fun h => h | refine ExE.row (by with_unfolding_all rfl) ?_ | refine And.intro ?_ ?_) | ((with_reducible intro hq); first | exact bne1 hq (by with_reducible assumption) | exact bne1 (by with_reducible assumption) hq | ((simp only [*, BB, cond_true, cond_false, reduceCtorEq] at hq); done) | (revert hq; with_reducible intro _)) | (with_reducible first | exact True.intro | rfl | refine EntLe.row ?_ | exact LeN.ro rfl | exact LeN.rptr | assumption) | ((with_reducible first | refine WkX.chk ?_ | refine Wk.chk ?_ | refine LeL.chk ?_ | refine LeF.chk ?_ | refine Run.mk ?_); (conv => whnf)) | ((with_reducible show LeO _ _); first | refine LeO.ro ?_ | refine LeO.roCap ?_ | refine LeO.nil ?_ (fun _ => rfl)) | ((with_reducible show LeR _ _ _); first | refine LeR.own rfl rfl rfl ?_ | refine LeR.view rfl rfl rfl ?_ ?_ | refine LeR.ro ?_ | refine LeR.roCap ?_ | refine LeR.nil ?_ (fun _ => rfl)) | ((with_reducible first | show drawOK _ _ = true | show lateOK _ _ = true | show drawOK2 _ _ = true | show drawOK3 _ _ = true); kernel_rfl)))
    all_goals first
      | rfl
      | (rw [mov1_start (by omega)]; done)
  obtain ⟨c1, c2⟩ := hk
  have hln := mov1_len (d := zS) (l := l) (a := a) (k := k) c1 (by omega)
  have e1 : ((k : Int)).toNat = k := Int.toNat_natCast _
  have e2 : ((k : Int) + 1).toNat = k + 1 := by omega
  have hst := mov1_step (d := zS) (l := l) (a := a) (k := k) c1
  repeat' (first | (with_reducible refine ex_of (α := Nat) (k + 1) ⟨?_, ?_⟩ ?_) | (with_reducible first | exact fun h => h | refine ExE.row (by with_unfolding_all rfl) ?_ | refine And.intro ?_ ?_) | ((with_reducible intro hq); first | exact bne1 hq (by with_reducible assumption) | exact bne1 (by with_reducible assumption) hq | ((simp only [*, BB, cond_true, cond_false, reduceCtorEq] at hq); done) | (revert hq; with_reducible intro _)) | (with_reducible first | exact True.intro | rfl | refine EntLe.row ?_ | exact LeN.ro rfl | exact LeN.rptr | assumption) | ((with_reducible first | refine WkX.chk ?_ | refine Wk.chk ?_ | refine LeL.chk ?_ | refine LeF.chk ?_ | refine Run.mk ?_); (conv => whnf)) | ((with_reducible show LeO _ _); first | refine LeO.ro ?_ | refine LeO.roCap ?_ | refine LeO.nil ?_ (fun _ => rfl)) | ((with_reducible show LeR _ _ _); first | refine LeR.own rfl rfl rfl ?_ | refine LeR.view rfl rfl rfl ?_ ?_ | refine LeR.ro ?_ | refine LeR.roCap ?_ | refine LeR.nil ?_ (fun _ => rfl)) | ((with_reducible first | show drawOK _ _ = true | show lateOK _ _ = true | show drawOK2 _ _ = true | show drawOK3 _ _ = true); kernel_rfl))
  all_goals (try simp only [e1, e2, hd, hln, List.length_set, decide_eq_true_eq, decide_eq_false_iff_not] at *)
  all_goals first
    | omega
    | rfl
    | (apply Fits.i64 <;> omega)
    | (show i - 1 - (k + 1) < i - 1 - k; omega)
    | exact hst (by omega)
    | (refine ⟨_, _, rfl, ?_⟩; obtain rfl : k = i - 1 := by omega
       exact hdn)
    | trace_state
end Go.SX.Try
/- Contract of the library's merge in place, of spans: a sorted row, and one. (the order of a normal form) -/
namespace Go.SX.Try
open Go.Proofs Go.Proofs.Try Go.SX.Plain
set_option maxRecDepth 100000
set_option maxHeartbeats 0
set_option linter.unusedSimpArgs false
theorem conW_sym2_M : ConW prog 120 C_spn 71 symAM symFM (fun i l => symPM i l ∧ ¬ i.2.1 = i.1 + 1 ∧ i.2.2 = i.2.1 + 1) := by
  refine ConW.of (by kernel_rfl) T_ok CdsOK.nil (.con con_made1 .nil) 3 [17] q_symM.1 q_symM.2.1 q_symM.2.2 (fun _ => rfl) (fun _ => .cons (.v _) (.cons (.v _) (.cons (.v _) (.cons (.fn _) .nil)))) fun i l hi => ?_
  obtain ⟨a, m, b⟩ := i
  obtain ⟨⟨⟨⟨h1, h2, h3, h4⟩, h5⟩, hA, hB⟩, hN⟩ := hi
  obtain ⟨a, rfl⟩ := Int.eq_ofNat_of_zero_le h1
  obtain ⟨m, rfl⟩ := Int.eq_ofNat_of_zero_le (show 0 ≤ m by omega)
  obtain ⟨b, rfl⟩ := Int.eq_ofNat_of_zero_le (show 0 ≤ b by omega)
  simp only [Int.toNat_natCast] at hA hB ⊢
  have hd : C_spn.d = zS := rfl
  have ea : ((a : Int)).toNat = a := Int.toNat_natCast _
  have em : ((m : Int)).toNat = m := Int.toNat_natCast _
  have hN : ¬ (m : Int) = (a : Int) + 1 ∧ (b : Int) = (m : Int) + 1 := hN
  have k1 : ((m : Int) - (a : Int) == 1) = false := by rw [Bool.eq_false_iff, Ne, beq_iff_eq]; omega
  have hm2 : b = m + 1 := by omega
  have k2 : ((b : Int) - (m : Int) == 1) = true := by rw [beq_iff_eq]; omega
  repeat' (first | (with_reducible first | exact fun h => h | refine ExE.row (by with_unfolding_all rfl) ?_ | refine And.intro ?_ ?_) | ((with_reducible intro hq); first | exact bne1 hq (by with_reducible assumption) | exact bne1 (by with_reducible assumption) hq | ((simp only [*, BB, cond_true, cond_false, reduceCtorEq] at hq); done) | (revert hq; with_reducible intro _)) | (with_reducible first | exact True.intro | rfl | refine EntLe.row ?_ | exact LeN.ro rfl | exact LeN.rptr | assumption) | ((with_reducible first | refine WkX.chk ?_ | refine Wk.chk ?_ | refine LeL.chk ?_ | refine LeF.chk ?_ | refine Run.mk ?_); (conv => whnf)) | ((with_reducible show LeO _ _); first | refine LeO.ro ?_ | refine LeO.roCap ?_ | refine LeO.nil ?_ (fun _ => rfl)) | ((with_reducible show LeR _ _ _); first | refine LeR.own rfl rfl rfl ?_ | refine LeR.view rfl rfl rfl ?_ ?_ | refine LeR.ro ?_ | refine LeR.roCap ?_ | refine LeR.nil ?_ (fun _ => rfl)) | ((with_reducible first | show drawOK _ _ = true | show lateOK _ _ = true | show drawOK2 _ _ = true | show drawOK3 _ _ = true); kernel_rfl))
  any_goals (apply Fits.i64 <;> omega)
  refine loopI (Nat × Nat) [] (fun | (i, j) => [(14, .v (.int .i64 (i : Nat))), (15, .v (.int .i64 (j : Nat)))]) (fun _ => []) (fun | (i, j) => Bs2 ltM zS l a m i j) (fun | (i, j) => j - i) (a, m) (Bs2.start l (by omega)) (Wk.chk ?_) fun x hx => ?_
  · ((conv => whnf); repeat' (first | (with_reducible first | exact fun h => h | refine ExE.row (by with_unfolding_all rfl) ?_ | refine And.intro ?_ ?_) | ((with_reducible intro hq); first | exact bne1 hq (by with_reducible assumption) | exact bne1 (by with_reducible assumption) hq | ((simp only [*, BB, cond_true, cond_false, reduceCtorEq] at hq); done) | (revert hq; with_reducible intro _)) | (with_reducible first | exact True.intro | rfl | refine EntLe.row ?_ | exact LeN.ro rfl | exact LeN.rptr | assumption) | ((with_reducible first | refine WkX.chk ?_ | refine Wk.chk ?_ | refine LeL.chk ?_ | refine LeF.chk ?_ | refine Run.mk ?_); (conv => whnf)) | ((with_reducible show LeO _ _); first | refine LeO.ro ?_ | refine LeO.roCap ?_ | refine LeO.nil ?_ (fun _ => rfl)) | ((with_reducible show LeR _ _ _); first | refine LeR.own rfl rfl rfl ?_ | refine LeR.view rfl rfl rfl ?_ ?_ | refine LeR.ro ?_ | refine LeR.roCap ?_ | refine LeR.nil ?_ (fun _ => rfl)) | ((with_reducible first | show drawOK _ _ = true | show lateOK _ _ = true | show drawOK2 _ _ = true | show drawOK3 _ _ = true); kernel_rfl)))
    all_goals rfl
  obtain ⟨i, j⟩ := x
  have hx : Bs2 ltM zS l a m i j := hx
  obtain ⟨b1, b2, b3, _, _⟩ := id hx
  by_cases hij : i < j
  · have hlt : decide ((i : Int) < (j : Int)) = true := decide_eq_true (by omega)
    repeat' (first | (with_reducible first | exact fun h => h | refine ExE.row (by with_unfolding_all rfl) ?_ | refine And.intro ?_ ?_) | ((with_reducible intro hq); first | exact bne1 hq (by with_reducible assumption) | exact bne1 (by with_reducible assumption) hq | ((simp only [*, BB, cond_true, cond_false, reduceCtorEq] at hq); done) | (revert hq; with_reducible intro _)) | (with_reducible first | exact True.intro | rfl | refine EntLe.row ?_ | exact LeN.ro rfl | exact LeN.rptr | assumption) | ((with_reducible first | refine WkX.chk ?_ | refine Wk.chk ?_ | refine LeL.chk ?_ | refine LeF.chk ?_ | refine Run.mk ?_); (conv => whnf)) | ((with_reducible show LeO _ _); first | refine LeO.ro ?_ | refine LeO.roCap ?_ | refine LeO.nil ?_ (fun _ => rfl)) | ((with_reducible show LeR _ _ _); first | refine LeR.own rfl rfl rfl ?_ | refine LeR.view rfl rfl rfl ?_ ?_ | refine LeR.ro ?_ | refine LeR.roCap ?_ | refine LeR.nil ?_ (fun _ => rfl)) | ((with_reducible first | show drawOK _ _ = true | show lateOK _ _ = true | show drawOK2 _ _ = true | show drawOK3 _ _ = true); kernel_rfl))
    refine joinI Nat [] (fun h => [(16, .v (.int .i64 (h : Nat)))]) (fun _ => []) (fun h => h = (i + j) / 2) ?_ fun h hh => ?_
    · repeat' (first | (with_reducible refine ex_of (α := Nat) ((i + j) / 2) rfl ?_) | (with_reducible first | exact fun h => h | refine ExE.row (by with_unfolding_all rfl) ?_ | refine And.intro ?_ ?_) | ((with_reducible intro hq); first | exact bne1 hq (by with_reducible assumption) | exact bne1 (by with_reducible assumption) hq | ((simp only [*, BB, cond_true, cond_false, reduceCtorEq] at hq); done) | (revert hq; with_reducible intro _)) | (with_reducible first | exact True.intro | rfl | refine EntLe.row ?_ | exact LeN.ro rfl | exact LeN.rptr | assumption) | ((with_reducible first | refine WkX.chk ?_ | refine Wk.chk ?_ | refine LeL.chk ?_ | refine LeF.chk ?_ | refine Run.mk ?_); (conv => whnf)) | ((with_reducible show LeO _ _); first | refine LeO.ro ?_ | refine LeO.roCap ?_ | refine LeO.nil ?_ (fun _ => rfl)) | ((with_reducible show LeR _ _ _); first | refine LeR.own rfl rfl rfl ?_ | refine LeR.view rfl rfl rfl ?_ ?_ | refine LeR.ro ?_ | refine LeR.roCap ?_ | refine LeR.nil ?_ (fun _ => rfl)) | ((with_reducible first | show drawOK _ _ = true | show lateOK _ _ = true | show drawOK2 _ _ = true | show drawOK3 _ _ = true); kernel_rfl))
      all_goals first
        | (apply Fits.i64 <;> omega)
        | (rw [half_eq]; apply Fits.i64 <;> omega)
        | (apply Go.SX.Try.Fits.u64 <;> omega)
        | omega
        | decide
        | exact congrArg (fun z => AV.v (Value.int IntKind.i64 z)) (half_eq i j)
        | exact half_eq i j
        | trace_state
    have hh : h = (i + j) / 2 := hh
    obtain ⟨u1, u2⟩ : i ≤ h ∧ h < j := by omega
    have e0 : ((h : Int)).toNat = h := Int.toNat_natCast _
    have kc : (!decide (cmpM (l.getD ((m : Int)).toNat C_spn.d) (l.getD ((h : Int)).toNat C_spn.d) < 0)) = !ltM (l.getD m zS) (l.getD h zS) := by
      rw [e0, em, hd]
      rfl
    cases hc : ltM (l.getD m zS) (l.getD h zS) with
    | true =>
      rw [hc] at kc
      have kc : (!decide (cmpM (l.getD ((m : Int)).toNat C_spn.d) (l.getD ((h : Int)).toNat C_spn.d) < 0)) = false := kc
      have hx2 := hx.down ordM (by omega) hA hh hij hc
      clear hh
      repeat' (first | (with_reducible refine ⟨(_, _), ⟨(.cons (.agg (.cons (.v _) (.cons (.v _) (.cons (.v _) (.cons (.v _) .nil))))) (.cons (.agg (.cons (.v _) (.cons (.v _) (.cons (.v _) (.cons (.v _) .nil))))) .nil)), ?_⟩, ?_⟩) | (with_reducible refine ex_of (α := Nat × Nat) (i, h) ⟨hx2, ?_⟩ ?_) | (with_reducible first | exact fun h => h | refine ExE.row (by with_unfolding_all rfl) ?_ | refine And.intro ?_ ?_) | ((with_reducible intro hq); first | exact bne1 hq (by with_reducible assumption) | exact bne1 (by with_reducible assumption) hq | ((simp only [*, BB, cond_true, cond_false, reduceCtorEq] at hq); done) | (revert hq; with_reducible intro _)) | (with_reducible first | exact True.intro | rfl | refine EntLe.row ?_ | exact LeN.ro rfl | exact LeN.rptr | assumption) | ((with_reducible first | refine WkX.chk ?_ | refine Wk.chk ?_ | refine LeL.chk ?_ | refine LeF.chk ?_ | refine Run.mk ?_); (conv => whnf)) | ((with_reducible show LeO _ _); first | refine LeO.ro ?_ | refine LeO.roCap ?_ | refine LeO.nil ?_ (fun _ => rfl)) | ((with_reducible show LeR _ _ _); first | refine LeR.own rfl rfl rfl ?_ | refine LeR.view rfl rfl rfl ?_ ?_ | refine LeR.ro ?_ | refine LeR.roCap ?_ | refine LeR.nil ?_ (fun _ => rfl)) | ((with_reducible first | show drawOK _ _ = true | show lateOK _ _ = true | show drawOK2 _ _ = true | show drawOK3 _ _ = true); kernel_rfl))
      all_goals first
        | omega
        | rfl
        | (apply Fits.i64 <;> omega)
        | (show h - i < j - i; omega)
        | trace_state
    | false =>
      rw [hc] at kc
      have kc : (!decide (cmpM (l.getD ((m : Int)).toNat C_spn.d) (l.getD ((h : Int)).toNat C_spn.d) < 0)) = true := kc
      have hx2 := hx.up ordM (by omega) hA hh hij hc
      clear hh
      repeat' (first | (with_reducible refine ⟨(_, _), ⟨(.cons (.agg (.cons (.v _) (.cons (.v _) (.cons (.v _) (.cons (.v _) .nil))))) (.cons (.agg (.cons (.v _) (.cons (.v _) (.cons (.v _) (.cons (.v _) .nil))))) .nil)), ?_⟩, ?_⟩) | (with_reducible refine ex_of (α := Nat × Nat) (h + 1, j) ⟨hx2, ?_⟩ ?_) | (with_reducible first | exact fun h => h | refine ExE.row (by with_unfolding_all rfl) ?_ | refine And.intro ?_ ?_) | ((with_reducible intro hq); first | exact bne1 hq (by with_reducible assumption) | exact bne1 (by with_reducible assumption) hq | ((simp only [*, BB, cond_true, cond_false, reduceCtorEq] at hq); done) | (revert hq; with_reducible intro _)) | (with_reducible first | exact True.intro | rfl | refine EntLe.row ?_ | exact LeN.ro rfl | exact LeN.rptr | assumption) | ((with_reducible first | refine WkX.chk ?_ | refine Wk.chk ?_ | refine LeL.chk ?_ | refine LeF.chk ?_ | refine Run.mk ?_); (conv => whnf)) | ((with_reducible show LeO _ _); first | refine LeO.ro ?_ | refine LeO.roCap ?_ | refine LeO.nil ?_ (fun _ => rfl)) | ((with_reducible show LeR _ _ _); first | refine LeR.own rfl rfl rfl ?_ | refine LeR.view rfl rfl rfl ?_ ?_ | refine LeR.ro ?_ | refine LeR.roCap ?_ | refine LeR.nil ?_ (fun _ => rfl)) | ((with_reducible first | show drawOK _ _ = true | show lateOK _ _ = true | show drawOK2 _ _ = true | show drawOK3 _ _ = true); kernel_rfl))
      all_goals first
        | omega
        | rfl
        | (apply Fits.i64 <;> omega)
        | (show j - (h + 1) < j - i; omega)
        | trace_state
  obtain rfl : i = j := by omega
  have hlt : decide ((i : Int) < (i : Int)) = false := decide_eq_false (by omega)
  have hdn := hx.done hm2 (by omega)
  repeat' (first | (with_reducible first | exact fun h => h | refine ExE.row (by with_unfolding_all rfl) ?_ | refine And.intro ?_ ?_) | ((with_reducible intro hq); first | exact bne1 hq (by with_reducible assumption) | exact bne1 (by with_reducible assumption) hq | ((simp only [*, BB, cond_true, cond_false, reduceCtorEq] at hq); done) | (revert hq; with_reducible intro _)) | (with_reducible first | exact True.intro | rfl | refine EntLe.row ?_ | exact LeN.ro rfl | exact LeN.rptr | assumption) | ((with_reducible first | refine WkX.chk ?_ | refine Wk.chk ?_ | refine LeL.chk ?_ | refine LeF.chk ?_ | refine Run.mk ?_); (conv => whnf)) | ((with_reducible show LeO _ _); first | refine LeO.ro ?_ | refine LeO.roCap ?_ | refine LeO.nil ?_ (fun _ => rfl)) | ((with_reducible show LeR _ _ _); first | refine LeR.own rfl rfl rfl ?_ | refine LeR.view rfl rfl rfl ?_ ?_ | refine LeR.ro ?_ | refine LeR.roCap ?_ | refine LeR.nil ?_ (fun _ => rfl)) | ((with_reducible first | show drawOK _ _ = true | show lateOK _ _ = true | show drawOK2 _ _ = true | show drawOK3 _ _ = true); kernel_rfl))
  refine loopI Nat [] (fun k => [(17, .v (.int .i64 (k : Nat)))]) (fun k => [(0, .row C_spn (mov2 zS l m k) 71 none)]) (fun k => i ≤ k ∧ k ≤ m) (fun k => k - i) m ⟨by omega, Nat.le_refl _⟩ (Wk.chk ?_) fun k hk => ?_
  · ((conv => whnf); repeat' (first | (with_reducible first | exact fun h => h | refine ExE.row (by with_unfolding_all rfl) ?_ | refine And.intro ?_ ?_) | ((with_reducible intro hq); first | exact bne1 hq (by with_reducible assumption) | exact bne1 (by with_reducible assumption) hq | ((simp only [*, BB, cond_true, cond_false, reduceCtorEq] at hq); done) | (revert hq; with_reducible intro _)) | (with_reducible first | exact True.intro | rfl | refine EntLe.row ?_ | exact LeN.ro rfl | exact LeN.rptr | assumption) | ((with_reducible first | refine WkX.chk ?_ | refine Wk.chk ?_ | refine LeL.chk ?_ | refine LeF.chk ?_ | refine Run.mk ?_); (conv => whnf)) | ((with_reducible show LeO _ _); first | refine LeO.ro ?_ | refine LeO.roCap ?_ | refine LeO.nil ?_ (fun _ => rfl)) | ((with_reducible show LeR _ _ _); first | refine LeR.own rfl rfl rfl ?_ | refine LeR.view rfl rfl rfl ?_ ?_ | refine LeR.ro ?_ | refine LeR.roCap ?_ | refine LeR.nil ?_ (fun _ => rfl)) | ((with_reducible first | show drawOK _ _ = true | show lateOK _ _ = true | show drawOK2 _ _ = true | show drawOK3 _ _ = true); kernel_rfl)))
    all_goals first
      | rfl
      | (rw [mov2_start (by omega)]; done)
  obtain ⟨c1, c2⟩ := hk
  have hln := mov2_len (d := zS) (l := l) (m := m) (k := k) c2 (by omega)
  have e1 : ((k : Int)).toNat = k := Int.toNat_natCast _
  have e2 : ((k : Int) - 1).toNat = k - 1 := by omega
  have hst : i < k → ((mov2 zS l m k).set k ((mov2 zS l m k).getD (k - 1) zS)).set (k - 1) ((mov2 zS l m k).getD k zS) = mov2 zS l m (k - 1) := fun h => by
    obtain ⟨q, rfl⟩ : ∃ q, k = q + 1 := ⟨k - 1, by omega⟩
    exact mov2_step (by omega) (by omega)
  repeat' (first | (with_reducible refine ex_of (α := Nat) (k - 1) ⟨?_, ?_⟩ ?_) | (with_reducible first | exact fun h => h | refine ExE.row (by with_unfolding_all rfl) ?_ | refine And.intro ?_ ?_) | ((with_reducible intro hq); first | exact bne1 hq (by with_reducible assumption) | exact bne1 (by with_reducible assumption) hq | ((simp only [*, BB, cond_true, cond_false, reduceCtorEq] at hq); done) | (revert hq; with_reducible intro _)) | (with_reducible first | exact True.intro | rfl | refine EntLe.row ?_ | exact LeN.ro rfl | exact LeN.rptr | assumption) | ((with_reducible first | refine WkX.chk ?_ | refine Wk.chk ?_ | refine LeL.chk ?_ | refine LeF.chk ?_ | refine Run.mk ?_); (conv => whnf)) | ((with_reducible show LeO _ _); first | refine LeO.ro ?_ | refine LeO.roCap ?_ | refine LeO.nil ?_ (fun _ => rfl)) | ((with_reducible show LeR _ _ _); first | refine LeR.own rfl rfl rfl ?_ | refine LeR.view rfl rfl rfl ?_ ?_ | refine LeR.ro ?_ | refine LeR.roCap ?_ | refine LeR.nil ?_ (fun _ => rfl)) | ((with_reducible first | show drawOK _ _ = true | show lateOK _ _ = true | show drawOK2 _ _ = true | show drawOK3 _ _ = true); kernel_rfl))
  all_goals (try simp only [e1, e2, hd, hln, List.length_set, decide_eq_true_eq, decide_eq_false_iff_not] at *)
  all_goals first
    | omega
    | rfl
    | (apply Fits.i64 <;> omega)
    | (show k - 1 - i < k - i; omega)
    | exact hst (by omega)
    | (refine ⟨_, _, rfl, ?_⟩; obtain rfl : k = i := by omega
       exact hdn)
    | trace_state
end Go.SX.Try
/- Contract of the library's merge in place, of spans: two halves; all cases. (the order of a normal form) -/
namespace Go.SX.Try
open Go.Proofs Go.Proofs.Try Go.SX.Plain
set_option maxRecDepth 100000
set_option maxHeartbeats 0
set_option linter.unusedSimpArgs false
theorem conW_sym3_M {N : Nat} (ih : ConW prog 120 C_spn 71 symAM symFM (fun i l => symPM i l ∧ i.2.2 - i.1 ≤ (N : Int))) : ConW prog 120 C_spn 71 symAM symFM (fun i l => symPM i l ∧ (¬ i.2.1 = i.1 + 1 ∧ ¬ i.2.2 = i.2.1 + 1) ∧ i.2.2 - i.1 ≤ ((N + 1 : Nat) : Int)) := by
  refine ConW.of (by kernel_rfl) T_ok CdsOK.nil (.con con_made1 (.conw ih (.conw conW_rotate .nil))) 3 [25, 32, 35, 41, 43] q_symM.1 q_symM.2.1 q_symM.2.2 (fun _ => rfl) (fun _ => .cons (.v _) (.cons (.v _) (.cons (.v _) (.cons (.fn _) .nil)))) fun i l hi => ?_
  obtain ⟨a, m, b⟩ := i
  obtain ⟨⟨⟨⟨h1, h2, h3, h4⟩, h5⟩, hA, hB⟩, hN⟩ := hi
  obtain ⟨a, rfl⟩ := Int.eq_ofNat_of_zero_le h1
  obtain ⟨m, rfl⟩ := Int.eq_ofNat_of_zero_le (show 0 ≤ m by omega)
  obtain ⟨b, rfl⟩ := Int.eq_ofNat_of_zero_le (show 0 ≤ b by omega)
  simp only [Int.toNat_natCast] at hA hB ⊢
  have hd : C_spn.d = zS := rfl
  have ea : ((a : Int)).toNat = a := Int.toNat_natCast _
  have em : ((m : Int)).toNat = m := Int.toNat_natCast _
  have eb : ((b : Int)).toNat = b := Int.toNat_natCast _
  have hN : (¬ (m : Int) = (a : Int) + 1 ∧ ¬ (b : Int) = (m : Int) + 1) ∧ (b : Int) - (a : Int) ≤ ((N + 1 : Nat) : Int) := hN
  have k1 : ((m : Int) - (a : Int) == 1) = false := by rw [Bool.eq_false_iff, Ne, beq_iff_eq]; omega
  have k2 : ((b : Int) - (m : Int) == 1) = false := by rw [Bool.eq_false_iff, Ne, beq_iff_eq]; omega
  repeat' (first | (with_reducible first | exact fun h => h | refine ExE.row (by with_unfolding_all rfl) ?_ | refine And.intro ?_ ?_) | ((with_reducible intro hq); first | exact bne1 hq (by with_reducible assumption) | exact bne1 (by with_reducible assumption) hq | ((simp only [*, BB, cond_true, cond_false, reduceCtorEq] at hq); done) | (revert hq; with_reducible intro _)) | (with_reducible first | exact True.intro | rfl | refine EntLe.row ?_ | exact LeN.ro rfl | exact LeN.rptr | assumption) | ((with_reducible first | refine WkX.chk ?_ | refine Wk.chk ?_ | refine LeL.chk ?_ | refine LeF.chk ?_ | refine Run.mk ?_); (conv => whnf)) | ((with_reducible show LeO _ _); first | refine LeO.ro ?_ | refine LeO.roCap ?_ | refine LeO.nil ?_ (fun _ => rfl)) | ((with_reducible show LeR _ _ _); first | refine LeR.own rfl rfl rfl ?_ | refine LeR.view rfl rfl rfl ?_ ?_ | refine LeR.ro ?_ | refine LeR.roCap ?_ | refine LeR.nil ?_ (fun _ => rfl)) | ((with_reducible first | show drawOK _ _ = true | show lateOK _ _ = true | show drawOK2 _ _ = true | show drawOK3 _ _ = true); kernel_rfl))
  any_goals (apply Fits.i64 <;> omega)
  refine joinI Nat [] (fun h => [(18, .v (.int .i64 (h : Nat)))]) (fun _ => []) (fun h => h = (a + b) / 2) ?_ fun mid hmid => ?_
  · repeat' (first | (with_reducible refine ex_of (α := Nat) ((a + b) / 2) rfl ?_) | (with_reducible first | exact fun h => h | refine ExE.row (by with_unfolding_all rfl) ?_ | refine And.intro ?_ ?_) | ((with_reducible intro hq); first | exact bne1 hq (by with_reducible assumption) | exact bne1 (by with_reducible assumption) hq | ((simp only [*, BB, cond_true, cond_false, reduceCtorEq] at hq); done) | (revert hq; with_reducible intro _)) | (with_reducible first | exact True.intro | rfl | refine EntLe.row ?_ | exact LeN.ro rfl | exact LeN.rptr | assumption) | ((with_reducible first | refine WkX.chk ?_ | refine Wk.chk ?_ | refine LeL.chk ?_ | refine LeF.chk ?_ | refine Run.mk ?_); (conv => whnf)) | ((with_reducible show LeO _ _); first | refine LeO.ro ?_ | refine LeO.roCap ?_ | refine LeO.nil ?_ (fun _ => rfl)) | ((with_reducible show LeR _ _ _); first | refine LeR.own rfl rfl rfl ?_ | refine LeR.view rfl rfl rfl ?_ ?_ | refine LeR.ro ?_ | refine LeR.roCap ?_ | refine LeR.nil ?_ (fun _ => rfl)) | ((with_reducible first | show drawOK _ _ = true | show lateOK _ _ = true | show drawOK2 _ _ = true | show drawOK3 _ _ = true); kernel_rfl))
    all_goals first
      | (apply Fits.i64 <;> omega)
      | (rw [half_eq]; apply Fits.i64 <;> omega)
      | (apply Go.SX.Try.Fits.u64 <;> omega)
      | omega
      | decide
      | exact congrArg (fun z => AV.v (Value.int IntKind.i64 z)) (half_eq a b)
      | exact half_eq a b
      | trace_state
  have hmid : mid = (a + b) / 2 := hmid
  obtain ⟨u1, u2⟩ : a ≤ mid ∧ mid < b := by omega
  have hN2 : b - a ≤ N + 1 := by omega
  have hle : b ≤ l.length := by omega
  have hst1 := fun h => Bs3.start1 (lt := ltM) (d := zS) l (a := a) (m := m) hmid h (show m < b by omega)
  have hst2 := fun h => Bs3.start2 (lt := ltM) (d := zS) l (a := a) (m := m) (b := b) hmid h (show a < m by omega)
  have hcut := fun s (h : Bs3 ltM zS l a m b mid s s) => h.cut hmid (by omega) (by omega) hle
  have hb1 : mid - a ≤ N ∧ b - mid ≤ N := by omega
  clear hmid
  repeat' (first | (with_reducible first | exact fun h => h | refine ExE.row (by with_unfolding_all rfl) ?_ | refine And.intro ?_ ?_) | ((with_reducible intro hq); first | exact bne1 hq (by with_reducible assumption) | exact bne1 (by with_reducible assumption) hq | ((simp only [*, BB, cond_true, cond_false, reduceCtorEq] at hq); done) | (revert hq; with_reducible intro _)) | (with_reducible first | exact True.intro | rfl | refine EntLe.row ?_ | exact LeN.ro rfl | exact LeN.rptr | assumption) | ((with_reducible first | refine WkX.chk ?_ | refine Wk.chk ?_ | refine LeL.chk ?_ | refine LeF.chk ?_ | refine Run.mk ?_); (conv => whnf)) | ((with_reducible show LeO _ _); first | refine LeO.ro ?_ | refine LeO.roCap ?_ | refine LeO.nil ?_ (fun _ => rfl)) | ((with_reducible show LeR _ _ _); first | refine LeR.own rfl rfl rfl ?_ | refine LeR.view rfl rfl rfl ?_ ?_ | refine LeR.ro ?_ | refine LeR.roCap ?_ | refine LeR.nil ?_ (fun _ => rfl)) | ((with_reducible first | show drawOK _ _ = true | show lateOK _ _ = true | show drawOK2 _ _ = true | show drawOK3 _ _ = true); kernel_rfl))
  any_goals (apply Fits.i64 <;> omega)
  refine joinI (Nat × Nat) [] (fun | (s, r) => [(20, .v (.int .i64 (s : Nat))), (21, .v (.int .i64 (r : Nat)))]) (fun _ => []) (fun | (s, r) => Bs3 ltM zS l a m b mid s r) ?_ fun x hx => ?_
  · by_cases hmm : mid < m
    · have e1 : (mid : Int) + (m : Int) - (b : Int) = ((mid + m - b : Nat) : Int) := by omega
      repeat' (first | (with_reducible refine ex_of (α := Nat × Nat) (mid + m - b, mid) (hst1 hmm) ?_) | (with_reducible first | exact fun h => h | refine ExE.row (by with_unfolding_all rfl) ?_ | refine And.intro ?_ ?_) | ((with_reducible intro hq); first | exact bne1 hq (by with_reducible assumption) | exact bne1 (by with_reducible assumption) hq | ((simp only [*, BB, cond_true, cond_false, reduceCtorEq] at hq); done) | (revert hq; with_reducible intro _)) | (with_reducible first | exact True.intro | rfl | refine EntLe.row ?_ | exact LeN.ro rfl | exact LeN.rptr | assumption) | ((with_reducible first | refine WkX.chk ?_ | refine Wk.chk ?_ | refine LeL.chk ?_ | refine LeF.chk ?_ | refine Run.mk ?_); (conv => whnf)) | ((with_reducible show LeO _ _); first | refine LeO.ro ?_ | refine LeO.roCap ?_ | refine LeO.nil ?_ (fun _ => rfl)) | ((with_reducible show LeR _ _ _); first | refine LeR.own rfl rfl rfl ?_ | refine LeR.view rfl rfl rfl ?_ ?_ | refine LeR.ro ?_ | refine LeR.roCap ?_ | refine LeR.nil ?_ (fun _ => rfl)) | ((with_reducible first | show drawOK _ _ = true | show lateOK _ _ = true | show drawOK2 _ _ = true | show drawOK3 _ _ = true); kernel_rfl))
      all_goals first
        | (apply Fits.i64 <;> omega)
        | exact e1
        | exact congrArg (fun z => AV.v (Value.int IntKind.i64 z)) e1
        | (exfalso; simp_all; omega)
        | trace_state
    · repeat' (first | (with_reducible refine ex_of (α := Nat × Nat) (a, m) (hst2 (by omega)) ?_) | (with_reducible first | exact fun h => h | refine ExE.row (by with_unfolding_all rfl) ?_ | refine And.intro ?_ ?_) | ((with_reducible intro hq); first | exact bne1 hq (by with_reducible assumption) | exact bne1 (by with_reducible assumption) hq | ((simp only [*, BB, cond_true, cond_false, reduceCtorEq] at hq); done) | (revert hq; with_reducible intro _)) | (with_reducible first | exact True.intro | rfl | refine EntLe.row ?_ | exact LeN.ro rfl | exact LeN.rptr | assumption) | ((with_reducible first | refine WkX.chk ?_ | refine Wk.chk ?_ | refine LeL.chk ?_ | refine LeF.chk ?_ | refine Run.mk ?_); (conv => whnf)) | ((with_reducible show LeO _ _); first | refine LeO.ro ?_ | refine LeO.roCap ?_ | refine LeO.nil ?_ (fun _ => rfl)) | ((with_reducible show LeR _ _ _); first | refine LeR.own rfl rfl rfl ?_ | refine LeR.view rfl rfl rfl ?_ ?_ | refine LeR.ro ?_ | refine LeR.roCap ?_ | refine LeR.nil ?_ (fun _ => rfl)) | ((with_reducible first | show drawOK _ _ = true | show lateOK _ _ = true | show drawOK2 _ _ = true | show drawOK3 _ _ = true); kernel_rfl))
      all_goals first
        | (apply Fits.i64 <;> omega)
        | rfl
        | (exfalso; simp_all; omega)
        | trace_state
  clear hst1 hst2
  obtain ⟨s0, r0⟩ := x
  have hx : Bs3 ltM zS l a m b mid s0 r0 := hx
  repeat' (first | (with_reducible first | exact fun h => h | refine ExE.row (by with_unfolding_all rfl) ?_ | refine And.intro ?_ ?_) | ((with_reducible intro hq); first | exact bne1 hq (by with_reducible assumption) | exact bne1 (by with_reducible assumption) hq | ((simp only [*, BB, cond_true, cond_false, reduceCtorEq] at hq); done) | (revert hq; with_reducible intro _)) | (with_reducible first | exact True.intro | rfl | refine EntLe.row ?_ | exact LeN.ro rfl | exact LeN.rptr | assumption) | ((with_reducible first | refine WkX.chk ?_ | refine Wk.chk ?_ | refine LeL.chk ?_ | refine LeF.chk ?_ | refine Run.mk ?_); (conv => whnf)) | ((with_reducible show LeO _ _); first | refine LeO.ro ?_ | refine LeO.roCap ?_ | refine LeO.nil ?_ (fun _ => rfl)) | ((with_reducible show LeR _ _ _); first | refine LeR.own rfl rfl rfl ?_ | refine LeR.view rfl rfl rfl ?_ ?_ | refine LeR.ro ?_ | refine LeR.roCap ?_ | refine LeR.nil ?_ (fun _ => rfl)) | ((with_reducible first | show drawOK _ _ = true | show lateOK _ _ = true | show drawOK2 _ _ = true | show drawOK3 _ _ = true); kernel_rfl))
  any_goals (apply Fits.i64 <;> omega)
  refine loopI (Nat × Nat) [] (fun | (s, r) => [(20, .v (.int .i64 (s : Nat))), (21, .v (.int .i64 (r : Nat)))]) (fun _ => []) (fun | (s, r) => Bs3 ltM zS l a m b mid s r) (fun | (s, r) => r - s) (s0, r0) hx (Wk.chk ?_) fun x hx => ?_
  · ((conv => whnf); repeat' (first | (with_reducible first | exact fun h => h | refine ExE.row (by with_unfolding_all rfl) ?_ | refine And.intro ?_ ?_) | ((with_reducible intro hq); first | exact bne1 hq (by with_reducible assumption) | exact bne1 (by with_reducible assumption) hq | ((simp only [*, BB, cond_true, cond_false, reduceCtorEq] at hq); done) | (revert hq; with_reducible intro _)) | (with_reducible first | exact True.intro | rfl | refine EntLe.row ?_ | exact LeN.ro rfl | exact LeN.rptr | assumption) | ((with_reducible first | refine WkX.chk ?_ | refine Wk.chk ?_ | refine LeL.chk ?_ | refine LeF.chk ?_ | refine Run.mk ?_); (conv => whnf)) | ((with_reducible show LeO _ _); first | refine LeO.ro ?_ | refine LeO.roCap ?_ | refine LeO.nil ?_ (fun _ => rfl)) | ((with_reducible show LeR _ _ _); first | refine LeR.own rfl rfl rfl ?_ | refine LeR.view rfl rfl rfl ?_ ?_ | refine LeR.ro ?_ | refine LeR.roCap ?_ | refine LeR.nil ?_ (fun _ => rfl)) | ((with_reducible first | show drawOK _ _ = true | show lateOK _ _ = true | show drawOK2 _ _ = true | show drawOK3 _ _ = true); kernel_rfl)))
    all_goals rfl
  obtain ⟨s, r⟩ := x
  have hx : Bs3 ltM zS l a m b mid s r := hx
  obtain ⟨b1, b2, b3, b4, b5, _, _⟩ := id hx
  by_cases hij : s < r
  · have hlt : decide ((s : Int) < (r : Int)) = true := decide_eq_true (by omega)
    repeat' (first | (with_reducible first | exact fun h => h | refine ExE.row (by with_unfolding_all rfl) ?_ | refine And.intro ?_ ?_) | ((with_reducible intro hq); first | exact bne1 hq (by with_reducible assumption) | exact bne1 (by with_reducible assumption) hq | ((simp only [*, BB, cond_true, cond_false, reduceCtorEq] at hq); done) | (revert hq; with_reducible intro _)) | (with_reducible first | exact True.intro | rfl | refine EntLe.row ?_ | exact LeN.ro rfl | exact LeN.rptr | assumption) | ((with_reducible first | refine WkX.chk ?_ | refine Wk.chk ?_ | refine LeL.chk ?_ | refine LeF.chk ?_ | refine Run.mk ?_); (conv => whnf)) | ((with_reducible show LeO _ _); first | refine LeO.ro ?_ | refine LeO.roCap ?_ | refine LeO.nil ?_ (fun _ => rfl)) | ((with_reducible show LeR _ _ _); first | refine LeR.own rfl rfl rfl ?_ | refine LeR.view rfl rfl rfl ?_ ?_ | refine LeR.ro ?_ | refine LeR.roCap ?_ | refine LeR.nil ?_ (fun _ => rfl)) | ((with_reducible first | show drawOK _ _ = true | show lateOK _ _ = true | show drawOK2 _ _ = true | show drawOK3 _ _ = true); kernel_rfl))
    refine joinI Nat [] (fun h => [(23, .v (.int .i64 (h : Nat)))]) (fun _ => []) (fun h => h = (s + r) / 2) ?_ fun c hh => ?_
    · repeat' (first | (with_reducible refine ex_of (α := Nat) ((s + r) / 2) rfl ?_) | (with_reducible first | exact fun h => h | refine ExE.row (by with_unfolding_all rfl) ?_ | refine And.intro ?_ ?_) | ((with_reducible intro hq); first | exact bne1 hq (by with_reducible assumption) | exact bne1 (by with_reducible assumption) hq | ((simp only [*, BB, cond_true, cond_false, reduceCtorEq] at hq); done) | (revert hq; with_reducible intro _)) | (with_reducible first | exact True.intro | rfl | refine EntLe.row ?_ | exact LeN.ro rfl | exact LeN.rptr | assumption) | ((with_reducible first | refine WkX.chk ?_ | refine Wk.chk ?_ | refine LeL.chk ?_ | refine LeF.chk ?_ | refine Run.mk ?_); (conv => whnf)) | ((with_reducible show LeO _ _); first | refine LeO.ro ?_ | refine LeO.roCap ?_ | refine LeO.nil ?_ (fun _ => rfl)) | ((with_reducible show LeR _ _ _); first | refine LeR.own rfl rfl rfl ?_ | refine LeR.view rfl rfl rfl ?_ ?_ | refine LeR.ro ?_ | refine LeR.roCap ?_ | refine LeR.nil ?_ (fun _ => rfl)) | ((with_reducible first | show drawOK _ _ = true | show lateOK _ _ = true | show drawOK2 _ _ = true | show drawOK3 _ _ = true); kernel_rfl))
      all_goals first
        | (apply Fits.i64 <;> omega)
        | (rw [half_eq]; apply Fits.i64 <;> omega)
        | (apply Go.SX.Try.Fits.u64 <;> omega)
        | omega
        | decide
        | exact congrArg (fun z => AV.v (Value.int IntKind.i64 z)) (half_eq s r)
        | exact half_eq s r
        | trace_state
    have hh : c = (s + r) / 2 := hh
    obtain ⟨u3, u4⟩ : s ≤ c ∧ c < r := by omega
    have e0 : ((c : Int)).toNat = c := Int.toNat_natCast _
    have e3 : ((mid : Int) + (m : Int) - 1 - (c : Int)).toNat = mid + m - 1 - c := by omega
    have kc : (!decide (cmpM (l.getD ((mid : Int) + (m : Int) - 1 - (c : Int)).toNat C_spn.d) (l.getD ((c : Int)).toNat C_spn.d) < 0)) = !ltM (l.getD (mid + m - 1 - c) zS) (l.getD c zS) := by
      rw [e0, e3, hd]
      rfl
    cases hc : ltM (l.getD (mid + m - 1 - c) zS) (l.getD c zS) with
    | true =>
      rw [hc] at kc
      have kc : (!decide (cmpM (l.getD ((mid : Int) + (m : Int) - 1 - (c : Int)).toNat C_spn.d) (l.getD ((c : Int)).toNat C_spn.d) < 0)) = false := kc
      have hx2 := hx.down ordM hle (by omega) hA hB hh hij hc
      clear hh
      repeat' (first | (with_reducible refine ⟨(_, _), ⟨(.cons (.agg (.cons (.v _) (.cons (.v _) (.cons (.v _) (.cons (.v _) .nil))))) (.cons (.agg (.cons (.v _) (.cons (.v _) (.cons (.v _) (.cons (.v _) .nil))))) .nil)), ?_⟩, ?_⟩) | (with_reducible refine ex_of (α := Nat × Nat) (s, c) ⟨hx2, ?_⟩ ?_) | (with_reducible first | exact fun h => h | refine ExE.row (by with_unfolding_all rfl) ?_ | refine And.intro ?_ ?_) | ((with_reducible intro hq); first | exact bne1 hq (by with_reducible assumption) | exact bne1 (by with_reducible assumption) hq | ((simp only [*, BB, cond_true, cond_false, reduceCtorEq] at hq); done) | (revert hq; with_reducible intro _)) | (with_reducible first | exact True.intro | rfl | refine EntLe.row ?_ | exact LeN.ro rfl | exact LeN.rptr | assumption) | ((with_reducible first | refine WkX.chk ?_ | refine Wk.chk ?_ | refine LeL.chk ?_ | refine LeF.chk ?_ | refine Run.mk ?_); (conv => whnf)) | ((with_reducible show LeO _ _); first | refine LeO.ro ?_ | refine LeO.roCap ?_ | refine LeO.nil ?_ (fun _ => rfl)) | ((with_reducible show LeR _ _ _); first | refine LeR.own rfl rfl rfl ?_ | refine LeR.view rfl rfl rfl ?_ ?_ | refine LeR.ro ?_ | refine LeR.roCap ?_ | refine LeR.nil ?_ (fun _ => rfl)) | ((with_reducible first | show drawOK _ _ = true | show lateOK _ _ = true | show drawOK2 _ _ = true | show drawOK3 _ _ = true); kernel_rfl))
      all_goals first
        | omega
        | rfl
        | (apply Fits.i64 <;> omega)
        | (show c - s < r - s; omega)
        | trace_state
    | false =>
      rw [hc] at kc
      have kc : (!decide (cmpM (l.getD ((mid : Int) + (m : Int) - 1 - (c : Int)).toNat C_spn.d) (l.getD ((c : Int)).toNat C_spn.d) < 0)) = true := kc
      have hx2 := hx.up ordM hle (by omega) hA hB hh hij hc
      clear hh
      repeat' (first | (with_reducible refine ⟨(_, _), ⟨(.cons (.agg (.cons (.v _) (.cons (.v _) (.cons (.v _) (.cons (.v _) .nil))))) (.cons (.agg (.cons (.v _) (.cons (.v _) (.cons (.v _) (.cons (.v _) .nil))))) .nil)), ?_⟩, ?_⟩) | (with_reducible refine ex_of (α := Nat × Nat) (c + 1, r) ⟨hx2, ?_⟩ ?_) | (with_reducible first | exact fun h => h | refine ExE.row (by with_unfolding_all rfl) ?_ | refine And.intro ?_ ?_) | ((with_reducible intro hq); first | exact bne1 hq (by with_reducible assumption) | exact bne1 (by with_reducible assumption) hq | ((simp only [*, BB, cond_true, cond_false, reduceCtorEq] at hq); done) | (revert hq; with_reducible intro _)) | (with_reducible first | exact True.intro | rfl | refine EntLe.row ?_ | exact LeN.ro rfl | exact LeN.rptr | assumption) | ((with_reducible first | refine WkX.chk ?_ | refine Wk.chk ?_ | refine LeL.chk ?_ | refine LeF.chk ?_ | refine Run.mk ?_); (conv => whnf)) | ((with_reducible show LeO _ _); first | refine LeO.ro ?_ | refine LeO.roCap ?_ | refine LeO.nil ?_ (fun _ => rfl)) | ((with_reducible show LeR _ _ _); first | refine LeR.own rfl rfl rfl ?_ | refine LeR.view rfl rfl rfl ?_ ?_ | refine LeR.ro ?_ | refine LeR.roCap ?_ | refine LeR.nil ?_ (fun _ => rfl)) | ((with_reducible first | show drawOK _ _ = true | show lateOK _ _ = true | show drawOK2 _ _ = true | show drawOK3 _ _ = true); kernel_rfl))
      all_goals first
        | omega
        | rfl
        | (apply Fits.i64 <;> omega)
        | (show r - (c + 1) < r - s; omega)
        | trace_state
  obtain rfl : s = r := by omega
  have hlt : decide ((s : Int) < (s : Int)) = false := decide_eq_false (by omega)
  have hC := hcut s hx
  have eE : (mid : Int) + (m : Int) - (s : Int) = ((mid + m - s : Nat) : Int) := by omega
  obtain ⟨e, he⟩ : ∃ e, e = mid + m - s := ⟨_, rfl⟩
  rw [← he] at eE
  have hmidE := hC.mid ordM hA hB
  rw [← he] at hmidE
  obtain ⟨⟨g1, g2⟩, g3, g4⟩ := hC.segs he hA hB
  have hl1 := rotR_len l (a := s) (m := m) (b := e) (by omega) (by omega) (by omega)
  have hl2 := symR_len (lt := ltM) (rotR l s m e) (a := a) (m := s) (b := mid) (by omega) (by omega) (by omega)
  obtain ⟨R1, hR1⟩ : ∃ R1, R1 = rotR l s m e := ⟨_, rfl⟩
  obtain ⟨R2, hR2⟩ : ∃ R2, R2 = symR ltM R1 a s mid := ⟨_, rfl⟩
  rw [← hR1] at hmidE g1 g2 g3 g4 hl1 hl2
  rw [← hR2] at hmidE g3 g4 hl2
  have es : ((s : Int)).toNat = s := Int.toNat_natCast _
  have ee : ((e : Int)).toNat = e := Int.toNat_natCast _
  have emi : ((mid : Int)).toNat = mid := Int.toNat_natCast _
  repeat' (first | (with_reducible first | exact fun h => h | refine ExE.row (by with_unfolding_all rfl) ?_ | refine And.intro ?_ ?_) | ((with_reducible intro hq); first | exact bne1 hq (by with_reducible assumption) | exact bne1 (by with_reducible assumption) hq | ((simp only [*, BB, cond_true, cond_false, reduceCtorEq] at hq); done) | (revert hq; with_reducible intro _)) | (with_reducible first | exact True.intro | rfl | refine EntLe.row ?_ | exact LeN.ro rfl | exact LeN.rptr | assumption) | ((with_reducible first | refine WkX.chk ?_ | refine Wk.chk ?_ | refine LeL.chk ?_ | refine LeF.chk ?_ | refine Run.mk ?_); (conv => whnf)) | ((with_reducible show LeO _ _); first | refine LeO.ro ?_ | refine LeO.roCap ?_ | refine LeO.nil ?_ (fun _ => rfl)) | ((with_reducible show LeR _ _ _); first | refine LeR.own rfl rfl rfl ?_ | refine LeR.view rfl rfl rfl ?_ ?_ | refine LeR.ro ?_ | refine LeR.roCap ?_ | refine LeR.nil ?_ (fun _ => rfl)) | ((with_reducible first | show drawOK _ _ = true | show lateOK _ _ = true | show drawOK2 _ _ = true | show drawOK3 _ _ = true); kernel_rfl))
  any_goals (apply Fits.i64 <;> omega)
  refine joinI Unit [] (fun _ => [(24, .v (.int .i64 (e : Nat)))]) (fun _ => [(0, .row C_spn R1 71 none)]) (fun _ => True) ?_ fun _ _ => ?_
  · by_cases hr : s < m ∧ m < e
    · obtain ⟨r1, r2⟩ := hr
      have k3 : decide ((s : Int) < (m : Int)) = true := decide_eq_true (by omega)
      have k4 : decide ((m : Int) < (mid : Int) + (m : Int) - (s : Int)) = true := decide_eq_true (by omega)
      repeat' (first | (with_reducible refine ⟨(_, _, _), _, _, ⟨(by with_unfolding_all exact rfl), (.cons (.v _) (.cons (.v _) (.cons (.v _) (.cons (.junk _) .nil)))), ?_, fun _ => (by with_unfolding_all exact rfl)⟩, ?_⟩) | (with_reducible refine ex_of () trivial ?_) | (with_reducible first | exact fun h => h | refine ExE.row (by with_unfolding_all rfl) ?_ | refine And.intro ?_ ?_) | ((with_reducible intro hq); first | exact bne1 hq (by with_reducible assumption) | exact bne1 (by with_reducible assumption) hq | ((simp only [*, BB, cond_true, cond_false, reduceCtorEq] at hq); done) | (revert hq; with_reducible intro _)) | (with_reducible first | exact True.intro | rfl | refine EntLe.row ?_ | exact LeN.ro rfl | exact LeN.rptr | assumption) | ((with_reducible first | refine WkX.chk ?_ | refine Wk.chk ?_ | refine LeL.chk ?_ | refine LeF.chk ?_ | refine Run.mk ?_); (conv => whnf)) | ((with_reducible show LeO _ _); first | refine LeO.ro ?_ | refine LeO.roCap ?_ | refine LeO.nil ?_ (fun _ => rfl)) | ((with_reducible show LeR _ _ _); first | refine LeR.own rfl rfl rfl ?_ | refine LeR.view rfl rfl rfl ?_ ?_ | refine LeR.ro ?_ | refine LeR.roCap ?_ | refine LeR.nil ?_ (fun _ => rfl)) | ((with_reducible first | show drawOK _ _ = true | show lateOK _ _ = true | show drawOK2 _ _ = true | show drawOK3 _ _ = true); kernel_rfl))
      all_goals (try simp only [ncast, eE, es, em, ee])
      all_goals first
        | omega
        | rfl
        | exact hR1.symm
        | (exfalso; simp_all; done)
        | trace_state
    · have hq : R1 = l := by
        rw [hR1]
        by_cases h : s = m
        · subst h; exact rotR_left l (by omega) (by omega)
        · obtain rfl : e = m := by omega
          exact rotR_right l (by omega) (by omega)
      have k3 : (decide ((s : Int) < (m : Int)) && decide ((m : Int) < (mid : Int) + (m : Int) - (s : Int))) = false := by
        rw [Bool.eq_false_iff, Ne, Bool.and_eq_true, decide_eq_true_eq, decide_eq_true_eq]; omega
      repeat' (first | (with_reducible refine ⟨(_, _, _), _, _, ⟨(by with_unfolding_all exact rfl), (.cons (.v _) (.cons (.v _) (.cons (.v _) (.cons (.junk _) .nil)))), ?_, fun _ => (by with_unfolding_all exact rfl)⟩, ?_⟩) | (with_reducible refine ex_of () trivial ?_) | (with_reducible first | exact fun h => h | refine ExE.row (by with_unfolding_all rfl) ?_ | refine And.intro ?_ ?_) | ((with_reducible intro hq); first | exact bne1 hq (by with_reducible assumption) | exact bne1 (by with_reducible assumption) hq | ((simp only [*, BB, cond_true, cond_false, reduceCtorEq] at hq); done) | (revert hq; with_reducible intro _)) | (with_reducible first | exact True.intro | rfl | refine EntLe.row ?_ | exact LeN.ro rfl | exact LeN.rptr | assumption) | ((with_reducible first | refine WkX.chk ?_ | refine Wk.chk ?_ | refine LeL.chk ?_ | refine LeF.chk ?_ | refine Run.mk ?_); (conv => whnf)) | ((with_reducible show LeO _ _); first | refine LeO.ro ?_ | refine LeO.roCap ?_ | refine LeO.nil ?_ (fun _ => rfl)) | ((with_reducible show LeR _ _ _); first | refine LeR.own rfl rfl rfl ?_ | refine LeR.view rfl rfl rfl ?_ ?_ | refine LeR.ro ?_ | refine LeR.roCap ?_ | refine LeR.nil ?_ (fun _ => rfl)) | ((with_reducible first | show drawOK _ _ = true | show lateOK _ _ = true | show drawOK2 _ _ = true | show drawOK3 _ _ = true); kernel_rfl))
      all_goals first
        | exact congrArg (fun z => AV.v (Value.int IntKind.i64 z)) eE
        | exact eE
        | exact hq.symm
        | (exfalso; simp_all; omega)
        | trace_state
  repeat' (first | (with_reducible first | exact fun h => h | refine ExE.row (by with_unfolding_all rfl) ?_ | refine And.intro ?_ ?_) | ((with_reducible intro hq); first | exact bne1 hq (by with_reducible assumption) | exact bne1 (by with_reducible assumption) hq | ((simp only [*, BB, cond_true, cond_false, reduceCtorEq] at hq); done) | (revert hq; with_reducible intro _)) | (with_reducible first | exact True.intro | rfl | refine EntLe.row ?_ | exact LeN.ro rfl | exact LeN.rptr | assumption) | ((with_reducible first | refine WkX.chk ?_ | refine Wk.chk ?_ | refine LeL.chk ?_ | refine LeF.chk ?_ | refine Run.mk ?_); (conv => whnf)) | ((with_reducible show LeO _ _); first | refine LeO.ro ?_ | refine LeO.roCap ?_ | refine LeO.nil ?_ (fun _ => rfl)) | ((with_reducible show LeR _ _ _); first | refine LeR.own rfl rfl rfl ?_ | refine LeR.view rfl rfl rfl ?_ ?_ | refine LeR.ro ?_ | refine LeR.roCap ?_ | refine LeR.nil ?_ (fun _ => rfl)) | ((with_reducible first | show drawOK _ _ = true | show lateOK _ _ = true | show drawOK2 _ _ = true | show drawOK3 _ _ = true); kernel_rfl))
  refine joinI Unit [] (fun _ => []) (fun _ => [(0, .row C_spn R2 71 none)]) (fun _ => True) ?_ fun _ _ => ?_
  · by_cases hr : a < s ∧ s < mid
    · obtain ⟨r1, r2⟩ := hr
      have k3 : decide ((a : Int) < (s : Int)) = true := decide_eq_true (by omega)
      have k4 : decide ((s : Int) < (mid : Int)) = true := decide_eq_true (by omega)
      repeat' (first | (with_reducible refine ⟨(_, _, _), _, _, ⟨(by with_unfolding_all exact rfl), (.cons (.v _) (.cons (.v _) (.cons (.v _) (.cons (.fn _) .nil)))), ?_, fun _ => (by with_unfolding_all exact rfl)⟩, ?_⟩) | (with_reducible refine ex_of () trivial ?_) | (with_reducible first | exact fun h => h | refine ExE.row (by with_unfolding_all rfl) ?_ | refine And.intro ?_ ?_) | ((with_reducible intro hq); first | exact bne1 hq (by with_reducible assumption) | exact bne1 (by with_reducible assumption) hq | ((simp only [*, BB, cond_true, cond_false, reduceCtorEq] at hq); done) | (revert hq; with_reducible intro _)) | (with_reducible first | exact True.intro | rfl | refine EntLe.row ?_ | exact LeN.ro rfl | exact LeN.rptr | assumption) | ((with_reducible first | refine WkX.chk ?_ | refine Wk.chk ?_ | refine LeL.chk ?_ | refine LeF.chk ?_ | refine Run.mk ?_); (conv => whnf)) | ((with_reducible show LeO _ _); first | refine LeO.ro ?_ | refine LeO.roCap ?_ | refine LeO.nil ?_ (fun _ => rfl)) | ((with_reducible show LeR _ _ _); first | refine LeR.own rfl rfl rfl ?_ | refine LeR.view rfl rfl rfl ?_ ?_ | refine LeR.ro ?_ | refine LeR.roCap ?_ | refine LeR.nil ?_ (fun _ => rfl)) | ((with_reducible first | show drawOK _ _ = true | show lateOK _ _ = true | show drawOK2 _ _ = true | show drawOK3 _ _ = true); kernel_rfl))
      all_goals (try simp only [ncast, es, emi, ea])
      all_goals first
        | omega
        | rfl
        | exact hR2.symm
        | (exfalso; simp_all; done)
        | trace_state
    · have hq : R2 = R1 := by
        rw [hR2]
        by_cases h : s = mid
        · subst h; exact symR_nil_right (by omega) (by omega)
        · obtain rfl : s = a := by omega
          exact symR_nil_left ordM (by omega) (by omega) g2
      have k3 : (decide ((a : Int) < (s : Int)) && decide ((s : Int) < (mid : Int))) = false := by
        rw [Bool.eq_false_iff, Ne, Bool.and_eq_true, decide_eq_true_eq, decide_eq_true_eq]; omega
      repeat' (first | (with_reducible refine ⟨(_, _, _), _, _, ⟨(by with_unfolding_all exact rfl), (.cons (.v _) (.cons (.v _) (.cons (.v _) (.cons (.fn _) .nil)))), ?_, fun _ => (by with_unfolding_all exact rfl)⟩, ?_⟩) | (with_reducible refine ex_of () trivial ?_) | (with_reducible first | exact fun h => h | refine ExE.row (by with_unfolding_all rfl) ?_ | refine And.intro ?_ ?_) | ((with_reducible intro hq); first | exact bne1 hq (by with_reducible assumption) | exact bne1 (by with_reducible assumption) hq | ((simp only [*, BB, cond_true, cond_false, reduceCtorEq] at hq); done) | (revert hq; with_reducible intro _)) | (with_reducible first | exact True.intro | rfl | refine EntLe.row ?_ | exact LeN.ro rfl | exact LeN.rptr | assumption) | ((with_reducible first | refine WkX.chk ?_ | refine Wk.chk ?_ | refine LeL.chk ?_ | refine LeF.chk ?_ | refine Run.mk ?_); (conv => whnf)) | ((with_reducible show LeO _ _); first | refine LeO.ro ?_ | refine LeO.roCap ?_ | refine LeO.nil ?_ (fun _ => rfl)) | ((with_reducible show LeR _ _ _); first | refine LeR.own rfl rfl rfl ?_ | refine LeR.view rfl rfl rfl ?_ ?_ | refine LeR.ro ?_ | refine LeR.roCap ?_ | refine LeR.nil ?_ (fun _ => rfl)) | ((with_reducible first | show drawOK _ _ = true | show lateOK _ _ = true | show drawOK2 _ _ = true | show drawOK3 _ _ = true); kernel_rfl))
      all_goals first
        | exact hq.symm
        | (exfalso; simp_all; omega)
        | trace_state
  by_cases hr : mid < e ∧ e < b
  · obtain ⟨r1, r2⟩ := hr
    have k3 : decide ((mid : Int) < (e : Int)) = true := decide_eq_true (by omega)
    have k4 : decide ((e : Int) < (b : Int)) = true := decide_eq_true (by omega)
    repeat' (first | (with_reducible refine ⟨(_, _, _), _, _, ⟨(by with_unfolding_all exact rfl), (.cons (.v _) (.cons (.v _) (.cons (.v _) (.cons (.fn _) .nil)))), ?_, fun _ => (by with_unfolding_all exact rfl)⟩, ?_⟩) | (with_reducible first | exact fun h => h | refine ExE.row (by with_unfolding_all rfl) ?_ | refine And.intro ?_ ?_) | ((with_reducible intro hq); first | exact bne1 hq (by with_reducible assumption) | exact bne1 (by with_reducible assumption) hq | ((simp only [*, BB, cond_true, cond_false, reduceCtorEq] at hq); done) | (revert hq; with_reducible intro _)) | (with_reducible first | exact True.intro | rfl | refine EntLe.row ?_ | exact LeN.ro rfl | exact LeN.rptr | assumption) | ((with_reducible first | refine WkX.chk ?_ | refine Wk.chk ?_ | refine LeL.chk ?_ | refine LeF.chk ?_ | refine Run.mk ?_); (conv => whnf)) | ((with_reducible show LeO _ _); first | refine LeO.ro ?_ | refine LeO.roCap ?_ | refine LeO.nil ?_ (fun _ => rfl)) | ((with_reducible show LeR _ _ _); first | refine LeR.own rfl rfl rfl ?_ | refine LeR.view rfl rfl rfl ?_ ?_ | refine LeR.ro ?_ | refine LeR.roCap ?_ | refine LeR.nil ?_ (fun _ => rfl)) | ((with_reducible first | show drawOK _ _ = true | show lateOK _ _ = true | show drawOK2 _ _ = true | show drawOK3 _ _ = true); kernel_rfl))
    all_goals (try simp only [ncast, ee, emi, eb])
    all_goals first
      | omega
      | rfl
      | (refine ⟨_, _, rfl, ?_⟩; exact hmidE.symm)
      | (exfalso; simp_all; done)
      | trace_state
  · have hq : symR ltM R2 mid e b = R2 := by
      by_cases h : e = b
      · subst h; exact symR_nil_right (by omega) (by omega)
      · obtain rfl : e = mid := by omega
        exact symR_nil_left ordM (by omega) (by omega) g4
    rw [hq] at hmidE
    have k3 : (decide ((mid : Int) < (e : Int)) && decide ((e : Int) < (b : Int))) = false := by
      rw [Bool.eq_false_iff, Ne, Bool.and_eq_true, decide_eq_true_eq, decide_eq_true_eq]; omega
    repeat' (first | (with_reducible refine ⟨(_, _, _), _, _, ⟨(by with_unfolding_all exact rfl), (.cons (.v _) (.cons (.v _) (.cons (.v _) (.cons (.fn _) .nil)))), ?_, fun _ => (by with_unfolding_all exact rfl)⟩, ?_⟩) | (with_reducible first | exact fun h => h | refine ExE.row (by with_unfolding_all rfl) ?_ | refine And.intro ?_ ?_) | ((with_reducible intro hq); first | exact bne1 hq (by with_reducible assumption) | exact bne1 (by with_reducible assumption) hq | ((simp only [*, BB, cond_true, cond_false, reduceCtorEq] at hq); done) | (revert hq; with_reducible intro _)) | (with_reducible first | exact True.intro | rfl | refine EntLe.row ?_ | exact LeN.ro rfl | exact LeN.rptr | assumption) | ((with_reducible first | refine WkX.chk ?_ | refine Wk.chk ?_ | refine LeL.chk ?_ | refine LeF.chk ?_ | refine Run.mk ?_); (conv => whnf)) | ((with_reducible show LeO _ _); first | refine LeO.ro ?_ | refine LeO.roCap ?_ | refine LeO.nil ?_ (fun _ => rfl)) | ((with_reducible show LeR _ _ _); first | refine LeR.own rfl rfl rfl ?_ | refine LeR.view rfl rfl rfl ?_ ?_ | refine LeR.ro ?_ | refine LeR.roCap ?_ | refine LeR.nil ?_ (fun _ => rfl)) | ((with_reducible first | show drawOK _ _ = true | show lateOK _ _ = true | show drawOK2 _ _ = true | show drawOK3 _ _ = true); kernel_rfl))
    all_goals first
      | rfl
      | (refine ⟨_, _, rfl, ?_⟩; exact hmidE.symm)
      | (exfalso; simp_all; omega)
      | trace_state
theorem conW_symN_M : ∀ N : Nat, ConW prog 120 C_spn 71 symAM symFM (fun i l => symPM i l ∧ i.2.2 - i.1 ≤ (N : Int))
  | 0 => conW_cases conW_sym1_M conW_sym1_M fun i l h => by
    obtain ⟨a, m, b⟩ := i
    obtain ⟨⟨⟨⟨h1, h2, h3, h4⟩, h5⟩, _⟩, h6⟩ := h
    have h6 : b - a ≤ ((0 : Nat) : Int) := h6
    exfalso; omega
  | N + 1 => by
    refine conW_cases conW_sym1_M (conW_cases conW_sym2_M (conW_sym3_M (conW_symN_M N)) fun i l h => h) (q := fun i l => (symPM i l ∧ ¬ i.2.1 = i.1 + 1 ∧ i.2.2 = i.2.1 + 1) ∨ (symPM i l ∧ (¬ i.2.1 = i.1 + 1 ∧ ¬ i.2.2 = i.2.1 + 1) ∧ i.2.2 - i.1 ≤ ((N + 1 : Nat) : Int))) fun i l h => ?_
    by_cases c1 : i.2.1 = i.1 + 1
    · exact .inl ⟨h.1, c1⟩
    · by_cases c2 : i.2.2 = i.2.1 + 1
      · exact .inr (.inl ⟨h.1, c1, c2⟩)
      · exact .inr (.inr ⟨h.1, ⟨c1, c2⟩, h.2⟩)
theorem conW_sym_M : ConW prog 120 C_spn 71 symAM symFM symPM := conW_cases (conW_symN_M 1100000) conW_sym1_M fun i l h => .inl ⟨h, by
  obtain ⟨a, m, b⟩ := i
  obtain ⟨⟨⟨h1, h2, h3, h4⟩, h5⟩, _⟩ := h
  show b - a ≤ _
  omega⟩
end Go.SX.Try
/- Contract of the library's stable sort, of spans. (the order of a normal form) -/
namespace Go.SX.Try
open Go.Proofs Go.Proofs.Try Go.SX.Plain
set_option maxRecDepth 100000
set_option maxHeartbeats 0
set_option linter.unusedSimpArgs false
theorem conW_stable_M : ConW prog 109 C_spn 71 (fun n : Int => [.v (.int .i64 n), .fn 116 []]) (fun _ l => isort ltM l)
    (fun n l => n = l.length ∧ l.length ≤ 1100000) := by
  refine ConW.of (by kernel_rfl) T_ok CdsOK.nil (.conw conW_insertion_M (.conw conW_sym_M .nil)) 3 [] q_stableS.1 q_stableS.2.1 q_stableS.2.2 (fun _ => rfl) (fun _ => .cons (.v _) (.cons (.fn _) .nil)) fun n l hi => ?_
  obtain ⟨rfl, hl⟩ := hi
  repeat' (first | (with_reducible first | exact fun h => h | refine ExE.row (by with_unfolding_all rfl) ?_ | refine And.intro ?_ ?_) | ((with_reducible intro hq); first | exact bne1 hq (by with_reducible assumption) | exact bne1 (by with_reducible assumption) hq | ((simp only [*, BB, cond_true, cond_false, reduceCtorEq] at hq); done) | (revert hq; with_reducible intro _)) | (with_reducible first | exact True.intro | rfl | refine EntLe.row ?_ | exact LeN.ro rfl | exact LeN.rptr | assumption) | ((with_reducible first | refine WkX.chk ?_ | refine Wk.chk ?_ | refine LeL.chk ?_ | refine LeF.chk ?_ | refine Run.mk ?_); (conv => whnf)) | ((with_reducible show LeO _ _); first | refine LeO.ro ?_ | refine LeO.roCap ?_ | refine LeO.nil ?_ (fun _ => rfl)) | ((with_reducible show LeR _ _ _); first | refine LeR.own rfl rfl rfl ?_ | refine LeR.view rfl rfl rfl ?_ ?_ | refine LeR.ro ?_ | refine LeR.roCap ?_ | refine LeR.nil ?_ (fun _ => rfl)) | ((with_reducible first | show drawOK _ _ = true | show lateOK _ _ = true | show drawOK2 _ _ = true | show drawOK3 _ _ = true); kernel_rfl))
  refine loopI Nat [] (fun k => [(7, .v (.int .i64 ((k * 20 : Nat) : Int))), (8, .v (.int .i64 (((k * 20 : Nat) : Int) + 20)))]) (fun k => [(0, .row C_spn (ph1 ltM l (k * 20)) 71 none)]) (fun k => k * 20 ≤ l.length) (fun k => l.length - k) 0 (by omega) (Wk.chk ?_) fun k hk => ?_
  · ((conv => whnf); repeat' (first | (with_reducible first | exact fun h => h | refine ExE.row (by with_unfolding_all rfl) ?_ | refine And.intro ?_ ?_) | ((with_reducible intro hq); first | exact bne1 hq (by with_reducible assumption) | exact bne1 (by with_reducible assumption) hq | ((simp only [*, BB, cond_true, cond_false, reduceCtorEq] at hq); done) | (revert hq; with_reducible intro _)) | (with_reducible first | exact True.intro | rfl | refine EntLe.row ?_ | exact LeN.ro rfl | exact LeN.rptr | assumption) | ((with_reducible first | refine WkX.chk ?_ | refine Wk.chk ?_ | refine LeL.chk ?_ | refine LeF.chk ?_ | refine Run.mk ?_); (conv => whnf)) | ((with_reducible show LeO _ _); first | refine LeO.ro ?_ | refine LeO.roCap ?_ | refine LeO.nil ?_ (fun _ => rfl)) | ((with_reducible show LeR _ _ _); first | refine LeR.own rfl rfl rfl ?_ | refine LeR.view rfl rfl rfl ?_ ?_ | refine LeR.ro ?_ | refine LeR.roCap ?_ | refine LeR.nil ?_ (fun _ => rfl)) | ((with_reducible first | show drawOK _ _ = true | show lateOK _ _ = true | show drawOK2 _ _ = true | show drawOK3 _ _ = true); kernel_rfl)))
    all_goals first
      | rfl
      | (show l = ph1 ltM l (0 * 20); rw [Nat.zero_mul]; unfold ph1; rw [List.take_zero, bsort_nil]; rfl)
      | trace_state
  have hk : k * 20 ≤ l.length := hk
  have hpl := ph1_len (lt := ltM) l (k * 20)
  by_cases hkn : k * 20 + 20 ≤ l.length
  · have hle : decide (((k * 20 : Nat) : Int) + 20 ≤ (l.length : Int)) = true := decide_eq_true (by omega)
    have hst := ph1_step (lt := ltM) l (a := k * 20) (k := k) rfl hkn
    have e1 : (((k * 20 : Nat) : Int) + 20).toNat = k * 20 + 20 := by omega
    have e2 : (((k * 20 : Nat) : Int)).toNat = k * 20 := by omega
    have e3 : ((k + 1) * 20 : Nat) = k * 20 + 20 := by omega
    repeat' (first | (with_reducible refine ⟨(_, _), _, _, ⟨(by with_unfolding_all exact rfl), (.cons (.v _) (.cons (.v _) (.cons (.fn _) .nil))), ?_, fun _ => (by with_unfolding_all exact rfl)⟩, ?_⟩) | (with_reducible refine ex_of (α := Nat) (k + 1) ⟨?_, ?_⟩ ?_) | (with_reducible first | exact fun h => h | refine ExE.row (by with_unfolding_all rfl) ?_ | refine And.intro ?_ ?_) | ((with_reducible intro hq); first | exact bne1 hq (by with_reducible assumption) | exact bne1 (by with_reducible assumption) hq | ((simp only [*, BB, cond_true, cond_false, reduceCtorEq] at hq); done) | (revert hq; with_reducible intro _)) | (with_reducible first | exact True.intro | rfl | refine EntLe.row ?_ | exact LeN.ro rfl | exact LeN.rptr | assumption) | ((with_reducible first | refine WkX.chk ?_ | refine Wk.chk ?_ | refine LeL.chk ?_ | refine LeF.chk ?_ | refine Run.mk ?_); (conv => whnf)) | ((with_reducible show LeO _ _); first | refine LeO.ro ?_ | refine LeO.roCap ?_ | refine LeO.nil ?_ (fun _ => rfl)) | ((with_reducible show LeR _ _ _); first | refine LeR.own rfl rfl rfl ?_ | refine LeR.view rfl rfl rfl ?_ ?_ | refine LeR.ro ?_ | refine LeR.roCap ?_ | refine LeR.nil ?_ (fun _ => rfl)) | ((with_reducible first | show drawOK _ _ = true | show lateOK _ _ = true | show drawOK2 _ _ = true | show drawOK3 _ _ = true); kernel_rfl))
    all_goals (try simp only [ncast, e1, e2, e3, hst, hpl])
    all_goals first
      | omega
      | rfl
      | (apply Fits.i64 <;> omega)
      | (exact congrArg (fun z => AV.v (Value.int IntKind.i64 z)) (by omega))
      | trace_state
  have hle : decide (((k * 20 : Nat) : Int) + 20 ≤ (l.length : Int)) = false := decide_eq_false (by omega)
  have hst := ph1_end (lt := ltM) l (a := k * 20) (k := k) rfl hk (by omega)
  have e2 : (((k * 20 : Nat) : Int)).toNat = k * 20 := by omega
  have e4 : ((l.length : Nat) : Int).toNat = l.length := Int.toNat_natCast _
  repeat' (first | (with_reducible refine ⟨(_, _), _, _, ⟨(by with_unfolding_all exact rfl), (.cons (.v _) (.cons (.v _) (.cons (.fn _) .nil))), ?_, fun _ => (by with_unfolding_all exact rfl)⟩, ?_⟩) | (with_reducible first | exact fun h => h | refine ExE.row (by with_unfolding_all rfl) ?_ | refine And.intro ?_ ?_) | ((with_reducible intro hq); first | exact bne1 hq (by with_reducible assumption) | exact bne1 (by with_reducible assumption) hq | ((simp only [*, BB, cond_true, cond_false, reduceCtorEq] at hq); done) | (revert hq; with_reducible intro _)) | (with_reducible first | exact True.intro | rfl | refine EntLe.row ?_ | exact LeN.ro rfl | exact LeN.rptr | assumption) | ((with_reducible first | refine WkX.chk ?_ | refine Wk.chk ?_ | refine LeL.chk ?_ | refine LeF.chk ?_ | refine Run.mk ?_); (conv => whnf)) | ((with_reducible show LeO _ _); first | refine LeO.ro ?_ | refine LeO.roCap ?_ | refine LeO.nil ?_ (fun _ => rfl)) | ((with_reducible show LeR _ _ _); first | refine LeR.own rfl rfl rfl ?_ | refine LeR.view rfl rfl rfl ?_ ?_ | refine LeR.ro ?_ | refine LeR.roCap ?_ | refine LeR.nil ?_ (fun _ => rfl)) | ((with_reducible first | show drawOK _ _ = true | show lateOK _ _ = true | show drawOK2 _ _ = true | show drawOK3 _ _ = true); kernel_rfl))
  any_goals (try simp only [ncast, hpl])
  any_goals omega
  refine loopI Nat [] (fun bs => [(6, .v (.int .i64 (bs : Nat)))]) (fun bs => [(0, .row C_spn (bsort ltM bs l) 71 none)]) (fun bs => 20 ≤ bs ∧ bs ≤ 2200020) (fun bs => l.length - bs) 20 (by omega) (Wk.chk ?_) fun bs hbs => ?_
  · ((conv => whnf); repeat' (first | (with_reducible first | exact fun h => h | refine ExE.row (by with_unfolding_all rfl) ?_ | refine And.intro ?_ ?_) | ((with_reducible intro hq); first | exact bne1 hq (by with_reducible assumption) | exact bne1 (by with_reducible assumption) hq | ((simp only [*, BB, cond_true, cond_false, reduceCtorEq] at hq); done) | (revert hq; with_reducible intro _)) | (with_reducible first | exact True.intro | rfl | refine EntLe.row ?_ | exact LeN.ro rfl | exact LeN.rptr | assumption) | ((with_reducible first | refine WkX.chk ?_ | refine Wk.chk ?_ | refine LeL.chk ?_ | refine LeF.chk ?_ | refine Run.mk ?_); (conv => whnf)) | ((with_reducible show LeO _ _); first | refine LeO.ro ?_ | refine LeO.roCap ?_ | refine LeO.nil ?_ (fun _ => rfl)) | ((with_reducible show LeR _ _ _); first | refine LeR.own rfl rfl rfl ?_ | refine LeR.view rfl rfl rfl ?_ ?_ | refine LeR.ro ?_ | refine LeR.roCap ?_ | refine LeR.nil ?_ (fun _ => rfl)) | ((with_reducible first | show drawOK _ _ = true | show lateOK _ _ = true | show drawOK2 _ _ = true | show drawOK3 _ _ = true); kernel_rfl)))
    all_goals first
      | rfl
      | (simp only [ncast, e2, e4, hst]; done)
      | trace_state
  obtain ⟨hb1, hb2⟩ := hbs
  by_cases hbn : bs < l.length
  · have hlt : decide ((bs : Int) < (l.length : Int)) = true := decide_eq_true (by omega)
    repeat' (first | (with_reducible first | exact fun h => h | refine ExE.row (by with_unfolding_all rfl) ?_ | refine And.intro ?_ ?_) | ((with_reducible intro hq); first | exact bne1 hq (by with_reducible assumption) | exact bne1 (by with_reducible assumption) hq | ((simp only [*, BB, cond_true, cond_false, reduceCtorEq] at hq); done) | (revert hq; with_reducible intro _)) | (with_reducible first | exact True.intro | rfl | refine EntLe.row ?_ | exact LeN.ro rfl | exact LeN.rptr | assumption) | ((with_reducible first | refine WkX.chk ?_ | refine Wk.chk ?_ | refine LeL.chk ?_ | refine LeF.chk ?_ | refine Run.mk ?_); (conv => whnf)) | ((with_reducible show LeO _ _); first | refine LeO.ro ?_ | refine LeO.roCap ?_ | refine LeO.nil ?_ (fun _ => rfl)) | ((with_reducible show LeR _ _ _); first | refine LeR.own rfl rfl rfl ?_ | refine LeR.view rfl rfl rfl ?_ ?_ | refine LeR.ro ?_ | refine LeR.roCap ?_ | refine LeR.nil ?_ (fun _ => rfl)) | ((with_reducible first | show drawOK _ _ = true | show lateOK _ _ = true | show drawOK2 _ _ = true | show drawOK3 _ _ = true); kernel_rfl))
    all_goals (try (apply Fits.i64 <;> omega))
    refine loopI (Nat × Nat) [] (fun | (_, a) => [(7, .v (.int .i64 (a : Nat))), (8, .v (.int .i64 ((a : Int) + 2 * (bs : Int))))]) (fun | (_, a) => [(0, .row C_spn (ph2 ltM l bs a) 71 none)]) (fun | (k, a) => a = k * (2 * bs) ∧ a ≤ l.length) (fun | (_, a) => l.length - a) (0, 0) ⟨by omega, by omega⟩ (Wk.chk ?_) fun x hx => ?_
    · ((conv => whnf); repeat' (first | (with_reducible first | exact fun h => h | refine ExE.row (by with_unfolding_all rfl) ?_ | refine And.intro ?_ ?_) | ((with_reducible intro hq); first | exact bne1 hq (by with_reducible assumption) | exact bne1 (by with_reducible assumption) hq | ((simp only [*, BB, cond_true, cond_false, reduceCtorEq] at hq); done) | (revert hq; with_reducible intro _)) | (with_reducible first | exact True.intro | rfl | refine EntLe.row ?_ | exact LeN.ro rfl | exact LeN.rptr | assumption) | ((with_reducible first | refine WkX.chk ?_ | refine Wk.chk ?_ | refine LeL.chk ?_ | refine LeF.chk ?_ | refine Run.mk ?_); (conv => whnf)) | ((with_reducible show LeO _ _); first | refine LeO.ro ?_ | refine LeO.roCap ?_ | refine LeO.nil ?_ (fun _ => rfl)) | ((with_reducible show LeR _ _ _); first | refine LeR.own rfl rfl rfl ?_ | refine LeR.view rfl rfl rfl ?_ ?_ | refine LeR.ro ?_ | refine LeR.roCap ?_ | refine LeR.nil ?_ (fun _ => rfl)) | ((with_reducible first | show drawOK _ _ = true | show lateOK _ _ = true | show drawOK2 _ _ = true | show drawOK3 _ _ = true); kernel_rfl)))
      all_goals first
        | rfl
        | (rw [ph2_start]; done)
        | (simp; done)
        | trace_state
    obtain ⟨k, a⟩ := x
    obtain ⟨ha, hk⟩ : a = k * (2 * bs) ∧ a ≤ l.length := hx
    have ha1 : a + 2 * bs = (k + 1) * (2 * bs) := by rw [Nat.add_mul, ← ha]; omega
    have hpl := ph2_len (lt := ltM) l (bs := bs) (by omega) a
    have e1 : ((a : Nat) : Int).toNat = a := Int.toNat_natCast _
    have e2 : (((a : Nat) : Int) + (bs : Int)).toNat = a + bs := by omega
    have e3 : (((a : Nat) : Int) + 2 * (bs : Int)).toNat = a + 2 * bs := by omega
    by_cases hkn : a + 2 * bs ≤ l.length
    · have hle : decide (((a : Nat) : Int) + 2 * (bs : Int) ≤ (l.length : Int)) = true := decide_eq_true (by omega)
      have hst := ph2_step ordM l (bs := bs) (a := a) (k := k) (by omega) ha hkn
      obtain ⟨_, s1, s2, _⟩ := ph2_parts ordM l (bs := bs) (a := a) (b := a + 2 * bs) (by omega) (by omega) hkn (by omega) (.inr rfl) hk
      repeat' (first | (with_reducible refine ⟨(_, _, _), _, _, ⟨(by with_unfolding_all exact rfl), (.cons (.v _) (.cons (.v _) (.cons (.v _) (.cons (.fn _) .nil)))), ?_, fun _ => (by with_unfolding_all exact rfl)⟩, ?_⟩) | (with_reducible refine ex_of (α := Nat × Nat) (k + 1, a + 2 * bs) ⟨⟨ha1, ?_⟩, ?_⟩ ?_) | (with_reducible first | exact fun h => h | refine ExE.row (by with_unfolding_all rfl) ?_ | refine And.intro ?_ ?_) | ((with_reducible intro hq); first | exact bne1 hq (by with_reducible assumption) | exact bne1 (by with_reducible assumption) hq | ((simp only [*, BB, cond_true, cond_false, reduceCtorEq] at hq); done) | (revert hq; with_reducible intro _)) | (with_reducible first | exact True.intro | rfl | refine EntLe.row ?_ | exact LeN.ro rfl | exact LeN.rptr | assumption) | ((with_reducible first | refine WkX.chk ?_ | refine Wk.chk ?_ | refine LeL.chk ?_ | refine LeF.chk ?_ | refine Run.mk ?_); (conv => whnf)) | ((with_reducible show LeO _ _); first | refine LeO.ro ?_ | refine LeO.roCap ?_ | refine LeO.nil ?_ (fun _ => rfl)) | ((with_reducible show LeR _ _ _); first | refine LeR.own rfl rfl rfl ?_ | refine LeR.view rfl rfl rfl ?_ ?_ | refine LeR.ro ?_ | refine LeR.roCap ?_ | refine LeR.nil ?_ (fun _ => rfl)) | ((with_reducible first | show drawOK _ _ = true | show lateOK _ _ = true | show drawOK2 _ _ = true | show drawOK3 _ _ = true); kernel_rfl))
      all_goals (try simp only [ncast, e1, e2, e3, hst, hpl])
      all_goals first
        | omega
        | rfl
        | assumption
        | (apply Fits.i64 <;> omega)
        | (show l.length - (a + 2 * bs) < l.length - a; omega)
        | (exact congrArg (fun z => AV.v (Value.int IntKind.i64 z)) (by omega))
        | trace_state
    have hle : decide (((a : Nat) : Int) + 2 * (bs : Int) ≤ (l.length : Int)) = false := decide_eq_false (by omega)
    by_cases hm : a + bs < l.length
    · have hlt2 : decide (((a : Nat) : Int) + (bs : Int) < (l.length : Int)) = true := decide_eq_true (by omega)
      have hst := ph2_last ordM l (bs := bs) (a := a) (k := k) (by omega) ha hm (by omega)
      obtain ⟨_, s1, s2, _⟩ := ph2_parts ordM l (bs := bs) (a := a) (b := l.length) (by omega) (by omega) (Nat.le_refl _) (by omega) (.inl rfl) hk
      repeat' (first | (with_reducible refine ⟨(_, _, _), _, _, ⟨(by with_unfolding_all exact rfl), (.cons (.v _) (.cons (.v _) (.cons (.v _) (.cons (.fn _) .nil)))), ?_, fun _ => (by with_unfolding_all exact rfl)⟩, ?_⟩) | (with_reducible refine ex_of (α := Nat) (2 * bs) ⟨⟨?_, ?_⟩, ?_⟩ ?_) | (with_reducible first | exact fun h => h | refine ExE.row (by with_unfolding_all rfl) ?_ | refine And.intro ?_ ?_) | ((with_reducible intro hq); first | exact bne1 hq (by with_reducible assumption) | exact bne1 (by with_reducible assumption) hq | ((simp only [*, BB, cond_true, cond_false, reduceCtorEq] at hq); done) | (revert hq; with_reducible intro _)) | (with_reducible first | exact True.intro | rfl | refine EntLe.row ?_ | exact LeN.ro rfl | exact LeN.rptr | assumption) | ((with_reducible first | refine WkX.chk ?_ | refine Wk.chk ?_ | refine LeL.chk ?_ | refine LeF.chk ?_ | refine Run.mk ?_); (conv => whnf)) | ((with_reducible show LeO _ _); first | refine LeO.ro ?_ | refine LeO.roCap ?_ | refine LeO.nil ?_ (fun _ => rfl)) | ((with_reducible show LeR _ _ _); first | refine LeR.own rfl rfl rfl ?_ | refine LeR.view rfl rfl rfl ?_ ?_ | refine LeR.ro ?_ | refine LeR.roCap ?_ | refine LeR.nil ?_ (fun _ => rfl)) | ((with_reducible first | show drawOK _ _ = true | show lateOK _ _ = true | show drawOK2 _ _ = true | show drawOK3 _ _ = true); kernel_rfl))
      all_goals (try simp only [ncast, e1, e2, e3, e4, hst, hpl])
      all_goals first
        | omega
        | rfl
        | assumption
        | (apply Fits.i64 <;> omega)
        | (exact congrArg (fun z => AV.v (Value.int IntKind.i64 z)) (by omega))
        | trace_state
    · have hlt2 : decide (((a : Nat) : Int) + (bs : Int) < (l.length : Int)) = false := decide_eq_false (by omega)
      have hst := ph2_end (lt := ltM) l (bs := bs) (a := a) (k := k) (by omega) ha hk (by omega)
      repeat' (first | (with_reducible refine ⟨(_, _, _), _, _, ⟨(by with_unfolding_all exact rfl), (.cons (.v _) (.cons (.v _) (.cons (.v _) (.cons (.fn _) .nil)))), ?_, fun _ => (by with_unfolding_all exact rfl)⟩, ?_⟩) | (with_reducible refine ex_of (α := Nat) (2 * bs) ⟨⟨?_, ?_⟩, ?_⟩ ?_) | (with_reducible first | exact fun h => h | refine ExE.row (by with_unfolding_all rfl) ?_ | refine And.intro ?_ ?_) | ((with_reducible intro hq); first | exact bne1 hq (by with_reducible assumption) | exact bne1 (by with_reducible assumption) hq | ((simp only [*, BB, cond_true, cond_false, reduceCtorEq] at hq); done) | (revert hq; with_reducible intro _)) | (with_reducible first | exact True.intro | rfl | refine EntLe.row ?_ | exact LeN.ro rfl | exact LeN.rptr | assumption) | ((with_reducible first | refine WkX.chk ?_ | refine Wk.chk ?_ | refine LeL.chk ?_ | refine LeF.chk ?_ | refine Run.mk ?_); (conv => whnf)) | ((with_reducible show LeO _ _); first | refine LeO.ro ?_ | refine LeO.roCap ?_ | refine LeO.nil ?_ (fun _ => rfl)) | ((with_reducible show LeR _ _ _); first | refine LeR.own rfl rfl rfl ?_ | refine LeR.view rfl rfl rfl ?_ ?_ | refine LeR.ro ?_ | refine LeR.roCap ?_ | refine LeR.nil ?_ (fun _ => rfl)) | ((with_reducible first | show drawOK _ _ = true | show lateOK _ _ = true | show drawOK2 _ _ = true | show drawOK3 _ _ = true); kernel_rfl))
      all_goals (try simp only [ncast, e1, e2, e3, e4, hst, hpl])
      all_goals first
        | omega
        | rfl
        | assumption
        | (apply Fits.i64 <;> omega)
        | (exact congrArg (fun z => AV.v (Value.int IntKind.i64 z)) (by omega))
        | trace_state
  have hlt : decide ((bs : Int) < (l.length : Int)) = false := decide_eq_false (by omega)
  have hend := bsort_small (lt := ltM) (bs := bs) (l := l) (by omega)
  repeat' (first | (with_reducible first | exact fun h => h | refine ExE.row (by with_unfolding_all rfl) ?_ | refine And.intro ?_ ?_) | ((with_reducible intro hq); first | exact bne1 hq (by with_reducible assumption) | exact bne1 (by with_reducible assumption) hq | ((simp only [*, BB, cond_true, cond_false, reduceCtorEq] at hq); done) | (revert hq; with_reducible intro _)) | (with_reducible first | exact True.intro | rfl | refine EntLe.row ?_ | exact LeN.ro rfl | exact LeN.rptr | assumption) | ((with_reducible first | refine WkX.chk ?_ | refine Wk.chk ?_ | refine LeL.chk ?_ | refine LeF.chk ?_ | refine Run.mk ?_); (conv => whnf)) | ((with_reducible show LeO _ _); first | refine LeO.ro ?_ | refine LeO.roCap ?_ | refine LeO.nil ?_ (fun _ => rfl)) | ((with_reducible show LeR _ _ _); first | refine LeR.own rfl rfl rfl ?_ | refine LeR.view rfl rfl rfl ?_ ?_ | refine LeR.ro ?_ | refine LeR.roCap ?_ | refine LeR.nil ?_ (fun _ => rfl)) | ((with_reducible first | show drawOK _ _ = true | show lateOK _ _ = true | show drawOK2 _ _ = true | show drawOK3 _ _ = true); kernel_rfl))
  all_goals first
    | rfl
    | (refine ⟨_, _, rfl, ?_⟩; exact hend)
    | trace_state
theorem conW_sortStable_M : ConW prog 92 C_spn 71 (fun _ : Unit => [.fn 116 []]) (fun _ l => isort ltM l) (fun _ l => l.length ≤ 1100000) := by
  refine ConW.of (by kernel_rfl) T_ok CdsOK.nil (.conw conW_stable_M .nil) 3 [] q_sortStableS.1 q_sortStableS.2.1 q_sortStableS.2.2 (fun _ => rfl) (fun _ => .cons (.fn _) .nil) fun n l hi => ?_
  have hl : l.length ≤ 1100000 := hi
  repeat' (first | (with_reducible refine ⟨_, _, _, ⟨(by with_unfolding_all exact rfl), (.cons (.v _) (.cons (.fn _) .nil)), ?_, fun _ => (by with_unfolding_all exact rfl)⟩, ?_⟩) | (with_reducible first | exact fun h => h | refine ExE.row (by with_unfolding_all rfl) ?_ | refine And.intro ?_ ?_) | ((with_reducible intro hq); first | exact bne1 hq (by with_reducible assumption) | exact bne1 (by with_reducible assumption) hq | ((simp only [*, BB, cond_true, cond_false, reduceCtorEq] at hq); done) | (revert hq; with_reducible intro _)) | (with_reducible first | exact True.intro | rfl | refine EntLe.row ?_ | exact LeN.ro rfl | exact LeN.rptr | assumption) | ((with_reducible first | refine WkX.chk ?_ | refine Wk.chk ?_ | refine LeL.chk ?_ | refine LeF.chk ?_ | refine Run.mk ?_); (conv => whnf)) | ((with_reducible show LeO _ _); first | refine LeO.ro ?_ | refine LeO.roCap ?_ | refine LeO.nil ?_ (fun _ => rfl)) | ((with_reducible show LeR _ _ _); first | refine LeR.own rfl rfl rfl ?_ | refine LeR.view rfl rfl rfl ?_ ?_ | refine LeR.ro ?_ | refine LeR.roCap ?_ | refine LeR.nil ?_ (fun _ => rfl)) | ((with_reducible first | show drawOK _ _ = true | show lateOK _ _ = true | show drawOK2 _ _ = true | show drawOK3 _ _ = true); kernel_rfl))
  all_goals first
    | rfl
    | assumption
    | (apply Fits.i64 <;> omega)
    | exact ⟨_, _, rfl, rfl⟩
    | trace_state
end Go.SX.Try
/- Contract of style.made. -/
namespace Go.SX.Try
open Go.Proofs Go.Proofs.Try Go.SX.Plain
set_option maxRecDepth 100000
set_option maxHeartbeats 0
set_option linter.unusedSimpArgs false
theorem q_smade : fact 107 f107 := ⟨by kernel_rfl, rfl, by kernel_rfl⟩
def C_bool : Cdc Bool where
  size := 1
  enc b := [.sb b]
  dec l := match l with
    | [a] => bOf a
    | _ => false
  d := false
def D_mk : Cds := [(71, ⟨Spn, C_spn⟩), (4, ⟨Bool, C_bool⟩)]
theorem D_mk_ok : CdsOK T D_mk := .cons ⟨fun _ => rfl, by decide, _, rfl, rfl, by decide⟩ (.cons ⟨fun _ => rfl, by decide, _, rfl, rfl, by decide⟩ .nil)
theorem con_smade : Con prog 107 (fun l : List Atr => [lkR l]) (fun l => spO (normS l)) (fun l => ColOK l ∧ l.length ≤ 10000) := by
  refine Con.of (by kernel_rfl) T_ok D_mk_ok (.con con_svalue (.conw conW_sortStable_M .nil)) 5 [] q_smade.1 q_smade.2.1 q_smade.2.2 (fun _ => rfl) fun l hi => ?_
  obtain ⟨hcol, hl⟩ : ColOK l ∧ l.length ≤ 10000 := hi
  have hd : C_att.d = zA := rfl
  have hdb : C_bool.d = false := rfl
  repeat' (first | (with_reducible first | exact fun h => h | refine ExE.row (by with_unfolding_all rfl) ?_ | refine And.intro ?_ ?_) | ((with_reducible intro hq); first | exact bne1 hq (by with_reducible assumption) | exact bne1 (by with_reducible assumption) hq | ((simp only [*, BB, cond_true, cond_false, reduceCtorEq] at hq); done) | (revert hq; with_reducible intro _)) | (with_reducible first | exact True.intro | rfl | refine EntLe.row ?_ | exact LeN.ro rfl | exact LeN.rptr | assumption) | ((with_reducible first | refine WkX.chk ?_ | refine Wk.chk ?_ | refine LeL.chk ?_ | refine LeF.chk ?_ | refine Run.mk ?_); (conv => whnf)) | ((with_reducible show LeO _ _); first | refine LeO.ro ?_ | refine LeO.roCap ?_ | refine LeO.nil ?_ (fun _ => rfl)) | ((with_reducible show LeR _ _ _); first | refine LeR.own rfl rfl rfl ?_ | refine LeR.view rfl rfl rfl ?_ ?_ | refine LeR.ro ?_ | refine LeR.roCap ?_ | refine LeR.nil ?_ (fun _ => rfl)) | ((with_reducible first | show drawOK _ _ = true | show lateOK _ _ = true | show drawOK2 _ _ = true | show drawOK3 _ _ = true); kernel_rfl))
  all_goals (try (first | omega | (apply Fits.i64 <;> omega) | (dsimp only; omega) | rfl))
  refine loopI Nat [] (fun q => [(5, .v (.int .i64 ((q + 1 : Nat) : Int))), (4, .own 2)]) (fun q => [(1, .row C_bool (kindsTo l q).1 4 none), (2, .row C_spn (kindsTo l q).2 71 none)]) (fun q => q ≤ 5) (fun q => 5 - q) 0 (Nat.zero_le _) (Wk.chk ?_) fun q hq => ?_
  · ((conv => whnf); repeat' (first | (with_reducible first | exact fun h => h | refine ExE.row (by with_unfolding_all rfl) ?_ | refine And.intro ?_ ?_) | ((with_reducible intro hq); first | exact bne1 hq (by with_reducible assumption) | exact bne1 (by with_reducible assumption) hq | ((simp only [*, BB, cond_true, cond_false, reduceCtorEq] at hq); done) | (revert hq; with_reducible intro _)) | (with_reducible first | exact True.intro | rfl | refine EntLe.row ?_ | exact LeN.ro rfl | exact LeN.rptr | assumption) | ((with_reducible first | refine WkX.chk ?_ | refine Wk.chk ?_ | refine LeL.chk ?_ | refine LeF.chk ?_ | refine Run.mk ?_); (conv => whnf)) | ((with_reducible show LeO _ _); first | refine LeO.ro ?_ | refine LeO.roCap ?_ | refine LeO.nil ?_ (fun _ => rfl)) | ((with_reducible show LeR _ _ _); first | refine LeR.own rfl rfl rfl ?_ | refine LeR.view rfl rfl rfl ?_ ?_ | refine LeR.ro ?_ | refine LeR.roCap ?_ | refine LeR.nil ?_ (fun _ => rfl)) | ((with_reducible first | show drawOK _ _ = true | show lateOK _ _ = true | show drawOK2 _ _ = true | show drawOK3 _ _ = true); kernel_rfl)))
    all_goals first
      | rfl
      | exact EntLe.rowNone (show List.replicate ((l.length : Int) + 1).toNat false = (kindsTo l 0).1 by rw [show ((l.length : Int) + 1).toNat = l.length + 1 by omega]; rfl)
      | trace_state
  have hq : q ≤ 5 := hq
  have hkl := kinds_len l q
  have hq5 : q * l.length ≤ 5 * l.length := Nat.mul_le_mul_right _ hq
  by_cases hq4 : q < 5
  case neg =>
    obtain rfl : q = 5 := by omega
    have hlt : decide (((5 + 1 : Nat) : Int) ≤ 5) = false := rfl
    have hfin : isort ltM (kindsTo l 5).2 = normS l := rfl
    repeat' (first | (with_reducible refine ⟨(), _, _, ⟨(by with_unfolding_all exact rfl), (.cons (.fn _) .nil), ?_, fun _ => (by with_unfolding_all exact rfl)⟩, ?_⟩) | (with_reducible first | exact fun h => h | refine ExE.row (by with_unfolding_all rfl) ?_ | refine And.intro ?_ ?_) | ((with_reducible intro hq); first | exact bne1 hq (by with_reducible assumption) | exact bne1 (by with_reducible assumption) hq | ((simp only [*, BB, cond_true, cond_false, reduceCtorEq] at hq); done) | (revert hq; with_reducible intro _)) | (with_reducible first | exact True.intro | rfl | refine EntLe.row ?_ | exact LeN.ro rfl | exact LeN.rptr | assumption) | ((with_reducible first | refine WkX.chk ?_ | refine Wk.chk ?_ | refine LeL.chk ?_ | refine LeF.chk ?_ | refine Run.mk ?_); (conv => whnf)) | ((with_reducible show LeO _ _); first | refine LeO.ro ?_ | refine LeO.roCap ?_ | refine LeO.nil ?_ (fun _ => rfl)) | ((with_reducible show LeR _ _ _); first | refine LeR.own rfl rfl rfl ?_ | refine LeR.view rfl rfl rfl ?_ ?_ | refine LeR.ro ?_ | refine LeR.roCap ?_ | refine LeR.nil ?_ (fun _ => rfl)) | ((with_reducible first | show drawOK _ _ = true | show lateOK _ _ = true | show drawOK2 _ _ = true | show drawOK3 _ _ = true); kernel_rfl))
    all_goals first
      | omega
      | (dsimp only; omega)
      | exact hfin
      | rfl
      | trace_state
  have hlt : decide (((q + 1 : Nat) : Int) ≤ 5) = true := decide_eq_true (by omega)
  have hcl := kinds_cut l q
  have hcutE : ∃ cut, cut = (kindsTo l q).1 := ⟨_, rfl⟩
  obtain ⟨cut, hcut⟩ := hcutE
  have hPE : ∃ P, P = (kindsTo l q).2 := ⟨_, rfl⟩
  obtain ⟨P, hP⟩ := hPE
  have hKE : ∃ k : Int, k = ((q + 1 : Nat) : Int) := ⟨_, rfl⟩
  obtain ⟨k, hk⟩ := hKE
  have hk1 : 1 ≤ k ∧ k ≤ 5 := by omega
  have hkS : kindsTo l (q + 1) = (mkTo cut (strT l cut k 0) (strT l cut k 0).length, P ++ strT l cut k 0) := by rw [kindsTo, hcut, hP, hk]
  rw [← hcut] at hcl
  rw [← hP] at hkl
  simp only [← hcut, ← hP, ← hk] at hlt ⊢
  repeat' (first | (with_reducible first | exact fun h => h | refine ExE.row (by with_unfolding_all rfl) ?_ | refine And.intro ?_ ?_) | ((with_reducible intro hq); first | exact bne1 hq (by with_reducible assumption) | exact bne1 (by with_reducible assumption) hq | ((simp only [*, BB, cond_true, cond_false, reduceCtorEq] at hq); done) | (revert hq; with_reducible intro _)) | (with_reducible first | exact True.intro | rfl | refine EntLe.row ?_ | exact LeN.ro rfl | exact LeN.rptr | assumption) | ((with_reducible first | refine WkX.chk ?_ | refine Wk.chk ?_ | refine LeL.chk ?_ | refine LeF.chk ?_ | refine Run.mk ?_); (conv => whnf)) | ((with_reducible show LeO _ _); first | refine LeO.ro ?_ | refine LeO.roCap ?_ | refine LeO.nil ?_ (fun _ => rfl)) | ((with_reducible show LeR _ _ _); first | refine LeR.own rfl rfl rfl ?_ | refine LeR.view rfl rfl rfl ?_ ?_ | refine LeR.ro ?_ | refine LeR.roCap ?_ | refine LeR.nil ?_ (fun _ => rfl)) | ((with_reducible first | show drawOK _ _ = true | show lateOK _ _ = true | show drawOK2 _ _ = true | show drawOK3 _ _ = true); kernel_rfl))
  refine loopI (Nat × List Spn) [21] (fun | (i, _) => [(7, .v (.int .i64 (i : Nat))), (4, .own 2)]) (fun | (_, D) => [(2, .row C_spn (P ++ D) 71 none)]) (fun | (i, D) => i ≤ l.length ∧ D ++ strT l cut k i = strT l cut k 0) (fun | (i, _) => l.length - i) (0, []) ⟨Nat.zero_le _, rfl⟩ (Wk.chk ?_) fun x hx => ?_
  · ((conv => whnf); repeat' (first | (with_reducible first | exact fun h => h | refine ExE.row (by with_unfolding_all rfl) ?_ | refine And.intro ?_ ?_) | ((with_reducible intro hq); first | exact bne1 hq (by with_reducible assumption) | exact bne1 (by with_reducible assumption) hq | ((simp only [*, BB, cond_true, cond_false, reduceCtorEq] at hq); done) | (revert hq; with_reducible intro _)) | (with_reducible first | exact True.intro | rfl | refine EntLe.row ?_ | exact LeN.ro rfl | exact LeN.rptr | assumption) | ((with_reducible first | refine WkX.chk ?_ | refine Wk.chk ?_ | refine LeL.chk ?_ | refine LeF.chk ?_ | refine Run.mk ?_); (conv => whnf)) | ((with_reducible show LeO _ _); first | refine LeO.ro ?_ | refine LeO.roCap ?_ | refine LeO.nil ?_ (fun _ => rfl)) | ((with_reducible show LeR _ _ _); first | refine LeR.own rfl rfl rfl ?_ | refine LeR.view rfl rfl rfl ?_ ?_ | refine LeR.ro ?_ | refine LeR.roCap ?_ | refine LeR.nil ?_ (fun _ => rfl)) | ((with_reducible first | show drawOK _ _ = true | show lateOK _ _ = true | show drawOK2 _ _ = true | show drawOK3 _ _ = true); kernel_rfl)))
    all_goals first
      | rfl
      | exact (List.append_nil _).symm
      | (rw [List.append_nil]; done)
      | trace_state
  obtain ⟨i, D⟩ := x
  obtain ⟨hi, hD⟩ : i ≤ l.length ∧ D ++ strT l cut k i = strT l cut k 0 := hx
  have hDl : D.length ≤ l.length := by
    have h1 := congrArg List.length hD
    have h2 := strT_len (l := l) (cut := cut) (k := k) 0
    rw [List.length_append] at h1
    omega
  have hPD : (P ++ D).length = P.length + D.length := List.length_append
  have e1 : ((i : Nat) : Int).toNat = i := Int.toNat_natCast _
  by_cases hil : i < l.length
  · have hlt2 : decide ((i : Int) < (l.length : Int)) = true := decide_eq_true (by omega)
    have hgi : l.getD ((i : Nat) : Int).toNat C_att.d = l.getD i zA := by rw [e1, hd]
    have hvE : ∃ v, v = hasK (l.getD ((i : Nat) : Int).toNat C_att.d) k := ⟨_, rfl⟩
    obtain ⟨v, hv⟩ := hvE
    have hv2 : v = hasK (l.getD i zA) k := by rw [hv, hgi]
    have hvb := hasK_bd (k := k) (hcol.at hil)
    rw [← hv2] at hvb
    have hE := strE_bd (cut := cut) (k := k) hil
    repeat' (first | (with_reducible refine ⟨(_, k), ⟨(.cons (.agg (.cons (.sb _) (.cons (.sb _) (.cons (.sb _) (.cons (.sb _) (.cons (.v _) .nil)))))) (.cons (.v _) .nil)), ?_⟩, ?_⟩) | (with_reducible first | exact fun h => h | refine ExE.row (by with_unfolding_all rfl) ?_ | refine And.intro ?_ ?_) | ((with_reducible intro hq); first | exact bne1 hq (by with_reducible assumption) | exact bne1 (by with_reducible assumption) hq | ((simp only [*, BB, cond_true, cond_false, reduceCtorEq] at hq); done) | (revert hq; with_reducible intro _)) | (with_reducible first | exact True.intro | rfl | refine EntLe.row ?_ | exact LeN.ro rfl | exact LeN.rptr | assumption) | ((with_reducible first | refine WkX.chk ?_ | refine Wk.chk ?_ | refine LeL.chk ?_ | refine LeF.chk ?_ | refine Run.mk ?_); (conv => whnf)) | ((with_reducible show LeO _ _); first | refine LeO.ro ?_ | refine LeO.roCap ?_ | refine LeO.nil ?_ (fun _ => rfl)) | ((with_reducible show LeR _ _ _); first | refine LeR.own rfl rfl rfl ?_ | refine LeR.view rfl rfl rfl ?_ ?_ | refine LeR.ro ?_ | refine LeR.roCap ?_ | refine LeR.nil ?_ (fun _ => rfl)) | ((with_reducible first | show drawOK _ _ = true | show lateOK _ _ = true | show drawOK2 _ _ = true | show drawOK3 _ _ = true); kernel_rfl))
    all_goals (try (first | omega | exact hk1 | (apply Fits.i64 <;> omega) | (dsimp only; omega)))
    refine loopI Nat [] (fun j => [(9, .v (.int .i64 (j : Nat)))]) (fun _ => []) (fun j => i + 1 ≤ j ∧ j ≤ l.length ∧ adv (goOn l cut k v) (l.length - j) j = strE l cut k i) (fun j => l.length - j) (i + 1) ⟨Nat.le_refl _, by omega, by rw [hv2]; rfl⟩ (Wk.chk ?_) fun j hj => ?_
    · ((conv => whnf); repeat' (first | (with_reducible first | exact fun h => h | refine ExE.row (by with_unfolding_all rfl) ?_ | refine And.intro ?_ ?_) | ((with_reducible intro hq); first | exact bne1 hq (by with_reducible assumption) | exact bne1 (by with_reducible assumption) hq | ((simp only [*, BB, cond_true, cond_false, reduceCtorEq] at hq); done) | (revert hq; with_reducible intro _)) | (with_reducible first | exact True.intro | rfl | refine EntLe.row ?_ | exact LeN.ro rfl | exact LeN.rptr | assumption) | ((with_reducible first | refine WkX.chk ?_ | refine Wk.chk ?_ | refine LeL.chk ?_ | refine LeF.chk ?_ | refine Run.mk ?_); (conv => whnf)) | ((with_reducible show LeO _ _); first | refine LeO.ro ?_ | refine LeO.roCap ?_ | refine LeO.nil ?_ (fun _ => rfl)) | ((with_reducible show LeR _ _ _); first | refine LeR.own rfl rfl rfl ?_ | refine LeR.view rfl rfl rfl ?_ ?_ | refine LeR.ro ?_ | refine LeR.roCap ?_ | refine LeR.nil ?_ (fun _ => rfl)) | ((with_reducible first | show drawOK _ _ = true | show lateOK _ _ = true | show drawOK2 _ _ = true | show drawOK3 _ _ = true); kernel_rfl)))
      all_goals first
        | rfl
        | trace_state
    obtain ⟨hj1, hj2, hj3⟩ := hj
    have e2 : ((j : Nat) : Int).toNat = j := Int.toNat_natCast _
    have hgj : l.getD ((j : Nat) : Int).toNat C_att.d = l.getD j zA := by rw [e2, hd]
    have hcj : cut.getD ((j : Nat) : Int).toNat C_bool.d = cut.getD j false := by rw [e2, hdb]
    have exit : strE l cut k i = j → True := fun _ => trivial
    by_cases hgo : j < l.length ∧ goOn l cut k v j = true
    · obtain ⟨hjl, hgo⟩ := hgo
      have hst := (adv_on (n := l.length) hjl hgo).symm.trans hj3
      unfold goOn at hgo
      rw [Bool.and_eq_true, decide_eq_true_eq] at hgo
      have m0 : decide ((j : Int) < (l.length : Int)) = true := decide_eq_true (by omega)
      have m1 : (hasK (l.getD ((j : Nat) : Int).toNat C_att.d) k == hasK (l.getD ((i : Nat) : Int).toNat C_att.d) k) = true := by rw [hgj, ← hv, beq_iff_eq]; exact hgo.1
      have m2 : (decide ((j : Int) < (l.length : Int)) && (hasK (l.getD ((j : Nat) : Int).toNat C_att.d) k == hasK (l.getD ((i : Nat) : Int).toNat C_att.d) k)) = true := by rw [m0, m1]; rfl
      have m3 : (!(cut.getD ((j : Nat) : Int).toNat C_bool.d)) = true := by rw [hcj]; exact hgo.2
      have m4 : ((decide ((j : Int) < (l.length : Int)) && (hasK (l.getD ((j : Nat) : Int).toNat C_att.d) k == hasK (l.getD ((i : Nat) : Int).toNat C_att.d) k)) && !(cut.getD ((j : Nat) : Int).toNat C_bool.d)) = true := by rw [m2, m3]; rfl
      repeat' (first | (with_reducible refine ⟨(_, k), ⟨(.cons (.agg (.cons (.sb _) (.cons (.sb _) (.cons (.sb _) (.cons (.sb _) (.cons (.v _) .nil)))))) (.cons (.v _) .nil)), ?_⟩, ?_⟩) | (with_reducible refine ex_of (α := Nat) (j + 1) ⟨⟨?_, ?_, hst⟩, ?_⟩ ?_) | (with_reducible first | exact fun h => h | refine ExE.row (by with_unfolding_all rfl) ?_ | refine And.intro ?_ ?_) | ((with_reducible intro hq); first | exact bne1 hq (by with_reducible assumption) | exact bne1 (by with_reducible assumption) hq | ((simp only [*, BB, cond_true, cond_false, reduceCtorEq] at hq); done) | (revert hq; with_reducible intro _)) | (with_reducible first | exact True.intro | rfl | refine EntLe.row ?_ | exact LeN.ro rfl | exact LeN.rptr | assumption) | ((with_reducible first | refine WkX.chk ?_ | refine Wk.chk ?_ | refine LeL.chk ?_ | refine LeF.chk ?_ | refine Run.mk ?_); (conv => whnf)) | ((with_reducible show LeO _ _); first | refine LeO.ro ?_ | refine LeO.roCap ?_ | refine LeO.nil ?_ (fun _ => rfl)) | ((with_reducible show LeR _ _ _); first | refine LeR.own rfl rfl rfl ?_ | refine LeR.view rfl rfl rfl ?_ ?_ | refine LeR.ro ?_ | refine LeR.roCap ?_ | refine LeR.nil ?_ (fun _ => rfl)) | ((with_reducible first | show drawOK _ _ = true | show lateOK _ _ = true | show drawOK2 _ _ = true | show drawOK3 _ _ = true); kernel_rfl))
      all_goals first
        | omega
        | exact hk1
        | (apply Fits.i64 <;> omega)
        | (dsimp only; omega)
        | rfl
        | trace_state
    have hje : strE l cut k i = j := by
      rw [← hj3]
      rcases Nat.lt_or_ge j l.length with h | h
      · refine adv_no h ?_
        cases hc : goOn l cut k v j with
        | false => rfl
        | true => exact absurd ⟨h, hc⟩ hgo
      · exact adv_end h
    have hstp := strT_step (cut := cut) (k := k) hil
    rw [hje] at hstp
    have hD2 : (D ++ strS l cut k i) ++ strT l cut k j = strT l cut k 0 := by rw [List.append_assoc, ← hstp]; exact hD
    have hPA : P ++ D ++ strS l cut k i = P ++ (D ++ strS l cut k i) := List.append_assoc _ _ _
    have m9 : ((decide ((j : Int) < (l.length : Int)) && (hasK (l.getD ((j : Nat) : Int).toNat C_att.d) k == hasK (l.getD ((i : Nat) : Int).toNat C_att.d) k)) && !(cut.getD ((j : Nat) : Int).toNat C_bool.d)) = false := by
      rw [Bool.eq_false_iff]
      intro h
      simp only [Bool.and_eq_true, decide_eq_true_eq, beq_iff_eq] at h
      refine hgo ⟨by omega, ?_⟩
      unfold goOn
      rw [Bool.and_eq_true, decide_eq_true_eq]
      exact ⟨by rw [← hgj, hv]; exact h.1.2, by rw [← hcj]; exact h.2⟩
    by_cases hv0 : v = 0
    · have hS0 : strS l cut k i = [] := by unfold strS; rw [← hv2, if_pos hv0]
      have n1 : (hasK (l.getD ((i : Nat) : Int).toNat C_att.d) k != 0) = false := by rw [← hv, hv0]; rfl
      rw [hS0, List.append_nil] at hD2
      clear hgo hj3 hv hv2
      repeat' (first | (with_reducible refine ⟨(_, k), ⟨(.cons (.agg (.cons (.sb _) (.cons (.sb _) (.cons (.sb _) (.cons (.sb _) (.cons (.v _) .nil)))))) (.cons (.v _) .nil)), ?_⟩, ?_⟩) | (with_reducible refine ex_of (α := Nat × List Spn) (j, D) ⟨⟨hj2, hD2⟩, ?_⟩ ?_) | (with_reducible first | exact fun h => h | refine ExE.row (by with_unfolding_all rfl) ?_ | refine And.intro ?_ ?_) | ((with_reducible intro hq); first | exact bne1 hq (by with_reducible assumption) | exact bne1 (by with_reducible assumption) hq | ((simp only [*, BB, cond_true, cond_false, reduceCtorEq] at hq); done) | (revert hq; with_reducible intro _)) | (with_reducible first | exact True.intro | rfl | refine EntLe.row ?_ | exact LeN.ro rfl | exact LeN.rptr | assumption) | ((with_reducible first | refine WkX.chk ?_ | refine Wk.chk ?_ | refine LeL.chk ?_ | refine LeF.chk ?_ | refine Run.mk ?_); (conv => whnf)) | ((with_reducible show LeO _ _); first | refine LeO.ro ?_ | refine LeO.roCap ?_ | refine LeO.nil ?_ (fun _ => rfl)) | ((with_reducible show LeR _ _ _); first | refine LeR.own rfl rfl rfl ?_ | refine LeR.view rfl rfl rfl ?_ ?_ | refine LeR.ro ?_ | refine LeR.roCap ?_ | refine LeR.nil ?_ (fun _ => rfl)) | ((with_reducible first | show drawOK _ _ = true | show lateOK _ _ = true | show drawOK2 _ _ = true | show drawOK3 _ _ = true); kernel_rfl))
      all_goals first
        | omega
        | exact hk1
        | (apply Fits.i64 <;> omega)
        | (dsimp only; omega)
        | exact of_decide_eq_true (by assumption)
        | rfl
        | trace_state
    have n1 : (hasK (l.getD ((i : Nat) : Int).toNat C_att.d) k != 0) = true := by rw [← hv, bne_iff_ne]; exact hv0
    have hSv : strS l cut k i = [⟨i, (j : Nat), k, if k = 5 then v - 1 else 0⟩] := by unfold strS; rw [← hv2, if_neg hv0, hje]
    have hfs : ∀ (z : Spn), z = ⟨i, (j : Nat), k, if k = 5 then v - 1 else 0⟩ → P ++ D ++ [z] = P ++ (D ++ strS l cut k i) := fun z hz => by rw [hSv, ← hz, List.append_assoc]
    by_cases hk5 : k = 5
    · have n2 : (k == 5) = true := by rw [hk5]; rfl
      have hz : (⟨i, (j : Nat), k, v - 1⟩ : Spn) = ⟨i, (j : Nat), k, if k = 5 then v - 1 else 0⟩ := by rw [if_pos hk5]
      have hfz := hfs _ hz
      rw [hv] at hfz
      clear hgo hj3 hv2
      repeat' (first | (with_reducible refine ⟨(_, k), ⟨(.cons (.agg (.cons (.sb _) (.cons (.sb _) (.cons (.sb _) (.cons (.sb _) (.cons (.v _) .nil)))))) (.cons (.v _) .nil)), ?_⟩, ?_⟩) | (with_reducible refine ex_of (α := Nat × List Spn) (j, D ++ strS l cut k i) ⟨⟨hj2, hD2⟩, ?_⟩ ?_) | (with_reducible first | exact fun h => h | refine ExE.row (by with_unfolding_all rfl) ?_ | refine And.intro ?_ ?_) | ((with_reducible intro hq); first | exact bne1 hq (by with_reducible assumption) | exact bne1 (by with_reducible assumption) hq | ((simp only [*, BB, cond_true, cond_false, reduceCtorEq] at hq); done) | (revert hq; with_reducible intro _)) | (with_reducible first | exact True.intro | rfl | refine EntLe.row ?_ | exact LeN.ro rfl | exact LeN.rptr | assumption) | ((with_reducible first | refine WkX.chk ?_ | refine Wk.chk ?_ | refine LeL.chk ?_ | refine LeF.chk ?_ | refine Run.mk ?_); (conv => whnf)) | ((with_reducible show LeO _ _); first | refine LeO.ro ?_ | refine LeO.roCap ?_ | refine LeO.nil ?_ (fun _ => rfl)) | ((with_reducible show LeR _ _ _); first | refine LeR.own rfl rfl rfl ?_ | refine LeR.view rfl rfl rfl ?_ ?_ | refine LeR.ro ?_ | refine LeR.roCap ?_ | refine LeR.nil ?_ (fun _ => rfl)) | ((with_reducible first | show drawOK _ _ = true | show lateOK _ _ = true | show drawOK2 _ _ = true | show drawOK3 _ _ = true); kernel_rfl))
      all_goals first
        | omega
        | exact hk1
        | (rw [← hv]; apply Fits.i64 <;> omega)
        | (apply Fits.i64 <;> omega)
        | (dsimp only; omega)
        | (show ((P ++ D).length + 1) * 32 ≤ 140737488355328; omega)
        | exact hfz
        | exact of_decide_eq_true (by assumption)
        | rfl
        | trace_state
    · have n2 : (k == 5) = false := by rw [beq_eq_false_iff_ne]; exact hk5
      have hz : (⟨i, (j : Nat), k, 0⟩ : Spn) = ⟨i, (j : Nat), k, if k = 5 then v - 1 else 0⟩ := by rw [if_neg hk5]
      have hfz := hfs _ hz
      clear hgo hj3 hv2
      repeat' (first | (with_reducible refine ⟨(_, k), ⟨(.cons (.agg (.cons (.sb _) (.cons (.sb _) (.cons (.sb _) (.cons (.sb _) (.cons (.v _) .nil)))))) (.cons (.v _) .nil)), ?_⟩, ?_⟩) | (with_reducible refine ex_of (α := Nat × List Spn) (j, D ++ strS l cut k i) ⟨⟨hj2, hD2⟩, ?_⟩ ?_) | (with_reducible first | exact fun h => h | refine ExE.row (by with_unfolding_all rfl) ?_ | refine And.intro ?_ ?_) | ((with_reducible intro hq); first | exact bne1 hq (by with_reducible assumption) | exact bne1 (by with_reducible assumption) hq | ((simp only [*, BB, cond_true, cond_false, reduceCtorEq] at hq); done) | (revert hq; with_reducible intro _)) | (with_reducible first | exact True.intro | rfl | refine EntLe.row ?_ | exact LeN.ro rfl | exact LeN.rptr | assumption) | ((with_reducible first | refine WkX.chk ?_ | refine Wk.chk ?_ | refine LeL.chk ?_ | refine LeF.chk ?_ | refine Run.mk ?_); (conv => whnf)) | ((with_reducible show LeO _ _); first | refine LeO.ro ?_ | refine LeO.roCap ?_ | refine LeO.nil ?_ (fun _ => rfl)) | ((with_reducible show LeR _ _ _); first | refine LeR.own rfl rfl rfl ?_ | refine LeR.view rfl rfl rfl ?_ ?_ | refine LeR.ro ?_ | refine LeR.roCap ?_ | refine LeR.nil ?_ (fun _ => rfl)) | ((with_reducible first | show drawOK _ _ = true | show lateOK _ _ = true | show drawOK2 _ _ = true | show drawOK3 _ _ = true); kernel_rfl))
      all_goals first
        | omega
        | exact hk1
        | (apply Fits.i64 <;> omega)
        | (dsimp only; omega)
        | (show ((P ++ D).length + 1) * 32 ≤ 140737488355328; omega)
        | exact hfz
        | exact of_decide_eq_true (by assumption)
        | rfl
        | trace_state
  have hlt2 : decide ((i : Int) < (l.length : Int)) = false := decide_eq_false (by omega)
  rw [strT_end hil, List.append_nil] at hD
  subst hD
  repeat' (first | (with_reducible first | exact fun h => h | refine ExE.row (by with_unfolding_all rfl) ?_ | refine And.intro ?_ ?_) | ((with_reducible intro hq); first | exact bne1 hq (by with_reducible assumption) | exact bne1 (by with_reducible assumption) hq | ((simp only [*, BB, cond_true, cond_false, reduceCtorEq] at hq); done) | (revert hq; with_reducible intro _)) | (with_reducible first | exact True.intro | rfl | refine EntLe.row ?_ | exact LeN.ro rfl | exact LeN.rptr | assumption) | ((with_reducible first | refine WkX.chk ?_ | refine Wk.chk ?_ | refine LeL.chk ?_ | refine LeF.chk ?_ | refine Run.mk ?_); (conv => whnf)) | ((with_reducible show LeO _ _); first | refine LeO.ro ?_ | refine LeO.roCap ?_ | refine LeO.nil ?_ (fun _ => rfl)) | ((with_reducible show LeR _ _ _); first | refine LeR.own rfl rfl rfl ?_ | refine LeR.view rfl rfl rfl ?_ ?_ | refine LeR.ro ?_ | refine LeR.roCap ?_ | refine LeR.nil ?_ (fun _ => rfl)) | ((with_reducible first | show drawOK _ _ = true | show lateOK _ _ = true | show drawOK2 _ _ = true | show drawOK3 _ _ = true); kernel_rfl))
  all_goals (try (first | omega | (apply Fits.i64 <;> omega) | (dsimp only; omega)))
  have hSE : ∃ S, S = strT l cut k 0 := ⟨_, rfl⟩
  obtain ⟨S, hS⟩ := hSE
  have hSin := strT_in (l := l) (cut := cut) (k := k) 0
  rw [← hS] at hDl hPD hkS hSin
  simp only [← hS]
  have hvl : (P ++ S).length - ((P.length : Int)).toNat = S.length := by omega
  refine loopI Nat [] (fun n => [(78, .v (.int .i64 (n : Nat)))]) (fun n => [(1, .row C_bool (mkTo cut S n) 4 none)]) (fun n => n ≤ S.length) (fun n => S.length - n) 0 (Nat.zero_le _) (Wk.chk ?_) fun n hn => ?_
  · ((conv => whnf); repeat' (first | (with_reducible first | exact fun h => h | refine ExE.row (by with_unfolding_all rfl) ?_ | refine And.intro ?_ ?_) | ((with_reducible intro hq); first | exact bne1 hq (by with_reducible assumption) | exact bne1 (by with_reducible assumption) hq | ((simp only [*, BB, cond_true, cond_false, reduceCtorEq] at hq); done) | (revert hq; with_reducible intro _)) | (with_reducible first | exact True.intro | rfl | refine EntLe.row ?_ | exact LeN.ro rfl | exact LeN.rptr | assumption) | ((with_reducible first | refine WkX.chk ?_ | refine Wk.chk ?_ | refine LeL.chk ?_ | refine LeF.chk ?_ | refine Run.mk ?_); (conv => whnf)) | ((with_reducible show LeO _ _); first | refine LeO.ro ?_ | refine LeO.roCap ?_ | refine LeO.nil ?_ (fun _ => rfl)) | ((with_reducible show LeR _ _ _); first | refine LeR.own rfl rfl rfl ?_ | refine LeR.view rfl rfl rfl ?_ ?_ | refine LeR.ro ?_ | refine LeR.roCap ?_ | refine LeR.nil ?_ (fun _ => rfl)) | ((with_reducible first | show drawOK _ _ = true | show lateOK _ _ = true | show drawOK2 _ _ = true | show drawOK3 _ _ = true); kernel_rfl)))
    all_goals first
      | rfl
      | trace_state
  have hn : n ≤ S.length := hn
  have hml := mkTo_len cut S n
  by_cases hnl : n < S.length
  · have hlt3 : decide ((n : Int) < (((P ++ S).length - ((P.length : Int)).toNat : Nat) : Int)) = true := decide_eq_true (by omega)
    have hxb := hSin.at hnl
    have hst := mkTo_step (cut := cut) hnl
    have hxx : (P ++ S).getD (((0 + ((P.length : Int)).toNat : Nat) : Int) + (n : Int)).toNat C_spn.d = S.getD n zS := by
      rw [show (((0 + ((P.length : Int)).toNat : Nat) : Int) + (n : Int)).toNat = P.length + n by omega, List.getD_eq_getElem?_getD, List.getElem?_append_right (by omega), Nat.add_sub_cancel_left, ← List.getD_eq_getElem?_getD]
      rfl
    repeat' (first | (with_reducible refine ex_of (α := Nat) (n + 1) ⟨?_, ?_⟩ ?_) | (with_reducible first | exact fun h => h | refine ExE.row (by with_unfolding_all rfl) ?_ | refine And.intro ?_ ?_) | ((with_reducible intro hq); first | exact bne1 hq (by with_reducible assumption) | exact bne1 (by with_reducible assumption) hq | ((simp only [*, BB, cond_true, cond_false, reduceCtorEq] at hq); done) | (revert hq; with_reducible intro _)) | (with_reducible first | exact True.intro | rfl | refine EntLe.row ?_ | exact LeN.ro rfl | exact LeN.rptr | assumption) | ((with_reducible first | refine WkX.chk ?_ | refine Wk.chk ?_ | refine LeL.chk ?_ | refine LeF.chk ?_ | refine Run.mk ?_); (conv => whnf)) | ((with_reducible show LeO _ _); first | refine LeO.ro ?_ | refine LeO.roCap ?_ | refine LeO.nil ?_ (fun _ => rfl)) | ((with_reducible show LeR _ _ _); first | refine LeR.own rfl rfl rfl ?_ | refine LeR.view rfl rfl rfl ?_ ?_ | refine LeR.ro ?_ | refine LeR.roCap ?_ | refine LeR.nil ?_ (fun _ => rfl)) | ((with_reducible first | show drawOK _ _ = true | show lateOK _ _ = true | show drawOK2 _ _ = true | show drawOK3 _ _ = true); kernel_rfl))
    all_goals first
      | omega
      | (apply Fits.i64 <;> omega)
      | (rw [hxx]; omega)
      | (rw [List.length_set, hxx]; omega)
      | (dsimp only; omega)
      | rfl
      | (rw [hxx]; exact hst.symm)
      | trace_state
  have hlt3 : decide ((n : Int) < (((P ++ S).length - ((P.length : Int)).toNat : Nat) : Int)) = false := decide_eq_false (by omega)
  have hnn : n = S.length := by omega
  subst hnn
  have hk1' : (kindsTo l (q + 1)).1 = mkTo cut S S.length := by rw [hkS]
  have hk2' : (kindsTo l (q + 1)).2 = P ++ S := by rw [hkS]
  repeat' (first | (with_reducible refine ex_of (α := Nat) (q + 1) ⟨?_, ?_⟩ ?_) | (with_reducible first | exact fun h => h | refine ExE.row (by with_unfolding_all rfl) ?_ | refine And.intro ?_ ?_) | ((with_reducible intro hq); first | exact bne1 hq (by with_reducible assumption) | exact bne1 (by with_reducible assumption) hq | ((simp only [*, BB, cond_true, cond_false, reduceCtorEq] at hq); done) | (revert hq; with_reducible intro _)) | (with_reducible first | exact True.intro | rfl | refine EntLe.row ?_ | exact LeN.ro rfl | exact LeN.rptr | assumption) | ((with_reducible first | refine WkX.chk ?_ | refine Wk.chk ?_ | refine LeL.chk ?_ | refine LeF.chk ?_ | refine Run.mk ?_); (conv => whnf)) | ((with_reducible show LeO _ _); first | refine LeO.ro ?_ | refine LeO.roCap ?_ | refine LeO.nil ?_ (fun _ => rfl)) | ((with_reducible show LeR _ _ _); first | refine LeR.own rfl rfl rfl ?_ | refine LeR.view rfl rfl rfl ?_ ?_ | refine LeR.ro ?_ | refine LeR.roCap ?_ | refine LeR.nil ?_ (fun _ => rfl)) | ((with_reducible first | show drawOK _ _ = true | show lateOK _ _ = true | show drawOK2 _ _ = true | show drawOK3 _ _ = true); kernel_rfl))
  all_goals first
    | omega
    | (apply Fits.i64 <;> omega)
    | (dsimp only; omega)
    | exact hk1'.symm
    | exact hk2'.symm
    | trace_state
end Go.SX.Try
/- A verified symbolic executor for Go code in the model: the order of what is remembered does not matter; a row takes another one's name. -/
namespace Go.SX
open Go.RowKit
def insM (p : Nat × Ent) : Mem → Mem
  | [] => [p]
  | q :: r => match Nat.ble q.1 p.1 with
    | true => p :: q :: r
    | false => q :: insM p r
def ordMem : Mem → Mem
  | [] => []
  | p :: r => insM p (ordMem r)
theorem insM_perm (p : Nat × Ent) : ∀ m : Mem, (p :: m).Perm (insM p m)
  | [] => List.Perm.refl _
  | q :: r => by
    simp only [insM]
    cases Nat.ble q.1 p.1 with
    | true => exact List.Perm.refl _
    | false => exact (List.Perm.swap q p r).trans (List.Perm.cons q (insM_perm p r))
theorem ordMem_perm : ∀ m : Mem, m.Perm (ordMem m)
  | [] => List.Perm.refl _
  | p :: r => (List.Perm.cons p (ordMem_perm r)).trans (insM_perm p _)
def ordS (A : Sta) : Sta := match A with
  | ⟨fr, stk, m, nx⟩ => ⟨fr, stk, ordMem m, nx⟩
theorem Wk.ord (A : Sta) : Wk A (ordS A) := ⟨fun base w0 E gs tm w hnx hS => by
  obtain ⟨fr, stk, m, nx⟩ := A
  exact ⟨E, hnx, hS.perm (ordMem_perm m)⟩⟩
theorem ex_moveO {α : Type} {P : α → Prop} {A : Sta} {S : α → Sta} (a : α) (i j : Nat) (hij : Nat.beq i j = false) {β β' : Type} {C : Cdc β} {l : List β} {t : Nat} {cap : Option Nat} {C' : Cdc β'} {l' : List β'} {t' : Nat} {cap' : Option Nat} (hi : getE A.m i = some (.row C' l' t' cap')) (hj : getE A.m j = some (.row C l t cap)) (h : P a) (h2 : Wk (ordS (moveS i j A)) (S a)) : ∃ j, P j ∧ Wk A (S j) :=
  ⟨a, h, ((Wk.move hij hi hj).trans (Wk.ord _)).trans h2⟩
end Go.SX
