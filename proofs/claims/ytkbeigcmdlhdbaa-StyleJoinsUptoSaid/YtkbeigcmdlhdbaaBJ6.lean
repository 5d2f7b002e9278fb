/- A verified symbolic executor for Go code in the model, contracts and plain laws that the proofs lean on, BJ6. -/
import Derived.Test.YtkbeigcmdlhdbaaBJ5
import Derived.Deep.Fields
import Derived.SizedLaws
set_option linter.unusedVariables false
set_option linter.unusedSimpArgs false
/- Contract of style.Splice. -/
namespace Go.SX.Try
open Go.Proofs Go.Proofs.Try Go.SX.Plain
set_option maxRecDepth 100000
set_option maxHeartbeats 0
set_option linter.unusedSimpArgs false
theorem q_ssplice : fact 16 f16 := ⟨by kernel_rfl, rfl, by kernel_rfl⟩
theorem con_ssplice : Con prog 16 (fun ((s, l, f, t, s2, l2) : ByteArray × List Spn × Int × Int × ByteArray × List Spn) => [txAV s l, .v (.int .i64 f), .v (.int .i64 t), txAV s2 l2])
    (fun (s, l, f, t, s2, l2) => .tup [txO (splT s l f t s2 l2) (splL s l f t s2 l2), .v (.int .i64 (splE s l f t s2 l2))]) (fun _ => True) := by
  refine Con.of (by kernel_rfl) T_ok D_spn_ok (.con con_scheck (.con con_ucut (.con con_uplace (.con con_umelts (.con con_ucount (.con con_souter .nil)))))) 3 [13, 29, 32] q_ssplice.1 q_ssplice.2.1 q_ssplice.2.2 (fun _ => rfl) fun i _ => ?_
  obtain ⟨s, l, f, t, s2, l2⟩ := i
  repeat' (first | (with_reducible first | exact fun h => h | refine ExE.row (by with_unfolding_all rfl) ?_ | refine And.intro ?_ ?_) | ((with_reducible intro hq); first | exact bne1 hq (by with_reducible assumption) | exact bne1 (by with_reducible assumption) hq | ((simp only [*, BB, cond_true, cond_false, reduceCtorEq] at hq); done) | (revert hq; with_reducible intro _)) | (with_reducible first | exact True.intro | rfl | refine EntLe.row ?_ | exact LeN.ro rfl | exact LeN.rptr | assumption) | ((with_reducible first | refine WkX.chk ?_ | refine Wk.chk ?_ | refine LeL.chk ?_ | refine LeF.chk ?_ | refine Run.mk ?_); (conv => whnf)) | ((with_reducible show LeO _ _); first | refine LeO.ro ?_ | refine LeO.roCap ?_ | refine LeO.nil ?_ (fun _ => rfl)) | ((with_reducible show LeR _ _ _); first | refine LeR.own rfl rfl rfl ?_ | refine LeR.view rfl rfl rfl ?_ ?_ | refine LeR.ro ?_ | refine LeR.roCap ?_ | refine LeR.nil ?_ (fun _ => rfl)) | ((with_reducible first | show drawOK _ _ = true | show lateOK _ _ = true | show drawOK2 _ _ = true | show drawOK3 _ _ = true); kernel_rfl))
  refine loopI Nat [] (fun i => [(30, .v (.int .i64 (i : Nat)))]) (fun _ => []) (fun i => i ≤ 2 ∧ (1 ≤ i → chkN s.size l (sgN s : Nat) = 0) ∧ (2 ≤ i → chkN s2.size l2 (sgN s2 : Nat) = 0)) (fun i => 2 - i) 0 ⟨by omega, by omega, by omega⟩ (Wk.chk ?_) fun i hx => ?_
  · ((conv => whnf); repeat' (first | (with_reducible first | exact fun h => h | refine ExE.row (by with_unfolding_all rfl) ?_ | refine And.intro ?_ ?_) | ((with_reducible intro hq); first | exact bne1 hq (by with_reducible assumption) | exact bne1 (by with_reducible assumption) hq | ((simp only [*, BB, cond_true, cond_false, reduceCtorEq] at hq); done) | (revert hq; with_reducible intro _)) | (with_reducible first | exact True.intro | rfl | refine EntLe.row ?_ | exact LeN.ro rfl | exact LeN.rptr | assumption) | ((with_reducible first | refine WkX.chk ?_ | refine Wk.chk ?_ | refine LeL.chk ?_ | refine LeF.chk ?_ | refine Run.mk ?_); (conv => whnf)) | ((with_reducible show LeO _ _); first | refine LeO.ro ?_ | refine LeO.roCap ?_ | refine LeO.nil ?_ (fun _ => rfl)) | ((with_reducible show LeR _ _ _); first | refine LeR.own rfl rfl rfl ?_ | refine LeR.view rfl rfl rfl ?_ ?_ | refine LeR.ro ?_ | refine LeR.roCap ?_ | refine LeR.nil ?_ (fun _ => rfl)) | ((with_reducible first | show drawOK _ _ = true | show lateOK _ _ = true | show drawOK2 _ _ = true | show drawOK3 _ _ = true); kernel_rfl)))
    all_goals rfl
  obtain ⟨hi, hc1, hc2⟩ := hx
  obtain rfl | rfl | rfl : i = 0 ∨ i = 1 ∨ i = 2 := by omega
  · have kb : decide (((0 : Nat) : Int) < ((2 : Nat) : Int)) = true := rfl
    by_cases h1 : chkN s.size l (sgN s : Nat) = 0
    · have k1 : (chkN s.size l (sgN s : Nat) != 0) = false := by rw [h1]; rfl
      repeat' (first | (with_reducible refine ⟨(s, l), ⟨(.cons (.agg (.cons (.v _) (.cons (.lent _ _ _ _ _ _) .nil))) .nil), ?_⟩, ?_⟩) | (with_reducible refine ex_of (α := Nat) 1 ⟨⟨?_, fun _ => h1, ?_⟩, ?_⟩ ?_) | (with_reducible first | exact fun h => h | refine ExE.row (by with_unfolding_all rfl) ?_ | refine And.intro ?_ ?_) | ((with_reducible intro hq); first | exact bne1 hq (by with_reducible assumption) | exact bne1 (by with_reducible assumption) hq | ((simp only [*, BB, cond_true, cond_false, reduceCtorEq] at hq); done) | (revert hq; with_reducible intro _)) | (with_reducible first | exact True.intro | rfl | refine EntLe.row ?_ | exact LeN.ro rfl | exact LeN.rptr | assumption) | ((with_reducible first | refine WkX.chk ?_ | refine Wk.chk ?_ | refine LeL.chk ?_ | refine LeF.chk ?_ | refine Run.mk ?_); (conv => whnf)) | ((with_reducible show LeO _ _); first | refine LeO.ro ?_ | refine LeO.roCap ?_ | refine LeO.nil ?_ (fun _ => rfl)) | ((with_reducible show LeR _ _ _); first | refine LeR.own rfl rfl rfl ?_ | refine LeR.view rfl rfl rfl ?_ ?_ | refine LeR.ro ?_ | refine LeR.roCap ?_ | refine LeR.nil ?_ (fun _ => rfl)) | ((with_reducible first | show drawOK _ _ = true | show lateOK _ _ = true | show drawOK2 _ _ = true | show drawOK3 _ _ = true); kernel_rfl))
      all_goals first
        | omega
        | rfl
        | (apply Fits.i64 <;> omega)
        | decide
        | trace_state
    · have k1 : (chkN s.size l (sgN s : Nat) != 0) = true := by simpa using h1
      have hE := splE_1 (f := f) (t := t) (s2 := s2) (l2 := l2) h1
      have hT := splT_no (s := s) (l := l) (f := f) (t := t) (s2 := s2) (l2 := l2) (by rw [hE]; exact h1)
      have hL := splL_no (s := s) (l := l) (f := f) (t := t) (s2 := s2) (l2 := l2) (by rw [hE]; exact h1)
      repeat' (first | (with_reducible refine ⟨(s, l), ⟨(.cons (.agg (.cons (.v _) (.cons (.lent _ _ _ _ _ _) .nil))) .nil), ?_⟩, ?_⟩) | (with_reducible first | exact fun h => h | refine ExE.row (by with_unfolding_all rfl) ?_ | refine And.intro ?_ ?_) | ((with_reducible intro hq); first | exact bne1 hq (by with_reducible assumption) | exact bne1 (by with_reducible assumption) hq | ((simp only [*, BB, cond_true, cond_false, reduceCtorEq] at hq); done) | (revert hq; with_reducible intro _)) | (with_reducible first | exact True.intro | rfl | refine EntLe.row ?_ | exact LeN.ro rfl | exact LeN.rptr | assumption) | ((with_reducible first | refine WkX.chk ?_ | refine Wk.chk ?_ | refine LeL.chk ?_ | refine LeF.chk ?_ | refine Run.mk ?_); (conv => whnf)) | ((with_reducible show LeO _ _); first | refine LeO.ro ?_ | refine LeO.roCap ?_ | refine LeO.nil ?_ (fun _ => rfl)) | ((with_reducible show LeR _ _ _); first | refine LeR.own rfl rfl rfl ?_ | refine LeR.view rfl rfl rfl ?_ ?_ | refine LeR.ro ?_ | refine LeR.roCap ?_ | refine LeR.nil ?_ (fun _ => rfl)) | ((with_reducible first | show drawOK _ _ = true | show lateOK _ _ = true | show drawOK2 _ _ = true | show drawOK3 _ _ = true); kernel_rfl))
      all_goals first
        | exact hE.symm
        | exact hT.symm
        | exact hL.symm
        | decide
        | trace_state
  · have kb : decide (((1 : Nat) : Int) < ((2 : Nat) : Int)) = true := rfl
    have h1 := hc1 (Nat.le_refl _)
    by_cases h2 : chkN s2.size l2 (sgN s2 : Nat) = 0
    · have k1 : (chkN s2.size l2 (sgN s2 : Nat) != 0) = false := by rw [h2]; rfl
      repeat' (first | (with_reducible refine ⟨(s2, l2), ⟨(.cons (.agg (.cons (.v _) (.cons (.lent _ _ _ _ _ _) .nil))) .nil), ?_⟩, ?_⟩) | (with_reducible refine ex_of (α := Nat) 2 ⟨⟨?_, fun _ => h1, fun _ => h2⟩, ?_⟩ ?_) | (with_reducible first | exact fun h => h | refine ExE.row (by with_unfolding_all rfl) ?_ | refine And.intro ?_ ?_) | ((with_reducible intro hq); first | exact bne1 hq (by with_reducible assumption) | exact bne1 (by with_reducible assumption) hq | ((simp only [*, BB, cond_true, cond_false, reduceCtorEq] at hq); done) | (revert hq; with_reducible intro _)) | (with_reducible first | exact True.intro | rfl | refine EntLe.row ?_ | exact LeN.ro rfl | exact LeN.rptr | assumption) | ((with_reducible first | refine WkX.chk ?_ | refine Wk.chk ?_ | refine LeL.chk ?_ | refine LeF.chk ?_ | refine Run.mk ?_); (conv => whnf)) | ((with_reducible show LeO _ _); first | refine LeO.ro ?_ | refine LeO.roCap ?_ | refine LeO.nil ?_ (fun _ => rfl)) | ((with_reducible show LeR _ _ _); first | refine LeR.own rfl rfl rfl ?_ | refine LeR.view rfl rfl rfl ?_ ?_ | refine LeR.ro ?_ | refine LeR.roCap ?_ | refine LeR.nil ?_ (fun _ => rfl)) | ((with_reducible first | show drawOK _ _ = true | show lateOK _ _ = true | show drawOK2 _ _ = true | show drawOK3 _ _ = true); kernel_rfl))
      all_goals first
        | omega
        | rfl
        | (apply Fits.i64 <;> omega)
        | decide
        | trace_state
    · have k1 : (chkN s2.size l2 (sgN s2 : Nat) != 0) = true := by simpa using h2
      have hE := splE_2 (f := f) (t := t) h1 h2
      have hT := splT_no (s := s) (l := l) (f := f) (t := t) (s2 := s2) (l2 := l2) (by rw [hE]; exact h2)
      have hL := splL_no (s := s) (l := l) (f := f) (t := t) (s2 := s2) (l2 := l2) (by rw [hE]; exact h2)
      repeat' (first | (with_reducible refine ⟨(s2, l2), ⟨(.cons (.agg (.cons (.v _) (.cons (.lent _ _ _ _ _ _) .nil))) .nil), ?_⟩, ?_⟩) | (with_reducible first | exact fun h => h | refine ExE.row (by with_unfolding_all rfl) ?_ | refine And.intro ?_ ?_) | ((with_reducible intro hq); first | exact bne1 hq (by with_reducible assumption) | exact bne1 (by with_reducible assumption) hq | ((simp only [*, BB, cond_true, cond_false, reduceCtorEq] at hq); done) | (revert hq; with_reducible intro _)) | (with_reducible first | exact True.intro | rfl | refine EntLe.row ?_ | exact LeN.ro rfl | exact LeN.rptr | assumption) | ((with_reducible first | refine WkX.chk ?_ | refine Wk.chk ?_ | refine LeL.chk ?_ | refine LeF.chk ?_ | refine Run.mk ?_); (conv => whnf)) | ((with_reducible show LeO _ _); first | refine LeO.ro ?_ | refine LeO.roCap ?_ | refine LeO.nil ?_ (fun _ => rfl)) | ((with_reducible show LeR _ _ _); first | refine LeR.own rfl rfl rfl ?_ | refine LeR.view rfl rfl rfl ?_ ?_ | refine LeR.ro ?_ | refine LeR.roCap ?_ | refine LeR.nil ?_ (fun _ => rfl)) | ((with_reducible first | show drawOK _ _ = true | show lateOK _ _ = true | show drawOK2 _ _ = true | show drawOK3 _ _ = true); kernel_rfl))
      all_goals first
        | exact hE.symm
        | exact hT.symm
        | exact hL.symm
        | decide
        | trace_state
  have kb : decide (((2 : Nat) : Int) < ((2 : Nat) : Int)) = false := rfl
  have h1 := hc1 (by omega)
  have h2 := hc2 (by omega)
  clear hc1 hc2
  have ok1 := OkT.of h1
  have ok2 := OkT.of h2
  have hs := ok1.size
  have hs2 := ok2.size
  have hn := sgN_le s
  have hn2 := sgN_le s2
  by_cases hm : 0 ≤ f ∧ f ≤ t ∧ t ≤ sgN s
  case neg =>
    have h3 : mayB f t (sgN s : Nat) = false := by
      unfold mayB
      rw [Bool.eq_false_iff]
      simp only [ne_eq, Bool.and_eq_true, decide_eq_true_eq]
      omega
    have hE := splE_3 h1 h2 h3
    have hT := splT_no (s := s) (l := l) (f := f) (t := t) (s2 := s2) (l2 := l2) (by rw [hE]; decide)
    have hL := splL_no (s := s) (l := l) (f := f) (t := t) (s2 := s2) (l2 := l2) (by rw [hE]; decide)
    have hce : cutE s f t = 1 := by unfold cutE; rw [if_neg hm]
    have k1 : (cutE s f t != 0) = true := by rw [hce]; rfl
    repeat' (first | (with_reducible refine ⟨(_, _, _), ⟨(.cons (.v _) (.cons (.v _) (.cons (.v _) (.cons (.v _) .nil)))), ?_⟩, ?_⟩) | (with_reducible first | exact fun h => h | refine ExE.row (by with_unfolding_all rfl) ?_ | refine And.intro ?_ ?_) | ((with_reducible intro hq); first | exact bne1 hq (by with_reducible assumption) | exact bne1 (by with_reducible assumption) hq | ((simp only [*, BB, cond_true, cond_false, reduceCtorEq] at hq); done) | (revert hq; with_reducible intro _)) | (with_reducible first | exact True.intro | rfl | refine EntLe.row ?_ | exact LeN.ro rfl | exact LeN.rptr | assumption) | ((with_reducible first | refine WkX.chk ?_ | refine Wk.chk ?_ | refine LeL.chk ?_ | refine LeF.chk ?_ | refine Run.mk ?_); (conv => whnf)) | ((with_reducible show LeO _ _); first | refine LeO.ro ?_ | refine LeO.roCap ?_ | refine LeO.nil ?_ (fun _ => rfl)) | ((with_reducible show LeR _ _ _); first | refine LeR.own rfl rfl rfl ?_ | refine LeR.view rfl rfl rfl ?_ ?_ | refine LeR.ro ?_ | refine LeR.roCap ?_ | refine LeR.nil ?_ (fun _ => rfl)) | ((with_reducible first | show drawOK _ _ = true | show lateOK _ _ = true | show drawOK2 _ _ = true | show drawOK3 _ _ = true); kernel_rfl))
    all_goals first
      | (dsimp only; omega)
      | exact hE.symm
      | exact hT.symm
      | exact hL.symm
      | trace_state
  have h3 : mayB f t (sgN s : Nat) = true := by
    unfold mayB
    simp only [Bool.and_eq_true, decide_eq_true_eq]
    omega
  have hce : cutE s f t = 0 := by unfold cutE; rw [if_pos hm]
  have k1 : (cutE s f t != 0) = false := by rw [hce]; rfl
  have hct : cutT s f t = s.extract (posS s f.toNat) (posS s t.toNat) := by unfold cutT; rw [if_pos hm]
  have hpn : plN s f = (posS s f.toNat : Nat) := by unfold plN; rw [if_pos ⟨by omega, by omega⟩]
  have p5 := posS_mono s (i := f.toNat) (j := t.toNat) (by omega) (by omega)
  have p6 := posS_le s t.toNat
  have hcs : (cutT s f t).size = posS s t.toNat - posS s f.toNat := by rw [hct]; exact size_extract' p6
  have hfs : (frontT s f).size = posS s f.toNat := by unfold frontT; rw [size_extract' (by omega)]; omega
  have hrs : (restT s t).size = s.size - posS s t.toNat := by unfold restT; exact size_extract' (Nat.le_refl _)
  have hnsz : (newT s f t s2).size = (frontT s f).size + s2.size + (restT s t).size := by unfold newT; rw [app_size, app_size]
  have hfsz : (frontT s f ++ s2).size = (frontT s f).size + s2.size := app_size _ _
  have e1 : (plN s f + ((cutT s f t).size : Int)).toNat = posS s t.toNat := by rw [hpn, hcs]; omega
  have e2 : (plN s f).toNat = posS s f.toNat := by rw [hpn]; omega
  repeat' (first | (with_reducible refine ⟨(_, _, _), ⟨(.cons (.v _) (.cons (.v _) (.cons (.v _) (.cons (.v _) .nil)))), ?_⟩, ?_⟩) | (with_reducible refine ⟨(_, _), ⟨(.cons (.v _) (.cons (.v _) (.cons (.v _) (.cons (.v _) .nil)))), ?_⟩, ?_⟩) | (with_reducible first | exact fun h => h | refine ExE.row (by with_unfolding_all rfl) ?_ | refine And.intro ?_ ?_) | ((with_reducible intro hq); first | exact bne1 hq (by with_reducible assumption) | exact bne1 (by with_reducible assumption) hq | ((simp only [*, BB, cond_true, cond_false, reduceCtorEq] at hq); done) | (revert hq; with_reducible intro _)) | (with_reducible first | exact True.intro | rfl | refine EntLe.row ?_ | exact LeN.ro rfl | exact LeN.rptr | assumption) | ((with_reducible first | refine WkX.chk ?_ | refine Wk.chk ?_ | refine LeL.chk ?_ | refine LeF.chk ?_ | refine Run.mk ?_); (conv => whnf)) | ((with_reducible show LeO _ _); first | refine LeO.ro ?_ | refine LeO.roCap ?_ | refine LeO.nil ?_ (fun _ => rfl)) | ((with_reducible show LeR _ _ _); first | refine LeR.own rfl rfl rfl ?_ | refine LeR.view rfl rfl rfl ?_ ?_ | refine LeR.ro ?_ | refine LeR.roCap ?_ | refine LeR.nil ?_ (fun _ => rfl)) | ((with_reducible first | show drawOK _ _ = true | show lateOK _ _ = true | show drawOK2 _ _ = true | show drawOK3 _ _ = true); kernel_rfl))
  all_goals (try (dsimp only; omega))
  refine joinI Unit [] (fun _ => [(17, .v (.string (frontT s f))), (18, .v (.string (restT s t)))]) (fun _ => []) (fun _ => True) ?_ fun _ _ => ?_
  · repeat' (first | (with_reducible refine ex_of () trivial ?_) | (with_reducible first | exact fun h => h | refine ExE.row (by with_unfolding_all rfl) ?_ | refine And.intro ?_ ?_) | ((with_reducible intro hq); first | exact bne1 hq (by with_reducible assumption) | exact bne1 (by with_reducible assumption) hq | ((simp only [*, BB, cond_true, cond_false, reduceCtorEq] at hq); done) | (revert hq; with_reducible intro _)) | (with_reducible first | exact True.intro | rfl | refine EntLe.row ?_ | exact LeN.ro rfl | exact LeN.rptr | assumption) | ((with_reducible first | refine WkX.chk ?_ | refine Wk.chk ?_ | refine LeL.chk ?_ | refine LeF.chk ?_ | refine Run.mk ?_); (conv => whnf)) | ((with_reducible show LeO _ _); first | refine LeO.ro ?_ | refine LeO.roCap ?_ | refine LeO.nil ?_ (fun _ => rfl)) | ((with_reducible show LeR _ _ _); first | refine LeR.own rfl rfl rfl ?_ | refine LeR.view rfl rfl rfl ?_ ?_ | refine LeR.ro ?_ | refine LeR.roCap ?_ | refine LeR.nil ?_ (fun _ => rfl)) | ((with_reducible first | show drawOK _ _ = true | show lateOK _ _ = true | show drawOK2 _ _ = true | show drawOK3 _ _ = true); kernel_rfl))
    all_goals first
      | (rw [e2]; rfl)
      | (rw [e1]; rfl)
      | (rw [hpn, hcs]; apply Fits.i64 <;> omega)
      | (rw [hpn, hcs]; omega)
      | (rw [hpn]; omega)
      | trace_state
  have hF : Hid (newT s f t s2 = frontT s f ++ s2 ++ restT s t) := ⟨rfl⟩
  clear e1 e2 hcs hct hpn hce
  by_cases h4 : 4096 < (newT s f t s2).size
  · have hE := splE_4 (l := l) (l2 := l2) h1 h2 h3 h4
    have hT := splT_no (s := s) (l := l) (f := f) (t := t) (s2 := s2) (l2 := l2) (by rw [hE]; decide)
    have hL := splL_no (s := s) (l := l) (f := f) (t := t) (s2 := s2) (l2 := l2) (by rw [hE]; decide)
    have k2 : decide ((4096 : Int) < ((frontT s f).size : Int) + (s2.size : Int) + ((restT s t).size : Int)) = true := decide_eq_true (by omega)
    repeat' (first | (with_reducible first | exact fun h => h | refine ExE.row (by with_unfolding_all rfl) ?_ | refine And.intro ?_ ?_) | ((with_reducible intro hq); first | exact bne1 hq (by with_reducible assumption) | exact bne1 (by with_reducible assumption) hq | ((simp only [*, BB, cond_true, cond_false, reduceCtorEq] at hq); done) | (revert hq; with_reducible intro _)) | (with_reducible first | exact True.intro | rfl | refine EntLe.row ?_ | exact LeN.ro rfl | exact LeN.rptr | assumption) | ((with_reducible first | refine WkX.chk ?_ | refine Wk.chk ?_ | refine LeL.chk ?_ | refine LeF.chk ?_ | refine Run.mk ?_); (conv => whnf)) | ((with_reducible show LeO _ _); first | refine LeO.ro ?_ | refine LeO.roCap ?_ | refine LeO.nil ?_ (fun _ => rfl)) | ((with_reducible show LeR _ _ _); first | refine LeR.own rfl rfl rfl ?_ | refine LeR.view rfl rfl rfl ?_ ?_ | refine LeR.ro ?_ | refine LeR.roCap ?_ | refine LeR.nil ?_ (fun _ => rfl)) | ((with_reducible first | show drawOK _ _ = true | show lateOK _ _ = true | show drawOK2 _ _ = true | show drawOK3 _ _ = true); kernel_rfl))
    all_goals first
      | (apply Fits.i64 <;> omega)
      | exact hE.symm
      | exact hT.symm
      | exact hL.symm
      | trace_state
  have k2 : decide ((4096 : Int) < ((frontT s f).size : Int) + (s2.size : Int) + ((restT s t).size : Int)) = false := decide_eq_false (by omega)
  have hw2 : (frontT s f ++ s2 ++ restT s t).size = (newT s f t s2).size := rfl
  have hfl : (frontT s f).size + s2.size + (restT s t).size ≤ 4096 := by omega
  have hms := Bool.eq_false_or_eq_true (meltB (frontT s f) s2)
  rcases hms with h5 | h5
  · have hE := splE_5 (l := l) (l2 := l2) h1 h2 h3 h4 (.inl h5)
    have hT := splT_no (s := s) (l := l) (f := f) (t := t) (s2 := s2) (l2 := l2) (by rw [hE]; decide)
    have hL := splL_no (s := s) (l := l) (f := f) (t := t) (s2 := s2) (l2 := l2) (by rw [hE]; decide)
    repeat' (first | (with_reducible refine ⟨(_, _), ⟨(.cons (.v _) (.cons (.v _) .nil)), ?_⟩, ?_⟩) | (with_reducible first | exact fun h => h | refine ExE.row (by with_unfolding_all rfl) ?_ | refine And.intro ?_ ?_) | ((with_reducible intro hq); first | exact bne1 hq (by with_reducible assumption) | exact bne1 (by with_reducible assumption) hq | ((simp only [*, BB, cond_true, cond_false, reduceCtorEq] at hq); done) | (revert hq; with_reducible intro _)) | (with_reducible first | exact True.intro | rfl | refine EntLe.row ?_ | exact LeN.ro rfl | exact LeN.rptr | assumption) | ((with_reducible first | refine WkX.chk ?_ | refine Wk.chk ?_ | refine LeL.chk ?_ | refine LeF.chk ?_ | refine Run.mk ?_); (conv => whnf)) | ((with_reducible show LeO _ _); first | refine LeO.ro ?_ | refine LeO.roCap ?_ | refine LeO.nil ?_ (fun _ => rfl)) | ((with_reducible show LeR _ _ _); first | refine LeR.own rfl rfl rfl ?_ | refine LeR.view rfl rfl rfl ?_ ?_ | refine LeR.ro ?_ | refine LeR.roCap ?_ | refine LeR.nil ?_ (fun _ => rfl)) | ((with_reducible first | show drawOK _ _ = true | show lateOK _ _ = true | show drawOK2 _ _ = true | show drawOK3 _ _ = true); kernel_rfl))
    all_goals first
      | omega
      | (apply Fits.i64 <;> omega)
      | (dsimp only; omega)
      | exact hE.symm
      | exact hT.symm
      | exact hL.symm
      | trace_state
  have hms := Bool.eq_false_or_eq_true (meltB (frontT s f ++ s2) (restT s t))
  rcases hms with h6 | h6
  · have hE := splE_5 (l := l) (l2 := l2) h1 h2 h3 h4 (.inr h6)
    have hT := splT_no (s := s) (l := l) (f := f) (t := t) (s2 := s2) (l2 := l2) (by rw [hE]; decide)
    have hL := splL_no (s := s) (l := l) (f := f) (t := t) (s2 := s2) (l2 := l2) (by rw [hE]; decide)
    repeat' (first | (with_reducible refine ⟨(_, _), ⟨(.cons (.v _) (.cons (.v _) .nil)), ?_⟩, ?_⟩) | (with_reducible first | exact fun h => h | refine ExE.row (by with_unfolding_all rfl) ?_ | refine And.intro ?_ ?_) | ((with_reducible intro hq); first | exact bne1 hq (by with_reducible assumption) | exact bne1 (by with_reducible assumption) hq | ((simp only [*, BB, cond_true, cond_false, reduceCtorEq] at hq); done) | (revert hq; with_reducible intro _)) | (with_reducible first | exact True.intro | rfl | refine EntLe.row ?_ | exact LeN.ro rfl | exact LeN.rptr | assumption) | ((with_reducible first | refine WkX.chk ?_ | refine Wk.chk ?_ | refine LeL.chk ?_ | refine LeF.chk ?_ | refine Run.mk ?_); (conv => whnf)) | ((with_reducible show LeO _ _); first | refine LeO.ro ?_ | refine LeO.roCap ?_ | refine LeO.nil ?_ (fun _ => rfl)) | ((with_reducible show LeR _ _ _); first | refine LeR.own rfl rfl rfl ?_ | refine LeR.view rfl rfl rfl ?_ ?_ | refine LeR.ro ?_ | refine LeR.roCap ?_ | refine LeR.nil ?_ (fun _ => rfl)) | ((with_reducible first | show drawOK _ _ = true | show lateOK _ _ = true | show drawOK2 _ _ = true | show drawOK3 _ _ = true); kernel_rfl))
    all_goals first
      | omega
      | (apply Fits.i64 <;> omega)
      | (dsimp only; omega)
      | exact hE.symm
      | exact hT.symm
      | exact hL.symm
      | trace_state
  have hLl : (isort ltO l).length = l.length := isort_len l
  have hl := ok1.len
  have hl2 := ok2.len
  have hd : C_spn.d = zS := rfl
  repeat' (first | (with_reducible refine ⟨(_, _), ⟨(.cons (.v _) (.cons (.v _) .nil)), ?_⟩, ?_⟩) | (with_reducible refine ⟨_, ⟨(.cons (.v _) .nil), ?_⟩, ?_⟩) | (with_reducible refine ⟨(s, l), ⟨(.cons (.agg (.cons (.v _) (.cons (.lent _ _ _ _ _ _) .nil))) .nil), ?_⟩, ?_⟩) | (with_reducible first | exact fun h => h | refine ExE.row (by with_unfolding_all rfl) ?_ | refine And.intro ?_ ?_) | ((with_reducible intro hq); first | exact bne1 hq (by with_reducible assumption) | exact bne1 (by with_reducible assumption) hq | ((simp only [*, BB, cond_true, cond_false, reduceCtorEq] at hq); done) | (revert hq; with_reducible intro _)) | (with_reducible first | exact True.intro | rfl | refine EntLe.row ?_ | exact LeN.ro rfl | exact LeN.rptr | assumption) | ((with_reducible first | refine WkX.chk ?_ | refine Wk.chk ?_ | refine LeL.chk ?_ | refine LeF.chk ?_ | refine Run.mk ?_); (conv => whnf)) | ((with_reducible show LeO _ _); first | refine LeO.ro ?_ | refine LeO.roCap ?_ | refine LeO.nil ?_ (fun _ => rfl)) | ((with_reducible show LeR _ _ _); first | refine LeR.own rfl rfl rfl ?_ | refine LeR.view rfl rfl rfl ?_ ?_ | refine LeR.ro ?_ | refine LeR.roCap ?_ | refine LeR.nil ?_ (fun _ => rfl)) | ((with_reducible first | show drawOK _ _ = true | show lateOK _ _ = true | show drawOK2 _ _ = true | show drawOK3 _ _ = true); kernel_rfl))
  all_goals (try (first | omega | (apply Fits.i64 <;> omega) | (dsimp only; omega)))
  have hin := (spans_in ok1.spans).isort
  have hin2 := spans_in ok2.spans
  have hg : ∀ x, mvS f t (sgN s2 : Nat) x = mvS f t (sgN s2 : Nat) x := fun _ => rfl
  refine loopA 4 1 C_spn 71 (T := T) ⟨fun _ => rfl, by decide, _, rfl, rfl, by decide⟩ (by rfl) (by with_unfolding_all exact rfl) (by with_unfolding_all exact rfl) Nat [] (fun i => [(112, .v (.int .i64 (i : Nat)))]) (fun i => [(5, .row C_spn (outTo (mvS f t (sgN s2 : Nat)) (isort ltO l) i) 71 none)]) (fun i => i ≤ (isort ltO l).length) (fun i => (isort ltO l).length - i) 0 (Nat.zero_le _) (Wk.chk ?_) fun i hi => ?_
  · ((conv => whnf); repeat' (first | (with_reducible first | exact fun h => h | refine ExE.row (by with_unfolding_all rfl) ?_ | refine And.intro ?_ ?_) | ((with_reducible intro hq); first | exact bne1 hq (by with_reducible assumption) | exact bne1 (by with_reducible assumption) hq | ((simp only [*, BB, cond_true, cond_false, reduceCtorEq] at hq); done) | (revert hq; with_reducible intro _)) | (with_reducible first | exact True.intro | rfl | refine EntLe.row ?_ | exact LeN.ro rfl | exact LeN.rptr | assumption) | ((with_reducible first | refine WkX.chk ?_ | refine Wk.chk ?_ | refine LeL.chk ?_ | refine LeF.chk ?_ | refine Run.mk ?_); (conv => whnf)) | ((with_reducible show LeO _ _); first | refine LeO.ro ?_ | refine LeO.roCap ?_ | refine LeO.nil ?_ (fun _ => rfl)) | ((with_reducible show LeR _ _ _); first | refine LeR.own rfl rfl rfl ?_ | refine LeR.view rfl rfl rfl ?_ ?_ | refine LeR.ro ?_ | refine LeR.roCap ?_ | refine LeR.nil ?_ (fun _ => rfl)) | ((with_reducible first | show drawOK _ _ = true | show lateOK _ _ = true | show drawOK2 _ _ = true | show drawOK3 _ _ = true); kernel_rfl)))
    all_goals first
      | rfl
      | trace_state
  have hi : i ≤ (isort ltO l).length := hi
  have e1 : ((i : Int)).toNat = i := Int.toNat_natCast _
  have hol := outTo_len (mvS f t (sgN s2 : Nat)) (isort ltO l) i
  by_cases hil : i < (isort ltO l).length
  · have hlt : decide ((i : Int) < ((isort ltO l).length : Int)) = true := decide_eq_true (by omega)
    have hxb := hin.at hil
    have hoy := outTo_yes (g := mvS f t (sgN s2 : Nat)) hil
    have hon := outTo_no (g := mvS f t (sgN s2 : Nat)) hil
    have hxe : ∃ x, x = (isort ltO l).getD i zS := ⟨_, rfl⟩
    obtain ⟨x, hx⟩ := hxe
    rw [← hx] at hxb hoy hon
    have hxx : (isort ltO l).getD ((i : Int)).toNat C_spn.d = x := by rw [e1, hd, hx]
    have hbb := bgn_bd (f := f) (t := t) (n := (sgN s2 : Nat)) (x := x.frm) hm.1 hm.2.1 (by omega) hxb.1
    have heb := eds_bd (f := f) (t := t) (n := (sgN s2 : Nat)) (x := x.to) hm.1 hm.2.1 (by omega) (by omega)
    repeat' (first | (with_reducible first | exact fun h => h | refine ExE.row (by with_unfolding_all rfl) ?_ | refine And.intro ?_ ?_) | ((with_reducible intro hq); first | exact bne1 hq (by with_reducible assumption) | exact bne1 (by with_reducible assumption) hq | ((simp only [*, BB, cond_true, cond_false, reduceCtorEq] at hq); done) | (revert hq; with_reducible intro _)) | (with_reducible first | exact True.intro | rfl | refine EntLe.row ?_ | exact LeN.ro rfl | exact LeN.rptr | assumption) | ((with_reducible first | refine WkX.chk ?_ | refine Wk.chk ?_ | refine LeL.chk ?_ | refine LeF.chk ?_ | refine Run.mk ?_); (conv => whnf)) | ((with_reducible show LeO _ _); first | refine LeO.ro ?_ | refine LeO.roCap ?_ | refine LeO.nil ?_ (fun _ => rfl)) | ((with_reducible show LeR _ _ _); first | refine LeR.own rfl rfl rfl ?_ | refine LeR.view rfl rfl rfl ?_ ?_ | refine LeR.ro ?_ | refine LeR.roCap ?_ | refine LeR.nil ?_ (fun _ => rfl)) | ((with_reducible first | show drawOK _ _ = true | show lateOK _ _ = true | show drawOK2 _ _ = true | show drawOK3 _ _ = true); kernel_rfl))
    any_goals omega
    refine joinI Unit [] (fun _ => []) (fun _ => [(6, .box [.v (.int .i64 (bgn f t (sgN s2 : Nat) x.frm)), .v (.int .i64 x.to), .v (.int .i64 x.kind), .v (.int .i64 x.val)] 71)]) (fun _ => True) ?_ fun _ _ => ?_
    · by_cases c1 : t ≤ x.frm
      · have kc : decide (t ≤ ((isort ltO l).getD ((i : Int)).toNat C_spn.d).frm) = true := by rw [hxx]; exact decide_eq_true c1
        have hv : bgn f t (sgN s2 : Nat) x.frm = x.frm + ((sgN s2 : Nat) - (t - f)) := by unfold bgn; rw [if_pos c1]
        repeat' (first | (with_reducible refine ex_of () trivial ?_) | (with_reducible first | exact fun h => h | refine ExE.row (by with_unfolding_all rfl) ?_ | refine And.intro ?_ ?_) | ((with_reducible intro hq); first | exact bne1 hq (by with_reducible assumption) | exact bne1 (by with_reducible assumption) hq | ((simp only [*, BB, cond_true, cond_false, reduceCtorEq] at hq); done) | (revert hq; with_reducible intro _)) | (with_reducible first | exact True.intro | rfl | refine EntLe.row ?_ | exact LeN.ro rfl | exact LeN.rptr | assumption) | ((with_reducible first | refine WkX.chk ?_ | refine Wk.chk ?_ | refine LeL.chk ?_ | refine LeF.chk ?_ | refine Run.mk ?_); (conv => whnf)) | ((with_reducible show LeO _ _); first | refine LeO.ro ?_ | refine LeO.roCap ?_ | refine LeO.nil ?_ (fun _ => rfl)) | ((with_reducible show LeR _ _ _); first | refine LeR.own rfl rfl rfl ?_ | refine LeR.view rfl rfl rfl ?_ ?_ | refine LeR.ro ?_ | refine LeR.roCap ?_ | refine LeR.nil ?_ (fun _ => rfl)) | ((with_reducible first | show drawOK _ _ = true | show lateOK _ _ = true | show drawOK2 _ _ = true | show drawOK3 _ _ = true); kernel_rfl))
        all_goals first
        | omega
        | (rw [hxx]; done)
        | (rw [hxx]; apply Fits.i64 <;> omega)
        | (apply Fits.i64 <;> omega)
        | (rw [hxx]; exact hv.symm)
        | exact hv.symm
        | trace_state

      have kc : decide (t ≤ ((isort ltO l).getD ((i : Int)).toNat C_spn.d).frm) = false := by rw [hxx]; exact decide_eq_false c1
      by_cases c2 : f < x.frm
      · have kd : decide (f < ((isort ltO l).getD ((i : Int)).toNat C_spn.d).frm) = true := by rw [hxx]; exact decide_eq_true c2
        have hv : bgn f t (sgN s2 : Nat) x.frm = f + (sgN s2 : Nat) := by unfold bgn; rw [if_neg c1, if_pos c2]
        repeat' (first | (with_reducible refine ex_of () trivial ?_) | (with_reducible first | exact fun h => h | refine ExE.row (by with_unfolding_all rfl) ?_ | refine And.intro ?_ ?_) | ((with_reducible intro hq); first | exact bne1 hq (by with_reducible assumption) | exact bne1 (by with_reducible assumption) hq | ((simp only [*, BB, cond_true, cond_false, reduceCtorEq] at hq); done) | (revert hq; with_reducible intro _)) | (with_reducible first | exact True.intro | rfl | refine EntLe.row ?_ | exact LeN.ro rfl | exact LeN.rptr | assumption) | ((with_reducible first | refine WkX.chk ?_ | refine Wk.chk ?_ | refine LeL.chk ?_ | refine LeF.chk ?_ | refine Run.mk ?_); (conv => whnf)) | ((with_reducible show LeO _ _); first | refine LeO.ro ?_ | refine LeO.roCap ?_ | refine LeO.nil ?_ (fun _ => rfl)) | ((with_reducible show LeR _ _ _); first | refine LeR.own rfl rfl rfl ?_ | refine LeR.view rfl rfl rfl ?_ ?_ | refine LeR.ro ?_ | refine LeR.roCap ?_ | refine LeR.nil ?_ (fun _ => rfl)) | ((with_reducible first | show drawOK _ _ = true | show lateOK _ _ = true | show drawOK2 _ _ = true | show drawOK3 _ _ = true); kernel_rfl))
        all_goals first
        | omega
        | (rw [hxx]; done)
        | (rw [hxx]; apply Fits.i64 <;> omega)
        | (apply Fits.i64 <;> omega)
        | (rw [hxx]; exact hv.symm)
        | exact hv.symm
        | trace_state

      · have kd : decide (f < ((isort ltO l).getD ((i : Int)).toNat C_spn.d).frm) = false := by rw [hxx]; exact decide_eq_false c2
        have hv : bgn f t (sgN s2 : Nat) x.frm = x.frm := by unfold bgn; rw [if_neg c1, if_neg c2]
        repeat' (first | (with_reducible refine ex_of () trivial ?_) | (with_reducible first | exact fun h => h | refine ExE.row (by with_unfolding_all rfl) ?_ | refine And.intro ?_ ?_) | ((with_reducible intro hq); first | exact bne1 hq (by with_reducible assumption) | exact bne1 (by with_reducible assumption) hq | ((simp only [*, BB, cond_true, cond_false, reduceCtorEq] at hq); done) | (revert hq; with_reducible intro _)) | (with_reducible first | exact True.intro | rfl | refine EntLe.row ?_ | exact LeN.ro rfl | exact LeN.rptr | assumption) | ((with_reducible first | refine WkX.chk ?_ | refine Wk.chk ?_ | refine LeL.chk ?_ | refine LeF.chk ?_ | refine Run.mk ?_); (conv => whnf)) | ((with_reducible show LeO _ _); first | refine LeO.ro ?_ | refine LeO.roCap ?_ | refine LeO.nil ?_ (fun _ => rfl)) | ((with_reducible show LeR _ _ _); first | refine LeR.own rfl rfl rfl ?_ | refine LeR.view rfl rfl rfl ?_ ?_ | refine LeR.ro ?_ | refine LeR.roCap ?_ | refine LeR.nil ?_ (fun _ => rfl)) | ((with_reducible first | show drawOK _ _ = true | show lateOK _ _ = true | show drawOK2 _ _ = true | show drawOK3 _ _ = true); kernel_rfl))
        all_goals first
        | omega
        | (rw [hxx]; done)
        | (rw [hxx]; apply Fits.i64 <;> omega)
        | (apply Fits.i64 <;> omega)
        | (rw [hxx]; exact hv.symm)
        | exact hv.symm
        | trace_state

    repeat' (first | (with_reducible first | exact fun h => h | refine ExE.row (by with_unfolding_all rfl) ?_ | refine And.intro ?_ ?_) | ((with_reducible intro hq); first | exact bne1 hq (by with_reducible assumption) | exact bne1 (by with_reducible assumption) hq | ((simp only [*, BB, cond_true, cond_false, reduceCtorEq] at hq); done) | (revert hq; with_reducible intro _)) | (with_reducible first | exact True.intro | rfl | refine EntLe.row ?_ | exact LeN.ro rfl | exact LeN.rptr | assumption) | ((with_reducible first | refine WkX.chk ?_ | refine Wk.chk ?_ | refine LeL.chk ?_ | refine LeF.chk ?_ | refine Run.mk ?_); (conv => whnf)) | ((with_reducible show LeO _ _); first | refine LeO.ro ?_ | refine LeO.roCap ?_ | refine LeO.nil ?_ (fun _ => rfl)) | ((with_reducible show LeR _ _ _); first | refine LeR.own rfl rfl rfl ?_ | refine LeR.view rfl rfl rfl ?_ ?_ | refine LeR.ro ?_ | refine LeR.roCap ?_ | refine LeR.nil ?_ (fun _ => rfl)) | ((with_reducible first | show drawOK _ _ = true | show lateOK _ _ = true | show drawOK2 _ _ = true | show drawOK3 _ _ = true); kernel_rfl))
    refine joinI Unit [] (fun _ => []) (fun _ => [(6, .box [.v (.int .i64 (bgn f t (sgN s2 : Nat) x.frm)), .v (.int .i64 (eds f t (sgN s2 : Nat) x.to)), .v (.int .i64 x.kind), .v (.int .i64 x.val)] 71)]) (fun _ => True) ?_ fun _ _ => ?_
    · by_cases c1 : x.to ≤ f
      · have kc : decide (x.to ≤ f) = true := decide_eq_true c1
        have hv : eds f t (sgN s2 : Nat) x.to = x.to := by unfold eds; rw [if_pos c1]
        repeat' (first | (with_reducible refine ex_of () trivial ?_) | (with_reducible first | exact fun h => h | refine ExE.row (by with_unfolding_all rfl) ?_ | refine And.intro ?_ ?_) | ((with_reducible intro hq); first | exact bne1 hq (by with_reducible assumption) | exact bne1 (by with_reducible assumption) hq | ((simp only [*, BB, cond_true, cond_false, reduceCtorEq] at hq); done) | (revert hq; with_reducible intro _)) | (with_reducible first | exact True.intro | rfl | refine EntLe.row ?_ | exact LeN.ro rfl | exact LeN.rptr | assumption) | ((with_reducible first | refine WkX.chk ?_ | refine Wk.chk ?_ | refine LeL.chk ?_ | refine LeF.chk ?_ | refine Run.mk ?_); (conv => whnf)) | ((with_reducible show LeO _ _); first | refine LeO.ro ?_ | refine LeO.roCap ?_ | refine LeO.nil ?_ (fun _ => rfl)) | ((with_reducible show LeR _ _ _); first | refine LeR.own rfl rfl rfl ?_ | refine LeR.view rfl rfl rfl ?_ ?_ | refine LeR.ro ?_ | refine LeR.roCap ?_ | refine LeR.nil ?_ (fun _ => rfl)) | ((with_reducible first | show drawOK _ _ = true | show lateOK _ _ = true | show drawOK2 _ _ = true | show drawOK3 _ _ = true); kernel_rfl))
        all_goals first
        | omega
        | (rw [hxx]; done)
        | (rw [hxx]; apply Fits.i64 <;> omega)
        | (apply Fits.i64 <;> omega)
        | (rw [hxx]; exact hv.symm)
        | exact hv.symm
        | trace_state

      have kc : decide (x.to ≤ f) = false := decide_eq_false c1
      by_cases c2 : t ≤ x.to
      · have kd : decide (t ≤ x.to) = true := decide_eq_true c2
        have hv : eds f t (sgN s2 : Nat) x.to = x.to + ((sgN s2 : Nat) - (t - f)) := by unfold eds; rw [if_neg c1, if_pos c2]
        repeat' (first | (with_reducible refine ex_of () trivial ?_) | (with_reducible first | exact fun h => h | refine ExE.row (by with_unfolding_all rfl) ?_ | refine And.intro ?_ ?_) | ((with_reducible intro hq); first | exact bne1 hq (by with_reducible assumption) | exact bne1 (by with_reducible assumption) hq | ((simp only [*, BB, cond_true, cond_false, reduceCtorEq] at hq); done) | (revert hq; with_reducible intro _)) | (with_reducible first | exact True.intro | rfl | refine EntLe.row ?_ | exact LeN.ro rfl | exact LeN.rptr | assumption) | ((with_reducible first | refine WkX.chk ?_ | refine Wk.chk ?_ | refine LeL.chk ?_ | refine LeF.chk ?_ | refine Run.mk ?_); (conv => whnf)) | ((with_reducible show LeO _ _); first | refine LeO.ro ?_ | refine LeO.roCap ?_ | refine LeO.nil ?_ (fun _ => rfl)) | ((with_reducible show LeR _ _ _); first | refine LeR.own rfl rfl rfl ?_ | refine LeR.view rfl rfl rfl ?_ ?_ | refine LeR.ro ?_ | refine LeR.roCap ?_ | refine LeR.nil ?_ (fun _ => rfl)) | ((with_reducible first | show drawOK _ _ = true | show lateOK _ _ = true | show drawOK2 _ _ = true | show drawOK3 _ _ = true); kernel_rfl))
        all_goals first
        | omega
        | (rw [hxx]; done)
        | (rw [hxx]; apply Fits.i64 <;> omega)
        | (apply Fits.i64 <;> omega)
        | (rw [hxx]; exact hv.symm)
        | exact hv.symm
        | trace_state

      · have kd : decide (t ≤ x.to) = false := decide_eq_false c2
        have hv : eds f t (sgN s2 : Nat) x.to = f := by unfold eds; rw [if_neg c1, if_neg c2]
        repeat' (first | (with_reducible refine ex_of () trivial ?_) | (with_reducible first | exact fun h => h | refine ExE.row (by with_unfolding_all rfl) ?_ | refine And.intro ?_ ?_) | ((with_reducible intro hq); first | exact bne1 hq (by with_reducible assumption) | exact bne1 (by with_reducible assumption) hq | ((simp only [*, BB, cond_true, cond_false, reduceCtorEq] at hq); done) | (revert hq; with_reducible intro _)) | (with_reducible first | exact True.intro | rfl | refine EntLe.row ?_ | exact LeN.ro rfl | exact LeN.rptr | assumption) | ((with_reducible first | refine WkX.chk ?_ | refine Wk.chk ?_ | refine LeL.chk ?_ | refine LeF.chk ?_ | refine Run.mk ?_); (conv => whnf)) | ((with_reducible show LeO _ _); first | refine LeO.ro ?_ | refine LeO.roCap ?_ | refine LeO.nil ?_ (fun _ => rfl)) | ((with_reducible show LeR _ _ _); first | refine LeR.own rfl rfl rfl ?_ | refine LeR.view rfl rfl rfl ?_ ?_ | refine LeR.ro ?_ | refine LeR.roCap ?_ | refine LeR.nil ?_ (fun _ => rfl)) | ((with_reducible first | show drawOK _ _ = true | show lateOK _ _ = true | show drawOK2 _ _ = true | show drawOK3 _ _ = true); kernel_rfl))
        all_goals first
        | omega
        | (rw [hxx]; done)
        | (rw [hxx]; apply Fits.i64 <;> omega)
        | (apply Fits.i64 <;> omega)
        | (rw [hxx]; exact hv.symm)
        | exact hv.symm
        | trace_state

    have hpb := Bool.eq_false_or_eq_true (posB (mvS f t (sgN s2 : Nat) x))
    rcases hpb with hpb | hpb
    · have hst := (hoy hpb).symm
      have kc : decide (bgn f t (sgN s2 : Nat) x.frm < eds f t (sgN s2 : Nat) x.to) = true := hpb
      clear hoy hon
      repeat' (first | (with_reducible refine ex_of (α := Nat) (i + 1) ⟨?_, ?_⟩ ?_) | (with_reducible first | exact fun h => h | refine ExE.row (by with_unfolding_all rfl) ?_ | refine And.intro ?_ ?_) | ((with_reducible intro hq); first | exact bne1 hq (by with_reducible assumption) | exact bne1 (by with_reducible assumption) hq | ((simp only [*, BB, cond_true, cond_false, reduceCtorEq] at hq); done) | (revert hq; with_reducible intro _)) | (with_reducible first | exact True.intro | rfl | refine EntLe.row ?_ | exact LeN.ro rfl | exact LeN.rptr | assumption) | ((with_reducible first | refine WkX.chk ?_ | refine Wk.chk ?_ | refine LeL.chk ?_ | refine LeF.chk ?_ | refine Run.mk ?_); (conv => whnf)) | ((with_reducible show LeO _ _); first | refine LeO.ro ?_ | refine LeO.roCap ?_ | refine LeO.nil ?_ (fun _ => rfl)) | ((with_reducible show LeR _ _ _); first | refine LeR.own rfl rfl rfl ?_ | refine LeR.view rfl rfl rfl ?_ ?_ | refine LeR.ro ?_ | refine LeR.roCap ?_ | refine LeR.nil ?_ (fun _ => rfl)) | ((with_reducible first | show drawOK _ _ = true | show lateOK _ _ = true | show drawOK2 _ _ = true | show drawOK3 _ _ = true); kernel_rfl))
      all_goals first
        | omega
        | rfl
        | (apply Fits.i64 <;> omega)
        | (show (isort ltO l).length - (i + 1) < (isort ltO l).length - i; omega)
        | (show ((outTo (mvS f t (sgN s2 : Nat)) (isort ltO l) i).length + 1) * 32 ≤ 140737488355328; omega)
        | exact hst
        | trace_state
    · have hst := (hon hpb).symm
      have kc : decide (bgn f t (sgN s2 : Nat) x.frm < eds f t (sgN s2 : Nat) x.to) = false := hpb
      clear hoy hon
      repeat' (first | (with_reducible refine ex_of (α := Nat) (i + 1) ⟨?_, ?_⟩ ?_) | (with_reducible first | exact fun h => h | refine ExE.row (by with_unfolding_all rfl) ?_ | refine And.intro ?_ ?_) | ((with_reducible intro hq); first | exact bne1 hq (by with_reducible assumption) | exact bne1 (by with_reducible assumption) hq | ((simp only [*, BB, cond_true, cond_false, reduceCtorEq] at hq); done) | (revert hq; with_reducible intro _)) | (with_reducible first | exact True.intro | rfl | refine EntLe.row ?_ | exact LeN.ro rfl | exact LeN.rptr | assumption) | ((with_reducible first | refine WkX.chk ?_ | refine Wk.chk ?_ | refine LeL.chk ?_ | refine LeF.chk ?_ | refine Run.mk ?_); (conv => whnf)) | ((with_reducible show LeO _ _); first | refine LeO.ro ?_ | refine LeO.roCap ?_ | refine LeO.nil ?_ (fun _ => rfl)) | ((with_reducible show LeR _ _ _); first | refine LeR.own rfl rfl rfl ?_ | refine LeR.view rfl rfl rfl ?_ ?_ | refine LeR.ro ?_ | refine LeR.roCap ?_ | refine LeR.nil ?_ (fun _ => rfl)) | ((with_reducible first | show drawOK _ _ = true | show lateOK _ _ = true | show drawOK2 _ _ = true | show drawOK3 _ _ = true); kernel_rfl))
      all_goals first
        | omega
        | rfl
        | (apply Fits.i64 <;> omega)
        | (show (isort ltO l).length - (i + 1) < (isort ltO l).length - i; omega)
        | exact hst
        | trace_state
  have hlt : decide ((i : Int) < ((isort ltO l).length : Int)) = false := decide_eq_false (by omega)
  have hii : i = (isort ltO l).length := by omega
  subst hii
  repeat' (first | (with_reducible first | exact fun h => h | refine ExE.row (by with_unfolding_all rfl) ?_ | refine And.intro ?_ ?_) | ((with_reducible intro hq); first | exact bne1 hq (by with_reducible assumption) | exact bne1 (by with_reducible assumption) hq | ((simp only [*, BB, cond_true, cond_false, reduceCtorEq] at hq); done) | (revert hq; with_reducible intro _)) | (with_reducible first | exact True.intro | rfl | refine EntLe.row ?_ | exact LeN.ro rfl | exact LeN.rptr | assumption) | ((with_reducible first | refine WkX.chk ?_ | refine Wk.chk ?_ | refine LeL.chk ?_ | refine LeF.chk ?_ | refine Run.mk ?_); (conv => whnf)) | ((with_reducible show LeO _ _); first | refine LeO.ro ?_ | refine LeO.roCap ?_ | refine LeO.nil ?_ (fun _ => rfl)) | ((with_reducible show LeR _ _ _); first | refine LeR.own rfl rfl rfl ?_ | refine LeR.view rfl rfl rfl ?_ ?_ | refine LeR.ro ?_ | refine LeR.roCap ?_ | refine LeR.nil ?_ (fun _ => rfl)) | ((with_reducible first | show drawOK _ _ = true | show lateOK _ _ = true | show drawOK2 _ _ = true | show drawOK3 _ _ = true); kernel_rfl))
  refine loopI Nat [] (fun j => [(167, .v (.int .i64 (j : Nat)))]) (fun j => [(5, .row C_spn (outTo (mvS f t (sgN s2 : Nat)) (isort ltO l) (isort ltO l).length ++ shTo f l2 j) 71 none)]) (fun j => j ≤ l2.length) (fun j => l2.length - j) 0 (Nat.zero_le _) (Wk.chk ?_) fun j hj => ?_
  · ((conv => whnf); repeat' (first | (with_reducible first | exact fun h => h | refine ExE.row (by with_unfolding_all rfl) ?_ | refine And.intro ?_ ?_) | ((with_reducible intro hq); first | exact bne1 hq (by with_reducible assumption) | exact bne1 (by with_reducible assumption) hq | ((simp only [*, BB, cond_true, cond_false, reduceCtorEq] at hq); done) | (revert hq; with_reducible intro _)) | (with_reducible first | exact True.intro | rfl | refine EntLe.row ?_ | exact LeN.ro rfl | exact LeN.rptr | assumption) | ((with_reducible first | refine WkX.chk ?_ | refine Wk.chk ?_ | refine LeL.chk ?_ | refine LeF.chk ?_ | refine Run.mk ?_); (conv => whnf)) | ((with_reducible show LeO _ _); first | refine LeO.ro ?_ | refine LeO.roCap ?_ | refine LeO.nil ?_ (fun _ => rfl)) | ((with_reducible show LeR _ _ _); first | refine LeR.own rfl rfl rfl ?_ | refine LeR.view rfl rfl rfl ?_ ?_ | refine LeR.ro ?_ | refine LeR.roCap ?_ | refine LeR.nil ?_ (fun _ => rfl)) | ((with_reducible first | show drawOK _ _ = true | show lateOK _ _ = true | show drawOK2 _ _ = true | show drawOK3 _ _ = true); kernel_rfl)))
    all_goals first
      | rfl
      | (simp [shTo]; done)
      | trace_state
  have hj : j ≤ l2.length := hj
  have e1 : ((j : Int)).toNat = j := Int.toNat_natCast _
  have hsl := shTo_len (k := f) hj
  by_cases hjl : j < l2.length
  · have hlt : decide ((j : Int) < (l2.length : Int)) = true := decide_eq_true (by omega)
    have hxb := hin2.at hjl
    have hst := shTo_step (k := f) hjl
    have hxx : l2.getD ((j : Int)).toNat C_spn.d = l2.getD j zS := by rw [e1, hd]
    have hst2 : outTo (mvS f t (sgN s2 : Nat)) (isort ltO l) (isort ltO l).length ++ shTo f l2 j ++ [shS f (l2.getD j zS)] = outTo (mvS f t (sgN s2 : Nat)) (isort ltO l) (isort ltO l).length ++ shTo f l2 (j + 1) := by rw [hst, List.append_assoc]
    repeat' (first | (with_reducible refine ex_of (α := Nat) (j + 1) ⟨?_, ?_⟩ ?_) | (with_reducible first | exact fun h => h | refine ExE.row (by with_unfolding_all rfl) ?_ | refine And.intro ?_ ?_) | ((with_reducible intro hq); first | exact bne1 hq (by with_reducible assumption) | exact bne1 (by with_reducible assumption) hq | ((simp only [*, BB, cond_true, cond_false, reduceCtorEq] at hq); done) | (revert hq; with_reducible intro _)) | (with_reducible first | exact True.intro | rfl | refine EntLe.row ?_ | exact LeN.ro rfl | exact LeN.rptr | assumption) | ((with_reducible first | refine WkX.chk ?_ | refine Wk.chk ?_ | refine LeL.chk ?_ | refine LeF.chk ?_ | refine Run.mk ?_); (conv => whnf)) | ((with_reducible show LeO _ _); first | refine LeO.ro ?_ | refine LeO.roCap ?_ | refine LeO.nil ?_ (fun _ => rfl)) | ((with_reducible show LeR _ _ _); first | refine LeR.own rfl rfl rfl ?_ | refine LeR.view rfl rfl rfl ?_ ?_ | refine LeR.ro ?_ | refine LeR.roCap ?_ | refine LeR.nil ?_ (fun _ => rfl)) | ((with_reducible first | show drawOK _ _ = true | show lateOK _ _ = true | show drawOK2 _ _ = true | show drawOK3 _ _ = true); kernel_rfl))
    all_goals first
      | omega
      | rfl
      | (apply Fits.i64 <;> omega)
      | (rw [hxx]; apply Fits.i64 <;> omega)
      | (show l2.length - (j + 1) < l2.length - j; omega)
      | (show ((outTo (mvS f t (sgN s2 : Nat)) (isort ltO l) (isort ltO l).length ++ shTo f l2 j).length + 1) * 32 ≤ 140737488355328; rw [List.length_append]; omega)
      | exact hst2
      | trace_state
  have hlt : decide ((j : Int) < (l2.length : Int)) = false := decide_eq_false (by omega)
  have hjj : j = l2.length := by omega
  subst hjj
  have hNL : outTo (mvS f t (sgN s2 : Nat)) (isort ltO l) (isort ltO l).length ++ shTo f l2 l2.length = newL l f t s2 l2 := rfl
  by_cases h7 : 256 < (newL l f t s2 l2).length
  · have hE := splE_6 h1 h2 h3 h4 h5 h6 h7
    have hT := splT_no (s := s) (l := l) (f := f) (t := t) (s2 := s2) (l2 := l2) (by rw [hE]; decide)
    have hL := splL_no (s := s) (l := l) (f := f) (t := t) (s2 := s2) (l2 := l2) (by rw [hE]; decide)
    have kc : decide ((256 : Int) < ((outTo (mvS f t (sgN s2 : Nat)) (isort ltO l) (isort ltO l).length ++ shTo f l2 l2.length).length : Int)) = true := decide_eq_true (by rw [hNL]; omega)
    repeat' (first | (with_reducible first | exact fun h => h | refine ExE.row (by with_unfolding_all rfl) ?_ | refine And.intro ?_ ?_) | ((with_reducible intro hq); first | exact bne1 hq (by with_reducible assumption) | exact bne1 (by with_reducible assumption) hq | ((simp only [*, BB, cond_true, cond_false, reduceCtorEq] at hq); done) | (revert hq; with_reducible intro _)) | (with_reducible first | exact True.intro | rfl | refine EntLe.row ?_ | exact LeN.ro rfl | exact LeN.rptr | assumption) | ((with_reducible first | refine WkX.chk ?_ | refine Wk.chk ?_ | refine LeL.chk ?_ | refine LeF.chk ?_ | refine Run.mk ?_); (conv => whnf)) | ((with_reducible show LeO _ _); first | refine LeO.ro ?_ | refine LeO.roCap ?_ | refine LeO.nil ?_ (fun _ => rfl)) | ((with_reducible show LeR _ _ _); first | refine LeR.own rfl rfl rfl ?_ | refine LeR.view rfl rfl rfl ?_ ?_ | refine LeR.ro ?_ | refine LeR.roCap ?_ | refine LeR.nil ?_ (fun _ => rfl)) | ((with_reducible first | show drawOK _ _ = true | show lateOK _ _ = true | show drawOK2 _ _ = true | show drawOK3 _ _ = true); kernel_rfl))
    all_goals first
      | exact hE.symm
      | exact hT.symm
      | exact hL.symm
      | trace_state
  · have hE := splE_7 h1 h2 h3 h4 h5 h6 h7
    have hT := splT_yes hE
    have hL := splL_yes hE
    have kc : decide ((256 : Int) < ((outTo (mvS f t (sgN s2 : Nat)) (isort ltO l) (isort ltO l).length ++ shTo f l2 l2.length).length : Int)) = false := decide_eq_false (by rw [hNL]; omega)
    repeat' (first | (with_reducible first | exact fun h => h | refine ExE.row (by with_unfolding_all rfl) ?_ | refine And.intro ?_ ?_) | ((with_reducible intro hq); first | exact bne1 hq (by with_reducible assumption) | exact bne1 (by with_reducible assumption) hq | ((simp only [*, BB, cond_true, cond_false, reduceCtorEq] at hq); done) | (revert hq; with_reducible intro _)) | (with_reducible first | exact True.intro | rfl | refine EntLe.row ?_ | exact LeN.ro rfl | exact LeN.rptr | assumption) | ((with_reducible first | refine WkX.chk ?_ | refine Wk.chk ?_ | refine LeL.chk ?_ | refine LeF.chk ?_ | refine Run.mk ?_); (conv => whnf)) | ((with_reducible show LeO _ _); first | refine LeO.ro ?_ | refine LeO.roCap ?_ | refine LeO.nil ?_ (fun _ => rfl)) | ((with_reducible show LeR _ _ _); first | refine LeR.own rfl rfl rfl ?_ | refine LeR.view rfl rfl rfl ?_ ?_ | refine LeR.ro ?_ | refine LeR.roCap ?_ | refine LeR.nil ?_ (fun _ => rfl)) | ((with_reducible first | show drawOK _ _ = true | show lateOK _ _ = true | show drawOK2 _ _ = true | show drawOK3 _ _ = true); kernel_rfl))
    all_goals first
      | exact hE.symm
      | exact hT.symm
      | exact hL.symm
      | trace_state
end Go.SX.Try
/- Laying one element into a row, told by its place. No program here. -/
namespace Go.SX.Plain
section
variable {α : Type} {d : α} {lt : α → α → Bool}
theorem isort_take {l : List α} {i : Nat} (h : i < l.length) : isort lt (l.take (i + 1)) = insR lt (l.getD i d) (isort lt (l.take i)) := by
  unfold isort mrg
  rw [← take_one l d h, List.foldl_append]
  rfl
theorem insR_at {S : List α} {x : α} {k : Nat} (hk : k ≤ S.length) (hq : ∀ j, k ≤ j → j < S.length → lt x (S.getD j d) = true) (hp : k = 0 ∨ lt x (S.getD (k - 1) d) = false) : insR lt x S = S.take k ++ x :: S.drop k := by
  have hq2 : ∀ z ∈ S.drop k, lt x z = true := fun z hz => by
    obtain ⟨j, hj, rfl⟩ := List.getElem_of_mem hz
    rw [List.length_drop] at hj
    have := hq (k + j) (by omega) (by omega)
    rw [List.getElem_drop]
    simpa [List.getD_eq_getElem?_getD, show k + j < S.length by omega] using this
  rcases Nat.eq_zero_or_pos k with rfl | h0
  · rw [List.drop_zero] at hq2
    rw [List.take_zero, List.drop_zero]
    exact insR_all hq2
  · rcases hp with hp | hp
    · omega
    · have e : S = S.take (k - 1) ++ [S.getD (k - 1) d] ++ S.drop k := by
        rw [take_one S d (show k - 1 < S.length by omega), show k - 1 + 1 = k by omega, List.take_append_drop]
      have hl := insR_last (lt := lt) (x := x) (z := S.getD (k - 1) d) (p := S.take (k - 1)) (q := S.drop k) hp hq2
      rw [← e] at hl
      rw [hl, take_one S d (show k - 1 < S.length by omega), show k - 1 + 1 = k by omega]
end
end Go.SX.Plain
/- A verified symbolic executor for Go code in the model: a row takes another one's name. -/
namespace Go.SX
open Go.RowKit
def moveE (i j : Nat) (p : Nat × Ent) : Option (Nat × Ent) := match p with
  | (k, e) => match e with
    | .loop _ _ _ _ _ _ _ _ _ => none
    | .defer _ => none
    | .box cs t => match Nat.beq k i with
      | true => none
      | false => some (match Nat.beq k j with | true => i | false => k, .box (AV.subL j (.own i) (AV.subL i .junk cs)) t)
    | .row C l t cap => match Nat.beq k i with
      | true => none
      | false => some (match Nat.beq k j with | true => i | false => k, .row C l t cap)
    | .iter s p => match Nat.beq k i with
      | true => none
      | false => some (match Nat.beq k j with | true => i | false => k, .iter s p)
def moveF (i j : Nat) (fr : Fr) : Fr := subF j (.own i) (subF i .junk fr)
def moveS (i j : Nat) (A : Sta) : Sta := match A with
  | ⟨fr, stk, m, nx⟩ => ⟨moveF i j fr, stk.map (moveF i j), m.filterMap (moveE i j), nx⟩
def Env.move (E : Env) (i j : Nat) : Env := { E with h := fun k => if k = i then E.h j else E.h k }
theorem Env.move_i (E : Env) (i j : Nat) : (E.move i j).h i = E.h j := if_pos rfl
theorem Env.move_ne (E : Env) {i j k : Nat} (h : k ≠ i) : (E.move i j).h k = E.h k := if_neg h
section
variable {base : Nat} {w0 : Start} {w : World} {E : Env} {stk : List Fr} {gs : List (Array Value)} {m : Mem}
theorem rel_move {i j : Nat} (hij : i ≠ j) (hi : ∀ b, E.h i ≠ .pointer (some ⟨b, 0, none⟩)) (hd : E.dom i) (hj : ∃ A n c, E.h j = .slice A n c) {a : AV} {v : Value} (h : Rel w E a v) : Rel w (E.move i j) (AV.sub j (.own i) (AV.sub i .junk a)) v := by
  have t1 : Turns i E (E.move i j) w w := ⟨fun id _ hne => E.move_ne hne, hi, fun _ h => h, fun _ h => h, fun _ h => h, fun _ _ => rfl⟩
  have hjj : (E.move i j).h j = E.h j := E.move_ne (Ne.symm hij)
  have hpj : ∀ b, (E.move i j).h j ≠ .pointer (some ⟨b, 0, none⟩) := fun b hb => by
    obtain ⟨A, n, c, hs⟩ := hj
    rw [hjj, hs] at hb
    cases hb
  have t2 : Turns j (E.move i j) (E.move i j) w w := ⟨fun id _ _ => rfl, hpj, fun _ h => h, fun _ h => h, fun _ h => h, fun _ _ => rfl⟩
  refine Rel.sub t2 (fun _ => ?_) (Rel.sub t1 (fun _ => .junk _) h)
  have := Rel.own (w := w) (E := E.move i j) (id := i) hd (by rw [E.move_i]; exact hj)
  rw [E.move_i] at this
  rw [hjj]
  exact this
theorem moveE_some {i j : Nat} {p q : Nat × Ent} (h : moveE i j p = some q) : p.1 ≠ i ∧ q.1 = (if p.1 = j then i else p.1) ∧
    ((∃ cs t, p.2 = .box cs t ∧ q.2 = .box (AV.subL j (.own i) (AV.subL i .junk cs)) t) ∨ q.2 = p.2 ∧ ((∃ (α : Type) (C : Cdc α) (l : List α) (t : Nat) (cap : Option Nat), p.2 = .row C l t cap) ∨ ∃ s pos, p.2 = .iter s pos)) := by
  obtain ⟨k, e⟩ := p
  have key : ∀ {e' : Ent}, (match Nat.beq k i with | true => none | false => some (match Nat.beq k j with | true => i | false => k, e')) = some q → k ≠ i ∧ q.1 = (if k = j then i else k) ∧ q.2 = e' := by
    intro e' h
    cases hb : Nat.beq k i with
    | true => rw [hb] at h; cases h
    | false =>
      rw [hb] at h
      have := Option.some.inj h
      subst this
      refine ⟨fun e => by subst e; simp at hb, ?_, rfl⟩
      cases hb2 : Nat.beq k j with
      | true => rw [if_pos (Nat.eq_of_beq_eq_true hb2)]
      | false => rw [if_neg (fun e => by subst e; simp at hb2)]
  cases e with
  | box cs t =>
    obtain ⟨a, b, c⟩ := key h
    exact ⟨a, b, .inl ⟨cs, t, rfl, c⟩⟩
  | row C l t cap =>
    obtain ⟨a, b, c⟩ := key h
    exact ⟨a, b, .inr ⟨c, .inl ⟨_, C, l, t, cap, rfl⟩⟩⟩
  | iter s p =>
    obtain ⟨a, b, c⟩ := key h
    exact ⟨a, b, .inr ⟨c, .inr ⟨s, p, rfl⟩⟩⟩
  | defer b => cases h
  | loop _ _ _ _ _ _ _ _ _ => cases h
theorem SatM.move (h : SatM base w0 E stk gs m w) {i j : Nat} (hij : i ≠ j) {α α' : Type} {C : Cdc α} {l : List α} {t : Nat} {cap : Option Nat} {C' : Cdc α'} {l' : List α'} {t' : Nat} {cap' : Option Nat} (hi : (i, Ent.row C' l' t' cap') ∈ m) (hj : (j, Ent.row C l t cap) ∈ m) :
    SatM base w0 (E.move i j) (stk.map (moveF i j)) gs (m.filterMap (moveE i j)) w := by
  have hsl : ∀ {k : Nat} {β : Type} {C : Cdc β} {l : List β} {t : Nat} {cap : Option Nat}, (k, Ent.row C l t cap) ∈ m → ∃ A n c, E.h k = .slice A n c := fun hk => by
    obtain ⟨_, ⟨_, _, ⟨xs, ho, _⟩, _⟩, _⟩ := h.ents _ _ hk
    rcases ho.2 with ⟨hv, _⟩ | ⟨g, c, cur, hv, _⟩
    · exact ⟨_, _, _, hv⟩
    · exact ⟨_, _, _, hv⟩
  have hpi : ∀ b, E.h i ≠ .pointer (some ⟨b, 0, none⟩) := fun b hb => by
    obtain ⟨A, n, c, hs⟩ := hsl hi
    rw [hs] at hb
    cases hb
  have hdi := (h.ents _ _ hi).1
  have hrel : ∀ {a : AV} {v : Value}, Rel w E a v → Rel w (E.move i j) (AV.sub j (.own i) (AV.sub i .junk a)) v := fun hr => rel_move hij hpi hdi (hsl hj) hr
  have hhq : ∀ {p q : Nat × Ent}, moveE i j p = some q → (E.move i j).h q.1 = E.h p.1 := fun {p q} hq => by
    obtain ⟨a, b, _⟩ := moveE_some hq
    rw [b]
    split
    · rename_i e; rw [E.move_i, e]
    · exact E.move_ne a
  refine ⟨h.below, h.hb, h.imm, h.keep, h.same, fun id e he => ?_, ?_, by rw [List.length_map]; exact h.len, fun k h1 h2 => ?_⟩
  · obtain ⟨⟨k, e0⟩, hp, hq⟩ := List.mem_filterMap.1 he
    have hh := hhq hq
    obtain ⟨a, b, c⟩ := moveE_some hq
    obtain ⟨d1, d2, d3⟩ := h.ents _ _ hp
    simp only at hh a b c
    refine ⟨?_, ?_, by rw [hh]; exact d3⟩
    · show E.dom id
      rw [b]
      split
      · exact hdi
      · exact d1
    · rcases c with ⟨cs, ty, rfl, rfl⟩ | ⟨rfl, ⟨β, C2, l2, t2, cap2, rfl⟩ | ⟨s, pos, rfl⟩⟩
      · obtain ⟨bb, vs, f1, f2, f3⟩ := d2
        refine ⟨bb, vs, by rw [hh]; exact f1, f2, ?_⟩
        refine ⟨by rw [AV.subL_length, AV.subL_length]; exact f3.1, fun n g1 g2 => ?_⟩
        have g3 : n < (AV.subL i .junk cs).length := by rw [AV.subL_length] at g1; exact g1
        have g4 : n < cs.length := by rw [AV.subL_length] at g3; exact g3
        rw [AV.subL_get _ _ _ n g1 g3, AV.subL_get _ _ _ n g3 g4]
        exact hrel (f3.2 n g4 g2)
      · obtain ⟨f1, f2, ⟨xs, f3, f4⟩, f5⟩ := d2
        refine ⟨f1, f2, ⟨xs, by rw [hh]; exact f3, f4.mono (Goes.bare (fun _ h => h) fun _ _ => rfl)⟩, by rw [hh]; exact f5⟩
      · obtain ⟨bb, f1, f2⟩ := d2
        exact ⟨bb, by rw [hh]; exact f1, f2⟩
  · refine List.Pairwise.filterMap (moveE i j) ?_ (h.disj.imp_of_mem (S := fun p q => (p.1 ≠ q.1 ∧ ∀ b, blk (E.h p.1) = some b → blk (E.h q.1) ≠ some b)) fun _ _ hr => hr)
    intro p q hr p' hp' q' hq'
    have e1 := hhq hp'
    have e2 := hhq hq'
    obtain ⟨a1, b1, _⟩ := moveE_some hp'
    obtain ⟨a2, b2, _⟩ := moveE_some hq'
    refine ⟨?_, fun b hb => by rw [e1] at hb; rw [e2]; exact hr.2 b hb⟩
    rw [b1, b2]
    have := hr.1
    split <;> split <;> omega
  · have hk : k < stk.length := by rw [List.length_map] at h1; exact h1
    rw [List.getElem_map]
    intro t
    rw [moveF, getS_subF, getS_subF]
    exact hrel (h.stk k hk h2 t)
end
theorem Wk.move {A : Sta} {i j : Nat} (hij : Nat.beq i j = false) {α α' : Type} {C : Cdc α} {l : List α} {t : Nat} {cap : Option Nat} {C' : Cdc α'} {l' : List α'} {t' : Nat} {cap' : Option Nat} (hi : getE A.m i = some (.row C' l' t' cap')) (hj : getE A.m j = some (.row C l t cap)) : Wk A (moveS i j A) :=
  ⟨fun base w0 E gs tm w hnx hS => by
    obtain ⟨fr, stk, m, nx⟩ := A
    exact ⟨E.move i j, hnx, hS.move (fun e => by subst e; simp at hij) (mem_of_getE hi) (mem_of_getE hj)⟩⟩
theorem ex_move {α : Type} {P : α → Prop} {A : Sta} {S : α → Sta} (a : α) (i j : Nat) (hij : Nat.beq i j = false) {β β' : Type} {C : Cdc β} {l : List β} {t : Nat} {cap : Option Nat} {C' : Cdc β'} {l' : List β'} {t' : Nat} {cap' : Option Nat} (hi : getE A.m i = some (.row C' l' t' cap')) (hj : getE A.m j = some (.row C l t cap)) (h : P a) (h2 : Wk (moveS i j A) (S a)) : ∃ j, P j ∧ Wk A (S j) :=
  ⟨a, h, (Wk.move hij hi hj).trans h2⟩
end Go.SX
/- Contracts of the document's may, part, begins, ends, moved, outer. -/
namespace Go.SX.Try
open Go.Proofs Go.Proofs.Try Go.SX.Plain
set_option maxRecDepth 100000
set_option maxHeartbeats 0
set_option linter.unusedSimpArgs false
theorem q_rmay : fact 56 f56 := ⟨by kernel_rfl, rfl, by kernel_rfl⟩
theorem q_rpart : fact 58 f58 := ⟨by kernel_rfl, rfl, by kernel_rfl⟩
theorem q_rbegins : fact 61 f61 := ⟨by kernel_rfl, rfl, by kernel_rfl⟩
theorem q_rends7 : fact 62 f62 := ⟨by kernel_rfl, rfl, by kernel_rfl⟩
theorem q_rmoved : fact 63 f63 := ⟨by kernel_rfl, rfl, by kernel_rfl⟩
theorem q_router : fact 60 f60 := ⟨by kernel_rfl, rfl, by kernel_rfl⟩
theorem con_rmay : Con prog 56 (fun ((f, t, n) : Int × Int × Int) => [.v (.int .i64 f), .v (.int .i64 t), .v (.int .i64 n)]) (fun (f, t, n) => .sb (mayB f t n)) (fun _ => True) := by
  refine Con.of (by kernel_rfl) T_ok CdsOK.nil .nil 3 [] q_rmay.1 q_rmay.2.1 q_rmay.2.2 (fun _ => rfl) fun i _ => ?_
  obtain ⟨f, t, n⟩ := i
  repeat' (first | (with_reducible first | exact fun h => h | refine ExE.row (by with_unfolding_all rfl) ?_ | refine And.intro ?_ ?_) | ((with_reducible intro hq); first | exact bne1 hq (by with_reducible assumption) | exact bne1 (by with_reducible assumption) hq | ((simp only [*, BB, cond_true, cond_false, reduceCtorEq] at hq); done) | (revert hq; with_reducible intro _)) | (with_reducible first | exact True.intro | rfl | refine EntLe.row ?_ | exact LeN.ro rfl | exact LeN.rptr | assumption) | ((with_reducible first | refine WkX.chk ?_ | refine Wk.chk ?_ | refine LeL.chk ?_ | refine LeF.chk ?_ | refine Run.mk ?_); (conv => whnf)) | ((with_reducible show LeO _ _); first | refine LeO.ro ?_ | refine LeO.roCap ?_ | refine LeO.nil ?_ (fun _ => rfl)) | ((with_reducible show LeR _ _ _); first | refine LeR.own rfl rfl rfl ?_ | refine LeR.view rfl rfl rfl ?_ ?_ | refine LeR.ro ?_ | refine LeR.roCap ?_ | refine LeR.nil ?_ (fun _ => rfl)) | ((with_reducible first | show drawOK _ _ = true | show lateOK _ _ = true | show drawOK2 _ _ = true | show drawOK3 _ _ = true); kernel_rfl))
  all_goals first
    | rfl
    | (unfold mayB; simp_all; done)
    | (unfold mayB; cases hc : (decide (0 ≤ f) && decide (f ≤ t)) <;> simp_all; done)
    | trace_state
theorem con_rpart : Con prog 58 (fun ((s, f, t) : ByteArray × Int × Int) => [.v (.string s), .v (.int .i64 f), .v (.int .i64 t)]) (fun (s, f, t) => .v (.string (cutT s f t))) (fun (s, _, _) => s.size ≤ 1100000) := by
  refine Con.of (by kernel_rfl) T_ok CdsOK.nil (.con con_rcut .nil) 3 [] q_rpart.1 q_rpart.2.1 q_rpart.2.2 (fun _ => rfl) fun i hi => ?_
  obtain ⟨s, f, t⟩ := i
  have hi : s.size ≤ 1100000 := hi
  repeat' (first | (with_reducible refine ⟨(_, _, _), ⟨(.cons (.v _) (.cons (.v _) (.cons (.v _) (.cons (.v _) .nil)))), ?_⟩, ?_⟩) | (with_reducible first | exact fun h => h | refine ExE.row (by with_unfolding_all rfl) ?_ | refine And.intro ?_ ?_) | ((with_reducible intro hq); first | exact bne1 hq (by with_reducible assumption) | exact bne1 (by with_reducible assumption) hq | ((simp only [*, BB, cond_true, cond_false, reduceCtorEq] at hq); done) | (revert hq; with_reducible intro _)) | (with_reducible first | exact True.intro | rfl | refine EntLe.row ?_ | exact LeN.ro rfl | exact LeN.rptr | assumption) | ((with_reducible first | refine WkX.chk ?_ | refine Wk.chk ?_ | refine LeL.chk ?_ | refine LeF.chk ?_ | refine Run.mk ?_); (conv => whnf)) | ((with_reducible show LeO _ _); first | refine LeO.ro ?_ | refine LeO.roCap ?_ | refine LeO.nil ?_ (fun _ => rfl)) | ((with_reducible show LeR _ _ _); first | refine LeR.own rfl rfl rfl ?_ | refine LeR.view rfl rfl rfl ?_ ?_ | refine LeR.ro ?_ | refine LeR.roCap ?_ | refine LeR.nil ?_ (fun _ => rfl)) | ((with_reducible first | show drawOK _ _ = true | show lateOK _ _ = true | show drawOK2 _ _ = true | show drawOK3 _ _ = true); kernel_rfl))
  all_goals first
    | exact hi
    | trace_state
abbrev Sm4 (f t n x : Int) : Prop := (0 ≤ f ∧ f ≤ 10000) ∧ (0 ≤ t ∧ t ≤ 10000) ∧ (0 ≤ n ∧ n ≤ 10000) ∧ 0 ≤ x ∧ x ≤ 10000
theorem con_rbegins : Con prog 61 (fun ((f, t, n, x) : Int × Int × Int × Int) => [.v (.int .i64 x), .v (.int .i64 f), .v (.int .i64 t), .v (.int .i64 n)]) (fun (f, t, n, x) => .v (.int .i64 (bgn f t n x))) (fun (f, t, n, x) => Sm4 f t n x) := by
  refine Con.of (by kernel_rfl) T_ok CdsOK.nil .nil 3 [] q_rbegins.1 q_rbegins.2.1 q_rbegins.2.2 (fun _ => rfl) fun i hi => ?_
  obtain ⟨f, t, n, x⟩ := i
  obtain ⟨⟨h1, h2⟩, ⟨h3, h4⟩, ⟨h5, h6⟩, h7, h8⟩ : Sm4 f t n x := hi
  repeat' (first | (with_reducible first | exact fun h => h | refine ExE.row (by with_unfolding_all rfl) ?_ | refine And.intro ?_ ?_) | ((with_reducible intro hq); first | exact bne1 hq (by with_reducible assumption) | exact bne1 (by with_reducible assumption) hq | ((simp only [*, BB, cond_true, cond_false, reduceCtorEq] at hq); done) | (revert hq; with_reducible intro _)) | (with_reducible first | exact True.intro | rfl | refine EntLe.row ?_ | exact LeN.ro rfl | exact LeN.rptr | assumption) | ((with_reducible first | refine WkX.chk ?_ | refine Wk.chk ?_ | refine LeL.chk ?_ | refine LeF.chk ?_ | refine Run.mk ?_); (conv => whnf)) | ((with_reducible show LeO _ _); first | refine LeO.ro ?_ | refine LeO.roCap ?_ | refine LeO.nil ?_ (fun _ => rfl)) | ((with_reducible show LeR _ _ _); first | refine LeR.own rfl rfl rfl ?_ | refine LeR.view rfl rfl rfl ?_ ?_ | refine LeR.ro ?_ | refine LeR.roCap ?_ | refine LeR.nil ?_ (fun _ => rfl)) | ((with_reducible first | show drawOK _ _ = true | show lateOK _ _ = true | show drawOK2 _ _ = true | show drawOK3 _ _ = true); kernel_rfl))
  all_goals (simp only [decide_eq_true_eq, decide_eq_false_iff_not] at *)
  all_goals first
    | (apply Fits.i64 <;> omega)
    | (unfold bgn; rw [if_pos (by omega)]; omega)
    | (unfold bgn; rw [if_neg (by omega), if_pos (by omega)]; done)
    | (unfold bgn; rw [if_neg (by omega), if_neg (by omega)]; done)
    | trace_state
theorem con_rends7 : Con prog 62 (fun ((f, t, n, x) : Int × Int × Int × Int) => [.v (.int .i64 x), .v (.int .i64 f), .v (.int .i64 t), .v (.int .i64 n)]) (fun (f, t, n, x) => .v (.int .i64 (eds f t n x))) (fun (f, t, n, x) => Sm4 f t n x) := by
  refine Con.of (by kernel_rfl) T_ok CdsOK.nil .nil 3 [] q_rends7.1 q_rends7.2.1 q_rends7.2.2 (fun _ => rfl) fun i hi => ?_
  obtain ⟨f, t, n, x⟩ := i
  obtain ⟨⟨h1, h2⟩, ⟨h3, h4⟩, ⟨h5, h6⟩, h7, h8⟩ : Sm4 f t n x := hi
  repeat' (first | (with_reducible first | exact fun h => h | refine ExE.row (by with_unfolding_all rfl) ?_ | refine And.intro ?_ ?_) | ((with_reducible intro hq); first | exact bne1 hq (by with_reducible assumption) | exact bne1 (by with_reducible assumption) hq | ((simp only [*, BB, cond_true, cond_false, reduceCtorEq] at hq); done) | (revert hq; with_reducible intro _)) | (with_reducible first | exact True.intro | rfl | refine EntLe.row ?_ | exact LeN.ro rfl | exact LeN.rptr | assumption) | ((with_reducible first | refine WkX.chk ?_ | refine Wk.chk ?_ | refine LeL.chk ?_ | refine LeF.chk ?_ | refine Run.mk ?_); (conv => whnf)) | ((with_reducible show LeO _ _); first | refine LeO.ro ?_ | refine LeO.roCap ?_ | refine LeO.nil ?_ (fun _ => rfl)) | ((with_reducible show LeR _ _ _); first | refine LeR.own rfl rfl rfl ?_ | refine LeR.view rfl rfl rfl ?_ ?_ | refine LeR.ro ?_ | refine LeR.roCap ?_ | refine LeR.nil ?_ (fun _ => rfl)) | ((with_reducible first | show drawOK _ _ = true | show lateOK _ _ = true | show drawOK2 _ _ = true | show drawOK3 _ _ = true); kernel_rfl))
  all_goals (simp only [decide_eq_true_eq, decide_eq_false_iff_not] at *)
  all_goals first
    | (apply Fits.i64 <;> omega)
    | (unfold eds; rw [if_pos (by omega)]; done)
    | (unfold eds; rw [if_neg (by omega), if_pos (by omega)]; omega)
    | (unfold eds; rw [if_neg (by omega), if_neg (by omega)]; done)
    | trace_state
theorem con_rmoved : Con prog 63 (fun ((l, k) : List Spn × Int) => [spR l, .v (.int .i64 k)]) (fun (l, k) => spO (shTo k l l.length)) (fun (l, k) => (0 ≤ k ∧ k ≤ 10000) ∧ l.length ≤ 1100000 ∧ InL l 10000) := by
  refine Con.of (by kernel_rfl) T_ok D_spn_ok .nil 3 [] q_rmoved.1 q_rmoved.2.1 q_rmoved.2.2 (fun _ => rfl) fun i hi => ?_
  obtain ⟨l, k⟩ := i
  obtain ⟨⟨h1, h2⟩, h3, hin⟩ : (0 ≤ k ∧ k ≤ 10000) ∧ l.length ≤ 1100000 ∧ InL l 10000 := hi
  have hd : C_spn.d = zS := rfl
  repeat' (first | (with_reducible first | exact fun h => h | refine ExE.row (by with_unfolding_all rfl) ?_ | refine And.intro ?_ ?_) | ((with_reducible intro hq); first | exact bne1 hq (by with_reducible assumption) | exact bne1 (by with_reducible assumption) hq | ((simp only [*, BB, cond_true, cond_false, reduceCtorEq] at hq); done) | (revert hq; with_reducible intro _)) | (with_reducible first | exact True.intro | rfl | refine EntLe.row ?_ | exact LeN.ro rfl | exact LeN.rptr | assumption) | ((with_reducible first | refine WkX.chk ?_ | refine Wk.chk ?_ | refine LeL.chk ?_ | refine LeF.chk ?_ | refine Run.mk ?_); (conv => whnf)) | ((with_reducible show LeO _ _); first | refine LeO.ro ?_ | refine LeO.roCap ?_ | refine LeO.nil ?_ (fun _ => rfl)) | ((with_reducible show LeR _ _ _); first | refine LeR.own rfl rfl rfl ?_ | refine LeR.view rfl rfl rfl ?_ ?_ | refine LeR.ro ?_ | refine LeR.roCap ?_ | refine LeR.nil ?_ (fun _ => rfl)) | ((with_reducible first | show drawOK _ _ = true | show lateOK _ _ = true | show drawOK2 _ _ = true | show drawOK3 _ _ = true); kernel_rfl))
  refine loopI Nat [] (fun j => [(6, .v (.int .i64 (j : Nat))), (5, .own 1)]) (fun j => [(1, .row C_spn (shTo k l j) 71 none)]) (fun j => j ≤ l.length) (fun j => l.length - j) 0 (Nat.zero_le _) (Wk.chk ?_) fun j hj => ?_
  · ((conv => whnf); repeat' (first | (with_reducible first | exact fun h => h | refine ExE.row (by with_unfolding_all rfl) ?_ | refine And.intro ?_ ?_) | ((with_reducible intro hq); first | exact bne1 hq (by with_reducible assumption) | exact bne1 (by with_reducible assumption) hq | ((simp only [*, BB, cond_true, cond_false, reduceCtorEq] at hq); done) | (revert hq; with_reducible intro _)) | (with_reducible first | exact True.intro | rfl | refine EntLe.row ?_ | exact LeN.ro rfl | exact LeN.rptr | assumption) | ((with_reducible first | refine WkX.chk ?_ | refine Wk.chk ?_ | refine LeL.chk ?_ | refine LeF.chk ?_ | refine Run.mk ?_); (conv => whnf)) | ((with_reducible show LeO _ _); first | refine LeO.ro ?_ | refine LeO.roCap ?_ | refine LeO.nil ?_ (fun _ => rfl)) | ((with_reducible show LeR _ _ _); first | refine LeR.own rfl rfl rfl ?_ | refine LeR.view rfl rfl rfl ?_ ?_ | refine LeR.ro ?_ | refine LeR.roCap ?_ | refine LeR.nil ?_ (fun _ => rfl)) | ((with_reducible first | show drawOK _ _ = true | show lateOK _ _ = true | show drawOK2 _ _ = true | show drawOK3 _ _ = true); kernel_rfl)))
    all_goals rfl
  have hj : j ≤ l.length := hj
  have e1 : ((j : Int)).toNat = j := Int.toNat_natCast _
  have hsl := shTo_len (k := k) hj
  by_cases hjl : j < l.length
  · have hlt : decide ((j : Int) < (l.length : Int)) = true := decide_eq_true (by omega)
    have hxb := hin.at hjl
    have hst := (shTo_step (k := k) hjl).symm
    have hxx : l.getD ((j : Int)).toNat C_spn.d = l.getD j zS := by rw [e1, hd]
    repeat' (first | (with_reducible refine ex_of (α := Nat) (j + 1) ⟨?_, ?_⟩ ?_) | (with_reducible first | exact fun h => h | refine ExE.row (by with_unfolding_all rfl) ?_ | refine And.intro ?_ ?_) | ((with_reducible intro hq); first | exact bne1 hq (by with_reducible assumption) | exact bne1 (by with_reducible assumption) hq | ((simp only [*, BB, cond_true, cond_false, reduceCtorEq] at hq); done) | (revert hq; with_reducible intro _)) | (with_reducible first | exact True.intro | rfl | refine EntLe.row ?_ | exact LeN.ro rfl | exact LeN.rptr | assumption) | ((with_reducible first | refine WkX.chk ?_ | refine Wk.chk ?_ | refine LeL.chk ?_ | refine LeF.chk ?_ | refine Run.mk ?_); (conv => whnf)) | ((with_reducible show LeO _ _); first | refine LeO.ro ?_ | refine LeO.roCap ?_ | refine LeO.nil ?_ (fun _ => rfl)) | ((with_reducible show LeR _ _ _); first | refine LeR.own rfl rfl rfl ?_ | refine LeR.view rfl rfl rfl ?_ ?_ | refine LeR.ro ?_ | refine LeR.roCap ?_ | refine LeR.nil ?_ (fun _ => rfl)) | ((with_reducible first | show drawOK _ _ = true | show lateOK _ _ = true | show drawOK2 _ _ = true | show drawOK3 _ _ = true); kernel_rfl))
    all_goals first
      | omega
      | rfl
      | (apply Fits.i64 <;> omega)
      | (rw [hxx]; apply Fits.i64 <;> omega)
      | (show l.length - (j + 1) < l.length - j; omega)
      | (show ((shTo k l j).length + 1) * 32 ≤ 140737488355328; omega)
      | exact hst
      | trace_state
  have hlt : decide ((j : Int) < (l.length : Int)) = false := decide_eq_false (by omega)
  have hjj : j = l.length := by omega
  subst hjj
  repeat' (first | (with_reducible first | exact fun h => h | refine ExE.row (by with_unfolding_all rfl) ?_ | refine And.intro ?_ ?_) | ((with_reducible intro hq); first | exact bne1 hq (by with_reducible assumption) | exact bne1 (by with_reducible assumption) hq | ((simp only [*, BB, cond_true, cond_false, reduceCtorEq] at hq); done) | (revert hq; with_reducible intro _)) | (with_reducible first | exact True.intro | rfl | refine EntLe.row ?_ | exact LeN.ro rfl | exact LeN.rptr | assumption) | ((with_reducible first | refine WkX.chk ?_ | refine Wk.chk ?_ | refine LeL.chk ?_ | refine LeF.chk ?_ | refine Run.mk ?_); (conv => whnf)) | ((with_reducible show LeO _ _); first | refine LeO.ro ?_ | refine LeO.roCap ?_ | refine LeO.nil ?_ (fun _ => rfl)) | ((with_reducible show LeR _ _ _); first | refine LeR.own rfl rfl rfl ?_ | refine LeR.view rfl rfl rfl ?_ ?_ | refine LeR.ro ?_ | refine LeR.roCap ?_ | refine LeR.nil ?_ (fun _ => rfl)) | ((with_reducible first | show drawOK _ _ = true | show lateOK _ _ = true | show drawOK2 _ _ = true | show drawOK3 _ _ = true); kernel_rfl))
  all_goals first
    | rfl
    | trace_state
theorem con_router : Con prog 60 (fun l : List Spn => [spR l]) (fun l => spO (isort ltO l)) (fun l => l.length ≤ 1100000) := by
  refine Con.of (by kernel_rfl) T_ok D_spn_ok .nil 3 [] q_router.1 q_router.2.1 q_router.2.2 (fun _ => rfl) fun l hl => ?_
  have hl : l.length ≤ 1100000 := hl
  have hd : C_spn.d = zS := rfl
  repeat' (first | (with_reducible first | exact fun h => h | refine ExE.row (by with_unfolding_all rfl) ?_ | refine And.intro ?_ ?_) | ((with_reducible intro hq); first | exact bne1 hq (by with_reducible assumption) | exact bne1 (by with_reducible assumption) hq | ((simp only [*, BB, cond_true, cond_false, reduceCtorEq] at hq); done) | (revert hq; with_reducible intro _)) | (with_reducible first | exact True.intro | rfl | refine EntLe.row ?_ | exact LeN.ro rfl | exact LeN.rptr | assumption) | ((with_reducible first | refine WkX.chk ?_ | refine Wk.chk ?_ | refine LeL.chk ?_ | refine LeF.chk ?_ | refine Run.mk ?_); (conv => whnf)) | ((with_reducible show LeO _ _); first | refine LeO.ro ?_ | refine LeO.roCap ?_ | refine LeO.nil ?_ (fun _ => rfl)) | ((with_reducible show LeR _ _ _); first | refine LeR.own rfl rfl rfl ?_ | refine LeR.view rfl rfl rfl ?_ ?_ | refine LeR.ro ?_ | refine LeR.roCap ?_ | refine LeR.nil ?_ (fun _ => rfl)) | ((with_reducible first | show drawOK _ _ = true | show lateOK _ _ = true | show drawOK2 _ _ = true | show drawOK3 _ _ = true); kernel_rfl))
  refine loopI Nat [] (fun i => [(4, .v (.int .i64 (i : Nat))), (3, .own 1)]) (fun i => [(1, .row C_spn (isort ltO (l.take i)) 71 none)]) (fun i => i ≤ l.length) (fun i => l.length - i) 0 (Nat.zero_le _) (Wk.chk ?_) fun i hi => ?_
  · ((conv => whnf); repeat' (first | (with_reducible first | exact fun h => h | refine ExE.row (by with_unfolding_all rfl) ?_ | refine And.intro ?_ ?_) | ((with_reducible intro hq); first | exact bne1 hq (by with_reducible assumption) | exact bne1 (by with_reducible assumption) hq | ((simp only [*, BB, cond_true, cond_false, reduceCtorEq] at hq); done) | (revert hq; with_reducible intro _)) | (with_reducible first | exact True.intro | rfl | refine EntLe.row ?_ | exact LeN.ro rfl | exact LeN.rptr | assumption) | ((with_reducible first | refine WkX.chk ?_ | refine Wk.chk ?_ | refine LeL.chk ?_ | refine LeF.chk ?_ | refine Run.mk ?_); (conv => whnf)) | ((with_reducible show LeO _ _); first | refine LeO.ro ?_ | refine LeO.roCap ?_ | refine LeO.nil ?_ (fun _ => rfl)) | ((with_reducible show LeR _ _ _); first | refine LeR.own rfl rfl rfl ?_ | refine LeR.view rfl rfl rfl ?_ ?_ | refine LeR.ro ?_ | refine LeR.roCap ?_ | refine LeR.nil ?_ (fun _ => rfl)) | ((with_reducible first | show drawOK _ _ = true | show lateOK _ _ = true | show drawOK2 _ _ = true | show drawOK3 _ _ = true); kernel_rfl)))
    all_goals rfl
  have hi : i ≤ l.length := hi
  have e1 : ((i : Int)).toNat = i := Int.toNat_natCast _
  by_cases hil : i < l.length
  · have hlt : decide ((i : Int) < (l.length : Int)) = true := decide_eq_true (by omega)
    have hst := isort_take (lt := ltO) (d := zS) hil
    have hxx : l.getD ((i : Int)).toNat C_spn.d = l.getD i zS := by rw [e1, hd]
    have hSl : (isort ltO (l.take i)).length = i := by rw [isort_len, List.length_take]; omega
    repeat' (first | (with_reducible first | exact fun h => h | refine ExE.row (by with_unfolding_all rfl) ?_ | refine And.intro ?_ ?_) | ((with_reducible intro hq); first | exact bne1 hq (by with_reducible assumption) | exact bne1 (by with_reducible assumption) hq | ((simp only [*, BB, cond_true, cond_false, reduceCtorEq] at hq); done) | (revert hq; with_reducible intro _)) | (with_reducible first | exact True.intro | rfl | refine EntLe.row ?_ | exact LeN.ro rfl | exact LeN.rptr | assumption) | ((with_reducible first | refine WkX.chk ?_ | refine Wk.chk ?_ | refine LeL.chk ?_ | refine LeF.chk ?_ | refine Run.mk ?_); (conv => whnf)) | ((with_reducible show LeO _ _); first | refine LeO.ro ?_ | refine LeO.roCap ?_ | refine LeO.nil ?_ (fun _ => rfl)) | ((with_reducible show LeR _ _ _); first | refine LeR.own rfl rfl rfl ?_ | refine LeR.view rfl rfl rfl ?_ ?_ | refine LeR.ro ?_ | refine LeR.roCap ?_ | refine LeR.nil ?_ (fun _ => rfl)) | ((with_reducible first | show drawOK _ _ = true | show lateOK _ _ = true | show drawOK2 _ _ = true | show drawOK3 _ _ = true); kernel_rfl))
    any_goals omega
    refine loopI Nat [] (fun k => [(6, .v (.int .i64 (k : Nat)))]) (fun _ => []) (fun k => k ≤ i ∧ ∀ j, k ≤ j → j < (isort ltO (l.take i)).length → ltO (l.getD i zS) ((isort ltO (l.take i)).getD j zS) = true) (fun k => k) i ⟨Nat.le_refl _, fun j h1 h2 => by omega⟩ (Wk.chk ?_) fun k hk => ?_
    · ((conv => whnf); repeat' (first | (with_reducible first | exact fun h => h | refine ExE.row (by with_unfolding_all rfl) ?_ | refine And.intro ?_ ?_) | ((with_reducible intro hq); first | exact bne1 hq (by with_reducible assumption) | exact bne1 (by with_reducible assumption) hq | ((simp only [*, BB, cond_true, cond_false, reduceCtorEq] at hq); done) | (revert hq; with_reducible intro _)) | (with_reducible first | exact True.intro | rfl | refine EntLe.row ?_ | exact LeN.ro rfl | exact LeN.rptr | assumption) | ((with_reducible first | refine WkX.chk ?_ | refine Wk.chk ?_ | refine LeL.chk ?_ | refine LeF.chk ?_ | refine Run.mk ?_); (conv => whnf)) | ((with_reducible show LeO _ _); first | refine LeO.ro ?_ | refine LeO.roCap ?_ | refine LeO.nil ?_ (fun _ => rfl)) | ((with_reducible show LeR _ _ _); first | refine LeR.own rfl rfl rfl ?_ | refine LeR.view rfl rfl rfl ?_ ?_ | refine LeR.ro ?_ | refine LeR.roCap ?_ | refine LeR.nil ?_ (fun _ => rfl)) | ((with_reducible first | show drawOK _ _ = true | show lateOK _ _ = true | show drawOK2 _ _ = true | show drawOK3 _ _ = true); kernel_rfl)))
      all_goals first
        | rfl
        | (rw [hSl]; done)
        | trace_state
    obtain ⟨hk1, hk2⟩ := hk
    by_cases hk0 : 0 < k
    · have k0 : decide ((0 : Int) < (k : Int)) = true := decide_eq_true (by omega)
      have e2 : ((k : Int) - 1).toNat = k - 1 := by omega
      have hW : (decide ((l.getD ((i : Int)).toNat C_spn.d).frm < ((isort ltO (l.take i)).getD (((k : Int) - 1)).toNat C_spn.d).frm) || ((l.getD ((i : Int)).toNat C_spn.d).frm == ((isort ltO (l.take i)).getD (((k : Int) - 1)).toNat C_spn.d).frm && decide (((isort ltO (l.take i)).getD (((k : Int) - 1)).toNat C_spn.d).to < (l.getD ((i : Int)).toNat C_spn.d).to))) = ltO (l.getD i zS) ((isort ltO (l.take i)).getD (k - 1) zS) := by
        rw [hxx, e2, hd, Bool.eq_iff_iff, ltO_iff]
        simp only [Bool.or_eq_true, Bool.and_eq_true, decide_eq_true_eq, beq_iff_eq]
      cases hc : ltO (l.getD i zS) ((isort ltO (l.take i)).getD (k - 1) zS) with
      | true =>
        rw [hc] at hW
        have kc : (decide ((0 : Int) < (k : Int)) && (decide ((l.getD ((i : Int)).toNat C_spn.d).frm < ((isort ltO (l.take i)).getD (((k : Int) - 1)).toNat C_spn.d).frm) || ((l.getD ((i : Int)).toNat C_spn.d).frm == ((isort ltO (l.take i)).getD (((k : Int) - 1)).toNat C_spn.d).frm && decide (((isort ltO (l.take i)).getD (((k : Int) - 1)).toNat C_spn.d).to < (l.getD ((i : Int)).toNat C_spn.d).to)))) = true := by rw [k0, hW]; rfl
        have hk3 : ∀ j, k - 1 ≤ j → j < (isort ltO (l.take i)).length → ltO (l.getD i zS) ((isort ltO (l.take i)).getD j zS) = true := fun j h1 h2 => by
          by_cases h : j = k - 1
          · rw [h]; exact hc
          · exact hk2 j (by omega) h2
        clear hW
        repeat' (first | (with_reducible refine ex_of (α := Nat) (k - 1) ⟨⟨?_, hk3⟩, ?_⟩ ?_) | (with_reducible first | exact fun h => h | refine ExE.row (by with_unfolding_all rfl) ?_ | refine And.intro ?_ ?_) | ((with_reducible intro hq); first | exact bne1 hq (by with_reducible assumption) | exact bne1 (by with_reducible assumption) hq | ((simp only [*, BB, cond_true, cond_false, reduceCtorEq] at hq); done) | (revert hq; with_reducible intro _)) | (with_reducible first | exact True.intro | rfl | refine EntLe.row ?_ | exact LeN.ro rfl | exact LeN.rptr | assumption) | ((with_reducible first | refine WkX.chk ?_ | refine Wk.chk ?_ | refine LeL.chk ?_ | refine LeF.chk ?_ | refine Run.mk ?_); (conv => whnf)) | ((with_reducible show LeO _ _); first | refine LeO.ro ?_ | refine LeO.roCap ?_ | refine LeO.nil ?_ (fun _ => rfl)) | ((with_reducible show LeR _ _ _); first | refine LeR.own rfl rfl rfl ?_ | refine LeR.view rfl rfl rfl ?_ ?_ | refine LeR.ro ?_ | refine LeR.roCap ?_ | refine LeR.nil ?_ (fun _ => rfl)) | ((with_reducible first | show drawOK _ _ = true | show lateOK _ _ = true | show drawOK2 _ _ = true | show drawOK3 _ _ = true); kernel_rfl))
        all_goals first
          | omega
          | (apply Fits.i64 <;> omega)
          | (show k - 1 < k; omega)
          | (simp only [Bool.and_eq_true, Bool.not_eq_true', decide_eq_true_eq, decide_eq_false_iff_not, beq_iff_eq] at *; omega)
          | (rw [Bool.and_eq_true]; exact ⟨by assumption, by assumption⟩)
          | (simp only [Bool.and_eq_true, Bool.not_eq_true']; first | exact ⟨by assumption, by assumption⟩ | exact ⟨⟨by assumption, by assumption⟩, by assumption⟩)
          | trace_state
      | false =>
        rw [hc] at hW
        have kc : (decide ((0 : Int) < (k : Int)) && (decide ((l.getD ((i : Int)).toNat C_spn.d).frm < ((isort ltO (l.take i)).getD (((k : Int) - 1)).toNat C_spn.d).frm) || ((l.getD ((i : Int)).toNat C_spn.d).frm == ((isort ltO (l.take i)).getD (((k : Int) - 1)).toNat C_spn.d).frm && decide (((isort ltO (l.take i)).getD (((k : Int) - 1)).toNat C_spn.d).to < (l.getD ((i : Int)).toNat C_spn.d).to)))) = false := by rw [k0, hW]; rfl
        clear hW
        have hins := insR_at (lt := ltO) (d := zS) (x := l.getD i zS) (S := isort ltO (l.take i)) (k := k) (by omega) hk2 (.inr hc)
        have hb1 : (0 + ((k : Int)).toNat).ble (isort ltO (l.take i)).length = true := Nat.ble_eq_true_of_le (by omega)
        have hb2 : (List.take ((k : Int)).toNat (List.drop 0 (isort ltO (l.take i)))).flatMap C_spn.enc = ((isort ltO (l.take i)).take k).flatMap C_spn.enc := rfl
        have hb3 : ((isort ltO (l.take i)).take k).length = ((k : Int)).toNat := by rw [List.length_take]; omega
        have hd1 : (0 + ((k : Int)).toNat + ((isort ltO (l.take i)).length - ((k : Int)).toNat)).ble (isort ltO (l.take i)).length = true := Nat.ble_eq_true_of_le (by omega)
        have hd2 : (List.take ((isort ltO (l.take i)).length - ((k : Int)).toNat) (List.drop (0 + ((k : Int)).toNat) (isort ltO (l.take i)))).flatMap C_spn.enc = ((isort ltO (l.take i)).drop k).flatMap C_spn.enc := by
          rw [show 0 + ((k : Int)).toNat = k by omega, List.take_of_length_le (by rw [List.length_drop]; omega)]
        have hd3 : ((isort ltO (l.take i)).drop k).length = (isort ltO (l.take i)).length - ((k : Int)).toNat := by rw [List.length_drop]; omega
        have hfin : [] ++ (isort ltO (l.take i)).take k ++ [l.getD ((i : Int)).toNat C_spn.d] ++ (isort ltO (l.take i)).drop k = isort ltO (l.take (i + 1)) := by
          rw [hxx, hst, hins, List.nil_append, List.append_assoc]; rfl
        repeat' (first | (with_reducible refine ex_of (α := List Spn) ((isort ltO (l.take i)).take k) ⟨hb1, hb2, hb3, fun _ => rfl⟩ ?_) | (with_reducible refine ex_of (α := List Spn) ((isort ltO (l.take i)).drop k) ⟨hd1, hd2, hd3, fun _ => rfl⟩ ?_) | (with_reducible refine ex_move (α := Nat) (i + 1) 1 3 rfl (by with_unfolding_all exact rfl) (by with_unfolding_all exact rfl) ⟨?_, ?_⟩ ?_) | (with_reducible first | exact fun h => h | refine ExE.row (by with_unfolding_all rfl) ?_ | refine And.intro ?_ ?_) | ((with_reducible intro hq); first | exact bne1 hq (by with_reducible assumption) | exact bne1 (by with_reducible assumption) hq | ((simp only [*, BB, cond_true, cond_false, reduceCtorEq] at hq); done) | (revert hq; with_reducible intro _)) | (with_reducible first | exact True.intro | rfl | refine EntLe.row ?_ | exact LeN.ro rfl | exact LeN.rptr | assumption) | ((with_reducible first | refine WkX.chk ?_ | refine Wk.chk ?_ | refine LeL.chk ?_ | refine LeF.chk ?_ | refine Run.mk ?_); (conv => whnf)) | ((with_reducible show LeO _ _); first | refine LeO.ro ?_ | refine LeO.roCap ?_ | refine LeO.nil ?_ (fun _ => rfl)) | ((with_reducible show LeR _ _ _); first | refine LeR.own rfl rfl rfl ?_ | refine LeR.view rfl rfl rfl ?_ ?_ | refine LeR.ro ?_ | refine LeR.roCap ?_ | refine LeR.nil ?_ (fun _ => rfl)) | ((with_reducible first | show drawOK _ _ = true | show lateOK _ _ = true | show drawOK2 _ _ = true | show drawOK3 _ _ = true); kernel_rfl))
        all_goals first
          | omega
          | (apply Fits.i64 <;> omega)
          | (with_reducible rfl)
          | (dsimp only [C_spn]; done)
          | (dsimp only; simp only [List.length_append, List.length_cons, List.length_nil, List.nil_append, hSl, hb3, hd3]; omega)
          | (dsimp only; omega)
          | exact hfin
          | (rw [Bool.and_eq_true]; exact ⟨by assumption, by assumption⟩)
          | (simp only [Bool.and_eq_true, Bool.not_eq_true']; first | exact ⟨by assumption, by assumption⟩ | exact ⟨⟨by assumption, by assumption⟩, by assumption⟩)
          | trace_state

    have k0 : decide ((0 : Int) < (k : Int)) = false := decide_eq_false (by omega)
    have hins := insR_at (lt := ltO) (d := zS) (x := l.getD i zS) (S := isort ltO (l.take i)) (k := k) (by omega) hk2 (.inl (by omega))
    have hb1 : (0 + ((k : Int)).toNat).ble (isort ltO (l.take i)).length = true := Nat.ble_eq_true_of_le (by omega)
    have hb2 : (List.take ((k : Int)).toNat (List.drop 0 (isort ltO (l.take i)))).flatMap C_spn.enc = ((isort ltO (l.take i)).take k).flatMap C_spn.enc := rfl
    have hb3 : ((isort ltO (l.take i)).take k).length = ((k : Int)).toNat := by rw [List.length_take]; omega
    have hd1 : (0 + ((k : Int)).toNat + ((isort ltO (l.take i)).length - ((k : Int)).toNat)).ble (isort ltO (l.take i)).length = true := Nat.ble_eq_true_of_le (by omega)
    have hd2 : (List.take ((isort ltO (l.take i)).length - ((k : Int)).toNat) (List.drop (0 + ((k : Int)).toNat) (isort ltO (l.take i)))).flatMap C_spn.enc = ((isort ltO (l.take i)).drop k).flatMap C_spn.enc := by
      rw [show 0 + ((k : Int)).toNat = k by omega, List.take_of_length_le (by rw [List.length_drop]; omega)]
    have hd3 : ((isort ltO (l.take i)).drop k).length = (isort ltO (l.take i)).length - ((k : Int)).toNat := by rw [List.length_drop]; omega
    have hfin : [] ++ (isort ltO (l.take i)).take k ++ [l.getD ((i : Int)).toNat C_spn.d] ++ (isort ltO (l.take i)).drop k = isort ltO (l.take (i + 1)) := by
      rw [hxx, hst, hins, List.nil_append, List.append_assoc]; rfl
    repeat' (first | (with_reducible refine ex_of (α := List Spn) ((isort ltO (l.take i)).take k) ⟨hb1, hb2, hb3, fun _ => rfl⟩ ?_) | (with_reducible refine ex_of (α := List Spn) ((isort ltO (l.take i)).drop k) ⟨hd1, hd2, hd3, fun _ => rfl⟩ ?_) | (with_reducible refine ex_move (α := Nat) (i + 1) 1 3 rfl (by with_unfolding_all exact rfl) (by with_unfolding_all exact rfl) ⟨?_, ?_⟩ ?_) | (with_reducible first | exact fun h => h | refine ExE.row (by with_unfolding_all rfl) ?_ | refine And.intro ?_ ?_) | ((with_reducible intro hq); first | exact bne1 hq (by with_reducible assumption) | exact bne1 (by with_reducible assumption) hq | ((simp only [*, BB, cond_true, cond_false, reduceCtorEq] at hq); done) | (revert hq; with_reducible intro _)) | (with_reducible first | exact True.intro | rfl | refine EntLe.row ?_ | exact LeN.ro rfl | exact LeN.rptr | assumption) | ((with_reducible first | refine WkX.chk ?_ | refine Wk.chk ?_ | refine LeL.chk ?_ | refine LeF.chk ?_ | refine Run.mk ?_); (conv => whnf)) | ((with_reducible show LeO _ _); first | refine LeO.ro ?_ | refine LeO.roCap ?_ | refine LeO.nil ?_ (fun _ => rfl)) | ((with_reducible show LeR _ _ _); first | refine LeR.own rfl rfl rfl ?_ | refine LeR.view rfl rfl rfl ?_ ?_ | refine LeR.ro ?_ | refine LeR.roCap ?_ | refine LeR.nil ?_ (fun _ => rfl)) | ((with_reducible first | show drawOK _ _ = true | show lateOK _ _ = true | show drawOK2 _ _ = true | show drawOK3 _ _ = true); kernel_rfl))
    all_goals first
      | omega
      | (apply Fits.i64 <;> omega)
      | (with_reducible rfl)
      | (dsimp only [C_spn]; done)
      | (dsimp only; simp only [List.length_append, List.length_cons, List.length_nil, List.nil_append, hSl, hb3, hd3]; omega)
      | (dsimp only; omega)
      | exact hfin
      | (rw [Bool.and_eq_true]; exact ⟨by assumption, by assumption⟩)
      | (simp only [Bool.and_eq_true, Bool.not_eq_true']; first | exact ⟨by assumption, by assumption⟩ | exact ⟨⟨by assumption, by assumption⟩, by assumption⟩)
      | trace_state

  have hlt : decide ((i : Int) < (l.length : Int)) = false := decide_eq_false (by omega)
  have hii : i = l.length := by omega
  subst hii
  have htk : l.take l.length = l := List.take_length
  repeat' (first | (with_reducible first | exact fun h => h | refine ExE.row (by with_unfolding_all rfl) ?_ | refine And.intro ?_ ?_) | ((with_reducible intro hq); first | exact bne1 hq (by with_reducible assumption) | exact bne1 (by with_reducible assumption) hq | ((simp only [*, BB, cond_true, cond_false, reduceCtorEq] at hq); done) | (revert hq; with_reducible intro _)) | (with_reducible first | exact True.intro | rfl | refine EntLe.row ?_ | exact LeN.ro rfl | exact LeN.rptr | assumption) | ((with_reducible first | refine WkX.chk ?_ | refine Wk.chk ?_ | refine LeL.chk ?_ | refine LeF.chk ?_ | refine Run.mk ?_); (conv => whnf)) | ((with_reducible show LeO _ _); first | refine LeO.ro ?_ | refine LeO.roCap ?_ | refine LeO.nil ?_ (fun _ => rfl)) | ((with_reducible show LeR _ _ _); first | refine LeR.own rfl rfl rfl ?_ | refine LeR.view rfl rfl rfl ?_ ?_ | refine LeR.ro ?_ | refine LeR.roCap ?_ | refine LeR.nil ?_ (fun _ => rfl)) | ((with_reducible first | show drawOK _ _ = true | show lateOK _ _ = true | show drawOK2 _ _ = true | show drawOK3 _ _ = true); kernel_rfl))
  all_goals first
    | (rw [htk]; done)
    | trace_state
end Go.SX.Try
/- Contract of the document's Splice. -/
namespace Go.SX.Try
open Go.Proofs Go.Proofs.Try Go.SX.Plain
set_option maxRecDepth 100000
set_option maxHeartbeats 0
set_option linter.unusedSimpArgs false
theorem q_rsplice : fact 17 f17 := ⟨by kernel_rfl, rfl, by kernel_rfl⟩
theorem con_rsplice : Con prog 17 (fun ((s, l, f, t, s2, l2) : ByteArray × List Spn × Int × Int × ByteArray × List Spn) => [txAV s l, .v (.int .i64 f), .v (.int .i64 t), txAV s2 l2])
    (fun (s, l, f, t, s2, l2) => .tup [txO (splT s l f t s2 l2) (splL s l f t s2 l2), .v (.int .i64 (splE s l f t s2 l2))]) (fun _ => True) := by
  refine Con.of (by kernel_rfl) T_ok D_spn_ok (.con con_rcheck7 (.con con_rmay (.con con_rpart (.con con_rmelts (.con con_rcount (.con con_router (.con con_rbegins (.con con_rends7 (.con con_rmoved .nil))))))))) 3 [10] q_rsplice.1 q_rsplice.2.1 q_rsplice.2.2 (fun _ => rfl) fun i _ => ?_
  obtain ⟨s, l, f, t, s2, l2⟩ := i
  by_cases h1 : chkN s.size l (sgN s : Nat) = 0
  case neg =>
    have k0 : (chkN s.size l (sgN s : Nat) == 0) = false := by simpa using h1
    have k1 : (chkN s.size l (sgN s : Nat) != 0) = true := by simpa using h1
    have hE := splE_1 (f := f) (t := t) (s2 := s2) (l2 := l2) h1
    have hT := splT_no (s := s) (l := l) (f := f) (t := t) (s2 := s2) (l2 := l2) (by rw [hE]; exact h1)
    have hL := splL_no (s := s) (l := l) (f := f) (t := t) (s2 := s2) (l2 := l2) (by rw [hE]; exact h1)
    repeat' (first | (with_reducible refine ⟨(s, l), ⟨(.cons (.agg (.cons (.v _) (.cons (.lent _ _ _ _ _ _) .nil))) .nil), ?_⟩, ?_⟩) | (with_reducible first | exact fun h => h | refine ExE.row (by with_unfolding_all rfl) ?_ | refine And.intro ?_ ?_) | ((with_reducible intro hq); first | exact bne1 hq (by with_reducible assumption) | exact bne1 (by with_reducible assumption) hq | ((simp only [*, BB, cond_true, cond_false, reduceCtorEq] at hq); done) | (revert hq; with_reducible intro _)) | (with_reducible first | exact True.intro | rfl | refine EntLe.row ?_ | exact LeN.ro rfl | exact LeN.rptr | assumption) | ((with_reducible first | refine WkX.chk ?_ | refine Wk.chk ?_ | refine LeL.chk ?_ | refine LeF.chk ?_ | refine Run.mk ?_); (conv => whnf)) | ((with_reducible show LeO _ _); first | refine LeO.ro ?_ | refine LeO.roCap ?_ | refine LeO.nil ?_ (fun _ => rfl)) | ((with_reducible show LeR _ _ _); first | refine LeR.own rfl rfl rfl ?_ | refine LeR.view rfl rfl rfl ?_ ?_ | refine LeR.ro ?_ | refine LeR.roCap ?_ | refine LeR.nil ?_ (fun _ => rfl)) | ((with_reducible first | show drawOK _ _ = true | show lateOK _ _ = true | show drawOK2 _ _ = true | show drawOK3 _ _ = true); kernel_rfl))
    all_goals first
      | exact hE.symm
      | exact hT.symm
      | exact hL.symm
      | trace_state
  have k0 : (chkN s.size l (sgN s : Nat) == 0) = true := by rw [h1]; rfl
  by_cases h2 : chkN s2.size l2 (sgN s2 : Nat) = 0
  case neg =>
    have k1 : (chkN s2.size l2 (sgN s2 : Nat) != 0) = true := by simpa using h2
    have hE := splE_2 (f := f) (t := t) h1 h2
    have hT := splT_no (s := s) (l := l) (f := f) (t := t) (s2 := s2) (l2 := l2) (by rw [hE]; exact h2)
    have hL := splL_no (s := s) (l := l) (f := f) (t := t) (s2 := s2) (l2 := l2) (by rw [hE]; exact h2)
    have h2' : Hid (¬ chkN s2.size l2 (sgN s2 : Nat) = 0) := ⟨h2⟩
    clear h2
    repeat' (first | (with_reducible refine ⟨(s, l), ⟨(.cons (.agg (.cons (.v _) (.cons (.lent _ _ _ _ _ _) .nil))) .nil), ?_⟩, ?_⟩) | (with_reducible refine ⟨(s2, l2), ⟨(.cons (.agg (.cons (.v _) (.cons (.lent _ _ _ _ _ _) .nil))) .nil), ?_⟩, ?_⟩) | (with_reducible first | exact fun h => h | refine ExE.row (by with_unfolding_all rfl) ?_ | refine And.intro ?_ ?_) | ((with_reducible intro hq); first | exact bne1 hq (by with_reducible assumption) | exact bne1 (by with_reducible assumption) hq | ((simp only [*, BB, cond_true, cond_false, reduceCtorEq] at hq); done) | (revert hq; with_reducible intro _)) | (with_reducible first | exact True.intro | rfl | refine EntLe.row ?_ | exact LeN.ro rfl | exact LeN.rptr | assumption) | ((with_reducible first | refine WkX.chk ?_ | refine Wk.chk ?_ | refine LeL.chk ?_ | refine LeF.chk ?_ | refine Run.mk ?_); (conv => whnf)) | ((with_reducible show LeO _ _); first | refine LeO.ro ?_ | refine LeO.roCap ?_ | refine LeO.nil ?_ (fun _ => rfl)) | ((with_reducible show LeR _ _ _); first | refine LeR.own rfl rfl rfl ?_ | refine LeR.view rfl rfl rfl ?_ ?_ | refine LeR.ro ?_ | refine LeR.roCap ?_ | refine LeR.nil ?_ (fun _ => rfl)) | ((with_reducible first | show drawOK _ _ = true | show lateOK _ _ = true | show drawOK2 _ _ = true | show drawOK3 _ _ = true); kernel_rfl))
    all_goals first
      | exact hE.symm
      | exact hT.symm
      | exact hL.symm
      | trace_state
  have k1 : (chkN s2.size l2 (sgN s2 : Nat) != 0) = false := by rw [h2]; rfl
  have ok1 := OkT.of h1
  have ok2 := OkT.of h2
  have hs := ok1.size
  have hs2 := ok2.size
  have hn := sgN_le s
  have hn2 := sgN_le s2
  have hh1 : Hid (chkN s.size l (sgN s : Nat) = 0) := ⟨h1⟩
  have hh2 : Hid (chkN s2.size l2 (sgN s2 : Nat) = 0) := ⟨h2⟩
  clear h1 h2
  have hmb := Bool.eq_false_or_eq_true (mayB f t (sgN s : Nat))
  rcases hmb with h3 | h3
  case inr =>
    have hE := splE_3 hh1.out hh2.out h3
    have hT := splT_no (s := s) (l := l) (f := f) (t := t) (s2 := s2) (l2 := l2) (by rw [hE]; decide)
    have hL := splL_no (s := s) (l := l) (f := f) (t := t) (s2 := s2) (l2 := l2) (by rw [hE]; decide)
    repeat' (first | (with_reducible refine ⟨(s, l), ⟨(.cons (.agg (.cons (.v _) (.cons (.lent _ _ _ _ _ _) .nil))) .nil), ?_⟩, ?_⟩) | (with_reducible refine ⟨(s2, l2), ⟨(.cons (.agg (.cons (.v _) (.cons (.lent _ _ _ _ _ _) .nil))) .nil), ?_⟩, ?_⟩) | (with_reducible refine ⟨_, ⟨(.cons (.v _) .nil), ?_⟩, ?_⟩) | (with_reducible refine ⟨(_, _, _), ⟨(.cons (.v _) (.cons (.v _) (.cons (.v _) .nil))), ?_⟩, ?_⟩) | (with_reducible first | exact fun h => h | refine ExE.row (by with_unfolding_all rfl) ?_ | refine And.intro ?_ ?_) | ((with_reducible intro hq); first | exact bne1 hq (by with_reducible assumption) | exact bne1 (by with_reducible assumption) hq | ((simp only [*, BB, cond_true, cond_false, reduceCtorEq] at hq); done) | (revert hq; with_reducible intro _)) | (with_reducible first | exact True.intro | rfl | refine EntLe.row ?_ | exact LeN.ro rfl | exact LeN.rptr | assumption) | ((with_reducible first | refine WkX.chk ?_ | refine Wk.chk ?_ | refine LeL.chk ?_ | refine LeF.chk ?_ | refine Run.mk ?_); (conv => whnf)) | ((with_reducible show LeO _ _); first | refine LeO.ro ?_ | refine LeO.roCap ?_ | refine LeO.nil ?_ (fun _ => rfl)) | ((with_reducible show LeR _ _ _); first | refine LeR.own rfl rfl rfl ?_ | refine LeR.view rfl rfl rfl ?_ ?_ | refine LeR.ro ?_ | refine LeR.roCap ?_ | refine LeR.nil ?_ (fun _ => rfl)) | ((with_reducible first | show drawOK _ _ = true | show lateOK _ _ = true | show drawOK2 _ _ = true | show drawOK3 _ _ = true); kernel_rfl))
    all_goals first
      | (dsimp only; omega)
      | exact hE.symm
      | exact hT.symm
      | exact hL.symm
      | trace_state
  have hm : 0 ≤ f ∧ f ≤ t ∧ t ≤ sgN s := by
    unfold mayB at h3
    simp only [Bool.and_eq_true, decide_eq_true_eq] at h3
    omega
  have p5 := posS_mono s (i := f.toNat) (j := t.toNat) (by omega) (by omega)
  have p6 := posS_le s t.toNat
  have hfs : (frontT s f).size = posS s f.toNat := by unfold frontT; rw [size_extract' (by omega)]; omega
  have hrs : (restT s t).size = s.size - posS s t.toNat := by unfold restT; exact size_extract' (Nat.le_refl _)
  have hnsz : (newT s f t s2).size = (frontT s f).size + s2.size + (restT s t).size := by unfold newT; rw [app_size, app_size]
  have hfsz : (frontT s f ++ s2).size = (frontT s f).size + s2.size := app_size _ _
  have hw2 : (frontT s f ++ s2 ++ restT s t).size = (newT s f t s2).size := rfl
  have hc1 : cutT s 0 f = frontT s f := by
    unfold cutT
    rw [if_pos ⟨by omega, by omega, by omega⟩, show (0 : Int).toNat = 0 from rfl, posS_zero]
    rfl
  have hc2 : cutT s t (sgN s : Nat) = restT s t := by
    unfold cutT
    rw [if_pos ⟨by omega, by omega, by omega⟩, Int.toNat_natCast, posS_end]
    rfl
  have hLl : (isort ltO l).length = l.length := isort_len l
  have hl := ok1.len
  have hl2 := ok2.len
  have hd : C_spn.d = zS := rfl
  repeat' (first | (with_reducible refine ⟨(s, l), ⟨(.cons (.agg (.cons (.v _) (.cons (.lent _ _ _ _ _ _) .nil))) .nil), ?_⟩, ?_⟩) | (with_reducible refine ⟨(s2, l2), ⟨(.cons (.agg (.cons (.v _) (.cons (.lent _ _ _ _ _ _) .nil))) .nil), ?_⟩, ?_⟩) | (with_reducible refine ⟨_, ⟨(.cons (.v _) .nil), ?_⟩, ?_⟩) | (with_reducible refine ⟨(_, _, _), ⟨(.cons (.v _) (.cons (.v _) (.cons (.v _) .nil))), ?_⟩, ?_⟩) | (with_reducible first | exact fun h => h | refine ExE.row (by with_unfolding_all rfl) ?_ | refine And.intro ?_ ?_) | ((with_reducible intro hq); first | exact bne1 hq (by with_reducible assumption) | exact bne1 (by with_reducible assumption) hq | ((simp only [*, BB, cond_true, cond_false, reduceCtorEq] at hq); done) | (revert hq; with_reducible intro _)) | (with_reducible first | exact True.intro | rfl | refine EntLe.row ?_ | exact LeN.ro rfl | exact LeN.rptr | assumption) | ((with_reducible first | refine WkX.chk ?_ | refine Wk.chk ?_ | refine LeL.chk ?_ | refine LeF.chk ?_ | refine Run.mk ?_); (conv => whnf)) | ((with_reducible show LeO _ _); first | refine LeO.ro ?_ | refine LeO.roCap ?_ | refine LeO.nil ?_ (fun _ => rfl)) | ((with_reducible show LeR _ _ _); first | refine LeR.own rfl rfl rfl ?_ | refine LeR.view rfl rfl rfl ?_ ?_ | refine LeR.ro ?_ | refine LeR.roCap ?_ | refine LeR.nil ?_ (fun _ => rfl)) | ((with_reducible first | show drawOK _ _ = true | show lateOK _ _ = true | show drawOK2 _ _ = true | show drawOK3 _ _ = true); kernel_rfl))
  all_goals (try (first | omega | (dsimp only; omega)))
  refine joinI Unit [] (fun _ => [(11, .v (.string (frontT s f))), (12, .v (.string (restT s t)))]) (fun _ => []) (fun _ => True) ?_ fun _ _ => ?_
  · repeat' (first | (with_reducible refine ⟨_, ⟨(.cons (.v _) .nil), ?_⟩, ?_⟩) | (with_reducible refine ⟨(_, _, _), ⟨(.cons (.v _) (.cons (.v _) (.cons (.v _) .nil))), ?_⟩, ?_⟩) | (with_reducible refine ex_of () trivial ?_) | (with_reducible first | exact fun h => h | refine ExE.row (by with_unfolding_all rfl) ?_ | refine And.intro ?_ ?_) | ((with_reducible intro hq); first | exact bne1 hq (by with_reducible assumption) | exact bne1 (by with_reducible assumption) hq | ((simp only [*, BB, cond_true, cond_false, reduceCtorEq] at hq); done) | (revert hq; with_reducible intro _)) | (with_reducible first | exact True.intro | rfl | refine EntLe.row ?_ | exact LeN.ro rfl | exact LeN.rptr | assumption) | ((with_reducible first | refine WkX.chk ?_ | refine Wk.chk ?_ | refine LeL.chk ?_ | refine LeF.chk ?_ | refine Run.mk ?_); (conv => whnf)) | ((with_reducible show LeO _ _); first | refine LeO.ro ?_ | refine LeO.roCap ?_ | refine LeO.nil ?_ (fun _ => rfl)) | ((with_reducible show LeR _ _ _); first | refine LeR.own rfl rfl rfl ?_ | refine LeR.view rfl rfl rfl ?_ ?_ | refine LeR.ro ?_ | refine LeR.roCap ?_ | refine LeR.nil ?_ (fun _ => rfl)) | ((with_reducible first | show drawOK _ _ = true | show lateOK _ _ = true | show drawOK2 _ _ = true | show drawOK3 _ _ = true); kernel_rfl))
    all_goals first
      | (dsimp only; omega)
      | exact hc1
      | exact hc2
      | trace_state
  by_cases h4 : 4096 < (newT s f t s2).size
  · have hE := splE_4 (l := l) (l2 := l2) hh1.out hh2.out h3 h4
    have hT := splT_no (s := s) (l := l) (f := f) (t := t) (s2 := s2) (l2 := l2) (by rw [hE]; decide)
    have hL := splL_no (s := s) (l := l) (f := f) (t := t) (s2 := s2) (l2 := l2) (by rw [hE]; decide)
    have k2 : decide ((4096 : Int) < ((frontT s f ++ s2 ++ restT s t).size : Int)) = true := decide_eq_true (by omega)
    repeat' (first | (with_reducible first | exact fun h => h | refine ExE.row (by with_unfolding_all rfl) ?_ | refine And.intro ?_ ?_) | ((with_reducible intro hq); first | exact bne1 hq (by with_reducible assumption) | exact bne1 (by with_reducible assumption) hq | ((simp only [*, BB, cond_true, cond_false, reduceCtorEq] at hq); done) | (revert hq; with_reducible intro _)) | (with_reducible first | exact True.intro | rfl | refine EntLe.row ?_ | exact LeN.ro rfl | exact LeN.rptr | assumption) | ((with_reducible first | refine WkX.chk ?_ | refine Wk.chk ?_ | refine LeL.chk ?_ | refine LeF.chk ?_ | refine Run.mk ?_); (conv => whnf)) | ((with_reducible show LeO _ _); first | refine LeO.ro ?_ | refine LeO.roCap ?_ | refine LeO.nil ?_ (fun _ => rfl)) | ((with_reducible show LeR _ _ _); first | refine LeR.own rfl rfl rfl ?_ | refine LeR.view rfl rfl rfl ?_ ?_ | refine LeR.ro ?_ | refine LeR.roCap ?_ | refine LeR.nil ?_ (fun _ => rfl)) | ((with_reducible first | show drawOK _ _ = true | show lateOK _ _ = true | show drawOK2 _ _ = true | show drawOK3 _ _ = true); kernel_rfl))
    all_goals first
      | omega
      | (apply Fits.i64 <;> omega)
      | (dsimp only; omega)
      | exact hE.symm
      | exact hT.symm
      | exact hL.symm
      | trace_state
  have k2 : decide ((4096 : Int) < ((frontT s f ++ s2 ++ restT s t).size : Int)) = false := decide_eq_false (by omega)
  have hfl : (frontT s f).size + s2.size + (restT s t).size ≤ 4096 := by omega
  have hms := Bool.eq_false_or_eq_true (meltB (frontT s f) s2)
  rcases hms with h5 | h5
  · have hE := splE_5 (l := l) (l2 := l2) hh1.out hh2.out h3 h4 (.inl h5)
    have hT := splT_no (s := s) (l := l) (f := f) (t := t) (s2 := s2) (l2 := l2) (by rw [hE]; decide)
    have hL := splL_no (s := s) (l := l) (f := f) (t := t) (s2 := s2) (l2 := l2) (by rw [hE]; decide)
    repeat' (first | (with_reducible refine ⟨(_, _), ⟨(.cons (.v _) (.cons (.v _) .nil)), ?_⟩, ?_⟩) | (with_reducible first | exact fun h => h | refine ExE.row (by with_unfolding_all rfl) ?_ | refine And.intro ?_ ?_) | ((with_reducible intro hq); first | exact bne1 hq (by with_reducible assumption) | exact bne1 (by with_reducible assumption) hq | ((simp only [*, BB, cond_true, cond_false, reduceCtorEq] at hq); done) | (revert hq; with_reducible intro _)) | (with_reducible first | exact True.intro | rfl | refine EntLe.row ?_ | exact LeN.ro rfl | exact LeN.rptr | assumption) | ((with_reducible first | refine WkX.chk ?_ | refine Wk.chk ?_ | refine LeL.chk ?_ | refine LeF.chk ?_ | refine Run.mk ?_); (conv => whnf)) | ((with_reducible show LeO _ _); first | refine LeO.ro ?_ | refine LeO.roCap ?_ | refine LeO.nil ?_ (fun _ => rfl)) | ((with_reducible show LeR _ _ _); first | refine LeR.own rfl rfl rfl ?_ | refine LeR.view rfl rfl rfl ?_ ?_ | refine LeR.ro ?_ | refine LeR.roCap ?_ | refine LeR.nil ?_ (fun _ => rfl)) | ((with_reducible first | show drawOK _ _ = true | show lateOK _ _ = true | show drawOK2 _ _ = true | show drawOK3 _ _ = true); kernel_rfl))
    all_goals first
      | omega
      | (apply Fits.i64 <;> omega)
      | (dsimp only; omega)
      | exact hE.symm
      | exact hT.symm
      | exact hL.symm
      | trace_state
  have hms := Bool.eq_false_or_eq_true (meltB (frontT s f ++ s2) (restT s t))
  rcases hms with h6 | h6
  · have hE := splE_5 (l := l) (l2 := l2) hh1.out hh2.out h3 h4 (.inr h6)
    have hT := splT_no (s := s) (l := l) (f := f) (t := t) (s2 := s2) (l2 := l2) (by rw [hE]; decide)
    have hL := splL_no (s := s) (l := l) (f := f) (t := t) (s2 := s2) (l2 := l2) (by rw [hE]; decide)
    have k6 : (meltB (frontT s f) s2 || meltB (frontT s f ++ s2) (restT s t)) = true := by rw [h5, h6]; rfl
    repeat' (first | (with_reducible refine ⟨(_, _), ⟨(.cons (.v _) (.cons (.v _) .nil)), ?_⟩, ?_⟩) | (with_reducible first | exact fun h => h | refine ExE.row (by with_unfolding_all rfl) ?_ | refine And.intro ?_ ?_) | ((with_reducible intro hq); first | exact bne1 hq (by with_reducible assumption) | exact bne1 (by with_reducible assumption) hq | ((simp only [*, BB, cond_true, cond_false, reduceCtorEq] at hq); done) | (revert hq; with_reducible intro _)) | (with_reducible first | exact True.intro | rfl | refine EntLe.row ?_ | exact LeN.ro rfl | exact LeN.rptr | assumption) | ((with_reducible first | refine WkX.chk ?_ | refine Wk.chk ?_ | refine LeL.chk ?_ | refine LeF.chk ?_ | refine Run.mk ?_); (conv => whnf)) | ((with_reducible show LeO _ _); first | refine LeO.ro ?_ | refine LeO.roCap ?_ | refine LeO.nil ?_ (fun _ => rfl)) | ((with_reducible show LeR _ _ _); first | refine LeR.own rfl rfl rfl ?_ | refine LeR.view rfl rfl rfl ?_ ?_ | refine LeR.ro ?_ | refine LeR.roCap ?_ | refine LeR.nil ?_ (fun _ => rfl)) | ((with_reducible first | show drawOK _ _ = true | show lateOK _ _ = true | show drawOK2 _ _ = true | show drawOK3 _ _ = true); kernel_rfl))
    all_goals first
      | omega
      | (apply Fits.i64 <;> omega)
      | (dsimp only; omega)
      | exact hE.symm
      | exact hT.symm
      | exact hL.symm
      | trace_state
  have k6 : (meltB (frontT s f) s2 || meltB (frontT s f ++ s2) (restT s t)) = false := by rw [h5, h6]; rfl
  repeat' (first | (with_reducible refine ⟨(_, _), ⟨(.cons (.v _) (.cons (.v _) .nil)), ?_⟩, ?_⟩) | (with_reducible refine ⟨_, ⟨(.cons (.v _) .nil), ?_⟩, ?_⟩) | (with_reducible refine ⟨_, ⟨(.cons (.lent _ _ _ _ _ _) .nil), ?_⟩, ?_⟩) | (with_reducible first | exact fun h => h | refine ExE.row (by with_unfolding_all rfl) ?_ | refine And.intro ?_ ?_) | ((with_reducible intro hq); first | exact bne1 hq (by with_reducible assumption) | exact bne1 (by with_reducible assumption) hq | ((simp only [*, BB, cond_true, cond_false, reduceCtorEq] at hq); done) | (revert hq; with_reducible intro _)) | (with_reducible first | exact True.intro | rfl | refine EntLe.row ?_ | exact LeN.ro rfl | exact LeN.rptr | assumption) | ((with_reducible first | refine WkX.chk ?_ | refine Wk.chk ?_ | refine LeL.chk ?_ | refine LeF.chk ?_ | refine Run.mk ?_); (conv => whnf)) | ((with_reducible show LeO _ _); first | refine LeO.ro ?_ | refine LeO.roCap ?_ | refine LeO.nil ?_ (fun _ => rfl)) | ((with_reducible show LeR _ _ _); first | refine LeR.own rfl rfl rfl ?_ | refine LeR.view rfl rfl rfl ?_ ?_ | refine LeR.ro ?_ | refine LeR.roCap ?_ | refine LeR.nil ?_ (fun _ => rfl)) | ((with_reducible first | show drawOK _ _ = true | show lateOK _ _ = true | show drawOK2 _ _ = true | show drawOK3 _ _ = true); kernel_rfl))
  all_goals (try (first | omega | (apply Fits.i64 <;> omega) | (dsimp only; omega) | (rw [h5]; rfl)))
  have hin := (spans_in ok1.spans).isort
  have hin2 := spans_in ok2.spans
  refine loopA 3 1 C_spn 71 (T := T) ⟨fun _ => rfl, by decide, _, rfl, rfl, by decide⟩ (by rfl) (by with_unfolding_all exact rfl) (by with_unfolding_all exact rfl) Nat [] (fun i => [(16, .v (.int .i64 (i : Nat)))]) (fun i => [(4, .row C_spn (outTo (mvS f t (sgN s2 : Nat)) (isort ltO l) i) 71 none)]) (fun i => i ≤ (isort ltO l).length) (fun i => (isort ltO l).length - i) 0 (Nat.zero_le _) (Wk.chk ?_) fun i hi => ?_
  · ((conv => whnf); repeat' (first | (with_reducible first | exact fun h => h | refine ExE.row (by with_unfolding_all rfl) ?_ | refine And.intro ?_ ?_) | ((with_reducible intro hq); first | exact bne1 hq (by with_reducible assumption) | exact bne1 (by with_reducible assumption) hq | ((simp only [*, BB, cond_true, cond_false, reduceCtorEq] at hq); done) | (revert hq; with_reducible intro _)) | (with_reducible first | exact True.intro | rfl | refine EntLe.row ?_ | exact LeN.ro rfl | exact LeN.rptr | assumption) | ((with_reducible first | refine WkX.chk ?_ | refine Wk.chk ?_ | refine LeL.chk ?_ | refine LeF.chk ?_ | refine Run.mk ?_); (conv => whnf)) | ((with_reducible show LeO _ _); first | refine LeO.ro ?_ | refine LeO.roCap ?_ | refine LeO.nil ?_ (fun _ => rfl)) | ((with_reducible show LeR _ _ _); first | refine LeR.own rfl rfl rfl ?_ | refine LeR.view rfl rfl rfl ?_ ?_ | refine LeR.ro ?_ | refine LeR.roCap ?_ | refine LeR.nil ?_ (fun _ => rfl)) | ((with_reducible first | show drawOK _ _ = true | show lateOK _ _ = true | show drawOK2 _ _ = true | show drawOK3 _ _ = true); kernel_rfl)))
    all_goals first
      | rfl
      | trace_state
  have hi : i ≤ (isort ltO l).length := hi
  have e1 : ((i : Int)).toNat = i := Int.toNat_natCast _
  have hol := outTo_len (mvS f t (sgN s2 : Nat)) (isort ltO l) i
  by_cases hil : i < (isort ltO l).length
  · have hlt : decide ((i : Int) < ((isort ltO l).length : Int)) = true := decide_eq_true (by omega)
    have hxb := hin.at hil
    have hoy := outTo_yes (g := mvS f t (sgN s2 : Nat)) hil
    have hon := outTo_no (g := mvS f t (sgN s2 : Nat)) hil
    have hxe : ∃ x, x = (isort ltO l).getD i zS := ⟨_, rfl⟩
    obtain ⟨x, hx⟩ := hxe
    rw [← hx] at hxb hoy hon
    have hxx : (isort ltO l).getD ((i : Int)).toNat C_spn.d = x := by rw [e1, hd, hx]
    have hbb := bgn_bd (f := f) (t := t) (n := (sgN s2 : Nat)) (x := x.frm) hm.1 hm.2.1 (by omega) hxb.1
    have heb := eds_bd (f := f) (t := t) (n := (sgN s2 : Nat)) (x := x.to) hm.1 hm.2.1 (by omega) (by omega)
    have hpb := Bool.eq_false_or_eq_true (posB (mvS f t (sgN s2 : Nat) x))
    have hs4 : Sm4 f t (sgN s2 : Nat) x.frm ∧ Sm4 f t (sgN s2 : Nat) x.to := ⟨⟨by omega, by omega, by omega, by omega⟩, by omega, by omega, by omega, by omega⟩
    rcases hpb with hpb | hpb
    · have hst := (hoy hpb).symm
      have kc : decide (bgn f t (sgN s2 : Nat) ((isort ltO l).getD ((i : Int)).toNat C_spn.d).frm < eds f t (sgN s2 : Nat) ((isort ltO l).getD ((i : Int)).toNat C_spn.d).to) = true := by rw [hxx]; exact hpb
      have hst2 : outTo (mvS f t (sgN s2 : Nat)) (isort ltO l) i ++ [mvS f t (sgN s2 : Nat) ((isort ltO l).getD ((i : Int)).toNat C_spn.d)] = outTo (mvS f t (sgN s2 : Nat)) (isort ltO l) (i + 1) := by rw [hxx]; exact hst
      clear hoy hon
      repeat' (first | (with_reducible refine ⟨(_, _, _, _), ⟨(.cons (.v _) (.cons (.v _) (.cons (.v _) (.cons (.v _) .nil)))), ?_⟩, ?_⟩) | (with_reducible refine ex_of (α := Nat) (i + 1) ⟨?_, ?_⟩ ?_) | (with_reducible first | exact fun h => h | refine ExE.row (by with_unfolding_all rfl) ?_ | refine And.intro ?_ ?_) | ((with_reducible intro hq); first | exact bne1 hq (by with_reducible assumption) | exact bne1 (by with_reducible assumption) hq | ((simp only [*, BB, cond_true, cond_false, reduceCtorEq] at hq); done) | (revert hq; with_reducible intro _)) | (with_reducible first | exact True.intro | rfl | refine EntLe.row ?_ | exact LeN.ro rfl | exact LeN.rptr | assumption) | ((with_reducible first | refine WkX.chk ?_ | refine Wk.chk ?_ | refine LeL.chk ?_ | refine LeF.chk ?_ | refine Run.mk ?_); (conv => whnf)) | ((with_reducible show LeO _ _); first | refine LeO.ro ?_ | refine LeO.roCap ?_ | refine LeO.nil ?_ (fun _ => rfl)) | ((with_reducible show LeR _ _ _); first | refine LeR.own rfl rfl rfl ?_ | refine LeR.view rfl rfl rfl ?_ ?_ | refine LeR.ro ?_ | refine LeR.roCap ?_ | refine LeR.nil ?_ (fun _ => rfl)) | ((with_reducible first | show drawOK _ _ = true | show lateOK _ _ = true | show drawOK2 _ _ = true | show drawOK3 _ _ = true); kernel_rfl))
      all_goals first
        | omega
        | (apply Fits.i64 <;> omega)
        | (rw [hxx]; omega)
        | (rw [hxx]; exact hs4.1)
        | (rw [hxx]; exact hs4.2)
        | (with_reducible rfl)
        | (dsimp only [C_spn]; done)
        | (dsimp only; simp only [List.length_append, List.length_cons, List.length_nil]; omega)
        | (dsimp only; omega)
        | exact hst2
        | trace_state
    · have hst := (hon hpb).symm
      have kc : decide (bgn f t (sgN s2 : Nat) ((isort ltO l).getD ((i : Int)).toNat C_spn.d).frm < eds f t (sgN s2 : Nat) ((isort ltO l).getD ((i : Int)).toNat C_spn.d).to) = false := by rw [hxx]; exact hpb
      clear hoy hon
      repeat' (first | (with_reducible refine ⟨(_, _, _, _), ⟨(.cons (.v _) (.cons (.v _) (.cons (.v _) (.cons (.v _) .nil)))), ?_⟩, ?_⟩) | (with_reducible refine ex_of (α := Nat) (i + 1) ⟨?_, ?_⟩ ?_) | (with_reducible first | exact fun h => h | refine ExE.row (by with_unfolding_all rfl) ?_ | refine And.intro ?_ ?_) | ((with_reducible intro hq); first | exact bne1 hq (by with_reducible assumption) | exact bne1 (by with_reducible assumption) hq | ((simp only [*, BB, cond_true, cond_false, reduceCtorEq] at hq); done) | (revert hq; with_reducible intro _)) | (with_reducible first | exact True.intro | rfl | refine EntLe.row ?_ | exact LeN.ro rfl | exact LeN.rptr | assumption) | ((with_reducible first | refine WkX.chk ?_ | refine Wk.chk ?_ | refine LeL.chk ?_ | refine LeF.chk ?_ | refine Run.mk ?_); (conv => whnf)) | ((with_reducible show LeO _ _); first | refine LeO.ro ?_ | refine LeO.roCap ?_ | refine LeO.nil ?_ (fun _ => rfl)) | ((with_reducible show LeR _ _ _); first | refine LeR.own rfl rfl rfl ?_ | refine LeR.view rfl rfl rfl ?_ ?_ | refine LeR.ro ?_ | refine LeR.roCap ?_ | refine LeR.nil ?_ (fun _ => rfl)) | ((with_reducible first | show drawOK _ _ = true | show lateOK _ _ = true | show drawOK2 _ _ = true | show drawOK3 _ _ = true); kernel_rfl))
      all_goals first
        | omega
        | (apply Fits.i64 <;> omega)
        | (rw [hxx]; omega)
        | (rw [hxx]; exact hs4.1)
        | (rw [hxx]; exact hs4.2)
        | (with_reducible rfl)
        | (dsimp only; omega)
        | exact hst
        | trace_state
  have hlt : decide ((i : Int) < ((isort ltO l).length : Int)) = false := decide_eq_false (by omega)
  have hii : i = (isort ltO l).length := by omega
  subst hii
  have hsl := shTo_len (k := f) (l := l2) (i := l2.length) (Nat.le_refl _)
  have hin3 : InL l2 10000 := fun x hx => by have := hin2 x hx; omega
  have hNL : outTo (mvS f t (sgN s2 : Nat)) (isort ltO l) (isort ltO l).length ++ shTo f l2 l2.length = newL l f t s2 l2 := rfl
  by_cases h7 : 256 < (newL l f t s2 l2).length
  · have hE := splE_6 hh1.out hh2.out h3 h4 h5 h6 h7
    have hT := splT_no (s := s) (l := l) (f := f) (t := t) (s2 := s2) (l2 := l2) (by rw [hE]; decide)
    have hL := splL_no (s := s) (l := l) (f := f) (t := t) (s2 := s2) (l2 := l2) (by rw [hE]; decide)
    have kc : decide ((256 : Int) < ((outTo (mvS f t (sgN s2 : Nat)) (isort ltO l) (isort ltO l).length ++ shTo f l2 l2.length).length : Int)) = true := decide_eq_true (by rw [hNL]; omega)
    repeat' (first | (with_reducible refine ⟨(l2, f), ⟨(.cons (.lent _ _ _ _ _ _) (.cons (.v _) .nil)), ?_⟩, ?_⟩) | (with_reducible refine ex_of (α := List Spn) (shTo f l2 l2.length) ⟨rfl, rfl, fun _ => rfl⟩ ?_) | (with_reducible first | exact fun h => h | refine ExE.row (by with_unfolding_all rfl) ?_ | refine And.intro ?_ ?_) | ((with_reducible intro hq); first | exact bne1 hq (by with_reducible assumption) | exact bne1 (by with_reducible assumption) hq | ((simp only [*, BB, cond_true, cond_false, reduceCtorEq] at hq); done) | (revert hq; with_reducible intro _)) | (with_reducible first | exact True.intro | rfl | refine EntLe.row ?_ | exact LeN.ro rfl | exact LeN.rptr | assumption) | ((with_reducible first | refine WkX.chk ?_ | refine Wk.chk ?_ | refine LeL.chk ?_ | refine LeF.chk ?_ | refine Run.mk ?_); (conv => whnf)) | ((with_reducible show LeO _ _); first | refine LeO.ro ?_ | refine LeO.roCap ?_ | refine LeO.nil ?_ (fun _ => rfl)) | ((with_reducible show LeR _ _ _); first | refine LeR.own rfl rfl rfl ?_ | refine LeR.view rfl rfl rfl ?_ ?_ | refine LeR.ro ?_ | refine LeR.roCap ?_ | refine LeR.nil ?_ (fun _ => rfl)) | ((with_reducible first | show drawOK _ _ = true | show lateOK _ _ = true | show drawOK2 _ _ = true | show drawOK3 _ _ = true); kernel_rfl))
    all_goals first
      | exact hE.symm
      | exact hT.symm
      | exact hL.symm
      | omega
      | exact hin3
      | (dsimp only; simp only [List.length_append, List.length_cons, List.length_nil, hsl]; omega)
      | trace_state
  · have hE := splE_7 hh1.out hh2.out h3 h4 h5 h6 h7
    have hT := splT_yes hE
    have hL := splL_yes hE
    have kc : decide ((256 : Int) < ((outTo (mvS f t (sgN s2 : Nat)) (isort ltO l) (isort ltO l).length ++ shTo f l2 l2.length).length : Int)) = false := decide_eq_false (by rw [hNL]; omega)
    repeat' (first | (with_reducible refine ⟨(l2, f), ⟨(.cons (.lent _ _ _ _ _ _) (.cons (.v _) .nil)), ?_⟩, ?_⟩) | (with_reducible refine ex_of (α := List Spn) (shTo f l2 l2.length) ⟨rfl, rfl, fun _ => rfl⟩ ?_) | (with_reducible first | exact fun h => h | refine ExE.row (by with_unfolding_all rfl) ?_ | refine And.intro ?_ ?_) | ((with_reducible intro hq); first | exact bne1 hq (by with_reducible assumption) | exact bne1 (by with_reducible assumption) hq | ((simp only [*, BB, cond_true, cond_false, reduceCtorEq] at hq); done) | (revert hq; with_reducible intro _)) | (with_reducible first | exact True.intro | rfl | refine EntLe.row ?_ | exact LeN.ro rfl | exact LeN.rptr | assumption) | ((with_reducible first | refine WkX.chk ?_ | refine Wk.chk ?_ | refine LeL.chk ?_ | refine LeF.chk ?_ | refine Run.mk ?_); (conv => whnf)) | ((with_reducible show LeO _ _); first | refine LeO.ro ?_ | refine LeO.roCap ?_ | refine LeO.nil ?_ (fun _ => rfl)) | ((with_reducible show LeR _ _ _); first | refine LeR.own rfl rfl rfl ?_ | refine LeR.view rfl rfl rfl ?_ ?_ | refine LeR.ro ?_ | refine LeR.roCap ?_ | refine LeR.nil ?_ (fun _ => rfl)) | ((with_reducible first | show drawOK _ _ = true | show lateOK _ _ = true | show drawOK2 _ _ = true | show drawOK3 _ _ = true); kernel_rfl))
    all_goals first
      | exact hE.symm
      | exact hT.symm
      | exact hL.symm
      | omega
      | exact hin3
      | (dsimp only; simp only [List.length_append, List.length_cons, List.length_nil, hsl]; omega)
      | trace_state
end Go.SX.Try
/- Contracts of the laws' SameSpans, SameText, head. -/
namespace Go.SX.Try
open Go.Proofs Go.Proofs.Try Go.SX.Plain
set_option maxRecDepth 100000
set_option maxHeartbeats 0
set_option linter.unusedSimpArgs false
theorem q_sameSpans : fact 64 f64 := ⟨by kernel_rfl, rfl, by kernel_rfl⟩
theorem q_sameText : fact 19 f19 := ⟨by kernel_rfl, rfl, by kernel_rfl⟩
theorem q_head7 : fact 20 f20 := ⟨by kernel_rfl, rfl, by kernel_rfl⟩
def spEqB (x y : Spn) : Bool := x.frm == y.frm && (x.to == y.to && (x.kind == y.kind && x.val == y.val))
theorem spEqB_eq (x y : Spn) : spEqB x y = decide (x = y) := by
  obtain ⟨a, b, c, d⟩ := x
  obtain ⟨a', b', c', d'⟩ := y
  rw [Bool.eq_iff_iff]
  simp only [spEqB, Bool.and_eq_true, beq_iff_eq, decide_eq_true_eq, Spn.mk.injEq]
theorem con_sameSpans : Con prog 64 (fun ((l, r) : List Spn × List Spn) => [spR l, spR r]) (fun (l, r) => .sb (decide (l = r))) (fun (l, _) => l.length ≤ 9000000000000000000) := by
  refine Con.of (by kernel_rfl) T_ok CdsOK.nil .nil 3 [] q_sameSpans.1 q_sameSpans.2.1 q_sameSpans.2.2 (fun _ => rfl) fun i hi => ?_
  obtain ⟨l, r⟩ := i
  have hl9 : l.length ≤ 9000000000000000000 := hi
  have hd : C_spn.d = zS := rfl
  by_cases hl : l.length = r.length
  case neg =>
    have k1 : ((l.length : Int) != (r.length : Int)) = true := by rw [bne_iff_ne]; omega
    have hne : decide (l = r) = false := decide_eq_false fun h => hl (by rw [h])
    repeat' (first | (with_reducible first | exact fun h => h | refine ExE.row (by with_unfolding_all rfl) ?_ | refine And.intro ?_ ?_) | ((with_reducible intro hq); first | exact bne1 hq (by with_reducible assumption) | exact bne1 (by with_reducible assumption) hq | ((simp only [*, BB, cond_true, cond_false, reduceCtorEq] at hq); done) | (revert hq; with_reducible intro _)) | (with_reducible first | exact True.intro | rfl | refine EntLe.row ?_ | exact LeN.ro rfl | exact LeN.rptr | assumption) | ((with_reducible first | refine WkX.chk ?_ | refine Wk.chk ?_ | refine LeL.chk ?_ | refine LeF.chk ?_ | refine Run.mk ?_); (conv => whnf)) | ((with_reducible show LeO _ _); first | refine LeO.ro ?_ | refine LeO.roCap ?_ | refine LeO.nil ?_ (fun _ => rfl)) | ((with_reducible show LeR _ _ _); first | refine LeR.own rfl rfl rfl ?_ | refine LeR.view rfl rfl rfl ?_ ?_ | refine LeR.ro ?_ | refine LeR.roCap ?_ | refine LeR.nil ?_ (fun _ => rfl)) | ((with_reducible first | show drawOK _ _ = true | show lateOK _ _ = true | show drawOK2 _ _ = true | show drawOK3 _ _ = true); kernel_rfl))
    all_goals first
      | exact hne.symm
      | trace_state
  have k1 : ((l.length : Int) != (r.length : Int)) = false := by rw [bne_eq_false_iff_eq]; omega
  repeat' (first | (with_reducible first | exact fun h => h | refine ExE.row (by with_unfolding_all rfl) ?_ | refine And.intro ?_ ?_) | ((with_reducible intro hq); first | exact bne1 hq (by with_reducible assumption) | exact bne1 (by with_reducible assumption) hq | ((simp only [*, BB, cond_true, cond_false, reduceCtorEq] at hq); done) | (revert hq; with_reducible intro _)) | (with_reducible first | exact True.intro | rfl | refine EntLe.row ?_ | exact LeN.ro rfl | exact LeN.rptr | assumption) | ((with_reducible first | refine WkX.chk ?_ | refine Wk.chk ?_ | refine LeL.chk ?_ | refine LeF.chk ?_ | refine Run.mk ?_); (conv => whnf)) | ((with_reducible show LeO _ _); first | refine LeO.ro ?_ | refine LeO.roCap ?_ | refine LeO.nil ?_ (fun _ => rfl)) | ((with_reducible show LeR _ _ _); first | refine LeR.own rfl rfl rfl ?_ | refine LeR.view rfl rfl rfl ?_ ?_ | refine LeR.ro ?_ | refine LeR.roCap ?_ | refine LeR.nil ?_ (fun _ => rfl)) | ((with_reducible first | show drawOK _ _ = true | show lateOK _ _ = true | show drawOK2 _ _ = true | show drawOK3 _ _ = true); kernel_rfl))
  refine loopI Nat [] (fun i => [(5, .v (.int .i64 (i : Nat)))]) (fun _ => []) (fun i => i ≤ l.length ∧ ∀ k, k < i → l.getD k zS = r.getD k zS) (fun i => l.length - i) 0 ⟨Nat.zero_le _, fun k h => absurd h (Nat.not_lt_zero _)⟩ (Wk.chk ?_) fun i hx => ?_
  · ((conv => whnf); repeat' (first | (with_reducible first | exact fun h => h | refine ExE.row (by with_unfolding_all rfl) ?_ | refine And.intro ?_ ?_) | ((with_reducible intro hq); first | exact bne1 hq (by with_reducible assumption) | exact bne1 (by with_reducible assumption) hq | ((simp only [*, BB, cond_true, cond_false, reduceCtorEq] at hq); done) | (revert hq; with_reducible intro _)) | (with_reducible first | exact True.intro | rfl | refine EntLe.row ?_ | exact LeN.ro rfl | exact LeN.rptr | assumption) | ((with_reducible first | refine WkX.chk ?_ | refine Wk.chk ?_ | refine LeL.chk ?_ | refine LeF.chk ?_ | refine Run.mk ?_); (conv => whnf)) | ((with_reducible show LeO _ _); first | refine LeO.ro ?_ | refine LeO.roCap ?_ | refine LeO.nil ?_ (fun _ => rfl)) | ((with_reducible show LeR _ _ _); first | refine LeR.own rfl rfl rfl ?_ | refine LeR.view rfl rfl rfl ?_ ?_ | refine LeR.ro ?_ | refine LeR.roCap ?_ | refine LeR.nil ?_ (fun _ => rfl)) | ((with_reducible first | show drawOK _ _ = true | show lateOK _ _ = true | show drawOK2 _ _ = true | show drawOK3 _ _ = true); kernel_rfl)))
    all_goals rfl
  obtain ⟨hi1, hi2⟩ := hx
  have e1 : ((i : Nat) : Int).toNat = i := Int.toNat_natCast _
  by_cases hil : i < l.length
  · have hlt : decide ((i : Int) < (l.length : Int)) = true := decide_eq_true (by omega)
    have hW : ((l.getD ((i : Nat) : Int).toNat C_spn.d).frm == (r.getD ((i : Nat) : Int).toNat C_spn.d).frm && ((l.getD ((i : Nat) : Int).toNat C_spn.d).to == (r.getD ((i : Nat) : Int).toNat C_spn.d).to && ((l.getD ((i : Nat) : Int).toNat C_spn.d).kind == (r.getD ((i : Nat) : Int).toNat C_spn.d).kind && (l.getD ((i : Nat) : Int).toNat C_spn.d).val == (r.getD ((i : Nat) : Int).toNat C_spn.d).val))) = decide (l.getD i zS = r.getD i zS) := by
      rw [e1, hd]
      exact spEqB_eq _ _
    by_cases he : l.getD i zS = r.getD i zS
    · rw [decide_eq_true he] at hW
      have k4 : (!((l.getD ((i : Nat) : Int).toNat C_spn.d).frm == (r.getD ((i : Nat) : Int).toNat C_spn.d).frm && ((l.getD ((i : Nat) : Int).toNat C_spn.d).to == (r.getD ((i : Nat) : Int).toNat C_spn.d).to && ((l.getD ((i : Nat) : Int).toNat C_spn.d).kind == (r.getD ((i : Nat) : Int).toNat C_spn.d).kind && (l.getD ((i : Nat) : Int).toNat C_spn.d).val == (r.getD ((i : Nat) : Int).toNat C_spn.d).val)))) = false := by rw [hW]; rfl
      have hi3 : ∀ k, k < i + 1 → l.getD k zS = r.getD k zS := fun k hk => by
        by_cases h : k = i
        · rw [h]; exact he
        · exact hi2 k (by omega)
      clear he hW
      repeat' (first | (with_reducible refine ex_of (α := Nat) (i + 1) ⟨⟨?_, hi3⟩, ?_⟩ ?_) | (with_reducible first | exact fun h => h | refine ExE.row (by with_unfolding_all rfl) ?_ | refine And.intro ?_ ?_) | ((with_reducible intro hq); first | exact bne1 hq (by with_reducible assumption) | exact bne1 (by with_reducible assumption) hq | ((simp only [*, BB, cond_true, cond_false, reduceCtorEq] at hq); done) | (revert hq; with_reducible intro _)) | (with_reducible first | exact True.intro | rfl | refine EntLe.row ?_ | exact LeN.ro rfl | exact LeN.rptr | assumption) | ((with_reducible first | refine WkX.chk ?_ | refine Wk.chk ?_ | refine LeL.chk ?_ | refine LeF.chk ?_ | refine Run.mk ?_); (conv => whnf)) | ((with_reducible show LeO _ _); first | refine LeO.ro ?_ | refine LeO.roCap ?_ | refine LeO.nil ?_ (fun _ => rfl)) | ((with_reducible show LeR _ _ _); first | refine LeR.own rfl rfl rfl ?_ | refine LeR.view rfl rfl rfl ?_ ?_ | refine LeR.ro ?_ | refine LeR.roCap ?_ | refine LeR.nil ?_ (fun _ => rfl)) | ((with_reducible first | show drawOK _ _ = true | show lateOK _ _ = true | show drawOK2 _ _ = true | show drawOK3 _ _ = true); kernel_rfl))
      all_goals first
        | omega
        | (apply Fits.i64 <;> omega)
        | (dsimp only; omega)
        | trace_state
    · rw [decide_eq_false he] at hW
      have k4 : (!((l.getD ((i : Nat) : Int).toNat C_spn.d).frm == (r.getD ((i : Nat) : Int).toNat C_spn.d).frm && ((l.getD ((i : Nat) : Int).toNat C_spn.d).to == (r.getD ((i : Nat) : Int).toNat C_spn.d).to && ((l.getD ((i : Nat) : Int).toNat C_spn.d).kind == (r.getD ((i : Nat) : Int).toNat C_spn.d).kind && (l.getD ((i : Nat) : Int).toNat C_spn.d).val == (r.getD ((i : Nat) : Int).toNat C_spn.d).val)))) = true := by rw [hW]; rfl
      have hne : decide (l = r) = false := decide_eq_false fun h => he (by rw [h])
      clear he hW
      repeat' (first | (with_reducible first | exact fun h => h | refine ExE.row (by with_unfolding_all rfl) ?_ | refine And.intro ?_ ?_) | ((with_reducible intro hq); first | exact bne1 hq (by with_reducible assumption) | exact bne1 (by with_reducible assumption) hq | ((simp only [*, BB, cond_true, cond_false, reduceCtorEq] at hq); done) | (revert hq; with_reducible intro _)) | (with_reducible first | exact True.intro | rfl | refine EntLe.row ?_ | exact LeN.ro rfl | exact LeN.rptr | assumption) | ((with_reducible first | refine WkX.chk ?_ | refine Wk.chk ?_ | refine LeL.chk ?_ | refine LeF.chk ?_ | refine Run.mk ?_); (conv => whnf)) | ((with_reducible show LeO _ _); first | refine LeO.ro ?_ | refine LeO.roCap ?_ | refine LeO.nil ?_ (fun _ => rfl)) | ((with_reducible show LeR _ _ _); first | refine LeR.own rfl rfl rfl ?_ | refine LeR.view rfl rfl rfl ?_ ?_ | refine LeR.ro ?_ | refine LeR.roCap ?_ | refine LeR.nil ?_ (fun _ => rfl)) | ((with_reducible first | show drawOK _ _ = true | show lateOK _ _ = true | show drawOK2 _ _ = true | show drawOK3 _ _ = true); kernel_rfl))
      all_goals first
        | omega
        | exact hne.symm
        | trace_state
  have hlt : decide ((i : Int) < (l.length : Int)) = false := decide_eq_false (by omega)
  have heq : decide (l = r) = true := decide_eq_true (getD_ext (d := zS) hl fun k hk => hi2 k (by omega))
  repeat' (first | (with_reducible first | exact fun h => h | refine ExE.row (by with_unfolding_all rfl) ?_ | refine And.intro ?_ ?_) | ((with_reducible intro hq); first | exact bne1 hq (by with_reducible assumption) | exact bne1 (by with_reducible assumption) hq | ((simp only [*, BB, cond_true, cond_false, reduceCtorEq] at hq); done) | (revert hq; with_reducible intro _)) | (with_reducible first | exact True.intro | rfl | refine EntLe.row ?_ | exact LeN.ro rfl | exact LeN.rptr | assumption) | ((with_reducible first | refine WkX.chk ?_ | refine Wk.chk ?_ | refine LeL.chk ?_ | refine LeF.chk ?_ | refine Run.mk ?_); (conv => whnf)) | ((with_reducible show LeO _ _); first | refine LeO.ro ?_ | refine LeO.roCap ?_ | refine LeO.nil ?_ (fun _ => rfl)) | ((with_reducible show LeR _ _ _); first | refine LeR.own rfl rfl rfl ?_ | refine LeR.view rfl rfl rfl ?_ ?_ | refine LeR.ro ?_ | refine LeR.roCap ?_ | refine LeR.nil ?_ (fun _ => rfl)) | ((with_reducible first | show drawOK _ _ = true | show lateOK _ _ = true | show drawOK2 _ _ = true | show drawOK3 _ _ = true); kernel_rfl))
  all_goals first
    | exact heq.symm
    | trace_state
theorem con_sameText : Con prog 19 (fun ((a, l, b, r) : ByteArray × List Spn × ByteArray × List Spn) => [txAV a l, txAV b r]) (fun (a, l, b, r) => .sb (decide (a = b) && decide (l = r))) (fun (_, l, _, _) => l.length ≤ 9000000000000000000) := by
  refine Con.of (by kernel_rfl) T_ok CdsOK.nil (.con con_sameSpans .nil) 3 [] q_sameText.1 q_sameText.2.1 q_sameText.2.2 (fun _ => rfl) fun i hi => ?_
  obtain ⟨a, l, b, r⟩ := i
  have hl9 : l.length ≤ 9000000000000000000 := hi
  repeat' (first | (with_reducible refine ⟨(l, r), ⟨(.cons (.lent _ _ _ _ _ _) (.cons (.lent _ _ _ _ _ _) .nil)), ?_⟩, ?_⟩) | (with_reducible first | exact fun h => h | refine ExE.row (by with_unfolding_all rfl) ?_ | refine And.intro ?_ ?_) | ((with_reducible intro hq); first | exact bne1 hq (by with_reducible assumption) | exact bne1 (by with_reducible assumption) hq | ((simp only [*, BB, cond_true, cond_false, reduceCtorEq] at hq); done) | (revert hq; with_reducible intro _)) | (with_reducible first | exact True.intro | rfl | refine EntLe.row ?_ | exact LeN.ro rfl | exact LeN.rptr | assumption) | ((with_reducible first | refine WkX.chk ?_ | refine Wk.chk ?_ | refine LeL.chk ?_ | refine LeF.chk ?_ | refine Run.mk ?_); (conv => whnf)) | ((with_reducible show LeO _ _); first | refine LeO.ro ?_ | refine LeO.roCap ?_ | refine LeO.nil ?_ (fun _ => rfl)) | ((with_reducible show LeR _ _ _); first | refine LeR.own rfl rfl rfl ?_ | refine LeR.view rfl rfl rfl ?_ ?_ | refine LeR.ro ?_ | refine LeR.roCap ?_ | refine LeR.nil ?_ (fun _ => rfl)) | ((with_reducible first | show drawOK _ _ = true | show lateOK _ _ = true | show drawOK2 _ _ = true | show drawOK3 _ _ = true); kernel_rfl))
  all_goals first
    | exact hl9
    | rfl
    | (simp only [*, Bool.false_and]; done)
    | (cases hc : decide (a = b) <;> simp_all; done)
    | trace_state
abbrev abcd : ByteArray := { data := #[97, 98, 99, 100] }
abbrev oneX : ByteArray := { data := #[120] }
abbrev hdL : List Spn := [⟨0, 4, 1, 0⟩, ⟨1, 3, 2, 0⟩]
theorem head_1 : chkN abcd.size hdL (sgN abcd : Nat) = 0 := by kernel_rfl
theorem head_2 : runsA abcd hdL = [⟨0, 1, ⟨true, false, false, false, 0⟩⟩, ⟨1, 3, ⟨true, true, false, false, 0⟩⟩, ⟨3, 4, ⟨true, false, false, false, 0⟩⟩] := by kernel_rfl
theorem head_3 : splE abcd hdL 1 1 oneX [] = 0 := by kernel_rfl
theorem head_4 : splT abcd hdL 1 1 oneX [] = { data := #[97, 120, 98, 99, 100] } := by kernel_rfl
theorem head_5 : splL abcd hdL 1 1 oneX [] = [⟨0, 5, 1, 0⟩, ⟨2, 4, 2, 0⟩] := by kernel_rfl
theorem con_head7 : Con prog 20 (fun _ : Unit => []) (fun _ => .v (.bool true)) (fun _ => True) := by
  refine Con.of (by kernel_rfl) T_ok D_spn_ok (.con con_sRuns (.con con_ssplice .nil)) 3 [] q_head7.1 q_head7.2.1 q_head7.2.2 (fun _ => rfl) fun _ _ => ?_
  have h1 := head_1
  have h2 := head_2
  have h3 := head_3
  have h4 := head_4
  have h5 := head_5
  have k1 : (chkN abcd.size hdL (sgN abcd : Nat) == 0) = true := by rw [h1]; rfl
  have k2 : (splE abcd hdL 1 1 oneX [] == 0) = true := by rw [h3]; rfl
  repeat' (first | (with_reducible refine ⟨(abcd, hdL), ⟨(.cons (.agg (.cons (.v _) (.cons (.lent _ _ _ _ _ _) .nil))) .nil), ?_⟩, ?_⟩) | (refine ⟨(abcd, hdL, 1, 1, oneX, []), ⟨.cons (.agg (.cons (.v _) (.cons (.lent _ _ _ _ _ _) .nil))) (.cons (.v _) (.cons (.v _) (.cons (.agg (.cons (.v _) (.cons (.nil _ _ _ (fun _ => rfl)) .nil))) .nil))), ?_⟩, ?_⟩) | (with_reducible first | exact fun h => h | refine ExE.row (by with_unfolding_all rfl) ?_ | refine And.intro ?_ ?_) | ((with_reducible intro hq); first | exact bne1 hq (by with_reducible assumption) | exact bne1 (by with_reducible assumption) hq | ((simp only [*, BB, cond_true, cond_false, reduceCtorEq] at hq); done) | (revert hq; with_reducible intro _)) | (with_reducible first | exact True.intro | rfl | refine EntLe.row ?_ | exact LeN.ro rfl | exact LeN.rptr | assumption) | ((with_reducible first | refine WkX.chk ?_ | refine Wk.chk ?_ | refine LeL.chk ?_ | refine LeF.chk ?_ | refine Run.mk ?_); (conv => whnf)) | ((with_reducible show LeO _ _); first | refine LeO.ro ?_ | refine LeO.roCap ?_ | refine LeO.nil ?_ (fun _ => rfl)) | ((with_reducible show LeR _ _ _); first | refine LeR.own rfl rfl rfl ?_ | refine LeR.view rfl rfl rfl ?_ ?_ | refine LeR.ro ?_ | refine LeR.roCap ?_ | refine LeR.nil ?_ (fun _ => rfl)) | ((with_reducible first | show drawOK _ _ = true | show lateOK _ _ = true | show drawOK2 _ _ = true | show drawOK3 _ _ = true); kernel_rfl))
  all_goals first
    | rfl
    | omega
    | (rw [h2]; decide)
    | (rw [h5]; decide)
    | trace_state
end Go.SX.Try
/- A row that is written over from the front. No program here. -/
namespace Go.SX.Plain
section
variable {α : Type} {d : α}
def bkTo (x : α) (R : List α) (i : Nat) : List α := List.replicate i x ++ R.drop i
theorem bk_zero (x : α) (R : List α) : bkTo x R 0 = R := by simp [bkTo]
theorem bk_len (x : α) {R : List α} {i : Nat} (h : i ≤ R.length) : (bkTo x R i).length = R.length := by
  unfold bkTo
  rw [List.length_append, List.length_replicate, List.length_drop]
  omega
theorem bk_step (x : α) {R : List α} {i : Nat} (h : i < R.length) : (bkTo x R i).set i x = bkTo x R (i + 1) := by
  unfold bkTo
  rw [List.drop_eq_getElem_cons h, set_mid _ _ _ _ (by simp), List.replicate_succ', List.append_assoc]
  rfl
theorem snoc_take (l : List α) (x : α) : (l ++ [x]).take l.length = l := by simp
theorem snoc_at (l : List α) (x : α) : (l ++ [x]).getD l.length d = x := by simp [List.getD_eq_getElem?_getD]
end
end Go.SX.Plain
/- Texts lent to the laws' calls, and back. -/
namespace Go.SX.Try
open Go.Proofs Go.Proofs.Try Go.SX.Plain
set_option maxRecDepth 100000
set_option maxHeartbeats 0
set_option linter.unusedSimpArgs false
theorem q_lend : fact 15 f15 := ⟨by kernel_rfl, rfl, by kernel_rfl⟩
theorem q_back : fact 18 f18 := ⟨by kernel_rfl, rfl, by kernel_rfl⟩
abbrev C_spnP : Cdc Spn := { size := C_spn.size, enc := C_spn.enc, dec := C_spn.dec, d := C_spn.d, pl := true }
def D_spnP : Cds := [(71, ⟨Spn, C_spnP⟩)]
theorem D_spnP_ok : CdsOK T D_spnP := .cons ⟨fun _ => rfl, by decide, _, rfl, rfl, by decide⟩ .nil
def mrk : Spn := ⟨-77, 0, 0, 0⟩
def ovr : Spn := ⟨7, 9, 1, 0⟩
theorem le_view {m : Mem} {α : Type} {C : Cdc α} {s n lo u t : Nat} {en : α → List AV} {l l' : List α} {cap : Option Nat} {d : α} (he : getE m n = some (.row C l t cap)) (hC : C.size = s) (hen : C.enc = en) (hlu : lo + u ≤ l.length) (hl : (l.drop lo).take u = l') :
    LeA m (.view n s lo u) (.ro s en d l' none true) := hl ▸ LeA.view he hC hen hlu
end Go.SX.Try
/- A verified symbolic executor for Go code in the model: what a call's arguments read as. -/
namespace Go.SX
open Go.ChangeShapes Go.WideShapes Go.Deep Go.RowKit
section
variable {H : Type} {encH : TypeId × Value → H} {P : Program} {w : World} {E : Env}
structure Reads (encH : TypeId × Value → H) (P : Program) (w : World) (E : Env) (e : TypeId) {α : Type} (en : α → List AV) : Prop where
  out : ∀ n cs y, DataW.trod encH P w 0 (fun _ => true) true n e cs = some y → ∃ x : α, RelL w E (en x) cs
theorem Reads.int {e : TypeId} (he : P.underlying e = some (.int .i64)) : Reads encH P w E e (fun a : Int => [.v (.int .i64 a)]) := ⟨fun n cs y h => by
  obtain ⟨a, rfl, _⟩ := DataW.trod_int he h
  exact ⟨a, RelL.cons (.v _) (RelL.nil _ _)⟩⟩
theorem Reads.string {e : TypeId} (he : P.underlying e = some .string) : Reads encH P w E e (fun a : ByteArray => [.v (.string a)]) := ⟨fun n cs y h => by
  obtain ⟨a, rfl, _⟩ := DataW.trod_string he h
  exact ⟨a, RelL.cons (.v _) (RelL.nil _ _)⟩⟩
theorem Reads.bool {e : TypeId} (he : P.underlying e = some .bool) : Reads encH P w E e (fun a : Bool => [.sb a]) := ⟨fun n cs y h => by
  obtain ⟨a, rfl, _⟩ := DataW.trod_bool he h
  exact ⟨a, RelL.cons (.sb _) (RelL.nil _ _)⟩⟩
theorem Reads.map {e : TypeId} {α β : Type} {en : α → List AV} {en' : β → List AV} (h : Reads encH P w E e en) (f : α → β) (hf : ∀ x, en' (f x) = en x) : Reads encH P w E e en' := ⟨fun n cs y ht => by
  obtain ⟨x, hx⟩ := h.out n cs y ht
  exact ⟨f x, by rw [hf]; exact hx⟩⟩
inductive FReads (encH : TypeId × Value → H) (P : Program) (w : World) (E : Env) : List Field → Nat → Nat → {α : Type} → (α → List AV) → Prop
  | nil {o : Nat} : FReads encH P w E [] o o (fun _ : Unit => [])
  | cons {f : Field} {fs : List Field} {o k t : Nat} {α β : Type} {en : α → List AV} {en' : β → List AV} (ho : f.offset = o) (hc : P.cellsOf f.type = k) (h : Reads encH P w E f.type en) (hk : ∀ x, (en x).length = k) (hr : FReads encH P w E fs (o + k) t en') :
      FReads encH P w E (f :: fs) o t (fun x : α × β => en x.1 ++ en' x.2)
theorem FReads.out {fs : List Field} {o t : Nat} {α : Type} {en : α → List AV} (h : FReads encH P w E fs o t en) : o ≤ t ∧ ∀ (cs : List Value), cs.length = t →
    (∀ f ∈ fs, ∃ y n, DataW.trod encH P w 0 (fun _ => true) true n f.type ((cs.drop f.offset).take (P.cellsOf f.type)) = some y) → ∃ x : α, RelL w E (en x) (cs.drop o) := by
  induction h with
  | nil =>
    refine ⟨Nat.le_refl _, fun cs hl _ => ⟨(), ?_⟩⟩
    rw [List.drop_eq_nil_of_le (by omega)]
    exact RelL.nil _ _
  | @cons f fs o k t α β en en' ho hc h hk hr ih =>
    refine ⟨by omega, fun cs hl hf => ?_⟩
    obtain ⟨y, n, hy⟩ := hf f List.mem_cons_self
    obtain ⟨x, hx⟩ := h.out _ _ _ hy
    obtain ⟨z, hz⟩ := ih.2 cs hl fun g hg => hf g (List.mem_cons_of_mem _ hg)
    refine ⟨(x, z), ?_⟩
    rw [ho, hc] at hx
    have := hx.append hz
    rwa [show cs.drop (o + k) = (cs.drop o).drop k by rw [List.drop_drop], List.take_append_drop] at this
theorem Reads.struct {e : TypeId} {fs : Array Field} (he : P.underlying e = some (.struct fs)) {t : Nat} (hC : P.cellsOf e = t) {α : Type} {en : α → List AV} (h : FReads encH P w E fs.toList 0 t en) : Reads encH P w E e en := ⟨fun n cs y ht => by
  obtain ⟨xs, m, _, _, hl, hxl, hf⟩ := DataW.trod_struct he ht
  have := h.out.2 cs (by omega) fun f hmem => by
    obtain ⟨i, hi, hfi⟩ := List.getElem_of_mem hmem
    have hi2 : i < fs.size := by simpa using hi
    have h1 := hf i f (by rw [Array.getElem?_eq_getElem hi2]; simpa using hfi)
    rw [List.getElem?_eq_getElem (by omega)] at h1
    exact ⟨_, m, h1⟩
  simpa using this⟩
theorem Reads.slice {t e : TypeId} (ht : P.underlying t = some (.slice e)) {α : Type} {en : α → List AV} {k : Nat} (d : α) (hk : P.cellsOf e = k) (hk0 : 0 < k) (hs : ∀ x, (en x).length = k) (hl : ∀ b, b < w.heap.size → E.lnt b)
    (h : Reads encH P w (E.bz true) e en) : Reads encH P w E t (fun l : List α => [.ro k en d l none true]) := ⟨fun n cs y hy => by
  rcases open_slice ht hy with ⟨rfl, _⟩ | ⟨a, len, cap, m, n', D, Pl, rfl, _, hlc, _, hm, _, hi⟩
  · exact ⟨[], RelL.cons (.roNil k en d none none 0 hs (by simp)) (RelL.nil _ _)⟩
  have hlm : len ≤ m := by rw [hm]; simp; omega
  have hel : ∀ i, i < len → ∃ (x : α) (cs' : List Value), w.cells? 0 (a.add (i * k)) k = some cs' ∧ RelL w (E.bz true) (en x) cs' := fun i hil => by
    obtain ⟨cs', h1, h2⟩ := hi i (by omega)
    obtain ⟨x, hx⟩ := h.out _ _ _ h2
    rw [hk] at h1
    exact ⟨x, cs', h1, hx⟩
  by_cases h0 : len = 0
  · subst h0
    exact ⟨[], RelL.cons (.roNil k en d none (some a) cap hs (by simp)) (RelL.nil _ _)⟩
  obtain ⟨b, o, spot⟩ := a
  have hc0 : ∀ i j, i < len → j < k → ∃ v, w.cell? ((⟨b, o, spot⟩ : Addr).add (i * k + j)) = some v := fun i j h1 h2 => by
    obtain ⟨x, cs', h3, h4⟩ := hel i h1
    obtain ⟨_, h5, h6⟩ := World.cells?_some h3
    have h7 := h6 j h2
    rw [List.getElem?_eq_getElem (by omega), Go.Deep.add_add] at h7
    exact ⟨_, h7⟩
  have hspot : spot = none := by
    obtain ⟨v, hv⟩ := hc0 0 0 (by omega) hk0
    simpa [Addr.add] using World.cell?_spot hv
  subst hspot
  have hb : b < w.heap.size := by
    obtain ⟨v, hv⟩ := hc0 0 0 (by omega) hk0
    refine Nat.lt_of_not_le fun hle => ?_
    unfold World.cell? at hv
    rw [show ((⟨b, o, none⟩ : Addr).add (0 * k + 0)).block = b by simp [Addr.add], Array.getElem?_eq_none hle] at hv
    cases hv
  let X : Nat → α := fun i => if hi : i < len then Classical.choose (hel i hi) else d
  let Cs : Nat → List Value := fun i => if hi : i < len then Classical.choose (Classical.choose_spec (hel i hi)) else []
  have hX : ∀ i, i < len → w.cells? 0 ((⟨b, o, none⟩ : Addr).add (i * k)) k = some (Cs i) ∧ RelL w (E.bz true) (en (X i)) (Cs i) := fun i hi => by
    have := Classical.choose_spec (Classical.choose_spec (hel i hi))
    simpa only [X, Cs, dif_pos hi] using this
  refine ⟨(List.range len).map X, RelL.cons ?_ (RelL.nil _ _)⟩
  have hll : ((List.range len).map X).length = len := by simp
  have key : Rel w E (.ro k en d ((List.range len).map X) none true) (.slice (some ⟨b, o, none⟩) ((List.range len).map X).length cap) :=
    .ro (fun i j => (Cs i).getD j undef) hs (by simp) (by rw [hll]; exact hlc) (.inr (hl b hb)) (fun i j h1 h2 => by
      rw [hll] at h1
      obtain ⟨h3, _⟩ := hX i h1
      obtain ⟨_, h5, h6⟩ := World.cells?_some h3
      have h7 := h6 j h2
      rw [Go.Deep.add_add, add_plain] at h7
      rw [h7, List.getElem?_eq_getElem (by omega)]
      simp [List.getD_eq_getElem?_getD, show j < (Cs i).length by omega]) fun i h1 j h2 => by
      have h1' : i < len := by rw [hll] at h1; exact h1
      obtain ⟨_, h4⟩ := hX i h1'
      have he : ((List.range len).map X)[i] = X i := by simp
      have h2' : j < (en (X i)).length := by rw [← he]; exact h2
      have h8 : j < (Cs i).length := by have := h4.1; omega
      have h9 := h4.2 j h2' h8
      have he2 : (en ((List.range len).map X)[i])[j] = (en (X i))[j] := by simp only [he]
      rw [he2, show (Cs i).getD j undef = (Cs i)[j] by simp [List.getD_eq_getElem?_getD, h8]]
      exact h9
  rwa [hll] at key⟩
theorem Reads.arg {t e : TypeId} (ht : P.underlying t = some (.slice e)) {α : Type} {en : α → List AV} {k : Nat} {d : α} (h : Reads encH P w E t (fun l : List α => [.ro k en d l none true])) {a : Option Addr} {len cap : Nat} {y : DataW H} {p : List MemPlace}
    (hT : DataW.Trod encH P w 0 (fun _ => true) true t (.slice a len cap) y p) : ∃ l : List α, Rel w E (.ro k en d l none true) (.slice a len cap) := by
  obtain ⟨fuel, hf⟩ := hT
  obtain ⟨l, hl⟩ := h.out _ _ _ hf
  exact ⟨l, hl.2 0 (by simp) (by simp [Value.cells])⟩
end
end Go.SX
/- What the arguments of chapter 7's laws read as. -/
namespace Go.SX.Try
open Go.Proofs Go.Proofs.Try Go.SX.Plain Go.ChangeShapes Go.WideShapes Go.Deep
set_option maxRecDepth 100000
section
variable {H : Type} {encH : TypeId × Value → H} {w : World} {E : Env}
theorem cells_int7 : prog.cellsOf 3 = 1 := by kernel_rfl
theorem cells_str7 : prog.cellsOf 9 = 1 := by kernel_rfl
theorem cells_spn : prog.cellsOf 71 = 4 := by kernel_rfl
theorem cells_spns : prog.cellsOf 22 = 1 := by kernel_rfl
theorem cells_text : prog.cellsOf 24 = 2 := by kernel_rfl
theorem reads_int7 : Reads encH prog w E 3 (fun a : Int => [.v (.int .i64 a)]) := Reads.int Try.underlying3
theorem reads_spn : Reads encH prog w E 71 C_spn.enc :=
  Reads.map (Reads.struct Try.underlying71 cells_spn (.cons rfl cells_int7 reads_int7 (fun _ => rfl) (.cons rfl cells_int7 reads_int7 (fun _ => rfl) (.cons rfl cells_int7 reads_int7 (fun _ => rfl) (.cons rfl cells_int7 reads_int7 (fun _ => rfl) .nil)))))
    (fun x : Int × Int × Int × Int × Unit => (⟨x.1, x.2.1, x.2.2.1, x.2.2.2.1⟩ : Spn)) (fun _ => rfl)
theorem reads_spns (hl : ∀ b, b < w.heap.size → E.lnt b) : Reads encH prog w E 22 (fun l : List Spn => [spR l]) :=
  Reads.slice Try.underlying22 C_spn.d cells_spn (by decide) (fun _ => rfl) hl reads_spn
theorem reads_text (hl : ∀ b, b < w.heap.size → E.lnt b) : Reads encH prog w E 24 (fun x : ByteArray × List Spn × Unit => [.v (.string x.1)] ++ ([spR x.2.1] ++ [])) :=
  Reads.struct Try.underlying24 cells_text (FReads.cons (en := fun a : ByteArray => [AV.v (.string a)]) (en' := fun x : List Spn × Unit => [spR x.1] ++ []) rfl cells_str7 (Reads.string Try.underlying9) (fun _ => rfl)
    (FReads.cons (en := fun l : List Spn => [spR l]) (en' := fun _ : Unit => []) rfl cells_spns (reads_spns hl) (fun _ => rfl) .nil))
end
end Go.SX.Try
