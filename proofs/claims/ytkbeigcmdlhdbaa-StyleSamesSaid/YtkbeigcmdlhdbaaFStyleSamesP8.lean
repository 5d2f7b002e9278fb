/- A verified symbolic executor for Go code in the model, contracts and plain laws that the proofs lean on, part 8. -/
import Derived.Test.YtkbeigcmdlhdbaaBY7
set_option linter.unusedVariables false
set_option linter.unusedSimpArgs false
/- Contracts of slices.Equal (looks), Same of both; the law StyleSames. -/
namespace Go.SX.Try
open Go.Proofs Go.Proofs.Try Go.SX.Plain
set_option maxRecDepth 100000
set_option maxHeartbeats 0
set_option linter.unusedSimpArgs false
theorem q_equalA : fact 71 f71 := ⟨by kernel_rfl, rfl, by kernel_rfl⟩
theorem q_sSame : fact 25 f25 := ⟨by kernel_rfl, rfl, by kernel_rfl⟩
theorem q_rSame : fact 26 f26 := ⟨by kernel_rfl, rfl, by kernel_rfl⟩
theorem q_styleSames : fact 5 f5 := ⟨by kernel_rfl, rfl, by kernel_rfl⟩
theorem con_equalA : Con prog 71 (fun ((l, r) : List Atr × List Atr) => [lkR l, lkR r]) (fun (l, r) => .sb (decide (l = r))) (fun (l, _) => l.length ≤ 1000000) := by
  refine Con.of (by kernel_rfl) T_ok CdsOK.nil .nil 3 [] q_equalA.1 q_equalA.2.1 q_equalA.2.2 (fun _ => rfl) fun i hi => ?_
  obtain ⟨l, r⟩ := i
  have hl9 : l.length ≤ 1000000 := hi
  have hd : C_att.d = zA := rfl
  by_cases hl : l.length = r.length
  case neg =>
    have k1 : ((l.length : Int) != (r.length : Int)) = true := by rw [bne_iff_ne]; omega
    have hne : decide (l = r) = false := decide_eq_false fun h => hl (by rw [h])
    repeat' (first | (with_reducible first | exact fun h => h | refine ExE.row (by with_unfolding_all rfl) ?_ | refine And.intro ?_ ?_) | ((with_reducible intro hq); first | exact bne1 hq (by with_reducible assumption) | exact bne1 (by with_reducible assumption) hq | ((simp only [*, BB, cond_true, cond_false, reduceCtorEq] at hq); done) | (revert hq; with_reducible intro _)) | (with_reducible first | exact True.intro | rfl | refine EntLe.row ?_ | exact LeN.ro rfl | exact LeN.rptr | assumption) | ((with_reducible first | refine WkX.chk ?_ | refine Wk.chk ?_ | refine LeL.chk ?_ | refine LeF.chk ?_ | refine Run.mk ?_); (conv => whnf)) | ((with_reducible show LeO _ _); first | refine LeO.ro ?_ | refine LeO.roCap ?_ | refine LeO.nil ?_ (fun _ => rfl)) | ((with_reducible show LeR _ _ _); first | refine LeR.own rfl rfl rfl ?_ | refine LeR.view rfl rfl rfl ?_ ?_ | refine LeR.ro ?_ | refine LeR.roCap ?_ | refine LeR.nil ?_ (fun _ => rfl)) | ((with_reducible first | show drawOK _ _ = true | show lateOK _ _ = true | show drawOK2 _ _ = true | show drawOK3 _ _ = true); kernel_rfl))
    all_goals first
      | exact hne.symm
      | trace_state
  have k1 : ((l.length : Int) != (r.length : Int)) = false := by rw [bne_eq_false_iff_eq]; omega
  repeat' (first | (with_reducible first | exact fun h => h | refine ExE.row (by with_unfolding_all rfl) ?_ | refine And.intro ?_ ?_) | ((with_reducible intro hq); first | exact bne1 hq (by with_reducible assumption) | exact bne1 (by with_reducible assumption) hq | ((simp only [*, BB, cond_true, cond_false, reduceCtorEq] at hq); done) | (revert hq; with_reducible intro _)) | (with_reducible first | exact True.intro | rfl | refine EntLe.row ?_ | exact LeN.ro rfl | exact LeN.rptr | assumption) | ((with_reducible first | refine WkX.chk ?_ | refine Wk.chk ?_ | refine LeL.chk ?_ | refine LeF.chk ?_ | refine Run.mk ?_); (conv => whnf)) | ((with_reducible show LeO _ _); first | refine LeO.ro ?_ | refine LeO.roCap ?_ | refine LeO.nil ?_ (fun _ => rfl)) | ((with_reducible show LeR _ _ _); first | refine LeR.own rfl rfl rfl ?_ | refine LeR.view rfl rfl rfl ?_ ?_ | refine LeR.ro ?_ | refine LeR.roCap ?_ | refine LeR.nil ?_ (fun _ => rfl)) | ((with_reducible first | show drawOK _ _ = true | show lateOK _ _ = true | show drawOK2 _ _ = true | show drawOK3 _ _ = true); kernel_rfl))
  refine loopI Nat [] (fun i => [(13, .v (.int .i64 (i : Nat)))]) (fun _ => []) (fun i => i ≤ l.length ∧ ∀ k, k < i → l.getD k zA = r.getD k zA) (fun i => l.length - i) 0 ⟨Nat.zero_le _, fun k h => absurd h (Nat.not_lt_zero _)⟩ (Wk.chk ?_) fun i hx => ?_
  · ((conv => whnf); repeat' (first | (with_reducible first | exact fun h => h | refine ExE.row (by with_unfolding_all rfl) ?_ | refine And.intro ?_ ?_) | ((with_reducible intro hq); first | exact bne1 hq (by with_reducible assumption) | exact bne1 (by with_reducible assumption) hq | ((simp only [*, BB, cond_true, cond_false, reduceCtorEq] at hq); done) | (revert hq; with_reducible intro _)) | (with_reducible first | exact True.intro | rfl | refine EntLe.row ?_ | exact LeN.ro rfl | exact LeN.rptr | assumption) | ((with_reducible first | refine WkX.chk ?_ | refine Wk.chk ?_ | refine LeL.chk ?_ | refine LeF.chk ?_ | refine Run.mk ?_); (conv => whnf)) | ((with_reducible show LeO _ _); first | refine LeO.ro ?_ | refine LeO.roCap ?_ | refine LeO.nil ?_ (fun _ => rfl)) | ((with_reducible show LeR _ _ _); first | refine LeR.own rfl rfl rfl ?_ | refine LeR.view rfl rfl rfl ?_ ?_ | refine LeR.ro ?_ | refine LeR.roCap ?_ | refine LeR.nil ?_ (fun _ => rfl)) | ((with_reducible first | show drawOK _ _ = true | show lateOK _ _ = true | show drawOK2 _ _ = true | show drawOK3 _ _ = true); kernel_rfl)))
    all_goals rfl
  obtain ⟨hi1, hi2⟩ := hx
  have e1 : ((i : Nat) : Int).toNat = i := Int.toNat_natCast _
  by_cases hil : i < l.length
  · have hlt : decide ((i : Int) < (l.length : Int)) = true := decide_eq_true (by omega)
    have hW : ((l.getD ((i : Nat) : Int).toNat C_att.d).bold == (r.getD ((i : Nat) : Int).toNat C_att.d).bold && ((l.getD ((i : Nat) : Int).toNat C_att.d).italic == (r.getD ((i : Nat) : Int).toNat C_att.d).italic && ((l.getD ((i : Nat) : Int).toNat C_att.d).under == (r.getD ((i : Nat) : Int).toNat C_att.d).under && ((l.getD ((i : Nat) : Int).toNat C_att.d).strike == (r.getD ((i : Nat) : Int).toNat C_att.d).strike && (l.getD ((i : Nat) : Int).toNat C_att.d).colour == (r.getD ((i : Nat) : Int).toNat C_att.d).colour)))) = decide (l.getD i zA = r.getD i zA) := by
      rw [e1, hd]
      exact atEqB_eq _ _
    by_cases he : l.getD i zA = r.getD i zA
    · rw [decide_eq_true he] at hW
      have k4 : (!((l.getD ((i : Nat) : Int).toNat C_att.d).bold == (r.getD ((i : Nat) : Int).toNat C_att.d).bold && ((l.getD ((i : Nat) : Int).toNat C_att.d).italic == (r.getD ((i : Nat) : Int).toNat C_att.d).italic && ((l.getD ((i : Nat) : Int).toNat C_att.d).under == (r.getD ((i : Nat) : Int).toNat C_att.d).under && ((l.getD ((i : Nat) : Int).toNat C_att.d).strike == (r.getD ((i : Nat) : Int).toNat C_att.d).strike && (l.getD ((i : Nat) : Int).toNat C_att.d).colour == (r.getD ((i : Nat) : Int).toNat C_att.d).colour))))) = false := by rw [hW]; rfl
      have hi3 : ∀ k, k < i + 1 → l.getD k zA = r.getD k zA := fun k hk => by
        by_cases h : k = i
        · rw [h]; exact he
        · exact hi2 k (by omega)
      clear he hW
      repeat' (first | (with_reducible refine ex_of (α := Nat) (i + 1) ⟨⟨?_, hi3⟩, ?_⟩ ?_) | (with_reducible first | exact fun h => h | refine ExE.row (by with_unfolding_all rfl) ?_ | refine And.intro ?_ ?_) | ((with_reducible intro hq); first | exact bne1 hq (by with_reducible assumption) | exact bne1 (by with_reducible assumption) hq | ((simp only [*, BB, cond_true, cond_false, reduceCtorEq] at hq); done) | (revert hq; with_reducible intro _)) | (with_reducible first | exact True.intro | rfl | refine EntLe.row ?_ | exact LeN.ro rfl | exact LeN.rptr | assumption) | ((with_reducible first | refine WkX.chk ?_ | refine Wk.chk ?_ | refine LeL.chk ?_ | refine LeF.chk ?_ | refine Run.mk ?_); (conv => whnf)) | ((with_reducible show LeO _ _); first | refine LeO.ro ?_ | refine LeO.roCap ?_ | refine LeO.nil ?_ (fun _ => rfl)) | ((with_reducible show LeR _ _ _); first | refine LeR.own rfl rfl rfl ?_ | refine LeR.view rfl rfl rfl ?_ ?_ | refine LeR.ro ?_ | refine LeR.roCap ?_ | refine LeR.nil ?_ (fun _ => rfl)) | ((with_reducible first | show drawOK _ _ = true | show lateOK _ _ = true | show drawOK2 _ _ = true | show drawOK3 _ _ = true); kernel_rfl))
      all_goals first
        | omega
        | (apply Fits.i64 <;> omega)
        | (dsimp only; omega)
        | trace_state
    · rw [decide_eq_false he] at hW
      have k4 : (!((l.getD ((i : Nat) : Int).toNat C_att.d).bold == (r.getD ((i : Nat) : Int).toNat C_att.d).bold && ((l.getD ((i : Nat) : Int).toNat C_att.d).italic == (r.getD ((i : Nat) : Int).toNat C_att.d).italic && ((l.getD ((i : Nat) : Int).toNat C_att.d).under == (r.getD ((i : Nat) : Int).toNat C_att.d).under && ((l.getD ((i : Nat) : Int).toNat C_att.d).strike == (r.getD ((i : Nat) : Int).toNat C_att.d).strike && (l.getD ((i : Nat) : Int).toNat C_att.d).colour == (r.getD ((i : Nat) : Int).toNat C_att.d).colour))))) = true := by rw [hW]; rfl
      have hne : decide (l = r) = false := decide_eq_false fun h => he (by rw [h])
      clear he hW
      repeat' (first | (with_reducible first | exact fun h => h | refine ExE.row (by with_unfolding_all rfl) ?_ | refine And.intro ?_ ?_) | ((with_reducible intro hq); first | exact bne1 hq (by with_reducible assumption) | exact bne1 (by with_reducible assumption) hq | ((simp only [*, BB, cond_true, cond_false, reduceCtorEq] at hq); done) | (revert hq; with_reducible intro _)) | (with_reducible first | exact True.intro | rfl | refine EntLe.row ?_ | exact LeN.ro rfl | exact LeN.rptr | assumption) | ((with_reducible first | refine WkX.chk ?_ | refine Wk.chk ?_ | refine LeL.chk ?_ | refine LeF.chk ?_ | refine Run.mk ?_); (conv => whnf)) | ((with_reducible show LeO _ _); first | refine LeO.ro ?_ | refine LeO.roCap ?_ | refine LeO.nil ?_ (fun _ => rfl)) | ((with_reducible show LeR _ _ _); first | refine LeR.own rfl rfl rfl ?_ | refine LeR.view rfl rfl rfl ?_ ?_ | refine LeR.ro ?_ | refine LeR.roCap ?_ | refine LeR.nil ?_ (fun _ => rfl)) | ((with_reducible first | show drawOK _ _ = true | show lateOK _ _ = true | show drawOK2 _ _ = true | show drawOK3 _ _ = true); kernel_rfl))
      all_goals first
        | omega
        | exact hne.symm
        | trace_state
  have hlt : decide ((i : Int) < (l.length : Int)) = false := decide_eq_false (by omega)
  have heq : decide (l = r) = true := decide_eq_true (getD_ext (d := zA) hl fun k hk => hi2 k (by omega))
  repeat' (first | (with_reducible first | exact fun h => h | refine ExE.row (by with_unfolding_all rfl) ?_ | refine And.intro ?_ ?_) | ((with_reducible intro hq); first | exact bne1 hq (by with_reducible assumption) | exact bne1 (by with_reducible assumption) hq | ((simp only [*, BB, cond_true, cond_false, reduceCtorEq] at hq); done) | (revert hq; with_reducible intro _)) | (with_reducible first | exact True.intro | rfl | refine EntLe.row ?_ | exact LeN.ro rfl | exact LeN.rptr | assumption) | ((with_reducible first | refine WkX.chk ?_ | refine Wk.chk ?_ | refine LeL.chk ?_ | refine LeF.chk ?_ | refine Run.mk ?_); (conv => whnf)) | ((with_reducible show LeO _ _); first | refine LeO.ro ?_ | refine LeO.roCap ?_ | refine LeO.nil ?_ (fun _ => rfl)) | ((with_reducible show LeR _ _ _); first | refine LeR.own rfl rfl rfl ?_ | refine LeR.view rfl rfl rfl ?_ ?_ | refine LeR.ro ?_ | refine LeR.roCap ?_ | refine LeR.nil ?_ (fun _ => rfl)) | ((with_reducible first | show drawOK _ _ = true | show lateOK _ _ = true | show drawOK2 _ _ = true | show drawOK3 _ _ = true); kernel_rfl))
  all_goals first
    | exact heq.symm
    | trace_state
end Go.SX.Try
/- Contracts of Same of both; the law StyleSames. -/
namespace Go.SX.Try
open Go.Proofs Go.Proofs.Try Go.SX.Plain
set_option maxRecDepth 100000
set_option maxHeartbeats 0
set_option linter.unusedSimpArgs false
def sameB (s : ByteArray) (l : List Spn) (s2 : ByteArray) (l2 : List Spn) : Bool :=
  decide (s = s2) && (decide (chkN s.size l (sgN s : Nat) = 0) && (decide (chkN s2.size l2 (sgN s2 : Nat) = 0) && decide (looksL (sgN s) l = looksL (sgN s2) l2)))
theorem con_sSame : Con prog 25 (fun ((s, l, s2, l2) : ByteArray × List Spn × ByteArray × List Spn) => [txAV s l, txAV s2 l2]) (fun (s, l, s2, l2) => .sb (sameB s l s2 l2)) (fun _ => True) := by
  refine Con.of (by kernel_rfl) T_ok CdsOK.nil (.con con_scheck (.con con_slooks (.con con_equalA .nil))) 5 [] q_sSame.1 q_sSame.2.1 q_sSame.2.2 (fun _ => rfl) fun i hi => ?_
  obtain ⟨s, l, s2, l2⟩ := i
  have hbs := Bool.eq_false_or_eq_true (decide (s = s2))
  rcases hbs with h0 | h0
  case inr =>
    have hR : sameB s l s2 l2 = false := by unfold sameB; rw [h0]; rfl
    repeat' (first | (with_reducible refine ⟨(s, l), ⟨(.cons (.agg (.cons (.v _) (.cons (.lent _ _ _ _ _ _) .nil))) .nil), ?_⟩, ?_⟩) | (with_reducible refine ⟨(s2, l2), ⟨(.cons (.agg (.cons (.v _) (.cons (.lent _ _ _ _ _ _) .nil))) .nil), ?_⟩, ?_⟩) | (with_reducible refine ⟨_, ⟨(.cons (.lent _ _ _ _ _ _) .nil), ?_⟩, ?_⟩) | (with_reducible first | exact fun h => h | refine ExE.row (by with_unfolding_all rfl) ?_ | refine And.intro ?_ ?_) | ((with_reducible intro hq); first | exact bne1 hq (by with_reducible assumption) | exact bne1 (by with_reducible assumption) hq | ((simp only [*, BB, cond_true, cond_false, reduceCtorEq] at hq); done) | (revert hq; with_reducible intro _)) | (with_reducible first | exact True.intro | rfl | refine EntLe.row ?_ | exact LeN.ro rfl | exact LeN.rptr | assumption) | ((with_reducible first | refine WkX.chk ?_ | refine Wk.chk ?_ | refine LeL.chk ?_ | refine LeF.chk ?_ | refine Run.mk ?_); (conv => whnf)) | ((with_reducible show LeO _ _); first | refine LeO.ro ?_ | refine LeO.roCap ?_ | refine LeO.nil ?_ (fun _ => rfl)) | ((with_reducible show LeR _ _ _); first | refine LeR.own rfl rfl rfl ?_ | refine LeR.view rfl rfl rfl ?_ ?_ | refine LeR.ro ?_ | refine LeR.roCap ?_ | refine LeR.nil ?_ (fun _ => rfl)) | ((with_reducible first | show drawOK _ _ = true | show lateOK _ _ = true | show drawOK2 _ _ = true | show drawOK3 _ _ = true); kernel_rfl))
    all_goals first
      | exact hR.symm
      | (rw [hR, h0, k1, k2]; rfl)
      | (simp_all; done)
      | trace_state
  by_cases hc : chkN s.size l (sgN s : Nat) = 0
  case neg =>
    have k1 : (chkN s.size l (sgN s : Nat) == 0) = false := by simpa using hc
    have hR : sameB s l s2 l2 = false := by unfold sameB; rw [decide_eq_false hc]; simp
    repeat' (first | (with_reducible refine ⟨(s, l), ⟨(.cons (.agg (.cons (.v _) (.cons (.lent _ _ _ _ _ _) .nil))) .nil), ?_⟩, ?_⟩) | (with_reducible refine ⟨(s2, l2), ⟨(.cons (.agg (.cons (.v _) (.cons (.lent _ _ _ _ _ _) .nil))) .nil), ?_⟩, ?_⟩) | (with_reducible refine ⟨_, ⟨(.cons (.lent _ _ _ _ _ _) .nil), ?_⟩, ?_⟩) | (with_reducible first | exact fun h => h | refine ExE.row (by with_unfolding_all rfl) ?_ | refine And.intro ?_ ?_) | ((with_reducible intro hq); first | exact bne1 hq (by with_reducible assumption) | exact bne1 (by with_reducible assumption) hq | ((simp only [*, BB, cond_true, cond_false, reduceCtorEq] at hq); done) | (revert hq; with_reducible intro _)) | (with_reducible first | exact True.intro | rfl | refine EntLe.row ?_ | exact LeN.ro rfl | exact LeN.rptr | assumption) | ((with_reducible first | refine WkX.chk ?_ | refine Wk.chk ?_ | refine LeL.chk ?_ | refine LeF.chk ?_ | refine Run.mk ?_); (conv => whnf)) | ((with_reducible show LeO _ _); first | refine LeO.ro ?_ | refine LeO.roCap ?_ | refine LeO.nil ?_ (fun _ => rfl)) | ((with_reducible show LeR _ _ _); first | refine LeR.own rfl rfl rfl ?_ | refine LeR.view rfl rfl rfl ?_ ?_ | refine LeR.ro ?_ | refine LeR.roCap ?_ | refine LeR.nil ?_ (fun _ => rfl)) | ((with_reducible first | show drawOK _ _ = true | show lateOK _ _ = true | show drawOK2 _ _ = true | show drawOK3 _ _ = true); kernel_rfl))
    all_goals first
      | exact hR.symm
      | (rw [hR, h0, k1, k2]; rfl)
      | (simp_all; done)
      | trace_state
  have k1 : (chkN s.size l (sgN s : Nat) == 0) = true := by simpa using hc
  by_cases hc2 : chkN s2.size l2 (sgN s2 : Nat) = 0
  case neg =>
    have k2 : (chkN s2.size l2 (sgN s2 : Nat) == 0) = false := by simpa using hc2
    have hR : sameB s l s2 l2 = false := by unfold sameB; rw [decide_eq_false hc2]; simp
    repeat' (first | (with_reducible refine ⟨(s, l), ⟨(.cons (.agg (.cons (.v _) (.cons (.lent _ _ _ _ _ _) .nil))) .nil), ?_⟩, ?_⟩) | (with_reducible refine ⟨(s2, l2), ⟨(.cons (.agg (.cons (.v _) (.cons (.lent _ _ _ _ _ _) .nil))) .nil), ?_⟩, ?_⟩) | (with_reducible refine ⟨_, ⟨(.cons (.lent _ _ _ _ _ _) .nil), ?_⟩, ?_⟩) | (with_reducible first | exact fun h => h | refine ExE.row (by with_unfolding_all rfl) ?_ | refine And.intro ?_ ?_) | ((with_reducible intro hq); first | exact bne1 hq (by with_reducible assumption) | exact bne1 (by with_reducible assumption) hq | ((simp only [*, BB, cond_true, cond_false, reduceCtorEq] at hq); done) | (revert hq; with_reducible intro _)) | (with_reducible first | exact True.intro | rfl | refine EntLe.row ?_ | exact LeN.ro rfl | exact LeN.rptr | assumption) | ((with_reducible first | refine WkX.chk ?_ | refine Wk.chk ?_ | refine LeL.chk ?_ | refine LeF.chk ?_ | refine Run.mk ?_); (conv => whnf)) | ((with_reducible show LeO _ _); first | refine LeO.ro ?_ | refine LeO.roCap ?_ | refine LeO.nil ?_ (fun _ => rfl)) | ((with_reducible show LeR _ _ _); first | refine LeR.own rfl rfl rfl ?_ | refine LeR.view rfl rfl rfl ?_ ?_ | refine LeR.ro ?_ | refine LeR.roCap ?_ | refine LeR.nil ?_ (fun _ => rfl)) | ((with_reducible first | show drawOK _ _ = true | show lateOK _ _ = true | show drawOK2 _ _ = true | show drawOK3 _ _ = true); kernel_rfl))
    all_goals first
      | exact hR.symm
      | (rw [hR, h0, k1, k2]; rfl)
      | (simp_all; done)
      | trace_state
  have k2 : (chkN s2.size l2 (sgN s2 : Nat) == 0) = true := by simpa using hc2
  have hok := OkT.of hc
  have hok2 := OkT.of hc2
  have hlen := looksL_len hok.spans
  have hn := sgN_le s
  have hs := hok.size
  have hR : sameB s l s2 l2 = decide (looksL (sgN s) l = looksL (sgN s2) l2) := by unfold sameB; rw [h0, decide_eq_true hc, decide_eq_true hc2]; simp
  repeat' (first | (with_reducible refine ⟨(s, l), ⟨(.cons (.agg (.cons (.v _) (.cons (.lent _ _ _ _ _ _) .nil))) .nil), ?_⟩, ?_⟩) | (with_reducible refine ⟨(s2, l2), ⟨(.cons (.agg (.cons (.v _) (.cons (.lent _ _ _ _ _ _) .nil))) .nil), ?_⟩, ?_⟩) | (with_reducible refine ⟨(looksL (sgN s) l, looksL (sgN s2) l2), ⟨(.cons (.lent _ _ _ _ _ _) (.cons (.lent _ _ _ _ _ _) .nil)), ?_⟩, ?_⟩) | (with_reducible first | exact fun h => h | refine ExE.row (by with_unfolding_all rfl) ?_ | refine And.intro ?_ ?_) | ((with_reducible intro hq); first | exact bne1 hq (by with_reducible assumption) | exact bne1 (by with_reducible assumption) hq | ((simp only [*, BB, cond_true, cond_false, reduceCtorEq] at hq); done) | (revert hq; with_reducible intro _)) | (with_reducible first | exact True.intro | rfl | refine EntLe.row ?_ | exact LeN.ro rfl | exact LeN.rptr | assumption) | ((with_reducible first | refine WkX.chk ?_ | refine Wk.chk ?_ | refine LeL.chk ?_ | refine LeF.chk ?_ | refine Run.mk ?_); (conv => whnf)) | ((with_reducible show LeO _ _); first | refine LeO.ro ?_ | refine LeO.roCap ?_ | refine LeO.nil ?_ (fun _ => rfl)) | ((with_reducible show LeR _ _ _); first | refine LeR.own rfl rfl rfl ?_ | refine LeR.view rfl rfl rfl ?_ ?_ | refine LeR.ro ?_ | refine LeR.roCap ?_ | refine LeR.nil ?_ (fun _ => rfl)) | ((with_reducible first | show drawOK _ _ = true | show lateOK _ _ = true | show drawOK2 _ _ = true | show drawOK3 _ _ = true); kernel_rfl))
  all_goals first
    | exact hok
    | exact hok2
    | exact hR.symm
    | (dsimp only; omega)
    | (rw [hR, h0, k1, k2]; rfl)
    | (simp_all; done)
    | trace_state
end Go.SX.Try
/- Contract of the document's Same. -/
namespace Go.SX.Try
open Go.Proofs Go.Proofs.Try Go.SX.Plain
set_option maxRecDepth 100000
set_option maxHeartbeats 0
set_option linter.unusedSimpArgs false
theorem con_rSame : Con prog 26 (fun ((s, l, s2, l2) : ByteArray × List Spn × ByteArray × List Spn) => [txAV s l, txAV s2 l2]) (fun (s, l, s2, l2) => .sb (sameB s l s2 l2)) (fun _ => True) := by
  refine Con.of (by kernel_rfl) T_ok CdsOK.nil (.con con_rcheck7 (.con con_rall7 .nil)) 5 [] q_rSame.1 q_rSame.2.1 q_rSame.2.2 (fun _ => rfl) fun i hi => ?_
  obtain ⟨s, l, s2, l2⟩ := i
  by_cases hc : chkN s.size l (sgN s : Nat) = 0
  case neg =>
    have k1 : (chkN s.size l (sgN s : Nat) != 0) = true := by simpa using hc
    have hR : sameB s l s2 l2 = false := by unfold sameB; rw [decide_eq_false hc]; simp
    repeat' (first | (with_reducible refine ⟨(s, l), ⟨(.cons (.agg (.cons (.v _) (.cons (.lent _ _ _ _ _ _) .nil))) .nil), ?_⟩, ?_⟩) | (with_reducible refine ⟨(s2, l2), ⟨(.cons (.agg (.cons (.v _) (.cons (.lent _ _ _ _ _ _) .nil))) .nil), ?_⟩, ?_⟩) | (with_reducible first | exact fun h => h | refine ExE.row (by with_unfolding_all rfl) ?_ | refine And.intro ?_ ?_) | ((with_reducible intro hq); first | exact bne1 hq (by with_reducible assumption) | exact bne1 (by with_reducible assumption) hq | ((simp only [*, BB, cond_true, cond_false, reduceCtorEq] at hq); done) | (revert hq; with_reducible intro _)) | (with_reducible first | exact True.intro | rfl | refine EntLe.row ?_ | exact LeN.ro rfl | exact LeN.rptr | assumption) | ((with_reducible first | refine WkX.chk ?_ | refine Wk.chk ?_ | refine LeL.chk ?_ | refine LeF.chk ?_ | refine Run.mk ?_); (conv => whnf)) | ((with_reducible show LeO _ _); first | refine LeO.ro ?_ | refine LeO.roCap ?_ | refine LeO.nil ?_ (fun _ => rfl)) | ((with_reducible show LeR _ _ _); first | refine LeR.own rfl rfl rfl ?_ | refine LeR.view rfl rfl rfl ?_ ?_ | refine LeR.ro ?_ | refine LeR.roCap ?_ | refine LeR.nil ?_ (fun _ => rfl)) | ((with_reducible first | show drawOK _ _ = true | show lateOK _ _ = true | show drawOK2 _ _ = true | show drawOK3 _ _ = true); kernel_rfl))
    all_goals first
      | exact hR.symm
      | (simp_all; done)
      | trace_state
  have k1 : (chkN s.size l (sgN s : Nat) != 0) = false := by simpa using hc
  by_cases hc2 : chkN s2.size l2 (sgN s2 : Nat) = 0
  case neg =>
    have k2 : (chkN s2.size l2 (sgN s2 : Nat) != 0) = true := by simpa using hc2
    have hR : sameB s l s2 l2 = false := by unfold sameB; rw [decide_eq_false hc2]; simp
    repeat' (first | (with_reducible refine ⟨(s, l), ⟨(.cons (.agg (.cons (.v _) (.cons (.lent _ _ _ _ _ _) .nil))) .nil), ?_⟩, ?_⟩) | (with_reducible refine ⟨(s2, l2), ⟨(.cons (.agg (.cons (.v _) (.cons (.lent _ _ _ _ _ _) .nil))) .nil), ?_⟩, ?_⟩) | (with_reducible first | exact fun h => h | refine ExE.row (by with_unfolding_all rfl) ?_ | refine And.intro ?_ ?_) | ((with_reducible intro hq); first | exact bne1 hq (by with_reducible assumption) | exact bne1 (by with_reducible assumption) hq | ((simp only [*, BB, cond_true, cond_false, reduceCtorEq] at hq); done) | (revert hq; with_reducible intro _)) | (with_reducible first | exact True.intro | rfl | refine EntLe.row ?_ | exact LeN.ro rfl | exact LeN.rptr | assumption) | ((with_reducible first | refine WkX.chk ?_ | refine Wk.chk ?_ | refine LeL.chk ?_ | refine LeF.chk ?_ | refine Run.mk ?_); (conv => whnf)) | ((with_reducible show LeO _ _); first | refine LeO.ro ?_ | refine LeO.roCap ?_ | refine LeO.nil ?_ (fun _ => rfl)) | ((with_reducible show LeR _ _ _); first | refine LeR.own rfl rfl rfl ?_ | refine LeR.view rfl rfl rfl ?_ ?_ | refine LeR.ro ?_ | refine LeR.roCap ?_ | refine LeR.nil ?_ (fun _ => rfl)) | ((with_reducible first | show drawOK _ _ = true | show lateOK _ _ = true | show drawOK2 _ _ = true | show drawOK3 _ _ = true); kernel_rfl))
    all_goals first
      | exact hR.symm
      | (simp_all; done)
      | trace_state
  have k2 : (chkN s2.size l2 (sgN s2 : Nat) != 0) = false := by simpa using hc2
  have hbs := Bool.eq_false_or_eq_true (decide (s = s2))
  rcases hbs with h0 | h0
  case inr =>
    have h0' : (!decide (s = s2)) = true := by rw [h0]; rfl
    have hR : sameB s l s2 l2 = false := by unfold sameB; rw [h0]; rfl
    repeat' (first | (with_reducible refine ⟨(s, l), ⟨(.cons (.agg (.cons (.v _) (.cons (.lent _ _ _ _ _ _) .nil))) .nil), ?_⟩, ?_⟩) | (with_reducible refine ⟨(s2, l2), ⟨(.cons (.agg (.cons (.v _) (.cons (.lent _ _ _ _ _ _) .nil))) .nil), ?_⟩, ?_⟩) | (with_reducible first | exact fun h => h | refine ExE.row (by with_unfolding_all rfl) ?_ | refine And.intro ?_ ?_) | ((with_reducible intro hq); first | exact bne1 hq (by with_reducible assumption) | exact bne1 (by with_reducible assumption) hq | ((simp only [*, BB, cond_true, cond_false, reduceCtorEq] at hq); done) | (revert hq; with_reducible intro _)) | (with_reducible first | exact True.intro | rfl | refine EntLe.row ?_ | exact LeN.ro rfl | exact LeN.rptr | assumption) | ((with_reducible first | refine WkX.chk ?_ | refine Wk.chk ?_ | refine LeL.chk ?_ | refine LeF.chk ?_ | refine Run.mk ?_); (conv => whnf)) | ((with_reducible show LeO _ _); first | refine LeO.ro ?_ | refine LeO.roCap ?_ | refine LeO.nil ?_ (fun _ => rfl)) | ((with_reducible show LeR _ _ _); first | refine LeR.own rfl rfl rfl ?_ | refine LeR.view rfl rfl rfl ?_ ?_ | refine LeR.ro ?_ | refine LeR.roCap ?_ | refine LeR.nil ?_ (fun _ => rfl)) | ((with_reducible first | show drawOK _ _ = true | show lateOK _ _ = true | show drawOK2 _ _ = true | show drawOK3 _ _ = true); kernel_rfl))
    all_goals first
      | exact hR.symm
      | (simp_all; done)
      | trace_state
  have h0' : (!decide (s = s2)) = false := by rw [h0]; rfl
  have hok := OkT.of hc
  have hok2 := OkT.of hc2
  have hlen := looksL_len hok.spans
  have hlen2 := looksL_len hok2.spans
  have hn := sgN_le s
  have hs := hok.size
  have hR : sameB s l s2 l2 = decide (looksL (sgN s) l = looksL (sgN s2) l2) := by unfold sameB; rw [h0, decide_eq_true hc, decide_eq_true hc2]; simp
  have hss : sgN s = sgN s2 := by rw [of_decide_eq_true h0]
  have k1n : (!(chkN s.size l (sgN s : Nat) != 0)) = true := by rw [k1]; rfl
  have k3 : (chkN s.size l (sgN s : Nat) != 0 || chkN s2.size l2 (sgN s2 : Nat) != 0) = false := by rw [k1, k2]; rfl
  have k3n : (!(chkN s.size l (sgN s : Nat) != 0 || chkN s2.size l2 (sgN s2 : Nat) != 0)) = true := by rw [k3]; rfl
  have k5 : (chkN s.size l (sgN s : Nat) != 0 || chkN s2.size l2 (sgN s2 : Nat) != 0 || !decide (s = s2)) = false := by rw [k3, h0]; rfl
  repeat' (first | (with_reducible refine ⟨(s, l), ⟨(.cons (.agg (.cons (.v _) (.cons (.lent _ _ _ _ _ _) .nil))) .nil), ?_⟩, ?_⟩) | (with_reducible refine ⟨(s2, l2), ⟨(.cons (.agg (.cons (.v _) (.cons (.lent _ _ _ _ _ _) .nil))) .nil), ?_⟩, ?_⟩) | (with_reducible first | exact fun h => h | refine ExE.row (by with_unfolding_all rfl) ?_ | refine And.intro ?_ ?_) | ((with_reducible intro hq); first | exact bne1 hq (by with_reducible assumption) | exact bne1 (by with_reducible assumption) hq | ((simp only [*, BB, cond_true, cond_false, reduceCtorEq] at hq); done) | (revert hq; with_reducible intro _)) | (with_reducible first | exact True.intro | rfl | refine EntLe.row ?_ | exact LeN.ro rfl | exact LeN.rptr | assumption) | ((with_reducible first | refine WkX.chk ?_ | refine Wk.chk ?_ | refine LeL.chk ?_ | refine LeF.chk ?_ | refine Run.mk ?_); (conv => whnf)) | ((with_reducible show LeO _ _); first | refine LeO.ro ?_ | refine LeO.roCap ?_ | refine LeO.nil ?_ (fun _ => rfl)) | ((with_reducible show LeR _ _ _); first | refine LeR.own rfl rfl rfl ?_ | refine LeR.view rfl rfl rfl ?_ ?_ | refine LeR.ro ?_ | refine LeR.roCap ?_ | refine LeR.nil ?_ (fun _ => rfl)) | ((with_reducible first | show drawOK _ _ = true | show lateOK _ _ = true | show drawOK2 _ _ = true | show drawOK3 _ _ = true); kernel_rfl))
  refine loopI Nat [] (fun i => [(7, .v (.int .i64 (i : Nat)))]) (fun _ => []) (fun i => i ≤ sgN s ∧ ∀ k, k < i → (looksL (sgN s) l).getD k zA = (looksL (sgN s2) l2).getD k zA) (fun i => sgN s - i) 0 ⟨Nat.zero_le _, fun k h => absurd h (Nat.not_lt_zero _)⟩ (Wk.chk ?_) fun i hx => ?_
  · ((conv => whnf); repeat' (first | (with_reducible first | exact fun h => h | refine ExE.row (by with_unfolding_all rfl) ?_ | refine And.intro ?_ ?_) | ((with_reducible intro hq); first | exact bne1 hq (by with_reducible assumption) | exact bne1 (by with_reducible assumption) hq | ((simp only [*, BB, cond_true, cond_false, reduceCtorEq] at hq); done) | (revert hq; with_reducible intro _)) | (with_reducible first | exact True.intro | rfl | refine EntLe.row ?_ | exact LeN.ro rfl | exact LeN.rptr | assumption) | ((with_reducible first | refine WkX.chk ?_ | refine Wk.chk ?_ | refine LeL.chk ?_ | refine LeF.chk ?_ | refine Run.mk ?_); (conv => whnf)) | ((with_reducible show LeO _ _); first | refine LeO.ro ?_ | refine LeO.roCap ?_ | refine LeO.nil ?_ (fun _ => rfl)) | ((with_reducible show LeR _ _ _); first | refine LeR.own rfl rfl rfl ?_ | refine LeR.view rfl rfl rfl ?_ ?_ | refine LeR.ro ?_ | refine LeR.roCap ?_ | refine LeR.nil ?_ (fun _ => rfl)) | ((with_reducible first | show drawOK _ _ = true | show lateOK _ _ = true | show drawOK2 _ _ = true | show drawOK3 _ _ = true); kernel_rfl)))
    all_goals rfl
  rotate_left
  all_goals first
    | exact hok
    | exact hok2
    | skip
  obtain ⟨hi1, hi2⟩ := hx
  have e1 : ((i : Nat) : Int).toNat = i := Int.toNat_natCast _
  have hd : C_att.d = zA := rfl
  by_cases hil : i < sgN s
  · have hlt : decide ((i : Int) < ((looksL (sgN s) l).length : Int)) = true := decide_eq_true (by omega)
    have hi21 : i < (looksL (sgN s) l).length := by omega
    have hi22 : i < (looksL (sgN s2) l2).length := by omega
    have hW : (((looksL (sgN s) l).getD ((i : Nat) : Int).toNat C_att.d).bold == ((looksL (sgN s2) l2).getD ((i : Nat) : Int).toNat C_att.d).bold && (((looksL (sgN s) l).getD ((i : Nat) : Int).toNat C_att.d).italic == ((looksL (sgN s2) l2).getD ((i : Nat) : Int).toNat C_att.d).italic && (((looksL (sgN s) l).getD ((i : Nat) : Int).toNat C_att.d).under == ((looksL (sgN s2) l2).getD ((i : Nat) : Int).toNat C_att.d).under && (((looksL (sgN s) l).getD ((i : Nat) : Int).toNat C_att.d).strike == ((looksL (sgN s2) l2).getD ((i : Nat) : Int).toNat C_att.d).strike && (((looksL (sgN s) l).getD ((i : Nat) : Int).toNat C_att.d).colour == ((looksL (sgN s2) l2).getD ((i : Nat) : Int).toNat C_att.d).colour))))) = decide ((looksL (sgN s) l).getD i zA = (looksL (sgN s2) l2).getD i zA) := by
      rw [e1, hd]
      exact atEqB_eq _ _
    by_cases he : (looksL (sgN s) l).getD i zA = (looksL (sgN s2) l2).getD i zA
    · rw [decide_eq_true he] at hW
      have k6 : (!(((looksL (sgN s) l).getD ((i : Nat) : Int).toNat C_att.d).bold == ((looksL (sgN s2) l2).getD ((i : Nat) : Int).toNat C_att.d).bold && (((looksL (sgN s) l).getD ((i : Nat) : Int).toNat C_att.d).italic == ((looksL (sgN s2) l2).getD ((i : Nat) : Int).toNat C_att.d).italic && (((looksL (sgN s) l).getD ((i : Nat) : Int).toNat C_att.d).under == ((looksL (sgN s2) l2).getD ((i : Nat) : Int).toNat C_att.d).under && (((looksL (sgN s) l).getD ((i : Nat) : Int).toNat C_att.d).strike == ((looksL (sgN s2) l2).getD ((i : Nat) : Int).toNat C_att.d).strike && (((looksL (sgN s) l).getD ((i : Nat) : Int).toNat C_att.d).colour == ((looksL (sgN s2) l2).getD ((i : Nat) : Int).toNat C_att.d).colour)))))) = false := by rw [hW]; rfl
      have hi3 : ∀ k, k < i + 1 → (looksL (sgN s) l).getD k zA = (looksL (sgN s2) l2).getD k zA := fun k hk => by
        by_cases h : k = i
        · rw [h]; exact he
        · exact hi2 k (by omega)
      clear he hW
      repeat' (first | (with_reducible refine ex_of (α := Nat) (i + 1) ⟨⟨?_, hi3⟩, ?_⟩ ?_) | (with_reducible first | exact fun h => h | refine ExE.row (by with_unfolding_all rfl) ?_ | refine And.intro ?_ ?_) | ((with_reducible intro hq); first | exact bne1 hq (by with_reducible assumption) | exact bne1 (by with_reducible assumption) hq | ((simp only [*, BB, cond_true, cond_false, reduceCtorEq] at hq); done) | (revert hq; with_reducible intro _)) | (with_reducible first | exact True.intro | rfl | refine EntLe.row ?_ | exact LeN.ro rfl | exact LeN.rptr | assumption) | ((with_reducible first | refine WkX.chk ?_ | refine Wk.chk ?_ | refine LeL.chk ?_ | refine LeF.chk ?_ | refine Run.mk ?_); (conv => whnf)) | ((with_reducible show LeO _ _); first | refine LeO.ro ?_ | refine LeO.roCap ?_ | refine LeO.nil ?_ (fun _ => rfl)) | ((with_reducible show LeR _ _ _); first | refine LeR.own rfl rfl rfl ?_ | refine LeR.view rfl rfl rfl ?_ ?_ | refine LeR.ro ?_ | refine LeR.roCap ?_ | refine LeR.nil ?_ (fun _ => rfl)) | ((with_reducible first | show drawOK _ _ = true | show lateOK _ _ = true | show drawOK2 _ _ = true | show drawOK3 _ _ = true); kernel_rfl))
      all_goals first
        | omega
        | (apply Fits.i64 <;> omega)
        | (dsimp only; omega)
        | trace_state
    · rw [decide_eq_false he] at hW
      have k6 : (!(((looksL (sgN s) l).getD ((i : Nat) : Int).toNat C_att.d).bold == ((looksL (sgN s2) l2).getD ((i : Nat) : Int).toNat C_att.d).bold && (((looksL (sgN s) l).getD ((i : Nat) : Int).toNat C_att.d).italic == ((looksL (sgN s2) l2).getD ((i : Nat) : Int).toNat C_att.d).italic && (((looksL (sgN s) l).getD ((i : Nat) : Int).toNat C_att.d).under == ((looksL (sgN s2) l2).getD ((i : Nat) : Int).toNat C_att.d).under && (((looksL (sgN s) l).getD ((i : Nat) : Int).toNat C_att.d).strike == ((looksL (sgN s2) l2).getD ((i : Nat) : Int).toNat C_att.d).strike && (((looksL (sgN s) l).getD ((i : Nat) : Int).toNat C_att.d).colour == ((looksL (sgN s2) l2).getD ((i : Nat) : Int).toNat C_att.d).colour)))))) = true := by rw [hW]; rfl
      have hne : decide (looksL (sgN s) l = looksL (sgN s2) l2) = false := decide_eq_false fun h => he (by rw [h])
      clear he hW
      repeat' (first | (with_reducible first | exact fun h => h | refine ExE.row (by with_unfolding_all rfl) ?_ | refine And.intro ?_ ?_) | ((with_reducible intro hq); first | exact bne1 hq (by with_reducible assumption) | exact bne1 (by with_reducible assumption) hq | ((simp only [*, BB, cond_true, cond_false, reduceCtorEq] at hq); done) | (revert hq; with_reducible intro _)) | (with_reducible first | exact True.intro | rfl | refine EntLe.row ?_ | exact LeN.ro rfl | exact LeN.rptr | assumption) | ((with_reducible first | refine WkX.chk ?_ | refine Wk.chk ?_ | refine LeL.chk ?_ | refine LeF.chk ?_ | refine Run.mk ?_); (conv => whnf)) | ((with_reducible show LeO _ _); first | refine LeO.ro ?_ | refine LeO.roCap ?_ | refine LeO.nil ?_ (fun _ => rfl)) | ((with_reducible show LeR _ _ _); first | refine LeR.own rfl rfl rfl ?_ | refine LeR.view rfl rfl rfl ?_ ?_ | refine LeR.ro ?_ | refine LeR.roCap ?_ | refine LeR.nil ?_ (fun _ => rfl)) | ((with_reducible first | show drawOK _ _ = true | show lateOK _ _ = true | show drawOK2 _ _ = true | show drawOK3 _ _ = true); kernel_rfl))
      all_goals first
        | omega
        | (rw [hR]; exact hne.symm)
        | trace_state
  have hlt : decide ((i : Int) < ((looksL (sgN s) l).length : Int)) = false := decide_eq_false (by omega)
  have heq : decide (looksL (sgN s) l = looksL (sgN s2) l2) = true := decide_eq_true (getD_ext (d := zA) (by omega) fun k hk => hi2 k (by omega))
  repeat' (first | (with_reducible first | exact fun h => h | refine ExE.row (by with_unfolding_all rfl) ?_ | refine And.intro ?_ ?_) | ((with_reducible intro hq); first | exact bne1 hq (by with_reducible assumption) | exact bne1 (by with_reducible assumption) hq | ((simp only [*, BB, cond_true, cond_false, reduceCtorEq] at hq); done) | (revert hq; with_reducible intro _)) | (with_reducible first | exact True.intro | rfl | refine EntLe.row ?_ | exact LeN.ro rfl | exact LeN.rptr | assumption) | ((with_reducible first | refine WkX.chk ?_ | refine Wk.chk ?_ | refine LeL.chk ?_ | refine LeF.chk ?_ | refine Run.mk ?_); (conv => whnf)) | ((with_reducible show LeO _ _); first | refine LeO.ro ?_ | refine LeO.roCap ?_ | refine LeO.nil ?_ (fun _ => rfl)) | ((with_reducible show LeR _ _ _); first | refine LeR.own rfl rfl rfl ?_ | refine LeR.view rfl rfl rfl ?_ ?_ | refine LeR.ro ?_ | refine LeR.roCap ?_ | refine LeR.nil ?_ (fun _ => rfl)) | ((with_reducible first | show drawOK _ _ = true | show lateOK _ _ = true | show drawOK2 _ _ = true | show drawOK3 _ _ = true); kernel_rfl))
  all_goals first
    | (rw [hR]; exact heq.symm)
    | trace_state
end Go.SX.Try
/- Contract of the law StyleSames: true. -/
namespace Go.SX.Try
open Go.Proofs Go.Proofs.Try Go.SX.Plain
set_option maxRecDepth 100000
set_option maxHeartbeats 0
set_option linter.unusedSimpArgs false
theorem sameB_self (s : ByteArray) (l : List Spn) : sameB s l s l = (chkN s.size l (sgN s : Nat) == 0) := by
  unfold sameB
  by_cases h : chkN s.size l (sgN s : Nat) = 0
  · simp [h]
  · simp [h]
theorem con_styleSames : Con prog 5 (fun ((s, l, s2, l2) : ByteArray × List Spn × ByteArray × List Spn) => [txAV s l, txAV s2 l2]) (fun _ => .v (.bool true)) (fun (_, l, _, l2) => l.length * 32 ≤ 140737488351232 ∧ l2.length * 32 ≤ 140737488351232) := by
  refine Con.of (by kernel_rfl) T_ok CdsOK.nil (.con con_sSame (.con con_rSame (.con con_rcheck7 (.con con_head7 .nil)))) 5 [] q_styleSames.1 q_styleSames.2.1 q_styleSames.2.2 (fun _ => rfl) fun i hi => ?_
  obtain ⟨s, l, s2, l2⟩ := i
  have k1 : (sameB s l s2 l2 == sameB s l s2 l2) = true := by simp
  have k2 : (sameB s l s l == (chkN s.size l (sgN s : Nat) == 0)) = true := by rw [sameB_self]; simp
  have k3 : ((sameB s l s2 l2 == sameB s l s2 l2) && (sameB s l s l == (chkN s.size l (sgN s : Nat) == 0))) = true := by rw [k1, k2]; rfl
  repeat' (first | (with_reducible refine ⟨(s, l, s2, l2), ⟨(.cons (.agg (.cons (.v _) (.cons (.lent _ _ _ _ _ _) .nil))) (.cons (.agg (.cons (.v _) (.cons (.lent _ _ _ _ _ _) .nil))) .nil)), ?_⟩, ?_⟩) | (with_reducible refine ⟨(s, l, s, l), ⟨(.cons (.agg (.cons (.v _) (.cons (.lent _ _ _ _ _ _) .nil))) (.cons (.agg (.cons (.v _) (.cons (.lent _ _ _ _ _ _) .nil))) .nil)), ?_⟩, ?_⟩) | (with_reducible refine ⟨(s, l), ⟨(.cons (.agg (.cons (.v _) (.cons (.lent _ _ _ _ _ _) .nil))) .nil), ?_⟩, ?_⟩) | (with_reducible refine ⟨(), ⟨(.cons (.v _) .nil), ?_⟩, ?_⟩) | (with_reducible refine ⟨(), ⟨.nil, ?_⟩, ?_⟩) | (with_reducible first | exact fun h => h | refine ExE.row (by with_unfolding_all rfl) ?_ | refine And.intro ?_ ?_) | ((with_reducible intro hq); first | exact bne1 hq (by with_reducible assumption) | exact bne1 (by with_reducible assumption) hq | ((simp only [*, BB, cond_true, cond_false, reduceCtorEq] at hq); done) | (revert hq; with_reducible intro _)) | (with_reducible first | exact True.intro | rfl | refine EntLe.row ?_ | exact LeN.ro rfl | exact LeN.rptr | assumption) | ((with_reducible first | refine WkX.chk ?_ | refine Wk.chk ?_ | refine LeL.chk ?_ | refine LeF.chk ?_ | refine Run.mk ?_); (conv => whnf)) | ((with_reducible show LeO _ _); first | refine LeO.ro ?_ | refine LeO.roCap ?_ | refine LeO.nil ?_ (fun _ => rfl)) | ((with_reducible show LeR _ _ _); first | refine LeR.own rfl rfl rfl ?_ | refine LeR.view rfl rfl rfl ?_ ?_ | refine LeR.ro ?_ | refine LeR.roCap ?_ | refine LeR.nil ?_ (fun _ => rfl)) | ((with_reducible first | show drawOK _ _ = true | show lateOK _ _ = true | show drawOK2 _ _ = true | show drawOK3 _ _ = true); kernel_rfl))
  all_goals first
    | rfl
    | (simp_all; done)
    | trace_state
end Go.SX.Try
