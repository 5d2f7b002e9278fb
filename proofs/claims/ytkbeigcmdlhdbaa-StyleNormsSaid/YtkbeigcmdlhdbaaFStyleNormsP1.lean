/- A verified symbolic executor for Go code in the model, contracts and plain laws that the proofs lean on, FStyleNormsP1. -/
import Derived.Test.YtkbeigcmdlhdbaaBZ7
set_option linter.unusedVariables false
set_option linter.unusedSimpArgs false
/- The law StyleNorms: true, whatever the input. -/
namespace Go.SX.Try
open Go.Proofs Go.Proofs.Try Go.SX.Plain
set_option maxRecDepth 100000
set_option maxHeartbeats 0
set_option linter.unusedSimpArgs false
theorem q_styleNorms : fact 9 f9 := ⟨by kernel_rfl, rfl, by kernel_rfl⟩
theorem q_few : fact 40 f40 := ⟨by kernel_rfl, rfl, by kernel_rfl⟩
theorem con_styleNorms : Con prog 9 (fun ((s, l) : ByteArray × List Spn) => [txAV s l]) (fun _ => .v (.bool true)) (fun (_, l) => l.length * 32 ≤ 140737488351232) := by
  refine Con.of (by kernel_rfl) T_ok D_spnP_ok (.inl (J := []) q_few.1 q_few.2.1 q_few.2.2 (.inl (J := []) q_lend.1 q_lend.2.1 q_lend.2.2 (.inl (J := []) q_back.1 q_back.2.1 q_back.2.2 (.con con_sNorm (.con con_rNorm (.con con_sameSpans (.con con_sameText (.con con_head7 .nil)))))))) 5 [] q_styleNorms.1 q_styleNorms.2.1 q_styleNorms.2.2 (fun _ => rfl) fun i hi => ?_
  obtain ⟨s, l⟩ := i
  have hl : l.length * 32 ≤ 140737488351232 := hi
  have hln : (l ++ [mrk]).length = l.length + 1 := by simp
  have e3 : ((l.length : Int) + 3).toNat = l.length + 3 := by omega
  have hvl : (((l ++ [mrk]).drop 0).take l.length) = l := by rw [List.drop_zero]; exact snoc_take l mrk
  have hcl : (nrmL (chkN s.size l (sgN s : Nat)) (looksL (sgN s) l)).length ≤ 256 := nrmL_len
  have hll : decide (l = l) = true := decide_eq_true rfl
  have hE4 : (decide (l = l) && spEqB ((l ++ [mrk]).getD (((0 : Nat) : Int) + (l.length : Int)).toNat C_spnP.d) mrk) = true := by
    rw [hll, show (((0 : Nat) : Int) + (l.length : Int)).toNat = l.length by omega, snoc_at, spEqB_eq]
    simp
  have hTT : (decide (nrmT (chkN s.size l (sgN s : Nat)) s (looksL (sgN s) l) = nrmT (chkN s.size l (sgN s : Nat)) s (looksL (sgN s) l)) && decide (nrmL (chkN s.size l (sgN s : Nat)) (looksL (sgN s) l) = nrmL (chkN s.size l (sgN s : Nat)) (looksL (sgN s) l))) = true := by simp
  have hEE : (nrmE (chkN s.size l (sgN s : Nat)) (looksL (sgN s) l) == nrmE (chkN s.size l (sgN s : Nat)) (looksL (sgN s) l)) = true := by simp
  by_cases hf : l.length ≤ 300
  case neg =>
    have kf : decide ((l.length : Int) ≤ 300) = false := decide_eq_false (by omega)
    have kn : (!(decide ((l.length : Int) ≤ 300))) = true := by rw [kf]; rfl
    repeat' (first | (with_reducible refine ⟨(), ⟨.nil, ?_⟩, ?_⟩) | (with_reducible first | exact fun h => h | refine ExE.row (by with_unfolding_all rfl) ?_ | refine And.intro ?_ ?_) | ((with_reducible intro hq); first | exact bne1 hq (by with_reducible assumption) | exact bne1 (by with_reducible assumption) hq | ((simp only [*, BB, cond_true, cond_false, reduceCtorEq] at hq); done) | (revert hq; with_reducible intro _)) | (with_reducible first | exact True.intro | rfl | refine EntLe.row ?_ | exact LeN.ro rfl | exact LeN.rptr | assumption) | ((with_reducible first | refine WkX.chk ?_ | refine Wk.chk ?_ | refine LeL.chk ?_ | refine LeF.chk ?_ | refine Run.mk ?_); (conv => whnf)) | ((with_reducible show LeO _ _); first | refine LeO.ro ?_ | refine LeO.roCap ?_ | refine LeO.nil ?_ (fun _ => rfl)) | ((with_reducible show LeR _ _ _); first | refine LeR.own rfl rfl rfl ?_ | refine LeR.view rfl rfl rfl ?_ ?_ | refine LeR.ro ?_ | refine LeR.roCap ?_ | refine LeR.nil ?_ (fun _ => rfl)) | ((with_reducible first | show drawOK _ _ = true | show lateOK _ _ = true | show drawOK2 _ _ = true | show drawOK3 _ _ = true); kernel_rfl))
    all_goals first
      | rfl
      | trace_state
  have kf : decide ((l.length : Int) ≤ 300) = true := decide_eq_true (by omega)
  have kn : (!(decide ((l.length : Int) ≤ 300))) = false := by rw [kf]; rfl
  repeat' (first | (with_reducible refine ex_of (α := List Spn) l ⟨rfl, rfl, fun _ => rfl⟩ ?_) | (with_reducible refine ⟨(s, l), ⟨.cons (.agg (.cons (.v _) (.cons (le_view (by with_unfolding_all exact rfl) (by with_unfolding_all exact rfl) (by with_unfolding_all exact rfl) ?_ ?_) .nil))) .nil, ?_⟩, ?_⟩) | (with_reducible refine ⟨(s, l), ⟨(.cons (.agg (.cons (.v _) (.cons (.lent _ _ _ _ _ _) .nil))) .nil), ?_⟩, ?_⟩) | (with_reducible refine ⟨(l, l), ⟨.cons (le_view (by with_unfolding_all exact rfl) (by with_unfolding_all exact rfl) (by with_unfolding_all exact rfl) ?_ ?_) (.cons (.lent _ _ _ _ _ _) .nil), ?_⟩, ?_⟩) | (with_reducible refine ⟨(_, _, _, _), ⟨(.cons (.agg (.cons (.v _) (.cons (.lent _ _ _ _ _ _) .nil))) (.cons (.agg (.cons (.v _) (.cons (.lent _ _ _ _ _ _) .nil))) .nil)), ?_⟩, ?_⟩) | (with_reducible refine ⟨(), ⟨.nil, ?_⟩, ?_⟩) | (with_reducible first | exact fun h => h | refine ExE.row (by with_unfolding_all rfl) ?_ | refine And.intro ?_ ?_) | ((with_reducible intro hq); first | exact bne1 hq (by with_reducible assumption) | exact bne1 (by with_reducible assumption) hq | ((simp only [*, BB, cond_true, cond_false, reduceCtorEq] at hq); done) | (revert hq; with_reducible intro _)) | (with_reducible first | exact True.intro | rfl | refine EntLe.row ?_ | exact LeN.ro rfl | exact LeN.rptr | assumption) | ((with_reducible first | refine WkX.chk ?_ | refine Wk.chk ?_ | refine LeL.chk ?_ | refine LeF.chk ?_ | refine Run.mk ?_); (conv => whnf)) | ((with_reducible show LeO _ _); first | refine LeO.ro ?_ | refine LeO.roCap ?_ | refine LeO.nil ?_ (fun _ => rfl)) | ((with_reducible show LeR _ _ _); first | refine LeR.own rfl rfl rfl ?_ | refine LeR.view rfl rfl rfl ?_ ?_ | refine LeR.ro ?_ | refine LeR.roCap ?_ | refine LeR.nil ?_ (fun _ => rfl)) | ((with_reducible first | show drawOK _ _ = true | show lateOK _ _ = true | show drawOK2 _ _ = true | show drawOK3 _ _ = true); kernel_rfl))
  all_goals (try first | omega | (apply Fits.i64 <;> omega) | exact hvl | (dsimp only; omega) | (simp only [List.length_append, List.length_cons, List.length_nil, List.length_replicate, e3]; omega) | rfl)
  refine loopI Nat [] (fun i => [(7, .v (.int .i64 (i : Nat))), (6, .sb true)]) (fun i => [(4, .row C_spnP (bkTo ovr (l ++ [mrk]) i) 71 (some ((l.length : Int) + 3).toNat))]) (fun i => i ≤ l.length + 1) (fun i => l.length + 1 - i) 0 (Nat.zero_le _) (Wk.chk ?_) fun i hi => ?_
  · ((conv => whnf); repeat' (first | (with_reducible first | exact fun h => h | refine ExE.row (by with_unfolding_all rfl) ?_ | refine And.intro ?_ ?_) | ((with_reducible intro hq); first | exact bne1 hq (by with_reducible assumption) | exact bne1 (by with_reducible assumption) hq | ((simp only [*, BB, cond_true, cond_false, reduceCtorEq] at hq); done) | (revert hq; with_reducible intro _)) | (with_reducible first | exact True.intro | rfl | refine EntLe.row ?_ | exact LeN.ro rfl | exact LeN.rptr | assumption) | ((with_reducible first | refine WkX.chk ?_ | refine Wk.chk ?_ | refine LeL.chk ?_ | refine LeF.chk ?_ | refine Run.mk ?_); (conv => whnf)) | ((with_reducible show LeO _ _); first | refine LeO.ro ?_ | refine LeO.roCap ?_ | refine LeO.nil ?_ (fun _ => rfl)) | ((with_reducible show LeR _ _ _); first | refine LeR.own rfl rfl rfl ?_ | refine LeR.view rfl rfl rfl ?_ ?_ | refine LeR.ro ?_ | refine LeR.roCap ?_ | refine LeR.nil ?_ (fun _ => rfl)) | ((with_reducible first | show drawOK _ _ = true | show lateOK _ _ = true | show drawOK2 _ _ = true | show drawOK3 _ _ = true); kernel_rfl)))
    all_goals first
      | rfl
      | exact hE4
      | (rw [bk_zero]; rfl)
      | trace_state
  have hi : i ≤ l.length + 1 := hi
  have hbl := bk_len ovr (R := l ++ [mrk]) (i := i) (by omega)
  by_cases hil : i < l.length + 1
  · have hlt : decide ((i : Int) < ((((l.length : Int) + 1).toNat : Nat) : Int)) = true := decide_eq_true (by omega)
    have hst := bk_step ovr (R := l ++ [mrk]) (i := i) (by omega)
    have hst' : (bkTo ovr (l ++ [mrk]) i).set (((0 : Nat) : Int) + (i : Int)).toNat ovr = bkTo ovr (l ++ [mrk]) (i + 1) := by rw [show (((0 : Nat) : Int) + (i : Int)).toNat = i by omega]; exact hst
    repeat' (first | (with_reducible refine ex_of (α := Nat) (i + 1) ⟨?_, ?_⟩ ?_) | (with_reducible first | exact fun h => h | refine ExE.row (by with_unfolding_all rfl) ?_ | refine And.intro ?_ ?_) | ((with_reducible intro hq); first | exact bne1 hq (by with_reducible assumption) | exact bne1 (by with_reducible assumption) hq | ((simp only [*, BB, cond_true, cond_false, reduceCtorEq] at hq); done) | (revert hq; with_reducible intro _)) | (with_reducible first | exact True.intro | rfl | refine EntLe.row ?_ | exact LeN.ro rfl | exact LeN.rptr | assumption) | ((with_reducible first | refine WkX.chk ?_ | refine Wk.chk ?_ | refine LeL.chk ?_ | refine LeF.chk ?_ | refine Run.mk ?_); (conv => whnf)) | ((with_reducible show LeO _ _); first | refine LeO.ro ?_ | refine LeO.roCap ?_ | refine LeO.nil ?_ (fun _ => rfl)) | ((with_reducible show LeR _ _ _); first | refine LeR.own rfl rfl rfl ?_ | refine LeR.view rfl rfl rfl ?_ ?_ | refine LeR.ro ?_ | refine LeR.roCap ?_ | refine LeR.nil ?_ (fun _ => rfl)) | ((with_reducible first | show drawOK _ _ = true | show lateOK _ _ = true | show drawOK2 _ _ = true | show drawOK3 _ _ = true); kernel_rfl))
    all_goals first
      | omega
      | (apply Fits.i64 <;> omega)
      | (dsimp only; omega)
      | (with_reducible rfl)
      | (dsimp only [C_spn]; done)
      | exact hst'
      | trace_state
  have hlt : decide ((i : Int) < ((((l.length : Int) + 1).toNat : Nat) : Int)) = false := decide_eq_false (by omega)
  repeat' (first | (with_reducible refine ex_of (α := List Spn) l ⟨rfl, rfl, fun _ => rfl⟩ ?_) | (with_reducible refine ⟨(s, l), ⟨.cons (.agg (.cons (.v _) (.cons (le_view (by with_unfolding_all exact rfl) (by with_unfolding_all exact rfl) (by with_unfolding_all exact rfl) ?_ ?_) .nil))) .nil, ?_⟩, ?_⟩) | (with_reducible refine ⟨(s, l), ⟨(.cons (.agg (.cons (.v _) (.cons (.lent _ _ _ _ _ _) .nil))) .nil), ?_⟩, ?_⟩) | (with_reducible refine ⟨(l, l), ⟨.cons (le_view (by with_unfolding_all exact rfl) (by with_unfolding_all exact rfl) (by with_unfolding_all exact rfl) ?_ ?_) (.cons (.lent _ _ _ _ _ _) .nil), ?_⟩, ?_⟩) | (with_reducible refine ⟨(_, _, _, _), ⟨(.cons (.agg (.cons (.v _) (.cons (.lent _ _ _ _ _ _) .nil))) (.cons (.agg (.cons (.v _) (.cons (.lent _ _ _ _ _ _) .nil))) .nil)), ?_⟩, ?_⟩) | (with_reducible refine ⟨(), ⟨.nil, ?_⟩, ?_⟩) | (with_reducible first | exact fun h => h | refine ExE.row (by with_unfolding_all rfl) ?_ | refine And.intro ?_ ?_) | ((with_reducible intro hq); first | exact bne1 hq (by with_reducible assumption) | exact bne1 (by with_reducible assumption) hq | ((simp only [*, BB, cond_true, cond_false, reduceCtorEq] at hq); done) | (revert hq; with_reducible intro _)) | (with_reducible first | exact True.intro | rfl | refine EntLe.row ?_ | exact LeN.ro rfl | exact LeN.rptr | assumption) | ((with_reducible first | refine WkX.chk ?_ | refine Wk.chk ?_ | refine LeL.chk ?_ | refine LeF.chk ?_ | refine Run.mk ?_); (conv => whnf)) | ((with_reducible show LeO _ _); first | refine LeO.ro ?_ | refine LeO.roCap ?_ | refine LeO.nil ?_ (fun _ => rfl)) | ((with_reducible show LeR _ _ _); first | refine LeR.own rfl rfl rfl ?_ | refine LeR.view rfl rfl rfl ?_ ?_ | refine LeR.ro ?_ | refine LeR.roCap ?_ | refine LeR.nil ?_ (fun _ => rfl)) | ((with_reducible first | show drawOK _ _ = true | show lateOK _ _ = true | show drawOK2 _ _ = true | show drawOK3 _ _ = true); kernel_rfl))
  all_goals first
    | omega
    | exact hTT
    | exact hEE
    | (dsimp only; omega)
    | rfl
    | (show (0 : Nat) ≤ 9000000000000000000; decide)
    | (rename_i hbad; rw [hTT, hEE] at hbad; cases hbad; done)
    | (simp only [*, Bool.and_true, Bool.true_and]; done)
    | (simp [hTT, hEE]; done)
    | trace_state
end Go.SX.Try
