/- A verified symbolic executor for Go code in the model, contracts and plain laws that the proofs lean on, BJ5. -/
import Derived.Test.YtkbeigcmdlhdbaaBJ4
set_option linter.unusedVariables false
set_option linter.unusedSimpArgs false
/- Contracts of the document's chapter 1: long, second, rest, more, one. -/
namespace Go.SX.Try
open Go.Proofs Go.Proofs.Try Go.SX.Plain
set_option maxRecDepth 100000
set_option maxHeartbeats 0
set_option linter.unusedSimpArgs false
theorem q_long : fact 103 f103 := ⟨by kernel_rfl, rfl, by kernel_rfl⟩
theorem q_second : fact 104 f104 := ⟨by kernel_rfl, rfl, by kernel_rfl⟩
theorem q_rest : fact 105 f105 := ⟨by kernel_rfl, rfl, by kernel_rfl⟩
theorem q_more : fact 106 f106 := ⟨by kernel_rfl, rfl, by kernel_rfl⟩
theorem q_rone : fact 80 f80 := ⟨by kernel_rfl, rfl, by kernel_rfl⟩
theorem con_long : Con prog 103 (fun c : Int => [.v (.int .u8 c)]) (fun c => .v (.int .i64 (longI c))) (fun _ => True) := by
  refine Con.of (by kernel_rfl) T_ok CdsOK.nil .nil 1 [] q_long.1 q_long.2.1 q_long.2.2 (fun _ => rfl) fun c _ => ?_
  repeat' (first | (with_reducible first | exact fun h => h | refine ExE.row (by with_unfolding_all rfl) ?_ | refine And.intro ?_ ?_) | ((with_reducible intro hq); first | exact bne1 hq (by with_reducible assumption) | exact bne1 (by with_reducible assumption) hq | ((simp only [*, BB, cond_true, cond_false, reduceCtorEq] at hq); done) | (revert hq; with_reducible intro _)) | (with_reducible first | exact True.intro | rfl | refine EntLe.row ?_ | exact LeN.ro rfl | exact LeN.rptr | assumption) | ((with_reducible first | refine WkX.chk ?_ | refine Wk.chk ?_ | refine LeL.chk ?_ | refine LeF.chk ?_ | refine Run.mk ?_); (conv => whnf)) | ((with_reducible show LeO _ _); first | refine LeO.ro ?_ | refine LeO.roCap ?_ | refine LeO.nil ?_ (fun _ => rfl)) | ((with_reducible show LeR _ _ _); first | refine LeR.own rfl rfl rfl ?_ | refine LeR.view rfl rfl rfl ?_ ?_ | refine LeR.ro ?_ | refine LeR.roCap ?_ | refine LeR.nil ?_ (fun _ => rfl)) | ((with_reducible first | show drawOK _ _ = true | show lateOK _ _ = true | show drawOK2 _ _ = true | show drawOK3 _ _ = true); kernel_rfl))
  all_goals simp only [Bool.and_eq_true, Bool.and_eq_false_iff, decide_eq_true_eq, decide_eq_false_iff_not] at *
  all_goals first
    | omega
    | (unfold longI; repeat' split) <;> omega
theorem con_second : Con prog 104 (fun ((c, d) : Int × Int) => [.v (.int .u8 c), .v (.int .u8 d)]) (fun (c, d) => .sb (secondB c d)) (fun _ => True) := by
  refine Con.of (by kernel_rfl) T_ok CdsOK.nil .nil 1 [] q_second.1 q_second.2.1 q_second.2.2 (fun _ => rfl) fun i _ => ?_
  obtain ⟨c, d⟩ := i
  repeat' (first | (with_reducible first | exact fun h => h | refine ExE.row (by with_unfolding_all rfl) ?_ | refine And.intro ?_ ?_) | ((with_reducible intro hq); first | exact bne1 hq (by with_reducible assumption) | exact bne1 (by with_reducible assumption) hq | ((simp only [*, BB, cond_true, cond_false, reduceCtorEq] at hq); done) | (revert hq; with_reducible intro _)) | (with_reducible first | exact True.intro | rfl | refine EntLe.row ?_ | exact LeN.ro rfl | exact LeN.rptr | assumption) | ((with_reducible first | refine WkX.chk ?_ | refine Wk.chk ?_ | refine LeL.chk ?_ | refine LeF.chk ?_ | refine Run.mk ?_); (conv => whnf)) | ((with_reducible show LeO _ _); first | refine LeO.ro ?_ | refine LeO.roCap ?_ | refine LeO.nil ?_ (fun _ => rfl)) | ((with_reducible show LeR _ _ _); first | refine LeR.own rfl rfl rfl ?_ | refine LeR.view rfl rfl rfl ?_ ?_ | refine LeR.ro ?_ | refine LeR.roCap ?_ | refine LeR.nil ?_ (fun _ => rfl)) | ((with_reducible first | show drawOK _ _ = true | show lateOK _ _ = true | show drawOK2 _ _ = true | show drawOK3 _ _ = true); kernel_rfl))
  all_goals first
    | (simp only [beq_iff_eq, beq_eq_false_iff_ne, ne_eq] at *; unfold secondB; simp_all; done)
theorem con_rest : Con prog 105 (fun ((s, i) : ByteArray × Int) => [.ro 1 C_byte.enc C_byte.d (bytesL s) none, .v (.int .i64 i)]) (fun (s, i) => .v (.int .i64 (bt s i.toNat - 128))) (fun (s, i) => 0 ≤ i ∧ i < s.size) := by
  refine Con.of (by kernel_rfl) T_ok CdsOK.nil .nil 1 [] q_rest.1 q_rest.2.1 q_rest.2.2 (fun _ => rfl) fun i hi => ?_
  obtain ⟨s, i⟩ := i
  obtain ⟨hi0, hi⟩ : 0 ≤ i ∧ i < s.size := hi
  have hb := bt_bd s i.toNat
  have e1 : (bytesL s).getD i.toNat C_byte.d = bt s i.toNat := rfl
  repeat' (first | (with_reducible first | exact fun h => h | refine ExE.row (by with_unfolding_all rfl) ?_ | refine And.intro ?_ ?_) | ((with_reducible intro hq); first | exact bne1 hq (by with_reducible assumption) | exact bne1 (by with_reducible assumption) hq | ((simp only [*, BB, cond_true, cond_false, reduceCtorEq] at hq); done) | (revert hq; with_reducible intro _)) | (with_reducible first | exact True.intro | rfl | refine EntLe.row ?_ | exact LeN.ro rfl | exact LeN.rptr | assumption) | ((with_reducible first | refine WkX.chk ?_ | refine Wk.chk ?_ | refine LeL.chk ?_ | refine LeF.chk ?_ | refine Run.mk ?_); (conv => whnf)) | ((with_reducible show LeO _ _); first | refine LeO.ro ?_ | refine LeO.roCap ?_ | refine LeO.nil ?_ (fun _ => rfl)) | ((with_reducible show LeR _ _ _); first | refine LeR.own rfl rfl rfl ?_ | refine LeR.view rfl rfl rfl ?_ ?_ | refine LeR.ro ?_ | refine LeR.roCap ?_ | refine LeR.nil ?_ (fun _ => rfl)) | ((with_reducible first | show drawOK _ _ = true | show lateOK _ _ = true | show drawOK2 _ _ = true | show drawOK3 _ _ = true); kernel_rfl))
  all_goals (try simp only [e1, bytesL_len])
  all_goals first
    | omega
    | (refine Fits.i64 ?_ ?_ <;> omega)
theorem con_more : Con prog 106 (fun ((s, i) : ByteArray × Int) => [.ro 1 C_byte.enc C_byte.d (bytesL s) none, .v (.int .i64 i)]) (fun (s, i) => .sb (moreB s i.toNat)) (fun (s, i) => 0 ≤ i) := by
  refine Con.of (by kernel_rfl) T_ok CdsOK.nil .nil 1 [] q_more.1 q_more.2.1 q_more.2.2 (fun _ => rfl) fun i hi => ?_
  obtain ⟨s, i⟩ := i
  have hi : 0 ≤ i := hi
  have hb := bt_bd s i.toNat
  have e1 : (bytesL s).getD i.toNat C_byte.d = bt s i.toNat := rfl
  repeat' (first | (with_reducible first | exact fun h => h | refine ExE.row (by with_unfolding_all rfl) ?_ | refine And.intro ?_ ?_) | ((with_reducible intro hq); first | exact bne1 hq (by with_reducible assumption) | exact bne1 (by with_reducible assumption) hq | ((simp only [*, BB, cond_true, cond_false, reduceCtorEq] at hq); done) | (revert hq; with_reducible intro _)) | (with_reducible first | exact True.intro | rfl | refine EntLe.row ?_ | exact LeN.ro rfl | exact LeN.rptr | assumption) | ((with_reducible first | refine WkX.chk ?_ | refine Wk.chk ?_ | refine LeL.chk ?_ | refine LeF.chk ?_ | refine Run.mk ?_); (conv => whnf)) | ((with_reducible show LeO _ _); first | refine LeO.ro ?_ | refine LeO.roCap ?_ | refine LeO.nil ?_ (fun _ => rfl)) | ((with_reducible show LeR _ _ _); first | refine LeR.own rfl rfl rfl ?_ | refine LeR.view rfl rfl rfl ?_ ?_ | refine LeR.ro ?_ | refine LeR.roCap ?_ | refine LeR.nil ?_ (fun _ => rfl)) | ((with_reducible first | show drawOK _ _ = true | show lateOK _ _ = true | show drawOK2 _ _ = true | show drawOK3 _ _ = true); kernel_rfl))
  all_goals (try simp only [e1, bytesL_len] at *)
  all_goals first
    | omega
    | (simp only [decide_eq_true_eq, Bool.and_eq_true] at *; omega)
    | (unfold moreB; rw [Bool.eq_iff_iff]; simp only [decide_eq_true_eq, Bool.and_eq_true]; omega)
abbrev sgAV (x : Sgn) : List AV := [.v (.int .i64 x.at), .v (.int .i64 x.len), .v (.int .i64 x.rune), .sb x.bad]
theorem con_rone : Con prog 80 (fun ((s, i) : ByteArray × Nat) => [.ro 1 C_byte.enc C_byte.d (bytesL s) none, .v (.int .i64 (i : Int))]) (fun (s, i) => .agg (sgAV (sgnAt s i))) (fun (s, i) => i < s.size ∧ s.size ≤ 140737488355328) := by
  refine Con.of (by kernel_rfl) T_ok CdsOK.nil (.con con_long (.con con_second (.con con_rest (.con con_more .nil)))) 3 [] q_rone.1 q_rone.2.1 q_rone.2.2 (fun _ => rfl) fun i hi => ?_
  obtain ⟨s, i⟩ := i
  obtain ⟨hi, hz⟩ : i < s.size ∧ s.size ≤ 140737488355328 := hi
  have hb := bt_bd s i
  have e0 : ((i : Int)).toNat = i := Int.toNat_natCast _
  have e1 : (bytesL s).getD i C_byte.d = bt s i := rfl
  have e2 : ((i : Int) + 1).toNat = i + 1 := by omega
  have e3 : (bytesL s).getD (i + 1) C_byte.d = bt s (i + 1) := rfl
  have hb1 := bt_bd s (i + 1)
  have hb2 := bt_bd s (i + 2)
  have hb3 := bt_bd s (i + 3)
  have hl := longI_cases (bt s i)
  repeat' (first | (with_reducible refine ⟨_, ⟨(.cons (.v _) .nil), ?_⟩, ?_⟩) | (with_reducible refine ⟨(_, _), ⟨(.cons (.v _) (.cons (.v _) .nil)), ?_⟩, ?_⟩) | (with_reducible refine ⟨(_, _), ⟨(.cons (.ro _ _ _ _ _) (.cons (.v _) .nil)), ?_⟩, ?_⟩) | (with_reducible first | exact fun h => h | refine ExE.row (by with_unfolding_all rfl) ?_ | refine And.intro ?_ ?_) | ((with_reducible intro hq); first | exact bne1 hq (by with_reducible assumption) | exact bne1 (by with_reducible assumption) hq | ((simp only [*, BB, cond_true, cond_false, reduceCtorEq] at hq); done) | (revert hq; with_reducible intro _)) | (with_reducible first | exact True.intro | rfl | refine EntLe.row ?_ | exact LeN.ro rfl | exact LeN.rptr | assumption) | ((with_reducible first | refine WkX.chk ?_ | refine Wk.chk ?_ | refine LeL.chk ?_ | refine LeF.chk ?_ | refine Run.mk ?_); (conv => whnf)) | ((with_reducible show LeO _ _); first | refine LeO.ro ?_ | refine LeO.roCap ?_ | refine LeO.nil ?_ (fun _ => rfl)) | ((with_reducible show LeR _ _ _); first | refine LeR.own rfl rfl rfl ?_ | refine LeR.view rfl rfl rfl ?_ ?_ | refine LeR.ro ?_ | refine LeR.roCap ?_ | refine LeR.nil ?_ (fun _ => rfl)) | ((with_reducible first | show drawOK _ _ = true | show lateOK _ _ = true | show drawOK2 _ _ = true | show drawOK3 _ _ = true); kernel_rfl))
  all_goals (try simp only [e0, e1, e2, e3, bytesL_len, beq_iff_eq, beq_eq_false_iff_ne, ne_eq, decide_eq_true_eq, decide_eq_false_iff_not, Bool.or_eq_true, Bool.or_eq_false_iff, Bool.not_eq_true', Bool.not_eq_false', Bool.cond_eq_true_distrib] at *)
  all_goals first
    | omega
    | (refine Fits.i64 ?_ ?_ <;> omega)
    | rfl
    | exact (sgn_bad (dec_0 (by assumption))).1
    | exact (sgn_bad (dec_0 (by assumption))).2.1
    | exact (sgn_bad (dec_0 (by assumption))).2.2
    | exact (sgn_1 (by assumption)).1
    | exact (sgn_1 (by assumption)).2.1
    | exact (sgn_1 (by assumption)).2.2
    | exact (sgn_bad (second_no' (by assumption) (by assumption) (by assumption))).1
    | exact (sgn_bad (second_no' (by assumption) (by assumption) (by assumption))).2.1
    | exact (sgn_bad (second_no' (by assumption) (by assumption) (by assumption))).2.2
    | exact (sgn_bad (second_no' (by assumption) (by assumption) (.inl (by omega)))).1
    | exact (sgn_bad (second_no' (by assumption) (by assumption) (.inl (by omega)))).2.1
    | exact (sgn_bad (second_no' (by assumption) (by assumption) (.inl (by omega)))).2.2
    | (exfalso; simp_all; done)
    | skip
  rename_i hn0 hn1 h1 h2
  obtain ⟨h1, h2⟩ := h2
  refine loopI Nat [] (fun k => [(8, .v (.int .i64 (k : Int))), (7, .v (.int .i64 (restR s i k)))]) (fun _ => []) (fun k => 2 ≤ k ∧ (k : Int) ≤ longI (bt s i) ∧ (3 ≤ k → moreB s (i + 2) = true) ∧ (4 ≤ k → moreB s (i + 3) = true)) (fun k => 4 - k) 2 ⟨by omega, by omega, by omega, by omega⟩ (Wk.chk ?_) fun k hk => ?_
  · ((conv => whnf); repeat' (first | (with_reducible first | exact fun h => h | refine ExE.row (by with_unfolding_all rfl) ?_ | refine And.intro ?_ ?_) | ((with_reducible intro hq); first | exact bne1 hq (by with_reducible assumption) | exact bne1 (by with_reducible assumption) hq | ((simp only [*, BB, cond_true, cond_false, reduceCtorEq] at hq); done) | (revert hq; with_reducible intro _)) | (with_reducible first | exact True.intro | rfl | refine EntLe.row ?_ | exact LeN.ro rfl | exact LeN.rptr | assumption) | ((with_reducible first | refine WkX.chk ?_ | refine Wk.chk ?_ | refine LeL.chk ?_ | refine LeF.chk ?_ | refine Run.mk ?_); (conv => whnf)) | ((with_reducible show LeO _ _); first | refine LeO.ro ?_ | refine LeO.roCap ?_ | refine LeO.nil ?_ (fun _ => rfl)) | ((with_reducible show LeR _ _ _); first | refine LeR.own rfl rfl rfl ?_ | refine LeR.view rfl rfl rfl ?_ ?_ | refine LeR.ro ?_ | refine LeR.roCap ?_ | refine LeR.nil ?_ (fun _ => rfl)) | ((with_reducible first | show drawOK _ _ = true | show lateOK _ _ = true | show drawOK2 _ _ = true | show drawOK3 _ _ = true); kernel_rfl)))
    all_goals rfl
  obtain ⟨k1, k2, k3, k4⟩ := hk
  obtain rfl | rfl | rfl : k = 2 ∨ k = 3 ∨ k = 4 := by omega
  all_goals
    have r2 : restR s i 2 = bt s (i + 1) - 128 := rfl
    have r3 : restR s i 3 = 64 * (bt s (i + 1) - 128) + (bt s (i + 2) - 128) := rfl
    have r4 : restR s i 4 = 64 * (64 * (bt s (i + 1) - 128) + (bt s (i + 2) - 128)) + (bt s (i + 3) - 128) := rfl
    have c2 : ((2 : Nat) : Int) = 2 := rfl
    have c3 : ((3 : Nat) : Int) = 3 := rfl
    have c4 : ((4 : Nat) : Int) = 4 := rfl
    have e2 : ((i : Int) + 2).toNat = i + 2 := by omega
    have e3 : ((i : Int) + 3).toNat = i + 3 := by omega
    have e0 : ((i : Int)).toNat = i := Int.toNat_natCast _
    have e1 : (bytesL s).getD i C_byte.d = bt s i := rfl
  · repeat' (first | (with_reducible refine ex_of 3 ⟨⟨?_, ?_, ?_, ?_⟩, ?_⟩ ?_) | (with_reducible refine ⟨(_, _), ⟨(.cons (.ro _ _ _ _ _) (.cons (.v _) .nil)), ?_⟩, ?_⟩) | (with_reducible first | exact fun h => h | refine ExE.row (by with_unfolding_all rfl) ?_ | refine And.intro ?_ ?_) | ((with_reducible intro hq); first | exact bne1 hq (by with_reducible assumption) | exact bne1 (by with_reducible assumption) hq | ((simp only [*, BB, cond_true, cond_false, reduceCtorEq] at hq); done) | (revert hq; with_reducible intro _)) | (with_reducible first | exact True.intro | rfl | refine EntLe.row ?_ | exact LeN.ro rfl | exact LeN.rptr | assumption) | ((with_reducible first | refine WkX.chk ?_ | refine Wk.chk ?_ | refine LeL.chk ?_ | refine LeF.chk ?_ | refine Run.mk ?_); (conv => whnf)) | ((with_reducible show LeO _ _); first | refine LeO.ro ?_ | refine LeO.roCap ?_ | refine LeO.nil ?_ (fun _ => rfl)) | ((with_reducible show LeR _ _ _); first | refine LeR.own rfl rfl rfl ?_ | refine LeR.view rfl rfl rfl ?_ ?_ | refine LeR.ro ?_ | refine LeR.roCap ?_ | refine LeR.nil ?_ (fun _ => rfl)) | ((with_reducible first | show drawOK _ _ = true | show lateOK _ _ = true | show drawOK2 _ _ = true | show drawOK3 _ _ = true); kernel_rfl))
    all_goals (try simp only [r2, r3, r4, c2, c3, c4, e0, e1, e2, e3, bytesL_len, beq_iff_eq, beq_eq_false_iff_ne, ne_eq, decide_eq_true_eq, decide_eq_false_iff_not, Bool.not_eq_true', Bool.not_eq_false'] at *)
    all_goals first
      | omega
      | (refine Fits.i64 ?_ ?_ <;> omega)
      | assumption
      | exact (moreB_yes (by assumption)).1
      | (have := (moreB_yes (by assumption)).1; omega)
      | rfl
      | exact (sgn_bad (more_no2 (by omega) (by assumption))).1
      | exact (sgn_bad (more_no2 (by omega) (by assumption))).2.1
      | exact (sgn_bad (more_no2 (by omega) (by assumption))).2.2
      | (have hn : longI (bt s i) = 2 := by omega
         have d := dec_2 hn (by omega) h2
         have q := sgn_n d.1 d.2.1 (by omega)
         first
         | (rw [hn]; exact q.1)
         | exact q.2.1
         | exact q.2.2)
  · have m2 : moreB s (i + 2) = true := k3 (by omega)
    repeat' (first | (with_reducible refine ex_of 4 ⟨⟨?_, ?_, ?_, ?_⟩, ?_⟩ ?_) | (with_reducible refine ⟨(_, _), ⟨(.cons (.ro _ _ _ _ _) (.cons (.v _) .nil)), ?_⟩, ?_⟩) | (with_reducible first | exact fun h => h | refine ExE.row (by with_unfolding_all rfl) ?_ | refine And.intro ?_ ?_) | ((with_reducible intro hq); first | exact bne1 hq (by with_reducible assumption) | exact bne1 (by with_reducible assumption) hq | ((simp only [*, BB, cond_true, cond_false, reduceCtorEq] at hq); done) | (revert hq; with_reducible intro _)) | (with_reducible first | exact True.intro | rfl | refine EntLe.row ?_ | exact LeN.ro rfl | exact LeN.rptr | assumption) | ((with_reducible first | refine WkX.chk ?_ | refine Wk.chk ?_ | refine LeL.chk ?_ | refine LeF.chk ?_ | refine Run.mk ?_); (conv => whnf)) | ((with_reducible show LeO _ _); first | refine LeO.ro ?_ | refine LeO.roCap ?_ | refine LeO.nil ?_ (fun _ => rfl)) | ((with_reducible show LeR _ _ _); first | refine LeR.own rfl rfl rfl ?_ | refine LeR.view rfl rfl rfl ?_ ?_ | refine LeR.ro ?_ | refine LeR.roCap ?_ | refine LeR.nil ?_ (fun _ => rfl)) | ((with_reducible first | show drawOK _ _ = true | show lateOK _ _ = true | show drawOK2 _ _ = true | show drawOK3 _ _ = true); kernel_rfl))
    all_goals (try simp only [r2, r3, r4, c2, c3, c4, e0, e1, e2, e3, bytesL_len, beq_iff_eq, beq_eq_false_iff_ne, ne_eq, decide_eq_true_eq, decide_eq_false_iff_not, Bool.not_eq_true', Bool.not_eq_false'] at *)
    all_goals first
      | omega
      | (refine Fits.i64 ?_ ?_ <;> omega)
      | assumption
      | exact (moreB_yes (by assumption)).1
      | (have := (moreB_yes (k := i + 3) (by assumption)).1; omega)
      | rfl
      | exact (sgn_bad (more_no3 (by omega) (by assumption))).1
      | exact (sgn_bad (more_no3 (by omega) (by assumption))).2.1
      | exact (sgn_bad (more_no3 (by omega) (by assumption))).2.2
      | (have hn : longI (bt s i) = 3 := by omega
         have d := dec_3 hn (by omega) h2 m2
         have q := sgn_n d.1 d.2.1 (by omega)
         first
         | (rw [hn]; exact q.1)
         | exact q.2.1
         | exact q.2.2)
  · have m2 : moreB s (i + 2) = true := k3 (by omega)
    have m3 : moreB s (i + 3) = true := k4 (by omega)
    have hn : longI (bt s i) = 4 := by omega
    repeat' (first | (with_reducible refine ex_of 4 ⟨⟨?_, ?_, ?_, ?_⟩, ?_⟩ ?_) | (with_reducible refine ⟨(_, _), ⟨(.cons (.ro _ _ _ _ _) (.cons (.v _) .nil)), ?_⟩, ?_⟩) | (with_reducible first | exact fun h => h | refine ExE.row (by with_unfolding_all rfl) ?_ | refine And.intro ?_ ?_) | ((with_reducible intro hq); first | exact bne1 hq (by with_reducible assumption) | exact bne1 (by with_reducible assumption) hq | ((simp only [*, BB, cond_true, cond_false, reduceCtorEq] at hq); done) | (revert hq; with_reducible intro _)) | (with_reducible first | exact True.intro | rfl | refine EntLe.row ?_ | exact LeN.ro rfl | exact LeN.rptr | assumption) | ((with_reducible first | refine WkX.chk ?_ | refine Wk.chk ?_ | refine LeL.chk ?_ | refine LeF.chk ?_ | refine Run.mk ?_); (conv => whnf)) | ((with_reducible show LeO _ _); first | refine LeO.ro ?_ | refine LeO.roCap ?_ | refine LeO.nil ?_ (fun _ => rfl)) | ((with_reducible show LeR _ _ _); first | refine LeR.own rfl rfl rfl ?_ | refine LeR.view rfl rfl rfl ?_ ?_ | refine LeR.ro ?_ | refine LeR.roCap ?_ | refine LeR.nil ?_ (fun _ => rfl)) | ((with_reducible first | show drawOK _ _ = true | show lateOK _ _ = true | show drawOK2 _ _ = true | show drawOK3 _ _ = true); kernel_rfl))
    all_goals (try simp only [r2, r3, r4, c2, c3, c4, e0, e1, e2, e3, bytesL_len, beq_iff_eq, beq_eq_false_iff_ne, ne_eq, decide_eq_true_eq, decide_eq_false_iff_not, Bool.not_eq_true', Bool.not_eq_false'] at *)
    all_goals first
      | omega
      | (refine Fits.i64 ?_ ?_ <;> omega)
      | assumption
      | rfl
      | (have d := dec_4 hn (by omega) h2 m2 m3
         have q := sgn_n d.1 d.2.1 (by omega)
         first
         | (rw [hn]; exact q.1)
         | exact q.2.1
         | exact q.2.2)
      | (exfalso; omega)
end Go.SX.Try
/- Contract of the document's chapter 1: Signs. -/
namespace Go.SX.Try
open Go.Proofs Go.Proofs.Try Go.SX.Plain
set_option maxRecDepth 100000
set_option maxHeartbeats 0
set_option linter.unusedSimpArgs false
theorem q_rsigns : fact 39 f39 := ⟨by kernel_rfl, rfl, by kernel_rfl⟩
def C_sgn : Cdc Sgn where
  size := 4
  enc := sgAV
  dec l := match l with
    | [.v (.int _ a), .v (.int _ b), .v (.int _ c), d] => ⟨a, b, c, bOf d⟩
    | _ => ⟨0, 0, 0, false⟩
  d := ⟨0, 0, 0, false⟩
def D_sgn : Cds := [(109, ⟨Sgn, C_sgn⟩), (3, ⟨Int, C_int⟩)]
theorem D_sgn_ok : CdsOK T D_sgn := .cons ⟨fun _ => rfl, by decide, _, rfl, rfl, by decide⟩ (.cons ⟨fun _ => rfl, by decide, _, rfl, rfl, by decide⟩ .nil)
theorem con_rsigns : Con prog 39 (fun s : ByteArray => [.v (.string s)]) (fun s => .ro 4 C_sgn.enc C_sgn.d (sgns s) none) (fun s => s.size ≤ 1100000) := by
  refine Con.of (by kernel_rfl) T_ok D_sgn_ok (.con con_rone .nil) 3 [] q_rsigns.1 q_rsigns.2.1 q_rsigns.2.2 (fun _ => rfl) fun s hs => ?_
  repeat' (first | (with_reducible first | exact fun h => h | refine ExE.row (by with_unfolding_all rfl) ?_ | refine And.intro ?_ ?_) | ((with_reducible intro hq); first | exact bne1 hq (by with_reducible assumption) | exact bne1 (by with_reducible assumption) hq | ((simp only [*, BB, cond_true, cond_false, reduceCtorEq] at hq); done) | (revert hq; with_reducible intro _)) | (with_reducible first | exact True.intro | rfl | refine EntLe.row ?_ | exact LeN.ro rfl | exact LeN.rptr | assumption) | ((with_reducible first | refine WkX.chk ?_ | refine Wk.chk ?_ | refine LeL.chk ?_ | refine LeF.chk ?_ | refine Run.mk ?_); (conv => whnf)) | ((with_reducible show LeO _ _); first | refine LeO.ro ?_ | refine LeO.roCap ?_ | refine LeO.nil ?_ (fun _ => rfl)) | ((with_reducible show LeR _ _ _); first | refine LeR.own rfl rfl rfl ?_ | refine LeR.view rfl rfl rfl ?_ ?_ | refine LeR.ro ?_ | refine LeR.roCap ?_ | refine LeR.nil ?_ (fun _ => rfl)) | ((with_reducible first | show drawOK _ _ = true | show lateOK _ _ = true | show drawOK2 _ _ = true | show drawOK3 _ _ = true); kernel_rfl))
  refine loopI (Nat × List Sgn) [] (fun | (pos, _) => [(5, .v (.int .i64 (pos : Int))), (4, .own 1)]) (fun | (_, o) => [(1, .row C_sgn o 109 none)])
    (fun | (pos, o) => pos ≤ s.size ∧ o.length ≤ pos ∧ o ++ (signsFrom s pos).map (fun p => sgnAt s p.1) = sgns s) (fun | (pos, _) => s.size - pos) (0, []) ⟨Nat.zero_le _, Nat.le_refl _, rfl⟩ (Wk.chk ?_) fun i hi => ?_
  · ((conv => whnf); repeat' (first | (with_reducible first | exact fun h => h | refine ExE.row (by with_unfolding_all rfl) ?_ | refine And.intro ?_ ?_) | ((with_reducible intro hq); first | exact bne1 hq (by with_reducible assumption) | exact bne1 (by with_reducible assumption) hq | ((simp only [*, BB, cond_true, cond_false, reduceCtorEq] at hq); done) | (revert hq; with_reducible intro _)) | (with_reducible first | exact True.intro | rfl | refine EntLe.row ?_ | exact LeN.ro rfl | exact LeN.rptr | assumption) | ((with_reducible first | refine WkX.chk ?_ | refine Wk.chk ?_ | refine LeL.chk ?_ | refine LeF.chk ?_ | refine Run.mk ?_); (conv => whnf)) | ((with_reducible show LeO _ _); first | refine LeO.ro ?_ | refine LeO.roCap ?_ | refine LeO.nil ?_ (fun _ => rfl)) | ((with_reducible show LeR _ _ _); first | refine LeR.own rfl rfl rfl ?_ | refine LeR.view rfl rfl rfl ?_ ?_ | refine LeR.ro ?_ | refine LeR.roCap ?_ | refine LeR.nil ?_ (fun _ => rfl)) | ((with_reducible first | show drawOK _ _ = true | show lateOK _ _ = true | show drawOK2 _ _ = true | show drawOK3 _ _ = true); kernel_rfl)))
    all_goals rfl
  obtain ⟨pos, o⟩ := i
  obtain ⟨h1, h2, h3⟩ := hi
  have hw := width_pos s pos
  repeat' (first | (with_reducible refine ⟨(_, _), ⟨(.cons (.ro _ _ _ _ _) (.cons (.v _) .nil)), ?_⟩, ?_⟩) | (with_reducible refine ex_of (α := Nat × List Sgn) (pos + (Utf8.decode s pos).2, o ++ [sgnAt s pos]) ⟨⟨?_, ?_, ?_⟩, ?_⟩ ?_) | (with_reducible first | exact fun h => h | refine ExE.row (by with_unfolding_all rfl) ?_ | refine And.intro ?_ ?_) | ((with_reducible intro hq); first | exact bne1 hq (by with_reducible assumption) | exact bne1 (by with_reducible assumption) hq | ((simp only [*, BB, cond_true, cond_false, reduceCtorEq] at hq); done) | (revert hq; with_reducible intro _)) | (with_reducible first | exact True.intro | rfl | refine EntLe.row ?_ | exact LeN.ro rfl | exact LeN.rptr | assumption) | ((with_reducible first | refine WkX.chk ?_ | refine Wk.chk ?_ | refine LeL.chk ?_ | refine LeF.chk ?_ | refine Run.mk ?_); (conv => whnf)) | ((with_reducible show LeO _ _); first | refine LeO.ro ?_ | refine LeO.roCap ?_ | refine LeO.nil ?_ (fun _ => rfl)) | ((with_reducible show LeR _ _ _); first | refine LeR.own rfl rfl rfl ?_ | refine LeR.view rfl rfl rfl ?_ ?_ | refine LeR.ro ?_ | refine LeR.roCap ?_ | refine LeR.nil ?_ (fun _ => rfl)) | ((with_reducible first | show drawOK _ _ = true | show lateOK _ _ = true | show drawOK2 _ _ = true | show drawOK3 _ _ = true); kernel_rfl))
  all_goals (try simp only [bytesL_len, decide_eq_true_eq, decide_eq_false_iff_not] at *)
  all_goals first
    | omega
    | rfl
    | (have hlt : pos < s.size := by omega
       have hwl := width_le hlt
       have hlen : (sgnAt s pos).len = ((Utf8.decode s pos).2 : Int) := rfl
       first
       | omega
       | (refine Fits.i64 ?_ ?_ <;> omega)
       | (simp only [List.length_append, List.length_cons, List.length_nil]; omega)
       | (rw [List.append_assoc]; rw [signsFrom_step hlt] at h3; exact h3))
    | (rw [signsFrom_end (by omega)] at h3; simpa using h3)
end Go.SX.Try
/- Contracts of the document's chapter 1: Count, Place, Cut by signs. -/
namespace Go.SX.Try
open Go.Proofs Go.Proofs.Try Go.SX.Plain
set_option maxRecDepth 100000
set_option maxHeartbeats 0
set_option linter.unusedSimpArgs false
theorem q_rcount : fact 57 f57 := ⟨by kernel_rfl, rfl, by kernel_rfl⟩
theorem q_runit : fact 111 f111 := ⟨by kernel_rfl, rfl, by kernel_rfl⟩
theorem q_rsize : fact 122 f122 := ⟨by kernel_rfl, rfl, by kernel_rfl⟩
theorem q_rall : fact 112 f112 := ⟨by kernel_rfl, rfl, by kernel_rfl⟩
theorem q_rplace : fact 113 f113 := ⟨by kernel_rfl, rfl, by kernel_rfl⟩
theorem q_rcut : fact 96 f96 := ⟨by kernel_rfl, rfl, by kernel_rfl⟩
theorem con_rcount : Con prog 57 (fun s : ByteArray => [.v (.string s)]) (fun s => .v (.int .i64 (sgN s : Nat))) (fun s => s.size ≤ 1100000) := by
  refine Con.of (by kernel_rfl) T_ok CdsOK.nil (.con con_rsigns .nil) 3 [] q_rcount.1 q_rcount.2.1 q_rcount.2.2 (fun _ => rfl) fun s hs => ?_
  repeat' (first | (with_reducible refine ⟨_, ⟨(.cons (.v _) .nil), ?_⟩, ?_⟩) | (with_reducible first | exact fun h => h | refine ExE.row (by with_unfolding_all rfl) ?_ | refine And.intro ?_ ?_) | ((with_reducible intro hq); first | exact bne1 hq (by with_reducible assumption) | exact bne1 (by with_reducible assumption) hq | ((simp only [*, BB, cond_true, cond_false, reduceCtorEq] at hq); done) | (revert hq; with_reducible intro _)) | (with_reducible first | exact True.intro | rfl | refine EntLe.row ?_ | exact LeN.ro rfl | exact LeN.rptr | assumption) | ((with_reducible first | refine WkX.chk ?_ | refine Wk.chk ?_ | refine LeL.chk ?_ | refine LeF.chk ?_ | refine Run.mk ?_); (conv => whnf)) | ((with_reducible show LeO _ _); first | refine LeO.ro ?_ | refine LeO.roCap ?_ | refine LeO.nil ?_ (fun _ => rfl)) | ((with_reducible show LeR _ _ _); first | refine LeR.own rfl rfl rfl ?_ | refine LeR.view rfl rfl rfl ?_ ?_ | refine LeR.ro ?_ | refine LeR.roCap ?_ | refine LeR.nil ?_ (fun _ => rfl)) | ((with_reducible first | show drawOK _ _ = true | show lateOK _ _ = true | show drawOK2 _ _ = true | show drawOK3 _ _ = true); kernel_rfl))
  all_goals first
    | exact hs
    | (rw [sgns_len']; done)
    | trace_state
theorem con_rsize : Con prog 122 (fun ((x, u) : Sgn × Int) => [.agg (sgAV x), .v (.int .i64 u)]) (fun (x, u) => .v (.int .i64 (if u = 1 then x.len else 1))) (fun (_, u) => u = 1 ∨ u = 2) := by
  refine Con.of (by kernel_rfl) T_ok CdsOK.nil .nil 3 [] q_rsize.1 q_rsize.2.1 q_rsize.2.2 (fun _ => rfl) fun i hi => ?_
  obtain ⟨x, u⟩ := i
  have hi : u = 1 ∨ u = 2 := hi
  rcases hi with rfl | rfl
  · repeat' (first | (with_reducible first | exact fun h => h | refine ExE.row (by with_unfolding_all rfl) ?_ | refine And.intro ?_ ?_) | ((with_reducible intro hq); first | exact bne1 hq (by with_reducible assumption) | exact bne1 (by with_reducible assumption) hq | ((simp only [*, BB, cond_true, cond_false, reduceCtorEq] at hq); done) | (revert hq; with_reducible intro _)) | (with_reducible first | exact True.intro | rfl | refine EntLe.row ?_ | exact LeN.ro rfl | exact LeN.rptr | assumption) | ((with_reducible first | refine WkX.chk ?_ | refine Wk.chk ?_ | refine LeL.chk ?_ | refine LeF.chk ?_ | refine Run.mk ?_); (conv => whnf)) | ((with_reducible show LeO _ _); first | refine LeO.ro ?_ | refine LeO.roCap ?_ | refine LeO.nil ?_ (fun _ => rfl)) | ((with_reducible show LeR _ _ _); first | refine LeR.own rfl rfl rfl ?_ | refine LeR.view rfl rfl rfl ?_ ?_ | refine LeR.ro ?_ | refine LeR.roCap ?_ | refine LeR.nil ?_ (fun _ => rfl)) | ((with_reducible first | show drawOK _ _ = true | show lateOK _ _ = true | show drawOK2 _ _ = true | show drawOK3 _ _ = true); kernel_rfl))
    all_goals first
      | rfl
      | (exfalso; simp_all; done)
      | trace_state
  · repeat' (first | (with_reducible first | exact fun h => h | refine ExE.row (by with_unfolding_all rfl) ?_ | refine And.intro ?_ ?_) | ((with_reducible intro hq); first | exact bne1 hq (by with_reducible assumption) | exact bne1 (by with_reducible assumption) hq | ((simp only [*, BB, cond_true, cond_false, reduceCtorEq] at hq); done) | (revert hq; with_reducible intro _)) | (with_reducible first | exact True.intro | rfl | refine EntLe.row ?_ | exact LeN.ro rfl | exact LeN.rptr | assumption) | ((with_reducible first | refine WkX.chk ?_ | refine Wk.chk ?_ | refine LeL.chk ?_ | refine LeF.chk ?_ | refine Run.mk ?_); (conv => whnf)) | ((with_reducible show LeO _ _); first | refine LeO.ro ?_ | refine LeO.roCap ?_ | refine LeO.nil ?_ (fun _ => rfl)) | ((with_reducible show LeR _ _ _); first | refine LeR.own rfl rfl rfl ?_ | refine LeR.view rfl rfl rfl ?_ ?_ | refine LeR.ro ?_ | refine LeR.roCap ?_ | refine LeR.nil ?_ (fun _ => rfl)) | ((with_reducible first | show drawOK _ _ = true | show lateOK _ _ = true | show drawOK2 _ _ = true | show drawOK3 _ _ = true); kernel_rfl))
    all_goals first
      | rfl
      | (exfalso; simp_all; done)
      | trace_state
theorem con_runit : Con prog 111 (fun u : Int => [.v (.int .i64 u)]) (fun _ => .v (.bool true)) (fun u => u = 1 ∨ u = 2 ∨ u = 3) := by
  refine Con.of (by kernel_rfl) T_ok CdsOK.nil .nil 3 [] q_runit.1 q_runit.2.1 q_runit.2.2 (fun _ => rfl) fun u hu => ?_
  have hu : u = 1 ∨ u = 2 ∨ u = 3 := hu
  rcases hu with rfl | rfl | rfl
  all_goals
    repeat' (first | (with_reducible first | exact fun h => h | refine ExE.row (by with_unfolding_all rfl) ?_ | refine And.intro ?_ ?_) | ((with_reducible intro hq); first | exact bne1 hq (by with_reducible assumption) | exact bne1 (by with_reducible assumption) hq | ((simp only [*, BB, cond_true, cond_false, reduceCtorEq] at hq); done) | (revert hq; with_reducible intro _)) | (with_reducible first | exact True.intro | rfl | refine EntLe.row ?_ | exact LeN.ro rfl | exact LeN.rptr | assumption) | ((with_reducible first | refine WkX.chk ?_ | refine Wk.chk ?_ | refine LeL.chk ?_ | refine LeF.chk ?_ | refine Run.mk ?_); (conv => whnf)) | ((with_reducible show LeO _ _); first | refine LeO.ro ?_ | refine LeO.roCap ?_ | refine LeO.nil ?_ (fun _ => rfl)) | ((with_reducible show LeR _ _ _); first | refine LeR.own rfl rfl rfl ?_ | refine LeR.view rfl rfl rfl ?_ ?_ | refine LeR.ro ?_ | refine LeR.roCap ?_ | refine LeR.nil ?_ (fun _ => rfl)) | ((with_reducible first | show drawOK _ _ = true | show lateOK _ _ = true | show drawOK2 _ _ = true | show drawOK3 _ _ = true); kernel_rfl))
    all_goals first
      | rfl
      | (exfalso; simp_all; done)
      | (simp_all; done)
      | trace_state
theorem con_rplace : Con prog 113 (fun ((s, a) : ByteArray × Int) => [.v (.string s), .v (.int .i64 a), .v (.int .i64 2), .v (.int .i64 1)]) (fun (s, a) => .tup [.v (.int .i64 (plN s a)), .v (.int .i64 (plE s a))]) (fun (s, _) => s.size ≤ 1100000) := by
  refine Con.of (by kernel_rfl) T_ok CdsOK.nil (.con con_rsigns (.con con_rsize (.con con_runit .nil))) 3 [] q_rplace.1 q_rplace.2.1 q_rplace.2.2 (fun _ => rfl) fun i hs => ?_
  obtain ⟨s, a⟩ := i
  have hs : s.size ≤ 1100000 := hs
  by_cases ha : a < 0
  · have ht : decide (a < 0) = true := decide_eq_true ha
    repeat' (first | (with_reducible refine ⟨_, ⟨(.cons (.v _) .nil), ?_⟩, ?_⟩) | (with_reducible first | exact fun h => h | refine ExE.row (by with_unfolding_all rfl) ?_ | refine And.intro ?_ ?_) | ((with_reducible intro hq); first | exact bne1 hq (by with_reducible assumption) | exact bne1 (by with_reducible assumption) hq | ((simp only [*, BB, cond_true, cond_false, reduceCtorEq] at hq); done) | (revert hq; with_reducible intro _)) | (with_reducible first | exact True.intro | rfl | refine EntLe.row ?_ | exact LeN.ro rfl | exact LeN.rptr | assumption) | ((with_reducible first | refine WkX.chk ?_ | refine Wk.chk ?_ | refine LeL.chk ?_ | refine LeF.chk ?_ | refine Run.mk ?_); (conv => whnf)) | ((with_reducible show LeO _ _); first | refine LeO.ro ?_ | refine LeO.roCap ?_ | refine LeO.nil ?_ (fun _ => rfl)) | ((with_reducible show LeR _ _ _); first | refine LeR.own rfl rfl rfl ?_ | refine LeR.view rfl rfl rfl ?_ ?_ | refine LeR.ro ?_ | refine LeR.roCap ?_ | refine LeR.nil ?_ (fun _ => rfl)) | ((with_reducible first | show drawOK _ _ = true | show lateOK _ _ = true | show drawOK2 _ _ = true | show drawOK3 _ _ = true); kernel_rfl))
    all_goals first
      | (unfold plN; rw [if_neg (by omega)]; done)
      | (unfold plE; rw [if_neg (by omega)]; done)
      | (dsimp only; omega)
      | (exfalso; simp_all; done)
      | trace_state
  · have ht : decide (a < 0) = false := decide_eq_false ha
    have hn := sgN_le s
    have hl := sgns_len' s
    repeat' (first | (with_reducible refine ⟨_, ⟨(.cons (.v _) .nil), ?_⟩, ?_⟩) | (with_reducible first | exact fun h => h | refine ExE.row (by with_unfolding_all rfl) ?_ | refine And.intro ?_ ?_) | ((with_reducible intro hq); first | exact bne1 hq (by with_reducible assumption) | exact bne1 (by with_reducible assumption) hq | ((simp only [*, BB, cond_true, cond_false, reduceCtorEq] at hq); done) | (revert hq; with_reducible intro _)) | (with_reducible first | exact True.intro | rfl | refine EntLe.row ?_ | exact LeN.ro rfl | exact LeN.rptr | assumption) | ((with_reducible first | refine WkX.chk ?_ | refine Wk.chk ?_ | refine LeL.chk ?_ | refine LeF.chk ?_ | refine Run.mk ?_); (conv => whnf)) | ((with_reducible show LeO _ _); first | refine LeO.ro ?_ | refine LeO.roCap ?_ | refine LeO.nil ?_ (fun _ => rfl)) | ((with_reducible show LeR _ _ _); first | refine LeR.own rfl rfl rfl ?_ | refine LeR.view rfl rfl rfl ?_ ?_ | refine LeR.ro ?_ | refine LeR.roCap ?_ | refine LeR.nil ?_ (fun _ => rfl)) | ((with_reducible first | show drawOK _ _ = true | show lateOK _ _ = true | show drawOK2 _ _ = true | show drawOK3 _ _ = true); kernel_rfl))
    all_goals (try (dsimp only; omega))
    refine loopI Nat [] (fun i => [(13, .v (.int .i64 (i : Nat))), (11, .v (.int .i64 (i : Nat))), (12, .v (.int .i64 (posS s i : Nat)))]) (fun _ => []) (fun i => i ≤ sgN s ∧ (i : Int) ≤ a) (fun i => sgN s - i) 0 ⟨Nat.zero_le _, by omega⟩ (Wk.chk ?_) fun i hi => ?_
    · ((conv => whnf); repeat' (first | (with_reducible first | exact fun h => h | refine ExE.row (by with_unfolding_all rfl) ?_ | refine And.intro ?_ ?_) | ((with_reducible intro hq); first | exact bne1 hq (by with_reducible assumption) | exact bne1 (by with_reducible assumption) hq | ((simp only [*, BB, cond_true, cond_false, reduceCtorEq] at hq); done) | (revert hq; with_reducible intro _)) | (with_reducible first | exact True.intro | rfl | refine EntLe.row ?_ | exact LeN.ro rfl | exact LeN.rptr | assumption) | ((with_reducible first | refine WkX.chk ?_ | refine Wk.chk ?_ | refine LeL.chk ?_ | refine LeF.chk ?_ | refine Run.mk ?_); (conv => whnf)) | ((with_reducible show LeO _ _); first | refine LeO.ro ?_ | refine LeO.roCap ?_ | refine LeO.nil ?_ (fun _ => rfl)) | ((with_reducible show LeR _ _ _); first | refine LeR.own rfl rfl rfl ?_ | refine LeR.view rfl rfl rfl ?_ ?_ | refine LeR.ro ?_ | refine LeR.roCap ?_ | refine LeR.nil ?_ (fun _ => rfl)) | ((with_reducible first | show drawOK _ _ = true | show lateOK _ _ = true | show drawOK2 _ _ = true | show drawOK3 _ _ = true); kernel_rfl)))
      all_goals first
        | rfl
        | (rw [posS_zero]; rfl)
        | trace_state
    obtain ⟨hi1, hi2⟩ := hi
    have e1 : ((i : Int)).toNat = i := Int.toNat_natCast _
    have hd : C_sgn.d = ⟨0, 0, 0, false⟩ := rfl
    have hpl := posS_le s i
    by_cases hin : i < sgN s
    · have hlt : decide ((i : Int) < ((sgns s).length : Int)) = true := decide_eq_true (by omega)
      by_cases hia : (i : Int) = a
      · have hyes : ((i : Int) == a) = true := by simpa using hia
        repeat' (first | (with_reducible first | exact fun h => h | refine ExE.row (by with_unfolding_all rfl) ?_ | refine And.intro ?_ ?_) | ((with_reducible intro hq); first | exact bne1 hq (by with_reducible assumption) | exact bne1 (by with_reducible assumption) hq | ((simp only [*, BB, cond_true, cond_false, reduceCtorEq] at hq); done) | (revert hq; with_reducible intro _)) | (with_reducible first | exact True.intro | rfl | refine EntLe.row ?_ | exact LeN.ro rfl | exact LeN.rptr | assumption) | ((with_reducible first | refine WkX.chk ?_ | refine Wk.chk ?_ | refine LeL.chk ?_ | refine LeF.chk ?_ | refine Run.mk ?_); (conv => whnf)) | ((with_reducible show LeO _ _); first | refine LeO.ro ?_ | refine LeO.roCap ?_ | refine LeO.nil ?_ (fun _ => rfl)) | ((with_reducible show LeR _ _ _); first | refine LeR.own rfl rfl rfl ?_ | refine LeR.view rfl rfl rfl ?_ ?_ | refine LeR.ro ?_ | refine LeR.roCap ?_ | refine LeR.nil ?_ (fun _ => rfl)) | ((with_reducible first | show drawOK _ _ = true | show lateOK _ _ = true | show drawOK2 _ _ = true | show drawOK3 _ _ = true); kernel_rfl))
        all_goals first
          | (unfold plN; rw [if_pos ⟨by omega, by omega⟩, show a.toNat = i by omega]; done)
          | (unfold plE; rw [if_pos ⟨by omega, by omega⟩]; done)
          | (exfalso; simp_all; done)
          | trace_state
      · have hno : ((i : Int) == a) = false := by simpa using hia
        obtain ⟨q1, q2, q3⟩ := sgns_at s hin
        have hpl2 := posS_le s (i + 1)
        have hgt : decide (a < (i : Int) + (if (2 : Int) = 1 then ((sgns s).getD ((i : Int)).toNat C_sgn.d).len else 1)) = false := decide_eq_false (by rw [if_neg (by decide)]; omega)
        have hlen : ((sgns s).getD ((i : Int)).toNat C_sgn.d).len = ((Utf8.decode s (posS s i)).2 : Int) := by rw [e1, hd, q1]; rfl
        repeat' (first | (with_reducible refine ⟨(⟨_, _, _, _⟩, _), ⟨(.cons (.agg (.cons (.v _) (.cons (.v _) (.cons (.v _) (.cons (.sb _) .nil))))) (.cons (.v _) .nil)), ?_⟩, ?_⟩) | (with_reducible refine ex_of (α := Nat) (i + 1) ⟨⟨?_, ?_⟩, ?_⟩ ?_) | (with_reducible first | exact fun h => h | refine ExE.row (by with_unfolding_all rfl) ?_ | refine And.intro ?_ ?_) | ((with_reducible intro hq); first | exact bne1 hq (by with_reducible assumption) | exact bne1 (by with_reducible assumption) hq | ((simp only [*, BB, cond_true, cond_false, reduceCtorEq] at hq); done) | (revert hq; with_reducible intro _)) | (with_reducible first | exact True.intro | rfl | refine EntLe.row ?_ | exact LeN.ro rfl | exact LeN.rptr | assumption) | ((with_reducible first | refine WkX.chk ?_ | refine Wk.chk ?_ | refine LeL.chk ?_ | refine LeF.chk ?_ | refine Run.mk ?_); (conv => whnf)) | ((with_reducible show LeO _ _); first | refine LeO.ro ?_ | refine LeO.roCap ?_ | refine LeO.nil ?_ (fun _ => rfl)) | ((with_reducible show LeR _ _ _); first | refine LeR.own rfl rfl rfl ?_ | refine LeR.view rfl rfl rfl ?_ ?_ | refine LeR.ro ?_ | refine LeR.roCap ?_ | refine LeR.nil ?_ (fun _ => rfl)) | ((with_reducible first | show drawOK _ _ = true | show lateOK _ _ = true | show drawOK2 _ _ = true | show drawOK3 _ _ = true); kernel_rfl))
        all_goals first
          | omega
          | (dsimp only; omega)
          | (simp only [if_neg (show ¬ ((2 : Int) = 1) by decide), if_pos (show (1 : Int) = 1 from rfl), hlen] at *; first | omega | (apply Fits.i64 <;> omega))
          | trace_state
    · have hlt : decide ((i : Int) < ((sgns s).length : Int)) = false := decide_eq_false (by omega)
      obtain rfl : i = sgN s := by omega
      by_cases hia : ((sgN s : Nat) : Int) = a
      · have hyes : (((sgN s : Nat) : Int) == a) = true := by simpa using hia
        repeat' (first | (with_reducible first | exact fun h => h | refine ExE.row (by with_unfolding_all rfl) ?_ | refine And.intro ?_ ?_) | ((with_reducible intro hq); first | exact bne1 hq (by with_reducible assumption) | exact bne1 (by with_reducible assumption) hq | ((simp only [*, BB, cond_true, cond_false, reduceCtorEq] at hq); done) | (revert hq; with_reducible intro _)) | (with_reducible first | exact True.intro | rfl | refine EntLe.row ?_ | exact LeN.ro rfl | exact LeN.rptr | assumption) | ((with_reducible first | refine WkX.chk ?_ | refine Wk.chk ?_ | refine LeL.chk ?_ | refine LeF.chk ?_ | refine Run.mk ?_); (conv => whnf)) | ((with_reducible show LeO _ _); first | refine LeO.ro ?_ | refine LeO.roCap ?_ | refine LeO.nil ?_ (fun _ => rfl)) | ((with_reducible show LeR _ _ _); first | refine LeR.own rfl rfl rfl ?_ | refine LeR.view rfl rfl rfl ?_ ?_ | refine LeR.ro ?_ | refine LeR.roCap ?_ | refine LeR.nil ?_ (fun _ => rfl)) | ((with_reducible first | show drawOK _ _ = true | show lateOK _ _ = true | show drawOK2 _ _ = true | show drawOK3 _ _ = true); kernel_rfl))
        all_goals first
          | (unfold plN; rw [if_pos ⟨by omega, by omega⟩, show a.toNat = sgN s by omega]; done)
          | (unfold plE; rw [if_pos ⟨by omega, by omega⟩]; done)
          | trace_state
      · have hno : (((sgN s : Nat) : Int) == a) = false := by simpa using hia
        repeat' (first | (with_reducible first | exact fun h => h | refine ExE.row (by with_unfolding_all rfl) ?_ | refine And.intro ?_ ?_) | ((with_reducible intro hq); first | exact bne1 hq (by with_reducible assumption) | exact bne1 (by with_reducible assumption) hq | ((simp only [*, BB, cond_true, cond_false, reduceCtorEq] at hq); done) | (revert hq; with_reducible intro _)) | (with_reducible first | exact True.intro | rfl | refine EntLe.row ?_ | exact LeN.ro rfl | exact LeN.rptr | assumption) | ((with_reducible first | refine WkX.chk ?_ | refine Wk.chk ?_ | refine LeL.chk ?_ | refine LeF.chk ?_ | refine Run.mk ?_); (conv => whnf)) | ((with_reducible show LeO _ _); first | refine LeO.ro ?_ | refine LeO.roCap ?_ | refine LeO.nil ?_ (fun _ => rfl)) | ((with_reducible show LeR _ _ _); first | refine LeR.own rfl rfl rfl ?_ | refine LeR.view rfl rfl rfl ?_ ?_ | refine LeR.ro ?_ | refine LeR.roCap ?_ | refine LeR.nil ?_ (fun _ => rfl)) | ((with_reducible first | show drawOK _ _ = true | show lateOK _ _ = true | show drawOK2 _ _ = true | show drawOK3 _ _ = true); kernel_rfl))
        all_goals first
          | (unfold plN; rw [if_neg (by omega)]; done)
          | (unfold plE; rw [if_neg (by omega)]; done)
          | trace_state
theorem con_rcut : Con prog 96 (fun ((s, f, t) : ByteArray × Int × Int) => [.v (.string s), .v (.int .i64 2), .v (.int .i64 f), .v (.int .i64 t)]) (fun (s, f, t) => .tup [.v (.string (cutT s f t)), .v (.int .i64 (cutE s f t))]) (fun (s, _, _) => s.size ≤ 1100000) := by
  refine Con.of (by kernel_rfl) T_ok CdsOK.nil (.con con_rcount (.con con_rplace (.con con_runit (.inl (J := []) q_rall.1 q_rall.2.1 q_rall.2.2 .nil)))) 5 [] q_rcut.1 q_rcut.2.1 q_rcut.2.2 (fun _ => rfl) fun i hs => ?_
  obtain ⟨s, f, t⟩ := i
  have hs : s.size ≤ 1100000 := hs
  have hn := sgN_le s
  have k1 : ((2 : Int) == 1) = false := rfl
  have k2 : ((2 : Int) == 3) = false := rfl
  by_cases hc : 0 ≤ f ∧ f ≤ t ∧ t ≤ sgN s
  · have hE : cutE s f t = 0 := by unfold cutE; rw [if_pos hc]
    have hT : cutT s f t = s.extract (posS s f.toNat) (posS s t.toNat) := by unfold cutT; rw [if_pos hc]
    have p1 : plE s f = 0 := by unfold plE; rw [if_pos ⟨by omega, by omega⟩]
    have p2 : plE s t = 0 := by unfold plE; rw [if_pos ⟨by omega, by omega⟩]
    have p3 : plN s f = (posS s f.toNat : Nat) := by unfold plN; rw [if_pos ⟨by omega, by omega⟩]
    have p4 : plN s t = (posS s t.toNat : Nat) := by unfold plN; rw [if_pos ⟨by omega, by omega⟩]
    have p5 := posS_mono s (i := f.toNat) (j := t.toNat) (by omega) (by omega)
    have p6 := posS_le s t.toNat
    have b1 : (plE s f != 0) = false := by rw [p1]; rfl
    have b2 : (plE s t != 0) = false := by rw [p2]; rfl
    repeat' (first | (with_reducible refine ⟨_, ⟨(.cons (.v _) .nil), ?_⟩, ?_⟩) | (with_reducible refine ⟨(_, _), ⟨(.cons (.v _) (.cons (.v _) (.cons (.v _) (.cons (.v _) .nil)))), ?_⟩, ?_⟩) | (with_reducible first | exact fun h => h | refine ExE.row (by with_unfolding_all rfl) ?_ | refine And.intro ?_ ?_) | ((with_reducible intro hq); first | exact bne1 hq (by with_reducible assumption) | exact bne1 (by with_reducible assumption) hq | ((simp only [*, BB, cond_true, cond_false, reduceCtorEq] at hq); done) | (revert hq; with_reducible intro _)) | (with_reducible first | exact True.intro | rfl | refine EntLe.row ?_ | exact LeN.ro rfl | exact LeN.rptr | assumption) | ((with_reducible first | refine WkX.chk ?_ | refine Wk.chk ?_ | refine LeL.chk ?_ | refine LeF.chk ?_ | refine Run.mk ?_); (conv => whnf)) | ((with_reducible show LeO _ _); first | refine LeO.ro ?_ | refine LeO.roCap ?_ | refine LeO.nil ?_ (fun _ => rfl)) | ((with_reducible show LeR _ _ _); first | refine LeR.own rfl rfl rfl ?_ | refine LeR.view rfl rfl rfl ?_ ?_ | refine LeR.ro ?_ | refine LeR.roCap ?_ | refine LeR.nil ?_ (fun _ => rfl)) | ((with_reducible first | show drawOK _ _ = true | show lateOK _ _ = true | show drawOK2 _ _ = true | show drawOK3 _ _ = true); kernel_rfl))
    all_goals (try simp only [p1, p2, p3, p4] at *)
    all_goals first
      | omega
      | (dsimp only; omega)
      | (rw [hT]; rfl)
      | (rw [hT]; simp only [Int.toNat_natCast]; done)
      | exact hE.symm
      | (simp only [decide_eq_true_eq, Bool.or_eq_true] at *; omega)
      | (simp_all; done)
      | (exfalso; simp_all; omega)
      | trace_state
  · have hE : cutE s f t = 1 := by unfold cutE; rw [if_neg hc]
    have hT : cutT s f t = ByteArray.empty := by unfold cutT; rw [if_neg hc]
    have hbad : ∀ b, b = (decide (f < 0) || decide (((sgN s : Nat) : Int) < f) || decide (t < 0) || decide (((sgN s : Nat) : Int) < t) || decide (t < f)) → b = true := fun b h => by
      rw [h]
      simp only [Bool.or_eq_true, decide_eq_true_eq]
      omega
    repeat' (first | (with_reducible refine ⟨_, ⟨(.cons (.v _) .nil), ?_⟩, ?_⟩) | (with_reducible refine ⟨(_, _), ⟨(.cons (.v _) (.cons (.v _) (.cons (.v _) (.cons (.v _) .nil)))), ?_⟩, ?_⟩) | (with_reducible first | exact fun h => h | refine ExE.row (by with_unfolding_all rfl) ?_ | refine And.intro ?_ ?_) | ((with_reducible intro hq); first | exact bne1 hq (by with_reducible assumption) | exact bne1 (by with_reducible assumption) hq | ((simp only [*, BB, cond_true, cond_false, reduceCtorEq] at hq); done) | (revert hq; with_reducible intro _)) | (with_reducible first | exact True.intro | rfl | refine EntLe.row ?_ | exact LeN.ro rfl | exact LeN.rptr | assumption) | ((with_reducible first | refine WkX.chk ?_ | refine Wk.chk ?_ | refine LeL.chk ?_ | refine LeF.chk ?_ | refine Run.mk ?_); (conv => whnf)) | ((with_reducible show LeO _ _); first | refine LeO.ro ?_ | refine LeO.roCap ?_ | refine LeO.nil ?_ (fun _ => rfl)) | ((with_reducible show LeR _ _ _); first | refine LeR.own rfl rfl rfl ?_ | refine LeR.view rfl rfl rfl ?_ ?_ | refine LeR.ro ?_ | refine LeR.roCap ?_ | refine LeR.nil ?_ (fun _ => rfl)) | ((with_reducible first | show drawOK _ _ = true | show lateOK _ _ = true | show drawOK2 _ _ = true | show drawOK3 _ _ = true); kernel_rfl))
    all_goals first
      | exact hT.symm
      | exact hE.symm
      | (dsimp only; omega)
      | (exfalso; have := hbad _ rfl; simp_all; done)
      | (simp_all; done)
      | trace_state
end Go.SX.Try
/- Contracts: utf.Count; style's right, within, crosses, Check. -/
namespace Go.SX.Try
open Go.Proofs Go.Proofs.Try Go.SX.Plain
set_option maxRecDepth 100000
set_option maxHeartbeats 0
set_option linter.unusedSimpArgs false
theorem q_ucount : fact 48 f48 := ⟨by kernel_rfl, rfl, by kernel_rfl⟩
theorem q_sright : fact 65 f65 := ⟨by kernel_rfl, rfl, by kernel_rfl⟩
theorem q_swithin : fact 98 f98 := ⟨by kernel_rfl, rfl, by kernel_rfl⟩
theorem q_scrosses : fact 68 f68 := ⟨by kernel_rfl, rfl, by kernel_rfl⟩
theorem q_scheck : fact 21 f21 := ⟨by kernel_rfl, rfl, by kernel_rfl⟩
theorem q_scheck1 : fact 67 f67 := ⟨by kernel_rfl, rfl, by kernel_rfl⟩
theorem q_contains : fact 66 f66 := ⟨by kernel_rfl, rfl, by kernel_rfl⟩
theorem q_indexF : fact 97 f97 := ⟨by kernel_rfl, rfl, by kernel_rfl⟩
theorem con_ucount : Con prog 48 (fun s : ByteArray => [.v (.string s)]) (fun s => .v (.int .i64 (sgN s : Nat))) (fun s => s.size ≤ 1100000) := by
  refine Con.of (by kernel_rfl) T_ok CdsOK.nil .nil 3 [] q_ucount.1 q_ucount.2.1 q_ucount.2.2 (fun _ => rfl) fun s hs => ?_
  have hs : s.size ≤ 1100000 := hs
  have hn := sgN_le s
  repeat' (first | (with_reducible first | exact fun h => h | refine ExE.row (by with_unfolding_all rfl) ?_ | refine And.intro ?_ ?_) | ((with_reducible intro hq); first | exact bne1 hq (by with_reducible assumption) | exact bne1 (by with_reducible assumption) hq | ((simp only [*, BB, cond_true, cond_false, reduceCtorEq] at hq); done) | (revert hq; with_reducible intro _)) | (with_reducible first | exact True.intro | rfl | refine EntLe.row ?_ | exact LeN.ro rfl | exact LeN.rptr | assumption) | ((with_reducible first | refine WkX.chk ?_ | refine Wk.chk ?_ | refine LeL.chk ?_ | refine LeF.chk ?_ | refine Run.mk ?_); (conv => whnf)) | ((with_reducible show LeO _ _); first | refine LeO.ro ?_ | refine LeO.roCap ?_ | refine LeO.nil ?_ (fun _ => rfl)) | ((with_reducible show LeR _ _ _); first | refine LeR.own rfl rfl rfl ?_ | refine LeR.view rfl rfl rfl ?_ ?_ | refine LeR.ro ?_ | refine LeR.roCap ?_ | refine LeR.nil ?_ (fun _ => rfl)) | ((with_reducible first | show drawOK _ _ = true | show lateOK _ _ = true | show drawOK2 _ _ = true | show drawOK3 _ _ = true); kernel_rfl))
  refine loopI Nat [] (fun i => [(3, .v (.int .i64 (i : Nat)))]) (fun i => [(0, .iter s (posS s i))]) (fun i => i ≤ sgN s) (fun i => sgN s - i) 0 (Nat.zero_le _) (Wk.chk ?_) fun i hi => ?_
  · ((conv => whnf); repeat' (first | (with_reducible first | exact fun h => h | refine ExE.row (by with_unfolding_all rfl) ?_ | refine And.intro ?_ ?_) | ((with_reducible intro hq); first | exact bne1 hq (by with_reducible assumption) | exact bne1 (by with_reducible assumption) hq | ((simp only [*, BB, cond_true, cond_false, reduceCtorEq] at hq); done) | (revert hq; with_reducible intro _)) | (with_reducible first | exact True.intro | rfl | refine EntLe.row ?_ | exact LeN.ro rfl | exact LeN.rptr | assumption) | ((with_reducible first | refine WkX.chk ?_ | refine Wk.chk ?_ | refine LeL.chk ?_ | refine LeF.chk ?_ | refine Run.mk ?_); (conv => whnf)) | ((with_reducible show LeO _ _); first | refine LeO.ro ?_ | refine LeO.roCap ?_ | refine LeO.nil ?_ (fun _ => rfl)) | ((with_reducible show LeR _ _ _); first | refine LeR.own rfl rfl rfl ?_ | refine LeR.view rfl rfl rfl ?_ ?_ | refine LeR.ro ?_ | refine LeR.roCap ?_ | refine LeR.nil ?_ (fun _ => rfl)) | ((with_reducible first | show drawOK _ _ = true | show lateOK _ _ = true | show drawOK2 _ _ = true | show drawOK3 _ _ = true); kernel_rfl)))
    all_goals first
      | rfl
      | (rw [posS_zero]; done)
      | trace_state
  have hi : i ≤ sgN s := hi
  have hat := fun h => (sgns_at s (i := i) h).2
  have hend := posS_end s
  repeat' (first | (with_reducible refine ex_of (α := Nat) (i + 1) ⟨?_, ?_⟩ ?_) | (with_reducible first | exact fun h => h | refine ExE.row (by with_unfolding_all rfl) ?_ | refine And.intro ?_ ?_) | ((with_reducible intro hq); first | exact bne1 hq (by with_reducible assumption) | exact bne1 (by with_reducible assumption) hq | ((simp only [*, BB, cond_true, cond_false, reduceCtorEq] at hq); done) | (revert hq; with_reducible intro _)) | (with_reducible first | exact True.intro | rfl | refine EntLe.row ?_ | exact LeN.ro rfl | exact LeN.rptr | assumption) | ((with_reducible first | refine WkX.chk ?_ | refine Wk.chk ?_ | refine LeL.chk ?_ | refine LeF.chk ?_ | refine Run.mk ?_); (conv => whnf)) | ((with_reducible show LeO _ _); first | refine LeO.ro ?_ | refine LeO.roCap ?_ | refine LeO.nil ?_ (fun _ => rfl)) | ((with_reducible show LeR _ _ _); first | refine LeR.own rfl rfl rfl ?_ | refine LeR.view rfl rfl rfl ?_ ?_ | refine LeR.ro ?_ | refine LeR.roCap ?_ | refine LeR.nil ?_ (fun _ => rfl)) | ((with_reducible first | show drawOK _ _ = true | show lateOK _ _ = true | show drawOK2 _ _ = true | show drawOK3 _ _ = true); kernel_rfl))
  all_goals first
    | omega
    | (apply Fits.i64 <;> omega)
    | (have hlt : i < sgN s := by
         rcases Nat.lt_or_ge i (sgN s) with h | h
         · exact h
         · obtain rfl : i = sgN s := by omega
           omega
       have := hat hlt
       first
       | omega
       | (show sgN s - (i + 1) < sgN s - i; omega)
       | (rw [this.2]; done))
    | (have : ¬ i < sgN s := fun h => by have := hat h; omega
       obtain rfl : i = sgN s := by omega
       rfl)
    | trace_state
theorem con_swithin : Con prog 98 (fun ((x, y) : Spn × Spn) => [.agg (spAV x), .agg (spAV y)]) (fun (x, y) => .sb (withinB x y)) (fun _ => True) := by
  refine Con.of (by kernel_rfl) T_ok CdsOK.nil .nil 3 [] q_swithin.1 q_swithin.2.1 q_swithin.2.2 (fun _ => rfl) fun i hi => ?_
  obtain ⟨x, y⟩ := i
  repeat' (first | (with_reducible first | exact fun h => h | refine ExE.row (by with_unfolding_all rfl) ?_ | refine And.intro ?_ ?_) | ((with_reducible intro hq); first | exact bne1 hq (by with_reducible assumption) | exact bne1 (by with_reducible assumption) hq | ((simp only [*, BB, cond_true, cond_false, reduceCtorEq] at hq); done) | (revert hq; with_reducible intro _)) | (with_reducible first | exact True.intro | rfl | refine EntLe.row ?_ | exact LeN.ro rfl | exact LeN.rptr | assumption) | ((with_reducible first | refine WkX.chk ?_ | refine Wk.chk ?_ | refine LeL.chk ?_ | refine LeF.chk ?_ | refine Run.mk ?_); (conv => whnf)) | ((with_reducible show LeO _ _); first | refine LeO.ro ?_ | refine LeO.roCap ?_ | refine LeO.nil ?_ (fun _ => rfl)) | ((with_reducible show LeR _ _ _); first | refine LeR.own rfl rfl rfl ?_ | refine LeR.view rfl rfl rfl ?_ ?_ | refine LeR.ro ?_ | refine LeR.roCap ?_ | refine LeR.nil ?_ (fun _ => rfl)) | ((with_reducible first | show drawOK _ _ = true | show lateOK _ _ = true | show drawOK2 _ _ = true | show drawOK3 _ _ = true); kernel_rfl))
  all_goals first
    | rfl
    | (unfold withinB; simp_all; done)
    | trace_state
theorem con_scrosses : Con prog 68 (fun ((x, y) : Spn × Spn) => [.agg (spAV x), .agg (spAV y)]) (fun (x, y) => .sb (crossB x y)) (fun _ => True) := by
  refine Con.of (by kernel_rfl) T_ok CdsOK.nil (.con con_swithin .nil) 3 [] q_scrosses.1 q_scrosses.2.1 q_scrosses.2.2 (fun _ => rfl) fun i hi => ?_
  obtain ⟨x, y⟩ := i
  repeat' (first | (with_reducible refine ⟨(_, _), ⟨(.cons (.agg (.cons (.v _) (.cons (.v _) (.cons (.v _) (.cons (.v _) .nil))))) (.cons (.agg (.cons (.v _) (.cons (.v _) (.cons (.v _) (.cons (.v _) .nil))))) .nil)), ?_⟩, ?_⟩) | (with_reducible first | exact fun h => h | refine ExE.row (by with_unfolding_all rfl) ?_ | refine And.intro ?_ ?_) | ((with_reducible intro hq); first | exact bne1 hq (by with_reducible assumption) | exact bne1 (by with_reducible assumption) hq | ((simp only [*, BB, cond_true, cond_false, reduceCtorEq] at hq); done) | (revert hq; with_reducible intro _)) | (with_reducible first | exact True.intro | rfl | refine EntLe.row ?_ | exact LeN.ro rfl | exact LeN.rptr | assumption) | ((with_reducible first | refine WkX.chk ?_ | refine Wk.chk ?_ | refine LeL.chk ?_ | refine LeF.chk ?_ | refine Run.mk ?_); (conv => whnf)) | ((with_reducible show LeO _ _); first | refine LeO.ro ?_ | refine LeO.roCap ?_ | refine LeO.nil ?_ (fun _ => rfl)) | ((with_reducible show LeR _ _ _); first | refine LeR.own rfl rfl rfl ?_ | refine LeR.view rfl rfl rfl ?_ ?_ | refine LeR.ro ?_ | refine LeR.roCap ?_ | refine LeR.nil ?_ (fun _ => rfl)) | ((with_reducible first | show drawOK _ _ = true | show lateOK _ _ = true | show drawOK2 _ _ = true | show drawOK3 _ _ = true); kernel_rfl))
  all_goals first
    | rfl
    | (unfold crossB; simp_all; done)
    | (unfold crossB; cases hc : (decide (x.frm < y.to) && decide (y.frm < x.to)) <;> simp_all; done)
    | trace_state
theorem con_sright : Con prog 65 (fun ((x, n) : Spn × Int) => [.agg (spAV x), .v (.int .i64 n)]) (fun (x, n) => .sb (rightB x n)) (fun _ => True) := by
  refine Con.of (by kernel_rfl) T_ok CdsOK.nil .nil 3 [] q_sright.1 q_sright.2.1 q_sright.2.2 (fun _ => rfl) fun i hi => ?_
  obtain ⟨x, n⟩ := i
  repeat' (first | (with_reducible first | exact fun h => h | refine ExE.row (by with_unfolding_all rfl) ?_ | refine And.intro ?_ ?_) | ((with_reducible intro hq); first | exact bne1 hq (by with_reducible assumption) | exact bne1 (by with_reducible assumption) hq | ((simp only [*, BB, cond_true, cond_false, reduceCtorEq] at hq); done) | (revert hq; with_reducible intro _)) | (with_reducible first | exact True.intro | rfl | refine EntLe.row ?_ | exact LeN.ro rfl | exact LeN.rptr | assumption) | ((with_reducible first | refine WkX.chk ?_ | refine Wk.chk ?_ | refine LeL.chk ?_ | refine LeF.chk ?_ | refine Run.mk ?_); (conv => whnf)) | ((with_reducible show LeO _ _); first | refine LeO.ro ?_ | refine LeO.roCap ?_ | refine LeO.nil ?_ (fun _ => rfl)) | ((with_reducible show LeR _ _ _); first | refine LeR.own rfl rfl rfl ?_ | refine LeR.view rfl rfl rfl ?_ ?_ | refine LeR.ro ?_ | refine LeR.roCap ?_ | refine LeR.nil ?_ (fun _ => rfl)) | ((with_reducible first | show drawOK _ _ = true | show lateOK _ _ = true | show drawOK2 _ _ = true | show drawOK3 _ _ = true); kernel_rfl))
  all_goals first
    | rfl
    | (simp_all; done)
    | (unfold rightB; simp_all; done)
    | (exfalso; simp_all; omega)
    | skip
  all_goals (unfold rightB)
  all_goals first
    | (split <;> simp_all <;> omega)
    | (simp only [Bool.or_eq_true, Bool.or_eq_false_iff, decide_eq_true_eq, decide_eq_false_iff_not, beq_iff_eq, beq_eq_false_iff_ne, ne_eq, Bool.and_eq_true, Bool.and_eq_false_iff] at *
       rw [Bool.eq_iff_iff]
       simp only [Bool.and_eq_true, decide_eq_true_eq]
       split <;> simp_all <;> omega)
    | trace_state
theorem con_scheck : Con prog 21 (fun ((s, l) : ByteArray × List Spn) => [txAV s l]) (fun (s, l) => .v (.int .i64 (chkN s.size l (sgN s : Nat)))) (fun _ => True) := by
  refine Con.of (by kernel_rfl) T_ok CdsOK.nil (.con con_ucount (.con con_sright (.con con_scrosses (.inl (J := []) q_scheck1.1 q_scheck1.2.1 q_scheck1.2.2 (.inl (J := []) q_contains.1 q_contains.2.1 q_contains.2.2 (.inl (J := []) q_indexF.1 q_indexF.2.1 q_indexF.2.2 .nil)))))) 9 [] q_scheck.1 q_scheck.2.1 q_scheck.2.2 (fun _ => rfl) fun i hi => ?_
  obtain ⟨s, l⟩ := i
  by_cases hs : s.size ≤ 4096
  · have k1 : decide ((4096 : Int) < (s.size : Int)) = false := decide_eq_false (by omega)
    by_cases hl : l.length ≤ 256
    · have k2 : decide ((256 : Int) < (l.length : Int)) = false := decide_eq_false (by omega)
      have hn := sgN_le s
      repeat' (first | (with_reducible refine ⟨_, ⟨(.cons (.v _) .nil), ?_⟩, ?_⟩) | (with_reducible first | exact fun h => h | refine ExE.row (by with_unfolding_all rfl) ?_ | refine And.intro ?_ ?_) | ((with_reducible intro hq); first | exact bne1 hq (by with_reducible assumption) | exact bne1 (by with_reducible assumption) hq | ((simp only [*, BB, cond_true, cond_false, reduceCtorEq] at hq); done) | (revert hq; with_reducible intro _)) | (with_reducible first | exact True.intro | rfl | refine EntLe.row ?_ | exact LeN.ro rfl | exact LeN.rptr | assumption) | ((with_reducible first | refine WkX.chk ?_ | refine Wk.chk ?_ | refine LeL.chk ?_ | refine LeF.chk ?_ | refine Run.mk ?_); (conv => whnf)) | ((with_reducible show LeO _ _); first | refine LeO.ro ?_ | refine LeO.roCap ?_ | refine LeO.nil ?_ (fun _ => rfl)) | ((with_reducible show LeR _ _ _); first | refine LeR.own rfl rfl rfl ?_ | refine LeR.view rfl rfl rfl ?_ ?_ | refine LeR.ro ?_ | refine LeR.roCap ?_ | refine LeR.nil ?_ (fun _ => rfl)) | ((with_reducible first | show drawOK _ _ = true | show lateOK _ _ = true | show drawOK2 _ _ = true | show drawOK3 _ _ = true); kernel_rfl))
      · show s.size ≤ 1100000; omega
      have hd : C_spn.d = zS := rfl
      have hz : Hid (chkN s.size l (sgN s : Nat) = if spansB l (sgN s : Nat) = true then 0 else 23) := ⟨by unfold chkN; rw [if_neg (by omega), if_neg (by omega)]⟩
      refine loopI Nat [] (fun i => [(22, .v (.int .i64 (i : Nat)))]) (fun _ => []) (fun i => i ≤ l.length ∧ okTo l (sgN s : Nat) i = true) (fun i => l.length - i) 0 ⟨Nat.zero_le _, rfl⟩ (Wk.chk ?_) fun i hi => ?_
      · ((conv => whnf); repeat' (first | (with_reducible first | exact fun h => h | refine ExE.row (by with_unfolding_all rfl) ?_ | refine And.intro ?_ ?_) | ((with_reducible intro hq); first | exact bne1 hq (by with_reducible assumption) | exact bne1 (by with_reducible assumption) hq | ((simp only [*, BB, cond_true, cond_false, reduceCtorEq] at hq); done) | (revert hq; with_reducible intro _)) | (with_reducible first | exact True.intro | rfl | refine EntLe.row ?_ | exact LeN.ro rfl | exact LeN.rptr | assumption) | ((with_reducible first | refine WkX.chk ?_ | refine Wk.chk ?_ | refine LeL.chk ?_ | refine LeF.chk ?_ | refine Run.mk ?_); (conv => whnf)) | ((with_reducible show LeO _ _); first | refine LeO.ro ?_ | refine LeO.roCap ?_ | refine LeO.nil ?_ (fun _ => rfl)) | ((with_reducible show LeR _ _ _); first | refine LeR.own rfl rfl rfl ?_ | refine LeR.view rfl rfl rfl ?_ ?_ | refine LeR.ro ?_ | refine LeR.roCap ?_ | refine LeR.nil ?_ (fun _ => rfl)) | ((with_reducible first | show drawOK _ _ = true | show lateOK _ _ = true | show drawOK2 _ _ = true | show drawOK3 _ _ = true); kernel_rfl)))
        all_goals rfl
      obtain ⟨hi1, hi2⟩ := hi
      have e1 : ((i : Int)).toNat = i := Int.toNat_natCast _
      by_cases hil : i < l.length
      · have hlt : decide ((i : Int) < (l.length : Int)) = true := decide_eq_true (by omega)
        have hbad : Hid (rightB (l.getD i zS) (sgN s : Nat) = false ∨ aloneTo l (l.getD i zS) i = false → chkN s.size l (sgN s : Nat) = 23) := ⟨fun h => by
          have : okTo l (sgN s : Nat) (i + 1) = false := by
            rw [okTo]
            rcases h with h | h <;> rw [h] <;> simp
          rw [hz.out, if_neg (by unfold spansB; rw [okTo_false (by omega) this]; decide)]⟩
        cases hr : rightB (l.getD i zS) (sgN s : Nat) with
        | false =>
          have hr' : rightB (l.getD ((i : Int)).toNat C_spn.d) (sgN s : Nat) = false := by rw [e1, hd]; exact hr
          repeat' (first | (with_reducible refine ⟨(l.getD ((i : Int)).toNat C_spn.d, _), ⟨(.cons (.agg (.cons (.v _) (.cons (.v _) (.cons (.v _) (.cons (.v _) .nil))))) (.cons (.v _) .nil)), ?_⟩, ?_⟩) | (with_reducible first | exact fun h => h | refine ExE.row (by with_unfolding_all rfl) ?_ | refine And.intro ?_ ?_) | ((with_reducible intro hq); first | exact bne1 hq (by with_reducible assumption) | exact bne1 (by with_reducible assumption) hq | ((simp only [*, BB, cond_true, cond_false, reduceCtorEq] at hq); done) | (revert hq; with_reducible intro _)) | (with_reducible first | exact True.intro | rfl | refine EntLe.row ?_ | exact LeN.ro rfl | exact LeN.rptr | assumption) | ((with_reducible first | refine WkX.chk ?_ | refine Wk.chk ?_ | refine LeL.chk ?_ | refine LeF.chk ?_ | refine Run.mk ?_); (conv => whnf)) | ((with_reducible show LeO _ _); first | refine LeO.ro ?_ | refine LeO.roCap ?_ | refine LeO.nil ?_ (fun _ => rfl)) | ((with_reducible show LeR _ _ _); first | refine LeR.own rfl rfl rfl ?_ | refine LeR.view rfl rfl rfl ?_ ?_ | refine LeR.ro ?_ | refine LeR.roCap ?_ | refine LeR.nil ?_ (fun _ => rfl)) | ((with_reducible first | show drawOK _ _ = true | show lateOK _ _ = true | show drawOK2 _ _ = true | show drawOK3 _ _ = true); kernel_rfl))
          all_goals first
            | omega
            | exact (hbad.out (.inl hr)).symm
            | (rw [hr']; rfl)
            | (exfalso; rw [hr'] at *; simp_all; done)
            | trace_state
        | true =>
          have hr' : rightB (l.getD ((i : Int)).toNat C_spn.d) (sgN s : Nat) = true := by rw [e1, hd]; exact hr
          repeat' (first | (with_reducible refine ⟨(l.getD ((i : Int)).toNat C_spn.d, _), ⟨(.cons (.agg (.cons (.v _) (.cons (.v _) (.cons (.v _) (.cons (.v _) .nil))))) (.cons (.v _) .nil)), ?_⟩, ?_⟩) | (with_reducible first | exact fun h => h | refine ExE.row (by with_unfolding_all rfl) ?_ | refine And.intro ?_ ?_) | ((with_reducible intro hq); first | exact bne1 hq (by with_reducible assumption) | exact bne1 (by with_reducible assumption) hq | ((simp only [*, BB, cond_true, cond_false, reduceCtorEq] at hq); done) | (revert hq; with_reducible intro _)) | (with_reducible first | exact True.intro | rfl | refine EntLe.row ?_ | exact LeN.ro rfl | exact LeN.rptr | assumption) | ((with_reducible first | refine WkX.chk ?_ | refine Wk.chk ?_ | refine LeL.chk ?_ | refine LeF.chk ?_ | refine Run.mk ?_); (conv => whnf)) | ((with_reducible show LeO _ _); first | refine LeO.ro ?_ | refine LeO.roCap ?_ | refine LeO.nil ?_ (fun _ => rfl)) | ((with_reducible show LeR _ _ _); first | refine LeR.own rfl rfl rfl ?_ | refine LeR.view rfl rfl rfl ?_ ?_ | refine LeR.ro ?_ | refine LeR.roCap ?_ | refine LeR.nil ?_ (fun _ => rfl)) | ((with_reducible first | show drawOK _ _ = true | show lateOK _ _ = true | show drawOK2 _ _ = true | show drawOK3 _ _ = true); kernel_rfl))
          any_goals omega
          have htl : (l.take ((i : Int)).toNat).length = i := by rw [e1, List.length_take]; omega
          refine loopI Nat [] (fun j => [(8, .v (.int .i64 (j : Nat)))]) (fun _ => []) (fun j => j ≤ i ∧ aloneTo l (l.getD i zS) j = true) (fun j => i - j) 0 ⟨Nat.zero_le _, by unfold aloneTo; simp⟩ (Wk.chk ?_) fun j hj => ?_
          · ((conv => whnf); repeat' (first | (with_reducible first | exact fun h => h | refine ExE.row (by with_unfolding_all rfl) ?_ | refine And.intro ?_ ?_) | ((with_reducible intro hq); first | exact bne1 hq (by with_reducible assumption) | exact bne1 (by with_reducible assumption) hq | ((simp only [*, BB, cond_true, cond_false, reduceCtorEq] at hq); done) | (revert hq; with_reducible intro _)) | (with_reducible first | exact True.intro | rfl | refine EntLe.row ?_ | exact LeN.ro rfl | exact LeN.rptr | assumption) | ((with_reducible first | refine WkX.chk ?_ | refine Wk.chk ?_ | refine LeL.chk ?_ | refine LeF.chk ?_ | refine Run.mk ?_); (conv => whnf)) | ((with_reducible show LeO _ _); first | refine LeO.ro ?_ | refine LeO.roCap ?_ | refine LeO.nil ?_ (fun _ => rfl)) | ((with_reducible show LeR _ _ _); first | refine LeR.own rfl rfl rfl ?_ | refine LeR.view rfl rfl rfl ?_ ?_ | refine LeR.ro ?_ | refine LeR.roCap ?_ | refine LeR.nil ?_ (fun _ => rfl)) | ((with_reducible first | show drawOK _ _ = true | show lateOK _ _ = true | show drawOK2 _ _ = true | show drawOK3 _ _ = true); kernel_rfl)))
            all_goals rfl
          obtain ⟨hj1, hj2⟩ := hj
          have e2 : ((j : Int)).toNat = j := Int.toNat_natCast _
          by_cases hji : j < i
          · have hlt : decide ((j : Int) < ((l.take ((i : Int)).toNat).length : Int)) = true := decide_eq_true (by omega)
            have hg : (l.take ((i : Int)).toNat).getD ((j : Int)).toNat C_spn.d = l.getD j zS := by
              rw [e1, e2, hd]
              simp [List.getD_eq_getElem?_getD, List.getElem?_take, hji]
            have hsucc := aloneTo_succ (l := l) (x := l.getD i zS) (k := j) (by omega)
            have hcc := Bool.eq_false_or_eq_true (crossB (l.getD i zS) (l.getD j zS))
            rcases hcc with hc | hc
            ·
              have hc' : crossB (l.getD ((i : Int)).toNat C_spn.d) ((l.take ((i : Int)).toNat).getD ((j : Int)).toNat C_spn.d) = true := by rw [hg, e1, hd]; exact hc
              have hb : aloneTo l (l.getD i zS) i = false := aloneTo_false (i := j + 1) (by omega) (by rw [hsucc, hc]; simp)
              have hge : decide ((0 : Int) ≤ (j : Int)) = true := decide_eq_true (by omega)
              repeat' (first | (with_reducible refine ⟨(l.getD ((i : Int)).toNat C_spn.d, (l.take ((i : Int)).toNat).getD ((j : Int)).toNat C_spn.d), ⟨(.cons (.agg (.cons (.v _) (.cons (.v _) (.cons (.v _) (.cons (.v _) .nil))))) (.cons (.agg (.cons (.v _) (.cons (.v _) (.cons (.v _) (.cons (.v _) .nil))))) .nil)), ?_⟩, ?_⟩) | (with_reducible first | exact fun h => h | refine ExE.row (by with_unfolding_all rfl) ?_ | refine And.intro ?_ ?_) | ((with_reducible intro hq); first | exact bne1 hq (by with_reducible assumption) | exact bne1 (by with_reducible assumption) hq | ((simp only [*, BB, cond_true, cond_false, reduceCtorEq] at hq); done) | (revert hq; with_reducible intro _)) | (with_reducible first | exact True.intro | rfl | refine EntLe.row ?_ | exact LeN.ro rfl | exact LeN.rptr | assumption) | ((with_reducible first | refine WkX.chk ?_ | refine Wk.chk ?_ | refine LeL.chk ?_ | refine LeF.chk ?_ | refine Run.mk ?_); (conv => whnf)) | ((with_reducible show LeO _ _); first | refine LeO.ro ?_ | refine LeO.roCap ?_ | refine LeO.nil ?_ (fun _ => rfl)) | ((with_reducible show LeR _ _ _); first | refine LeR.own rfl rfl rfl ?_ | refine LeR.view rfl rfl rfl ?_ ?_ | refine LeR.ro ?_ | refine LeR.roCap ?_ | refine LeR.nil ?_ (fun _ => rfl)) | ((with_reducible first | show drawOK _ _ = true | show lateOK _ _ = true | show drawOK2 _ _ = true | show drawOK3 _ _ = true); kernel_rfl))
              all_goals first
                | omega
                | exact (hbad.out (.inr hb)).symm
                | (rw [hc']; rfl)
                | trace_state
            ·
              have hc' : crossB (l.getD ((i : Int)).toNat C_spn.d) ((l.take ((i : Int)).toNat).getD ((j : Int)).toNat C_spn.d) = false := by rw [hg, e1, hd]; exact hc
              have hsucc : aloneTo l (l.getD i zS) (j + 1) = true := by rw [hsucc, hj2, hc]; rfl
              repeat' (first | (with_reducible refine ⟨(l.getD ((i : Int)).toNat C_spn.d, (l.take ((i : Int)).toNat).getD ((j : Int)).toNat C_spn.d), ⟨(.cons (.agg (.cons (.v _) (.cons (.v _) (.cons (.v _) (.cons (.v _) .nil))))) (.cons (.agg (.cons (.v _) (.cons (.v _) (.cons (.v _) (.cons (.v _) .nil))))) .nil)), ?_⟩, ?_⟩) | (with_reducible refine ex_of (α := Nat) (j + 1) ⟨⟨?_, hsucc⟩, ?_⟩ ?_) | (with_reducible first | exact fun h => h | refine ExE.row (by with_unfolding_all rfl) ?_ | refine And.intro ?_ ?_) | ((with_reducible intro hq); first | exact bne1 hq (by with_reducible assumption) | exact bne1 (by with_reducible assumption) hq | ((simp only [*, BB, cond_true, cond_false, reduceCtorEq] at hq); done) | (revert hq; with_reducible intro _)) | (with_reducible first | exact True.intro | rfl | refine EntLe.row ?_ | exact LeN.ro rfl | exact LeN.rptr | assumption) | ((with_reducible first | refine WkX.chk ?_ | refine Wk.chk ?_ | refine LeL.chk ?_ | refine LeF.chk ?_ | refine Run.mk ?_); (conv => whnf)) | ((with_reducible show LeO _ _); first | refine LeO.ro ?_ | refine LeO.roCap ?_ | refine LeO.nil ?_ (fun _ => rfl)) | ((with_reducible show LeR _ _ _); first | refine LeR.own rfl rfl rfl ?_ | refine LeR.view rfl rfl rfl ?_ ?_ | refine LeR.ro ?_ | refine LeR.roCap ?_ | refine LeR.nil ?_ (fun _ => rfl)) | ((with_reducible first | show drawOK _ _ = true | show lateOK _ _ = true | show drawOK2 _ _ = true | show drawOK3 _ _ = true); kernel_rfl))
              all_goals first
                | omega
                | (apply Fits.i64 <;> omega)
                | (show i - (j + 1) < i - j; omega)
                | (rw [hc']; rfl)
                | trace_state
          have hlt : decide ((j : Int) < ((l.take ((i : Int)).toNat).length : Int)) = false := decide_eq_false (by omega)
          have hjj : j = i := by omega
          subst hjj
          have hok : okTo l (sgN s : Nat) (j + 1) = true := by rw [okTo, hi2, hr, hj2]; rfl
          repeat' (first | (with_reducible refine ex_of (α := Nat) (j + 1) ⟨⟨?_, hok⟩, ?_⟩ ?_) | (with_reducible first | exact fun h => h | refine ExE.row (by with_unfolding_all rfl) ?_ | refine And.intro ?_ ?_) | ((with_reducible intro hq); first | exact bne1 hq (by with_reducible assumption) | exact bne1 (by with_reducible assumption) hq | ((simp only [*, BB, cond_true, cond_false, reduceCtorEq] at hq); done) | (revert hq; with_reducible intro _)) | (with_reducible first | exact True.intro | rfl | refine EntLe.row ?_ | exact LeN.ro rfl | exact LeN.rptr | assumption) | ((with_reducible first | refine WkX.chk ?_ | refine Wk.chk ?_ | refine LeL.chk ?_ | refine LeF.chk ?_ | refine Run.mk ?_); (conv => whnf)) | ((with_reducible show LeO _ _); first | refine LeO.ro ?_ | refine LeO.roCap ?_ | refine LeO.nil ?_ (fun _ => rfl)) | ((with_reducible show LeR _ _ _); first | refine LeR.own rfl rfl rfl ?_ | refine LeR.view rfl rfl rfl ?_ ?_ | refine LeR.ro ?_ | refine LeR.roCap ?_ | refine LeR.nil ?_ (fun _ => rfl)) | ((with_reducible first | show drawOK _ _ = true | show lateOK _ _ = true | show drawOK2 _ _ = true | show drawOK3 _ _ = true); kernel_rfl))
          all_goals first
            | omega
            | (apply Fits.i64 <;> omega)
            | (show l.length - (j + 1) < l.length - j; omega)
            | (exfalso; simp_all; done)
            | trace_state
      have hlt : decide ((i : Int) < (l.length : Int)) = false := decide_eq_false (by omega)
      obtain rfl : i = l.length := by omega
      repeat' (first | (with_reducible first | exact fun h => h | refine ExE.row (by with_unfolding_all rfl) ?_ | refine And.intro ?_ ?_) | ((with_reducible intro hq); first | exact bne1 hq (by with_reducible assumption) | exact bne1 (by with_reducible assumption) hq | ((simp only [*, BB, cond_true, cond_false, reduceCtorEq] at hq); done) | (revert hq; with_reducible intro _)) | (with_reducible first | exact True.intro | rfl | refine EntLe.row ?_ | exact LeN.ro rfl | exact LeN.rptr | assumption) | ((with_reducible first | refine WkX.chk ?_ | refine Wk.chk ?_ | refine LeL.chk ?_ | refine LeF.chk ?_ | refine Run.mk ?_); (conv => whnf)) | ((with_reducible show LeO _ _); first | refine LeO.ro ?_ | refine LeO.roCap ?_ | refine LeO.nil ?_ (fun _ => rfl)) | ((with_reducible show LeR _ _ _); first | refine LeR.own rfl rfl rfl ?_ | refine LeR.view rfl rfl rfl ?_ ?_ | refine LeR.ro ?_ | refine LeR.roCap ?_ | refine LeR.nil ?_ (fun _ => rfl)) | ((with_reducible first | show drawOK _ _ = true | show lateOK _ _ = true | show drawOK2 _ _ = true | show drawOK3 _ _ = true); kernel_rfl))
      all_goals first
        | (rw [hz.out, if_pos (show spansB l (sgN s : Nat) = true from hi2)]; done)
        | trace_state
    · have k2 : decide ((256 : Int) < (l.length : Int)) = true := decide_eq_true (by omega)
      repeat' (first | (with_reducible first | exact fun h => h | refine ExE.row (by with_unfolding_all rfl) ?_ | refine And.intro ?_ ?_) | ((with_reducible intro hq); first | exact bne1 hq (by with_reducible assumption) | exact bne1 (by with_reducible assumption) hq | ((simp only [*, BB, cond_true, cond_false, reduceCtorEq] at hq); done) | (revert hq; with_reducible intro _)) | (with_reducible first | exact True.intro | rfl | refine EntLe.row ?_ | exact LeN.ro rfl | exact LeN.rptr | assumption) | ((with_reducible first | refine WkX.chk ?_ | refine Wk.chk ?_ | refine LeL.chk ?_ | refine LeF.chk ?_ | refine Run.mk ?_); (conv => whnf)) | ((with_reducible show LeO _ _); first | refine LeO.ro ?_ | refine LeO.roCap ?_ | refine LeO.nil ?_ (fun _ => rfl)) | ((with_reducible show LeR _ _ _); first | refine LeR.own rfl rfl rfl ?_ | refine LeR.view rfl rfl rfl ?_ ?_ | refine LeR.ro ?_ | refine LeR.roCap ?_ | refine LeR.nil ?_ (fun _ => rfl)) | ((with_reducible first | show drawOK _ _ = true | show lateOK _ _ = true | show drawOK2 _ _ = true | show drawOK3 _ _ = true); kernel_rfl))
      all_goals first
        | (unfold chkN; rw [if_neg (by omega), if_pos (by omega)]; done)
        | trace_state
  · have k1 : decide ((4096 : Int) < (s.size : Int)) = true := decide_eq_true (by omega)
    repeat' (first | (with_reducible first | exact fun h => h | refine ExE.row (by with_unfolding_all rfl) ?_ | refine And.intro ?_ ?_) | ((with_reducible intro hq); first | exact bne1 hq (by with_reducible assumption) | exact bne1 (by with_reducible assumption) hq | ((simp only [*, BB, cond_true, cond_false, reduceCtorEq] at hq); done) | (revert hq; with_reducible intro _)) | (with_reducible first | exact True.intro | rfl | refine EntLe.row ?_ | exact LeN.ro rfl | exact LeN.rptr | assumption) | ((with_reducible first | refine WkX.chk ?_ | refine Wk.chk ?_ | refine LeL.chk ?_ | refine LeF.chk ?_ | refine Run.mk ?_); (conv => whnf)) | ((with_reducible show LeO _ _); first | refine LeO.ro ?_ | refine LeO.roCap ?_ | refine LeO.nil ?_ (fun _ => rfl)) | ((with_reducible show LeR _ _ _); first | refine LeR.own rfl rfl rfl ?_ | refine LeR.view rfl rfl rfl ?_ ?_ | refine LeR.ro ?_ | refine LeR.roCap ?_ | refine LeR.nil ?_ (fun _ => rfl)) | ((with_reducible first | show drawOK _ _ = true | show lateOK _ _ = true | show drawOK2 _ _ = true | show drawOK3 _ _ = true); kernel_rfl))
    all_goals first
      | (unfold chkN; rw [if_pos (by omega)]; done)
      | trace_state
end Go.SX.Try
/- Contracts of the document's chapter 7: fits, within, cross, Check. -/
namespace Go.SX.Try
open Go.Proofs Go.Proofs.Try Go.SX.Plain
set_option maxRecDepth 100000
set_option maxHeartbeats 0
set_option linter.unusedSimpArgs false
theorem q_rfits : fact 69 f69 := ⟨by kernel_rfl, rfl, by kernel_rfl⟩
theorem q_rwithin7 : fact 99 f99 := ⟨by kernel_rfl, rfl, by kernel_rfl⟩
theorem q_rcross : fact 70 f70 := ⟨by kernel_rfl, rfl, by kernel_rfl⟩
theorem q_rcheck7 : fact 24 f24 := ⟨by kernel_rfl, rfl, by kernel_rfl⟩
theorem con_rwithin7 : Con prog 99 (fun ((x, y) : Spn × Spn) => [.agg (spAV x), .agg (spAV y)]) (fun (x, y) => .sb (withinB x y)) (fun _ => True) := by
  refine Con.of (by kernel_rfl) T_ok CdsOK.nil .nil 3 [] q_rwithin7.1 q_rwithin7.2.1 q_rwithin7.2.2 (fun _ => rfl) fun i hi => ?_
  obtain ⟨x, y⟩ := i
  repeat' (first | (with_reducible first | exact fun h => h | refine ExE.row (by with_unfolding_all rfl) ?_ | refine And.intro ?_ ?_) | ((with_reducible intro hq); first | exact bne1 hq (by with_reducible assumption) | exact bne1 (by with_reducible assumption) hq | ((simp only [*, BB, cond_true, cond_false, reduceCtorEq] at hq); done) | (revert hq; with_reducible intro _)) | (with_reducible first | exact True.intro | rfl | refine EntLe.row ?_ | exact LeN.ro rfl | exact LeN.rptr | assumption) | ((with_reducible first | refine WkX.chk ?_ | refine Wk.chk ?_ | refine LeL.chk ?_ | refine LeF.chk ?_ | refine Run.mk ?_); (conv => whnf)) | ((with_reducible show LeO _ _); first | refine LeO.ro ?_ | refine LeO.roCap ?_ | refine LeO.nil ?_ (fun _ => rfl)) | ((with_reducible show LeR _ _ _); first | refine LeR.own rfl rfl rfl ?_ | refine LeR.view rfl rfl rfl ?_ ?_ | refine LeR.ro ?_ | refine LeR.roCap ?_ | refine LeR.nil ?_ (fun _ => rfl)) | ((with_reducible first | show drawOK _ _ = true | show lateOK _ _ = true | show drawOK2 _ _ = true | show drawOK3 _ _ = true); kernel_rfl))
  all_goals first
    | rfl
    | (unfold withinB; simp_all; done)
    | trace_state
theorem con_rcross : Con prog 70 (fun ((x, y) : Spn × Spn) => [.agg (spAV x), .agg (spAV y)]) (fun (x, y) => .sb (crossB x y)) (fun _ => True) := by
  refine Con.of (by kernel_rfl) T_ok CdsOK.nil (.con con_rwithin7 .nil) 3 [] q_rcross.1 q_rcross.2.1 q_rcross.2.2 (fun _ => rfl) fun i hi => ?_
  obtain ⟨x, y⟩ := i
  repeat' (first | (with_reducible refine ⟨(_, _), ⟨(.cons (.agg (.cons (.v _) (.cons (.v _) (.cons (.v _) (.cons (.v _) .nil))))) (.cons (.agg (.cons (.v _) (.cons (.v _) (.cons (.v _) (.cons (.v _) .nil))))) .nil)), ?_⟩, ?_⟩) | (with_reducible first | exact fun h => h | refine ExE.row (by with_unfolding_all rfl) ?_ | refine And.intro ?_ ?_) | ((with_reducible intro hq); first | exact bne1 hq (by with_reducible assumption) | exact bne1 (by with_reducible assumption) hq | ((simp only [*, BB, cond_true, cond_false, reduceCtorEq] at hq); done) | (revert hq; with_reducible intro _)) | (with_reducible first | exact True.intro | rfl | refine EntLe.row ?_ | exact LeN.ro rfl | exact LeN.rptr | assumption) | ((with_reducible first | refine WkX.chk ?_ | refine Wk.chk ?_ | refine LeL.chk ?_ | refine LeF.chk ?_ | refine Run.mk ?_); (conv => whnf)) | ((with_reducible show LeO _ _); first | refine LeO.ro ?_ | refine LeO.roCap ?_ | refine LeO.nil ?_ (fun _ => rfl)) | ((with_reducible show LeR _ _ _); first | refine LeR.own rfl rfl rfl ?_ | refine LeR.view rfl rfl rfl ?_ ?_ | refine LeR.ro ?_ | refine LeR.roCap ?_ | refine LeR.nil ?_ (fun _ => rfl)) | ((with_reducible first | show drawOK _ _ = true | show lateOK _ _ = true | show drawOK2 _ _ = true | show drawOK3 _ _ = true); kernel_rfl))
  all_goals first
    | rfl
    | (unfold crossB; simp_all; done)
    | (unfold crossB; cases hc : (decide (x.frm < y.to) && decide (y.frm < x.to)) <;> simp_all; done)
    | trace_state
theorem con_rfits : Con prog 69 (fun ((x, n) : Spn × Int) => [.agg (spAV x), .v (.int .i64 n)]) (fun (x, n) => .sb (rightB x n)) (fun _ => True) := by
  refine Con.of (by kernel_rfl) T_ok CdsOK.nil .nil 3 [] q_rfits.1 q_rfits.2.1 q_rfits.2.2 (fun _ => rfl) fun i hi => ?_
  obtain ⟨x, n⟩ := i
  repeat' (first | (with_reducible first | exact fun h => h | refine ExE.row (by with_unfolding_all rfl) ?_ | refine And.intro ?_ ?_) | ((with_reducible intro hq); first | exact bne1 hq (by with_reducible assumption) | exact bne1 (by with_reducible assumption) hq | ((simp only [*, BB, cond_true, cond_false, reduceCtorEq] at hq); done) | (revert hq; with_reducible intro _)) | (with_reducible first | exact True.intro | rfl | refine EntLe.row ?_ | exact LeN.ro rfl | exact LeN.rptr | assumption) | ((with_reducible first | refine WkX.chk ?_ | refine Wk.chk ?_ | refine LeL.chk ?_ | refine LeF.chk ?_ | refine Run.mk ?_); (conv => whnf)) | ((with_reducible show LeO _ _); first | refine LeO.ro ?_ | refine LeO.roCap ?_ | refine LeO.nil ?_ (fun _ => rfl)) | ((with_reducible show LeR _ _ _); first | refine LeR.own rfl rfl rfl ?_ | refine LeR.view rfl rfl rfl ?_ ?_ | refine LeR.ro ?_ | refine LeR.roCap ?_ | refine LeR.nil ?_ (fun _ => rfl)) | ((with_reducible first | show drawOK _ _ = true | show lateOK _ _ = true | show drawOK2 _ _ = true | show drawOK3 _ _ = true); kernel_rfl))
  all_goals first
    | rfl
    | (simp_all; done)
    | (unfold rightB; simp_all; done)
    | (exfalso; simp_all; omega)
    | skip
  all_goals (unfold rightB)
  all_goals first
    | (simp_all; done)
    | (split <;> simp_all <;> omega)
    | (rw [Bool.eq_iff_iff]; simp only [Bool.and_eq_true, decide_eq_true_eq]; split <;> simp_all <;> omega)
    | trace_state
theorem con_rcheck7 : Con prog 24 (fun ((s, l) : ByteArray × List Spn) => [txAV s l]) (fun (s, l) => .v (.int .i64 (chkN s.size l (sgN s : Nat)))) (fun _ => True) := by
  refine Con.of (by kernel_rfl) T_ok CdsOK.nil (.con con_rcount (.con con_rfits (.con con_rcross .nil))) 5 [] q_rcheck7.1 q_rcheck7.2.1 q_rcheck7.2.2 (fun _ => rfl) fun i hi => ?_
  obtain ⟨s, l⟩ := i
  by_cases hs : s.size ≤ 4096
  · have k1 : decide ((4096 : Int) < (s.size : Int)) = false := decide_eq_false (by omega)
    by_cases hl : l.length ≤ 256
    · have k2 : decide ((256 : Int) < (l.length : Int)) = false := decide_eq_false (by omega)
      have hn := sgN_le s
      have hz : Hid (∀ i, i < l.length → (rightB (l.getD i zS) (sgN s : Nat) = false ∨ aloneTo l (l.getD i zS) i = false) → 23 = chkN s.size l (sgN s : Nat)) := ⟨fun i h1 h2 => by
        have hb : spansB l (sgN s : Nat) = false := by
          cases hb : spansB l (sgN s : Nat) with
          | false => rfl
          | true =>
            have := okTo_at h1 hb
            rcases h2 with h2 | h2
            · rw [h2] at this; cases this.1
            · rw [h2] at this; cases this.2
        unfold chkN
        rw [if_neg (by omega), if_neg (by omega), hb]
        rfl⟩
      have hz2 : Hid (spansB l (sgN s : Nat) = true → 0 = chkN s.size l (sgN s : Nat)) := ⟨fun hb => by
        unfold chkN
        rw [if_neg (by omega), if_neg (by omega), if_pos hb]⟩
      have hd : C_spn.d = zS := rfl
      repeat' (first | (with_reducible refine ⟨_, ⟨(.cons (.v _) .nil), ?_⟩, ?_⟩) | (with_reducible first | exact fun h => h | refine ExE.row (by with_unfolding_all rfl) ?_ | refine And.intro ?_ ?_) | ((with_reducible intro hq); first | exact bne1 hq (by with_reducible assumption) | exact bne1 (by with_reducible assumption) hq | ((simp only [*, BB, cond_true, cond_false, reduceCtorEq] at hq); done) | (revert hq; with_reducible intro _)) | (with_reducible first | exact True.intro | rfl | refine EntLe.row ?_ | exact LeN.ro rfl | exact LeN.rptr | assumption) | ((with_reducible first | refine WkX.chk ?_ | refine Wk.chk ?_ | refine LeL.chk ?_ | refine LeF.chk ?_ | refine Run.mk ?_); (conv => whnf)) | ((with_reducible show LeO _ _); first | refine LeO.ro ?_ | refine LeO.roCap ?_ | refine LeO.nil ?_ (fun _ => rfl)) | ((with_reducible show LeR _ _ _); first | refine LeR.own rfl rfl rfl ?_ | refine LeR.view rfl rfl rfl ?_ ?_ | refine LeR.ro ?_ | refine LeR.roCap ?_ | refine LeR.nil ?_ (fun _ => rfl)) | ((with_reducible first | show drawOK _ _ = true | show lateOK _ _ = true | show drawOK2 _ _ = true | show drawOK3 _ _ = true); kernel_rfl))
      · show s.size ≤ 1100000; omega
      refine loopI Nat [] (fun i => [(4, .v (.int .i64 (i : Nat)))]) (fun _ => []) (fun i => i ≤ l.length ∧ ∀ k, k < i → rightB (l.getD k zS) (sgN s : Nat) = true) (fun i => l.length - i) 0 ⟨Nat.zero_le _, fun k h => absurd h (Nat.not_lt_zero _)⟩ (Wk.chk ?_) fun i hi => ?_
      · ((conv => whnf); repeat' (first | (with_reducible first | exact fun h => h | refine ExE.row (by with_unfolding_all rfl) ?_ | refine And.intro ?_ ?_) | ((with_reducible intro hq); first | exact bne1 hq (by with_reducible assumption) | exact bne1 (by with_reducible assumption) hq | ((simp only [*, BB, cond_true, cond_false, reduceCtorEq] at hq); done) | (revert hq; with_reducible intro _)) | (with_reducible first | exact True.intro | rfl | refine EntLe.row ?_ | exact LeN.ro rfl | exact LeN.rptr | assumption) | ((with_reducible first | refine WkX.chk ?_ | refine Wk.chk ?_ | refine LeL.chk ?_ | refine LeF.chk ?_ | refine Run.mk ?_); (conv => whnf)) | ((with_reducible show LeO _ _); first | refine LeO.ro ?_ | refine LeO.roCap ?_ | refine LeO.nil ?_ (fun _ => rfl)) | ((with_reducible show LeR _ _ _); first | refine LeR.own rfl rfl rfl ?_ | refine LeR.view rfl rfl rfl ?_ ?_ | refine LeR.ro ?_ | refine LeR.roCap ?_ | refine LeR.nil ?_ (fun _ => rfl)) | ((with_reducible first | show drawOK _ _ = true | show lateOK _ _ = true | show drawOK2 _ _ = true | show drawOK3 _ _ = true); kernel_rfl)))
        all_goals rfl
      obtain ⟨hi1, hi2⟩ := hi
      have e1 : ((i : Int)).toNat = i := Int.toNat_natCast _
      by_cases hil : i < l.length
      · have hlt : decide ((i : Int) < (l.length : Int)) = true := decide_eq_true (by omega)
        have hrr := Bool.eq_false_or_eq_true (rightB (l.getD i zS) (sgN s : Nat))
        rcases hrr with hr | hr
        · have hr' : rightB (l.getD ((i : Int)).toNat C_spn.d) (sgN s : Nat) = true := by rw [e1, hd]; exact hr
          have hi3 : ∀ k, k < i + 1 → rightB (l.getD k zS) (sgN s : Nat) = true := fun k hk => by
            by_cases h : k = i
            · rw [h]; exact hr
            · exact hi2 k (by omega)
          repeat' (first | (with_reducible refine ⟨(l.getD ((i : Int)).toNat C_spn.d, _), ⟨(.cons (.agg (.cons (.v _) (.cons (.v _) (.cons (.v _) (.cons (.v _) .nil))))) (.cons (.v _) .nil)), ?_⟩, ?_⟩) | (with_reducible refine ex_of (α := Nat) (i + 1) ⟨⟨?_, hi3⟩, ?_⟩ ?_) | (with_reducible first | exact fun h => h | refine ExE.row (by with_unfolding_all rfl) ?_ | refine And.intro ?_ ?_) | ((with_reducible intro hq); first | exact bne1 hq (by with_reducible assumption) | exact bne1 (by with_reducible assumption) hq | ((simp only [*, BB, cond_true, cond_false, reduceCtorEq] at hq); done) | (revert hq; with_reducible intro _)) | (with_reducible first | exact True.intro | rfl | refine EntLe.row ?_ | exact LeN.ro rfl | exact LeN.rptr | assumption) | ((with_reducible first | refine WkX.chk ?_ | refine Wk.chk ?_ | refine LeL.chk ?_ | refine LeF.chk ?_ | refine Run.mk ?_); (conv => whnf)) | ((with_reducible show LeO _ _); first | refine LeO.ro ?_ | refine LeO.roCap ?_ | refine LeO.nil ?_ (fun _ => rfl)) | ((with_reducible show LeR _ _ _); first | refine LeR.own rfl rfl rfl ?_ | refine LeR.view rfl rfl rfl ?_ ?_ | refine LeR.ro ?_ | refine LeR.roCap ?_ | refine LeR.nil ?_ (fun _ => rfl)) | ((with_reducible first | show drawOK _ _ = true | show lateOK _ _ = true | show drawOK2 _ _ = true | show drawOK3 _ _ = true); kernel_rfl))
          all_goals first
            | omega
            | (apply Fits.i64 <;> omega)
            | (show l.length - (i + 1) < l.length - i; omega)
            | (rw [hr']; rfl)
            | trace_state
        · have hr' : rightB (l.getD ((i : Int)).toNat C_spn.d) (sgN s : Nat) = false := by rw [e1, hd]; exact hr
          repeat' (first | (with_reducible refine ⟨(l.getD ((i : Int)).toNat C_spn.d, _), ⟨(.cons (.agg (.cons (.v _) (.cons (.v _) (.cons (.v _) (.cons (.v _) .nil))))) (.cons (.v _) .nil)), ?_⟩, ?_⟩) | (with_reducible first | exact fun h => h | refine ExE.row (by with_unfolding_all rfl) ?_ | refine And.intro ?_ ?_) | ((with_reducible intro hq); first | exact bne1 hq (by with_reducible assumption) | exact bne1 (by with_reducible assumption) hq | ((simp only [*, BB, cond_true, cond_false, reduceCtorEq] at hq); done) | (revert hq; with_reducible intro _)) | (with_reducible first | exact True.intro | rfl | refine EntLe.row ?_ | exact LeN.ro rfl | exact LeN.rptr | assumption) | ((with_reducible first | refine WkX.chk ?_ | refine Wk.chk ?_ | refine LeL.chk ?_ | refine LeF.chk ?_ | refine Run.mk ?_); (conv => whnf)) | ((with_reducible show LeO _ _); first | refine LeO.ro ?_ | refine LeO.roCap ?_ | refine LeO.nil ?_ (fun _ => rfl)) | ((with_reducible show LeR _ _ _); first | refine LeR.own rfl rfl rfl ?_ | refine LeR.view rfl rfl rfl ?_ ?_ | refine LeR.ro ?_ | refine LeR.roCap ?_ | refine LeR.nil ?_ (fun _ => rfl)) | ((with_reducible first | show drawOK _ _ = true | show lateOK _ _ = true | show drawOK2 _ _ = true | show drawOK3 _ _ = true); kernel_rfl))
          all_goals first
            | omega
            | exact hz.out i hil (.inl hr)
            | trace_state
      have hlt : decide ((i : Int) < (l.length : Int)) = false := decide_eq_false (by omega)
      have hii : i = l.length := by omega
      subst hii
      repeat' (first | (with_reducible first | exact fun h => h | refine ExE.row (by with_unfolding_all rfl) ?_ | refine And.intro ?_ ?_) | ((with_reducible intro hq); first | exact bne1 hq (by with_reducible assumption) | exact bne1 (by with_reducible assumption) hq | ((simp only [*, BB, cond_true, cond_false, reduceCtorEq] at hq); done) | (revert hq; with_reducible intro _)) | (with_reducible first | exact True.intro | rfl | refine EntLe.row ?_ | exact LeN.ro rfl | exact LeN.rptr | assumption) | ((with_reducible first | refine WkX.chk ?_ | refine Wk.chk ?_ | refine LeL.chk ?_ | refine LeF.chk ?_ | refine Run.mk ?_); (conv => whnf)) | ((with_reducible show LeO _ _); first | refine LeO.ro ?_ | refine LeO.roCap ?_ | refine LeO.nil ?_ (fun _ => rfl)) | ((with_reducible show LeR _ _ _); first | refine LeR.own rfl rfl rfl ?_ | refine LeR.view rfl rfl rfl ?_ ?_ | refine LeR.ro ?_ | refine LeR.roCap ?_ | refine LeR.nil ?_ (fun _ => rfl)) | ((with_reducible first | show drawOK _ _ = true | show lateOK _ _ = true | show drawOK2 _ _ = true | show drawOK3 _ _ = true); kernel_rfl))
      refine loopI Nat [] (fun i => [(5, .v (.int .i64 (i : Nat)))]) (fun _ => []) (fun i => i ≤ l.length ∧ okTo l (sgN s : Nat) i = true) (fun i => l.length - i) 0 ⟨Nat.zero_le _, rfl⟩ (Wk.chk ?_) fun i hi => ?_
      · ((conv => whnf); repeat' (first | (with_reducible first | exact fun h => h | refine ExE.row (by with_unfolding_all rfl) ?_ | refine And.intro ?_ ?_) | ((with_reducible intro hq); first | exact bne1 hq (by with_reducible assumption) | exact bne1 (by with_reducible assumption) hq | ((simp only [*, BB, cond_true, cond_false, reduceCtorEq] at hq); done) | (revert hq; with_reducible intro _)) | (with_reducible first | exact True.intro | rfl | refine EntLe.row ?_ | exact LeN.ro rfl | exact LeN.rptr | assumption) | ((with_reducible first | refine WkX.chk ?_ | refine Wk.chk ?_ | refine LeL.chk ?_ | refine LeF.chk ?_ | refine Run.mk ?_); (conv => whnf)) | ((with_reducible show LeO _ _); first | refine LeO.ro ?_ | refine LeO.roCap ?_ | refine LeO.nil ?_ (fun _ => rfl)) | ((with_reducible show LeR _ _ _); first | refine LeR.own rfl rfl rfl ?_ | refine LeR.view rfl rfl rfl ?_ ?_ | refine LeR.ro ?_ | refine LeR.roCap ?_ | refine LeR.nil ?_ (fun _ => rfl)) | ((with_reducible first | show drawOK _ _ = true | show lateOK _ _ = true | show drawOK2 _ _ = true | show drawOK3 _ _ = true); kernel_rfl)))
        all_goals rfl
      obtain ⟨hj1, hj2⟩ := hi
      have e1 : ((i : Int)).toNat = i := Int.toNat_natCast _
      by_cases hil : i < l.length
      · have hlt : decide ((i : Int) < (l.length : Int)) = true := decide_eq_true (by omega)
        repeat' (first | (with_reducible first | exact fun h => h | refine ExE.row (by with_unfolding_all rfl) ?_ | refine And.intro ?_ ?_) | ((with_reducible intro hq); first | exact bne1 hq (by with_reducible assumption) | exact bne1 (by with_reducible assumption) hq | ((simp only [*, BB, cond_true, cond_false, reduceCtorEq] at hq); done) | (revert hq; with_reducible intro _)) | (with_reducible first | exact True.intro | rfl | refine EntLe.row ?_ | exact LeN.ro rfl | exact LeN.rptr | assumption) | ((with_reducible first | refine WkX.chk ?_ | refine Wk.chk ?_ | refine LeL.chk ?_ | refine LeF.chk ?_ | refine Run.mk ?_); (conv => whnf)) | ((with_reducible show LeO _ _); first | refine LeO.ro ?_ | refine LeO.roCap ?_ | refine LeO.nil ?_ (fun _ => rfl)) | ((with_reducible show LeR _ _ _); first | refine LeR.own rfl rfl rfl ?_ | refine LeR.view rfl rfl rfl ?_ ?_ | refine LeR.ro ?_ | refine LeR.roCap ?_ | refine LeR.nil ?_ (fun _ => rfl)) | ((with_reducible first | show drawOK _ _ = true | show lateOK _ _ = true | show drawOK2 _ _ = true | show drawOK3 _ _ = true); kernel_rfl))
        refine loopI Nat [] (fun j => [(6, .v (.int .i64 (j : Nat)))]) (fun _ => []) (fun j => j ≤ i ∧ aloneTo l (l.getD i zS) j = true) (fun j => i - j) 0 ⟨Nat.zero_le _, by unfold aloneTo; simp⟩ (Wk.chk ?_) fun j hj => ?_
        · ((conv => whnf); repeat' (first | (with_reducible first | exact fun h => h | refine ExE.row (by with_unfolding_all rfl) ?_ | refine And.intro ?_ ?_) | ((with_reducible intro hq); first | exact bne1 hq (by with_reducible assumption) | exact bne1 (by with_reducible assumption) hq | ((simp only [*, BB, cond_true, cond_false, reduceCtorEq] at hq); done) | (revert hq; with_reducible intro _)) | (with_reducible first | exact True.intro | rfl | refine EntLe.row ?_ | exact LeN.ro rfl | exact LeN.rptr | assumption) | ((with_reducible first | refine WkX.chk ?_ | refine Wk.chk ?_ | refine LeL.chk ?_ | refine LeF.chk ?_ | refine Run.mk ?_); (conv => whnf)) | ((with_reducible show LeO _ _); first | refine LeO.ro ?_ | refine LeO.roCap ?_ | refine LeO.nil ?_ (fun _ => rfl)) | ((with_reducible show LeR _ _ _); first | refine LeR.own rfl rfl rfl ?_ | refine LeR.view rfl rfl rfl ?_ ?_ | refine LeR.ro ?_ | refine LeR.roCap ?_ | refine LeR.nil ?_ (fun _ => rfl)) | ((with_reducible first | show drawOK _ _ = true | show lateOK _ _ = true | show drawOK2 _ _ = true | show drawOK3 _ _ = true); kernel_rfl)))
          all_goals rfl
        obtain ⟨hk1, hk2⟩ := hj
        have e2 : ((j : Int)).toNat = j := Int.toNat_natCast _
        by_cases hji : j < i
        · have hlt : decide ((j : Int) < (i : Int)) = true := decide_eq_true (by omega)
          have hsucc := aloneTo_succ (l := l) (x := l.getD i zS) (k := j) (by omega)
          have hcc := Bool.eq_false_or_eq_true (crossB (l.getD i zS) (l.getD j zS))
          rcases hcc with hc | hc
          · have hc' : crossB (l.getD ((i : Int)).toNat C_spn.d) (l.getD ((j : Int)).toNat C_spn.d) = true := by rw [e1, e2, hd]; exact hc
            have hb : aloneTo l (l.getD i zS) i = false := aloneTo_false (i := j + 1) (by omega) (by rw [hsucc, hc]; simp)
            repeat' (first | (with_reducible refine ⟨(l.getD ((i : Int)).toNat C_spn.d, l.getD ((j : Int)).toNat C_spn.d), ⟨(.cons (.agg (.cons (.v _) (.cons (.v _) (.cons (.v _) (.cons (.v _) .nil))))) (.cons (.agg (.cons (.v _) (.cons (.v _) (.cons (.v _) (.cons (.v _) .nil))))) .nil)), ?_⟩, ?_⟩) | (with_reducible first | exact fun h => h | refine ExE.row (by with_unfolding_all rfl) ?_ | refine And.intro ?_ ?_) | ((with_reducible intro hq); first | exact bne1 hq (by with_reducible assumption) | exact bne1 (by with_reducible assumption) hq | ((simp only [*, BB, cond_true, cond_false, reduceCtorEq] at hq); done) | (revert hq; with_reducible intro _)) | (with_reducible first | exact True.intro | rfl | refine EntLe.row ?_ | exact LeN.ro rfl | exact LeN.rptr | assumption) | ((with_reducible first | refine WkX.chk ?_ | refine Wk.chk ?_ | refine LeL.chk ?_ | refine LeF.chk ?_ | refine Run.mk ?_); (conv => whnf)) | ((with_reducible show LeO _ _); first | refine LeO.ro ?_ | refine LeO.roCap ?_ | refine LeO.nil ?_ (fun _ => rfl)) | ((with_reducible show LeR _ _ _); first | refine LeR.own rfl rfl rfl ?_ | refine LeR.view rfl rfl rfl ?_ ?_ | refine LeR.ro ?_ | refine LeR.roCap ?_ | refine LeR.nil ?_ (fun _ => rfl)) | ((with_reducible first | show drawOK _ _ = true | show lateOK _ _ = true | show drawOK2 _ _ = true | show drawOK3 _ _ = true); kernel_rfl))
            all_goals first
              | omega
              | exact hz.out i hil (.inr hb)
              | trace_state
          · have hc' : crossB (l.getD ((i : Int)).toNat C_spn.d) (l.getD ((j : Int)).toNat C_spn.d) = false := by rw [e1, e2, hd]; exact hc
            have hsucc : aloneTo l (l.getD i zS) (j + 1) = true := by rw [hsucc, hk2, hc]; rfl
            repeat' (first | (with_reducible refine ⟨(l.getD ((i : Int)).toNat C_spn.d, l.getD ((j : Int)).toNat C_spn.d), ⟨(.cons (.agg (.cons (.v _) (.cons (.v _) (.cons (.v _) (.cons (.v _) .nil))))) (.cons (.agg (.cons (.v _) (.cons (.v _) (.cons (.v _) (.cons (.v _) .nil))))) .nil)), ?_⟩, ?_⟩) | (with_reducible refine ex_of (α := Nat) (j + 1) ⟨⟨?_, hsucc⟩, ?_⟩ ?_) | (with_reducible first | exact fun h => h | refine ExE.row (by with_unfolding_all rfl) ?_ | refine And.intro ?_ ?_) | ((with_reducible intro hq); first | exact bne1 hq (by with_reducible assumption) | exact bne1 (by with_reducible assumption) hq | ((simp only [*, BB, cond_true, cond_false, reduceCtorEq] at hq); done) | (revert hq; with_reducible intro _)) | (with_reducible first | exact True.intro | rfl | refine EntLe.row ?_ | exact LeN.ro rfl | exact LeN.rptr | assumption) | ((with_reducible first | refine WkX.chk ?_ | refine Wk.chk ?_ | refine LeL.chk ?_ | refine LeF.chk ?_ | refine Run.mk ?_); (conv => whnf)) | ((with_reducible show LeO _ _); first | refine LeO.ro ?_ | refine LeO.roCap ?_ | refine LeO.nil ?_ (fun _ => rfl)) | ((with_reducible show LeR _ _ _); first | refine LeR.own rfl rfl rfl ?_ | refine LeR.view rfl rfl rfl ?_ ?_ | refine LeR.ro ?_ | refine LeR.roCap ?_ | refine LeR.nil ?_ (fun _ => rfl)) | ((with_reducible first | show drawOK _ _ = true | show lateOK _ _ = true | show drawOK2 _ _ = true | show drawOK3 _ _ = true); kernel_rfl))
            all_goals first
              | omega
              | (apply Fits.i64 <;> omega)
              | (show i - (j + 1) < i - j; omega)
              | trace_state
        have hlt : decide ((j : Int) < (i : Int)) = false := decide_eq_false (by omega)
        have hji : j = i := by omega
        subst hji
        have hok : okTo l (sgN s : Nat) (j + 1) = true := by rw [okTo, hj2, hi2 j hil, hk2]; rfl
        repeat' (first | (with_reducible refine ex_of (α := Nat) (j + 1) ⟨⟨?_, hok⟩, ?_⟩ ?_) | (with_reducible first | exact fun h => h | refine ExE.row (by with_unfolding_all rfl) ?_ | refine And.intro ?_ ?_) | ((with_reducible intro hq); first | exact bne1 hq (by with_reducible assumption) | exact bne1 (by with_reducible assumption) hq | ((simp only [*, BB, cond_true, cond_false, reduceCtorEq] at hq); done) | (revert hq; with_reducible intro _)) | (with_reducible first | exact True.intro | rfl | refine EntLe.row ?_ | exact LeN.ro rfl | exact LeN.rptr | assumption) | ((with_reducible first | refine WkX.chk ?_ | refine Wk.chk ?_ | refine LeL.chk ?_ | refine LeF.chk ?_ | refine Run.mk ?_); (conv => whnf)) | ((with_reducible show LeO _ _); first | refine LeO.ro ?_ | refine LeO.roCap ?_ | refine LeO.nil ?_ (fun _ => rfl)) | ((with_reducible show LeR _ _ _); first | refine LeR.own rfl rfl rfl ?_ | refine LeR.view rfl rfl rfl ?_ ?_ | refine LeR.ro ?_ | refine LeR.roCap ?_ | refine LeR.nil ?_ (fun _ => rfl)) | ((with_reducible first | show drawOK _ _ = true | show lateOK _ _ = true | show drawOK2 _ _ = true | show drawOK3 _ _ = true); kernel_rfl))
        all_goals first
          | omega
          | (apply Fits.i64 <;> omega)
          | (show l.length - (j + 1) < l.length - j; omega)
          | trace_state
      have hlt : decide ((i : Int) < (l.length : Int)) = false := decide_eq_false (by omega)
      have hii : i = l.length := by omega
      subst hii
      repeat' (first | (with_reducible first | exact fun h => h | refine ExE.row (by with_unfolding_all rfl) ?_ | refine And.intro ?_ ?_) | ((with_reducible intro hq); first | exact bne1 hq (by with_reducible assumption) | exact bne1 (by with_reducible assumption) hq | ((simp only [*, BB, cond_true, cond_false, reduceCtorEq] at hq); done) | (revert hq; with_reducible intro _)) | (with_reducible first | exact True.intro | rfl | refine EntLe.row ?_ | exact LeN.ro rfl | exact LeN.rptr | assumption) | ((with_reducible first | refine WkX.chk ?_ | refine Wk.chk ?_ | refine LeL.chk ?_ | refine LeF.chk ?_ | refine Run.mk ?_); (conv => whnf)) | ((with_reducible show LeO _ _); first | refine LeO.ro ?_ | refine LeO.roCap ?_ | refine LeO.nil ?_ (fun _ => rfl)) | ((with_reducible show LeR _ _ _); first | refine LeR.own rfl rfl rfl ?_ | refine LeR.view rfl rfl rfl ?_ ?_ | refine LeR.ro ?_ | refine LeR.roCap ?_ | refine LeR.nil ?_ (fun _ => rfl)) | ((with_reducible first | show drawOK _ _ = true | show lateOK _ _ = true | show drawOK2 _ _ = true | show drawOK3 _ _ = true); kernel_rfl))
      all_goals first
        | exact hz2.out hj2
        | trace_state
    · have k2 : decide ((256 : Int) < (l.length : Int)) = true := decide_eq_true (by omega)
      repeat' (first | (with_reducible first | exact fun h => h | refine ExE.row (by with_unfolding_all rfl) ?_ | refine And.intro ?_ ?_) | ((with_reducible intro hq); first | exact bne1 hq (by with_reducible assumption) | exact bne1 (by with_reducible assumption) hq | ((simp only [*, BB, cond_true, cond_false, reduceCtorEq] at hq); done) | (revert hq; with_reducible intro _)) | (with_reducible first | exact True.intro | rfl | refine EntLe.row ?_ | exact LeN.ro rfl | exact LeN.rptr | assumption) | ((with_reducible first | refine WkX.chk ?_ | refine Wk.chk ?_ | refine LeL.chk ?_ | refine LeF.chk ?_ | refine Run.mk ?_); (conv => whnf)) | ((with_reducible show LeO _ _); first | refine LeO.ro ?_ | refine LeO.roCap ?_ | refine LeO.nil ?_ (fun _ => rfl)) | ((with_reducible show LeR _ _ _); first | refine LeR.own rfl rfl rfl ?_ | refine LeR.view rfl rfl rfl ?_ ?_ | refine LeR.ro ?_ | refine LeR.roCap ?_ | refine LeR.nil ?_ (fun _ => rfl)) | ((with_reducible first | show drawOK _ _ = true | show lateOK _ _ = true | show drawOK2 _ _ = true | show drawOK3 _ _ = true); kernel_rfl))
      all_goals first
        | (unfold chkN; rw [if_neg (by omega), if_pos (by omega)]; done)
        | trace_state
  · have k1 : decide ((4096 : Int) < (s.size : Int)) = true := decide_eq_true (by omega)
    repeat' (first | (with_reducible first | exact fun h => h | refine ExE.row (by with_unfolding_all rfl) ?_ | refine And.intro ?_ ?_) | ((with_reducible intro hq); first | exact bne1 hq (by with_reducible assumption) | exact bne1 (by with_reducible assumption) hq | ((simp only [*, BB, cond_true, cond_false, reduceCtorEq] at hq); done) | (revert hq; with_reducible intro _)) | (with_reducible first | exact True.intro | rfl | refine EntLe.row ?_ | exact LeN.ro rfl | exact LeN.rptr | assumption) | ((with_reducible first | refine WkX.chk ?_ | refine Wk.chk ?_ | refine LeL.chk ?_ | refine LeF.chk ?_ | refine Run.mk ?_); (conv => whnf)) | ((with_reducible show LeO _ _); first | refine LeO.ro ?_ | refine LeO.roCap ?_ | refine LeO.nil ?_ (fun _ => rfl)) | ((with_reducible show LeR _ _ _); first | refine LeR.own rfl rfl rfl ?_ | refine LeR.view rfl rfl rfl ?_ ?_ | refine LeR.ro ?_ | refine LeR.roCap ?_ | refine LeR.nil ?_ (fun _ => rfl)) | ((with_reducible first | show drawOK _ _ = true | show lateOK _ _ = true | show drawOK2 _ _ = true | show drawOK3 _ _ = true); kernel_rfl))
    all_goals first
      | (unfold chkN; rw [if_pos (by omega)]; done)
      | trace_state
abbrev txO (s : ByteArray) (l : List Spn) : AV := .agg [.v (.string s), spO l]
end Go.SX.Try
/- Contract of style.looks. -/
namespace Go.SX.Try
open Go.Proofs Go.Proofs.Try Go.SX.Plain
set_option maxRecDepth 100000
set_option maxHeartbeats 0
set_option linter.unusedSimpArgs false
theorem q_sset : fact 83 f83 := ⟨by kernel_rfl, rfl, by kernel_rfl⟩
theorem q_slooks : fact 72 f72 := ⟨by kernel_rfl, rfl, by kernel_rfl⟩
abbrev atAV (x : Atr) : List AV := [.sb x.bold, .sb x.italic, .sb x.under, .sb x.strike, .v (.int .i64 x.colour)]
def C_att : Cdc Atr where
  size := 5
  enc := atAV
  dec l := match l with
    | [a, b, c, d, .v (.int _ e)] => ⟨bOf a, bOf b, bOf c, bOf d, e⟩
    | _ => zA
  d := zA
def D_att : Cds := [(45, ⟨Atr, C_att⟩)]
theorem D_att_ok : CdsOK T D_att := .cons ⟨fun _ => rfl, by decide, _, rfl, rfl, by decide⟩ .nil
abbrev lkO (l : List Atr) : AV := .ro 5 C_att.enc C_att.d l none
abbrev lkR (l : List Atr) : AV := .ro 5 C_att.enc C_att.d l none true
structure OkT (s : ByteArray) (l : List Spn) : Prop where
  size : s.size ≤ 4096
  len : l.length ≤ 256
  spans : spansB l (sgN s : Nat) = true
theorem OkT.of {s : ByteArray} {l : List Spn} (h : chkN s.size l (sgN s : Nat) = 0) : OkT s l := by
  unfold chkN at h
  split at h
  · cases h
  · split at h
    · cases h
    · split at h
      · rename_i h1 h2 h3
        exact ⟨by omega, by omega, h3⟩
      · cases h
theorem setA_1 {x : Spn} (h : (x.kind == 1) = true) (y : Atr) : (⟨true, y.italic, y.under, y.strike, y.colour⟩ : Atr) = setA y x := by
  rw [beq_iff_eq] at h
  unfold setA
  rw [if_pos h]
theorem setA_2 {x : Spn} (h : (x.kind == 2) = true) (y : Atr) : (⟨y.bold, true, y.under, y.strike, y.colour⟩ : Atr) = setA y x := by
  rw [beq_iff_eq] at h
  unfold setA
  rw [if_neg (by omega), if_pos h]
theorem setA_3 {x : Spn} (h : (x.kind == 3) = true) (y : Atr) : (⟨y.bold, y.italic, true, y.strike, y.colour⟩ : Atr) = setA y x := by
  rw [beq_iff_eq] at h
  unfold setA
  rw [if_neg (by omega), if_neg (by omega), if_pos h]
theorem setA_4 {x : Spn} (h : (x.kind == 4) = true) (y : Atr) : (⟨y.bold, y.italic, y.under, true, y.colour⟩ : Atr) = setA y x := by
  rw [beq_iff_eq] at h
  unfold setA
  rw [if_neg (by omega), if_neg (by omega), if_neg (by omega), if_pos h]
theorem setA_5 {x : Spn} (h1 : (x.kind == 1) = false) (h2 : (x.kind == 2) = false) (h3 : (x.kind == 3) = false) (h4 : (x.kind == 4) = false) (y : Atr) : (⟨y.bold, y.italic, y.under, y.strike, x.val + 1⟩ : Atr) = setA y x := by
  rw [beq_eq_false_iff_ne] at h1 h2 h3 h4
  unfold setA
  rw [if_neg h1, if_neg h2, if_neg h3, if_neg h4]
theorem isort_right {l : List Spn} {n : Int} (h : spansB l n = true) {i : Nat} (hi : i < (isort ltO l).length) : rightB ((isort ltO l).getD i zS) n = true := by
  have hm : (isort ltO l).getD i zS ∈ isort ltO l := by
    simp [List.getD_eq_getElem?_getD, hi]
  rcases mem_mrg.1 hm with h1 | h1
  · cases h1
  · exact spans_right h h1
theorem con_slooks : Con prog 72 (fun ((s, l) : ByteArray × List Spn) => [txAV s l]) (fun (s, l) => lkO (looksL (sgN s) l)) (fun (s, l) => OkT s l) := by
  refine Con.of (by kernel_rfl) T_ok D_att_ok (.con con_ucount (.con con_souter (.inl (J := []) q_sset.1 q_sset.2.1 q_sset.2.2 .nil))) 5 [] q_slooks.1 q_slooks.2.1 q_slooks.2.2 (fun _ => rfl) fun i hi => ?_
  obtain ⟨s, l⟩ := i
  obtain ⟨hs, hl, hsp⟩ : OkT s l := hi
  have hn := sgN_le s
  have hd : C_spn.d = zS := rfl
  have hda : C_att.d = zA := rfl
  have hin := (spans_in hsp).isort
  have hLl : (isort ltO l).length = l.length := isort_len l
  repeat' (first | (with_reducible refine ⟨_, ⟨(.cons (.v _) .nil), ?_⟩, ?_⟩) | (with_reducible refine ⟨(s, l), ⟨(.cons (.agg (.cons (.v _) (.cons (.lent _ _ _ _ _ _) .nil))) .nil), ?_⟩, ?_⟩) | (with_reducible first | exact fun h => h | refine ExE.row (by with_unfolding_all rfl) ?_ | refine And.intro ?_ ?_) | ((with_reducible intro hq); first | exact bne1 hq (by with_reducible assumption) | exact bne1 (by with_reducible assumption) hq | ((simp only [*, BB, cond_true, cond_false, reduceCtorEq] at hq); done) | (revert hq; with_reducible intro _)) | (with_reducible first | exact True.intro | rfl | refine EntLe.row ?_ | exact LeN.ro rfl | exact LeN.rptr | assumption) | ((with_reducible first | refine WkX.chk ?_ | refine Wk.chk ?_ | refine LeL.chk ?_ | refine LeF.chk ?_ | refine Run.mk ?_); (conv => whnf)) | ((with_reducible show LeO _ _); first | refine LeO.ro ?_ | refine LeO.roCap ?_ | refine LeO.nil ?_ (fun _ => rfl)) | ((with_reducible show LeR _ _ _); first | refine LeR.own rfl rfl rfl ?_ | refine LeR.view rfl rfl rfl ?_ ?_ | refine LeR.ro ?_ | refine LeR.roCap ?_ | refine LeR.nil ?_ (fun _ => rfl)) | ((with_reducible first | show drawOK _ _ = true | show lateOK _ _ = true | show drawOK2 _ _ = true | show drawOK3 _ _ = true); kernel_rfl))
  all_goals first
    | rfl
    | omega
    | (dsimp only; omega)
    | (show l.length ≤ 1100000; omega)
    | skip
  refine loopI Nat [] (fun i => [(14, .v (.int .i64 (i : Nat)))]) (fun i => [(2, .row C_att (lookTo (sgN s) (isort ltO l) i) 45 none)]) (fun i => i ≤ (isort ltO l).length) (fun i => (isort ltO l).length - i) 0 (Nat.zero_le _) (Wk.chk ?_) fun i hi => ?_
  · ((conv => whnf); repeat' (first | (with_reducible first | exact fun h => h | refine ExE.row (by with_unfolding_all rfl) ?_ | refine And.intro ?_ ?_) | ((with_reducible intro hq); first | exact bne1 hq (by with_reducible assumption) | exact bne1 (by with_reducible assumption) hq | ((simp only [*, BB, cond_true, cond_false, reduceCtorEq] at hq); done) | (revert hq; with_reducible intro _)) | (with_reducible first | exact True.intro | rfl | refine EntLe.row ?_ | exact LeN.ro rfl | exact LeN.rptr | assumption) | ((with_reducible first | refine WkX.chk ?_ | refine Wk.chk ?_ | refine LeL.chk ?_ | refine LeF.chk ?_ | refine Run.mk ?_); (conv => whnf)) | ((with_reducible show LeO _ _); first | refine LeO.ro ?_ | refine LeO.roCap ?_ | refine LeO.nil ?_ (fun _ => rfl)) | ((with_reducible show LeR _ _ _); first | refine LeR.own rfl rfl rfl ?_ | refine LeR.view rfl rfl rfl ?_ ?_ | refine LeR.ro ?_ | refine LeR.roCap ?_ | refine LeR.nil ?_ (fun _ => rfl)) | ((with_reducible first | show drawOK _ _ = true | show lateOK _ _ = true | show drawOK2 _ _ = true | show drawOK3 _ _ = true); kernel_rfl)))
    all_goals first
      | rfl
      | exact EntLe.row rfl
      | trace_state
  have hi : i ≤ (isort ltO l).length := hi
  have e1 : ((i : Int)).toNat = i := Int.toNat_natCast _
  by_cases hil : i < (isort ltO l).length
  · have hlt : decide ((i : Int) < ((isort ltO l).length : Int)) = true := decide_eq_true (by omega)
    have hxb := hin.at hil
    have hxr := right_bd (isort_right hsp hil)
    have hll := lookTo_len hin i hi
    have hsc := lookTo_succ (sgN s) (isort ltO l) hil
    obtain ⟨x, hx⟩ : ∃ x, x = (isort ltO l).getD i zS := ⟨_, rfl⟩
    rw [← hx] at hxb hsc hxr
    have hxx : (isort ltO l).getD ((i : Int)).toNat C_spn.d = x := by rw [e1, hd, hx]
    obtain ⟨P, hP⟩ : ∃ P, P = lookTo (sgN s) (isort ltO l) i := ⟨_, rfl⟩
    rw [← hP] at hll hsc
    obtain ⟨a, ha⟩ := Int.eq_ofNat_of_zero_le hxb.1
    obtain ⟨b, hb⟩ := Int.eq_ofNat_of_zero_le (show 0 ≤ x.to by omega)
    have hab : a < b ∧ b ≤ sgN s := by omega
    have hpnt : pnt P x = pntTo P x a b := by unfold pnt; rw [ha, hb]; rfl
    repeat' (first | (with_reducible first | exact fun h => h | refine ExE.row (by with_unfolding_all rfl) ?_ | refine And.intro ?_ ?_) | ((with_reducible intro hq); first | exact bne1 hq (by with_reducible assumption) | exact bne1 (by with_reducible assumption) hq | ((simp only [*, BB, cond_true, cond_false, reduceCtorEq] at hq); done) | (revert hq; with_reducible intro _)) | (with_reducible first | exact True.intro | rfl | refine EntLe.row ?_ | exact LeN.ro rfl | exact LeN.rptr | assumption) | ((with_reducible first | refine WkX.chk ?_ | refine Wk.chk ?_ | refine LeL.chk ?_ | refine LeF.chk ?_ | refine Run.mk ?_); (conv => whnf)) | ((with_reducible show LeO _ _); first | refine LeO.ro ?_ | refine LeO.roCap ?_ | refine LeO.nil ?_ (fun _ => rfl)) | ((with_reducible show LeR _ _ _); first | refine LeR.own rfl rfl rfl ?_ | refine LeR.view rfl rfl rfl ?_ ?_ | refine LeR.ro ?_ | refine LeR.roCap ?_ | refine LeR.nil ?_ (fun _ => rfl)) | ((with_reducible first | show drawOK _ _ = true | show lateOK _ _ = true | show drawOK2 _ _ = true | show drawOK3 _ _ = true); kernel_rfl))
    any_goals omega
    refine loopI Nat [] (fun k => [(6, .v (.int .i64 (k : Nat)))]) (fun k => [(2, .row C_att (pntTo P x a k) 45 none)]) (fun k => a ≤ k ∧ k ≤ b) (fun k => b - k) a ⟨Nat.le_refl _, by omega⟩ (Wk.chk ?_) fun k hk => ?_
    · ((conv => whnf); repeat' (first | (with_reducible first | exact fun h => h | refine ExE.row (by with_unfolding_all rfl) ?_ | refine And.intro ?_ ?_) | ((with_reducible intro hq); first | exact bne1 hq (by with_reducible assumption) | exact bne1 (by with_reducible assumption) hq | ((simp only [*, BB, cond_true, cond_false, reduceCtorEq] at hq); done) | (revert hq; with_reducible intro _)) | (with_reducible first | exact True.intro | rfl | refine EntLe.row ?_ | exact LeN.ro rfl | exact LeN.rptr | assumption) | ((with_reducible first | refine WkX.chk ?_ | refine Wk.chk ?_ | refine LeL.chk ?_ | refine LeF.chk ?_ | refine Run.mk ?_); (conv => whnf)) | ((with_reducible show LeO _ _); first | refine LeO.ro ?_ | refine LeO.roCap ?_ | refine LeO.nil ?_ (fun _ => rfl)) | ((with_reducible show LeR _ _ _); first | refine LeR.own rfl rfl rfl ?_ | refine LeR.view rfl rfl rfl ?_ ?_ | refine LeR.ro ?_ | refine LeR.roCap ?_ | refine LeR.nil ?_ (fun _ => rfl)) | ((with_reducible first | show drawOK _ _ = true | show lateOK _ _ = true | show drawOK2 _ _ = true | show drawOK3 _ _ = true); kernel_rfl)))
      all_goals first
        | rfl
        | (rw [hxx, ha]; done)
        | (rw [hxx, ha]; rfl)
        | (rw [pnt_start, hP]; done)
        | trace_state
    obtain ⟨hk1, hk2⟩ := hk
    have e2 : ((k : Int)).toNat = k := Int.toNat_natCast _
    have hpl := pnt_len P x hk1 (by omega : k ≤ P.length)
    by_cases hkb : k < b
    · have hlt : decide ((k : Int) < ((isort ltO l).getD ((i : Int)).toNat C_spn.d).to) = true := decide_eq_true (by rw [hxx]; omega)
      have hst := pnt_step P x hk1 (by omega : k < P.length)
      have hat := pnt_at P x hk1 (by omega : k < P.length)
      rw [← hat] at hst
      repeat' (first | (with_reducible refine ex_of (α := Nat) (k + 1) ⟨⟨?_, ?_⟩, ?_⟩ ?_) | (with_reducible first | exact fun h => h | refine ExE.row (by with_unfolding_all rfl) ?_ | refine And.intro ?_ ?_) | ((with_reducible intro hq); first | exact bne1 hq (by with_reducible assumption) | exact bne1 (by with_reducible assumption) hq | ((simp only [*, BB, cond_true, cond_false, reduceCtorEq] at hq); done) | (revert hq; with_reducible intro _)) | (with_reducible first | exact True.intro | rfl | refine EntLe.row ?_ | exact LeN.ro rfl | exact LeN.rptr | assumption) | ((with_reducible first | refine WkX.chk ?_ | refine Wk.chk ?_ | refine LeL.chk ?_ | refine LeF.chk ?_ | refine Run.mk ?_); (conv => whnf)) | ((with_reducible show LeO _ _); first | refine LeO.ro ?_ | refine LeO.roCap ?_ | refine LeO.nil ?_ (fun _ => rfl)) | ((with_reducible show LeR _ _ _); first | refine LeR.own rfl rfl rfl ?_ | refine LeR.view rfl rfl rfl ?_ ?_ | refine LeR.ro ?_ | refine LeR.roCap ?_ | refine LeR.nil ?_ (fun _ => rfl)) | ((with_reducible first | show drawOK _ _ = true | show lateOK _ _ = true | show drawOK2 _ _ = true | show drawOK3 _ _ = true); kernel_rfl))
      all_goals (try simp only [hxx] at *)
      all_goals first
        | omega
        | rfl
        | (apply Fits.i64 <;> omega)
        | (show k < (pntTo P x a k).length; omega)
        | (show b - (k + 1) < b - k; omega)
        | (refine Eq.trans (congrArg ((pntTo P x a k).set k) ?_) hst; first | exact setA_1 (by assumption) _ | exact setA_2 (by assumption) _ | exact setA_3 (by assumption) _ | exact setA_4 (by assumption) _ | exact setA_5 (by assumption) (by assumption) (by assumption) (by assumption) _)
        | trace_state
    have hlt : decide ((k : Int) < ((isort ltO l).getD ((i : Int)).toNat C_spn.d).to) = false := decide_eq_false (by rw [hxx]; omega)
    have hkk : k = b := by omega
    subst hkk
    repeat' (first | (with_reducible refine ex_of (α := Nat) (i + 1) ⟨?_, ?_⟩ ?_) | (with_reducible first | exact fun h => h | refine ExE.row (by with_unfolding_all rfl) ?_ | refine And.intro ?_ ?_) | ((with_reducible intro hq); first | exact bne1 hq (by with_reducible assumption) | exact bne1 (by with_reducible assumption) hq | ((simp only [*, BB, cond_true, cond_false, reduceCtorEq] at hq); done) | (revert hq; with_reducible intro _)) | (with_reducible first | exact True.intro | rfl | refine EntLe.row ?_ | exact LeN.ro rfl | exact LeN.rptr | assumption) | ((with_reducible first | refine WkX.chk ?_ | refine Wk.chk ?_ | refine LeL.chk ?_ | refine LeF.chk ?_ | refine Run.mk ?_); (conv => whnf)) | ((with_reducible show LeO _ _); first | refine LeO.ro ?_ | refine LeO.roCap ?_ | refine LeO.nil ?_ (fun _ => rfl)) | ((with_reducible show LeR _ _ _); first | refine LeR.own rfl rfl rfl ?_ | refine LeR.view rfl rfl rfl ?_ ?_ | refine LeR.ro ?_ | refine LeR.roCap ?_ | refine LeR.nil ?_ (fun _ => rfl)) | ((with_reducible first | show drawOK _ _ = true | show lateOK _ _ = true | show drawOK2 _ _ = true | show drawOK3 _ _ = true); kernel_rfl))
    all_goals first
      | omega
      | (apply Fits.i64 <;> omega)
      | (show (isort ltO l).length - (i + 1) < (isort ltO l).length - i; omega)
      | (rw [hsc, hpnt]; done)
      | trace_state
  have hlt : decide ((i : Int) < ((isort ltO l).length : Int)) = false := decide_eq_false (by omega)
  have hii : i = (isort ltO l).length := by omega
  subst hii
  repeat' (first | (with_reducible first | exact fun h => h | refine ExE.row (by with_unfolding_all rfl) ?_ | refine And.intro ?_ ?_) | ((with_reducible intro hq); first | exact bne1 hq (by with_reducible assumption) | exact bne1 (by with_reducible assumption) hq | ((simp only [*, BB, cond_true, cond_false, reduceCtorEq] at hq); done) | (revert hq; with_reducible intro _)) | (with_reducible first | exact True.intro | rfl | refine EntLe.row ?_ | exact LeN.ro rfl | exact LeN.rptr | assumption) | ((with_reducible first | refine WkX.chk ?_ | refine Wk.chk ?_ | refine LeL.chk ?_ | refine LeF.chk ?_ | refine Run.mk ?_); (conv => whnf)) | ((with_reducible show LeO _ _); first | refine LeO.ro ?_ | refine LeO.roCap ?_ | refine LeO.nil ?_ (fun _ => rfl)) | ((with_reducible show LeR _ _ _); first | refine LeR.own rfl rfl rfl ?_ | refine LeR.view rfl rfl rfl ?_ ?_ | refine LeR.ro ?_ | refine LeR.roCap ?_ | refine LeR.nil ?_ (fun _ => rfl)) | ((with_reducible first | show drawOK _ _ = true | show lateOK _ _ = true | show drawOK2 _ _ = true | show drawOK3 _ _ = true); kernel_rfl))
  all_goals first
    | rfl
    | trace_state
end Go.SX.Try
/- Chapter 7, told plainly: runs. No program here. -/
namespace Go.SX.Plain
structure Rn where
  frm : Int
  to : Int
  at' : Atr
  deriving DecidableEq
abbrev zRn : Rn := ⟨0, 0, zA⟩
def rnNext (o : List Rn) (i : Nat) (a : Atr) : List Rn :=
  if 0 < o.length ∧ (o.getD (o.length - 1) zRn).at' = a then o.set (o.length - 1) ⟨(o.getD (o.length - 1) zRn).frm, (i : Int) + 1, (o.getD (o.length - 1) zRn).at'⟩ else o ++ [⟨i, (i : Int) + 1, a⟩]
def runsTo (l : List Atr) : Nat → List Rn
  | 0 => []
  | i + 1 => rnNext (runsTo l i) i (l.getD i zA)
def runsL (l : List Atr) : List Rn := runsTo l l.length
theorem runsTo_len (l : List Atr) : ∀ i, (runsTo l i).length ≤ i
  | 0 => Nat.le_refl _
  | i + 1 => by
    have := runsTo_len l i
    rw [runsTo, rnNext]
    split
    · rw [List.length_set]; omega
    · rw [List.length_append]; simp; omega
end Go.SX.Plain
namespace Go.SX.Plain
def atEqB (x y : Atr) : Bool := x.bold == y.bold && (x.italic == y.italic && (x.under == y.under && (x.strike == y.strike && x.colour == y.colour)))
theorem atEqB_eq (x y : Atr) : atEqB x y = decide (x = y) := by
  obtain ⟨a, b, c, d, e⟩ := x
  obtain ⟨a', b', c', d', e'⟩ := y
  rw [Bool.eq_iff_iff]
  simp only [atEqB, Bool.and_eq_true, beq_iff_eq, decide_eq_true_eq, Atr.mk.injEq]
theorem rn_same {l : List Atr} {i : Nat} (h : 0 < (runsTo l i).length) (he : ((runsTo l i).getD ((runsTo l i).length - 1) zRn).at' = l.getD i zA) :
    (runsTo l i).set ((runsTo l i).length - 1) ⟨((runsTo l i).getD ((runsTo l i).length - 1) zRn).frm, (i : Int) + 1, ((runsTo l i).getD ((runsTo l i).length - 1) zRn).at'⟩ = runsTo l (i + 1) := by
  rw [runsTo, rnNext, if_pos ⟨h, he⟩]
theorem rn_more {l : List Atr} {i : Nat} (he : ¬ (0 < (runsTo l i).length ∧ ((runsTo l i).getD ((runsTo l i).length - 1) zRn).at' = l.getD i zA)) :
    runsTo l i ++ [⟨i, (i : Int) + 1, l.getD i zA⟩] = runsTo l (i + 1) := by
  rw [runsTo, rnNext, if_neg he]
end Go.SX.Plain
namespace Go.SX.Plain
def InAt (l : List Spn) (j : Int) (o : Option Spn) : Prop := (j = -1 ∧ o = none) ∨ (0 ≤ j ∧ j < l.length ∧ o = some (l.getD j.toNat zS))
theorem InAt.no {l : List Spn} {j : Int} {a : Atr} {o : Option Spn} {x : Spn} (h : InAt l j o) (h0 : ¬ j < 0) (hw : withinB x (l.getD j.toNat zS) = false) : colS a o x = (a, o) := by
  rcases h with ⟨h1, _⟩ | ⟨h1, h2, rfl⟩
  · omega
  · show (if _ then _ else _) = _
    rw [if_neg (by rw [hw]; decide)]
end Go.SX.Plain
/- Contracts of runs, of both; style.Runs. -/
namespace Go.SX.Try
open Go.Proofs Go.Proofs.Try Go.SX.Plain
set_option maxRecDepth 100000
set_option maxHeartbeats 0
set_option linter.unusedSimpArgs false
theorem q_sruns : fact 75 f75 := ⟨by kernel_rfl, rfl, by kernel_rfl⟩
theorem q_sRuns : fact 33 f33 := ⟨by kernel_rfl, rfl, by kernel_rfl⟩
abbrev rnAV (x : Rn) : List AV := [.v (.int .i64 x.frm), .v (.int .i64 x.to), .sb x.at'.bold, .sb x.at'.italic, .sb x.at'.under, .sb x.at'.strike, .v (.int .i64 x.at'.colour)]
def C_rn : Cdc Rn where
  size := 7
  enc := rnAV
  dec l := match l with
    | [.v (.int _ f), .v (.int _ t), a, b, c, d, .v (.int _ e)] => ⟨f, t, ⟨bOf a, bOf b, bOf c, bOf d, e⟩⟩
    | _ => zRn
  d := zRn
def D_rn : Cds := [(76, ⟨Rn, C_rn⟩)]
theorem D_rn_ok : CdsOK T D_rn := .cons ⟨fun _ => rfl, by decide, _, rfl, rfl, by decide⟩ .nil
abbrev rnO (l : List Rn) : AV := .ro 7 C_rn.enc C_rn.d l none
abbrev rnR (l : List Rn) : AV := .ro 7 C_rn.enc C_rn.d l none true
theorem con_sruns : Con prog 75 (fun l : List Atr => [lkR l]) (fun l => rnO (runsL l)) (fun l => l.length ≤ 1100000) := by
  refine Con.of (by kernel_rfl) T_ok D_rn_ok .nil 5 [] q_sruns.1 q_sruns.2.1 q_sruns.2.2 (fun _ => rfl) fun l hl => ?_
  have hl : l.length ≤ 1100000 := hl
  have hd : C_rn.d = zRn := rfl
  have hda : C_att.d = zA := rfl
  repeat' (first | (with_reducible first | exact fun h => h | refine ExE.row (by with_unfolding_all rfl) ?_ | refine And.intro ?_ ?_) | ((with_reducible intro hq); first | exact bne1 hq (by with_reducible assumption) | exact bne1 (by with_reducible assumption) hq | ((simp only [*, BB, cond_true, cond_false, reduceCtorEq] at hq); done) | (revert hq; with_reducible intro _)) | (with_reducible first | exact True.intro | rfl | refine EntLe.row ?_ | exact LeN.ro rfl | exact LeN.rptr | assumption) | ((with_reducible first | refine WkX.chk ?_ | refine Wk.chk ?_ | refine LeL.chk ?_ | refine LeF.chk ?_ | refine Run.mk ?_); (conv => whnf)) | ((with_reducible show LeO _ _); first | refine LeO.ro ?_ | refine LeO.roCap ?_ | refine LeO.nil ?_ (fun _ => rfl)) | ((with_reducible show LeR _ _ _); first | refine LeR.own rfl rfl rfl ?_ | refine LeR.view rfl rfl rfl ?_ ?_ | refine LeR.ro ?_ | refine LeR.roCap ?_ | refine LeR.nil ?_ (fun _ => rfl)) | ((with_reducible first | show drawOK _ _ = true | show lateOK _ _ = true | show drawOK2 _ _ = true | show drawOK3 _ _ = true); kernel_rfl))
  refine loopI Nat [] (fun i => [(9, .v (.int .i64 (i : Nat))), (3, .own 1)]) (fun i => [(1, .row C_rn (runsTo l i) 76 none)]) (fun i => i ≤ l.length) (fun i => l.length - i) 0 (Nat.zero_le _) (Wk.chk ?_) fun i hi => ?_
  · ((conv => whnf); repeat' (first | (with_reducible first | exact fun h => h | refine ExE.row (by with_unfolding_all rfl) ?_ | refine And.intro ?_ ?_) | ((with_reducible intro hq); first | exact bne1 hq (by with_reducible assumption) | exact bne1 (by with_reducible assumption) hq | ((simp only [*, BB, cond_true, cond_false, reduceCtorEq] at hq); done) | (revert hq; with_reducible intro _)) | (with_reducible first | exact True.intro | rfl | refine EntLe.row ?_ | exact LeN.ro rfl | exact LeN.rptr | assumption) | ((with_reducible first | refine WkX.chk ?_ | refine Wk.chk ?_ | refine LeL.chk ?_ | refine LeF.chk ?_ | refine Run.mk ?_); (conv => whnf)) | ((with_reducible show LeO _ _); first | refine LeO.ro ?_ | refine LeO.roCap ?_ | refine LeO.nil ?_ (fun _ => rfl)) | ((with_reducible show LeR _ _ _); first | refine LeR.own rfl rfl rfl ?_ | refine LeR.view rfl rfl rfl ?_ ?_ | refine LeR.ro ?_ | refine LeR.roCap ?_ | refine LeR.nil ?_ (fun _ => rfl)) | ((with_reducible first | show drawOK _ _ = true | show lateOK _ _ = true | show drawOK2 _ _ = true | show drawOK3 _ _ = true); kernel_rfl)))
    all_goals rfl
  have hi : i ≤ l.length := hi
  have e1 : ((i : Int)).toNat = i := Int.toNat_natCast _
  have hrl := runsTo_len l i
  by_cases hil : i < l.length
  · have hlt : decide ((i : Int) < (l.length : Int)) = true := decide_eq_true (by omega)
    have e2 : (((runsTo l i).length : Int) - 1).toNat = (runsTo l i).length - 1 := by omega
    by_cases h0 : 0 < (runsTo l i).length
    · have k0 : decide ((0 : Int) < ((runsTo l i).length : Int)) = true := decide_eq_true (by omega)
      have kc : (decide ((0 : Int) < ((runsTo l i).length : Int)) && (((runsTo l i).getD (((runsTo l i).length : Int) - 1).toNat C_rn.d).at'.bold == (l.getD ((i : Int)).toNat C_att.d).bold && (((runsTo l i).getD (((runsTo l i).length : Int) - 1).toNat C_rn.d).at'.italic == (l.getD ((i : Int)).toNat C_att.d).italic && (((runsTo l i).getD (((runsTo l i).length : Int) - 1).toNat C_rn.d).at'.under == (l.getD ((i : Int)).toNat C_att.d).under && (((runsTo l i).getD (((runsTo l i).length : Int) - 1).toNat C_rn.d).at'.strike == (l.getD ((i : Int)).toNat C_att.d).strike && ((runsTo l i).getD (((runsTo l i).length : Int) - 1).toNat C_rn.d).at'.colour == (l.getD ((i : Int)).toNat C_att.d).colour))))) = decide (((runsTo l i).getD ((runsTo l i).length - 1) zRn).at' = l.getD i zA) := by
        rw [k0, e1, e2, hd, hda]
        exact atEqB_eq _ _
      by_cases he : ((runsTo l i).getD ((runsTo l i).length - 1) zRn).at' = l.getD i zA
      · rw [decide_eq_true he] at kc
        have hst := rn_same h0 he
        repeat' (first | (with_reducible refine ex_of (α := Nat) (i + 1) ⟨?_, ?_⟩ ?_) | (with_reducible first | exact fun h => h | refine ExE.row (by with_unfolding_all rfl) ?_ | refine And.intro ?_ ?_) | ((with_reducible intro hq); first | exact bne1 hq (by with_reducible assumption) | exact bne1 (by with_reducible assumption) hq | ((simp only [*, BB, cond_true, cond_false, reduceCtorEq] at hq); done) | (revert hq; with_reducible intro _)) | (with_reducible first | exact True.intro | rfl | refine EntLe.row ?_ | exact LeN.ro rfl | exact LeN.rptr | assumption) | ((with_reducible first | refine WkX.chk ?_ | refine Wk.chk ?_ | refine LeL.chk ?_ | refine LeF.chk ?_ | refine Run.mk ?_); (conv => whnf)) | ((with_reducible show LeO _ _); first | refine LeO.ro ?_ | refine LeO.roCap ?_ | refine LeO.nil ?_ (fun _ => rfl)) | ((with_reducible show LeR _ _ _); first | refine LeR.own rfl rfl rfl ?_ | refine LeR.view rfl rfl rfl ?_ ?_ | refine LeR.ro ?_ | refine LeR.roCap ?_ | refine LeR.nil ?_ (fun _ => rfl)) | ((with_reducible first | show drawOK _ _ = true | show lateOK _ _ = true | show drawOK2 _ _ = true | show drawOK3 _ _ = true); kernel_rfl))
        all_goals first
        | omega
        | rfl
        | (apply Fits.i64 <;> omega)
        | (show l.length - (i + 1) < l.length - i; omega)
        | exact hst
        | (refine Eq.trans ?_ hst; rfl)
        | (refine Eq.trans ?_ hst; rw [e2]; rfl)
        | (show ((runsTo l i).length + 1) * 32 ≤ 140737488355328; omega)
        | trace_state

      · rw [decide_eq_false he] at kc
        have hst := rn_more (l := l) (i := i) (fun h => he h.2)
        repeat' (first | (with_reducible refine ex_of (α := Nat) (i + 1) ⟨?_, ?_⟩ ?_) | (with_reducible first | exact fun h => h | refine ExE.row (by with_unfolding_all rfl) ?_ | refine And.intro ?_ ?_) | ((with_reducible intro hq); first | exact bne1 hq (by with_reducible assumption) | exact bne1 (by with_reducible assumption) hq | ((simp only [*, BB, cond_true, cond_false, reduceCtorEq] at hq); done) | (revert hq; with_reducible intro _)) | (with_reducible first | exact True.intro | rfl | refine EntLe.row ?_ | exact LeN.ro rfl | exact LeN.rptr | assumption) | ((with_reducible first | refine WkX.chk ?_ | refine Wk.chk ?_ | refine LeL.chk ?_ | refine LeF.chk ?_ | refine Run.mk ?_); (conv => whnf)) | ((with_reducible show LeO _ _); first | refine LeO.ro ?_ | refine LeO.roCap ?_ | refine LeO.nil ?_ (fun _ => rfl)) | ((with_reducible show LeR _ _ _); first | refine LeR.own rfl rfl rfl ?_ | refine LeR.view rfl rfl rfl ?_ ?_ | refine LeR.ro ?_ | refine LeR.roCap ?_ | refine LeR.nil ?_ (fun _ => rfl)) | ((with_reducible first | show drawOK _ _ = true | show lateOK _ _ = true | show drawOK2 _ _ = true | show drawOK3 _ _ = true); kernel_rfl))
        all_goals first
        | omega
        | rfl
        | (apply Fits.i64 <;> omega)
        | (show l.length - (i + 1) < l.length - i; omega)
        | exact hst
        | (refine Eq.trans ?_ hst; rfl)
        | (refine Eq.trans ?_ hst; rw [e2]; rfl)
        | (show ((runsTo l i).length + 1) * 32 ≤ 140737488355328; omega)
        | trace_state

    · have k0 : decide ((0 : Int) < ((runsTo l i).length : Int)) = false := decide_eq_false (by omega)
      have hst := rn_more (l := l) (i := i) (fun h => h0 h.1)
      repeat' (first | (with_reducible refine ex_of (α := Nat) (i + 1) ⟨?_, ?_⟩ ?_) | (with_reducible first | exact fun h => h | refine ExE.row (by with_unfolding_all rfl) ?_ | refine And.intro ?_ ?_) | ((with_reducible intro hq); first | exact bne1 hq (by with_reducible assumption) | exact bne1 (by with_reducible assumption) hq | ((simp only [*, BB, cond_true, cond_false, reduceCtorEq] at hq); done) | (revert hq; with_reducible intro _)) | (with_reducible first | exact True.intro | rfl | refine EntLe.row ?_ | exact LeN.ro rfl | exact LeN.rptr | assumption) | ((with_reducible first | refine WkX.chk ?_ | refine Wk.chk ?_ | refine LeL.chk ?_ | refine LeF.chk ?_ | refine Run.mk ?_); (conv => whnf)) | ((with_reducible show LeO _ _); first | refine LeO.ro ?_ | refine LeO.roCap ?_ | refine LeO.nil ?_ (fun _ => rfl)) | ((with_reducible show LeR _ _ _); first | refine LeR.own rfl rfl rfl ?_ | refine LeR.view rfl rfl rfl ?_ ?_ | refine LeR.ro ?_ | refine LeR.roCap ?_ | refine LeR.nil ?_ (fun _ => rfl)) | ((with_reducible first | show drawOK _ _ = true | show lateOK _ _ = true | show drawOK2 _ _ = true | show drawOK3 _ _ = true); kernel_rfl))
      all_goals first
      | omega
      | rfl
      | (apply Fits.i64 <;> omega)
      | (show l.length - (i + 1) < l.length - i; omega)
      | exact hst
      | (refine Eq.trans ?_ hst; rfl)
      | (refine Eq.trans ?_ hst; rw [e2]; rfl)
      | (show ((runsTo l i).length + 1) * 32 ≤ 140737488355328; omega)
      | trace_state

  have hlt : decide ((i : Int) < (l.length : Int)) = false := decide_eq_false (by omega)
  have hii : i = l.length := by omega
  subst hii
  repeat' (first | (with_reducible first | exact fun h => h | refine ExE.row (by with_unfolding_all rfl) ?_ | refine And.intro ?_ ?_) | ((with_reducible intro hq); first | exact bne1 hq (by with_reducible assumption) | exact bne1 (by with_reducible assumption) hq | ((simp only [*, BB, cond_true, cond_false, reduceCtorEq] at hq); done) | (revert hq; with_reducible intro _)) | (with_reducible first | exact True.intro | rfl | refine EntLe.row ?_ | exact LeN.ro rfl | exact LeN.rptr | assumption) | ((with_reducible first | refine WkX.chk ?_ | refine Wk.chk ?_ | refine LeL.chk ?_ | refine LeF.chk ?_ | refine Run.mk ?_); (conv => whnf)) | ((with_reducible show LeO _ _); first | refine LeO.ro ?_ | refine LeO.roCap ?_ | refine LeO.nil ?_ (fun _ => rfl)) | ((with_reducible show LeR _ _ _); first | refine LeR.own rfl rfl rfl ?_ | refine LeR.view rfl rfl rfl ?_ ?_ | refine LeR.ro ?_ | refine LeR.roCap ?_ | refine LeR.nil ?_ (fun _ => rfl)) | ((with_reducible first | show drawOK _ _ = true | show lateOK _ _ = true | show drawOK2 _ _ = true | show drawOK3 _ _ = true); kernel_rfl))
  all_goals first
    | rfl
    | trace_state
end Go.SX.Try
/- Contracts of the document's looks. -/
namespace Go.SX.Try
open Go.Proofs Go.Proofs.Try Go.SX.Plain
set_option maxRecDepth 100000
set_option maxHeartbeats 0
set_option linter.unusedSimpArgs false
end Go.SX.Try
/- Contracts of the document's runs, All, Runs, Look; style's Runs, Look. -/
namespace Go.SX.Try
open Go.Proofs Go.Proofs.Try Go.SX.Plain
set_option maxRecDepth 100000
set_option maxHeartbeats 0
set_option linter.unusedSimpArgs false
def runsA (s : ByteArray) (l : List Spn) : List Rn := if chkN s.size l (sgN s : Nat) = 0 then runsL (looksL (sgN s) l) else []
theorem con_sRuns : Con prog 33 (fun ((s, l) : ByteArray × List Spn) => [txAV s l]) (fun (s, l) => .tup [rnO (runsA s l), .v (.int .i64 (chkN s.size l (sgN s : Nat)))]) (fun _ => True) := by
  refine Con.of (by kernel_rfl) T_ok CdsOK.nil (.con con_scheck (.con con_slooks (.con con_sruns .nil))) 5 [] q_sRuns.1 q_sRuns.2.1 q_sRuns.2.2 (fun _ => rfl) fun i hi => ?_
  obtain ⟨s, l⟩ := i
  by_cases hc : chkN s.size l (sgN s : Nat) = 0
  · have k1 : (chkN s.size l (sgN s : Nat) != 0) = false := by rw [hc]; rfl
    have hok := OkT.of hc
    have hr : runsA s l = runsL (looksL (sgN s) l) := if_pos hc
    have hlen := looksL_len hok.spans
    have hn := sgN_le s
    have hs := hok.size
    repeat' (first | (with_reducible refine ⟨(s, l), ⟨(.cons (.agg (.cons (.v _) (.cons (.lent _ _ _ _ _ _) .nil))) .nil), ?_⟩, ?_⟩) | (with_reducible refine ⟨_, ⟨(.cons (.lent _ _ _ _ _ _) .nil), ?_⟩, ?_⟩) | (with_reducible first | exact fun h => h | refine ExE.row (by with_unfolding_all rfl) ?_ | refine And.intro ?_ ?_) | ((with_reducible intro hq); first | exact bne1 hq (by with_reducible assumption) | exact bne1 (by with_reducible assumption) hq | ((simp only [*, BB, cond_true, cond_false, reduceCtorEq] at hq); done) | (revert hq; with_reducible intro _)) | (with_reducible first | exact True.intro | rfl | refine EntLe.row ?_ | exact LeN.ro rfl | exact LeN.rptr | assumption) | ((with_reducible first | refine WkX.chk ?_ | refine Wk.chk ?_ | refine LeL.chk ?_ | refine LeF.chk ?_ | refine Run.mk ?_); (conv => whnf)) | ((with_reducible show LeO _ _); first | refine LeO.ro ?_ | refine LeO.roCap ?_ | refine LeO.nil ?_ (fun _ => rfl)) | ((with_reducible show LeR _ _ _); first | refine LeR.own rfl rfl rfl ?_ | refine LeR.view rfl rfl rfl ?_ ?_ | refine LeR.ro ?_ | refine LeR.roCap ?_ | refine LeR.nil ?_ (fun _ => rfl)) | ((with_reducible first | show drawOK _ _ = true | show lateOK _ _ = true | show drawOK2 _ _ = true | show drawOK3 _ _ = true); kernel_rfl))
    all_goals first
      | exact hok
      | exact hr.symm
      | exact hc.symm
      | (dsimp only; omega)
      | trace_state
  · have k1 : (chkN s.size l (sgN s : Nat) != 0) = true := by simpa using hc
    have hr : runsA s l = [] := if_neg hc
    repeat' (first | (with_reducible refine ⟨(s, l), ⟨(.cons (.agg (.cons (.v _) (.cons (.lent _ _ _ _ _ _) .nil))) .nil), ?_⟩, ?_⟩) | (with_reducible refine ⟨_, ⟨(.cons (.lent _ _ _ _ _ _) .nil), ?_⟩, ?_⟩) | (with_reducible first | exact fun h => h | refine ExE.row (by with_unfolding_all rfl) ?_ | refine And.intro ?_ ?_) | ((with_reducible intro hq); first | exact bne1 hq (by with_reducible assumption) | exact bne1 (by with_reducible assumption) hq | ((simp only [*, BB, cond_true, cond_false, reduceCtorEq] at hq); done) | (revert hq; with_reducible intro _)) | (with_reducible first | exact True.intro | rfl | refine EntLe.row ?_ | exact LeN.ro rfl | exact LeN.rptr | assumption) | ((with_reducible first | refine WkX.chk ?_ | refine Wk.chk ?_ | refine LeL.chk ?_ | refine LeF.chk ?_ | refine Run.mk ?_); (conv => whnf)) | ((with_reducible show LeO _ _); first | refine LeO.ro ?_ | refine LeO.roCap ?_ | refine LeO.nil ?_ (fun _ => rfl)) | ((with_reducible show LeR _ _ _); first | refine LeR.own rfl rfl rfl ?_ | refine LeR.view rfl rfl rfl ?_ ?_ | refine LeR.ro ?_ | refine LeR.roCap ?_ | refine LeR.nil ?_ (fun _ => rfl)) | ((with_reducible first | show drawOK _ _ = true | show lateOK _ _ = true | show drawOK2 _ _ = true | show drawOK3 _ _ = true); kernel_rfl))
    all_goals first
      | exact hr.symm
      | trace_state
end Go.SX.Try
/- Signs of two texts behind one another: where they melt; how long signs are. No program here. -/
namespace Go.SX.Plain
theorem app_size (a b : ByteArray) : (a ++ b).size = a.size + b.size := ByteArray.size_append
theorem app_extract_l (a b : ByteArray) (p : Nat) : (a ++ b).extract p a.size = a.extract p a.size := by
  apply ByteArray.ext
  rw [ByteArray.data_extract, ByteArray.data_extract, ByteArray.data_append]
  apply Array.ext'
  simp [Array.toList_extract]
theorem app_extract_r (a b : ByteArray) (q : Nat) : (a ++ b).extract (a.size + q) (a ++ b).size = b.extract q b.size := by
  apply ByteArray.ext
  rw [ByteArray.data_extract, ByteArray.data_extract, ByteArray.data_append, app_size]
  apply Array.ext'
  have : a.data.size = a.size := rfl
  simp [Array.toList_extract]
theorem dec_l {a b : ByteArray} {p : Nat} (hp : p < a.size) (hw : p + (Utf8.decode (a ++ b) p).2 ≤ a.size) : Utf8.decode (a ++ b) p = Utf8.decode a p := by
  have h1 := decode_extract (s := a ++ b) (p := p) (e := a.size) hp (by rw [app_size]; omega) hw
  have h2 := decode_extract (s := a) (p := p) (e := a.size) hp (Nat.le_refl _) (width_le hp)
  rw [app_extract_l] at h1
  rw [← h1, h2]
theorem dec_r {a b : ByteArray} {q : Nat} (hq : q < b.size) : Utf8.decode (a ++ b) (a.size + q) = Utf8.decode b q := by
  have hlt : a.size + q < (a ++ b).size := by rw [app_size]; omega
  have h1 := decode_extract (s := a ++ b) (p := a.size + q) (e := (a ++ b).size) hlt (Nat.le_refl _) (width_le hlt)
  have h2 := decode_extract (s := b) (p := q) (e := b.size) hq (Nat.le_refl _) (width_le hq)
  rw [app_extract_r] at h1
  rw [← h1, h2]
def overB (a b : ByteArray) (p : Nat) : Bool := decide (p < a.size) && decide (a.size < p + (Utf8.decode (a ++ b) p).2)
def meltFrom (a b : ByteArray) (pos : Nat) : Bool := (signsFrom (a ++ b) pos).any fun p => overB a b p.1
def meltB (a b : ByteArray) : Bool := meltFrom a b 0
theorem melt_step {a b : ByteArray} {pos : Nat} (h : pos < (a ++ b).size) : meltFrom a b pos = (overB a b pos || meltFrom a b (pos + (Utf8.decode (a ++ b) pos).2)) := by
  unfold meltFrom
  rw [signsFrom_step h, List.any_cons]
theorem melt_end {a b : ByteArray} {pos : Nat} (h : ¬ pos < (a ++ b).size) : meltFrom a b pos = false := by
  unfold meltFrom
  rw [signsFrom_end h]
  rfl
def shf (n : Nat) (x : Sgn) : Sgn := ⟨x.at + n, x.len, x.rune, x.bad⟩
def sgnsF (s : ByteArray) (pos : Nat) : List Sgn := (signsFrom s pos).map fun p => sgnAt s p.1
theorem sgnsF_step {s : ByteArray} {pos : Nat} (h : pos < s.size) : sgnsF s pos = sgnAt s pos :: sgnsF s (pos + (Utf8.decode s pos).2) := by
  unfold sgnsF
  rw [signsFrom_step h, List.map_cons]
theorem sgnsF_end {s : ByteArray} {pos : Nat} (h : ¬ pos < s.size) : sgnsF s pos = [] := by
  unfold sgnsF
  rw [signsFrom_end h]
  rfl
theorem sgnsF_r (a b : ByteArray) : ∀ (k q : Nat), b.size - q ≤ k → sgnsF (a ++ b) (a.size + q) = (sgnsF b q).map (shf a.size)
  | 0, q, h => by rw [sgnsF_end (by rw [app_size]; omega), sgnsF_end (by omega)]; rfl
  | k + 1, q, h => by
    by_cases hq : q < b.size
    · have hd := dec_r (a := a) hq
      have hw := width_pos b q
      rw [sgnsF_step (by rw [app_size]; omega), sgnsF_step hq, List.map_cons, hd, Nat.add_assoc, sgnsF_r a b k _ (by omega)]
      congr 1
      simp only [sgnAt, shf, hd, Sgn.mk.injEq, and_true]
      omega
    · rw [sgnsF_end (by rw [app_size]; omega), sgnsF_end hq]; rfl
theorem sgnsF_l (a b : ByteArray) : ∀ (k pos : Nat), a.size - pos ≤ k → pos ≤ a.size → meltFrom a b pos = false → sgnsF (a ++ b) pos = sgnsF a pos ++ (sgnsF b 0).map (shf a.size)
  | 0, pos, h, hp, _ => by
    obtain rfl : pos = a.size := by omega
    rw [sgnsF_end (s := a) (by omega), List.nil_append]
    exact sgnsF_r a b b.size 0 (by omega)
  | k + 1, pos, h, hp, hm => by
    by_cases hlt : pos < a.size
    · rw [melt_step (by rw [app_size]; omega), Bool.or_eq_false_iff] at hm
      obtain ⟨h1, h2⟩ := hm
      have hw := width_pos (a ++ b) pos
      have hle : pos + (Utf8.decode (a ++ b) pos).2 ≤ a.size := by
        unfold overB at h1
        rw [decide_eq_true hlt, Bool.true_and, decide_eq_false_iff_not] at h1
        omega
      have hd := dec_l hlt hle
      rw [sgnsF_step (by rw [app_size]; omega), sgnsF_step hlt, List.cons_append]
      rw [sgnsF_l a b k _ (by omega) hle h2, hd]
      congr 1
      simp only [sgnAt, hd]
    · obtain rfl : pos = a.size := by omega
      rw [sgnsF_end (s := a) (by omega), List.nil_append]
      exact sgnsF_r a b b.size 0 (by omega)
theorem sgnsF_at {s : ByteArray} : ∀ (k pos : Nat), s.size - pos ≤ k → ∀ x ∈ sgnsF s pos, ∃ p, p < s.size ∧ x = sgnAt s p
  | 0, pos, h, x, hx => by rw [sgnsF_end (by omega)] at hx; cases hx
  | k + 1, pos, h, x, hx => by
    by_cases hp : pos < s.size
    · rw [sgnsF_step hp] at hx
      rcases List.mem_cons.1 hx with rfl | hx
      · exact ⟨pos, hp, rfl⟩
      · have := width_pos s pos
        exact sgnsF_at k _ (by omega) x hx
    · rw [sgnsF_end hp] at hx; cases hx
theorem melt_mem {a b : ByteArray} : ∀ (k pos : Nat), (a ++ b).size - pos ≤ k → meltFrom a b pos = true → ∃ p, sgnAt (a ++ b) p ∈ sgnsF (a ++ b) pos ∧ overB a b p = true
  | 0, pos, h, hm => by rw [melt_end (by omega)] at hm; cases hm
  | k + 1, pos, h, hm => by
    by_cases hp : pos < (a ++ b).size
    · rw [melt_step hp, Bool.or_eq_true] at hm
      rw [sgnsF_step hp]
      rcases hm with h1 | h1
      · exact ⟨pos, List.mem_cons_self .., h1⟩
      · have := width_pos (a ++ b) pos
        obtain ⟨p, h2, h3⟩ := melt_mem k _ (by omega) h1
        exact ⟨p, List.mem_cons_of_mem _ h2, h3⟩
    · rw [melt_end hp] at hm; cases hm
theorem melt_iff (a b : ByteArray) : meltB a b = false ↔ sgns (a ++ b) = sgns a ++ (sgns b).map (shf a.size) := by
  constructor
  · exact fun h => sgnsF_l a b a.size 0 (by omega) (by omega) h
  · intro h
    cases hm : meltB a b with
    | false => rfl
    | true =>
      exfalso
      obtain ⟨p, h1, h2⟩ := melt_mem (a ++ b).size 0 (by omega) hm
      have h1 : sgnAt (a ++ b) p ∈ sgns (a ++ b) := h1
      unfold overB at h2
      rw [Bool.and_eq_true, decide_eq_true_eq, decide_eq_true_eq] at h2
      rw [h] at h1
      rcases List.mem_append.1 h1 with h3 | h3
      · obtain ⟨q, h4, h5⟩ := sgnsF_at (s := a) a.size 0 (by omega) _ h3
        have hat : ((p : Nat) : Int) = q := congrArg Sgn.at h5
        have hlen : (((Utf8.decode (a ++ b) p).2 : Nat) : Int) = (Utf8.decode a q).2 := congrArg Sgn.len h5
        have := width_le h4
        omega
      · obtain ⟨x, hx, hx2⟩ := List.mem_map.1 h3
        obtain ⟨q, h4, rfl⟩ := sgnsF_at (s := b) b.size 0 (by omega) _ hx
        have hat : ((q : Nat) : Int) + a.size = p := congrArg Sgn.at hx2
        omega
def runeLenI (r : Int) : Int := if r < 0 then -1 else if r ≤ 127 then 1 else if r ≤ 2047 then 2 else if 55296 ≤ r ∧ r ≤ 57343 then -1 else if r ≤ 65535 then 3 else if r ≤ 1114111 then 4 else -1
theorem dec_len (s : ByteArray) (i : Nat) : Utf8.decode s i = (65533, 1) ∨ (runeLenI ((Utf8.decode s i).1 : Nat) = ((Utf8.decode s i).2 : Nat) ∧ (((Utf8.decode s i).1 : Nat) : Int) ≤ 1114111) := by
  rcases longI_cases (bt s i) with h | h | h
  · exact .inl (dec_0 h)
  · right
    have hb := bt_bd s i
    have h0 : bt s i < 128 := by
      unfold longI at h
      repeat' split at h
      all_goals omega
    rw [dec_1 h]
    simp only
    rw [Int.toNat_of_nonneg hb.1]
    unfold runeLenI
    refine ⟨?_, by omega⟩
    rw [if_neg (by omega), if_pos (by omega)]
    rfl
  · by_cases h2 : i + 1 < s.size ∧ secondB (bt s i) (bt s (i + 1)) = true
    · obtain ⟨a1, a2, a3, a4, a5, a6⟩ := second_yes h2.2
      rcases h with h | h | h
      · right
        have h0 : 194 ≤ bt s i ∧ bt s i ≤ 223 := by
          unfold longI at h
          repeat' split at h
          all_goals omega
        obtain ⟨hd, b1, b2⟩ := dec_2 h h2.1 h2.2
        rw [hd]
        simp only
        rw [Int.toNat_of_nonneg b1]
        unfold runeLenI
        refine ⟨?_, by omega⟩
        rw [if_neg (by omega), if_neg (by omega), if_pos (by omega)]
        rfl
      · by_cases m2 : moreB s (i + 2) = true
        · right
          have h0 : 224 ≤ bt s i ∧ bt s i ≤ 239 := by
            unfold longI at h
            repeat' split at h
            all_goals omega
          obtain ⟨c1, c2, c3⟩ := moreB_yes m2
          obtain ⟨hd, b1, b2⟩ := dec_3 h h2.1 h2.2 m2
          rw [hd]
          simp only
          rw [Int.toNat_of_nonneg b1]
          unfold runeLenI
          refine ⟨?_, by omega⟩
          rw [if_neg (by omega), if_neg (by omega), if_neg (by omega), if_neg (by omega), if_pos (by omega)]
          rfl
        · exact .inl (more_no2 (by omega) (by simpa using m2))
      · by_cases m2 : moreB s (i + 2) = true
        · by_cases m3 : moreB s (i + 3) = true
          · right
            have h0 : 240 ≤ bt s i ∧ bt s i ≤ 244 := by
              unfold longI at h
              repeat' split at h
              all_goals omega
            obtain ⟨c1, c2, c3⟩ := moreB_yes m2
            obtain ⟨d1, d2, d3⟩ := moreB_yes m3
            obtain ⟨hd, b1, b2⟩ := dec_4 h h2.1 h2.2 m2 m3
            rw [hd]
            simp only
            rw [Int.toNat_of_nonneg b1]
            unfold runeLenI
            refine ⟨?_, by omega⟩
            rw [if_neg (by omega), if_neg (by omega), if_neg (by omega), if_neg (by omega), if_neg (by omega), if_pos (by omega)]
            rfl
          · exact .inl (more_no3 (by omega) (by simpa using m3))
        · exact .inl (more_no2 (by omega) (by simpa using m2))
    · exact .inl (second_no2 (by omega) h2)
theorem rune_max (s : ByteArray) (i : Nat) : (((Utf8.decode s i).1 : Nat) : Int) ≤ 1114111 := by
  rcases dec_len s i with h | h
  · rw [h]; decide
  · exact h.2
theorem dec_good {s : ByteArray} {i : Nat} (h : ¬ ((Utf8.decode s i).1 : Int) = 65533) : runeLenI ((Utf8.decode s i).1 : Nat) = ((Utf8.decode s i).2 : Nat) := by
  rcases dec_len s i with h1 | h1
  · rw [h1] at h; exact absurd rfl h
  · exact h1.1
theorem dec_bad {s : ByteArray} {i : Nat} (h : ((Utf8.decode s i).1 : Int) = 65533) : (Utf8.decode s i).2 = 1 ∨ (Utf8.decode s i).2 = 3 := by
  rcases dec_len s i with h1 | h1
  · rw [h1]; exact .inl rfl
  · right
    have := h1.1
    rw [h] at this
    have h2 : runeLenI 65533 = 3 := by decide
    omega
end Go.SX.Plain
/- Whether three bytes are those of U+FFFD. No program here. -/
namespace Go.SX.Plain
abbrev badL : ByteArray := { data := #[239, 191, 189] }
theorem bt_ext {a b : ByteArray} (h : a.size = b.size) (hb : ∀ i, i < a.size → bt a i = bt b i) : a = b := by
  apply ByteArray.ext
  apply Array.ext
  · exact h
  · intro i h1 h2
    have := hb i h1
    unfold bt at this
    rw [bytesL_get, bytesL_get] at this
    have e1 : a.data.toList.getD i 0 = a.data[i] := by
      simp only [List.getD_eq_getElem?_getD, Array.getElem?_toList]
      rw [getElem?_pos a.data i h1]
      rfl
    have e2 : b.data.toList.getD i 0 = b.data[i] := by
      simp only [List.getD_eq_getElem?_getD, Array.getElem?_toList]
      rw [getElem?_pos b.data i h2]
      rfl
    rw [e1, e2] at this
    exact UInt8.toNat_inj.1 (by omega)
theorem dec_fffd {s : ByteArray} {i : Nat} (h : Utf8.decode s i = (65533, 3)) : bt s i = 239 ∧ bt s (i + 1) = 191 ∧ bt s (i + 2) = 189 := by
  have hne : ∀ {n : Nat}, n ≠ 3 → ∀ {r : Nat}, Utf8.decode s i = (r, n) → False := fun hn r h2 => by
    rw [h] at h2
    exact hn (congrArg Prod.snd h2).symm
  rcases longI_cases (bt s i) with c | c | c
  · exact (hne (by decide) (dec_0 c)).elim
  · exact (hne (by decide) (dec_1 c)).elim
  · by_cases h2 : i + 1 < s.size ∧ secondB (bt s i) (bt s (i + 1)) = true
    · obtain ⟨a1, a2, a3, a4, a5, a6⟩ := second_yes h2.2
      rcases c with c | c | c
      · exact (hne (by decide) (dec_2 c h2.1 h2.2).1).elim
      · by_cases m2 : moreB s (i + 2) = true
        · have h0 : 224 ≤ bt s i ∧ bt s i ≤ 239 := by
            unfold longI at c
            repeat' split at c
            all_goals omega
          obtain ⟨c1, c2, c3⟩ := moreB_yes m2
          obtain ⟨hd, b1, b2⟩ := dec_3 c h2.1 h2.2 m2
          rw [h] at hd
          have := congrArg Prod.fst hd
          simp only at this
          omega
        · exact (hne (by decide) (more_no2 (by omega) (by simpa using m2))).elim
      · by_cases m2 : moreB s (i + 2) = true
        · by_cases m3 : moreB s (i + 3) = true
          · exact (hne (by decide) (dec_4 c h2.1 h2.2 m2 m3).1).elim
          · exact (hne (by decide) (more_no3 (by omega) (by simpa using m3))).elim
        · exact (hne (by decide) (more_no2 (by omega) (by simpa using m2))).elim
    · exact (hne (by decide) (second_no2 (by omega) h2)).elim
theorem pref_iff {s : ByteArray} {pos : Nat} (hp : pos < s.size) (hr : (((Utf8.decode s pos).1 : Nat) : Int) = 65533) :
    (decide ((3 : Int) ≤ ((s.extract pos s.size).size : Int)) && decide ((s.extract pos s.size).extract 0 3 = badL)) = decide ((Utf8.decode s pos).2 = 3) := by
  have ht := decode_extract (s := s) (p := pos) (e := s.size) hp (Nat.le_refl _) (width_le hp)
  have hsz := size_extract' (s := s) (p := pos) (e := s.size) (Nat.le_refl _)
  obtain ⟨t, hte⟩ : ∃ t, t = s.extract pos s.size := ⟨_, rfl⟩
  rw [← hte] at ht hsz ⊢
  rw [← ht] at hr ⊢
  have hwl := width_le (s := t) (pos := 0) (by omega)
  rcases dec_bad hr with h1 | h1
  · rw [h1, Bool.eq_iff_iff]
    simp only [Bool.and_eq_true, decide_eq_true_eq]
    constructor
    · rintro ⟨h2, h3⟩
      have hd := decode_extract (s := t) (p := 0) (e := 3) (by omega) (by omega) (by omega)
      rw [h3] at hd
      have hb : Utf8.decode badL 0 = (65533, 3) := by decide
      rw [hb] at hd
      rw [← hd] at h1
      cases h1
    · intro h
      omega
  · rw [h1, Bool.eq_iff_iff]
    simp only [Bool.and_eq_true, decide_eq_true_eq, iff_true]
    have h3 : 3 ≤ t.size := by omega
    refine ⟨by omega, ?_⟩
    have hd : Utf8.decode t 0 = (65533, 3) := Prod.ext (by simp only; omega) h1
    obtain ⟨c0, c1, c2⟩ := dec_fffd hd
    refine bt_ext (by rw [size_extract' h3]; rfl) fun i hi => ?_
    rw [size_extract' h3] at hi
    rw [bt_extract (by omega) h3, Nat.zero_add]
    obtain rfl | rfl | rfl : i = 0 ∨ i = 1 ∨ i = 2 := by omega
    · rw [c0]; rfl
    · rw [c1]; rfl
    · rw [c2]; rfl
end Go.SX.Plain
namespace Go.SX.Plain
abbrev dSg : Sgn := ⟨0, 0, 0, false⟩
def sgEqB (x y : Sgn) : Bool := x.at == y.at && (x.len == y.len && (x.rune == y.rune && x.bad == y.bad))
theorem sgEqB_iff (x y : Sgn) : sgEqB x y = true ↔ x = y := by
  obtain ⟨a, b, c, d⟩ := x
  obtain ⟨a', b', c', d'⟩ := y
  simp only [sgEqB, Bool.and_eq_true, beq_iff_eq, Sgn.mk.injEq]
def both (a b : ByteArray) : List Sgn := sgns a ++ (sgns b).map (shf a.size)
theorem both_len (a b : ByteArray) : (both a b).length = sgN a + sgN b := by
  rw [both, List.length_append, List.length_map, sgns_len', sgns_len']
theorem both_l {a b : ByteArray} {i : Nat} (h : i < sgN a) : (both a b).getD i dSg = (sgns a).getD i dSg := by
  rw [both, List.getD_eq_getElem?_getD, List.getElem?_append_left (by rw [sgns_len']; exact h), List.getD_eq_getElem?_getD]
theorem both_r {a b : ByteArray} {i : Nat} (h : sgN a ≤ i) (h2 : i < sgN a + sgN b) : (both a b).getD i dSg = shf a.size ((sgns b).getD (i - sgN a) dSg) := by
  have hb : i - sgN a < (sgns b).length := by rw [sgns_len']; omega
  rw [both, List.getD_eq_getElem?_getD, List.getElem?_append_right (by rw [sgns_len']; exact h), sgns_len', List.getElem?_map, List.getD_eq_getElem?_getD, List.getElem?_eq_getElem hb]
  rfl
theorem getD_ext {α : Type} {d : α} {l r : List α} (hl : l.length = r.length) (h : ∀ i, i < l.length → l.getD i d = r.getD i d) : l = r := by
  refine List.ext_getElem hl fun i h1 h2 => ?_
  have := h i h1
  simpa [List.getD_eq_getElem?_getD, h1, h2] using this
theorem melt_of_len {a b : ByteArray} (h : ¬ sgN (a ++ b) = sgN a + sgN b) : meltB a b = true := by
  cases hm : meltB a b with
  | true => rfl
  | false =>
    have := congrArg List.length ((melt_iff a b).1 hm)
    rw [sgns_len', ← both, both_len] at this
    exact absurd this h
theorem melt_of_ne {a b : ByteArray} {i : Nat} (h : ¬ (sgns (a ++ b)).getD i dSg = (both a b).getD i dSg) : meltB a b = true := by
  cases hm : meltB a b with
  | true => rfl
  | false => exact absurd (congrArg (List.getD · i dSg) ((melt_iff a b).1 hm)) h
theorem melt_of_eq {a b : ByteArray} (hl : sgN (a ++ b) = sgN a + sgN b) (h : ∀ i, i < sgN (a ++ b) → (sgns (a ++ b)).getD i dSg = (both a b).getD i dSg) : meltB a b = false := by
  rw [melt_iff]
  refine getD_ext (d := dSg) ?_ fun i hi => h i (by rw [sgns_len'] at hi; exact hi)
  rw [sgns_len', ← both, both_len, hl]
end Go.SX.Plain
/- Contracts of utf's Place, Cut (by signs), Melts. -/
namespace Go.SX.Try
open Go.Proofs Go.Proofs.Try Go.SX.Plain
set_option maxRecDepth 100000
set_option maxHeartbeats 0
set_option linter.unusedSimpArgs false
theorem q_usigns : fact 79 f79 := ⟨by kernel_rfl, rfl, by kernel_rfl⟩
theorem q_usigns1 : fact 100 f100 := ⟨by kernel_rfl, rfl, by kernel_rfl⟩
theorem q_runeLen : fact 101 f101 := ⟨by kernel_rfl, rfl, by kernel_rfl⟩
theorem q_hasPrefix : fact 102 f102 := ⟨by kernel_rfl, rfl, by kernel_rfl⟩
theorem q_hasPrefixI : fact 114 f114 := ⟨by kernel_rfl, rfl, by kernel_rfl⟩
theorem q_uplace : fact 53 f53 := ⟨by kernel_rfl, rfl, by kernel_rfl⟩
theorem q_uknown : fact 90 f90 := ⟨by kernel_rfl, rfl, by kernel_rfl⟩
theorem q_upairs : fact 91 f91 := ⟨by kernel_rfl, rfl, by kernel_rfl⟩
theorem q_ucut : fact 52 f52 := ⟨by kernel_rfl, rfl, by kernel_rfl⟩
theorem q_umelts : fact 54 f54 := ⟨by kernel_rfl, rfl, by kernel_rfl⟩
theorem con_runeLen : Con prog 101 (fun r : Int => [.v (.int .i32 r)]) (fun r => .v (.int .i64 (runeLenI r))) (fun _ => True) := by
  refine Con.of (by kernel_rfl) T_ok CdsOK.nil .nil 3 [] q_runeLen.1 q_runeLen.2.1 q_runeLen.2.2 (fun _ => rfl) fun r _ => ?_
  repeat' (first | (with_reducible first | exact fun h => h | refine ExE.row (by with_unfolding_all rfl) ?_ | refine And.intro ?_ ?_) | ((with_reducible intro hq); first | exact bne1 hq (by with_reducible assumption) | exact bne1 (by with_reducible assumption) hq | ((simp only [*, BB, cond_true, cond_false, reduceCtorEq] at hq); done) | (revert hq; with_reducible intro _)) | (with_reducible first | exact True.intro | rfl | refine EntLe.row ?_ | exact LeN.ro rfl | exact LeN.rptr | assumption) | ((with_reducible first | refine WkX.chk ?_ | refine Wk.chk ?_ | refine LeL.chk ?_ | refine LeF.chk ?_ | refine Run.mk ?_); (conv => whnf)) | ((with_reducible show LeO _ _); first | refine LeO.ro ?_ | refine LeO.roCap ?_ | refine LeO.nil ?_ (fun _ => rfl)) | ((with_reducible show LeR _ _ _); first | refine LeR.own rfl rfl rfl ?_ | refine LeR.view rfl rfl rfl ?_ ?_ | refine LeR.ro ?_ | refine LeR.roCap ?_ | refine LeR.nil ?_ (fun _ => rfl)) | ((with_reducible first | show drawOK _ _ = true | show lateOK _ _ = true | show drawOK2 _ _ = true | show drawOK3 _ _ = true); kernel_rfl))
  all_goals (unfold runeLenI; simp only [Bool.and_eq_true, Bool.and_eq_false_iff, decide_eq_true_eq, decide_eq_false_iff_not] at *; (repeat' split) <;> omega)
theorem con_hasPrefix : Con prog 102 (fun ((s, p) : ByteArray × ByteArray) => [.v (.string s), .v (.string p)]) (fun (s, p) => .sb (decide ((p.size : Int) ≤ (s.size : Int)) && decide (s.extract 0 ((p.size : Nat) : Int).toNat = p))) (fun _ => True) := by
  refine Con.of (by kernel_rfl) T_ok CdsOK.nil (.inl (J := []) q_hasPrefixI.1 q_hasPrefixI.2.1 q_hasPrefixI.2.2 .nil) 5 [] q_hasPrefix.1 q_hasPrefix.2.1 q_hasPrefix.2.2 (fun _ => rfl) fun i _ => ?_
  obtain ⟨s, p⟩ := i
  repeat' (first | (with_reducible first | exact fun h => h | refine ExE.row (by with_unfolding_all rfl) ?_ | refine And.intro ?_ ?_) | ((with_reducible intro hq); first | exact bne1 hq (by with_reducible assumption) | exact bne1 (by with_reducible assumption) hq | ((simp only [*, BB, cond_true, cond_false, reduceCtorEq] at hq); done) | (revert hq; with_reducible intro _)) | (with_reducible first | exact True.intro | rfl | refine EntLe.row ?_ | exact LeN.ro rfl | exact LeN.rptr | assumption) | ((with_reducible first | refine WkX.chk ?_ | refine Wk.chk ?_ | refine LeL.chk ?_ | refine LeF.chk ?_ | refine Run.mk ?_); (conv => whnf)) | ((with_reducible show LeO _ _); first | refine LeO.ro ?_ | refine LeO.roCap ?_ | refine LeO.nil ?_ (fun _ => rfl)) | ((with_reducible show LeR _ _ _); first | refine LeR.own rfl rfl rfl ?_ | refine LeR.view rfl rfl rfl ?_ ?_ | refine LeR.ro ?_ | refine LeR.roCap ?_ | refine LeR.nil ?_ (fun _ => rfl)) | ((with_reducible first | show drawOK _ _ = true | show lateOK _ _ = true | show drawOK2 _ _ = true | show drawOK3 _ _ = true); kernel_rfl))
  all_goals first
    | omega
    | rfl
    | (simp only [decide_eq_true_eq] at *; omega)
    | (exfalso; simp_all; done)
    | (simp only [*, Bool.false_and]; done)
    | trace_state
theorem con_uknown : Con prog 90 (fun u : Int => [.v (.int .i64 u)]) (fun _ => .v (.bool true)) (fun u => u = 1 ∨ u = 2 ∨ u = 3) := by
  refine Con.of (by kernel_rfl) T_ok CdsOK.nil .nil 3 [] q_uknown.1 q_uknown.2.1 q_uknown.2.2 (fun _ => rfl) fun u hu => ?_
  have hu : u = 1 ∨ u = 2 ∨ u = 3 := hu
  rcases hu with rfl | rfl | rfl
  all_goals
    repeat' (first | (with_reducible first | exact fun h => h | refine ExE.row (by with_unfolding_all rfl) ?_ | refine And.intro ?_ ?_) | ((with_reducible intro hq); first | exact bne1 hq (by with_reducible assumption) | exact bne1 (by with_reducible assumption) hq | ((simp only [*, BB, cond_true, cond_false, reduceCtorEq] at hq); done) | (revert hq; with_reducible intro _)) | (with_reducible first | exact True.intro | rfl | refine EntLe.row ?_ | exact LeN.ro rfl | exact LeN.rptr | assumption) | ((with_reducible first | refine WkX.chk ?_ | refine Wk.chk ?_ | refine LeL.chk ?_ | refine LeF.chk ?_ | refine Run.mk ?_); (conv => whnf)) | ((with_reducible show LeO _ _); first | refine LeO.ro ?_ | refine LeO.roCap ?_ | refine LeO.nil ?_ (fun _ => rfl)) | ((with_reducible show LeR _ _ _); first | refine LeR.own rfl rfl rfl ?_ | refine LeR.view rfl rfl rfl ?_ ?_ | refine LeR.ro ?_ | refine LeR.roCap ?_ | refine LeR.nil ?_ (fun _ => rfl)) | ((with_reducible first | show drawOK _ _ = true | show lateOK _ _ = true | show drawOK2 _ _ = true | show drawOK3 _ _ = true); kernel_rfl))
    all_goals first
      | rfl
      | (exfalso; simp_all; done)
      | (simp_all; done)
      | trace_state
def pairsI (r : Int) : Int := if 65536 ≤ r then 2 else 1
theorem pairs_bd (r : Int) : 1 ≤ pairsI r ∧ pairsI r ≤ 2 := by unfold pairsI; split <;> omega
theorem con_upairs : Con prog 91 (fun r : Int => [.v (.int .i32 r)]) (fun r => .v (.int .i64 (pairsI r))) (fun _ => True) := by
  refine Con.of (by kernel_rfl) T_ok CdsOK.nil .nil 3 [] q_upairs.1 q_upairs.2.1 q_upairs.2.2 (fun _ => rfl) fun r _ => ?_
  repeat' (first | (with_reducible first | exact fun h => h | refine ExE.row (by with_unfolding_all rfl) ?_ | refine And.intro ?_ ?_) | ((with_reducible intro hq); first | exact bne1 hq (by with_reducible assumption) | exact bne1 (by with_reducible assumption) hq | ((simp only [*, BB, cond_true, cond_false, reduceCtorEq] at hq); done) | (revert hq; with_reducible intro _)) | (with_reducible first | exact True.intro | rfl | refine EntLe.row ?_ | exact LeN.ro rfl | exact LeN.rptr | assumption) | ((with_reducible first | refine WkX.chk ?_ | refine Wk.chk ?_ | refine LeL.chk ?_ | refine LeF.chk ?_ | refine Run.mk ?_); (conv => whnf)) | ((with_reducible show LeO _ _); first | refine LeO.ro ?_ | refine LeO.roCap ?_ | refine LeO.nil ?_ (fun _ => rfl)) | ((with_reducible show LeR _ _ _); first | refine LeR.own rfl rfl rfl ?_ | refine LeR.view rfl rfl rfl ?_ ?_ | refine LeR.ro ?_ | refine LeR.roCap ?_ | refine LeR.nil ?_ (fun _ => rfl)) | ((with_reducible first | show drawOK _ _ = true | show lateOK _ _ = true | show drawOK2 _ _ = true | show drawOK3 _ _ = true); kernel_rfl))
  all_goals (simp only [decide_eq_true_eq, decide_eq_false_iff_not] at *)
  all_goals first
    | (unfold pairsI; rw [if_pos (by omega)]; done)
    | (unfold pairsI; rw [if_neg (by omega)]; done)
theorem con_uplace : Con prog 53 (fun ((s, a) : ByteArray × Int) => [.v (.string s), .v (.int .i64 a), .v (.int .i64 2), .v (.int .i64 1)]) (fun (s, a) => .tup [.v (.int .i64 (plN s a)), .v (.int .i64 (plE s a))]) (fun (s, _) => s.size ≤ 1100000) := by
  refine Con.of (by kernel_rfl) T_ok CdsOK.nil (.con con_runeLen (.con con_hasPrefix (.inl (J := []) q_usigns.1 q_usigns.2.1 q_usigns.2.2 (.inl (J := [8]) q_usigns1.1 q_usigns1.2.1 q_usigns1.2.2 (.con con_uknown (.con con_upairs .nil)))))) 9 [] q_uplace.1 q_uplace.2.1 q_uplace.2.2 (fun _ => rfl) fun i hs => ?_
  obtain ⟨s, a⟩ := i
  have hs : s.size ≤ 1100000 := hs
  by_cases ha : a < 0
  · have ht : decide (a < 0) = true := decide_eq_true ha
    repeat' (first | (with_reducible refine ⟨_, ⟨(.cons (.v _) .nil), ?_⟩, ?_⟩) | (with_reducible first | exact fun h => h | refine ExE.row (by with_unfolding_all rfl) ?_ | refine And.intro ?_ ?_) | ((with_reducible intro hq); first | exact bne1 hq (by with_reducible assumption) | exact bne1 (by with_reducible assumption) hq | ((simp only [*, BB, cond_true, cond_false, reduceCtorEq] at hq); done) | (revert hq; with_reducible intro _)) | (with_reducible first | exact True.intro | rfl | refine EntLe.row ?_ | exact LeN.ro rfl | exact LeN.rptr | assumption) | ((with_reducible first | refine WkX.chk ?_ | refine Wk.chk ?_ | refine LeL.chk ?_ | refine LeF.chk ?_ | refine Run.mk ?_); (conv => whnf)) | ((with_reducible show LeO _ _); first | refine LeO.ro ?_ | refine LeO.roCap ?_ | refine LeO.nil ?_ (fun _ => rfl)) | ((with_reducible show LeR _ _ _); first | refine LeR.own rfl rfl rfl ?_ | refine LeR.view rfl rfl rfl ?_ ?_ | refine LeR.ro ?_ | refine LeR.roCap ?_ | refine LeR.nil ?_ (fun _ => rfl)) | ((with_reducible first | show drawOK _ _ = true | show lateOK _ _ = true | show drawOK2 _ _ = true | show drawOK3 _ _ = true); kernel_rfl))
    all_goals first
      | (dsimp only; omega)
      | (unfold plN; rw [if_neg (by omega)]; done)
      | (unfold plE; rw [if_neg (by omega)]; done)
      | trace_state
  · have ht : decide (a < 0) = false := decide_eq_false ha
    have hn := sgN_le s
    have hend := posS_end s
    repeat' (first | (with_reducible refine ⟨_, ⟨(.cons (.v _) .nil), ?_⟩, ?_⟩) | (with_reducible first | exact fun h => h | refine ExE.row (by with_unfolding_all rfl) ?_ | refine And.intro ?_ ?_) | ((with_reducible intro hq); first | exact bne1 hq (by with_reducible assumption) | exact bne1 (by with_reducible assumption) hq | ((simp only [*, BB, cond_true, cond_false, reduceCtorEq] at hq); done) | (revert hq; with_reducible intro _)) | (with_reducible first | exact True.intro | rfl | refine EntLe.row ?_ | exact LeN.ro rfl | exact LeN.rptr | assumption) | ((with_reducible first | refine WkX.chk ?_ | refine Wk.chk ?_ | refine LeL.chk ?_ | refine LeF.chk ?_ | refine Run.mk ?_); (conv => whnf)) | ((with_reducible show LeO _ _); first | refine LeO.ro ?_ | refine LeO.roCap ?_ | refine LeO.nil ?_ (fun _ => rfl)) | ((with_reducible show LeR _ _ _); first | refine LeR.own rfl rfl rfl ?_ | refine LeR.view rfl rfl rfl ?_ ?_ | refine LeR.ro ?_ | refine LeR.roCap ?_ | refine LeR.nil ?_ (fun _ => rfl)) | ((with_reducible first | show drawOK _ _ = true | show lateOK _ _ = true | show drawOK2 _ _ = true | show drawOK3 _ _ = true); kernel_rfl))
    all_goals (try (dsimp only; omega))
    refine loopI (Nat × Int) [] (fun _ => []) (fun | (i, p) => [(6, .iter s (posS s i)), (2, .box [.v (.int .i64 0), .v (.int .i64 (posS s i : Nat)), .v (.int .i64 (i : Nat)), .v (.int .i64 p)] 119)]) (fun | (i, p) => i ≤ sgN s ∧ (i : Int) ≤ a ∧ 0 ≤ p ∧ p ≤ 2 * (i : Int)) (fun | (i, _) => sgN s - i) (0, 0) ⟨Nat.zero_le _, by omega, Int.le_refl _, by omega⟩ (Wk.chk ?_) fun x hx => ?_
    · ((conv => whnf); repeat' (first | (with_reducible first | exact fun h => h | refine ExE.row (by with_unfolding_all rfl) ?_ | refine And.intro ?_ ?_) | ((with_reducible intro hq); first | exact bne1 hq (by with_reducible assumption) | exact bne1 (by with_reducible assumption) hq | ((simp only [*, BB, cond_true, cond_false, reduceCtorEq] at hq); done) | (revert hq; with_reducible intro _)) | (with_reducible first | exact True.intro | rfl | refine EntLe.row ?_ | exact LeN.ro rfl | exact LeN.rptr | assumption) | ((with_reducible first | refine WkX.chk ?_ | refine Wk.chk ?_ | refine LeL.chk ?_ | refine LeF.chk ?_ | refine Run.mk ?_); (conv => whnf)) | ((with_reducible show LeO _ _); first | refine LeO.ro ?_ | refine LeO.roCap ?_ | refine LeO.nil ?_ (fun _ => rfl)) | ((with_reducible show LeR _ _ _); first | refine LeR.own rfl rfl rfl ?_ | refine LeR.view rfl rfl rfl ?_ ?_ | refine LeR.ro ?_ | refine LeR.roCap ?_ | refine LeR.nil ?_ (fun _ => rfl)) | ((with_reducible first | show drawOK _ _ = true | show lateOK _ _ = true | show drawOK2 _ _ = true | show drawOK3 _ _ = true); kernel_rfl)))
      all_goals first
        | rfl
        | (rw [posS_zero]; done)
        | (rw [posS_zero]; rfl)
        | trace_state
    obtain ⟨i, p⟩ := x
    obtain ⟨hi1, hi2, hi3, hi4⟩ : i ≤ sgN s ∧ (i : Int) ≤ a ∧ 0 ≤ p ∧ p ≤ 2 * (i : Int) := hx
    have hpl := posS_le s i
    by_cases hil : i < sgN s
    · have hat := sgns_at s hil
      obtain ⟨_, hlt, hnx⟩ := hat
      have hw := width_pos s (posS s i)
      have hwl := width_le hlt
      have hmax := rune_max s (posS s i)
      have e1 : ((posS s i : Nat) : Int).toNat = posS s i := Int.toNat_natCast _
      repeat' (first | (with_reducible first | exact fun h => h | refine ExE.row (by with_unfolding_all rfl) ?_ | refine And.intro ?_ ?_) | ((with_reducible intro hq); first | exact bne1 hq (by with_reducible assumption) | exact bne1 (by with_reducible assumption) hq | ((simp only [*, BB, cond_true, cond_false, reduceCtorEq] at hq); done) | (revert hq; with_reducible intro _)) | (with_reducible first | exact True.intro | rfl | refine EntLe.row ?_ | exact LeN.ro rfl | exact LeN.rptr | assumption) | ((with_reducible first | refine WkX.chk ?_ | refine Wk.chk ?_ | refine LeL.chk ?_ | refine LeF.chk ?_ | refine Run.mk ?_); (conv => whnf)) | ((with_reducible show LeO _ _); first | refine LeO.ro ?_ | refine LeO.roCap ?_ | refine LeO.nil ?_ (fun _ => rfl)) | ((with_reducible show LeR _ _ _); first | refine LeR.own rfl rfl rfl ?_ | refine LeR.view rfl rfl rfl ?_ ?_ | refine LeR.ro ?_ | refine LeR.roCap ?_ | refine LeR.nil ?_ (fun _ => rfl)) | ((with_reducible first | show drawOK _ _ = true | show lateOK _ _ = true | show drawOK2 _ _ = true | show drawOK3 _ _ = true); kernel_rfl))
      any_goals omega
      refine joinI Unit [] (fun _ => [(5, .v (.int .i64 ((Utf8.decode s (posS s i)).2 : Nat)))]) (fun _ => []) (fun _ => True) ?_ fun _ _ => ?_
      · by_cases hr : (((Utf8.decode s (posS s i)).1 : Nat) : Int) = 65533
        · have k1 : ((((Utf8.decode s (posS s i)).1 : Nat) : Int) != 65533) = false := by rw [hr]; rfl
          have hpf : (decide ((badL.size : Int) ≤ ((s.extract ((posS s i : Nat) : Int).toNat s.size).size : Int)) && decide ((s.extract ((posS s i : Nat) : Int).toNat s.size).extract 0 ((badL.size : Nat) : Int).toNat = badL)) = decide ((Utf8.decode s (posS s i)).2 = 3) := by
            rw [e1]
            exact pref_iff hlt hr
          have h13 := dec_bad hr
          rcases h13 with h13 | h13
          · have hpf := hpf.trans (show decide ((Utf8.decode s (posS s i)).2 = 3) = false from by rw [h13]; rfl)
            repeat' (first | (with_reducible refine ⟨(_, badL), ⟨(.cons (.v _) (.cons (.v _) .nil)), ?_⟩, ?_⟩) | (with_reducible refine ex_of () trivial ?_) | (with_reducible first | exact fun h => h | refine ExE.row (by with_unfolding_all rfl) ?_ | refine And.intro ?_ ?_) | ((with_reducible intro hq); first | exact bne1 hq (by with_reducible assumption) | exact bne1 (by with_reducible assumption) hq | ((simp only [*, BB, cond_true, cond_false, reduceCtorEq] at hq); done) | (revert hq; with_reducible intro _)) | (with_reducible first | exact True.intro | rfl | refine EntLe.row ?_ | exact LeN.ro rfl | exact LeN.rptr | assumption) | ((with_reducible first | refine WkX.chk ?_ | refine Wk.chk ?_ | refine LeL.chk ?_ | refine LeF.chk ?_ | refine Run.mk ?_); (conv => whnf)) | ((with_reducible show LeO _ _); first | refine LeO.ro ?_ | refine LeO.roCap ?_ | refine LeO.nil ?_ (fun _ => rfl)) | ((with_reducible show LeR _ _ _); first | refine LeR.own rfl rfl rfl ?_ | refine LeR.view rfl rfl rfl ?_ ?_ | refine LeR.ro ?_ | refine LeR.roCap ?_ | refine LeR.nil ?_ (fun _ => rfl)) | ((with_reducible first | show drawOK _ _ = true | show lateOK _ _ = true | show drawOK2 _ _ = true | show drawOK3 _ _ = true); kernel_rfl))
            all_goals first
              | omega
              | (rw [h13]; rfl)
              | trace_state
          · have hpf := hpf.trans (show decide ((Utf8.decode s (posS s i)).2 = 3) = true from by rw [h13]; rfl)
            repeat' (first | (with_reducible refine ⟨(_, badL), ⟨(.cons (.v _) (.cons (.v _) .nil)), ?_⟩, ?_⟩) | (with_reducible refine ex_of () trivial ?_) | (with_reducible first | exact fun h => h | refine ExE.row (by with_unfolding_all rfl) ?_ | refine And.intro ?_ ?_) | ((with_reducible intro hq); first | exact bne1 hq (by with_reducible assumption) | exact bne1 (by with_reducible assumption) hq | ((simp only [*, BB, cond_true, cond_false, reduceCtorEq] at hq); done) | (revert hq; with_reducible intro _)) | (with_reducible first | exact True.intro | rfl | refine EntLe.row ?_ | exact LeN.ro rfl | exact LeN.rptr | assumption) | ((with_reducible first | refine WkX.chk ?_ | refine Wk.chk ?_ | refine LeL.chk ?_ | refine LeF.chk ?_ | refine Run.mk ?_); (conv => whnf)) | ((with_reducible show LeO _ _); first | refine LeO.ro ?_ | refine LeO.roCap ?_ | refine LeO.nil ?_ (fun _ => rfl)) | ((with_reducible show LeR _ _ _); first | refine LeR.own rfl rfl rfl ?_ | refine LeR.view rfl rfl rfl ?_ ?_ | refine LeR.ro ?_ | refine LeR.roCap ?_ | refine LeR.nil ?_ (fun _ => rfl)) | ((with_reducible first | show drawOK _ _ = true | show lateOK _ _ = true | show drawOK2 _ _ = true | show drawOK3 _ _ = true); kernel_rfl))
            all_goals first
              | omega
              | (rw [h13]; rfl)
              | trace_state
        · have k1 : ((((Utf8.decode s (posS s i)).1 : Nat) : Int) != 65533) = true := by simpa using hr
          have hg := dec_good hr
          repeat' (first | (with_reducible refine ⟨(((Utf8.decode s (posS s i)).1 : Nat) : Int), ⟨(.cons (.v _) .nil), ?_⟩, ?_⟩) | (with_reducible refine ex_of () trivial ?_) | (with_reducible first | exact fun h => h | refine ExE.row (by with_unfolding_all rfl) ?_ | refine And.intro ?_ ?_) | ((with_reducible intro hq); first | exact bne1 hq (by with_reducible assumption) | exact bne1 (by with_reducible assumption) hq | ((simp only [*, BB, cond_true, cond_false, reduceCtorEq] at hq); done) | (revert hq; with_reducible intro _)) | (with_reducible first | exact True.intro | rfl | refine EntLe.row ?_ | exact LeN.ro rfl | exact LeN.rptr | assumption) | ((with_reducible first | refine WkX.chk ?_ | refine Wk.chk ?_ | refine LeL.chk ?_ | refine LeF.chk ?_ | refine Run.mk ?_); (conv => whnf)) | ((with_reducible show LeO _ _); first | refine LeO.ro ?_ | refine LeO.roCap ?_ | refine LeO.nil ?_ (fun _ => rfl)) | ((with_reducible show LeR _ _ _); first | refine LeR.own rfl rfl rfl ?_ | refine LeR.view rfl rfl rfl ?_ ?_ | refine LeR.ro ?_ | refine LeR.roCap ?_ | refine LeR.nil ?_ (fun _ => rfl)) | ((with_reducible first | show drawOK _ _ = true | show lateOK _ _ = true | show drawOK2 _ _ = true | show drawOK3 _ _ = true); kernel_rfl))
          all_goals first
            | omega
            | exact hg
            | trace_state
      by_cases hia : (i : Int) = a
      · have k2 : decide (a ≤ (i : Int)) = true := decide_eq_true (by omega)
        have k3 : ((i : Int) == a) = true := by rw [beq_iff_eq]; exact hia
        repeat' (first | (with_reducible first | exact fun h => h | refine ExE.row (by with_unfolding_all rfl) ?_ | refine And.intro ?_ ?_) | ((with_reducible intro hq); first | exact bne1 hq (by with_reducible assumption) | exact bne1 (by with_reducible assumption) hq | ((simp only [*, BB, cond_true, cond_false, reduceCtorEq] at hq); done) | (revert hq; with_reducible intro _)) | (with_reducible first | exact True.intro | rfl | refine EntLe.row ?_ | exact LeN.ro rfl | exact LeN.rptr | assumption) | ((with_reducible first | refine WkX.chk ?_ | refine Wk.chk ?_ | refine LeL.chk ?_ | refine LeF.chk ?_ | refine Run.mk ?_); (conv => whnf)) | ((with_reducible show LeO _ _); first | refine LeO.ro ?_ | refine LeO.roCap ?_ | refine LeO.nil ?_ (fun _ => rfl)) | ((with_reducible show LeR _ _ _); first | refine LeR.own rfl rfl rfl ?_ | refine LeR.view rfl rfl rfl ?_ ?_ | refine LeR.ro ?_ | refine LeR.roCap ?_ | refine LeR.nil ?_ (fun _ => rfl)) | ((with_reducible first | show drawOK _ _ = true | show lateOK _ _ = true | show drawOK2 _ _ = true | show drawOK3 _ _ = true); kernel_rfl))
        all_goals first
          | omega
          | (unfold plN; rw [if_pos ⟨by omega, by omega⟩, show a.toNat = i by omega]; done)
          | (unfold plE; rw [if_pos ⟨by omega, by omega⟩]; done)
          | (simp only [Bool.not_eq_true']; assumption)
          | trace_state
      · have k2 : decide (a ≤ (i : Int)) = false := decide_eq_false (by omega)
        have hpb := pairs_bd (((Utf8.decode s (posS s i)).1 : Nat) : Int)
        repeat' (first | (with_reducible refine ⟨(((Utf8.decode s (posS s i)).1 : Nat) : Int), ⟨(.cons (.v _) .nil), ?_⟩, ?_⟩) | (with_reducible refine ex_of (α := Nat × Int) (i + 1, p + pairsI (((Utf8.decode s (posS s i)).1 : Nat) : Int)) ⟨⟨?_, ?_, ?_, ?_⟩, ?_⟩ ?_) | (with_reducible first | exact fun h => h | refine ExE.row (by with_unfolding_all rfl) ?_ | refine And.intro ?_ ?_) | ((with_reducible intro hq); first | exact bne1 hq (by with_reducible assumption) | exact bne1 (by with_reducible assumption) hq | ((simp only [*, BB, cond_true, cond_false, reduceCtorEq] at hq); done) | (revert hq; with_reducible intro _)) | (with_reducible first | exact True.intro | rfl | refine EntLe.row ?_ | exact LeN.ro rfl | exact LeN.rptr | assumption) | ((with_reducible first | refine WkX.chk ?_ | refine Wk.chk ?_ | refine LeL.chk ?_ | refine LeF.chk ?_ | refine Run.mk ?_); (conv => whnf)) | ((with_reducible show LeO _ _); first | refine LeO.ro ?_ | refine LeO.roCap ?_ | refine LeO.nil ?_ (fun _ => rfl)) | ((with_reducible show LeR _ _ _); first | refine LeR.own rfl rfl rfl ?_ | refine LeR.view rfl rfl rfl ?_ ?_ | refine LeR.ro ?_ | refine LeR.roCap ?_ | refine LeR.nil ?_ (fun _ => rfl)) | ((with_reducible first | show drawOK _ _ = true | show lateOK _ _ = true | show drawOK2 _ _ = true | show drawOK3 _ _ = true); kernel_rfl))
        all_goals first
          | omega
          | (apply Fits.i64 <;> omega)
          | (show sgN s - (i + 1) < sgN s - i; omega)
          | (rw [hnx]; done)
          | trace_state
    · have hii : i = sgN s := by omega
      subst hii
      have hlt : ¬ posS s (sgN s) < s.size := by omega
      by_cases hia : ((sgN s : Nat) : Int) = a
      · have k3 : (((sgN s : Nat) : Int) == a) = true := by rw [beq_iff_eq]; exact hia
        repeat' (first | (with_reducible first | exact fun h => h | refine ExE.row (by with_unfolding_all rfl) ?_ | refine And.intro ?_ ?_) | ((with_reducible intro hq); first | exact bne1 hq (by with_reducible assumption) | exact bne1 (by with_reducible assumption) hq | ((simp only [*, BB, cond_true, cond_false, reduceCtorEq] at hq); done) | (revert hq; with_reducible intro _)) | (with_reducible first | exact True.intro | rfl | refine EntLe.row ?_ | exact LeN.ro rfl | exact LeN.rptr | assumption) | ((with_reducible first | refine WkX.chk ?_ | refine Wk.chk ?_ | refine LeL.chk ?_ | refine LeF.chk ?_ | refine Run.mk ?_); (conv => whnf)) | ((with_reducible show LeO _ _); first | refine LeO.ro ?_ | refine LeO.roCap ?_ | refine LeO.nil ?_ (fun _ => rfl)) | ((with_reducible show LeR _ _ _); first | refine LeR.own rfl rfl rfl ?_ | refine LeR.view rfl rfl rfl ?_ ?_ | refine LeR.ro ?_ | refine LeR.roCap ?_ | refine LeR.nil ?_ (fun _ => rfl)) | ((with_reducible first | show drawOK _ _ = true | show lateOK _ _ = true | show drawOK2 _ _ = true | show drawOK3 _ _ = true); kernel_rfl))
        all_goals first
          | omega
          | (exfalso; omega)
          | (unfold plN; rw [if_pos ⟨by omega, by omega⟩, show a.toNat = sgN s by omega]; done)
          | (unfold plE; rw [if_pos ⟨by omega, by omega⟩]; done)
          | trace_state
      · have k3 : (((sgN s : Nat) : Int) == a) = false := by rw [beq_eq_false_iff_ne]; exact hia
        have k4 : decide (a < ((sgN s : Nat) : Int)) = false := decide_eq_false (by omega)
        repeat' (first | (with_reducible first | exact fun h => h | refine ExE.row (by with_unfolding_all rfl) ?_ | refine And.intro ?_ ?_) | ((with_reducible intro hq); first | exact bne1 hq (by with_reducible assumption) | exact bne1 (by with_reducible assumption) hq | ((simp only [*, BB, cond_true, cond_false, reduceCtorEq] at hq); done) | (revert hq; with_reducible intro _)) | (with_reducible first | exact True.intro | rfl | refine EntLe.row ?_ | exact LeN.ro rfl | exact LeN.rptr | assumption) | ((with_reducible first | refine WkX.chk ?_ | refine Wk.chk ?_ | refine LeL.chk ?_ | refine LeF.chk ?_ | refine Run.mk ?_); (conv => whnf)) | ((with_reducible show LeO _ _); first | refine LeO.ro ?_ | refine LeO.roCap ?_ | refine LeO.nil ?_ (fun _ => rfl)) | ((with_reducible show LeR _ _ _); first | refine LeR.own rfl rfl rfl ?_ | refine LeR.view rfl rfl rfl ?_ ?_ | refine LeR.ro ?_ | refine LeR.roCap ?_ | refine LeR.nil ?_ (fun _ => rfl)) | ((with_reducible first | show drawOK _ _ = true | show lateOK _ _ = true | show drawOK2 _ _ = true | show drawOK3 _ _ = true); kernel_rfl))
        all_goals first
          | omega
          | (exfalso; omega)
          | (unfold plN; rw [if_neg (by omega)]; done)
          | (unfold plE; rw [if_neg (by omega)]; done)
          | trace_state
end Go.SX.Try
/- Contracts of utf's Cut (by signs), Melts. -/
namespace Go.SX.Try
open Go.Proofs Go.Proofs.Try Go.SX.Plain
set_option maxRecDepth 100000
set_option maxHeartbeats 0
set_option linter.unusedSimpArgs false
theorem con_ucut : Con prog 52 (fun ((s, f, t) : ByteArray × Int × Int) => [.v (.string s), .v (.int .i64 2), .v (.int .i64 f), .v (.int .i64 t)]) (fun (s, f, t) => .tup [.v (.string (cutT s f t)), .v (.int .i64 (cutE s f t))]) (fun (s, _, _) => s.size ≤ 1100000) := by
  refine Con.of (by kernel_rfl) T_ok CdsOK.nil (.con con_uplace (.con con_uknown .nil)) 5 [] q_ucut.1 q_ucut.2.1 q_ucut.2.2 (fun _ => rfl) fun i hs => ?_
  obtain ⟨s, f, t⟩ := i
  have hs : s.size ≤ 1100000 := hs
  have hn := sgN_le s
  have h01 : ∀ x, plE s x = 0 ∨ plE s x = 1 := fun x => by unfold plE; split <;> simp
  by_cases hc : 0 ≤ f ∧ f ≤ t ∧ t ≤ sgN s
  · have hE : cutE s f t = 0 := by unfold cutE; rw [if_pos hc]
    have hT : cutT s f t = s.extract (posS s f.toNat) (posS s t.toNat) := by unfold cutT; rw [if_pos hc]
    have p1 : plE s f = 0 := by unfold plE; rw [if_pos ⟨by omega, by omega⟩]
    have p2 : plE s t = 0 := by unfold plE; rw [if_pos ⟨by omega, by omega⟩]
    have p3 : plN s f = (posS s f.toNat : Nat) := by unfold plN; rw [if_pos ⟨by omega, by omega⟩]
    have p4 : plN s t = (posS s t.toNat : Nat) := by unfold plN; rw [if_pos ⟨by omega, by omega⟩]
    have p5 := posS_mono s (i := f.toNat) (j := t.toNat) (by omega) (by omega)
    have p6 := posS_le s t.toNat
    have b1 : (plE s f != 0) = false := by rw [p1]; rfl
    have b2 : (plE s t != 0) = false := by rw [p2]; rfl
    have b3 : (plE s f == 1) = false := by rw [p1]; rfl
    have b4 : (plE s t == 1) = false := by rw [p2]; rfl
    have b5 : decide (t < f) = false := decide_eq_false (by omega)
    repeat' (first | (with_reducible refine ⟨_, ⟨(.cons (.v _) .nil), ?_⟩, ?_⟩) | (with_reducible refine ⟨(_, _), ⟨(.cons (.v _) (.cons (.v _) (.cons (.v _) (.cons (.v _) .nil)))), ?_⟩, ?_⟩) | (with_reducible first | exact fun h => h | refine ExE.row (by with_unfolding_all rfl) ?_ | refine And.intro ?_ ?_) | ((with_reducible intro hq); first | exact bne1 hq (by with_reducible assumption) | exact bne1 (by with_reducible assumption) hq | ((simp only [*, BB, cond_true, cond_false, reduceCtorEq] at hq); done) | (revert hq; with_reducible intro _)) | (with_reducible first | exact True.intro | rfl | refine EntLe.row ?_ | exact LeN.ro rfl | exact LeN.rptr | assumption) | ((with_reducible first | refine WkX.chk ?_ | refine Wk.chk ?_ | refine LeL.chk ?_ | refine LeF.chk ?_ | refine Run.mk ?_); (conv => whnf)) | ((with_reducible show LeO _ _); first | refine LeO.ro ?_ | refine LeO.roCap ?_ | refine LeO.nil ?_ (fun _ => rfl)) | ((with_reducible show LeR _ _ _); first | refine LeR.own rfl rfl rfl ?_ | refine LeR.view rfl rfl rfl ?_ ?_ | refine LeR.ro ?_ | refine LeR.roCap ?_ | refine LeR.nil ?_ (fun _ => rfl)) | ((with_reducible first | show drawOK _ _ = true | show lateOK _ _ = true | show drawOK2 _ _ = true | show drawOK3 _ _ = true); kernel_rfl))
    all_goals (try simp only [p1, p2, p3, p4] at *)
    all_goals first
      | omega
      | (dsimp only; omega)
      | (rw [hT]; rfl)
      | (rw [hT]; simp only [Int.toNat_natCast]; done)
      | exact hE.symm
      | (simp; done)
      | trace_state
  · have hE : cutE s f t = 1 := by unfold cutE; rw [if_neg hc]
    have hT : cutT s f t = ByteArray.empty := by unfold cutT; rw [if_neg hc]
    have hbad : (plE s f == 1) = true ∨ ((plE s f == 1) = false ∧ (plE s t == 1) = true) ∨ ((plE s f == 1) = false ∧ (plE s t == 1) = false ∧ decide (t < f) = true) := by
      rcases h01 f with q1 | q1
      · rcases h01 t with q2 | q2
        · refine .inr (.inr ⟨by rw [q1]; rfl, by rw [q2]; rfl, decide_eq_true ?_⟩)
          have r1 : 0 ≤ f ∧ f ≤ sgN s := by
            unfold plE at q1; split at q1
            · assumption
            · cases q1
          have r2 : 0 ≤ t ∧ t ≤ sgN s := by
            unfold plE at q2; split at q2
            · assumption
            · cases q2
          omega
        · exact .inr (.inl ⟨by rw [q1]; rfl, by rw [q2]; rfl⟩)
      · exact .inl (by rw [q1]; rfl)
    clear h01
    rcases hbad with b1 | ⟨b1, b2⟩ | ⟨b1, b2, b3⟩
    all_goals
      repeat' (first | (with_reducible refine ⟨_, ⟨(.cons (.v _) .nil), ?_⟩, ?_⟩) | (with_reducible refine ⟨(_, _), ⟨(.cons (.v _) (.cons (.v _) (.cons (.v _) (.cons (.v _) .nil)))), ?_⟩, ?_⟩) | (with_reducible first | exact fun h => h | refine ExE.row (by with_unfolding_all rfl) ?_ | refine And.intro ?_ ?_) | ((with_reducible intro hq); first | exact bne1 hq (by with_reducible assumption) | exact bne1 (by with_reducible assumption) hq | ((simp only [*, BB, cond_true, cond_false, reduceCtorEq] at hq); done) | (revert hq; with_reducible intro _)) | (with_reducible first | exact True.intro | rfl | refine EntLe.row ?_ | exact LeN.ro rfl | exact LeN.rptr | assumption) | ((with_reducible first | refine WkX.chk ?_ | refine Wk.chk ?_ | refine LeL.chk ?_ | refine LeF.chk ?_ | refine Run.mk ?_); (conv => whnf)) | ((with_reducible show LeO _ _); first | refine LeO.ro ?_ | refine LeO.roCap ?_ | refine LeO.nil ?_ (fun _ => rfl)) | ((with_reducible show LeR _ _ _); first | refine LeR.own rfl rfl rfl ?_ | refine LeR.view rfl rfl rfl ?_ ?_ | refine LeR.ro ?_ | refine LeR.roCap ?_ | refine LeR.nil ?_ (fun _ => rfl)) | ((with_reducible first | show drawOK _ _ = true | show lateOK _ _ = true | show drawOK2 _ _ = true | show drawOK3 _ _ = true); kernel_rfl))
      all_goals first
        | exact hT.symm
        | exact hE.symm
        | (dsimp only; omega)
        | trace_state
theorem con_umelts : Con prog 54 (fun ((a, b) : ByteArray × ByteArray) => [.v (.string a), .v (.string b)]) (fun (a, b) => .sb (meltB a b)) (fun (a, b) => (a ++ b).size ≤ 1100000) := by
  refine Con.of (by kernel_rfl) T_ok CdsOK.nil (.con con_runeLen (.con con_hasPrefix (.inl (J := []) q_usigns.1 q_usigns.2.1 q_usigns.2.2 (.inl (J := [8]) q_usigns1.1 q_usigns1.2.1 q_usigns1.2.2 .nil)))) 9 [] q_umelts.1 q_umelts.2.1 q_umelts.2.2 (fun _ => rfl) fun i hs => ?_
  obtain ⟨a, b⟩ := i
  have hs : (a ++ b).size ≤ 1100000 := hs
  have hsz := app_size a b
  repeat' (first | (with_reducible first | exact fun h => h | refine ExE.row (by with_unfolding_all rfl) ?_ | refine And.intro ?_ ?_) | ((with_reducible intro hq); first | exact bne1 hq (by with_reducible assumption) | exact bne1 (by with_reducible assumption) hq | ((simp only [*, BB, cond_true, cond_false, reduceCtorEq] at hq); done) | (revert hq; with_reducible intro _)) | (with_reducible first | exact True.intro | rfl | refine EntLe.row ?_ | exact LeN.ro rfl | exact LeN.rptr | assumption) | ((with_reducible first | refine WkX.chk ?_ | refine Wk.chk ?_ | refine LeL.chk ?_ | refine LeF.chk ?_ | refine Run.mk ?_); (conv => whnf)) | ((with_reducible show LeO _ _); first | refine LeO.ro ?_ | refine LeO.roCap ?_ | refine LeO.nil ?_ (fun _ => rfl)) | ((with_reducible show LeR _ _ _); first | refine LeR.own rfl rfl rfl ?_ | refine LeR.view rfl rfl rfl ?_ ?_ | refine LeR.ro ?_ | refine LeR.roCap ?_ | refine LeR.nil ?_ (fun _ => rfl)) | ((with_reducible first | show drawOK _ _ = true | show lateOK _ _ = true | show drawOK2 _ _ = true | show drawOK3 _ _ = true); kernel_rfl))
  · omega
  refine loopI Nat [] (fun _ => []) (fun pos => [(5, .iter (a ++ b) pos)]) (fun pos => pos ≤ (a ++ b).size ∧ meltFrom a b pos = meltB a b) (fun pos => (a ++ b).size - pos) 0 ⟨Nat.zero_le _, rfl⟩ (Wk.chk ?_) fun pos hx => ?_
  · ((conv => whnf); repeat' (first | (with_reducible first | exact fun h => h | refine ExE.row (by with_unfolding_all rfl) ?_ | refine And.intro ?_ ?_) | ((with_reducible intro hq); first | exact bne1 hq (by with_reducible assumption) | exact bne1 (by with_reducible assumption) hq | ((simp only [*, BB, cond_true, cond_false, reduceCtorEq] at hq); done) | (revert hq; with_reducible intro _)) | (with_reducible first | exact True.intro | rfl | refine EntLe.row ?_ | exact LeN.ro rfl | exact LeN.rptr | assumption) | ((with_reducible first | refine WkX.chk ?_ | refine Wk.chk ?_ | refine LeL.chk ?_ | refine LeF.chk ?_ | refine Run.mk ?_); (conv => whnf)) | ((with_reducible show LeO _ _); first | refine LeO.ro ?_ | refine LeO.roCap ?_ | refine LeO.nil ?_ (fun _ => rfl)) | ((with_reducible show LeR _ _ _); first | refine LeR.own rfl rfl rfl ?_ | refine LeR.view rfl rfl rfl ?_ ?_ | refine LeR.ro ?_ | refine LeR.roCap ?_ | refine LeR.nil ?_ (fun _ => rfl)) | ((with_reducible first | show drawOK _ _ = true | show lateOK _ _ = true | show drawOK2 _ _ = true | show drawOK3 _ _ = true); kernel_rfl)))
    all_goals first
      | rfl
      | trace_state
  obtain ⟨hp1, hp2⟩ := hx
  by_cases hlt : pos < (a ++ b).size
  · have hw := width_pos (a ++ b) pos
    have hwl := width_le hlt
    have hmax := rune_max (a ++ b) pos
    have hst := melt_step hlt
    have e1 : ((pos : Nat) : Int).toNat = pos := Int.toNat_natCast _
    repeat' (first | (with_reducible first | exact fun h => h | refine ExE.row (by with_unfolding_all rfl) ?_ | refine And.intro ?_ ?_) | ((with_reducible intro hq); first | exact bne1 hq (by with_reducible assumption) | exact bne1 (by with_reducible assumption) hq | ((simp only [*, BB, cond_true, cond_false, reduceCtorEq] at hq); done) | (revert hq; with_reducible intro _)) | (with_reducible first | exact True.intro | rfl | refine EntLe.row ?_ | exact LeN.ro rfl | exact LeN.rptr | assumption) | ((with_reducible first | refine WkX.chk ?_ | refine Wk.chk ?_ | refine LeL.chk ?_ | refine LeF.chk ?_ | refine Run.mk ?_); (conv => whnf)) | ((with_reducible show LeO _ _); first | refine LeO.ro ?_ | refine LeO.roCap ?_ | refine LeO.nil ?_ (fun _ => rfl)) | ((with_reducible show LeR _ _ _); first | refine LeR.own rfl rfl rfl ?_ | refine LeR.view rfl rfl rfl ?_ ?_ | refine LeR.ro ?_ | refine LeR.roCap ?_ | refine LeR.nil ?_ (fun _ => rfl)) | ((with_reducible first | show drawOK _ _ = true | show lateOK _ _ = true | show drawOK2 _ _ = true | show drawOK3 _ _ = true); kernel_rfl))
    any_goals omega
    refine joinI Unit [] (fun _ => [(5, .v (.int .i64 ((Utf8.decode (a ++ b) pos).2 : Nat)))]) (fun _ => []) (fun _ => True) ?_ fun _ _ => ?_
    · by_cases hr : (((Utf8.decode (a ++ b) pos).1 : Nat) : Int) = 65533
      · have k1 : ((((Utf8.decode (a ++ b) pos).1 : Nat) : Int) != 65533) = false := by rw [hr]; rfl
        have hpf : (decide ((badL.size : Int) ≤ (((a ++ b).extract ((pos : Nat) : Int).toNat (a ++ b).size).size : Int)) && decide (((a ++ b).extract ((pos : Nat) : Int).toNat (a ++ b).size).extract 0 ((badL.size : Nat) : Int).toNat = badL)) = decide ((Utf8.decode (a ++ b) pos).2 = 3) := by
          rw [e1]
          exact pref_iff hlt hr
        have h13 := dec_bad hr
        rcases h13 with h13 | h13
        · have hpf := hpf.trans (show decide ((Utf8.decode (a ++ b) pos).2 = 3) = false from by rw [h13]; rfl)
          repeat' (first | (with_reducible refine ⟨(_, badL), ⟨(.cons (.v _) (.cons (.v _) .nil)), ?_⟩, ?_⟩) | (with_reducible refine ex_of () trivial ?_) | (with_reducible first | exact fun h => h | refine ExE.row (by with_unfolding_all rfl) ?_ | refine And.intro ?_ ?_) | ((with_reducible intro hq); first | exact bne1 hq (by with_reducible assumption) | exact bne1 (by with_reducible assumption) hq | ((simp only [*, BB, cond_true, cond_false, reduceCtorEq] at hq); done) | (revert hq; with_reducible intro _)) | (with_reducible first | exact True.intro | rfl | refine EntLe.row ?_ | exact LeN.ro rfl | exact LeN.rptr | assumption) | ((with_reducible first | refine WkX.chk ?_ | refine Wk.chk ?_ | refine LeL.chk ?_ | refine LeF.chk ?_ | refine Run.mk ?_); (conv => whnf)) | ((with_reducible show LeO _ _); first | refine LeO.ro ?_ | refine LeO.roCap ?_ | refine LeO.nil ?_ (fun _ => rfl)) | ((with_reducible show LeR _ _ _); first | refine LeR.own rfl rfl rfl ?_ | refine LeR.view rfl rfl rfl ?_ ?_ | refine LeR.ro ?_ | refine LeR.roCap ?_ | refine LeR.nil ?_ (fun _ => rfl)) | ((with_reducible first | show drawOK _ _ = true | show lateOK _ _ = true | show drawOK2 _ _ = true | show drawOK3 _ _ = true); kernel_rfl))
          all_goals first
            | omega
            | (rw [h13]; rfl)
            | trace_state
        · have hpf := hpf.trans (show decide ((Utf8.decode (a ++ b) pos).2 = 3) = true from by rw [h13]; rfl)
          repeat' (first | (with_reducible refine ⟨(_, badL), ⟨(.cons (.v _) (.cons (.v _) .nil)), ?_⟩, ?_⟩) | (with_reducible refine ex_of () trivial ?_) | (with_reducible first | exact fun h => h | refine ExE.row (by with_unfolding_all rfl) ?_ | refine And.intro ?_ ?_) | ((with_reducible intro hq); first | exact bne1 hq (by with_reducible assumption) | exact bne1 (by with_reducible assumption) hq | ((simp only [*, BB, cond_true, cond_false, reduceCtorEq] at hq); done) | (revert hq; with_reducible intro _)) | (with_reducible first | exact True.intro | rfl | refine EntLe.row ?_ | exact LeN.ro rfl | exact LeN.rptr | assumption) | ((with_reducible first | refine WkX.chk ?_ | refine Wk.chk ?_ | refine LeL.chk ?_ | refine LeF.chk ?_ | refine Run.mk ?_); (conv => whnf)) | ((with_reducible show LeO _ _); first | refine LeO.ro ?_ | refine LeO.roCap ?_ | refine LeO.nil ?_ (fun _ => rfl)) | ((with_reducible show LeR _ _ _); first | refine LeR.own rfl rfl rfl ?_ | refine LeR.view rfl rfl rfl ?_ ?_ | refine LeR.ro ?_ | refine LeR.roCap ?_ | refine LeR.nil ?_ (fun _ => rfl)) | ((with_reducible first | show drawOK _ _ = true | show lateOK _ _ = true | show drawOK2 _ _ = true | show drawOK3 _ _ = true); kernel_rfl))
          all_goals first
            | omega
            | (rw [h13]; rfl)
            | trace_state
      · have k1 : ((((Utf8.decode (a ++ b) pos).1 : Nat) : Int) != 65533) = true := by simpa using hr
        have hg := dec_good hr
        repeat' (first | (with_reducible refine ⟨(((Utf8.decode (a ++ b) pos).1 : Nat) : Int), ⟨(.cons (.v _) .nil), ?_⟩, ?_⟩) | (with_reducible refine ex_of () trivial ?_) | (with_reducible first | exact fun h => h | refine ExE.row (by with_unfolding_all rfl) ?_ | refine And.intro ?_ ?_) | ((with_reducible intro hq); first | exact bne1 hq (by with_reducible assumption) | exact bne1 (by with_reducible assumption) hq | ((simp only [*, BB, cond_true, cond_false, reduceCtorEq] at hq); done) | (revert hq; with_reducible intro _)) | (with_reducible first | exact True.intro | rfl | refine EntLe.row ?_ | exact LeN.ro rfl | exact LeN.rptr | assumption) | ((with_reducible first | refine WkX.chk ?_ | refine Wk.chk ?_ | refine LeL.chk ?_ | refine LeF.chk ?_ | refine Run.mk ?_); (conv => whnf)) | ((with_reducible show LeO _ _); first | refine LeO.ro ?_ | refine LeO.roCap ?_ | refine LeO.nil ?_ (fun _ => rfl)) | ((with_reducible show LeR _ _ _); first | refine LeR.own rfl rfl rfl ?_ | refine LeR.view rfl rfl rfl ?_ ?_ | refine LeR.ro ?_ | refine LeR.roCap ?_ | refine LeR.nil ?_ (fun _ => rfl)) | ((with_reducible first | show drawOK _ _ = true | show lateOK _ _ = true | show drawOK2 _ _ = true | show drawOK3 _ _ = true); kernel_rfl))
        all_goals first
          | omega
          | exact hg
          | trace_state
    cases ho : overB a b pos with
    | true =>
      have k2 : decide (((pos : Nat) : Int) < ((a.size : Nat) : Int)) = true := by
        unfold overB at ho
        rw [Bool.and_eq_true, decide_eq_true_eq, decide_eq_true_eq] at ho
        exact decide_eq_true (by omega)
      have k3 : decide (((a.size : Nat) : Int) < ((pos : Nat) : Int) + (((Utf8.decode (a ++ b) pos).2 : Nat) : Int)) = true := by
        unfold overB at ho
        rw [Bool.and_eq_true, decide_eq_true_eq, decide_eq_true_eq] at ho
        exact decide_eq_true (by omega)
      have hm : meltB a b = true := by rw [← hp2, hst, ho]; rfl
      repeat' (first | (with_reducible first | exact fun h => h | refine ExE.row (by with_unfolding_all rfl) ?_ | refine And.intro ?_ ?_) | ((with_reducible intro hq); first | exact bne1 hq (by with_reducible assumption) | exact bne1 (by with_reducible assumption) hq | ((simp only [*, BB, cond_true, cond_false, reduceCtorEq] at hq); done) | (revert hq; with_reducible intro _)) | (with_reducible first | exact True.intro | rfl | refine EntLe.row ?_ | exact LeN.ro rfl | exact LeN.rptr | assumption) | ((with_reducible first | refine WkX.chk ?_ | refine Wk.chk ?_ | refine LeL.chk ?_ | refine LeF.chk ?_ | refine Run.mk ?_); (conv => whnf)) | ((with_reducible show LeO _ _); first | refine LeO.ro ?_ | refine LeO.roCap ?_ | refine LeO.nil ?_ (fun _ => rfl)) | ((with_reducible show LeR _ _ _); first | refine LeR.own rfl rfl rfl ?_ | refine LeR.view rfl rfl rfl ?_ ?_ | refine LeR.ro ?_ | refine LeR.roCap ?_ | refine LeR.nil ?_ (fun _ => rfl)) | ((with_reducible first | show drawOK _ _ = true | show lateOK _ _ = true | show drawOK2 _ _ = true | show drawOK3 _ _ = true); kernel_rfl))
      all_goals first
        | omega
        | (apply Fits.i64 <;> omega)
        | exact hm.symm
        | trace_state
    | false =>
      have hm : meltFrom a b (pos + (Utf8.decode (a ++ b) pos).2) = meltB a b := by rw [← hp2, hst, ho]; rfl
      have k2 : (decide (((pos : Nat) : Int) < ((a.size : Nat) : Int)) && decide (((a.size : Nat) : Int) < ((pos : Nat) : Int) + (((Utf8.decode (a ++ b) pos).2 : Nat) : Int))) = false := by
        unfold overB at ho
        rw [Bool.and_eq_false_iff, decide_eq_false_iff_not, decide_eq_false_iff_not] at ho
        rw [Bool.and_eq_false_iff, decide_eq_false_iff_not, decide_eq_false_iff_not]
        omega
      repeat' (first | (with_reducible refine ex_of (α := Nat) (pos + (Utf8.decode (a ++ b) pos).2) ⟨⟨?_, hm⟩, ?_⟩ ?_) | (with_reducible first | exact fun h => h | refine ExE.row (by with_unfolding_all rfl) ?_ | refine And.intro ?_ ?_) | ((with_reducible intro hq); first | exact bne1 hq (by with_reducible assumption) | exact bne1 (by with_reducible assumption) hq | ((simp only [*, BB, cond_true, cond_false, reduceCtorEq] at hq); done) | (revert hq; with_reducible intro _)) | (with_reducible first | exact True.intro | rfl | refine EntLe.row ?_ | exact LeN.ro rfl | exact LeN.rptr | assumption) | ((with_reducible first | refine WkX.chk ?_ | refine Wk.chk ?_ | refine LeL.chk ?_ | refine LeF.chk ?_ | refine Run.mk ?_); (conv => whnf)) | ((with_reducible show LeO _ _); first | refine LeO.ro ?_ | refine LeO.roCap ?_ | refine LeO.nil ?_ (fun _ => rfl)) | ((with_reducible show LeR _ _ _); first | refine LeR.own rfl rfl rfl ?_ | refine LeR.view rfl rfl rfl ?_ ?_ | refine LeR.ro ?_ | refine LeR.roCap ?_ | refine LeR.nil ?_ (fun _ => rfl)) | ((with_reducible first | show drawOK _ _ = true | show lateOK _ _ = true | show drawOK2 _ _ = true | show drawOK3 _ _ = true); kernel_rfl))
      all_goals first
        | omega
        | (apply Fits.i64 <;> omega)
        | (show (a ++ b).size - (pos + (Utf8.decode (a ++ b) pos).2) < (a ++ b).size - pos; omega)
        | rfl
        | trace_state
  · have hm : meltB a b = false := by rw [← hp2]; exact melt_end hlt
    repeat' (first | (with_reducible first | exact fun h => h | refine ExE.row (by with_unfolding_all rfl) ?_ | refine And.intro ?_ ?_) | ((with_reducible intro hq); first | exact bne1 hq (by with_reducible assumption) | exact bne1 (by with_reducible assumption) hq | ((simp only [*, BB, cond_true, cond_false, reduceCtorEq] at hq); done) | (revert hq; with_reducible intro _)) | (with_reducible first | exact True.intro | rfl | refine EntLe.row ?_ | exact LeN.ro rfl | exact LeN.rptr | assumption) | ((with_reducible first | refine WkX.chk ?_ | refine Wk.chk ?_ | refine LeL.chk ?_ | refine LeF.chk ?_ | refine Run.mk ?_); (conv => whnf)) | ((with_reducible show LeO _ _); first | refine LeO.ro ?_ | refine LeO.roCap ?_ | refine LeO.nil ?_ (fun _ => rfl)) | ((with_reducible show LeR _ _ _); first | refine LeR.own rfl rfl rfl ?_ | refine LeR.view rfl rfl rfl ?_ ?_ | refine LeR.ro ?_ | refine LeR.roCap ?_ | refine LeR.nil ?_ (fun _ => rfl)) | ((with_reducible first | show drawOK _ _ = true | show lateOK _ _ = true | show drawOK2 _ _ = true | show drawOK3 _ _ = true); kernel_rfl))
    all_goals first
      | omega
      | (exfalso; omega)
      | exact hm.symm
      | trace_state
end Go.SX.Try
/- Contract of the document's Melts. -/
namespace Go.SX.Try
open Go.Proofs Go.Proofs.Try Go.SX.Plain
set_option maxRecDepth 100000
set_option maxHeartbeats 0
set_option linter.unusedSimpArgs false
theorem q_rmelts : fact 59 f59 := ⟨by kernel_rfl, rfl, by kernel_rfl⟩
theorem con_rmelts : Con prog 59 (fun ((a, b) : ByteArray × ByteArray) => [.v (.string a), .v (.string b)]) (fun (a, b) => .sb (meltB a b)) (fun (a, b) => (a ++ b).size ≤ 1100000) := by
  refine Con.of (by kernel_rfl) T_ok CdsOK.nil (.con con_rsigns .nil) 5 [14] q_rmelts.1 q_rmelts.2.1 q_rmelts.2.2 (fun _ => rfl) fun i hs => ?_
  obtain ⟨a, b⟩ := i
  have hs : (a ++ b).size ≤ 1100000 := hs
  have hsz := app_size a b
  have la := sgns_len' a
  have lb := sgns_len' b
  have lc := sgns_len' (a ++ b)
  have na := sgN_le a
  have nb := sgN_le b
  have nc := sgN_le (a ++ b)
  by_cases hl : sgN (a ++ b) = sgN a + sgN b
  · have k1 : ((((sgns (a ++ b)).length : Nat) : Int) != ((sgns a).length : Int) + ((sgns b).length : Int)) = false := by
      rw [bne_eq_false_iff_eq]; omega
    repeat' (first | (with_reducible refine ⟨_, ⟨(.cons (.v _) .nil), ?_⟩, ?_⟩) | (with_reducible first | exact fun h => h | refine ExE.row (by with_unfolding_all rfl) ?_ | refine And.intro ?_ ?_) | ((with_reducible intro hq); first | exact bne1 hq (by with_reducible assumption) | exact bne1 (by with_reducible assumption) hq | ((simp only [*, BB, cond_true, cond_false, reduceCtorEq] at hq); done) | (revert hq; with_reducible intro _)) | (with_reducible first | exact True.intro | rfl | refine EntLe.row ?_ | exact LeN.ro rfl | exact LeN.rptr | assumption) | ((with_reducible first | refine WkX.chk ?_ | refine Wk.chk ?_ | refine LeL.chk ?_ | refine LeF.chk ?_ | refine Run.mk ?_); (conv => whnf)) | ((with_reducible show LeO _ _); first | refine LeO.ro ?_ | refine LeO.roCap ?_ | refine LeO.nil ?_ (fun _ => rfl)) | ((with_reducible show LeR _ _ _); first | refine LeR.own rfl rfl rfl ?_ | refine LeR.view rfl rfl rfl ?_ ?_ | refine LeR.ro ?_ | refine LeR.roCap ?_ | refine LeR.nil ?_ (fun _ => rfl)) | ((with_reducible first | show drawOK _ _ = true | show lateOK _ _ = true | show drawOK2 _ _ = true | show drawOK3 _ _ = true); kernel_rfl))
    all_goals (try (first | omega | (dsimp only; omega) | (apply Fits.i64 <;> omega)))
    refine loopI Nat [] (fun i => [(8, .v (.int .i64 (i : Nat)))]) (fun _ => []) (fun i => i ≤ sgN (a ++ b) ∧ ∀ k, k < i → (sgns (a ++ b)).getD k dSg = (both a b).getD k dSg) (fun i => sgN (a ++ b) - i) 0 ⟨Nat.zero_le _, fun k h => absurd h (Nat.not_lt_zero _)⟩ (Wk.chk ?_) fun i hx => ?_
    · ((conv => whnf); repeat' (first | (with_reducible first | exact fun h => h | refine ExE.row (by with_unfolding_all rfl) ?_ | refine And.intro ?_ ?_) | ((with_reducible intro hq); first | exact bne1 hq (by with_reducible assumption) | exact bne1 (by with_reducible assumption) hq | ((simp only [*, BB, cond_true, cond_false, reduceCtorEq] at hq); done) | (revert hq; with_reducible intro _)) | (with_reducible first | exact True.intro | rfl | refine EntLe.row ?_ | exact LeN.ro rfl | exact LeN.rptr | assumption) | ((with_reducible first | refine WkX.chk ?_ | refine Wk.chk ?_ | refine LeL.chk ?_ | refine LeF.chk ?_ | refine Run.mk ?_); (conv => whnf)) | ((with_reducible show LeO _ _); first | refine LeO.ro ?_ | refine LeO.roCap ?_ | refine LeO.nil ?_ (fun _ => rfl)) | ((with_reducible show LeR _ _ _); first | refine LeR.own rfl rfl rfl ?_ | refine LeR.view rfl rfl rfl ?_ ?_ | refine LeR.ro ?_ | refine LeR.roCap ?_ | refine LeR.nil ?_ (fun _ => rfl)) | ((with_reducible first | show drawOK _ _ = true | show lateOK _ _ = true | show drawOK2 _ _ = true | show drawOK3 _ _ = true); kernel_rfl)))
      all_goals rfl
    obtain ⟨hi1, hi2⟩ := hx
    have e1 : ((i : Nat) : Int).toNat = i := Int.toNat_natCast _
    have hd : C_sgn.d = dSg := rfl
    by_cases hil : i < sgN (a ++ b)
    · have hlt : decide (((i : Nat) : Int) < (((sgns (a ++ b)).length : Nat) : Int)) = true := decide_eq_true (by omega)
      repeat' (first | (with_reducible first | exact fun h => h | refine ExE.row (by with_unfolding_all rfl) ?_ | refine And.intro ?_ ?_) | ((with_reducible intro hq); first | exact bne1 hq (by with_reducible assumption) | exact bne1 (by with_reducible assumption) hq | ((simp only [*, BB, cond_true, cond_false, reduceCtorEq] at hq); done) | (revert hq; with_reducible intro _)) | (with_reducible first | exact True.intro | rfl | refine EntLe.row ?_ | exact LeN.ro rfl | exact LeN.rptr | assumption) | ((with_reducible first | refine WkX.chk ?_ | refine Wk.chk ?_ | refine LeL.chk ?_ | refine LeF.chk ?_ | refine Run.mk ?_); (conv => whnf)) | ((with_reducible show LeO _ _); first | refine LeO.ro ?_ | refine LeO.roCap ?_ | refine LeO.nil ?_ (fun _ => rfl)) | ((with_reducible show LeR _ _ _); first | refine LeR.own rfl rfl rfl ?_ | refine LeR.view rfl rfl rfl ?_ ?_ | refine LeR.ro ?_ | refine LeR.roCap ?_ | refine LeR.nil ?_ (fun _ => rfl)) | ((with_reducible first | show drawOK _ _ = true | show lateOK _ _ = true | show drawOK2 _ _ = true | show drawOK3 _ _ = true); kernel_rfl))
      refine joinI Unit [] (fun _ => []) (fun _ => [(0, .box (sgAV ((both a b).getD i dSg)) 109)]) (fun _ => True) ?_ fun _ _ => ?_
      · by_cases hia : i < sgN a
        · have k2 : decide (((i : Nat) : Int) < (((sgns a).length : Nat) : Int)) = true := decide_eq_true (by omega)
          have hb := both_l (b := b) hia
          repeat' (first | (with_reducible refine ex_of () trivial ?_) | (with_reducible first | exact fun h => h | refine ExE.row (by with_unfolding_all rfl) ?_ | refine And.intro ?_ ?_) | ((with_reducible intro hq); first | exact bne1 hq (by with_reducible assumption) | exact bne1 (by with_reducible assumption) hq | ((simp only [*, BB, cond_true, cond_false, reduceCtorEq] at hq); done) | (revert hq; with_reducible intro _)) | (with_reducible first | exact True.intro | rfl | refine EntLe.row ?_ | exact LeN.ro rfl | exact LeN.rptr | assumption) | ((with_reducible first | refine WkX.chk ?_ | refine Wk.chk ?_ | refine LeL.chk ?_ | refine LeF.chk ?_ | refine Run.mk ?_); (conv => whnf)) | ((with_reducible show LeO _ _); first | refine LeO.ro ?_ | refine LeO.roCap ?_ | refine LeO.nil ?_ (fun _ => rfl)) | ((with_reducible show LeR _ _ _); first | refine LeR.own rfl rfl rfl ?_ | refine LeR.view rfl rfl rfl ?_ ?_ | refine LeR.ro ?_ | refine LeR.roCap ?_ | refine LeR.nil ?_ (fun _ => rfl)) | ((with_reducible first | show drawOK _ _ = true | show lateOK _ _ = true | show drawOK2 _ _ = true | show drawOK3 _ _ = true); kernel_rfl))
          all_goals first
            | omega
            | (rw [hb]; rfl)
            | trace_state
        · have k2 : decide (((i : Nat) : Int) < (((sgns a).length : Nat) : Int)) = false := decide_eq_false (by omega)
          have hb := both_r (a := a) (b := b) (i := i) (by omega) (by omega)
          have hp := posS_le b (i - sgN a)
          have hq := (sgns_at b (i := i - sgN a) (by omega)).1
          have e2 : (((i : Nat) : Int) - (((sgns a).length : Nat) : Int)).toNat = i - sgN a := by omega
          have hat : ((sgns b).getD (i - sgN a) dSg).at = (posS b (i - sgN a) : Nat) := by rw [hq]; rfl
          have hat2 : ((sgns b).getD (((i : Nat) : Int) - (((sgns a).length : Nat) : Int)).toNat C_sgn.d).at = (posS b (i - sgN a) : Nat) := by rw [e2]; exact hat
          repeat' (first | (with_reducible refine ex_of () trivial ?_) | (with_reducible first | exact fun h => h | refine ExE.row (by with_unfolding_all rfl) ?_ | refine And.intro ?_ ?_) | ((with_reducible intro hq); first | exact bne1 hq (by with_reducible assumption) | exact bne1 (by with_reducible assumption) hq | ((simp only [*, BB, cond_true, cond_false, reduceCtorEq] at hq); done) | (revert hq; with_reducible intro _)) | (with_reducible first | exact True.intro | rfl | refine EntLe.row ?_ | exact LeN.ro rfl | exact LeN.rptr | assumption) | ((with_reducible first | refine WkX.chk ?_ | refine Wk.chk ?_ | refine LeL.chk ?_ | refine LeF.chk ?_ | refine Run.mk ?_); (conv => whnf)) | ((with_reducible show LeO _ _); first | refine LeO.ro ?_ | refine LeO.roCap ?_ | refine LeO.nil ?_ (fun _ => rfl)) | ((with_reducible show LeR _ _ _); first | refine LeR.own rfl rfl rfl ?_ | refine LeR.view rfl rfl rfl ?_ ?_ | refine LeR.ro ?_ | refine LeR.roCap ?_ | refine LeR.nil ?_ (fun _ => rfl)) | ((with_reducible first | show drawOK _ _ = true | show lateOK _ _ = true | show drawOK2 _ _ = true | show drawOK3 _ _ = true); kernel_rfl))
          all_goals first
            | omega
            | (apply Fits.i64 <;> omega)
            | (rw [hb, e2]; rfl)
            | trace_state
      by_cases he : (sgns (a ++ b)).getD i dSg = (both a b).getD i dSg
      · have k3 : (((sgns (a ++ b)).getD ((i : Nat) : Int).toNat C_sgn.d).at == ((both a b).getD i dSg).at && (((sgns (a ++ b)).getD ((i : Nat) : Int).toNat C_sgn.d).len == ((both a b).getD i dSg).len && (((sgns (a ++ b)).getD ((i : Nat) : Int).toNat C_sgn.d).rune == ((both a b).getD i dSg).rune && ((sgns (a ++ b)).getD ((i : Nat) : Int).toNat C_sgn.d).bad == ((both a b).getD i dSg).bad))) = true := by
          rw [e1]
          exact (sgEqB_iff _ _).2 he
        have k4 : (!(((sgns (a ++ b)).getD ((i : Nat) : Int).toNat C_sgn.d).at == ((both a b).getD i dSg).at && (((sgns (a ++ b)).getD ((i : Nat) : Int).toNat C_sgn.d).len == ((both a b).getD i dSg).len && (((sgns (a ++ b)).getD ((i : Nat) : Int).toNat C_sgn.d).rune == ((both a b).getD i dSg).rune && ((sgns (a ++ b)).getD ((i : Nat) : Int).toNat C_sgn.d).bad == ((both a b).getD i dSg).bad)))) = false := by rw [k3]; rfl
        have hi3 : ∀ k, k < i + 1 → (sgns (a ++ b)).getD k dSg = (both a b).getD k dSg := fun k hk => by
          by_cases h : k = i
          · rw [h]; exact he
          · exact hi2 k (by omega)
        repeat' (first | (with_reducible refine ex_of (α := Nat) (i + 1) ⟨⟨?_, hi3⟩, ?_⟩ ?_) | (with_reducible first | exact fun h => h | refine ExE.row (by with_unfolding_all rfl) ?_ | refine And.intro ?_ ?_) | ((with_reducible intro hq); first | exact bne1 hq (by with_reducible assumption) | exact bne1 (by with_reducible assumption) hq | ((simp only [*, BB, cond_true, cond_false, reduceCtorEq] at hq); done) | (revert hq; with_reducible intro _)) | (with_reducible first | exact True.intro | rfl | refine EntLe.row ?_ | exact LeN.ro rfl | exact LeN.rptr | assumption) | ((with_reducible first | refine WkX.chk ?_ | refine Wk.chk ?_ | refine LeL.chk ?_ | refine LeF.chk ?_ | refine Run.mk ?_); (conv => whnf)) | ((with_reducible show LeO _ _); first | refine LeO.ro ?_ | refine LeO.roCap ?_ | refine LeO.nil ?_ (fun _ => rfl)) | ((with_reducible show LeR _ _ _); first | refine LeR.own rfl rfl rfl ?_ | refine LeR.view rfl rfl rfl ?_ ?_ | refine LeR.ro ?_ | refine LeR.roCap ?_ | refine LeR.nil ?_ (fun _ => rfl)) | ((with_reducible first | show drawOK _ _ = true | show lateOK _ _ = true | show drawOK2 _ _ = true | show drawOK3 _ _ = true); kernel_rfl))
        all_goals first
          | omega
          | (apply Fits.i64 <;> omega)
          | (show sgN (a ++ b) - (i + 1) < sgN (a ++ b) - i; omega)
          | trace_state
      · have k3 : (((sgns (a ++ b)).getD ((i : Nat) : Int).toNat C_sgn.d).at == ((both a b).getD i dSg).at && (((sgns (a ++ b)).getD ((i : Nat) : Int).toNat C_sgn.d).len == ((both a b).getD i dSg).len && (((sgns (a ++ b)).getD ((i : Nat) : Int).toNat C_sgn.d).rune == ((both a b).getD i dSg).rune && ((sgns (a ++ b)).getD ((i : Nat) : Int).toNat C_sgn.d).bad == ((both a b).getD i dSg).bad))) = false := by
          rw [e1, Bool.eq_false_iff]
          exact fun h => he ((sgEqB_iff _ _).1 h)
        have k4 : (!(((sgns (a ++ b)).getD ((i : Nat) : Int).toNat C_sgn.d).at == ((both a b).getD i dSg).at && (((sgns (a ++ b)).getD ((i : Nat) : Int).toNat C_sgn.d).len == ((both a b).getD i dSg).len && (((sgns (a ++ b)).getD ((i : Nat) : Int).toNat C_sgn.d).rune == ((both a b).getD i dSg).rune && ((sgns (a ++ b)).getD ((i : Nat) : Int).toNat C_sgn.d).bad == ((both a b).getD i dSg).bad)))) = true := by rw [k3]; rfl
        have hm := melt_of_ne he
        repeat' (first | (with_reducible first | exact fun h => h | refine ExE.row (by with_unfolding_all rfl) ?_ | refine And.intro ?_ ?_) | ((with_reducible intro hq); first | exact bne1 hq (by with_reducible assumption) | exact bne1 (by with_reducible assumption) hq | ((simp only [*, BB, cond_true, cond_false, reduceCtorEq] at hq); done) | (revert hq; with_reducible intro _)) | (with_reducible first | exact True.intro | rfl | refine EntLe.row ?_ | exact LeN.ro rfl | exact LeN.rptr | assumption) | ((with_reducible first | refine WkX.chk ?_ | refine Wk.chk ?_ | refine LeL.chk ?_ | refine LeF.chk ?_ | refine Run.mk ?_); (conv => whnf)) | ((with_reducible show LeO _ _); first | refine LeO.ro ?_ | refine LeO.roCap ?_ | refine LeO.nil ?_ (fun _ => rfl)) | ((with_reducible show LeR _ _ _); first | refine LeR.own rfl rfl rfl ?_ | refine LeR.view rfl rfl rfl ?_ ?_ | refine LeR.ro ?_ | refine LeR.roCap ?_ | refine LeR.nil ?_ (fun _ => rfl)) | ((with_reducible first | show drawOK _ _ = true | show lateOK _ _ = true | show drawOK2 _ _ = true | show drawOK3 _ _ = true); kernel_rfl))
        all_goals first
          | omega
          | exact hm.symm
          | trace_state
    · have hlt : decide (((i : Nat) : Int) < (((sgns (a ++ b)).length : Nat) : Int)) = false := decide_eq_false (by omega)
      have hm := melt_of_eq hl fun k hk => hi2 k (by omega)
      repeat' (first | (with_reducible first | exact fun h => h | refine ExE.row (by with_unfolding_all rfl) ?_ | refine And.intro ?_ ?_) | ((with_reducible intro hq); first | exact bne1 hq (by with_reducible assumption) | exact bne1 (by with_reducible assumption) hq | ((simp only [*, BB, cond_true, cond_false, reduceCtorEq] at hq); done) | (revert hq; with_reducible intro _)) | (with_reducible first | exact True.intro | rfl | refine EntLe.row ?_ | exact LeN.ro rfl | exact LeN.rptr | assumption) | ((with_reducible first | refine WkX.chk ?_ | refine Wk.chk ?_ | refine LeL.chk ?_ | refine LeF.chk ?_ | refine Run.mk ?_); (conv => whnf)) | ((with_reducible show LeO _ _); first | refine LeO.ro ?_ | refine LeO.roCap ?_ | refine LeO.nil ?_ (fun _ => rfl)) | ((with_reducible show LeR _ _ _); first | refine LeR.own rfl rfl rfl ?_ | refine LeR.view rfl rfl rfl ?_ ?_ | refine LeR.ro ?_ | refine LeR.roCap ?_ | refine LeR.nil ?_ (fun _ => rfl)) | ((with_reducible first | show drawOK _ _ = true | show lateOK _ _ = true | show drawOK2 _ _ = true | show drawOK3 _ _ = true); kernel_rfl))
      all_goals first
        | exact hm.symm
        | trace_state
  · have k1 : ((((sgns (a ++ b)).length : Nat) : Int) != ((sgns a).length : Int) + ((sgns b).length : Int)) = true := by
      rw [bne_iff_ne]; omega
    have hm := melt_of_len hl
    repeat' (first | (with_reducible refine ⟨_, ⟨(.cons (.v _) .nil), ?_⟩, ?_⟩) | (with_reducible first | exact fun h => h | refine ExE.row (by with_unfolding_all rfl) ?_ | refine And.intro ?_ ?_) | ((with_reducible intro hq); first | exact bne1 hq (by with_reducible assumption) | exact bne1 (by with_reducible assumption) hq | ((simp only [*, BB, cond_true, cond_false, reduceCtorEq] at hq); done) | (revert hq; with_reducible intro _)) | (with_reducible first | exact True.intro | rfl | refine EntLe.row ?_ | exact LeN.ro rfl | exact LeN.rptr | assumption) | ((with_reducible first | refine WkX.chk ?_ | refine Wk.chk ?_ | refine LeL.chk ?_ | refine LeF.chk ?_ | refine Run.mk ?_); (conv => whnf)) | ((with_reducible show LeO _ _); first | refine LeO.ro ?_ | refine LeO.roCap ?_ | refine LeO.nil ?_ (fun _ => rfl)) | ((with_reducible show LeR _ _ _); first | refine LeR.own rfl rfl rfl ?_ | refine LeR.view rfl rfl rfl ?_ ?_ | refine LeR.ro ?_ | refine LeR.roCap ?_ | refine LeR.nil ?_ (fun _ => rfl)) | ((with_reducible first | show drawOK _ _ = true | show lateOK _ _ = true | show drawOK2 _ _ = true | show drawOK3 _ _ = true); kernel_rfl))
    all_goals first
      | omega
      | (dsimp only; omega)
      | (apply Fits.i64 <;> omega)
      | exact hm.symm
      | trace_state
end Go.SX.Try
/- Chapter 7, told plainly: splices. No program here. -/
namespace Go.SX.Plain
def bgn (f t n x : Int) : Int := if t ≤ x then x + (n - (t - f)) else if f < x then f + n else x
def eds (f t n x : Int) : Int := if x ≤ f then x else if t ≤ x then x + (n - (t - f)) else f
def mvS (f t n : Int) (x : Spn) : Spn := ⟨bgn f t n x.frm, eds f t n x.to, x.kind, x.val⟩
def shS (k : Int) (x : Spn) : Spn := ⟨x.frm + k, x.to + k, x.kind, x.val⟩
def posB (x : Spn) : Bool := decide (x.frm < x.to)
def outTo (g : Spn → Spn) (l : List Spn) (i : Nat) : List Spn := ((l.take i).map g).filter posB
theorem outTo_yes {g : Spn → Spn} {l : List Spn} {i : Nat} (h : i < l.length) (hp : posB (g (l.getD i zS)) = true) : outTo g l (i + 1) = outTo g l i ++ [g (l.getD i zS)] := by
  unfold outTo
  rw [← take_one l zS h, List.map_append, List.filter_append, List.map_singleton, List.filter_cons_of_pos hp]
  rfl
theorem outTo_no {g : Spn → Spn} {l : List Spn} {i : Nat} (h : i < l.length) (hp : posB (g (l.getD i zS)) = false) : outTo g l (i + 1) = outTo g l i := by
  unfold outTo
  rw [← take_one l zS h, List.map_append, List.filter_append, List.map_singleton, List.filter_cons_of_neg (by rw [hp]; decide)]
  simp
theorem outTo_len (g : Spn → Spn) (l : List Spn) (i : Nat) : (outTo g l i).length ≤ l.length := by
  unfold outTo
  refine Nat.le_trans (List.length_filter_le _ _) ?_
  rw [List.length_map, List.length_take]
  omega
def shTo (k : Int) (l : List Spn) (i : Nat) : List Spn := (l.take i).map (shS k)
theorem shTo_step {k : Int} {l : List Spn} {i : Nat} (h : i < l.length) : shTo k l (i + 1) = shTo k l i ++ [shS k (l.getD i zS)] := by
  unfold shTo
  rw [← take_one l zS h, List.map_append]
  rfl
theorem shTo_len {k : Int} {l : List Spn} {i : Nat} (h : i ≤ l.length) : (shTo k l i).length = i := by
  unfold shTo
  rw [List.length_map, List.length_take]
  omega
def frontT (s : ByteArray) (f : Int) : ByteArray := s.extract 0 (posS s f.toNat)
def restT (s : ByteArray) (t : Int) : ByteArray := s.extract (posS s t.toNat) s.size
def newT (s : ByteArray) (f t : Int) (s2 : ByteArray) : ByteArray := frontT s f ++ s2 ++ restT s t
def newL (l : List Spn) (f t : Int) (s2 : ByteArray) (l2 : List Spn) : List Spn := outTo (mvS f t (sgN s2 : Nat)) (isort ltO l) (isort ltO l).length ++ shTo f l2 l2.length
def mayB (f t n : Int) : Bool := decide (0 ≤ f) && decide (f ≤ t) && decide (t ≤ n)
def splE (s : ByteArray) (l : List Spn) (f t : Int) (s2 : ByteArray) (l2 : List Spn) : Int :=
  if chkN s.size l (sgN s : Nat) ≠ 0 then chkN s.size l (sgN s : Nat)
  else if chkN s2.size l2 (sgN s2 : Nat) ≠ 0 then chkN s2.size l2 (sgN s2 : Nat)
  else if mayB f t (sgN s : Nat) = false then 1
  else if 4096 < (newT s f t s2).size then 3
  else if meltB (frontT s f) s2 = true ∨ meltB (frontT s f ++ s2) (restT s t) = true then 22
  else if 256 < (newL l f t s2 l2).length then 2
  else 0
def splT (s : ByteArray) (l : List Spn) (f t : Int) (s2 : ByteArray) (l2 : List Spn) : ByteArray := if splE s l f t s2 l2 = 0 then newT s f t s2 else ByteArray.empty
def splL (s : ByteArray) (l : List Spn) (f t : Int) (s2 : ByteArray) (l2 : List Spn) : List Spn := if splE s l f t s2 l2 = 0 then newL l f t s2 l2 else []
theorem bgn_bd {f t n x : Int} (hf : 0 ≤ f) (hft : f ≤ t) (hn : 0 ≤ n) (hx : 0 ≤ x) : 0 ≤ bgn f t n x ∧ bgn f t n x ≤ x + n + f := by
  unfold bgn
  split
  · omega
  · split <;> omega
theorem eds_bd {f t n x : Int} (hf : 0 ≤ f) (hft : f ≤ t) (hn : 0 ≤ n) (hx : 0 ≤ x) : 0 ≤ eds f t n x ∧ eds f t n x ≤ x + n + f := by
  unfold eds
  split
  · omega
  · split <;> omega
end Go.SX.Plain
namespace Go.SX.Plain
section
variable {s : ByteArray} {l : List Spn} {f t : Int} {s2 : ByteArray} {l2 : List Spn}
theorem splE_1 (h1 : ¬ chkN s.size l (sgN s : Nat) = 0) : splE s l f t s2 l2 = chkN s.size l (sgN s : Nat) := by
  unfold splE; rw [if_pos h1]
theorem splE_2 (h1 : chkN s.size l (sgN s : Nat) = 0) (h2 : ¬ chkN s2.size l2 (sgN s2 : Nat) = 0) : splE s l f t s2 l2 = chkN s2.size l2 (sgN s2 : Nat) := by
  unfold splE; rw [if_neg (fun h => h h1), if_pos h2]
theorem splE_3 (h1 : chkN s.size l (sgN s : Nat) = 0) (h2 : chkN s2.size l2 (sgN s2 : Nat) = 0) (h3 : mayB f t (sgN s : Nat) = false) : splE s l f t s2 l2 = 1 := by
  unfold splE; rw [if_neg (fun h => h h1), if_neg (fun h => h h2), if_pos h3]
theorem splE_4 (h1 : chkN s.size l (sgN s : Nat) = 0) (h2 : chkN s2.size l2 (sgN s2 : Nat) = 0) (h3 : mayB f t (sgN s : Nat) = true) (h4 : 4096 < (newT s f t s2).size) : splE s l f t s2 l2 = 3 := by
  unfold splE; rw [if_neg (fun h => h h1), if_neg (fun h => h h2), if_neg (by rw [h3]; decide), if_pos h4]
theorem splE_5 (h1 : chkN s.size l (sgN s : Nat) = 0) (h2 : chkN s2.size l2 (sgN s2 : Nat) = 0) (h3 : mayB f t (sgN s : Nat) = true) (h4 : ¬ 4096 < (newT s f t s2).size) (h5 : meltB (frontT s f) s2 = true ∨ meltB (frontT s f ++ s2) (restT s t) = true) : splE s l f t s2 l2 = 22 := by
  unfold splE; rw [if_neg (fun h => h h1), if_neg (fun h => h h2), if_neg (by rw [h3]; decide), if_neg h4, if_pos h5]
theorem splE_6 (h1 : chkN s.size l (sgN s : Nat) = 0) (h2 : chkN s2.size l2 (sgN s2 : Nat) = 0) (h3 : mayB f t (sgN s : Nat) = true) (h4 : ¬ 4096 < (newT s f t s2).size) (h5 : meltB (frontT s f) s2 = false) (h6 : meltB (frontT s f ++ s2) (restT s t) = false) (h7 : 256 < (newL l f t s2 l2).length) : splE s l f t s2 l2 = 2 := by
  unfold splE; rw [if_neg (fun h => h h1), if_neg (fun h => h h2), if_neg (by rw [h3]; decide), if_neg h4, if_neg (by rw [h5, h6]; simp), if_pos h7]
theorem splE_7 (h1 : chkN s.size l (sgN s : Nat) = 0) (h2 : chkN s2.size l2 (sgN s2 : Nat) = 0) (h3 : mayB f t (sgN s : Nat) = true) (h4 : ¬ 4096 < (newT s f t s2).size) (h5 : meltB (frontT s f) s2 = false) (h6 : meltB (frontT s f ++ s2) (restT s t) = false) (h7 : ¬ 256 < (newL l f t s2 l2).length) : splE s l f t s2 l2 = 0 := by
  unfold splE; rw [if_neg (fun h => h h1), if_neg (fun h => h h2), if_neg (by rw [h3]; decide), if_neg h4, if_neg (by rw [h5, h6]; simp), if_neg h7]
theorem splT_no (h : ¬ splE s l f t s2 l2 = 0) : splT s l f t s2 l2 = ByteArray.empty := if_neg h
theorem splL_no (h : ¬ splE s l f t s2 l2 = 0) : splL s l f t s2 l2 = [] := if_neg h
theorem splT_yes (h : splE s l f t s2 l2 = 0) : splT s l f t s2 l2 = newT s f t s2 := if_pos h
theorem splL_yes (h : splE s l f t s2 l2 = 0) : splL s l f t s2 l2 = newL l f t s2 l2 := if_pos h
end
end Go.SX.Plain
namespace Go.SX.Plain
end Go.SX.Plain
/- A verified symbolic executor for Go code in the model: a nil slice in a box is told as a row that may grow. -/
namespace Go.SX
open Go.RowKit
section
variable {base : Nat} {w0 : Start} {w : World} {E : Env} {stk : List Fr} {gs : List (Array Value)} {m : Mem}
theorem SatM.retell (h : SatM base w0 E stk gs m w) {id b : Nat} {e e' : Ent} (hm : (id, e) ∈ m) (hb : blk (E.h id) = some b) (he : EntR base w E id e') : SatM base w0 E stk gs (setE id e' m) w :=
  h.turn hm hb rfl rfl rfl rfl (fun _ _ => rfl) he
end
def adoptS (A : Sta) (b k : Nat) {α : Type} (C : Cdc α) (e : Nat) (cs : List AV) (t : Nat) : Sta := match A with
  | ⟨fr, stk, m, nx⟩ => ⟨fr, stk, setE b (.box (cs.set k (.own nx)) t) ((nx, .row C [] e none) :: m), nx + 1⟩
theorem Wk.adopt {T : Tys} {A : Sta} {b k : Nat} {α : Type} {C : Cdc α} {e : Nat} (hC : CdOK T e ⟨α, C⟩) {cs : List AV} {t : Nat} (hlt : b < A.nx) (he : getE A.m b = some (.box cs t)) (hk : cs[k]? = some (.v (.slice none 0 0))) :
    Wk A (adoptS A b k C e cs t) := ⟨fun base w0 E gs tm w hnx hS => by
  obtain ⟨fr, stk, m, nx⟩ := A
  obtain ⟨s1, r1⟩ := hS.newNil hnx.fresh hC
  have hne : ¬ nx = b := fun h => by
    have : b < nx := hlt
    omega
  have hm : (b, Ent.box cs t) ∈ (nx, Ent.row C [] e none) :: m := List.mem_cons_of_mem _ (mem_of_getE he)
  obtain ⟨hid, ⟨bb, vs, h1, h2, h3⟩, _⟩ := s1.ents _ _ hm
  refine ⟨_, hnx.add _, s1.retell hm (b := bb) (by rw [h1]; rfl) ⟨bb, vs, h1, h2, ?_⟩⟩
  obtain ⟨hl, hr⟩ := h3
  have hkl : k < cs.length := by
    rcases Nat.lt_or_ge k cs.length with h | h
    · exact h
    · rw [List.getElem?_eq_none h] at hk; cases hk
  have hkv : cs[k] = .v (.slice none 0 0) := by
    rw [List.getElem?_eq_getElem hkl] at hk
    exact Option.some.inj hk
  refine ⟨by rw [List.length_set]; exact hl, fun i h4 h5 => ?_⟩
  rw [List.getElem_set]
  split
  · rename_i hki
    subst hki
    have := hr k hkl h5
    rw [hkv] at this
    rw [this.v_inv]
    exact r1
  · exact hr i (by simpa using h4) h5⟩
theorem loopA {T : Tys} {A : Sta} {ds : List Nat} {G : (ι : Type) → (ι → Sta) → (ι → Prop) → (ι → Nat) → ι → Prop} (b k : Nat) {α : Type} (C : Cdc α) (e : Nat) (hC : CdOK T e ⟨α, C⟩) {cs : List AV} {t : Nat} (hlt : Nat.ble (b + 1) A.nx = true) (he : getE A.m b = some (.box cs t)) (hk : cs[k]? = some (.v (.slice none 0 0)))
    (ι : Type) (xs : List Nat) (F : ι → Fr) (M : ι → Mem) (I : ι → Prop) (μ : ι → Nat) (i0 : ι) (h0 : I i0) (hw : Wk (adoptS A b k C e cs t) (genS (adoptS A b k C e cs t) (xs ++ ds) (F i0) (M i0)))
    (hr : ∀ i, I i → Run (G ι (fun i => genS (adoptS A b k C e cs t) (xs ++ ds) (F i) (M i)) I μ i)) : ∃ (ι : Type) (S : ι → Sta) (I : ι → Prop) (μ : ι → Nat), Base A ds ∧ (∃ i, I i ∧ Wk A (S i)) ∧ ∀ i, I i → Run (G ι S I μ i) :=
  ⟨ι, _, I, μ, ⟨⟩, ⟨i0, h0, (Wk.adopt hC (Nat.le_of_ble_eq_true hlt) he hk).trans hw⟩, hr⟩
end Go.SX
