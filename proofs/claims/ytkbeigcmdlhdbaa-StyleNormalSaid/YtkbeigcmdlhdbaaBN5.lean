/- A verified symbolic executor for Go code in the model, contracts and plain laws that the proofs lean on, BN5. -/
import Derived.Test.YtkbeigcmdlhdbaaBN4
set_option linter.unusedVariables false
set_option linter.unusedSimpArgs false
/- Contracts: utf.Count; style's right, within, crosses, Check. -/
namespace Go.SX.Try
open Go.Proofs Go.Proofs.Try Go.SX.Plain
set_option maxRecDepth 100000
set_option maxHeartbeats 0
set_option linter.unusedSimpArgs false
theorem q_ucount : fact 48 f48 := ⟨by kernel_rfl, rfl, by kernel_rfl⟩
theorem q_sright : fact 65 f65 := ⟨by kernel_rfl, rfl, by kernel_rfl⟩
theorem q_swithin : fact 98 f98 := ⟨by kernel_rfl, rfl, by kernel_rfl⟩
theorem q_scrosses : fact 68 f68 := ⟨by kernel_rfl, rfl, by kernel_rfl⟩
theorem q_scheck : fact 21 f21 := ⟨by kernel_rfl, rfl, by kernel_rfl⟩
theorem q_scheck1 : fact 67 f67 := ⟨by kernel_rfl, rfl, by kernel_rfl⟩
theorem q_contains : fact 66 f66 := ⟨by kernel_rfl, rfl, by kernel_rfl⟩
theorem q_indexF : fact 97 f97 := ⟨by kernel_rfl, rfl, by kernel_rfl⟩
theorem con_ucount : Con prog 48 (fun s : ByteArray => [.v (.string s)]) (fun s => .v (.int .i64 (sgN s : Nat))) (fun s => s.size ≤ 1100000) := by
  refine Con.of (by kernel_rfl) T_ok CdsOK.nil .nil 3 [] q_ucount.1 q_ucount.2.1 q_ucount.2.2 (fun _ => rfl) fun s hs => ?_
  have hs : s.size ≤ 1100000 := hs
  have hn := sgN_le s
  repeat' (first | (with_reducible first | exact fun h => h | refine ExE.row (by with_unfolding_all rfl) ?_ | refine And.intro ?_ ?_) | ((with_reducible intro hq); first | exact bne1 hq (by with_reducible assumption) | exact bne1 (by with_reducible assumption) hq | ((simp only [*, BB, cond_true, cond_false, reduceCtorEq] at hq); done) | (revert hq; with_reducible intro _)) | (with_reducible first | exact True.intro | rfl | refine EntLe.row ?_ | exact LeN.ro rfl | exact LeN.rptr | assumption) | ((with_reducible first | refine WkX.chk ?_ | refine Wk.chk ?_ | refine LeL.chk ?_ | refine LeF.chk ?_ | refine Run.mk ?_); (conv => whnf)) | ((with_reducible show LeO _ _); first | refine LeO.ro ?_ | refine LeO.roCap ?_ | refine LeO.nil ?_ (fun _ => rfl)) | ((with_reducible show LeR _ _ _); first | refine LeR.own rfl rfl rfl ?_ | refine LeR.view rfl rfl rfl ?_ ?_ | refine LeR.ro ?_ | refine LeR.roCap ?_ | refine LeR.nil ?_ (fun _ => rfl)) | ((with_reducible first | show drawOK _ _ = true | show lateOK _ _ = true | show drawOK2 _ _ = true | show drawOK3 _ _ = true); kernel_rfl))
  refine loopI Nat [] (fun i => [(3, .v (.int .i64 (i : Nat)))]) (fun i => [(0, .iter s (posS s i))]) (fun i => i ≤ sgN s) (fun i => sgN s - i) 0 (Nat.zero_le _) (Wk.chk ?_) fun i hi => ?_
  · ((conv => whnf); repeat' (first | (with_reducible first | exact fun h => h | refine ExE.row (by with_unfolding_all rfl) ?_ | refine And.intro ?_ ?_) | ((with_reducible intro hq); first | exact bne1 hq (by with_reducible assumption) | exact bne1 (by with_reducible assumption) hq | ((simp only [*, BB, cond_true, cond_false, reduceCtorEq] at hq); done) | (revert hq; with_reducible intro _)) | (with_reducible first | exact True.intro | rfl | refine EntLe.row ?_ | exact LeN.ro rfl | exact LeN.rptr | assumption) | ((with_reducible first | refine WkX.chk ?_ | refine Wk.chk ?_ | refine LeL.chk ?_ | refine LeF.chk ?_ | refine Run.mk ?_); (conv => whnf)) | ((with_reducible show LeO _ _); first | refine LeO.ro ?_ | refine LeO.roCap ?_ | refine LeO.nil ?_ (fun _ => rfl)) | ((with_reducible show LeR _ _ _); first | refine LeR.own rfl rfl rfl ?_ | refine LeR.view rfl rfl rfl ?_ ?_ | refine LeR.ro ?_ | refine LeR.roCap ?_ | refine LeR.nil ?_ (fun _ => rfl)) | ((with_reducible first | show drawOK _ _ = true | show lateOK _ _ = true | show drawOK2 _ _ = true | show drawOK3 _ _ = true); kernel_rfl)))
    all_goals first
      | rfl
      | (rw [posS_zero]; done)
      | trace_state
  have hi : i ≤ sgN s := hi
  have hat := fun h => (sgns_at s (i := i) h).2
  have hend := posS_end s
  repeat' (first | (with_reducible refine ex_of (α := Nat) (i + 1) ⟨?_, ?_⟩ ?_) | (with_reducible first | exact fun h => h | refine ExE.row (by with_unfolding_all rfl) ?_ | refine And.intro ?_ ?_) | ((with_reducible intro hq); first | exact bne1 hq (by with_reducible assumption) | exact bne1 (by with_reducible assumption) hq | ((simp only [*, BB, cond_true, cond_false, reduceCtorEq] at hq); done) | (revert hq; with_reducible intro _)) | (with_reducible first | exact True.intro | rfl | refine EntLe.row ?_ | exact LeN.ro rfl | exact LeN.rptr | assumption) | ((with_reducible first | refine WkX.chk ?_ | refine Wk.chk ?_ | refine LeL.chk ?_ | refine LeF.chk ?_ | refine Run.mk ?_); (conv => whnf)) | ((with_reducible show LeO _ _); first | refine LeO.ro ?_ | refine LeO.roCap ?_ | refine LeO.nil ?_ (fun _ => rfl)) | ((with_reducible show LeR _ _ _); first | refine LeR.own rfl rfl rfl ?_ | refine LeR.view rfl rfl rfl ?_ ?_ | refine LeR.ro ?_ | refine LeR.roCap ?_ | refine LeR.nil ?_ (fun _ => rfl)) | ((with_reducible first | show drawOK _ _ = true | show lateOK _ _ = true | show drawOK2 _ _ = true | show drawOK3 _ _ = true); kernel_rfl))
  all_goals first
    | omega
    | (apply Fits.i64 <;> omega)
    | (have hlt : i < sgN s := by
         rcases Nat.lt_or_ge i (sgN s) with h | h
         · exact h
         · obtain rfl : i = sgN s := by omega
           omega
       have := hat hlt
       first
       | omega
       | (show sgN s - (i + 1) < sgN s - i; omega)
       | (rw [this.2]; done))
    | (have : ¬ i < sgN s := fun h => by have := hat h; omega
       obtain rfl : i = sgN s := by omega
       rfl)
    | trace_state
theorem con_swithin : Con prog 98 (fun ((x, y) : Spn × Spn) => [.agg (spAV x), .agg (spAV y)]) (fun (x, y) => .sb (withinB x y)) (fun _ => True) := by
  refine Con.of (by kernel_rfl) T_ok CdsOK.nil .nil 3 [] q_swithin.1 q_swithin.2.1 q_swithin.2.2 (fun _ => rfl) fun i hi => ?_
  obtain ⟨x, y⟩ := i
  repeat' (first | (with_reducible first | exact fun h => h | refine ExE.row (by with_unfolding_all rfl) ?_ | refine And.intro ?_ ?_) | ((with_reducible intro hq); first | exact bne1 hq (by with_reducible assumption) | exact bne1 (by with_reducible assumption) hq | ((simp only [*, BB, cond_true, cond_false, reduceCtorEq] at hq); done) | (revert hq; with_reducible intro _)) | (with_reducible first | exact True.intro | rfl | refine EntLe.row ?_ | exact LeN.ro rfl | exact LeN.rptr | assumption) | ((with_reducible first | refine WkX.chk ?_ | refine Wk.chk ?_ | refine LeL.chk ?_ | refine LeF.chk ?_ | refine Run.mk ?_); (conv => whnf)) | ((with_reducible show LeO _ _); first | refine LeO.ro ?_ | refine LeO.roCap ?_ | refine LeO.nil ?_ (fun _ => rfl)) | ((with_reducible show LeR _ _ _); first | refine LeR.own rfl rfl rfl ?_ | refine LeR.view rfl rfl rfl ?_ ?_ | refine LeR.ro ?_ | refine LeR.roCap ?_ | refine LeR.nil ?_ (fun _ => rfl)) | ((with_reducible first | show drawOK _ _ = true | show lateOK _ _ = true | show drawOK2 _ _ = true | show drawOK3 _ _ = true); kernel_rfl))
  all_goals first
    | rfl
    | (unfold withinB; simp_all; done)
    | trace_state
theorem con_scrosses : Con prog 68 (fun ((x, y) : Spn × Spn) => [.agg (spAV x), .agg (spAV y)]) (fun (x, y) => .sb (crossB x y)) (fun _ => True) := by
  refine Con.of (by kernel_rfl) T_ok CdsOK.nil (.con con_swithin .nil) 3 [] q_scrosses.1 q_scrosses.2.1 q_scrosses.2.2 (fun _ => rfl) fun i hi => ?_
  obtain ⟨x, y⟩ := i
  repeat' (first | (with_reducible refine ⟨(_, _), ⟨(.cons (.agg (.cons (.v _) (.cons (.v _) (.cons (.v _) (.cons (.v _) .nil))))) (.cons (.agg (.cons (.v _) (.cons (.v _) (.cons (.v _) (.cons (.v _) .nil))))) .nil)), ?_⟩, ?_⟩) | (with_reducible first | exact fun h => h | refine ExE.row (by with_unfolding_all rfl) ?_ | refine And.intro ?_ ?_) | ((with_reducible intro hq); first | exact bne1 hq (by with_reducible assumption) | exact bne1 (by with_reducible assumption) hq | ((simp only [*, BB, cond_true, cond_false, reduceCtorEq] at hq); done) | (revert hq; with_reducible intro _)) | (with_reducible first | exact True.intro | rfl | refine EntLe.row ?_ | exact LeN.ro rfl | exact LeN.rptr | assumption) | ((with_reducible first | refine WkX.chk ?_ | refine Wk.chk ?_ | refine LeL.chk ?_ | refine LeF.chk ?_ | refine Run.mk ?_); (conv => whnf)) | ((with_reducible show LeO _ _); first | refine LeO.ro ?_ | refine LeO.roCap ?_ | refine LeO.nil ?_ (fun _ => rfl)) | ((with_reducible show LeR _ _ _); first | refine LeR.own rfl rfl rfl ?_ | refine LeR.view rfl rfl rfl ?_ ?_ | refine LeR.ro ?_ | refine LeR.roCap ?_ | refine LeR.nil ?_ (fun _ => rfl)) | ((with_reducible first | show drawOK _ _ = true | show lateOK _ _ = true | show drawOK2 _ _ = true | show drawOK3 _ _ = true); kernel_rfl))
  all_goals first
    | rfl
    | (unfold crossB; simp_all; done)
    | (unfold crossB; cases hc : (decide (x.frm < y.to) && decide (y.frm < x.to)) <;> simp_all; done)
    | trace_state
theorem con_sright : Con prog 65 (fun ((x, n) : Spn × Int) => [.agg (spAV x), .v (.int .i64 n)]) (fun (x, n) => .sb (rightB x n)) (fun _ => True) := by
  refine Con.of (by kernel_rfl) T_ok CdsOK.nil .nil 3 [] q_sright.1 q_sright.2.1 q_sright.2.2 (fun _ => rfl) fun i hi => ?_
  obtain ⟨x, n⟩ := i
  repeat' (first | (with_reducible first | exact fun h => h | refine ExE.row (by with_unfolding_all rfl) ?_ | refine And.intro ?_ ?_) | ((with_reducible intro hq); first | exact bne1 hq (by with_reducible assumption) | exact bne1 (by with_reducible assumption) hq | ((simp only [*, BB, cond_true, cond_false, reduceCtorEq] at hq); done) | (revert hq; with_reducible intro _)) | (with_reducible first | exact True.intro | rfl | refine EntLe.row ?_ | exact LeN.ro rfl | exact LeN.rptr | assumption) | ((with_reducible first | refine WkX.chk ?_ | refine Wk.chk ?_ | refine LeL.chk ?_ | refine LeF.chk ?_ | refine Run.mk ?_); (conv => whnf)) | ((with_reducible show LeO _ _); first | refine LeO.ro ?_ | refine LeO.roCap ?_ | refine LeO.nil ?_ (fun _ => rfl)) | ((with_reducible show LeR _ _ _); first | refine LeR.own rfl rfl rfl ?_ | refine LeR.view rfl rfl rfl ?_ ?_ | refine LeR.ro ?_ | refine LeR.roCap ?_ | refine LeR.nil ?_ (fun _ => rfl)) | ((with_reducible first | show drawOK _ _ = true | show lateOK _ _ = true | show drawOK2 _ _ = true | show drawOK3 _ _ = true); kernel_rfl))
  all_goals first
    | rfl
    | (simp_all; done)
    | (unfold rightB; simp_all; done)
    | (exfalso; simp_all; omega)
    | skip
  all_goals (unfold rightB)
  all_goals first
    | (split <;> simp_all <;> omega)
    | (simp only [Bool.or_eq_true, Bool.or_eq_false_iff, decide_eq_true_eq, decide_eq_false_iff_not, beq_iff_eq, beq_eq_false_iff_ne, ne_eq, Bool.and_eq_true, Bool.and_eq_false_iff] at *
       rw [Bool.eq_iff_iff]
       simp only [Bool.and_eq_true, decide_eq_true_eq]
       split <;> simp_all <;> omega)
    | trace_state
theorem con_scheck : Con prog 21 (fun ((s, l) : ByteArray × List Spn) => [txAV s l]) (fun (s, l) => .v (.int .i64 (chkN s.size l (sgN s : Nat)))) (fun _ => True) := by
  refine Con.of (by kernel_rfl) T_ok CdsOK.nil (.con con_ucount (.con con_sright (.con con_scrosses (.inl (J := []) q_scheck1.1 q_scheck1.2.1 q_scheck1.2.2 (.inl (J := []) q_contains.1 q_contains.2.1 q_contains.2.2 (.inl (J := []) q_indexF.1 q_indexF.2.1 q_indexF.2.2 .nil)))))) 9 [] q_scheck.1 q_scheck.2.1 q_scheck.2.2 (fun _ => rfl) fun i hi => ?_
  obtain ⟨s, l⟩ := i
  by_cases hs : s.size ≤ 4096
  · have k1 : decide ((4096 : Int) < (s.size : Int)) = false := decide_eq_false (by omega)
    by_cases hl : l.length ≤ 256
    · have k2 : decide ((256 : Int) < (l.length : Int)) = false := decide_eq_false (by omega)
      have hn := sgN_le s
      repeat' (first | (with_reducible refine ⟨_, ⟨(.cons (.v _) .nil), ?_⟩, ?_⟩) | (with_reducible first | exact fun h => h | refine ExE.row (by with_unfolding_all rfl) ?_ | refine And.intro ?_ ?_) | ((with_reducible intro hq); first | exact bne1 hq (by with_reducible assumption) | exact bne1 (by with_reducible assumption) hq | ((simp only [*, BB, cond_true, cond_false, reduceCtorEq] at hq); done) | (revert hq; with_reducible intro _)) | (with_reducible first | exact True.intro | rfl | refine EntLe.row ?_ | exact LeN.ro rfl | exact LeN.rptr | assumption) | ((with_reducible first | refine WkX.chk ?_ | refine Wk.chk ?_ | refine LeL.chk ?_ | refine LeF.chk ?_ | refine Run.mk ?_); (conv => whnf)) | ((with_reducible show LeO _ _); first | refine LeO.ro ?_ | refine LeO.roCap ?_ | refine LeO.nil ?_ (fun _ => rfl)) | ((with_reducible show LeR _ _ _); first | refine LeR.own rfl rfl rfl ?_ | refine LeR.view rfl rfl rfl ?_ ?_ | refine LeR.ro ?_ | refine LeR.roCap ?_ | refine LeR.nil ?_ (fun _ => rfl)) | ((with_reducible first | show drawOK _ _ = true | show lateOK _ _ = true | show drawOK2 _ _ = true | show drawOK3 _ _ = true); kernel_rfl))
      · show s.size ≤ 1100000; omega
      have hd : C_spn.d = zS := rfl
      have hz : Hid (chkN s.size l (sgN s : Nat) = if spansB l (sgN s : Nat) = true then 0 else 23) := ⟨by unfold chkN; rw [if_neg (by omega), if_neg (by omega)]⟩
      refine loopI Nat [] (fun i => [(22, .v (.int .i64 (i : Nat)))]) (fun _ => []) (fun i => i ≤ l.length ∧ okTo l (sgN s : Nat) i = true) (fun i => l.length - i) 0 ⟨Nat.zero_le _, rfl⟩ (Wk.chk ?_) fun i hi => ?_
      · ((conv => whnf); repeat' (first | (with_reducible first | exact fun h => h | refine ExE.row (by with_unfolding_all rfl) ?_ | refine And.intro ?_ ?_) | ((with_reducible intro hq); first | exact bne1 hq (by with_reducible assumption) | exact bne1 (by with_reducible assumption) hq | ((simp only [*, BB, cond_true, cond_false, reduceCtorEq] at hq); done) | (revert hq; with_reducible intro _)) | (with_reducible first | exact True.intro | rfl | refine EntLe.row ?_ | exact LeN.ro rfl | exact LeN.rptr | assumption) | ((with_reducible first | refine WkX.chk ?_ | refine Wk.chk ?_ | refine LeL.chk ?_ | refine LeF.chk ?_ | refine Run.mk ?_); (conv => whnf)) | ((with_reducible show LeO _ _); first | refine LeO.ro ?_ | refine LeO.roCap ?_ | refine LeO.nil ?_ (fun _ => rfl)) | ((with_reducible show LeR _ _ _); first | refine LeR.own rfl rfl rfl ?_ | refine LeR.view rfl rfl rfl ?_ ?_ | refine LeR.ro ?_ | refine LeR.roCap ?_ | refine LeR.nil ?_ (fun _ => rfl)) | ((with_reducible first | show drawOK _ _ = true | show lateOK _ _ = true | show drawOK2 _ _ = true | show drawOK3 _ _ = true); kernel_rfl)))
        all_goals rfl
      obtain ⟨hi1, hi2⟩ := hi
      have e1 : ((i : Int)).toNat = i := Int.toNat_natCast _
      by_cases hil : i < l.length
      · have hlt : decide ((i : Int) < (l.length : Int)) = true := decide_eq_true (by omega)
        have hbad : Hid (rightB (l.getD i zS) (sgN s : Nat) = false ∨ aloneTo l (l.getD i zS) i = false → chkN s.size l (sgN s : Nat) = 23) := ⟨fun h => by
          have : okTo l (sgN s : Nat) (i + 1) = false := by
            rw [okTo]
            rcases h with h | h <;> rw [h] <;> simp
          rw [hz.out, if_neg (by unfold spansB; rw [okTo_false (by omega) this]; decide)]⟩
        cases hr : rightB (l.getD i zS) (sgN s : Nat) with
        | false =>
          have hr' : rightB (l.getD ((i : Int)).toNat C_spn.d) (sgN s : Nat) = false := by rw [e1, hd]; exact hr
          repeat' (first | (with_reducible refine ⟨(l.getD ((i : Int)).toNat C_spn.d, _), ⟨(.cons (.agg (.cons (.v _) (.cons (.v _) (.cons (.v _) (.cons (.v _) .nil))))) (.cons (.v _) .nil)), ?_⟩, ?_⟩) | (with_reducible first | exact fun h => h | refine ExE.row (by with_unfolding_all rfl) ?_ | refine And.intro ?_ ?_) | ((with_reducible intro hq); first | exact bne1 hq (by with_reducible assumption) | exact bne1 (by with_reducible assumption) hq | ((simp only [*, BB, cond_true, cond_false, reduceCtorEq] at hq); done) | (revert hq; with_reducible intro _)) | (with_reducible first | exact True.intro | rfl | refine EntLe.row ?_ | exact LeN.ro rfl | exact LeN.rptr | assumption) | ((with_reducible first | refine WkX.chk ?_ | refine Wk.chk ?_ | refine LeL.chk ?_ | refine LeF.chk ?_ | refine Run.mk ?_); (conv => whnf)) | ((with_reducible show LeO _ _); first | refine LeO.ro ?_ | refine LeO.roCap ?_ | refine LeO.nil ?_ (fun _ => rfl)) | ((with_reducible show LeR _ _ _); first | refine LeR.own rfl rfl rfl ?_ | refine LeR.view rfl rfl rfl ?_ ?_ | refine LeR.ro ?_ | refine LeR.roCap ?_ | refine LeR.nil ?_ (fun _ => rfl)) | ((with_reducible first | show drawOK _ _ = true | show lateOK _ _ = true | show drawOK2 _ _ = true | show drawOK3 _ _ = true); kernel_rfl))
          all_goals first
            | omega
            | exact (hbad.out (.inl hr)).symm
            | (rw [hr']; rfl)
            | (exfalso; rw [hr'] at *; simp_all; done)
            | trace_state
        | true =>
          have hr' : rightB (l.getD ((i : Int)).toNat C_spn.d) (sgN s : Nat) = true := by rw [e1, hd]; exact hr
          repeat' (first | (with_reducible refine ⟨(l.getD ((i : Int)).toNat C_spn.d, _), ⟨(.cons (.agg (.cons (.v _) (.cons (.v _) (.cons (.v _) (.cons (.v _) .nil))))) (.cons (.v _) .nil)), ?_⟩, ?_⟩) | (with_reducible first | exact fun h => h | refine ExE.row (by with_unfolding_all rfl) ?_ | refine And.intro ?_ ?_) | ((with_reducible intro hq); first | exact bne1 hq (by with_reducible assumption) | exact bne1 (by with_reducible assumption) hq | ((simp only [*, BB, cond_true, cond_false, reduceCtorEq] at hq); done) | (revert hq; with_reducible intro _)) | (with_reducible first | exact True.intro | rfl | refine EntLe.row ?_ | exact LeN.ro rfl | exact LeN.rptr | assumption) | ((with_reducible first | refine WkX.chk ?_ | refine Wk.chk ?_ | refine LeL.chk ?_ | refine LeF.chk ?_ | refine Run.mk ?_); (conv => whnf)) | ((with_reducible show LeO _ _); first | refine LeO.ro ?_ | refine LeO.roCap ?_ | refine LeO.nil ?_ (fun _ => rfl)) | ((with_reducible show LeR _ _ _); first | refine LeR.own rfl rfl rfl ?_ | refine LeR.view rfl rfl rfl ?_ ?_ | refine LeR.ro ?_ | refine LeR.roCap ?_ | refine LeR.nil ?_ (fun _ => rfl)) | ((with_reducible first | show drawOK _ _ = true | show lateOK _ _ = true | show drawOK2 _ _ = true | show drawOK3 _ _ = true); kernel_rfl))
          any_goals omega
          have htl : (l.take ((i : Int)).toNat).length = i := by rw [e1, List.length_take]; omega
          refine loopI Nat [] (fun j => [(8, .v (.int .i64 (j : Nat)))]) (fun _ => []) (fun j => j ≤ i ∧ aloneTo l (l.getD i zS) j = true) (fun j => i - j) 0 ⟨Nat.zero_le _, by unfold aloneTo; simp⟩ (Wk.chk ?_) fun j hj => ?_
          · ((conv => whnf); repeat' (first | (with_reducible first | exact fun h => h | refine ExE.row (by with_unfolding_all rfl) ?_ | refine And.intro ?_ ?_) | ((with_reducible intro hq); first | exact bne1 hq (by with_reducible assumption) | exact bne1 (by with_reducible assumption) hq | ((simp only [*, BB, cond_true, cond_false, reduceCtorEq] at hq); done) | (revert hq; with_reducible intro _)) | (with_reducible first | exact True.intro | rfl | refine EntLe.row ?_ | exact LeN.ro rfl | exact LeN.rptr | assumption) | ((with_reducible first | refine WkX.chk ?_ | refine Wk.chk ?_ | refine LeL.chk ?_ | refine LeF.chk ?_ | refine Run.mk ?_); (conv => whnf)) | ((with_reducible show LeO _ _); first | refine LeO.ro ?_ | refine LeO.roCap ?_ | refine LeO.nil ?_ (fun _ => rfl)) | ((with_reducible show LeR _ _ _); first | refine LeR.own rfl rfl rfl ?_ | refine LeR.view rfl rfl rfl ?_ ?_ | refine LeR.ro ?_ | refine LeR.roCap ?_ | refine LeR.nil ?_ (fun _ => rfl)) | ((with_reducible first | show drawOK _ _ = true | show lateOK _ _ = true | show drawOK2 _ _ = true | show drawOK3 _ _ = true); kernel_rfl)))
            all_goals rfl
          obtain ⟨hj1, hj2⟩ := hj
          have e2 : ((j : Int)).toNat = j := Int.toNat_natCast _
          by_cases hji : j < i
          · have hlt : decide ((j : Int) < ((l.take ((i : Int)).toNat).length : Int)) = true := decide_eq_true (by omega)
            have hg : (l.take ((i : Int)).toNat).getD ((j : Int)).toNat C_spn.d = l.getD j zS := by
              rw [e1, e2, hd]
              simp [List.getD_eq_getElem?_getD, List.getElem?_take, hji]
            have hsucc := aloneTo_succ (l := l) (x := l.getD i zS) (k := j) (by omega)
            have hcc := Bool.eq_false_or_eq_true (crossB (l.getD i zS) (l.getD j zS))
            rcases hcc with hc | hc
            ·
              have hc' : crossB (l.getD ((i : Int)).toNat C_spn.d) ((l.take ((i : Int)).toNat).getD ((j : Int)).toNat C_spn.d) = true := by rw [hg, e1, hd]; exact hc
              have hb : aloneTo l (l.getD i zS) i = false := aloneTo_false (i := j + 1) (by omega) (by rw [hsucc, hc]; simp)
              have hge : decide ((0 : Int) ≤ (j : Int)) = true := decide_eq_true (by omega)
              repeat' (first | (with_reducible refine ⟨(l.getD ((i : Int)).toNat C_spn.d, (l.take ((i : Int)).toNat).getD ((j : Int)).toNat C_spn.d), ⟨(.cons (.agg (.cons (.v _) (.cons (.v _) (.cons (.v _) (.cons (.v _) .nil))))) (.cons (.agg (.cons (.v _) (.cons (.v _) (.cons (.v _) (.cons (.v _) .nil))))) .nil)), ?_⟩, ?_⟩) | (with_reducible first | exact fun h => h | refine ExE.row (by with_unfolding_all rfl) ?_ | refine And.intro ?_ ?_) | ((with_reducible intro hq); first | exact bne1 hq (by with_reducible assumption) | exact bne1 (by with_reducible assumption) hq | ((simp only [*, BB, cond_true, cond_false, reduceCtorEq] at hq); done) | (revert hq; with_reducible intro _)) | (with_reducible first | exact True.intro | rfl | refine EntLe.row ?_ | exact LeN.ro rfl | exact LeN.rptr | assumption) | ((with_reducible first | refine WkX.chk ?_ | refine Wk.chk ?_ | refine LeL.chk ?_ | refine LeF.chk ?_ | refine Run.mk ?_); (conv => whnf)) | ((with_reducible show LeO _ _); first | refine LeO.ro ?_ | refine LeO.roCap ?_ | refine LeO.nil ?_ (fun _ => rfl)) | ((with_reducible show LeR _ _ _); first | refine LeR.own rfl rfl rfl ?_ | refine LeR.view rfl rfl rfl ?_ ?_ | refine LeR.ro ?_ | refine LeR.roCap ?_ | refine LeR.nil ?_ (fun _ => rfl)) | ((with_reducible first | show drawOK _ _ = true | show lateOK _ _ = true | show drawOK2 _ _ = true | show drawOK3 _ _ = true); kernel_rfl))
              all_goals first
                | omega
                | exact (hbad.out (.inr hb)).symm
                | (rw [hc']; rfl)
                | trace_state
            ·
              have hc' : crossB (l.getD ((i : Int)).toNat C_spn.d) ((l.take ((i : Int)).toNat).getD ((j : Int)).toNat C_spn.d) = false := by rw [hg, e1, hd]; exact hc
              have hsucc : aloneTo l (l.getD i zS) (j + 1) = true := by rw [hsucc, hj2, hc]; rfl
              repeat' (first | (with_reducible refine ⟨(l.getD ((i : Int)).toNat C_spn.d, (l.take ((i : Int)).toNat).getD ((j : Int)).toNat C_spn.d), ⟨(.cons (.agg (.cons (.v _) (.cons (.v _) (.cons (.v _) (.cons (.v _) .nil))))) (.cons (.agg (.cons (.v _) (.cons (.v _) (.cons (.v _) (.cons (.v _) .nil))))) .nil)), ?_⟩, ?_⟩) | (with_reducible refine ex_of (α := Nat) (j + 1) ⟨⟨?_, hsucc⟩, ?_⟩ ?_) | (with_reducible first | exact fun h => h | refine ExE.row (by with_unfolding_all rfl) ?_ | refine And.intro ?_ ?_) | ((with_reducible intro hq); first | exact bne1 hq (by with_reducible assumption) | exact bne1 (by with_reducible assumption) hq | ((simp only [*, BB, cond_true, cond_false, reduceCtorEq] at hq); done) | (revert hq; with_reducible intro _)) | (with_reducible first | exact True.intro | rfl | refine EntLe.row ?_ | exact LeN.ro rfl | exact LeN.rptr | assumption) | ((with_reducible first | refine WkX.chk ?_ | refine Wk.chk ?_ | refine LeL.chk ?_ | refine LeF.chk ?_ | refine Run.mk ?_); (conv => whnf)) | ((with_reducible show LeO _ _); first | refine LeO.ro ?_ | refine LeO.roCap ?_ | refine LeO.nil ?_ (fun _ => rfl)) | ((with_reducible show LeR _ _ _); first | refine LeR.own rfl rfl rfl ?_ | refine LeR.view rfl rfl rfl ?_ ?_ | refine LeR.ro ?_ | refine LeR.roCap ?_ | refine LeR.nil ?_ (fun _ => rfl)) | ((with_reducible first | show drawOK _ _ = true | show lateOK _ _ = true | show drawOK2 _ _ = true | show drawOK3 _ _ = true); kernel_rfl))
              all_goals first
                | omega
                | (apply Fits.i64 <;> omega)
                | (show i - (j + 1) < i - j; omega)
                | (rw [hc']; rfl)
                | trace_state
          have hlt : decide ((j : Int) < ((l.take ((i : Int)).toNat).length : Int)) = false := decide_eq_false (by omega)
          have hjj : j = i := by omega
          subst hjj
          have hok : okTo l (sgN s : Nat) (j + 1) = true := by rw [okTo, hi2, hr, hj2]; rfl
          repeat' (first | (with_reducible refine ex_of (α := Nat) (j + 1) ⟨⟨?_, hok⟩, ?_⟩ ?_) | (with_reducible first | exact fun h => h | refine ExE.row (by with_unfolding_all rfl) ?_ | refine And.intro ?_ ?_) | ((with_reducible intro hq); first | exact bne1 hq (by with_reducible assumption) | exact bne1 (by with_reducible assumption) hq | ((simp only [*, BB, cond_true, cond_false, reduceCtorEq] at hq); done) | (revert hq; with_reducible intro _)) | (with_reducible first | exact True.intro | rfl | refine EntLe.row ?_ | exact LeN.ro rfl | exact LeN.rptr | assumption) | ((with_reducible first | refine WkX.chk ?_ | refine Wk.chk ?_ | refine LeL.chk ?_ | refine LeF.chk ?_ | refine Run.mk ?_); (conv => whnf)) | ((with_reducible show LeO _ _); first | refine LeO.ro ?_ | refine LeO.roCap ?_ | refine LeO.nil ?_ (fun _ => rfl)) | ((with_reducible show LeR _ _ _); first | refine LeR.own rfl rfl rfl ?_ | refine LeR.view rfl rfl rfl ?_ ?_ | refine LeR.ro ?_ | refine LeR.roCap ?_ | refine LeR.nil ?_ (fun _ => rfl)) | ((with_reducible first | show drawOK _ _ = true | show lateOK _ _ = true | show drawOK2 _ _ = true | show drawOK3 _ _ = true); kernel_rfl))
          all_goals first
            | omega
            | (apply Fits.i64 <;> omega)
            | (show l.length - (j + 1) < l.length - j; omega)
            | (exfalso; simp_all; done)
            | trace_state
      have hlt : decide ((i : Int) < (l.length : Int)) = false := decide_eq_false (by omega)
      obtain rfl : i = l.length := by omega
      repeat' (first | (with_reducible first | exact fun h => h | refine ExE.row (by with_unfolding_all rfl) ?_ | refine And.intro ?_ ?_) | ((with_reducible intro hq); first | exact bne1 hq (by with_reducible assumption) | exact bne1 (by with_reducible assumption) hq | ((simp only [*, BB, cond_true, cond_false, reduceCtorEq] at hq); done) | (revert hq; with_reducible intro _)) | (with_reducible first | exact True.intro | rfl | refine EntLe.row ?_ | exact LeN.ro rfl | exact LeN.rptr | assumption) | ((with_reducible first | refine WkX.chk ?_ | refine Wk.chk ?_ | refine LeL.chk ?_ | refine LeF.chk ?_ | refine Run.mk ?_); (conv => whnf)) | ((with_reducible show LeO _ _); first | refine LeO.ro ?_ | refine LeO.roCap ?_ | refine LeO.nil ?_ (fun _ => rfl)) | ((with_reducible show LeR _ _ _); first | refine LeR.own rfl rfl rfl ?_ | refine LeR.view rfl rfl rfl ?_ ?_ | refine LeR.ro ?_ | refine LeR.roCap ?_ | refine LeR.nil ?_ (fun _ => rfl)) | ((with_reducible first | show drawOK _ _ = true | show lateOK _ _ = true | show drawOK2 _ _ = true | show drawOK3 _ _ = true); kernel_rfl))
      all_goals first
        | (rw [hz.out, if_pos (show spansB l (sgN s : Nat) = true from hi2)]; done)
        | trace_state
    · have k2 : decide ((256 : Int) < (l.length : Int)) = true := decide_eq_true (by omega)
      repeat' (first | (with_reducible first | exact fun h => h | refine ExE.row (by with_unfolding_all rfl) ?_ | refine And.intro ?_ ?_) | ((with_reducible intro hq); first | exact bne1 hq (by with_reducible assumption) | exact bne1 (by with_reducible assumption) hq | ((simp only [*, BB, cond_true, cond_false, reduceCtorEq] at hq); done) | (revert hq; with_reducible intro _)) | (with_reducible first | exact True.intro | rfl | refine EntLe.row ?_ | exact LeN.ro rfl | exact LeN.rptr | assumption) | ((with_reducible first | refine WkX.chk ?_ | refine Wk.chk ?_ | refine LeL.chk ?_ | refine LeF.chk ?_ | refine Run.mk ?_); (conv => whnf)) | ((with_reducible show LeO _ _); first | refine LeO.ro ?_ | refine LeO.roCap ?_ | refine LeO.nil ?_ (fun _ => rfl)) | ((with_reducible show LeR _ _ _); first | refine LeR.own rfl rfl rfl ?_ | refine LeR.view rfl rfl rfl ?_ ?_ | refine LeR.ro ?_ | refine LeR.roCap ?_ | refine LeR.nil ?_ (fun _ => rfl)) | ((with_reducible first | show drawOK _ _ = true | show lateOK _ _ = true | show drawOK2 _ _ = true | show drawOK3 _ _ = true); kernel_rfl))
      all_goals first
        | (unfold chkN; rw [if_neg (by omega), if_pos (by omega)]; done)
        | trace_state
  · have k1 : decide ((4096 : Int) < (s.size : Int)) = true := decide_eq_true (by omega)
    repeat' (first | (with_reducible first | exact fun h => h | refine ExE.row (by with_unfolding_all rfl) ?_ | refine And.intro ?_ ?_) | ((with_reducible intro hq); first | exact bne1 hq (by with_reducible assumption) | exact bne1 (by with_reducible assumption) hq | ((simp only [*, BB, cond_true, cond_false, reduceCtorEq] at hq); done) | (revert hq; with_reducible intro _)) | (with_reducible first | exact True.intro | rfl | refine EntLe.row ?_ | exact LeN.ro rfl | exact LeN.rptr | assumption) | ((with_reducible first | refine WkX.chk ?_ | refine Wk.chk ?_ | refine LeL.chk ?_ | refine LeF.chk ?_ | refine Run.mk ?_); (conv => whnf)) | ((with_reducible show LeO _ _); first | refine LeO.ro ?_ | refine LeO.roCap ?_ | refine LeO.nil ?_ (fun _ => rfl)) | ((with_reducible show LeR _ _ _); first | refine LeR.own rfl rfl rfl ?_ | refine LeR.view rfl rfl rfl ?_ ?_ | refine LeR.ro ?_ | refine LeR.roCap ?_ | refine LeR.nil ?_ (fun _ => rfl)) | ((with_reducible first | show drawOK _ _ = true | show lateOK _ _ = true | show drawOK2 _ _ = true | show drawOK3 _ _ = true); kernel_rfl))
    all_goals first
      | (unfold chkN; rw [if_pos (by omega)]; done)
      | trace_state
end Go.SX.Try
/- Contracts of the document's chapter 7: fits, within, cross, Check. -/
namespace Go.SX.Try
open Go.Proofs Go.Proofs.Try Go.SX.Plain
set_option maxRecDepth 100000
set_option maxHeartbeats 0
set_option linter.unusedSimpArgs false
abbrev txO (s : ByteArray) (l : List Spn) : AV := .agg [.v (.string s), spO l]
end Go.SX.Try
/- Contract of style.looks. -/
namespace Go.SX.Try
open Go.Proofs Go.Proofs.Try Go.SX.Plain
set_option maxRecDepth 100000
set_option maxHeartbeats 0
set_option linter.unusedSimpArgs false
theorem q_sset : fact 83 f83 := ⟨by kernel_rfl, rfl, by kernel_rfl⟩
theorem q_slooks : fact 72 f72 := ⟨by kernel_rfl, rfl, by kernel_rfl⟩
abbrev atAV (x : Atr) : List AV := [.sb x.bold, .sb x.italic, .sb x.under, .sb x.strike, .v (.int .i64 x.colour)]
def C_att : Cdc Atr where
  size := 5
  enc := atAV
  dec l := match l with
    | [a, b, c, d, .v (.int _ e)] => ⟨bOf a, bOf b, bOf c, bOf d, e⟩
    | _ => zA
  d := zA
def D_att : Cds := [(45, ⟨Atr, C_att⟩)]
theorem D_att_ok : CdsOK T D_att := .cons ⟨fun _ => rfl, by decide, _, rfl, rfl, by decide⟩ .nil
abbrev lkO (l : List Atr) : AV := .ro 5 C_att.enc C_att.d l none
abbrev lkR (l : List Atr) : AV := .ro 5 C_att.enc C_att.d l none true
structure OkT (s : ByteArray) (l : List Spn) : Prop where
  size : s.size ≤ 4096
  len : l.length ≤ 256
  spans : spansB l (sgN s : Nat) = true
theorem OkT.of {s : ByteArray} {l : List Spn} (h : chkN s.size l (sgN s : Nat) = 0) : OkT s l := by
  unfold chkN at h
  split at h
  · cases h
  · split at h
    · cases h
    · split at h
      · rename_i h1 h2 h3
        exact ⟨by omega, by omega, h3⟩
      · cases h
theorem OkT.eq {s : ByteArray} {l : List Spn} (h : OkT s l) : chkN s.size l (sgN s : Nat) = 0 := by
  obtain ⟨h1, h2, h3⟩ := h
  unfold chkN
  rw [if_neg (by omega), if_neg (by omega), if_pos h3]
theorem setA_1 {x : Spn} (h : (x.kind == 1) = true) (y : Atr) : (⟨true, y.italic, y.under, y.strike, y.colour⟩ : Atr) = setA y x := by
  rw [beq_iff_eq] at h
  unfold setA
  rw [if_pos h]
theorem setA_2 {x : Spn} (h : (x.kind == 2) = true) (y : Atr) : (⟨y.bold, true, y.under, y.strike, y.colour⟩ : Atr) = setA y x := by
  rw [beq_iff_eq] at h
  unfold setA
  rw [if_neg (by omega), if_pos h]
theorem setA_3 {x : Spn} (h : (x.kind == 3) = true) (y : Atr) : (⟨y.bold, y.italic, true, y.strike, y.colour⟩ : Atr) = setA y x := by
  rw [beq_iff_eq] at h
  unfold setA
  rw [if_neg (by omega), if_neg (by omega), if_pos h]
theorem setA_4 {x : Spn} (h : (x.kind == 4) = true) (y : Atr) : (⟨y.bold, y.italic, y.under, true, y.colour⟩ : Atr) = setA y x := by
  rw [beq_iff_eq] at h
  unfold setA
  rw [if_neg (by omega), if_neg (by omega), if_neg (by omega), if_pos h]
theorem setA_5 {x : Spn} (h1 : (x.kind == 1) = false) (h2 : (x.kind == 2) = false) (h3 : (x.kind == 3) = false) (h4 : (x.kind == 4) = false) (y : Atr) : (⟨y.bold, y.italic, y.under, y.strike, x.val + 1⟩ : Atr) = setA y x := by
  rw [beq_eq_false_iff_ne] at h1 h2 h3 h4
  unfold setA
  rw [if_neg h1, if_neg h2, if_neg h3, if_neg h4]
theorem isort_right {l : List Spn} {n : Int} (h : spansB l n = true) {i : Nat} (hi : i < (isort ltO l).length) : rightB ((isort ltO l).getD i zS) n = true := by
  have hm : (isort ltO l).getD i zS ∈ isort ltO l := by
    simp [List.getD_eq_getElem?_getD, hi]
  rcases mem_mrg.1 hm with h1 | h1
  · cases h1
  · exact spans_right h h1
theorem con_slooks : Con prog 72 (fun ((s, l) : ByteArray × List Spn) => [txAV s l]) (fun (s, l) => lkO (looksL (sgN s) l)) (fun (s, l) => OkT s l) := by
  refine Con.of (by kernel_rfl) T_ok D_att_ok (.con con_ucount (.con con_souter (.inl (J := []) q_sset.1 q_sset.2.1 q_sset.2.2 .nil))) 5 [] q_slooks.1 q_slooks.2.1 q_slooks.2.2 (fun _ => rfl) fun i hi => ?_
  obtain ⟨s, l⟩ := i
  obtain ⟨hs, hl, hsp⟩ : OkT s l := hi
  have hn := sgN_le s
  have hd : C_spn.d = zS := rfl
  have hda : C_att.d = zA := rfl
  have hin := (spans_in hsp).isort
  have hLl : (isort ltO l).length = l.length := isort_len l
  repeat' (first | (with_reducible refine ⟨_, ⟨(.cons (.v _) .nil), ?_⟩, ?_⟩) | (with_reducible refine ⟨(s, l), ⟨(.cons (.agg (.cons (.v _) (.cons (.lent _ _ _ _ _ _) .nil))) .nil), ?_⟩, ?_⟩) | (with_reducible first | exact fun h => h | refine ExE.row (by with_unfolding_all rfl) ?_ | refine And.intro ?_ ?_) | ((with_reducible intro hq); first | exact bne1 hq (by with_reducible assumption) | exact bne1 (by with_reducible assumption) hq | ((simp only [*, BB, cond_true, cond_false, reduceCtorEq] at hq); done) | (revert hq; with_reducible intro _)) | (with_reducible first | exact True.intro | rfl | refine EntLe.row ?_ | exact LeN.ro rfl | exact LeN.rptr | assumption) | ((with_reducible first | refine WkX.chk ?_ | refine Wk.chk ?_ | refine LeL.chk ?_ | refine LeF.chk ?_ | refine Run.mk ?_); (conv => whnf)) | ((with_reducible show LeO _ _); first | refine LeO.ro ?_ | refine LeO.roCap ?_ | refine LeO.nil ?_ (fun _ => rfl)) | ((with_reducible show LeR _ _ _); first | refine LeR.own rfl rfl rfl ?_ | refine LeR.view rfl rfl rfl ?_ ?_ | refine LeR.ro ?_ | refine LeR.roCap ?_ | refine LeR.nil ?_ (fun _ => rfl)) | ((with_reducible first | show drawOK _ _ = true | show lateOK _ _ = true | show drawOK2 _ _ = true | show drawOK3 _ _ = true); kernel_rfl))
  all_goals first
    | rfl
    | omega
    | (dsimp only; omega)
    | (show l.length ≤ 1100000; omega)
    | skip
  refine loopI Nat [] (fun i => [(14, .v (.int .i64 (i : Nat)))]) (fun i => [(2, .row C_att (lookTo (sgN s) (isort ltO l) i) 45 none)]) (fun i => i ≤ (isort ltO l).length) (fun i => (isort ltO l).length - i) 0 (Nat.zero_le _) (Wk.chk ?_) fun i hi => ?_
  · ((conv => whnf); repeat' (first | (with_reducible first | exact fun h => h | refine ExE.row (by with_unfolding_all rfl) ?_ | refine And.intro ?_ ?_) | ((with_reducible intro hq); first | exact bne1 hq (by with_reducible assumption) | exact bne1 (by with_reducible assumption) hq | ((simp only [*, BB, cond_true, cond_false, reduceCtorEq] at hq); done) | (revert hq; with_reducible intro _)) | (with_reducible first | exact True.intro | rfl | refine EntLe.row ?_ | exact LeN.ro rfl | exact LeN.rptr | assumption) | ((with_reducible first | refine WkX.chk ?_ | refine Wk.chk ?_ | refine LeL.chk ?_ | refine LeF.chk ?_ | refine Run.mk ?_); (conv => whnf)) | ((with_reducible show LeO _ _); first | refine LeO.ro ?_ | refine LeO.roCap ?_ | refine LeO.nil ?_ (fun _ => rfl)) | ((with_reducible show LeR _ _ _); first | refine LeR.own rfl rfl rfl ?_ | refine LeR.view rfl rfl rfl ?_ ?_ | refine LeR.ro ?_ | refine LeR.roCap ?_ | refine LeR.nil ?_ (fun _ => rfl)) | ((with_reducible first | show drawOK _ _ = true | show lateOK _ _ = true | show drawOK2 _ _ = true | show drawOK3 _ _ = true); kernel_rfl)))
    all_goals first
      | rfl
      | exact EntLe.row rfl
      | trace_state
  have hi : i ≤ (isort ltO l).length := hi
  have e1 : ((i : Int)).toNat = i := Int.toNat_natCast _
  by_cases hil : i < (isort ltO l).length
  · have hlt : decide ((i : Int) < ((isort ltO l).length : Int)) = true := decide_eq_true (by omega)
    have hxb := hin.at hil
    have hxr := right_bd (isort_right hsp hil)
    have hll := lookTo_len hin i hi
    have hsc := lookTo_succ (sgN s) (isort ltO l) hil
    obtain ⟨x, hx⟩ : ∃ x, x = (isort ltO l).getD i zS := ⟨_, rfl⟩
    rw [← hx] at hxb hsc hxr
    have hxx : (isort ltO l).getD ((i : Int)).toNat C_spn.d = x := by rw [e1, hd, hx]
    obtain ⟨P, hP⟩ : ∃ P, P = lookTo (sgN s) (isort ltO l) i := ⟨_, rfl⟩
    rw [← hP] at hll hsc
    obtain ⟨a, ha⟩ := Int.eq_ofNat_of_zero_le hxb.1
    obtain ⟨b, hb⟩ := Int.eq_ofNat_of_zero_le (show 0 ≤ x.to by omega)
    have hab : a < b ∧ b ≤ sgN s := by omega
    have hpnt : pnt P x = pntTo P x a b := by unfold pnt; rw [ha, hb]; rfl
    repeat' (first | (with_reducible first | exact fun h => h | refine ExE.row (by with_unfolding_all rfl) ?_ | refine And.intro ?_ ?_) | ((with_reducible intro hq); first | exact bne1 hq (by with_reducible assumption) | exact bne1 (by with_reducible assumption) hq | ((simp only [*, BB, cond_true, cond_false, reduceCtorEq] at hq); done) | (revert hq; with_reducible intro _)) | (with_reducible first | exact True.intro | rfl | refine EntLe.row ?_ | exact LeN.ro rfl | exact LeN.rptr | assumption) | ((with_reducible first | refine WkX.chk ?_ | refine Wk.chk ?_ | refine LeL.chk ?_ | refine LeF.chk ?_ | refine Run.mk ?_); (conv => whnf)) | ((with_reducible show LeO _ _); first | refine LeO.ro ?_ | refine LeO.roCap ?_ | refine LeO.nil ?_ (fun _ => rfl)) | ((with_reducible show LeR _ _ _); first | refine LeR.own rfl rfl rfl ?_ | refine LeR.view rfl rfl rfl ?_ ?_ | refine LeR.ro ?_ | refine LeR.roCap ?_ | refine LeR.nil ?_ (fun _ => rfl)) | ((with_reducible first | show drawOK _ _ = true | show lateOK _ _ = true | show drawOK2 _ _ = true | show drawOK3 _ _ = true); kernel_rfl))
    any_goals omega
    refine loopI Nat [] (fun k => [(6, .v (.int .i64 (k : Nat)))]) (fun k => [(2, .row C_att (pntTo P x a k) 45 none)]) (fun k => a ≤ k ∧ k ≤ b) (fun k => b - k) a ⟨Nat.le_refl _, by omega⟩ (Wk.chk ?_) fun k hk => ?_
    · ((conv => whnf); repeat' (first | (with_reducible first | exact fun h => h | refine ExE.row (by with_unfolding_all rfl) ?_ | refine And.intro ?_ ?_) | ((with_reducible intro hq); first | exact bne1 hq (by with_reducible assumption) | exact bne1 (by with_reducible assumption) hq | ((simp only [*, BB, cond_true, cond_false, reduceCtorEq] at hq); done) | (revert hq; with_reducible intro _)) | (with_reducible first | exact True.intro | rfl | refine EntLe.row ?_ | exact LeN.ro rfl | exact LeN.rptr | assumption) | ((with_reducible first | refine WkX.chk ?_ | refine Wk.chk ?_ | refine LeL.chk ?_ | refine LeF.chk ?_ | refine Run.mk ?_); (conv => whnf)) | ((with_reducible show LeO _ _); first | refine LeO.ro ?_ | refine LeO.roCap ?_ | refine LeO.nil ?_ (fun _ => rfl)) | ((with_reducible show LeR _ _ _); first | refine LeR.own rfl rfl rfl ?_ | refine LeR.view rfl rfl rfl ?_ ?_ | refine LeR.ro ?_ | refine LeR.roCap ?_ | refine LeR.nil ?_ (fun _ => rfl)) | ((with_reducible first | show drawOK _ _ = true | show lateOK _ _ = true | show drawOK2 _ _ = true | show drawOK3 _ _ = true); kernel_rfl)))
      all_goals first
        | rfl
        | (rw [hxx, ha]; done)
        | (rw [hxx, ha]; rfl)
        | (rw [pnt_start, hP]; done)
        | trace_state
    obtain ⟨hk1, hk2⟩ := hk
    have e2 : ((k : Int)).toNat = k := Int.toNat_natCast _
    have hpl := pnt_len P x hk1 (by omega : k ≤ P.length)
    by_cases hkb : k < b
    · have hlt : decide ((k : Int) < ((isort ltO l).getD ((i : Int)).toNat C_spn.d).to) = true := decide_eq_true (by rw [hxx]; omega)
      have hst := pnt_step P x hk1 (by omega : k < P.length)
      have hat := pnt_at P x hk1 (by omega : k < P.length)
      rw [← hat] at hst
      repeat' (first | (with_reducible refine ex_of (α := Nat) (k + 1) ⟨⟨?_, ?_⟩, ?_⟩ ?_) | (with_reducible first | exact fun h => h | refine ExE.row (by with_unfolding_all rfl) ?_ | refine And.intro ?_ ?_) | ((with_reducible intro hq); first | exact bne1 hq (by with_reducible assumption) | exact bne1 (by with_reducible assumption) hq | ((simp only [*, BB, cond_true, cond_false, reduceCtorEq] at hq); done) | (revert hq; with_reducible intro _)) | (with_reducible first | exact True.intro | rfl | refine EntLe.row ?_ | exact LeN.ro rfl | exact LeN.rptr | assumption) | ((with_reducible first | refine WkX.chk ?_ | refine Wk.chk ?_ | refine LeL.chk ?_ | refine LeF.chk ?_ | refine Run.mk ?_); (conv => whnf)) | ((with_reducible show LeO _ _); first | refine LeO.ro ?_ | refine LeO.roCap ?_ | refine LeO.nil ?_ (fun _ => rfl)) | ((with_reducible show LeR _ _ _); first | refine LeR.own rfl rfl rfl ?_ | refine LeR.view rfl rfl rfl ?_ ?_ | refine LeR.ro ?_ | refine LeR.roCap ?_ | refine LeR.nil ?_ (fun _ => rfl)) | ((with_reducible first | show drawOK _ _ = true | show lateOK _ _ = true | show drawOK2 _ _ = true | show drawOK3 _ _ = true); kernel_rfl))
      all_goals (try simp only [hxx] at *)
      all_goals first
        | omega
        | rfl
        | (apply Fits.i64 <;> omega)
        | (show k < (pntTo P x a k).length; omega)
        | (show b - (k + 1) < b - k; omega)
        | (refine Eq.trans (congrArg ((pntTo P x a k).set k) ?_) hst; first | exact setA_1 (by assumption) _ | exact setA_2 (by assumption) _ | exact setA_3 (by assumption) _ | exact setA_4 (by assumption) _ | exact setA_5 (by assumption) (by assumption) (by assumption) (by assumption) _)
        | trace_state
    have hlt : decide ((k : Int) < ((isort ltO l).getD ((i : Int)).toNat C_spn.d).to) = false := decide_eq_false (by rw [hxx]; omega)
    have hkk : k = b := by omega
    subst hkk
    repeat' (first | (with_reducible refine ex_of (α := Nat) (i + 1) ⟨?_, ?_⟩ ?_) | (with_reducible first | exact fun h => h | refine ExE.row (by with_unfolding_all rfl) ?_ | refine And.intro ?_ ?_) | ((with_reducible intro hq); first | exact bne1 hq (by with_reducible assumption) | exact bne1 (by with_reducible assumption) hq | ((simp only [*, BB, cond_true, cond_false, reduceCtorEq] at hq); done) | (revert hq; with_reducible intro _)) | (with_reducible first | exact True.intro | rfl | refine EntLe.row ?_ | exact LeN.ro rfl | exact LeN.rptr | assumption) | ((with_reducible first | refine WkX.chk ?_ | refine Wk.chk ?_ | refine LeL.chk ?_ | refine LeF.chk ?_ | refine Run.mk ?_); (conv => whnf)) | ((with_reducible show LeO _ _); first | refine LeO.ro ?_ | refine LeO.roCap ?_ | refine LeO.nil ?_ (fun _ => rfl)) | ((with_reducible show LeR _ _ _); first | refine LeR.own rfl rfl rfl ?_ | refine LeR.view rfl rfl rfl ?_ ?_ | refine LeR.ro ?_ | refine LeR.roCap ?_ | refine LeR.nil ?_ (fun _ => rfl)) | ((with_reducible first | show drawOK _ _ = true | show lateOK _ _ = true | show drawOK2 _ _ = true | show drawOK3 _ _ = true); kernel_rfl))
    all_goals first
      | omega
      | (apply Fits.i64 <;> omega)
      | (show (isort ltO l).length - (i + 1) < (isort ltO l).length - i; omega)
      | (rw [hsc, hpnt]; done)
      | trace_state
  have hlt : decide ((i : Int) < ((isort ltO l).length : Int)) = false := decide_eq_false (by omega)
  have hii : i = (isort ltO l).length := by omega
  subst hii
  repeat' (first | (with_reducible first | exact fun h => h | refine ExE.row (by with_unfolding_all rfl) ?_ | refine And.intro ?_ ?_) | ((with_reducible intro hq); first | exact bne1 hq (by with_reducible assumption) | exact bne1 (by with_reducible assumption) hq | ((simp only [*, BB, cond_true, cond_false, reduceCtorEq] at hq); done) | (revert hq; with_reducible intro _)) | (with_reducible first | exact True.intro | rfl | refine EntLe.row ?_ | exact LeN.ro rfl | exact LeN.rptr | assumption) | ((with_reducible first | refine WkX.chk ?_ | refine Wk.chk ?_ | refine LeL.chk ?_ | refine LeF.chk ?_ | refine Run.mk ?_); (conv => whnf)) | ((with_reducible show LeO _ _); first | refine LeO.ro ?_ | refine LeO.roCap ?_ | refine LeO.nil ?_ (fun _ => rfl)) | ((with_reducible show LeR _ _ _); first | refine LeR.own rfl rfl rfl ?_ | refine LeR.view rfl rfl rfl ?_ ?_ | refine LeR.ro ?_ | refine LeR.roCap ?_ | refine LeR.nil ?_ (fun _ => rfl)) | ((with_reducible first | show drawOK _ _ = true | show lateOK _ _ = true | show drawOK2 _ _ = true | show drawOK3 _ _ = true); kernel_rfl))
  all_goals first
    | rfl
    | trace_state
end Go.SX.Try
/- Chapter 7, told plainly: runs. No program here. -/
namespace Go.SX.Plain
structure Rn where
  frm : Int
  to : Int
  at' : Atr
  deriving DecidableEq
abbrev zRn : Rn := ⟨0, 0, zA⟩
def rnNext (o : List Rn) (i : Nat) (a : Atr) : List Rn :=
  if 0 < o.length ∧ (o.getD (o.length - 1) zRn).at' = a then o.set (o.length - 1) ⟨(o.getD (o.length - 1) zRn).frm, (i : Int) + 1, (o.getD (o.length - 1) zRn).at'⟩ else o ++ [⟨i, (i : Int) + 1, a⟩]
def runsTo (l : List Atr) : Nat → List Rn
  | 0 => []
  | i + 1 => rnNext (runsTo l i) i (l.getD i zA)
def runsL (l : List Atr) : List Rn := runsTo l l.length
theorem runsTo_len (l : List Atr) : ∀ i, (runsTo l i).length ≤ i
  | 0 => Nat.le_refl _
  | i + 1 => by
    have := runsTo_len l i
    rw [runsTo, rnNext]
    split
    · rw [List.length_set]; omega
    · rw [List.length_append]; simp; omega
end Go.SX.Plain
namespace Go.SX.Plain
def atEqB (x y : Atr) : Bool := x.bold == y.bold && (x.italic == y.italic && (x.under == y.under && (x.strike == y.strike && x.colour == y.colour)))
theorem atEqB_eq (x y : Atr) : atEqB x y = decide (x = y) := by
  obtain ⟨a, b, c, d, e⟩ := x
  obtain ⟨a', b', c', d', e'⟩ := y
  rw [Bool.eq_iff_iff]
  simp only [atEqB, Bool.and_eq_true, beq_iff_eq, decide_eq_true_eq, Atr.mk.injEq]
theorem rn_same {l : List Atr} {i : Nat} (h : 0 < (runsTo l i).length) (he : ((runsTo l i).getD ((runsTo l i).length - 1) zRn).at' = l.getD i zA) :
    (runsTo l i).set ((runsTo l i).length - 1) ⟨((runsTo l i).getD ((runsTo l i).length - 1) zRn).frm, (i : Int) + 1, ((runsTo l i).getD ((runsTo l i).length - 1) zRn).at'⟩ = runsTo l (i + 1) := by
  rw [runsTo, rnNext, if_pos ⟨h, he⟩]
theorem rn_more {l : List Atr} {i : Nat} (he : ¬ (0 < (runsTo l i).length ∧ ((runsTo l i).getD ((runsTo l i).length - 1) zRn).at' = l.getD i zA)) :
    runsTo l i ++ [⟨i, (i : Int) + 1, l.getD i zA⟩] = runsTo l (i + 1) := by
  rw [runsTo, rnNext, if_neg he]
end Go.SX.Plain
namespace Go.SX.Plain
def InAt (l : List Spn) (j : Int) (o : Option Spn) : Prop := (j = -1 ∧ o = none) ∨ (0 ≤ j ∧ j < l.length ∧ o = some (l.getD j.toNat zS))
theorem InAt.no {l : List Spn} {j : Int} {a : Atr} {o : Option Spn} {x : Spn} (h : InAt l j o) (h0 : ¬ j < 0) (hw : withinB x (l.getD j.toNat zS) = false) : colS a o x = (a, o) := by
  rcases h with ⟨h1, _⟩ | ⟨h1, h2, rfl⟩
  · omega
  · show (if _ then _ else _) = _
    rw [if_neg (by rw [hw]; decide)]
end Go.SX.Plain
/- Contracts of runs, of both; style.Runs. -/
namespace Go.SX.Try
open Go.Proofs Go.Proofs.Try Go.SX.Plain
set_option maxRecDepth 100000
set_option maxHeartbeats 0
set_option linter.unusedSimpArgs false
theorem q_sruns : fact 75 f75 := ⟨by kernel_rfl, rfl, by kernel_rfl⟩
theorem q_sRuns : fact 33 f33 := ⟨by kernel_rfl, rfl, by kernel_rfl⟩
abbrev rnAV (x : Rn) : List AV := [.v (.int .i64 x.frm), .v (.int .i64 x.to), .sb x.at'.bold, .sb x.at'.italic, .sb x.at'.under, .sb x.at'.strike, .v (.int .i64 x.at'.colour)]
def C_rn : Cdc Rn where
  size := 7
  enc := rnAV
  dec l := match l with
    | [.v (.int _ f), .v (.int _ t), a, b, c, d, .v (.int _ e)] => ⟨f, t, ⟨bOf a, bOf b, bOf c, bOf d, e⟩⟩
    | _ => zRn
  d := zRn
def D_rn : Cds := [(76, ⟨Rn, C_rn⟩)]
theorem D_rn_ok : CdsOK T D_rn := .cons ⟨fun _ => rfl, by decide, _, rfl, rfl, by decide⟩ .nil
abbrev rnO (l : List Rn) : AV := .ro 7 C_rn.enc C_rn.d l none
abbrev rnR (l : List Rn) : AV := .ro 7 C_rn.enc C_rn.d l none true
theorem con_sruns : Con prog 75 (fun l : List Atr => [lkR l]) (fun l => rnO (runsL l)) (fun l => l.length ≤ 1100000) := by
  refine Con.of (by kernel_rfl) T_ok D_rn_ok .nil 5 [] q_sruns.1 q_sruns.2.1 q_sruns.2.2 (fun _ => rfl) fun l hl => ?_
  have hl : l.length ≤ 1100000 := hl
  have hd : C_rn.d = zRn := rfl
  have hda : C_att.d = zA := rfl
  repeat' (first | (with_reducible first | exact fun h => h | refine ExE.row (by with_unfolding_all rfl) ?_ | refine And.intro ?_ ?_) | ((with_reducible intro hq); first | exact bne1 hq (by with_reducible assumption) | exact bne1 (by with_reducible assumption) hq | ((simp only [*, BB, cond_true, cond_false, reduceCtorEq] at hq); done) | (revert hq; with_reducible intro _)) | (with_reducible first | exact True.intro | rfl | refine EntLe.row ?_ | exact LeN.ro rfl | exact LeN.rptr | assumption) | ((with_reducible first | refine WkX.chk ?_ | refine Wk.chk ?_ | refine LeL.chk ?_ | refine LeF.chk ?_ | refine Run.mk ?_); (conv => whnf)) | ((with_reducible show LeO _ _); first | refine LeO.ro ?_ | refine LeO.roCap ?_ | refine LeO.nil ?_ (fun _ => rfl)) | ((with_reducible show LeR _ _ _); first | refine LeR.own rfl rfl rfl ?_ | refine LeR.view rfl rfl rfl ?_ ?_ | refine LeR.ro ?_ | refine LeR.roCap ?_ | refine LeR.nil ?_ (fun _ => rfl)) | ((with_reducible first | show drawOK _ _ = true | show lateOK _ _ = true | show drawOK2 _ _ = true | show drawOK3 _ _ = true); kernel_rfl))
  refine loopI Nat [] (fun i => [(9, .v (.int .i64 (i : Nat))), (3, .own 1)]) (fun i => [(1, .row C_rn (runsTo l i) 76 none)]) (fun i => i ≤ l.length) (fun i => l.length - i) 0 (Nat.zero_le _) (Wk.chk ?_) fun i hi => ?_
  · ((conv => whnf); repeat' (first | (with_reducible first | exact fun h => h | refine ExE.row (by with_unfolding_all rfl) ?_ | refine And.intro ?_ ?_) | ((with_reducible intro hq); first | exact bne1 hq (by with_reducible assumption) | exact bne1 (by with_reducible assumption) hq | ((simp only [*, BB, cond_true, cond_false, reduceCtorEq] at hq); done) | (revert hq; with_reducible intro _)) | (with_reducible first | exact True.intro | rfl | refine EntLe.row ?_ | exact LeN.ro rfl | exact LeN.rptr | assumption) | ((with_reducible first | refine WkX.chk ?_ | refine Wk.chk ?_ | refine LeL.chk ?_ | refine LeF.chk ?_ | refine Run.mk ?_); (conv => whnf)) | ((with_reducible show LeO _ _); first | refine LeO.ro ?_ | refine LeO.roCap ?_ | refine LeO.nil ?_ (fun _ => rfl)) | ((with_reducible show LeR _ _ _); first | refine LeR.own rfl rfl rfl ?_ | refine LeR.view rfl rfl rfl ?_ ?_ | refine LeR.ro ?_ | refine LeR.roCap ?_ | refine LeR.nil ?_ (fun _ => rfl)) | ((with_reducible first | show drawOK _ _ = true | show lateOK _ _ = true | show drawOK2 _ _ = true | show drawOK3 _ _ = true); kernel_rfl)))
    all_goals rfl
  have hi : i ≤ l.length := hi
  have e1 : ((i : Int)).toNat = i := Int.toNat_natCast _
  have hrl := runsTo_len l i
  by_cases hil : i < l.length
  · have hlt : decide ((i : Int) < (l.length : Int)) = true := decide_eq_true (by omega)
    have e2 : (((runsTo l i).length : Int) - 1).toNat = (runsTo l i).length - 1 := by omega
    by_cases h0 : 0 < (runsTo l i).length
    · have k0 : decide ((0 : Int) < ((runsTo l i).length : Int)) = true := decide_eq_true (by omega)
      have kc : (decide ((0 : Int) < ((runsTo l i).length : Int)) && (((runsTo l i).getD (((runsTo l i).length : Int) - 1).toNat C_rn.d).at'.bold == (l.getD ((i : Int)).toNat C_att.d).bold && (((runsTo l i).getD (((runsTo l i).length : Int) - 1).toNat C_rn.d).at'.italic == (l.getD ((i : Int)).toNat C_att.d).italic && (((runsTo l i).getD (((runsTo l i).length : Int) - 1).toNat C_rn.d).at'.under == (l.getD ((i : Int)).toNat C_att.d).under && (((runsTo l i).getD (((runsTo l i).length : Int) - 1).toNat C_rn.d).at'.strike == (l.getD ((i : Int)).toNat C_att.d).strike && ((runsTo l i).getD (((runsTo l i).length : Int) - 1).toNat C_rn.d).at'.colour == (l.getD ((i : Int)).toNat C_att.d).colour))))) = decide (((runsTo l i).getD ((runsTo l i).length - 1) zRn).at' = l.getD i zA) := by
        rw [k0, e1, e2, hd, hda]
        exact atEqB_eq _ _
      by_cases he : ((runsTo l i).getD ((runsTo l i).length - 1) zRn).at' = l.getD i zA
      · rw [decide_eq_true he] at kc
        have hst := rn_same h0 he
        repeat' (first | (with_reducible refine ex_of (α := Nat) (i + 1) ⟨?_, ?_⟩ ?_) | (with_reducible first | exact fun h => h | refine ExE.row (by with_unfolding_all rfl) ?_ | refine And.intro ?_ ?_) | ((with_reducible intro hq); first | exact bne1 hq (by with_reducible assumption) | exact bne1 (by with_reducible assumption) hq | ((simp only [*, BB, cond_true, cond_false, reduceCtorEq] at hq); done) | (revert hq; with_reducible intro _)) | (with_reducible first | exact True.intro | rfl | refine EntLe.row ?_ | exact LeN.ro rfl | exact LeN.rptr | assumption) | ((with_reducible first | refine WkX.chk ?_ | refine Wk.chk ?_ | refine LeL.chk ?_ | refine LeF.chk ?_ | refine Run.mk ?_); (conv => whnf)) | ((with_reducible show LeO _ _); first | refine LeO.ro ?_ | refine LeO.roCap ?_ | refine LeO.nil ?_ (fun _ => rfl)) | ((with_reducible show LeR _ _ _); first | refine LeR.own rfl rfl rfl ?_ | refine LeR.view rfl rfl rfl ?_ ?_ | refine LeR.ro ?_ | refine LeR.roCap ?_ | refine LeR.nil ?_ (fun _ => rfl)) | ((with_reducible first | show drawOK _ _ = true | show lateOK _ _ = true | show drawOK2 _ _ = true | show drawOK3 _ _ = true); kernel_rfl))
        all_goals first
        | omega
        | rfl
        | (apply Fits.i64 <;> omega)
        | (show l.length - (i + 1) < l.length - i; omega)
        | exact hst
        | (refine Eq.trans ?_ hst; rfl)
        | (refine Eq.trans ?_ hst; rw [e2]; rfl)
        | (show ((runsTo l i).length + 1) * 32 ≤ 140737488355328; omega)
        | trace_state

      · rw [decide_eq_false he] at kc
        have hst := rn_more (l := l) (i := i) (fun h => he h.2)
        repeat' (first | (with_reducible refine ex_of (α := Nat) (i + 1) ⟨?_, ?_⟩ ?_) | (with_reducible first | exact fun h => h | refine ExE.row (by with_unfolding_all rfl) ?_ | refine And.intro ?_ ?_) | ((with_reducible intro hq); first | exact bne1 hq (by with_reducible assumption) | exact bne1 (by with_reducible assumption) hq | ((simp only [*, BB, cond_true, cond_false, reduceCtorEq] at hq); done) | (revert hq; with_reducible intro _)) | (with_reducible first | exact True.intro | rfl | refine EntLe.row ?_ | exact LeN.ro rfl | exact LeN.rptr | assumption) | ((with_reducible first | refine WkX.chk ?_ | refine Wk.chk ?_ | refine LeL.chk ?_ | refine LeF.chk ?_ | refine Run.mk ?_); (conv => whnf)) | ((with_reducible show LeO _ _); first | refine LeO.ro ?_ | refine LeO.roCap ?_ | refine LeO.nil ?_ (fun _ => rfl)) | ((with_reducible show LeR _ _ _); first | refine LeR.own rfl rfl rfl ?_ | refine LeR.view rfl rfl rfl ?_ ?_ | refine LeR.ro ?_ | refine LeR.roCap ?_ | refine LeR.nil ?_ (fun _ => rfl)) | ((with_reducible first | show drawOK _ _ = true | show lateOK _ _ = true | show drawOK2 _ _ = true | show drawOK3 _ _ = true); kernel_rfl))
        all_goals first
        | omega
        | rfl
        | (apply Fits.i64 <;> omega)
        | (show l.length - (i + 1) < l.length - i; omega)
        | exact hst
        | (refine Eq.trans ?_ hst; rfl)
        | (refine Eq.trans ?_ hst; rw [e2]; rfl)
        | (show ((runsTo l i).length + 1) * 32 ≤ 140737488355328; omega)
        | trace_state

    · have k0 : decide ((0 : Int) < ((runsTo l i).length : Int)) = false := decide_eq_false (by omega)
      have hst := rn_more (l := l) (i := i) (fun h => h0 h.1)
      repeat' (first | (with_reducible refine ex_of (α := Nat) (i + 1) ⟨?_, ?_⟩ ?_) | (with_reducible first | exact fun h => h | refine ExE.row (by with_unfolding_all rfl) ?_ | refine And.intro ?_ ?_) | ((with_reducible intro hq); first | exact bne1 hq (by with_reducible assumption) | exact bne1 (by with_reducible assumption) hq | ((simp only [*, BB, cond_true, cond_false, reduceCtorEq] at hq); done) | (revert hq; with_reducible intro _)) | (with_reducible first | exact True.intro | rfl | refine EntLe.row ?_ | exact LeN.ro rfl | exact LeN.rptr | assumption) | ((with_reducible first | refine WkX.chk ?_ | refine Wk.chk ?_ | refine LeL.chk ?_ | refine LeF.chk ?_ | refine Run.mk ?_); (conv => whnf)) | ((with_reducible show LeO _ _); first | refine LeO.ro ?_ | refine LeO.roCap ?_ | refine LeO.nil ?_ (fun _ => rfl)) | ((with_reducible show LeR _ _ _); first | refine LeR.own rfl rfl rfl ?_ | refine LeR.view rfl rfl rfl ?_ ?_ | refine LeR.ro ?_ | refine LeR.roCap ?_ | refine LeR.nil ?_ (fun _ => rfl)) | ((with_reducible first | show drawOK _ _ = true | show lateOK _ _ = true | show drawOK2 _ _ = true | show drawOK3 _ _ = true); kernel_rfl))
      all_goals first
      | omega
      | rfl
      | (apply Fits.i64 <;> omega)
      | (show l.length - (i + 1) < l.length - i; omega)
      | exact hst
      | (refine Eq.trans ?_ hst; rfl)
      | (refine Eq.trans ?_ hst; rw [e2]; rfl)
      | (show ((runsTo l i).length + 1) * 32 ≤ 140737488355328; omega)
      | trace_state

  have hlt : decide ((i : Int) < (l.length : Int)) = false := decide_eq_false (by omega)
  have hii : i = l.length := by omega
  subst hii
  repeat' (first | (with_reducible first | exact fun h => h | refine ExE.row (by with_unfolding_all rfl) ?_ | refine And.intro ?_ ?_) | ((with_reducible intro hq); first | exact bne1 hq (by with_reducible assumption) | exact bne1 (by with_reducible assumption) hq | ((simp only [*, BB, cond_true, cond_false, reduceCtorEq] at hq); done) | (revert hq; with_reducible intro _)) | (with_reducible first | exact True.intro | rfl | refine EntLe.row ?_ | exact LeN.ro rfl | exact LeN.rptr | assumption) | ((with_reducible first | refine WkX.chk ?_ | refine Wk.chk ?_ | refine LeL.chk ?_ | refine LeF.chk ?_ | refine Run.mk ?_); (conv => whnf)) | ((with_reducible show LeO _ _); first | refine LeO.ro ?_ | refine LeO.roCap ?_ | refine LeO.nil ?_ (fun _ => rfl)) | ((with_reducible show LeR _ _ _); first | refine LeR.own rfl rfl rfl ?_ | refine LeR.view rfl rfl rfl ?_ ?_ | refine LeR.ro ?_ | refine LeR.roCap ?_ | refine LeR.nil ?_ (fun _ => rfl)) | ((with_reducible first | show drawOK _ _ = true | show lateOK _ _ = true | show drawOK2 _ _ = true | show drawOK3 _ _ = true); kernel_rfl))
  all_goals first
    | rfl
    | trace_state
end Go.SX.Try
/- Contracts of the document's looks. -/
namespace Go.SX.Try
open Go.Proofs Go.Proofs.Try Go.SX.Plain
set_option maxRecDepth 100000
set_option maxHeartbeats 0
set_option linter.unusedSimpArgs false
end Go.SX.Try
/- Contracts of the document's runs, All, Runs, Look; style's Runs, Look. -/
namespace Go.SX.Try
open Go.Proofs Go.Proofs.Try Go.SX.Plain
set_option maxRecDepth 100000
set_option maxHeartbeats 0
set_option linter.unusedSimpArgs false
def runsA (s : ByteArray) (l : List Spn) : List Rn := if chkN s.size l (sgN s : Nat) = 0 then runsL (looksL (sgN s) l) else []
theorem con_sRuns : Con prog 33 (fun ((s, l) : ByteArray × List Spn) => [txAV s l]) (fun (s, l) => .tup [rnO (runsA s l), .v (.int .i64 (chkN s.size l (sgN s : Nat)))]) (fun _ => True) := by
  refine Con.of (by kernel_rfl) T_ok CdsOK.nil (.con con_scheck (.con con_slooks (.con con_sruns .nil))) 5 [] q_sRuns.1 q_sRuns.2.1 q_sRuns.2.2 (fun _ => rfl) fun i hi => ?_
  obtain ⟨s, l⟩ := i
  by_cases hc : chkN s.size l (sgN s : Nat) = 0
  · have k1 : (chkN s.size l (sgN s : Nat) != 0) = false := by rw [hc]; rfl
    have hok := OkT.of hc
    have hr : runsA s l = runsL (looksL (sgN s) l) := if_pos hc
    have hlen := looksL_len hok.spans
    have hn := sgN_le s
    have hs := hok.size
    repeat' (first | (with_reducible refine ⟨(s, l), ⟨(.cons (.agg (.cons (.v _) (.cons (.lent _ _ _ _ _ _) .nil))) .nil), ?_⟩, ?_⟩) | (with_reducible refine ⟨_, ⟨(.cons (.lent _ _ _ _ _ _) .nil), ?_⟩, ?_⟩) | (with_reducible first | exact fun h => h | refine ExE.row (by with_unfolding_all rfl) ?_ | refine And.intro ?_ ?_) | ((with_reducible intro hq); first | exact bne1 hq (by with_reducible assumption) | exact bne1 (by with_reducible assumption) hq | ((simp only [*, BB, cond_true, cond_false, reduceCtorEq] at hq); done) | (revert hq; with_reducible intro _)) | (with_reducible first | exact True.intro | rfl | refine EntLe.row ?_ | exact LeN.ro rfl | exact LeN.rptr | assumption) | ((with_reducible first | refine WkX.chk ?_ | refine Wk.chk ?_ | refine LeL.chk ?_ | refine LeF.chk ?_ | refine Run.mk ?_); (conv => whnf)) | ((with_reducible show LeO _ _); first | refine LeO.ro ?_ | refine LeO.roCap ?_ | refine LeO.nil ?_ (fun _ => rfl)) | ((with_reducible show LeR _ _ _); first | refine LeR.own rfl rfl rfl ?_ | refine LeR.view rfl rfl rfl ?_ ?_ | refine LeR.ro ?_ | refine LeR.roCap ?_ | refine LeR.nil ?_ (fun _ => rfl)) | ((with_reducible first | show drawOK _ _ = true | show lateOK _ _ = true | show drawOK2 _ _ = true | show drawOK3 _ _ = true); kernel_rfl))
    all_goals first
      | exact hok
      | exact hr.symm
      | exact hc.symm
      | (dsimp only; omega)
      | trace_state
  · have k1 : (chkN s.size l (sgN s : Nat) != 0) = true := by simpa using hc
    have hr : runsA s l = [] := if_neg hc
    repeat' (first | (with_reducible refine ⟨(s, l), ⟨(.cons (.agg (.cons (.v _) (.cons (.lent _ _ _ _ _ _) .nil))) .nil), ?_⟩, ?_⟩) | (with_reducible refine ⟨_, ⟨(.cons (.lent _ _ _ _ _ _) .nil), ?_⟩, ?_⟩) | (with_reducible first | exact fun h => h | refine ExE.row (by with_unfolding_all rfl) ?_ | refine And.intro ?_ ?_) | ((with_reducible intro hq); first | exact bne1 hq (by with_reducible assumption) | exact bne1 (by with_reducible assumption) hq | ((simp only [*, BB, cond_true, cond_false, reduceCtorEq] at hq); done) | (revert hq; with_reducible intro _)) | (with_reducible first | exact True.intro | rfl | refine EntLe.row ?_ | exact LeN.ro rfl | exact LeN.rptr | assumption) | ((with_reducible first | refine WkX.chk ?_ | refine Wk.chk ?_ | refine LeL.chk ?_ | refine LeF.chk ?_ | refine Run.mk ?_); (conv => whnf)) | ((with_reducible show LeO _ _); first | refine LeO.ro ?_ | refine LeO.roCap ?_ | refine LeO.nil ?_ (fun _ => rfl)) | ((with_reducible show LeR _ _ _); first | refine LeR.own rfl rfl rfl ?_ | refine LeR.view rfl rfl rfl ?_ ?_ | refine LeR.ro ?_ | refine LeR.roCap ?_ | refine LeR.nil ?_ (fun _ => rfl)) | ((with_reducible first | show drawOK _ _ = true | show lateOK _ _ = true | show drawOK2 _ _ = true | show drawOK3 _ _ = true); kernel_rfl))
    all_goals first
      | exact hr.symm
      | trace_state
end Go.SX.Try
/- Signs of two texts behind one another: where they melt; how long signs are. No program here. -/
namespace Go.SX.Plain
theorem app_size (a b : ByteArray) : (a ++ b).size = a.size + b.size := ByteArray.size_append
def overB (a b : ByteArray) (p : Nat) : Bool := decide (p < a.size) && decide (a.size < p + (Utf8.decode (a ++ b) p).2)
def meltFrom (a b : ByteArray) (pos : Nat) : Bool := (signsFrom (a ++ b) pos).any fun p => overB a b p.1
def meltB (a b : ByteArray) : Bool := meltFrom a b 0
theorem melt_step {a b : ByteArray} {pos : Nat} (h : pos < (a ++ b).size) : meltFrom a b pos = (overB a b pos || meltFrom a b (pos + (Utf8.decode (a ++ b) pos).2)) := by
  unfold meltFrom
  rw [signsFrom_step h, List.any_cons]
theorem melt_end {a b : ByteArray} {pos : Nat} (h : ¬ pos < (a ++ b).size) : meltFrom a b pos = false := by
  unfold meltFrom
  rw [signsFrom_end h]
  rfl
def shf (n : Nat) (x : Sgn) : Sgn := ⟨x.at + n, x.len, x.rune, x.bad⟩
def sgnsF (s : ByteArray) (pos : Nat) : List Sgn := (signsFrom s pos).map fun p => sgnAt s p.1
def runeLenI (r : Int) : Int := if r < 0 then -1 else if r ≤ 127 then 1 else if r ≤ 2047 then 2 else if 55296 ≤ r ∧ r ≤ 57343 then -1 else if r ≤ 65535 then 3 else if r ≤ 1114111 then 4 else -1
theorem dec_len (s : ByteArray) (i : Nat) : Utf8.decode s i = (65533, 1) ∨ (runeLenI ((Utf8.decode s i).1 : Nat) = ((Utf8.decode s i).2 : Nat) ∧ (((Utf8.decode s i).1 : Nat) : Int) ≤ 1114111) := by
  rcases longI_cases (bt s i) with h | h | h
  · exact .inl (dec_0 h)
  · right
    have hb := bt_bd s i
    have h0 : bt s i < 128 := by
      unfold longI at h
      repeat' split at h
      all_goals omega
    rw [dec_1 h]
    simp only
    rw [Int.toNat_of_nonneg hb.1]
    unfold runeLenI
    refine ⟨?_, by omega⟩
    rw [if_neg (by omega), if_pos (by omega)]
    rfl
  · by_cases h2 : i + 1 < s.size ∧ secondB (bt s i) (bt s (i + 1)) = true
    · obtain ⟨a1, a2, a3, a4, a5, a6⟩ := second_yes h2.2
      rcases h with h | h | h
      · right
        have h0 : 194 ≤ bt s i ∧ bt s i ≤ 223 := by
          unfold longI at h
          repeat' split at h
          all_goals omega
        obtain ⟨hd, b1, b2⟩ := dec_2 h h2.1 h2.2
        rw [hd]
        simp only
        rw [Int.toNat_of_nonneg b1]
        unfold runeLenI
        refine ⟨?_, by omega⟩
        rw [if_neg (by omega), if_neg (by omega), if_pos (by omega)]
        rfl
      · by_cases m2 : moreB s (i + 2) = true
        · right
          have h0 : 224 ≤ bt s i ∧ bt s i ≤ 239 := by
            unfold longI at h
            repeat' split at h
            all_goals omega
          obtain ⟨c1, c2, c3⟩ := moreB_yes m2
          obtain ⟨hd, b1, b2⟩ := dec_3 h h2.1 h2.2 m2
          rw [hd]
          simp only
          rw [Int.toNat_of_nonneg b1]
          unfold runeLenI
          refine ⟨?_, by omega⟩
          rw [if_neg (by omega), if_neg (by omega), if_neg (by omega), if_neg (by omega), if_pos (by omega)]
          rfl
        · exact .inl (more_no2 (by omega) (by simpa using m2))
      · by_cases m2 : moreB s (i + 2) = true
        · by_cases m3 : moreB s (i + 3) = true
          · right
            have h0 : 240 ≤ bt s i ∧ bt s i ≤ 244 := by
              unfold longI at h
              repeat' split at h
              all_goals omega
            obtain ⟨c1, c2, c3⟩ := moreB_yes m2
            obtain ⟨d1, d2, d3⟩ := moreB_yes m3
            obtain ⟨hd, b1, b2⟩ := dec_4 h h2.1 h2.2 m2 m3
            rw [hd]
            simp only
            rw [Int.toNat_of_nonneg b1]
            unfold runeLenI
            refine ⟨?_, by omega⟩
            rw [if_neg (by omega), if_neg (by omega), if_neg (by omega), if_neg (by omega), if_neg (by omega), if_pos (by omega)]
            rfl
          · exact .inl (more_no3 (by omega) (by simpa using m3))
        · exact .inl (more_no2 (by omega) (by simpa using m2))
    · exact .inl (second_no2 (by omega) h2)
theorem rune_max (s : ByteArray) (i : Nat) : (((Utf8.decode s i).1 : Nat) : Int) ≤ 1114111 := by
  rcases dec_len s i with h | h
  · rw [h]; decide
  · exact h.2
theorem dec_good {s : ByteArray} {i : Nat} (h : ¬ ((Utf8.decode s i).1 : Int) = 65533) : runeLenI ((Utf8.decode s i).1 : Nat) = ((Utf8.decode s i).2 : Nat) := by
  rcases dec_len s i with h1 | h1
  · rw [h1] at h; exact absurd rfl h
  · exact h1.1
theorem dec_bad {s : ByteArray} {i : Nat} (h : ((Utf8.decode s i).1 : Int) = 65533) : (Utf8.decode s i).2 = 1 ∨ (Utf8.decode s i).2 = 3 := by
  rcases dec_len s i with h1 | h1
  · rw [h1]; exact .inl rfl
  · right
    have := h1.1
    rw [h] at this
    have h2 : runeLenI 65533 = 3 := by decide
    omega
end Go.SX.Plain
/- Whether three bytes are those of U+FFFD. No program here. -/
namespace Go.SX.Plain
abbrev badL : ByteArray := { data := #[239, 191, 189] }
theorem bt_ext {a b : ByteArray} (h : a.size = b.size) (hb : ∀ i, i < a.size → bt a i = bt b i) : a = b := by
  apply ByteArray.ext
  apply Array.ext
  · exact h
  · intro i h1 h2
    have := hb i h1
    unfold bt at this
    rw [bytesL_get, bytesL_get] at this
    have e1 : a.data.toList.getD i 0 = a.data[i] := by
      simp only [List.getD_eq_getElem?_getD, Array.getElem?_toList]
      rw [getElem?_pos a.data i h1]
      rfl
    have e2 : b.data.toList.getD i 0 = b.data[i] := by
      simp only [List.getD_eq_getElem?_getD, Array.getElem?_toList]
      rw [getElem?_pos b.data i h2]
      rfl
    rw [e1, e2] at this
    exact UInt8.toNat_inj.1 (by omega)
theorem dec_fffd {s : ByteArray} {i : Nat} (h : Utf8.decode s i = (65533, 3)) : bt s i = 239 ∧ bt s (i + 1) = 191 ∧ bt s (i + 2) = 189 := by
  have hne : ∀ {n : Nat}, n ≠ 3 → ∀ {r : Nat}, Utf8.decode s i = (r, n) → False := fun hn r h2 => by
    rw [h] at h2
    exact hn (congrArg Prod.snd h2).symm
  rcases longI_cases (bt s i) with c | c | c
  · exact (hne (by decide) (dec_0 c)).elim
  · exact (hne (by decide) (dec_1 c)).elim
  · by_cases h2 : i + 1 < s.size ∧ secondB (bt s i) (bt s (i + 1)) = true
    · obtain ⟨a1, a2, a3, a4, a5, a6⟩ := second_yes h2.2
      rcases c with c | c | c
      · exact (hne (by decide) (dec_2 c h2.1 h2.2).1).elim
      · by_cases m2 : moreB s (i + 2) = true
        · have h0 : 224 ≤ bt s i ∧ bt s i ≤ 239 := by
            unfold longI at c
            repeat' split at c
            all_goals omega
          obtain ⟨c1, c2, c3⟩ := moreB_yes m2
          obtain ⟨hd, b1, b2⟩ := dec_3 c h2.1 h2.2 m2
          rw [h] at hd
          have := congrArg Prod.fst hd
          simp only at this
          omega
        · exact (hne (by decide) (more_no2 (by omega) (by simpa using m2))).elim
      · by_cases m2 : moreB s (i + 2) = true
        · by_cases m3 : moreB s (i + 3) = true
          · exact (hne (by decide) (dec_4 c h2.1 h2.2 m2 m3).1).elim
          · exact (hne (by decide) (more_no3 (by omega) (by simpa using m3))).elim
        · exact (hne (by decide) (more_no2 (by omega) (by simpa using m2))).elim
    · exact (hne (by decide) (second_no2 (by omega) h2)).elim
theorem pref_iff {s : ByteArray} {pos : Nat} (hp : pos < s.size) (hr : (((Utf8.decode s pos).1 : Nat) : Int) = 65533) :
    (decide ((3 : Int) ≤ ((s.extract pos s.size).size : Int)) && decide ((s.extract pos s.size).extract 0 3 = badL)) = decide ((Utf8.decode s pos).2 = 3) := by
  have ht := decode_extract (s := s) (p := pos) (e := s.size) hp (Nat.le_refl _) (width_le hp)
  have hsz := size_extract' (s := s) (p := pos) (e := s.size) (Nat.le_refl _)
  obtain ⟨t, hte⟩ : ∃ t, t = s.extract pos s.size := ⟨_, rfl⟩
  rw [← hte] at ht hsz ⊢
  rw [← ht] at hr ⊢
  have hwl := width_le (s := t) (pos := 0) (by omega)
  rcases dec_bad hr with h1 | h1
  · rw [h1, Bool.eq_iff_iff]
    simp only [Bool.and_eq_true, decide_eq_true_eq]
    constructor
    · rintro ⟨h2, h3⟩
      have hd := decode_extract (s := t) (p := 0) (e := 3) (by omega) (by omega) (by omega)
      rw [h3] at hd
      have hb : Utf8.decode badL 0 = (65533, 3) := by decide
      rw [hb] at hd
      rw [← hd] at h1
      cases h1
    · intro h
      omega
  · rw [h1, Bool.eq_iff_iff]
    simp only [Bool.and_eq_true, decide_eq_true_eq, iff_true]
    have h3 : 3 ≤ t.size := by omega
    refine ⟨by omega, ?_⟩
    have hd : Utf8.decode t 0 = (65533, 3) := Prod.ext (by simp only; omega) h1
    obtain ⟨c0, c1, c2⟩ := dec_fffd hd
    refine bt_ext (by rw [size_extract' h3]; rfl) fun i hi => ?_
    rw [size_extract' h3] at hi
    rw [bt_extract (by omega) h3, Nat.zero_add]
    obtain rfl | rfl | rfl : i = 0 ∨ i = 1 ∨ i = 2 := by omega
    · rw [c0]; rfl
    · rw [c1]; rfl
    · rw [c2]; rfl
end Go.SX.Plain
namespace Go.SX.Plain
abbrev dSg : Sgn := ⟨0, 0, 0, false⟩
def sgEqB (x y : Sgn) : Bool := x.at == y.at && (x.len == y.len && (x.rune == y.rune && x.bad == y.bad))
def both (a b : ByteArray) : List Sgn := sgns a ++ (sgns b).map (shf a.size)
theorem getD_ext {α : Type} {d : α} {l r : List α} (hl : l.length = r.length) (h : ∀ i, i < l.length → l.getD i d = r.getD i d) : l = r := by
  refine List.ext_getElem hl fun i h1 h2 => ?_
  have := h i h1
  simpa [List.getD_eq_getElem?_getD, h1, h2] using this
end Go.SX.Plain
/- Contracts of utf's Place, Cut (by signs), Melts. -/
namespace Go.SX.Try
open Go.Proofs Go.Proofs.Try Go.SX.Plain
set_option maxRecDepth 100000
set_option maxHeartbeats 0
set_option linter.unusedSimpArgs false
theorem q_usigns : fact 79 f79 := ⟨by kernel_rfl, rfl, by kernel_rfl⟩
theorem q_usigns1 : fact 100 f100 := ⟨by kernel_rfl, rfl, by kernel_rfl⟩
theorem q_runeLen : fact 101 f101 := ⟨by kernel_rfl, rfl, by kernel_rfl⟩
theorem q_hasPrefix : fact 102 f102 := ⟨by kernel_rfl, rfl, by kernel_rfl⟩
theorem q_hasPrefixI : fact 114 f114 := ⟨by kernel_rfl, rfl, by kernel_rfl⟩
theorem q_uplace : fact 53 f53 := ⟨by kernel_rfl, rfl, by kernel_rfl⟩
theorem q_uknown : fact 90 f90 := ⟨by kernel_rfl, rfl, by kernel_rfl⟩
theorem q_upairs : fact 91 f91 := ⟨by kernel_rfl, rfl, by kernel_rfl⟩
theorem q_ucut : fact 52 f52 := ⟨by kernel_rfl, rfl, by kernel_rfl⟩
theorem q_umelts : fact 54 f54 := ⟨by kernel_rfl, rfl, by kernel_rfl⟩
theorem con_runeLen : Con prog 101 (fun r : Int => [.v (.int .i32 r)]) (fun r => .v (.int .i64 (runeLenI r))) (fun _ => True) := by
  refine Con.of (by kernel_rfl) T_ok CdsOK.nil .nil 3 [] q_runeLen.1 q_runeLen.2.1 q_runeLen.2.2 (fun _ => rfl) fun r _ => ?_
  repeat' (first | (with_reducible first | exact fun h => h | refine ExE.row (by with_unfolding_all rfl) ?_ | refine And.intro ?_ ?_) | ((with_reducible intro hq); first | exact bne1 hq (by with_reducible assumption) | exact bne1 (by with_reducible assumption) hq | ((simp only [*, BB, cond_true, cond_false, reduceCtorEq] at hq); done) | (revert hq; with_reducible intro _)) | (with_reducible first | exact True.intro | rfl | refine EntLe.row ?_ | exact LeN.ro rfl | exact LeN.rptr | assumption) | ((with_reducible first | refine WkX.chk ?_ | refine Wk.chk ?_ | refine LeL.chk ?_ | refine LeF.chk ?_ | refine Run.mk ?_); (conv => whnf)) | ((with_reducible show LeO _ _); first | refine LeO.ro ?_ | refine LeO.roCap ?_ | refine LeO.nil ?_ (fun _ => rfl)) | ((with_reducible show LeR _ _ _); first | refine LeR.own rfl rfl rfl ?_ | refine LeR.view rfl rfl rfl ?_ ?_ | refine LeR.ro ?_ | refine LeR.roCap ?_ | refine LeR.nil ?_ (fun _ => rfl)) | ((with_reducible first | show drawOK _ _ = true | show lateOK _ _ = true | show drawOK2 _ _ = true | show drawOK3 _ _ = true); kernel_rfl))
  all_goals (unfold runeLenI; simp only [Bool.and_eq_true, Bool.and_eq_false_iff, decide_eq_true_eq, decide_eq_false_iff_not] at *; (repeat' split) <;> omega)
theorem con_hasPrefix : Con prog 102 (fun ((s, p) : ByteArray × ByteArray) => [.v (.string s), .v (.string p)]) (fun (s, p) => .sb (decide ((p.size : Int) ≤ (s.size : Int)) && decide (s.extract 0 ((p.size : Nat) : Int).toNat = p))) (fun _ => True) := by
  refine Con.of (by kernel_rfl) T_ok CdsOK.nil (.inl (J := []) q_hasPrefixI.1 q_hasPrefixI.2.1 q_hasPrefixI.2.2 .nil) 5 [] q_hasPrefix.1 q_hasPrefix.2.1 q_hasPrefix.2.2 (fun _ => rfl) fun i _ => ?_
  obtain ⟨s, p⟩ := i
  repeat' (first | (with_reducible first | exact fun h => h | refine ExE.row (by with_unfolding_all rfl) ?_ | refine And.intro ?_ ?_) | ((with_reducible intro hq); first | exact bne1 hq (by with_reducible assumption) | exact bne1 (by with_reducible assumption) hq | ((simp only [*, BB, cond_true, cond_false, reduceCtorEq] at hq); done) | (revert hq; with_reducible intro _)) | (with_reducible first | exact True.intro | rfl | refine EntLe.row ?_ | exact LeN.ro rfl | exact LeN.rptr | assumption) | ((with_reducible first | refine WkX.chk ?_ | refine Wk.chk ?_ | refine LeL.chk ?_ | refine LeF.chk ?_ | refine Run.mk ?_); (conv => whnf)) | ((with_reducible show LeO _ _); first | refine LeO.ro ?_ | refine LeO.roCap ?_ | refine LeO.nil ?_ (fun _ => rfl)) | ((with_reducible show LeR _ _ _); first | refine LeR.own rfl rfl rfl ?_ | refine LeR.view rfl rfl rfl ?_ ?_ | refine LeR.ro ?_ | refine LeR.roCap ?_ | refine LeR.nil ?_ (fun _ => rfl)) | ((with_reducible first | show drawOK _ _ = true | show lateOK _ _ = true | show drawOK2 _ _ = true | show drawOK3 _ _ = true); kernel_rfl))
  all_goals first
    | omega
    | rfl
    | (simp only [decide_eq_true_eq] at *; omega)
    | (exfalso; simp_all; done)
    | (simp only [*, Bool.false_and]; done)
    | trace_state
theorem con_uknown : Con prog 90 (fun u : Int => [.v (.int .i64 u)]) (fun _ => .v (.bool true)) (fun u => u = 1 ∨ u = 2 ∨ u = 3) := by
  refine Con.of (by kernel_rfl) T_ok CdsOK.nil .nil 3 [] q_uknown.1 q_uknown.2.1 q_uknown.2.2 (fun _ => rfl) fun u hu => ?_
  have hu : u = 1 ∨ u = 2 ∨ u = 3 := hu
  rcases hu with rfl | rfl | rfl
  all_goals
    repeat' (first | (with_reducible first | exact fun h => h | refine ExE.row (by with_unfolding_all rfl) ?_ | refine And.intro ?_ ?_) | ((with_reducible intro hq); first | exact bne1 hq (by with_reducible assumption) | exact bne1 (by with_reducible assumption) hq | ((simp only [*, BB, cond_true, cond_false, reduceCtorEq] at hq); done) | (revert hq; with_reducible intro _)) | (with_reducible first | exact True.intro | rfl | refine EntLe.row ?_ | exact LeN.ro rfl | exact LeN.rptr | assumption) | ((with_reducible first | refine WkX.chk ?_ | refine Wk.chk ?_ | refine LeL.chk ?_ | refine LeF.chk ?_ | refine Run.mk ?_); (conv => whnf)) | ((with_reducible show LeO _ _); first | refine LeO.ro ?_ | refine LeO.roCap ?_ | refine LeO.nil ?_ (fun _ => rfl)) | ((with_reducible show LeR _ _ _); first | refine LeR.own rfl rfl rfl ?_ | refine LeR.view rfl rfl rfl ?_ ?_ | refine LeR.ro ?_ | refine LeR.roCap ?_ | refine LeR.nil ?_ (fun _ => rfl)) | ((with_reducible first | show drawOK _ _ = true | show lateOK _ _ = true | show drawOK2 _ _ = true | show drawOK3 _ _ = true); kernel_rfl))
    all_goals first
      | rfl
      | (exfalso; simp_all; done)
      | (simp_all; done)
      | trace_state
def pairsI (r : Int) : Int := if 65536 ≤ r then 2 else 1
theorem pairs_bd (r : Int) : 1 ≤ pairsI r ∧ pairsI r ≤ 2 := by unfold pairsI; split <;> omega
theorem con_upairs : Con prog 91 (fun r : Int => [.v (.int .i32 r)]) (fun r => .v (.int .i64 (pairsI r))) (fun _ => True) := by
  refine Con.of (by kernel_rfl) T_ok CdsOK.nil .nil 3 [] q_upairs.1 q_upairs.2.1 q_upairs.2.2 (fun _ => rfl) fun r _ => ?_
  repeat' (first | (with_reducible first | exact fun h => h | refine ExE.row (by with_unfolding_all rfl) ?_ | refine And.intro ?_ ?_) | ((with_reducible intro hq); first | exact bne1 hq (by with_reducible assumption) | exact bne1 (by with_reducible assumption) hq | ((simp only [*, BB, cond_true, cond_false, reduceCtorEq] at hq); done) | (revert hq; with_reducible intro _)) | (with_reducible first | exact True.intro | rfl | refine EntLe.row ?_ | exact LeN.ro rfl | exact LeN.rptr | assumption) | ((with_reducible first | refine WkX.chk ?_ | refine Wk.chk ?_ | refine LeL.chk ?_ | refine LeF.chk ?_ | refine Run.mk ?_); (conv => whnf)) | ((with_reducible show LeO _ _); first | refine LeO.ro ?_ | refine LeO.roCap ?_ | refine LeO.nil ?_ (fun _ => rfl)) | ((with_reducible show LeR _ _ _); first | refine LeR.own rfl rfl rfl ?_ | refine LeR.view rfl rfl rfl ?_ ?_ | refine LeR.ro ?_ | refine LeR.roCap ?_ | refine LeR.nil ?_ (fun _ => rfl)) | ((with_reducible first | show drawOK _ _ = true | show lateOK _ _ = true | show drawOK2 _ _ = true | show drawOK3 _ _ = true); kernel_rfl))
  all_goals (simp only [decide_eq_true_eq, decide_eq_false_iff_not] at *)
  all_goals first
    | (unfold pairsI; rw [if_pos (by omega)]; done)
    | (unfold pairsI; rw [if_neg (by omega)]; done)
theorem con_uplace : Con prog 53 (fun ((s, a) : ByteArray × Int) => [.v (.string s), .v (.int .i64 a), .v (.int .i64 2), .v (.int .i64 1)]) (fun (s, a) => .tup [.v (.int .i64 (plN s a)), .v (.int .i64 (plE s a))]) (fun (s, _) => s.size ≤ 1100000) := by
  refine Con.of (by kernel_rfl) T_ok CdsOK.nil (.con con_runeLen (.con con_hasPrefix (.inl (J := []) q_usigns.1 q_usigns.2.1 q_usigns.2.2 (.inl (J := [8]) q_usigns1.1 q_usigns1.2.1 q_usigns1.2.2 (.con con_uknown (.con con_upairs .nil)))))) 9 [] q_uplace.1 q_uplace.2.1 q_uplace.2.2 (fun _ => rfl) fun i hs => ?_
  obtain ⟨s, a⟩ := i
  have hs : s.size ≤ 1100000 := hs
  by_cases ha : a < 0
  · have ht : decide (a < 0) = true := decide_eq_true ha
    repeat' (first | (with_reducible refine ⟨_, ⟨(.cons (.v _) .nil), ?_⟩, ?_⟩) | (with_reducible first | exact fun h => h | refine ExE.row (by with_unfolding_all rfl) ?_ | refine And.intro ?_ ?_) | ((with_reducible intro hq); first | exact bne1 hq (by with_reducible assumption) | exact bne1 (by with_reducible assumption) hq | ((simp only [*, BB, cond_true, cond_false, reduceCtorEq] at hq); done) | (revert hq; with_reducible intro _)) | (with_reducible first | exact True.intro | rfl | refine EntLe.row ?_ | exact LeN.ro rfl | exact LeN.rptr | assumption) | ((with_reducible first | refine WkX.chk ?_ | refine Wk.chk ?_ | refine LeL.chk ?_ | refine LeF.chk ?_ | refine Run.mk ?_); (conv => whnf)) | ((with_reducible show LeO _ _); first | refine LeO.ro ?_ | refine LeO.roCap ?_ | refine LeO.nil ?_ (fun _ => rfl)) | ((with_reducible show LeR _ _ _); first | refine LeR.own rfl rfl rfl ?_ | refine LeR.view rfl rfl rfl ?_ ?_ | refine LeR.ro ?_ | refine LeR.roCap ?_ | refine LeR.nil ?_ (fun _ => rfl)) | ((with_reducible first | show drawOK _ _ = true | show lateOK _ _ = true | show drawOK2 _ _ = true | show drawOK3 _ _ = true); kernel_rfl))
    all_goals first
      | (dsimp only; omega)
      | (unfold plN; rw [if_neg (by omega)]; done)
      | (unfold plE; rw [if_neg (by omega)]; done)
      | trace_state
  · have ht : decide (a < 0) = false := decide_eq_false ha
    have hn := sgN_le s
    have hend := posS_end s
    repeat' (first | (with_reducible refine ⟨_, ⟨(.cons (.v _) .nil), ?_⟩, ?_⟩) | (with_reducible first | exact fun h => h | refine ExE.row (by with_unfolding_all rfl) ?_ | refine And.intro ?_ ?_) | ((with_reducible intro hq); first | exact bne1 hq (by with_reducible assumption) | exact bne1 (by with_reducible assumption) hq | ((simp only [*, BB, cond_true, cond_false, reduceCtorEq] at hq); done) | (revert hq; with_reducible intro _)) | (with_reducible first | exact True.intro | rfl | refine EntLe.row ?_ | exact LeN.ro rfl | exact LeN.rptr | assumption) | ((with_reducible first | refine WkX.chk ?_ | refine Wk.chk ?_ | refine LeL.chk ?_ | refine LeF.chk ?_ | refine Run.mk ?_); (conv => whnf)) | ((with_reducible show LeO _ _); first | refine LeO.ro ?_ | refine LeO.roCap ?_ | refine LeO.nil ?_ (fun _ => rfl)) | ((with_reducible show LeR _ _ _); first | refine LeR.own rfl rfl rfl ?_ | refine LeR.view rfl rfl rfl ?_ ?_ | refine LeR.ro ?_ | refine LeR.roCap ?_ | refine LeR.nil ?_ (fun _ => rfl)) | ((with_reducible first | show drawOK _ _ = true | show lateOK _ _ = true | show drawOK2 _ _ = true | show drawOK3 _ _ = true); kernel_rfl))
    all_goals (try (dsimp only; omega))
    refine loopI (Nat × Int) [] (fun _ => []) (fun | (i, p) => [(6, .iter s (posS s i)), (2, .box [.v (.int .i64 0), .v (.int .i64 (posS s i : Nat)), .v (.int .i64 (i : Nat)), .v (.int .i64 p)] 119)]) (fun | (i, p) => i ≤ sgN s ∧ (i : Int) ≤ a ∧ 0 ≤ p ∧ p ≤ 2 * (i : Int)) (fun | (i, _) => sgN s - i) (0, 0) ⟨Nat.zero_le _, by omega, Int.le_refl _, by omega⟩ (Wk.chk ?_) fun x hx => ?_
    · ((conv => whnf); repeat' (first | (with_reducible first | exact fun h => h | refine ExE.row (by with_unfolding_all rfl) ?_ | refine And.intro ?_ ?_) | ((with_reducible intro hq); first | exact bne1 hq (by with_reducible assumption) | exact bne1 (by with_reducible assumption) hq | ((simp only [*, BB, cond_true, cond_false, reduceCtorEq] at hq); done) | (revert hq; with_reducible intro _)) | (with_reducible first | exact True.intro | rfl | refine EntLe.row ?_ | exact LeN.ro rfl | exact LeN.rptr | assumption) | ((with_reducible first | refine WkX.chk ?_ | refine Wk.chk ?_ | refine LeL.chk ?_ | refine LeF.chk ?_ | refine Run.mk ?_); (conv => whnf)) | ((with_reducible show LeO _ _); first | refine LeO.ro ?_ | refine LeO.roCap ?_ | refine LeO.nil ?_ (fun _ => rfl)) | ((with_reducible show LeR _ _ _); first | refine LeR.own rfl rfl rfl ?_ | refine LeR.view rfl rfl rfl ?_ ?_ | refine LeR.ro ?_ | refine LeR.roCap ?_ | refine LeR.nil ?_ (fun _ => rfl)) | ((with_reducible first | show drawOK _ _ = true | show lateOK _ _ = true | show drawOK2 _ _ = true | show drawOK3 _ _ = true); kernel_rfl)))
      all_goals first
        | rfl
        | (rw [posS_zero]; done)
        | (rw [posS_zero]; rfl)
        | trace_state
    obtain ⟨i, p⟩ := x
    obtain ⟨hi1, hi2, hi3, hi4⟩ : i ≤ sgN s ∧ (i : Int) ≤ a ∧ 0 ≤ p ∧ p ≤ 2 * (i : Int) := hx
    have hpl := posS_le s i
    by_cases hil : i < sgN s
    · have hat := sgns_at s hil
      obtain ⟨_, hlt, hnx⟩ := hat
      have hw := width_pos s (posS s i)
      have hwl := width_le hlt
      have hmax := rune_max s (posS s i)
      have e1 : ((posS s i : Nat) : Int).toNat = posS s i := Int.toNat_natCast _
      repeat' (first | (with_reducible first | exact fun h => h | refine ExE.row (by with_unfolding_all rfl) ?_ | refine And.intro ?_ ?_) | ((with_reducible intro hq); first | exact bne1 hq (by with_reducible assumption) | exact bne1 (by with_reducible assumption) hq | ((simp only [*, BB, cond_true, cond_false, reduceCtorEq] at hq); done) | (revert hq; with_reducible intro _)) | (with_reducible first | exact True.intro | rfl | refine EntLe.row ?_ | exact LeN.ro rfl | exact LeN.rptr | assumption) | ((with_reducible first | refine WkX.chk ?_ | refine Wk.chk ?_ | refine LeL.chk ?_ | refine LeF.chk ?_ | refine Run.mk ?_); (conv => whnf)) | ((with_reducible show LeO _ _); first | refine LeO.ro ?_ | refine LeO.roCap ?_ | refine LeO.nil ?_ (fun _ => rfl)) | ((with_reducible show LeR _ _ _); first | refine LeR.own rfl rfl rfl ?_ | refine LeR.view rfl rfl rfl ?_ ?_ | refine LeR.ro ?_ | refine LeR.roCap ?_ | refine LeR.nil ?_ (fun _ => rfl)) | ((with_reducible first | show drawOK _ _ = true | show lateOK _ _ = true | show drawOK2 _ _ = true | show drawOK3 _ _ = true); kernel_rfl))
      any_goals omega
      refine joinI Unit [] (fun _ => [(5, .v (.int .i64 ((Utf8.decode s (posS s i)).2 : Nat)))]) (fun _ => []) (fun _ => True) ?_ fun _ _ => ?_
      · by_cases hr : (((Utf8.decode s (posS s i)).1 : Nat) : Int) = 65533
        · have k1 : ((((Utf8.decode s (posS s i)).1 : Nat) : Int) != 65533) = false := by rw [hr]; rfl
          have hpf : (decide ((badL.size : Int) ≤ ((s.extract ((posS s i : Nat) : Int).toNat s.size).size : Int)) && decide ((s.extract ((posS s i : Nat) : Int).toNat s.size).extract 0 ((badL.size : Nat) : Int).toNat = badL)) = decide ((Utf8.decode s (posS s i)).2 = 3) := by
            rw [e1]
            exact pref_iff hlt hr
          have h13 := dec_bad hr
          rcases h13 with h13 | h13
          · have hpf := hpf.trans (show decide ((Utf8.decode s (posS s i)).2 = 3) = false from by rw [h13]; rfl)
            repeat' (first | (with_reducible refine ⟨(_, badL), ⟨(.cons (.v _) (.cons (.v _) .nil)), ?_⟩, ?_⟩) | (with_reducible refine ex_of () trivial ?_) | (with_reducible first | exact fun h => h | refine ExE.row (by with_unfolding_all rfl) ?_ | refine And.intro ?_ ?_) | ((with_reducible intro hq); first | exact bne1 hq (by with_reducible assumption) | exact bne1 (by with_reducible assumption) hq | ((simp only [*, BB, cond_true, cond_false, reduceCtorEq] at hq); done) | (revert hq; with_reducible intro _)) | (with_reducible first | exact True.intro | rfl | refine EntLe.row ?_ | exact LeN.ro rfl | exact LeN.rptr | assumption) | ((with_reducible first | refine WkX.chk ?_ | refine Wk.chk ?_ | refine LeL.chk ?_ | refine LeF.chk ?_ | refine Run.mk ?_); (conv => whnf)) | ((with_reducible show LeO _ _); first | refine LeO.ro ?_ | refine LeO.roCap ?_ | refine LeO.nil ?_ (fun _ => rfl)) | ((with_reducible show LeR _ _ _); first | refine LeR.own rfl rfl rfl ?_ | refine LeR.view rfl rfl rfl ?_ ?_ | refine LeR.ro ?_ | refine LeR.roCap ?_ | refine LeR.nil ?_ (fun _ => rfl)) | ((with_reducible first | show drawOK _ _ = true | show lateOK _ _ = true | show drawOK2 _ _ = true | show drawOK3 _ _ = true); kernel_rfl))
            all_goals first
              | omega
              | (rw [h13]; rfl)
              | trace_state
          · have hpf := hpf.trans (show decide ((Utf8.decode s (posS s i)).2 = 3) = true from by rw [h13]; rfl)
            repeat' (first | (with_reducible refine ⟨(_, badL), ⟨(.cons (.v _) (.cons (.v _) .nil)), ?_⟩, ?_⟩) | (with_reducible refine ex_of () trivial ?_) | (with_reducible first | exact fun h => h | refine ExE.row (by with_unfolding_all rfl) ?_ | refine And.intro ?_ ?_) | ((with_reducible intro hq); first | exact bne1 hq (by with_reducible assumption) | exact bne1 (by with_reducible assumption) hq | ((simp only [*, BB, cond_true, cond_false, reduceCtorEq] at hq); done) | (revert hq; with_reducible intro _)) | (with_reducible first | exact True.intro | rfl | refine EntLe.row ?_ | exact LeN.ro rfl | exact LeN.rptr | assumption) | ((with_reducible first | refine WkX.chk ?_ | refine Wk.chk ?_ | refine LeL.chk ?_ | refine LeF.chk ?_ | refine Run.mk ?_); (conv => whnf)) | ((with_reducible show LeO _ _); first | refine LeO.ro ?_ | refine LeO.roCap ?_ | refine LeO.nil ?_ (fun _ => rfl)) | ((with_reducible show LeR _ _ _); first | refine LeR.own rfl rfl rfl ?_ | refine LeR.view rfl rfl rfl ?_ ?_ | refine LeR.ro ?_ | refine LeR.roCap ?_ | refine LeR.nil ?_ (fun _ => rfl)) | ((with_reducible first | show drawOK _ _ = true | show lateOK _ _ = true | show drawOK2 _ _ = true | show drawOK3 _ _ = true); kernel_rfl))
            all_goals first
              | omega
              | (rw [h13]; rfl)
              | trace_state
        · have k1 : ((((Utf8.decode s (posS s i)).1 : Nat) : Int) != 65533) = true := by simpa using hr
          have hg := dec_good hr
          repeat' (first | (with_reducible refine ⟨(((Utf8.decode s (posS s i)).1 : Nat) : Int), ⟨(.cons (.v _) .nil), ?_⟩, ?_⟩) | (with_reducible refine ex_of () trivial ?_) | (with_reducible first | exact fun h => h | refine ExE.row (by with_unfolding_all rfl) ?_ | refine And.intro ?_ ?_) | ((with_reducible intro hq); first | exact bne1 hq (by with_reducible assumption) | exact bne1 (by with_reducible assumption) hq | ((simp only [*, BB, cond_true, cond_false, reduceCtorEq] at hq); done) | (revert hq; with_reducible intro _)) | (with_reducible first | exact True.intro | rfl | refine EntLe.row ?_ | exact LeN.ro rfl | exact LeN.rptr | assumption) | ((with_reducible first | refine WkX.chk ?_ | refine Wk.chk ?_ | refine LeL.chk ?_ | refine LeF.chk ?_ | refine Run.mk ?_); (conv => whnf)) | ((with_reducible show LeO _ _); first | refine LeO.ro ?_ | refine LeO.roCap ?_ | refine LeO.nil ?_ (fun _ => rfl)) | ((with_reducible show LeR _ _ _); first | refine LeR.own rfl rfl rfl ?_ | refine LeR.view rfl rfl rfl ?_ ?_ | refine LeR.ro ?_ | refine LeR.roCap ?_ | refine LeR.nil ?_ (fun _ => rfl)) | ((with_reducible first | show drawOK _ _ = true | show lateOK _ _ = true | show drawOK2 _ _ = true | show drawOK3 _ _ = true); kernel_rfl))
          all_goals first
            | omega
            | exact hg
            | trace_state
      by_cases hia : (i : Int) = a
      · have k2 : decide (a ≤ (i : Int)) = true := decide_eq_true (by omega)
        have k3 : ((i : Int) == a) = true := by rw [beq_iff_eq]; exact hia
        repeat' (first | (with_reducible first | exact fun h => h | refine ExE.row (by with_unfolding_all rfl) ?_ | refine And.intro ?_ ?_) | ((with_reducible intro hq); first | exact bne1 hq (by with_reducible assumption) | exact bne1 (by with_reducible assumption) hq | ((simp only [*, BB, cond_true, cond_false, reduceCtorEq] at hq); done) | (revert hq; with_reducible intro _)) | (with_reducible first | exact True.intro | rfl | refine EntLe.row ?_ | exact LeN.ro rfl | exact LeN.rptr | assumption) | ((with_reducible first | refine WkX.chk ?_ | refine Wk.chk ?_ | refine LeL.chk ?_ | refine LeF.chk ?_ | refine Run.mk ?_); (conv => whnf)) | ((with_reducible show LeO _ _); first | refine LeO.ro ?_ | refine LeO.roCap ?_ | refine LeO.nil ?_ (fun _ => rfl)) | ((with_reducible show LeR _ _ _); first | refine LeR.own rfl rfl rfl ?_ | refine LeR.view rfl rfl rfl ?_ ?_ | refine LeR.ro ?_ | refine LeR.roCap ?_ | refine LeR.nil ?_ (fun _ => rfl)) | ((with_reducible first | show drawOK _ _ = true | show lateOK _ _ = true | show drawOK2 _ _ = true | show drawOK3 _ _ = true); kernel_rfl))
        all_goals first
          | omega
          | (unfold plN; rw [if_pos ⟨by omega, by omega⟩, show a.toNat = i by omega]; done)
          | (unfold plE; rw [if_pos ⟨by omega, by omega⟩]; done)
          | (simp only [Bool.not_eq_true']; assumption)
          | trace_state
      · have k2 : decide (a ≤ (i : Int)) = false := decide_eq_false (by omega)
        have hpb := pairs_bd (((Utf8.decode s (posS s i)).1 : Nat) : Int)
        repeat' (first | (with_reducible refine ⟨(((Utf8.decode s (posS s i)).1 : Nat) : Int), ⟨(.cons (.v _) .nil), ?_⟩, ?_⟩) | (with_reducible refine ex_of (α := Nat × Int) (i + 1, p + pairsI (((Utf8.decode s (posS s i)).1 : Nat) : Int)) ⟨⟨?_, ?_, ?_, ?_⟩, ?_⟩ ?_) | (with_reducible first | exact fun h => h | refine ExE.row (by with_unfolding_all rfl) ?_ | refine And.intro ?_ ?_) | ((with_reducible intro hq); first | exact bne1 hq (by with_reducible assumption) | exact bne1 (by with_reducible assumption) hq | ((simp only [*, BB, cond_true, cond_false, reduceCtorEq] at hq); done) | (revert hq; with_reducible intro _)) | (with_reducible first | exact True.intro | rfl | refine EntLe.row ?_ | exact LeN.ro rfl | exact LeN.rptr | assumption) | ((with_reducible first | refine WkX.chk ?_ | refine Wk.chk ?_ | refine LeL.chk ?_ | refine LeF.chk ?_ | refine Run.mk ?_); (conv => whnf)) | ((with_reducible show LeO _ _); first | refine LeO.ro ?_ | refine LeO.roCap ?_ | refine LeO.nil ?_ (fun _ => rfl)) | ((with_reducible show LeR _ _ _); first | refine LeR.own rfl rfl rfl ?_ | refine LeR.view rfl rfl rfl ?_ ?_ | refine LeR.ro ?_ | refine LeR.roCap ?_ | refine LeR.nil ?_ (fun _ => rfl)) | ((with_reducible first | show drawOK _ _ = true | show lateOK _ _ = true | show drawOK2 _ _ = true | show drawOK3 _ _ = true); kernel_rfl))
        all_goals first
          | omega
          | (apply Fits.i64 <;> omega)
          | (show sgN s - (i + 1) < sgN s - i; omega)
          | (rw [hnx]; done)
          | trace_state
    · have hii : i = sgN s := by omega
      subst hii
      have hlt : ¬ posS s (sgN s) < s.size := by omega
      by_cases hia : ((sgN s : Nat) : Int) = a
      · have k3 : (((sgN s : Nat) : Int) == a) = true := by rw [beq_iff_eq]; exact hia
        repeat' (first | (with_reducible first | exact fun h => h | refine ExE.row (by with_unfolding_all rfl) ?_ | refine And.intro ?_ ?_) | ((with_reducible intro hq); first | exact bne1 hq (by with_reducible assumption) | exact bne1 (by with_reducible assumption) hq | ((simp only [*, BB, cond_true, cond_false, reduceCtorEq] at hq); done) | (revert hq; with_reducible intro _)) | (with_reducible first | exact True.intro | rfl | refine EntLe.row ?_ | exact LeN.ro rfl | exact LeN.rptr | assumption) | ((with_reducible first | refine WkX.chk ?_ | refine Wk.chk ?_ | refine LeL.chk ?_ | refine LeF.chk ?_ | refine Run.mk ?_); (conv => whnf)) | ((with_reducible show LeO _ _); first | refine LeO.ro ?_ | refine LeO.roCap ?_ | refine LeO.nil ?_ (fun _ => rfl)) | ((with_reducible show LeR _ _ _); first | refine LeR.own rfl rfl rfl ?_ | refine LeR.view rfl rfl rfl ?_ ?_ | refine LeR.ro ?_ | refine LeR.roCap ?_ | refine LeR.nil ?_ (fun _ => rfl)) | ((with_reducible first | show drawOK _ _ = true | show lateOK _ _ = true | show drawOK2 _ _ = true | show drawOK3 _ _ = true); kernel_rfl))
        all_goals first
          | omega
          | (exfalso; omega)
          | (unfold plN; rw [if_pos ⟨by omega, by omega⟩, show a.toNat = sgN s by omega]; done)
          | (unfold plE; rw [if_pos ⟨by omega, by omega⟩]; done)
          | trace_state
      · have k3 : (((sgN s : Nat) : Int) == a) = false := by rw [beq_eq_false_iff_ne]; exact hia
        have k4 : decide (a < ((sgN s : Nat) : Int)) = false := decide_eq_false (by omega)
        repeat' (first | (with_reducible first | exact fun h => h | refine ExE.row (by with_unfolding_all rfl) ?_ | refine And.intro ?_ ?_) | ((with_reducible intro hq); first | exact bne1 hq (by with_reducible assumption) | exact bne1 (by with_reducible assumption) hq | ((simp only [*, BB, cond_true, cond_false, reduceCtorEq] at hq); done) | (revert hq; with_reducible intro _)) | (with_reducible first | exact True.intro | rfl | refine EntLe.row ?_ | exact LeN.ro rfl | exact LeN.rptr | assumption) | ((with_reducible first | refine WkX.chk ?_ | refine Wk.chk ?_ | refine LeL.chk ?_ | refine LeF.chk ?_ | refine Run.mk ?_); (conv => whnf)) | ((with_reducible show LeO _ _); first | refine LeO.ro ?_ | refine LeO.roCap ?_ | refine LeO.nil ?_ (fun _ => rfl)) | ((with_reducible show LeR _ _ _); first | refine LeR.own rfl rfl rfl ?_ | refine LeR.view rfl rfl rfl ?_ ?_ | refine LeR.ro ?_ | refine LeR.roCap ?_ | refine LeR.nil ?_ (fun _ => rfl)) | ((with_reducible first | show drawOK _ _ = true | show lateOK _ _ = true | show drawOK2 _ _ = true | show drawOK3 _ _ = true); kernel_rfl))
        all_goals first
          | omega
          | (exfalso; omega)
          | (unfold plN; rw [if_neg (by omega)]; done)
          | (unfold plE; rw [if_neg (by omega)]; done)
          | trace_state
end Go.SX.Try
/- Contracts of utf's Cut (by signs), Melts. -/
namespace Go.SX.Try
open Go.Proofs Go.Proofs.Try Go.SX.Plain
set_option maxRecDepth 100000
set_option maxHeartbeats 0
set_option linter.unusedSimpArgs false
theorem con_ucut : Con prog 52 (fun ((s, f, t) : ByteArray × Int × Int) => [.v (.string s), .v (.int .i64 2), .v (.int .i64 f), .v (.int .i64 t)]) (fun (s, f, t) => .tup [.v (.string (cutT s f t)), .v (.int .i64 (cutE s f t))]) (fun (s, _, _) => s.size ≤ 1100000) := by
  refine Con.of (by kernel_rfl) T_ok CdsOK.nil (.con con_uplace (.con con_uknown .nil)) 5 [] q_ucut.1 q_ucut.2.1 q_ucut.2.2 (fun _ => rfl) fun i hs => ?_
  obtain ⟨s, f, t⟩ := i
  have hs : s.size ≤ 1100000 := hs
  have hn := sgN_le s
  have h01 : ∀ x, plE s x = 0 ∨ plE s x = 1 := fun x => by unfold plE; split <;> simp
  by_cases hc : 0 ≤ f ∧ f ≤ t ∧ t ≤ sgN s
  · have hE : cutE s f t = 0 := by unfold cutE; rw [if_pos hc]
    have hT : cutT s f t = s.extract (posS s f.toNat) (posS s t.toNat) := by unfold cutT; rw [if_pos hc]
    have p1 : plE s f = 0 := by unfold plE; rw [if_pos ⟨by omega, by omega⟩]
    have p2 : plE s t = 0 := by unfold plE; rw [if_pos ⟨by omega, by omega⟩]
    have p3 : plN s f = (posS s f.toNat : Nat) := by unfold plN; rw [if_pos ⟨by omega, by omega⟩]
    have p4 : plN s t = (posS s t.toNat : Nat) := by unfold plN; rw [if_pos ⟨by omega, by omega⟩]
    have p5 := posS_mono s (i := f.toNat) (j := t.toNat) (by omega) (by omega)
    have p6 := posS_le s t.toNat
    have b1 : (plE s f != 0) = false := by rw [p1]; rfl
    have b2 : (plE s t != 0) = false := by rw [p2]; rfl
    have b3 : (plE s f == 1) = false := by rw [p1]; rfl
    have b4 : (plE s t == 1) = false := by rw [p2]; rfl
    have b5 : decide (t < f) = false := decide_eq_false (by omega)
    repeat' (first | (with_reducible refine ⟨_, ⟨(.cons (.v _) .nil), ?_⟩, ?_⟩) | (with_reducible refine ⟨(_, _), ⟨(.cons (.v _) (.cons (.v _) (.cons (.v _) (.cons (.v _) .nil)))), ?_⟩, ?_⟩) | (with_reducible first | exact fun h => h | refine ExE.row (by with_unfolding_all rfl) ?_ | refine And.intro ?_ ?_) | ((with_reducible intro hq); first | exact bne1 hq (by with_reducible assumption) | exact bne1 (by with_reducible assumption) hq | ((simp only [*, BB, cond_true, cond_false, reduceCtorEq] at hq); done) | (revert hq; with_reducible intro _)) | (with_reducible first | exact True.intro | rfl | refine EntLe.row ?_ | exact LeN.ro rfl | exact LeN.rptr | assumption) | ((with_reducible first | refine WkX.chk ?_ | refine Wk.chk ?_ | refine LeL.chk ?_ | refine LeF.chk ?_ | refine Run.mk ?_); (conv => whnf)) | ((with_reducible show LeO _ _); first | refine LeO.ro ?_ | refine LeO.roCap ?_ | refine LeO.nil ?_ (fun _ => rfl)) | ((with_reducible show LeR _ _ _); first | refine LeR.own rfl rfl rfl ?_ | refine LeR.view rfl rfl rfl ?_ ?_ | refine LeR.ro ?_ | refine LeR.roCap ?_ | refine LeR.nil ?_ (fun _ => rfl)) | ((with_reducible first | show drawOK _ _ = true | show lateOK _ _ = true | show drawOK2 _ _ = true | show drawOK3 _ _ = true); kernel_rfl))
    all_goals (try simp only [p1, p2, p3, p4] at *)
    all_goals first
      | omega
      | (dsimp only; omega)
      | (rw [hT]; rfl)
      | (rw [hT]; simp only [Int.toNat_natCast]; done)
      | exact hE.symm
      | (simp; done)
      | trace_state
  · have hE : cutE s f t = 1 := by unfold cutE; rw [if_neg hc]
    have hT : cutT s f t = ByteArray.empty := by unfold cutT; rw [if_neg hc]
    have hbad : (plE s f == 1) = true ∨ ((plE s f == 1) = false ∧ (plE s t == 1) = true) ∨ ((plE s f == 1) = false ∧ (plE s t == 1) = false ∧ decide (t < f) = true) := by
      rcases h01 f with q1 | q1
      · rcases h01 t with q2 | q2
        · refine .inr (.inr ⟨by rw [q1]; rfl, by rw [q2]; rfl, decide_eq_true ?_⟩)
          have r1 : 0 ≤ f ∧ f ≤ sgN s := by
            unfold plE at q1; split at q1
            · assumption
            · cases q1
          have r2 : 0 ≤ t ∧ t ≤ sgN s := by
            unfold plE at q2; split at q2
            · assumption
            · cases q2
          omega
        · exact .inr (.inl ⟨by rw [q1]; rfl, by rw [q2]; rfl⟩)
      · exact .inl (by rw [q1]; rfl)
    clear h01
    rcases hbad with b1 | ⟨b1, b2⟩ | ⟨b1, b2, b3⟩
    all_goals
      repeat' (first | (with_reducible refine ⟨_, ⟨(.cons (.v _) .nil), ?_⟩, ?_⟩) | (with_reducible refine ⟨(_, _), ⟨(.cons (.v _) (.cons (.v _) (.cons (.v _) (.cons (.v _) .nil)))), ?_⟩, ?_⟩) | (with_reducible first | exact fun h => h | refine ExE.row (by with_unfolding_all rfl) ?_ | refine And.intro ?_ ?_) | ((with_reducible intro hq); first | exact bne1 hq (by with_reducible assumption) | exact bne1 (by with_reducible assumption) hq | ((simp only [*, BB, cond_true, cond_false, reduceCtorEq] at hq); done) | (revert hq; with_reducible intro _)) | (with_reducible first | exact True.intro | rfl | refine EntLe.row ?_ | exact LeN.ro rfl | exact LeN.rptr | assumption) | ((with_reducible first | refine WkX.chk ?_ | refine Wk.chk ?_ | refine LeL.chk ?_ | refine LeF.chk ?_ | refine Run.mk ?_); (conv => whnf)) | ((with_reducible show LeO _ _); first | refine LeO.ro ?_ | refine LeO.roCap ?_ | refine LeO.nil ?_ (fun _ => rfl)) | ((with_reducible show LeR _ _ _); first | refine LeR.own rfl rfl rfl ?_ | refine LeR.view rfl rfl rfl ?_ ?_ | refine LeR.ro ?_ | refine LeR.roCap ?_ | refine LeR.nil ?_ (fun _ => rfl)) | ((with_reducible first | show drawOK _ _ = true | show lateOK _ _ = true | show drawOK2 _ _ = true | show drawOK3 _ _ = true); kernel_rfl))
      all_goals first
        | exact hT.symm
        | exact hE.symm
        | (dsimp only; omega)
        | trace_state
theorem con_umelts : Con prog 54 (fun ((a, b) : ByteArray × ByteArray) => [.v (.string a), .v (.string b)]) (fun (a, b) => .sb (meltB a b)) (fun (a, b) => (a ++ b).size ≤ 1100000) := by
  refine Con.of (by kernel_rfl) T_ok CdsOK.nil (.con con_runeLen (.con con_hasPrefix (.inl (J := []) q_usigns.1 q_usigns.2.1 q_usigns.2.2 (.inl (J := [8]) q_usigns1.1 q_usigns1.2.1 q_usigns1.2.2 .nil)))) 9 [] q_umelts.1 q_umelts.2.1 q_umelts.2.2 (fun _ => rfl) fun i hs => ?_
  obtain ⟨a, b⟩ := i
  have hs : (a ++ b).size ≤ 1100000 := hs
  have hsz := app_size a b
  repeat' (first | (with_reducible first | exact fun h => h | refine ExE.row (by with_unfolding_all rfl) ?_ | refine And.intro ?_ ?_) | ((with_reducible intro hq); first | exact bne1 hq (by with_reducible assumption) | exact bne1 (by with_reducible assumption) hq | ((simp only [*, BB, cond_true, cond_false, reduceCtorEq] at hq); done) | (revert hq; with_reducible intro _)) | (with_reducible first | exact True.intro | rfl | refine EntLe.row ?_ | exact LeN.ro rfl | exact LeN.rptr | assumption) | ((with_reducible first | refine WkX.chk ?_ | refine Wk.chk ?_ | refine LeL.chk ?_ | refine LeF.chk ?_ | refine Run.mk ?_); (conv => whnf)) | ((with_reducible show LeO _ _); first | refine LeO.ro ?_ | refine LeO.roCap ?_ | refine LeO.nil ?_ (fun _ => rfl)) | ((with_reducible show LeR _ _ _); first | refine LeR.own rfl rfl rfl ?_ | refine LeR.view rfl rfl rfl ?_ ?_ | refine LeR.ro ?_ | refine LeR.roCap ?_ | refine LeR.nil ?_ (fun _ => rfl)) | ((with_reducible first | show drawOK _ _ = true | show lateOK _ _ = true | show drawOK2 _ _ = true | show drawOK3 _ _ = true); kernel_rfl))
  · omega
  refine loopI Nat [] (fun _ => []) (fun pos => [(5, .iter (a ++ b) pos)]) (fun pos => pos ≤ (a ++ b).size ∧ meltFrom a b pos = meltB a b) (fun pos => (a ++ b).size - pos) 0 ⟨Nat.zero_le _, rfl⟩ (Wk.chk ?_) fun pos hx => ?_
  · ((conv => whnf); repeat' (first | (with_reducible first | exact fun h => h | refine ExE.row (by with_unfolding_all rfl) ?_ | refine And.intro ?_ ?_) | ((with_reducible intro hq); first | exact bne1 hq (by with_reducible assumption) | exact bne1 (by with_reducible assumption) hq | ((simp only [*, BB, cond_true, cond_false, reduceCtorEq] at hq); done) | (revert hq; with_reducible intro _)) | (with_reducible first | exact True.intro | rfl | refine EntLe.row ?_ | exact LeN.ro rfl | exact LeN.rptr | assumption) | ((with_reducible first | refine WkX.chk ?_ | refine Wk.chk ?_ | refine LeL.chk ?_ | refine LeF.chk ?_ | refine Run.mk ?_); (conv => whnf)) | ((with_reducible show LeO _ _); first | refine LeO.ro ?_ | refine LeO.roCap ?_ | refine LeO.nil ?_ (fun _ => rfl)) | ((with_reducible show LeR _ _ _); first | refine LeR.own rfl rfl rfl ?_ | refine LeR.view rfl rfl rfl ?_ ?_ | refine LeR.ro ?_ | refine LeR.roCap ?_ | refine LeR.nil ?_ (fun _ => rfl)) | ((with_reducible first | show drawOK _ _ = true | show lateOK _ _ = true | show drawOK2 _ _ = true | show drawOK3 _ _ = true); kernel_rfl)))
    all_goals first
      | rfl
      | trace_state
  obtain ⟨hp1, hp2⟩ := hx
  by_cases hlt : pos < (a ++ b).size
  · have hw := width_pos (a ++ b) pos
    have hwl := width_le hlt
    have hmax := rune_max (a ++ b) pos
    have hst := melt_step hlt
    have e1 : ((pos : Nat) : Int).toNat = pos := Int.toNat_natCast _
    repeat' (first | (with_reducible first | exact fun h => h | refine ExE.row (by with_unfolding_all rfl) ?_ | refine And.intro ?_ ?_) | ((with_reducible intro hq); first | exact bne1 hq (by with_reducible assumption) | exact bne1 (by with_reducible assumption) hq | ((simp only [*, BB, cond_true, cond_false, reduceCtorEq] at hq); done) | (revert hq; with_reducible intro _)) | (with_reducible first | exact True.intro | rfl | refine EntLe.row ?_ | exact LeN.ro rfl | exact LeN.rptr | assumption) | ((with_reducible first | refine WkX.chk ?_ | refine Wk.chk ?_ | refine LeL.chk ?_ | refine LeF.chk ?_ | refine Run.mk ?_); (conv => whnf)) | ((with_reducible show LeO _ _); first | refine LeO.ro ?_ | refine LeO.roCap ?_ | refine LeO.nil ?_ (fun _ => rfl)) | ((with_reducible show LeR _ _ _); first | refine LeR.own rfl rfl rfl ?_ | refine LeR.view rfl rfl rfl ?_ ?_ | refine LeR.ro ?_ | refine LeR.roCap ?_ | refine LeR.nil ?_ (fun _ => rfl)) | ((with_reducible first | show drawOK _ _ = true | show lateOK _ _ = true | show drawOK2 _ _ = true | show drawOK3 _ _ = true); kernel_rfl))
    any_goals omega
    refine joinI Unit [] (fun _ => [(5, .v (.int .i64 ((Utf8.decode (a ++ b) pos).2 : Nat)))]) (fun _ => []) (fun _ => True) ?_ fun _ _ => ?_
    · by_cases hr : (((Utf8.decode (a ++ b) pos).1 : Nat) : Int) = 65533
      · have k1 : ((((Utf8.decode (a ++ b) pos).1 : Nat) : Int) != 65533) = false := by rw [hr]; rfl
        have hpf : (decide ((badL.size : Int) ≤ (((a ++ b).extract ((pos : Nat) : Int).toNat (a ++ b).size).size : Int)) && decide (((a ++ b).extract ((pos : Nat) : Int).toNat (a ++ b).size).extract 0 ((badL.size : Nat) : Int).toNat = badL)) = decide ((Utf8.decode (a ++ b) pos).2 = 3) := by
          rw [e1]
          exact pref_iff hlt hr
        have h13 := dec_bad hr
        rcases h13 with h13 | h13
        · have hpf := hpf.trans (show decide ((Utf8.decode (a ++ b) pos).2 = 3) = false from by rw [h13]; rfl)
          repeat' (first | (with_reducible refine ⟨(_, badL), ⟨(.cons (.v _) (.cons (.v _) .nil)), ?_⟩, ?_⟩) | (with_reducible refine ex_of () trivial ?_) | (with_reducible first | exact fun h => h | refine ExE.row (by with_unfolding_all rfl) ?_ | refine And.intro ?_ ?_) | ((with_reducible intro hq); first | exact bne1 hq (by with_reducible assumption) | exact bne1 (by with_reducible assumption) hq | ((simp only [*, BB, cond_true, cond_false, reduceCtorEq] at hq); done) | (revert hq; with_reducible intro _)) | (with_reducible first | exact True.intro | rfl | refine EntLe.row ?_ | exact LeN.ro rfl | exact LeN.rptr | assumption) | ((with_reducible first | refine WkX.chk ?_ | refine Wk.chk ?_ | refine LeL.chk ?_ | refine LeF.chk ?_ | refine Run.mk ?_); (conv => whnf)) | ((with_reducible show LeO _ _); first | refine LeO.ro ?_ | refine LeO.roCap ?_ | refine LeO.nil ?_ (fun _ => rfl)) | ((with_reducible show LeR _ _ _); first | refine LeR.own rfl rfl rfl ?_ | refine LeR.view rfl rfl rfl ?_ ?_ | refine LeR.ro ?_ | refine LeR.roCap ?_ | refine LeR.nil ?_ (fun _ => rfl)) | ((with_reducible first | show drawOK _ _ = true | show lateOK _ _ = true | show drawOK2 _ _ = true | show drawOK3 _ _ = true); kernel_rfl))
          all_goals first
            | omega
            | (rw [h13]; rfl)
            | trace_state
        · have hpf := hpf.trans (show decide ((Utf8.decode (a ++ b) pos).2 = 3) = true from by rw [h13]; rfl)
          repeat' (first | (with_reducible refine ⟨(_, badL), ⟨(.cons (.v _) (.cons (.v _) .nil)), ?_⟩, ?_⟩) | (with_reducible refine ex_of () trivial ?_) | (with_reducible first | exact fun h => h | refine ExE.row (by with_unfolding_all rfl) ?_ | refine And.intro ?_ ?_) | ((with_reducible intro hq); first | exact bne1 hq (by with_reducible assumption) | exact bne1 (by with_reducible assumption) hq | ((simp only [*, BB, cond_true, cond_false, reduceCtorEq] at hq); done) | (revert hq; with_reducible intro _)) | (with_reducible first | exact True.intro | rfl | refine EntLe.row ?_ | exact LeN.ro rfl | exact LeN.rptr | assumption) | ((with_reducible first | refine WkX.chk ?_ | refine Wk.chk ?_ | refine LeL.chk ?_ | refine LeF.chk ?_ | refine Run.mk ?_); (conv => whnf)) | ((with_reducible show LeO _ _); first | refine LeO.ro ?_ | refine LeO.roCap ?_ | refine LeO.nil ?_ (fun _ => rfl)) | ((with_reducible show LeR _ _ _); first | refine LeR.own rfl rfl rfl ?_ | refine LeR.view rfl rfl rfl ?_ ?_ | refine LeR.ro ?_ | refine LeR.roCap ?_ | refine LeR.nil ?_ (fun _ => rfl)) | ((with_reducible first | show drawOK _ _ = true | show lateOK _ _ = true | show drawOK2 _ _ = true | show drawOK3 _ _ = true); kernel_rfl))
          all_goals first
            | omega
            | (rw [h13]; rfl)
            | trace_state
      · have k1 : ((((Utf8.decode (a ++ b) pos).1 : Nat) : Int) != 65533) = true := by simpa using hr
        have hg := dec_good hr
        repeat' (first | (with_reducible refine ⟨(((Utf8.decode (a ++ b) pos).1 : Nat) : Int), ⟨(.cons (.v _) .nil), ?_⟩, ?_⟩) | (with_reducible refine ex_of () trivial ?_) | (with_reducible first | exact fun h => h | refine ExE.row (by with_unfolding_all rfl) ?_ | refine And.intro ?_ ?_) | ((with_reducible intro hq); first | exact bne1 hq (by with_reducible assumption) | exact bne1 (by with_reducible assumption) hq | ((simp only [*, BB, cond_true, cond_false, reduceCtorEq] at hq); done) | (revert hq; with_reducible intro _)) | (with_reducible first | exact True.intro | rfl | refine EntLe.row ?_ | exact LeN.ro rfl | exact LeN.rptr | assumption) | ((with_reducible first | refine WkX.chk ?_ | refine Wk.chk ?_ | refine LeL.chk ?_ | refine LeF.chk ?_ | refine Run.mk ?_); (conv => whnf)) | ((with_reducible show LeO _ _); first | refine LeO.ro ?_ | refine LeO.roCap ?_ | refine LeO.nil ?_ (fun _ => rfl)) | ((with_reducible show LeR _ _ _); first | refine LeR.own rfl rfl rfl ?_ | refine LeR.view rfl rfl rfl ?_ ?_ | refine LeR.ro ?_ | refine LeR.roCap ?_ | refine LeR.nil ?_ (fun _ => rfl)) | ((with_reducible first | show drawOK _ _ = true | show lateOK _ _ = true | show drawOK2 _ _ = true | show drawOK3 _ _ = true); kernel_rfl))
        all_goals first
          | omega
          | exact hg
          | trace_state
    cases ho : overB a b pos with
    | true =>
      have k2 : decide (((pos : Nat) : Int) < ((a.size : Nat) : Int)) = true := by
        unfold overB at ho
        rw [Bool.and_eq_true, decide_eq_true_eq, decide_eq_true_eq] at ho
        exact decide_eq_true (by omega)
      have k3 : decide (((a.size : Nat) : Int) < ((pos : Nat) : Int) + (((Utf8.decode (a ++ b) pos).2 : Nat) : Int)) = true := by
        unfold overB at ho
        rw [Bool.and_eq_true, decide_eq_true_eq, decide_eq_true_eq] at ho
        exact decide_eq_true (by omega)
      have hm : meltB a b = true := by rw [← hp2, hst, ho]; rfl
      repeat' (first | (with_reducible first | exact fun h => h | refine ExE.row (by with_unfolding_all rfl) ?_ | refine And.intro ?_ ?_) | ((with_reducible intro hq); first | exact bne1 hq (by with_reducible assumption) | exact bne1 (by with_reducible assumption) hq | ((simp only [*, BB, cond_true, cond_false, reduceCtorEq] at hq); done) | (revert hq; with_reducible intro _)) | (with_reducible first | exact True.intro | rfl | refine EntLe.row ?_ | exact LeN.ro rfl | exact LeN.rptr | assumption) | ((with_reducible first | refine WkX.chk ?_ | refine Wk.chk ?_ | refine LeL.chk ?_ | refine LeF.chk ?_ | refine Run.mk ?_); (conv => whnf)) | ((with_reducible show LeO _ _); first | refine LeO.ro ?_ | refine LeO.roCap ?_ | refine LeO.nil ?_ (fun _ => rfl)) | ((with_reducible show LeR _ _ _); first | refine LeR.own rfl rfl rfl ?_ | refine LeR.view rfl rfl rfl ?_ ?_ | refine LeR.ro ?_ | refine LeR.roCap ?_ | refine LeR.nil ?_ (fun _ => rfl)) | ((with_reducible first | show drawOK _ _ = true | show lateOK _ _ = true | show drawOK2 _ _ = true | show drawOK3 _ _ = true); kernel_rfl))
      all_goals first
        | omega
        | (apply Fits.i64 <;> omega)
        | exact hm.symm
        | trace_state
    | false =>
      have hm : meltFrom a b (pos + (Utf8.decode (a ++ b) pos).2) = meltB a b := by rw [← hp2, hst, ho]; rfl
      have k2 : (decide (((pos : Nat) : Int) < ((a.size : Nat) : Int)) && decide (((a.size : Nat) : Int) < ((pos : Nat) : Int) + (((Utf8.decode (a ++ b) pos).2 : Nat) : Int))) = false := by
        unfold overB at ho
        rw [Bool.and_eq_false_iff, decide_eq_false_iff_not, decide_eq_false_iff_not] at ho
        rw [Bool.and_eq_false_iff, decide_eq_false_iff_not, decide_eq_false_iff_not]
        omega
      repeat' (first | (with_reducible refine ex_of (α := Nat) (pos + (Utf8.decode (a ++ b) pos).2) ⟨⟨?_, hm⟩, ?_⟩ ?_) | (with_reducible first | exact fun h => h | refine ExE.row (by with_unfolding_all rfl) ?_ | refine And.intro ?_ ?_) | ((with_reducible intro hq); first | exact bne1 hq (by with_reducible assumption) | exact bne1 (by with_reducible assumption) hq | ((simp only [*, BB, cond_true, cond_false, reduceCtorEq] at hq); done) | (revert hq; with_reducible intro _)) | (with_reducible first | exact True.intro | rfl | refine EntLe.row ?_ | exact LeN.ro rfl | exact LeN.rptr | assumption) | ((with_reducible first | refine WkX.chk ?_ | refine Wk.chk ?_ | refine LeL.chk ?_ | refine LeF.chk ?_ | refine Run.mk ?_); (conv => whnf)) | ((with_reducible show LeO _ _); first | refine LeO.ro ?_ | refine LeO.roCap ?_ | refine LeO.nil ?_ (fun _ => rfl)) | ((with_reducible show LeR _ _ _); first | refine LeR.own rfl rfl rfl ?_ | refine LeR.view rfl rfl rfl ?_ ?_ | refine LeR.ro ?_ | refine LeR.roCap ?_ | refine LeR.nil ?_ (fun _ => rfl)) | ((with_reducible first | show drawOK _ _ = true | show lateOK _ _ = true | show drawOK2 _ _ = true | show drawOK3 _ _ = true); kernel_rfl))
      all_goals first
        | omega
        | (apply Fits.i64 <;> omega)
        | (show (a ++ b).size - (pos + (Utf8.decode (a ++ b) pos).2) < (a ++ b).size - pos; omega)
        | rfl
        | trace_state
  · have hm : meltB a b = false := by rw [← hp2]; exact melt_end hlt
    repeat' (first | (with_reducible first | exact fun h => h | refine ExE.row (by with_unfolding_all rfl) ?_ | refine And.intro ?_ ?_) | ((with_reducible intro hq); first | exact bne1 hq (by with_reducible assumption) | exact bne1 (by with_reducible assumption) hq | ((simp only [*, BB, cond_true, cond_false, reduceCtorEq] at hq); done) | (revert hq; with_reducible intro _)) | (with_reducible first | exact True.intro | rfl | refine EntLe.row ?_ | exact LeN.ro rfl | exact LeN.rptr | assumption) | ((with_reducible first | refine WkX.chk ?_ | refine Wk.chk ?_ | refine LeL.chk ?_ | refine LeF.chk ?_ | refine Run.mk ?_); (conv => whnf)) | ((with_reducible show LeO _ _); first | refine LeO.ro ?_ | refine LeO.roCap ?_ | refine LeO.nil ?_ (fun _ => rfl)) | ((with_reducible show LeR _ _ _); first | refine LeR.own rfl rfl rfl ?_ | refine LeR.view rfl rfl rfl ?_ ?_ | refine LeR.ro ?_ | refine LeR.roCap ?_ | refine LeR.nil ?_ (fun _ => rfl)) | ((with_reducible first | show drawOK _ _ = true | show lateOK _ _ = true | show drawOK2 _ _ = true | show drawOK3 _ _ = true); kernel_rfl))
    all_goals first
      | omega
      | (exfalso; omega)
      | exact hm.symm
      | trace_state
end Go.SX.Try
/- Contract of the document's Melts. -/
namespace Go.SX.Try
open Go.Proofs Go.Proofs.Try Go.SX.Plain
set_option maxRecDepth 100000
set_option maxHeartbeats 0
set_option linter.unusedSimpArgs false
end Go.SX.Try
/- Chapter 7, told plainly: splices. No program here. -/
namespace Go.SX.Plain
def bgn (f t n x : Int) : Int := if t ≤ x then x + (n - (t - f)) else if f < x then f + n else x
def eds (f t n x : Int) : Int := if x ≤ f then x else if t ≤ x then x + (n - (t - f)) else f
def mvS (f t n : Int) (x : Spn) : Spn := ⟨bgn f t n x.frm, eds f t n x.to, x.kind, x.val⟩
def shS (k : Int) (x : Spn) : Spn := ⟨x.frm + k, x.to + k, x.kind, x.val⟩
def posB (x : Spn) : Bool := decide (x.frm < x.to)
def outTo (g : Spn → Spn) (l : List Spn) (i : Nat) : List Spn := ((l.take i).map g).filter posB
theorem outTo_yes {g : Spn → Spn} {l : List Spn} {i : Nat} (h : i < l.length) (hp : posB (g (l.getD i zS)) = true) : outTo g l (i + 1) = outTo g l i ++ [g (l.getD i zS)] := by
  unfold outTo
  rw [← take_one l zS h, List.map_append, List.filter_append, List.map_singleton, List.filter_cons_of_pos hp]
  rfl
theorem outTo_no {g : Spn → Spn} {l : List Spn} {i : Nat} (h : i < l.length) (hp : posB (g (l.getD i zS)) = false) : outTo g l (i + 1) = outTo g l i := by
  unfold outTo
  rw [← take_one l zS h, List.map_append, List.filter_append, List.map_singleton, List.filter_cons_of_neg (by rw [hp]; decide)]
  simp
theorem outTo_len (g : Spn → Spn) (l : List Spn) (i : Nat) : (outTo g l i).length ≤ l.length := by
  unfold outTo
  refine Nat.le_trans (List.length_filter_le _ _) ?_
  rw [List.length_map, List.length_take]
  omega
def shTo (k : Int) (l : List Spn) (i : Nat) : List Spn := (l.take i).map (shS k)
theorem shTo_step {k : Int} {l : List Spn} {i : Nat} (h : i < l.length) : shTo k l (i + 1) = shTo k l i ++ [shS k (l.getD i zS)] := by
  unfold shTo
  rw [← take_one l zS h, List.map_append]
  rfl
theorem shTo_len {k : Int} {l : List Spn} {i : Nat} (h : i ≤ l.length) : (shTo k l i).length = i := by
  unfold shTo
  rw [List.length_map, List.length_take]
  omega
def frontT (s : ByteArray) (f : Int) : ByteArray := s.extract 0 (posS s f.toNat)
def restT (s : ByteArray) (t : Int) : ByteArray := s.extract (posS s t.toNat) s.size
def newT (s : ByteArray) (f t : Int) (s2 : ByteArray) : ByteArray := frontT s f ++ s2 ++ restT s t
def newL (l : List Spn) (f t : Int) (s2 : ByteArray) (l2 : List Spn) : List Spn := outTo (mvS f t (sgN s2 : Nat)) (isort ltO l) (isort ltO l).length ++ shTo f l2 l2.length
def mayB (f t n : Int) : Bool := decide (0 ≤ f) && decide (f ≤ t) && decide (t ≤ n)
def splE (s : ByteArray) (l : List Spn) (f t : Int) (s2 : ByteArray) (l2 : List Spn) : Int :=
  if chkN s.size l (sgN s : Nat) ≠ 0 then chkN s.size l (sgN s : Nat)
  else if chkN s2.size l2 (sgN s2 : Nat) ≠ 0 then chkN s2.size l2 (sgN s2 : Nat)
  else if mayB f t (sgN s : Nat) = false then 1
  else if 4096 < (newT s f t s2).size then 3
  else if meltB (frontT s f) s2 = true ∨ meltB (frontT s f ++ s2) (restT s t) = true then 22
  else if 256 < (newL l f t s2 l2).length then 2
  else 0
def splT (s : ByteArray) (l : List Spn) (f t : Int) (s2 : ByteArray) (l2 : List Spn) : ByteArray := if splE s l f t s2 l2 = 0 then newT s f t s2 else ByteArray.empty
def splL (s : ByteArray) (l : List Spn) (f t : Int) (s2 : ByteArray) (l2 : List Spn) : List Spn := if splE s l f t s2 l2 = 0 then newL l f t s2 l2 else []
theorem bgn_bd {f t n x : Int} (hf : 0 ≤ f) (hft : f ≤ t) (hn : 0 ≤ n) (hx : 0 ≤ x) : 0 ≤ bgn f t n x ∧ bgn f t n x ≤ x + n + f := by
  unfold bgn
  split
  · omega
  · split <;> omega
theorem eds_bd {f t n x : Int} (hf : 0 ≤ f) (hft : f ≤ t) (hn : 0 ≤ n) (hx : 0 ≤ x) : 0 ≤ eds f t n x ∧ eds f t n x ≤ x + n + f := by
  unfold eds
  split
  · omega
  · split <;> omega
end Go.SX.Plain
namespace Go.SX.Plain
section
variable {s : ByteArray} {l : List Spn} {f t : Int} {s2 : ByteArray} {l2 : List Spn}
theorem splE_1 (h1 : ¬ chkN s.size l (sgN s : Nat) = 0) : splE s l f t s2 l2 = chkN s.size l (sgN s : Nat) := by
  unfold splE; rw [if_pos h1]
theorem splE_2 (h1 : chkN s.size l (sgN s : Nat) = 0) (h2 : ¬ chkN s2.size l2 (sgN s2 : Nat) = 0) : splE s l f t s2 l2 = chkN s2.size l2 (sgN s2 : Nat) := by
  unfold splE; rw [if_neg (fun h => h h1), if_pos h2]
theorem splE_3 (h1 : chkN s.size l (sgN s : Nat) = 0) (h2 : chkN s2.size l2 (sgN s2 : Nat) = 0) (h3 : mayB f t (sgN s : Nat) = false) : splE s l f t s2 l2 = 1 := by
  unfold splE; rw [if_neg (fun h => h h1), if_neg (fun h => h h2), if_pos h3]
theorem splE_4 (h1 : chkN s.size l (sgN s : Nat) = 0) (h2 : chkN s2.size l2 (sgN s2 : Nat) = 0) (h3 : mayB f t (sgN s : Nat) = true) (h4 : 4096 < (newT s f t s2).size) : splE s l f t s2 l2 = 3 := by
  unfold splE; rw [if_neg (fun h => h h1), if_neg (fun h => h h2), if_neg (by rw [h3]; decide), if_pos h4]
theorem splE_5 (h1 : chkN s.size l (sgN s : Nat) = 0) (h2 : chkN s2.size l2 (sgN s2 : Nat) = 0) (h3 : mayB f t (sgN s : Nat) = true) (h4 : ¬ 4096 < (newT s f t s2).size) (h5 : meltB (frontT s f) s2 = true ∨ meltB (frontT s f ++ s2) (restT s t) = true) : splE s l f t s2 l2 = 22 := by
  unfold splE; rw [if_neg (fun h => h h1), if_neg (fun h => h h2), if_neg (by rw [h3]; decide), if_neg h4, if_pos h5]
theorem splE_6 (h1 : chkN s.size l (sgN s : Nat) = 0) (h2 : chkN s2.size l2 (sgN s2 : Nat) = 0) (h3 : mayB f t (sgN s : Nat) = true) (h4 : ¬ 4096 < (newT s f t s2).size) (h5 : meltB (frontT s f) s2 = false) (h6 : meltB (frontT s f ++ s2) (restT s t) = false) (h7 : 256 < (newL l f t s2 l2).length) : splE s l f t s2 l2 = 2 := by
  unfold splE; rw [if_neg (fun h => h h1), if_neg (fun h => h h2), if_neg (by rw [h3]; decide), if_neg h4, if_neg (by rw [h5, h6]; simp), if_pos h7]
theorem splE_7 (h1 : chkN s.size l (sgN s : Nat) = 0) (h2 : chkN s2.size l2 (sgN s2 : Nat) = 0) (h3 : mayB f t (sgN s : Nat) = true) (h4 : ¬ 4096 < (newT s f t s2).size) (h5 : meltB (frontT s f) s2 = false) (h6 : meltB (frontT s f ++ s2) (restT s t) = false) (h7 : ¬ 256 < (newL l f t s2 l2).length) : splE s l f t s2 l2 = 0 := by
  unfold splE; rw [if_neg (fun h => h h1), if_neg (fun h => h h2), if_neg (by rw [h3]; decide), if_neg h4, if_neg (by rw [h5, h6]; simp), if_neg h7]
theorem splT_no (h : ¬ splE s l f t s2 l2 = 0) : splT s l f t s2 l2 = ByteArray.empty := if_neg h
theorem splL_no (h : ¬ splE s l f t s2 l2 = 0) : splL s l f t s2 l2 = [] := if_neg h
theorem splT_yes (h : splE s l f t s2 l2 = 0) : splT s l f t s2 l2 = newT s f t s2 := if_pos h
theorem splL_yes (h : splE s l f t s2 l2 = 0) : splL s l f t s2 l2 = newL l f t s2 l2 := if_pos h
end
end Go.SX.Plain
namespace Go.SX.Plain
end Go.SX.Plain
/- A verified symbolic executor for Go code in the model: a nil slice in a box is told as a row that may grow. -/
namespace Go.SX
open Go.RowKit
section
variable {base : Nat} {w0 : Start} {w : World} {E : Env} {stk : List Fr} {gs : List (Array Value)} {m : Mem}
theorem SatM.retell (h : SatM base w0 E stk gs m w) {id b : Nat} {e e' : Ent} (hm : (id, e) ∈ m) (hb : blk (E.h id) = some b) (he : EntR base w E id e') : SatM base w0 E stk gs (setE id e' m) w :=
  h.turn hm hb rfl rfl rfl rfl (fun _ _ => rfl) he
end
def adoptS (A : Sta) (b k : Nat) {α : Type} (C : Cdc α) (e : Nat) (cs : List AV) (t : Nat) : Sta := match A with
  | ⟨fr, stk, m, nx⟩ => ⟨fr, stk, setE b (.box (cs.set k (.own nx)) t) ((nx, .row C [] e none) :: m), nx + 1⟩
theorem Wk.adopt {T : Tys} {A : Sta} {b k : Nat} {α : Type} {C : Cdc α} {e : Nat} (hC : CdOK T e ⟨α, C⟩) {cs : List AV} {t : Nat} (hlt : b < A.nx) (he : getE A.m b = some (.box cs t)) (hk : cs[k]? = some (.v (.slice none 0 0))) :
    Wk A (adoptS A b k C e cs t) := ⟨fun base w0 E gs tm w hnx hS => by
  obtain ⟨fr, stk, m, nx⟩ := A
  obtain ⟨s1, r1⟩ := hS.newNil hnx.fresh hC
  have hne : ¬ nx = b := fun h => by
    have : b < nx := hlt
    omega
  have hm : (b, Ent.box cs t) ∈ (nx, Ent.row C [] e none) :: m := List.mem_cons_of_mem _ (mem_of_getE he)
  obtain ⟨hid, ⟨bb, vs, h1, h2, h3⟩, _⟩ := s1.ents _ _ hm
  refine ⟨_, hnx.add _, s1.retell hm (b := bb) (by rw [h1]; rfl) ⟨bb, vs, h1, h2, ?_⟩⟩
  obtain ⟨hl, hr⟩ := h3
  have hkl : k < cs.length := by
    rcases Nat.lt_or_ge k cs.length with h | h
    · exact h
    · rw [List.getElem?_eq_none h] at hk; cases hk
  have hkv : cs[k] = .v (.slice none 0 0) := by
    rw [List.getElem?_eq_getElem hkl] at hk
    exact Option.some.inj hk
  refine ⟨by rw [List.length_set]; exact hl, fun i h4 h5 => ?_⟩
  rw [List.getElem_set]
  split
  · rename_i hki
    subst hki
    have := hr k hkl h5
    rw [hkv] at this
    rw [this.v_inv]
    exact r1
  · exact hr i (by simpa using h4) h5⟩
theorem loopA {T : Tys} {A : Sta} {ds : List Nat} {G : (ι : Type) → (ι → Sta) → (ι → Prop) → (ι → Nat) → ι → Prop} (b k : Nat) {α : Type} (C : Cdc α) (e : Nat) (hC : CdOK T e ⟨α, C⟩) {cs : List AV} {t : Nat} (hlt : Nat.ble (b + 1) A.nx = true) (he : getE A.m b = some (.box cs t)) (hk : cs[k]? = some (.v (.slice none 0 0)))
    (ι : Type) (xs : List Nat) (F : ι → Fr) (M : ι → Mem) (I : ι → Prop) (μ : ι → Nat) (i0 : ι) (h0 : I i0) (hw : Wk (adoptS A b k C e cs t) (genS (adoptS A b k C e cs t) (xs ++ ds) (F i0) (M i0)))
    (hr : ∀ i, I i → Run (G ι (fun i => genS (adoptS A b k C e cs t) (xs ++ ds) (F i) (M i)) I μ i)) : ∃ (ι : Type) (S : ι → Sta) (I : ι → Prop) (μ : ι → Nat), Base A ds ∧ (∃ i, I i ∧ Wk A (S i)) ∧ ∀ i, I i → Run (G ι S I μ i) :=
  ⟨ι, _, I, μ, ⟨⟩, ⟨i0, h0, (Wk.adopt hC (Nat.le_of_ble_eq_true hlt) he hk).trans hw⟩, hr⟩
end Go.SX
/- Contract of style.Splice. -/
namespace Go.SX.Try
open Go.Proofs Go.Proofs.Try Go.SX.Plain
set_option maxRecDepth 100000
set_option maxHeartbeats 0
set_option linter.unusedSimpArgs false
theorem q_ssplice : fact 16 f16 := ⟨by kernel_rfl, rfl, by kernel_rfl⟩
theorem con_ssplice : Con prog 16 (fun ((s, l, f, t, s2, l2) : ByteArray × List Spn × Int × Int × ByteArray × List Spn) => [txAV s l, .v (.int .i64 f), .v (.int .i64 t), txAV s2 l2])
    (fun (s, l, f, t, s2, l2) => .tup [txO (splT s l f t s2 l2) (splL s l f t s2 l2), .v (.int .i64 (splE s l f t s2 l2))]) (fun _ => True) := by
  refine Con.of (by kernel_rfl) T_ok D_spn_ok (.con con_scheck (.con con_ucut (.con con_uplace (.con con_umelts (.con con_ucount (.con con_souter .nil)))))) 3 [13, 29, 32] q_ssplice.1 q_ssplice.2.1 q_ssplice.2.2 (fun _ => rfl) fun i _ => ?_
  obtain ⟨s, l, f, t, s2, l2⟩ := i
  repeat' (first | (with_reducible first | exact fun h => h | refine ExE.row (by with_unfolding_all rfl) ?_ | refine And.intro ?_ ?_) | ((with_reducible intro hq); first | exact bne1 hq (by with_reducible assumption) | exact bne1 (by with_reducible assumption) hq | ((simp only [*, BB, cond_true, cond_false, reduceCtorEq] at hq); done) | (revert hq; with_reducible intro _)) | (with_reducible first | exact True.intro | rfl | refine EntLe.row ?_ | exact LeN.ro rfl | exact LeN.rptr | assumption) | ((with_reducible first | refine WkX.chk ?_ | refine Wk.chk ?_ | refine LeL.chk ?_ | refine LeF.chk ?_ | refine Run.mk ?_); (conv => whnf)) | ((with_reducible show LeO _ _); first | refine LeO.ro ?_ | refine LeO.roCap ?_ | refine LeO.nil ?_ (fun _ => rfl)) | ((with_reducible show LeR _ _ _); first | refine LeR.own rfl rfl rfl ?_ | refine LeR.view rfl rfl rfl ?_ ?_ | refine LeR.ro ?_ | refine LeR.roCap ?_ | refine LeR.nil ?_ (fun _ => rfl)) | ((with_reducible first | show drawOK _ _ = true | show lateOK _ _ = true | show drawOK2 _ _ = true | show drawOK3 _ _ = true); kernel_rfl))
  refine loopI Nat [] (fun i => [(30, .v (.int .i64 (i : Nat)))]) (fun _ => []) (fun i => i ≤ 2 ∧ (1 ≤ i → chkN s.size l (sgN s : Nat) = 0) ∧ (2 ≤ i → chkN s2.size l2 (sgN s2 : Nat) = 0)) (fun i => 2 - i) 0 ⟨by omega, by omega, by omega⟩ (Wk.chk ?_) fun i hx => ?_
  · ((conv => whnf); repeat' (first | (with_reducible first | exact fun h => h | refine ExE.row (by with_unfolding_all rfl) ?_ | refine And.intro ?_ ?_) | ((with_reducible intro hq); first | exact bne1 hq (by with_reducible assumption) | exact bne1 (by with_reducible assumption) hq | ((simp only [*, BB, cond_true, cond_false, reduceCtorEq] at hq); done) | (revert hq; with_reducible intro _)) | (with_reducible first | exact True.intro | rfl | refine EntLe.row ?_ | exact LeN.ro rfl | exact LeN.rptr | assumption) | ((with_reducible first | refine WkX.chk ?_ | refine Wk.chk ?_ | refine LeL.chk ?_ | refine LeF.chk ?_ | refine Run.mk ?_); (conv => whnf)) | ((with_reducible show LeO _ _); first | refine LeO.ro ?_ | refine LeO.roCap ?_ | refine LeO.nil ?_ (fun _ => rfl)) | ((with_reducible show LeR _ _ _); first | refine LeR.own rfl rfl rfl ?_ | refine LeR.view rfl rfl rfl ?_ ?_ | refine LeR.ro ?_ | refine LeR.roCap ?_ | refine LeR.nil ?_ (fun _ => rfl)) | ((with_reducible first | show drawOK _ _ = true | show lateOK _ _ = true | show drawOK2 _ _ = true | show drawOK3 _ _ = true); kernel_rfl)))
    all_goals rfl
  obtain ⟨hi, hc1, hc2⟩ := hx
  obtain rfl | rfl | rfl : i = 0 ∨ i = 1 ∨ i = 2 := by omega
  · have kb : decide (((0 : Nat) : Int) < ((2 : Nat) : Int)) = true := rfl
    by_cases h1 : chkN s.size l (sgN s : Nat) = 0
    · have k1 : (chkN s.size l (sgN s : Nat) != 0) = false := by rw [h1]; rfl
      repeat' (first | (with_reducible refine ⟨(s, l), ⟨(.cons (.agg (.cons (.v _) (.cons (.lent _ _ _ _ _ _) .nil))) .nil), ?_⟩, ?_⟩) | (with_reducible refine ex_of (α := Nat) 1 ⟨⟨?_, fun _ => h1, ?_⟩, ?_⟩ ?_) | (with_reducible first | exact fun h => h | refine ExE.row (by with_unfolding_all rfl) ?_ | refine And.intro ?_ ?_) | ((with_reducible intro hq); first | exact bne1 hq (by with_reducible assumption) | exact bne1 (by with_reducible assumption) hq | ((simp only [*, BB, cond_true, cond_false, reduceCtorEq] at hq); done) | (revert hq; with_reducible intro _)) | (with_reducible first | exact True.intro | rfl | refine EntLe.row ?_ | exact LeN.ro rfl | exact LeN.rptr | assumption) | ((with_reducible first | refine WkX.chk ?_ | refine Wk.chk ?_ | refine LeL.chk ?_ | refine LeF.chk ?_ | refine Run.mk ?_); (conv => whnf)) | ((with_reducible show LeO _ _); first | refine LeO.ro ?_ | refine LeO.roCap ?_ | refine LeO.nil ?_ (fun _ => rfl)) | ((with_reducible show LeR _ _ _); first | refine LeR.own rfl rfl rfl ?_ | refine LeR.view rfl rfl rfl ?_ ?_ | refine LeR.ro ?_ | refine LeR.roCap ?_ | refine LeR.nil ?_ (fun _ => rfl)) | ((with_reducible first | show drawOK _ _ = true | show lateOK _ _ = true | show drawOK2 _ _ = true | show drawOK3 _ _ = true); kernel_rfl))
      all_goals first
        | omega
        | rfl
        | (apply Fits.i64 <;> omega)
        | decide
        | trace_state
    · have k1 : (chkN s.size l (sgN s : Nat) != 0) = true := by simpa using h1
      have hE := splE_1 (f := f) (t := t) (s2 := s2) (l2 := l2) h1
      have hT := splT_no (s := s) (l := l) (f := f) (t := t) (s2 := s2) (l2 := l2) (by rw [hE]; exact h1)
      have hL := splL_no (s := s) (l := l) (f := f) (t := t) (s2 := s2) (l2 := l2) (by rw [hE]; exact h1)
      repeat' (first | (with_reducible refine ⟨(s, l), ⟨(.cons (.agg (.cons (.v _) (.cons (.lent _ _ _ _ _ _) .nil))) .nil), ?_⟩, ?_⟩) | (with_reducible first | exact fun h => h | refine ExE.row (by with_unfolding_all rfl) ?_ | refine And.intro ?_ ?_) | ((with_reducible intro hq); first | exact bne1 hq (by with_reducible assumption) | exact bne1 (by with_reducible assumption) hq | ((simp only [*, BB, cond_true, cond_false, reduceCtorEq] at hq); done) | (revert hq; with_reducible intro _)) | (with_reducible first | exact True.intro | rfl | refine EntLe.row ?_ | exact LeN.ro rfl | exact LeN.rptr | assumption) | ((with_reducible first | refine WkX.chk ?_ | refine Wk.chk ?_ | refine LeL.chk ?_ | refine LeF.chk ?_ | refine Run.mk ?_); (conv => whnf)) | ((with_reducible show LeO _ _); first | refine LeO.ro ?_ | refine LeO.roCap ?_ | refine LeO.nil ?_ (fun _ => rfl)) | ((with_reducible show LeR _ _ _); first | refine LeR.own rfl rfl rfl ?_ | refine LeR.view rfl rfl rfl ?_ ?_ | refine LeR.ro ?_ | refine LeR.roCap ?_ | refine LeR.nil ?_ (fun _ => rfl)) | ((with_reducible first | show drawOK _ _ = true | show lateOK _ _ = true | show drawOK2 _ _ = true | show drawOK3 _ _ = true); kernel_rfl))
      all_goals first
        | exact hE.symm
        | exact hT.symm
        | exact hL.symm
        | decide
        | trace_state
  · have kb : decide (((1 : Nat) : Int) < ((2 : Nat) : Int)) = true := rfl
    have h1 := hc1 (Nat.le_refl _)
    by_cases h2 : chkN s2.size l2 (sgN s2 : Nat) = 0
    · have k1 : (chkN s2.size l2 (sgN s2 : Nat) != 0) = false := by rw [h2]; rfl
      repeat' (first | (with_reducible refine ⟨(s2, l2), ⟨(.cons (.agg (.cons (.v _) (.cons (.lent _ _ _ _ _ _) .nil))) .nil), ?_⟩, ?_⟩) | (with_reducible refine ex_of (α := Nat) 2 ⟨⟨?_, fun _ => h1, fun _ => h2⟩, ?_⟩ ?_) | (with_reducible first | exact fun h => h | refine ExE.row (by with_unfolding_all rfl) ?_ | refine And.intro ?_ ?_) | ((with_reducible intro hq); first | exact bne1 hq (by with_reducible assumption) | exact bne1 (by with_reducible assumption) hq | ((simp only [*, BB, cond_true, cond_false, reduceCtorEq] at hq); done) | (revert hq; with_reducible intro _)) | (with_reducible first | exact True.intro | rfl | refine EntLe.row ?_ | exact LeN.ro rfl | exact LeN.rptr | assumption) | ((with_reducible first | refine WkX.chk ?_ | refine Wk.chk ?_ | refine LeL.chk ?_ | refine LeF.chk ?_ | refine Run.mk ?_); (conv => whnf)) | ((with_reducible show LeO _ _); first | refine LeO.ro ?_ | refine LeO.roCap ?_ | refine LeO.nil ?_ (fun _ => rfl)) | ((with_reducible show LeR _ _ _); first | refine LeR.own rfl rfl rfl ?_ | refine LeR.view rfl rfl rfl ?_ ?_ | refine LeR.ro ?_ | refine LeR.roCap ?_ | refine LeR.nil ?_ (fun _ => rfl)) | ((with_reducible first | show drawOK _ _ = true | show lateOK _ _ = true | show drawOK2 _ _ = true | show drawOK3 _ _ = true); kernel_rfl))
      all_goals first
        | omega
        | rfl
        | (apply Fits.i64 <;> omega)
        | decide
        | trace_state
    · have k1 : (chkN s2.size l2 (sgN s2 : Nat) != 0) = true := by simpa using h2
      have hE := splE_2 (f := f) (t := t) h1 h2
      have hT := splT_no (s := s) (l := l) (f := f) (t := t) (s2 := s2) (l2 := l2) (by rw [hE]; exact h2)
      have hL := splL_no (s := s) (l := l) (f := f) (t := t) (s2 := s2) (l2 := l2) (by rw [hE]; exact h2)
      repeat' (first | (with_reducible refine ⟨(s2, l2), ⟨(.cons (.agg (.cons (.v _) (.cons (.lent _ _ _ _ _ _) .nil))) .nil), ?_⟩, ?_⟩) | (with_reducible first | exact fun h => h | refine ExE.row (by with_unfolding_all rfl) ?_ | refine And.intro ?_ ?_) | ((with_reducible intro hq); first | exact bne1 hq (by with_reducible assumption) | exact bne1 (by with_reducible assumption) hq | ((simp only [*, BB, cond_true, cond_false, reduceCtorEq] at hq); done) | (revert hq; with_reducible intro _)) | (with_reducible first | exact True.intro | rfl | refine EntLe.row ?_ | exact LeN.ro rfl | exact LeN.rptr | assumption) | ((with_reducible first | refine WkX.chk ?_ | refine Wk.chk ?_ | refine LeL.chk ?_ | refine LeF.chk ?_ | refine Run.mk ?_); (conv => whnf)) | ((with_reducible show LeO _ _); first | refine LeO.ro ?_ | refine LeO.roCap ?_ | refine LeO.nil ?_ (fun _ => rfl)) | ((with_reducible show LeR _ _ _); first | refine LeR.own rfl rfl rfl ?_ | refine LeR.view rfl rfl rfl ?_ ?_ | refine LeR.ro ?_ | refine LeR.roCap ?_ | refine LeR.nil ?_ (fun _ => rfl)) | ((with_reducible first | show drawOK _ _ = true | show lateOK _ _ = true | show drawOK2 _ _ = true | show drawOK3 _ _ = true); kernel_rfl))
      all_goals first
        | exact hE.symm
        | exact hT.symm
        | exact hL.symm
        | decide
        | trace_state
  have kb : decide (((2 : Nat) : Int) < ((2 : Nat) : Int)) = false := rfl
  have h1 := hc1 (by omega)
  have h2 := hc2 (by omega)
  clear hc1 hc2
  have ok1 := OkT.of h1
  have ok2 := OkT.of h2
  have hs := ok1.size
  have hs2 := ok2.size
  have hn := sgN_le s
  have hn2 := sgN_le s2
  by_cases hm : 0 ≤ f ∧ f ≤ t ∧ t ≤ sgN s
  case neg =>
    have h3 : mayB f t (sgN s : Nat) = false := by
      unfold mayB
      rw [Bool.eq_false_iff]
      simp only [ne_eq, Bool.and_eq_true, decide_eq_true_eq]
      omega
    have hE := splE_3 h1 h2 h3
    have hT := splT_no (s := s) (l := l) (f := f) (t := t) (s2 := s2) (l2 := l2) (by rw [hE]; decide)
    have hL := splL_no (s := s) (l := l) (f := f) (t := t) (s2 := s2) (l2 := l2) (by rw [hE]; decide)
    have hce : cutE s f t = 1 := by unfold cutE; rw [if_neg hm]
    have k1 : (cutE s f t != 0) = true := by rw [hce]; rfl
    repeat' (first | (with_reducible refine ⟨(_, _, _), ⟨(.cons (.v _) (.cons (.v _) (.cons (.v _) (.cons (.v _) .nil)))), ?_⟩, ?_⟩) | (with_reducible first | exact fun h => h | refine ExE.row (by with_unfolding_all rfl) ?_ | refine And.intro ?_ ?_) | ((with_reducible intro hq); first | exact bne1 hq (by with_reducible assumption) | exact bne1 (by with_reducible assumption) hq | ((simp only [*, BB, cond_true, cond_false, reduceCtorEq] at hq); done) | (revert hq; with_reducible intro _)) | (with_reducible first | exact True.intro | rfl | refine EntLe.row ?_ | exact LeN.ro rfl | exact LeN.rptr | assumption) | ((with_reducible first | refine WkX.chk ?_ | refine Wk.chk ?_ | refine LeL.chk ?_ | refine LeF.chk ?_ | refine Run.mk ?_); (conv => whnf)) | ((with_reducible show LeO _ _); first | refine LeO.ro ?_ | refine LeO.roCap ?_ | refine LeO.nil ?_ (fun _ => rfl)) | ((with_reducible show LeR _ _ _); first | refine LeR.own rfl rfl rfl ?_ | refine LeR.view rfl rfl rfl ?_ ?_ | refine LeR.ro ?_ | refine LeR.roCap ?_ | refine LeR.nil ?_ (fun _ => rfl)) | ((with_reducible first | show drawOK _ _ = true | show lateOK _ _ = true | show drawOK2 _ _ = true | show drawOK3 _ _ = true); kernel_rfl))
    all_goals first
      | (dsimp only; omega)
      | exact hE.symm
      | exact hT.symm
      | exact hL.symm
      | trace_state
  have h3 : mayB f t (sgN s : Nat) = true := by
    unfold mayB
    simp only [Bool.and_eq_true, decide_eq_true_eq]
    omega
  have hce : cutE s f t = 0 := by unfold cutE; rw [if_pos hm]
  have k1 : (cutE s f t != 0) = false := by rw [hce]; rfl
  have hct : cutT s f t = s.extract (posS s f.toNat) (posS s t.toNat) := by unfold cutT; rw [if_pos hm]
  have hpn : plN s f = (posS s f.toNat : Nat) := by unfold plN; rw [if_pos ⟨by omega, by omega⟩]
  have p5 := posS_mono s (i := f.toNat) (j := t.toNat) (by omega) (by omega)
  have p6 := posS_le s t.toNat
  have hcs : (cutT s f t).size = posS s t.toNat - posS s f.toNat := by rw [hct]; exact size_extract' p6
  have hfs : (frontT s f).size = posS s f.toNat := by unfold frontT; rw [size_extract' (by omega)]; omega
  have hrs : (restT s t).size = s.size - posS s t.toNat := by unfold restT; exact size_extract' (Nat.le_refl _)
  have hnsz : (newT s f t s2).size = (frontT s f).size + s2.size + (restT s t).size := by unfold newT; rw [app_size, app_size]
  have hfsz : (frontT s f ++ s2).size = (frontT s f).size + s2.size := app_size _ _
  have e1 : (plN s f + ((cutT s f t).size : Int)).toNat = posS s t.toNat := by rw [hpn, hcs]; omega
  have e2 : (plN s f).toNat = posS s f.toNat := by rw [hpn]; omega
  repeat' (first | (with_reducible refine ⟨(_, _, _), ⟨(.cons (.v _) (.cons (.v _) (.cons (.v _) (.cons (.v _) .nil)))), ?_⟩, ?_⟩) | (with_reducible refine ⟨(_, _), ⟨(.cons (.v _) (.cons (.v _) (.cons (.v _) (.cons (.v _) .nil)))), ?_⟩, ?_⟩) | (with_reducible first | exact fun h => h | refine ExE.row (by with_unfolding_all rfl) ?_ | refine And.intro ?_ ?_) | ((with_reducible intro hq); first | exact bne1 hq (by with_reducible assumption) | exact bne1 (by with_reducible assumption) hq | ((simp only [*, BB, cond_true, cond_false, reduceCtorEq] at hq); done) | (revert hq; with_reducible intro _)) | (with_reducible first | exact True.intro | rfl | refine EntLe.row ?_ | exact LeN.ro rfl | exact LeN.rptr | assumption) | ((with_reducible first | refine WkX.chk ?_ | refine Wk.chk ?_ | refine LeL.chk ?_ | refine LeF.chk ?_ | refine Run.mk ?_); (conv => whnf)) | ((with_reducible show LeO _ _); first | refine LeO.ro ?_ | refine LeO.roCap ?_ | refine LeO.nil ?_ (fun _ => rfl)) | ((with_reducible show LeR _ _ _); first | refine LeR.own rfl rfl rfl ?_ | refine LeR.view rfl rfl rfl ?_ ?_ | refine LeR.ro ?_ | refine LeR.roCap ?_ | refine LeR.nil ?_ (fun _ => rfl)) | ((with_reducible first | show drawOK _ _ = true | show lateOK _ _ = true | show drawOK2 _ _ = true | show drawOK3 _ _ = true); kernel_rfl))
  all_goals (try (dsimp only; omega))
  refine joinI Unit [] (fun _ => [(17, .v (.string (frontT s f))), (18, .v (.string (restT s t)))]) (fun _ => []) (fun _ => True) ?_ fun _ _ => ?_
  · repeat' (first | (with_reducible refine ex_of () trivial ?_) | (with_reducible first | exact fun h => h | refine ExE.row (by with_unfolding_all rfl) ?_ | refine And.intro ?_ ?_) | ((with_reducible intro hq); first | exact bne1 hq (by with_reducible assumption) | exact bne1 (by with_reducible assumption) hq | ((simp only [*, BB, cond_true, cond_false, reduceCtorEq] at hq); done) | (revert hq; with_reducible intro _)) | (with_reducible first | exact True.intro | rfl | refine EntLe.row ?_ | exact LeN.ro rfl | exact LeN.rptr | assumption) | ((with_reducible first | refine WkX.chk ?_ | refine Wk.chk ?_ | refine LeL.chk ?_ | refine LeF.chk ?_ | refine Run.mk ?_); (conv => whnf)) | ((with_reducible show LeO _ _); first | refine LeO.ro ?_ | refine LeO.roCap ?_ | refine LeO.nil ?_ (fun _ => rfl)) | ((with_reducible show LeR _ _ _); first | refine LeR.own rfl rfl rfl ?_ | refine LeR.view rfl rfl rfl ?_ ?_ | refine LeR.ro ?_ | refine LeR.roCap ?_ | refine LeR.nil ?_ (fun _ => rfl)) | ((with_reducible first | show drawOK _ _ = true | show lateOK _ _ = true | show drawOK2 _ _ = true | show drawOK3 _ _ = true); kernel_rfl))
    all_goals first
      | (rw [e2]; rfl)
      | (rw [e1]; rfl)
      | (rw [hpn, hcs]; apply Fits.i64 <;> omega)
      | (rw [hpn, hcs]; omega)
      | (rw [hpn]; omega)
      | trace_state
  have hF : Hid (newT s f t s2 = frontT s f ++ s2 ++ restT s t) := ⟨rfl⟩
  clear e1 e2 hcs hct hpn hce
  by_cases h4 : 4096 < (newT s f t s2).size
  · have hE := splE_4 (l := l) (l2 := l2) h1 h2 h3 h4
    have hT := splT_no (s := s) (l := l) (f := f) (t := t) (s2 := s2) (l2 := l2) (by rw [hE]; decide)
    have hL := splL_no (s := s) (l := l) (f := f) (t := t) (s2 := s2) (l2 := l2) (by rw [hE]; decide)
    have k2 : decide ((4096 : Int) < ((frontT s f).size : Int) + (s2.size : Int) + ((restT s t).size : Int)) = true := decide_eq_true (by omega)
    repeat' (first | (with_reducible first | exact fun h => h | refine ExE.row (by with_unfolding_all rfl) ?_ | refine And.intro ?_ ?_) | ((with_reducible intro hq); first | exact bne1 hq (by with_reducible assumption) | exact bne1 (by with_reducible assumption) hq | ((simp only [*, BB, cond_true, cond_false, reduceCtorEq] at hq); done) | (revert hq; with_reducible intro _)) | (with_reducible first | exact True.intro | rfl | refine EntLe.row ?_ | exact LeN.ro rfl | exact LeN.rptr | assumption) | ((with_reducible first | refine WkX.chk ?_ | refine Wk.chk ?_ | refine LeL.chk ?_ | refine LeF.chk ?_ | refine Run.mk ?_); (conv => whnf)) | ((with_reducible show LeO _ _); first | refine LeO.ro ?_ | refine LeO.roCap ?_ | refine LeO.nil ?_ (fun _ => rfl)) | ((with_reducible show LeR _ _ _); first | refine LeR.own rfl rfl rfl ?_ | refine LeR.view rfl rfl rfl ?_ ?_ | refine LeR.ro ?_ | refine LeR.roCap ?_ | refine LeR.nil ?_ (fun _ => rfl)) | ((with_reducible first | show drawOK _ _ = true | show lateOK _ _ = true | show drawOK2 _ _ = true | show drawOK3 _ _ = true); kernel_rfl))
    all_goals first
      | (apply Fits.i64 <;> omega)
      | exact hE.symm
      | exact hT.symm
      | exact hL.symm
      | trace_state
  have k2 : decide ((4096 : Int) < ((frontT s f).size : Int) + (s2.size : Int) + ((restT s t).size : Int)) = false := decide_eq_false (by omega)
  have hw2 : (frontT s f ++ s2 ++ restT s t).size = (newT s f t s2).size := rfl
  have hfl : (frontT s f).size + s2.size + (restT s t).size ≤ 4096 := by omega
  have hms := Bool.eq_false_or_eq_true (meltB (frontT s f) s2)
  rcases hms with h5 | h5
  · have hE := splE_5 (l := l) (l2 := l2) h1 h2 h3 h4 (.inl h5)
    have hT := splT_no (s := s) (l := l) (f := f) (t := t) (s2 := s2) (l2 := l2) (by rw [hE]; decide)
    have hL := splL_no (s := s) (l := l) (f := f) (t := t) (s2 := s2) (l2 := l2) (by rw [hE]; decide)
    repeat' (first | (with_reducible refine ⟨(_, _), ⟨(.cons (.v _) (.cons (.v _) .nil)), ?_⟩, ?_⟩) | (with_reducible first | exact fun h => h | refine ExE.row (by with_unfolding_all rfl) ?_ | refine And.intro ?_ ?_) | ((with_reducible intro hq); first | exact bne1 hq (by with_reducible assumption) | exact bne1 (by with_reducible assumption) hq | ((simp only [*, BB, cond_true, cond_false, reduceCtorEq] at hq); done) | (revert hq; with_reducible intro _)) | (with_reducible first | exact True.intro | rfl | refine EntLe.row ?_ | exact LeN.ro rfl | exact LeN.rptr | assumption) | ((with_reducible first | refine WkX.chk ?_ | refine Wk.chk ?_ | refine LeL.chk ?_ | refine LeF.chk ?_ | refine Run.mk ?_); (conv => whnf)) | ((with_reducible show LeO _ _); first | refine LeO.ro ?_ | refine LeO.roCap ?_ | refine LeO.nil ?_ (fun _ => rfl)) | ((with_reducible show LeR _ _ _); first | refine LeR.own rfl rfl rfl ?_ | refine LeR.view rfl rfl rfl ?_ ?_ | refine LeR.ro ?_ | refine LeR.roCap ?_ | refine LeR.nil ?_ (fun _ => rfl)) | ((with_reducible first | show drawOK _ _ = true | show lateOK _ _ = true | show drawOK2 _ _ = true | show drawOK3 _ _ = true); kernel_rfl))
    all_goals first
      | omega
      | (apply Fits.i64 <;> omega)
      | (dsimp only; omega)
      | exact hE.symm
      | exact hT.symm
      | exact hL.symm
      | trace_state
  have hms := Bool.eq_false_or_eq_true (meltB (frontT s f ++ s2) (restT s t))
  rcases hms with h6 | h6
  · have hE := splE_5 (l := l) (l2 := l2) h1 h2 h3 h4 (.inr h6)
    have hT := splT_no (s := s) (l := l) (f := f) (t := t) (s2 := s2) (l2 := l2) (by rw [hE]; decide)
    have hL := splL_no (s := s) (l := l) (f := f) (t := t) (s2 := s2) (l2 := l2) (by rw [hE]; decide)
    repeat' (first | (with_reducible refine ⟨(_, _), ⟨(.cons (.v _) (.cons (.v _) .nil)), ?_⟩, ?_⟩) | (with_reducible first | exact fun h => h | refine ExE.row (by with_unfolding_all rfl) ?_ | refine And.intro ?_ ?_) | ((with_reducible intro hq); first | exact bne1 hq (by with_reducible assumption) | exact bne1 (by with_reducible assumption) hq | ((simp only [*, BB, cond_true, cond_false, reduceCtorEq] at hq); done) | (revert hq; with_reducible intro _)) | (with_reducible first | exact True.intro | rfl | refine EntLe.row ?_ | exact LeN.ro rfl | exact LeN.rptr | assumption) | ((with_reducible first | refine WkX.chk ?_ | refine Wk.chk ?_ | refine LeL.chk ?_ | refine LeF.chk ?_ | refine Run.mk ?_); (conv => whnf)) | ((with_reducible show LeO _ _); first | refine LeO.ro ?_ | refine LeO.roCap ?_ | refine LeO.nil ?_ (fun _ => rfl)) | ((with_reducible show LeR _ _ _); first | refine LeR.own rfl rfl rfl ?_ | refine LeR.view rfl rfl rfl ?_ ?_ | refine LeR.ro ?_ | refine LeR.roCap ?_ | refine LeR.nil ?_ (fun _ => rfl)) | ((with_reducible first | show drawOK _ _ = true | show lateOK _ _ = true | show drawOK2 _ _ = true | show drawOK3 _ _ = true); kernel_rfl))
    all_goals first
      | omega
      | (apply Fits.i64 <;> omega)
      | (dsimp only; omega)
      | exact hE.symm
      | exact hT.symm
      | exact hL.symm
      | trace_state
  have hLl : (isort ltO l).length = l.length := isort_len l
  have hl := ok1.len
  have hl2 := ok2.len
  have hd : C_spn.d = zS := rfl
  repeat' (first | (with_reducible refine ⟨(_, _), ⟨(.cons (.v _) (.cons (.v _) .nil)), ?_⟩, ?_⟩) | (with_reducible refine ⟨_, ⟨(.cons (.v _) .nil), ?_⟩, ?_⟩) | (with_reducible refine ⟨(s, l), ⟨(.cons (.agg (.cons (.v _) (.cons (.lent _ _ _ _ _ _) .nil))) .nil), ?_⟩, ?_⟩) | (with_reducible first | exact fun h => h | refine ExE.row (by with_unfolding_all rfl) ?_ | refine And.intro ?_ ?_) | ((with_reducible intro hq); first | exact bne1 hq (by with_reducible assumption) | exact bne1 (by with_reducible assumption) hq | ((simp only [*, BB, cond_true, cond_false, reduceCtorEq] at hq); done) | (revert hq; with_reducible intro _)) | (with_reducible first | exact True.intro | rfl | refine EntLe.row ?_ | exact LeN.ro rfl | exact LeN.rptr | assumption) | ((with_reducible first | refine WkX.chk ?_ | refine Wk.chk ?_ | refine LeL.chk ?_ | refine LeF.chk ?_ | refine Run.mk ?_); (conv => whnf)) | ((with_reducible show LeO _ _); first | refine LeO.ro ?_ | refine LeO.roCap ?_ | refine LeO.nil ?_ (fun _ => rfl)) | ((with_reducible show LeR _ _ _); first | refine LeR.own rfl rfl rfl ?_ | refine LeR.view rfl rfl rfl ?_ ?_ | refine LeR.ro ?_ | refine LeR.roCap ?_ | refine LeR.nil ?_ (fun _ => rfl)) | ((with_reducible first | show drawOK _ _ = true | show lateOK _ _ = true | show drawOK2 _ _ = true | show drawOK3 _ _ = true); kernel_rfl))
  all_goals (try (first | omega | (apply Fits.i64 <;> omega) | (dsimp only; omega)))
  have hin := (spans_in ok1.spans).isort
  have hin2 := spans_in ok2.spans
  have hg : ∀ x, mvS f t (sgN s2 : Nat) x = mvS f t (sgN s2 : Nat) x := fun _ => rfl
  refine loopA 4 1 C_spn 71 (T := T) ⟨fun _ => rfl, by decide, _, rfl, rfl, by decide⟩ (by rfl) (by with_unfolding_all exact rfl) (by with_unfolding_all exact rfl) Nat [] (fun i => [(112, .v (.int .i64 (i : Nat)))]) (fun i => [(5, .row C_spn (outTo (mvS f t (sgN s2 : Nat)) (isort ltO l) i) 71 none)]) (fun i => i ≤ (isort ltO l).length) (fun i => (isort ltO l).length - i) 0 (Nat.zero_le _) (Wk.chk ?_) fun i hi => ?_
  · ((conv => whnf); repeat' (first | (with_reducible first | exact fun h => h | refine ExE.row (by with_unfolding_all rfl) ?_ | refine And.intro ?_ ?_) | ((with_reducible intro hq); first | exact bne1 hq (by with_reducible assumption) | exact bne1 (by with_reducible assumption) hq | ((simp only [*, BB, cond_true, cond_false, reduceCtorEq] at hq); done) | (revert hq; with_reducible intro _)) | (with_reducible first | exact True.intro | rfl | refine EntLe.row ?_ | exact LeN.ro rfl | exact LeN.rptr | assumption) | ((with_reducible first | refine WkX.chk ?_ | refine Wk.chk ?_ | refine LeL.chk ?_ | refine LeF.chk ?_ | refine Run.mk ?_); (conv => whnf)) | ((with_reducible show LeO _ _); first | refine LeO.ro ?_ | refine LeO.roCap ?_ | refine LeO.nil ?_ (fun _ => rfl)) | ((with_reducible show LeR _ _ _); first | refine LeR.own rfl rfl rfl ?_ | refine LeR.view rfl rfl rfl ?_ ?_ | refine LeR.ro ?_ | refine LeR.roCap ?_ | refine LeR.nil ?_ (fun _ => rfl)) | ((with_reducible first | show drawOK _ _ = true | show lateOK _ _ = true | show drawOK2 _ _ = true | show drawOK3 _ _ = true); kernel_rfl)))
    all_goals first
      | rfl
      | trace_state
  have hi : i ≤ (isort ltO l).length := hi
  have e1 : ((i : Int)).toNat = i := Int.toNat_natCast _
  have hol := outTo_len (mvS f t (sgN s2 : Nat)) (isort ltO l) i
  by_cases hil : i < (isort ltO l).length
  · have hlt : decide ((i : Int) < ((isort ltO l).length : Int)) = true := decide_eq_true (by omega)
    have hxb := hin.at hil
    have hoy := outTo_yes (g := mvS f t (sgN s2 : Nat)) hil
    have hon := outTo_no (g := mvS f t (sgN s2 : Nat)) hil
    have hxe : ∃ x, x = (isort ltO l).getD i zS := ⟨_, rfl⟩
    obtain ⟨x, hx⟩ := hxe
    rw [← hx] at hxb hoy hon
    have hxx : (isort ltO l).getD ((i : Int)).toNat C_spn.d = x := by rw [e1, hd, hx]
    have hbb := bgn_bd (f := f) (t := t) (n := (sgN s2 : Nat)) (x := x.frm) hm.1 hm.2.1 (by omega) hxb.1
    have heb := eds_bd (f := f) (t := t) (n := (sgN s2 : Nat)) (x := x.to) hm.1 hm.2.1 (by omega) (by omega)
    repeat' (first | (with_reducible first | exact fun h => h | refine ExE.row (by with_unfolding_all rfl) ?_ | refine And.intro ?_ ?_) | ((with_reducible intro hq); first | exact bne1 hq (by with_reducible assumption) | exact bne1 (by with_reducible assumption) hq | ((simp only [*, BB, cond_true, cond_false, reduceCtorEq] at hq); done) | (revert hq; with_reducible intro _)) | (with_reducible first | exact True.intro | rfl | refine EntLe.row ?_ | exact LeN.ro rfl | exact LeN.rptr | assumption) | ((with_reducible first | refine WkX.chk ?_ | refine Wk.chk ?_ | refine LeL.chk ?_ | refine LeF.chk ?_ | refine Run.mk ?_); (conv => whnf)) | ((with_reducible show LeO _ _); first | refine LeO.ro ?_ | refine LeO.roCap ?_ | refine LeO.nil ?_ (fun _ => rfl)) | ((with_reducible show LeR _ _ _); first | refine LeR.own rfl rfl rfl ?_ | refine LeR.view rfl rfl rfl ?_ ?_ | refine LeR.ro ?_ | refine LeR.roCap ?_ | refine LeR.nil ?_ (fun _ => rfl)) | ((with_reducible first | show drawOK _ _ = true | show lateOK _ _ = true | show drawOK2 _ _ = true | show drawOK3 _ _ = true); kernel_rfl))
    any_goals omega
    refine joinI Unit [] (fun _ => []) (fun _ => [(6, .box [.v (.int .i64 (bgn f t (sgN s2 : Nat) x.frm)), .v (.int .i64 x.to), .v (.int .i64 x.kind), .v (.int .i64 x.val)] 71)]) (fun _ => True) ?_ fun _ _ => ?_
    · by_cases c1 : t ≤ x.frm
      · have kc : decide (t ≤ ((isort ltO l).getD ((i : Int)).toNat C_spn.d).frm) = true := by rw [hxx]; exact decide_eq_true c1
        have hv : bgn f t (sgN s2 : Nat) x.frm = x.frm + ((sgN s2 : Nat) - (t - f)) := by unfold bgn; rw [if_pos c1]
        repeat' (first | (with_reducible refine ex_of () trivial ?_) | (with_reducible first | exact fun h => h | refine ExE.row (by with_unfolding_all rfl) ?_ | refine And.intro ?_ ?_) | ((with_reducible intro hq); first | exact bne1 hq (by with_reducible assumption) | exact bne1 (by with_reducible assumption) hq | ((simp only [*, BB, cond_true, cond_false, reduceCtorEq] at hq); done) | (revert hq; with_reducible intro _)) | (with_reducible first | exact True.intro | rfl | refine EntLe.row ?_ | exact LeN.ro rfl | exact LeN.rptr | assumption) | ((with_reducible first | refine WkX.chk ?_ | refine Wk.chk ?_ | refine LeL.chk ?_ | refine LeF.chk ?_ | refine Run.mk ?_); (conv => whnf)) | ((with_reducible show LeO _ _); first | refine LeO.ro ?_ | refine LeO.roCap ?_ | refine LeO.nil ?_ (fun _ => rfl)) | ((with_reducible show LeR _ _ _); first | refine LeR.own rfl rfl rfl ?_ | refine LeR.view rfl rfl rfl ?_ ?_ | refine LeR.ro ?_ | refine LeR.roCap ?_ | refine LeR.nil ?_ (fun _ => rfl)) | ((with_reducible first | show drawOK _ _ = true | show lateOK _ _ = true | show drawOK2 _ _ = true | show drawOK3 _ _ = true); kernel_rfl))
        all_goals first
        | omega
        | (rw [hxx]; done)
        | (rw [hxx]; apply Fits.i64 <;> omega)
        | (apply Fits.i64 <;> omega)
        | (rw [hxx]; exact hv.symm)
        | exact hv.symm
        | trace_state

      have kc : decide (t ≤ ((isort ltO l).getD ((i : Int)).toNat C_spn.d).frm) = false := by rw [hxx]; exact decide_eq_false c1
      by_cases c2 : f < x.frm
      · have kd : decide (f < ((isort ltO l).getD ((i : Int)).toNat C_spn.d).frm) = true := by rw [hxx]; exact decide_eq_true c2
        have hv : bgn f t (sgN s2 : Nat) x.frm = f + (sgN s2 : Nat) := by unfold bgn; rw [if_neg c1, if_pos c2]
        repeat' (first | (with_reducible refine ex_of () trivial ?_) | (with_reducible first | exact fun h => h | refine ExE.row (by with_unfolding_all rfl) ?_ | refine And.intro ?_ ?_) | ((with_reducible intro hq); first | exact bne1 hq (by with_reducible assumption) | exact bne1 (by with_reducible assumption) hq | ((simp only [*, BB, cond_true, cond_false, reduceCtorEq] at hq); done) | (revert hq; with_reducible intro _)) | (with_reducible first | exact True.intro | rfl | refine EntLe.row ?_ | exact LeN.ro rfl | exact LeN.rptr | assumption) | ((with_reducible first | refine WkX.chk ?_ | refine Wk.chk ?_ | refine LeL.chk ?_ | refine LeF.chk ?_ | refine Run.mk ?_); (conv => whnf)) | ((with_reducible show LeO _ _); first | refine LeO.ro ?_ | refine LeO.roCap ?_ | refine LeO.nil ?_ (fun _ => rfl)) | ((with_reducible show LeR _ _ _); first | refine LeR.own rfl rfl rfl ?_ | refine LeR.view rfl rfl rfl ?_ ?_ | refine LeR.ro ?_ | refine LeR.roCap ?_ | refine LeR.nil ?_ (fun _ => rfl)) | ((with_reducible first | show drawOK _ _ = true | show lateOK _ _ = true | show drawOK2 _ _ = true | show drawOK3 _ _ = true); kernel_rfl))
        all_goals first
        | omega
        | (rw [hxx]; done)
        | (rw [hxx]; apply Fits.i64 <;> omega)
        | (apply Fits.i64 <;> omega)
        | (rw [hxx]; exact hv.symm)
        | exact hv.symm
        | trace_state

      · have kd : decide (f < ((isort ltO l).getD ((i : Int)).toNat C_spn.d).frm) = false := by rw [hxx]; exact decide_eq_false c2
        have hv : bgn f t (sgN s2 : Nat) x.frm = x.frm := by unfold bgn; rw [if_neg c1, if_neg c2]
        repeat' (first | (with_reducible refine ex_of () trivial ?_) | (with_reducible first | exact fun h => h | refine ExE.row (by with_unfolding_all rfl) ?_ | refine And.intro ?_ ?_) | ((with_reducible intro hq); first | exact bne1 hq (by with_reducible assumption) | exact bne1 (by with_reducible assumption) hq | ((simp only [*, BB, cond_true, cond_false, reduceCtorEq] at hq); done) | (revert hq; with_reducible intro _)) | (with_reducible first | exact True.intro | rfl | refine EntLe.row ?_ | exact LeN.ro rfl | exact LeN.rptr | assumption) | ((with_reducible first | refine WkX.chk ?_ | refine Wk.chk ?_ | refine LeL.chk ?_ | refine LeF.chk ?_ | refine Run.mk ?_); (conv => whnf)) | ((with_reducible show LeO _ _); first | refine LeO.ro ?_ | refine LeO.roCap ?_ | refine LeO.nil ?_ (fun _ => rfl)) | ((with_reducible show LeR _ _ _); first | refine LeR.own rfl rfl rfl ?_ | refine LeR.view rfl rfl rfl ?_ ?_ | refine LeR.ro ?_ | refine LeR.roCap ?_ | refine LeR.nil ?_ (fun _ => rfl)) | ((with_reducible first | show drawOK _ _ = true | show lateOK _ _ = true | show drawOK2 _ _ = true | show drawOK3 _ _ = true); kernel_rfl))
        all_goals first
        | omega
        | (rw [hxx]; done)
        | (rw [hxx]; apply Fits.i64 <;> omega)
        | (apply Fits.i64 <;> omega)
        | (rw [hxx]; exact hv.symm)
        | exact hv.symm
        | trace_state

    repeat' (first | (with_reducible first | exact fun h => h | refine ExE.row (by with_unfolding_all rfl) ?_ | refine And.intro ?_ ?_) | ((with_reducible intro hq); first | exact bne1 hq (by with_reducible assumption) | exact bne1 (by with_reducible assumption) hq | ((simp only [*, BB, cond_true, cond_false, reduceCtorEq] at hq); done) | (revert hq; with_reducible intro _)) | (with_reducible first | exact True.intro | rfl | refine EntLe.row ?_ | exact LeN.ro rfl | exact LeN.rptr | assumption) | ((with_reducible first | refine WkX.chk ?_ | refine Wk.chk ?_ | refine LeL.chk ?_ | refine LeF.chk ?_ | refine Run.mk ?_); (conv => whnf)) | ((with_reducible show LeO _ _); first | refine LeO.ro ?_ | refine LeO.roCap ?_ | refine LeO.nil ?_ (fun _ => rfl)) | ((with_reducible show LeR _ _ _); first | refine LeR.own rfl rfl rfl ?_ | refine LeR.view rfl rfl rfl ?_ ?_ | refine LeR.ro ?_ | refine LeR.roCap ?_ | refine LeR.nil ?_ (fun _ => rfl)) | ((with_reducible first | show drawOK _ _ = true | show lateOK _ _ = true | show drawOK2 _ _ = true | show drawOK3 _ _ = true); kernel_rfl))
    refine joinI Unit [] (fun _ => []) (fun _ => [(6, .box [.v (.int .i64 (bgn f t (sgN s2 : Nat) x.frm)), .v (.int .i64 (eds f t (sgN s2 : Nat) x.to)), .v (.int .i64 x.kind), .v (.int .i64 x.val)] 71)]) (fun _ => True) ?_ fun _ _ => ?_
    · by_cases c1 : x.to ≤ f
      · have kc : decide (x.to ≤ f) = true := decide_eq_true c1
        have hv : eds f t (sgN s2 : Nat) x.to = x.to := by unfold eds; rw [if_pos c1]
        repeat' (first | (with_reducible refine ex_of () trivial ?_) | (with_reducible first | exact fun h => h | refine ExE.row (by with_unfolding_all rfl) ?_ | refine And.intro ?_ ?_) | ((with_reducible intro hq); first | exact bne1 hq (by with_reducible assumption) | exact bne1 (by with_reducible assumption) hq | ((simp only [*, BB, cond_true, cond_false, reduceCtorEq] at hq); done) | (revert hq; with_reducible intro _)) | (with_reducible first | exact True.intro | rfl | refine EntLe.row ?_ | exact LeN.ro rfl | exact LeN.rptr | assumption) | ((with_reducible first | refine WkX.chk ?_ | refine Wk.chk ?_ | refine LeL.chk ?_ | refine LeF.chk ?_ | refine Run.mk ?_); (conv => whnf)) | ((with_reducible show LeO _ _); first | refine LeO.ro ?_ | refine LeO.roCap ?_ | refine LeO.nil ?_ (fun _ => rfl)) | ((with_reducible show LeR _ _ _); first | refine LeR.own rfl rfl rfl ?_ | refine LeR.view rfl rfl rfl ?_ ?_ | refine LeR.ro ?_ | refine LeR.roCap ?_ | refine LeR.nil ?_ (fun _ => rfl)) | ((with_reducible first | show drawOK _ _ = true | show lateOK _ _ = true | show drawOK2 _ _ = true | show drawOK3 _ _ = true); kernel_rfl))
        all_goals first
        | omega
        | (rw [hxx]; done)
        | (rw [hxx]; apply Fits.i64 <;> omega)
        | (apply Fits.i64 <;> omega)
        | (rw [hxx]; exact hv.symm)
        | exact hv.symm
        | trace_state

      have kc : decide (x.to ≤ f) = false := decide_eq_false c1
      by_cases c2 : t ≤ x.to
      · have kd : decide (t ≤ x.to) = true := decide_eq_true c2
        have hv : eds f t (sgN s2 : Nat) x.to = x.to + ((sgN s2 : Nat) - (t - f)) := by unfold eds; rw [if_neg c1, if_pos c2]
        repeat' (first | (with_reducible refine ex_of () trivial ?_) | (with_reducible first | exact fun h => h | refine ExE.row (by with_unfolding_all rfl) ?_ | refine And.intro ?_ ?_) | ((with_reducible intro hq); first | exact bne1 hq (by with_reducible assumption) | exact bne1 (by with_reducible assumption) hq | ((simp only [*, BB, cond_true, cond_false, reduceCtorEq] at hq); done) | (revert hq; with_reducible intro _)) | (with_reducible first | exact True.intro | rfl | refine EntLe.row ?_ | exact LeN.ro rfl | exact LeN.rptr | assumption) | ((with_reducible first | refine WkX.chk ?_ | refine Wk.chk ?_ | refine LeL.chk ?_ | refine LeF.chk ?_ | refine Run.mk ?_); (conv => whnf)) | ((with_reducible show LeO _ _); first | refine LeO.ro ?_ | refine LeO.roCap ?_ | refine LeO.nil ?_ (fun _ => rfl)) | ((with_reducible show LeR _ _ _); first | refine LeR.own rfl rfl rfl ?_ | refine LeR.view rfl rfl rfl ?_ ?_ | refine LeR.ro ?_ | refine LeR.roCap ?_ | refine LeR.nil ?_ (fun _ => rfl)) | ((with_reducible first | show drawOK _ _ = true | show lateOK _ _ = true | show drawOK2 _ _ = true | show drawOK3 _ _ = true); kernel_rfl))
        all_goals first
        | omega
        | (rw [hxx]; done)
        | (rw [hxx]; apply Fits.i64 <;> omega)
        | (apply Fits.i64 <;> omega)
        | (rw [hxx]; exact hv.symm)
        | exact hv.symm
        | trace_state

      · have kd : decide (t ≤ x.to) = false := decide_eq_false c2
        have hv : eds f t (sgN s2 : Nat) x.to = f := by unfold eds; rw [if_neg c1, if_neg c2]
        repeat' (first | (with_reducible refine ex_of () trivial ?_) | (with_reducible first | exact fun h => h | refine ExE.row (by with_unfolding_all rfl) ?_ | refine And.intro ?_ ?_) | ((with_reducible intro hq); first | exact bne1 hq (by with_reducible assumption) | exact bne1 (by with_reducible assumption) hq | ((simp only [*, BB, cond_true, cond_false, reduceCtorEq] at hq); done) | (revert hq; with_reducible intro _)) | (with_reducible first | exact True.intro | rfl | refine EntLe.row ?_ | exact LeN.ro rfl | exact LeN.rptr | assumption) | ((with_reducible first | refine WkX.chk ?_ | refine Wk.chk ?_ | refine LeL.chk ?_ | refine LeF.chk ?_ | refine Run.mk ?_); (conv => whnf)) | ((with_reducible show LeO _ _); first | refine LeO.ro ?_ | refine LeO.roCap ?_ | refine LeO.nil ?_ (fun _ => rfl)) | ((with_reducible show LeR _ _ _); first | refine LeR.own rfl rfl rfl ?_ | refine LeR.view rfl rfl rfl ?_ ?_ | refine LeR.ro ?_ | refine LeR.roCap ?_ | refine LeR.nil ?_ (fun _ => rfl)) | ((with_reducible first | show drawOK _ _ = true | show lateOK _ _ = true | show drawOK2 _ _ = true | show drawOK3 _ _ = true); kernel_rfl))
        all_goals first
        | omega
        | (rw [hxx]; done)
        | (rw [hxx]; apply Fits.i64 <;> omega)
        | (apply Fits.i64 <;> omega)
        | (rw [hxx]; exact hv.symm)
        | exact hv.symm
        | trace_state

    have hpb := Bool.eq_false_or_eq_true (posB (mvS f t (sgN s2 : Nat) x))
    rcases hpb with hpb | hpb
    · have hst := (hoy hpb).symm
      have kc : decide (bgn f t (sgN s2 : Nat) x.frm < eds f t (sgN s2 : Nat) x.to) = true := hpb
      clear hoy hon
      repeat' (first | (with_reducible refine ex_of (α := Nat) (i + 1) ⟨?_, ?_⟩ ?_) | (with_reducible first | exact fun h => h | refine ExE.row (by with_unfolding_all rfl) ?_ | refine And.intro ?_ ?_) | ((with_reducible intro hq); first | exact bne1 hq (by with_reducible assumption) | exact bne1 (by with_reducible assumption) hq | ((simp only [*, BB, cond_true, cond_false, reduceCtorEq] at hq); done) | (revert hq; with_reducible intro _)) | (with_reducible first | exact True.intro | rfl | refine EntLe.row ?_ | exact LeN.ro rfl | exact LeN.rptr | assumption) | ((with_reducible first | refine WkX.chk ?_ | refine Wk.chk ?_ | refine LeL.chk ?_ | refine LeF.chk ?_ | refine Run.mk ?_); (conv => whnf)) | ((with_reducible show LeO _ _); first | refine LeO.ro ?_ | refine LeO.roCap ?_ | refine LeO.nil ?_ (fun _ => rfl)) | ((with_reducible show LeR _ _ _); first | refine LeR.own rfl rfl rfl ?_ | refine LeR.view rfl rfl rfl ?_ ?_ | refine LeR.ro ?_ | refine LeR.roCap ?_ | refine LeR.nil ?_ (fun _ => rfl)) | ((with_reducible first | show drawOK _ _ = true | show lateOK _ _ = true | show drawOK2 _ _ = true | show drawOK3 _ _ = true); kernel_rfl))
      all_goals first
        | omega
        | rfl
        | (apply Fits.i64 <;> omega)
        | (show (isort ltO l).length - (i + 1) < (isort ltO l).length - i; omega)
        | (show ((outTo (mvS f t (sgN s2 : Nat)) (isort ltO l) i).length + 1) * 32 ≤ 140737488355328; omega)
        | exact hst
        | trace_state
    · have hst := (hon hpb).symm
      have kc : decide (bgn f t (sgN s2 : Nat) x.frm < eds f t (sgN s2 : Nat) x.to) = false := hpb
      clear hoy hon
      repeat' (first | (with_reducible refine ex_of (α := Nat) (i + 1) ⟨?_, ?_⟩ ?_) | (with_reducible first | exact fun h => h | refine ExE.row (by with_unfolding_all rfl) ?_ | refine And.intro ?_ ?_) | ((with_reducible intro hq); first | exact bne1 hq (by with_reducible assumption) | exact bne1 (by with_reducible assumption) hq | ((simp only [*, BB, cond_true, cond_false, reduceCtorEq] at hq); done) | (revert hq; with_reducible intro _)) | (with_reducible first | exact True.intro | rfl | refine EntLe.row ?_ | exact LeN.ro rfl | exact LeN.rptr | assumption) | ((with_reducible first | refine WkX.chk ?_ | refine Wk.chk ?_ | refine LeL.chk ?_ | refine LeF.chk ?_ | refine Run.mk ?_); (conv => whnf)) | ((with_reducible show LeO _ _); first | refine LeO.ro ?_ | refine LeO.roCap ?_ | refine LeO.nil ?_ (fun _ => rfl)) | ((with_reducible show LeR _ _ _); first | refine LeR.own rfl rfl rfl ?_ | refine LeR.view rfl rfl rfl ?_ ?_ | refine LeR.ro ?_ | refine LeR.roCap ?_ | refine LeR.nil ?_ (fun _ => rfl)) | ((with_reducible first | show drawOK _ _ = true | show lateOK _ _ = true | show drawOK2 _ _ = true | show drawOK3 _ _ = true); kernel_rfl))
      all_goals first
        | omega
        | rfl
        | (apply Fits.i64 <;> omega)
        | (show (isort ltO l).length - (i + 1) < (isort ltO l).length - i; omega)
        | exact hst
        | trace_state
  have hlt : decide ((i : Int) < ((isort ltO l).length : Int)) = false := decide_eq_false (by omega)
  have hii : i = (isort ltO l).length := by omega
  subst hii
  repeat' (first | (with_reducible first | exact fun h => h | refine ExE.row (by with_unfolding_all rfl) ?_ | refine And.intro ?_ ?_) | ((with_reducible intro hq); first | exact bne1 hq (by with_reducible assumption) | exact bne1 (by with_reducible assumption) hq | ((simp only [*, BB, cond_true, cond_false, reduceCtorEq] at hq); done) | (revert hq; with_reducible intro _)) | (with_reducible first | exact True.intro | rfl | refine EntLe.row ?_ | exact LeN.ro rfl | exact LeN.rptr | assumption) | ((with_reducible first | refine WkX.chk ?_ | refine Wk.chk ?_ | refine LeL.chk ?_ | refine LeF.chk ?_ | refine Run.mk ?_); (conv => whnf)) | ((with_reducible show LeO _ _); first | refine LeO.ro ?_ | refine LeO.roCap ?_ | refine LeO.nil ?_ (fun _ => rfl)) | ((with_reducible show LeR _ _ _); first | refine LeR.own rfl rfl rfl ?_ | refine LeR.view rfl rfl rfl ?_ ?_ | refine LeR.ro ?_ | refine LeR.roCap ?_ | refine LeR.nil ?_ (fun _ => rfl)) | ((with_reducible first | show drawOK _ _ = true | show lateOK _ _ = true | show drawOK2 _ _ = true | show drawOK3 _ _ = true); kernel_rfl))
  refine loopI Nat [] (fun j => [(167, .v (.int .i64 (j : Nat)))]) (fun j => [(5, .row C_spn (outTo (mvS f t (sgN s2 : Nat)) (isort ltO l) (isort ltO l).length ++ shTo f l2 j) 71 none)]) (fun j => j ≤ l2.length) (fun j => l2.length - j) 0 (Nat.zero_le _) (Wk.chk ?_) fun j hj => ?_
  · ((conv => whnf); repeat' (first | (with_reducible first | exact fun h => h | refine ExE.row (by with_unfolding_all rfl) ?_ | refine And.intro ?_ ?_) | ((with_reducible intro hq); first | exact bne1 hq (by with_reducible assumption) | exact bne1 (by with_reducible assumption) hq | ((simp only [*, BB, cond_true, cond_false, reduceCtorEq] at hq); done) | (revert hq; with_reducible intro _)) | (with_reducible first | exact True.intro | rfl | refine EntLe.row ?_ | exact LeN.ro rfl | exact LeN.rptr | assumption) | ((with_reducible first | refine WkX.chk ?_ | refine Wk.chk ?_ | refine LeL.chk ?_ | refine LeF.chk ?_ | refine Run.mk ?_); (conv => whnf)) | ((with_reducible show LeO _ _); first | refine LeO.ro ?_ | refine LeO.roCap ?_ | refine LeO.nil ?_ (fun _ => rfl)) | ((with_reducible show LeR _ _ _); first | refine LeR.own rfl rfl rfl ?_ | refine LeR.view rfl rfl rfl ?_ ?_ | refine LeR.ro ?_ | refine LeR.roCap ?_ | refine LeR.nil ?_ (fun _ => rfl)) | ((with_reducible first | show drawOK _ _ = true | show lateOK _ _ = true | show drawOK2 _ _ = true | show drawOK3 _ _ = true); kernel_rfl)))
    all_goals first
      | rfl
      | (simp [shTo]; done)
      | trace_state
  have hj : j ≤ l2.length := hj
  have e1 : ((j : Int)).toNat = j := Int.toNat_natCast _
  have hsl := shTo_len (k := f) hj
  by_cases hjl : j < l2.length
  · have hlt : decide ((j : Int) < (l2.length : Int)) = true := decide_eq_true (by omega)
    have hxb := hin2.at hjl
    have hst := shTo_step (k := f) hjl
    have hxx : l2.getD ((j : Int)).toNat C_spn.d = l2.getD j zS := by rw [e1, hd]
    have hst2 : outTo (mvS f t (sgN s2 : Nat)) (isort ltO l) (isort ltO l).length ++ shTo f l2 j ++ [shS f (l2.getD j zS)] = outTo (mvS f t (sgN s2 : Nat)) (isort ltO l) (isort ltO l).length ++ shTo f l2 (j + 1) := by rw [hst, List.append_assoc]
    repeat' (first | (with_reducible refine ex_of (α := Nat) (j + 1) ⟨?_, ?_⟩ ?_) | (with_reducible first | exact fun h => h | refine ExE.row (by with_unfolding_all rfl) ?_ | refine And.intro ?_ ?_) | ((with_reducible intro hq); first | exact bne1 hq (by with_reducible assumption) | exact bne1 (by with_reducible assumption) hq | ((simp only [*, BB, cond_true, cond_false, reduceCtorEq] at hq); done) | (revert hq; with_reducible intro _)) | (with_reducible first | exact True.intro | rfl | refine EntLe.row ?_ | exact LeN.ro rfl | exact LeN.rptr | assumption) | ((with_reducible first | refine WkX.chk ?_ | refine Wk.chk ?_ | refine LeL.chk ?_ | refine LeF.chk ?_ | refine Run.mk ?_); (conv => whnf)) | ((with_reducible show LeO _ _); first | refine LeO.ro ?_ | refine LeO.roCap ?_ | refine LeO.nil ?_ (fun _ => rfl)) | ((with_reducible show LeR _ _ _); first | refine LeR.own rfl rfl rfl ?_ | refine LeR.view rfl rfl rfl ?_ ?_ | refine LeR.ro ?_ | refine LeR.roCap ?_ | refine LeR.nil ?_ (fun _ => rfl)) | ((with_reducible first | show drawOK _ _ = true | show lateOK _ _ = true | show drawOK2 _ _ = true | show drawOK3 _ _ = true); kernel_rfl))
    all_goals first
      | omega
      | rfl
      | (apply Fits.i64 <;> omega)
      | (rw [hxx]; apply Fits.i64 <;> omega)
      | (show l2.length - (j + 1) < l2.length - j; omega)
      | (show ((outTo (mvS f t (sgN s2 : Nat)) (isort ltO l) (isort ltO l).length ++ shTo f l2 j).length + 1) * 32 ≤ 140737488355328; rw [List.length_append]; omega)
      | exact hst2
      | trace_state
  have hlt : decide ((j : Int) < (l2.length : Int)) = false := decide_eq_false (by omega)
  have hjj : j = l2.length := by omega
  subst hjj
  have hNL : outTo (mvS f t (sgN s2 : Nat)) (isort ltO l) (isort ltO l).length ++ shTo f l2 l2.length = newL l f t s2 l2 := rfl
  by_cases h7 : 256 < (newL l f t s2 l2).length
  · have hE := splE_6 h1 h2 h3 h4 h5 h6 h7
    have hT := splT_no (s := s) (l := l) (f := f) (t := t) (s2 := s2) (l2 := l2) (by rw [hE]; decide)
    have hL := splL_no (s := s) (l := l) (f := f) (t := t) (s2 := s2) (l2 := l2) (by rw [hE]; decide)
    have kc : decide ((256 : Int) < ((outTo (mvS f t (sgN s2 : Nat)) (isort ltO l) (isort ltO l).length ++ shTo f l2 l2.length).length : Int)) = true := decide_eq_true (by rw [hNL]; omega)
    repeat' (first | (with_reducible first | exact fun h => h | refine ExE.row (by with_unfolding_all rfl) ?_ | refine And.intro ?_ ?_) | ((with_reducible intro hq); first | exact bne1 hq (by with_reducible assumption) | exact bne1 (by with_reducible assumption) hq | ((simp only [*, BB, cond_true, cond_false, reduceCtorEq] at hq); done) | (revert hq; with_reducible intro _)) | (with_reducible first | exact True.intro | rfl | refine EntLe.row ?_ | exact LeN.ro rfl | exact LeN.rptr | assumption) | ((with_reducible first | refine WkX.chk ?_ | refine Wk.chk ?_ | refine LeL.chk ?_ | refine LeF.chk ?_ | refine Run.mk ?_); (conv => whnf)) | ((with_reducible show LeO _ _); first | refine LeO.ro ?_ | refine LeO.roCap ?_ | refine LeO.nil ?_ (fun _ => rfl)) | ((with_reducible show LeR _ _ _); first | refine LeR.own rfl rfl rfl ?_ | refine LeR.view rfl rfl rfl ?_ ?_ | refine LeR.ro ?_ | refine LeR.roCap ?_ | refine LeR.nil ?_ (fun _ => rfl)) | ((with_reducible first | show drawOK _ _ = true | show lateOK _ _ = true | show drawOK2 _ _ = true | show drawOK3 _ _ = true); kernel_rfl))
    all_goals first
      | exact hE.symm
      | exact hT.symm
      | exact hL.symm
      | trace_state
  · have hE := splE_7 h1 h2 h3 h4 h5 h6 h7
    have hT := splT_yes hE
    have hL := splL_yes hE
    have kc : decide ((256 : Int) < ((outTo (mvS f t (sgN s2 : Nat)) (isort ltO l) (isort ltO l).length ++ shTo f l2 l2.length).length : Int)) = false := decide_eq_false (by rw [hNL]; omega)
    repeat' (first | (with_reducible first | exact fun h => h | refine ExE.row (by with_unfolding_all rfl) ?_ | refine And.intro ?_ ?_) | ((with_reducible intro hq); first | exact bne1 hq (by with_reducible assumption) | exact bne1 (by with_reducible assumption) hq | ((simp only [*, BB, cond_true, cond_false, reduceCtorEq] at hq); done) | (revert hq; with_reducible intro _)) | (with_reducible first | exact True.intro | rfl | refine EntLe.row ?_ | exact LeN.ro rfl | exact LeN.rptr | assumption) | ((with_reducible first | refine WkX.chk ?_ | refine Wk.chk ?_ | refine LeL.chk ?_ | refine LeF.chk ?_ | refine Run.mk ?_); (conv => whnf)) | ((with_reducible show LeO _ _); first | refine LeO.ro ?_ | refine LeO.roCap ?_ | refine LeO.nil ?_ (fun _ => rfl)) | ((with_reducible show LeR _ _ _); first | refine LeR.own rfl rfl rfl ?_ | refine LeR.view rfl rfl rfl ?_ ?_ | refine LeR.ro ?_ | refine LeR.roCap ?_ | refine LeR.nil ?_ (fun _ => rfl)) | ((with_reducible first | show drawOK _ _ = true | show lateOK _ _ = true | show drawOK2 _ _ = true | show drawOK3 _ _ = true); kernel_rfl))
    all_goals first
      | exact hE.symm
      | exact hT.symm
      | exact hL.symm
      | trace_state
end Go.SX.Try
/- Laying one element into a row, told by its place. No program here. -/
namespace Go.SX.Plain
section
variable {α : Type} {d : α} {lt : α → α → Bool}
end
end Go.SX.Plain
/- A verified symbolic executor for Go code in the model: a row takes another one's name. -/
namespace Go.SX
open Go.RowKit
def moveE (i j : Nat) (p : Nat × Ent) : Option (Nat × Ent) := match p with
  | (k, e) => match e with
    | .loop _ _ _ _ _ _ _ _ _ => none
    | .defer _ => none
    | .box cs t => match Nat.beq k i with
      | true => none
      | false => some (match Nat.beq k j with | true => i | false => k, .box (AV.subL j (.own i) (AV.subL i .junk cs)) t)
    | .row C l t cap => match Nat.beq k i with
      | true => none
      | false => some (match Nat.beq k j with | true => i | false => k, .row C l t cap)
    | .iter s p => match Nat.beq k i with
      | true => none
      | false => some (match Nat.beq k j with | true => i | false => k, .iter s p)
def moveF (i j : Nat) (fr : Fr) : Fr := subF j (.own i) (subF i .junk fr)
def moveS (i j : Nat) (A : Sta) : Sta := match A with
  | ⟨fr, stk, m, nx⟩ => ⟨moveF i j fr, stk.map (moveF i j), m.filterMap (moveE i j), nx⟩
def Env.move (E : Env) (i j : Nat) : Env := { E with h := fun k => if k = i then E.h j else E.h k }
theorem Env.move_i (E : Env) (i j : Nat) : (E.move i j).h i = E.h j := if_pos rfl
theorem Env.move_ne (E : Env) {i j k : Nat} (h : k ≠ i) : (E.move i j).h k = E.h k := if_neg h
section
variable {base : Nat} {w0 : Start} {w : World} {E : Env} {stk : List Fr} {gs : List (Array Value)} {m : Mem}
theorem rel_move {i j : Nat} (hij : i ≠ j) (hi : ∀ b, E.h i ≠ .pointer (some ⟨b, 0, none⟩)) (hd : E.dom i) (hj : ∃ A n c, E.h j = .slice A n c) {a : AV} {v : Value} (h : Rel w E a v) : Rel w (E.move i j) (AV.sub j (.own i) (AV.sub i .junk a)) v := by
  have t1 : Turns i E (E.move i j) w w := ⟨fun id _ hne => E.move_ne hne, hi, fun _ h => h, fun _ h => h, fun _ h => h, fun _ _ => rfl⟩
  have hjj : (E.move i j).h j = E.h j := E.move_ne (Ne.symm hij)
  have hpj : ∀ b, (E.move i j).h j ≠ .pointer (some ⟨b, 0, none⟩) := fun b hb => by
    obtain ⟨A, n, c, hs⟩ := hj
    rw [hjj, hs] at hb
    cases hb
  have t2 : Turns j (E.move i j) (E.move i j) w w := ⟨fun id _ _ => rfl, hpj, fun _ h => h, fun _ h => h, fun _ h => h, fun _ _ => rfl⟩
  refine Rel.sub t2 (fun _ => ?_) (Rel.sub t1 (fun _ => .junk _) h)
  have := Rel.own (w := w) (E := E.move i j) (id := i) hd (by rw [E.move_i]; exact hj)
  rw [E.move_i] at this
  rw [hjj]
  exact this
theorem moveE_some {i j : Nat} {p q : Nat × Ent} (h : moveE i j p = some q) : p.1 ≠ i ∧ q.1 = (if p.1 = j then i else p.1) ∧
    ((∃ cs t, p.2 = .box cs t ∧ q.2 = .box (AV.subL j (.own i) (AV.subL i .junk cs)) t) ∨ q.2 = p.2 ∧ ((∃ (α : Type) (C : Cdc α) (l : List α) (t : Nat) (cap : Option Nat), p.2 = .row C l t cap) ∨ ∃ s pos, p.2 = .iter s pos)) := by
  obtain ⟨k, e⟩ := p
  have key : ∀ {e' : Ent}, (match Nat.beq k i with | true => none | false => some (match Nat.beq k j with | true => i | false => k, e')) = some q → k ≠ i ∧ q.1 = (if k = j then i else k) ∧ q.2 = e' := by
    intro e' h
    cases hb : Nat.beq k i with
    | true => rw [hb] at h; cases h
    | false =>
      rw [hb] at h
      have := Option.some.inj h
      subst this
      refine ⟨fun e => by subst e; simp at hb, ?_, rfl⟩
      cases hb2 : Nat.beq k j with
      | true => rw [if_pos (Nat.eq_of_beq_eq_true hb2)]
      | false => rw [if_neg (fun e => by subst e; simp at hb2)]
  cases e with
  | box cs t =>
    obtain ⟨a, b, c⟩ := key h
    exact ⟨a, b, .inl ⟨cs, t, rfl, c⟩⟩
  | row C l t cap =>
    obtain ⟨a, b, c⟩ := key h
    exact ⟨a, b, .inr ⟨c, .inl ⟨_, C, l, t, cap, rfl⟩⟩⟩
  | iter s p =>
    obtain ⟨a, b, c⟩ := key h
    exact ⟨a, b, .inr ⟨c, .inr ⟨s, p, rfl⟩⟩⟩
  | defer b => cases h
  | loop _ _ _ _ _ _ _ _ _ => cases h
theorem SatM.move (h : SatM base w0 E stk gs m w) {i j : Nat} (hij : i ≠ j) {α α' : Type} {C : Cdc α} {l : List α} {t : Nat} {cap : Option Nat} {C' : Cdc α'} {l' : List α'} {t' : Nat} {cap' : Option Nat} (hi : (i, Ent.row C' l' t' cap') ∈ m) (hj : (j, Ent.row C l t cap) ∈ m) :
    SatM base w0 (E.move i j) (stk.map (moveF i j)) gs (m.filterMap (moveE i j)) w := by
  have hsl : ∀ {k : Nat} {β : Type} {C : Cdc β} {l : List β} {t : Nat} {cap : Option Nat}, (k, Ent.row C l t cap) ∈ m → ∃ A n c, E.h k = .slice A n c := fun hk => by
    obtain ⟨_, ⟨_, _, ⟨xs, ho, _⟩, _⟩, _⟩ := h.ents _ _ hk
    rcases ho.2 with ⟨hv, _⟩ | ⟨g, c, cur, hv, _⟩
    · exact ⟨_, _, _, hv⟩
    · exact ⟨_, _, _, hv⟩
  have hpi : ∀ b, E.h i ≠ .pointer (some ⟨b, 0, none⟩) := fun b hb => by
    obtain ⟨A, n, c, hs⟩ := hsl hi
    rw [hs] at hb
    cases hb
  have hdi := (h.ents _ _ hi).1
  have hrel : ∀ {a : AV} {v : Value}, Rel w E a v → Rel w (E.move i j) (AV.sub j (.own i) (AV.sub i .junk a)) v := fun hr => rel_move hij hpi hdi (hsl hj) hr
  have hhq : ∀ {p q : Nat × Ent}, moveE i j p = some q → (E.move i j).h q.1 = E.h p.1 := fun {p q} hq => by
    obtain ⟨a, b, _⟩ := moveE_some hq
    rw [b]
    split
    · rename_i e; rw [E.move_i, e]
    · exact E.move_ne a
  refine ⟨h.below, h.hb, h.imm, h.keep, h.same, fun id e he => ?_, ?_, by rw [List.length_map]; exact h.len, fun k h1 h2 => ?_⟩
  · obtain ⟨⟨k, e0⟩, hp, hq⟩ := List.mem_filterMap.1 he
    have hh := hhq hq
    obtain ⟨a, b, c⟩ := moveE_some hq
    obtain ⟨d1, d2, d3⟩ := h.ents _ _ hp
    simp only at hh a b c
    refine ⟨?_, ?_, by rw [hh]; exact d3⟩
    · show E.dom id
      rw [b]
      split
      · exact hdi
      · exact d1
    · rcases c with ⟨cs, ty, rfl, rfl⟩ | ⟨rfl, ⟨β, C2, l2, t2, cap2, rfl⟩ | ⟨s, pos, rfl⟩⟩
      · obtain ⟨bb, vs, f1, f2, f3⟩ := d2
        refine ⟨bb, vs, by rw [hh]; exact f1, f2, ?_⟩
        refine ⟨by rw [AV.subL_length, AV.subL_length]; exact f3.1, fun n g1 g2 => ?_⟩
        have g3 : n < (AV.subL i .junk cs).length := by rw [AV.subL_length] at g1; exact g1
        have g4 : n < cs.length := by rw [AV.subL_length] at g3; exact g3
        rw [AV.subL_get _ _ _ n g1 g3, AV.subL_get _ _ _ n g3 g4]
        exact hrel (f3.2 n g4 g2)
      · obtain ⟨f1, f2, ⟨xs, f3, f4⟩, f5⟩ := d2
        refine ⟨f1, f2, ⟨xs, by rw [hh]; exact f3, f4.mono (Goes.bare (fun _ h => h) fun _ _ => rfl)⟩, by rw [hh]; exact f5⟩
      · obtain ⟨bb, f1, f2⟩ := d2
        exact ⟨bb, by rw [hh]; exact f1, f2⟩
  · refine List.Pairwise.filterMap (moveE i j) ?_ (h.disj.imp_of_mem (S := fun p q => (p.1 ≠ q.1 ∧ ∀ b, blk (E.h p.1) = some b → blk (E.h q.1) ≠ some b)) fun _ _ hr => hr)
    intro p q hr p' hp' q' hq'
    have e1 := hhq hp'
    have e2 := hhq hq'
    obtain ⟨a1, b1, _⟩ := moveE_some hp'
    obtain ⟨a2, b2, _⟩ := moveE_some hq'
    refine ⟨?_, fun b hb => by rw [e1] at hb; rw [e2]; exact hr.2 b hb⟩
    rw [b1, b2]
    have := hr.1
    split <;> split <;> omega
  · have hk : k < stk.length := by rw [List.length_map] at h1; exact h1
    rw [List.getElem_map]
    intro t
    rw [moveF, getS_subF, getS_subF]
    exact hrel (h.stk k hk h2 t)
end
theorem Wk.move {A : Sta} {i j : Nat} (hij : Nat.beq i j = false) {α α' : Type} {C : Cdc α} {l : List α} {t : Nat} {cap : Option Nat} {C' : Cdc α'} {l' : List α'} {t' : Nat} {cap' : Option Nat} (hi : getE A.m i = some (.row C' l' t' cap')) (hj : getE A.m j = some (.row C l t cap)) : Wk A (moveS i j A) :=
  ⟨fun base w0 E gs tm w hnx hS => by
    obtain ⟨fr, stk, m, nx⟩ := A
    exact ⟨E.move i j, hnx, hS.move (fun e => by subst e; simp at hij) (mem_of_getE hi) (mem_of_getE hj)⟩⟩
end Go.SX
/- Contracts of the document's may, part, begins, ends, moved, outer. -/
namespace Go.SX.Try
open Go.Proofs Go.Proofs.Try Go.SX.Plain
set_option maxRecDepth 100000
set_option maxHeartbeats 0
set_option linter.unusedSimpArgs false
abbrev Sm4 (f t n x : Int) : Prop := (0 ≤ f ∧ f ≤ 10000) ∧ (0 ≤ t ∧ t ≤ 10000) ∧ (0 ≤ n ∧ n ≤ 10000) ∧ 0 ≤ x ∧ x ≤ 10000
end Go.SX.Try
/- Contract of the document's Splice. -/
namespace Go.SX.Try
open Go.Proofs Go.Proofs.Try Go.SX.Plain
set_option maxRecDepth 100000
set_option maxHeartbeats 0
set_option linter.unusedSimpArgs false
end Go.SX.Try
/- Contracts of the laws' SameSpans, SameText, head. -/
namespace Go.SX.Try
open Go.Proofs Go.Proofs.Try Go.SX.Plain
set_option maxRecDepth 100000
set_option maxHeartbeats 0
set_option linter.unusedSimpArgs false
theorem q_sameSpans : fact 64 f64 := ⟨by kernel_rfl, rfl, by kernel_rfl⟩
theorem q_sameText : fact 19 f19 := ⟨by kernel_rfl, rfl, by kernel_rfl⟩
theorem q_head7 : fact 20 f20 := ⟨by kernel_rfl, rfl, by kernel_rfl⟩
def spEqB (x y : Spn) : Bool := x.frm == y.frm && (x.to == y.to && (x.kind == y.kind && x.val == y.val))
theorem spEqB_eq (x y : Spn) : spEqB x y = decide (x = y) := by
  obtain ⟨a, b, c, d⟩ := x
  obtain ⟨a', b', c', d'⟩ := y
  rw [Bool.eq_iff_iff]
  simp only [spEqB, Bool.and_eq_true, beq_iff_eq, decide_eq_true_eq, Spn.mk.injEq]
theorem con_sameSpans : Con prog 64 (fun ((l, r) : List Spn × List Spn) => [spR l, spR r]) (fun (l, r) => .sb (decide (l = r))) (fun (l, _) => l.length ≤ 9000000000000000000) := by
  refine Con.of (by kernel_rfl) T_ok CdsOK.nil .nil 3 [] q_sameSpans.1 q_sameSpans.2.1 q_sameSpans.2.2 (fun _ => rfl) fun i hi => ?_
  obtain ⟨l, r⟩ := i
  have hl9 : l.length ≤ 9000000000000000000 := hi
  have hd : C_spn.d = zS := rfl
  by_cases hl : l.length = r.length
  case neg =>
    have k1 : ((l.length : Int) != (r.length : Int)) = true := by rw [bne_iff_ne]; omega
    have hne : decide (l = r) = false := decide_eq_false fun h => hl (by rw [h])
    repeat' (first | (with_reducible first | exact fun h => h | refine ExE.row (by with_unfolding_all rfl) ?_ | refine And.intro ?_ ?_) | ((with_reducible intro hq); first | exact bne1 hq (by with_reducible assumption) | exact bne1 (by with_reducible assumption) hq | ((simp only [*, BB, cond_true, cond_false, reduceCtorEq] at hq); done) | (revert hq; with_reducible intro _)) | (with_reducible first | exact True.intro | rfl | refine EntLe.row ?_ | exact LeN.ro rfl | exact LeN.rptr | assumption) | ((with_reducible first | refine WkX.chk ?_ | refine Wk.chk ?_ | refine LeL.chk ?_ | refine LeF.chk ?_ | refine Run.mk ?_); (conv => whnf)) | ((with_reducible show LeO _ _); first | refine LeO.ro ?_ | refine LeO.roCap ?_ | refine LeO.nil ?_ (fun _ => rfl)) | ((with_reducible show LeR _ _ _); first | refine LeR.own rfl rfl rfl ?_ | refine LeR.view rfl rfl rfl ?_ ?_ | refine LeR.ro ?_ | refine LeR.roCap ?_ | refine LeR.nil ?_ (fun _ => rfl)) | ((with_reducible first | show drawOK _ _ = true | show lateOK _ _ = true | show drawOK2 _ _ = true | show drawOK3 _ _ = true); kernel_rfl))
    all_goals first
      | exact hne.symm
      | trace_state
  have k1 : ((l.length : Int) != (r.length : Int)) = false := by rw [bne_eq_false_iff_eq]; omega
  repeat' (first | (with_reducible first | exact fun h => h | refine ExE.row (by with_unfolding_all rfl) ?_ | refine And.intro ?_ ?_) | ((with_reducible intro hq); first | exact bne1 hq (by with_reducible assumption) | exact bne1 (by with_reducible assumption) hq | ((simp only [*, BB, cond_true, cond_false, reduceCtorEq] at hq); done) | (revert hq; with_reducible intro _)) | (with_reducible first | exact True.intro | rfl | refine EntLe.row ?_ | exact LeN.ro rfl | exact LeN.rptr | assumption) | ((with_reducible first | refine WkX.chk ?_ | refine Wk.chk ?_ | refine LeL.chk ?_ | refine LeF.chk ?_ | refine Run.mk ?_); (conv => whnf)) | ((with_reducible show LeO _ _); first | refine LeO.ro ?_ | refine LeO.roCap ?_ | refine LeO.nil ?_ (fun _ => rfl)) | ((with_reducible show LeR _ _ _); first | refine LeR.own rfl rfl rfl ?_ | refine LeR.view rfl rfl rfl ?_ ?_ | refine LeR.ro ?_ | refine LeR.roCap ?_ | refine LeR.nil ?_ (fun _ => rfl)) | ((with_reducible first | show drawOK _ _ = true | show lateOK _ _ = true | show drawOK2 _ _ = true | show drawOK3 _ _ = true); kernel_rfl))
  refine loopI Nat [] (fun i => [(5, .v (.int .i64 (i : Nat)))]) (fun _ => []) (fun i => i ≤ l.length ∧ ∀ k, k < i → l.getD k zS = r.getD k zS) (fun i => l.length - i) 0 ⟨Nat.zero_le _, fun k h => absurd h (Nat.not_lt_zero _)⟩ (Wk.chk ?_) fun i hx => ?_
  · ((conv => whnf); repeat' (first | (with_reducible first | exact fun h => h | refine ExE.row (by with_unfolding_all rfl) ?_ | refine And.intro ?_ ?_) | ((with_reducible intro hq); first | exact bne1 hq (by with_reducible assumption) | exact bne1 (by with_reducible assumption) hq | ((simp only [*, BB, cond_true, cond_false, reduceCtorEq] at hq); done) | (revert hq; with_reducible intro _)) | (with_reducible first | exact True.intro | rfl | refine EntLe.row ?_ | exact LeN.ro rfl | exact LeN.rptr | assumption) | ((with_reducible first | refine WkX.chk ?_ | refine Wk.chk ?_ | refine LeL.chk ?_ | refine LeF.chk ?_ | refine Run.mk ?_); (conv => whnf)) | ((with_reducible show LeO _ _); first | refine LeO.ro ?_ | refine LeO.roCap ?_ | refine LeO.nil ?_ (fun _ => rfl)) | ((with_reducible show LeR _ _ _); first | refine LeR.own rfl rfl rfl ?_ | refine LeR.view rfl rfl rfl ?_ ?_ | refine LeR.ro ?_ | refine LeR.roCap ?_ | refine LeR.nil ?_ (fun _ => rfl)) | ((with_reducible first | show drawOK _ _ = true | show lateOK _ _ = true | show drawOK2 _ _ = true | show drawOK3 _ _ = true); kernel_rfl)))
    all_goals rfl
  obtain ⟨hi1, hi2⟩ := hx
  have e1 : ((i : Nat) : Int).toNat = i := Int.toNat_natCast _
  by_cases hil : i < l.length
  · have hlt : decide ((i : Int) < (l.length : Int)) = true := decide_eq_true (by omega)
    have hW : ((l.getD ((i : Nat) : Int).toNat C_spn.d).frm == (r.getD ((i : Nat) : Int).toNat C_spn.d).frm && ((l.getD ((i : Nat) : Int).toNat C_spn.d).to == (r.getD ((i : Nat) : Int).toNat C_spn.d).to && ((l.getD ((i : Nat) : Int).toNat C_spn.d).kind == (r.getD ((i : Nat) : Int).toNat C_spn.d).kind && (l.getD ((i : Nat) : Int).toNat C_spn.d).val == (r.getD ((i : Nat) : Int).toNat C_spn.d).val))) = decide (l.getD i zS = r.getD i zS) := by
      rw [e1, hd]
      exact spEqB_eq _ _
    by_cases he : l.getD i zS = r.getD i zS
    · rw [decide_eq_true he] at hW
      have k4 : (!((l.getD ((i : Nat) : Int).toNat C_spn.d).frm == (r.getD ((i : Nat) : Int).toNat C_spn.d).frm && ((l.getD ((i : Nat) : Int).toNat C_spn.d).to == (r.getD ((i : Nat) : Int).toNat C_spn.d).to && ((l.getD ((i : Nat) : Int).toNat C_spn.d).kind == (r.getD ((i : Nat) : Int).toNat C_spn.d).kind && (l.getD ((i : Nat) : Int).toNat C_spn.d).val == (r.getD ((i : Nat) : Int).toNat C_spn.d).val)))) = false := by rw [hW]; rfl
      have hi3 : ∀ k, k < i + 1 → l.getD k zS = r.getD k zS := fun k hk => by
        by_cases h : k = i
        · rw [h]; exact he
        · exact hi2 k (by omega)
      clear he hW
      repeat' (first | (with_reducible refine ex_of (α := Nat) (i + 1) ⟨⟨?_, hi3⟩, ?_⟩ ?_) | (with_reducible first | exact fun h => h | refine ExE.row (by with_unfolding_all rfl) ?_ | refine And.intro ?_ ?_) | ((with_reducible intro hq); first | exact bne1 hq (by with_reducible assumption) | exact bne1 (by with_reducible assumption) hq | ((simp only [*, BB, cond_true, cond_false, reduceCtorEq] at hq); done) | (revert hq; with_reducible intro _)) | (with_reducible first | exact True.intro | rfl | refine EntLe.row ?_ | exact LeN.ro rfl | exact LeN.rptr | assumption) | ((with_reducible first | refine WkX.chk ?_ | refine Wk.chk ?_ | refine LeL.chk ?_ | refine LeF.chk ?_ | refine Run.mk ?_); (conv => whnf)) | ((with_reducible show LeO _ _); first | refine LeO.ro ?_ | refine LeO.roCap ?_ | refine LeO.nil ?_ (fun _ => rfl)) | ((with_reducible show LeR _ _ _); first | refine LeR.own rfl rfl rfl ?_ | refine LeR.view rfl rfl rfl ?_ ?_ | refine LeR.ro ?_ | refine LeR.roCap ?_ | refine LeR.nil ?_ (fun _ => rfl)) | ((with_reducible first | show drawOK _ _ = true | show lateOK _ _ = true | show drawOK2 _ _ = true | show drawOK3 _ _ = true); kernel_rfl))
      all_goals first
        | omega
        | (apply Fits.i64 <;> omega)
        | (dsimp only; omega)
        | trace_state
    · rw [decide_eq_false he] at hW
      have k4 : (!((l.getD ((i : Nat) : Int).toNat C_spn.d).frm == (r.getD ((i : Nat) : Int).toNat C_spn.d).frm && ((l.getD ((i : Nat) : Int).toNat C_spn.d).to == (r.getD ((i : Nat) : Int).toNat C_spn.d).to && ((l.getD ((i : Nat) : Int).toNat C_spn.d).kind == (r.getD ((i : Nat) : Int).toNat C_spn.d).kind && (l.getD ((i : Nat) : Int).toNat C_spn.d).val == (r.getD ((i : Nat) : Int).toNat C_spn.d).val)))) = true := by rw [hW]; rfl
      have hne : decide (l = r) = false := decide_eq_false fun h => he (by rw [h])
      clear he hW
      repeat' (first | (with_reducible first | exact fun h => h | refine ExE.row (by with_unfolding_all rfl) ?_ | refine And.intro ?_ ?_) | ((with_reducible intro hq); first | exact bne1 hq (by with_reducible assumption) | exact bne1 (by with_reducible assumption) hq | ((simp only [*, BB, cond_true, cond_false, reduceCtorEq] at hq); done) | (revert hq; with_reducible intro _)) | (with_reducible first | exact True.intro | rfl | refine EntLe.row ?_ | exact LeN.ro rfl | exact LeN.rptr | assumption) | ((with_reducible first | refine WkX.chk ?_ | refine Wk.chk ?_ | refine LeL.chk ?_ | refine LeF.chk ?_ | refine Run.mk ?_); (conv => whnf)) | ((with_reducible show LeO _ _); first | refine LeO.ro ?_ | refine LeO.roCap ?_ | refine LeO.nil ?_ (fun _ => rfl)) | ((with_reducible show LeR _ _ _); first | refine LeR.own rfl rfl rfl ?_ | refine LeR.view rfl rfl rfl ?_ ?_ | refine LeR.ro ?_ | refine LeR.roCap ?_ | refine LeR.nil ?_ (fun _ => rfl)) | ((with_reducible first | show drawOK _ _ = true | show lateOK _ _ = true | show drawOK2 _ _ = true | show drawOK3 _ _ = true); kernel_rfl))
      all_goals first
        | omega
        | exact hne.symm
        | trace_state
  have hlt : decide ((i : Int) < (l.length : Int)) = false := decide_eq_false (by omega)
  have heq : decide (l = r) = true := decide_eq_true (getD_ext (d := zS) hl fun k hk => hi2 k (by omega))
  repeat' (first | (with_reducible first | exact fun h => h | refine ExE.row (by with_unfolding_all rfl) ?_ | refine And.intro ?_ ?_) | ((with_reducible intro hq); first | exact bne1 hq (by with_reducible assumption) | exact bne1 (by with_reducible assumption) hq | ((simp only [*, BB, cond_true, cond_false, reduceCtorEq] at hq); done) | (revert hq; with_reducible intro _)) | (with_reducible first | exact True.intro | rfl | refine EntLe.row ?_ | exact LeN.ro rfl | exact LeN.rptr | assumption) | ((with_reducible first | refine WkX.chk ?_ | refine Wk.chk ?_ | refine LeL.chk ?_ | refine LeF.chk ?_ | refine Run.mk ?_); (conv => whnf)) | ((with_reducible show LeO _ _); first | refine LeO.ro ?_ | refine LeO.roCap ?_ | refine LeO.nil ?_ (fun _ => rfl)) | ((with_reducible show LeR _ _ _); first | refine LeR.own rfl rfl rfl ?_ | refine LeR.view rfl rfl rfl ?_ ?_ | refine LeR.ro ?_ | refine LeR.roCap ?_ | refine LeR.nil ?_ (fun _ => rfl)) | ((with_reducible first | show drawOK _ _ = true | show lateOK _ _ = true | show drawOK2 _ _ = true | show drawOK3 _ _ = true); kernel_rfl))
  all_goals first
    | exact heq.symm
    | trace_state
theorem con_sameText : Con prog 19 (fun ((a, l, b, r) : ByteArray × List Spn × ByteArray × List Spn) => [txAV a l, txAV b r]) (fun (a, l, b, r) => .sb (decide (a = b) && decide (l = r))) (fun (_, l, _, _) => l.length ≤ 9000000000000000000) := by
  refine Con.of (by kernel_rfl) T_ok CdsOK.nil (.con con_sameSpans .nil) 3 [] q_sameText.1 q_sameText.2.1 q_sameText.2.2 (fun _ => rfl) fun i hi => ?_
  obtain ⟨a, l, b, r⟩ := i
  have hl9 : l.length ≤ 9000000000000000000 := hi
  repeat' (first | (with_reducible refine ⟨(l, r), ⟨(.cons (.lent _ _ _ _ _ _) (.cons (.lent _ _ _ _ _ _) .nil)), ?_⟩, ?_⟩) | (with_reducible first | exact fun h => h | refine ExE.row (by with_unfolding_all rfl) ?_ | refine And.intro ?_ ?_) | ((with_reducible intro hq); first | exact bne1 hq (by with_reducible assumption) | exact bne1 (by with_reducible assumption) hq | ((simp only [*, BB, cond_true, cond_false, reduceCtorEq] at hq); done) | (revert hq; with_reducible intro _)) | (with_reducible first | exact True.intro | rfl | refine EntLe.row ?_ | exact LeN.ro rfl | exact LeN.rptr | assumption) | ((with_reducible first | refine WkX.chk ?_ | refine Wk.chk ?_ | refine LeL.chk ?_ | refine LeF.chk ?_ | refine Run.mk ?_); (conv => whnf)) | ((with_reducible show LeO _ _); first | refine LeO.ro ?_ | refine LeO.roCap ?_ | refine LeO.nil ?_ (fun _ => rfl)) | ((with_reducible show LeR _ _ _); first | refine LeR.own rfl rfl rfl ?_ | refine LeR.view rfl rfl rfl ?_ ?_ | refine LeR.ro ?_ | refine LeR.roCap ?_ | refine LeR.nil ?_ (fun _ => rfl)) | ((with_reducible first | show drawOK _ _ = true | show lateOK _ _ = true | show drawOK2 _ _ = true | show drawOK3 _ _ = true); kernel_rfl))
  all_goals first
    | exact hl9
    | rfl
    | (simp only [*, Bool.false_and]; done)
    | (cases hc : decide (a = b) <;> simp_all; done)
    | trace_state
abbrev abcd : ByteArray := { data := #[97, 98, 99, 100] }
abbrev oneX : ByteArray := { data := #[120] }
abbrev hdL : List Spn := [⟨0, 4, 1, 0⟩, ⟨1, 3, 2, 0⟩]
theorem head_1 : chkN abcd.size hdL (sgN abcd : Nat) = 0 := by kernel_rfl
theorem head_2 : runsA abcd hdL = [⟨0, 1, ⟨true, false, false, false, 0⟩⟩, ⟨1, 3, ⟨true, true, false, false, 0⟩⟩, ⟨3, 4, ⟨true, false, false, false, 0⟩⟩] := by kernel_rfl
theorem head_3 : splE abcd hdL 1 1 oneX [] = 0 := by kernel_rfl
theorem head_4 : splT abcd hdL 1 1 oneX [] = { data := #[97, 120, 98, 99, 100] } := by kernel_rfl
theorem head_5 : splL abcd hdL 1 1 oneX [] = [⟨0, 5, 1, 0⟩, ⟨2, 4, 2, 0⟩] := by kernel_rfl
theorem con_head7 : Con prog 20 (fun _ : Unit => []) (fun _ => .v (.bool true)) (fun _ => True) := by
  refine Con.of (by kernel_rfl) T_ok D_spn_ok (.con con_sRuns (.con con_ssplice .nil)) 3 [] q_head7.1 q_head7.2.1 q_head7.2.2 (fun _ => rfl) fun _ _ => ?_
  have h1 := head_1
  have h2 := head_2
  have h3 := head_3
  have h4 := head_4
  have h5 := head_5
  have k1 : (chkN abcd.size hdL (sgN abcd : Nat) == 0) = true := by rw [h1]; rfl
  have k2 : (splE abcd hdL 1 1 oneX [] == 0) = true := by rw [h3]; rfl
  repeat' (first | (with_reducible refine ⟨(abcd, hdL), ⟨(.cons (.agg (.cons (.v _) (.cons (.lent _ _ _ _ _ _) .nil))) .nil), ?_⟩, ?_⟩) | (refine ⟨(abcd, hdL, 1, 1, oneX, []), ⟨.cons (.agg (.cons (.v _) (.cons (.lent _ _ _ _ _ _) .nil))) (.cons (.v _) (.cons (.v _) (.cons (.agg (.cons (.v _) (.cons (.nil _ _ _ (fun _ => rfl)) .nil))) .nil))), ?_⟩, ?_⟩) | (with_reducible first | exact fun h => h | refine ExE.row (by with_unfolding_all rfl) ?_ | refine And.intro ?_ ?_) | ((with_reducible intro hq); first | exact bne1 hq (by with_reducible assumption) | exact bne1 (by with_reducible assumption) hq | ((simp only [*, BB, cond_true, cond_false, reduceCtorEq] at hq); done) | (revert hq; with_reducible intro _)) | (with_reducible first | exact True.intro | rfl | refine EntLe.row ?_ | exact LeN.ro rfl | exact LeN.rptr | assumption) | ((with_reducible first | refine WkX.chk ?_ | refine Wk.chk ?_ | refine LeL.chk ?_ | refine LeF.chk ?_ | refine Run.mk ?_); (conv => whnf)) | ((with_reducible show LeO _ _); first | refine LeO.ro ?_ | refine LeO.roCap ?_ | refine LeO.nil ?_ (fun _ => rfl)) | ((with_reducible show LeR _ _ _); first | refine LeR.own rfl rfl rfl ?_ | refine LeR.view rfl rfl rfl ?_ ?_ | refine LeR.ro ?_ | refine LeR.roCap ?_ | refine LeR.nil ?_ (fun _ => rfl)) | ((with_reducible first | show drawOK _ _ = true | show lateOK _ _ = true | show drawOK2 _ _ = true | show drawOK3 _ _ = true); kernel_rfl))
  all_goals first
    | rfl
    | omega
    | (rw [h2]; decide)
    | (rw [h5]; decide)
    | trace_state
end Go.SX.Try
/- Contracts of slices.Equal (looks), Same of both; the law StyleSames. -/
namespace Go.SX.Try
open Go.Proofs Go.Proofs.Try Go.SX.Plain
set_option maxRecDepth 100000
set_option maxHeartbeats 0
set_option linter.unusedSimpArgs false
theorem q_equalA : fact 71 f71 := ⟨by kernel_rfl, rfl, by kernel_rfl⟩
theorem q_sSame : fact 25 f25 := ⟨by kernel_rfl, rfl, by kernel_rfl⟩
theorem con_equalA : Con prog 71 (fun ((l, r) : List Atr × List Atr) => [lkR l, lkR r]) (fun (l, r) => .sb (decide (l = r))) (fun (l, _) => l.length ≤ 1100000) := by
  refine Con.of (by kernel_rfl) T_ok CdsOK.nil .nil 3 [] q_equalA.1 q_equalA.2.1 q_equalA.2.2 (fun _ => rfl) fun i hi => ?_
  obtain ⟨l, r⟩ := i
  have hl9 : l.length ≤ 1100000 := hi
  have hd : C_att.d = zA := rfl
  by_cases hl : l.length = r.length
  case neg =>
    have k1 : ((l.length : Int) != (r.length : Int)) = true := by rw [bne_iff_ne]; omega
    have hne : decide (l = r) = false := decide_eq_false fun h => hl (by rw [h])
    repeat' (first | (with_reducible first | exact fun h => h | refine ExE.row (by with_unfolding_all rfl) ?_ | refine And.intro ?_ ?_) | ((with_reducible intro hq); first | exact bne1 hq (by with_reducible assumption) | exact bne1 (by with_reducible assumption) hq | ((simp only [*, BB, cond_true, cond_false, reduceCtorEq] at hq); done) | (revert hq; with_reducible intro _)) | (with_reducible first | exact True.intro | rfl | refine EntLe.row ?_ | exact LeN.ro rfl | exact LeN.rptr | assumption) | ((with_reducible first | refine WkX.chk ?_ | refine Wk.chk ?_ | refine LeL.chk ?_ | refine LeF.chk ?_ | refine Run.mk ?_); (conv => whnf)) | ((with_reducible show LeO _ _); first | refine LeO.ro ?_ | refine LeO.roCap ?_ | refine LeO.nil ?_ (fun _ => rfl)) | ((with_reducible show LeR _ _ _); first | refine LeR.own rfl rfl rfl ?_ | refine LeR.view rfl rfl rfl ?_ ?_ | refine LeR.ro ?_ | refine LeR.roCap ?_ | refine LeR.nil ?_ (fun _ => rfl)) | ((with_reducible first | show drawOK _ _ = true | show lateOK _ _ = true | show drawOK2 _ _ = true | show drawOK3 _ _ = true); kernel_rfl))
    all_goals first
      | exact hne.symm
      | trace_state
  have k1 : ((l.length : Int) != (r.length : Int)) = false := by rw [bne_eq_false_iff_eq]; omega
  repeat' (first | (with_reducible first | exact fun h => h | refine ExE.row (by with_unfolding_all rfl) ?_ | refine And.intro ?_ ?_) | ((with_reducible intro hq); first | exact bne1 hq (by with_reducible assumption) | exact bne1 (by with_reducible assumption) hq | ((simp only [*, BB, cond_true, cond_false, reduceCtorEq] at hq); done) | (revert hq; with_reducible intro _)) | (with_reducible first | exact True.intro | rfl | refine EntLe.row ?_ | exact LeN.ro rfl | exact LeN.rptr | assumption) | ((with_reducible first | refine WkX.chk ?_ | refine Wk.chk ?_ | refine LeL.chk ?_ | refine LeF.chk ?_ | refine Run.mk ?_); (conv => whnf)) | ((with_reducible show LeO _ _); first | refine LeO.ro ?_ | refine LeO.roCap ?_ | refine LeO.nil ?_ (fun _ => rfl)) | ((with_reducible show LeR _ _ _); first | refine LeR.own rfl rfl rfl ?_ | refine LeR.view rfl rfl rfl ?_ ?_ | refine LeR.ro ?_ | refine LeR.roCap ?_ | refine LeR.nil ?_ (fun _ => rfl)) | ((with_reducible first | show drawOK _ _ = true | show lateOK _ _ = true | show drawOK2 _ _ = true | show drawOK3 _ _ = true); kernel_rfl))
  refine loopI Nat [] (fun i => [(13, .v (.int .i64 (i : Nat)))]) (fun _ => []) (fun i => i ≤ l.length ∧ ∀ k, k < i → l.getD k zA = r.getD k zA) (fun i => l.length - i) 0 ⟨Nat.zero_le _, fun k h => absurd h (Nat.not_lt_zero _)⟩ (Wk.chk ?_) fun i hx => ?_
  · ((conv => whnf); repeat' (first | (with_reducible first | exact fun h => h | refine ExE.row (by with_unfolding_all rfl) ?_ | refine And.intro ?_ ?_) | ((with_reducible intro hq); first | exact bne1 hq (by with_reducible assumption) | exact bne1 (by with_reducible assumption) hq | ((simp only [*, BB, cond_true, cond_false, reduceCtorEq] at hq); done) | (revert hq; with_reducible intro _)) | (with_reducible first | exact True.intro | rfl | refine EntLe.row ?_ | exact LeN.ro rfl | exact LeN.rptr | assumption) | ((with_reducible first | refine WkX.chk ?_ | refine Wk.chk ?_ | refine LeL.chk ?_ | refine LeF.chk ?_ | refine Run.mk ?_); (conv => whnf)) | ((with_reducible show LeO _ _); first | refine LeO.ro ?_ | refine LeO.roCap ?_ | refine LeO.nil ?_ (fun _ => rfl)) | ((with_reducible show LeR _ _ _); first | refine LeR.own rfl rfl rfl ?_ | refine LeR.view rfl rfl rfl ?_ ?_ | refine LeR.ro ?_ | refine LeR.roCap ?_ | refine LeR.nil ?_ (fun _ => rfl)) | ((with_reducible first | show drawOK _ _ = true | show lateOK _ _ = true | show drawOK2 _ _ = true | show drawOK3 _ _ = true); kernel_rfl)))
    all_goals rfl
  obtain ⟨hi1, hi2⟩ := hx
  have e1 : ((i : Nat) : Int).toNat = i := Int.toNat_natCast _
  by_cases hil : i < l.length
  · have hlt : decide ((i : Int) < (l.length : Int)) = true := decide_eq_true (by omega)
    have hW : ((l.getD ((i : Nat) : Int).toNat C_att.d).bold == (r.getD ((i : Nat) : Int).toNat C_att.d).bold && ((l.getD ((i : Nat) : Int).toNat C_att.d).italic == (r.getD ((i : Nat) : Int).toNat C_att.d).italic && ((l.getD ((i : Nat) : Int).toNat C_att.d).under == (r.getD ((i : Nat) : Int).toNat C_att.d).under && ((l.getD ((i : Nat) : Int).toNat C_att.d).strike == (r.getD ((i : Nat) : Int).toNat C_att.d).strike && (l.getD ((i : Nat) : Int).toNat C_att.d).colour == (r.getD ((i : Nat) : Int).toNat C_att.d).colour)))) = decide (l.getD i zA = r.getD i zA) := by
      rw [e1, hd]
      exact atEqB_eq _ _
    by_cases he : l.getD i zA = r.getD i zA
    · rw [decide_eq_true he] at hW
      have k4 : (!((l.getD ((i : Nat) : Int).toNat C_att.d).bold == (r.getD ((i : Nat) : Int).toNat C_att.d).bold && ((l.getD ((i : Nat) : Int).toNat C_att.d).italic == (r.getD ((i : Nat) : Int).toNat C_att.d).italic && ((l.getD ((i : Nat) : Int).toNat C_att.d).under == (r.getD ((i : Nat) : Int).toNat C_att.d).under && ((l.getD ((i : Nat) : Int).toNat C_att.d).strike == (r.getD ((i : Nat) : Int).toNat C_att.d).strike && (l.getD ((i : Nat) : Int).toNat C_att.d).colour == (r.getD ((i : Nat) : Int).toNat C_att.d).colour))))) = false := by rw [hW]; rfl
      have hi3 : ∀ k, k < i + 1 → l.getD k zA = r.getD k zA := fun k hk => by
        by_cases h : k = i
        · rw [h]; exact he
        · exact hi2 k (by omega)
      clear he hW
      repeat' (first | (with_reducible refine ex_of (α := Nat) (i + 1) ⟨⟨?_, hi3⟩, ?_⟩ ?_) | (with_reducible first | exact fun h => h | refine ExE.row (by with_unfolding_all rfl) ?_ | refine And.intro ?_ ?_) | ((with_reducible intro hq); first | exact bne1 hq (by with_reducible assumption) | exact bne1 (by with_reducible assumption) hq | ((simp only [*, BB, cond_true, cond_false, reduceCtorEq] at hq); done) | (revert hq; with_reducible intro _)) | (with_reducible first | exact True.intro | rfl | refine EntLe.row ?_ | exact LeN.ro rfl | exact LeN.rptr | assumption) | ((with_reducible first | refine WkX.chk ?_ | refine Wk.chk ?_ | refine LeL.chk ?_ | refine LeF.chk ?_ | refine Run.mk ?_); (conv => whnf)) | ((with_reducible show LeO _ _); first | refine LeO.ro ?_ | refine LeO.roCap ?_ | refine LeO.nil ?_ (fun _ => rfl)) | ((with_reducible show LeR _ _ _); first | refine LeR.own rfl rfl rfl ?_ | refine LeR.view rfl rfl rfl ?_ ?_ | refine LeR.ro ?_ | refine LeR.roCap ?_ | refine LeR.nil ?_ (fun _ => rfl)) | ((with_reducible first | show drawOK _ _ = true | show lateOK _ _ = true | show drawOK2 _ _ = true | show drawOK3 _ _ = true); kernel_rfl))
      all_goals first
        | omega
        | (apply Fits.i64 <;> omega)
        | (dsimp only; omega)
        | trace_state
    · rw [decide_eq_false he] at hW
      have k4 : (!((l.getD ((i : Nat) : Int).toNat C_att.d).bold == (r.getD ((i : Nat) : Int).toNat C_att.d).bold && ((l.getD ((i : Nat) : Int).toNat C_att.d).italic == (r.getD ((i : Nat) : Int).toNat C_att.d).italic && ((l.getD ((i : Nat) : Int).toNat C_att.d).under == (r.getD ((i : Nat) : Int).toNat C_att.d).under && ((l.getD ((i : Nat) : Int).toNat C_att.d).strike == (r.getD ((i : Nat) : Int).toNat C_att.d).strike && (l.getD ((i : Nat) : Int).toNat C_att.d).colour == (r.getD ((i : Nat) : Int).toNat C_att.d).colour))))) = true := by rw [hW]; rfl
      have hne : decide (l = r) = false := decide_eq_false fun h => he (by rw [h])
      clear he hW
      repeat' (first | (with_reducible first | exact fun h => h | refine ExE.row (by with_unfolding_all rfl) ?_ | refine And.intro ?_ ?_) | ((with_reducible intro hq); first | exact bne1 hq (by with_reducible assumption) | exact bne1 (by with_reducible assumption) hq | ((simp only [*, BB, cond_true, cond_false, reduceCtorEq] at hq); done) | (revert hq; with_reducible intro _)) | (with_reducible first | exact True.intro | rfl | refine EntLe.row ?_ | exact LeN.ro rfl | exact LeN.rptr | assumption) | ((with_reducible first | refine WkX.chk ?_ | refine Wk.chk ?_ | refine LeL.chk ?_ | refine LeF.chk ?_ | refine Run.mk ?_); (conv => whnf)) | ((with_reducible show LeO _ _); first | refine LeO.ro ?_ | refine LeO.roCap ?_ | refine LeO.nil ?_ (fun _ => rfl)) | ((with_reducible show LeR _ _ _); first | refine LeR.own rfl rfl rfl ?_ | refine LeR.view rfl rfl rfl ?_ ?_ | refine LeR.ro ?_ | refine LeR.roCap ?_ | refine LeR.nil ?_ (fun _ => rfl)) | ((with_reducible first | show drawOK _ _ = true | show lateOK _ _ = true | show drawOK2 _ _ = true | show drawOK3 _ _ = true); kernel_rfl))
      all_goals first
        | omega
        | exact hne.symm
        | trace_state
  have hlt : decide ((i : Int) < (l.length : Int)) = false := decide_eq_false (by omega)
  have heq : decide (l = r) = true := decide_eq_true (getD_ext (d := zA) hl fun k hk => hi2 k (by omega))
  repeat' (first | (with_reducible first | exact fun h => h | refine ExE.row (by with_unfolding_all rfl) ?_ | refine And.intro ?_ ?_) | ((with_reducible intro hq); first | exact bne1 hq (by with_reducible assumption) | exact bne1 (by with_reducible assumption) hq | ((simp only [*, BB, cond_true, cond_false, reduceCtorEq] at hq); done) | (revert hq; with_reducible intro _)) | (with_reducible first | exact True.intro | rfl | refine EntLe.row ?_ | exact LeN.ro rfl | exact LeN.rptr | assumption) | ((with_reducible first | refine WkX.chk ?_ | refine Wk.chk ?_ | refine LeL.chk ?_ | refine LeF.chk ?_ | refine Run.mk ?_); (conv => whnf)) | ((with_reducible show LeO _ _); first | refine LeO.ro ?_ | refine LeO.roCap ?_ | refine LeO.nil ?_ (fun _ => rfl)) | ((with_reducible show LeR _ _ _); first | refine LeR.own rfl rfl rfl ?_ | refine LeR.view rfl rfl rfl ?_ ?_ | refine LeR.ro ?_ | refine LeR.roCap ?_ | refine LeR.nil ?_ (fun _ => rfl)) | ((with_reducible first | show drawOK _ _ = true | show lateOK _ _ = true | show drawOK2 _ _ = true | show drawOK3 _ _ = true); kernel_rfl))
  all_goals first
    | exact heq.symm
    | trace_state
end Go.SX.Try
/- Contracts of Same of both; the law StyleSames. -/
namespace Go.SX.Try
open Go.Proofs Go.Proofs.Try Go.SX.Plain
set_option maxRecDepth 100000
set_option maxHeartbeats 0
set_option linter.unusedSimpArgs false
def sameB (s : ByteArray) (l : List Spn) (s2 : ByteArray) (l2 : List Spn) : Bool :=
  decide (s = s2) && (decide (chkN s.size l (sgN s : Nat) = 0) && (decide (chkN s2.size l2 (sgN s2 : Nat) = 0) && decide (looksL (sgN s) l = looksL (sgN s2) l2)))
theorem con_sSame : Con prog 25 (fun ((s, l, s2, l2) : ByteArray × List Spn × ByteArray × List Spn) => [txAV s l, txAV s2 l2]) (fun (s, l, s2, l2) => .sb (sameB s l s2 l2)) (fun _ => True) := by
  refine Con.of (by kernel_rfl) T_ok CdsOK.nil (.con con_scheck (.con con_slooks (.con con_equalA .nil))) 5 [] q_sSame.1 q_sSame.2.1 q_sSame.2.2 (fun _ => rfl) fun i hi => ?_
  obtain ⟨s, l, s2, l2⟩ := i
  have hbs := Bool.eq_false_or_eq_true (decide (s = s2))
  rcases hbs with h0 | h0
  case inr =>
    have hR : sameB s l s2 l2 = false := by unfold sameB; rw [h0]; rfl
    repeat' (first | (with_reducible refine ⟨(s, l), ⟨(.cons (.agg (.cons (.v _) (.cons (.lent _ _ _ _ _ _) .nil))) .nil), ?_⟩, ?_⟩) | (with_reducible refine ⟨(s2, l2), ⟨(.cons (.agg (.cons (.v _) (.cons (.lent _ _ _ _ _ _) .nil))) .nil), ?_⟩, ?_⟩) | (with_reducible refine ⟨_, ⟨(.cons (.lent _ _ _ _ _ _) .nil), ?_⟩, ?_⟩) | (with_reducible first | exact fun h => h | refine ExE.row (by with_unfolding_all rfl) ?_ | refine And.intro ?_ ?_) | ((with_reducible intro hq); first | exact bne1 hq (by with_reducible assumption) | exact bne1 (by with_reducible assumption) hq | ((simp only [*, BB, cond_true, cond_false, reduceCtorEq] at hq); done) | (revert hq; with_reducible intro _)) | (with_reducible first | exact True.intro | rfl | refine EntLe.row ?_ | exact LeN.ro rfl | exact LeN.rptr | assumption) | ((with_reducible first | refine WkX.chk ?_ | refine Wk.chk ?_ | refine LeL.chk ?_ | refine LeF.chk ?_ | refine Run.mk ?_); (conv => whnf)) | ((with_reducible show LeO _ _); first | refine LeO.ro ?_ | refine LeO.roCap ?_ | refine LeO.nil ?_ (fun _ => rfl)) | ((with_reducible show LeR _ _ _); first | refine LeR.own rfl rfl rfl ?_ | refine LeR.view rfl rfl rfl ?_ ?_ | refine LeR.ro ?_ | refine LeR.roCap ?_ | refine LeR.nil ?_ (fun _ => rfl)) | ((with_reducible first | show drawOK _ _ = true | show lateOK _ _ = true | show drawOK2 _ _ = true | show drawOK3 _ _ = true); kernel_rfl))
    all_goals first
      | exact hR.symm
      | (rw [hR, h0, k1, k2]; rfl)
      | (simp_all; done)
      | trace_state
  by_cases hc : chkN s.size l (sgN s : Nat) = 0
  case neg =>
    have k1 : (chkN s.size l (sgN s : Nat) == 0) = false := by simpa using hc
    have hR : sameB s l s2 l2 = false := by unfold sameB; rw [decide_eq_false hc]; simp
    repeat' (first | (with_reducible refine ⟨(s, l), ⟨(.cons (.agg (.cons (.v _) (.cons (.lent _ _ _ _ _ _) .nil))) .nil), ?_⟩, ?_⟩) | (with_reducible refine ⟨(s2, l2), ⟨(.cons (.agg (.cons (.v _) (.cons (.lent _ _ _ _ _ _) .nil))) .nil), ?_⟩, ?_⟩) | (with_reducible refine ⟨_, ⟨(.cons (.lent _ _ _ _ _ _) .nil), ?_⟩, ?_⟩) | (with_reducible first | exact fun h => h | refine ExE.row (by with_unfolding_all rfl) ?_ | refine And.intro ?_ ?_) | ((with_reducible intro hq); first | exact bne1 hq (by with_reducible assumption) | exact bne1 (by with_reducible assumption) hq | ((simp only [*, BB, cond_true, cond_false, reduceCtorEq] at hq); done) | (revert hq; with_reducible intro _)) | (with_reducible first | exact True.intro | rfl | refine EntLe.row ?_ | exact LeN.ro rfl | exact LeN.rptr | assumption) | ((with_reducible first | refine WkX.chk ?_ | refine Wk.chk ?_ | refine LeL.chk ?_ | refine LeF.chk ?_ | refine Run.mk ?_); (conv => whnf)) | ((with_reducible show LeO _ _); first | refine LeO.ro ?_ | refine LeO.roCap ?_ | refine LeO.nil ?_ (fun _ => rfl)) | ((with_reducible show LeR _ _ _); first | refine LeR.own rfl rfl rfl ?_ | refine LeR.view rfl rfl rfl ?_ ?_ | refine LeR.ro ?_ | refine LeR.roCap ?_ | refine LeR.nil ?_ (fun _ => rfl)) | ((with_reducible first | show drawOK _ _ = true | show lateOK _ _ = true | show drawOK2 _ _ = true | show drawOK3 _ _ = true); kernel_rfl))
    all_goals first
      | exact hR.symm
      | (rw [hR, h0, k1, k2]; rfl)
      | (simp_all; done)
      | trace_state
  have k1 : (chkN s.size l (sgN s : Nat) == 0) = true := by simpa using hc
  by_cases hc2 : chkN s2.size l2 (sgN s2 : Nat) = 0
  case neg =>
    have k2 : (chkN s2.size l2 (sgN s2 : Nat) == 0) = false := by simpa using hc2
    have hR : sameB s l s2 l2 = false := by unfold sameB; rw [decide_eq_false hc2]; simp
    repeat' (first | (with_reducible refine ⟨(s, l), ⟨(.cons (.agg (.cons (.v _) (.cons (.lent _ _ _ _ _ _) .nil))) .nil), ?_⟩, ?_⟩) | (with_reducible refine ⟨(s2, l2), ⟨(.cons (.agg (.cons (.v _) (.cons (.lent _ _ _ _ _ _) .nil))) .nil), ?_⟩, ?_⟩) | (with_reducible refine ⟨_, ⟨(.cons (.lent _ _ _ _ _ _) .nil), ?_⟩, ?_⟩) | (with_reducible first | exact fun h => h | refine ExE.row (by with_unfolding_all rfl) ?_ | refine And.intro ?_ ?_) | ((with_reducible intro hq); first | exact bne1 hq (by with_reducible assumption) | exact bne1 (by with_reducible assumption) hq | ((simp only [*, BB, cond_true, cond_false, reduceCtorEq] at hq); done) | (revert hq; with_reducible intro _)) | (with_reducible first | exact True.intro | rfl | refine EntLe.row ?_ | exact LeN.ro rfl | exact LeN.rptr | assumption) | ((with_reducible first | refine WkX.chk ?_ | refine Wk.chk ?_ | refine LeL.chk ?_ | refine LeF.chk ?_ | refine Run.mk ?_); (conv => whnf)) | ((with_reducible show LeO _ _); first | refine LeO.ro ?_ | refine LeO.roCap ?_ | refine LeO.nil ?_ (fun _ => rfl)) | ((with_reducible show LeR _ _ _); first | refine LeR.own rfl rfl rfl ?_ | refine LeR.view rfl rfl rfl ?_ ?_ | refine LeR.ro ?_ | refine LeR.roCap ?_ | refine LeR.nil ?_ (fun _ => rfl)) | ((with_reducible first | show drawOK _ _ = true | show lateOK _ _ = true | show drawOK2 _ _ = true | show drawOK3 _ _ = true); kernel_rfl))
    all_goals first
      | exact hR.symm
      | (rw [hR, h0, k1, k2]; rfl)
      | (simp_all; done)
      | trace_state
  have k2 : (chkN s2.size l2 (sgN s2 : Nat) == 0) = true := by simpa using hc2
  have hok := OkT.of hc
  have hok2 := OkT.of hc2
  have hlen := looksL_len hok.spans
  have hn := sgN_le s
  have hs := hok.size
  have hR : sameB s l s2 l2 = decide (looksL (sgN s) l = looksL (sgN s2) l2) := by unfold sameB; rw [h0, decide_eq_true hc, decide_eq_true hc2]; simp
  repeat' (first | (with_reducible refine ⟨(s, l), ⟨(.cons (.agg (.cons (.v _) (.cons (.lent _ _ _ _ _ _) .nil))) .nil), ?_⟩, ?_⟩) | (with_reducible refine ⟨(s2, l2), ⟨(.cons (.agg (.cons (.v _) (.cons (.lent _ _ _ _ _ _) .nil))) .nil), ?_⟩, ?_⟩) | (with_reducible refine ⟨(looksL (sgN s) l, looksL (sgN s2) l2), ⟨(.cons (.lent _ _ _ _ _ _) (.cons (.lent _ _ _ _ _ _) .nil)), ?_⟩, ?_⟩) | (with_reducible first | exact fun h => h | refine ExE.row (by with_unfolding_all rfl) ?_ | refine And.intro ?_ ?_) | ((with_reducible intro hq); first | exact bne1 hq (by with_reducible assumption) | exact bne1 (by with_reducible assumption) hq | ((simp only [*, BB, cond_true, cond_false, reduceCtorEq] at hq); done) | (revert hq; with_reducible intro _)) | (with_reducible first | exact True.intro | rfl | refine EntLe.row ?_ | exact LeN.ro rfl | exact LeN.rptr | assumption) | ((with_reducible first | refine WkX.chk ?_ | refine Wk.chk ?_ | refine LeL.chk ?_ | refine LeF.chk ?_ | refine Run.mk ?_); (conv => whnf)) | ((with_reducible show LeO _ _); first | refine LeO.ro ?_ | refine LeO.roCap ?_ | refine LeO.nil ?_ (fun _ => rfl)) | ((with_reducible show LeR _ _ _); first | refine LeR.own rfl rfl rfl ?_ | refine LeR.view rfl rfl rfl ?_ ?_ | refine LeR.ro ?_ | refine LeR.roCap ?_ | refine LeR.nil ?_ (fun _ => rfl)) | ((with_reducible first | show drawOK _ _ = true | show lateOK _ _ = true | show drawOK2 _ _ = true | show drawOK3 _ _ = true); kernel_rfl))
  all_goals first
    | exact hok
    | exact hok2
    | exact hR.symm
    | (dsimp only; omega)
    | (rw [hR, h0, k1, k2]; rfl)
    | (simp_all; done)
    | trace_state
end Go.SX.Try
/- A row that is written over from the front. No program here. -/
namespace Go.SX.Plain
section
variable {α : Type} {d : α}
def bkTo (x : α) (R : List α) (i : Nat) : List α := List.replicate i x ++ R.drop i
end
end Go.SX.Plain
/- Texts lent to the laws' calls, and back. -/
namespace Go.SX.Try
open Go.Proofs Go.Proofs.Try Go.SX.Plain
set_option maxRecDepth 100000
set_option maxHeartbeats 0
set_option linter.unusedSimpArgs false
abbrev C_spnP : Cdc Spn := { size := C_spn.size, enc := C_spn.enc, dec := C_spn.dec, d := C_spn.d, pl := true }
def D_spnP : Cds := [(71, ⟨Spn, C_spnP⟩)]
def mrk : Spn := ⟨-77, 0, 0, 0⟩
def ovr : Spn := ⟨7, 9, 1, 0⟩
end Go.SX.Try
/- Contracts of Look of both, of Alike. -/
namespace Go.SX.Try
open Go.Proofs Go.Proofs.Try Go.SX.Plain
set_option maxRecDepth 100000
set_option maxHeartbeats 0
set_option linter.unusedSimpArgs false
def lookE (s : ByteArray) (l : List Spn) (k : Int) : Int := if chkN s.size l (sgN s : Nat) ≠ 0 then chkN s.size l (sgN s : Nat) else if k < 0 ∨ (sgN s : Int) ≤ k then 1 else 0
def lookV (s : ByteArray) (l : List Spn) (k : Int) : Atr := if lookE s l k = 0 then (looksL (sgN s) l).getD k.toNat zA else zA
abbrev asAV (x : Sgn) : List AV := [.v (.int .i64 x.at), .v (.int .i64 x.len), .v (.int .i32 x.rune), .sb x.bad]
def C_asg : Cdc Sgn where
  size := 4
  enc := asAV
  dec l := match l with
    | [.v (.int _ a), .v (.int _ b), .v (.int _ c), d] => ⟨a, b, c, bOf d⟩
    | _ => ⟨0, 0, 0, false⟩
  d := ⟨0, 0, 0, false⟩
end Go.SX.Try
/- Contract of the laws' SameRuns. -/
namespace Go.SX.Try
open Go.Proofs Go.Proofs.Try Go.SX.Plain
set_option maxRecDepth 100000
set_option maxHeartbeats 0
set_option linter.unusedSimpArgs false
def rnEqB (x y : Rn) : Bool := x.frm == y.frm && (x.to == y.to && (x.at'.bold == y.at'.bold && (x.at'.italic == y.at'.italic && (x.at'.under == y.at'.under && (x.at'.strike == y.at'.strike && (x.at'.colour == y.at'.colour))))))
end Go.SX.Try
/- A verified symbolic executor for Go code in the model: two nil slices in boxes are told as rows that may grow. -/
namespace Go.SX
open Go.RowKit
end Go.SX
/- The law StyleLooks: true, whatever the input. -/
namespace Go.SX.Try
open Go.Proofs Go.Proofs.Try Go.SX.Plain
set_option maxRecDepth 100000
set_option maxHeartbeats 0
set_option linter.unusedSimpArgs false
theorem q_sSigns : fact 36 f36 := ⟨by kernel_rfl, rfl, by kernel_rfl⟩
theorem q_sSigns2 : fact 78 f78 := ⟨by kernel_rfl, rfl, by kernel_rfl⟩
theorem runsA_len (s : ByteArray) (l : List Spn) : (runsA s l).length ≤ 1100000 := by
  by_cases h : chkN s.size l (sgN s : Nat) = 0
  · have h1 : runsA s l = runsL (looksL (sgN s) l) := if_pos h
    have hok := OkT.of h
    have h2 := looksL_len hok.spans
    have h3 := sgN_le s
    have h4 := hok.size
    have h5 := runsTo_len (looksL (sgN s) l) (looksL (sgN s) l).length
    rw [h1]
    unfold runsL
    omega
  · have h1 : runsA s l = [] := if_neg h
    rw [h1]
    decide
end Go.SX.Try
