/- A verified symbolic executor for Go code in the model, contracts and plain laws that the proofs lean on, BZ7. -/
import Derived.Test.YtkbeigcmdlhdbaaBZ6
import Derived.Deep.Fields
import Derived.SizedLaws
set_option linter.unusedVariables false
set_option linter.unusedSimpArgs false
/- Contract of the document's normal. -/
namespace Go.SX.Try
open Go.Proofs Go.Proofs.Try Go.SX.Plain
set_option maxRecDepth 100000
set_option maxHeartbeats 0
set_option linter.unusedSimpArgs false
theorem q_rnormal : fact 108 f108 := ⟨by kernel_rfl, rfl, by kernel_rfl⟩
theorem con_rnormal : Con prog 108 (fun l : List Atr => [lkR l]) (fun l => .tup [spO (madeL l), .sb (decide ((normL l).length ≤ 256))]) (fun l => ColOK l ∧ l.length ≤ 10000) := by
  refine Con.of (by kernel_rfl) T_ok D_mk_ok (.con con_rhas (.con con_rahead (.inl (J := []) q_rlay.1 q_rlay.2.1 q_rlay.2.2 .nil))) 5 [] q_rnormal.1 q_rnormal.2.1 q_rnormal.2.2 (fun _ => rfl) fun l hi => ?_
  obtain ⟨hcol, hl⟩ : ColOK l ∧ l.length ≤ 10000 := hi
  have hd : C_att.d = zA := rfl
  have hdb : C_bool.d = false := rfl
  have hds : C_spn.d = zS := rfl
  repeat' (first | (with_reducible first | exact fun h => h | refine ExE.row (by with_unfolding_all rfl) ?_ | refine And.intro ?_ ?_) | ((with_reducible intro hq); first | exact bne1 hq (by with_reducible assumption) | exact bne1 (by with_reducible assumption) hq | ((simp only [*, BB, cond_true, cond_false, reduceCtorEq] at hq); done) | (revert hq; with_reducible intro _)) | (with_reducible first | exact True.intro | rfl | refine EntLe.row ?_ | exact LeN.ro rfl | exact LeN.rptr | assumption) | ((with_reducible first | refine WkX.chk ?_ | refine Wk.chk ?_ | refine LeL.chk ?_ | refine LeF.chk ?_ | refine Run.mk ?_); (conv => whnf)) | ((with_reducible show LeO _ _); first | refine LeO.ro ?_ | refine LeO.roCap ?_ | refine LeO.nil ?_ (fun _ => rfl)) | ((with_reducible show LeR _ _ _); first | refine LeR.own rfl rfl rfl ?_ | refine LeR.view rfl rfl rfl ?_ ?_ | refine LeR.ro ?_ | refine LeR.roCap ?_ | refine LeR.nil ?_ (fun _ => rfl)) | ((with_reducible first | show drawOK _ _ = true | show lateOK _ _ = true | show drawOK2 _ _ = true | show drawOK3 _ _ = true); kernel_rfl))
  all_goals (try (first | omega | (apply Fits.i64 <;> omega) | (dsimp only; omega) | rfl))
  refine loopI Nat [] (fun q => [(7, .v (.int .i64 ((q + 1 : Nat) : Int))), (6, .own 2)]) (fun q => [(1, .row C_bool (kindsTo l q).1 4 none), (2, .row C_spn (isort ltM (kindsTo l q).2) 71 none)]) (fun q => q ≤ 5 ∧ (kindsTo l q).2.length ≤ 256) (fun q => 5 - q) 0 ⟨Nat.zero_le _, Nat.zero_le _⟩ (Wk.chk ?_) fun q hq => ?_
  · ((conv => whnf); repeat' (first | (with_reducible first | exact fun h => h | refine ExE.row (by with_unfolding_all rfl) ?_ | refine And.intro ?_ ?_) | ((with_reducible intro hq); first | exact bne1 hq (by with_reducible assumption) | exact bne1 (by with_reducible assumption) hq | ((simp only [*, BB, cond_true, cond_false, reduceCtorEq] at hq); done) | (revert hq; with_reducible intro _)) | (with_reducible first | exact True.intro | rfl | refine EntLe.row ?_ | exact LeN.ro rfl | exact LeN.rptr | assumption) | ((with_reducible first | refine WkX.chk ?_ | refine Wk.chk ?_ | refine LeL.chk ?_ | refine LeF.chk ?_ | refine Run.mk ?_); (conv => whnf)) | ((with_reducible show LeO _ _); first | refine LeO.ro ?_ | refine LeO.roCap ?_ | refine LeO.nil ?_ (fun _ => rfl)) | ((with_reducible show LeR _ _ _); first | refine LeR.own rfl rfl rfl ?_ | refine LeR.view rfl rfl rfl ?_ ?_ | refine LeR.ro ?_ | refine LeR.roCap ?_ | refine LeR.nil ?_ (fun _ => rfl)) | ((with_reducible first | show drawOK _ _ = true | show lateOK _ _ = true | show drawOK2 _ _ = true | show drawOK3 _ _ = true); kernel_rfl)))
    all_goals first
      | rfl
      | exact EntLe.rowNone (show List.replicate ((l.length : Int) + 1).toNat false = (kindsTo l 0).1 by rw [show ((l.length : Int) + 1).toNat = l.length + 1 by omega]; rfl)
      | trace_state
  obtain ⟨hq, hq256⟩ := hq
  by_cases hq4 : q < 5
  case neg =>
    obtain rfl : q = 5 := by omega
    have hlt : decide (((5 + 1 : Nat) : Int) ≤ 5) = false := rfl
    have hn5 : (normL l).length ≤ 256 := hq256
    have hfin : isort ltM (kindsTo l 5).2 = madeL l := by unfold madeL; rw [if_neg (by omega)]; rfl
    have hb5 : decide ((normL l).length ≤ 256) = true := decide_eq_true hn5
    repeat' (first | (with_reducible first | exact fun h => h | refine ExE.row (by with_unfolding_all rfl) ?_ | refine And.intro ?_ ?_) | ((with_reducible intro hq); first | exact bne1 hq (by with_reducible assumption) | exact bne1 (by with_reducible assumption) hq | ((simp only [*, BB, cond_true, cond_false, reduceCtorEq] at hq); done) | (revert hq; with_reducible intro _)) | (with_reducible first | exact True.intro | rfl | refine EntLe.row ?_ | exact LeN.ro rfl | exact LeN.rptr | assumption) | ((with_reducible first | refine WkX.chk ?_ | refine Wk.chk ?_ | refine LeL.chk ?_ | refine LeF.chk ?_ | refine Run.mk ?_); (conv => whnf)) | ((with_reducible show LeO _ _); first | refine LeO.ro ?_ | refine LeO.roCap ?_ | refine LeO.nil ?_ (fun _ => rfl)) | ((with_reducible show LeR _ _ _); first | refine LeR.own rfl rfl rfl ?_ | refine LeR.view rfl rfl rfl ?_ ?_ | refine LeR.ro ?_ | refine LeR.roCap ?_ | refine LeR.nil ?_ (fun _ => rfl)) | ((with_reducible first | show drawOK _ _ = true | show lateOK _ _ = true | show drawOK2 _ _ = true | show drawOK3 _ _ = true); kernel_rfl))
    all_goals first
      | omega
      | (dsimp only; omega)
      | exact hfin
      | exact hb5.symm
      | rfl
      | trace_state
  have hlt : decide (((q + 1 : Nat) : Int) ≤ 5) = true := decide_eq_true (by omega)
  have hcl := kinds_cut l q
  have hcutE : ∃ cut, cut = (kindsTo l q).1 := ⟨_, rfl⟩
  obtain ⟨cut, hcut⟩ := hcutE
  have hPE : ∃ P, P = (kindsTo l q).2 := ⟨_, rfl⟩
  obtain ⟨P, hP⟩ := hPE
  have hKE : ∃ k : Int, k = ((q + 1 : Nat) : Int) := ⟨_, rfl⟩
  obtain ⟨k, hk⟩ := hKE
  have hk1 : 1 ≤ k ∧ k ≤ 5 := by omega
  have hkS : kindsTo l (q + 1) = (mkTo cut (strT l cut k 0) (strT l cut k 0).length, P ++ strT l cut k 0) := by rw [kindsTo, hcut, hP, hk]
  have hmono : (P ++ strT l cut k 0).length ≤ (normL l).length := by
    have h := kinds_mono (a := q + 1) l 5 (by omega)
    rw [hkS] at h
    exact h
  rw [List.length_append] at hmono
  rw [← hcut] at hcl
  rw [← hP] at hq256
  simp only [← hcut, ← hP, ← hk] at hlt ⊢
  have hPl : (isort ltM P).length = P.length := isort_len P
  repeat' (first | (with_reducible first | exact fun h => h | refine ExE.row (by with_unfolding_all rfl) ?_ | refine And.intro ?_ ?_) | ((with_reducible intro hq); first | exact bne1 hq (by with_reducible assumption) | exact bne1 (by with_reducible assumption) hq | ((simp only [*, BB, cond_true, cond_false, reduceCtorEq] at hq); done) | (revert hq; with_reducible intro _)) | (with_reducible first | exact True.intro | rfl | refine EntLe.row ?_ | exact LeN.ro rfl | exact LeN.rptr | assumption) | ((with_reducible first | refine WkX.chk ?_ | refine Wk.chk ?_ | refine LeL.chk ?_ | refine LeF.chk ?_ | refine Run.mk ?_); (conv => whnf)) | ((with_reducible show LeO _ _); first | refine LeO.ro ?_ | refine LeO.roCap ?_ | refine LeO.nil ?_ (fun _ => rfl)) | ((with_reducible show LeR _ _ _); first | refine LeR.own rfl rfl rfl ?_ | refine LeR.view rfl rfl rfl ?_ ?_ | refine LeR.ro ?_ | refine LeR.roCap ?_ | refine LeR.nil ?_ (fun _ => rfl)) | ((with_reducible first | show drawOK _ _ = true | show lateOK _ _ = true | show drawOK2 _ _ = true | show drawOK3 _ _ = true); kernel_rfl))
  refine loopI (Nat × List Spn) [] (fun | (i, _) => [(9, .v (.int .i64 (i : Nat))), (8, .own 3)]) (fun | (_, D) => [(3, .row C_spn D 71 none)]) (fun | (i, D) => (i ≤ l.length ∧ P.length + D.length ≤ 256) ∧ D ++ strT l cut k i = strT l cut k 0) (fun | (i, _) => l.length - i) (0, []) ⟨⟨Nat.zero_le _, hq256⟩, rfl⟩ (Wk.chk ?_) fun x hx => ?_
  · ((conv => whnf); repeat' (first | (with_reducible first | exact fun h => h | refine ExE.row (by with_unfolding_all rfl) ?_ | refine And.intro ?_ ?_) | ((with_reducible intro hq); first | exact bne1 hq (by with_reducible assumption) | exact bne1 (by with_reducible assumption) hq | ((simp only [*, BB, cond_true, cond_false, reduceCtorEq] at hq); done) | (revert hq; with_reducible intro _)) | (with_reducible first | exact True.intro | rfl | refine EntLe.row ?_ | exact LeN.ro rfl | exact LeN.rptr | assumption) | ((with_reducible first | refine WkX.chk ?_ | refine Wk.chk ?_ | refine LeL.chk ?_ | refine LeF.chk ?_ | refine Run.mk ?_); (conv => whnf)) | ((with_reducible show LeO _ _); first | refine LeO.ro ?_ | refine LeO.roCap ?_ | refine LeO.nil ?_ (fun _ => rfl)) | ((with_reducible show LeR _ _ _); first | refine LeR.own rfl rfl rfl ?_ | refine LeR.view rfl rfl rfl ?_ ?_ | refine LeR.ro ?_ | refine LeR.roCap ?_ | refine LeR.nil ?_ (fun _ => rfl)) | ((with_reducible first | show drawOK _ _ = true | show lateOK _ _ = true | show drawOK2 _ _ = true | show drawOK3 _ _ = true); kernel_rfl)))
    all_goals first
      | rfl
      | trace_state
  obtain ⟨i, D⟩ := x
  obtain ⟨⟨hi, hD256⟩, hD⟩ : (i ≤ l.length ∧ P.length + D.length ≤ 256) ∧ D ++ strT l cut k i = strT l cut k 0 := hx
  have hDl : D.length ≤ l.length := by
    have h1 := congrArg List.length hD
    have h2 := strT_len (l := l) (cut := cut) (k := k) 0
    rw [List.length_append] at h1
    omega
  have e1 : ((i : Nat) : Int).toNat = i := Int.toNat_natCast _
  by_cases hil : i < l.length
  · have hlt2 : decide ((i : Int) < (l.length : Int)) = true := decide_eq_true (by omega)
    have hgi : l.getD ((i : Nat) : Int).toNat C_att.d = l.getD i zA := by rw [e1, hd]
    have hvE : ∃ v, v = hasK (l.getD ((i : Nat) : Int).toNat C_att.d) k := ⟨_, rfl⟩
    obtain ⟨v, hv⟩ := hvE
    have hv2 : v = hasK (l.getD i zA) k := by rw [hv, hgi]
    have hvb := hasK_bd (k := k) (hcol.at hil)
    rw [← hv2] at hvb
    have hE := strE_bd (cut := cut) (k := k) hil
    repeat' (first | (with_reducible refine ⟨(_, k), ⟨(.cons (.agg (.cons (.sb _) (.cons (.sb _) (.cons (.sb _) (.cons (.sb _) (.cons (.v _) .nil)))))) (.cons (.v _) .nil)), ?_⟩, ?_⟩) | (with_reducible first | exact fun h => h | refine ExE.row (by with_unfolding_all rfl) ?_ | refine And.intro ?_ ?_) | ((with_reducible intro hq); first | exact bne1 hq (by with_reducible assumption) | exact bne1 (by with_reducible assumption) hq | ((simp only [*, BB, cond_true, cond_false, reduceCtorEq] at hq); done) | (revert hq; with_reducible intro _)) | (with_reducible first | exact True.intro | rfl | refine EntLe.row ?_ | exact LeN.ro rfl | exact LeN.rptr | assumption) | ((with_reducible first | refine WkX.chk ?_ | refine Wk.chk ?_ | refine LeL.chk ?_ | refine LeF.chk ?_ | refine Run.mk ?_); (conv => whnf)) | ((with_reducible show LeO _ _); first | refine LeO.ro ?_ | refine LeO.roCap ?_ | refine LeO.nil ?_ (fun _ => rfl)) | ((with_reducible show LeR _ _ _); first | refine LeR.own rfl rfl rfl ?_ | refine LeR.view rfl rfl rfl ?_ ?_ | refine LeR.ro ?_ | refine LeR.roCap ?_ | refine LeR.nil ?_ (fun _ => rfl)) | ((with_reducible first | show drawOK _ _ = true | show lateOK _ _ = true | show drawOK2 _ _ = true | show drawOK3 _ _ = true); kernel_rfl))
    all_goals (try (first | omega | exact hk1 | (apply Fits.i64 <;> omega) | (dsimp only; omega)))
    refine loopI Nat [] (fun j => [(11, .v (.int .i64 (j : Nat)))]) (fun _ => []) (fun j => i + 1 ≤ j ∧ j ≤ l.length ∧ adv (goOn l cut k v) (l.length - j) j = strE l cut k i) (fun j => l.length - j) (i + 1) ⟨Nat.le_refl _, by omega, by rw [hv2]; rfl⟩ (Wk.chk ?_) fun j hj => ?_
    · ((conv => whnf); repeat' (first | (with_reducible first | exact fun h => h | refine ExE.row (by with_unfolding_all rfl) ?_ | refine And.intro ?_ ?_) | ((with_reducible intro hq); first | exact bne1 hq (by with_reducible assumption) | exact bne1 (by with_reducible assumption) hq | ((simp only [*, BB, cond_true, cond_false, reduceCtorEq] at hq); done) | (revert hq; with_reducible intro _)) | (with_reducible first | exact True.intro | rfl | refine EntLe.row ?_ | exact LeN.ro rfl | exact LeN.rptr | assumption) | ((with_reducible first | refine WkX.chk ?_ | refine Wk.chk ?_ | refine LeL.chk ?_ | refine LeF.chk ?_ | refine Run.mk ?_); (conv => whnf)) | ((with_reducible show LeO _ _); first | refine LeO.ro ?_ | refine LeO.roCap ?_ | refine LeO.nil ?_ (fun _ => rfl)) | ((with_reducible show LeR _ _ _); first | refine LeR.own rfl rfl rfl ?_ | refine LeR.view rfl rfl rfl ?_ ?_ | refine LeR.ro ?_ | refine LeR.roCap ?_ | refine LeR.nil ?_ (fun _ => rfl)) | ((with_reducible first | show drawOK _ _ = true | show lateOK _ _ = true | show drawOK2 _ _ = true | show drawOK3 _ _ = true); kernel_rfl)))
      all_goals first
        | rfl
        | trace_state
    obtain ⟨hj1, hj2, hj3⟩ := hj
    have e2 : ((j : Nat) : Int).toNat = j := Int.toNat_natCast _
    have hgj : l.getD ((j : Nat) : Int).toNat C_att.d = l.getD j zA := by rw [e2, hd]
    have hcj : cut.getD ((j : Nat) : Int).toNat C_bool.d = cut.getD j false := by rw [e2, hdb]
    have exit : strE l cut k i = j → True := fun _ => trivial
    by_cases hgo : j < l.length ∧ goOn l cut k v j = true
    · obtain ⟨hjl, hgo⟩ := hgo
      have hst := (adv_on (n := l.length) hjl hgo).symm.trans hj3
      unfold goOn at hgo
      rw [Bool.and_eq_true, decide_eq_true_eq] at hgo
      have m0 : decide ((j : Int) < (l.length : Int)) = true := decide_eq_true (by omega)
      have m1 : (hasK (l.getD ((j : Nat) : Int).toNat C_att.d) k == hasK (l.getD ((i : Nat) : Int).toNat C_att.d) k) = true := by rw [hgj, ← hv, beq_iff_eq]; exact hgo.1
      have m2 : (decide ((j : Int) < (l.length : Int)) && (hasK (l.getD ((j : Nat) : Int).toNat C_att.d) k == hasK (l.getD ((i : Nat) : Int).toNat C_att.d) k)) = true := by rw [m0, m1]; rfl
      have m3 : (!(cut.getD ((j : Nat) : Int).toNat C_bool.d)) = true := by rw [hcj]; exact hgo.2
      have m4 : ((decide ((j : Int) < (l.length : Int)) && (hasK (l.getD ((j : Nat) : Int).toNat C_att.d) k == hasK (l.getD ((i : Nat) : Int).toNat C_att.d) k)) && !(cut.getD ((j : Nat) : Int).toNat C_bool.d)) = true := by rw [m2, m3]; rfl
      repeat' (first | (with_reducible refine ⟨(_, k), ⟨(.cons (.agg (.cons (.sb _) (.cons (.sb _) (.cons (.sb _) (.cons (.sb _) (.cons (.v _) .nil)))))) (.cons (.v _) .nil)), ?_⟩, ?_⟩) | (with_reducible refine ex_of (α := Nat) (j + 1) ⟨⟨?_, ?_, hst⟩, ?_⟩ ?_) | (with_reducible first | exact fun h => h | refine ExE.row (by with_unfolding_all rfl) ?_ | refine And.intro ?_ ?_) | ((with_reducible intro hq); first | exact bne1 hq (by with_reducible assumption) | exact bne1 (by with_reducible assumption) hq | ((simp only [*, BB, cond_true, cond_false, reduceCtorEq] at hq); done) | (revert hq; with_reducible intro _)) | (with_reducible first | exact True.intro | rfl | refine EntLe.row ?_ | exact LeN.ro rfl | exact LeN.rptr | assumption) | ((with_reducible first | refine WkX.chk ?_ | refine Wk.chk ?_ | refine LeL.chk ?_ | refine LeF.chk ?_ | refine Run.mk ?_); (conv => whnf)) | ((with_reducible show LeO _ _); first | refine LeO.ro ?_ | refine LeO.roCap ?_ | refine LeO.nil ?_ (fun _ => rfl)) | ((with_reducible show LeR _ _ _); first | refine LeR.own rfl rfl rfl ?_ | refine LeR.view rfl rfl rfl ?_ ?_ | refine LeR.ro ?_ | refine LeR.roCap ?_ | refine LeR.nil ?_ (fun _ => rfl)) | ((with_reducible first | show drawOK _ _ = true | show lateOK _ _ = true | show drawOK2 _ _ = true | show drawOK3 _ _ = true); kernel_rfl))
      all_goals first
        | omega
        | exact hk1
        | (apply Fits.i64 <;> omega)
        | (dsimp only; omega)
        | rfl
        | trace_state
    have hje : strE l cut k i = j := by
      rw [← hj3]
      rcases Nat.lt_or_ge j l.length with h | h
      · refine adv_no h ?_
        cases hc : goOn l cut k v j with
        | false => rfl
        | true => exact absurd ⟨h, hc⟩ hgo
      · exact adv_end h
    have hstp := strT_step (cut := cut) (k := k) hil
    rw [hje] at hstp
    have hD2 : (D ++ strS l cut k i) ++ strT l cut k j = strT l cut k 0 := by rw [List.append_assoc, ← hstp]; exact hD
    have m9 : ((decide ((j : Int) < (l.length : Int)) && (hasK (l.getD ((j : Nat) : Int).toNat C_att.d) k == hasK (l.getD ((i : Nat) : Int).toNat C_att.d) k)) && !(cut.getD ((j : Nat) : Int).toNat C_bool.d)) = false := by
      rw [Bool.eq_false_iff]
      intro h
      simp only [Bool.and_eq_true, decide_eq_true_eq, beq_iff_eq] at h
      refine hgo ⟨by omega, ?_⟩
      unfold goOn
      rw [Bool.and_eq_true, decide_eq_true_eq]
      exact ⟨by rw [← hgj, hv]; exact h.1.2, by rw [← hcj]; exact h.2⟩
    by_cases hv0 : v = 0
    · have hS0 : strS l cut k i = [] := by unfold strS; rw [← hv2, if_pos hv0]
      have n1 : decide (0 < hasK (l.getD ((i : Nat) : Int).toNat C_att.d) k) = false := by rw [← hv, hv0]; rfl
      have n3 : decide ((256 : Int) < ((isort ltM P).length : Int) + (D.length : Int)) = false := decide_eq_false (by omega)
      rw [hS0, List.append_nil] at hD2
      clear hgo hj3 hv hv2
      repeat' (first | (with_reducible refine ⟨(_, k), ⟨(.cons (.agg (.cons (.sb _) (.cons (.sb _) (.cons (.sb _) (.cons (.sb _) (.cons (.v _) .nil)))))) (.cons (.v _) .nil)), ?_⟩, ?_⟩) | (with_reducible refine ex_of (α := Nat × List Spn) (j, D) ⟨⟨⟨hj2, hD256⟩, hD2⟩, ?_⟩ ?_) | (with_reducible first | exact fun h => h | refine ExE.row (by with_unfolding_all rfl) ?_ | refine And.intro ?_ ?_) | ((with_reducible intro hq); first | exact bne1 hq (by with_reducible assumption) | exact bne1 (by with_reducible assumption) hq | ((simp only [*, BB, cond_true, cond_false, reduceCtorEq] at hq); done) | (revert hq; with_reducible intro _)) | (with_reducible first | exact True.intro | rfl | refine EntLe.row ?_ | exact LeN.ro rfl | exact LeN.rptr | assumption) | ((with_reducible first | refine WkX.chk ?_ | refine Wk.chk ?_ | refine LeL.chk ?_ | refine LeF.chk ?_ | refine Run.mk ?_); (conv => whnf)) | ((with_reducible show LeO _ _); first | refine LeO.ro ?_ | refine LeO.roCap ?_ | refine LeO.nil ?_ (fun _ => rfl)) | ((with_reducible show LeR _ _ _); first | refine LeR.own rfl rfl rfl ?_ | refine LeR.view rfl rfl rfl ?_ ?_ | refine LeR.ro ?_ | refine LeR.roCap ?_ | refine LeR.nil ?_ (fun _ => rfl)) | ((with_reducible first | show drawOK _ _ = true | show lateOK _ _ = true | show drawOK2 _ _ = true | show drawOK3 _ _ = true); kernel_rfl))
      all_goals first
        | omega
        | exact hk1
        | (apply Fits.i64 <;> omega)
        | (dsimp only; omega)
        | exact of_decide_eq_true (by assumption)
        | rfl
        | trace_state
    have n1 : decide (0 < hasK (l.getD ((i : Nat) : Int).toNat C_att.d) k) = true := by rw [← hv]; exact decide_eq_true (by omega)
    have hSv : strS l cut k i = [⟨i, (j : Nat), k, if k = 5 then v - 1 else 0⟩] := by unfold strS; rw [← hv2, if_neg hv0, hje]
    have hfs : ∀ (z : Spn), z = ⟨i, (j : Nat), k, if k = 5 then v - 1 else 0⟩ → D ++ [z] = D ++ strS l cut k i := fun z hz => by rw [hSv, ← hz]
    have hDS : (D ++ strS l cut k i).length = D.length + 1 := by rw [hSv, List.length_append]; rfl
    have hbig : 256 < P.length + (D.length + 1) → 256 < (normL l).length := fun h => by
      have h1 := congrArg List.length hD2
      rw [List.length_append, hDS] at h1
      omega
    have hzE : ∃ z : Spn, z = ⟨i, (j : Nat), k, if k = 5 then v - 1 else 0⟩ := ⟨_, rfl⟩
    obtain ⟨z, hz⟩ := hzE
    have hfz := hfs z hz
    clear hfs
    have hzl : (D ++ [z]).length = D.length + 1 := by rw [List.length_append]; rfl
    by_cases hk5 : k = 5
    · have n2 : (k == 5) = true := by rw [hk5]; rfl
      rw [if_pos hk5, hv] at hz
      subst hz
      by_cases h256 : 256 < P.length + (D.length + 1)
      · have n3 : decide ((256 : Int) < ((isort ltM P).length : Int) + ((D ++ [C_spn.dec [AV.v (.int .i64 (i : Nat)), AV.v (.int .i64 (j : Nat)), AV.v (.int .i64 k), AV.v (.int .i64 (hasK (l.getD ((i : Nat) : Int).toNat C_att.d) k - 1))]]).length : Int)) = true := decide_eq_true (by have hzl2 : (D ++ [C_spn.dec [AV.v (.int .i64 (i : Nat)), AV.v (.int .i64 (j : Nat)), AV.v (.int .i64 k), AV.v (.int .i64 (hasK (l.getD ((i : Nat) : Int).toNat C_att.d) k - 1))]]).length = D.length + 1 := hzl; rw [hzl2]; omega)
        have hE0 : madeL l = [] := if_pos (hbig h256)
        have hE1 : decide ((normL l).length ≤ 256) = false := decide_eq_false (by have := hbig h256; omega)
        clear hgo hj3 hv2 hfz
        repeat' (first | (with_reducible refine ⟨(_, k), ⟨(.cons (.agg (.cons (.sb _) (.cons (.sb _) (.cons (.sb _) (.cons (.sb _) (.cons (.v _) .nil)))))) (.cons (.v _) .nil)), ?_⟩, ?_⟩) | (with_reducible first | exact fun h => h | refine ExE.row (by with_unfolding_all rfl) ?_ | refine And.intro ?_ ?_) | ((with_reducible intro hq); first | exact bne1 hq (by with_reducible assumption) | exact bne1 (by with_reducible assumption) hq | ((simp only [*, BB, cond_true, cond_false, reduceCtorEq] at hq); done) | (revert hq; with_reducible intro _)) | (with_reducible first | exact True.intro | rfl | refine EntLe.row ?_ | exact LeN.ro rfl | exact LeN.rptr | assumption) | ((with_reducible first | refine WkX.chk ?_ | refine Wk.chk ?_ | refine LeL.chk ?_ | refine LeF.chk ?_ | refine Run.mk ?_); (conv => whnf)) | ((with_reducible show LeO _ _); first | refine LeO.ro ?_ | refine LeO.roCap ?_ | refine LeO.nil ?_ (fun _ => rfl)) | ((with_reducible show LeR _ _ _); first | refine LeR.own rfl rfl rfl ?_ | refine LeR.view rfl rfl rfl ?_ ?_ | refine LeR.ro ?_ | refine LeR.roCap ?_ | refine LeR.nil ?_ (fun _ => rfl)) | ((with_reducible first | show drawOK _ _ = true | show lateOK _ _ = true | show drawOK2 _ _ = true | show drawOK3 _ _ = true); kernel_rfl))
        all_goals first
          | omega
          | exact hk1
          | (rw [← hv]; apply Fits.i64 <;> omega)
          | (apply Fits.i64 <;> omega)
          | (show (D.length + 1) * 32 ≤ 140737488355328; omega)
          | (rw [List.length_append, hPl]; apply Fits.i64 <;> (simp only [List.length_cons, List.length_nil]; omega))
          | (dsimp only; omega)
          | exact of_decide_eq_true (by assumption)
          | exact hE0.symm
          | exact hE1.symm
          | rfl
          | trace_state
      have n3 : decide ((256 : Int) < ((isort ltM P).length : Int) + ((D ++ [C_spn.dec [AV.v (.int .i64 (i : Nat)), AV.v (.int .i64 (j : Nat)), AV.v (.int .i64 k), AV.v (.int .i64 (hasK (l.getD ((i : Nat) : Int).toNat C_att.d) k - 1))]]).length : Int)) = false := decide_eq_false (by have hzl2 : (D ++ [C_spn.dec [AV.v (.int .i64 (i : Nat)), AV.v (.int .i64 (j : Nat)), AV.v (.int .i64 k), AV.v (.int .i64 (hasK (l.getD ((i : Nat) : Int).toNat C_att.d) k - 1))]]).length = D.length + 1 := hzl; rw [hzl2]; omega)
      clear hgo hj3 hv2
      repeat' (first | (with_reducible refine ⟨(_, k), ⟨(.cons (.agg (.cons (.sb _) (.cons (.sb _) (.cons (.sb _) (.cons (.sb _) (.cons (.v _) .nil)))))) (.cons (.v _) .nil)), ?_⟩, ?_⟩) | (with_reducible refine ex_of (α := Nat × List Spn) (j, D ++ strS l cut k i) ⟨⟨⟨hj2, ?_⟩, hD2⟩, ?_⟩ ?_) | (with_reducible first | exact fun h => h | refine ExE.row (by with_unfolding_all rfl) ?_ | refine And.intro ?_ ?_) | ((with_reducible intro hq); first | exact bne1 hq (by with_reducible assumption) | exact bne1 (by with_reducible assumption) hq | ((simp only [*, BB, cond_true, cond_false, reduceCtorEq] at hq); done) | (revert hq; with_reducible intro _)) | (with_reducible first | exact True.intro | rfl | refine EntLe.row ?_ | exact LeN.ro rfl | exact LeN.rptr | assumption) | ((with_reducible first | refine WkX.chk ?_ | refine Wk.chk ?_ | refine LeL.chk ?_ | refine LeF.chk ?_ | refine Run.mk ?_); (conv => whnf)) | ((with_reducible show LeO _ _); first | refine LeO.ro ?_ | refine LeO.roCap ?_ | refine LeO.nil ?_ (fun _ => rfl)) | ((with_reducible show LeR _ _ _); first | refine LeR.own rfl rfl rfl ?_ | refine LeR.view rfl rfl rfl ?_ ?_ | refine LeR.ro ?_ | refine LeR.roCap ?_ | refine LeR.nil ?_ (fun _ => rfl)) | ((with_reducible first | show drawOK _ _ = true | show lateOK _ _ = true | show drawOK2 _ _ = true | show drawOK3 _ _ = true); kernel_rfl))
      all_goals first
        | omega
        | exact hk1
        | (rw [← hv]; apply Fits.i64 <;> omega)
        | (apply Fits.i64 <;> omega)
        | (show (D.length + 1) * 32 ≤ 140737488355328; omega)
        | (rw [List.length_append, hPl]; apply Fits.i64 <;> (simp only [List.length_cons, List.length_nil]; omega))
        | (dsimp only; omega)
        | (rw [hDS]; omega)
        | exact hfz
        | exact of_decide_eq_true (by assumption)
        | rfl
        | trace_state
    · have n2 : (k == 5) = false := by rw [beq_eq_false_iff_ne]; exact hk5
      rw [if_neg hk5] at hz
      subst hz
      by_cases h256 : 256 < P.length + (D.length + 1)
      · have n3 : decide ((256 : Int) < ((isort ltM P).length : Int) + ((D ++ [C_spn.dec [AV.v (.int .i64 (i : Nat)), AV.v (.int .i64 (j : Nat)), AV.v (.int .i64 k), AV.v (.int .i64 (0))]]).length : Int)) = true := decide_eq_true (by have hzl2 : (D ++ [C_spn.dec [AV.v (.int .i64 (i : Nat)), AV.v (.int .i64 (j : Nat)), AV.v (.int .i64 k), AV.v (.int .i64 (0))]]).length = D.length + 1 := hzl; rw [hzl2]; omega)
        have hE0 : madeL l = [] := if_pos (hbig h256)
        have hE1 : decide ((normL l).length ≤ 256) = false := decide_eq_false (by have := hbig h256; omega)
        clear hgo hj3 hv2 hfz
        repeat' (first | (with_reducible refine ⟨(_, k), ⟨(.cons (.agg (.cons (.sb _) (.cons (.sb _) (.cons (.sb _) (.cons (.sb _) (.cons (.v _) .nil)))))) (.cons (.v _) .nil)), ?_⟩, ?_⟩) | (with_reducible first | exact fun h => h | refine ExE.row (by with_unfolding_all rfl) ?_ | refine And.intro ?_ ?_) | ((with_reducible intro hq); first | exact bne1 hq (by with_reducible assumption) | exact bne1 (by with_reducible assumption) hq | ((simp only [*, BB, cond_true, cond_false, reduceCtorEq] at hq); done) | (revert hq; with_reducible intro _)) | (with_reducible first | exact True.intro | rfl | refine EntLe.row ?_ | exact LeN.ro rfl | exact LeN.rptr | assumption) | ((with_reducible first | refine WkX.chk ?_ | refine Wk.chk ?_ | refine LeL.chk ?_ | refine LeF.chk ?_ | refine Run.mk ?_); (conv => whnf)) | ((with_reducible show LeO _ _); first | refine LeO.ro ?_ | refine LeO.roCap ?_ | refine LeO.nil ?_ (fun _ => rfl)) | ((with_reducible show LeR _ _ _); first | refine LeR.own rfl rfl rfl ?_ | refine LeR.view rfl rfl rfl ?_ ?_ | refine LeR.ro ?_ | refine LeR.roCap ?_ | refine LeR.nil ?_ (fun _ => rfl)) | ((with_reducible first | show drawOK _ _ = true | show lateOK _ _ = true | show drawOK2 _ _ = true | show drawOK3 _ _ = true); kernel_rfl))
        all_goals first
          | omega
          | exact hk1
          | (apply Fits.i64 <;> omega)
          | (show (D.length + 1) * 32 ≤ 140737488355328; omega)
          | (rw [List.length_append, hPl]; apply Fits.i64 <;> (simp only [List.length_cons, List.length_nil]; omega))
          | (dsimp only; omega)
          | exact of_decide_eq_true (by assumption)
          | exact hE0.symm
          | exact hE1.symm
          | rfl
          | trace_state
      have n3 : decide ((256 : Int) < ((isort ltM P).length : Int) + ((D ++ [C_spn.dec [AV.v (.int .i64 (i : Nat)), AV.v (.int .i64 (j : Nat)), AV.v (.int .i64 k), AV.v (.int .i64 (0))]]).length : Int)) = false := decide_eq_false (by have hzl2 : (D ++ [C_spn.dec [AV.v (.int .i64 (i : Nat)), AV.v (.int .i64 (j : Nat)), AV.v (.int .i64 k), AV.v (.int .i64 (0))]]).length = D.length + 1 := hzl; rw [hzl2]; omega)
      clear hgo hj3 hv2
      repeat' (first | (with_reducible refine ⟨(_, k), ⟨(.cons (.agg (.cons (.sb _) (.cons (.sb _) (.cons (.sb _) (.cons (.sb _) (.cons (.v _) .nil)))))) (.cons (.v _) .nil)), ?_⟩, ?_⟩) | (with_reducible refine ex_of (α := Nat × List Spn) (j, D ++ strS l cut k i) ⟨⟨⟨hj2, ?_⟩, hD2⟩, ?_⟩ ?_) | (with_reducible first | exact fun h => h | refine ExE.row (by with_unfolding_all rfl) ?_ | refine And.intro ?_ ?_) | ((with_reducible intro hq); first | exact bne1 hq (by with_reducible assumption) | exact bne1 (by with_reducible assumption) hq | ((simp only [*, BB, cond_true, cond_false, reduceCtorEq] at hq); done) | (revert hq; with_reducible intro _)) | (with_reducible first | exact True.intro | rfl | refine EntLe.row ?_ | exact LeN.ro rfl | exact LeN.rptr | assumption) | ((with_reducible first | refine WkX.chk ?_ | refine Wk.chk ?_ | refine LeL.chk ?_ | refine LeF.chk ?_ | refine Run.mk ?_); (conv => whnf)) | ((with_reducible show LeO _ _); first | refine LeO.ro ?_ | refine LeO.roCap ?_ | refine LeO.nil ?_ (fun _ => rfl)) | ((with_reducible show LeR _ _ _); first | refine LeR.own rfl rfl rfl ?_ | refine LeR.view rfl rfl rfl ?_ ?_ | refine LeR.ro ?_ | refine LeR.roCap ?_ | refine LeR.nil ?_ (fun _ => rfl)) | ((with_reducible first | show drawOK _ _ = true | show lateOK _ _ = true | show drawOK2 _ _ = true | show drawOK3 _ _ = true); kernel_rfl))
      all_goals first
        | omega
        | exact hk1
        | (apply Fits.i64 <;> omega)
        | (show (D.length + 1) * 32 ≤ 140737488355328; omega)
        | (rw [List.length_append, hPl]; apply Fits.i64 <;> (simp only [List.length_cons, List.length_nil]; omega))
        | (dsimp only; omega)
        | (rw [hDS]; omega)
        | exact hfz
        | exact of_decide_eq_true (by assumption)
        | rfl
        | trace_state
  have hlt2 : decide ((i : Int) < (l.length : Int)) = false := decide_eq_false (by omega)
  rw [strT_end hil, List.append_nil] at hD
  subst hD
  repeat' (first | (with_reducible first | exact fun h => h | refine ExE.row (by with_unfolding_all rfl) ?_ | refine And.intro ?_ ?_) | ((with_reducible intro hq); first | exact bne1 hq (by with_reducible assumption) | exact bne1 (by with_reducible assumption) hq | ((simp only [*, BB, cond_true, cond_false, reduceCtorEq] at hq); done) | (revert hq; with_reducible intro _)) | (with_reducible first | exact True.intro | rfl | refine EntLe.row ?_ | exact LeN.ro rfl | exact LeN.rptr | assumption) | ((with_reducible first | refine WkX.chk ?_ | refine Wk.chk ?_ | refine LeL.chk ?_ | refine LeF.chk ?_ | refine Run.mk ?_); (conv => whnf)) | ((with_reducible show LeO _ _); first | refine LeO.ro ?_ | refine LeO.roCap ?_ | refine LeO.nil ?_ (fun _ => rfl)) | ((with_reducible show LeR _ _ _); first | refine LeR.own rfl rfl rfl ?_ | refine LeR.view rfl rfl rfl ?_ ?_ | refine LeR.ro ?_ | refine LeR.roCap ?_ | refine LeR.nil ?_ (fun _ => rfl)) | ((with_reducible first | show drawOK _ _ = true | show lateOK _ _ = true | show drawOK2 _ _ = true | show drawOK3 _ _ = true); kernel_rfl))
  have hSE : ∃ S, S = strT l cut k 0 := ⟨_, rfl⟩
  obtain ⟨S, hS⟩ := hSE
  have hSin := strT_in (l := l) (cut := cut) (k := k) 0
  rw [← hS] at hDl hkS hSin hD256
  simp only [← hS]
  refine loopI Nat [] (fun n => [(13, .v (.int .i64 (n : Nat))), (6, .own 2)]) (fun n => [(1, .row C_bool (mkTo cut S n) 4 none), (2, .row C_spn (isort ltM (P ++ S.take n)) 71 none)]) (fun n => n ≤ S.length) (fun n => S.length - n) 0 (Nat.zero_le _) (Wk.chk ?_) fun n hn => ?_
  · ((conv => whnf); repeat' (first | (with_reducible first | exact fun h => h | refine ExE.row (by with_unfolding_all rfl) ?_ | refine And.intro ?_ ?_) | ((with_reducible intro hq); first | exact bne1 hq (by with_reducible assumption) | exact bne1 (by with_reducible assumption) hq | ((simp only [*, BB, cond_true, cond_false, reduceCtorEq] at hq); done) | (revert hq; with_reducible intro _)) | (with_reducible first | exact True.intro | rfl | refine EntLe.row ?_ | exact LeN.ro rfl | exact LeN.rptr | assumption) | ((with_reducible first | refine WkX.chk ?_ | refine Wk.chk ?_ | refine LeL.chk ?_ | refine LeF.chk ?_ | refine Run.mk ?_); (conv => whnf)) | ((with_reducible show LeO _ _); first | refine LeO.ro ?_ | refine LeO.roCap ?_ | refine LeO.nil ?_ (fun _ => rfl)) | ((with_reducible show LeR _ _ _); first | refine LeR.own rfl rfl rfl ?_ | refine LeR.view rfl rfl rfl ?_ ?_ | refine LeR.ro ?_ | refine LeR.roCap ?_ | refine LeR.nil ?_ (fun _ => rfl)) | ((with_reducible first | show drawOK _ _ = true | show lateOK _ _ = true | show drawOK2 _ _ = true | show drawOK3 _ _ = true); kernel_rfl)))
    all_goals first
      | rfl
      | (rw [List.take_zero, List.append_nil]; done)
      | trace_state
  have hn : n ≤ S.length := hn
  have hml := mkTo_len cut S n
  by_cases hnl : n < S.length
  · have hlt3 : decide ((n : Int) < (S.length : Int)) = true := decide_eq_true (by omega)
    have hxb := hSin.at hnl
    have hst := mkTo_step (cut := cut) hnl
    have e3 : ((n : Nat) : Int).toNat = n := Int.toNat_natCast _
    have hxx : S.getD ((n : Nat) : Int).toNat C_spn.d = S.getD n zS := by rw [e3, hds]
    have hWE : ∃ W, W = isort ltM (P ++ S.take n) := ⟨_, rfl⟩
    obtain ⟨W, hW⟩ := hWE
    have hWl : W.length = P.length + n := by
      have h1 := isort_len (lt := ltM) (P ++ S.take n)
      rw [hW, h1, List.length_append, List.length_take]
      omega
    have hins0 : isort ltM (P ++ S.take (n + 1)) = insR ltM (S.getD n zS) W := by
      rw [← take_one S zS hnl, ← List.append_assoc, isort_snoc, hW]
    simp only [← hW]
    repeat' (first | (with_reducible first | exact fun h => h | refine ExE.row (by with_unfolding_all rfl) ?_ | refine And.intro ?_ ?_) | ((with_reducible intro hq); first | exact bne1 hq (by with_reducible assumption) | exact bne1 (by with_reducible assumption) hq | ((simp only [*, BB, cond_true, cond_false, reduceCtorEq] at hq); done) | (revert hq; with_reducible intro _)) | (with_reducible first | exact True.intro | rfl | refine EntLe.row ?_ | exact LeN.ro rfl | exact LeN.rptr | assumption) | ((with_reducible first | refine WkX.chk ?_ | refine Wk.chk ?_ | refine LeL.chk ?_ | refine LeF.chk ?_ | refine Run.mk ?_); (conv => whnf)) | ((with_reducible show LeO _ _); first | refine LeO.ro ?_ | refine LeO.roCap ?_ | refine LeO.nil ?_ (fun _ => rfl)) | ((with_reducible show LeR _ _ _); first | refine LeR.own rfl rfl rfl ?_ | refine LeR.view rfl rfl rfl ?_ ?_ | refine LeR.ro ?_ | refine LeR.roCap ?_ | refine LeR.nil ?_ (fun _ => rfl)) | ((with_reducible first | show drawOK _ _ = true | show lateOK _ _ = true | show drawOK2 _ _ = true | show drawOK3 _ _ = true); kernel_rfl))
    all_goals (try (first | omega | (rw [hxx]; omega) | (rw [List.length_set, hxx]; omega) | (apply Fits.i64 <;> omega) | (dsimp only; omega) | rfl))
    refine loopI Nat [] (fun m => [(5, .v (.int .i64 (m : Nat)))]) (fun _ => []) (fun m => m ≤ W.length ∧ ∀ y, m ≤ y → y < W.length → ltM (S.getD n zS) (W.getD y zS) = true) (fun m => m) W.length ⟨Nat.le_refl _, fun y h1 h2 => by omega⟩ (Wk.chk ?_) fun m hm => ?_
    · ((conv => whnf); repeat' (first | (with_reducible first | exact fun h => h | refine ExE.row (by with_unfolding_all rfl) ?_ | refine And.intro ?_ ?_) | ((with_reducible intro hq); first | exact bne1 hq (by with_reducible assumption) | exact bne1 (by with_reducible assumption) hq | ((simp only [*, BB, cond_true, cond_false, reduceCtorEq] at hq); done) | (revert hq; with_reducible intro _)) | (with_reducible first | exact True.intro | rfl | refine EntLe.row ?_ | exact LeN.ro rfl | exact LeN.rptr | assumption) | ((with_reducible first | refine WkX.chk ?_ | refine Wk.chk ?_ | refine LeL.chk ?_ | refine LeF.chk ?_ | refine Run.mk ?_); (conv => whnf)) | ((with_reducible show LeO _ _); first | refine LeO.ro ?_ | refine LeO.roCap ?_ | refine LeO.nil ?_ (fun _ => rfl)) | ((with_reducible show LeR _ _ _); first | refine LeR.own rfl rfl rfl ?_ | refine LeR.view rfl rfl rfl ?_ ?_ | refine LeR.ro ?_ | refine LeR.roCap ?_ | refine LeR.nil ?_ (fun _ => rfl)) | ((with_reducible first | show drawOK _ _ = true | show lateOK _ _ = true | show drawOK2 _ _ = true | show drawOK3 _ _ = true); kernel_rfl)))
      all_goals first
        | rfl
        | trace_state
    obtain ⟨hm1, hm2⟩ := hm
    by_cases hm0 : 0 < m
    · have k0 : decide ((0 : Int) < (m : Int)) = true := decide_eq_true (by omega)
      have e2 : ((m : Int) - 1).toNat = m - 1 := by omega
      have hWW : ltM (S.getD ((n : Nat) : Int).toNat C_spn.d) (W.getD (((m : Int) - 1)).toNat C_spn.d) = ltM (S.getD n zS) (W.getD (m - 1) zS) := by rw [hxx, e2, hds]
      cases hc : ltM (S.getD n zS) (W.getD (m - 1) zS) with
      | true =>
        rw [hc] at hWW
        have kc : (decide ((0 : Int) < (m : Int)) && ltM (S.getD ((n : Nat) : Int).toNat C_spn.d) (W.getD (((m : Int) - 1)).toNat C_spn.d)) = true := by rw [k0, hWW]; rfl
        have hm3 : ∀ y, m - 1 ≤ y → y < W.length → ltM (S.getD n zS) (W.getD y zS) = true := fun y h1 h2 => by
          by_cases h : y = m - 1
          · rw [h]; exact hc
          · exact hm2 y (by omega) h2
        repeat' (first | (with_reducible refine ⟨((S.getD ((n : Nat) : Int).toNat C_spn.d), _), ⟨(.cons (.agg (.cons (.v _) (.cons (.v _) (.cons (.v _) (.cons (.v _) .nil))))) (.cons (.agg (.cons (.v _) (.cons (.v _) (.cons (.v _) (.cons (.v _) .nil))))) .nil)), ?_⟩, ?_⟩) | (with_reducible refine ex_of (α := Nat) (m - 1) ⟨⟨?_, hm3⟩, ?_⟩ ?_) | (with_reducible first | exact fun h => h | refine ExE.row (by with_unfolding_all rfl) ?_ | refine And.intro ?_ ?_) | ((with_reducible intro hq); first | exact bne1 hq (by with_reducible assumption) | exact bne1 (by with_reducible assumption) hq | ((simp only [*, BB, cond_true, cond_false, reduceCtorEq] at hq); done) | (revert hq; with_reducible intro _)) | (with_reducible first | exact True.intro | rfl | refine EntLe.row ?_ | exact LeN.ro rfl | exact LeN.rptr | assumption) | ((with_reducible first | refine WkX.chk ?_ | refine Wk.chk ?_ | refine LeL.chk ?_ | refine LeF.chk ?_ | refine Run.mk ?_); (conv => whnf)) | ((with_reducible show LeO _ _); first | refine LeO.ro ?_ | refine LeO.roCap ?_ | refine LeO.nil ?_ (fun _ => rfl)) | ((with_reducible show LeR _ _ _); first | refine LeR.own rfl rfl rfl ?_ | refine LeR.view rfl rfl rfl ?_ ?_ | refine LeR.ro ?_ | refine LeR.roCap ?_ | refine LeR.nil ?_ (fun _ => rfl)) | ((with_reducible first | show drawOK _ _ = true | show lateOK _ _ = true | show drawOK2 _ _ = true | show drawOK3 _ _ = true); kernel_rfl))
        all_goals first
          | omega
          | (apply Fits.i64 <;> omega)
          | (show m - 1 < m; omega)
          | (dsimp only; omega)
          | trace_state
      | false =>
        rw [hc] at hWW
        have kc : (decide ((0 : Int) < (m : Int)) && ltM (S.getD ((n : Nat) : Int).toNat C_spn.d) (W.getD (((m : Int) - 1)).toNat C_spn.d)) = false := by rw [k0, hWW]; rfl
        have hins := insR_at (lt := ltM) (d := zS) (x := S.getD n zS) (S := W) (k := m) (by omega) hm2 (.inr hc)
        have hb1 : (0 + ((m : Int)).toNat).ble W.length = true := Nat.ble_eq_true_of_le (by omega)
        have hb2 : (List.take ((m : Int)).toNat (List.drop 0 W)).flatMap C_spn.enc = (W.take m).flatMap C_spn.enc := rfl
        have hb3 : (W.take m).length = ((m : Int)).toNat := by rw [List.length_take]; omega
        have hd1 : (0 + ((m : Int)).toNat + (W.length - ((m : Int)).toNat)).ble W.length = true := Nat.ble_eq_true_of_le (by omega)
        have hd2 : (List.take (W.length - ((m : Int)).toNat) (List.drop (0 + ((m : Int)).toNat) W)).flatMap C_spn.enc = (W.drop m).flatMap C_spn.enc := by
          rw [show 0 + ((m : Int)).toNat = m by omega, List.take_of_length_le (by rw [List.length_drop]; omega)]
        have hd3 : (W.drop m).length = W.length - ((m : Int)).toNat := by rw [List.length_drop]; omega
        have hfin : [] ++ W.take m ++ [(S.getD ((n : Nat) : Int).toNat C_spn.d)] ++ W.drop m = isort ltM (P ++ S.take (n + 1)) := by
          rw [hxx, hins0, hins, List.nil_append, List.append_assoc]; rfl
        repeat' (first | (with_reducible refine ⟨((S.getD ((n : Nat) : Int).toNat C_spn.d), _), ⟨(.cons (.agg (.cons (.v _) (.cons (.v _) (.cons (.v _) (.cons (.v _) .nil))))) (.cons (.agg (.cons (.v _) (.cons (.v _) (.cons (.v _) (.cons (.v _) .nil))))) .nil)), ?_⟩, ?_⟩) | (with_reducible refine ex_of (α := List Spn) (W.take m) ⟨hb1, hb2, hb3, fun _ => rfl⟩ ?_) | (with_reducible refine ex_of (α := List Spn) (W.drop m) ⟨hd1, hd2, hd3, fun _ => rfl⟩ ?_) | (with_reducible refine ex_moveO (α := Nat) (n + 1) 2 6 rfl (by with_unfolding_all exact rfl) (by with_unfolding_all exact rfl) ⟨?_, ?_⟩ ?_) | (with_reducible first | exact fun h => h | refine ExE.row (by with_unfolding_all rfl) ?_ | refine And.intro ?_ ?_) | ((with_reducible intro hq); first | exact bne1 hq (by with_reducible assumption) | exact bne1 (by with_reducible assumption) hq | ((simp only [*, BB, cond_true, cond_false, reduceCtorEq] at hq); done) | (revert hq; with_reducible intro _)) | (with_reducible first | exact True.intro | rfl | refine EntLe.row ?_ | exact LeN.ro rfl | exact LeN.rptr | assumption) | ((with_reducible first | refine WkX.chk ?_ | refine Wk.chk ?_ | refine LeL.chk ?_ | refine LeF.chk ?_ | refine Run.mk ?_); (conv => whnf)) | ((with_reducible show LeO _ _); first | refine LeO.ro ?_ | refine LeO.roCap ?_ | refine LeO.nil ?_ (fun _ => rfl)) | ((with_reducible show LeR _ _ _); first | refine LeR.own rfl rfl rfl ?_ | refine LeR.view rfl rfl rfl ?_ ?_ | refine LeR.ro ?_ | refine LeR.roCap ?_ | refine LeR.nil ?_ (fun _ => rfl)) | ((with_reducible first | show drawOK _ _ = true | show lateOK _ _ = true | show drawOK2 _ _ = true | show drawOK3 _ _ = true); kernel_rfl))
        all_goals first
          | omega
          | (apply Fits.i64 <;> omega)
          | (with_reducible rfl)
          | (dsimp only [C_spn]; done)
          | (dsimp only; simp only [List.length_append, List.length_cons, List.length_nil, List.nil_append, hb3, hd3]; omega)
          | (dsimp only; omega)
          | exact hfin
          | (rw [hxx]; exact hst.symm)
          | rfl
          | trace_state
    have k0 : decide ((0 : Int) < (m : Int)) = false := decide_eq_false (by omega)
    have hins := insR_at (lt := ltM) (d := zS) (x := S.getD n zS) (S := W) (k := m) (by omega) hm2 (.inl (by omega))
    have hb1 : (0 + ((m : Int)).toNat).ble W.length = true := Nat.ble_eq_true_of_le (by omega)
    have hb2 : (List.take ((m : Int)).toNat (List.drop 0 W)).flatMap C_spn.enc = (W.take m).flatMap C_spn.enc := rfl
    have hb3 : (W.take m).length = ((m : Int)).toNat := by rw [List.length_take]; omega
    have hd1 : (0 + ((m : Int)).toNat + (W.length - ((m : Int)).toNat)).ble W.length = true := Nat.ble_eq_true_of_le (by omega)
    have hd2 : (List.take (W.length - ((m : Int)).toNat) (List.drop (0 + ((m : Int)).toNat) W)).flatMap C_spn.enc = (W.drop m).flatMap C_spn.enc := by
      rw [show 0 + ((m : Int)).toNat = m by omega, List.take_of_length_le (by rw [List.length_drop]; omega)]
    have hd3 : (W.drop m).length = W.length - ((m : Int)).toNat := by rw [List.length_drop]; omega
    have hfin : [] ++ W.take m ++ [(S.getD ((n : Nat) : Int).toNat C_spn.d)] ++ W.drop m = isort ltM (P ++ S.take (n + 1)) := by
      rw [hxx, hins0, hins, List.nil_append, List.append_assoc]; rfl
    repeat' (first | (with_reducible refine ⟨((S.getD ((n : Nat) : Int).toNat C_spn.d), _), ⟨(.cons (.agg (.cons (.v _) (.cons (.v _) (.cons (.v _) (.cons (.v _) .nil))))) (.cons (.agg (.cons (.v _) (.cons (.v _) (.cons (.v _) (.cons (.v _) .nil))))) .nil)), ?_⟩, ?_⟩) | (with_reducible refine ex_of (α := List Spn) (W.take m) ⟨hb1, hb2, hb3, fun _ => rfl⟩ ?_) | (with_reducible refine ex_of (α := List Spn) (W.drop m) ⟨hd1, hd2, hd3, fun _ => rfl⟩ ?_) | (with_reducible refine ex_moveO (α := Nat) (n + 1) 2 6 rfl (by with_unfolding_all exact rfl) (by with_unfolding_all exact rfl) ⟨?_, ?_⟩ ?_) | (with_reducible first | exact fun h => h | refine ExE.row (by with_unfolding_all rfl) ?_ | refine And.intro ?_ ?_) | ((with_reducible intro hq); first | exact bne1 hq (by with_reducible assumption) | exact bne1 (by with_reducible assumption) hq | ((simp only [*, BB, cond_true, cond_false, reduceCtorEq] at hq); done) | (revert hq; with_reducible intro _)) | (with_reducible first | exact True.intro | rfl | refine EntLe.row ?_ | exact LeN.ro rfl | exact LeN.rptr | assumption) | ((with_reducible first | refine WkX.chk ?_ | refine Wk.chk ?_ | refine LeL.chk ?_ | refine LeF.chk ?_ | refine Run.mk ?_); (conv => whnf)) | ((with_reducible show LeO _ _); first | refine LeO.ro ?_ | refine LeO.roCap ?_ | refine LeO.nil ?_ (fun _ => rfl)) | ((with_reducible show LeR _ _ _); first | refine LeR.own rfl rfl rfl ?_ | refine LeR.view rfl rfl rfl ?_ ?_ | refine LeR.ro ?_ | refine LeR.roCap ?_ | refine LeR.nil ?_ (fun _ => rfl)) | ((with_reducible first | show drawOK _ _ = true | show lateOK _ _ = true | show drawOK2 _ _ = true | show drawOK3 _ _ = true); kernel_rfl))
    all_goals first
      | omega
      | (apply Fits.i64 <;> omega)
      | (with_reducible rfl)
      | (dsimp only [C_spn]; done)
      | (dsimp only; simp only [List.length_append, List.length_cons, List.length_nil, List.nil_append, hb3, hd3]; omega)
      | (dsimp only; omega)
      | exact hfin
      | (rw [hxx]; exact hst.symm)
      | rfl
      | trace_state
  have hlt3 : decide ((n : Int) < (S.length : Int)) = false := decide_eq_false (by omega)
  have hnn : n = S.length := by omega
  subst hnn
  have hk1' : (kindsTo l (q + 1)).1 = mkTo cut S S.length := by rw [hkS]
  have hk2' : isort ltM (kindsTo l (q + 1)).2 = isort ltM (P ++ S.take S.length) := by rw [hkS, List.take_length]
  have hk3' : (kindsTo l (q + 1)).2.length ≤ 256 := by rw [hkS]; show (P ++ S).length ≤ 256; rw [List.length_append]; exact hD256
  repeat' (first | (with_reducible refine ex_of (α := Nat) (q + 1) ⟨⟨?_, hk3'⟩, ?_⟩ ?_) | (with_reducible first | exact fun h => h | refine ExE.row (by with_unfolding_all rfl) ?_ | refine And.intro ?_ ?_) | ((with_reducible intro hq); first | exact bne1 hq (by with_reducible assumption) | exact bne1 (by with_reducible assumption) hq | ((simp only [*, BB, cond_true, cond_false, reduceCtorEq] at hq); done) | (revert hq; with_reducible intro _)) | (with_reducible first | exact True.intro | rfl | refine EntLe.row ?_ | exact LeN.ro rfl | exact LeN.rptr | assumption) | ((with_reducible first | refine WkX.chk ?_ | refine Wk.chk ?_ | refine LeL.chk ?_ | refine LeF.chk ?_ | refine Run.mk ?_); (conv => whnf)) | ((with_reducible show LeO _ _); first | refine LeO.ro ?_ | refine LeO.roCap ?_ | refine LeO.nil ?_ (fun _ => rfl)) | ((with_reducible show LeR _ _ _); first | refine LeR.own rfl rfl rfl ?_ | refine LeR.view rfl rfl rfl ?_ ?_ | refine LeR.ro ?_ | refine LeR.roCap ?_ | refine LeR.nil ?_ (fun _ => rfl)) | ((with_reducible first | show drawOK _ _ = true | show lateOK _ _ = true | show drawOK2 _ _ = true | show drawOK3 _ _ = true); kernel_rfl))
  all_goals first
    | omega
    | (apply Fits.i64 <;> omega)
    | (dsimp only; omega)
    | exact hk1'.symm
    | exact hk2'.symm
    | trace_state
end Go.SX.Try
/- Plain law: colours of looks; the answers of Norm and Set. -/
namespace Go.SX.Plain
set_option linter.unusedSimpArgs false
theorem setA_col {a : Atr} {x : Spn} (h : 0 ≤ a.colour ∧ a.colour ≤ 16777216) (hx : 0 ≤ x.val ∧ x.val ≤ 16777215) : 0 ≤ (setA a x).colour ∧ (setA a x).colour ≤ 16777216 := by
  unfold setA
  repeat' split
  all_goals first
    | exact h
    | (simp only; omega)
theorem pntTo_col {l : List Atr} {x : Spn} (h : ColOK l) (hx : 0 ≤ x.val ∧ x.val ≤ 16777215) (a i : Nat) : ColOK (pntTo l x a i) := fun z hz => by
  unfold pntTo at hz
  rcases List.mem_append.1 hz with h1 | h1
  · exact h z (List.mem_of_mem_take h1)
  · rcases List.mem_append.1 h1 with h2 | h2
    · obtain ⟨y, hy, rfl⟩ := List.mem_map.1 h2
      refine setA_col (h y ?_) hx
      unfold seg at hy
      first
        | exact List.mem_of_mem_take (List.mem_of_mem_drop hy)
        | exact List.mem_of_mem_drop (List.mem_of_mem_take hy)
    · exact h z (List.mem_of_mem_drop h2)
theorem foldl_pnt_col : ∀ (S : List Spn), (∀ x ∈ S, 0 ≤ x.val ∧ x.val ≤ 16777215) → ∀ acc, ColOK acc → ColOK (S.foldl pnt acc)
  | [], _, _, h => h
  | x :: S, hS, acc, h => by
    rw [List.foldl_cons]
    exact foldl_pnt_col S (fun y hy => hS y (List.mem_cons_of_mem _ hy)) _ (pntTo_col h (hS x List.mem_cons_self) _ _)
theorem looksL_col {l : List Spn} {n : Nat} (h : spansB l n = true) : ColOK (looksL n l) := by
  unfold looksL lookTo
  refine foldl_pnt_col _ (fun x hx => ?_) _ fun z hz => ?_
  · have hx2 := List.mem_of_mem_take hx
    have hx3 : x ∈ l := by
      rcases mem_mrg.1 hx2 with h1 | h1
      · cases h1
      · exact h1
    exact (right_bd (spans_right h hx3)).2.2
  · rw [List.mem_replicate] at hz
    rw [hz.2]
    decide
def nrmE (e : Int) (A : List Atr) : Int := if e ≠ 0 then e else madeE A
def nrmT (e : Int) (s : ByteArray) (A : List Atr) : ByteArray := if e ≠ 0 then ByteArray.empty else madeT s A
def nrmL (e : Int) (A : List Atr) : List Spn := if e ≠ 0 then [] else madeL A
section
variable {e : Int} {s : ByteArray} {A : List Atr}
theorem nrmE_no (h : ¬ e = 0) : nrmE e A = e := if_pos h
theorem nrmT_no (h : ¬ e = 0) : nrmT e s A = ByteArray.empty := if_pos h
theorem nrmL_no (h : ¬ e = 0) : nrmL e A = [] := if_pos h
theorem nrmE_yes (h : e = 0) : nrmE e A = madeE A := if_neg (fun g => g h)
theorem nrmT_yes (h : e = 0) : nrmT e s A = madeT s A := if_neg (fun g => g h)
theorem nrmL_yes (h : e = 0) : nrmL e A = madeL A := if_neg (fun g => g h)
theorem nrmL_len : (nrmL e A).length ≤ 256 := by
  unfold nrmL
  split
  · simp
  · exact madeL_len A
end
def setE0 (s : ByteArray) (l : List Spn) (x : Spn) : Int := if chkN s.size l (sgN s : Nat) ≠ 0 then chkN s.size l (sgN s : Nat) else if rightB x (sgN s : Nat) = false then 23 else 0
theorem pnt_col {l : List Atr} {x : Spn} {n : Int} (h : ColOK l) (hx : rightB x n = true) : ColOK (pnt l x) := pntTo_col h (right_bd hx).2.2 _ _
end Go.SX.Plain
/- Contracts of style's text, the document's made, Norm of both. -/
namespace Go.SX.Try
open Go.Proofs Go.Proofs.Try Go.SX.Plain
set_option maxRecDepth 100000
set_option maxHeartbeats 0
set_option linter.unusedSimpArgs false
theorem q_stext : fact 81 f81 := ⟨by kernel_rfl, rfl, by kernel_rfl⟩
theorem q_rmade : fact 82 f82 := ⟨by kernel_rfl, rfl, by kernel_rfl⟩
theorem q_sNorm : fact 41 f41 := ⟨by kernel_rfl, rfl, by kernel_rfl⟩
theorem q_rNorm : fact 42 f42 := ⟨by kernel_rfl, rfl, by kernel_rfl⟩
theorem con_stext : Con prog 81 (fun ((s, A) : ByteArray × List Atr) => [.v (.string s), lkR A]) (fun (s, A) => .tup [txO (madeT s A) (madeL A), .v (.int .i64 (madeE A))]) (fun (_, A) => ColOK A ∧ A.length ≤ 10000) := by
  refine Con.of (by kernel_rfl) T_ok CdsOK.nil (.con con_smade .nil) 5 [] q_stext.1 q_stext.2.1 q_stext.2.2 (fun _ => rfl) fun i hi => ?_
  obtain ⟨s, A⟩ := i
  obtain ⟨hcol, hl⟩ : ColOK A ∧ A.length ≤ 10000 := hi
  have hnl := normS_len A
  by_cases h : 256 < (normL A).length
  · have k1 : decide ((256 : Int) < ((normS A).length : Int)) = true := decide_eq_true (by omega)
    have hE : madeE A = 2 := if_pos h
    have hT : madeT s A = ByteArray.empty := if_pos h
    have hL : madeL A = [] := if_pos h
    repeat' (first | (with_reducible refine ⟨_, ⟨(.cons (.lent _ _ _ _ _ _) .nil), ?_⟩, ?_⟩) | (with_reducible first | exact fun h => h | refine ExE.row (by with_unfolding_all rfl) ?_ | refine And.intro ?_ ?_) | ((with_reducible intro hq); first | exact bne1 hq (by with_reducible assumption) | exact bne1 (by with_reducible assumption) hq | ((simp only [*, BB, cond_true, cond_false, reduceCtorEq] at hq); done) | (revert hq; with_reducible intro _)) | (with_reducible first | exact True.intro | rfl | refine EntLe.row ?_ | exact LeN.ro rfl | exact LeN.rptr | assumption) | ((with_reducible first | refine WkX.chk ?_ | refine Wk.chk ?_ | refine LeL.chk ?_ | refine LeF.chk ?_ | refine Run.mk ?_); (conv => whnf)) | ((with_reducible show LeO _ _); first | refine LeO.ro ?_ | refine LeO.roCap ?_ | refine LeO.nil ?_ (fun _ => rfl)) | ((with_reducible show LeR _ _ _); first | refine LeR.own rfl rfl rfl ?_ | refine LeR.view rfl rfl rfl ?_ ?_ | refine LeR.ro ?_ | refine LeR.roCap ?_ | refine LeR.nil ?_ (fun _ => rfl)) | ((with_reducible first | show drawOK _ _ = true | show lateOK _ _ = true | show drawOK2 _ _ = true | show drawOK3 _ _ = true); kernel_rfl))
    all_goals first
      | exact ⟨hcol, hl⟩
      | exact hcol
      | exact hl
      | exact hE.symm
      | exact hT.symm
      | exact hL.symm
      | trace_state
  · have k1 : decide ((256 : Int) < ((normS A).length : Int)) = false := decide_eq_false (by omega)
    have hE : madeE A = 0 := if_neg h
    have hT : madeT s A = s := if_neg h
    have hL : madeL A = normS A := if_neg h
    repeat' (first | (with_reducible refine ⟨_, ⟨(.cons (.lent _ _ _ _ _ _) .nil), ?_⟩, ?_⟩) | (with_reducible first | exact fun h => h | refine ExE.row (by with_unfolding_all rfl) ?_ | refine And.intro ?_ ?_) | ((with_reducible intro hq); first | exact bne1 hq (by with_reducible assumption) | exact bne1 (by with_reducible assumption) hq | ((simp only [*, BB, cond_true, cond_false, reduceCtorEq] at hq); done) | (revert hq; with_reducible intro _)) | (with_reducible first | exact True.intro | rfl | refine EntLe.row ?_ | exact LeN.ro rfl | exact LeN.rptr | assumption) | ((with_reducible first | refine WkX.chk ?_ | refine Wk.chk ?_ | refine LeL.chk ?_ | refine LeF.chk ?_ | refine Run.mk ?_); (conv => whnf)) | ((with_reducible show LeO _ _); first | refine LeO.ro ?_ | refine LeO.roCap ?_ | refine LeO.nil ?_ (fun _ => rfl)) | ((with_reducible show LeR _ _ _); first | refine LeR.own rfl rfl rfl ?_ | refine LeR.view rfl rfl rfl ?_ ?_ | refine LeR.ro ?_ | refine LeR.roCap ?_ | refine LeR.nil ?_ (fun _ => rfl)) | ((with_reducible first | show drawOK _ _ = true | show lateOK _ _ = true | show drawOK2 _ _ = true | show drawOK3 _ _ = true); kernel_rfl))
    all_goals first
      | exact ⟨hcol, hl⟩
      | exact hcol
      | exact hl
      | exact hE.symm
      | exact hT.symm
      | exact hL.symm
      | trace_state
theorem con_rmade : Con prog 82 (fun ((s, A) : ByteArray × List Atr) => [.v (.string s), lkR A]) (fun (s, A) => .tup [txO (madeT s A) (madeL A), .v (.int .i64 (madeE A))]) (fun (_, A) => ColOK A ∧ A.length ≤ 10000) := by
  refine Con.of (by kernel_rfl) T_ok CdsOK.nil (.con con_rnormal .nil) 5 [] q_rmade.1 q_rmade.2.1 q_rmade.2.2 (fun _ => rfl) fun i hi => ?_
  obtain ⟨s, A⟩ := i
  obtain ⟨hcol, hl⟩ : ColOK A ∧ A.length ≤ 10000 := hi
  by_cases h : 256 < (normL A).length
  · have k0 : decide ((normL A).length ≤ 256) = false := decide_eq_false (by omega)
    have k1 : (!(decide ((normL A).length ≤ 256))) = true := by rw [k0]; rfl
    have hE : madeE A = 2 := if_pos h
    have hT : madeT s A = ByteArray.empty := if_pos h
    have hL : madeL A = [] := if_pos h
    repeat' (first | (with_reducible refine ⟨_, ⟨(.cons (.lent _ _ _ _ _ _) .nil), ?_⟩, ?_⟩) | (with_reducible first | exact fun h => h | refine ExE.row (by with_unfolding_all rfl) ?_ | refine And.intro ?_ ?_) | ((with_reducible intro hq); first | exact bne1 hq (by with_reducible assumption) | exact bne1 (by with_reducible assumption) hq | ((simp only [*, BB, cond_true, cond_false, reduceCtorEq] at hq); done) | (revert hq; with_reducible intro _)) | (with_reducible first | exact True.intro | rfl | refine EntLe.row ?_ | exact LeN.ro rfl | exact LeN.rptr | assumption) | ((with_reducible first | refine WkX.chk ?_ | refine Wk.chk ?_ | refine LeL.chk ?_ | refine LeF.chk ?_ | refine Run.mk ?_); (conv => whnf)) | ((with_reducible show LeO _ _); first | refine LeO.ro ?_ | refine LeO.roCap ?_ | refine LeO.nil ?_ (fun _ => rfl)) | ((with_reducible show LeR _ _ _); first | refine LeR.own rfl rfl rfl ?_ | refine LeR.view rfl rfl rfl ?_ ?_ | refine LeR.ro ?_ | refine LeR.roCap ?_ | refine LeR.nil ?_ (fun _ => rfl)) | ((with_reducible first | show drawOK _ _ = true | show lateOK _ _ = true | show drawOK2 _ _ = true | show drawOK3 _ _ = true); kernel_rfl))
    all_goals first
      | exact ⟨hcol, hl⟩
      | exact hcol
      | exact hl
      | exact hE.symm
      | exact hT.symm
      | exact hL.symm
      | trace_state
  · have k0 : decide ((normL A).length ≤ 256) = true := decide_eq_true (by omega)
    have k1 : (!(decide ((normL A).length ≤ 256))) = false := by rw [k0]; rfl
    have hE : madeE A = 0 := if_neg h
    have hT : madeT s A = s := if_neg h
    repeat' (first | (with_reducible refine ⟨_, ⟨(.cons (.lent _ _ _ _ _ _) .nil), ?_⟩, ?_⟩) | (with_reducible first | exact fun h => h | refine ExE.row (by with_unfolding_all rfl) ?_ | refine And.intro ?_ ?_) | ((with_reducible intro hq); first | exact bne1 hq (by with_reducible assumption) | exact bne1 (by with_reducible assumption) hq | ((simp only [*, BB, cond_true, cond_false, reduceCtorEq] at hq); done) | (revert hq; with_reducible intro _)) | (with_reducible first | exact True.intro | rfl | refine EntLe.row ?_ | exact LeN.ro rfl | exact LeN.rptr | assumption) | ((with_reducible first | refine WkX.chk ?_ | refine Wk.chk ?_ | refine LeL.chk ?_ | refine LeF.chk ?_ | refine Run.mk ?_); (conv => whnf)) | ((with_reducible show LeO _ _); first | refine LeO.ro ?_ | refine LeO.roCap ?_ | refine LeO.nil ?_ (fun _ => rfl)) | ((with_reducible show LeR _ _ _); first | refine LeR.own rfl rfl rfl ?_ | refine LeR.view rfl rfl rfl ?_ ?_ | refine LeR.ro ?_ | refine LeR.roCap ?_ | refine LeR.nil ?_ (fun _ => rfl)) | ((with_reducible first | show drawOK _ _ = true | show lateOK _ _ = true | show drawOK2 _ _ = true | show drawOK3 _ _ = true); kernel_rfl))
    all_goals first
      | exact ⟨hcol, hl⟩
      | exact hcol
      | exact hl
      | exact hE.symm
      | exact hT.symm
      | rfl
      | trace_state
theorem con_sNorm : Con prog 41 (fun ((s, l) : ByteArray × List Spn) => [txAV s l]) (fun (s, l) => .tup [txO (nrmT (chkN s.size l (sgN s : Nat)) s (looksL (sgN s) l)) (nrmL (chkN s.size l (sgN s : Nat)) (looksL (sgN s) l)), .v (.int .i64 (nrmE (chkN s.size l (sgN s : Nat)) (looksL (sgN s) l)))]) (fun _ => True) := by
  refine Con.of (by kernel_rfl) T_ok CdsOK.nil (.con con_scheck (.con con_slooks (.con con_stext .nil))) 5 [] q_sNorm.1 q_sNorm.2.1 q_sNorm.2.2 (fun _ => rfl) fun i _ => ?_
  obtain ⟨s, l⟩ := i
  by_cases hc : chkN s.size l (sgN s : Nat) = 0
  case neg =>
    have k1 : (chkN s.size l (sgN s : Nat) != 0) = true := by simpa using hc
    have hE := nrmE_no (A := looksL (sgN s) l) hc
    have hT := nrmT_no (s := s) (A := looksL (sgN s) l) hc
    have hL := nrmL_no (A := looksL (sgN s) l) hc
    repeat' (first | (with_reducible refine ⟨(s, l), ⟨(.cons (.agg (.cons (.v _) (.cons (.lent _ _ _ _ _ _) .nil))) .nil), ?_⟩, ?_⟩) | (with_reducible first | exact fun h => h | refine ExE.row (by with_unfolding_all rfl) ?_ | refine And.intro ?_ ?_) | ((with_reducible intro hq); first | exact bne1 hq (by with_reducible assumption) | exact bne1 (by with_reducible assumption) hq | ((simp only [*, BB, cond_true, cond_false, reduceCtorEq] at hq); done) | (revert hq; with_reducible intro _)) | (with_reducible first | exact True.intro | rfl | refine EntLe.row ?_ | exact LeN.ro rfl | exact LeN.rptr | assumption) | ((with_reducible first | refine WkX.chk ?_ | refine Wk.chk ?_ | refine LeL.chk ?_ | refine LeF.chk ?_ | refine Run.mk ?_); (conv => whnf)) | ((with_reducible show LeO _ _); first | refine LeO.ro ?_ | refine LeO.roCap ?_ | refine LeO.nil ?_ (fun _ => rfl)) | ((with_reducible show LeR _ _ _); first | refine LeR.own rfl rfl rfl ?_ | refine LeR.view rfl rfl rfl ?_ ?_ | refine LeR.ro ?_ | refine LeR.roCap ?_ | refine LeR.nil ?_ (fun _ => rfl)) | ((with_reducible first | show drawOK _ _ = true | show lateOK _ _ = true | show drawOK2 _ _ = true | show drawOK3 _ _ = true); kernel_rfl))
    all_goals first
      | exact hE.symm
      | exact hT.symm
      | exact hL.symm
      | trace_state
  have k1 : (chkN s.size l (sgN s : Nat) != 0) = false := by rw [hc]; rfl
  have hok := OkT.of hc
  have hlen := looksL_len hok.spans
  have hcol := looksL_col hok.spans
  have hn := sgN_le s
  have hs := hok.size
  have hE := nrmE_yes (A := looksL (sgN s) l) hc
  have hT := nrmT_yes (s := s) (A := looksL (sgN s) l) hc
  have hL := nrmL_yes (A := looksL (sgN s) l) hc
  repeat' (first | (with_reducible refine ⟨(s, l), ⟨(.cons (.agg (.cons (.v _) (.cons (.lent _ _ _ _ _ _) .nil))) .nil), ?_⟩, ?_⟩) | (with_reducible refine ⟨(_, _), ⟨(.cons (.v _) (.cons (.lent _ _ _ _ _ _) .nil)), ?_⟩, ?_⟩) | (with_reducible first | exact fun h => h | refine ExE.row (by with_unfolding_all rfl) ?_ | refine And.intro ?_ ?_) | ((with_reducible intro hq); first | exact bne1 hq (by with_reducible assumption) | exact bne1 (by with_reducible assumption) hq | ((simp only [*, BB, cond_true, cond_false, reduceCtorEq] at hq); done) | (revert hq; with_reducible intro _)) | (with_reducible first | exact True.intro | rfl | refine EntLe.row ?_ | exact LeN.ro rfl | exact LeN.rptr | assumption) | ((with_reducible first | refine WkX.chk ?_ | refine Wk.chk ?_ | refine LeL.chk ?_ | refine LeF.chk ?_ | refine Run.mk ?_); (conv => whnf)) | ((with_reducible show LeO _ _); first | refine LeO.ro ?_ | refine LeO.roCap ?_ | refine LeO.nil ?_ (fun _ => rfl)) | ((with_reducible show LeR _ _ _); first | refine LeR.own rfl rfl rfl ?_ | refine LeR.view rfl rfl rfl ?_ ?_ | refine LeR.ro ?_ | refine LeR.roCap ?_ | refine LeR.nil ?_ (fun _ => rfl)) | ((with_reducible first | show drawOK _ _ = true | show lateOK _ _ = true | show drawOK2 _ _ = true | show drawOK3 _ _ = true); kernel_rfl))
  all_goals first
    | exact hok
    | exact hcol
    | omega
    | (dsimp only; omega)
    | exact ⟨hcol, by omega⟩
    | exact hE.symm
    | exact hT.symm
    | exact hL.symm
    | trace_state
theorem con_rNorm : Con prog 42 (fun ((s, l) : ByteArray × List Spn) => [txAV s l]) (fun (s, l) => .tup [txO (nrmT (chkN s.size l (sgN s : Nat)) s (looksL (sgN s) l)) (nrmL (chkN s.size l (sgN s : Nat)) (looksL (sgN s) l)), .v (.int .i64 (nrmE (chkN s.size l (sgN s : Nat)) (looksL (sgN s) l)))]) (fun _ => True) := by
  refine Con.of (by kernel_rfl) T_ok CdsOK.nil (.con con_rcheck7 (.con con_rall7 (.con con_rmade .nil))) 5 [] q_rNorm.1 q_rNorm.2.1 q_rNorm.2.2 (fun _ => rfl) fun i _ => ?_
  obtain ⟨s, l⟩ := i
  by_cases hc : chkN s.size l (sgN s : Nat) = 0
  case neg =>
    have k1 : (chkN s.size l (sgN s : Nat) != 0) = true := by simpa using hc
    have hE := nrmE_no (A := looksL (sgN s) l) hc
    have hT := nrmT_no (s := s) (A := looksL (sgN s) l) hc
    have hL := nrmL_no (A := looksL (sgN s) l) hc
    repeat' (first | (with_reducible refine ⟨(s, l), ⟨(.cons (.agg (.cons (.v _) (.cons (.lent _ _ _ _ _ _) .nil))) .nil), ?_⟩, ?_⟩) | (with_reducible first | exact fun h => h | refine ExE.row (by with_unfolding_all rfl) ?_ | refine And.intro ?_ ?_) | ((with_reducible intro hq); first | exact bne1 hq (by with_reducible assumption) | exact bne1 (by with_reducible assumption) hq | ((simp only [*, BB, cond_true, cond_false, reduceCtorEq] at hq); done) | (revert hq; with_reducible intro _)) | (with_reducible first | exact True.intro | rfl | refine EntLe.row ?_ | exact LeN.ro rfl | exact LeN.rptr | assumption) | ((with_reducible first | refine WkX.chk ?_ | refine Wk.chk ?_ | refine LeL.chk ?_ | refine LeF.chk ?_ | refine Run.mk ?_); (conv => whnf)) | ((with_reducible show LeO _ _); first | refine LeO.ro ?_ | refine LeO.roCap ?_ | refine LeO.nil ?_ (fun _ => rfl)) | ((with_reducible show LeR _ _ _); first | refine LeR.own rfl rfl rfl ?_ | refine LeR.view rfl rfl rfl ?_ ?_ | refine LeR.ro ?_ | refine LeR.roCap ?_ | refine LeR.nil ?_ (fun _ => rfl)) | ((with_reducible first | show drawOK _ _ = true | show lateOK _ _ = true | show drawOK2 _ _ = true | show drawOK3 _ _ = true); kernel_rfl))
    all_goals first
      | exact hE.symm
      | exact hT.symm
      | exact hL.symm
      | trace_state
  have k1 : (chkN s.size l (sgN s : Nat) != 0) = false := by rw [hc]; rfl
  have hok := OkT.of hc
  have hlen := looksL_len hok.spans
  have hcol := looksL_col hok.spans
  have hn := sgN_le s
  have hs := hok.size
  have hE := nrmE_yes (A := looksL (sgN s) l) hc
  have hT := nrmT_yes (s := s) (A := looksL (sgN s) l) hc
  have hL := nrmL_yes (A := looksL (sgN s) l) hc
  repeat' (first | (with_reducible refine ⟨(s, l), ⟨(.cons (.agg (.cons (.v _) (.cons (.lent _ _ _ _ _ _) .nil))) .nil), ?_⟩, ?_⟩) | (with_reducible refine ⟨(_, _), ⟨(.cons (.v _) (.cons (.lent _ _ _ _ _ _) .nil)), ?_⟩, ?_⟩) | (with_reducible first | exact fun h => h | refine ExE.row (by with_unfolding_all rfl) ?_ | refine And.intro ?_ ?_) | ((with_reducible intro hq); first | exact bne1 hq (by with_reducible assumption) | exact bne1 (by with_reducible assumption) hq | ((simp only [*, BB, cond_true, cond_false, reduceCtorEq] at hq); done) | (revert hq; with_reducible intro _)) | (with_reducible first | exact True.intro | rfl | refine EntLe.row ?_ | exact LeN.ro rfl | exact LeN.rptr | assumption) | ((with_reducible first | refine WkX.chk ?_ | refine Wk.chk ?_ | refine LeL.chk ?_ | refine LeF.chk ?_ | refine Run.mk ?_); (conv => whnf)) | ((with_reducible show LeO _ _); first | refine LeO.ro ?_ | refine LeO.roCap ?_ | refine LeO.nil ?_ (fun _ => rfl)) | ((with_reducible show LeR _ _ _); first | refine LeR.own rfl rfl rfl ?_ | refine LeR.view rfl rfl rfl ?_ ?_ | refine LeR.ro ?_ | refine LeR.roCap ?_ | refine LeR.nil ?_ (fun _ => rfl)) | ((with_reducible first | show drawOK _ _ = true | show lateOK _ _ = true | show drawOK2 _ _ = true | show drawOK3 _ _ = true); kernel_rfl))
  all_goals first
    | exact hok
    | exact hcol
    | omega
    | (dsimp only; omega)
    | exact ⟨hcol, by omega⟩
    | exact hE.symm
    | exact hT.symm
    | exact hL.symm
    | trace_state
end Go.SX.Try
/- Contract of the document's Splice. -/
namespace Go.SX.Try
open Go.Proofs Go.Proofs.Try Go.SX.Plain
set_option maxRecDepth 100000
set_option maxHeartbeats 0
set_option linter.unusedSimpArgs false
end Go.SX.Try
/- Contracts of the laws' SameSpans, SameText, head. -/
namespace Go.SX.Try
open Go.Proofs Go.Proofs.Try Go.SX.Plain
set_option maxRecDepth 100000
set_option maxHeartbeats 0
set_option linter.unusedSimpArgs false
theorem q_sameSpans : fact 64 f64 := ⟨by kernel_rfl, rfl, by kernel_rfl⟩
theorem q_sameText : fact 19 f19 := ⟨by kernel_rfl, rfl, by kernel_rfl⟩
theorem q_head7 : fact 20 f20 := ⟨by kernel_rfl, rfl, by kernel_rfl⟩
def spEqB (x y : Spn) : Bool := x.frm == y.frm && (x.to == y.to && (x.kind == y.kind && x.val == y.val))
theorem spEqB_eq (x y : Spn) : spEqB x y = decide (x = y) := by
  obtain ⟨a, b, c, d⟩ := x
  obtain ⟨a', b', c', d'⟩ := y
  rw [Bool.eq_iff_iff]
  simp only [spEqB, Bool.and_eq_true, beq_iff_eq, decide_eq_true_eq, Spn.mk.injEq]
theorem con_sameSpans : Con prog 64 (fun ((l, r) : List Spn × List Spn) => [spR l, spR r]) (fun (l, r) => .sb (decide (l = r))) (fun (l, _) => l.length ≤ 9000000000000000000) := by
  refine Con.of (by kernel_rfl) T_ok CdsOK.nil .nil 3 [] q_sameSpans.1 q_sameSpans.2.1 q_sameSpans.2.2 (fun _ => rfl) fun i hi => ?_
  obtain ⟨l, r⟩ := i
  have hl9 : l.length ≤ 9000000000000000000 := hi
  have hd : C_spn.d = zS := rfl
  by_cases hl : l.length = r.length
  case neg =>
    have k1 : ((l.length : Int) != (r.length : Int)) = true := by rw [bne_iff_ne]; omega
    have hne : decide (l = r) = false := decide_eq_false fun h => hl (by rw [h])
    repeat' (first | (with_reducible first | exact fun h => h | refine ExE.row (by with_unfolding_all rfl) ?_ | refine And.intro ?_ ?_) | ((with_reducible intro hq); first | exact bne1 hq (by with_reducible assumption) | exact bne1 (by with_reducible assumption) hq | ((simp only [*, BB, cond_true, cond_false, reduceCtorEq] at hq); done) | (revert hq; with_reducible intro _)) | (with_reducible first | exact True.intro | rfl | refine EntLe.row ?_ | exact LeN.ro rfl | exact LeN.rptr | assumption) | ((with_reducible first | refine WkX.chk ?_ | refine Wk.chk ?_ | refine LeL.chk ?_ | refine LeF.chk ?_ | refine Run.mk ?_); (conv => whnf)) | ((with_reducible show LeO _ _); first | refine LeO.ro ?_ | refine LeO.roCap ?_ | refine LeO.nil ?_ (fun _ => rfl)) | ((with_reducible show LeR _ _ _); first | refine LeR.own rfl rfl rfl ?_ | refine LeR.view rfl rfl rfl ?_ ?_ | refine LeR.ro ?_ | refine LeR.roCap ?_ | refine LeR.nil ?_ (fun _ => rfl)) | ((with_reducible first | show drawOK _ _ = true | show lateOK _ _ = true | show drawOK2 _ _ = true | show drawOK3 _ _ = true); kernel_rfl))
    all_goals first
      | exact hne.symm
      | trace_state
  have k1 : ((l.length : Int) != (r.length : Int)) = false := by rw [bne_eq_false_iff_eq]; omega
  repeat' (first | (with_reducible first | exact fun h => h | refine ExE.row (by with_unfolding_all rfl) ?_ | refine And.intro ?_ ?_) | ((with_reducible intro hq); first | exact bne1 hq (by with_reducible assumption) | exact bne1 (by with_reducible assumption) hq | ((simp only [*, BB, cond_true, cond_false, reduceCtorEq] at hq); done) | (revert hq; with_reducible intro _)) | (with_reducible first | exact True.intro | rfl | refine EntLe.row ?_ | exact LeN.ro rfl | exact LeN.rptr | assumption) | ((with_reducible first | refine WkX.chk ?_ | refine Wk.chk ?_ | refine LeL.chk ?_ | refine LeF.chk ?_ | refine Run.mk ?_); (conv => whnf)) | ((with_reducible show LeO _ _); first | refine LeO.ro ?_ | refine LeO.roCap ?_ | refine LeO.nil ?_ (fun _ => rfl)) | ((with_reducible show LeR _ _ _); first | refine LeR.own rfl rfl rfl ?_ | refine LeR.view rfl rfl rfl ?_ ?_ | refine LeR.ro ?_ | refine LeR.roCap ?_ | refine LeR.nil ?_ (fun _ => rfl)) | ((with_reducible first | show drawOK _ _ = true | show lateOK _ _ = true | show drawOK2 _ _ = true | show drawOK3 _ _ = true); kernel_rfl))
  refine loopI Nat [] (fun i => [(5, .v (.int .i64 (i : Nat)))]) (fun _ => []) (fun i => i ≤ l.length ∧ ∀ k, k < i → l.getD k zS = r.getD k zS) (fun i => l.length - i) 0 ⟨Nat.zero_le _, fun k h => absurd h (Nat.not_lt_zero _)⟩ (Wk.chk ?_) fun i hx => ?_
  · ((conv => whnf); repeat' (first | (with_reducible first | exact fun h => h | refine ExE.row (by with_unfolding_all rfl) ?_ | refine And.intro ?_ ?_) | ((with_reducible intro hq); first | exact bne1 hq (by with_reducible assumption) | exact bne1 (by with_reducible assumption) hq | ((simp only [*, BB, cond_true, cond_false, reduceCtorEq] at hq); done) | (revert hq; with_reducible intro _)) | (with_reducible first | exact True.intro | rfl | refine EntLe.row ?_ | exact LeN.ro rfl | exact LeN.rptr | assumption) | ((with_reducible first | refine WkX.chk ?_ | refine Wk.chk ?_ | refine LeL.chk ?_ | refine LeF.chk ?_ | refine Run.mk ?_); (conv => whnf)) | ((with_reducible show LeO _ _); first | refine LeO.ro ?_ | refine LeO.roCap ?_ | refine LeO.nil ?_ (fun _ => rfl)) | ((with_reducible show LeR _ _ _); first | refine LeR.own rfl rfl rfl ?_ | refine LeR.view rfl rfl rfl ?_ ?_ | refine LeR.ro ?_ | refine LeR.roCap ?_ | refine LeR.nil ?_ (fun _ => rfl)) | ((with_reducible first | show drawOK _ _ = true | show lateOK _ _ = true | show drawOK2 _ _ = true | show drawOK3 _ _ = true); kernel_rfl)))
    all_goals rfl
  obtain ⟨hi1, hi2⟩ := hx
  have e1 : ((i : Nat) : Int).toNat = i := Int.toNat_natCast _
  by_cases hil : i < l.length
  · have hlt : decide ((i : Int) < (l.length : Int)) = true := decide_eq_true (by omega)
    have hW : ((l.getD ((i : Nat) : Int).toNat C_spn.d).frm == (r.getD ((i : Nat) : Int).toNat C_spn.d).frm && ((l.getD ((i : Nat) : Int).toNat C_spn.d).to == (r.getD ((i : Nat) : Int).toNat C_spn.d).to && ((l.getD ((i : Nat) : Int).toNat C_spn.d).kind == (r.getD ((i : Nat) : Int).toNat C_spn.d).kind && (l.getD ((i : Nat) : Int).toNat C_spn.d).val == (r.getD ((i : Nat) : Int).toNat C_spn.d).val))) = decide (l.getD i zS = r.getD i zS) := by
      rw [e1, hd]
      exact spEqB_eq _ _
    by_cases he : l.getD i zS = r.getD i zS
    · rw [decide_eq_true he] at hW
      have k4 : (!((l.getD ((i : Nat) : Int).toNat C_spn.d).frm == (r.getD ((i : Nat) : Int).toNat C_spn.d).frm && ((l.getD ((i : Nat) : Int).toNat C_spn.d).to == (r.getD ((i : Nat) : Int).toNat C_spn.d).to && ((l.getD ((i : Nat) : Int).toNat C_spn.d).kind == (r.getD ((i : Nat) : Int).toNat C_spn.d).kind && (l.getD ((i : Nat) : Int).toNat C_spn.d).val == (r.getD ((i : Nat) : Int).toNat C_spn.d).val)))) = false := by rw [hW]; rfl
      have hi3 : ∀ k, k < i + 1 → l.getD k zS = r.getD k zS := fun k hk => by
        by_cases h : k = i
        · rw [h]; exact he
        · exact hi2 k (by omega)
      clear he hW
      repeat' (first | (with_reducible refine ex_of (α := Nat) (i + 1) ⟨⟨?_, hi3⟩, ?_⟩ ?_) | (with_reducible first | exact fun h => h | refine ExE.row (by with_unfolding_all rfl) ?_ | refine And.intro ?_ ?_) | ((with_reducible intro hq); first | exact bne1 hq (by with_reducible assumption) | exact bne1 (by with_reducible assumption) hq | ((simp only [*, BB, cond_true, cond_false, reduceCtorEq] at hq); done) | (revert hq; with_reducible intro _)) | (with_reducible first | exact True.intro | rfl | refine EntLe.row ?_ | exact LeN.ro rfl | exact LeN.rptr | assumption) | ((with_reducible first | refine WkX.chk ?_ | refine Wk.chk ?_ | refine LeL.chk ?_ | refine LeF.chk ?_ | refine Run.mk ?_); (conv => whnf)) | ((with_reducible show LeO _ _); first | refine LeO.ro ?_ | refine LeO.roCap ?_ | refine LeO.nil ?_ (fun _ => rfl)) | ((with_reducible show LeR _ _ _); first | refine LeR.own rfl rfl rfl ?_ | refine LeR.view rfl rfl rfl ?_ ?_ | refine LeR.ro ?_ | refine LeR.roCap ?_ | refine LeR.nil ?_ (fun _ => rfl)) | ((with_reducible first | show drawOK _ _ = true | show lateOK _ _ = true | show drawOK2 _ _ = true | show drawOK3 _ _ = true); kernel_rfl))
      all_goals first
        | omega
        | (apply Fits.i64 <;> omega)
        | (dsimp only; omega)
        | trace_state
    · rw [decide_eq_false he] at hW
      have k4 : (!((l.getD ((i : Nat) : Int).toNat C_spn.d).frm == (r.getD ((i : Nat) : Int).toNat C_spn.d).frm && ((l.getD ((i : Nat) : Int).toNat C_spn.d).to == (r.getD ((i : Nat) : Int).toNat C_spn.d).to && ((l.getD ((i : Nat) : Int).toNat C_spn.d).kind == (r.getD ((i : Nat) : Int).toNat C_spn.d).kind && (l.getD ((i : Nat) : Int).toNat C_spn.d).val == (r.getD ((i : Nat) : Int).toNat C_spn.d).val)))) = true := by rw [hW]; rfl
      have hne : decide (l = r) = false := decide_eq_false fun h => he (by rw [h])
      clear he hW
      repeat' (first | (with_reducible first | exact fun h => h | refine ExE.row (by with_unfolding_all rfl) ?_ | refine And.intro ?_ ?_) | ((with_reducible intro hq); first | exact bne1 hq (by with_reducible assumption) | exact bne1 (by with_reducible assumption) hq | ((simp only [*, BB, cond_true, cond_false, reduceCtorEq] at hq); done) | (revert hq; with_reducible intro _)) | (with_reducible first | exact True.intro | rfl | refine EntLe.row ?_ | exact LeN.ro rfl | exact LeN.rptr | assumption) | ((with_reducible first | refine WkX.chk ?_ | refine Wk.chk ?_ | refine LeL.chk ?_ | refine LeF.chk ?_ | refine Run.mk ?_); (conv => whnf)) | ((with_reducible show LeO _ _); first | refine LeO.ro ?_ | refine LeO.roCap ?_ | refine LeO.nil ?_ (fun _ => rfl)) | ((with_reducible show LeR _ _ _); first | refine LeR.own rfl rfl rfl ?_ | refine LeR.view rfl rfl rfl ?_ ?_ | refine LeR.ro ?_ | refine LeR.roCap ?_ | refine LeR.nil ?_ (fun _ => rfl)) | ((with_reducible first | show drawOK _ _ = true | show lateOK _ _ = true | show drawOK2 _ _ = true | show drawOK3 _ _ = true); kernel_rfl))
      all_goals first
        | omega
        | exact hne.symm
        | trace_state
  have hlt : decide ((i : Int) < (l.length : Int)) = false := decide_eq_false (by omega)
  have heq : decide (l = r) = true := decide_eq_true (getD_ext (d := zS) hl fun k hk => hi2 k (by omega))
  repeat' (first | (with_reducible first | exact fun h => h | refine ExE.row (by with_unfolding_all rfl) ?_ | refine And.intro ?_ ?_) | ((with_reducible intro hq); first | exact bne1 hq (by with_reducible assumption) | exact bne1 (by with_reducible assumption) hq | ((simp only [*, BB, cond_true, cond_false, reduceCtorEq] at hq); done) | (revert hq; with_reducible intro _)) | (with_reducible first | exact True.intro | rfl | refine EntLe.row ?_ | exact LeN.ro rfl | exact LeN.rptr | assumption) | ((with_reducible first | refine WkX.chk ?_ | refine Wk.chk ?_ | refine LeL.chk ?_ | refine LeF.chk ?_ | refine Run.mk ?_); (conv => whnf)) | ((with_reducible show LeO _ _); first | refine LeO.ro ?_ | refine LeO.roCap ?_ | refine LeO.nil ?_ (fun _ => rfl)) | ((with_reducible show LeR _ _ _); first | refine LeR.own rfl rfl rfl ?_ | refine LeR.view rfl rfl rfl ?_ ?_ | refine LeR.ro ?_ | refine LeR.roCap ?_ | refine LeR.nil ?_ (fun _ => rfl)) | ((with_reducible first | show drawOK _ _ = true | show lateOK _ _ = true | show drawOK2 _ _ = true | show drawOK3 _ _ = true); kernel_rfl))
  all_goals first
    | exact heq.symm
    | trace_state
theorem con_sameText : Con prog 19 (fun ((a, l, b, r) : ByteArray × List Spn × ByteArray × List Spn) => [txAV a l, txAV b r]) (fun (a, l, b, r) => .sb (decide (a = b) && decide (l = r))) (fun (_, l, _, _) => l.length ≤ 9000000000000000000) := by
  refine Con.of (by kernel_rfl) T_ok CdsOK.nil (.con con_sameSpans .nil) 3 [] q_sameText.1 q_sameText.2.1 q_sameText.2.2 (fun _ => rfl) fun i hi => ?_
  obtain ⟨a, l, b, r⟩ := i
  have hl9 : l.length ≤ 9000000000000000000 := hi
  repeat' (first | (with_reducible refine ⟨(l, r), ⟨(.cons (.lent _ _ _ _ _ _) (.cons (.lent _ _ _ _ _ _) .nil)), ?_⟩, ?_⟩) | (with_reducible first | exact fun h => h | refine ExE.row (by with_unfolding_all rfl) ?_ | refine And.intro ?_ ?_) | ((with_reducible intro hq); first | exact bne1 hq (by with_reducible assumption) | exact bne1 (by with_reducible assumption) hq | ((simp only [*, BB, cond_true, cond_false, reduceCtorEq] at hq); done) | (revert hq; with_reducible intro _)) | (with_reducible first | exact True.intro | rfl | refine EntLe.row ?_ | exact LeN.ro rfl | exact LeN.rptr | assumption) | ((with_reducible first | refine WkX.chk ?_ | refine Wk.chk ?_ | refine LeL.chk ?_ | refine LeF.chk ?_ | refine Run.mk ?_); (conv => whnf)) | ((with_reducible show LeO _ _); first | refine LeO.ro ?_ | refine LeO.roCap ?_ | refine LeO.nil ?_ (fun _ => rfl)) | ((with_reducible show LeR _ _ _); first | refine LeR.own rfl rfl rfl ?_ | refine LeR.view rfl rfl rfl ?_ ?_ | refine LeR.ro ?_ | refine LeR.roCap ?_ | refine LeR.nil ?_ (fun _ => rfl)) | ((with_reducible first | show drawOK _ _ = true | show lateOK _ _ = true | show drawOK2 _ _ = true | show drawOK3 _ _ = true); kernel_rfl))
  all_goals first
    | exact hl9
    | rfl
    | (simp only [*, Bool.false_and]; done)
    | (cases hc : decide (a = b) <;> simp_all; done)
    | trace_state
abbrev abcd : ByteArray := { data := #[97, 98, 99, 100] }
abbrev oneX : ByteArray := { data := #[120] }
abbrev hdL : List Spn := [⟨0, 4, 1, 0⟩, ⟨1, 3, 2, 0⟩]
theorem head_1 : chkN abcd.size hdL (sgN abcd : Nat) = 0 := by kernel_rfl
theorem head_2 : runsA abcd hdL = [⟨0, 1, ⟨true, false, false, false, 0⟩⟩, ⟨1, 3, ⟨true, true, false, false, 0⟩⟩, ⟨3, 4, ⟨true, false, false, false, 0⟩⟩] := by kernel_rfl
theorem head_3 : splE abcd hdL 1 1 oneX [] = 0 := by kernel_rfl
theorem head_4 : splT abcd hdL 1 1 oneX [] = { data := #[97, 120, 98, 99, 100] } := by kernel_rfl
theorem head_5 : splL abcd hdL 1 1 oneX [] = [⟨0, 5, 1, 0⟩, ⟨2, 4, 2, 0⟩] := by kernel_rfl
theorem con_head7 : Con prog 20 (fun _ : Unit => []) (fun _ => .v (.bool true)) (fun _ => True) := by
  refine Con.of (by kernel_rfl) T_ok D_spn_ok (.con con_sRuns (.con con_ssplice .nil)) 3 [] q_head7.1 q_head7.2.1 q_head7.2.2 (fun _ => rfl) fun _ _ => ?_
  have h1 := head_1
  have h2 := head_2
  have h3 := head_3
  have h4 := head_4
  have h5 := head_5
  have k1 : (chkN abcd.size hdL (sgN abcd : Nat) == 0) = true := by rw [h1]; rfl
  have k2 : (splE abcd hdL 1 1 oneX [] == 0) = true := by rw [h3]; rfl
  repeat' (first | (with_reducible refine ⟨(abcd, hdL), ⟨(.cons (.agg (.cons (.v _) (.cons (.lent _ _ _ _ _ _) .nil))) .nil), ?_⟩, ?_⟩) | (refine ⟨(abcd, hdL, 1, 1, oneX, []), ⟨.cons (.agg (.cons (.v _) (.cons (.lent _ _ _ _ _ _) .nil))) (.cons (.v _) (.cons (.v _) (.cons (.agg (.cons (.v _) (.cons (.nil _ _ _ (fun _ => rfl)) .nil))) .nil))), ?_⟩, ?_⟩) | (with_reducible first | exact fun h => h | refine ExE.row (by with_unfolding_all rfl) ?_ | refine And.intro ?_ ?_) | ((with_reducible intro hq); first | exact bne1 hq (by with_reducible assumption) | exact bne1 (by with_reducible assumption) hq | ((simp only [*, BB, cond_true, cond_false, reduceCtorEq] at hq); done) | (revert hq; with_reducible intro _)) | (with_reducible first | exact True.intro | rfl | refine EntLe.row ?_ | exact LeN.ro rfl | exact LeN.rptr | assumption) | ((with_reducible first | refine WkX.chk ?_ | refine Wk.chk ?_ | refine LeL.chk ?_ | refine LeF.chk ?_ | refine Run.mk ?_); (conv => whnf)) | ((with_reducible show LeO _ _); first | refine LeO.ro ?_ | refine LeO.roCap ?_ | refine LeO.nil ?_ (fun _ => rfl)) | ((with_reducible show LeR _ _ _); first | refine LeR.own rfl rfl rfl ?_ | refine LeR.view rfl rfl rfl ?_ ?_ | refine LeR.ro ?_ | refine LeR.roCap ?_ | refine LeR.nil ?_ (fun _ => rfl)) | ((with_reducible first | show drawOK _ _ = true | show lateOK _ _ = true | show drawOK2 _ _ = true | show drawOK3 _ _ = true); kernel_rfl))
  all_goals first
    | rfl
    | omega
    | (rw [h2]; decide)
    | (rw [h5]; decide)
    | trace_state
end Go.SX.Try
/- A row that is written over from the front. No program here. -/
namespace Go.SX.Plain
section
variable {α : Type} {d : α}
def bkTo (x : α) (R : List α) (i : Nat) : List α := List.replicate i x ++ R.drop i
theorem bk_zero (x : α) (R : List α) : bkTo x R 0 = R := by simp [bkTo]
theorem bk_len (x : α) {R : List α} {i : Nat} (h : i ≤ R.length) : (bkTo x R i).length = R.length := by
  unfold bkTo
  rw [List.length_append, List.length_replicate, List.length_drop]
  omega
theorem bk_step (x : α) {R : List α} {i : Nat} (h : i < R.length) : (bkTo x R i).set i x = bkTo x R (i + 1) := by
  unfold bkTo
  rw [List.drop_eq_getElem_cons h, set_mid _ _ _ _ (by simp), List.replicate_succ', List.append_assoc]
  rfl
theorem snoc_take (l : List α) (x : α) : (l ++ [x]).take l.length = l := by simp
theorem snoc_at (l : List α) (x : α) : (l ++ [x]).getD l.length d = x := by simp [List.getD_eq_getElem?_getD]
end
end Go.SX.Plain
/- Texts lent to the laws' calls, and back. -/
namespace Go.SX.Try
open Go.Proofs Go.Proofs.Try Go.SX.Plain
set_option maxRecDepth 100000
set_option maxHeartbeats 0
set_option linter.unusedSimpArgs false
theorem q_lend : fact 15 f15 := ⟨by kernel_rfl, rfl, by kernel_rfl⟩
theorem q_back : fact 18 f18 := ⟨by kernel_rfl, rfl, by kernel_rfl⟩
abbrev C_spnP : Cdc Spn := { size := C_spn.size, enc := C_spn.enc, dec := C_spn.dec, d := C_spn.d, pl := true }
def D_spnP : Cds := [(71, ⟨Spn, C_spnP⟩)]
theorem D_spnP_ok : CdsOK T D_spnP := .cons ⟨fun _ => rfl, by decide, _, rfl, rfl, by decide⟩ .nil
def mrk : Spn := ⟨-77, 0, 0, 0⟩
def ovr : Spn := ⟨7, 9, 1, 0⟩
theorem le_view {m : Mem} {α : Type} {C : Cdc α} {s n lo u t : Nat} {en : α → List AV} {l l' : List α} {cap : Option Nat} {d : α} (he : getE m n = some (.row C l t cap)) (hC : C.size = s) (hen : C.enc = en) (hlu : lo + u ≤ l.length) (hl : (l.drop lo).take u = l') :
    LeA m (.view n s lo u) (.ro s en d l' none true) := hl ▸ LeA.view he hC hen hlu
end Go.SX.Try
/- A verified symbolic executor for Go code in the model: what a call's arguments read as. -/
namespace Go.SX
open Go.ChangeShapes Go.WideShapes Go.Deep Go.RowKit
section
variable {H : Type} {encH : TypeId × Value → H} {P : Program} {w : World} {E : Env}
structure Reads (encH : TypeId × Value → H) (P : Program) (w : World) (E : Env) (e : TypeId) {α : Type} (en : α → List AV) : Prop where
  out : ∀ n cs y, DataW.trod encH P w 0 (fun _ => true) true n e cs = some y → ∃ x : α, RelL w E (en x) cs
theorem Reads.int {e : TypeId} (he : P.underlying e = some (.int .i64)) : Reads encH P w E e (fun a : Int => [.v (.int .i64 a)]) := ⟨fun n cs y h => by
  obtain ⟨a, rfl, _⟩ := DataW.trod_int he h
  exact ⟨a, RelL.cons (.v _) (RelL.nil _ _)⟩⟩
theorem Reads.string {e : TypeId} (he : P.underlying e = some .string) : Reads encH P w E e (fun a : ByteArray => [.v (.string a)]) := ⟨fun n cs y h => by
  obtain ⟨a, rfl, _⟩ := DataW.trod_string he h
  exact ⟨a, RelL.cons (.v _) (RelL.nil _ _)⟩⟩
theorem Reads.bool {e : TypeId} (he : P.underlying e = some .bool) : Reads encH P w E e (fun a : Bool => [.sb a]) := ⟨fun n cs y h => by
  obtain ⟨a, rfl, _⟩ := DataW.trod_bool he h
  exact ⟨a, RelL.cons (.sb _) (RelL.nil _ _)⟩⟩
theorem Reads.map {e : TypeId} {α β : Type} {en : α → List AV} {en' : β → List AV} (h : Reads encH P w E e en) (f : α → β) (hf : ∀ x, en' (f x) = en x) : Reads encH P w E e en' := ⟨fun n cs y ht => by
  obtain ⟨x, hx⟩ := h.out n cs y ht
  exact ⟨f x, by rw [hf]; exact hx⟩⟩
inductive FReads (encH : TypeId × Value → H) (P : Program) (w : World) (E : Env) : List Field → Nat → Nat → {α : Type} → (α → List AV) → Prop
  | nil {o : Nat} : FReads encH P w E [] o o (fun _ : Unit => [])
  | cons {f : Field} {fs : List Field} {o k t : Nat} {α β : Type} {en : α → List AV} {en' : β → List AV} (ho : f.offset = o) (hc : P.cellsOf f.type = k) (h : Reads encH P w E f.type en) (hk : ∀ x, (en x).length = k) (hr : FReads encH P w E fs (o + k) t en') :
      FReads encH P w E (f :: fs) o t (fun x : α × β => en x.1 ++ en' x.2)
theorem FReads.out {fs : List Field} {o t : Nat} {α : Type} {en : α → List AV} (h : FReads encH P w E fs o t en) : o ≤ t ∧ ∀ (cs : List Value), cs.length = t →
    (∀ f ∈ fs, ∃ y n, DataW.trod encH P w 0 (fun _ => true) true n f.type ((cs.drop f.offset).take (P.cellsOf f.type)) = some y) → ∃ x : α, RelL w E (en x) (cs.drop o) := by
  induction h with
  | nil =>
    refine ⟨Nat.le_refl _, fun cs hl _ => ⟨(), ?_⟩⟩
    rw [List.drop_eq_nil_of_le (by omega)]
    exact RelL.nil _ _
  | @cons f fs o k t α β en en' ho hc h hk hr ih =>
    refine ⟨by omega, fun cs hl hf => ?_⟩
    obtain ⟨y, n, hy⟩ := hf f List.mem_cons_self
    obtain ⟨x, hx⟩ := h.out _ _ _ hy
    obtain ⟨z, hz⟩ := ih.2 cs hl fun g hg => hf g (List.mem_cons_of_mem _ hg)
    refine ⟨(x, z), ?_⟩
    rw [ho, hc] at hx
    have := hx.append hz
    rwa [show cs.drop (o + k) = (cs.drop o).drop k by rw [List.drop_drop], List.take_append_drop] at this
theorem Reads.struct {e : TypeId} {fs : Array Field} (he : P.underlying e = some (.struct fs)) {t : Nat} (hC : P.cellsOf e = t) {α : Type} {en : α → List AV} (h : FReads encH P w E fs.toList 0 t en) : Reads encH P w E e en := ⟨fun n cs y ht => by
  obtain ⟨xs, m, _, _, hl, hxl, hf⟩ := DataW.trod_struct he ht
  have := h.out.2 cs (by omega) fun f hmem => by
    obtain ⟨i, hi, hfi⟩ := List.getElem_of_mem hmem
    have hi2 : i < fs.size := by simpa using hi
    have h1 := hf i f (by rw [Array.getElem?_eq_getElem hi2]; simpa using hfi)
    rw [List.getElem?_eq_getElem (by omega)] at h1
    exact ⟨_, m, h1⟩
  simpa using this⟩
theorem Reads.slice {t e : TypeId} (ht : P.underlying t = some (.slice e)) {α : Type} {en : α → List AV} {k : Nat} (d : α) (hk : P.cellsOf e = k) (hk0 : 0 < k) (hs : ∀ x, (en x).length = k) (hl : ∀ b, b < w.heap.size → E.lnt b)
    (h : Reads encH P w (E.bz true) e en) : Reads encH P w E t (fun l : List α => [.ro k en d l none true]) := ⟨fun n cs y hy => by
  rcases open_slice ht hy with ⟨rfl, _⟩ | ⟨a, len, cap, m, n', D, Pl, rfl, _, hlc, _, hm, _, hi⟩
  · exact ⟨[], RelL.cons (.roNil k en d none none 0 hs (by simp)) (RelL.nil _ _)⟩
  have hlm : len ≤ m := by rw [hm]; simp; omega
  have hel : ∀ i, i < len → ∃ (x : α) (cs' : List Value), w.cells? 0 (a.add (i * k)) k = some cs' ∧ RelL w (E.bz true) (en x) cs' := fun i hil => by
    obtain ⟨cs', h1, h2⟩ := hi i (by omega)
    obtain ⟨x, hx⟩ := h.out _ _ _ h2
    rw [hk] at h1
    exact ⟨x, cs', h1, hx⟩
  by_cases h0 : len = 0
  · subst h0
    exact ⟨[], RelL.cons (.roNil k en d none (some a) cap hs (by simp)) (RelL.nil _ _)⟩
  obtain ⟨b, o, spot⟩ := a
  have hc0 : ∀ i j, i < len → j < k → ∃ v, w.cell? ((⟨b, o, spot⟩ : Addr).add (i * k + j)) = some v := fun i j h1 h2 => by
    obtain ⟨x, cs', h3, h4⟩ := hel i h1
    obtain ⟨_, h5, h6⟩ := World.cells?_some h3
    have h7 := h6 j h2
    rw [List.getElem?_eq_getElem (by omega), Go.Deep.add_add] at h7
    exact ⟨_, h7⟩
  have hspot : spot = none := by
    obtain ⟨v, hv⟩ := hc0 0 0 (by omega) hk0
    simpa [Addr.add] using World.cell?_spot hv
  subst hspot
  have hb : b < w.heap.size := by
    obtain ⟨v, hv⟩ := hc0 0 0 (by omega) hk0
    refine Nat.lt_of_not_le fun hle => ?_
    unfold World.cell? at hv
    rw [show ((⟨b, o, none⟩ : Addr).add (0 * k + 0)).block = b by simp [Addr.add], Array.getElem?_eq_none hle] at hv
    cases hv
  let X : Nat → α := fun i => if hi : i < len then Classical.choose (hel i hi) else d
  let Cs : Nat → List Value := fun i => if hi : i < len then Classical.choose (Classical.choose_spec (hel i hi)) else []
  have hX : ∀ i, i < len → w.cells? 0 ((⟨b, o, none⟩ : Addr).add (i * k)) k = some (Cs i) ∧ RelL w (E.bz true) (en (X i)) (Cs i) := fun i hi => by
    have := Classical.choose_spec (Classical.choose_spec (hel i hi))
    simpa only [X, Cs, dif_pos hi] using this
  refine ⟨(List.range len).map X, RelL.cons ?_ (RelL.nil _ _)⟩
  have hll : ((List.range len).map X).length = len := by simp
  have key : Rel w E (.ro k en d ((List.range len).map X) none true) (.slice (some ⟨b, o, none⟩) ((List.range len).map X).length cap) :=
    .ro (fun i j => (Cs i).getD j undef) hs (by simp) (by rw [hll]; exact hlc) (.inr (hl b hb)) (fun i j h1 h2 => by
      rw [hll] at h1
      obtain ⟨h3, _⟩ := hX i h1
      obtain ⟨_, h5, h6⟩ := World.cells?_some h3
      have h7 := h6 j h2
      rw [Go.Deep.add_add, add_plain] at h7
      rw [h7, List.getElem?_eq_getElem (by omega)]
      simp [List.getD_eq_getElem?_getD, show j < (Cs i).length by omega]) fun i h1 j h2 => by
      have h1' : i < len := by rw [hll] at h1; exact h1
      obtain ⟨_, h4⟩ := hX i h1'
      have he : ((List.range len).map X)[i] = X i := by simp
      have h2' : j < (en (X i)).length := by rw [← he]; exact h2
      have h8 : j < (Cs i).length := by have := h4.1; omega
      have h9 := h4.2 j h2' h8
      have he2 : (en ((List.range len).map X)[i])[j] = (en (X i))[j] := by simp only [he]
      rw [he2, show (Cs i).getD j undef = (Cs i)[j] by simp [List.getD_eq_getElem?_getD, h8]]
      exact h9
  rwa [hll] at key⟩
theorem Reads.arg {t e : TypeId} (ht : P.underlying t = some (.slice e)) {α : Type} {en : α → List AV} {k : Nat} {d : α} (h : Reads encH P w E t (fun l : List α => [.ro k en d l none true])) {a : Option Addr} {len cap : Nat} {y : DataW H} {p : List MemPlace}
    (hT : DataW.Trod encH P w 0 (fun _ => true) true t (.slice a len cap) y p) : ∃ l : List α, Rel w E (.ro k en d l none true) (.slice a len cap) := by
  obtain ⟨fuel, hf⟩ := hT
  obtain ⟨l, hl⟩ := h.out _ _ _ hf
  exact ⟨l, hl.2 0 (by simp) (by simp [Value.cells])⟩
end
end Go.SX
/- What the arguments of chapter 7's laws read as. -/
namespace Go.SX.Try
open Go.Proofs Go.Proofs.Try Go.SX.Plain Go.ChangeShapes Go.WideShapes Go.Deep
set_option maxRecDepth 100000
section
variable {H : Type} {encH : TypeId × Value → H} {w : World} {E : Env}
theorem cells_int7 : prog.cellsOf 3 = 1 := by kernel_rfl
theorem cells_str7 : prog.cellsOf 9 = 1 := by kernel_rfl
theorem cells_spn : prog.cellsOf 71 = 4 := by kernel_rfl
theorem cells_spns : prog.cellsOf 22 = 1 := by kernel_rfl
theorem cells_text : prog.cellsOf 24 = 2 := by kernel_rfl
theorem bytes_spn : prog.bytesOf 71 = 32 := by kernel_rfl
theorem reads_int7 : Reads encH prog w E 3 (fun a : Int => [.v (.int .i64 a)]) := Reads.int Try.underlying3
theorem reads_spn : Reads encH prog w E 71 C_spn.enc :=
  Reads.map (Reads.struct Try.underlying71 cells_spn (.cons rfl cells_int7 reads_int7 (fun _ => rfl) (.cons rfl cells_int7 reads_int7 (fun _ => rfl) (.cons rfl cells_int7 reads_int7 (fun _ => rfl) (.cons rfl cells_int7 reads_int7 (fun _ => rfl) .nil)))))
    (fun x : Int × Int × Int × Int × Unit => (⟨x.1, x.2.1, x.2.2.1, x.2.2.2.1⟩ : Spn)) (fun _ => rfl)
theorem reads_spns (hl : ∀ b, b < w.heap.size → E.lnt b) : Reads encH prog w E 22 (fun l : List Spn => [spR l]) :=
  Reads.slice Try.underlying22 C_spn.d cells_spn (by decide) (fun _ => rfl) hl reads_spn
theorem reads_text (hl : ∀ b, b < w.heap.size → E.lnt b) : Reads encH prog w E 24 (fun x : ByteArray × List Spn × Unit => [.v (.string x.1)] ++ ([spR x.2.1] ++ [])) :=
  Reads.struct Try.underlying24 cells_text (FReads.cons (en := fun a : ByteArray => [AV.v (.string a)]) (en' := fun x : List Spn × Unit => [spR x.1] ++ []) rfl cells_str7 (Reads.string Try.underlying9) (fun _ => rfl)
    (FReads.cons (en := fun l : List Spn => [spR l]) (en' := fun _ : Unit => []) rfl cells_spns (reads_spns hl) (fun _ => rfl) .nil))
theorem text_arg (hl : ∀ b, b < w.heap.size → E.lnt b) {cs : Array Value} {y : DataW H} {p : List MemPlace} (hT : DataW.Trod encH prog w 0 (fun _ => true) true 24 (.agg cs) y p) (hw : (y.weights prog 24).all (· ≤ reachBytes) = true) :
    ∃ (s : ByteArray) (l : List Spn), Rel w E (txAV s l) (.agg cs) ∧ l.length * 32 ≤ 140737488351232 := by
  obtain ⟨fuel, hf⟩ := hT
  have hf : DataW.trod encH prog w 0 (fun _ => true) true fuel 24 cs.toList = some (y, p) := hf
  obtain ⟨⟨s, l, _⟩, hr⟩ := (reads_text (E := E) hl).out _ _ _ hf
  refine ⟨s, l, .agg (by simpa using hr.1) fun i h1 h2 => hr.2 i h1 (by simpa using h2), ?_⟩
  obtain ⟨xs, m, _, hxe, hcl, hxl, hfl⟩ := DataW.trod_struct Try.underlying24 hf
  rw [cells_text] at hcl
  have hc1 : 1 < cs.size := by simpa using (show 1 < cs.toList.length by omega)
  have hv := hr.2 1 (by simp) (by rw [hcl]; decide)
  have hv : Rel w E (spR l) cs[1] := by simpa using hv
  have h1 := hfl 1 _ rfl
  have hd : (cs.toList.drop 1).take 1 = [cs[1]] := by
    rw [List.drop_eq_getElem_cons (by rw [hcl]; decide)]
    simp
  have h1 : DataW.trod encH prog w 0 (fun _ => true) true m 22 [cs[1]] = xs[1]? := by
    rw [← hd]
    exact h1
  have hx1 : 1 < xs.length := by rw [hxl]; decide
  rw [List.getElem?_eq_getElem hx1] at h1
  rcases open_slice Try.underlying22 h1 with ⟨hc, _⟩ | ⟨a, len, cap, m', n', D, Pl, hc, _, hlc, _, hm, hx, _⟩
  · have hc : cs[1] = .slice none 0 0 := by simpa using hc
    rw [hc] at hv
    cases hv
    simp
  · have hc : cs[1] = .slice (some a) len cap := by simpa using hc
    rw [hc] at hv
    have hlen : l.length ≤ len := by
      cases hv with
      | roNil => simp
      | ro => exact Nat.le_refl _
    have hy : y = .agg (xs.map (·.1)) := congrArg Prod.fst hxe
    have hmem : ((((List.range len).map D).length + ((List.range (m' - len)).map fun j => D (len + j)).length) * prog.bytesOf 71) ∈ y.weights prog 24 := by
      rw [hy]
      simp only [DataW.weights, Try.underlying24]
      refine DataW.weights_mem_each (j := 1) (t := 22) (d := xs[1].1) rfl (by simp [hx1]) _ ?_
      rw [hx]
      simp [DataW.weights, Try.underlying22]
    have := List.all_eq_true.1 hw _ hmem
    rw [bytes_spn] at this
    simp [reachBytes] at this
    omega
end
end Go.SX.Try
/- What spans and runs, as arguments of chapter 7's laws, read as. -/
namespace Go.SX.Try
open Go.Proofs Go.Proofs.Try Go.SX.Plain Go.ChangeShapes Go.WideShapes Go.Deep
set_option maxRecDepth 100000
section
variable {H : Type} {encH : TypeId × Value → H} {w : World} {E : Env}
theorem span_arg {cs : Array Value} {y : DataW H} {p : List MemPlace} (hT : DataW.Trod encH prog w 0 (fun _ => true) true 71 (.agg cs) y p) : ∃ x : Spn, Rel w E (.agg (spAV x)) (.agg cs) := by
  obtain ⟨fuel, hf⟩ := hT
  have hf : DataW.trod encH prog w 0 (fun _ => true) true fuel 71 cs.toList = some (y, p) := hf
  obtain ⟨x, hr⟩ := (reads_spn (w := w) (E := E)).out _ _ _ hf
  have hl : (spAV x).length = cs.toList.length := hr.1
  exact ⟨x, .agg (by rw [hl]; simp) fun i h1 h2 => hr.2 i h1 (by simpa using h2)⟩
end
end Go.SX.Try
