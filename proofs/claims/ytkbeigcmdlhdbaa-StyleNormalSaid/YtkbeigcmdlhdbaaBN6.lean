/- A verified symbolic executor for Go code in the model, contracts and plain laws that the proofs lean on, BN6. -/
import Derived.Test.YtkbeigcmdlhdbaaBN5
set_option linter.unusedVariables false
set_option linter.unusedSimpArgs false
/- Contracts of the laws' looks, same. -/
namespace Go.SX.Try
open Go.Proofs Go.Proofs.Try Go.SX.Plain
set_option maxRecDepth 100000
set_option maxHeartbeats 0
set_option linter.unusedSimpArgs false
theorem q_llooks : fact 51 f51 := ⟨by kernel_rfl, rfl, by kernel_rfl⟩
theorem q_same7 : fact 50 f50 := ⟨by kernel_rfl, rfl, by kernel_rfl⟩
theorem atEqB_self (x : Atr) : atEqB x x = true := by simp [atEqB]
theorem con_same7 : Con prog 50 (fun ((l, r) : List Atr × List Atr) => [lkR l, lkR r]) (fun _ => .sb true) (fun (l, r) => l = r ∧ l.length ≤ 1100000) := by
  refine Con.of (by kernel_rfl) T_ok CdsOK.nil .nil 3 [] q_same7.1 q_same7.2.1 q_same7.2.2 (fun _ => rfl) fun i hi => ?_
  obtain ⟨l, r⟩ := i
  obtain ⟨hlr, hl9⟩ : l = r ∧ l.length ≤ 1100000 := hi
  subst hlr
  have k1 : ((l.length : Int) != (l.length : Int)) = false := by simp
  repeat' (first | (with_reducible first | exact fun h => h | refine ExE.row (by with_unfolding_all rfl) ?_ | refine And.intro ?_ ?_) | ((with_reducible intro hq); first | exact bne1 hq (by with_reducible assumption) | exact bne1 (by with_reducible assumption) hq | ((simp only [*, BB, cond_true, cond_false, reduceCtorEq] at hq); done) | (revert hq; with_reducible intro _)) | (with_reducible first | exact True.intro | rfl | refine EntLe.row ?_ | exact LeN.ro rfl | exact LeN.rptr | assumption) | ((with_reducible first | refine WkX.chk ?_ | refine Wk.chk ?_ | refine LeL.chk ?_ | refine LeF.chk ?_ | refine Run.mk ?_); (conv => whnf)) | ((with_reducible show LeO _ _); first | refine LeO.ro ?_ | refine LeO.roCap ?_ | refine LeO.nil ?_ (fun _ => rfl)) | ((with_reducible show LeR _ _ _); first | refine LeR.own rfl rfl rfl ?_ | refine LeR.view rfl rfl rfl ?_ ?_ | refine LeR.ro ?_ | refine LeR.roCap ?_ | refine LeR.nil ?_ (fun _ => rfl)) | ((with_reducible first | show drawOK _ _ = true | show lateOK _ _ = true | show drawOK2 _ _ = true | show drawOK3 _ _ = true); kernel_rfl))
  refine loopI Nat [] (fun i => [(5, .v (.int .i64 (i : Nat)))]) (fun _ => []) (fun i => i ≤ l.length) (fun i => l.length - i) 0 (Nat.zero_le _) (Wk.chk ?_) fun i hi => ?_
  · ((conv => whnf); repeat' (first | (with_reducible first | exact fun h => h | refine ExE.row (by with_unfolding_all rfl) ?_ | refine And.intro ?_ ?_) | ((with_reducible intro hq); first | exact bne1 hq (by with_reducible assumption) | exact bne1 (by with_reducible assumption) hq | ((simp only [*, BB, cond_true, cond_false, reduceCtorEq] at hq); done) | (revert hq; with_reducible intro _)) | (with_reducible first | exact True.intro | rfl | refine EntLe.row ?_ | exact LeN.ro rfl | exact LeN.rptr | assumption) | ((with_reducible first | refine WkX.chk ?_ | refine Wk.chk ?_ | refine LeL.chk ?_ | refine LeF.chk ?_ | refine Run.mk ?_); (conv => whnf)) | ((with_reducible show LeO _ _); first | refine LeO.ro ?_ | refine LeO.roCap ?_ | refine LeO.nil ?_ (fun _ => rfl)) | ((with_reducible show LeR _ _ _); first | refine LeR.own rfl rfl rfl ?_ | refine LeR.view rfl rfl rfl ?_ ?_ | refine LeR.ro ?_ | refine LeR.roCap ?_ | refine LeR.nil ?_ (fun _ => rfl)) | ((with_reducible first | show drawOK _ _ = true | show lateOK _ _ = true | show drawOK2 _ _ = true | show drawOK3 _ _ = true); kernel_rfl)))
    all_goals rfl
  have hi : i ≤ l.length := hi
  by_cases hil : i < l.length
  · have hlt : decide ((i : Int) < (l.length : Int)) = true := decide_eq_true (by omega)
    have hW : (!(atEqB (l.getD ((i : Nat) : Int).toNat C_att.d) (l.getD ((i : Nat) : Int).toNat C_att.d))) = false := by rw [atEqB_self]; rfl
    unfold atEqB at hW
    repeat' (first | (with_reducible refine ex_of (α := Nat) (i + 1) ⟨?_, ?_⟩ ?_) | (with_reducible first | exact fun h => h | refine ExE.row (by with_unfolding_all rfl) ?_ | refine And.intro ?_ ?_) | ((with_reducible intro hq); first | exact bne1 hq (by with_reducible assumption) | exact bne1 (by with_reducible assumption) hq | ((simp only [*, BB, cond_true, cond_false, reduceCtorEq] at hq); done) | (revert hq; with_reducible intro _)) | (with_reducible first | exact True.intro | rfl | refine EntLe.row ?_ | exact LeN.ro rfl | exact LeN.rptr | assumption) | ((with_reducible first | refine WkX.chk ?_ | refine Wk.chk ?_ | refine LeL.chk ?_ | refine LeF.chk ?_ | refine Run.mk ?_); (conv => whnf)) | ((with_reducible show LeO _ _); first | refine LeO.ro ?_ | refine LeO.roCap ?_ | refine LeO.nil ?_ (fun _ => rfl)) | ((with_reducible show LeR _ _ _); first | refine LeR.own rfl rfl rfl ?_ | refine LeR.view rfl rfl rfl ?_ ?_ | refine LeR.ro ?_ | refine LeR.roCap ?_ | refine LeR.nil ?_ (fun _ => rfl)) | ((with_reducible first | show drawOK _ _ = true | show lateOK _ _ = true | show drawOK2 _ _ = true | show drawOK3 _ _ = true); kernel_rfl))
    all_goals first
      | omega
      | (apply Fits.i64 <;> omega)
      | (dsimp only; omega)
      | trace_state
  have hlt : decide ((i : Int) < (l.length : Int)) = false := decide_eq_false (by omega)
  repeat' (first | (with_reducible first | exact fun h => h | refine ExE.row (by with_unfolding_all rfl) ?_ | refine And.intro ?_ ?_) | ((with_reducible intro hq); first | exact bne1 hq (by with_reducible assumption) | exact bne1 (by with_reducible assumption) hq | ((simp only [*, BB, cond_true, cond_false, reduceCtorEq] at hq); done) | (revert hq; with_reducible intro _)) | (with_reducible first | exact True.intro | rfl | refine EntLe.row ?_ | exact LeN.ro rfl | exact LeN.rptr | assumption) | ((with_reducible first | refine WkX.chk ?_ | refine Wk.chk ?_ | refine LeL.chk ?_ | refine LeF.chk ?_ | refine Run.mk ?_); (conv => whnf)) | ((with_reducible show LeO _ _); first | refine LeO.ro ?_ | refine LeO.roCap ?_ | refine LeO.nil ?_ (fun _ => rfl)) | ((with_reducible show LeR _ _ _); first | refine LeR.own rfl rfl rfl ?_ | refine LeR.view rfl rfl rfl ?_ ?_ | refine LeR.ro ?_ | refine LeR.roCap ?_ | refine LeR.nil ?_ (fun _ => rfl)) | ((with_reducible first | show drawOK _ _ = true | show lateOK _ _ = true | show drawOK2 _ _ = true | show drawOK3 _ _ = true); kernel_rfl))
  all_goals first
    | rfl
    | trace_state
theorem con_llooks : Con prog 51 (fun ((s, l) : ByteArray × List Spn) => [txAV s l]) (fun (s, l) => lkO (looksL (sgN s) l)) (fun (s, l) => OkT s l) := by
  refine Con.of (by kernel_rfl) T_ok CdsOK.nil (.inl (J := []) q_sSigns.1 q_sSigns.2.1 q_sSigns.2.2 (.inl (J := []) q_sSigns2.1 q_sSigns2.2.1 q_sSigns2.2.2 (.inl (J := []) q_usigns.1 q_usigns.2.1 q_usigns.2.2 (.inl (J := [8]) q_usigns1.1 q_usigns1.2.1 q_usigns1.2.2
    (.con con_scheck (.con con_slooks (.con con_runeLen (.con con_hasPrefix .nil)))))))) 9 [] q_llooks.1 q_llooks.2.1 q_llooks.2.2 (fun _ => rfl) fun i hi => ?_
  obtain ⟨s, l⟩ := i
  have hok : OkT s l := hi
  have hc := hok.eq
  have k1 : (chkN s.size l (sgN s : Nat) != 0) = false := by rw [hc]; rfl
  have hlen := looksL_len hok.spans
  have hn := sgN_le s
  have hs := hok.size
  have hsl := sgns_len' s
  repeat' (first | (with_reducible refine ⟨(s, l), ⟨(.cons (.agg (.cons (.v _) (.cons (.lent _ _ _ _ _ _) .nil))) .nil), ?_⟩, ?_⟩) | (with_reducible first | exact fun h => h | refine ExE.row (by with_unfolding_all rfl) ?_ | refine And.intro ?_ ?_) | ((with_reducible intro hq); first | exact bne1 hq (by with_reducible assumption) | exact bne1 (by with_reducible assumption) hq | ((simp only [*, BB, cond_true, cond_false, reduceCtorEq] at hq); done) | (revert hq; with_reducible intro _)) | (with_reducible first | exact True.intro | rfl | refine EntLe.row ?_ | exact LeN.ro rfl | exact LeN.rptr | assumption) | ((with_reducible first | refine WkX.chk ?_ | refine Wk.chk ?_ | refine LeL.chk ?_ | refine LeF.chk ?_ | refine Run.mk ?_); (conv => whnf)) | ((with_reducible show LeO _ _); first | refine LeO.ro ?_ | refine LeO.roCap ?_ | refine LeO.nil ?_ (fun _ => rfl)) | ((with_reducible show LeR _ _ _); first | refine LeR.own rfl rfl rfl ?_ | refine LeR.view rfl rfl rfl ?_ ?_ | refine LeR.ro ?_ | refine LeR.roCap ?_ | refine LeR.nil ?_ (fun _ => rfl)) | ((with_reducible first | show drawOK _ _ = true | show lateOK _ _ = true | show drawOK2 _ _ = true | show drawOK3 _ _ = true); kernel_rfl))
  all_goals (try first | exact hok | omega | rfl)
  refine loopA 1 0 C_att 45 (T := T) ⟨fun _ => rfl, by decide, _, rfl, rfl, by decide⟩ (by rfl) (by with_unfolding_all exact rfl) (by with_unfolding_all exact rfl) Nat [] (fun _ => [])
    (fun i => [(11, .iter s (posS s i)), (12, .row C_att ((looksL (sgN s) l).take i) 45 none), (7, .box [.v (.int .i64 (i : Nat))] 3)]) (fun i => i ≤ sgN s) (fun i => sgN s - i) 0 (Nat.zero_le _) (Wk.chk ?_) fun i hi => ?_
  · ((conv => whnf); repeat' (first | (with_reducible first | exact fun h => h | refine ExE.row (by with_unfolding_all rfl) ?_ | refine And.intro ?_ ?_) | ((with_reducible intro hq); first | exact bne1 hq (by with_reducible assumption) | exact bne1 (by with_reducible assumption) hq | ((simp only [*, BB, cond_true, cond_false, reduceCtorEq] at hq); done) | (revert hq; with_reducible intro _)) | (with_reducible first | exact True.intro | rfl | refine EntLe.row ?_ | exact LeN.ro rfl | exact LeN.rptr | assumption) | ((with_reducible first | refine WkX.chk ?_ | refine Wk.chk ?_ | refine LeL.chk ?_ | refine LeF.chk ?_ | refine Run.mk ?_); (conv => whnf)) | ((with_reducible show LeO _ _); first | refine LeO.ro ?_ | refine LeO.roCap ?_ | refine LeO.nil ?_ (fun _ => rfl)) | ((with_reducible show LeR _ _ _); first | refine LeR.own rfl rfl rfl ?_ | refine LeR.view rfl rfl rfl ?_ ?_ | refine LeR.ro ?_ | refine LeR.roCap ?_ | refine LeR.nil ?_ (fun _ => rfl)) | ((with_reducible first | show drawOK _ _ = true | show lateOK _ _ = true | show drawOK2 _ _ = true | show drawOK3 _ _ = true); kernel_rfl)))
    all_goals first
      | rfl
      | (rw [posS_zero]; done)
      | trace_state
  have hi : i ≤ sgN s := hi
  by_cases hil : i < sgN s
  · have hsa := sgns_at s hil
    obtain ⟨q1, q2, q3⟩ := hsa
    have hw := width_pos s (posS s i)
    have hwl := width_le q2
    have hmax := rune_max s (posS s i)
    have e1 : ((posS s i : Nat) : Int).toNat = posS s i := Int.toNat_natCast _
    have e2 : ((i : Nat) : Int).toNat = i := Int.toNat_natCast _
    have hd : C_att.d = zA := rfl
    have hst2 : (looksL (sgN s) l).take i ++ [(looksL (sgN s) l).getD i zA] = (looksL (sgN s) l).take (i + 1) := take_one _ _ (by omega)
    have hl2 : ((looksL (sgN s) l).take i).length = i := by rw [List.length_take]; omega
    repeat' (first | (with_reducible first | exact fun h => h | refine ExE.row (by with_unfolding_all rfl) ?_ | refine And.intro ?_ ?_) | ((with_reducible intro hq); first | exact bne1 hq (by with_reducible assumption) | exact bne1 (by with_reducible assumption) hq | ((simp only [*, BB, cond_true, cond_false, reduceCtorEq] at hq); done) | (revert hq; with_reducible intro _)) | (with_reducible first | exact True.intro | rfl | refine EntLe.row ?_ | exact LeN.ro rfl | exact LeN.rptr | assumption) | ((with_reducible first | refine WkX.chk ?_ | refine Wk.chk ?_ | refine LeL.chk ?_ | refine LeF.chk ?_ | refine Run.mk ?_); (conv => whnf)) | ((with_reducible show LeO _ _); first | refine LeO.ro ?_ | refine LeO.roCap ?_ | refine LeO.nil ?_ (fun _ => rfl)) | ((with_reducible show LeR _ _ _); first | refine LeR.own rfl rfl rfl ?_ | refine LeR.view rfl rfl rfl ?_ ?_ | refine LeR.ro ?_ | refine LeR.roCap ?_ | refine LeR.nil ?_ (fun _ => rfl)) | ((with_reducible first | show drawOK _ _ = true | show lateOK _ _ = true | show drawOK2 _ _ = true | show drawOK3 _ _ = true); kernel_rfl))
    any_goals omega
    refine joinI Unit [] (fun _ => [(5, .v (.int .i64 ((Utf8.decode s (posS s i)).2 : Nat)))]) (fun _ => []) (fun _ => True) ?_ fun _ _ => ?_
    · by_cases hr : (((Utf8.decode s (posS s i)).1 : Nat) : Int) = 65533
      · have k1 : ((((Utf8.decode s (posS s i)).1 : Nat) : Int) != 65533) = false := by rw [hr]; rfl
        have hpf : (decide ((badL.size : Int) ≤ ((s.extract ((posS s i : Nat) : Int).toNat s.size).size : Int)) && decide ((s.extract ((posS s i : Nat) : Int).toNat s.size).extract 0 ((badL.size : Nat) : Int).toNat = badL)) = decide ((Utf8.decode s (posS s i)).2 = 3) := by
          rw [e1]
          exact pref_iff q2 hr
        have h13 := dec_bad hr
        rcases h13 with h13 | h13
        · have hpf := hpf.trans (show decide ((Utf8.decode s (posS s i)).2 = 3) = false from by rw [h13]; rfl)
          repeat' (first | (with_reducible refine ⟨(_, badL), ⟨(.cons (.v _) (.cons (.v _) .nil)), ?_⟩, ?_⟩) | (with_reducible refine ex_of () trivial ?_) | (with_reducible first | exact fun h => h | refine ExE.row (by with_unfolding_all rfl) ?_ | refine And.intro ?_ ?_) | ((with_reducible intro hq); first | exact bne1 hq (by with_reducible assumption) | exact bne1 (by with_reducible assumption) hq | ((simp only [*, BB, cond_true, cond_false, reduceCtorEq] at hq); done) | (revert hq; with_reducible intro _)) | (with_reducible first | exact True.intro | rfl | refine EntLe.row ?_ | exact LeN.ro rfl | exact LeN.rptr | assumption) | ((with_reducible first | refine WkX.chk ?_ | refine Wk.chk ?_ | refine LeL.chk ?_ | refine LeF.chk ?_ | refine Run.mk ?_); (conv => whnf)) | ((with_reducible show LeO _ _); first | refine LeO.ro ?_ | refine LeO.roCap ?_ | refine LeO.nil ?_ (fun _ => rfl)) | ((with_reducible show LeR _ _ _); first | refine LeR.own rfl rfl rfl ?_ | refine LeR.view rfl rfl rfl ?_ ?_ | refine LeR.ro ?_ | refine LeR.roCap ?_ | refine LeR.nil ?_ (fun _ => rfl)) | ((with_reducible first | show drawOK _ _ = true | show lateOK _ _ = true | show drawOK2 _ _ = true | show drawOK3 _ _ = true); kernel_rfl))
          all_goals first
            | omega
            | (rw [h13]; rfl)
            | trace_state
        · have hpf := hpf.trans (show decide ((Utf8.decode s (posS s i)).2 = 3) = true from by rw [h13]; rfl)
          repeat' (first | (with_reducible refine ⟨(_, badL), ⟨(.cons (.v _) (.cons (.v _) .nil)), ?_⟩, ?_⟩) | (with_reducible refine ex_of () trivial ?_) | (with_reducible first | exact fun h => h | refine ExE.row (by with_unfolding_all rfl) ?_ | refine And.intro ?_ ?_) | ((with_reducible intro hq); first | exact bne1 hq (by with_reducible assumption) | exact bne1 (by with_reducible assumption) hq | ((simp only [*, BB, cond_true, cond_false, reduceCtorEq] at hq); done) | (revert hq; with_reducible intro _)) | (with_reducible first | exact True.intro | rfl | refine EntLe.row ?_ | exact LeN.ro rfl | exact LeN.rptr | assumption) | ((with_reducible first | refine WkX.chk ?_ | refine Wk.chk ?_ | refine LeL.chk ?_ | refine LeF.chk ?_ | refine Run.mk ?_); (conv => whnf)) | ((with_reducible show LeO _ _); first | refine LeO.ro ?_ | refine LeO.roCap ?_ | refine LeO.nil ?_ (fun _ => rfl)) | ((with_reducible show LeR _ _ _); first | refine LeR.own rfl rfl rfl ?_ | refine LeR.view rfl rfl rfl ?_ ?_ | refine LeR.ro ?_ | refine LeR.roCap ?_ | refine LeR.nil ?_ (fun _ => rfl)) | ((with_reducible first | show drawOK _ _ = true | show lateOK _ _ = true | show drawOK2 _ _ = true | show drawOK3 _ _ = true); kernel_rfl))
          all_goals first
            | omega
            | (rw [h13]; rfl)
            | trace_state
      · have k1 : ((((Utf8.decode s (posS s i)).1 : Nat) : Int) != 65533) = true := by simpa using hr
        have hg := dec_good hr
        repeat' (first | (with_reducible refine ⟨(((Utf8.decode s (posS s i)).1 : Nat) : Int), ⟨(.cons (.v _) .nil), ?_⟩, ?_⟩) | (with_reducible refine ex_of () trivial ?_) | (with_reducible first | exact fun h => h | refine ExE.row (by with_unfolding_all rfl) ?_ | refine And.intro ?_ ?_) | ((with_reducible intro hq); first | exact bne1 hq (by with_reducible assumption) | exact bne1 (by with_reducible assumption) hq | ((simp only [*, BB, cond_true, cond_false, reduceCtorEq] at hq); done) | (revert hq; with_reducible intro _)) | (with_reducible first | exact True.intro | rfl | refine EntLe.row ?_ | exact LeN.ro rfl | exact LeN.rptr | assumption) | ((with_reducible first | refine WkX.chk ?_ | refine Wk.chk ?_ | refine LeL.chk ?_ | refine LeF.chk ?_ | refine Run.mk ?_); (conv => whnf)) | ((with_reducible show LeO _ _); first | refine LeO.ro ?_ | refine LeO.roCap ?_ | refine LeO.nil ?_ (fun _ => rfl)) | ((with_reducible show LeR _ _ _); first | refine LeR.own rfl rfl rfl ?_ | refine LeR.view rfl rfl rfl ?_ ?_ | refine LeR.ro ?_ | refine LeR.roCap ?_ | refine LeR.nil ?_ (fun _ => rfl)) | ((with_reducible first | show drawOK _ _ = true | show lateOK _ _ = true | show drawOK2 _ _ = true | show drawOK3 _ _ = true); kernel_rfl))
        all_goals first
          | omega
          | exact hg
          | trace_state
    repeat' (first | (with_reducible refine ex_of (α := Nat) (i + 1) ⟨?_, ?_⟩ ?_) | (with_reducible first | exact fun h => h | refine ExE.row (by with_unfolding_all rfl) ?_ | refine And.intro ?_ ?_) | ((with_reducible intro hq); first | exact bne1 hq (by with_reducible assumption) | exact bne1 (by with_reducible assumption) hq | ((simp only [*, BB, cond_true, cond_false, reduceCtorEq] at hq); done) | (revert hq; with_reducible intro _)) | (with_reducible first | exact True.intro | rfl | refine EntLe.row ?_ | exact LeN.ro rfl | exact LeN.rptr | assumption) | ((with_reducible first | refine WkX.chk ?_ | refine Wk.chk ?_ | refine LeL.chk ?_ | refine LeF.chk ?_ | refine Run.mk ?_); (conv => whnf)) | ((with_reducible show LeO _ _); first | refine LeO.ro ?_ | refine LeO.roCap ?_ | refine LeO.nil ?_ (fun _ => rfl)) | ((with_reducible show LeR _ _ _); first | refine LeR.own rfl rfl rfl ?_ | refine LeR.view rfl rfl rfl ?_ ?_ | refine LeR.ro ?_ | refine LeR.roCap ?_ | refine LeR.nil ?_ (fun _ => rfl)) | ((with_reducible first | show drawOK _ _ = true | show lateOK _ _ = true | show drawOK2 _ _ = true | show drawOK3 _ _ = true); kernel_rfl))
    all_goals first
      | omega
      | (apply Fits.i64 <;> omega)
      | (dsimp only; omega)
      | rfl
      | (show (((looksL (sgN s) l).take i).length + 1) * 16 ≤ 140737488355328; omega)
      | (rw [e2, hd]; exact hst2)
      | (rw [q3]; done)
      | trace_state
  have hii : i = sgN s := by omega
  subst hii
  have hend := posS_end s
  have hT2 : (looksL (sgN s) l).take (sgN s) = looksL (sgN s) l := take_all _ (by omega)
  repeat' (first | (with_reducible first | exact fun h => h | refine ExE.row (by with_unfolding_all rfl) ?_ | refine And.intro ?_ ?_) | ((with_reducible intro hq); first | exact bne1 hq (by with_reducible assumption) | exact bne1 (by with_reducible assumption) hq | ((simp only [*, BB, cond_true, cond_false, reduceCtorEq] at hq); done) | (revert hq; with_reducible intro _)) | (with_reducible first | exact True.intro | rfl | refine EntLe.row ?_ | exact LeN.ro rfl | exact LeN.rptr | assumption) | ((with_reducible first | refine WkX.chk ?_ | refine Wk.chk ?_ | refine LeL.chk ?_ | refine LeF.chk ?_ | refine Run.mk ?_); (conv => whnf)) | ((with_reducible show LeO _ _); first | refine LeO.ro ?_ | refine LeO.roCap ?_ | refine LeO.nil ?_ (fun _ => rfl)) | ((with_reducible show LeR _ _ _); first | refine LeR.own rfl rfl rfl ?_ | refine LeR.view rfl rfl rfl ?_ ?_ | refine LeR.ro ?_ | refine LeR.roCap ?_ | refine LeR.nil ?_ (fun _ => rfl)) | ((with_reducible first | show drawOK _ _ = true | show lateOK _ _ = true | show drawOK2 _ _ = true | show drawOK3 _ _ = true); kernel_rfl))
  all_goals first
    | exact hT2
    | (exfalso; omega)
    | trace_state
end Go.SX.Try
/- Plain law: the spans of a normal form. -/
namespace Go.SX.Plain
set_option linter.unusedSimpArgs false
def hasK (a : Atr) (k : Int) : Int :=
  if k = 1 then (if a.bold = true then 1 else 0) else if k = 2 then (if a.italic = true then 1 else 0) else if k = 3 then (if a.under = true then 1 else 0) else if k = 4 then (if a.strike = true then 1 else 0) else if k = 5 then a.colour else 0
def ColOK (l : List Atr) : Prop := ∀ a ∈ l, 0 ≤ a.colour ∧ a.colour ≤ 16777216
theorem ColOK.at {l : List Atr} (h : ColOK l) {i : Nat} (hi : i < l.length) : 0 ≤ (l.getD i zA).colour ∧ (l.getD i zA).colour ≤ 16777216 := by
  have := h l[i] (List.getElem_mem hi)
  simpa [List.getD_eq_getElem?_getD, hi] using this
theorem hasK_bd {a : Atr} {k : Int} (h : 0 ≤ a.colour ∧ a.colour ≤ 16777216) : 0 ≤ hasK a k ∧ hasK a k ≤ 16777216 := by
  unfold hasK
  repeat' split
  all_goals omega
def adv (p : Nat → Bool) : Nat → Nat → Nat
  | 0, j => j
  | f + 1, j => if p j = true then adv p f (j + 1) else j
theorem adv_bd (p : Nat → Bool) : ∀ f j, j ≤ adv p f j ∧ adv p f j ≤ j + f
  | 0, j => ⟨Nat.le_refl _, Nat.le_refl _⟩
  | f + 1, j => by
    have := adv_bd p f (j + 1)
    rw [adv]
    split <;> omega
section
variable (l : List Atr) (cut : List Bool) (k : Int)
def goOn (v : Int) (j : Nat) : Bool := decide (hasK (l.getD j zA) k = v) && !(cut.getD j false)
def strE (i : Nat) : Nat := adv (goOn l cut k (hasK (l.getD i zA) k)) (l.length - (i + 1)) (i + 1)
def strS (i : Nat) : List Spn := if hasK (l.getD i zA) k = 0 then [] else [⟨i, (strE l cut k i : Nat), k, if k = 5 then hasK (l.getD i zA) k - 1 else 0⟩]
def strF : Nat → Nat → List Spn
  | 0, _ => []
  | f + 1, i => if i < l.length then strS l cut k i ++ strF f (strE l cut k i) else []
def strT (i : Nat) : List Spn := strF l cut k (l.length - i) i
end
section
variable {l : List Atr} {cut : List Bool} {k : Int}
theorem strE_bd {i : Nat} (h : i < l.length) : i < strE l cut k i ∧ strE l cut k i ≤ l.length := by
  have := adv_bd (goOn l cut k (hasK (l.getD i zA) k)) (l.length - (i + 1)) (i + 1)
  unfold strE
  omega
theorem adv_on {p : Nat → Bool} {n j : Nat} (h : j < n) (hp : p j = true) : adv p (n - j) j = adv p (n - (j + 1)) (j + 1) := by
  rw [show n - j = (n - (j + 1)) + 1 by omega, adv, if_pos hp]
theorem adv_no {p : Nat → Bool} {n j : Nat} (h : j < n) (hp : p j = false) : adv p (n - j) j = j := by
  rw [show n - j = (n - (j + 1)) + 1 by omega, adv, if_neg (by rw [hp]; decide)]
theorem adv_end {p : Nat → Bool} {n j : Nat} (h : n ≤ j) : adv p (n - j) j = j := by
  rw [show n - j = 0 by omega, adv]
theorem strF_fuel : ∀ (f g i : Nat), l.length - i ≤ f → l.length - i ≤ g → strF l cut k f i = strF l cut k g i
  | 0, 0, i, _, _ => rfl
  | 0, g + 1, i, h, _ => by rw [strF, strF, if_neg (by omega)]
  | f + 1, 0, i, _, h => by rw [strF, strF, if_neg (by omega)]
  | f + 1, g + 1, i, h1, h2 => by
    rw [strF, strF]
    split
    · rename_i hi
      have := strE_bd (cut := cut) (k := k) hi
      rw [strF_fuel f g _ (by omega) (by omega)]
    · rfl
theorem strT_step {i : Nat} (h : i < l.length) : strT l cut k i = strS l cut k i ++ strT l cut k (strE l cut k i) := by
  have hb := strE_bd (cut := cut) (k := k) h
  unfold strT
  rw [show l.length - i = (l.length - (i + 1)) + 1 by omega, strF, if_pos h, strF_fuel _ (l.length - strE l cut k i) _ (by omega) (by omega)]
theorem strT_end {i : Nat} (h : ¬ i < l.length) : strT l cut k i = [] := by
  unfold strT
  rw [show l.length - i = 0 by omega, strF]
theorem strS_len (i : Nat) : (strS l cut k i).length ≤ 1 := by
  unfold strS
  split <;> simp
theorem strF_len : ∀ (f i : Nat), (strF l cut k f i).length ≤ f
  | 0, i => by simp [strF]
  | f + 1, i => by
    have h1 := strF_len f (strE l cut k i)
    have h2 := strS_len (l := l) (cut := cut) (k := k) i
    rw [strF]
    split
    · rw [List.length_append]; omega
    · simp
theorem strT_len (i : Nat) : (strT l cut k i).length ≤ l.length - i := strF_len _ _
theorem strF_in : ∀ (f i : Nat), ∀ x ∈ strF l cut k f i, 0 ≤ x.frm ∧ x.frm < x.to ∧ x.to ≤ (l.length : Nat)
  | 0, i, x, hx => by simp [strF] at hx
  | f + 1, i, x, hx => by
    rw [strF] at hx
    split at hx
    · rename_i hi
      have hb := strE_bd (cut := cut) (k := k) hi
      rcases List.mem_append.1 hx with h | h
      · unfold strS at h
        split at h
        · cases h
        · rw [List.mem_singleton] at h
          subst h
          refine ⟨?_, ?_, ?_⟩ <;> simp only <;> omega
      · exact strF_in f _ x h
    · cases hx
theorem strT_in (i : Nat) : InL (strT l cut k i) l.length := fun x hx => strF_in _ _ x hx
end
def mkC (cut : List Bool) (x : Spn) : List Bool := (cut.set x.frm.toNat true).set x.to.toNat true
def mkTo (cut : List Bool) (S : List Spn) (n : Nat) : List Bool := (S.take n).foldl mkC cut
theorem mkTo_step {cut : List Bool} {S : List Spn} {n : Nat} (h : n < S.length) : mkTo cut S (n + 1) = mkC (mkTo cut S n) (S.getD n zS) := by
  unfold mkTo
  rw [← take_one S zS h, List.foldl_append]
  rfl
theorem mkC_len (cut : List Bool) (x : Spn) : (mkC cut x).length = cut.length := by simp [mkC]
theorem foldl_mkC_len : ∀ (S : List Spn) (cut : List Bool), (S.foldl mkC cut).length = cut.length
  | [], _ => rfl
  | x :: S, cut => by rw [List.foldl_cons, foldl_mkC_len S, mkC_len]
theorem mkTo_len (cut : List Bool) (S : List Spn) (n : Nat) : (mkTo cut S n).length = cut.length := foldl_mkC_len _ _
def kindsTo (l : List Atr) : Nat → List Bool × List Spn
  | 0 => (List.replicate (l.length + 1) false, [])
  | k + 1 => (mkTo (kindsTo l k).1 (strT l (kindsTo l k).1 ((k + 1 : Nat) : Int) 0) (strT l (kindsTo l k).1 ((k + 1 : Nat) : Int) 0).length, (kindsTo l k).2 ++ strT l (kindsTo l k).1 ((k + 1 : Nat) : Int) 0)
theorem kinds_cut (l : List Atr) : ∀ k, (kindsTo l k).1.length = l.length + 1
  | 0 => by simp [kindsTo]
  | k + 1 => by rw [kindsTo, mkTo_len]; exact kinds_cut l k
theorem kinds_len (l : List Atr) : ∀ k, (kindsTo l k).2.length ≤ k * l.length
  | 0 => by simp [kindsTo]
  | k + 1 => by
    have h1 := kinds_len l k
    have h2 := strT_len (l := l) (cut := (kindsTo l k).1) (k := ((k + 1 : Nat) : Int)) 0
    rw [kindsTo, List.length_append, Nat.add_mul]
    omega
theorem kinds_in (l : List Atr) : ∀ k, InL (kindsTo l k).2 l.length
  | 0 => fun x hx => by simp [kindsTo] at hx
  | k + 1 => fun x hx => by
    rw [kindsTo] at hx
    rcases List.mem_append.1 hx with h | h
    · exact kinds_in l k x h
    · exact strT_in 0 x h
def normL (l : List Atr) : List Spn := (kindsTo l 5).2
def normS (l : List Atr) : List Spn := isort ltM (normL l)
def madeE (l : List Atr) : Int := if 256 < (normL l).length then 2 else 0
def madeT (s : ByteArray) (l : List Atr) : ByteArray := if 256 < (normL l).length then ByteArray.empty else s
def madeL (l : List Atr) : List Spn := if 256 < (normL l).length then [] else normS l
theorem normS_len (l : List Atr) : (normS l).length = (normL l).length := isort_len _
theorem madeL_len (l : List Atr) : (madeL l).length ≤ 256 := by
  unfold madeL
  split
  · simp
  · rw [normS_len]; omega
end Go.SX.Plain
/- Contracts of value, has, ahead, lay. -/
namespace Go.SX.Try
open Go.Proofs Go.Proofs.Try Go.SX.Plain
set_option maxRecDepth 100000
set_option maxHeartbeats 0
set_option linter.unusedSimpArgs false
theorem q_svalue : fact 115 f115 := ⟨by kernel_rfl, rfl, by kernel_rfl⟩
theorem con_svalue : Con prog 115 (fun ((a, k) : Atr × Int) => [.agg (atAV a), .v (.int .i64 k)]) (fun (a, k) => .v (.int .i64 (hasK a k))) (fun (_, k) => 1 ≤ k ∧ k ≤ 5) := by
  refine Con.of (by kernel_rfl) T_ok CdsOK.nil .nil 5 [] q_svalue.1 q_svalue.2.1 q_svalue.2.2 (fun _ => rfl) fun i hi => ?_
  obtain ⟨a, k⟩ := i
  obtain ⟨h1, h2⟩ : 1 ≤ k ∧ k ≤ 5 := hi
  obtain rfl | rfl | rfl | rfl | rfl : k = 1 ∨ k = 2 ∨ k = 3 ∨ k = 4 ∨ k = 5 := by omega
  all_goals (repeat' (first | (with_reducible first | exact fun h => h | refine ExE.row (by with_unfolding_all rfl) ?_ | refine And.intro ?_ ?_) | ((with_reducible intro hq); first | exact bne1 hq (by with_reducible assumption) | exact bne1 (by with_reducible assumption) hq | ((simp only [*, BB, cond_true, cond_false, reduceCtorEq] at hq); done) | (revert hq; with_reducible intro _)) | (with_reducible first | exact True.intro | rfl | refine EntLe.row ?_ | exact LeN.ro rfl | exact LeN.rptr | assumption) | ((with_reducible first | refine WkX.chk ?_ | refine Wk.chk ?_ | refine LeL.chk ?_ | refine LeF.chk ?_ | refine Run.mk ?_); (conv => whnf)) | ((with_reducible show LeO _ _); first | refine LeO.ro ?_ | refine LeO.roCap ?_ | refine LeO.nil ?_ (fun _ => rfl)) | ((with_reducible show LeR _ _ _); first | refine LeR.own rfl rfl rfl ?_ | refine LeR.view rfl rfl rfl ?_ ?_ | refine LeR.ro ?_ | refine LeR.roCap ?_ | refine LeR.nil ?_ (fun _ => rfl)) | ((with_reducible first | show drawOK _ _ = true | show lateOK _ _ = true | show drawOK2 _ _ = true | show drawOK3 _ _ = true); kernel_rfl)))
  all_goals first
    | rfl
    | (unfold hasK; simp_all; done)
    | trace_state
end Go.SX.Try
/- Contract of style's order of a normal form's spans. -/
namespace Go.SX.Try
open Go.Proofs Go.Proofs.Try Go.SX.Plain
set_option maxRecDepth 100000
set_option maxHeartbeats 0
set_option linter.unusedSimpArgs false
theorem q_made1 : fact 116 f116 := ⟨by kernel_rfl, rfl, by kernel_rfl⟩
theorem con_made1 : Con prog 116 (fun ((x, y) : Spn × Spn) => [.agg (spAV x), .agg (spAV y)]) (fun (x, y) => .v (.int .i64 (cmpM x y))) (fun _ => True) := by
  refine Con.of (by kernel_rfl) T_ok D_int_ok (.con con_compare (.con con_or .nil)) 3 [] q_made1.1 q_made1.2.1 q_made1.2.2 (fun _ => rfl) fun i _ => ?_
  obtain ⟨x, y⟩ := i
  repeat' (first | (with_reducible refine ⟨(_, _), ⟨(.cons (.v _) (.cons (.v _) .nil)), ?_⟩, ?_⟩) | (with_reducible refine ⟨_, ⟨(.cons (.lent _ _ _ _ _ _) .nil), ?_⟩, ?_⟩) | (with_reducible first | exact fun h => h | refine ExE.row (by with_unfolding_all rfl) ?_ | refine And.intro ?_ ?_) | ((with_reducible intro hq); first | exact bne1 hq (by with_reducible assumption) | exact bne1 (by with_reducible assumption) hq | ((simp only [*, BB, cond_true, cond_false, reduceCtorEq] at hq); done) | (revert hq; with_reducible intro _)) | (with_reducible first | exact True.intro | rfl | refine EntLe.row ?_ | exact LeN.ro rfl | exact LeN.rptr | assumption) | ((with_reducible first | refine WkX.chk ?_ | refine Wk.chk ?_ | refine LeL.chk ?_ | refine LeF.chk ?_ | refine Run.mk ?_); (conv => whnf)) | ((with_reducible show LeO _ _); first | refine LeO.ro ?_ | refine LeO.roCap ?_ | refine LeO.nil ?_ (fun _ => rfl)) | ((with_reducible show LeR _ _ _); first | refine LeR.own rfl rfl rfl ?_ | refine LeR.view rfl rfl rfl ?_ ?_ | refine LeR.ro ?_ | refine LeR.roCap ?_ | refine LeR.nil ?_ (fun _ => rfl)) | ((with_reducible first | show drawOK _ _ = true | show lateOK _ _ = true | show drawOK2 _ _ = true | show drawOK3 _ _ = true); kernel_rfl))
  all_goals first
    | rfl
    | (show (3 : Nat) ≤ 1100000; decide)
    | trace_state
end Go.SX.Try
/- Contract of the library's sort by insertion, of spans. (the order of a normal form) -/
namespace Go.SX.Try
open Go.Proofs Go.Proofs.Try Go.SX.Plain
set_option maxRecDepth 100000
set_option maxHeartbeats 0
set_option linter.unusedSimpArgs false
theorem conW_insertion_M : ConW prog 119 C_spn 71 (fun ((a, b) : Int × Int) => [.v (.int .i64 a), .v (.int .i64 b), .fn 116 []]) (fun (a, b) l => insS ltM l a.toNat b.toNat)
    (fun (a, b) l => (0 ≤ a ∧ a ≤ b ∧ b ≤ l.length) ∧ l.length ≤ 1100000) := by
  refine ConW.of (by kernel_rfl) T_ok CdsOK.nil (.con con_made1 .nil) 3 [] q_insertS.1 q_insertS.2.1 q_insertS.2.2 (fun _ => rfl) (fun _ => .cons (.v _) (.cons (.v _) (.cons (.fn _) .nil))) fun i l hi => ?_
  obtain ⟨a, b⟩ := i
  obtain ⟨⟨h1, h2, h3⟩, h5⟩ := hi
  obtain ⟨a, rfl⟩ := Int.eq_ofNat_of_zero_le h1
  obtain ⟨b, rfl⟩ := Int.eq_ofNat_of_zero_le (show 0 ≤ b by omega)
  simp only [Int.toNat_natCast]
  by_cases hab : a = b
  · subst hab
    have hlt : decide ((a : Int) + 1 < (a : Int)) = false := decide_eq_false (by omega)
    repeat' (first | (with_reducible first | exact fun h => h | refine ExE.row (by with_unfolding_all rfl) ?_ | refine And.intro ?_ ?_) | ((with_reducible intro hq); first | exact bne1 hq (by with_reducible assumption) | exact bne1 (by with_reducible assumption) hq | ((simp only [*, BB, cond_true, cond_false, reduceCtorEq] at hq); done) | (revert hq; with_reducible intro _)) | (with_reducible first | exact True.intro | rfl | refine EntLe.row ?_ | exact LeN.ro rfl | exact LeN.rptr | assumption) | ((with_reducible first | refine WkX.chk ?_ | refine Wk.chk ?_ | refine LeL.chk ?_ | refine LeF.chk ?_ | refine Run.mk ?_); (conv => whnf)) | ((with_reducible show LeO _ _); first | refine LeO.ro ?_ | refine LeO.roCap ?_ | refine LeO.nil ?_ (fun _ => rfl)) | ((with_reducible show LeR _ _ _); first | refine LeR.own rfl rfl rfl ?_ | refine LeR.view rfl rfl rfl ?_ ?_ | refine LeR.ro ?_ | refine LeR.roCap ?_ | refine LeR.nil ?_ (fun _ => rfl)) | ((with_reducible first | show drawOK _ _ = true | show lateOK _ _ = true | show drawOK2 _ _ = true | show drawOK3 _ _ = true); kernel_rfl))
    any_goals (apply Fits.i64 <;> omega)
    refine loopI Unit [] (fun _ => [(8, .v (.int .i64 ((a : Int) + 1)))]) (fun _ => []) (fun _ => True) (fun _ => 0) () trivial (Wk.chk ?_) fun _ _ => ?_
    · ((conv => whnf); repeat' (first | (with_reducible first | exact fun h => h | refine ExE.row (by with_unfolding_all rfl) ?_ | refine And.intro ?_ ?_) | ((with_reducible intro hq); first | exact bne1 hq (by with_reducible assumption) | exact bne1 (by with_reducible assumption) hq | ((simp only [*, BB, cond_true, cond_false, reduceCtorEq] at hq); done) | (revert hq; with_reducible intro _)) | (with_reducible first | exact True.intro | rfl | refine EntLe.row ?_ | exact LeN.ro rfl | exact LeN.rptr | assumption) | ((with_reducible first | refine WkX.chk ?_ | refine Wk.chk ?_ | refine LeL.chk ?_ | refine LeF.chk ?_ | refine Run.mk ?_); (conv => whnf)) | ((with_reducible show LeO _ _); first | refine LeO.ro ?_ | refine LeO.roCap ?_ | refine LeO.nil ?_ (fun _ => rfl)) | ((with_reducible show LeR _ _ _); first | refine LeR.own rfl rfl rfl ?_ | refine LeR.view rfl rfl rfl ?_ ?_ | refine LeR.ro ?_ | refine LeR.roCap ?_ | refine LeR.nil ?_ (fun _ => rfl)) | ((with_reducible first | show drawOK _ _ = true | show lateOK _ _ = true | show drawOK2 _ _ = true | show drawOK3 _ _ = true); kernel_rfl)))
      all_goals rfl
    repeat' (first | (with_reducible first | exact fun h => h | refine ExE.row (by with_unfolding_all rfl) ?_ | refine And.intro ?_ ?_) | ((with_reducible intro hq); first | exact bne1 hq (by with_reducible assumption) | exact bne1 (by with_reducible assumption) hq | ((simp only [*, BB, cond_true, cond_false, reduceCtorEq] at hq); done) | (revert hq; with_reducible intro _)) | (with_reducible first | exact True.intro | rfl | refine EntLe.row ?_ | exact LeN.ro rfl | exact LeN.rptr | assumption) | ((with_reducible first | refine WkX.chk ?_ | refine Wk.chk ?_ | refine LeL.chk ?_ | refine LeF.chk ?_ | refine Run.mk ?_); (conv => whnf)) | ((with_reducible show LeO _ _); first | refine LeO.ro ?_ | refine LeO.roCap ?_ | refine LeO.nil ?_ (fun _ => rfl)) | ((with_reducible show LeR _ _ _); first | refine LeR.own rfl rfl rfl ?_ | refine LeR.view rfl rfl rfl ?_ ?_ | refine LeR.ro ?_ | refine LeR.roCap ?_ | refine LeR.nil ?_ (fun _ => rfl)) | ((with_reducible first | show drawOK _ _ = true | show lateOK _ _ = true | show drawOK2 _ _ = true | show drawOK3 _ _ = true); kernel_rfl))
    all_goals first
      | rfl
      | (refine ⟨_, _, rfl, ?_⟩; rw [insS_self]; done)
      | trace_state
  repeat' (first | (with_reducible first | exact fun h => h | refine ExE.row (by with_unfolding_all rfl) ?_ | refine And.intro ?_ ?_) | ((with_reducible intro hq); first | exact bne1 hq (by with_reducible assumption) | exact bne1 (by with_reducible assumption) hq | ((simp only [*, BB, cond_true, cond_false, reduceCtorEq] at hq); done) | (revert hq; with_reducible intro _)) | (with_reducible first | exact True.intro | rfl | refine EntLe.row ?_ | exact LeN.ro rfl | exact LeN.rptr | assumption) | ((with_reducible first | refine WkX.chk ?_ | refine Wk.chk ?_ | refine LeL.chk ?_ | refine LeF.chk ?_ | refine Run.mk ?_); (conv => whnf)) | ((with_reducible show LeO _ _); first | refine LeO.ro ?_ | refine LeO.roCap ?_ | refine LeO.nil ?_ (fun _ => rfl)) | ((with_reducible show LeR _ _ _); first | refine LeR.own rfl rfl rfl ?_ | refine LeR.view rfl rfl rfl ?_ ?_ | refine LeR.ro ?_ | refine LeR.roCap ?_ | refine LeR.nil ?_ (fun _ => rfl)) | ((with_reducible first | show drawOK _ _ = true | show lateOK _ _ = true | show drawOK2 _ _ = true | show drawOK3 _ _ = true); kernel_rfl))
  any_goals (apply Fits.i64 <;> omega)
  refine loopI Nat [] (fun i => [(8, .v (.int .i64 (i : Nat)))]) (fun i => [(0, .row C_spn (insS ltM l a i) 71 none)]) (fun i => a + 1 ≤ i ∧ i ≤ b) (fun i => b - i) (a + 1) ⟨Nat.le_refl _, by omega⟩ (Wk.chk ?_) fun i hi => ?_
  · ((conv => whnf); repeat' (first | (with_reducible first | exact fun h => h | refine ExE.row (by with_unfolding_all rfl) ?_ | refine And.intro ?_ ?_) | ((with_reducible intro hq); first | exact bne1 hq (by with_reducible assumption) | exact bne1 (by with_reducible assumption) hq | ((simp only [*, BB, cond_true, cond_false, reduceCtorEq] at hq); done) | (revert hq; with_reducible intro _)) | (with_reducible first | exact True.intro | rfl | refine EntLe.row ?_ | exact LeN.ro rfl | exact LeN.rptr | assumption) | ((with_reducible first | refine WkX.chk ?_ | refine Wk.chk ?_ | refine LeL.chk ?_ | refine LeF.chk ?_ | refine Run.mk ?_); (conv => whnf)) | ((with_reducible show LeO _ _); first | refine LeO.ro ?_ | refine LeO.roCap ?_ | refine LeO.nil ?_ (fun _ => rfl)) | ((with_reducible show LeR _ _ _); first | refine LeR.own rfl rfl rfl ?_ | refine LeR.view rfl rfl rfl ?_ ?_ | refine LeR.ro ?_ | refine LeR.roCap ?_ | refine LeR.nil ?_ (fun _ => rfl)) | ((with_reducible first | show drawOK _ _ = true | show lateOK _ _ = true | show drawOK2 _ _ = true | show drawOK3 _ _ = true); kernel_rfl)))
    all_goals first
      | rfl
      | (rw [insS_one]; done)
      | trace_state
  obtain ⟨hi1, hi2⟩ := hi
  have hlen := insS_len (lt := ltM) l (a := a) (b := i) (by omega) (by omega)
  by_cases hib : i < b
  · have hlt : decide ((i : Int) < (b : Int)) = true := decide_eq_true (by omega)
    obtain ⟨g1, g2⟩ := Ins.start (lt := ltM) (d := zS) l (a := a) (i := i) (by omega) (by omega)
    repeat' (first | (with_reducible first | exact fun h => h | refine ExE.row (by with_unfolding_all rfl) ?_ | refine And.intro ?_ ?_) | ((with_reducible intro hq); first | exact bne1 hq (by with_reducible assumption) | exact bne1 (by with_reducible assumption) hq | ((simp only [*, BB, cond_true, cond_false, reduceCtorEq] at hq); done) | (revert hq; with_reducible intro _)) | (with_reducible first | exact True.intro | rfl | refine EntLe.row ?_ | exact LeN.ro rfl | exact LeN.rptr | assumption) | ((with_reducible first | refine WkX.chk ?_ | refine Wk.chk ?_ | refine LeL.chk ?_ | refine LeF.chk ?_ | refine Run.mk ?_); (conv => whnf)) | ((with_reducible show LeO _ _); first | refine LeO.ro ?_ | refine LeO.roCap ?_ | refine LeO.nil ?_ (fun _ => rfl)) | ((with_reducible show LeR _ _ _); first | refine LeR.own rfl rfl rfl ?_ | refine LeR.view rfl rfl rfl ?_ ?_ | refine LeR.ro ?_ | refine LeR.roCap ?_ | refine LeR.nil ?_ (fun _ => rfl)) | ((with_reducible first | show drawOK _ _ = true | show lateOK _ _ = true | show drawOK2 _ _ = true | show drawOK3 _ _ = true); kernel_rfl))
    refine loopI (List Spn × List Spn) [] (fun | (P, _) => [(9, .v (.int .i64 ((a + P.length : Nat) : Int)))]) (fun | (P, Q) => [(0, .row C_spn (insC zS l a i P Q) 71 none)]) (fun | (P, Q) => Ins ltM zS l a i P Q) (fun | (P, _) => P.length) (isort ltM (seg l a i), []) g1 (Wk.chk ?_) fun x hx => ?_
    · ((conv => whnf); repeat' (first | (with_reducible first | exact fun h => h | refine ExE.row (by with_unfolding_all rfl) ?_ | refine And.intro ?_ ?_) | ((with_reducible intro hq); first | exact bne1 hq (by with_reducible assumption) | exact bne1 (by with_reducible assumption) hq | ((simp only [*, BB, cond_true, cond_false, reduceCtorEq] at hq); done) | (revert hq; with_reducible intro _)) | (with_reducible first | exact True.intro | rfl | refine EntLe.row ?_ | exact LeN.ro rfl | exact LeN.rptr | assumption) | ((with_reducible first | refine WkX.chk ?_ | refine Wk.chk ?_ | refine LeL.chk ?_ | refine LeF.chk ?_ | refine Run.mk ?_); (conv => whnf)) | ((with_reducible show LeO _ _); first | refine LeO.ro ?_ | refine LeO.roCap ?_ | refine LeO.nil ?_ (fun _ => rfl)) | ((with_reducible show LeR _ _ _); first | refine LeR.own rfl rfl rfl ?_ | refine LeR.view rfl rfl rfl ?_ ?_ | refine LeR.ro ?_ | refine LeR.roCap ?_ | refine LeR.nil ?_ (fun _ => rfl)) | ((with_reducible first | show drawOK _ _ = true | show lateOK _ _ = true | show drawOK2 _ _ = true | show drawOK3 _ _ = true); kernel_rfl)))
      all_goals first
        | rfl
        | (rw [isort_len, seg_len (by omega), show a + (i - a) = i by omega]; done)
        | (rw [g2]; done)
        | trace_state
    obtain ⟨P, Q⟩ := x
    have hx : Ins ltM zS l a i P Q := hx
    obtain ⟨n1, n2⟩ := hx.len (by omega) (by omega)
    have hd : C_spn.d = zS := rfl
    rcases List.eq_nil_or_concat P with rfl | ⟨P, z, rfl⟩
    · have hgt : decide ((a : Int) < ((a + ([] : List Spn).length : Nat) : Int)) = false := decide_eq_false (by simp)
      have hst := hx.stop (by omega) (by omega) (.inl rfl)
      repeat' (first | (with_reducible refine ⟨(_, _), ⟨(.cons (.agg (.cons (.v _) (.cons (.v _) (.cons (.v _) (.cons (.v _) .nil))))) (.cons (.agg (.cons (.v _) (.cons (.v _) (.cons (.v _) (.cons (.v _) .nil))))) .nil)), ?_⟩, ?_⟩) | (with_reducible refine ex_of (α := Nat) (i + 1) ⟨?_, ?_⟩ ?_) | (with_reducible first | exact fun h => h | refine ExE.row (by with_unfolding_all rfl) ?_ | refine And.intro ?_ ?_) | ((with_reducible intro hq); first | exact bne1 hq (by with_reducible assumption) | exact bne1 (by with_reducible assumption) hq | ((simp only [*, BB, cond_true, cond_false, reduceCtorEq] at hq); done) | (revert hq; with_reducible intro _)) | (with_reducible first | exact True.intro | rfl | refine EntLe.row ?_ | exact LeN.ro rfl | exact LeN.rptr | assumption) | ((with_reducible first | refine WkX.chk ?_ | refine Wk.chk ?_ | refine LeL.chk ?_ | refine LeF.chk ?_ | refine Run.mk ?_); (conv => whnf)) | ((with_reducible show LeO _ _); first | refine LeO.ro ?_ | refine LeO.roCap ?_ | refine LeO.nil ?_ (fun _ => rfl)) | ((with_reducible show LeR _ _ _); first | refine LeR.own rfl rfl rfl ?_ | refine LeR.view rfl rfl rfl ?_ ?_ | refine LeR.ro ?_ | refine LeR.roCap ?_ | refine LeR.nil ?_ (fun _ => rfl)) | ((with_reducible first | show drawOK _ _ = true | show lateOK _ _ = true | show drawOK2 _ _ = true | show drawOK3 _ _ = true); kernel_rfl))
      all_goals first
        | omega
        | (apply Fits.i64 <;> omega)
        | (show b - (i + 1) < b - i; omega)
        | (rw [hst]; done)
        | trace_state
    rw [List.concat_eq_append] at hx n1 n2 ⊢
    have hpl : ((P ++ [z]).length : Nat) = P.length + 1 := by simp
    have hgt : decide ((a : Int) < ((a + (P ++ [z]).length : Nat) : Int)) = true := decide_eq_true (by omega)
    have e1 : (((a + (P ++ [z]).length : Nat) : Int)).toNat = a + P.length + 1 := by omega
    have e2 : (((a + (P ++ [z]).length : Nat) : Int) - 1).toNat = a + P.length := by omega
    have ga := hx.at (by omega) (by omega)
    rw [hpl, ← Nat.add_assoc] at ga
    have gz := Ins.at1 (d := zS) (l := l) (a := a) (i := i) (P := P) (z := z) (Q := Q) (by omega) (by omega)
    have hsw := insC_swap (d := zS) (l := l) (a := a) (i := i) (P := P) (z := z) (Q := Q) (by omega) (by omega) (j := a + P.length + 1) rfl
    rw [show a + P.length + 1 - 1 = a + P.length by omega] at hsw
    have kc : (decide ((a : Int) < ((a + (P ++ [z]).length : Nat) : Int)) && decide (cmpM ((insC zS l a i (P ++ [z]) Q).getD (((a + (P ++ [z]).length : Nat) : Int)).toNat C_spn.d) ((insC zS l a i (P ++ [z]) Q).getD ((((a + (P ++ [z]).length : Nat) : Int) - 1)).toNat C_spn.d) < 0)) = ltM (l.getD i zS) z := by
      rw [hgt, e1, e2, hd, ga, gz]
      rfl
    cases hc : ltM (l.getD i zS) z with
    | true =>
      have hst := hx.step hc
      rw [hc] at kc
      repeat' (first | (with_reducible refine ⟨(_, _), ⟨(.cons (.agg (.cons (.v _) (.cons (.v _) (.cons (.v _) (.cons (.v _) .nil))))) (.cons (.agg (.cons (.v _) (.cons (.v _) (.cons (.v _) (.cons (.v _) .nil))))) .nil)), ?_⟩, ?_⟩) | (with_reducible refine ex_of (α := List Spn × List Spn) (P, z :: Q) ⟨hst, ?_⟩ ?_) | (with_reducible first | exact fun h => h | refine ExE.row (by with_unfolding_all rfl) ?_ | refine And.intro ?_ ?_) | ((with_reducible intro hq); first | exact bne1 hq (by with_reducible assumption) | exact bne1 (by with_reducible assumption) hq | ((simp only [*, BB, cond_true, cond_false, reduceCtorEq] at hq); done) | (revert hq; with_reducible intro _)) | (with_reducible first | exact True.intro | rfl | refine EntLe.row ?_ | exact LeN.ro rfl | exact LeN.rptr | assumption) | ((with_reducible first | refine WkX.chk ?_ | refine Wk.chk ?_ | refine LeL.chk ?_ | refine LeF.chk ?_ | refine Run.mk ?_); (conv => whnf)) | ((with_reducible show LeO _ _); first | refine LeO.ro ?_ | refine LeO.roCap ?_ | refine LeO.nil ?_ (fun _ => rfl)) | ((with_reducible show LeR _ _ _); first | refine LeR.own rfl rfl rfl ?_ | refine LeR.view rfl rfl rfl ?_ ?_ | refine LeR.ro ?_ | refine LeR.roCap ?_ | refine LeR.nil ?_ (fun _ => rfl)) | ((with_reducible first | show drawOK _ _ = true | show lateOK _ _ = true | show drawOK2 _ _ = true | show drawOK3 _ _ = true); kernel_rfl))
      all_goals (try simp only [e1, e2, hd, n2, List.length_set])
      all_goals first
        | omega
        | rfl
        | (apply Fits.i64 <;> omega)
        | (show P.length < (P ++ [z]).length; omega)
        | exact hsw
        | trace_state
    | false =>
      have hst := hx.stop (by omega) (by omega) (.inr ⟨P, z, rfl, hc⟩)
      rw [hc] at kc
      repeat' (first | (with_reducible refine ⟨(_, _), ⟨(.cons (.agg (.cons (.v _) (.cons (.v _) (.cons (.v _) (.cons (.v _) .nil))))) (.cons (.agg (.cons (.v _) (.cons (.v _) (.cons (.v _) (.cons (.v _) .nil))))) .nil)), ?_⟩, ?_⟩) | (with_reducible refine ex_of (α := Nat) (i + 1) ⟨?_, ?_⟩ ?_) | (with_reducible first | exact fun h => h | refine ExE.row (by with_unfolding_all rfl) ?_ | refine And.intro ?_ ?_) | ((with_reducible intro hq); first | exact bne1 hq (by with_reducible assumption) | exact bne1 (by with_reducible assumption) hq | ((simp only [*, BB, cond_true, cond_false, reduceCtorEq] at hq); done) | (revert hq; with_reducible intro _)) | (with_reducible first | exact True.intro | rfl | refine EntLe.row ?_ | exact LeN.ro rfl | exact LeN.rptr | assumption) | ((with_reducible first | refine WkX.chk ?_ | refine Wk.chk ?_ | refine LeL.chk ?_ | refine LeF.chk ?_ | refine Run.mk ?_); (conv => whnf)) | ((with_reducible show LeO _ _); first | refine LeO.ro ?_ | refine LeO.roCap ?_ | refine LeO.nil ?_ (fun _ => rfl)) | ((with_reducible show LeR _ _ _); first | refine LeR.own rfl rfl rfl ?_ | refine LeR.view rfl rfl rfl ?_ ?_ | refine LeR.ro ?_ | refine LeR.roCap ?_ | refine LeR.nil ?_ (fun _ => rfl)) | ((with_reducible first | show drawOK _ _ = true | show lateOK _ _ = true | show drawOK2 _ _ = true | show drawOK3 _ _ = true); kernel_rfl))
      all_goals (try simp only [e1, e2, hd, n2, List.length_set])
      all_goals first
        | omega
        | rfl
        | (apply Fits.i64 <;> omega)
        | (show b - (i + 1) < b - i; omega)
        | (rw [hst]; done)
        | trace_state
  obtain rfl : i = b := by omega
  have hlt : decide ((i : Int) < (i : Int)) = false := decide_eq_false (by omega)
  repeat' (first | (with_reducible first | exact fun h => h | refine ExE.row (by with_unfolding_all rfl) ?_ | refine And.intro ?_ ?_) | ((with_reducible intro hq); first | exact bne1 hq (by with_reducible assumption) | exact bne1 (by with_reducible assumption) hq | ((simp only [*, BB, cond_true, cond_false, reduceCtorEq] at hq); done) | (revert hq; with_reducible intro _)) | (with_reducible first | exact True.intro | rfl | refine EntLe.row ?_ | exact LeN.ro rfl | exact LeN.rptr | assumption) | ((with_reducible first | refine WkX.chk ?_ | refine Wk.chk ?_ | refine LeL.chk ?_ | refine LeF.chk ?_ | refine Run.mk ?_); (conv => whnf)) | ((with_reducible show LeO _ _); first | refine LeO.ro ?_ | refine LeO.roCap ?_ | refine LeO.nil ?_ (fun _ => rfl)) | ((with_reducible show LeR _ _ _); first | refine LeR.own rfl rfl rfl ?_ | refine LeR.view rfl rfl rfl ?_ ?_ | refine LeR.ro ?_ | refine LeR.roCap ?_ | refine LeR.nil ?_ (fun _ => rfl)) | ((with_reducible first | show drawOK _ _ = true | show lateOK _ _ = true | show drawOK2 _ _ = true | show drawOK3 _ _ = true); kernel_rfl))
  all_goals first
    | rfl
    | exact ⟨_, _, rfl, rfl⟩
    | trace_state
end Go.SX.Try
/- Contract of the library's merge in place, of spans: one, and a sorted row. (the order of a normal form) -/
namespace Go.SX.Try
open Go.Proofs Go.Proofs.Try Go.SX.Plain
set_option maxRecDepth 100000
set_option maxHeartbeats 0
set_option linter.unusedSimpArgs false
abbrev symAM : Int × Int × Int → List AV := fun (a, m, b) => [.v (.int .i64 a), .v (.int .i64 m), .v (.int .i64 b), .fn 116 []]
abbrev symFM : Int × Int × Int → List Spn → List Spn := fun (a, m, b) l => symR ltM l a.toNat m.toNat b.toNat
abbrev symPM : Int × Int × Int → List Spn → Prop := fun (a, m, b) l => ((0 ≤ a ∧ a < m ∧ m < b ∧ b ≤ l.length) ∧ l.length ≤ 1100000) ∧ Srt ltM (seg l a.toNat m.toNat) ∧ Srt ltM (seg l m.toNat b.toNat)
theorem conW_sym1_M : ConW prog 120 C_spn 71 symAM symFM (fun i l => symPM i l ∧ i.2.1 = i.1 + 1) := by
  refine ConW.of (by kernel_rfl) T_ok CdsOK.nil (.con con_made1 .nil) 3 [5] q_symM.1 q_symM.2.1 q_symM.2.2 (fun _ => rfl) (fun _ => .cons (.v _) (.cons (.v _) (.cons (.v _) (.cons (.fn _) .nil)))) fun i l hi => ?_
  obtain ⟨a, m, b⟩ := i
  obtain ⟨⟨⟨⟨h1, h2, h3, h4⟩, h5⟩, hA, hB⟩, hN⟩ := hi
  obtain ⟨a, rfl⟩ := Int.eq_ofNat_of_zero_le h1
  obtain ⟨m, rfl⟩ := Int.eq_ofNat_of_zero_le (show 0 ≤ m by omega)
  obtain ⟨b, rfl⟩ := Int.eq_ofNat_of_zero_le (show 0 ≤ b by omega)
  simp only [Int.toNat_natCast] at hA hB ⊢
  have hd : C_spn.d = zS := rfl
  have ea : ((a : Int)).toNat = a := Int.toNat_natCast _
  have em : ((m : Int)).toNat = m := Int.toNat_natCast _
  have hN : (m : Int) = (a : Int) + 1 := hN
  have hm1 : m = a + 1 := by omega
  have k1 : ((m : Int) - (a : Int) == 1) = true := by rw [beq_iff_eq]; omega
  repeat' (first | (with_reducible first | exact fun h => h | refine ExE.row (by with_unfolding_all rfl) ?_ | refine And.intro ?_ ?_) | ((with_reducible intro hq); first | exact bne1 hq (by with_reducible assumption) | exact bne1 (by with_reducible assumption) hq | ((simp only [*, BB, cond_true, cond_false, reduceCtorEq] at hq); done) | (revert hq; with_reducible intro _)) | (with_reducible first | exact True.intro | rfl | refine EntLe.row ?_ | exact LeN.ro rfl | exact LeN.rptr | assumption) | ((with_reducible first | refine WkX.chk ?_ | refine Wk.chk ?_ | refine LeL.chk ?_ | refine LeF.chk ?_ | refine Run.mk ?_); (conv => whnf)) | ((with_reducible show LeO _ _); first | refine LeO.ro ?_ | refine LeO.roCap ?_ | refine LeO.nil ?_ (fun _ => rfl)) | ((with_reducible show LeR _ _ _); first | refine LeR.own rfl rfl rfl ?_ | refine LeR.view rfl rfl rfl ?_ ?_ | refine LeR.ro ?_ | refine LeR.roCap ?_ | refine LeR.nil ?_ (fun _ => rfl)) | ((with_reducible first | show drawOK _ _ = true | show lateOK _ _ = true | show drawOK2 _ _ = true | show drawOK3 _ _ = true); kernel_rfl))
  any_goals (apply Fits.i64 <;> omega)
  refine loopI (Nat × Nat) [] (fun | (i, j) => [(10, .v (.int .i64 (i : Nat))), (11, .v (.int .i64 (j : Nat)))]) (fun _ => []) (fun | (i, j) => Bs1 ltM zS l a m b i j) (fun | (i, j) => j - i) (m, b) (Bs1.start l (by omega)) (Wk.chk ?_) fun x hx => ?_
  · ((conv => whnf); repeat' (first | (with_reducible first | exact fun h => h | refine ExE.row (by with_unfolding_all rfl) ?_ | refine And.intro ?_ ?_) | ((with_reducible intro hq); first | exact bne1 hq (by with_reducible assumption) | exact bne1 (by with_reducible assumption) hq | ((simp only [*, BB, cond_true, cond_false, reduceCtorEq] at hq); done) | (revert hq; with_reducible intro _)) | (with_reducible first | exact True.intro | rfl | refine EntLe.row ?_ | exact LeN.ro rfl | exact LeN.rptr | assumption) | ((with_reducible first | refine WkX.chk ?_ | refine Wk.chk ?_ | refine LeL.chk ?_ | refine LeF.chk ?_ | refine Run.mk ?_); (conv => whnf)) | ((with_reducible show LeO _ _); first | refine LeO.ro ?_ | refine LeO.roCap ?_ | refine LeO.nil ?_ (fun _ => rfl)) | ((with_reducible show LeR _ _ _); first | refine LeR.own rfl rfl rfl ?_ | refine LeR.view rfl rfl rfl ?_ ?_ | refine LeR.ro ?_ | refine LeR.roCap ?_ | refine LeR.nil ?_ (fun _ => rfl)) | ((with_reducible first | show drawOK _ _ = true | show lateOK _ _ = true | show drawOK2 _ _ = true | show drawOK3 _ _ = true); kernel_rfl)))
    all_goals rfl
  obtain ⟨i, j⟩ := x
  have hx : Bs1 ltM zS l a m b i j := hx
  obtain ⟨b1, b2, b3, _, _⟩ := id hx
  by_cases hij : i < j
  · have hlt : decide ((i : Int) < (j : Int)) = true := decide_eq_true (by omega)
    repeat' (first | (with_reducible first | exact fun h => h | refine ExE.row (by with_unfolding_all rfl) ?_ | refine And.intro ?_ ?_) | ((with_reducible intro hq); first | exact bne1 hq (by with_reducible assumption) | exact bne1 (by with_reducible assumption) hq | ((simp only [*, BB, cond_true, cond_false, reduceCtorEq] at hq); done) | (revert hq; with_reducible intro _)) | (with_reducible first | exact True.intro | rfl | refine EntLe.row ?_ | exact LeN.ro rfl | exact LeN.rptr | assumption) | ((with_reducible first | refine WkX.chk ?_ | refine Wk.chk ?_ | refine LeL.chk ?_ | refine LeF.chk ?_ | refine Run.mk ?_); (conv => whnf)) | ((with_reducible show LeO _ _); first | refine LeO.ro ?_ | refine LeO.roCap ?_ | refine LeO.nil ?_ (fun _ => rfl)) | ((with_reducible show LeR _ _ _); first | refine LeR.own rfl rfl rfl ?_ | refine LeR.view rfl rfl rfl ?_ ?_ | refine LeR.ro ?_ | refine LeR.roCap ?_ | refine LeR.nil ?_ (fun _ => rfl)) | ((with_reducible first | show drawOK _ _ = true | show lateOK _ _ = true | show drawOK2 _ _ = true | show drawOK3 _ _ = true); kernel_rfl))
    refine joinI Nat [] (fun h => [(12, .v (.int .i64 (h : Nat)))]) (fun _ => []) (fun h => h = (i + j) / 2) ?_ fun h hh => ?_
    · repeat' (first | (with_reducible refine ex_of (α := Nat) ((i + j) / 2) rfl ?_) | (with_reducible first | exact fun h => h | refine ExE.row (by with_unfolding_all rfl) ?_ | refine And.intro ?_ ?_) | ((with_reducible intro hq); first | exact bne1 hq (by with_reducible assumption) | exact bne1 (by with_reducible assumption) hq | ((simp only [*, BB, cond_true, cond_false, reduceCtorEq] at hq); done) | (revert hq; with_reducible intro _)) | (with_reducible first | exact True.intro | rfl | refine EntLe.row ?_ | exact LeN.ro rfl | exact LeN.rptr | assumption) | ((with_reducible first | refine WkX.chk ?_ | refine Wk.chk ?_ | refine LeL.chk ?_ | refine LeF.chk ?_ | refine Run.mk ?_); (conv => whnf)) | ((with_reducible show LeO _ _); first | refine LeO.ro ?_ | refine LeO.roCap ?_ | refine LeO.nil ?_ (fun _ => rfl)) | ((with_reducible show LeR _ _ _); first | refine LeR.own rfl rfl rfl ?_ | refine LeR.view rfl rfl rfl ?_ ?_ | refine LeR.ro ?_ | refine LeR.roCap ?_ | refine LeR.nil ?_ (fun _ => rfl)) | ((with_reducible first | show drawOK _ _ = true | show lateOK _ _ = true | show drawOK2 _ _ = true | show drawOK3 _ _ = true); kernel_rfl))
      all_goals first
        | (apply Fits.i64 <;> omega)
        | (rw [half_eq]; apply Fits.i64 <;> omega)
        | (apply Go.SX.Try.Fits.u64 <;> omega)
        | omega
        | decide
        | exact congrArg (fun z => AV.v (Value.int IntKind.i64 z)) (half_eq i j)
        | exact half_eq i j
        | trace_state
    have hh : h = (i + j) / 2 := hh
    obtain ⟨u1, u2⟩ : i ≤ h ∧ h < j := by omega
    have e0 : ((h : Int)).toNat = h := Int.toNat_natCast _
    have kc : decide (cmpM (l.getD ((h : Int)).toNat C_spn.d) (l.getD ((a : Int)).toNat C_spn.d) < 0) = ltM (l.getD h zS) (l.getD a zS) := by
      rw [e0, ea, hd]
      rfl
    cases hc : ltM (l.getD h zS) (l.getD a zS) with
    | true =>
      rw [hc] at kc
      have hx2 := hx.up ordM (by omega) hB hh hij hc
      clear hh
      repeat' (first | (with_reducible refine ⟨(_, _), ⟨(.cons (.agg (.cons (.v _) (.cons (.v _) (.cons (.v _) (.cons (.v _) .nil))))) (.cons (.agg (.cons (.v _) (.cons (.v _) (.cons (.v _) (.cons (.v _) .nil))))) .nil)), ?_⟩, ?_⟩) | (with_reducible refine ex_of (α := Nat × Nat) (h + 1, j) ⟨hx2, ?_⟩ ?_) | (with_reducible first | exact fun h => h | refine ExE.row (by with_unfolding_all rfl) ?_ | refine And.intro ?_ ?_) | ((with_reducible intro hq); first | exact bne1 hq (by with_reducible assumption) | exact bne1 (by with_reducible assumption) hq | ((simp only [*, BB, cond_true, cond_false, reduceCtorEq] at hq); done) | (revert hq; with_reducible intro _)) | (with_reducible first | exact True.intro | rfl | refine EntLe.row ?_ | exact LeN.ro rfl | exact LeN.rptr | assumption) | ((with_reducible first | refine WkX.chk ?_ | refine Wk.chk ?_ | refine LeL.chk ?_ | refine LeF.chk ?_ | refine Run.mk ?_); (conv => whnf)) | ((with_reducible show LeO _ _); first | refine LeO.ro ?_ | refine LeO.roCap ?_ | refine LeO.nil ?_ (fun _ => rfl)) | ((with_reducible show LeR _ _ _); first | refine LeR.own rfl rfl rfl ?_ | refine LeR.view rfl rfl rfl ?_ ?_ | refine LeR.ro ?_ | refine LeR.roCap ?_ | refine LeR.nil ?_ (fun _ => rfl)) | ((with_reducible first | show drawOK _ _ = true | show lateOK _ _ = true | show drawOK2 _ _ = true | show drawOK3 _ _ = true); kernel_rfl))
      all_goals first
        | omega
        | rfl
        | (apply Fits.i64 <;> omega)
        | (show j - (h + 1) < j - i; omega)
        | trace_state
    | false =>
      rw [hc] at kc
      have hx2 := hx.down ordM (by omega) hB hh hij hc
      clear hh
      repeat' (first | (with_reducible refine ⟨(_, _), ⟨(.cons (.agg (.cons (.v _) (.cons (.v _) (.cons (.v _) (.cons (.v _) .nil))))) (.cons (.agg (.cons (.v _) (.cons (.v _) (.cons (.v _) (.cons (.v _) .nil))))) .nil)), ?_⟩, ?_⟩) | (with_reducible refine ex_of (α := Nat × Nat) (i, h) ⟨hx2, ?_⟩ ?_) | (with_reducible first | exact fun h => h | refine ExE.row (by with_unfolding_all rfl) ?_ | refine And.intro ?_ ?_) | ((with_reducible intro hq); first | exact bne1 hq (by with_reducible assumption) | exact bne1 (by with_reducible assumption) hq | ((simp only [*, BB, cond_true, cond_false, reduceCtorEq] at hq); done) | (revert hq; with_reducible intro _)) | (with_reducible first | exact True.intro | rfl | refine EntLe.row ?_ | exact LeN.ro rfl | exact LeN.rptr | assumption) | ((with_reducible first | refine WkX.chk ?_ | refine Wk.chk ?_ | refine LeL.chk ?_ | refine LeF.chk ?_ | refine Run.mk ?_); (conv => whnf)) | ((with_reducible show LeO _ _); first | refine LeO.ro ?_ | refine LeO.roCap ?_ | refine LeO.nil ?_ (fun _ => rfl)) | ((with_reducible show LeR _ _ _); first | refine LeR.own rfl rfl rfl ?_ | refine LeR.view rfl rfl rfl ?_ ?_ | refine LeR.ro ?_ | refine LeR.roCap ?_ | refine LeR.nil ?_ (fun _ => rfl)) | ((with_reducible first | show drawOK _ _ = true | show lateOK _ _ = true | show drawOK2 _ _ = true | show drawOK3 _ _ = true); kernel_rfl))
      all_goals first
        | omega
        | rfl
        | (apply Fits.i64 <;> omega)
        | (show h - i < j - i; omega)
        | trace_state
  obtain rfl : i = j := by omega
  have hlt : decide ((i : Int) < (i : Int)) = false := decide_eq_false (by omega)
  have hdn := hx.done hm1 (by omega) hB
  repeat' (first | (with_reducible first | exact fun h => h | refine ExE.row (by with_unfolding_all rfl) ?_ | refine And.intro ?_ ?_) | ((with_reducible intro hq); first | exact bne1 hq (by with_reducible assumption) | exact bne1 (by with_reducible assumption) hq | ((simp only [*, BB, cond_true, cond_false, reduceCtorEq] at hq); done) | (revert hq; with_reducible intro _)) | (with_reducible first | exact True.intro | rfl | refine EntLe.row ?_ | exact LeN.ro rfl | exact LeN.rptr | assumption) | ((with_reducible first | refine WkX.chk ?_ | refine Wk.chk ?_ | refine LeL.chk ?_ | refine LeF.chk ?_ | refine Run.mk ?_); (conv => whnf)) | ((with_reducible show LeO _ _); first | refine LeO.ro ?_ | refine LeO.roCap ?_ | refine LeO.nil ?_ (fun _ => rfl)) | ((with_reducible show LeR _ _ _); first | refine LeR.own rfl rfl rfl ?_ | refine LeR.view rfl rfl rfl ?_ ?_ | refine LeR.ro ?_ | refine LeR.roCap ?_ | refine LeR.nil ?_ (fun _ => rfl)) | ((with_reducible first | show drawOK _ _ = true | show lateOK _ _ = true | show drawOK2 _ _ = true | show drawOK3 _ _ = true); kernel_rfl))
  refine loopI Nat [] (fun k => [(13, .v (.int .i64 (k : Nat)))]) (fun k => [(0, .row C_spn (mov1 zS l a k) 71 none)]) (fun k => a ≤ k ∧ k ≤ i - 1) (fun k => i - 1 - k) a ⟨Nat.le_refl _, by omega⟩ (Wk.chk ?_) fun k hk => ?_
  · ((conv => whnf); repeat' (first | (with_reducible first | exact fun h => h | refine ExE.row (by with_unfolding_all rfl) ?_ | refine And.intro ?_ ?_) | ((with_reducible intro hq); first | exact bne1 hq (by with_reducible assumption) | exact bne1 (by with_reducible assumption) hq | ((simp only [*, BB, cond_true, cond_false, reduceCtorEq] at hq); done) | (revert hq; with_reducible intro _)) | (with_reducible first | exact True.intro | rfl | refine EntLe.row ?_ | exact LeN.ro rfl | exact LeN.rptr | assumption) | ((with_reducible first | refine WkX.chk ?_ | refine Wk.chk ?_ | refine LeL.chk ?_ | refine LeF.chk ?_ | refine Run.mk ?_); (conv => whnf)) | ((with_reducible show LeO _ _); first | refine LeO.ro ?_ | refine LeO.roCap ?_ | refine LeO.nil ?_ (fun _ => rfl)) | ((with_reducible show LeR _ _ _); first | refine LeR.own rfl rfl rfl ?_ | refine LeR.view rfl rfl rfl ?_ ?_ | refine LeR.ro ?_ | refine LeR.roCap ?_ | refine LeR.nil ?_ (fun _ => rfl)) | ((with_reducible first | show drawOK _ _ = true | show lateOK _ _ = true | show drawOK2 _ _ = true | show drawOK3 _ _ = true); kernel_rfl)))
    all_goals first
      | rfl
      | (rw [mov1_start (by omega)]; done)
  obtain ⟨c1, c2⟩ := hk
  have hln := mov1_len (d := zS) (l := l) (a := a) (k := k) c1 (by omega)
  have e1 : ((k : Int)).toNat = k := Int.toNat_natCast _
  have e2 : ((k : Int) + 1).toNat = k + 1 := by omega
  have hst := mov1_step (d := zS) (l := l) (a := a) (k := k) c1
  repeat' (first | (with_reducible refine ex_of (α := Nat) (k + 1) ⟨?_, ?_⟩ ?_) | (with_reducible first | exact fun h => h | refine ExE.row (by with_unfolding_all rfl) ?_ | refine And.intro ?_ ?_) | ((with_reducible intro hq); first | exact bne1 hq (by with_reducible assumption) | exact bne1 (by with_reducible assumption) hq | ((simp only [*, BB, cond_true, cond_false, reduceCtorEq] at hq); done) | (revert hq; with_reducible intro _)) | (with_reducible first | exact True.intro | rfl | refine EntLe.row ?_ | exact LeN.ro rfl | exact LeN.rptr | assumption) | ((with_reducible first | refine WkX.chk ?_ | refine Wk.chk ?_ | refine LeL.chk ?_ | refine LeF.chk ?_ | refine Run.mk ?_); (conv => whnf)) | ((with_reducible show LeO _ _); first | refine LeO.ro ?_ | refine LeO.roCap ?_ | refine LeO.nil ?_ (fun _ => rfl)) | ((with_reducible show LeR _ _ _); first | refine LeR.own rfl rfl rfl ?_ | refine LeR.view rfl rfl rfl ?_ ?_ | refine LeR.ro ?_ | refine LeR.roCap ?_ | refine LeR.nil ?_ (fun _ => rfl)) | ((with_reducible first | show drawOK _ _ = true | show lateOK _ _ = true | show drawOK2 _ _ = true | show drawOK3 _ _ = true); kernel_rfl))
  all_goals (try simp only [e1, e2, hd, hln, List.length_set, decide_eq_true_eq, decide_eq_false_iff_not] at *)
  all_goals first
    | omega
    | rfl
    | (apply Fits.i64 <;> omega)
    | (show i - 1 - (k + 1) < i - 1 - k; omega)
    | exact hst (by omega)
    | (refine ⟨_, _, rfl, ?_⟩; obtain rfl : k = i - 1 := by omega
       exact hdn)
    | trace_state
end Go.SX.Try
/- Contract of the library's merge in place, of spans: a sorted row, and one. (the order of a normal form) -/
namespace Go.SX.Try
open Go.Proofs Go.Proofs.Try Go.SX.Plain
set_option maxRecDepth 100000
set_option maxHeartbeats 0
set_option linter.unusedSimpArgs false
theorem conW_sym2_M : ConW prog 120 C_spn 71 symAM symFM (fun i l => symPM i l ∧ ¬ i.2.1 = i.1 + 1 ∧ i.2.2 = i.2.1 + 1) := by
  refine ConW.of (by kernel_rfl) T_ok CdsOK.nil (.con con_made1 .nil) 3 [17] q_symM.1 q_symM.2.1 q_symM.2.2 (fun _ => rfl) (fun _ => .cons (.v _) (.cons (.v _) (.cons (.v _) (.cons (.fn _) .nil)))) fun i l hi => ?_
  obtain ⟨a, m, b⟩ := i
  obtain ⟨⟨⟨⟨h1, h2, h3, h4⟩, h5⟩, hA, hB⟩, hN⟩ := hi
  obtain ⟨a, rfl⟩ := Int.eq_ofNat_of_zero_le h1
  obtain ⟨m, rfl⟩ := Int.eq_ofNat_of_zero_le (show 0 ≤ m by omega)
  obtain ⟨b, rfl⟩ := Int.eq_ofNat_of_zero_le (show 0 ≤ b by omega)
  simp only [Int.toNat_natCast] at hA hB ⊢
  have hd : C_spn.d = zS := rfl
  have ea : ((a : Int)).toNat = a := Int.toNat_natCast _
  have em : ((m : Int)).toNat = m := Int.toNat_natCast _
  have hN : ¬ (m : Int) = (a : Int) + 1 ∧ (b : Int) = (m : Int) + 1 := hN
  have k1 : ((m : Int) - (a : Int) == 1) = false := by rw [Bool.eq_false_iff, Ne, beq_iff_eq]; omega
  have hm2 : b = m + 1 := by omega
  have k2 : ((b : Int) - (m : Int) == 1) = true := by rw [beq_iff_eq]; omega
  repeat' (first | (with_reducible first | exact fun h => h | refine ExE.row (by with_unfolding_all rfl) ?_ | refine And.intro ?_ ?_) | ((with_reducible intro hq); first | exact bne1 hq (by with_reducible assumption) | exact bne1 (by with_reducible assumption) hq | ((simp only [*, BB, cond_true, cond_false, reduceCtorEq] at hq); done) | (revert hq; with_reducible intro _)) | (with_reducible first | exact True.intro | rfl | refine EntLe.row ?_ | exact LeN.ro rfl | exact LeN.rptr | assumption) | ((with_reducible first | refine WkX.chk ?_ | refine Wk.chk ?_ | refine LeL.chk ?_ | refine LeF.chk ?_ | refine Run.mk ?_); (conv => whnf)) | ((with_reducible show LeO _ _); first | refine LeO.ro ?_ | refine LeO.roCap ?_ | refine LeO.nil ?_ (fun _ => rfl)) | ((with_reducible show LeR _ _ _); first | refine LeR.own rfl rfl rfl ?_ | refine LeR.view rfl rfl rfl ?_ ?_ | refine LeR.ro ?_ | refine LeR.roCap ?_ | refine LeR.nil ?_ (fun _ => rfl)) | ((with_reducible first | show drawOK _ _ = true | show lateOK _ _ = true | show drawOK2 _ _ = true | show drawOK3 _ _ = true); kernel_rfl))
  any_goals (apply Fits.i64 <;> omega)
  refine loopI (Nat × Nat) [] (fun | (i, j) => [(14, .v (.int .i64 (i : Nat))), (15, .v (.int .i64 (j : Nat)))]) (fun _ => []) (fun | (i, j) => Bs2 ltM zS l a m i j) (fun | (i, j) => j - i) (a, m) (Bs2.start l (by omega)) (Wk.chk ?_) fun x hx => ?_
  · ((conv => whnf); repeat' (first | (with_reducible first | exact fun h => h | refine ExE.row (by with_unfolding_all rfl) ?_ | refine And.intro ?_ ?_) | ((with_reducible intro hq); first | exact bne1 hq (by with_reducible assumption) | exact bne1 (by with_reducible assumption) hq | ((simp only [*, BB, cond_true, cond_false, reduceCtorEq] at hq); done) | (revert hq; with_reducible intro _)) | (with_reducible first | exact True.intro | rfl | refine EntLe.row ?_ | exact LeN.ro rfl | exact LeN.rptr | assumption) | ((with_reducible first | refine WkX.chk ?_ | refine Wk.chk ?_ | refine LeL.chk ?_ | refine LeF.chk ?_ | refine Run.mk ?_); (conv => whnf)) | ((with_reducible show LeO _ _); first | refine LeO.ro ?_ | refine LeO.roCap ?_ | refine LeO.nil ?_ (fun _ => rfl)) | ((with_reducible show LeR _ _ _); first | refine LeR.own rfl rfl rfl ?_ | refine LeR.view rfl rfl rfl ?_ ?_ | refine LeR.ro ?_ | refine LeR.roCap ?_ | refine LeR.nil ?_ (fun _ => rfl)) | ((with_reducible first | show drawOK _ _ = true | show lateOK _ _ = true | show drawOK2 _ _ = true | show drawOK3 _ _ = true); kernel_rfl)))
    all_goals rfl
  obtain ⟨i, j⟩ := x
  have hx : Bs2 ltM zS l a m i j := hx
  obtain ⟨b1, b2, b3, _, _⟩ := id hx
  by_cases hij : i < j
  · have hlt : decide ((i : Int) < (j : Int)) = true := decide_eq_true (by omega)
    repeat' (first | (with_reducible first | exact fun h => h | refine ExE.row (by with_unfolding_all rfl) ?_ | refine And.intro ?_ ?_) | ((with_reducible intro hq); first | exact bne1 hq (by with_reducible assumption) | exact bne1 (by with_reducible assumption) hq | ((simp only [*, BB, cond_true, cond_false, reduceCtorEq] at hq); done) | (revert hq; with_reducible intro _)) | (with_reducible first | exact True.intro | rfl | refine EntLe.row ?_ | exact LeN.ro rfl | exact LeN.rptr | assumption) | ((with_reducible first | refine WkX.chk ?_ | refine Wk.chk ?_ | refine LeL.chk ?_ | refine LeF.chk ?_ | refine Run.mk ?_); (conv => whnf)) | ((with_reducible show LeO _ _); first | refine LeO.ro ?_ | refine LeO.roCap ?_ | refine LeO.nil ?_ (fun _ => rfl)) | ((with_reducible show LeR _ _ _); first | refine LeR.own rfl rfl rfl ?_ | refine LeR.view rfl rfl rfl ?_ ?_ | refine LeR.ro ?_ | refine LeR.roCap ?_ | refine LeR.nil ?_ (fun _ => rfl)) | ((with_reducible first | show drawOK _ _ = true | show lateOK _ _ = true | show drawOK2 _ _ = true | show drawOK3 _ _ = true); kernel_rfl))
    refine joinI Nat [] (fun h => [(16, .v (.int .i64 (h : Nat)))]) (fun _ => []) (fun h => h = (i + j) / 2) ?_ fun h hh => ?_
    · repeat' (first | (with_reducible refine ex_of (α := Nat) ((i + j) / 2) rfl ?_) | (with_reducible first | exact fun h => h | refine ExE.row (by with_unfolding_all rfl) ?_ | refine And.intro ?_ ?_) | ((with_reducible intro hq); first | exact bne1 hq (by with_reducible assumption) | exact bne1 (by with_reducible assumption) hq | ((simp only [*, BB, cond_true, cond_false, reduceCtorEq] at hq); done) | (revert hq; with_reducible intro _)) | (with_reducible first | exact True.intro | rfl | refine EntLe.row ?_ | exact LeN.ro rfl | exact LeN.rptr | assumption) | ((with_reducible first | refine WkX.chk ?_ | refine Wk.chk ?_ | refine LeL.chk ?_ | refine LeF.chk ?_ | refine Run.mk ?_); (conv => whnf)) | ((with_reducible show LeO _ _); first | refine LeO.ro ?_ | refine LeO.roCap ?_ | refine LeO.nil ?_ (fun _ => rfl)) | ((with_reducible show LeR _ _ _); first | refine LeR.own rfl rfl rfl ?_ | refine LeR.view rfl rfl rfl ?_ ?_ | refine LeR.ro ?_ | refine LeR.roCap ?_ | refine LeR.nil ?_ (fun _ => rfl)) | ((with_reducible first | show drawOK _ _ = true | show lateOK _ _ = true | show drawOK2 _ _ = true | show drawOK3 _ _ = true); kernel_rfl))
      all_goals first
        | (apply Fits.i64 <;> omega)
        | (rw [half_eq]; apply Fits.i64 <;> omega)
        | (apply Go.SX.Try.Fits.u64 <;> omega)
        | omega
        | decide
        | exact congrArg (fun z => AV.v (Value.int IntKind.i64 z)) (half_eq i j)
        | exact half_eq i j
        | trace_state
    have hh : h = (i + j) / 2 := hh
    obtain ⟨u1, u2⟩ : i ≤ h ∧ h < j := by omega
    have e0 : ((h : Int)).toNat = h := Int.toNat_natCast _
    have kc : (!decide (cmpM (l.getD ((m : Int)).toNat C_spn.d) (l.getD ((h : Int)).toNat C_spn.d) < 0)) = !ltM (l.getD m zS) (l.getD h zS) := by
      rw [e0, em, hd]
      rfl
    cases hc : ltM (l.getD m zS) (l.getD h zS) with
    | true =>
      rw [hc] at kc
      have kc : (!decide (cmpM (l.getD ((m : Int)).toNat C_spn.d) (l.getD ((h : Int)).toNat C_spn.d) < 0)) = false := kc
      have hx2 := hx.down ordM (by omega) hA hh hij hc
      clear hh
      repeat' (first | (with_reducible refine ⟨(_, _), ⟨(.cons (.agg (.cons (.v _) (.cons (.v _) (.cons (.v _) (.cons (.v _) .nil))))) (.cons (.agg (.cons (.v _) (.cons (.v _) (.cons (.v _) (.cons (.v _) .nil))))) .nil)), ?_⟩, ?_⟩) | (with_reducible refine ex_of (α := Nat × Nat) (i, h) ⟨hx2, ?_⟩ ?_) | (with_reducible first | exact fun h => h | refine ExE.row (by with_unfolding_all rfl) ?_ | refine And.intro ?_ ?_) | ((with_reducible intro hq); first | exact bne1 hq (by with_reducible assumption) | exact bne1 (by with_reducible assumption) hq | ((simp only [*, BB, cond_true, cond_false, reduceCtorEq] at hq); done) | (revert hq; with_reducible intro _)) | (with_reducible first | exact True.intro | rfl | refine EntLe.row ?_ | exact LeN.ro rfl | exact LeN.rptr | assumption) | ((with_reducible first | refine WkX.chk ?_ | refine Wk.chk ?_ | refine LeL.chk ?_ | refine LeF.chk ?_ | refine Run.mk ?_); (conv => whnf)) | ((with_reducible show LeO _ _); first | refine LeO.ro ?_ | refine LeO.roCap ?_ | refine LeO.nil ?_ (fun _ => rfl)) | ((with_reducible show LeR _ _ _); first | refine LeR.own rfl rfl rfl ?_ | refine LeR.view rfl rfl rfl ?_ ?_ | refine LeR.ro ?_ | refine LeR.roCap ?_ | refine LeR.nil ?_ (fun _ => rfl)) | ((with_reducible first | show drawOK _ _ = true | show lateOK _ _ = true | show drawOK2 _ _ = true | show drawOK3 _ _ = true); kernel_rfl))
      all_goals first
        | omega
        | rfl
        | (apply Fits.i64 <;> omega)
        | (show h - i < j - i; omega)
        | trace_state
    | false =>
      rw [hc] at kc
      have kc : (!decide (cmpM (l.getD ((m : Int)).toNat C_spn.d) (l.getD ((h : Int)).toNat C_spn.d) < 0)) = true := kc
      have hx2 := hx.up ordM (by omega) hA hh hij hc
      clear hh
      repeat' (first | (with_reducible refine ⟨(_, _), ⟨(.cons (.agg (.cons (.v _) (.cons (.v _) (.cons (.v _) (.cons (.v _) .nil))))) (.cons (.agg (.cons (.v _) (.cons (.v _) (.cons (.v _) (.cons (.v _) .nil))))) .nil)), ?_⟩, ?_⟩) | (with_reducible refine ex_of (α := Nat × Nat) (h + 1, j) ⟨hx2, ?_⟩ ?_) | (with_reducible first | exact fun h => h | refine ExE.row (by with_unfolding_all rfl) ?_ | refine And.intro ?_ ?_) | ((with_reducible intro hq); first | exact bne1 hq (by with_reducible assumption) | exact bne1 (by with_reducible assumption) hq | ((simp only [*, BB, cond_true, cond_false, reduceCtorEq] at hq); done) | (revert hq; with_reducible intro _)) | (with_reducible first | exact True.intro | rfl | refine EntLe.row ?_ | exact LeN.ro rfl | exact LeN.rptr | assumption) | ((with_reducible first | refine WkX.chk ?_ | refine Wk.chk ?_ | refine LeL.chk ?_ | refine LeF.chk ?_ | refine Run.mk ?_); (conv => whnf)) | ((with_reducible show LeO _ _); first | refine LeO.ro ?_ | refine LeO.roCap ?_ | refine LeO.nil ?_ (fun _ => rfl)) | ((with_reducible show LeR _ _ _); first | refine LeR.own rfl rfl rfl ?_ | refine LeR.view rfl rfl rfl ?_ ?_ | refine LeR.ro ?_ | refine LeR.roCap ?_ | refine LeR.nil ?_ (fun _ => rfl)) | ((with_reducible first | show drawOK _ _ = true | show lateOK _ _ = true | show drawOK2 _ _ = true | show drawOK3 _ _ = true); kernel_rfl))
      all_goals first
        | omega
        | rfl
        | (apply Fits.i64 <;> omega)
        | (show j - (h + 1) < j - i; omega)
        | trace_state
  obtain rfl : i = j := by omega
  have hlt : decide ((i : Int) < (i : Int)) = false := decide_eq_false (by omega)
  have hdn := hx.done hm2 (by omega)
  repeat' (first | (with_reducible first | exact fun h => h | refine ExE.row (by with_unfolding_all rfl) ?_ | refine And.intro ?_ ?_) | ((with_reducible intro hq); first | exact bne1 hq (by with_reducible assumption) | exact bne1 (by with_reducible assumption) hq | ((simp only [*, BB, cond_true, cond_false, reduceCtorEq] at hq); done) | (revert hq; with_reducible intro _)) | (with_reducible first | exact True.intro | rfl | refine EntLe.row ?_ | exact LeN.ro rfl | exact LeN.rptr | assumption) | ((with_reducible first | refine WkX.chk ?_ | refine Wk.chk ?_ | refine LeL.chk ?_ | refine LeF.chk ?_ | refine Run.mk ?_); (conv => whnf)) | ((with_reducible show LeO _ _); first | refine LeO.ro ?_ | refine LeO.roCap ?_ | refine LeO.nil ?_ (fun _ => rfl)) | ((with_reducible show LeR _ _ _); first | refine LeR.own rfl rfl rfl ?_ | refine LeR.view rfl rfl rfl ?_ ?_ | refine LeR.ro ?_ | refine LeR.roCap ?_ | refine LeR.nil ?_ (fun _ => rfl)) | ((with_reducible first | show drawOK _ _ = true | show lateOK _ _ = true | show drawOK2 _ _ = true | show drawOK3 _ _ = true); kernel_rfl))
  refine loopI Nat [] (fun k => [(17, .v (.int .i64 (k : Nat)))]) (fun k => [(0, .row C_spn (mov2 zS l m k) 71 none)]) (fun k => i ≤ k ∧ k ≤ m) (fun k => k - i) m ⟨by omega, Nat.le_refl _⟩ (Wk.chk ?_) fun k hk => ?_
  · ((conv => whnf); repeat' (first | (with_reducible first | exact fun h => h | refine ExE.row (by with_unfolding_all rfl) ?_ | refine And.intro ?_ ?_) | ((with_reducible intro hq); first | exact bne1 hq (by with_reducible assumption) | exact bne1 (by with_reducible assumption) hq | ((simp only [*, BB, cond_true, cond_false, reduceCtorEq] at hq); done) | (revert hq; with_reducible intro _)) | (with_reducible first | exact True.intro | rfl | refine EntLe.row ?_ | exact LeN.ro rfl | exact LeN.rptr | assumption) | ((with_reducible first | refine WkX.chk ?_ | refine Wk.chk ?_ | refine LeL.chk ?_ | refine LeF.chk ?_ | refine Run.mk ?_); (conv => whnf)) | ((with_reducible show LeO _ _); first | refine LeO.ro ?_ | refine LeO.roCap ?_ | refine LeO.nil ?_ (fun _ => rfl)) | ((with_reducible show LeR _ _ _); first | refine LeR.own rfl rfl rfl ?_ | refine LeR.view rfl rfl rfl ?_ ?_ | refine LeR.ro ?_ | refine LeR.roCap ?_ | refine LeR.nil ?_ (fun _ => rfl)) | ((with_reducible first | show drawOK _ _ = true | show lateOK _ _ = true | show drawOK2 _ _ = true | show drawOK3 _ _ = true); kernel_rfl)))
    all_goals first
      | rfl
      | (rw [mov2_start (by omega)]; done)
  obtain ⟨c1, c2⟩ := hk
  have hln := mov2_len (d := zS) (l := l) (m := m) (k := k) c2 (by omega)
  have e1 : ((k : Int)).toNat = k := Int.toNat_natCast _
  have e2 : ((k : Int) - 1).toNat = k - 1 := by omega
  have hst : i < k → ((mov2 zS l m k).set k ((mov2 zS l m k).getD (k - 1) zS)).set (k - 1) ((mov2 zS l m k).getD k zS) = mov2 zS l m (k - 1) := fun h => by
    obtain ⟨q, rfl⟩ : ∃ q, k = q + 1 := ⟨k - 1, by omega⟩
    exact mov2_step (by omega) (by omega)
  repeat' (first | (with_reducible refine ex_of (α := Nat) (k - 1) ⟨?_, ?_⟩ ?_) | (with_reducible first | exact fun h => h | refine ExE.row (by with_unfolding_all rfl) ?_ | refine And.intro ?_ ?_) | ((with_reducible intro hq); first | exact bne1 hq (by with_reducible assumption) | exact bne1 (by with_reducible assumption) hq | ((simp only [*, BB, cond_true, cond_false, reduceCtorEq] at hq); done) | (revert hq; with_reducible intro _)) | (with_reducible first | exact True.intro | rfl | refine EntLe.row ?_ | exact LeN.ro rfl | exact LeN.rptr | assumption) | ((with_reducible first | refine WkX.chk ?_ | refine Wk.chk ?_ | refine LeL.chk ?_ | refine LeF.chk ?_ | refine Run.mk ?_); (conv => whnf)) | ((with_reducible show LeO _ _); first | refine LeO.ro ?_ | refine LeO.roCap ?_ | refine LeO.nil ?_ (fun _ => rfl)) | ((with_reducible show LeR _ _ _); first | refine LeR.own rfl rfl rfl ?_ | refine LeR.view rfl rfl rfl ?_ ?_ | refine LeR.ro ?_ | refine LeR.roCap ?_ | refine LeR.nil ?_ (fun _ => rfl)) | ((with_reducible first | show drawOK _ _ = true | show lateOK _ _ = true | show drawOK2 _ _ = true | show drawOK3 _ _ = true); kernel_rfl))
  all_goals (try simp only [e1, e2, hd, hln, List.length_set, decide_eq_true_eq, decide_eq_false_iff_not] at *)
  all_goals first
    | omega
    | rfl
    | (apply Fits.i64 <;> omega)
    | (show k - 1 - i < k - i; omega)
    | exact hst (by omega)
    | (refine ⟨_, _, rfl, ?_⟩; obtain rfl : k = i := by omega
       exact hdn)
    | trace_state
end Go.SX.Try
/- Contract of the library's merge in place, of spans: two halves; all cases. (the order of a normal form) -/
namespace Go.SX.Try
open Go.Proofs Go.Proofs.Try Go.SX.Plain
set_option maxRecDepth 100000
set_option maxHeartbeats 0
set_option linter.unusedSimpArgs false
theorem conW_sym3_M {N : Nat} (ih : ConW prog 120 C_spn 71 symAM symFM (fun i l => symPM i l ∧ i.2.2 - i.1 ≤ (N : Int))) : ConW prog 120 C_spn 71 symAM symFM (fun i l => symPM i l ∧ (¬ i.2.1 = i.1 + 1 ∧ ¬ i.2.2 = i.2.1 + 1) ∧ i.2.2 - i.1 ≤ ((N + 1 : Nat) : Int)) := by
  refine ConW.of (by kernel_rfl) T_ok CdsOK.nil (.con con_made1 (.conw ih (.conw conW_rotate .nil))) 3 [25, 32, 35, 41, 43] q_symM.1 q_symM.2.1 q_symM.2.2 (fun _ => rfl) (fun _ => .cons (.v _) (.cons (.v _) (.cons (.v _) (.cons (.fn _) .nil)))) fun i l hi => ?_
  obtain ⟨a, m, b⟩ := i
  obtain ⟨⟨⟨⟨h1, h2, h3, h4⟩, h5⟩, hA, hB⟩, hN⟩ := hi
  obtain ⟨a, rfl⟩ := Int.eq_ofNat_of_zero_le h1
  obtain ⟨m, rfl⟩ := Int.eq_ofNat_of_zero_le (show 0 ≤ m by omega)
  obtain ⟨b, rfl⟩ := Int.eq_ofNat_of_zero_le (show 0 ≤ b by omega)
  simp only [Int.toNat_natCast] at hA hB ⊢
  have hd : C_spn.d = zS := rfl
  have ea : ((a : Int)).toNat = a := Int.toNat_natCast _
  have em : ((m : Int)).toNat = m := Int.toNat_natCast _
  have eb : ((b : Int)).toNat = b := Int.toNat_natCast _
  have hN : (¬ (m : Int) = (a : Int) + 1 ∧ ¬ (b : Int) = (m : Int) + 1) ∧ (b : Int) - (a : Int) ≤ ((N + 1 : Nat) : Int) := hN
  have k1 : ((m : Int) - (a : Int) == 1) = false := by rw [Bool.eq_false_iff, Ne, beq_iff_eq]; omega
  have k2 : ((b : Int) - (m : Int) == 1) = false := by rw [Bool.eq_false_iff, Ne, beq_iff_eq]; omega
  repeat' (first | (with_reducible first | exact fun h => h | refine ExE.row (by with_unfolding_all rfl) ?_ | refine And.intro ?_ ?_) | ((with_reducible intro hq); first | exact bne1 hq (by with_reducible assumption) | exact bne1 (by with_reducible assumption) hq | ((simp only [*, BB, cond_true, cond_false, reduceCtorEq] at hq); done) | (revert hq; with_reducible intro _)) | (with_reducible first | exact True.intro | rfl | refine EntLe.row ?_ | exact LeN.ro rfl | exact LeN.rptr | assumption) | ((with_reducible first | refine WkX.chk ?_ | refine Wk.chk ?_ | refine LeL.chk ?_ | refine LeF.chk ?_ | refine Run.mk ?_); (conv => whnf)) | ((with_reducible show LeO _ _); first | refine LeO.ro ?_ | refine LeO.roCap ?_ | refine LeO.nil ?_ (fun _ => rfl)) | ((with_reducible show LeR _ _ _); first | refine LeR.own rfl rfl rfl ?_ | refine LeR.view rfl rfl rfl ?_ ?_ | refine LeR.ro ?_ | refine LeR.roCap ?_ | refine LeR.nil ?_ (fun _ => rfl)) | ((with_reducible first | show drawOK _ _ = true | show lateOK _ _ = true | show drawOK2 _ _ = true | show drawOK3 _ _ = true); kernel_rfl))
  any_goals (apply Fits.i64 <;> omega)
  refine joinI Nat [] (fun h => [(18, .v (.int .i64 (h : Nat)))]) (fun _ => []) (fun h => h = (a + b) / 2) ?_ fun mid hmid => ?_
  · repeat' (first | (with_reducible refine ex_of (α := Nat) ((a + b) / 2) rfl ?_) | (with_reducible first | exact fun h => h | refine ExE.row (by with_unfolding_all rfl) ?_ | refine And.intro ?_ ?_) | ((with_reducible intro hq); first | exact bne1 hq (by with_reducible assumption) | exact bne1 (by with_reducible assumption) hq | ((simp only [*, BB, cond_true, cond_false, reduceCtorEq] at hq); done) | (revert hq; with_reducible intro _)) | (with_reducible first | exact True.intro | rfl | refine EntLe.row ?_ | exact LeN.ro rfl | exact LeN.rptr | assumption) | ((with_reducible first | refine WkX.chk ?_ | refine Wk.chk ?_ | refine LeL.chk ?_ | refine LeF.chk ?_ | refine Run.mk ?_); (conv => whnf)) | ((with_reducible show LeO _ _); first | refine LeO.ro ?_ | refine LeO.roCap ?_ | refine LeO.nil ?_ (fun _ => rfl)) | ((with_reducible show LeR _ _ _); first | refine LeR.own rfl rfl rfl ?_ | refine LeR.view rfl rfl rfl ?_ ?_ | refine LeR.ro ?_ | refine LeR.roCap ?_ | refine LeR.nil ?_ (fun _ => rfl)) | ((with_reducible first | show drawOK _ _ = true | show lateOK _ _ = true | show drawOK2 _ _ = true | show drawOK3 _ _ = true); kernel_rfl))
    all_goals first
      | (apply Fits.i64 <;> omega)
      | (rw [half_eq]; apply Fits.i64 <;> omega)
      | (apply Go.SX.Try.Fits.u64 <;> omega)
      | omega
      | decide
      | exact congrArg (fun z => AV.v (Value.int IntKind.i64 z)) (half_eq a b)
      | exact half_eq a b
      | trace_state
  have hmid : mid = (a + b) / 2 := hmid
  obtain ⟨u1, u2⟩ : a ≤ mid ∧ mid < b := by omega
  have hN2 : b - a ≤ N + 1 := by omega
  have hle : b ≤ l.length := by omega
  have hst1 := fun h => Bs3.start1 (lt := ltM) (d := zS) l (a := a) (m := m) hmid h (show m < b by omega)
  have hst2 := fun h => Bs3.start2 (lt := ltM) (d := zS) l (a := a) (m := m) (b := b) hmid h (show a < m by omega)
  have hcut := fun s (h : Bs3 ltM zS l a m b mid s s) => h.cut hmid (by omega) (by omega) hle
  have hb1 : mid - a ≤ N ∧ b - mid ≤ N := by omega
  clear hmid
  repeat' (first | (with_reducible first | exact fun h => h | refine ExE.row (by with_unfolding_all rfl) ?_ | refine And.intro ?_ ?_) | ((with_reducible intro hq); first | exact bne1 hq (by with_reducible assumption) | exact bne1 (by with_reducible assumption) hq | ((simp only [*, BB, cond_true, cond_false, reduceCtorEq] at hq); done) | (revert hq; with_reducible intro _)) | (with_reducible first | exact True.intro | rfl | refine EntLe.row ?_ | exact LeN.ro rfl | exact LeN.rptr | assumption) | ((with_reducible first | refine WkX.chk ?_ | refine Wk.chk ?_ | refine LeL.chk ?_ | refine LeF.chk ?_ | refine Run.mk ?_); (conv => whnf)) | ((with_reducible show LeO _ _); first | refine LeO.ro ?_ | refine LeO.roCap ?_ | refine LeO.nil ?_ (fun _ => rfl)) | ((with_reducible show LeR _ _ _); first | refine LeR.own rfl rfl rfl ?_ | refine LeR.view rfl rfl rfl ?_ ?_ | refine LeR.ro ?_ | refine LeR.roCap ?_ | refine LeR.nil ?_ (fun _ => rfl)) | ((with_reducible first | show drawOK _ _ = true | show lateOK _ _ = true | show drawOK2 _ _ = true | show drawOK3 _ _ = true); kernel_rfl))
  any_goals (apply Fits.i64 <;> omega)
  refine joinI (Nat × Nat) [] (fun | (s, r) => [(20, .v (.int .i64 (s : Nat))), (21, .v (.int .i64 (r : Nat)))]) (fun _ => []) (fun | (s, r) => Bs3 ltM zS l a m b mid s r) ?_ fun x hx => ?_
  · by_cases hmm : mid < m
    · have e1 : (mid : Int) + (m : Int) - (b : Int) = ((mid + m - b : Nat) : Int) := by omega
      repeat' (first | (with_reducible refine ex_of (α := Nat × Nat) (mid + m - b, mid) (hst1 hmm) ?_) | (with_reducible first | exact fun h => h | refine ExE.row (by with_unfolding_all rfl) ?_ | refine And.intro ?_ ?_) | ((with_reducible intro hq); first | exact bne1 hq (by with_reducible assumption) | exact bne1 (by with_reducible assumption) hq | ((simp only [*, BB, cond_true, cond_false, reduceCtorEq] at hq); done) | (revert hq; with_reducible intro _)) | (with_reducible first | exact True.intro | rfl | refine EntLe.row ?_ | exact LeN.ro rfl | exact LeN.rptr | assumption) | ((with_reducible first | refine WkX.chk ?_ | refine Wk.chk ?_ | refine LeL.chk ?_ | refine LeF.chk ?_ | refine Run.mk ?_); (conv => whnf)) | ((with_reducible show LeO _ _); first | refine LeO.ro ?_ | refine LeO.roCap ?_ | refine LeO.nil ?_ (fun _ => rfl)) | ((with_reducible show LeR _ _ _); first | refine LeR.own rfl rfl rfl ?_ | refine LeR.view rfl rfl rfl ?_ ?_ | refine LeR.ro ?_ | refine LeR.roCap ?_ | refine LeR.nil ?_ (fun _ => rfl)) | ((with_reducible first | show drawOK _ _ = true | show lateOK _ _ = true | show drawOK2 _ _ = true | show drawOK3 _ _ = true); kernel_rfl))
      all_goals first
        | (apply Fits.i64 <;> omega)
        | exact e1
        | exact congrArg (fun z => AV.v (Value.int IntKind.i64 z)) e1
        | (exfalso; simp_all; omega)
        | trace_state
    · repeat' (first | (with_reducible refine ex_of (α := Nat × Nat) (a, m) (hst2 (by omega)) ?_) | (with_reducible first | exact fun h => h | refine ExE.row (by with_unfolding_all rfl) ?_ | refine And.intro ?_ ?_) | ((with_reducible intro hq); first | exact bne1 hq (by with_reducible assumption) | exact bne1 (by with_reducible assumption) hq | ((simp only [*, BB, cond_true, cond_false, reduceCtorEq] at hq); done) | (revert hq; with_reducible intro _)) | (with_reducible first | exact True.intro | rfl | refine EntLe.row ?_ | exact LeN.ro rfl | exact LeN.rptr | assumption) | ((with_reducible first | refine WkX.chk ?_ | refine Wk.chk ?_ | refine LeL.chk ?_ | refine LeF.chk ?_ | refine Run.mk ?_); (conv => whnf)) | ((with_reducible show LeO _ _); first | refine LeO.ro ?_ | refine LeO.roCap ?_ | refine LeO.nil ?_ (fun _ => rfl)) | ((with_reducible show LeR _ _ _); first | refine LeR.own rfl rfl rfl ?_ | refine LeR.view rfl rfl rfl ?_ ?_ | refine LeR.ro ?_ | refine LeR.roCap ?_ | refine LeR.nil ?_ (fun _ => rfl)) | ((with_reducible first | show drawOK _ _ = true | show lateOK _ _ = true | show drawOK2 _ _ = true | show drawOK3 _ _ = true); kernel_rfl))
      all_goals first
        | (apply Fits.i64 <;> omega)
        | rfl
        | (exfalso; simp_all; omega)
        | trace_state
  clear hst1 hst2
  obtain ⟨s0, r0⟩ := x
  have hx : Bs3 ltM zS l a m b mid s0 r0 := hx
  repeat' (first | (with_reducible first | exact fun h => h | refine ExE.row (by with_unfolding_all rfl) ?_ | refine And.intro ?_ ?_) | ((with_reducible intro hq); first | exact bne1 hq (by with_reducible assumption) | exact bne1 (by with_reducible assumption) hq | ((simp only [*, BB, cond_true, cond_false, reduceCtorEq] at hq); done) | (revert hq; with_reducible intro _)) | (with_reducible first | exact True.intro | rfl | refine EntLe.row ?_ | exact LeN.ro rfl | exact LeN.rptr | assumption) | ((with_reducible first | refine WkX.chk ?_ | refine Wk.chk ?_ | refine LeL.chk ?_ | refine LeF.chk ?_ | refine Run.mk ?_); (conv => whnf)) | ((with_reducible show LeO _ _); first | refine LeO.ro ?_ | refine LeO.roCap ?_ | refine LeO.nil ?_ (fun _ => rfl)) | ((with_reducible show LeR _ _ _); first | refine LeR.own rfl rfl rfl ?_ | refine LeR.view rfl rfl rfl ?_ ?_ | refine LeR.ro ?_ | refine LeR.roCap ?_ | refine LeR.nil ?_ (fun _ => rfl)) | ((with_reducible first | show drawOK _ _ = true | show lateOK _ _ = true | show drawOK2 _ _ = true | show drawOK3 _ _ = true); kernel_rfl))
  any_goals (apply Fits.i64 <;> omega)
  refine loopI (Nat × Nat) [] (fun | (s, r) => [(20, .v (.int .i64 (s : Nat))), (21, .v (.int .i64 (r : Nat)))]) (fun _ => []) (fun | (s, r) => Bs3 ltM zS l a m b mid s r) (fun | (s, r) => r - s) (s0, r0) hx (Wk.chk ?_) fun x hx => ?_
  · ((conv => whnf); repeat' (first | (with_reducible first | exact fun h => h | refine ExE.row (by with_unfolding_all rfl) ?_ | refine And.intro ?_ ?_) | ((with_reducible intro hq); first | exact bne1 hq (by with_reducible assumption) | exact bne1 (by with_reducible assumption) hq | ((simp only [*, BB, cond_true, cond_false, reduceCtorEq] at hq); done) | (revert hq; with_reducible intro _)) | (with_reducible first | exact True.intro | rfl | refine EntLe.row ?_ | exact LeN.ro rfl | exact LeN.rptr | assumption) | ((with_reducible first | refine WkX.chk ?_ | refine Wk.chk ?_ | refine LeL.chk ?_ | refine LeF.chk ?_ | refine Run.mk ?_); (conv => whnf)) | ((with_reducible show LeO _ _); first | refine LeO.ro ?_ | refine LeO.roCap ?_ | refine LeO.nil ?_ (fun _ => rfl)) | ((with_reducible show LeR _ _ _); first | refine LeR.own rfl rfl rfl ?_ | refine LeR.view rfl rfl rfl ?_ ?_ | refine LeR.ro ?_ | refine LeR.roCap ?_ | refine LeR.nil ?_ (fun _ => rfl)) | ((with_reducible first | show drawOK _ _ = true | show lateOK _ _ = true | show drawOK2 _ _ = true | show drawOK3 _ _ = true); kernel_rfl)))
    all_goals rfl
  obtain ⟨s, r⟩ := x
  have hx : Bs3 ltM zS l a m b mid s r := hx
  obtain ⟨b1, b2, b3, b4, b5, _, _⟩ := id hx
  by_cases hij : s < r
  · have hlt : decide ((s : Int) < (r : Int)) = true := decide_eq_true (by omega)
    repeat' (first | (with_reducible first | exact fun h => h | refine ExE.row (by with_unfolding_all rfl) ?_ | refine And.intro ?_ ?_) | ((with_reducible intro hq); first | exact bne1 hq (by with_reducible assumption) | exact bne1 (by with_reducible assumption) hq | ((simp only [*, BB, cond_true, cond_false, reduceCtorEq] at hq); done) | (revert hq; with_reducible intro _)) | (with_reducible first | exact True.intro | rfl | refine EntLe.row ?_ | exact LeN.ro rfl | exact LeN.rptr | assumption) | ((with_reducible first | refine WkX.chk ?_ | refine Wk.chk ?_ | refine LeL.chk ?_ | refine LeF.chk ?_ | refine Run.mk ?_); (conv => whnf)) | ((with_reducible show LeO _ _); first | refine LeO.ro ?_ | refine LeO.roCap ?_ | refine LeO.nil ?_ (fun _ => rfl)) | ((with_reducible show LeR _ _ _); first | refine LeR.own rfl rfl rfl ?_ | refine LeR.view rfl rfl rfl ?_ ?_ | refine LeR.ro ?_ | refine LeR.roCap ?_ | refine LeR.nil ?_ (fun _ => rfl)) | ((with_reducible first | show drawOK _ _ = true | show lateOK _ _ = true | show drawOK2 _ _ = true | show drawOK3 _ _ = true); kernel_rfl))
    refine joinI Nat [] (fun h => [(23, .v (.int .i64 (h : Nat)))]) (fun _ => []) (fun h => h = (s + r) / 2) ?_ fun c hh => ?_
    · repeat' (first | (with_reducible refine ex_of (α := Nat) ((s + r) / 2) rfl ?_) | (with_reducible first | exact fun h => h | refine ExE.row (by with_unfolding_all rfl) ?_ | refine And.intro ?_ ?_) | ((with_reducible intro hq); first | exact bne1 hq (by with_reducible assumption) | exact bne1 (by with_reducible assumption) hq | ((simp only [*, BB, cond_true, cond_false, reduceCtorEq] at hq); done) | (revert hq; with_reducible intro _)) | (with_reducible first | exact True.intro | rfl | refine EntLe.row ?_ | exact LeN.ro rfl | exact LeN.rptr | assumption) | ((with_reducible first | refine WkX.chk ?_ | refine Wk.chk ?_ | refine LeL.chk ?_ | refine LeF.chk ?_ | refine Run.mk ?_); (conv => whnf)) | ((with_reducible show LeO _ _); first | refine LeO.ro ?_ | refine LeO.roCap ?_ | refine LeO.nil ?_ (fun _ => rfl)) | ((with_reducible show LeR _ _ _); first | refine LeR.own rfl rfl rfl ?_ | refine LeR.view rfl rfl rfl ?_ ?_ | refine LeR.ro ?_ | refine LeR.roCap ?_ | refine LeR.nil ?_ (fun _ => rfl)) | ((with_reducible first | show drawOK _ _ = true | show lateOK _ _ = true | show drawOK2 _ _ = true | show drawOK3 _ _ = true); kernel_rfl))
      all_goals first
        | (apply Fits.i64 <;> omega)
        | (rw [half_eq]; apply Fits.i64 <;> omega)
        | (apply Go.SX.Try.Fits.u64 <;> omega)
        | omega
        | decide
        | exact congrArg (fun z => AV.v (Value.int IntKind.i64 z)) (half_eq s r)
        | exact half_eq s r
        | trace_state
    have hh : c = (s + r) / 2 := hh
    obtain ⟨u3, u4⟩ : s ≤ c ∧ c < r := by omega
    have e0 : ((c : Int)).toNat = c := Int.toNat_natCast _
    have e3 : ((mid : Int) + (m : Int) - 1 - (c : Int)).toNat = mid + m - 1 - c := by omega
    have kc : (!decide (cmpM (l.getD ((mid : Int) + (m : Int) - 1 - (c : Int)).toNat C_spn.d) (l.getD ((c : Int)).toNat C_spn.d) < 0)) = !ltM (l.getD (mid + m - 1 - c) zS) (l.getD c zS) := by
      rw [e0, e3, hd]
      rfl
    cases hc : ltM (l.getD (mid + m - 1 - c) zS) (l.getD c zS) with
    | true =>
      rw [hc] at kc
      have kc : (!decide (cmpM (l.getD ((mid : Int) + (m : Int) - 1 - (c : Int)).toNat C_spn.d) (l.getD ((c : Int)).toNat C_spn.d) < 0)) = false := kc
      have hx2 := hx.down ordM hle (by omega) hA hB hh hij hc
      clear hh
      repeat' (first | (with_reducible refine ⟨(_, _), ⟨(.cons (.agg (.cons (.v _) (.cons (.v _) (.cons (.v _) (.cons (.v _) .nil))))) (.cons (.agg (.cons (.v _) (.cons (.v _) (.cons (.v _) (.cons (.v _) .nil))))) .nil)), ?_⟩, ?_⟩) | (with_reducible refine ex_of (α := Nat × Nat) (s, c) ⟨hx2, ?_⟩ ?_) | (with_reducible first | exact fun h => h | refine ExE.row (by with_unfolding_all rfl) ?_ | refine And.intro ?_ ?_) | ((with_reducible intro hq); first | exact bne1 hq (by with_reducible assumption) | exact bne1 (by with_reducible assumption) hq | ((simp only [*, BB, cond_true, cond_false, reduceCtorEq] at hq); done) | (revert hq; with_reducible intro _)) | (with_reducible first | exact True.intro | rfl | refine EntLe.row ?_ | exact LeN.ro rfl | exact LeN.rptr | assumption) | ((with_reducible first | refine WkX.chk ?_ | refine Wk.chk ?_ | refine LeL.chk ?_ | refine LeF.chk ?_ | refine Run.mk ?_); (conv => whnf)) | ((with_reducible show LeO _ _); first | refine LeO.ro ?_ | refine LeO.roCap ?_ | refine LeO.nil ?_ (fun _ => rfl)) | ((with_reducible show LeR _ _ _); first | refine LeR.own rfl rfl rfl ?_ | refine LeR.view rfl rfl rfl ?_ ?_ | refine LeR.ro ?_ | refine LeR.roCap ?_ | refine LeR.nil ?_ (fun _ => rfl)) | ((with_reducible first | show drawOK _ _ = true | show lateOK _ _ = true | show drawOK2 _ _ = true | show drawOK3 _ _ = true); kernel_rfl))
      all_goals first
        | omega
        | rfl
        | (apply Fits.i64 <;> omega)
        | (show c - s < r - s; omega)
        | trace_state
    | false =>
      rw [hc] at kc
      have kc : (!decide (cmpM (l.getD ((mid : Int) + (m : Int) - 1 - (c : Int)).toNat C_spn.d) (l.getD ((c : Int)).toNat C_spn.d) < 0)) = true := kc
      have hx2 := hx.up ordM hle (by omega) hA hB hh hij hc
      clear hh
      repeat' (first | (with_reducible refine ⟨(_, _), ⟨(.cons (.agg (.cons (.v _) (.cons (.v _) (.cons (.v _) (.cons (.v _) .nil))))) (.cons (.agg (.cons (.v _) (.cons (.v _) (.cons (.v _) (.cons (.v _) .nil))))) .nil)), ?_⟩, ?_⟩) | (with_reducible refine ex_of (α := Nat × Nat) (c + 1, r) ⟨hx2, ?_⟩ ?_) | (with_reducible first | exact fun h => h | refine ExE.row (by with_unfolding_all rfl) ?_ | refine And.intro ?_ ?_) | ((with_reducible intro hq); first | exact bne1 hq (by with_reducible assumption) | exact bne1 (by with_reducible assumption) hq | ((simp only [*, BB, cond_true, cond_false, reduceCtorEq] at hq); done) | (revert hq; with_reducible intro _)) | (with_reducible first | exact True.intro | rfl | refine EntLe.row ?_ | exact LeN.ro rfl | exact LeN.rptr | assumption) | ((with_reducible first | refine WkX.chk ?_ | refine Wk.chk ?_ | refine LeL.chk ?_ | refine LeF.chk ?_ | refine Run.mk ?_); (conv => whnf)) | ((with_reducible show LeO _ _); first | refine LeO.ro ?_ | refine LeO.roCap ?_ | refine LeO.nil ?_ (fun _ => rfl)) | ((with_reducible show LeR _ _ _); first | refine LeR.own rfl rfl rfl ?_ | refine LeR.view rfl rfl rfl ?_ ?_ | refine LeR.ro ?_ | refine LeR.roCap ?_ | refine LeR.nil ?_ (fun _ => rfl)) | ((with_reducible first | show drawOK _ _ = true | show lateOK _ _ = true | show drawOK2 _ _ = true | show drawOK3 _ _ = true); kernel_rfl))
      all_goals first
        | omega
        | rfl
        | (apply Fits.i64 <;> omega)
        | (show r - (c + 1) < r - s; omega)
        | trace_state
  obtain rfl : s = r := by omega
  have hlt : decide ((s : Int) < (s : Int)) = false := decide_eq_false (by omega)
  have hC := hcut s hx
  have eE : (mid : Int) + (m : Int) - (s : Int) = ((mid + m - s : Nat) : Int) := by omega
  obtain ⟨e, he⟩ : ∃ e, e = mid + m - s := ⟨_, rfl⟩
  rw [← he] at eE
  have hmidE := hC.mid ordM hA hB
  rw [← he] at hmidE
  obtain ⟨⟨g1, g2⟩, g3, g4⟩ := hC.segs he hA hB
  have hl1 := rotR_len l (a := s) (m := m) (b := e) (by omega) (by omega) (by omega)
  have hl2 := symR_len (lt := ltM) (rotR l s m e) (a := a) (m := s) (b := mid) (by omega) (by omega) (by omega)
  obtain ⟨R1, hR1⟩ : ∃ R1, R1 = rotR l s m e := ⟨_, rfl⟩
  obtain ⟨R2, hR2⟩ : ∃ R2, R2 = symR ltM R1 a s mid := ⟨_, rfl⟩
  rw [← hR1] at hmidE g1 g2 g3 g4 hl1 hl2
  rw [← hR2] at hmidE g3 g4 hl2
  have es : ((s : Int)).toNat = s := Int.toNat_natCast _
  have ee : ((e : Int)).toNat = e := Int.toNat_natCast _
  have emi : ((mid : Int)).toNat = mid := Int.toNat_natCast _
  repeat' (first | (with_reducible first | exact fun h => h | refine ExE.row (by with_unfolding_all rfl) ?_ | refine And.intro ?_ ?_) | ((with_reducible intro hq); first | exact bne1 hq (by with_reducible assumption) | exact bne1 (by with_reducible assumption) hq | ((simp only [*, BB, cond_true, cond_false, reduceCtorEq] at hq); done) | (revert hq; with_reducible intro _)) | (with_reducible first | exact True.intro | rfl | refine EntLe.row ?_ | exact LeN.ro rfl | exact LeN.rptr | assumption) | ((with_reducible first | refine WkX.chk ?_ | refine Wk.chk ?_ | refine LeL.chk ?_ | refine LeF.chk ?_ | refine Run.mk ?_); (conv => whnf)) | ((with_reducible show LeO _ _); first | refine LeO.ro ?_ | refine LeO.roCap ?_ | refine LeO.nil ?_ (fun _ => rfl)) | ((with_reducible show LeR _ _ _); first | refine LeR.own rfl rfl rfl ?_ | refine LeR.view rfl rfl rfl ?_ ?_ | refine LeR.ro ?_ | refine LeR.roCap ?_ | refine LeR.nil ?_ (fun _ => rfl)) | ((with_reducible first | show drawOK _ _ = true | show lateOK _ _ = true | show drawOK2 _ _ = true | show drawOK3 _ _ = true); kernel_rfl))
  any_goals (apply Fits.i64 <;> omega)
  refine joinI Unit [] (fun _ => [(24, .v (.int .i64 (e : Nat)))]) (fun _ => [(0, .row C_spn R1 71 none)]) (fun _ => True) ?_ fun _ _ => ?_
  · by_cases hr : s < m ∧ m < e
    · obtain ⟨r1, r2⟩ := hr
      have k3 : decide ((s : Int) < (m : Int)) = true := decide_eq_true (by omega)
      have k4 : decide ((m : Int) < (mid : Int) + (m : Int) - (s : Int)) = true := decide_eq_true (by omega)
      repeat' (first | (with_reducible refine ⟨(_, _, _), _, _, ⟨(by with_unfolding_all exact rfl), (.cons (.v _) (.cons (.v _) (.cons (.v _) (.cons (.junk _) .nil)))), ?_, fun _ => (by with_unfolding_all exact rfl)⟩, ?_⟩) | (with_reducible refine ex_of () trivial ?_) | (with_reducible first | exact fun h => h | refine ExE.row (by with_unfolding_all rfl) ?_ | refine And.intro ?_ ?_) | ((with_reducible intro hq); first | exact bne1 hq (by with_reducible assumption) | exact bne1 (by with_reducible assumption) hq | ((simp only [*, BB, cond_true, cond_false, reduceCtorEq] at hq); done) | (revert hq; with_reducible intro _)) | (with_reducible first | exact True.intro | rfl | refine EntLe.row ?_ | exact LeN.ro rfl | exact LeN.rptr | assumption) | ((with_reducible first | refine WkX.chk ?_ | refine Wk.chk ?_ | refine LeL.chk ?_ | refine LeF.chk ?_ | refine Run.mk ?_); (conv => whnf)) | ((with_reducible show LeO _ _); first | refine LeO.ro ?_ | refine LeO.roCap ?_ | refine LeO.nil ?_ (fun _ => rfl)) | ((with_reducible show LeR _ _ _); first | refine LeR.own rfl rfl rfl ?_ | refine LeR.view rfl rfl rfl ?_ ?_ | refine LeR.ro ?_ | refine LeR.roCap ?_ | refine LeR.nil ?_ (fun _ => rfl)) | ((with_reducible first | show drawOK _ _ = true | show lateOK _ _ = true | show drawOK2 _ _ = true | show drawOK3 _ _ = true); kernel_rfl))
      all_goals (try simp only [ncast, eE, es, em, ee])
      all_goals first
        | omega
        | rfl
        | exact hR1.symm
        | (exfalso; simp_all; done)
        | trace_state
    · have hq : R1 = l := by
        rw [hR1]
        by_cases h : s = m
        · subst h; exact rotR_left l (by omega) (by omega)
        · obtain rfl : e = m := by omega
          exact rotR_right l (by omega) (by omega)
      have k3 : (decide ((s : Int) < (m : Int)) && decide ((m : Int) < (mid : Int) + (m : Int) - (s : Int))) = false := by
        rw [Bool.eq_false_iff, Ne, Bool.and_eq_true, decide_eq_true_eq, decide_eq_true_eq]; omega
      repeat' (first | (with_reducible refine ⟨(_, _, _), _, _, ⟨(by with_unfolding_all exact rfl), (.cons (.v _) (.cons (.v _) (.cons (.v _) (.cons (.junk _) .nil)))), ?_, fun _ => (by with_unfolding_all exact rfl)⟩, ?_⟩) | (with_reducible refine ex_of () trivial ?_) | (with_reducible first | exact fun h => h | refine ExE.row (by with_unfolding_all rfl) ?_ | refine And.intro ?_ ?_) | ((with_reducible intro hq); first | exact bne1 hq (by with_reducible assumption) | exact bne1 (by with_reducible assumption) hq | ((simp only [*, BB, cond_true, cond_false, reduceCtorEq] at hq); done) | (revert hq; with_reducible intro _)) | (with_reducible first | exact True.intro | rfl | refine EntLe.row ?_ | exact LeN.ro rfl | exact LeN.rptr | assumption) | ((with_reducible first | refine WkX.chk ?_ | refine Wk.chk ?_ | refine LeL.chk ?_ | refine LeF.chk ?_ | refine Run.mk ?_); (conv => whnf)) | ((with_reducible show LeO _ _); first | refine LeO.ro ?_ | refine LeO.roCap ?_ | refine LeO.nil ?_ (fun _ => rfl)) | ((with_reducible show LeR _ _ _); first | refine LeR.own rfl rfl rfl ?_ | refine LeR.view rfl rfl rfl ?_ ?_ | refine LeR.ro ?_ | refine LeR.roCap ?_ | refine LeR.nil ?_ (fun _ => rfl)) | ((with_reducible first | show drawOK _ _ = true | show lateOK _ _ = true | show drawOK2 _ _ = true | show drawOK3 _ _ = true); kernel_rfl))
      all_goals first
        | exact congrArg (fun z => AV.v (Value.int IntKind.i64 z)) eE
        | exact eE
        | exact hq.symm
        | (exfalso; simp_all; omega)
        | trace_state
  repeat' (first | (with_reducible first | exact fun h => h | refine ExE.row (by with_unfolding_all rfl) ?_ | refine And.intro ?_ ?_) | ((with_reducible intro hq); first | exact bne1 hq (by with_reducible assumption) | exact bne1 (by with_reducible assumption) hq | ((simp only [*, BB, cond_true, cond_false, reduceCtorEq] at hq); done) | (revert hq; with_reducible intro _)) | (with_reducible first | exact True.intro | rfl | refine EntLe.row ?_ | exact LeN.ro rfl | exact LeN.rptr | assumption) | ((with_reducible first | refine WkX.chk ?_ | refine Wk.chk ?_ | refine LeL.chk ?_ | refine LeF.chk ?_ | refine Run.mk ?_); (conv => whnf)) | ((with_reducible show LeO _ _); first | refine LeO.ro ?_ | refine LeO.roCap ?_ | refine LeO.nil ?_ (fun _ => rfl)) | ((with_reducible show LeR _ _ _); first | refine LeR.own rfl rfl rfl ?_ | refine LeR.view rfl rfl rfl ?_ ?_ | refine LeR.ro ?_ | refine LeR.roCap ?_ | refine LeR.nil ?_ (fun _ => rfl)) | ((with_reducible first | show drawOK _ _ = true | show lateOK _ _ = true | show drawOK2 _ _ = true | show drawOK3 _ _ = true); kernel_rfl))
  refine joinI Unit [] (fun _ => []) (fun _ => [(0, .row C_spn R2 71 none)]) (fun _ => True) ?_ fun _ _ => ?_
  · by_cases hr : a < s ∧ s < mid
    · obtain ⟨r1, r2⟩ := hr
      have k3 : decide ((a : Int) < (s : Int)) = true := decide_eq_true (by omega)
      have k4 : decide ((s : Int) < (mid : Int)) = true := decide_eq_true (by omega)
      repeat' (first | (with_reducible refine ⟨(_, _, _), _, _, ⟨(by with_unfolding_all exact rfl), (.cons (.v _) (.cons (.v _) (.cons (.v _) (.cons (.fn _) .nil)))), ?_, fun _ => (by with_unfolding_all exact rfl)⟩, ?_⟩) | (with_reducible refine ex_of () trivial ?_) | (with_reducible first | exact fun h => h | refine ExE.row (by with_unfolding_all rfl) ?_ | refine And.intro ?_ ?_) | ((with_reducible intro hq); first | exact bne1 hq (by with_reducible assumption) | exact bne1 (by with_reducible assumption) hq | ((simp only [*, BB, cond_true, cond_false, reduceCtorEq] at hq); done) | (revert hq; with_reducible intro _)) | (with_reducible first | exact True.intro | rfl | refine EntLe.row ?_ | exact LeN.ro rfl | exact LeN.rptr | assumption) | ((with_reducible first | refine WkX.chk ?_ | refine Wk.chk ?_ | refine LeL.chk ?_ | refine LeF.chk ?_ | refine Run.mk ?_); (conv => whnf)) | ((with_reducible show LeO _ _); first | refine LeO.ro ?_ | refine LeO.roCap ?_ | refine LeO.nil ?_ (fun _ => rfl)) | ((with_reducible show LeR _ _ _); first | refine LeR.own rfl rfl rfl ?_ | refine LeR.view rfl rfl rfl ?_ ?_ | refine LeR.ro ?_ | refine LeR.roCap ?_ | refine LeR.nil ?_ (fun _ => rfl)) | ((with_reducible first | show drawOK _ _ = true | show lateOK _ _ = true | show drawOK2 _ _ = true | show drawOK3 _ _ = true); kernel_rfl))
      all_goals (try simp only [ncast, es, emi, ea])
      all_goals first
        | omega
        | rfl
        | exact hR2.symm
        | (exfalso; simp_all; done)
        | trace_state
    · have hq : R2 = R1 := by
        rw [hR2]
        by_cases h : s = mid
        · subst h; exact symR_nil_right (by omega) (by omega)
        · obtain rfl : s = a := by omega
          exact symR_nil_left ordM (by omega) (by omega) g2
      have k3 : (decide ((a : Int) < (s : Int)) && decide ((s : Int) < (mid : Int))) = false := by
        rw [Bool.eq_false_iff, Ne, Bool.and_eq_true, decide_eq_true_eq, decide_eq_true_eq]; omega
      repeat' (first | (with_reducible refine ⟨(_, _, _), _, _, ⟨(by with_unfolding_all exact rfl), (.cons (.v _) (.cons (.v _) (.cons (.v _) (.cons (.fn _) .nil)))), ?_, fun _ => (by with_unfolding_all exact rfl)⟩, ?_⟩) | (with_reducible refine ex_of () trivial ?_) | (with_reducible first | exact fun h => h | refine ExE.row (by with_unfolding_all rfl) ?_ | refine And.intro ?_ ?_) | ((with_reducible intro hq); first | exact bne1 hq (by with_reducible assumption) | exact bne1 (by with_reducible assumption) hq | ((simp only [*, BB, cond_true, cond_false, reduceCtorEq] at hq); done) | (revert hq; with_reducible intro _)) | (with_reducible first | exact True.intro | rfl | refine EntLe.row ?_ | exact LeN.ro rfl | exact LeN.rptr | assumption) | ((with_reducible first | refine WkX.chk ?_ | refine Wk.chk ?_ | refine LeL.chk ?_ | refine LeF.chk ?_ | refine Run.mk ?_); (conv => whnf)) | ((with_reducible show LeO _ _); first | refine LeO.ro ?_ | refine LeO.roCap ?_ | refine LeO.nil ?_ (fun _ => rfl)) | ((with_reducible show LeR _ _ _); first | refine LeR.own rfl rfl rfl ?_ | refine LeR.view rfl rfl rfl ?_ ?_ | refine LeR.ro ?_ | refine LeR.roCap ?_ | refine LeR.nil ?_ (fun _ => rfl)) | ((with_reducible first | show drawOK _ _ = true | show lateOK _ _ = true | show drawOK2 _ _ = true | show drawOK3 _ _ = true); kernel_rfl))
      all_goals first
        | exact hq.symm
        | (exfalso; simp_all; omega)
        | trace_state
  by_cases hr : mid < e ∧ e < b
  · obtain ⟨r1, r2⟩ := hr
    have k3 : decide ((mid : Int) < (e : Int)) = true := decide_eq_true (by omega)
    have k4 : decide ((e : Int) < (b : Int)) = true := decide_eq_true (by omega)
    repeat' (first | (with_reducible refine ⟨(_, _, _), _, _, ⟨(by with_unfolding_all exact rfl), (.cons (.v _) (.cons (.v _) (.cons (.v _) (.cons (.fn _) .nil)))), ?_, fun _ => (by with_unfolding_all exact rfl)⟩, ?_⟩) | (with_reducible first | exact fun h => h | refine ExE.row (by with_unfolding_all rfl) ?_ | refine And.intro ?_ ?_) | ((with_reducible intro hq); first | exact bne1 hq (by with_reducible assumption) | exact bne1 (by with_reducible assumption) hq | ((simp only [*, BB, cond_true, cond_false, reduceCtorEq] at hq); done) | (revert hq; with_reducible intro _)) | (with_reducible first | exact True.intro | rfl | refine EntLe.row ?_ | exact LeN.ro rfl | exact LeN.rptr | assumption) | ((with_reducible first | refine WkX.chk ?_ | refine Wk.chk ?_ | refine LeL.chk ?_ | refine LeF.chk ?_ | refine Run.mk ?_); (conv => whnf)) | ((with_reducible show LeO _ _); first | refine LeO.ro ?_ | refine LeO.roCap ?_ | refine LeO.nil ?_ (fun _ => rfl)) | ((with_reducible show LeR _ _ _); first | refine LeR.own rfl rfl rfl ?_ | refine LeR.view rfl rfl rfl ?_ ?_ | refine LeR.ro ?_ | refine LeR.roCap ?_ | refine LeR.nil ?_ (fun _ => rfl)) | ((with_reducible first | show drawOK _ _ = true | show lateOK _ _ = true | show drawOK2 _ _ = true | show drawOK3 _ _ = true); kernel_rfl))
    all_goals (try simp only [ncast, ee, emi, eb])
    all_goals first
      | omega
      | rfl
      | (refine ⟨_, _, rfl, ?_⟩; exact hmidE.symm)
      | (exfalso; simp_all; done)
      | trace_state
  · have hq : symR ltM R2 mid e b = R2 := by
      by_cases h : e = b
      · subst h; exact symR_nil_right (by omega) (by omega)
      · obtain rfl : e = mid := by omega
        exact symR_nil_left ordM (by omega) (by omega) g4
    rw [hq] at hmidE
    have k3 : (decide ((mid : Int) < (e : Int)) && decide ((e : Int) < (b : Int))) = false := by
      rw [Bool.eq_false_iff, Ne, Bool.and_eq_true, decide_eq_true_eq, decide_eq_true_eq]; omega
    repeat' (first | (with_reducible refine ⟨(_, _, _), _, _, ⟨(by with_unfolding_all exact rfl), (.cons (.v _) (.cons (.v _) (.cons (.v _) (.cons (.fn _) .nil)))), ?_, fun _ => (by with_unfolding_all exact rfl)⟩, ?_⟩) | (with_reducible first | exact fun h => h | refine ExE.row (by with_unfolding_all rfl) ?_ | refine And.intro ?_ ?_) | ((with_reducible intro hq); first | exact bne1 hq (by with_reducible assumption) | exact bne1 (by with_reducible assumption) hq | ((simp only [*, BB, cond_true, cond_false, reduceCtorEq] at hq); done) | (revert hq; with_reducible intro _)) | (with_reducible first | exact True.intro | rfl | refine EntLe.row ?_ | exact LeN.ro rfl | exact LeN.rptr | assumption) | ((with_reducible first | refine WkX.chk ?_ | refine Wk.chk ?_ | refine LeL.chk ?_ | refine LeF.chk ?_ | refine Run.mk ?_); (conv => whnf)) | ((with_reducible show LeO _ _); first | refine LeO.ro ?_ | refine LeO.roCap ?_ | refine LeO.nil ?_ (fun _ => rfl)) | ((with_reducible show LeR _ _ _); first | refine LeR.own rfl rfl rfl ?_ | refine LeR.view rfl rfl rfl ?_ ?_ | refine LeR.ro ?_ | refine LeR.roCap ?_ | refine LeR.nil ?_ (fun _ => rfl)) | ((with_reducible first | show drawOK _ _ = true | show lateOK _ _ = true | show drawOK2 _ _ = true | show drawOK3 _ _ = true); kernel_rfl))
    all_goals first
      | rfl
      | (refine ⟨_, _, rfl, ?_⟩; exact hmidE.symm)
      | (exfalso; simp_all; omega)
      | trace_state
theorem conW_symN_M : ∀ N : Nat, ConW prog 120 C_spn 71 symAM symFM (fun i l => symPM i l ∧ i.2.2 - i.1 ≤ (N : Int))
  | 0 => conW_cases conW_sym1_M conW_sym1_M fun i l h => by
    obtain ⟨a, m, b⟩ := i
    obtain ⟨⟨⟨⟨h1, h2, h3, h4⟩, h5⟩, _⟩, h6⟩ := h
    have h6 : b - a ≤ ((0 : Nat) : Int) := h6
    exfalso; omega
  | N + 1 => by
    refine conW_cases conW_sym1_M (conW_cases conW_sym2_M (conW_sym3_M (conW_symN_M N)) fun i l h => h) (q := fun i l => (symPM i l ∧ ¬ i.2.1 = i.1 + 1 ∧ i.2.2 = i.2.1 + 1) ∨ (symPM i l ∧ (¬ i.2.1 = i.1 + 1 ∧ ¬ i.2.2 = i.2.1 + 1) ∧ i.2.2 - i.1 ≤ ((N + 1 : Nat) : Int))) fun i l h => ?_
    by_cases c1 : i.2.1 = i.1 + 1
    · exact .inl ⟨h.1, c1⟩
    · by_cases c2 : i.2.2 = i.2.1 + 1
      · exact .inr (.inl ⟨h.1, c1, c2⟩)
      · exact .inr (.inr ⟨h.1, ⟨c1, c2⟩, h.2⟩)
theorem conW_sym_M : ConW prog 120 C_spn 71 symAM symFM symPM := conW_cases (conW_symN_M 1100000) conW_sym1_M fun i l h => .inl ⟨h, by
  obtain ⟨a, m, b⟩ := i
  obtain ⟨⟨⟨h1, h2, h3, h4⟩, h5⟩, _⟩ := h
  show b - a ≤ _
  omega⟩
end Go.SX.Try
/- Contract of the library's stable sort, of spans. (the order of a normal form) -/
namespace Go.SX.Try
open Go.Proofs Go.Proofs.Try Go.SX.Plain
set_option maxRecDepth 100000
set_option maxHeartbeats 0
set_option linter.unusedSimpArgs false
theorem conW_stable_M : ConW prog 109 C_spn 71 (fun n : Int => [.v (.int .i64 n), .fn 116 []]) (fun _ l => isort ltM l)
    (fun n l => n = l.length ∧ l.length ≤ 1100000) := by
  refine ConW.of (by kernel_rfl) T_ok CdsOK.nil (.conw conW_insertion_M (.conw conW_sym_M .nil)) 3 [] q_stableS.1 q_stableS.2.1 q_stableS.2.2 (fun _ => rfl) (fun _ => .cons (.v _) (.cons (.fn _) .nil)) fun n l hi => ?_
  obtain ⟨rfl, hl⟩ := hi
  repeat' (first | (with_reducible first | exact fun h => h | refine ExE.row (by with_unfolding_all rfl) ?_ | refine And.intro ?_ ?_) | ((with_reducible intro hq); first | exact bne1 hq (by with_reducible assumption) | exact bne1 (by with_reducible assumption) hq | ((simp only [*, BB, cond_true, cond_false, reduceCtorEq] at hq); done) | (revert hq; with_reducible intro _)) | (with_reducible first | exact True.intro | rfl | refine EntLe.row ?_ | exact LeN.ro rfl | exact LeN.rptr | assumption) | ((with_reducible first | refine WkX.chk ?_ | refine Wk.chk ?_ | refine LeL.chk ?_ | refine LeF.chk ?_ | refine Run.mk ?_); (conv => whnf)) | ((with_reducible show LeO _ _); first | refine LeO.ro ?_ | refine LeO.roCap ?_ | refine LeO.nil ?_ (fun _ => rfl)) | ((with_reducible show LeR _ _ _); first | refine LeR.own rfl rfl rfl ?_ | refine LeR.view rfl rfl rfl ?_ ?_ | refine LeR.ro ?_ | refine LeR.roCap ?_ | refine LeR.nil ?_ (fun _ => rfl)) | ((with_reducible first | show drawOK _ _ = true | show lateOK _ _ = true | show drawOK2 _ _ = true | show drawOK3 _ _ = true); kernel_rfl))
  refine loopI Nat [] (fun k => [(7, .v (.int .i64 ((k * 20 : Nat) : Int))), (8, .v (.int .i64 (((k * 20 : Nat) : Int) + 20)))]) (fun k => [(0, .row C_spn (ph1 ltM l (k * 20)) 71 none)]) (fun k => k * 20 ≤ l.length) (fun k => l.length - k) 0 (by omega) (Wk.chk ?_) fun k hk => ?_
  · ((conv => whnf); repeat' (first | (with_reducible first | exact fun h => h | refine ExE.row (by with_unfolding_all rfl) ?_ | refine And.intro ?_ ?_) | ((with_reducible intro hq); first | exact bne1 hq (by with_reducible assumption) | exact bne1 (by with_reducible assumption) hq | ((simp only [*, BB, cond_true, cond_false, reduceCtorEq] at hq); done) | (revert hq; with_reducible intro _)) | (with_reducible first | exact True.intro | rfl | refine EntLe.row ?_ | exact LeN.ro rfl | exact LeN.rptr | assumption) | ((with_reducible first | refine WkX.chk ?_ | refine Wk.chk ?_ | refine LeL.chk ?_ | refine LeF.chk ?_ | refine Run.mk ?_); (conv => whnf)) | ((with_reducible show LeO _ _); first | refine LeO.ro ?_ | refine LeO.roCap ?_ | refine LeO.nil ?_ (fun _ => rfl)) | ((with_reducible show LeR _ _ _); first | refine LeR.own rfl rfl rfl ?_ | refine LeR.view rfl rfl rfl ?_ ?_ | refine LeR.ro ?_ | refine LeR.roCap ?_ | refine LeR.nil ?_ (fun _ => rfl)) | ((with_reducible first | show drawOK _ _ = true | show lateOK _ _ = true | show drawOK2 _ _ = true | show drawOK3 _ _ = true); kernel_rfl)))
    all_goals first
      | rfl
      | (show l = ph1 ltM l (0 * 20); rw [Nat.zero_mul]; unfold ph1; rw [List.take_zero, bsort_nil]; rfl)
      | trace_state
  have hk : k * 20 ≤ l.length := hk
  have hpl := ph1_len (lt := ltM) l (k * 20)
  by_cases hkn : k * 20 + 20 ≤ l.length
  · have hle : decide (((k * 20 : Nat) : Int) + 20 ≤ (l.length : Int)) = true := decide_eq_true (by omega)
    have hst := ph1_step (lt := ltM) l (a := k * 20) (k := k) rfl hkn
    have e1 : (((k * 20 : Nat) : Int) + 20).toNat = k * 20 + 20 := by omega
    have e2 : (((k * 20 : Nat) : Int)).toNat = k * 20 := by omega
    have e3 : ((k + 1) * 20 : Nat) = k * 20 + 20 := by omega
    repeat' (first | (with_reducible refine ⟨(_, _), _, _, ⟨(by with_unfolding_all exact rfl), (.cons (.v _) (.cons (.v _) (.cons (.fn _) .nil))), ?_, fun _ => (by with_unfolding_all exact rfl)⟩, ?_⟩) | (with_reducible refine ex_of (α := Nat) (k + 1) ⟨?_, ?_⟩ ?_) | (with_reducible first | exact fun h => h | refine ExE.row (by with_unfolding_all rfl) ?_ | refine And.intro ?_ ?_) | ((with_reducible intro hq); first | exact bne1 hq (by with_reducible assumption) | exact bne1 (by with_reducible assumption) hq | ((simp only [*, BB, cond_true, cond_false, reduceCtorEq] at hq); done) | (revert hq; with_reducible intro _)) | (with_reducible first | exact True.intro | rfl | refine EntLe.row ?_ | exact LeN.ro rfl | exact LeN.rptr | assumption) | ((with_reducible first | refine WkX.chk ?_ | refine Wk.chk ?_ | refine LeL.chk ?_ | refine LeF.chk ?_ | refine Run.mk ?_); (conv => whnf)) | ((with_reducible show LeO _ _); first | refine LeO.ro ?_ | refine LeO.roCap ?_ | refine LeO.nil ?_ (fun _ => rfl)) | ((with_reducible show LeR _ _ _); first | refine LeR.own rfl rfl rfl ?_ | refine LeR.view rfl rfl rfl ?_ ?_ | refine LeR.ro ?_ | refine LeR.roCap ?_ | refine LeR.nil ?_ (fun _ => rfl)) | ((with_reducible first | show drawOK _ _ = true | show lateOK _ _ = true | show drawOK2 _ _ = true | show drawOK3 _ _ = true); kernel_rfl))
    all_goals (try simp only [ncast, e1, e2, e3, hst, hpl])
    all_goals first
      | omega
      | rfl
      | (apply Fits.i64 <;> omega)
      | (exact congrArg (fun z => AV.v (Value.int IntKind.i64 z)) (by omega))
      | trace_state
  have hle : decide (((k * 20 : Nat) : Int) + 20 ≤ (l.length : Int)) = false := decide_eq_false (by omega)
  have hst := ph1_end (lt := ltM) l (a := k * 20) (k := k) rfl hk (by omega)
  have e2 : (((k * 20 : Nat) : Int)).toNat = k * 20 := by omega
  have e4 : ((l.length : Nat) : Int).toNat = l.length := Int.toNat_natCast _
  repeat' (first | (with_reducible refine ⟨(_, _), _, _, ⟨(by with_unfolding_all exact rfl), (.cons (.v _) (.cons (.v _) (.cons (.fn _) .nil))), ?_, fun _ => (by with_unfolding_all exact rfl)⟩, ?_⟩) | (with_reducible first | exact fun h => h | refine ExE.row (by with_unfolding_all rfl) ?_ | refine And.intro ?_ ?_) | ((with_reducible intro hq); first | exact bne1 hq (by with_reducible assumption) | exact bne1 (by with_reducible assumption) hq | ((simp only [*, BB, cond_true, cond_false, reduceCtorEq] at hq); done) | (revert hq; with_reducible intro _)) | (with_reducible first | exact True.intro | rfl | refine EntLe.row ?_ | exact LeN.ro rfl | exact LeN.rptr | assumption) | ((with_reducible first | refine WkX.chk ?_ | refine Wk.chk ?_ | refine LeL.chk ?_ | refine LeF.chk ?_ | refine Run.mk ?_); (conv => whnf)) | ((with_reducible show LeO _ _); first | refine LeO.ro ?_ | refine LeO.roCap ?_ | refine LeO.nil ?_ (fun _ => rfl)) | ((with_reducible show LeR _ _ _); first | refine LeR.own rfl rfl rfl ?_ | refine LeR.view rfl rfl rfl ?_ ?_ | refine LeR.ro ?_ | refine LeR.roCap ?_ | refine LeR.nil ?_ (fun _ => rfl)) | ((with_reducible first | show drawOK _ _ = true | show lateOK _ _ = true | show drawOK2 _ _ = true | show drawOK3 _ _ = true); kernel_rfl))
  any_goals (try simp only [ncast, hpl])
  any_goals omega
  refine loopI Nat [] (fun bs => [(6, .v (.int .i64 (bs : Nat)))]) (fun bs => [(0, .row C_spn (bsort ltM bs l) 71 none)]) (fun bs => 20 ≤ bs ∧ bs ≤ 2200020) (fun bs => l.length - bs) 20 (by omega) (Wk.chk ?_) fun bs hbs => ?_
  · ((conv => whnf); repeat' (first | (with_reducible first | exact fun h => h | refine ExE.row (by with_unfolding_all rfl) ?_ | refine And.intro ?_ ?_) | ((with_reducible intro hq); first | exact bne1 hq (by with_reducible assumption) | exact bne1 (by with_reducible assumption) hq | ((simp only [*, BB, cond_true, cond_false, reduceCtorEq] at hq); done) | (revert hq; with_reducible intro _)) | (with_reducible first | exact True.intro | rfl | refine EntLe.row ?_ | exact LeN.ro rfl | exact LeN.rptr | assumption) | ((with_reducible first | refine WkX.chk ?_ | refine Wk.chk ?_ | refine LeL.chk ?_ | refine LeF.chk ?_ | refine Run.mk ?_); (conv => whnf)) | ((with_reducible show LeO _ _); first | refine LeO.ro ?_ | refine LeO.roCap ?_ | refine LeO.nil ?_ (fun _ => rfl)) | ((with_reducible show LeR _ _ _); first | refine LeR.own rfl rfl rfl ?_ | refine LeR.view rfl rfl rfl ?_ ?_ | refine LeR.ro ?_ | refine LeR.roCap ?_ | refine LeR.nil ?_ (fun _ => rfl)) | ((with_reducible first | show drawOK _ _ = true | show lateOK _ _ = true | show drawOK2 _ _ = true | show drawOK3 _ _ = true); kernel_rfl)))
    all_goals first
      | rfl
      | (simp only [ncast, e2, e4, hst]; done)
      | trace_state
  obtain ⟨hb1, hb2⟩ := hbs
  by_cases hbn : bs < l.length
  · have hlt : decide ((bs : Int) < (l.length : Int)) = true := decide_eq_true (by omega)
    repeat' (first | (with_reducible first | exact fun h => h | refine ExE.row (by with_unfolding_all rfl) ?_ | refine And.intro ?_ ?_) | ((with_reducible intro hq); first | exact bne1 hq (by with_reducible assumption) | exact bne1 (by with_reducible assumption) hq | ((simp only [*, BB, cond_true, cond_false, reduceCtorEq] at hq); done) | (revert hq; with_reducible intro _)) | (with_reducible first | exact True.intro | rfl | refine EntLe.row ?_ | exact LeN.ro rfl | exact LeN.rptr | assumption) | ((with_reducible first | refine WkX.chk ?_ | refine Wk.chk ?_ | refine LeL.chk ?_ | refine LeF.chk ?_ | refine Run.mk ?_); (conv => whnf)) | ((with_reducible show LeO _ _); first | refine LeO.ro ?_ | refine LeO.roCap ?_ | refine LeO.nil ?_ (fun _ => rfl)) | ((with_reducible show LeR _ _ _); first | refine LeR.own rfl rfl rfl ?_ | refine LeR.view rfl rfl rfl ?_ ?_ | refine LeR.ro ?_ | refine LeR.roCap ?_ | refine LeR.nil ?_ (fun _ => rfl)) | ((with_reducible first | show drawOK _ _ = true | show lateOK _ _ = true | show drawOK2 _ _ = true | show drawOK3 _ _ = true); kernel_rfl))
    all_goals (try (apply Fits.i64 <;> omega))
    refine loopI (Nat × Nat) [] (fun | (_, a) => [(7, .v (.int .i64 (a : Nat))), (8, .v (.int .i64 ((a : Int) + 2 * (bs : Int))))]) (fun | (_, a) => [(0, .row C_spn (ph2 ltM l bs a) 71 none)]) (fun | (k, a) => a = k * (2 * bs) ∧ a ≤ l.length) (fun | (_, a) => l.length - a) (0, 0) ⟨by omega, by omega⟩ (Wk.chk ?_) fun x hx => ?_
    · ((conv => whnf); repeat' (first | (with_reducible first | exact fun h => h | refine ExE.row (by with_unfolding_all rfl) ?_ | refine And.intro ?_ ?_) | ((with_reducible intro hq); first | exact bne1 hq (by with_reducible assumption) | exact bne1 (by with_reducible assumption) hq | ((simp only [*, BB, cond_true, cond_false, reduceCtorEq] at hq); done) | (revert hq; with_reducible intro _)) | (with_reducible first | exact True.intro | rfl | refine EntLe.row ?_ | exact LeN.ro rfl | exact LeN.rptr | assumption) | ((with_reducible first | refine WkX.chk ?_ | refine Wk.chk ?_ | refine LeL.chk ?_ | refine LeF.chk ?_ | refine Run.mk ?_); (conv => whnf)) | ((with_reducible show LeO _ _); first | refine LeO.ro ?_ | refine LeO.roCap ?_ | refine LeO.nil ?_ (fun _ => rfl)) | ((with_reducible show LeR _ _ _); first | refine LeR.own rfl rfl rfl ?_ | refine LeR.view rfl rfl rfl ?_ ?_ | refine LeR.ro ?_ | refine LeR.roCap ?_ | refine LeR.nil ?_ (fun _ => rfl)) | ((with_reducible first | show drawOK _ _ = true | show lateOK _ _ = true | show drawOK2 _ _ = true | show drawOK3 _ _ = true); kernel_rfl)))
      all_goals first
        | rfl
        | (rw [ph2_start]; done)
        | (simp; done)
        | trace_state
    obtain ⟨k, a⟩ := x
    obtain ⟨ha, hk⟩ : a = k * (2 * bs) ∧ a ≤ l.length := hx
    have ha1 : a + 2 * bs = (k + 1) * (2 * bs) := by rw [Nat.add_mul, ← ha]; omega
    have hpl := ph2_len (lt := ltM) l (bs := bs) (by omega) a
    have e1 : ((a : Nat) : Int).toNat = a := Int.toNat_natCast _
    have e2 : (((a : Nat) : Int) + (bs : Int)).toNat = a + bs := by omega
    have e3 : (((a : Nat) : Int) + 2 * (bs : Int)).toNat = a + 2 * bs := by omega
    by_cases hkn : a + 2 * bs ≤ l.length
    · have hle : decide (((a : Nat) : Int) + 2 * (bs : Int) ≤ (l.length : Int)) = true := decide_eq_true (by omega)
      have hst := ph2_step ordM l (bs := bs) (a := a) (k := k) (by omega) ha hkn
      obtain ⟨_, s1, s2, _⟩ := ph2_parts ordM l (bs := bs) (a := a) (b := a + 2 * bs) (by omega) (by omega) hkn (by omega) (.inr rfl) hk
      repeat' (first | (with_reducible refine ⟨(_, _, _), _, _, ⟨(by with_unfolding_all exact rfl), (.cons (.v _) (.cons (.v _) (.cons (.v _) (.cons (.fn _) .nil)))), ?_, fun _ => (by with_unfolding_all exact rfl)⟩, ?_⟩) | (with_reducible refine ex_of (α := Nat × Nat) (k + 1, a + 2 * bs) ⟨⟨ha1, ?_⟩, ?_⟩ ?_) | (with_reducible first | exact fun h => h | refine ExE.row (by with_unfolding_all rfl) ?_ | refine And.intro ?_ ?_) | ((with_reducible intro hq); first | exact bne1 hq (by with_reducible assumption) | exact bne1 (by with_reducible assumption) hq | ((simp only [*, BB, cond_true, cond_false, reduceCtorEq] at hq); done) | (revert hq; with_reducible intro _)) | (with_reducible first | exact True.intro | rfl | refine EntLe.row ?_ | exact LeN.ro rfl | exact LeN.rptr | assumption) | ((with_reducible first | refine WkX.chk ?_ | refine Wk.chk ?_ | refine LeL.chk ?_ | refine LeF.chk ?_ | refine Run.mk ?_); (conv => whnf)) | ((with_reducible show LeO _ _); first | refine LeO.ro ?_ | refine LeO.roCap ?_ | refine LeO.nil ?_ (fun _ => rfl)) | ((with_reducible show LeR _ _ _); first | refine LeR.own rfl rfl rfl ?_ | refine LeR.view rfl rfl rfl ?_ ?_ | refine LeR.ro ?_ | refine LeR.roCap ?_ | refine LeR.nil ?_ (fun _ => rfl)) | ((with_reducible first | show drawOK _ _ = true | show lateOK _ _ = true | show drawOK2 _ _ = true | show drawOK3 _ _ = true); kernel_rfl))
      all_goals (try simp only [ncast, e1, e2, e3, hst, hpl])
      all_goals first
        | omega
        | rfl
        | assumption
        | (apply Fits.i64 <;> omega)
        | (show l.length - (a + 2 * bs) < l.length - a; omega)
        | (exact congrArg (fun z => AV.v (Value.int IntKind.i64 z)) (by omega))
        | trace_state
    have hle : decide (((a : Nat) : Int) + 2 * (bs : Int) ≤ (l.length : Int)) = false := decide_eq_false (by omega)
    by_cases hm : a + bs < l.length
    · have hlt2 : decide (((a : Nat) : Int) + (bs : Int) < (l.length : Int)) = true := decide_eq_true (by omega)
      have hst := ph2_last ordM l (bs := bs) (a := a) (k := k) (by omega) ha hm (by omega)
      obtain ⟨_, s1, s2, _⟩ := ph2_parts ordM l (bs := bs) (a := a) (b := l.length) (by omega) (by omega) (Nat.le_refl _) (by omega) (.inl rfl) hk
      repeat' (first | (with_reducible refine ⟨(_, _, _), _, _, ⟨(by with_unfolding_all exact rfl), (.cons (.v _) (.cons (.v _) (.cons (.v _) (.cons (.fn _) .nil)))), ?_, fun _ => (by with_unfolding_all exact rfl)⟩, ?_⟩) | (with_reducible refine ex_of (α := Nat) (2 * bs) ⟨⟨?_, ?_⟩, ?_⟩ ?_) | (with_reducible first | exact fun h => h | refine ExE.row (by with_unfolding_all rfl) ?_ | refine And.intro ?_ ?_) | ((with_reducible intro hq); first | exact bne1 hq (by with_reducible assumption) | exact bne1 (by with_reducible assumption) hq | ((simp only [*, BB, cond_true, cond_false, reduceCtorEq] at hq); done) | (revert hq; with_reducible intro _)) | (with_reducible first | exact True.intro | rfl | refine EntLe.row ?_ | exact LeN.ro rfl | exact LeN.rptr | assumption) | ((with_reducible first | refine WkX.chk ?_ | refine Wk.chk ?_ | refine LeL.chk ?_ | refine LeF.chk ?_ | refine Run.mk ?_); (conv => whnf)) | ((with_reducible show LeO _ _); first | refine LeO.ro ?_ | refine LeO.roCap ?_ | refine LeO.nil ?_ (fun _ => rfl)) | ((with_reducible show LeR _ _ _); first | refine LeR.own rfl rfl rfl ?_ | refine LeR.view rfl rfl rfl ?_ ?_ | refine LeR.ro ?_ | refine LeR.roCap ?_ | refine LeR.nil ?_ (fun _ => rfl)) | ((with_reducible first | show drawOK _ _ = true | show lateOK _ _ = true | show drawOK2 _ _ = true | show drawOK3 _ _ = true); kernel_rfl))
      all_goals (try simp only [ncast, e1, e2, e3, e4, hst, hpl])
      all_goals first
        | omega
        | rfl
        | assumption
        | (apply Fits.i64 <;> omega)
        | (exact congrArg (fun z => AV.v (Value.int IntKind.i64 z)) (by omega))
        | trace_state
    · have hlt2 : decide (((a : Nat) : Int) + (bs : Int) < (l.length : Int)) = false := decide_eq_false (by omega)
      have hst := ph2_end (lt := ltM) l (bs := bs) (a := a) (k := k) (by omega) ha hk (by omega)
      repeat' (first | (with_reducible refine ⟨(_, _, _), _, _, ⟨(by with_unfolding_all exact rfl), (.cons (.v _) (.cons (.v _) (.cons (.v _) (.cons (.fn _) .nil)))), ?_, fun _ => (by with_unfolding_all exact rfl)⟩, ?_⟩) | (with_reducible refine ex_of (α := Nat) (2 * bs) ⟨⟨?_, ?_⟩, ?_⟩ ?_) | (with_reducible first | exact fun h => h | refine ExE.row (by with_unfolding_all rfl) ?_ | refine And.intro ?_ ?_) | ((with_reducible intro hq); first | exact bne1 hq (by with_reducible assumption) | exact bne1 (by with_reducible assumption) hq | ((simp only [*, BB, cond_true, cond_false, reduceCtorEq] at hq); done) | (revert hq; with_reducible intro _)) | (with_reducible first | exact True.intro | rfl | refine EntLe.row ?_ | exact LeN.ro rfl | exact LeN.rptr | assumption) | ((with_reducible first | refine WkX.chk ?_ | refine Wk.chk ?_ | refine LeL.chk ?_ | refine LeF.chk ?_ | refine Run.mk ?_); (conv => whnf)) | ((with_reducible show LeO _ _); first | refine LeO.ro ?_ | refine LeO.roCap ?_ | refine LeO.nil ?_ (fun _ => rfl)) | ((with_reducible show LeR _ _ _); first | refine LeR.own rfl rfl rfl ?_ | refine LeR.view rfl rfl rfl ?_ ?_ | refine LeR.ro ?_ | refine LeR.roCap ?_ | refine LeR.nil ?_ (fun _ => rfl)) | ((with_reducible first | show drawOK _ _ = true | show lateOK _ _ = true | show drawOK2 _ _ = true | show drawOK3 _ _ = true); kernel_rfl))
      all_goals (try simp only [ncast, e1, e2, e3, e4, hst, hpl])
      all_goals first
        | omega
        | rfl
        | assumption
        | (apply Fits.i64 <;> omega)
        | (exact congrArg (fun z => AV.v (Value.int IntKind.i64 z)) (by omega))
        | trace_state
  have hlt : decide ((bs : Int) < (l.length : Int)) = false := decide_eq_false (by omega)
  have hend := bsort_small (lt := ltM) (bs := bs) (l := l) (by omega)
  repeat' (first | (with_reducible first | exact fun h => h | refine ExE.row (by with_unfolding_all rfl) ?_ | refine And.intro ?_ ?_) | ((with_reducible intro hq); first | exact bne1 hq (by with_reducible assumption) | exact bne1 (by with_reducible assumption) hq | ((simp only [*, BB, cond_true, cond_false, reduceCtorEq] at hq); done) | (revert hq; with_reducible intro _)) | (with_reducible first | exact True.intro | rfl | refine EntLe.row ?_ | exact LeN.ro rfl | exact LeN.rptr | assumption) | ((with_reducible first | refine WkX.chk ?_ | refine Wk.chk ?_ | refine LeL.chk ?_ | refine LeF.chk ?_ | refine Run.mk ?_); (conv => whnf)) | ((with_reducible show LeO _ _); first | refine LeO.ro ?_ | refine LeO.roCap ?_ | refine LeO.nil ?_ (fun _ => rfl)) | ((with_reducible show LeR _ _ _); first | refine LeR.own rfl rfl rfl ?_ | refine LeR.view rfl rfl rfl ?_ ?_ | refine LeR.ro ?_ | refine LeR.roCap ?_ | refine LeR.nil ?_ (fun _ => rfl)) | ((with_reducible first | show drawOK _ _ = true | show lateOK _ _ = true | show drawOK2 _ _ = true | show drawOK3 _ _ = true); kernel_rfl))
  all_goals first
    | rfl
    | (refine ⟨_, _, rfl, ?_⟩; exact hend)
    | trace_state
theorem conW_sortStable_M : ConW prog 92 C_spn 71 (fun _ : Unit => [.fn 116 []]) (fun _ l => isort ltM l) (fun _ l => l.length ≤ 1100000) := by
  refine ConW.of (by kernel_rfl) T_ok CdsOK.nil (.conw conW_stable_M .nil) 3 [] q_sortStableS.1 q_sortStableS.2.1 q_sortStableS.2.2 (fun _ => rfl) (fun _ => .cons (.fn _) .nil) fun n l hi => ?_
  have hl : l.length ≤ 1100000 := hi
  repeat' (first | (with_reducible refine ⟨_, _, _, ⟨(by with_unfolding_all exact rfl), (.cons (.v _) (.cons (.fn _) .nil)), ?_, fun _ => (by with_unfolding_all exact rfl)⟩, ?_⟩) | (with_reducible first | exact fun h => h | refine ExE.row (by with_unfolding_all rfl) ?_ | refine And.intro ?_ ?_) | ((with_reducible intro hq); first | exact bne1 hq (by with_reducible assumption) | exact bne1 (by with_reducible assumption) hq | ((simp only [*, BB, cond_true, cond_false, reduceCtorEq] at hq); done) | (revert hq; with_reducible intro _)) | (with_reducible first | exact True.intro | rfl | refine EntLe.row ?_ | exact LeN.ro rfl | exact LeN.rptr | assumption) | ((with_reducible first | refine WkX.chk ?_ | refine Wk.chk ?_ | refine LeL.chk ?_ | refine LeF.chk ?_ | refine Run.mk ?_); (conv => whnf)) | ((with_reducible show LeO _ _); first | refine LeO.ro ?_ | refine LeO.roCap ?_ | refine LeO.nil ?_ (fun _ => rfl)) | ((with_reducible show LeR _ _ _); first | refine LeR.own rfl rfl rfl ?_ | refine LeR.view rfl rfl rfl ?_ ?_ | refine LeR.ro ?_ | refine LeR.roCap ?_ | refine LeR.nil ?_ (fun _ => rfl)) | ((with_reducible first | show drawOK _ _ = true | show lateOK _ _ = true | show drawOK2 _ _ = true | show drawOK3 _ _ = true); kernel_rfl))
  all_goals first
    | rfl
    | assumption
    | (apply Fits.i64 <;> omega)
    | exact ⟨_, _, rfl, rfl⟩
    | trace_state
end Go.SX.Try
/- Contract of style.made. -/
namespace Go.SX.Try
open Go.Proofs Go.Proofs.Try Go.SX.Plain
set_option maxRecDepth 100000
set_option maxHeartbeats 0
set_option linter.unusedSimpArgs false
theorem q_smade : fact 107 f107 := ⟨by kernel_rfl, rfl, by kernel_rfl⟩
def C_bool : Cdc Bool where
  size := 1
  enc b := [.sb b]
  dec l := match l with
    | [a] => bOf a
    | _ => false
  d := false
def D_mk : Cds := [(71, ⟨Spn, C_spn⟩), (4, ⟨Bool, C_bool⟩)]
theorem D_mk_ok : CdsOK T D_mk := .cons ⟨fun _ => rfl, by decide, _, rfl, rfl, by decide⟩ (.cons ⟨fun _ => rfl, by decide, _, rfl, rfl, by decide⟩ .nil)
theorem con_smade : Con prog 107 (fun l : List Atr => [lkR l]) (fun l => spO (normS l)) (fun l => ColOK l ∧ l.length ≤ 10000) := by
  refine Con.of (by kernel_rfl) T_ok D_mk_ok (.con con_svalue (.conw conW_sortStable_M .nil)) 5 [] q_smade.1 q_smade.2.1 q_smade.2.2 (fun _ => rfl) fun l hi => ?_
  obtain ⟨hcol, hl⟩ : ColOK l ∧ l.length ≤ 10000 := hi
  have hd : C_att.d = zA := rfl
  have hdb : C_bool.d = false := rfl
  repeat' (first | (with_reducible first | exact fun h => h | refine ExE.row (by with_unfolding_all rfl) ?_ | refine And.intro ?_ ?_) | ((with_reducible intro hq); first | exact bne1 hq (by with_reducible assumption) | exact bne1 (by with_reducible assumption) hq | ((simp only [*, BB, cond_true, cond_false, reduceCtorEq] at hq); done) | (revert hq; with_reducible intro _)) | (with_reducible first | exact True.intro | rfl | refine EntLe.row ?_ | exact LeN.ro rfl | exact LeN.rptr | assumption) | ((with_reducible first | refine WkX.chk ?_ | refine Wk.chk ?_ | refine LeL.chk ?_ | refine LeF.chk ?_ | refine Run.mk ?_); (conv => whnf)) | ((with_reducible show LeO _ _); first | refine LeO.ro ?_ | refine LeO.roCap ?_ | refine LeO.nil ?_ (fun _ => rfl)) | ((with_reducible show LeR _ _ _); first | refine LeR.own rfl rfl rfl ?_ | refine LeR.view rfl rfl rfl ?_ ?_ | refine LeR.ro ?_ | refine LeR.roCap ?_ | refine LeR.nil ?_ (fun _ => rfl)) | ((with_reducible first | show drawOK _ _ = true | show lateOK _ _ = true | show drawOK2 _ _ = true | show drawOK3 _ _ = true); kernel_rfl))
  all_goals (try (first | omega | (apply Fits.i64 <;> omega) | (dsimp only; omega) | rfl))
  refine loopI Nat [] (fun q => [(5, .v (.int .i64 ((q + 1 : Nat) : Int))), (4, .own 2)]) (fun q => [(1, .row C_bool (kindsTo l q).1 4 none), (2, .row C_spn (kindsTo l q).2 71 none)]) (fun q => q ≤ 5) (fun q => 5 - q) 0 (Nat.zero_le _) (Wk.chk ?_) fun q hq => ?_
  · ((conv => whnf); repeat' (first | (with_reducible first | exact fun h => h | refine ExE.row (by with_unfolding_all rfl) ?_ | refine And.intro ?_ ?_) | ((with_reducible intro hq); first | exact bne1 hq (by with_reducible assumption) | exact bne1 (by with_reducible assumption) hq | ((simp only [*, BB, cond_true, cond_false, reduceCtorEq] at hq); done) | (revert hq; with_reducible intro _)) | (with_reducible first | exact True.intro | rfl | refine EntLe.row ?_ | exact LeN.ro rfl | exact LeN.rptr | assumption) | ((with_reducible first | refine WkX.chk ?_ | refine Wk.chk ?_ | refine LeL.chk ?_ | refine LeF.chk ?_ | refine Run.mk ?_); (conv => whnf)) | ((with_reducible show LeO _ _); first | refine LeO.ro ?_ | refine LeO.roCap ?_ | refine LeO.nil ?_ (fun _ => rfl)) | ((with_reducible show LeR _ _ _); first | refine LeR.own rfl rfl rfl ?_ | refine LeR.view rfl rfl rfl ?_ ?_ | refine LeR.ro ?_ | refine LeR.roCap ?_ | refine LeR.nil ?_ (fun _ => rfl)) | ((with_reducible first | show drawOK _ _ = true | show lateOK _ _ = true | show drawOK2 _ _ = true | show drawOK3 _ _ = true); kernel_rfl)))
    all_goals first
      | rfl
      | exact EntLe.rowNone (show List.replicate ((l.length : Int) + 1).toNat false = (kindsTo l 0).1 by rw [show ((l.length : Int) + 1).toNat = l.length + 1 by omega]; rfl)
      | trace_state
  have hq : q ≤ 5 := hq
  have hkl := kinds_len l q
  have hq5 : q * l.length ≤ 5 * l.length := Nat.mul_le_mul_right _ hq
  by_cases hq4 : q < 5
  case neg =>
    obtain rfl : q = 5 := by omega
    have hlt : decide (((5 + 1 : Nat) : Int) ≤ 5) = false := rfl
    have hfin : isort ltM (kindsTo l 5).2 = normS l := rfl
    repeat' (first | (with_reducible refine ⟨(), _, _, ⟨(by with_unfolding_all exact rfl), (.cons (.fn _) .nil), ?_, fun _ => (by with_unfolding_all exact rfl)⟩, ?_⟩) | (with_reducible first | exact fun h => h | refine ExE.row (by with_unfolding_all rfl) ?_ | refine And.intro ?_ ?_) | ((with_reducible intro hq); first | exact bne1 hq (by with_reducible assumption) | exact bne1 (by with_reducible assumption) hq | ((simp only [*, BB, cond_true, cond_false, reduceCtorEq] at hq); done) | (revert hq; with_reducible intro _)) | (with_reducible first | exact True.intro | rfl | refine EntLe.row ?_ | exact LeN.ro rfl | exact LeN.rptr | assumption) | ((with_reducible first | refine WkX.chk ?_ | refine Wk.chk ?_ | refine LeL.chk ?_ | refine LeF.chk ?_ | refine Run.mk ?_); (conv => whnf)) | ((with_reducible show LeO _ _); first | refine LeO.ro ?_ | refine LeO.roCap ?_ | refine LeO.nil ?_ (fun _ => rfl)) | ((with_reducible show LeR _ _ _); first | refine LeR.own rfl rfl rfl ?_ | refine LeR.view rfl rfl rfl ?_ ?_ | refine LeR.ro ?_ | refine LeR.roCap ?_ | refine LeR.nil ?_ (fun _ => rfl)) | ((with_reducible first | show drawOK _ _ = true | show lateOK _ _ = true | show drawOK2 _ _ = true | show drawOK3 _ _ = true); kernel_rfl))
    all_goals first
      | omega
      | (dsimp only; omega)
      | exact hfin
      | rfl
      | trace_state
  have hlt : decide (((q + 1 : Nat) : Int) ≤ 5) = true := decide_eq_true (by omega)
  have hcl := kinds_cut l q
  have hcutE : ∃ cut, cut = (kindsTo l q).1 := ⟨_, rfl⟩
  obtain ⟨cut, hcut⟩ := hcutE
  have hPE : ∃ P, P = (kindsTo l q).2 := ⟨_, rfl⟩
  obtain ⟨P, hP⟩ := hPE
  have hKE : ∃ k : Int, k = ((q + 1 : Nat) : Int) := ⟨_, rfl⟩
  obtain ⟨k, hk⟩ := hKE
  have hk1 : 1 ≤ k ∧ k ≤ 5 := by omega
  have hkS : kindsTo l (q + 1) = (mkTo cut (strT l cut k 0) (strT l cut k 0).length, P ++ strT l cut k 0) := by rw [kindsTo, hcut, hP, hk]
  rw [← hcut] at hcl
  rw [← hP] at hkl
  simp only [← hcut, ← hP, ← hk] at hlt ⊢
  repeat' (first | (with_reducible first | exact fun h => h | refine ExE.row (by with_unfolding_all rfl) ?_ | refine And.intro ?_ ?_) | ((with_reducible intro hq); first | exact bne1 hq (by with_reducible assumption) | exact bne1 (by with_reducible assumption) hq | ((simp only [*, BB, cond_true, cond_false, reduceCtorEq] at hq); done) | (revert hq; with_reducible intro _)) | (with_reducible first | exact True.intro | rfl | refine EntLe.row ?_ | exact LeN.ro rfl | exact LeN.rptr | assumption) | ((with_reducible first | refine WkX.chk ?_ | refine Wk.chk ?_ | refine LeL.chk ?_ | refine LeF.chk ?_ | refine Run.mk ?_); (conv => whnf)) | ((with_reducible show LeO _ _); first | refine LeO.ro ?_ | refine LeO.roCap ?_ | refine LeO.nil ?_ (fun _ => rfl)) | ((with_reducible show LeR _ _ _); first | refine LeR.own rfl rfl rfl ?_ | refine LeR.view rfl rfl rfl ?_ ?_ | refine LeR.ro ?_ | refine LeR.roCap ?_ | refine LeR.nil ?_ (fun _ => rfl)) | ((with_reducible first | show drawOK _ _ = true | show lateOK _ _ = true | show drawOK2 _ _ = true | show drawOK3 _ _ = true); kernel_rfl))
  refine loopI (Nat × List Spn) [21] (fun | (i, _) => [(7, .v (.int .i64 (i : Nat))), (4, .own 2)]) (fun | (_, D) => [(2, .row C_spn (P ++ D) 71 none)]) (fun | (i, D) => i ≤ l.length ∧ D ++ strT l cut k i = strT l cut k 0) (fun | (i, _) => l.length - i) (0, []) ⟨Nat.zero_le _, rfl⟩ (Wk.chk ?_) fun x hx => ?_
  · ((conv => whnf); repeat' (first | (with_reducible first | exact fun h => h | refine ExE.row (by with_unfolding_all rfl) ?_ | refine And.intro ?_ ?_) | ((with_reducible intro hq); first | exact bne1 hq (by with_reducible assumption) | exact bne1 (by with_reducible assumption) hq | ((simp only [*, BB, cond_true, cond_false, reduceCtorEq] at hq); done) | (revert hq; with_reducible intro _)) | (with_reducible first | exact True.intro | rfl | refine EntLe.row ?_ | exact LeN.ro rfl | exact LeN.rptr | assumption) | ((with_reducible first | refine WkX.chk ?_ | refine Wk.chk ?_ | refine LeL.chk ?_ | refine LeF.chk ?_ | refine Run.mk ?_); (conv => whnf)) | ((with_reducible show LeO _ _); first | refine LeO.ro ?_ | refine LeO.roCap ?_ | refine LeO.nil ?_ (fun _ => rfl)) | ((with_reducible show LeR _ _ _); first | refine LeR.own rfl rfl rfl ?_ | refine LeR.view rfl rfl rfl ?_ ?_ | refine LeR.ro ?_ | refine LeR.roCap ?_ | refine LeR.nil ?_ (fun _ => rfl)) | ((with_reducible first | show drawOK _ _ = true | show lateOK _ _ = true | show drawOK2 _ _ = true | show drawOK3 _ _ = true); kernel_rfl)))
    all_goals first
      | rfl
      | exact (List.append_nil _).symm
      | (rw [List.append_nil]; done)
      | trace_state
  obtain ⟨i, D⟩ := x
  obtain ⟨hi, hD⟩ : i ≤ l.length ∧ D ++ strT l cut k i = strT l cut k 0 := hx
  have hDl : D.length ≤ l.length := by
    have h1 := congrArg List.length hD
    have h2 := strT_len (l := l) (cut := cut) (k := k) 0
    rw [List.length_append] at h1
    omega
  have hPD : (P ++ D).length = P.length + D.length := List.length_append
  have e1 : ((i : Nat) : Int).toNat = i := Int.toNat_natCast _
  by_cases hil : i < l.length
  · have hlt2 : decide ((i : Int) < (l.length : Int)) = true := decide_eq_true (by omega)
    have hgi : l.getD ((i : Nat) : Int).toNat C_att.d = l.getD i zA := by rw [e1, hd]
    have hvE : ∃ v, v = hasK (l.getD ((i : Nat) : Int).toNat C_att.d) k := ⟨_, rfl⟩
    obtain ⟨v, hv⟩ := hvE
    have hv2 : v = hasK (l.getD i zA) k := by rw [hv, hgi]
    have hvb := hasK_bd (k := k) (hcol.at hil)
    rw [← hv2] at hvb
    have hE := strE_bd (cut := cut) (k := k) hil
    repeat' (first | (with_reducible refine ⟨(_, k), ⟨(.cons (.agg (.cons (.sb _) (.cons (.sb _) (.cons (.sb _) (.cons (.sb _) (.cons (.v _) .nil)))))) (.cons (.v _) .nil)), ?_⟩, ?_⟩) | (with_reducible first | exact fun h => h | refine ExE.row (by with_unfolding_all rfl) ?_ | refine And.intro ?_ ?_) | ((with_reducible intro hq); first | exact bne1 hq (by with_reducible assumption) | exact bne1 (by with_reducible assumption) hq | ((simp only [*, BB, cond_true, cond_false, reduceCtorEq] at hq); done) | (revert hq; with_reducible intro _)) | (with_reducible first | exact True.intro | rfl | refine EntLe.row ?_ | exact LeN.ro rfl | exact LeN.rptr | assumption) | ((with_reducible first | refine WkX.chk ?_ | refine Wk.chk ?_ | refine LeL.chk ?_ | refine LeF.chk ?_ | refine Run.mk ?_); (conv => whnf)) | ((with_reducible show LeO _ _); first | refine LeO.ro ?_ | refine LeO.roCap ?_ | refine LeO.nil ?_ (fun _ => rfl)) | ((with_reducible show LeR _ _ _); first | refine LeR.own rfl rfl rfl ?_ | refine LeR.view rfl rfl rfl ?_ ?_ | refine LeR.ro ?_ | refine LeR.roCap ?_ | refine LeR.nil ?_ (fun _ => rfl)) | ((with_reducible first | show drawOK _ _ = true | show lateOK _ _ = true | show drawOK2 _ _ = true | show drawOK3 _ _ = true); kernel_rfl))
    all_goals (try (first | omega | exact hk1 | (apply Fits.i64 <;> omega) | (dsimp only; omega)))
    refine loopI Nat [] (fun j => [(9, .v (.int .i64 (j : Nat)))]) (fun _ => []) (fun j => i + 1 ≤ j ∧ j ≤ l.length ∧ adv (goOn l cut k v) (l.length - j) j = strE l cut k i) (fun j => l.length - j) (i + 1) ⟨Nat.le_refl _, by omega, by rw [hv2]; rfl⟩ (Wk.chk ?_) fun j hj => ?_
    · ((conv => whnf); repeat' (first | (with_reducible first | exact fun h => h | refine ExE.row (by with_unfolding_all rfl) ?_ | refine And.intro ?_ ?_) | ((with_reducible intro hq); first | exact bne1 hq (by with_reducible assumption) | exact bne1 (by with_reducible assumption) hq | ((simp only [*, BB, cond_true, cond_false, reduceCtorEq] at hq); done) | (revert hq; with_reducible intro _)) | (with_reducible first | exact True.intro | rfl | refine EntLe.row ?_ | exact LeN.ro rfl | exact LeN.rptr | assumption) | ((with_reducible first | refine WkX.chk ?_ | refine Wk.chk ?_ | refine LeL.chk ?_ | refine LeF.chk ?_ | refine Run.mk ?_); (conv => whnf)) | ((with_reducible show LeO _ _); first | refine LeO.ro ?_ | refine LeO.roCap ?_ | refine LeO.nil ?_ (fun _ => rfl)) | ((with_reducible show LeR _ _ _); first | refine LeR.own rfl rfl rfl ?_ | refine LeR.view rfl rfl rfl ?_ ?_ | refine LeR.ro ?_ | refine LeR.roCap ?_ | refine LeR.nil ?_ (fun _ => rfl)) | ((with_reducible first | show drawOK _ _ = true | show lateOK _ _ = true | show drawOK2 _ _ = true | show drawOK3 _ _ = true); kernel_rfl)))
      all_goals first
        | rfl
        | trace_state
    obtain ⟨hj1, hj2, hj3⟩ := hj
    have e2 : ((j : Nat) : Int).toNat = j := Int.toNat_natCast _
    have hgj : l.getD ((j : Nat) : Int).toNat C_att.d = l.getD j zA := by rw [e2, hd]
    have hcj : cut.getD ((j : Nat) : Int).toNat C_bool.d = cut.getD j false := by rw [e2, hdb]
    have exit : strE l cut k i = j → True := fun _ => trivial
    by_cases hgo : j < l.length ∧ goOn l cut k v j = true
    · obtain ⟨hjl, hgo⟩ := hgo
      have hst := (adv_on (n := l.length) hjl hgo).symm.trans hj3
      unfold goOn at hgo
      rw [Bool.and_eq_true, decide_eq_true_eq] at hgo
      have m0 : decide ((j : Int) < (l.length : Int)) = true := decide_eq_true (by omega)
      have m1 : (hasK (l.getD ((j : Nat) : Int).toNat C_att.d) k == hasK (l.getD ((i : Nat) : Int).toNat C_att.d) k) = true := by rw [hgj, ← hv, beq_iff_eq]; exact hgo.1
      have m2 : (decide ((j : Int) < (l.length : Int)) && (hasK (l.getD ((j : Nat) : Int).toNat C_att.d) k == hasK (l.getD ((i : Nat) : Int).toNat C_att.d) k)) = true := by rw [m0, m1]; rfl
      have m3 : (!(cut.getD ((j : Nat) : Int).toNat C_bool.d)) = true := by rw [hcj]; exact hgo.2
      have m4 : ((decide ((j : Int) < (l.length : Int)) && (hasK (l.getD ((j : Nat) : Int).toNat C_att.d) k == hasK (l.getD ((i : Nat) : Int).toNat C_att.d) k)) && !(cut.getD ((j : Nat) : Int).toNat C_bool.d)) = true := by rw [m2, m3]; rfl
      repeat' (first | (with_reducible refine ⟨(_, k), ⟨(.cons (.agg (.cons (.sb _) (.cons (.sb _) (.cons (.sb _) (.cons (.sb _) (.cons (.v _) .nil)))))) (.cons (.v _) .nil)), ?_⟩, ?_⟩) | (with_reducible refine ex_of (α := Nat) (j + 1) ⟨⟨?_, ?_, hst⟩, ?_⟩ ?_) | (with_reducible first | exact fun h => h | refine ExE.row (by with_unfolding_all rfl) ?_ | refine And.intro ?_ ?_) | ((with_reducible intro hq); first | exact bne1 hq (by with_reducible assumption) | exact bne1 (by with_reducible assumption) hq | ((simp only [*, BB, cond_true, cond_false, reduceCtorEq] at hq); done) | (revert hq; with_reducible intro _)) | (with_reducible first | exact True.intro | rfl | refine EntLe.row ?_ | exact LeN.ro rfl | exact LeN.rptr | assumption) | ((with_reducible first | refine WkX.chk ?_ | refine Wk.chk ?_ | refine LeL.chk ?_ | refine LeF.chk ?_ | refine Run.mk ?_); (conv => whnf)) | ((with_reducible show LeO _ _); first | refine LeO.ro ?_ | refine LeO.roCap ?_ | refine LeO.nil ?_ (fun _ => rfl)) | ((with_reducible show LeR _ _ _); first | refine LeR.own rfl rfl rfl ?_ | refine LeR.view rfl rfl rfl ?_ ?_ | refine LeR.ro ?_ | refine LeR.roCap ?_ | refine LeR.nil ?_ (fun _ => rfl)) | ((with_reducible first | show drawOK _ _ = true | show lateOK _ _ = true | show drawOK2 _ _ = true | show drawOK3 _ _ = true); kernel_rfl))
      all_goals first
        | omega
        | exact hk1
        | (apply Fits.i64 <;> omega)
        | (dsimp only; omega)
        | rfl
        | trace_state
    have hje : strE l cut k i = j := by
      rw [← hj3]
      rcases Nat.lt_or_ge j l.length with h | h
      · refine adv_no h ?_
        cases hc : goOn l cut k v j with
        | false => rfl
        | true => exact absurd ⟨h, hc⟩ hgo
      · exact adv_end h
    have hstp := strT_step (cut := cut) (k := k) hil
    rw [hje] at hstp
    have hD2 : (D ++ strS l cut k i) ++ strT l cut k j = strT l cut k 0 := by rw [List.append_assoc, ← hstp]; exact hD
    have hPA : P ++ D ++ strS l cut k i = P ++ (D ++ strS l cut k i) := List.append_assoc _ _ _
    have m9 : ((decide ((j : Int) < (l.length : Int)) && (hasK (l.getD ((j : Nat) : Int).toNat C_att.d) k == hasK (l.getD ((i : Nat) : Int).toNat C_att.d) k)) && !(cut.getD ((j : Nat) : Int).toNat C_bool.d)) = false := by
      rw [Bool.eq_false_iff]
      intro h
      simp only [Bool.and_eq_true, decide_eq_true_eq, beq_iff_eq] at h
      refine hgo ⟨by omega, ?_⟩
      unfold goOn
      rw [Bool.and_eq_true, decide_eq_true_eq]
      exact ⟨by rw [← hgj, hv]; exact h.1.2, by rw [← hcj]; exact h.2⟩
    by_cases hv0 : v = 0
    · have hS0 : strS l cut k i = [] := by unfold strS; rw [← hv2, if_pos hv0]
      have n1 : (hasK (l.getD ((i : Nat) : Int).toNat C_att.d) k != 0) = false := by rw [← hv, hv0]; rfl
      rw [hS0, List.append_nil] at hD2
      clear hgo hj3 hv hv2
      repeat' (first | (with_reducible refine ⟨(_, k), ⟨(.cons (.agg (.cons (.sb _) (.cons (.sb _) (.cons (.sb _) (.cons (.sb _) (.cons (.v _) .nil)))))) (.cons (.v _) .nil)), ?_⟩, ?_⟩) | (with_reducible refine ex_of (α := Nat × List Spn) (j, D) ⟨⟨hj2, hD2⟩, ?_⟩ ?_) | (with_reducible first | exact fun h => h | refine ExE.row (by with_unfolding_all rfl) ?_ | refine And.intro ?_ ?_) | ((with_reducible intro hq); first | exact bne1 hq (by with_reducible assumption) | exact bne1 (by with_reducible assumption) hq | ((simp only [*, BB, cond_true, cond_false, reduceCtorEq] at hq); done) | (revert hq; with_reducible intro _)) | (with_reducible first | exact True.intro | rfl | refine EntLe.row ?_ | exact LeN.ro rfl | exact LeN.rptr | assumption) | ((with_reducible first | refine WkX.chk ?_ | refine Wk.chk ?_ | refine LeL.chk ?_ | refine LeF.chk ?_ | refine Run.mk ?_); (conv => whnf)) | ((with_reducible show LeO _ _); first | refine LeO.ro ?_ | refine LeO.roCap ?_ | refine LeO.nil ?_ (fun _ => rfl)) | ((with_reducible show LeR _ _ _); first | refine LeR.own rfl rfl rfl ?_ | refine LeR.view rfl rfl rfl ?_ ?_ | refine LeR.ro ?_ | refine LeR.roCap ?_ | refine LeR.nil ?_ (fun _ => rfl)) | ((with_reducible first | show drawOK _ _ = true | show lateOK _ _ = true | show drawOK2 _ _ = true | show drawOK3 _ _ = true); kernel_rfl))
      all_goals first
        | omega
        | exact hk1
        | (apply Fits.i64 <;> omega)
        | (dsimp only; omega)
        | exact of_decide_eq_true (by assumption)
        | rfl
        | trace_state
    have n1 : (hasK (l.getD ((i : Nat) : Int).toNat C_att.d) k != 0) = true := by rw [← hv, bne_iff_ne]; exact hv0
    have hSv : strS l cut k i = [⟨i, (j : Nat), k, if k = 5 then v - 1 else 0⟩] := by unfold strS; rw [← hv2, if_neg hv0, hje]
    have hfs : ∀ (z : Spn), z = ⟨i, (j : Nat), k, if k = 5 then v - 1 else 0⟩ → P ++ D ++ [z] = P ++ (D ++ strS l cut k i) := fun z hz => by rw [hSv, ← hz, List.append_assoc]
    by_cases hk5 : k = 5
    · have n2 : (k == 5) = true := by rw [hk5]; rfl
      have hz : (⟨i, (j : Nat), k, v - 1⟩ : Spn) = ⟨i, (j : Nat), k, if k = 5 then v - 1 else 0⟩ := by rw [if_pos hk5]
      have hfz := hfs _ hz
      rw [hv] at hfz
      clear hgo hj3 hv2
      repeat' (first | (with_reducible refine ⟨(_, k), ⟨(.cons (.agg (.cons (.sb _) (.cons (.sb _) (.cons (.sb _) (.cons (.sb _) (.cons (.v _) .nil)))))) (.cons (.v _) .nil)), ?_⟩, ?_⟩) | (with_reducible refine ex_of (α := Nat × List Spn) (j, D ++ strS l cut k i) ⟨⟨hj2, hD2⟩, ?_⟩ ?_) | (with_reducible first | exact fun h => h | refine ExE.row (by with_unfolding_all rfl) ?_ | refine And.intro ?_ ?_) | ((with_reducible intro hq); first | exact bne1 hq (by with_reducible assumption) | exact bne1 (by with_reducible assumption) hq | ((simp only [*, BB, cond_true, cond_false, reduceCtorEq] at hq); done) | (revert hq; with_reducible intro _)) | (with_reducible first | exact True.intro | rfl | refine EntLe.row ?_ | exact LeN.ro rfl | exact LeN.rptr | assumption) | ((with_reducible first | refine WkX.chk ?_ | refine Wk.chk ?_ | refine LeL.chk ?_ | refine LeF.chk ?_ | refine Run.mk ?_); (conv => whnf)) | ((with_reducible show LeO _ _); first | refine LeO.ro ?_ | refine LeO.roCap ?_ | refine LeO.nil ?_ (fun _ => rfl)) | ((with_reducible show LeR _ _ _); first | refine LeR.own rfl rfl rfl ?_ | refine LeR.view rfl rfl rfl ?_ ?_ | refine LeR.ro ?_ | refine LeR.roCap ?_ | refine LeR.nil ?_ (fun _ => rfl)) | ((with_reducible first | show drawOK _ _ = true | show lateOK _ _ = true | show drawOK2 _ _ = true | show drawOK3 _ _ = true); kernel_rfl))
      all_goals first
        | omega
        | exact hk1
        | (rw [← hv]; apply Fits.i64 <;> omega)
        | (apply Fits.i64 <;> omega)
        | (dsimp only; omega)
        | (show ((P ++ D).length + 1) * 32 ≤ 140737488355328; omega)
        | exact hfz
        | exact of_decide_eq_true (by assumption)
        | rfl
        | trace_state
    · have n2 : (k == 5) = false := by rw [beq_eq_false_iff_ne]; exact hk5
      have hz : (⟨i, (j : Nat), k, 0⟩ : Spn) = ⟨i, (j : Nat), k, if k = 5 then v - 1 else 0⟩ := by rw [if_neg hk5]
      have hfz := hfs _ hz
      clear hgo hj3 hv2
      repeat' (first | (with_reducible refine ⟨(_, k), ⟨(.cons (.agg (.cons (.sb _) (.cons (.sb _) (.cons (.sb _) (.cons (.sb _) (.cons (.v _) .nil)))))) (.cons (.v _) .nil)), ?_⟩, ?_⟩) | (with_reducible refine ex_of (α := Nat × List Spn) (j, D ++ strS l cut k i) ⟨⟨hj2, hD2⟩, ?_⟩ ?_) | (with_reducible first | exact fun h => h | refine ExE.row (by with_unfolding_all rfl) ?_ | refine And.intro ?_ ?_) | ((with_reducible intro hq); first | exact bne1 hq (by with_reducible assumption) | exact bne1 (by with_reducible assumption) hq | ((simp only [*, BB, cond_true, cond_false, reduceCtorEq] at hq); done) | (revert hq; with_reducible intro _)) | (with_reducible first | exact True.intro | rfl | refine EntLe.row ?_ | exact LeN.ro rfl | exact LeN.rptr | assumption) | ((with_reducible first | refine WkX.chk ?_ | refine Wk.chk ?_ | refine LeL.chk ?_ | refine LeF.chk ?_ | refine Run.mk ?_); (conv => whnf)) | ((with_reducible show LeO _ _); first | refine LeO.ro ?_ | refine LeO.roCap ?_ | refine LeO.nil ?_ (fun _ => rfl)) | ((with_reducible show LeR _ _ _); first | refine LeR.own rfl rfl rfl ?_ | refine LeR.view rfl rfl rfl ?_ ?_ | refine LeR.ro ?_ | refine LeR.roCap ?_ | refine LeR.nil ?_ (fun _ => rfl)) | ((with_reducible first | show drawOK _ _ = true | show lateOK _ _ = true | show drawOK2 _ _ = true | show drawOK3 _ _ = true); kernel_rfl))
      all_goals first
        | omega
        | exact hk1
        | (apply Fits.i64 <;> omega)
        | (dsimp only; omega)
        | (show ((P ++ D).length + 1) * 32 ≤ 140737488355328; omega)
        | exact hfz
        | exact of_decide_eq_true (by assumption)
        | rfl
        | trace_state
  have hlt2 : decide ((i : Int) < (l.length : Int)) = false := decide_eq_false (by omega)
  rw [strT_end hil, List.append_nil] at hD
  subst hD
  repeat' (first | (with_reducible first | exact fun h => h | refine ExE.row (by with_unfolding_all rfl) ?_ | refine And.intro ?_ ?_) | ((with_reducible intro hq); first | exact bne1 hq (by with_reducible assumption) | exact bne1 (by with_reducible assumption) hq | ((simp only [*, BB, cond_true, cond_false, reduceCtorEq] at hq); done) | (revert hq; with_reducible intro _)) | (with_reducible first | exact True.intro | rfl | refine EntLe.row ?_ | exact LeN.ro rfl | exact LeN.rptr | assumption) | ((with_reducible first | refine WkX.chk ?_ | refine Wk.chk ?_ | refine LeL.chk ?_ | refine LeF.chk ?_ | refine Run.mk ?_); (conv => whnf)) | ((with_reducible show LeO _ _); first | refine LeO.ro ?_ | refine LeO.roCap ?_ | refine LeO.nil ?_ (fun _ => rfl)) | ((with_reducible show LeR _ _ _); first | refine LeR.own rfl rfl rfl ?_ | refine LeR.view rfl rfl rfl ?_ ?_ | refine LeR.ro ?_ | refine LeR.roCap ?_ | refine LeR.nil ?_ (fun _ => rfl)) | ((with_reducible first | show drawOK _ _ = true | show lateOK _ _ = true | show drawOK2 _ _ = true | show drawOK3 _ _ = true); kernel_rfl))
  all_goals (try (first | omega | (apply Fits.i64 <;> omega) | (dsimp only; omega)))
  have hSE : ∃ S, S = strT l cut k 0 := ⟨_, rfl⟩
  obtain ⟨S, hS⟩ := hSE
  have hSin := strT_in (l := l) (cut := cut) (k := k) 0
  rw [← hS] at hDl hPD hkS hSin
  simp only [← hS]
  have hvl : (P ++ S).length - ((P.length : Int)).toNat = S.length := by omega
  refine loopI Nat [] (fun n => [(78, .v (.int .i64 (n : Nat)))]) (fun n => [(1, .row C_bool (mkTo cut S n) 4 none)]) (fun n => n ≤ S.length) (fun n => S.length - n) 0 (Nat.zero_le _) (Wk.chk ?_) fun n hn => ?_
  · ((conv => whnf); repeat' (first | (with_reducible first | exact fun h => h | refine ExE.row (by with_unfolding_all rfl) ?_ | refine And.intro ?_ ?_) | ((with_reducible intro hq); first | exact bne1 hq (by with_reducible assumption) | exact bne1 (by with_reducible assumption) hq | ((simp only [*, BB, cond_true, cond_false, reduceCtorEq] at hq); done) | (revert hq; with_reducible intro _)) | (with_reducible first | exact True.intro | rfl | refine EntLe.row ?_ | exact LeN.ro rfl | exact LeN.rptr | assumption) | ((with_reducible first | refine WkX.chk ?_ | refine Wk.chk ?_ | refine LeL.chk ?_ | refine LeF.chk ?_ | refine Run.mk ?_); (conv => whnf)) | ((with_reducible show LeO _ _); first | refine LeO.ro ?_ | refine LeO.roCap ?_ | refine LeO.nil ?_ (fun _ => rfl)) | ((with_reducible show LeR _ _ _); first | refine LeR.own rfl rfl rfl ?_ | refine LeR.view rfl rfl rfl ?_ ?_ | refine LeR.ro ?_ | refine LeR.roCap ?_ | refine LeR.nil ?_ (fun _ => rfl)) | ((with_reducible first | show drawOK _ _ = true | show lateOK _ _ = true | show drawOK2 _ _ = true | show drawOK3 _ _ = true); kernel_rfl)))
    all_goals first
      | rfl
      | trace_state
  have hn : n ≤ S.length := hn
  have hml := mkTo_len cut S n
  by_cases hnl : n < S.length
  · have hlt3 : decide ((n : Int) < (((P ++ S).length - ((P.length : Int)).toNat : Nat) : Int)) = true := decide_eq_true (by omega)
    have hxb := hSin.at hnl
    have hst := mkTo_step (cut := cut) hnl
    have hxx : (P ++ S).getD (((0 + ((P.length : Int)).toNat : Nat) : Int) + (n : Int)).toNat C_spn.d = S.getD n zS := by
      rw [show (((0 + ((P.length : Int)).toNat : Nat) : Int) + (n : Int)).toNat = P.length + n by omega, List.getD_eq_getElem?_getD, List.getElem?_append_right (by omega), Nat.add_sub_cancel_left, ← List.getD_eq_getElem?_getD]
      rfl
    repeat' (first | (with_reducible refine ex_of (α := Nat) (n + 1) ⟨?_, ?_⟩ ?_) | (with_reducible first | exact fun h => h | refine ExE.row (by with_unfolding_all rfl) ?_ | refine And.intro ?_ ?_) | ((with_reducible intro hq); first | exact bne1 hq (by with_reducible assumption) | exact bne1 (by with_reducible assumption) hq | ((simp only [*, BB, cond_true, cond_false, reduceCtorEq] at hq); done) | (revert hq; with_reducible intro _)) | (with_reducible first | exact True.intro | rfl | refine EntLe.row ?_ | exact LeN.ro rfl | exact LeN.rptr | assumption) | ((with_reducible first | refine WkX.chk ?_ | refine Wk.chk ?_ | refine LeL.chk ?_ | refine LeF.chk ?_ | refine Run.mk ?_); (conv => whnf)) | ((with_reducible show LeO _ _); first | refine LeO.ro ?_ | refine LeO.roCap ?_ | refine LeO.nil ?_ (fun _ => rfl)) | ((with_reducible show LeR _ _ _); first | refine LeR.own rfl rfl rfl ?_ | refine LeR.view rfl rfl rfl ?_ ?_ | refine LeR.ro ?_ | refine LeR.roCap ?_ | refine LeR.nil ?_ (fun _ => rfl)) | ((with_reducible first | show drawOK _ _ = true | show lateOK _ _ = true | show drawOK2 _ _ = true | show drawOK3 _ _ = true); kernel_rfl))
    all_goals first
      | omega
      | (apply Fits.i64 <;> omega)
      | (rw [hxx]; omega)
      | (rw [List.length_set, hxx]; omega)
      | (dsimp only; omega)
      | rfl
      | (rw [hxx]; exact hst.symm)
      | trace_state
  have hlt3 : decide ((n : Int) < (((P ++ S).length - ((P.length : Int)).toNat : Nat) : Int)) = false := decide_eq_false (by omega)
  have hnn : n = S.length := by omega
  subst hnn
  have hk1' : (kindsTo l (q + 1)).1 = mkTo cut S S.length := by rw [hkS]
  have hk2' : (kindsTo l (q + 1)).2 = P ++ S := by rw [hkS]
  repeat' (first | (with_reducible refine ex_of (α := Nat) (q + 1) ⟨?_, ?_⟩ ?_) | (with_reducible first | exact fun h => h | refine ExE.row (by with_unfolding_all rfl) ?_ | refine And.intro ?_ ?_) | ((with_reducible intro hq); first | exact bne1 hq (by with_reducible assumption) | exact bne1 (by with_reducible assumption) hq | ((simp only [*, BB, cond_true, cond_false, reduceCtorEq] at hq); done) | (revert hq; with_reducible intro _)) | (with_reducible first | exact True.intro | rfl | refine EntLe.row ?_ | exact LeN.ro rfl | exact LeN.rptr | assumption) | ((with_reducible first | refine WkX.chk ?_ | refine Wk.chk ?_ | refine LeL.chk ?_ | refine LeF.chk ?_ | refine Run.mk ?_); (conv => whnf)) | ((with_reducible show LeO _ _); first | refine LeO.ro ?_ | refine LeO.roCap ?_ | refine LeO.nil ?_ (fun _ => rfl)) | ((with_reducible show LeR _ _ _); first | refine LeR.own rfl rfl rfl ?_ | refine LeR.view rfl rfl rfl ?_ ?_ | refine LeR.ro ?_ | refine LeR.roCap ?_ | refine LeR.nil ?_ (fun _ => rfl)) | ((with_reducible first | show drawOK _ _ = true | show lateOK _ _ = true | show drawOK2 _ _ = true | show drawOK3 _ _ = true); kernel_rfl))
  all_goals first
    | omega
    | (apply Fits.i64 <;> omega)
    | (dsimp only; omega)
    | exact hk1'.symm
    | exact hk2'.symm
    | trace_state
end Go.SX.Try
/- A verified symbolic executor for Go code in the model: the order of what is remembered does not matter; a row takes another one's name. -/
namespace Go.SX
open Go.RowKit
def insM (p : Nat × Ent) : Mem → Mem
  | [] => [p]
  | q :: r => match Nat.ble q.1 p.1 with
    | true => p :: q :: r
    | false => q :: insM p r
def ordMem : Mem → Mem
  | [] => []
  | p :: r => insM p (ordMem r)
def ordS (A : Sta) : Sta := match A with
  | ⟨fr, stk, m, nx⟩ => ⟨fr, stk, ordMem m, nx⟩
end Go.SX
/- Contract of the document's normal. -/
namespace Go.SX.Try
open Go.Proofs Go.Proofs.Try Go.SX.Plain
set_option maxRecDepth 100000
set_option maxHeartbeats 0
set_option linter.unusedSimpArgs false
end Go.SX.Try
/- Plain law: colours of looks; the answers of Norm and Set. -/
namespace Go.SX.Plain
set_option linter.unusedSimpArgs false
theorem setA_col {a : Atr} {x : Spn} (h : 0 ≤ a.colour ∧ a.colour ≤ 16777216) (hx : 0 ≤ x.val ∧ x.val ≤ 16777215) : 0 ≤ (setA a x).colour ∧ (setA a x).colour ≤ 16777216 := by
  unfold setA
  repeat' split
  all_goals first
    | exact h
    | (simp only; omega)
theorem pntTo_col {l : List Atr} {x : Spn} (h : ColOK l) (hx : 0 ≤ x.val ∧ x.val ≤ 16777215) (a i : Nat) : ColOK (pntTo l x a i) := fun z hz => by
  unfold pntTo at hz
  rcases List.mem_append.1 hz with h1 | h1
  · exact h z (List.mem_of_mem_take h1)
  · rcases List.mem_append.1 h1 with h2 | h2
    · obtain ⟨y, hy, rfl⟩ := List.mem_map.1 h2
      refine setA_col (h y ?_) hx
      unfold seg at hy
      first
        | exact List.mem_of_mem_take (List.mem_of_mem_drop hy)
        | exact List.mem_of_mem_drop (List.mem_of_mem_take hy)
    · exact h z (List.mem_of_mem_drop h2)
theorem foldl_pnt_col : ∀ (S : List Spn), (∀ x ∈ S, 0 ≤ x.val ∧ x.val ≤ 16777215) → ∀ acc, ColOK acc → ColOK (S.foldl pnt acc)
  | [], _, _, h => h
  | x :: S, hS, acc, h => by
    rw [List.foldl_cons]
    exact foldl_pnt_col S (fun y hy => hS y (List.mem_cons_of_mem _ hy)) _ (pntTo_col h (hS x List.mem_cons_self) _ _)
theorem looksL_col {l : List Spn} {n : Nat} (h : spansB l n = true) : ColOK (looksL n l) := by
  unfold looksL lookTo
  refine foldl_pnt_col _ (fun x hx => ?_) _ fun z hz => ?_
  · have hx2 := List.mem_of_mem_take hx
    have hx3 : x ∈ l := by
      rcases mem_mrg.1 hx2 with h1 | h1
      · cases h1
      · exact h1
    exact (right_bd (spans_right h hx3)).2.2
  · rw [List.mem_replicate] at hz
    rw [hz.2]
    decide
def nrmE (e : Int) (A : List Atr) : Int := if e ≠ 0 then e else madeE A
def nrmT (e : Int) (s : ByteArray) (A : List Atr) : ByteArray := if e ≠ 0 then ByteArray.empty else madeT s A
def nrmL (e : Int) (A : List Atr) : List Spn := if e ≠ 0 then [] else madeL A
section
variable {e : Int} {s : ByteArray} {A : List Atr}
theorem nrmE_no (h : ¬ e = 0) : nrmE e A = e := if_pos h
theorem nrmT_no (h : ¬ e = 0) : nrmT e s A = ByteArray.empty := if_pos h
theorem nrmL_no (h : ¬ e = 0) : nrmL e A = [] := if_pos h
theorem nrmE_yes (h : e = 0) : nrmE e A = madeE A := if_neg (fun g => g h)
theorem nrmT_yes (h : e = 0) : nrmT e s A = madeT s A := if_neg (fun g => g h)
theorem nrmL_yes (h : e = 0) : nrmL e A = madeL A := if_neg (fun g => g h)
theorem nrmL_len : (nrmL e A).length ≤ 256 := by
  unfold nrmL
  split
  · simp
  · exact madeL_len A
end
def setE0 (s : ByteArray) (l : List Spn) (x : Spn) : Int := if chkN s.size l (sgN s : Nat) ≠ 0 then chkN s.size l (sgN s : Nat) else if rightB x (sgN s : Nat) = false then 23 else 0
theorem pnt_col {l : List Atr} {x : Spn} {n : Int} (h : ColOK l) (hx : rightB x n = true) : ColOK (pnt l x) := pntTo_col h (right_bd hx).2.2 _ _
end Go.SX.Plain
/- Contracts of style's text, the document's made, Norm of both. -/
namespace Go.SX.Try
open Go.Proofs Go.Proofs.Try Go.SX.Plain
set_option maxRecDepth 100000
set_option maxHeartbeats 0
set_option linter.unusedSimpArgs false
theorem q_stext : fact 81 f81 := ⟨by kernel_rfl, rfl, by kernel_rfl⟩
theorem q_sNorm : fact 41 f41 := ⟨by kernel_rfl, rfl, by kernel_rfl⟩
theorem con_stext : Con prog 81 (fun ((s, A) : ByteArray × List Atr) => [.v (.string s), lkR A]) (fun (s, A) => .tup [txO (madeT s A) (madeL A), .v (.int .i64 (madeE A))]) (fun (_, A) => ColOK A ∧ A.length ≤ 10000) := by
  refine Con.of (by kernel_rfl) T_ok CdsOK.nil (.con con_smade .nil) 5 [] q_stext.1 q_stext.2.1 q_stext.2.2 (fun _ => rfl) fun i hi => ?_
  obtain ⟨s, A⟩ := i
  obtain ⟨hcol, hl⟩ : ColOK A ∧ A.length ≤ 10000 := hi
  have hnl := normS_len A
  by_cases h : 256 < (normL A).length
  · have k1 : decide ((256 : Int) < ((normS A).length : Int)) = true := decide_eq_true (by omega)
    have hE : madeE A = 2 := if_pos h
    have hT : madeT s A = ByteArray.empty := if_pos h
    have hL : madeL A = [] := if_pos h
    repeat' (first | (with_reducible refine ⟨_, ⟨(.cons (.lent _ _ _ _ _ _) .nil), ?_⟩, ?_⟩) | (with_reducible first | exact fun h => h | refine ExE.row (by with_unfolding_all rfl) ?_ | refine And.intro ?_ ?_) | ((with_reducible intro hq); first | exact bne1 hq (by with_reducible assumption) | exact bne1 (by with_reducible assumption) hq | ((simp only [*, BB, cond_true, cond_false, reduceCtorEq] at hq); done) | (revert hq; with_reducible intro _)) | (with_reducible first | exact True.intro | rfl | refine EntLe.row ?_ | exact LeN.ro rfl | exact LeN.rptr | assumption) | ((with_reducible first | refine WkX.chk ?_ | refine Wk.chk ?_ | refine LeL.chk ?_ | refine LeF.chk ?_ | refine Run.mk ?_); (conv => whnf)) | ((with_reducible show LeO _ _); first | refine LeO.ro ?_ | refine LeO.roCap ?_ | refine LeO.nil ?_ (fun _ => rfl)) | ((with_reducible show LeR _ _ _); first | refine LeR.own rfl rfl rfl ?_ | refine LeR.view rfl rfl rfl ?_ ?_ | refine LeR.ro ?_ | refine LeR.roCap ?_ | refine LeR.nil ?_ (fun _ => rfl)) | ((with_reducible first | show drawOK _ _ = true | show lateOK _ _ = true | show drawOK2 _ _ = true | show drawOK3 _ _ = true); kernel_rfl))
    all_goals first
      | exact ⟨hcol, hl⟩
      | exact hcol
      | exact hl
      | exact hE.symm
      | exact hT.symm
      | exact hL.symm
      | trace_state
  · have k1 : decide ((256 : Int) < ((normS A).length : Int)) = false := decide_eq_false (by omega)
    have hE : madeE A = 0 := if_neg h
    have hT : madeT s A = s := if_neg h
    have hL : madeL A = normS A := if_neg h
    repeat' (first | (with_reducible refine ⟨_, ⟨(.cons (.lent _ _ _ _ _ _) .nil), ?_⟩, ?_⟩) | (with_reducible first | exact fun h => h | refine ExE.row (by with_unfolding_all rfl) ?_ | refine And.intro ?_ ?_) | ((with_reducible intro hq); first | exact bne1 hq (by with_reducible assumption) | exact bne1 (by with_reducible assumption) hq | ((simp only [*, BB, cond_true, cond_false, reduceCtorEq] at hq); done) | (revert hq; with_reducible intro _)) | (with_reducible first | exact True.intro | rfl | refine EntLe.row ?_ | exact LeN.ro rfl | exact LeN.rptr | assumption) | ((with_reducible first | refine WkX.chk ?_ | refine Wk.chk ?_ | refine LeL.chk ?_ | refine LeF.chk ?_ | refine Run.mk ?_); (conv => whnf)) | ((with_reducible show LeO _ _); first | refine LeO.ro ?_ | refine LeO.roCap ?_ | refine LeO.nil ?_ (fun _ => rfl)) | ((with_reducible show LeR _ _ _); first | refine LeR.own rfl rfl rfl ?_ | refine LeR.view rfl rfl rfl ?_ ?_ | refine LeR.ro ?_ | refine LeR.roCap ?_ | refine LeR.nil ?_ (fun _ => rfl)) | ((with_reducible first | show drawOK _ _ = true | show lateOK _ _ = true | show drawOK2 _ _ = true | show drawOK3 _ _ = true); kernel_rfl))
    all_goals first
      | exact ⟨hcol, hl⟩
      | exact hcol
      | exact hl
      | exact hE.symm
      | exact hT.symm
      | exact hL.symm
      | trace_state
theorem con_sNorm : Con prog 41 (fun ((s, l) : ByteArray × List Spn) => [txAV s l]) (fun (s, l) => .tup [txO (nrmT (chkN s.size l (sgN s : Nat)) s (looksL (sgN s) l)) (nrmL (chkN s.size l (sgN s : Nat)) (looksL (sgN s) l)), .v (.int .i64 (nrmE (chkN s.size l (sgN s : Nat)) (looksL (sgN s) l)))]) (fun _ => True) := by
  refine Con.of (by kernel_rfl) T_ok CdsOK.nil (.con con_scheck (.con con_slooks (.con con_stext .nil))) 5 [] q_sNorm.1 q_sNorm.2.1 q_sNorm.2.2 (fun _ => rfl) fun i _ => ?_
  obtain ⟨s, l⟩ := i
  by_cases hc : chkN s.size l (sgN s : Nat) = 0
  case neg =>
    have k1 : (chkN s.size l (sgN s : Nat) != 0) = true := by simpa using hc
    have hE := nrmE_no (A := looksL (sgN s) l) hc
    have hT := nrmT_no (s := s) (A := looksL (sgN s) l) hc
    have hL := nrmL_no (A := looksL (sgN s) l) hc
    repeat' (first | (with_reducible refine ⟨(s, l), ⟨(.cons (.agg (.cons (.v _) (.cons (.lent _ _ _ _ _ _) .nil))) .nil), ?_⟩, ?_⟩) | (with_reducible first | exact fun h => h | refine ExE.row (by with_unfolding_all rfl) ?_ | refine And.intro ?_ ?_) | ((with_reducible intro hq); first | exact bne1 hq (by with_reducible assumption) | exact bne1 (by with_reducible assumption) hq | ((simp only [*, BB, cond_true, cond_false, reduceCtorEq] at hq); done) | (revert hq; with_reducible intro _)) | (with_reducible first | exact True.intro | rfl | refine EntLe.row ?_ | exact LeN.ro rfl | exact LeN.rptr | assumption) | ((with_reducible first | refine WkX.chk ?_ | refine Wk.chk ?_ | refine LeL.chk ?_ | refine LeF.chk ?_ | refine Run.mk ?_); (conv => whnf)) | ((with_reducible show LeO _ _); first | refine LeO.ro ?_ | refine LeO.roCap ?_ | refine LeO.nil ?_ (fun _ => rfl)) | ((with_reducible show LeR _ _ _); first | refine LeR.own rfl rfl rfl ?_ | refine LeR.view rfl rfl rfl ?_ ?_ | refine LeR.ro ?_ | refine LeR.roCap ?_ | refine LeR.nil ?_ (fun _ => rfl)) | ((with_reducible first | show drawOK _ _ = true | show lateOK _ _ = true | show drawOK2 _ _ = true | show drawOK3 _ _ = true); kernel_rfl))
    all_goals first
      | exact hE.symm
      | exact hT.symm
      | exact hL.symm
      | trace_state
  have k1 : (chkN s.size l (sgN s : Nat) != 0) = false := by rw [hc]; rfl
  have hok := OkT.of hc
  have hlen := looksL_len hok.spans
  have hcol := looksL_col hok.spans
  have hn := sgN_le s
  have hs := hok.size
  have hE := nrmE_yes (A := looksL (sgN s) l) hc
  have hT := nrmT_yes (s := s) (A := looksL (sgN s) l) hc
  have hL := nrmL_yes (A := looksL (sgN s) l) hc
  repeat' (first | (with_reducible refine ⟨(s, l), ⟨(.cons (.agg (.cons (.v _) (.cons (.lent _ _ _ _ _ _) .nil))) .nil), ?_⟩, ?_⟩) | (with_reducible refine ⟨(_, _), ⟨(.cons (.v _) (.cons (.lent _ _ _ _ _ _) .nil)), ?_⟩, ?_⟩) | (with_reducible first | exact fun h => h | refine ExE.row (by with_unfolding_all rfl) ?_ | refine And.intro ?_ ?_) | ((with_reducible intro hq); first | exact bne1 hq (by with_reducible assumption) | exact bne1 (by with_reducible assumption) hq | ((simp only [*, BB, cond_true, cond_false, reduceCtorEq] at hq); done) | (revert hq; with_reducible intro _)) | (with_reducible first | exact True.intro | rfl | refine EntLe.row ?_ | exact LeN.ro rfl | exact LeN.rptr | assumption) | ((with_reducible first | refine WkX.chk ?_ | refine Wk.chk ?_ | refine LeL.chk ?_ | refine LeF.chk ?_ | refine Run.mk ?_); (conv => whnf)) | ((with_reducible show LeO _ _); first | refine LeO.ro ?_ | refine LeO.roCap ?_ | refine LeO.nil ?_ (fun _ => rfl)) | ((with_reducible show LeR _ _ _); first | refine LeR.own rfl rfl rfl ?_ | refine LeR.view rfl rfl rfl ?_ ?_ | refine LeR.ro ?_ | refine LeR.roCap ?_ | refine LeR.nil ?_ (fun _ => rfl)) | ((with_reducible first | show drawOK _ _ = true | show lateOK _ _ = true | show drawOK2 _ _ = true | show drawOK3 _ _ = true); kernel_rfl))
  all_goals first
    | exact hok
    | exact hcol
    | omega
    | (dsimp only; omega)
    | exact ⟨hcol, by omega⟩
    | exact hE.symm
    | exact hT.symm
    | exact hL.symm
    | trace_state
end Go.SX.Try
/- Plain law: a text made of runs. -/
namespace Go.SX.Plain
set_option linter.unusedSimpArgs false
section
variable (R : List Rn) (n : Nat)
def atR (i : Nat) : Int := if i = 0 then 0 else (R.getD (i - 1) zRn).to
def okR (i : Nat) : Bool := decide ((R.getD i zRn).frm = atR R i) && (decide ((R.getD i zRn).frm < (R.getD i zRn).to) && (decide ((R.getD i zRn).to ≤ (n : Int)) && (decide (0 ≤ (R.getD i zRn).at'.colour) && decide ((R.getD i zRn).at'.colour ≤ 16777216))))
def allR (i : Nat) : Bool := (List.range i).all (okR R n)
def sprTo (i : Nat) : List Atr := (R.take i).flatMap fun x => List.replicate (x.to - x.frm).toNat x.at'
end
def mkE0 (s : ByteArray) (R : List Rn) : Int := if 4096 < s.size then 3 else if allR R (sgN s) R.length = true ∧ atR R R.length = (sgN s : Nat) then 0 else 1
section
variable {R : List Rn} {n : Nat}
theorem okR_iff {i : Nat} : okR R n i = true ↔ (R.getD i zRn).frm = atR R i ∧ (R.getD i zRn).frm < (R.getD i zRn).to ∧ (R.getD i zRn).to ≤ (n : Int) ∧ 0 ≤ (R.getD i zRn).at'.colour ∧ (R.getD i zRn).at'.colour ≤ 16777216 := by
  unfold okR
  simp only [Bool.and_eq_true, decide_eq_true_eq]
theorem allR_step {i : Nat} (h : allR R n i = true) (h2 : okR R n i = true) : allR R n (i + 1) = true := by
  unfold allR at h ⊢
  rw [List.range_succ, List.all_append, h]
  simp [h2]
theorem allR_at {i j : Nat} (h : allR R n i = true) (hj : j < i) : okR R n j = true := List.all_eq_true.1 h j (List.mem_range.2 hj)
theorem allR_no {i : Nat} (hi : i < R.length) (h : okR R n i = false) : ¬ (allR R n R.length = true ∧ atR R R.length = (n : Int)) := fun g => by
  have := allR_at g.1 hi
  rw [h] at this
  cases this
theorem atR_succ (i : Nat) : atR R (i + 1) = (R.getD i zRn).to := by
  unfold atR
  rw [if_neg (by omega)]
  rfl
theorem atR_bd : ∀ {i : Nat}, allR R n i = true → (0 ≤ atR R i ∧ atR R i ≤ n) ∧ (i : Int) ≤ atR R i
  | 0, _ => by unfold atR; simp
  | i + 1, h => by
    have h1 := allR_at h (Nat.lt_succ_self i)
    rw [okR_iff] at h1
    have h2 : allR R n i = true := List.all_eq_true.2 fun j hj => allR_at h (by have := List.mem_range.1 hj; omega)
    have h3 := atR_bd h2
    rw [atR_succ]
    omega
theorem spr_step {i : Nat} (h : i < R.length) : sprTo R (i + 1) = sprTo R i ++ List.replicate ((R.getD i zRn).to - (R.getD i zRn).frm).toNat (R.getD i zRn).at' := by
  unfold sprTo
  rw [← take_one R zRn h, List.flatMap_append]
  simp
theorem spr_len : ∀ {i : Nat}, i ≤ R.length → allR R n i = true → ((sprTo R i).length : Int) = atR R i
  | 0, _, _ => by unfold sprTo atR; simp
  | i + 1, hi, h => by
    have h1 := allR_at h (Nat.lt_succ_self i)
    rw [okR_iff] at h1
    have h2 : allR R n i = true := List.all_eq_true.2 fun j hj => allR_at h (by have := List.mem_range.1 hj; omega)
    have h3 := spr_len (by omega) h2
    have h4 := atR_bd h2
    rw [spr_step (by omega), List.length_append, List.length_replicate, atR_succ]
    omega
theorem spr_col : ∀ {i : Nat}, i ≤ R.length → allR R n i = true → ColOK (sprTo R i)
  | 0, _, _ => fun a ha => by unfold sprTo at ha; simp at ha
  | i + 1, hi, h => fun a ha => by
    have h1 := allR_at h (Nat.lt_succ_self i)
    rw [okR_iff] at h1
    have h2 : allR R n i = true := List.all_eq_true.2 fun j hj => allR_at h (by have := List.mem_range.1 hj; omega)
    rw [spr_step (by omega)] at ha
    rcases List.mem_append.1 ha with h3 | h3
    · exact spr_col (by omega) h2 a h3
    · rw [List.mem_replicate] at h3
      rw [h3.2]
      exact h1.2.2.2
theorem rep_snoc {α : Type} (L : List α) (k : Nat) (a : α) : L ++ List.replicate k a ++ [a] = L ++ List.replicate (k + 1) a := by
  rw [List.append_assoc, ← List.replicate_succ']
end
end Go.SX.Plain
/- Contract of style.Make. -/
namespace Go.SX.Try
open Go.Proofs Go.Proofs.Try Go.SX.Plain
set_option maxRecDepth 100000
set_option maxHeartbeats 0
set_option linter.unusedSimpArgs false
theorem q_sMake : fact 45 f45 := ⟨by kernel_rfl, rfl, by kernel_rfl⟩
theorem bad_chain {f t n c len : Int} : (f != len || decide (t ≤ f) || decide (n < t) || decide (c < 0) || decide (16777216 < c)) = !(decide (f = len) && (decide (f < t) && (decide (t ≤ n) && (decide (0 ≤ c) && decide (c ≤ 16777216))))) := by
  rw [Bool.eq_iff_iff]
  simp only [Bool.or_eq_true, bne_iff_ne, ne_eq, decide_eq_true_eq, Bool.not_eq_true', Bool.and_eq_false_iff, decide_eq_false_iff_not]
  omega
theorem con_sMake : Con prog 45 (fun ((s, R) : ByteArray × List Rn) => [.v (.string s), rnR R]) (fun (s, R) => .tup [txO (nrmT (mkE0 s R) s (sprTo R R.length)) (nrmL (mkE0 s R) (sprTo R R.length)), .v (.int .i64 (nrmE (mkE0 s R) (sprTo R R.length)))]) (fun _ => True) := by
  refine Con.of (by kernel_rfl) T_ok D_att_ok (.con con_ucount (.con con_stext .nil)) 5 [] q_sMake.1 q_sMake.2.1 q_sMake.2.2 (fun _ => rfl) fun i _ => ?_
  obtain ⟨s, R⟩ := i
  have no : ∀ e, mkE0 s R = e → ¬ e = 0 → nrmE (mkE0 s R) (sprTo R R.length) = e ∧ nrmT (mkE0 s R) s (sprTo R R.length) = ByteArray.empty ∧ nrmL (mkE0 s R) (sprTo R R.length) = [] := fun e h h2 => ⟨(nrmE_no (by rw [h]; exact h2)).trans h, nrmT_no (by rw [h]; exact h2), nrmL_no (by rw [h]; exact h2)⟩
  by_cases hs : 4096 < s.size
  · have k0 : decide ((4096 : Int) < (s.size : Int)) = true := decide_eq_true (by omega)
    have hno := no 3 (if_pos hs) (by decide)
    obtain ⟨hE, hT, hL⟩ := hno
    repeat' (first | (with_reducible first | exact fun h => h | refine ExE.row (by with_unfolding_all rfl) ?_ | refine And.intro ?_ ?_) | ((with_reducible intro hq); first | exact bne1 hq (by with_reducible assumption) | exact bne1 (by with_reducible assumption) hq | ((simp only [*, BB, cond_true, cond_false, reduceCtorEq] at hq); done) | (revert hq; with_reducible intro _)) | (with_reducible first | exact True.intro | rfl | refine EntLe.row ?_ | exact LeN.ro rfl | exact LeN.rptr | assumption) | ((with_reducible first | refine WkX.chk ?_ | refine Wk.chk ?_ | refine LeL.chk ?_ | refine LeF.chk ?_ | refine Run.mk ?_); (conv => whnf)) | ((with_reducible show LeO _ _); first | refine LeO.ro ?_ | refine LeO.roCap ?_ | refine LeO.nil ?_ (fun _ => rfl)) | ((with_reducible show LeR _ _ _); first | refine LeR.own rfl rfl rfl ?_ | refine LeR.view rfl rfl rfl ?_ ?_ | refine LeR.ro ?_ | refine LeR.roCap ?_ | refine LeR.nil ?_ (fun _ => rfl)) | ((with_reducible first | show drawOK _ _ = true | show lateOK _ _ = true | show drawOK2 _ _ = true | show drawOK3 _ _ = true); kernel_rfl))
    all_goals first
      | exact hE.symm
      | exact hT.symm
      | exact hL.symm
      | trace_state
  have k0 : decide ((4096 : Int) < (s.size : Int)) = false := decide_eq_false (by omega)
  have hn := sgN_le s
  have hE1 : ¬ (allR R (sgN s) R.length = true ∧ atR R R.length = (sgN s : Nat)) → mkE0 s R = 1 := fun h => by unfold mkE0; rw [if_neg hs, if_neg h]
  have hd : C_rn.d = zRn := rfl
  repeat' (first | (with_reducible refine ⟨_, ⟨(.cons (.v _) .nil), ?_⟩, ?_⟩) | (with_reducible first | exact fun h => h | refine ExE.row (by with_unfolding_all rfl) ?_ | refine And.intro ?_ ?_) | ((with_reducible intro hq); first | exact bne1 hq (by with_reducible assumption) | exact bne1 (by with_reducible assumption) hq | ((simp only [*, BB, cond_true, cond_false, reduceCtorEq] at hq); done) | (revert hq; with_reducible intro _)) | (with_reducible first | exact True.intro | rfl | refine EntLe.row ?_ | exact LeN.ro rfl | exact LeN.rptr | assumption) | ((with_reducible first | refine WkX.chk ?_ | refine Wk.chk ?_ | refine LeL.chk ?_ | refine LeF.chk ?_ | refine Run.mk ?_); (conv => whnf)) | ((with_reducible show LeO _ _); first | refine LeO.ro ?_ | refine LeO.roCap ?_ | refine LeO.nil ?_ (fun _ => rfl)) | ((with_reducible show LeR _ _ _); first | refine LeR.own rfl rfl rfl ?_ | refine LeR.view rfl rfl rfl ?_ ?_ | refine LeR.ro ?_ | refine LeR.roCap ?_ | refine LeR.nil ?_ (fun _ => rfl)) | ((with_reducible first | show drawOK _ _ = true | show lateOK _ _ = true | show drawOK2 _ _ = true | show drawOK3 _ _ = true); kernel_rfl))
  all_goals (try (first | omega | (dsimp only; omega) | rfl))
  refine loopI Nat [] (fun i => [(18, .v (.int .i64 (i : Nat))), (6, .own 1)]) (fun i => [(1, .row C_att (sprTo R i) 45 none)]) (fun i => i ≤ R.length ∧ allR R (sgN s) i = true) (fun i => R.length - i) 0 ⟨Nat.zero_le _, rfl⟩ (Wk.chk ?_) fun i hi => ?_
  · ((conv => whnf); repeat' (first | (with_reducible first | exact fun h => h | refine ExE.row (by with_unfolding_all rfl) ?_ | refine And.intro ?_ ?_) | ((with_reducible intro hq); first | exact bne1 hq (by with_reducible assumption) | exact bne1 (by with_reducible assumption) hq | ((simp only [*, BB, cond_true, cond_false, reduceCtorEq] at hq); done) | (revert hq; with_reducible intro _)) | (with_reducible first | exact True.intro | rfl | refine EntLe.row ?_ | exact LeN.ro rfl | exact LeN.rptr | assumption) | ((with_reducible first | refine WkX.chk ?_ | refine Wk.chk ?_ | refine LeL.chk ?_ | refine LeF.chk ?_ | refine Run.mk ?_); (conv => whnf)) | ((with_reducible show LeO _ _); first | refine LeO.ro ?_ | refine LeO.roCap ?_ | refine LeO.nil ?_ (fun _ => rfl)) | ((with_reducible show LeR _ _ _); first | refine LeR.own rfl rfl rfl ?_ | refine LeR.view rfl rfl rfl ?_ ?_ | refine LeR.ro ?_ | refine LeR.roCap ?_ | refine LeR.nil ?_ (fun _ => rfl)) | ((with_reducible first | show drawOK _ _ = true | show lateOK _ _ = true | show drawOK2 _ _ = true | show drawOK3 _ _ = true); kernel_rfl)))
    all_goals first
      | rfl
      | trace_state
  obtain ⟨hi, hal⟩ := hi
  have e1 : (i : Int).toNat = i := Int.toNat_natCast _
  have hbd := atR_bd hal
  have hsl := spr_len hi hal
  by_cases hil : i < R.length
  · have hlt : decide ((i : Int) < (R.length : Int)) = true := decide_eq_true (by omega)
    have hxx : (R.getD (i : Int).toNat C_rn.d) = R.getD i zRn := by rw [e1, hd]
    have hch := bad_chain (f := (R.getD (i : Int).toNat C_rn.d).frm) (t := (R.getD (i : Int).toNat C_rn.d).to) (n := (sgN s : Int)) (c := (R.getD (i : Int).toNat C_rn.d).at'.colour) (len := ((sprTo R i).length : Int))
    have hok0 : (decide ((R.getD (i : Int).toNat C_rn.d).frm = ((sprTo R i).length : Int)) && (decide ((R.getD (i : Int).toNat C_rn.d).frm < (R.getD (i : Int).toNat C_rn.d).to) && (decide ((R.getD (i : Int).toNat C_rn.d).to ≤ (sgN s : Int)) && (decide (0 ≤ (R.getD (i : Int).toNat C_rn.d).at'.colour) && decide ((R.getD (i : Int).toNat C_rn.d).at'.colour ≤ 16777216))))) = okR R (sgN s) i := by rw [hxx, hsl]; rfl
    rw [hok0] at hch
    cases hok : okR R (sgN s) i with
    | false =>
      rw [hok] at hch
      have hch : ((R.getD (i : Int).toNat C_rn.d).frm != ((sprTo R i).length : Int) || decide ((R.getD (i : Int).toNat C_rn.d).to ≤ (R.getD (i : Int).toNat C_rn.d).frm) || decide ((sgN s : Int) < (R.getD (i : Int).toNat C_rn.d).to) || decide ((R.getD (i : Int).toNat C_rn.d).at'.colour < 0) || decide (16777216 < (R.getD (i : Int).toNat C_rn.d).at'.colour)) = true := hch
      have hno := no 1 (hE1 (allR_no hil hok)) (by decide)
      obtain ⟨hE, hT, hL⟩ := hno
      clear hok0
      repeat' (first | (with_reducible first | exact fun h => h | refine ExE.row (by with_unfolding_all rfl) ?_ | refine And.intro ?_ ?_) | ((with_reducible intro hq); first | exact bne1 hq (by with_reducible assumption) | exact bne1 (by with_reducible assumption) hq | ((simp only [*, BB, cond_true, cond_false, reduceCtorEq] at hq); done) | (revert hq; with_reducible intro _)) | (with_reducible first | exact True.intro | rfl | refine EntLe.row ?_ | exact LeN.ro rfl | exact LeN.rptr | assumption) | ((with_reducible first | refine WkX.chk ?_ | refine Wk.chk ?_ | refine LeL.chk ?_ | refine LeF.chk ?_ | refine Run.mk ?_); (conv => whnf)) | ((with_reducible show LeO _ _); first | refine LeO.ro ?_ | refine LeO.roCap ?_ | refine LeO.nil ?_ (fun _ => rfl)) | ((with_reducible show LeR _ _ _); first | refine LeR.own rfl rfl rfl ?_ | refine LeR.view rfl rfl rfl ?_ ?_ | refine LeR.ro ?_ | refine LeR.roCap ?_ | refine LeR.nil ?_ (fun _ => rfl)) | ((with_reducible first | show drawOK _ _ = true | show lateOK _ _ = true | show drawOK2 _ _ = true | show drawOK3 _ _ = true); kernel_rfl))
      all_goals first
        | exact hE.symm
        | exact hT.symm
        | exact hL.symm
        | (simp only [Bool.not_eq_true']; assumption)
        | omega
        | trace_state
    | true =>
      rw [hok] at hch
      have hal2 := allR_step hal hok
      have hst := spr_step hil
      have hal3 := atR_bd hal2
      rw [okR_iff, ← hxx] at hok
      obtain ⟨o1, o2, o3, o4⟩ := hok
      have hch : ((R.getD (i : Int).toNat C_rn.d).frm != ((sprTo R i).length : Int) || decide ((R.getD (i : Int).toNat C_rn.d).to ≤ (R.getD (i : Int).toNat C_rn.d).frm) || decide ((sgN s : Int) < (R.getD (i : Int).toNat C_rn.d).to) || decide ((R.getD (i : Int).toNat C_rn.d).at'.colour < 0) || decide (16777216 < (R.getD (i : Int).toNat C_rn.d).at'.colour)) = false := hch
      have hpp := hch
      simp only [Bool.or_eq_false_iff] at hpp
      obtain ⟨⟨⟨⟨p1, p2⟩, p3⟩, p4⟩, p5⟩ := hpp
      have r2 : ((R.getD (i : Int).toNat C_rn.d).frm != ((sprTo R i).length : Int) || decide ((R.getD (i : Int).toNat C_rn.d).to ≤ (R.getD (i : Int).toNat C_rn.d).frm)) = false := by rw [p1, p2]; rfl
      have r3 : ((R.getD (i : Int).toNat C_rn.d).frm != ((sprTo R i).length : Int) || decide ((R.getD (i : Int).toNat C_rn.d).to ≤ (R.getD (i : Int).toNat C_rn.d).frm) || decide ((sgN s : Int) < (R.getD (i : Int).toNat C_rn.d).to)) = false := by rw [p1, p2, p3]; rfl
      have r4 : ((R.getD (i : Int).toNat C_rn.d).frm != ((sprTo R i).length : Int) || decide ((R.getD (i : Int).toNat C_rn.d).to ≤ (R.getD (i : Int).toNat C_rn.d).frm) || decide ((sgN s : Int) < (R.getD (i : Int).toNat C_rn.d).to) || decide ((R.getD (i : Int).toNat C_rn.d).at'.colour < 0)) = false := by rw [p1, p2, p3, p4]; rfl
      clear hok0
      repeat' (first | (with_reducible first | exact fun h => h | refine ExE.row (by with_unfolding_all rfl) ?_ | refine And.intro ?_ ?_) | ((with_reducible intro hq); first | exact bne1 hq (by with_reducible assumption) | exact bne1 (by with_reducible assumption) hq | ((simp only [*, BB, cond_true, cond_false, reduceCtorEq] at hq); done) | (revert hq; with_reducible intro _)) | (with_reducible first | exact True.intro | rfl | refine EntLe.row ?_ | exact LeN.ro rfl | exact LeN.rptr | assumption) | ((with_reducible first | refine WkX.chk ?_ | refine Wk.chk ?_ | refine LeL.chk ?_ | refine LeF.chk ?_ | refine Run.mk ?_); (conv => whnf)) | ((with_reducible show LeO _ _); first | refine LeO.ro ?_ | refine LeO.roCap ?_ | refine LeO.nil ?_ (fun _ => rfl)) | ((with_reducible show LeR _ _ _); first | refine LeR.own rfl rfl rfl ?_ | refine LeR.view rfl rfl rfl ?_ ?_ | refine LeR.ro ?_ | refine LeR.roCap ?_ | refine LeR.nil ?_ (fun _ => rfl)) | ((with_reducible first | show drawOK _ _ = true | show lateOK _ _ = true | show drawOK2 _ _ = true | show drawOK3 _ _ = true); kernel_rfl))
      all_goals (try (first | omega | (simp only [Bool.not_eq_true']; assumption) | (apply Fits.i64 <;> omega)))
      refine loopI Nat [24] (fun k => [(58, .v (.int .i64 (k : Nat))), (6, .own 1)]) (fun k => [(1, .row C_att (sprTo R i ++ List.replicate k (R.getD (i : Int).toNat C_rn.d).at') 45 none)]) (fun k => (k : Int) ≤ (R.getD (i : Int).toNat C_rn.d).to - (R.getD (i : Int).toNat C_rn.d).frm) (fun k => ((R.getD (i : Int).toNat C_rn.d).to - (R.getD (i : Int).toNat C_rn.d).frm).toNat - k) 0 (by simp only [Int.ofNat_zero]; omega) (Wk.chk ?_) fun k hk => ?_
      · ((conv => whnf); repeat' (first | (with_reducible first | exact fun h => h | refine ExE.row (by with_unfolding_all rfl) ?_ | refine And.intro ?_ ?_) | ((with_reducible intro hq); first | exact bne1 hq (by with_reducible assumption) | exact bne1 (by with_reducible assumption) hq | ((simp only [*, BB, cond_true, cond_false, reduceCtorEq] at hq); done) | (revert hq; with_reducible intro _)) | (with_reducible first | exact True.intro | rfl | refine EntLe.row ?_ | exact LeN.ro rfl | exact LeN.rptr | assumption) | ((with_reducible first | refine WkX.chk ?_ | refine Wk.chk ?_ | refine LeL.chk ?_ | refine LeF.chk ?_ | refine Run.mk ?_); (conv => whnf)) | ((with_reducible show LeO _ _); first | refine LeO.ro ?_ | refine LeO.roCap ?_ | refine LeO.nil ?_ (fun _ => rfl)) | ((with_reducible show LeR _ _ _); first | refine LeR.own rfl rfl rfl ?_ | refine LeR.view rfl rfl rfl ?_ ?_ | refine LeR.ro ?_ | refine LeR.roCap ?_ | refine LeR.nil ?_ (fun _ => rfl)) | ((with_reducible first | show drawOK _ _ = true | show lateOK _ _ = true | show drawOK2 _ _ = true | show drawOK3 _ _ = true); kernel_rfl)))
        all_goals first
          | rfl
          | (simp; done)
          | trace_state
      have hk : (k : Int) ≤ (R.getD (i : Int).toNat C_rn.d).to - (R.getD (i : Int).toNat C_rn.d).frm := hk
      have hrl : (sprTo R i ++ List.replicate k (R.getD (i : Int).toNat C_rn.d).at').length = (sprTo R i).length + k := by rw [List.length_append, List.length_replicate]
      by_cases hkl : (k : Int) < (R.getD (i : Int).toNat C_rn.d).to - (R.getD (i : Int).toNat C_rn.d).frm
      · have hlt2 : decide ((k : Int) < (R.getD (i : Int).toNat C_rn.d).to - (R.getD (i : Int).toNat C_rn.d).frm) = true := decide_eq_true hkl
        have hsn := rep_snoc (sprTo R i) k (R.getD (i : Int).toNat C_rn.d).at'
        repeat' (first | (with_reducible refine ex_of (α := Nat) (k + 1) ⟨?_, ?_⟩ ?_) | (with_reducible first | exact fun h => h | refine ExE.row (by with_unfolding_all rfl) ?_ | refine And.intro ?_ ?_) | ((with_reducible intro hq); first | exact bne1 hq (by with_reducible assumption) | exact bne1 (by with_reducible assumption) hq | ((simp only [*, BB, cond_true, cond_false, reduceCtorEq] at hq); done) | (revert hq; with_reducible intro _)) | (with_reducible first | exact True.intro | rfl | refine EntLe.row ?_ | exact LeN.ro rfl | exact LeN.rptr | assumption) | ((with_reducible first | refine WkX.chk ?_ | refine Wk.chk ?_ | refine LeL.chk ?_ | refine LeF.chk ?_ | refine Run.mk ?_); (conv => whnf)) | ((with_reducible show LeO _ _); first | refine LeO.ro ?_ | refine LeO.roCap ?_ | refine LeO.nil ?_ (fun _ => rfl)) | ((with_reducible show LeR _ _ _); first | refine LeR.own rfl rfl rfl ?_ | refine LeR.view rfl rfl rfl ?_ ?_ | refine LeR.ro ?_ | refine LeR.roCap ?_ | refine LeR.nil ?_ (fun _ => rfl)) | ((with_reducible first | show drawOK _ _ = true | show lateOK _ _ = true | show drawOK2 _ _ = true | show drawOK3 _ _ = true); kernel_rfl))
        all_goals first
          | omega
          | (apply Fits.i64 <;> omega)
          | (show ((k + 1 : Nat) : Int) ≤ (R.getD (i : Int).toNat C_rn.d).to - (R.getD (i : Int).toNat C_rn.d).frm; omega)
          | (show ((R.getD (i : Int).toNat C_rn.d).to - (R.getD (i : Int).toNat C_rn.d).frm).toNat - (k + 1) < ((R.getD (i : Int).toNat C_rn.d).to - (R.getD (i : Int).toNat C_rn.d).frm).toNat - k; omega)
          | (show ((sprTo R i ++ List.replicate k (R.getD (i : Int).toNat C_rn.d).at').length + 1) * 16 ≤ 140737488355328; omega)
          | exact hsn
          | rfl
          | trace_state
      have hlt2 : decide ((k : Int) < (R.getD (i : Int).toNat C_rn.d).to - (R.getD (i : Int).toNat C_rn.d).frm) = false := decide_eq_false hkl
      have hkk : k = ((R.getD (i : Int).toNat C_rn.d).to - (R.getD (i : Int).toNat C_rn.d).frm).toNat := by omega
      have hfin : sprTo R i ++ List.replicate k (R.getD (i : Int).toNat C_rn.d).at' = sprTo R (i + 1) := by rw [hst, hkk, hxx]
      repeat' (first | (with_reducible refine ex_of (α := Nat) (i + 1) ⟨⟨?_, hal2⟩, ?_⟩ ?_) | (with_reducible first | exact fun h => h | refine ExE.row (by with_unfolding_all rfl) ?_ | refine And.intro ?_ ?_) | ((with_reducible intro hq); first | exact bne1 hq (by with_reducible assumption) | exact bne1 (by with_reducible assumption) hq | ((simp only [*, BB, cond_true, cond_false, reduceCtorEq] at hq); done) | (revert hq; with_reducible intro _)) | (with_reducible first | exact True.intro | rfl | refine EntLe.row ?_ | exact LeN.ro rfl | exact LeN.rptr | assumption) | ((with_reducible first | refine WkX.chk ?_ | refine Wk.chk ?_ | refine LeL.chk ?_ | refine LeF.chk ?_ | refine Run.mk ?_); (conv => whnf)) | ((with_reducible show LeO _ _); first | refine LeO.ro ?_ | refine LeO.roCap ?_ | refine LeO.nil ?_ (fun _ => rfl)) | ((with_reducible show LeR _ _ _); first | refine LeR.own rfl rfl rfl ?_ | refine LeR.view rfl rfl rfl ?_ ?_ | refine LeR.ro ?_ | refine LeR.roCap ?_ | refine LeR.nil ?_ (fun _ => rfl)) | ((with_reducible first | show drawOK _ _ = true | show lateOK _ _ = true | show drawOK2 _ _ = true | show drawOK3 _ _ = true); kernel_rfl))
      all_goals first
        | omega
        | (apply Fits.i64 <;> omega)
        | (dsimp only; omega)
        | exact hfin
        | rfl
        | trace_state
  have hlt : decide ((i : Int) < (R.length : Int)) = false := decide_eq_false (by omega)
  have hii : i = R.length := by omega
  subst hii
  by_cases hat : atR R R.length = (sgN s : Nat)
  case neg =>
    have k1 : (((sprTo R R.length).length : Int) != (sgN s : Int)) = true := by rw [bne_iff_ne]; omega
    have hno := no 1 (hE1 fun h => hat h.2) (by decide)
    obtain ⟨hE, hT, hL⟩ := hno
    repeat' (first | (with_reducible first | exact fun h => h | refine ExE.row (by with_unfolding_all rfl) ?_ | refine And.intro ?_ ?_) | ((with_reducible intro hq); first | exact bne1 hq (by with_reducible assumption) | exact bne1 (by with_reducible assumption) hq | ((simp only [*, BB, cond_true, cond_false, reduceCtorEq] at hq); done) | (revert hq; with_reducible intro _)) | (with_reducible first | exact True.intro | rfl | refine EntLe.row ?_ | exact LeN.ro rfl | exact LeN.rptr | assumption) | ((with_reducible first | refine WkX.chk ?_ | refine Wk.chk ?_ | refine LeL.chk ?_ | refine LeF.chk ?_ | refine Run.mk ?_); (conv => whnf)) | ((with_reducible show LeO _ _); first | refine LeO.ro ?_ | refine LeO.roCap ?_ | refine LeO.nil ?_ (fun _ => rfl)) | ((with_reducible show LeR _ _ _); first | refine LeR.own rfl rfl rfl ?_ | refine LeR.view rfl rfl rfl ?_ ?_ | refine LeR.ro ?_ | refine LeR.roCap ?_ | refine LeR.nil ?_ (fun _ => rfl)) | ((with_reducible first | show drawOK _ _ = true | show lateOK _ _ = true | show drawOK2 _ _ = true | show drawOK3 _ _ = true); kernel_rfl))
    all_goals first
      | exact hE.symm
      | exact hT.symm
      | exact hL.symm
      | omega
      | trace_state
  have k1 : (((sprTo R R.length).length : Int) != (sgN s : Int)) = false := by rw [bne_eq_false_iff_eq]; omega
  have h0 : mkE0 s R = 0 := by unfold mkE0; rw [if_neg hs, if_pos ⟨hal, hat⟩]
  have hE := nrmE_yes (A := sprTo R R.length) h0
  have hT := nrmT_yes (s := s) (A := sprTo R R.length) h0
  have hL := nrmL_yes (A := sprTo R R.length) h0
  have hcol := spr_col hi hal
  repeat' (first | (with_reducible refine ⟨(_, _), ⟨(.cons (.v _) (.cons (.own (by with_unfolding_all exact rfl) (by with_unfolding_all exact rfl) (by with_unfolding_all exact rfl)) .nil)), ?_⟩, ?_⟩) | (with_reducible first | exact fun h => h | refine ExE.row (by with_unfolding_all rfl) ?_ | refine And.intro ?_ ?_) | ((with_reducible intro hq); first | exact bne1 hq (by with_reducible assumption) | exact bne1 (by with_reducible assumption) hq | ((simp only [*, BB, cond_true, cond_false, reduceCtorEq] at hq); done) | (revert hq; with_reducible intro _)) | (with_reducible first | exact True.intro | rfl | refine EntLe.row ?_ | exact LeN.ro rfl | exact LeN.rptr | assumption) | ((with_reducible first | refine WkX.chk ?_ | refine Wk.chk ?_ | refine LeL.chk ?_ | refine LeF.chk ?_ | refine Run.mk ?_); (conv => whnf)) | ((with_reducible show LeO _ _); first | refine LeO.ro ?_ | refine LeO.roCap ?_ | refine LeO.nil ?_ (fun _ => rfl)) | ((with_reducible show LeR _ _ _); first | refine LeR.own rfl rfl rfl ?_ | refine LeR.view rfl rfl rfl ?_ ?_ | refine LeR.ro ?_ | refine LeR.roCap ?_ | refine LeR.nil ?_ (fun _ => rfl)) | ((with_reducible first | show drawOK _ _ = true | show lateOK _ _ = true | show drawOK2 _ _ = true | show drawOK3 _ _ = true); kernel_rfl))
  all_goals first
    | omega
    | exact hcol
    | (dsimp only; omega)
    | exact hE.symm
    | exact hT.symm
    | exact hL.symm
    | trace_state
end Go.SX.Try
/- Contract of the document's Make. -/
namespace Go.SX.Try
open Go.Proofs Go.Proofs.Try Go.SX.Plain
set_option maxRecDepth 100000
set_option maxHeartbeats 0
set_option linter.unusedSimpArgs false
end Go.SX.Try
/- Contract of style.Set. -/
namespace Go.SX.Try
open Go.Proofs Go.Proofs.Try Go.SX.Plain
set_option maxRecDepth 100000
set_option maxHeartbeats 0
set_option linter.unusedSimpArgs false
theorem q_sSet : fact 43 f43 := ⟨by kernel_rfl, rfl, by kernel_rfl⟩
theorem con_sSet : Con prog 43 (fun ((s, l, x) : ByteArray × List Spn × Spn) => [txAV s l, .agg (spAV x)]) (fun (s, l, x) => .tup [txO (nrmT (setE0 s l x) s (pnt (looksL (sgN s) l) x)) (nrmL (setE0 s l x) (pnt (looksL (sgN s) l) x)), .v (.int .i64 (nrmE (setE0 s l x) (pnt (looksL (sgN s) l) x)))]) (fun _ => True) := by
  refine Con.of (by kernel_rfl) T_ok D_att_ok (.con con_scheck (.con con_ucount (.con con_souter (.con con_sright (.con con_stext (.inl (J := []) q_slooks.1 q_slooks.2.1 q_slooks.2.2 (.inl (J := []) q_sset.1 q_sset.2.1 q_sset.2.2 .nil))))))) 5 [] q_sSet.1 q_sSet.2.1 q_sSet.2.2 (fun _ => rfl) fun i _ => ?_
  obtain ⟨s, l, x⟩ := i
  by_cases hc : chkN s.size l (sgN s : Nat) = 0
  case neg =>
    have k1 : (chkN s.size l (sgN s : Nat) != 0) = true := by simpa using hc
    have h0 : setE0 s l x = chkN s.size l (sgN s : Nat) := if_pos hc
    have hE := (nrmE_no (e := setE0 s l x) (A := pnt (looksL (sgN s) l) x) (by rw [h0]; exact hc)).trans h0
    have hT := nrmT_no (e := setE0 s l x) (s := s) (A := pnt (looksL (sgN s) l) x) (by rw [h0]; exact hc)
    have hL := nrmL_no (e := setE0 s l x) (A := pnt (looksL (sgN s) l) x) (by rw [h0]; exact hc)
    repeat' (first | (with_reducible refine ⟨(s, l), ⟨(.cons (.agg (.cons (.v _) (.cons (.lent _ _ _ _ _ _) .nil))) .nil), ?_⟩, ?_⟩) | (with_reducible first | exact fun h => h | refine ExE.row (by with_unfolding_all rfl) ?_ | refine And.intro ?_ ?_) | ((with_reducible intro hq); first | exact bne1 hq (by with_reducible assumption) | exact bne1 (by with_reducible assumption) hq | ((simp only [*, BB, cond_true, cond_false, reduceCtorEq] at hq); done) | (revert hq; with_reducible intro _)) | (with_reducible first | exact True.intro | rfl | refine EntLe.row ?_ | exact LeN.ro rfl | exact LeN.rptr | assumption) | ((with_reducible first | refine WkX.chk ?_ | refine Wk.chk ?_ | refine LeL.chk ?_ | refine LeF.chk ?_ | refine Run.mk ?_); (conv => whnf)) | ((with_reducible show LeO _ _); first | refine LeO.ro ?_ | refine LeO.roCap ?_ | refine LeO.nil ?_ (fun _ => rfl)) | ((with_reducible show LeR _ _ _); first | refine LeR.own rfl rfl rfl ?_ | refine LeR.view rfl rfl rfl ?_ ?_ | refine LeR.ro ?_ | refine LeR.roCap ?_ | refine LeR.nil ?_ (fun _ => rfl)) | ((with_reducible first | show drawOK _ _ = true | show lateOK _ _ = true | show drawOK2 _ _ = true | show drawOK3 _ _ = true); kernel_rfl))
    all_goals first
      | exact hE.symm
      | exact hT.symm
      | exact hL.symm
      | trace_state
  have k1 : (chkN s.size l (sgN s : Nat) != 0) = false := by rw [hc]; rfl
  have hok := OkT.of hc
  have h00 : setE0 s l x = if rightB x (sgN s : Nat) = false then 23 else 0 := if_neg (fun h => h hc)
  obtain ⟨hs, hl, hsp⟩ := id hok
  have hlen := looksL_len hsp
  have hcol := looksL_col hsp
  have hn := sgN_le s
  have hd : C_spn.d = zS := rfl
  have hda : C_att.d = zA := rfl
  have hin := (spans_in hsp).isort
  have hLl : (isort ltO l).length = l.length := isort_len l
  repeat' (first | (with_reducible refine ⟨(s, l), ⟨(.cons (.agg (.cons (.v _) (.cons (.lent _ _ _ _ _ _) .nil))) .nil), ?_⟩, ?_⟩) | (with_reducible refine ⟨_, ⟨(.cons (.v _) .nil), ?_⟩, ?_⟩) | (with_reducible first | exact fun h => h | refine ExE.row (by with_unfolding_all rfl) ?_ | refine And.intro ?_ ?_) | ((with_reducible intro hq); first | exact bne1 hq (by with_reducible assumption) | exact bne1 (by with_reducible assumption) hq | ((simp only [*, BB, cond_true, cond_false, reduceCtorEq] at hq); done) | (revert hq; with_reducible intro _)) | (with_reducible first | exact True.intro | rfl | refine EntLe.row ?_ | exact LeN.ro rfl | exact LeN.rptr | assumption) | ((with_reducible first | refine WkX.chk ?_ | refine Wk.chk ?_ | refine LeL.chk ?_ | refine LeF.chk ?_ | refine Run.mk ?_); (conv => whnf)) | ((with_reducible show LeO _ _); first | refine LeO.ro ?_ | refine LeO.roCap ?_ | refine LeO.nil ?_ (fun _ => rfl)) | ((with_reducible show LeR _ _ _); first | refine LeR.own rfl rfl rfl ?_ | refine LeR.view rfl rfl rfl ?_ ?_ | refine LeR.ro ?_ | refine LeR.roCap ?_ | refine LeR.nil ?_ (fun _ => rfl)) | ((with_reducible first | show drawOK _ _ = true | show lateOK _ _ = true | show drawOK2 _ _ = true | show drawOK3 _ _ = true); kernel_rfl))
  all_goals (try (first | omega | (dsimp only; omega) | rfl))
  refine loopI Nat [] (fun i => [(14, .v (.int .i64 (i : Nat)))]) (fun i => [(5, .row C_att (lookTo (sgN s) (isort ltO l) i) 45 none)]) (fun i => i ≤ (isort ltO l).length) (fun i => (isort ltO l).length - i) 0 (Nat.zero_le _) (Wk.chk ?_) fun i hi => ?_
  · ((conv => whnf); repeat' (first | (with_reducible first | exact fun h => h | refine ExE.row (by with_unfolding_all rfl) ?_ | refine And.intro ?_ ?_) | ((with_reducible intro hq); first | exact bne1 hq (by with_reducible assumption) | exact bne1 (by with_reducible assumption) hq | ((simp only [*, BB, cond_true, cond_false, reduceCtorEq] at hq); done) | (revert hq; with_reducible intro _)) | (with_reducible first | exact True.intro | rfl | refine EntLe.row ?_ | exact LeN.ro rfl | exact LeN.rptr | assumption) | ((with_reducible first | refine WkX.chk ?_ | refine Wk.chk ?_ | refine LeL.chk ?_ | refine LeF.chk ?_ | refine Run.mk ?_); (conv => whnf)) | ((with_reducible show LeO _ _); first | refine LeO.ro ?_ | refine LeO.roCap ?_ | refine LeO.nil ?_ (fun _ => rfl)) | ((with_reducible show LeR _ _ _); first | refine LeR.own rfl rfl rfl ?_ | refine LeR.view rfl rfl rfl ?_ ?_ | refine LeR.ro ?_ | refine LeR.roCap ?_ | refine LeR.nil ?_ (fun _ => rfl)) | ((with_reducible first | show drawOK _ _ = true | show lateOK _ _ = true | show drawOK2 _ _ = true | show drawOK3 _ _ = true); kernel_rfl)))
    all_goals first
      | rfl
      | exact EntLe.row rfl
      | trace_state
  have hi : i ≤ (isort ltO l).length := hi
  have e1 : ((i : Int)).toNat = i := Int.toNat_natCast _
  by_cases hil : i < (isort ltO l).length
  · have hlt : decide ((i : Int) < ((isort ltO l).length : Int)) = true := decide_eq_true (by omega)
    have hxb := hin.at hil
    have hxr := right_bd (isort_right hsp hil)
    have hll := lookTo_len hin i hi
    have hsc := lookTo_succ (sgN s) (isort ltO l) hil
    obtain ⟨y, hx⟩ : ∃ y, y = (isort ltO l).getD i zS := ⟨_, rfl⟩
    rw [← hx] at hxb hsc hxr
    have hxx : (isort ltO l).getD ((i : Int)).toNat C_spn.d = y := by rw [e1, hd, hx]
    obtain ⟨P, hP⟩ : ∃ P, P = lookTo (sgN s) (isort ltO l) i := ⟨_, rfl⟩
    rw [← hP] at hll hsc
    obtain ⟨a, ha⟩ := Int.eq_ofNat_of_zero_le hxb.1
    obtain ⟨b, hb⟩ := Int.eq_ofNat_of_zero_le (show 0 ≤ y.to by omega)
    have hab : a < b ∧ b ≤ sgN s := by omega
    have hpnt : pnt P y = pntTo P y a b := by unfold pnt; rw [ha, hb]; rfl
    repeat' (first | (with_reducible first | exact fun h => h | refine ExE.row (by with_unfolding_all rfl) ?_ | refine And.intro ?_ ?_) | ((with_reducible intro hq); first | exact bne1 hq (by with_reducible assumption) | exact bne1 (by with_reducible assumption) hq | ((simp only [*, BB, cond_true, cond_false, reduceCtorEq] at hq); done) | (revert hq; with_reducible intro _)) | (with_reducible first | exact True.intro | rfl | refine EntLe.row ?_ | exact LeN.ro rfl | exact LeN.rptr | assumption) | ((with_reducible first | refine WkX.chk ?_ | refine Wk.chk ?_ | refine LeL.chk ?_ | refine LeF.chk ?_ | refine Run.mk ?_); (conv => whnf)) | ((with_reducible show LeO _ _); first | refine LeO.ro ?_ | refine LeO.roCap ?_ | refine LeO.nil ?_ (fun _ => rfl)) | ((with_reducible show LeR _ _ _); first | refine LeR.own rfl rfl rfl ?_ | refine LeR.view rfl rfl rfl ?_ ?_ | refine LeR.ro ?_ | refine LeR.roCap ?_ | refine LeR.nil ?_ (fun _ => rfl)) | ((with_reducible first | show drawOK _ _ = true | show lateOK _ _ = true | show drawOK2 _ _ = true | show drawOK3 _ _ = true); kernel_rfl))
    any_goals omega
    refine loopI Nat [] (fun k => [(6, .v (.int .i64 (k : Nat)))]) (fun k => [(5, .row C_att (pntTo P y a k) 45 none)]) (fun k => a ≤ k ∧ k ≤ b) (fun k => b - k) a ⟨Nat.le_refl _, by omega⟩ (Wk.chk ?_) fun k hk => ?_
    · ((conv => whnf); repeat' (first | (with_reducible first | exact fun h => h | refine ExE.row (by with_unfolding_all rfl) ?_ | refine And.intro ?_ ?_) | ((with_reducible intro hq); first | exact bne1 hq (by with_reducible assumption) | exact bne1 (by with_reducible assumption) hq | ((simp only [*, BB, cond_true, cond_false, reduceCtorEq] at hq); done) | (revert hq; with_reducible intro _)) | (with_reducible first | exact True.intro | rfl | refine EntLe.row ?_ | exact LeN.ro rfl | exact LeN.rptr | assumption) | ((with_reducible first | refine WkX.chk ?_ | refine Wk.chk ?_ | refine LeL.chk ?_ | refine LeF.chk ?_ | refine Run.mk ?_); (conv => whnf)) | ((with_reducible show LeO _ _); first | refine LeO.ro ?_ | refine LeO.roCap ?_ | refine LeO.nil ?_ (fun _ => rfl)) | ((with_reducible show LeR _ _ _); first | refine LeR.own rfl rfl rfl ?_ | refine LeR.view rfl rfl rfl ?_ ?_ | refine LeR.ro ?_ | refine LeR.roCap ?_ | refine LeR.nil ?_ (fun _ => rfl)) | ((with_reducible first | show drawOK _ _ = true | show lateOK _ _ = true | show drawOK2 _ _ = true | show drawOK3 _ _ = true); kernel_rfl)))
      all_goals first
        | rfl
        | (rw [hxx, ha]; done)
        | (rw [hxx, ha]; rfl)
        | (rw [pnt_start, hP]; done)
        | trace_state
    obtain ⟨hk1, hk2⟩ := hk
    have e2 : ((k : Int)).toNat = k := Int.toNat_natCast _
    have hpl := pnt_len P y hk1 (by omega : k ≤ P.length)
    by_cases hkb : k < b
    · have hlt : decide ((k : Int) < ((isort ltO l).getD ((i : Int)).toNat C_spn.d).to) = true := decide_eq_true (by rw [hxx]; omega)
      have hst := pnt_step P y hk1 (by omega : k < P.length)
      have hat := pnt_at P y hk1 (by omega : k < P.length)
      rw [← hat] at hst
      repeat' (first | (with_reducible refine ex_of (α := Nat) (k + 1) ⟨⟨?_, ?_⟩, ?_⟩ ?_) | (with_reducible first | exact fun h => h | refine ExE.row (by with_unfolding_all rfl) ?_ | refine And.intro ?_ ?_) | ((with_reducible intro hq); first | exact bne1 hq (by with_reducible assumption) | exact bne1 (by with_reducible assumption) hq | ((simp only [*, BB, cond_true, cond_false, reduceCtorEq] at hq); done) | (revert hq; with_reducible intro _)) | (with_reducible first | exact True.intro | rfl | refine EntLe.row ?_ | exact LeN.ro rfl | exact LeN.rptr | assumption) | ((with_reducible first | refine WkX.chk ?_ | refine Wk.chk ?_ | refine LeL.chk ?_ | refine LeF.chk ?_ | refine Run.mk ?_); (conv => whnf)) | ((with_reducible show LeO _ _); first | refine LeO.ro ?_ | refine LeO.roCap ?_ | refine LeO.nil ?_ (fun _ => rfl)) | ((with_reducible show LeR _ _ _); first | refine LeR.own rfl rfl rfl ?_ | refine LeR.view rfl rfl rfl ?_ ?_ | refine LeR.ro ?_ | refine LeR.roCap ?_ | refine LeR.nil ?_ (fun _ => rfl)) | ((with_reducible first | show drawOK _ _ = true | show lateOK _ _ = true | show drawOK2 _ _ = true | show drawOK3 _ _ = true); kernel_rfl))
      all_goals (try simp only [hxx] at *)
      all_goals first
        | omega
        | rfl
        | (apply Fits.i64 <;> omega)
        | (show k < (pntTo P y a k).length; omega)
        | (show b - (k + 1) < b - k; omega)
        | (refine Eq.trans (congrArg ((pntTo P y a k).set k) ?_) hst; first | exact setA_1 (by assumption) _ | exact setA_2 (by assumption) _ | exact setA_3 (by assumption) _ | exact setA_4 (by assumption) _ | exact setA_5 (by assumption) (by assumption) (by assumption) (by assumption) _)
        | trace_state
    have hlt : decide ((k : Int) < ((isort ltO l).getD ((i : Int)).toNat C_spn.d).to) = false := decide_eq_false (by rw [hxx]; omega)
    have hkk : k = b := by omega
    subst hkk
    repeat' (first | (with_reducible refine ex_of (α := Nat) (i + 1) ⟨?_, ?_⟩ ?_) | (with_reducible first | exact fun h => h | refine ExE.row (by with_unfolding_all rfl) ?_ | refine And.intro ?_ ?_) | ((with_reducible intro hq); first | exact bne1 hq (by with_reducible assumption) | exact bne1 (by with_reducible assumption) hq | ((simp only [*, BB, cond_true, cond_false, reduceCtorEq] at hq); done) | (revert hq; with_reducible intro _)) | (with_reducible first | exact True.intro | rfl | refine EntLe.row ?_ | exact LeN.ro rfl | exact LeN.rptr | assumption) | ((with_reducible first | refine WkX.chk ?_ | refine Wk.chk ?_ | refine LeL.chk ?_ | refine LeF.chk ?_ | refine Run.mk ?_); (conv => whnf)) | ((with_reducible show LeO _ _); first | refine LeO.ro ?_ | refine LeO.roCap ?_ | refine LeO.nil ?_ (fun _ => rfl)) | ((with_reducible show LeR _ _ _); first | refine LeR.own rfl rfl rfl ?_ | refine LeR.view rfl rfl rfl ?_ ?_ | refine LeR.ro ?_ | refine LeR.roCap ?_ | refine LeR.nil ?_ (fun _ => rfl)) | ((with_reducible first | show drawOK _ _ = true | show lateOK _ _ = true | show drawOK2 _ _ = true | show drawOK3 _ _ = true); kernel_rfl))
    all_goals first
      | omega
      | (apply Fits.i64 <;> omega)
      | (show (isort ltO l).length - (i + 1) < (isort ltO l).length - i; omega)
      | (rw [hsc, hpnt]; done)
      | trace_state
  have hlt : decide ((i : Int) < ((isort ltO l).length : Int)) = false := decide_eq_false (by omega)
  have hii : i = (isort ltO l).length := by omega
  subst hii
  have hlen : (lookTo (sgN s) (isort ltO l) (isort ltO l).length).length = sgN s := hlen
  have hcol : ColOK (lookTo (sgN s) (isort ltO l) (isort ltO l).length) := hcol
  have hRn : rightB x (((lookTo (sgN s) (isort ltO l) (isort ltO l).length).length : Nat) : Int) = rightB x (sgN s : Nat) := by rw [hlen]
  cases hr : rightB x (sgN s : Nat) with
  | false =>
    have k2 : (!(rightB x (((lookTo (sgN s) (isort ltO l) (isort ltO l).length).length : Nat) : Int))) = true := by rw [hRn, hr]; rfl
    have h0 : setE0 s l x = 23 := by rw [h00, if_pos hr]
    have hE := (nrmE_no (e := setE0 s l x) (A := pnt (looksL (sgN s) l) x) (by rw [h0]; decide)).trans h0
    have hT := nrmT_no (e := setE0 s l x) (s := s) (A := pnt (looksL (sgN s) l) x) (by rw [h0]; decide)
    have hL := nrmL_no (e := setE0 s l x) (A := pnt (looksL (sgN s) l) x) (by rw [h0]; decide)
    repeat' (first | (with_reducible refine ⟨(x, _), ⟨(.cons (.agg (.cons (.v _) (.cons (.v _) (.cons (.v _) (.cons (.v _) .nil))))) (.cons (.v _) .nil)), ?_⟩, ?_⟩) | (with_reducible first | exact fun h => h | refine ExE.row (by with_unfolding_all rfl) ?_ | refine And.intro ?_ ?_) | ((with_reducible intro hq); first | exact bne1 hq (by with_reducible assumption) | exact bne1 (by with_reducible assumption) hq | ((simp only [*, BB, cond_true, cond_false, reduceCtorEq] at hq); done) | (revert hq; with_reducible intro _)) | (with_reducible first | exact True.intro | rfl | refine EntLe.row ?_ | exact LeN.ro rfl | exact LeN.rptr | assumption) | ((with_reducible first | refine WkX.chk ?_ | refine Wk.chk ?_ | refine LeL.chk ?_ | refine LeF.chk ?_ | refine Run.mk ?_); (conv => whnf)) | ((with_reducible show LeO _ _); first | refine LeO.ro ?_ | refine LeO.roCap ?_ | refine LeO.nil ?_ (fun _ => rfl)) | ((with_reducible show LeR _ _ _); first | refine LeR.own rfl rfl rfl ?_ | refine LeR.view rfl rfl rfl ?_ ?_ | refine LeR.ro ?_ | refine LeR.roCap ?_ | refine LeR.nil ?_ (fun _ => rfl)) | ((with_reducible first | show drawOK _ _ = true | show lateOK _ _ = true | show drawOK2 _ _ = true | show drawOK3 _ _ = true); kernel_rfl))
    all_goals first
      | exact hE.symm
      | exact hT.symm
      | exact hL.symm
      | omega
      | trace_state
  | true =>
  have k2 : (!(rightB x (((lookTo (sgN s) (isort ltO l) (isort ltO l).length).length : Nat) : Int))) = false := by rw [hRn, hr]; rfl
  have h0 : setE0 s l x = 0 := by rw [h00, if_neg (by rw [hr]; decide)]
  have hE := nrmE_yes (A := pnt (looksL (sgN s) l) x) h0
  have hT := nrmT_yes (s := s) (A := pnt (looksL (sgN s) l) x) h0
  have hL := nrmL_yes (A := pnt (looksL (sgN s) l) x) h0
  have hxr := right_bd hr
  have hpc : ColOK (pnt (looksL (sgN s) l) x) := pnt_col hcol hr
  obtain ⟨a, ha⟩ := Int.eq_ofNat_of_zero_le hxr.1.1
  obtain ⟨b, hb⟩ := Int.eq_ofNat_of_zero_le (show 0 ≤ x.to by omega)
  have hab : a < b ∧ b ≤ sgN s := by omega
  have hpnt : pnt (looksL (sgN s) l) x = pntTo (lookTo (sgN s) (isort ltO l) (isort ltO l).length) x a b := by unfold pnt; rw [ha, hb]; rfl
  repeat' (first | (with_reducible refine ⟨(x, _), ⟨(.cons (.agg (.cons (.v _) (.cons (.v _) (.cons (.v _) (.cons (.v _) .nil))))) (.cons (.v _) .nil)), ?_⟩, ?_⟩) | (with_reducible first | exact fun h => h | refine ExE.row (by with_unfolding_all rfl) ?_ | refine And.intro ?_ ?_) | ((with_reducible intro hq); first | exact bne1 hq (by with_reducible assumption) | exact bne1 (by with_reducible assumption) hq | ((simp only [*, BB, cond_true, cond_false, reduceCtorEq] at hq); done) | (revert hq; with_reducible intro _)) | (with_reducible first | exact True.intro | rfl | refine EntLe.row ?_ | exact LeN.ro rfl | exact LeN.rptr | assumption) | ((with_reducible first | refine WkX.chk ?_ | refine Wk.chk ?_ | refine LeL.chk ?_ | refine LeF.chk ?_ | refine Run.mk ?_); (conv => whnf)) | ((with_reducible show LeO _ _); first | refine LeO.ro ?_ | refine LeO.roCap ?_ | refine LeO.nil ?_ (fun _ => rfl)) | ((with_reducible show LeR _ _ _); first | refine LeR.own rfl rfl rfl ?_ | refine LeR.view rfl rfl rfl ?_ ?_ | refine LeR.ro ?_ | refine LeR.roCap ?_ | refine LeR.nil ?_ (fun _ => rfl)) | ((with_reducible first | show drawOK _ _ = true | show lateOK _ _ = true | show drawOK2 _ _ = true | show drawOK3 _ _ = true); kernel_rfl))
  all_goals (try omega)
  refine loopI Nat [] (fun k => [(8, .v (.int .i64 (k : Nat)))]) (fun k => [(5, .row C_att (pntTo (lookTo (sgN s) (isort ltO l) (isort ltO l).length) x a k) 45 none)]) (fun k => a ≤ k ∧ k ≤ b) (fun k => b - k) a ⟨Nat.le_refl _, by omega⟩ (Wk.chk ?_) fun k hk => ?_
  · ((conv => whnf); repeat' (first | (with_reducible first | exact fun h => h | refine ExE.row (by with_unfolding_all rfl) ?_ | refine And.intro ?_ ?_) | ((with_reducible intro hq); first | exact bne1 hq (by with_reducible assumption) | exact bne1 (by with_reducible assumption) hq | ((simp only [*, BB, cond_true, cond_false, reduceCtorEq] at hq); done) | (revert hq; with_reducible intro _)) | (with_reducible first | exact True.intro | rfl | refine EntLe.row ?_ | exact LeN.ro rfl | exact LeN.rptr | assumption) | ((with_reducible first | refine WkX.chk ?_ | refine Wk.chk ?_ | refine LeL.chk ?_ | refine LeF.chk ?_ | refine Run.mk ?_); (conv => whnf)) | ((with_reducible show LeO _ _); first | refine LeO.ro ?_ | refine LeO.roCap ?_ | refine LeO.nil ?_ (fun _ => rfl)) | ((with_reducible show LeR _ _ _); first | refine LeR.own rfl rfl rfl ?_ | refine LeR.view rfl rfl rfl ?_ ?_ | refine LeR.ro ?_ | refine LeR.roCap ?_ | refine LeR.nil ?_ (fun _ => rfl)) | ((with_reducible first | show drawOK _ _ = true | show lateOK _ _ = true | show drawOK2 _ _ = true | show drawOK3 _ _ = true); kernel_rfl)))
    all_goals first
      | rfl
      | (rw [ha]; done)
      | (rw [ha]; rfl)
      | (rw [pnt_start]; done)
      | trace_state
  obtain ⟨hk1, hk2⟩ := hk
  have e2 : ((k : Int)).toNat = k := Int.toNat_natCast _
  have hpl := pnt_len (lookTo (sgN s) (isort ltO l) (isort ltO l).length) x hk1 (by omega : k ≤ (lookTo (sgN s) (isort ltO l) (isort ltO l).length).length)
  by_cases hkb : k < b
  · have hlt : decide ((k : Int) < x.to) = true := decide_eq_true (by omega)
    have hst := pnt_step (lookTo (sgN s) (isort ltO l) (isort ltO l).length) x hk1 (by omega : k < (lookTo (sgN s) (isort ltO l) (isort ltO l).length).length)
    have hat := pnt_at (lookTo (sgN s) (isort ltO l) (isort ltO l).length) x hk1 (by omega : k < (lookTo (sgN s) (isort ltO l) (isort ltO l).length).length)
    rw [← hat] at hst
    repeat' (first | (with_reducible refine ex_of (α := Nat) (k + 1) ⟨⟨?_, ?_⟩, ?_⟩ ?_) | (with_reducible first | exact fun h => h | refine ExE.row (by with_unfolding_all rfl) ?_ | refine And.intro ?_ ?_) | ((with_reducible intro hq); first | exact bne1 hq (by with_reducible assumption) | exact bne1 (by with_reducible assumption) hq | ((simp only [*, BB, cond_true, cond_false, reduceCtorEq] at hq); done) | (revert hq; with_reducible intro _)) | (with_reducible first | exact True.intro | rfl | refine EntLe.row ?_ | exact LeN.ro rfl | exact LeN.rptr | assumption) | ((with_reducible first | refine WkX.chk ?_ | refine Wk.chk ?_ | refine LeL.chk ?_ | refine LeF.chk ?_ | refine Run.mk ?_); (conv => whnf)) | ((with_reducible show LeO _ _); first | refine LeO.ro ?_ | refine LeO.roCap ?_ | refine LeO.nil ?_ (fun _ => rfl)) | ((with_reducible show LeR _ _ _); first | refine LeR.own rfl rfl rfl ?_ | refine LeR.view rfl rfl rfl ?_ ?_ | refine LeR.ro ?_ | refine LeR.roCap ?_ | refine LeR.nil ?_ (fun _ => rfl)) | ((with_reducible first | show drawOK _ _ = true | show lateOK _ _ = true | show drawOK2 _ _ = true | show drawOK3 _ _ = true); kernel_rfl))
    all_goals first
      | omega
      | rfl
      | (apply Fits.i64 <;> omega)
      | (show k < (pntTo (lookTo (sgN s) (isort ltO l) (isort ltO l).length) x a k).length; omega)
      | (show b - (k + 1) < b - k; omega)
      | (refine Eq.trans (congrArg ((pntTo (lookTo (sgN s) (isort ltO l) (isort ltO l).length) x a k).set k) ?_) hst; first | exact setA_1 (by assumption) _ | exact setA_2 (by assumption) _ | exact setA_3 (by assumption) _ | exact setA_4 (by assumption) _ | exact setA_5 (by assumption) (by assumption) (by assumption) (by assumption) _)
      | trace_state
  have hlt : decide ((k : Int) < x.to) = false := decide_eq_false (by omega)
  have hkk : k = b := by omega
  subst hkk
  rw [hpnt] at hpc
  repeat' (first | (with_reducible refine ⟨(_, _), ⟨(.cons (.v _) (.cons (.own (by with_unfolding_all exact rfl) (by with_unfolding_all exact rfl) (by with_unfolding_all exact rfl)) .nil)), ?_⟩, ?_⟩) | (with_reducible first | exact fun h => h | refine ExE.row (by with_unfolding_all rfl) ?_ | refine And.intro ?_ ?_) | ((with_reducible intro hq); first | exact bne1 hq (by with_reducible assumption) | exact bne1 (by with_reducible assumption) hq | ((simp only [*, BB, cond_true, cond_false, reduceCtorEq] at hq); done) | (revert hq; with_reducible intro _)) | (with_reducible first | exact True.intro | rfl | refine EntLe.row ?_ | exact LeN.ro rfl | exact LeN.rptr | assumption) | ((with_reducible first | refine WkX.chk ?_ | refine Wk.chk ?_ | refine LeL.chk ?_ | refine LeF.chk ?_ | refine Run.mk ?_); (conv => whnf)) | ((with_reducible show LeO _ _); first | refine LeO.ro ?_ | refine LeO.roCap ?_ | refine LeO.nil ?_ (fun _ => rfl)) | ((with_reducible show LeR _ _ _); first | refine LeR.own rfl rfl rfl ?_ | refine LeR.view rfl rfl rfl ?_ ?_ | refine LeR.ro ?_ | refine LeR.roCap ?_ | refine LeR.nil ?_ (fun _ => rfl)) | ((with_reducible first | show drawOK _ _ = true | show lateOK _ _ = true | show drawOK2 _ _ = true | show drawOK3 _ _ = true); kernel_rfl))
  all_goals first
    | omega
    | exact hpc
    | exact ⟨hpc, by omega⟩
    | (dsimp only; omega)
    | (rw [hE, hpnt]; done)
    | (rw [hT, hpnt]; done)
    | (rw [hL, hpnt]; done)
    | trace_state
end Go.SX.Try
