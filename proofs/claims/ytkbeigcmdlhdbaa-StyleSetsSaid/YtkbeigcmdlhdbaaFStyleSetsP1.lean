/- A verified symbolic executor for Go code in the model, contracts and plain laws that the proofs lean on, FStyleSetsP1. -/
import Derived.Test.YtkbeigcmdlhdbaaBZ7
set_option linter.unusedVariables false
set_option linter.unusedSimpArgs false
/- Contract of style.Set. -/
namespace Go.SX.Try
open Go.Proofs Go.Proofs.Try Go.SX.Plain
set_option maxRecDepth 100000
set_option maxHeartbeats 0
set_option linter.unusedSimpArgs false
theorem q_sSet : fact 43 f43 := ⟨by kernel_rfl, rfl, by kernel_rfl⟩
theorem con_sSet : Con prog 43 (fun ((s, l, x) : ByteArray × List Spn × Spn) => [txAV s l, .agg (spAV x)]) (fun (s, l, x) => .tup [txO (nrmT (setE0 s l x) s (pnt (looksL (sgN s) l) x)) (nrmL (setE0 s l x) (pnt (looksL (sgN s) l) x)), .v (.int .i64 (nrmE (setE0 s l x) (pnt (looksL (sgN s) l) x)))]) (fun _ => True) := by
  refine Con.of (by kernel_rfl) T_ok D_att_ok (.con con_scheck (.con con_ucount (.con con_souter (.con con_sright (.con con_stext (.inl (J := []) q_slooks.1 q_slooks.2.1 q_slooks.2.2 (.inl (J := []) q_sset.1 q_sset.2.1 q_sset.2.2 .nil))))))) 5 [] q_sSet.1 q_sSet.2.1 q_sSet.2.2 (fun _ => rfl) fun i _ => ?_
  obtain ⟨s, l, x⟩ := i
  by_cases hc : chkN s.size l (sgN s : Nat) = 0
  case neg =>
    have k1 : (chkN s.size l (sgN s : Nat) != 0) = true := by simpa using hc
    have h0 : setE0 s l x = chkN s.size l (sgN s : Nat) := if_pos hc
    have hE := (nrmE_no (e := setE0 s l x) (A := pnt (looksL (sgN s) l) x) (by rw [h0]; exact hc)).trans h0
    have hT := nrmT_no (e := setE0 s l x) (s := s) (A := pnt (looksL (sgN s) l) x) (by rw [h0]; exact hc)
    have hL := nrmL_no (e := setE0 s l x) (A := pnt (looksL (sgN s) l) x) (by rw [h0]; exact hc)
    repeat' (first | (with_reducible refine ⟨(s, l), ⟨(.cons (.agg (.cons (.v _) (.cons (.lent _ _ _ _ _ _) .nil))) .nil), ?_⟩, ?_⟩) | (with_reducible first | exact fun h => h | refine ExE.row (by with_unfolding_all rfl) ?_ | refine And.intro ?_ ?_) | ((with_reducible intro hq); first | exact bne1 hq (by with_reducible assumption) | exact bne1 (by with_reducible assumption) hq | ((simp only [*, BB, cond_true, cond_false, reduceCtorEq] at hq); done) | (revert hq; with_reducible intro _)) | (with_reducible first | exact True.intro | rfl | refine EntLe.row ?_ | exact LeN.ro rfl | exact LeN.rptr | assumption) | ((with_reducible first | refine WkX.chk ?_ | refine Wk.chk ?_ | refine LeL.chk ?_ | refine LeF.chk ?_ | refine Run.mk ?_); (conv => whnf)) | ((with_reducible show LeO _ _); first | refine LeO.ro ?_ | refine LeO.roCap ?_ | refine LeO.nil ?_ (fun _ => rfl)) | ((with_reducible show LeR _ _ _); first | refine LeR.own rfl rfl rfl ?_ | refine LeR.view rfl rfl rfl ?_ ?_ | refine LeR.ro ?_ | refine LeR.roCap ?_ | refine LeR.nil ?_ (fun _ => rfl)) | ((with_reducible first | show drawOK _ _ = true | show lateOK _ _ = true | show drawOK2 _ _ = true | show drawOK3 _ _ = true); kernel_rfl))
    all_goals first
      | exact hE.symm
      | exact hT.symm
      | exact hL.symm
      | trace_state
  have k1 : (chkN s.size l (sgN s : Nat) != 0) = false := by rw [hc]; rfl
  have hok := OkT.of hc
  have h00 : setE0 s l x = if rightB x (sgN s : Nat) = false then 23 else 0 := if_neg (fun h => h hc)
  obtain ⟨hs, hl, hsp⟩ := id hok
  have hlen := looksL_len hsp
  have hcol := looksL_col hsp
  have hn := sgN_le s
  have hd : C_spn.d = zS := rfl
  have hda : C_att.d = zA := rfl
  have hin := (spans_in hsp).isort
  have hLl : (isort ltO l).length = l.length := isort_len l
  repeat' (first | (with_reducible refine ⟨(s, l), ⟨(.cons (.agg (.cons (.v _) (.cons (.lent _ _ _ _ _ _) .nil))) .nil), ?_⟩, ?_⟩) | (with_reducible refine ⟨_, ⟨(.cons (.v _) .nil), ?_⟩, ?_⟩) | (with_reducible first | exact fun h => h | refine ExE.row (by with_unfolding_all rfl) ?_ | refine And.intro ?_ ?_) | ((with_reducible intro hq); first | exact bne1 hq (by with_reducible assumption) | exact bne1 (by with_reducible assumption) hq | ((simp only [*, BB, cond_true, cond_false, reduceCtorEq] at hq); done) | (revert hq; with_reducible intro _)) | (with_reducible first | exact True.intro | rfl | refine EntLe.row ?_ | exact LeN.ro rfl | exact LeN.rptr | assumption) | ((with_reducible first | refine WkX.chk ?_ | refine Wk.chk ?_ | refine LeL.chk ?_ | refine LeF.chk ?_ | refine Run.mk ?_); (conv => whnf)) | ((with_reducible show LeO _ _); first | refine LeO.ro ?_ | refine LeO.roCap ?_ | refine LeO.nil ?_ (fun _ => rfl)) | ((with_reducible show LeR _ _ _); first | refine LeR.own rfl rfl rfl ?_ | refine LeR.view rfl rfl rfl ?_ ?_ | refine LeR.ro ?_ | refine LeR.roCap ?_ | refine LeR.nil ?_ (fun _ => rfl)) | ((with_reducible first | show drawOK _ _ = true | show lateOK _ _ = true | show drawOK2 _ _ = true | show drawOK3 _ _ = true); kernel_rfl))
  all_goals (try (first | omega | (dsimp only; omega) | rfl))
  refine loopI Nat [] (fun i => [(14, .v (.int .i64 (i : Nat)))]) (fun i => [(5, .row C_att (lookTo (sgN s) (isort ltO l) i) 45 none)]) (fun i => i ≤ (isort ltO l).length) (fun i => (isort ltO l).length - i) 0 (Nat.zero_le _) (Wk.chk ?_) fun i hi => ?_
  · ((conv => whnf); repeat' (first | (with_reducible first | exact fun h => h | refine ExE.row (by with_unfolding_all rfl) ?_ | refine And.intro ?_ ?_) | ((with_reducible intro hq); first | exact bne1 hq (by with_reducible assumption) | exact bne1 (by with_reducible assumption) hq | ((simp only [*, BB, cond_true, cond_false, reduceCtorEq] at hq); done) | (revert hq; with_reducible intro _)) | (with_reducible first | exact True.intro | rfl | refine EntLe.row ?_ | exact LeN.ro rfl | exact LeN.rptr | assumption) | ((with_reducible first | refine WkX.chk ?_ | refine Wk.chk ?_ | refine LeL.chk ?_ | refine LeF.chk ?_ | refine Run.mk ?_); (conv => whnf)) | ((with_reducible show LeO _ _); first | refine LeO.ro ?_ | refine LeO.roCap ?_ | refine LeO.nil ?_ (fun _ => rfl)) | ((with_reducible show LeR _ _ _); first | refine LeR.own rfl rfl rfl ?_ | refine LeR.view rfl rfl rfl ?_ ?_ | refine LeR.ro ?_ | refine LeR.roCap ?_ | refine LeR.nil ?_ (fun _ => rfl)) | ((with_reducible first | show drawOK _ _ = true | show lateOK _ _ = true | show drawOK2 _ _ = true | show drawOK3 _ _ = true); kernel_rfl)))
    all_goals first
      | rfl
      | exact EntLe.row rfl
      | trace_state
  have hi : i ≤ (isort ltO l).length := hi
  have e1 : ((i : Int)).toNat = i := Int.toNat_natCast _
  by_cases hil : i < (isort ltO l).length
  · have hlt : decide ((i : Int) < ((isort ltO l).length : Int)) = true := decide_eq_true (by omega)
    have hxb := hin.at hil
    have hxr := right_bd (isort_right hsp hil)
    have hll := lookTo_len hin i hi
    have hsc := lookTo_succ (sgN s) (isort ltO l) hil
    obtain ⟨y, hx⟩ : ∃ y, y = (isort ltO l).getD i zS := ⟨_, rfl⟩
    rw [← hx] at hxb hsc hxr
    have hxx : (isort ltO l).getD ((i : Int)).toNat C_spn.d = y := by rw [e1, hd, hx]
    obtain ⟨P, hP⟩ : ∃ P, P = lookTo (sgN s) (isort ltO l) i := ⟨_, rfl⟩
    rw [← hP] at hll hsc
    obtain ⟨a, ha⟩ := Int.eq_ofNat_of_zero_le hxb.1
    obtain ⟨b, hb⟩ := Int.eq_ofNat_of_zero_le (show 0 ≤ y.to by omega)
    have hab : a < b ∧ b ≤ sgN s := by omega
    have hpnt : pnt P y = pntTo P y a b := by unfold pnt; rw [ha, hb]; rfl
    repeat' (first | (with_reducible first | exact fun h => h | refine ExE.row (by with_unfolding_all rfl) ?_ | refine And.intro ?_ ?_) | ((with_reducible intro hq); first | exact bne1 hq (by with_reducible assumption) | exact bne1 (by with_reducible assumption) hq | ((simp only [*, BB, cond_true, cond_false, reduceCtorEq] at hq); done) | (revert hq; with_reducible intro _)) | (with_reducible first | exact True.intro | rfl | refine EntLe.row ?_ | exact LeN.ro rfl | exact LeN.rptr | assumption) | ((with_reducible first | refine WkX.chk ?_ | refine Wk.chk ?_ | refine LeL.chk ?_ | refine LeF.chk ?_ | refine Run.mk ?_); (conv => whnf)) | ((with_reducible show LeO _ _); first | refine LeO.ro ?_ | refine LeO.roCap ?_ | refine LeO.nil ?_ (fun _ => rfl)) | ((with_reducible show LeR _ _ _); first | refine LeR.own rfl rfl rfl ?_ | refine LeR.view rfl rfl rfl ?_ ?_ | refine LeR.ro ?_ | refine LeR.roCap ?_ | refine LeR.nil ?_ (fun _ => rfl)) | ((with_reducible first | show drawOK _ _ = true | show lateOK _ _ = true | show drawOK2 _ _ = true | show drawOK3 _ _ = true); kernel_rfl))
    any_goals omega
    refine loopI Nat [] (fun k => [(6, .v (.int .i64 (k : Nat)))]) (fun k => [(5, .row C_att (pntTo P y a k) 45 none)]) (fun k => a ≤ k ∧ k ≤ b) (fun k => b - k) a ⟨Nat.le_refl _, by omega⟩ (Wk.chk ?_) fun k hk => ?_
    · ((conv => whnf); repeat' (first | (with_reducible first | exact fun h => h | refine ExE.row (by with_unfolding_all rfl) ?_ | refine And.intro ?_ ?_) | ((with_reducible intro hq); first | exact bne1 hq (by with_reducible assumption) | exact bne1 (by with_reducible assumption) hq | ((simp only [*, BB, cond_true, cond_false, reduceCtorEq] at hq); done) | (revert hq; with_reducible intro _)) | (with_reducible first | exact True.intro | rfl | refine EntLe.row ?_ | exact LeN.ro rfl | exact LeN.rptr | assumption) | ((with_reducible first | refine WkX.chk ?_ | refine Wk.chk ?_ | refine LeL.chk ?_ | refine LeF.chk ?_ | refine Run.mk ?_); (conv => whnf)) | ((with_reducible show LeO _ _); first | refine LeO.ro ?_ | refine LeO.roCap ?_ | refine LeO.nil ?_ (fun _ => rfl)) | ((with_reducible show LeR _ _ _); first | refine LeR.own rfl rfl rfl ?_ | refine LeR.view rfl rfl rfl ?_ ?_ | refine LeR.ro ?_ | refine LeR.roCap ?_ | refine LeR.nil ?_ (fun _ => rfl)) | ((with_reducible first | show drawOK _ _ = true | show lateOK _ _ = true | show drawOK2 _ _ = true | show drawOK3 _ _ = true); kernel_rfl)))
      all_goals first
        | rfl
        | (rw [hxx, ha]; done)
        | (rw [hxx, ha]; rfl)
        | (rw [pnt_start, hP]; done)
        | trace_state
    obtain ⟨hk1, hk2⟩ := hk
    have e2 : ((k : Int)).toNat = k := Int.toNat_natCast _
    have hpl := pnt_len P y hk1 (by omega : k ≤ P.length)
    by_cases hkb : k < b
    · have hlt : decide ((k : Int) < ((isort ltO l).getD ((i : Int)).toNat C_spn.d).to) = true := decide_eq_true (by rw [hxx]; omega)
      have hst := pnt_step P y hk1 (by omega : k < P.length)
      have hat := pnt_at P y hk1 (by omega : k < P.length)
      rw [← hat] at hst
      repeat' (first | (with_reducible refine ex_of (α := Nat) (k + 1) ⟨⟨?_, ?_⟩, ?_⟩ ?_) | (with_reducible first | exact fun h => h | refine ExE.row (by with_unfolding_all rfl) ?_ | refine And.intro ?_ ?_) | ((with_reducible intro hq); first | exact bne1 hq (by with_reducible assumption) | exact bne1 (by with_reducible assumption) hq | ((simp only [*, BB, cond_true, cond_false, reduceCtorEq] at hq); done) | (revert hq; with_reducible intro _)) | (with_reducible first | exact True.intro | rfl | refine EntLe.row ?_ | exact LeN.ro rfl | exact LeN.rptr | assumption) | ((with_reducible first | refine WkX.chk ?_ | refine Wk.chk ?_ | refine LeL.chk ?_ | refine LeF.chk ?_ | refine Run.mk ?_); (conv => whnf)) | ((with_reducible show LeO _ _); first | refine LeO.ro ?_ | refine LeO.roCap ?_ | refine LeO.nil ?_ (fun _ => rfl)) | ((with_reducible show LeR _ _ _); first | refine LeR.own rfl rfl rfl ?_ | refine LeR.view rfl rfl rfl ?_ ?_ | refine LeR.ro ?_ | refine LeR.roCap ?_ | refine LeR.nil ?_ (fun _ => rfl)) | ((with_reducible first | show drawOK _ _ = true | show lateOK _ _ = true | show drawOK2 _ _ = true | show drawOK3 _ _ = true); kernel_rfl))
      all_goals (try simp only [hxx] at *)
      all_goals first
        | omega
        | rfl
        | (apply Fits.i64 <;> omega)
        | (show k < (pntTo P y a k).length; omega)
        | (show b - (k + 1) < b - k; omega)
        | (refine Eq.trans (congrArg ((pntTo P y a k).set k) ?_) hst; first | exact setA_1 (by assumption) _ | exact setA_2 (by assumption) _ | exact setA_3 (by assumption) _ | exact setA_4 (by assumption) _ | exact setA_5 (by assumption) (by assumption) (by assumption) (by assumption) _)
        | trace_state
    have hlt : decide ((k : Int) < ((isort ltO l).getD ((i : Int)).toNat C_spn.d).to) = false := decide_eq_false (by rw [hxx]; omega)
    have hkk : k = b := by omega
    subst hkk
    repeat' (first | (with_reducible refine ex_of (α := Nat) (i + 1) ⟨?_, ?_⟩ ?_) | (with_reducible first | exact fun h => h | refine ExE.row (by with_unfolding_all rfl) ?_ | refine And.intro ?_ ?_) | ((with_reducible intro hq); first | exact bne1 hq (by with_reducible assumption) | exact bne1 (by with_reducible assumption) hq | ((simp only [*, BB, cond_true, cond_false, reduceCtorEq] at hq); done) | (revert hq; with_reducible intro _)) | (with_reducible first | exact True.intro | rfl | refine EntLe.row ?_ | exact LeN.ro rfl | exact LeN.rptr | assumption) | ((with_reducible first | refine WkX.chk ?_ | refine Wk.chk ?_ | refine LeL.chk ?_ | refine LeF.chk ?_ | refine Run.mk ?_); (conv => whnf)) | ((with_reducible show LeO _ _); first | refine LeO.ro ?_ | refine LeO.roCap ?_ | refine LeO.nil ?_ (fun _ => rfl)) | ((with_reducible show LeR _ _ _); first | refine LeR.own rfl rfl rfl ?_ | refine LeR.view rfl rfl rfl ?_ ?_ | refine LeR.ro ?_ | refine LeR.roCap ?_ | refine LeR.nil ?_ (fun _ => rfl)) | ((with_reducible first | show drawOK _ _ = true | show lateOK _ _ = true | show drawOK2 _ _ = true | show drawOK3 _ _ = true); kernel_rfl))
    all_goals first
      | omega
      | (apply Fits.i64 <;> omega)
      | (show (isort ltO l).length - (i + 1) < (isort ltO l).length - i; omega)
      | (rw [hsc, hpnt]; done)
      | trace_state
  have hlt : decide ((i : Int) < ((isort ltO l).length : Int)) = false := decide_eq_false (by omega)
  have hii : i = (isort ltO l).length := by omega
  subst hii
  have hlen : (lookTo (sgN s) (isort ltO l) (isort ltO l).length).length = sgN s := hlen
  have hcol : ColOK (lookTo (sgN s) (isort ltO l) (isort ltO l).length) := hcol
  have hRn : rightB x (((lookTo (sgN s) (isort ltO l) (isort ltO l).length).length : Nat) : Int) = rightB x (sgN s : Nat) := by rw [hlen]
  cases hr : rightB x (sgN s : Nat) with
  | false =>
    have k2 : (!(rightB x (((lookTo (sgN s) (isort ltO l) (isort ltO l).length).length : Nat) : Int))) = true := by rw [hRn, hr]; rfl
    have h0 : setE0 s l x = 23 := by rw [h00, if_pos hr]
    have hE := (nrmE_no (e := setE0 s l x) (A := pnt (looksL (sgN s) l) x) (by rw [h0]; decide)).trans h0
    have hT := nrmT_no (e := setE0 s l x) (s := s) (A := pnt (looksL (sgN s) l) x) (by rw [h0]; decide)
    have hL := nrmL_no (e := setE0 s l x) (A := pnt (looksL (sgN s) l) x) (by rw [h0]; decide)
    repeat' (first | (with_reducible refine ⟨(x, _), ⟨(.cons (.agg (.cons (.v _) (.cons (.v _) (.cons (.v _) (.cons (.v _) .nil))))) (.cons (.v _) .nil)), ?_⟩, ?_⟩) | (with_reducible first | exact fun h => h | refine ExE.row (by with_unfolding_all rfl) ?_ | refine And.intro ?_ ?_) | ((with_reducible intro hq); first | exact bne1 hq (by with_reducible assumption) | exact bne1 (by with_reducible assumption) hq | ((simp only [*, BB, cond_true, cond_false, reduceCtorEq] at hq); done) | (revert hq; with_reducible intro _)) | (with_reducible first | exact True.intro | rfl | refine EntLe.row ?_ | exact LeN.ro rfl | exact LeN.rptr | assumption) | ((with_reducible first | refine WkX.chk ?_ | refine Wk.chk ?_ | refine LeL.chk ?_ | refine LeF.chk ?_ | refine Run.mk ?_); (conv => whnf)) | ((with_reducible show LeO _ _); first | refine LeO.ro ?_ | refine LeO.roCap ?_ | refine LeO.nil ?_ (fun _ => rfl)) | ((with_reducible show LeR _ _ _); first | refine LeR.own rfl rfl rfl ?_ | refine LeR.view rfl rfl rfl ?_ ?_ | refine LeR.ro ?_ | refine LeR.roCap ?_ | refine LeR.nil ?_ (fun _ => rfl)) | ((with_reducible first | show drawOK _ _ = true | show lateOK _ _ = true | show drawOK2 _ _ = true | show drawOK3 _ _ = true); kernel_rfl))
    all_goals first
      | exact hE.symm
      | exact hT.symm
      | exact hL.symm
      | omega
      | trace_state
  | true =>
  have k2 : (!(rightB x (((lookTo (sgN s) (isort ltO l) (isort ltO l).length).length : Nat) : Int))) = false := by rw [hRn, hr]; rfl
  have h0 : setE0 s l x = 0 := by rw [h00, if_neg (by rw [hr]; decide)]
  have hE := nrmE_yes (A := pnt (looksL (sgN s) l) x) h0
  have hT := nrmT_yes (s := s) (A := pnt (looksL (sgN s) l) x) h0
  have hL := nrmL_yes (A := pnt (looksL (sgN s) l) x) h0
  have hxr := right_bd hr
  have hpc : ColOK (pnt (looksL (sgN s) l) x) := pnt_col hcol hr
  obtain ⟨a, ha⟩ := Int.eq_ofNat_of_zero_le hxr.1.1
  obtain ⟨b, hb⟩ := Int.eq_ofNat_of_zero_le (show 0 ≤ x.to by omega)
  have hab : a < b ∧ b ≤ sgN s := by omega
  have hpnt : pnt (looksL (sgN s) l) x = pntTo (lookTo (sgN s) (isort ltO l) (isort ltO l).length) x a b := by unfold pnt; rw [ha, hb]; rfl
  repeat' (first | (with_reducible refine ⟨(x, _), ⟨(.cons (.agg (.cons (.v _) (.cons (.v _) (.cons (.v _) (.cons (.v _) .nil))))) (.cons (.v _) .nil)), ?_⟩, ?_⟩) | (with_reducible first | exact fun h => h | refine ExE.row (by with_unfolding_all rfl) ?_ | refine And.intro ?_ ?_) | ((with_reducible intro hq); first | exact bne1 hq (by with_reducible assumption) | exact bne1 (by with_reducible assumption) hq | ((simp only [*, BB, cond_true, cond_false, reduceCtorEq] at hq); done) | (revert hq; with_reducible intro _)) | (with_reducible first | exact True.intro | rfl | refine EntLe.row ?_ | exact LeN.ro rfl | exact LeN.rptr | assumption) | ((with_reducible first | refine WkX.chk ?_ | refine Wk.chk ?_ | refine LeL.chk ?_ | refine LeF.chk ?_ | refine Run.mk ?_); (conv => whnf)) | ((with_reducible show LeO _ _); first | refine LeO.ro ?_ | refine LeO.roCap ?_ | refine LeO.nil ?_ (fun _ => rfl)) | ((with_reducible show LeR _ _ _); first | refine LeR.own rfl rfl rfl ?_ | refine LeR.view rfl rfl rfl ?_ ?_ | refine LeR.ro ?_ | refine LeR.roCap ?_ | refine LeR.nil ?_ (fun _ => rfl)) | ((with_reducible first | show drawOK _ _ = true | show lateOK _ _ = true | show drawOK2 _ _ = true | show drawOK3 _ _ = true); kernel_rfl))
  all_goals (try omega)
  refine loopI Nat [] (fun k => [(8, .v (.int .i64 (k : Nat)))]) (fun k => [(5, .row C_att (pntTo (lookTo (sgN s) (isort ltO l) (isort ltO l).length) x a k) 45 none)]) (fun k => a ≤ k ∧ k ≤ b) (fun k => b - k) a ⟨Nat.le_refl _, by omega⟩ (Wk.chk ?_) fun k hk => ?_
  · ((conv => whnf); repeat' (first | (with_reducible first | exact fun h => h | refine ExE.row (by with_unfolding_all rfl) ?_ | refine And.intro ?_ ?_) | ((with_reducible intro hq); first | exact bne1 hq (by with_reducible assumption) | exact bne1 (by with_reducible assumption) hq | ((simp only [*, BB, cond_true, cond_false, reduceCtorEq] at hq); done) | (revert hq; with_reducible intro _)) | (with_reducible first | exact True.intro | rfl | refine EntLe.row ?_ | exact LeN.ro rfl | exact LeN.rptr | assumption) | ((with_reducible first | refine WkX.chk ?_ | refine Wk.chk ?_ | refine LeL.chk ?_ | refine LeF.chk ?_ | refine Run.mk ?_); (conv => whnf)) | ((with_reducible show LeO _ _); first | refine LeO.ro ?_ | refine LeO.roCap ?_ | refine LeO.nil ?_ (fun _ => rfl)) | ((with_reducible show LeR _ _ _); first | refine LeR.own rfl rfl rfl ?_ | refine LeR.view rfl rfl rfl ?_ ?_ | refine LeR.ro ?_ | refine LeR.roCap ?_ | refine LeR.nil ?_ (fun _ => rfl)) | ((with_reducible first | show drawOK _ _ = true | show lateOK _ _ = true | show drawOK2 _ _ = true | show drawOK3 _ _ = true); kernel_rfl)))
    all_goals first
      | rfl
      | (rw [ha]; done)
      | (rw [ha]; rfl)
      | (rw [pnt_start]; done)
      | trace_state
  obtain ⟨hk1, hk2⟩ := hk
  have e2 : ((k : Int)).toNat = k := Int.toNat_natCast _
  have hpl := pnt_len (lookTo (sgN s) (isort ltO l) (isort ltO l).length) x hk1 (by omega : k ≤ (lookTo (sgN s) (isort ltO l) (isort ltO l).length).length)
  by_cases hkb : k < b
  · have hlt : decide ((k : Int) < x.to) = true := decide_eq_true (by omega)
    have hst := pnt_step (lookTo (sgN s) (isort ltO l) (isort ltO l).length) x hk1 (by omega : k < (lookTo (sgN s) (isort ltO l) (isort ltO l).length).length)
    have hat := pnt_at (lookTo (sgN s) (isort ltO l) (isort ltO l).length) x hk1 (by omega : k < (lookTo (sgN s) (isort ltO l) (isort ltO l).length).length)
    rw [← hat] at hst
    repeat' (first | (with_reducible refine ex_of (α := Nat) (k + 1) ⟨⟨?_, ?_⟩, ?_⟩ ?_) | (with_reducible first | exact fun h => h | refine ExE.row (by with_unfolding_all rfl) ?_ | refine And.intro ?_ ?_) | ((with_reducible intro hq); first | exact bne1 hq (by with_reducible assumption) | exact bne1 (by with_reducible assumption) hq | ((simp only [*, BB, cond_true, cond_false, reduceCtorEq] at hq); done) | (revert hq; with_reducible intro _)) | (with_reducible first | exact True.intro | rfl | refine EntLe.row ?_ | exact LeN.ro rfl | exact LeN.rptr | assumption) | ((with_reducible first | refine WkX.chk ?_ | refine Wk.chk ?_ | refine LeL.chk ?_ | refine LeF.chk ?_ | refine Run.mk ?_); (conv => whnf)) | ((with_reducible show LeO _ _); first | refine LeO.ro ?_ | refine LeO.roCap ?_ | refine LeO.nil ?_ (fun _ => rfl)) | ((with_reducible show LeR _ _ _); first | refine LeR.own rfl rfl rfl ?_ | refine LeR.view rfl rfl rfl ?_ ?_ | refine LeR.ro ?_ | refine LeR.roCap ?_ | refine LeR.nil ?_ (fun _ => rfl)) | ((with_reducible first | show drawOK _ _ = true | show lateOK _ _ = true | show drawOK2 _ _ = true | show drawOK3 _ _ = true); kernel_rfl))
    all_goals first
      | omega
      | rfl
      | (apply Fits.i64 <;> omega)
      | (show k < (pntTo (lookTo (sgN s) (isort ltO l) (isort ltO l).length) x a k).length; omega)
      | (show b - (k + 1) < b - k; omega)
      | (refine Eq.trans (congrArg ((pntTo (lookTo (sgN s) (isort ltO l) (isort ltO l).length) x a k).set k) ?_) hst; first | exact setA_1 (by assumption) _ | exact setA_2 (by assumption) _ | exact setA_3 (by assumption) _ | exact setA_4 (by assumption) _ | exact setA_5 (by assumption) (by assumption) (by assumption) (by assumption) _)
      | trace_state
  have hlt : decide ((k : Int) < x.to) = false := decide_eq_false (by omega)
  have hkk : k = b := by omega
  subst hkk
  rw [hpnt] at hpc
  repeat' (first | (with_reducible refine ⟨(_, _), ⟨(.cons (.v _) (.cons (.own (by with_unfolding_all exact rfl) (by with_unfolding_all exact rfl) (by with_unfolding_all exact rfl)) .nil)), ?_⟩, ?_⟩) | (with_reducible first | exact fun h => h | refine ExE.row (by with_unfolding_all rfl) ?_ | refine And.intro ?_ ?_) | ((with_reducible intro hq); first | exact bne1 hq (by with_reducible assumption) | exact bne1 (by with_reducible assumption) hq | ((simp only [*, BB, cond_true, cond_false, reduceCtorEq] at hq); done) | (revert hq; with_reducible intro _)) | (with_reducible first | exact True.intro | rfl | refine EntLe.row ?_ | exact LeN.ro rfl | exact LeN.rptr | assumption) | ((with_reducible first | refine WkX.chk ?_ | refine Wk.chk ?_ | refine LeL.chk ?_ | refine LeF.chk ?_ | refine Run.mk ?_); (conv => whnf)) | ((with_reducible show LeO _ _); first | refine LeO.ro ?_ | refine LeO.roCap ?_ | refine LeO.nil ?_ (fun _ => rfl)) | ((with_reducible show LeR _ _ _); first | refine LeR.own rfl rfl rfl ?_ | refine LeR.view rfl rfl rfl ?_ ?_ | refine LeR.ro ?_ | refine LeR.roCap ?_ | refine LeR.nil ?_ (fun _ => rfl)) | ((with_reducible first | show drawOK _ _ = true | show lateOK _ _ = true | show drawOK2 _ _ = true | show drawOK3 _ _ = true); kernel_rfl))
  all_goals first
    | omega
    | exact hpc
    | exact ⟨hpc, by omega⟩
    | (dsimp only; omega)
    | (rw [hE, hpnt]; done)
    | (rw [hT, hpnt]; done)
    | (rw [hL, hpnt]; done)
    | trace_state
end Go.SX.Try
/- Contract of the document's Set; the law StyleSets. -/
namespace Go.SX.Try
open Go.Proofs Go.Proofs.Try Go.SX.Plain
set_option maxRecDepth 100000
set_option maxHeartbeats 0
set_option linter.unusedSimpArgs false
theorem q_rSet : fact 44 f44 := ⟨by kernel_rfl, rfl, by kernel_rfl⟩
theorem q_rwith : fact 84 f84 := ⟨by kernel_rfl, rfl, by kernel_rfl⟩
theorem con_rwith : Con prog 84 (fun ((a, x) : Atr × Spn) => [.agg (atAV a), .agg (spAV x)]) (fun (a, x) => .agg (atAV (setA a x))) (fun (_, x) => 0 ≤ x.val ∧ x.val ≤ 16777215) := by
  refine Con.of (by kernel_rfl) T_ok CdsOK.nil .nil 5 [] q_rwith.1 q_rwith.2.1 q_rwith.2.2 (fun _ => rfl) fun i hi => ?_
  obtain ⟨a, x⟩ := i
  obtain ⟨h1, h2⟩ : 0 ≤ x.val ∧ x.val ≤ 16777215 := hi
  repeat' (first | (with_reducible first | exact fun h => h | refine ExE.row (by with_unfolding_all rfl) ?_ | refine And.intro ?_ ?_) | ((with_reducible intro hq); first | exact bne1 hq (by with_reducible assumption) | exact bne1 (by with_reducible assumption) hq | ((simp only [*, BB, cond_true, cond_false, reduceCtorEq] at hq); done) | (revert hq; with_reducible intro _)) | (with_reducible first | exact True.intro | rfl | refine EntLe.row ?_ | exact LeN.ro rfl | exact LeN.rptr | assumption) | ((with_reducible first | refine WkX.chk ?_ | refine Wk.chk ?_ | refine LeL.chk ?_ | refine LeF.chk ?_ | refine Run.mk ?_); (conv => whnf)) | ((with_reducible show LeO _ _); first | refine LeO.ro ?_ | refine LeO.roCap ?_ | refine LeO.nil ?_ (fun _ => rfl)) | ((with_reducible show LeR _ _ _); first | refine LeR.own rfl rfl rfl ?_ | refine LeR.view rfl rfl rfl ?_ ?_ | refine LeR.ro ?_ | refine LeR.roCap ?_ | refine LeR.nil ?_ (fun _ => rfl)) | ((with_reducible first | show drawOK _ _ = true | show lateOK _ _ = true | show drawOK2 _ _ = true | show drawOK3 _ _ = true); kernel_rfl))
  all_goals first
    | (apply Fits.i64 <;> omega)
    | (rw [← setA_1 (x := x) (by assumption) a]; done)
    | (rw [← setA_2 (x := x) (by assumption) a]; done)
    | (rw [← setA_3 (x := x) (by assumption) a]; done)
    | (rw [← setA_4 (x := x) (by assumption) a]; done)
    | (rw [← setA_5 (x := x) (by assumption) (by assumption) (by assumption) (by assumption) a]; done)
    | trace_state
theorem con_rSet : Con prog 44 (fun ((s, l, x) : ByteArray × List Spn × Spn) => [txAV s l, .agg (spAV x)]) (fun (s, l, x) => .tup [txO (nrmT (setE0 s l x) s (pnt (looksL (sgN s) l) x)) (nrmL (setE0 s l x) (pnt (looksL (sgN s) l) x)), .v (.int .i64 (nrmE (setE0 s l x) (pnt (looksL (sgN s) l) x)))]) (fun _ => True) := by
  refine Con.of (by kernel_rfl) T_ok D_att_ok (.con con_rcheck7 (.con con_rcount (.con con_rlooks (.con con_rfits (.con con_rmade (.con con_rwith (.inl (J := []) q_rall7.1 q_rall7.2.1 q_rall7.2.2 .nil))))))) 5 [] q_rSet.1 q_rSet.2.1 q_rSet.2.2 (fun _ => rfl) fun i _ => ?_
  obtain ⟨s, l, x⟩ := i
  by_cases hc : chkN s.size l (sgN s : Nat) = 0
  case neg =>
    have k1 : (chkN s.size l (sgN s : Nat) != 0) = true := by simpa using hc
    have h0 : setE0 s l x = chkN s.size l (sgN s : Nat) := if_pos hc
    have hE := (nrmE_no (e := setE0 s l x) (A := pnt (looksL (sgN s) l) x) (by rw [h0]; exact hc)).trans h0
    have hT := nrmT_no (e := setE0 s l x) (s := s) (A := pnt (looksL (sgN s) l) x) (by rw [h0]; exact hc)
    have hL := nrmL_no (e := setE0 s l x) (A := pnt (looksL (sgN s) l) x) (by rw [h0]; exact hc)
    repeat' (first | (with_reducible refine ⟨(s, l), ⟨(.cons (.agg (.cons (.v _) (.cons (.lent _ _ _ _ _ _) .nil))) .nil), ?_⟩, ?_⟩) | (with_reducible first | exact fun h => h | refine ExE.row (by with_unfolding_all rfl) ?_ | refine And.intro ?_ ?_) | ((with_reducible intro hq); first | exact bne1 hq (by with_reducible assumption) | exact bne1 (by with_reducible assumption) hq | ((simp only [*, BB, cond_true, cond_false, reduceCtorEq] at hq); done) | (revert hq; with_reducible intro _)) | (with_reducible first | exact True.intro | rfl | refine EntLe.row ?_ | exact LeN.ro rfl | exact LeN.rptr | assumption) | ((with_reducible first | refine WkX.chk ?_ | refine Wk.chk ?_ | refine LeL.chk ?_ | refine LeF.chk ?_ | refine Run.mk ?_); (conv => whnf)) | ((with_reducible show LeO _ _); first | refine LeO.ro ?_ | refine LeO.roCap ?_ | refine LeO.nil ?_ (fun _ => rfl)) | ((with_reducible show LeR _ _ _); first | refine LeR.own rfl rfl rfl ?_ | refine LeR.view rfl rfl rfl ?_ ?_ | refine LeR.ro ?_ | refine LeR.roCap ?_ | refine LeR.nil ?_ (fun _ => rfl)) | ((with_reducible first | show drawOK _ _ = true | show lateOK _ _ = true | show drawOK2 _ _ = true | show drawOK3 _ _ = true); kernel_rfl))
    all_goals first
      | exact hE.symm
      | exact hT.symm
      | exact hL.symm
      | trace_state
  have k1 : (chkN s.size l (sgN s : Nat) != 0) = false := by rw [hc]; rfl
  have hok := OkT.of hc
  have h00 : setE0 s l x = if rightB x (sgN s : Nat) = false then 23 else 0 := if_neg (fun h => h hc)
  obtain ⟨hs, hl, hsp⟩ := id hok
  have hlen := looksL_len hsp
  have hcol := looksL_col hsp
  have hn := sgN_le s
  have heq := looksL_eq hsp
  have hda : C_att.d = zA := rfl
  cases hr : rightB x (sgN s : Nat) with
  | false =>
    have k2 : (!(rightB x (sgN s : Nat))) = true := by rw [hr]; rfl
    have h0 : setE0 s l x = 23 := by rw [h00, if_pos hr]
    have hE := (nrmE_no (e := setE0 s l x) (A := pnt (looksL (sgN s) l) x) (by rw [h0]; decide)).trans h0
    have hT := nrmT_no (e := setE0 s l x) (s := s) (A := pnt (looksL (sgN s) l) x) (by rw [h0]; decide)
    have hL := nrmL_no (e := setE0 s l x) (A := pnt (looksL (sgN s) l) x) (by rw [h0]; decide)
    repeat' (first | (with_reducible refine ⟨(s, l), ⟨(.cons (.agg (.cons (.v _) (.cons (.lent _ _ _ _ _ _) .nil))) .nil), ?_⟩, ?_⟩) | (with_reducible refine ⟨(x, _), ⟨(.cons (.agg (.cons (.v _) (.cons (.v _) (.cons (.v _) (.cons (.v _) .nil))))) (.cons (.v _) .nil)), ?_⟩, ?_⟩) | (with_reducible refine ⟨_, ⟨(.cons (.v _) .nil), ?_⟩, ?_⟩) | (with_reducible first | exact fun h => h | refine ExE.row (by with_unfolding_all rfl) ?_ | refine And.intro ?_ ?_) | ((with_reducible intro hq); first | exact bne1 hq (by with_reducible assumption) | exact bne1 (by with_reducible assumption) hq | ((simp only [*, BB, cond_true, cond_false, reduceCtorEq] at hq); done) | (revert hq; with_reducible intro _)) | (with_reducible first | exact True.intro | rfl | refine EntLe.row ?_ | exact LeN.ro rfl | exact LeN.rptr | assumption) | ((with_reducible first | refine WkX.chk ?_ | refine Wk.chk ?_ | refine LeL.chk ?_ | refine LeF.chk ?_ | refine Run.mk ?_); (conv => whnf)) | ((with_reducible show LeO _ _); first | refine LeO.ro ?_ | refine LeO.roCap ?_ | refine LeO.nil ?_ (fun _ => rfl)) | ((with_reducible show LeR _ _ _); first | refine LeR.own rfl rfl rfl ?_ | refine LeR.view rfl rfl rfl ?_ ?_ | refine LeR.ro ?_ | refine LeR.roCap ?_ | refine LeR.nil ?_ (fun _ => rfl)) | ((with_reducible first | show drawOK _ _ = true | show lateOK _ _ = true | show drawOK2 _ _ = true | show drawOK3 _ _ = true); kernel_rfl))
    all_goals first
      | exact hE.symm
      | exact hT.symm
      | exact hL.symm
      | (dsimp only; omega)
      | omega
      | trace_state
  | true =>
  have k2 : (!(rightB x (sgN s : Nat))) = false := by rw [hr]; rfl
  repeat' (first | (with_reducible refine ⟨(s, l), ⟨(.cons (.agg (.cons (.v _) (.cons (.lent _ _ _ _ _ _) .nil))) .nil), ?_⟩, ?_⟩) | (with_reducible refine ⟨(x, _), ⟨(.cons (.agg (.cons (.v _) (.cons (.v _) (.cons (.v _) (.cons (.v _) .nil))))) (.cons (.v _) .nil)), ?_⟩, ?_⟩) | (with_reducible refine ⟨_, ⟨(.cons (.v _) .nil), ?_⟩, ?_⟩) | (with_reducible first | exact fun h => h | refine ExE.row (by with_unfolding_all rfl) ?_ | refine And.intro ?_ ?_) | ((with_reducible intro hq); first | exact bne1 hq (by with_reducible assumption) | exact bne1 (by with_reducible assumption) hq | ((simp only [*, BB, cond_true, cond_false, reduceCtorEq] at hq); done) | (revert hq; with_reducible intro _)) | (with_reducible first | exact True.intro | rfl | refine EntLe.row ?_ | exact LeN.ro rfl | exact LeN.rptr | assumption) | ((with_reducible first | refine WkX.chk ?_ | refine Wk.chk ?_ | refine LeL.chk ?_ | refine LeF.chk ?_ | refine Run.mk ?_); (conv => whnf)) | ((with_reducible show LeO _ _); first | refine LeO.ro ?_ | refine LeO.roCap ?_ | refine LeO.nil ?_ (fun _ => rfl)) | ((with_reducible show LeR _ _ _); first | refine LeR.own rfl rfl rfl ?_ | refine LeR.view rfl rfl rfl ?_ ?_ | refine LeR.ro ?_ | refine LeR.roCap ?_ | refine LeR.nil ?_ (fun _ => rfl)) | ((with_reducible first | show drawOK _ _ = true | show lateOK _ _ = true | show drawOK2 _ _ = true | show drawOK3 _ _ = true); kernel_rfl))
  all_goals (try (first | omega | (dsimp only; omega) | rfl))
  refine loopI Nat [] (fun i => [(5, .v (.int .i64 (i : Nat))), (4, .own 5)]) (fun i => [(5, .row C_att ((List.range i).map fun k => (refF k l).1) 45 none)]) (fun i => i ≤ sgN s) (fun i => sgN s - i) 0 (Nat.zero_le _) (Wk.chk ?_) fun i hi => ?_
  · ((conv => whnf); repeat' (first | (with_reducible first | exact fun h => h | refine ExE.row (by with_unfolding_all rfl) ?_ | refine And.intro ?_ ?_) | ((with_reducible intro hq); first | exact bne1 hq (by with_reducible assumption) | exact bne1 (by with_reducible assumption) hq | ((simp only [*, BB, cond_true, cond_false, reduceCtorEq] at hq); done) | (revert hq; with_reducible intro _)) | (with_reducible first | exact True.intro | rfl | refine EntLe.row ?_ | exact LeN.ro rfl | exact LeN.rptr | assumption) | ((with_reducible first | refine WkX.chk ?_ | refine Wk.chk ?_ | refine LeL.chk ?_ | refine LeF.chk ?_ | refine Run.mk ?_); (conv => whnf)) | ((with_reducible show LeO _ _); first | refine LeO.ro ?_ | refine LeO.roCap ?_ | refine LeO.nil ?_ (fun _ => rfl)) | ((with_reducible show LeR _ _ _); first | refine LeR.own rfl rfl rfl ?_ | refine LeR.view rfl rfl rfl ?_ ?_ | refine LeR.ro ?_ | refine LeR.roCap ?_ | refine LeR.nil ?_ (fun _ => rfl)) | ((with_reducible first | show drawOK _ _ = true | show lateOK _ _ = true | show drawOK2 _ _ = true | show drawOK3 _ _ = true); kernel_rfl)))
    all_goals first
      | rfl
      | trace_state
  have hi : i ≤ sgN s := hi
  by_cases hil : i < sgN s
  · have hlt : decide ((i : Int) < (sgN s : Int)) = true := decide_eq_true (by omega)
    repeat' (first | (with_reducible refine ⟨(s, l, i), ⟨(.cons (.agg (.cons (.v _) (.cons (.lent _ _ _ _ _ _) .nil))) (.cons (.v _) .nil)), ?_⟩, ?_⟩) | (with_reducible refine ex_of (α := Nat) (i + 1) ⟨?_, ?_⟩ ?_) | (with_reducible first | exact fun h => h | refine ExE.row (by with_unfolding_all rfl) ?_ | refine And.intro ?_ ?_) | ((with_reducible intro hq); first | exact bne1 hq (by with_reducible assumption) | exact bne1 (by with_reducible assumption) hq | ((simp only [*, BB, cond_true, cond_false, reduceCtorEq] at hq); done) | (revert hq; with_reducible intro _)) | (with_reducible first | exact True.intro | rfl | refine EntLe.row ?_ | exact LeN.ro rfl | exact LeN.rptr | assumption) | ((with_reducible first | refine WkX.chk ?_ | refine Wk.chk ?_ | refine LeL.chk ?_ | refine LeF.chk ?_ | refine Run.mk ?_); (conv => whnf)) | ((with_reducible show LeO _ _); first | refine LeO.ro ?_ | refine LeO.roCap ?_ | refine LeO.nil ?_ (fun _ => rfl)) | ((with_reducible show LeR _ _ _); first | refine LeR.own rfl rfl rfl ?_ | refine LeR.view rfl rfl rfl ?_ ?_ | refine LeR.ro ?_ | refine LeR.roCap ?_ | refine LeR.nil ?_ (fun _ => rfl)) | ((with_reducible first | show drawOK _ _ = true | show lateOK _ _ = true | show drawOK2 _ _ = true | show drawOK3 _ _ = true); kernel_rfl))
    all_goals first
      | omega
      | rfl
      | exact hok
      | (apply Fits.i64 <;> omega)
      | (show sgN s - (i + 1) < sgN s - i; omega)
      | (show (((List.range i).map fun k => (refF k l).1).length + 1) * 16 ≤ 140737488355328; simp; omega)
      | (rw [List.range_succ, List.map_append]; rfl)
      | trace_state
  have hlt : decide ((i : Int) < (sgN s : Int)) = false := decide_eq_false (by omega)
  have hii : i = sgN s := by omega
  subst hii
  have h0 : setE0 s l x = 0 := by rw [h00, if_neg (by rw [hr]; decide)]
  have hE := nrmE_yes (A := pnt (looksL (sgN s) l) x) h0
  have hT := nrmT_yes (s := s) (A := pnt (looksL (sgN s) l) x) h0
  have hL := nrmL_yes (A := pnt (looksL (sgN s) l) x) h0
  have hxr := right_bd hr
  have hpc : ColOK (pnt (looksL (sgN s) l) x) := pnt_col hcol hr
  have hlen : ((List.range (sgN s)).map fun k => (refF k l).1).length = sgN s := by rw [← heq]; exact hlen
  obtain ⟨a, ha⟩ := Int.eq_ofNat_of_zero_le hxr.1.1
  obtain ⟨b, hb⟩ := Int.eq_ofNat_of_zero_le (show 0 ≤ x.to by omega)
  have hab : a < b ∧ b ≤ sgN s := by omega
  have hpnt : pnt (looksL (sgN s) l) x = pntTo ((List.range (sgN s)).map fun k => (refF k l).1) x a b := by unfold pnt; rw [ha, hb, heq]; rfl
  repeat' (first | (with_reducible first | exact fun h => h | refine ExE.row (by with_unfolding_all rfl) ?_ | refine And.intro ?_ ?_) | ((with_reducible intro hq); first | exact bne1 hq (by with_reducible assumption) | exact bne1 (by with_reducible assumption) hq | ((simp only [*, BB, cond_true, cond_false, reduceCtorEq] at hq); done) | (revert hq; with_reducible intro _)) | (with_reducible first | exact True.intro | rfl | refine EntLe.row ?_ | exact LeN.ro rfl | exact LeN.rptr | assumption) | ((with_reducible first | refine WkX.chk ?_ | refine Wk.chk ?_ | refine LeL.chk ?_ | refine LeF.chk ?_ | refine Run.mk ?_); (conv => whnf)) | ((with_reducible show LeO _ _); first | refine LeO.ro ?_ | refine LeO.roCap ?_ | refine LeO.nil ?_ (fun _ => rfl)) | ((with_reducible show LeR _ _ _); first | refine LeR.own rfl rfl rfl ?_ | refine LeR.view rfl rfl rfl ?_ ?_ | refine LeR.ro ?_ | refine LeR.roCap ?_ | refine LeR.nil ?_ (fun _ => rfl)) | ((with_reducible first | show drawOK _ _ = true | show lateOK _ _ = true | show drawOK2 _ _ = true | show drawOK3 _ _ = true); kernel_rfl))
  all_goals (try omega)
  refine loopI Nat [] (fun k => [(8, .v (.int .i64 (k : Nat)))]) (fun k => [(5, .row C_att (pntTo ((List.range (sgN s)).map fun k => (refF k l).1) x a k) 45 none)]) (fun k => a ≤ k ∧ k ≤ b) (fun k => b - k) a ⟨Nat.le_refl _, by omega⟩ (Wk.chk ?_) fun k hk => ?_
  · ((conv => whnf); repeat' (first | (with_reducible first | exact fun h => h | refine ExE.row (by with_unfolding_all rfl) ?_ | refine And.intro ?_ ?_) | ((with_reducible intro hq); first | exact bne1 hq (by with_reducible assumption) | exact bne1 (by with_reducible assumption) hq | ((simp only [*, BB, cond_true, cond_false, reduceCtorEq] at hq); done) | (revert hq; with_reducible intro _)) | (with_reducible first | exact True.intro | rfl | refine EntLe.row ?_ | exact LeN.ro rfl | exact LeN.rptr | assumption) | ((with_reducible first | refine WkX.chk ?_ | refine Wk.chk ?_ | refine LeL.chk ?_ | refine LeF.chk ?_ | refine Run.mk ?_); (conv => whnf)) | ((with_reducible show LeO _ _); first | refine LeO.ro ?_ | refine LeO.roCap ?_ | refine LeO.nil ?_ (fun _ => rfl)) | ((with_reducible show LeR _ _ _); first | refine LeR.own rfl rfl rfl ?_ | refine LeR.view rfl rfl rfl ?_ ?_ | refine LeR.ro ?_ | refine LeR.roCap ?_ | refine LeR.nil ?_ (fun _ => rfl)) | ((with_reducible first | show drawOK _ _ = true | show lateOK _ _ = true | show drawOK2 _ _ = true | show drawOK3 _ _ = true); kernel_rfl)))
    all_goals first
      | rfl
      | (rw [ha]; done)
      | (rw [ha]; rfl)
      | (rw [pnt_start]; done)
      | trace_state
  obtain ⟨hk1, hk2⟩ := hk
  have e2 : ((k : Int)).toNat = k := Int.toNat_natCast _
  have hpl := pnt_len ((List.range (sgN s)).map fun k => (refF k l).1) x hk1 (by omega : k ≤ ((List.range (sgN s)).map fun k => (refF k l).1).length)
  by_cases hkb : k < b
  · have hlt : decide ((k : Int) < x.to) = true := decide_eq_true (by omega)
    have hst := pnt_step ((List.range (sgN s)).map fun k => (refF k l).1) x hk1 (by omega : k < ((List.range (sgN s)).map fun k => (refF k l).1).length)
    have hat := pnt_at ((List.range (sgN s)).map fun k => (refF k l).1) x hk1 (by omega : k < ((List.range (sgN s)).map fun k => (refF k l).1).length)
    rw [← hat] at hst
    have hgk : (pntTo ((List.range (sgN s)).map fun k => (refF k l).1) x a k).getD ((k : Nat) : Int).toNat C_att.d = (pntTo ((List.range (sgN s)).map fun k => (refF k l).1) x a k).getD k zA := by rw [e2, hda]
    repeat' (first | (with_reducible refine ⟨(_, x), ⟨(.cons (.agg (.cons (.sb _) (.cons (.sb _) (.cons (.sb _) (.cons (.sb _) (.cons (.v _) .nil)))))) (.cons (.agg (.cons (.v _) (.cons (.v _) (.cons (.v _) (.cons (.v _) .nil))))) .nil)), ?_⟩, ?_⟩) | (with_reducible refine ex_of (α := Nat) (k + 1) ⟨⟨?_, ?_⟩, ?_⟩ ?_) | (with_reducible first | exact fun h => h | refine ExE.row (by with_unfolding_all rfl) ?_ | refine And.intro ?_ ?_) | ((with_reducible intro hq); first | exact bne1 hq (by with_reducible assumption) | exact bne1 (by with_reducible assumption) hq | ((simp only [*, BB, cond_true, cond_false, reduceCtorEq] at hq); done) | (revert hq; with_reducible intro _)) | (with_reducible first | exact True.intro | rfl | refine EntLe.row ?_ | exact LeN.ro rfl | exact LeN.rptr | assumption) | ((with_reducible first | refine WkX.chk ?_ | refine Wk.chk ?_ | refine LeL.chk ?_ | refine LeF.chk ?_ | refine Run.mk ?_); (conv => whnf)) | ((with_reducible show LeO _ _); first | refine LeO.ro ?_ | refine LeO.roCap ?_ | refine LeO.nil ?_ (fun _ => rfl)) | ((with_reducible show LeR _ _ _); first | refine LeR.own rfl rfl rfl ?_ | refine LeR.view rfl rfl rfl ?_ ?_ | refine LeR.ro ?_ | refine LeR.roCap ?_ | refine LeR.nil ?_ (fun _ => rfl)) | ((with_reducible first | show drawOK _ _ = true | show lateOK _ _ = true | show drawOK2 _ _ = true | show drawOK3 _ _ = true); kernel_rfl))
    all_goals first
      | omega
      | rfl
      | (apply Fits.i64 <;> omega)
      | (show k < (pntTo ((List.range (sgN s)).map fun k => (refF k l).1) x a k).length; omega)
      | (show b - (k + 1) < b - k; omega)
      | exact hxr.2.2
      | (rw [hgk]; exact hst)
      | (refine Eq.trans (congrArg ((pntTo ((List.range (sgN s)).map fun k => (refF k l).1) x a k).set k) ?_) hst; first | exact setA_1 (by assumption) _ | exact setA_2 (by assumption) _ | exact setA_3 (by assumption) _ | exact setA_4 (by assumption) _ | exact setA_5 (by assumption) (by assumption) (by assumption) (by assumption) _)
      | trace_state
  have hlt : decide ((k : Int) < x.to) = false := decide_eq_false (by omega)
  have hkk : k = b := by omega
  subst hkk
  rw [hpnt] at hpc
  repeat' (first | (with_reducible refine ⟨(_, _), ⟨(.cons (.v _) (.cons (.own (by with_unfolding_all exact rfl) (by with_unfolding_all exact rfl) (by with_unfolding_all exact rfl)) .nil)), ?_⟩, ?_⟩) | (with_reducible first | exact fun h => h | refine ExE.row (by with_unfolding_all rfl) ?_ | refine And.intro ?_ ?_) | ((with_reducible intro hq); first | exact bne1 hq (by with_reducible assumption) | exact bne1 (by with_reducible assumption) hq | ((simp only [*, BB, cond_true, cond_false, reduceCtorEq] at hq); done) | (revert hq; with_reducible intro _)) | (with_reducible first | exact True.intro | rfl | refine EntLe.row ?_ | exact LeN.ro rfl | exact LeN.rptr | assumption) | ((with_reducible first | refine WkX.chk ?_ | refine Wk.chk ?_ | refine LeL.chk ?_ | refine LeF.chk ?_ | refine Run.mk ?_); (conv => whnf)) | ((with_reducible show LeO _ _); first | refine LeO.ro ?_ | refine LeO.roCap ?_ | refine LeO.nil ?_ (fun _ => rfl)) | ((with_reducible show LeR _ _ _); first | refine LeR.own rfl rfl rfl ?_ | refine LeR.view rfl rfl rfl ?_ ?_ | refine LeR.ro ?_ | refine LeR.roCap ?_ | refine LeR.nil ?_ (fun _ => rfl)) | ((with_reducible first | show drawOK _ _ = true | show lateOK _ _ = true | show drawOK2 _ _ = true | show drawOK3 _ _ = true); kernel_rfl))
  all_goals first
    | omega
    | exact hpc
    | exact ⟨hpc, by omega⟩
    | (dsimp only; omega)
    | (rw [hE, hpnt]; done)
    | (rw [hT, hpnt]; done)
    | (rw [hL, hpnt]; done)
    | trace_state
end Go.SX.Try
/- The law StyleSets: true, whatever the input. -/
namespace Go.SX.Try
open Go.Proofs Go.Proofs.Try Go.SX.Plain
set_option maxRecDepth 100000
set_option maxHeartbeats 0
set_option linter.unusedSimpArgs false
theorem q_styleSets : fact 10 f10 := ⟨by kernel_rfl, rfl, by kernel_rfl⟩
theorem con_styleSets : Con prog 10 (fun ((s, l, x) : ByteArray × List Spn × Spn) => [txAV s l, .agg (spAV x)]) (fun _ => .v (.bool true)) (fun (_, l, _) => l.length * 32 ≤ 140737488351232) := by
  refine Con.of (by kernel_rfl) T_ok D_spnP_ok (.inl (J := []) q_lend.1 q_lend.2.1 q_lend.2.2 (.inl (J := []) q_back.1 q_back.2.1 q_back.2.2 (.con con_sSet (.con con_rSet (.con con_sameSpans (.con con_sameText (.con con_head7 .nil))))))) 5 [] q_styleSets.1 q_styleSets.2.1 q_styleSets.2.2 (fun _ => rfl) fun i hi => ?_
  obtain ⟨s, l, x⟩ := i
  have hl : l.length * 32 ≤ 140737488351232 := hi
  have hln : (l ++ [mrk]).length = l.length + 1 := by simp
  have e3 : ((l.length : Int) + 3).toNat = l.length + 3 := by omega
  have hvl : (((l ++ [mrk]).drop 0).take l.length) = l := by rw [List.drop_zero]; exact snoc_take l mrk
  have hcl : (nrmL (setE0 s l x) (pnt (looksL (sgN s) l) x)).length ≤ 256 := nrmL_len
  have hll : decide (l = l) = true := decide_eq_true rfl
  have hE4 : (decide (l = l) && spEqB ((l ++ [mrk]).getD (((0 : Nat) : Int) + (l.length : Int)).toNat C_spnP.d) mrk) = true := by
    rw [hll, show (((0 : Nat) : Int) + (l.length : Int)).toNat = l.length by omega, snoc_at, spEqB_eq]
    simp
  have hTT : (decide (nrmT (setE0 s l x) s (pnt (looksL (sgN s) l) x) = nrmT (setE0 s l x) s (pnt (looksL (sgN s) l) x)) && decide (nrmL (setE0 s l x) (pnt (looksL (sgN s) l) x) = nrmL (setE0 s l x) (pnt (looksL (sgN s) l) x))) = true := by simp
  have hEE : (nrmE (setE0 s l x) (pnt (looksL (sgN s) l) x) == nrmE (setE0 s l x) (pnt (looksL (sgN s) l) x)) = true := by simp
  repeat' (first | (with_reducible refine ex_of (α := List Spn) l ⟨rfl, rfl, fun _ => rfl⟩ ?_) | (with_reducible refine ⟨(s, l, x), ⟨.cons (.agg (.cons (.v _) (.cons (le_view (by with_unfolding_all exact rfl) (by with_unfolding_all exact rfl) (by with_unfolding_all exact rfl) ?_ ?_) .nil))) (.cons (.agg (.cons (.v _) (.cons (.v _) (.cons (.v _) (.cons (.v _) .nil))))) .nil), ?_⟩, ?_⟩) | (with_reducible refine ⟨(s, l, x), ⟨(.cons (.agg (.cons (.v _) (.cons (.lent _ _ _ _ _ _) .nil))) (.cons (.agg (.cons (.v _) (.cons (.v _) (.cons (.v _) (.cons (.v _) .nil))))) .nil)), ?_⟩, ?_⟩) | (with_reducible refine ⟨(l, l), ⟨.cons (le_view (by with_unfolding_all exact rfl) (by with_unfolding_all exact rfl) (by with_unfolding_all exact rfl) ?_ ?_) (.cons (.lent _ _ _ _ _ _) .nil), ?_⟩, ?_⟩) | (with_reducible refine ⟨(_, _, _, _), ⟨(.cons (.agg (.cons (.v _) (.cons (.lent _ _ _ _ _ _) .nil))) (.cons (.agg (.cons (.v _) (.cons (.lent _ _ _ _ _ _) .nil))) .nil)), ?_⟩, ?_⟩) | (with_reducible refine ⟨(), ⟨.nil, ?_⟩, ?_⟩) | (with_reducible first | exact fun h => h | refine ExE.row (by with_unfolding_all rfl) ?_ | refine And.intro ?_ ?_) | ((with_reducible intro hq); first | exact bne1 hq (by with_reducible assumption) | exact bne1 (by with_reducible assumption) hq | ((simp only [*, BB, cond_true, cond_false, reduceCtorEq] at hq); done) | (revert hq; with_reducible intro _)) | (with_reducible first | exact True.intro | rfl | refine EntLe.row ?_ | exact LeN.ro rfl | exact LeN.rptr | assumption) | ((with_reducible first | refine WkX.chk ?_ | refine Wk.chk ?_ | refine LeL.chk ?_ | refine LeF.chk ?_ | refine Run.mk ?_); (conv => whnf)) | ((with_reducible show LeO _ _); first | refine LeO.ro ?_ | refine LeO.roCap ?_ | refine LeO.nil ?_ (fun _ => rfl)) | ((with_reducible show LeR _ _ _); first | refine LeR.own rfl rfl rfl ?_ | refine LeR.view rfl rfl rfl ?_ ?_ | refine LeR.ro ?_ | refine LeR.roCap ?_ | refine LeR.nil ?_ (fun _ => rfl)) | ((with_reducible first | show drawOK _ _ = true | show lateOK _ _ = true | show drawOK2 _ _ = true | show drawOK3 _ _ = true); kernel_rfl))
  all_goals (try first | omega | (apply Fits.i64 <;> omega) | exact hvl | (dsimp only; omega) | (simp only [List.length_append, List.length_cons, List.length_nil, List.length_replicate, e3]; omega) | rfl)
  refine loopI Nat [] (fun i => [(7, .v (.int .i64 (i : Nat))), (6, .sb true)]) (fun i => [(4, .row C_spnP (bkTo ovr (l ++ [mrk]) i) 71 (some ((l.length : Int) + 3).toNat))]) (fun i => i ≤ l.length + 1) (fun i => l.length + 1 - i) 0 (Nat.zero_le _) (Wk.chk ?_) fun i hi => ?_
  · ((conv => whnf); repeat' (first | (with_reducible first | exact fun h => h | refine ExE.row (by with_unfolding_all rfl) ?_ | refine And.intro ?_ ?_) | ((with_reducible intro hq); first | exact bne1 hq (by with_reducible assumption) | exact bne1 (by with_reducible assumption) hq | ((simp only [*, BB, cond_true, cond_false, reduceCtorEq] at hq); done) | (revert hq; with_reducible intro _)) | (with_reducible first | exact True.intro | rfl | refine EntLe.row ?_ | exact LeN.ro rfl | exact LeN.rptr | assumption) | ((with_reducible first | refine WkX.chk ?_ | refine Wk.chk ?_ | refine LeL.chk ?_ | refine LeF.chk ?_ | refine Run.mk ?_); (conv => whnf)) | ((with_reducible show LeO _ _); first | refine LeO.ro ?_ | refine LeO.roCap ?_ | refine LeO.nil ?_ (fun _ => rfl)) | ((with_reducible show LeR _ _ _); first | refine LeR.own rfl rfl rfl ?_ | refine LeR.view rfl rfl rfl ?_ ?_ | refine LeR.ro ?_ | refine LeR.roCap ?_ | refine LeR.nil ?_ (fun _ => rfl)) | ((with_reducible first | show drawOK _ _ = true | show lateOK _ _ = true | show drawOK2 _ _ = true | show drawOK3 _ _ = true); kernel_rfl)))
    all_goals first
      | rfl
      | exact hE4
      | (rw [bk_zero]; rfl)
      | trace_state
  have hi : i ≤ l.length + 1 := hi
  have hbl := bk_len ovr (R := l ++ [mrk]) (i := i) (by omega)
  by_cases hil : i < l.length + 1
  · have hlt : decide ((i : Int) < ((((l.length : Int) + 1).toNat : Nat) : Int)) = true := decide_eq_true (by omega)
    have hst := bk_step ovr (R := l ++ [mrk]) (i := i) (by omega)
    have hst' : (bkTo ovr (l ++ [mrk]) i).set (((0 : Nat) : Int) + (i : Int)).toNat ovr = bkTo ovr (l ++ [mrk]) (i + 1) := by rw [show (((0 : Nat) : Int) + (i : Int)).toNat = i by omega]; exact hst
    repeat' (first | (with_reducible refine ex_of (α := Nat) (i + 1) ⟨?_, ?_⟩ ?_) | (with_reducible first | exact fun h => h | refine ExE.row (by with_unfolding_all rfl) ?_ | refine And.intro ?_ ?_) | ((with_reducible intro hq); first | exact bne1 hq (by with_reducible assumption) | exact bne1 (by with_reducible assumption) hq | ((simp only [*, BB, cond_true, cond_false, reduceCtorEq] at hq); done) | (revert hq; with_reducible intro _)) | (with_reducible first | exact True.intro | rfl | refine EntLe.row ?_ | exact LeN.ro rfl | exact LeN.rptr | assumption) | ((with_reducible first | refine WkX.chk ?_ | refine Wk.chk ?_ | refine LeL.chk ?_ | refine LeF.chk ?_ | refine Run.mk ?_); (conv => whnf)) | ((with_reducible show LeO _ _); first | refine LeO.ro ?_ | refine LeO.roCap ?_ | refine LeO.nil ?_ (fun _ => rfl)) | ((with_reducible show LeR _ _ _); first | refine LeR.own rfl rfl rfl ?_ | refine LeR.view rfl rfl rfl ?_ ?_ | refine LeR.ro ?_ | refine LeR.roCap ?_ | refine LeR.nil ?_ (fun _ => rfl)) | ((with_reducible first | show drawOK _ _ = true | show lateOK _ _ = true | show drawOK2 _ _ = true | show drawOK3 _ _ = true); kernel_rfl))
    all_goals first
      | omega
      | (apply Fits.i64 <;> omega)
      | (dsimp only; omega)
      | (with_reducible rfl)
      | (dsimp only [C_spn]; done)
      | exact hst'
      | trace_state
  have hlt : decide ((i : Int) < ((((l.length : Int) + 1).toNat : Nat) : Int)) = false := decide_eq_false (by omega)
  repeat' (first | (with_reducible refine ex_of (α := List Spn) l ⟨rfl, rfl, fun _ => rfl⟩ ?_) | (with_reducible refine ⟨(s, l, x), ⟨.cons (.agg (.cons (.v _) (.cons (le_view (by with_unfolding_all exact rfl) (by with_unfolding_all exact rfl) (by with_unfolding_all exact rfl) ?_ ?_) .nil))) (.cons (.agg (.cons (.v _) (.cons (.v _) (.cons (.v _) (.cons (.v _) .nil))))) .nil), ?_⟩, ?_⟩) | (with_reducible refine ⟨(s, l, x), ⟨(.cons (.agg (.cons (.v _) (.cons (.lent _ _ _ _ _ _) .nil))) (.cons (.agg (.cons (.v _) (.cons (.v _) (.cons (.v _) (.cons (.v _) .nil))))) .nil)), ?_⟩, ?_⟩) | (with_reducible refine ⟨(l, l), ⟨.cons (le_view (by with_unfolding_all exact rfl) (by with_unfolding_all exact rfl) (by with_unfolding_all exact rfl) ?_ ?_) (.cons (.lent _ _ _ _ _ _) .nil), ?_⟩, ?_⟩) | (with_reducible refine ⟨(_, _, _, _), ⟨(.cons (.agg (.cons (.v _) (.cons (.lent _ _ _ _ _ _) .nil))) (.cons (.agg (.cons (.v _) (.cons (.lent _ _ _ _ _ _) .nil))) .nil)), ?_⟩, ?_⟩) | (with_reducible refine ⟨(), ⟨.nil, ?_⟩, ?_⟩) | (with_reducible first | exact fun h => h | refine ExE.row (by with_unfolding_all rfl) ?_ | refine And.intro ?_ ?_) | ((with_reducible intro hq); first | exact bne1 hq (by with_reducible assumption) | exact bne1 (by with_reducible assumption) hq | ((simp only [*, BB, cond_true, cond_false, reduceCtorEq] at hq); done) | (revert hq; with_reducible intro _)) | (with_reducible first | exact True.intro | rfl | refine EntLe.row ?_ | exact LeN.ro rfl | exact LeN.rptr | assumption) | ((with_reducible first | refine WkX.chk ?_ | refine Wk.chk ?_ | refine LeL.chk ?_ | refine LeF.chk ?_ | refine Run.mk ?_); (conv => whnf)) | ((with_reducible show LeO _ _); first | refine LeO.ro ?_ | refine LeO.roCap ?_ | refine LeO.nil ?_ (fun _ => rfl)) | ((with_reducible show LeR _ _ _); first | refine LeR.own rfl rfl rfl ?_ | refine LeR.view rfl rfl rfl ?_ ?_ | refine LeR.ro ?_ | refine LeR.roCap ?_ | refine LeR.nil ?_ (fun _ => rfl)) | ((with_reducible first | show drawOK _ _ = true | show lateOK _ _ = true | show drawOK2 _ _ = true | show drawOK3 _ _ = true); kernel_rfl))
  all_goals first
    | omega
    | exact hTT
    | exact hEE
    | (dsimp only; omega)
    | rfl
    | (show (0 : Nat) ≤ 9000000000000000000; decide)
    | (rename_i hbad; rw [hTT, hEE] at hbad; cases hbad; done)
    | (simp only [*, Bool.and_true, Bool.true_and]; done)
    | (simp [hTT, hEE]; done)
    | trace_state
end Go.SX.Try
