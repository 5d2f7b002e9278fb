/- A verified symbolic executor for Go code in the model, contracts and plain laws that the proofs lean on, part 8. -/
import Derived.Test.YtkbeigcmdlhdbaaBY7
set_option linter.unusedVariables false
set_option linter.unusedSimpArgs false
/- Contracts of Look of both, of Alike. -/
namespace Go.SX.Try
open Go.Proofs Go.Proofs.Try Go.SX.Plain
set_option maxRecDepth 100000
set_option maxHeartbeats 0
set_option linter.unusedSimpArgs false
theorem q_slook : fact 31 f31 := ⟨by kernel_rfl, rfl, by kernel_rfl⟩
theorem q_rlook : fact 32 f32 := ⟨by kernel_rfl, rfl, by kernel_rfl⟩
theorem q_alike : fact 38 f38 := ⟨by kernel_rfl, rfl, by kernel_rfl⟩
def lookE (s : ByteArray) (l : List Spn) (k : Int) : Int := if chkN s.size l (sgN s : Nat) ≠ 0 then chkN s.size l (sgN s : Nat) else if k < 0 ∨ (sgN s : Int) ≤ k then 1 else 0
def lookV (s : ByteArray) (l : List Spn) (k : Int) : Atr := if lookE s l k = 0 then (looksL (sgN s) l).getD k.toNat zA else zA
theorem con_slook : Con prog 31 (fun ((s, l, k) : ByteArray × List Spn × Int) => [txAV s l, .v (.int .i64 k)]) (fun (s, l, k) => .tup [.agg (atAV (lookV s l k)), .v (.int .i64 (lookE s l k))]) (fun _ => True) := by
  refine Con.of (by kernel_rfl) T_ok CdsOK.nil (.con con_scheck (.con con_slooks .nil)) 5 [] q_slook.1 q_slook.2.1 q_slook.2.2 (fun _ => rfl) fun i _ => ?_
  obtain ⟨s, l, k⟩ := i
  by_cases h1 : chkN s.size l (sgN s : Nat) = 0
  case neg =>
    have k1 : (chkN s.size l (sgN s : Nat) != 0) = true := by simpa using h1
    have hE : lookE s l k = chkN s.size l (sgN s : Nat) := if_pos h1
    have hV : lookV s l k = zA := if_neg (by rw [hE]; exact h1)
    repeat' (first | (with_reducible refine ⟨(s, l), ⟨(.cons (.agg (.cons (.v _) (.cons (.lent _ _ _ _ _ _) .nil))) .nil), ?_⟩, ?_⟩) | (with_reducible first | exact fun h => h | refine ExE.row (by with_unfolding_all rfl) ?_ | refine And.intro ?_ ?_) | ((with_reducible intro hq); first | exact bne1 hq (by with_reducible assumption) | exact bne1 (by with_reducible assumption) hq | ((simp only [*, BB, cond_true, cond_false, reduceCtorEq] at hq); done) | (revert hq; with_reducible intro _)) | (with_reducible first | exact True.intro | rfl | refine EntLe.row ?_ | exact LeN.ro rfl | exact LeN.rptr | assumption) | ((with_reducible first | refine WkX.chk ?_ | refine Wk.chk ?_ | refine LeL.chk ?_ | refine LeF.chk ?_ | refine Run.mk ?_); (conv => whnf)) | ((with_reducible show LeO _ _); first | refine LeO.ro ?_ | refine LeO.roCap ?_ | refine LeO.nil ?_ (fun _ => rfl)) | ((with_reducible show LeR _ _ _); first | refine LeR.own rfl rfl rfl ?_ | refine LeR.view rfl rfl rfl ?_ ?_ | refine LeR.ro ?_ | refine LeR.roCap ?_ | refine LeR.nil ?_ (fun _ => rfl)) | ((with_reducible first | show drawOK _ _ = true | show lateOK _ _ = true | show drawOK2 _ _ = true | show drawOK3 _ _ = true); kernel_rfl))
    all_goals first
      | exact hE.symm
      | (rw [hV]; done)
      | (rw [hV]; rfl)
      | trace_state
  have k1 : (chkN s.size l (sgN s : Nat) != 0) = false := by rw [h1]; rfl
  have hok := OkT.of h1
  have hlen := looksL_len hok.spans
  have hn := sgN_le s
  have hs := hok.size
  have hE0 : lookE s l k = if k < 0 ∨ (sgN s : Int) ≤ k then 1 else 0 := if_neg (fun h => h h1)
  by_cases hneg : k < 0
  · have hE : lookE s l k = 1 := by rw [hE0, if_pos (.inl hneg)]
    have hV : lookV s l k = zA := if_neg (by rw [hE]; decide)
    have kn : decide (k < 0) = true := decide_eq_true hneg
    have kn' : (!decide (k < 0)) = false := by rw [kn]; rfl
    clear hneg
    have ko : (decide (k < 0) || decide (((looksL (sgN s) l).length : Int) ≤ k)) = true := by rw [kn]; rfl
    repeat' (first | (with_reducible refine ⟨(s, l), ⟨(.cons (.agg (.cons (.v _) (.cons (.lent _ _ _ _ _ _) .nil))) .nil), ?_⟩, ?_⟩) | (with_reducible first | exact fun h => h | refine ExE.row (by with_unfolding_all rfl) ?_ | refine And.intro ?_ ?_) | ((with_reducible intro hq); first | exact bne1 hq (by with_reducible assumption) | exact bne1 (by with_reducible assumption) hq | ((simp only [*, BB, cond_true, cond_false, reduceCtorEq] at hq); done) | (revert hq; with_reducible intro _)) | (with_reducible first | exact True.intro | rfl | refine EntLe.row ?_ | exact LeN.ro rfl | exact LeN.rptr | assumption) | ((with_reducible first | refine WkX.chk ?_ | refine Wk.chk ?_ | refine LeL.chk ?_ | refine LeF.chk ?_ | refine Run.mk ?_); (conv => whnf)) | ((with_reducible show LeO _ _); first | refine LeO.ro ?_ | refine LeO.roCap ?_ | refine LeO.nil ?_ (fun _ => rfl)) | ((with_reducible show LeR _ _ _); first | refine LeR.own rfl rfl rfl ?_ | refine LeR.view rfl rfl rfl ?_ ?_ | refine LeR.ro ?_ | refine LeR.roCap ?_ | refine LeR.nil ?_ (fun _ => rfl)) | ((with_reducible first | show drawOK _ _ = true | show lateOK _ _ = true | show drawOK2 _ _ = true | show drawOK3 _ _ = true); kernel_rfl))
    all_goals first
      | exact hok
      | exact hE.symm
      | (rw [hV]; done)
      | (rw [hV]; rfl)
      | trace_state
  have kn : decide (k < 0) = false := decide_eq_false hneg
  have kn' : (!decide (k < 0)) = true := by rw [kn]; rfl
  by_cases hge : (sgN s : Int) ≤ k
  · have hE : lookE s l k = 1 := by rw [hE0, if_pos (.inr hge)]
    have hV : lookV s l k = zA := if_neg (by rw [hE]; decide)
    clear hneg
    have kg : decide (((looksL (sgN s) l).length : Int) ≤ k) = true := decide_eq_true (by omega)
    have ko : (decide (k < 0) || decide (((looksL (sgN s) l).length : Int) ≤ k)) = true := by rw [kn, kg]; rfl
    repeat' (first | (with_reducible refine ⟨(s, l), ⟨(.cons (.agg (.cons (.v _) (.cons (.lent _ _ _ _ _ _) .nil))) .nil), ?_⟩, ?_⟩) | (with_reducible first | exact fun h => h | refine ExE.row (by with_unfolding_all rfl) ?_ | refine And.intro ?_ ?_) | ((with_reducible intro hq); first | exact bne1 hq (by with_reducible assumption) | exact bne1 (by with_reducible assumption) hq | ((simp only [*, BB, cond_true, cond_false, reduceCtorEq] at hq); done) | (revert hq; with_reducible intro _)) | (with_reducible first | exact True.intro | rfl | refine EntLe.row ?_ | exact LeN.ro rfl | exact LeN.rptr | assumption) | ((with_reducible first | refine WkX.chk ?_ | refine Wk.chk ?_ | refine LeL.chk ?_ | refine LeF.chk ?_ | refine Run.mk ?_); (conv => whnf)) | ((with_reducible show LeO _ _); first | refine LeO.ro ?_ | refine LeO.roCap ?_ | refine LeO.nil ?_ (fun _ => rfl)) | ((with_reducible show LeR _ _ _); first | refine LeR.own rfl rfl rfl ?_ | refine LeR.view rfl rfl rfl ?_ ?_ | refine LeR.ro ?_ | refine LeR.roCap ?_ | refine LeR.nil ?_ (fun _ => rfl)) | ((with_reducible first | show drawOK _ _ = true | show lateOK _ _ = true | show drawOK2 _ _ = true | show drawOK3 _ _ = true); kernel_rfl))
    all_goals first
      | exact hok
      | exact hE.symm
      | (rw [hV]; done)
      | (rw [hV]; rfl)
      | trace_state
  have kg : decide (((looksL (sgN s) l).length : Int) ≤ k) = false := decide_eq_false (by omega)
  have ko : (decide (k < 0) || decide (((looksL (sgN s) l).length : Int) ≤ k)) = false := by rw [kn, kg]; rfl
  have hE : lookE s l k = 0 := by rw [hE0, if_neg (by omega)]
  have hV : lookV s l k = (looksL (sgN s) l).getD k.toNat zA := if_pos hE
  have hk0 : 0 ≤ k ∧ k < sgN s := by omega
  clear hneg hge
  repeat' (first | (with_reducible refine ⟨(s, l), ⟨(.cons (.agg (.cons (.v _) (.cons (.lent _ _ _ _ _ _) .nil))) .nil), ?_⟩, ?_⟩) | (with_reducible first | exact fun h => h | refine ExE.row (by with_unfolding_all rfl) ?_ | refine And.intro ?_ ?_) | ((with_reducible intro hq); first | exact bne1 hq (by with_reducible assumption) | exact bne1 (by with_reducible assumption) hq | ((simp only [*, BB, cond_true, cond_false, reduceCtorEq] at hq); done) | (revert hq; with_reducible intro _)) | (with_reducible first | exact True.intro | rfl | refine EntLe.row ?_ | exact LeN.ro rfl | exact LeN.rptr | assumption) | ((with_reducible first | refine WkX.chk ?_ | refine Wk.chk ?_ | refine LeL.chk ?_ | refine LeF.chk ?_ | refine Run.mk ?_); (conv => whnf)) | ((with_reducible show LeO _ _); first | refine LeO.ro ?_ | refine LeO.roCap ?_ | refine LeO.nil ?_ (fun _ => rfl)) | ((with_reducible show LeR _ _ _); first | refine LeR.own rfl rfl rfl ?_ | refine LeR.view rfl rfl rfl ?_ ?_ | refine LeR.ro ?_ | refine LeR.roCap ?_ | refine LeR.nil ?_ (fun _ => rfl)) | ((with_reducible first | show drawOK _ _ = true | show lateOK _ _ = true | show drawOK2 _ _ = true | show drawOK3 _ _ = true); kernel_rfl))
  all_goals first
    | exact hok
    | exact hE.symm
    | omega
    | (rw [hV]; done)
    | (rw [hV]; rfl)
    | trace_state
theorem con_rlook : Con prog 32 (fun ((s, l, k) : ByteArray × List Spn × Int) => [txAV s l, .v (.int .i64 k)]) (fun (s, l, k) => .tup [.agg (atAV (lookV s l k)), .v (.int .i64 (lookE s l k))]) (fun _ => True) := by
  refine Con.of (by kernel_rfl) T_ok CdsOK.nil (.con con_rcheck7 (.con con_rcount (.con con_rlooks .nil))) 5 [] q_rlook.1 q_rlook.2.1 q_rlook.2.2 (fun _ => rfl) fun i _ => ?_
  obtain ⟨s, l, k⟩ := i
  by_cases h1 : chkN s.size l (sgN s : Nat) = 0
  case neg =>
    have k1 : (chkN s.size l (sgN s : Nat) != 0) = true := by simpa using h1
    have hE : lookE s l k = chkN s.size l (sgN s : Nat) := if_pos h1
    have hV : lookV s l k = zA := if_neg (by rw [hE]; exact h1)
    repeat' (first | (with_reducible refine ⟨(s, l), ⟨(.cons (.agg (.cons (.v _) (.cons (.lent _ _ _ _ _ _) .nil))) .nil), ?_⟩, ?_⟩) | (with_reducible first | exact fun h => h | refine ExE.row (by with_unfolding_all rfl) ?_ | refine And.intro ?_ ?_) | ((with_reducible intro hq); first | exact bne1 hq (by with_reducible assumption) | exact bne1 (by with_reducible assumption) hq | ((simp only [*, BB, cond_true, cond_false, reduceCtorEq] at hq); done) | (revert hq; with_reducible intro _)) | (with_reducible first | exact True.intro | rfl | refine EntLe.row ?_ | exact LeN.ro rfl | exact LeN.rptr | assumption) | ((with_reducible first | refine WkX.chk ?_ | refine Wk.chk ?_ | refine LeL.chk ?_ | refine LeF.chk ?_ | refine Run.mk ?_); (conv => whnf)) | ((with_reducible show LeO _ _); first | refine LeO.ro ?_ | refine LeO.roCap ?_ | refine LeO.nil ?_ (fun _ => rfl)) | ((with_reducible show LeR _ _ _); first | refine LeR.own rfl rfl rfl ?_ | refine LeR.view rfl rfl rfl ?_ ?_ | refine LeR.ro ?_ | refine LeR.roCap ?_ | refine LeR.nil ?_ (fun _ => rfl)) | ((with_reducible first | show drawOK _ _ = true | show lateOK _ _ = true | show drawOK2 _ _ = true | show drawOK3 _ _ = true); kernel_rfl))
    all_goals first
      | exact hE.symm
      | (rw [hV]; done)
      | (rw [hV]; rfl)
      | trace_state
  have k1 : (chkN s.size l (sgN s : Nat) != 0) = false := by rw [h1]; rfl
  have hok := OkT.of h1
  have hn := sgN_le s
  have hs := hok.size
  have hE0 : lookE s l k = if k < 0 ∨ (sgN s : Int) ≤ k then 1 else 0 := if_neg (fun h => h h1)
  by_cases hneg : k < 0
  · have hE : lookE s l k = 1 := by rw [hE0, if_pos (.inl hneg)]
    have hV : lookV s l k = zA := if_neg (by rw [hE]; decide)
    have kn : decide (k < 0) = true := decide_eq_true hneg
    have kn' : (!decide (k < 0)) = false := by rw [kn]; rfl
    clear hneg
    have ko : (decide (k < 0) || decide ((sgN s : Int) ≤ k)) = true := by rw [kn]; rfl
    repeat' (first | (with_reducible refine ⟨(s, l), ⟨(.cons (.agg (.cons (.v _) (.cons (.lent _ _ _ _ _ _) .nil))) .nil), ?_⟩, ?_⟩) | (with_reducible first | exact fun h => h | refine ExE.row (by with_unfolding_all rfl) ?_ | refine And.intro ?_ ?_) | ((with_reducible intro hq); first | exact bne1 hq (by with_reducible assumption) | exact bne1 (by with_reducible assumption) hq | ((simp only [*, BB, cond_true, cond_false, reduceCtorEq] at hq); done) | (revert hq; with_reducible intro _)) | (with_reducible first | exact True.intro | rfl | refine EntLe.row ?_ | exact LeN.ro rfl | exact LeN.rptr | assumption) | ((with_reducible first | refine WkX.chk ?_ | refine Wk.chk ?_ | refine LeL.chk ?_ | refine LeF.chk ?_ | refine Run.mk ?_); (conv => whnf)) | ((with_reducible show LeO _ _); first | refine LeO.ro ?_ | refine LeO.roCap ?_ | refine LeO.nil ?_ (fun _ => rfl)) | ((with_reducible show LeR _ _ _); first | refine LeR.own rfl rfl rfl ?_ | refine LeR.view rfl rfl rfl ?_ ?_ | refine LeR.ro ?_ | refine LeR.roCap ?_ | refine LeR.nil ?_ (fun _ => rfl)) | ((with_reducible first | show drawOK _ _ = true | show lateOK _ _ = true | show drawOK2 _ _ = true | show drawOK3 _ _ = true); kernel_rfl))
    all_goals first
      | exact hE.symm
      | (rw [hV]; done)
      | (rw [hV]; rfl)
      | trace_state
  have kn : decide (k < 0) = false := decide_eq_false hneg
  have kn' : (!decide (k < 0)) = true := by rw [kn]; rfl
  by_cases hge : (sgN s : Int) ≤ k
  · have hE : lookE s l k = 1 := by rw [hE0, if_pos (.inr hge)]
    have hV : lookV s l k = zA := if_neg (by rw [hE]; decide)
    clear hneg
    have kg : decide ((sgN s : Int) ≤ k) = true := decide_eq_true hge
    have ko : (decide (k < 0) || decide ((sgN s : Int) ≤ k)) = true := by rw [kn, kg]; rfl
    repeat' (first | (with_reducible refine ⟨(s, l), ⟨(.cons (.agg (.cons (.v _) (.cons (.lent _ _ _ _ _ _) .nil))) .nil), ?_⟩, ?_⟩) | (with_reducible refine ⟨_, ⟨(.cons (.v _) .nil), ?_⟩, ?_⟩) | (with_reducible first | exact fun h => h | refine ExE.row (by with_unfolding_all rfl) ?_ | refine And.intro ?_ ?_) | ((with_reducible intro hq); first | exact bne1 hq (by with_reducible assumption) | exact bne1 (by with_reducible assumption) hq | ((simp only [*, BB, cond_true, cond_false, reduceCtorEq] at hq); done) | (revert hq; with_reducible intro _)) | (with_reducible first | exact True.intro | rfl | refine EntLe.row ?_ | exact LeN.ro rfl | exact LeN.rptr | assumption) | ((with_reducible first | refine WkX.chk ?_ | refine Wk.chk ?_ | refine LeL.chk ?_ | refine LeF.chk ?_ | refine Run.mk ?_); (conv => whnf)) | ((with_reducible show LeO _ _); first | refine LeO.ro ?_ | refine LeO.roCap ?_ | refine LeO.nil ?_ (fun _ => rfl)) | ((with_reducible show LeR _ _ _); first | refine LeR.own rfl rfl rfl ?_ | refine LeR.view rfl rfl rfl ?_ ?_ | refine LeR.ro ?_ | refine LeR.roCap ?_ | refine LeR.nil ?_ (fun _ => rfl)) | ((with_reducible first | show drawOK _ _ = true | show lateOK _ _ = true | show drawOK2 _ _ = true | show drawOK3 _ _ = true); kernel_rfl))
    all_goals first
      | (dsimp only; omega)
      | exact hE.symm
      | (rw [hV]; done)
      | (rw [hV]; rfl)
      | trace_state
  have kg : decide ((sgN s : Int) ≤ k) = false := decide_eq_false hge
  have ko : (decide (k < 0) || decide ((sgN s : Int) ≤ k)) = false := by rw [kn, kg]; rfl
  have hE : lookE s l k = 0 := by rw [hE0, if_neg (by omega)]
  have hk0 : ∃ j : Nat, k = (j : Int) := ⟨k.toNat, by omega⟩
  obtain ⟨j, hj⟩ := hk0
  subst hj
  have hV : lookV s l (j : Int) = (refF j l).1 := by
    unfold lookV
    rw [if_pos hE, Int.toNat_natCast, looksL_eq hok.spans, List.getD_eq_getElem?_getD, List.getElem?_map, List.getElem?_range (by omega)]
    rfl
  clear hneg hge
  repeat' (first | (with_reducible refine ⟨(s, l), ⟨(.cons (.agg (.cons (.v _) (.cons (.lent _ _ _ _ _ _) .nil))) .nil), ?_⟩, ?_⟩) | (with_reducible refine ⟨(s, l, j), ⟨(.cons (.agg (.cons (.v _) (.cons (.lent _ _ _ _ _ _) .nil))) (.cons (.v _) .nil)), ?_⟩, ?_⟩) | (with_reducible refine ⟨_, ⟨(.cons (.v _) .nil), ?_⟩, ?_⟩) | (with_reducible first | exact fun h => h | refine ExE.row (by with_unfolding_all rfl) ?_ | refine And.intro ?_ ?_) | ((with_reducible intro hq); first | exact bne1 hq (by with_reducible assumption) | exact bne1 (by with_reducible assumption) hq | ((simp only [*, BB, cond_true, cond_false, reduceCtorEq] at hq); done) | (revert hq; with_reducible intro _)) | (with_reducible first | exact True.intro | rfl | refine EntLe.row ?_ | exact LeN.ro rfl | exact LeN.rptr | assumption) | ((with_reducible first | refine WkX.chk ?_ | refine Wk.chk ?_ | refine LeL.chk ?_ | refine LeF.chk ?_ | refine Run.mk ?_); (conv => whnf)) | ((with_reducible show LeO _ _); first | refine LeO.ro ?_ | refine LeO.roCap ?_ | refine LeO.nil ?_ (fun _ => rfl)) | ((with_reducible show LeR _ _ _); first | refine LeR.own rfl rfl rfl ?_ | refine LeR.view rfl rfl rfl ?_ ?_ | refine LeR.ro ?_ | refine LeR.roCap ?_ | refine LeR.nil ?_ (fun _ => rfl)) | ((with_reducible first | show drawOK _ _ = true | show lateOK _ _ = true | show drawOK2 _ _ = true | show drawOK3 _ _ = true); kernel_rfl))
  all_goals first
    | exact hok
    | exact hE.symm
    | (dsimp only; omega)
    | (rw [hV]; done)
    | (rw [hV]; rfl)
    | trace_state
abbrev asAV (x : Sgn) : List AV := [.v (.int .i64 x.at), .v (.int .i64 x.len), .v (.int .i32 x.rune), .sb x.bad]
def C_asg : Cdc Sgn where
  size := 4
  enc := asAV
  dec l := match l with
    | [.v (.int _ a), .v (.int _ b), .v (.int _ c), d] => ⟨a, b, c, bOf d⟩
    | _ => ⟨0, 0, 0, false⟩
  d := ⟨0, 0, 0, false⟩
theorem con_alike : Con prog 38 (fun ((l, r) : List Sgn × List Sgn) => [.ro 4 C_asg.enc C_asg.d l none true, .ro 4 C_sgn.enc C_sgn.d r none true]) (fun _ => .sb true) (fun (l, r) => l = r ∧ l.length ≤ 1100000 ∧ ∀ x ∈ l, 0 ≤ x.rune ∧ x.rune ≤ 1114111) := by
  refine Con.of (by kernel_rfl) T_ok CdsOK.nil .nil 5 [] q_alike.1 q_alike.2.1 q_alike.2.2 (fun _ => rfl) fun i hi => ?_
  obtain ⟨l, r⟩ := i
  obtain ⟨hlr, hl, hru⟩ : l = r ∧ l.length ≤ 1100000 ∧ ∀ x ∈ l, 0 ≤ x.rune ∧ x.rune ≤ 1114111 := hi
  subst hlr
  have k1 : ((l.length : Int) != (l.length : Int)) = false := by simp
  repeat' (first | (with_reducible first | exact fun h => h | refine ExE.row (by with_unfolding_all rfl) ?_ | refine And.intro ?_ ?_) | ((with_reducible intro hq); first | exact bne1 hq (by with_reducible assumption) | exact bne1 (by with_reducible assumption) hq | ((simp only [*, BB, cond_true, cond_false, reduceCtorEq] at hq); done) | (revert hq; with_reducible intro _)) | (with_reducible first | exact True.intro | rfl | refine EntLe.row ?_ | exact LeN.ro rfl | exact LeN.rptr | assumption) | ((with_reducible first | refine WkX.chk ?_ | refine Wk.chk ?_ | refine LeL.chk ?_ | refine LeF.chk ?_ | refine Run.mk ?_); (conv => whnf)) | ((with_reducible show LeO _ _); first | refine LeO.ro ?_ | refine LeO.roCap ?_ | refine LeO.nil ?_ (fun _ => rfl)) | ((with_reducible show LeR _ _ _); first | refine LeR.own rfl rfl rfl ?_ | refine LeR.view rfl rfl rfl ?_ ?_ | refine LeR.ro ?_ | refine LeR.roCap ?_ | refine LeR.nil ?_ (fun _ => rfl)) | ((with_reducible first | show drawOK _ _ = true | show lateOK _ _ = true | show drawOK2 _ _ = true | show drawOK3 _ _ = true); kernel_rfl))
  refine loopI Nat [] (fun i => [(5, .v (.int .i64 (i : Nat)))]) (fun _ => []) (fun i => i ≤ l.length) (fun i => l.length - i) 0 (Nat.zero_le _) (Wk.chk ?_) fun i hi => ?_
  · ((conv => whnf); repeat' (first | (with_reducible first | exact fun h => h | refine ExE.row (by with_unfolding_all rfl) ?_ | refine And.intro ?_ ?_) | ((with_reducible intro hq); first | exact bne1 hq (by with_reducible assumption) | exact bne1 (by with_reducible assumption) hq | ((simp only [*, BB, cond_true, cond_false, reduceCtorEq] at hq); done) | (revert hq; with_reducible intro _)) | (with_reducible first | exact True.intro | rfl | refine EntLe.row ?_ | exact LeN.ro rfl | exact LeN.rptr | assumption) | ((with_reducible first | refine WkX.chk ?_ | refine Wk.chk ?_ | refine LeL.chk ?_ | refine LeF.chk ?_ | refine Run.mk ?_); (conv => whnf)) | ((with_reducible show LeO _ _); first | refine LeO.ro ?_ | refine LeO.roCap ?_ | refine LeO.nil ?_ (fun _ => rfl)) | ((with_reducible show LeR _ _ _); first | refine LeR.own rfl rfl rfl ?_ | refine LeR.view rfl rfl rfl ?_ ?_ | refine LeR.ro ?_ | refine LeR.roCap ?_ | refine LeR.nil ?_ (fun _ => rfl)) | ((with_reducible first | show drawOK _ _ = true | show lateOK _ _ = true | show drawOK2 _ _ = true | show drawOK3 _ _ = true); kernel_rfl)))
    all_goals rfl
  have hi : i ≤ l.length := hi
  have e1 : ((i : Nat) : Int).toNat = i := Int.toNat_natCast _
  have hd : C_asg.d = C_sgn.d := rfl
  by_cases hil : i < l.length
  · have hlt : decide ((i : Int) < (l.length : Int)) = true := decide_eq_true (by omega)
    have hrb := hru _ (List.getElem_mem hil)
    have hgx : l.getD ((i : Nat) : Int).toNat C_asg.d = l[i] := by rw [e1]; simp [List.getD_eq_getElem?_getD, hil]
    have hgy : l.getD ((i : Nat) : Int).toNat C_sgn.d = l[i] := by rw [e1]; simp [List.getD_eq_getElem?_getD, hil]
    have w1 : ((l.getD ((i : Nat) : Int).toNat C_asg.d).at != (l.getD ((i : Nat) : Int).toNat C_sgn.d).at) = false := by rw [hgx, hgy]; simp
    have w2 : ((l.getD ((i : Nat) : Int).toNat C_asg.d).len != (l.getD ((i : Nat) : Int).toNat C_sgn.d).len) = false := by rw [hgx, hgy]; simp
    have w3 : ((l.getD ((i : Nat) : Int).toNat C_asg.d).rune != (l.getD ((i : Nat) : Int).toNat C_sgn.d).rune) = false := by rw [hgx, hgy]; simp
    have w4 : (!((l.getD ((i : Nat) : Int).toNat C_asg.d).bad == (l.getD ((i : Nat) : Int).toNat C_sgn.d).bad)) = false := by rw [hgx, hgy]; simp
    have o2 : (((l.getD ((i : Nat) : Int).toNat C_asg.d).at != (l.getD ((i : Nat) : Int).toNat C_sgn.d).at) || ((l.getD ((i : Nat) : Int).toNat C_asg.d).len != (l.getD ((i : Nat) : Int).toNat C_sgn.d).len)) = false := by rw [w1, w2]; rfl
    have o3 : (((l.getD ((i : Nat) : Int).toNat C_asg.d).at != (l.getD ((i : Nat) : Int).toNat C_sgn.d).at) || ((l.getD ((i : Nat) : Int).toNat C_asg.d).len != (l.getD ((i : Nat) : Int).toNat C_sgn.d).len) || ((l.getD ((i : Nat) : Int).toNat C_asg.d).rune != (l.getD ((i : Nat) : Int).toNat C_sgn.d).rune)) = false := by rw [w1, w2, w3]; rfl
    have o4 : (((l.getD ((i : Nat) : Int).toNat C_asg.d).at != (l.getD ((i : Nat) : Int).toNat C_sgn.d).at) || ((l.getD ((i : Nat) : Int).toNat C_asg.d).len != (l.getD ((i : Nat) : Int).toNat C_sgn.d).len) || ((l.getD ((i : Nat) : Int).toNat C_asg.d).rune != (l.getD ((i : Nat) : Int).toNat C_sgn.d).rune) || (!((l.getD ((i : Nat) : Int).toNat C_asg.d).bad == (l.getD ((i : Nat) : Int).toNat C_sgn.d).bad))) = false := by rw [w1, w2, w3, w4]; rfl
    have n1 : (!((l.getD ((i : Nat) : Int).toNat C_asg.d).at != (l.getD ((i : Nat) : Int).toNat C_sgn.d).at)) = true := by rw [w1]; rfl
    have n2 : (!(((l.getD ((i : Nat) : Int).toNat C_asg.d).at != (l.getD ((i : Nat) : Int).toNat C_sgn.d).at) || ((l.getD ((i : Nat) : Int).toNat C_asg.d).len != (l.getD ((i : Nat) : Int).toNat C_sgn.d).len))) = true := by rw [o2]; rfl
    have n3 : (!(((l.getD ((i : Nat) : Int).toNat C_asg.d).at != (l.getD ((i : Nat) : Int).toNat C_sgn.d).at) || ((l.getD ((i : Nat) : Int).toNat C_asg.d).len != (l.getD ((i : Nat) : Int).toNat C_sgn.d).len) || ((l.getD ((i : Nat) : Int).toNat C_asg.d).rune != (l.getD ((i : Nat) : Int).toNat C_sgn.d).rune))) = true := by rw [o3]; rfl
    repeat' (first | (with_reducible refine ex_of (α := Nat) (i + 1) ⟨?_, ?_⟩ ?_) | (with_reducible first | exact fun h => h | refine ExE.row (by with_unfolding_all rfl) ?_ | refine And.intro ?_ ?_) | ((with_reducible intro hq); first | exact bne1 hq (by with_reducible assumption) | exact bne1 (by with_reducible assumption) hq | ((simp only [*, BB, cond_true, cond_false, reduceCtorEq] at hq); done) | (revert hq; with_reducible intro _)) | (with_reducible first | exact True.intro | rfl | refine EntLe.row ?_ | exact LeN.ro rfl | exact LeN.rptr | assumption) | ((with_reducible first | refine WkX.chk ?_ | refine Wk.chk ?_ | refine LeL.chk ?_ | refine LeF.chk ?_ | refine Run.mk ?_); (conv => whnf)) | ((with_reducible show LeO _ _); first | refine LeO.ro ?_ | refine LeO.roCap ?_ | refine LeO.nil ?_ (fun _ => rfl)) | ((with_reducible show LeR _ _ _); first | refine LeR.own rfl rfl rfl ?_ | refine LeR.view rfl rfl rfl ?_ ?_ | refine LeR.ro ?_ | refine LeR.roCap ?_ | refine LeR.nil ?_ (fun _ => rfl)) | ((with_reducible first | show drawOK _ _ = true | show lateOK _ _ = true | show drawOK2 _ _ = true | show drawOK3 _ _ = true); kernel_rfl))
    all_goals first
      | omega
      | (apply Fits.i64 <;> omega)
      | (rw [hgx]; apply Fits.i64 <;> omega)
      | (dsimp only; omega)
      | trace_state
  have hlt : decide ((i : Int) < (l.length : Int)) = false := decide_eq_false (by omega)
  repeat' (first | (with_reducible first | exact fun h => h | refine ExE.row (by with_unfolding_all rfl) ?_ | refine And.intro ?_ ?_) | ((with_reducible intro hq); first | exact bne1 hq (by with_reducible assumption) | exact bne1 (by with_reducible assumption) hq | ((simp only [*, BB, cond_true, cond_false, reduceCtorEq] at hq); done) | (revert hq; with_reducible intro _)) | (with_reducible first | exact True.intro | rfl | refine EntLe.row ?_ | exact LeN.ro rfl | exact LeN.rptr | assumption) | ((with_reducible first | refine WkX.chk ?_ | refine Wk.chk ?_ | refine LeL.chk ?_ | refine LeF.chk ?_ | refine Run.mk ?_); (conv => whnf)) | ((with_reducible show LeO _ _); first | refine LeO.ro ?_ | refine LeO.roCap ?_ | refine LeO.nil ?_ (fun _ => rfl)) | ((with_reducible show LeR _ _ _); first | refine LeR.own rfl rfl rfl ?_ | refine LeR.view rfl rfl rfl ?_ ?_ | refine LeR.ro ?_ | refine LeR.roCap ?_ | refine LeR.nil ?_ (fun _ => rfl)) | ((with_reducible first | show drawOK _ _ = true | show lateOK _ _ = true | show drawOK2 _ _ = true | show drawOK3 _ _ = true); kernel_rfl))
  all_goals first
    | rfl
    | trace_state
end Go.SX.Try
/- Contract of the laws' SameRuns. -/
namespace Go.SX.Try
open Go.Proofs Go.Proofs.Try Go.SX.Plain
set_option maxRecDepth 100000
set_option maxHeartbeats 0
set_option linter.unusedSimpArgs false
theorem q_sameRuns : fact 35 f35 := ⟨by kernel_rfl, rfl, by kernel_rfl⟩
def rnEqB (x y : Rn) : Bool := x.frm == y.frm && (x.to == y.to && (x.at'.bold == y.at'.bold && (x.at'.italic == y.at'.italic && (x.at'.under == y.at'.under && (x.at'.strike == y.at'.strike && (x.at'.colour == y.at'.colour))))))
theorem rnEqB_self (x : Rn) : rnEqB x x = true := by simp [rnEqB]
theorem con_sameRuns : Con prog 35 (fun ((l, r) : List Rn × List Rn) => [rnR l, rnR r]) (fun _ => .sb true) (fun (l, r) => l = r ∧ l.length ≤ 1100000) := by
  refine Con.of (by kernel_rfl) T_ok CdsOK.nil .nil 3 [] q_sameRuns.1 q_sameRuns.2.1 q_sameRuns.2.2 (fun _ => rfl) fun i hi => ?_
  obtain ⟨l, r⟩ := i
  obtain ⟨hlr, hl9⟩ : l = r ∧ l.length ≤ 1100000 := hi
  subst hlr
  have k1 : ((l.length : Int) != (l.length : Int)) = false := by simp
  repeat' (first | (with_reducible first | exact fun h => h | refine ExE.row (by with_unfolding_all rfl) ?_ | refine And.intro ?_ ?_) | ((with_reducible intro hq); first | exact bne1 hq (by with_reducible assumption) | exact bne1 (by with_reducible assumption) hq | ((simp only [*, BB, cond_true, cond_false, reduceCtorEq] at hq); done) | (revert hq; with_reducible intro _)) | (with_reducible first | exact True.intro | rfl | refine EntLe.row ?_ | exact LeN.ro rfl | exact LeN.rptr | assumption) | ((with_reducible first | refine WkX.chk ?_ | refine Wk.chk ?_ | refine LeL.chk ?_ | refine LeF.chk ?_ | refine Run.mk ?_); (conv => whnf)) | ((with_reducible show LeO _ _); first | refine LeO.ro ?_ | refine LeO.roCap ?_ | refine LeO.nil ?_ (fun _ => rfl)) | ((with_reducible show LeR _ _ _); first | refine LeR.own rfl rfl rfl ?_ | refine LeR.view rfl rfl rfl ?_ ?_ | refine LeR.ro ?_ | refine LeR.roCap ?_ | refine LeR.nil ?_ (fun _ => rfl)) | ((with_reducible first | show drawOK _ _ = true | show lateOK _ _ = true | show drawOK2 _ _ = true | show drawOK3 _ _ = true); kernel_rfl))
  refine loopI Nat [] (fun i => [(5, .v (.int .i64 (i : Nat)))]) (fun _ => []) (fun i => i ≤ l.length) (fun i => l.length - i) 0 (Nat.zero_le _) (Wk.chk ?_) fun i hi => ?_
  · ((conv => whnf); repeat' (first | (with_reducible first | exact fun h => h | refine ExE.row (by with_unfolding_all rfl) ?_ | refine And.intro ?_ ?_) | ((with_reducible intro hq); first | exact bne1 hq (by with_reducible assumption) | exact bne1 (by with_reducible assumption) hq | ((simp only [*, BB, cond_true, cond_false, reduceCtorEq] at hq); done) | (revert hq; with_reducible intro _)) | (with_reducible first | exact True.intro | rfl | refine EntLe.row ?_ | exact LeN.ro rfl | exact LeN.rptr | assumption) | ((with_reducible first | refine WkX.chk ?_ | refine Wk.chk ?_ | refine LeL.chk ?_ | refine LeF.chk ?_ | refine Run.mk ?_); (conv => whnf)) | ((with_reducible show LeO _ _); first | refine LeO.ro ?_ | refine LeO.roCap ?_ | refine LeO.nil ?_ (fun _ => rfl)) | ((with_reducible show LeR _ _ _); first | refine LeR.own rfl rfl rfl ?_ | refine LeR.view rfl rfl rfl ?_ ?_ | refine LeR.ro ?_ | refine LeR.roCap ?_ | refine LeR.nil ?_ (fun _ => rfl)) | ((with_reducible first | show drawOK _ _ = true | show lateOK _ _ = true | show drawOK2 _ _ = true | show drawOK3 _ _ = true); kernel_rfl)))
    all_goals rfl
  have hi : i ≤ l.length := hi
  by_cases hil : i < l.length
  · have hlt : decide ((i : Int) < (l.length : Int)) = true := decide_eq_true (by omega)
    have hW : (!(rnEqB (l.getD ((i : Nat) : Int).toNat C_rn.d) (l.getD ((i : Nat) : Int).toNat C_rn.d))) = false := by rw [rnEqB_self]; rfl
    unfold rnEqB at hW
    repeat' (first | (with_reducible refine ex_of (α := Nat) (i + 1) ⟨?_, ?_⟩ ?_) | (with_reducible first | exact fun h => h | refine ExE.row (by with_unfolding_all rfl) ?_ | refine And.intro ?_ ?_) | ((with_reducible intro hq); first | exact bne1 hq (by with_reducible assumption) | exact bne1 (by with_reducible assumption) hq | ((simp only [*, BB, cond_true, cond_false, reduceCtorEq] at hq); done) | (revert hq; with_reducible intro _)) | (with_reducible first | exact True.intro | rfl | refine EntLe.row ?_ | exact LeN.ro rfl | exact LeN.rptr | assumption) | ((with_reducible first | refine WkX.chk ?_ | refine Wk.chk ?_ | refine LeL.chk ?_ | refine LeF.chk ?_ | refine Run.mk ?_); (conv => whnf)) | ((with_reducible show LeO _ _); first | refine LeO.ro ?_ | refine LeO.roCap ?_ | refine LeO.nil ?_ (fun _ => rfl)) | ((with_reducible show LeR _ _ _); first | refine LeR.own rfl rfl rfl ?_ | refine LeR.view rfl rfl rfl ?_ ?_ | refine LeR.ro ?_ | refine LeR.roCap ?_ | refine LeR.nil ?_ (fun _ => rfl)) | ((with_reducible first | show drawOK _ _ = true | show lateOK _ _ = true | show drawOK2 _ _ = true | show drawOK3 _ _ = true); kernel_rfl))
    all_goals first
      | omega
      | (apply Fits.i64 <;> omega)
      | (dsimp only; omega)
      | trace_state
  have hlt : decide ((i : Int) < (l.length : Int)) = false := decide_eq_false (by omega)
  repeat' (first | (with_reducible first | exact fun h => h | refine ExE.row (by with_unfolding_all rfl) ?_ | refine And.intro ?_ ?_) | ((with_reducible intro hq); first | exact bne1 hq (by with_reducible assumption) | exact bne1 (by with_reducible assumption) hq | ((simp only [*, BB, cond_true, cond_false, reduceCtorEq] at hq); done) | (revert hq; with_reducible intro _)) | (with_reducible first | exact True.intro | rfl | refine EntLe.row ?_ | exact LeN.ro rfl | exact LeN.rptr | assumption) | ((with_reducible first | refine WkX.chk ?_ | refine Wk.chk ?_ | refine LeL.chk ?_ | refine LeF.chk ?_ | refine Run.mk ?_); (conv => whnf)) | ((with_reducible show LeO _ _); first | refine LeO.ro ?_ | refine LeO.roCap ?_ | refine LeO.nil ?_ (fun _ => rfl)) | ((with_reducible show LeR _ _ _); first | refine LeR.own rfl rfl rfl ?_ | refine LeR.view rfl rfl rfl ?_ ?_ | refine LeR.ro ?_ | refine LeR.roCap ?_ | refine LeR.nil ?_ (fun _ => rfl)) | ((with_reducible first | show drawOK _ _ = true | show lateOK _ _ = true | show drawOK2 _ _ = true | show drawOK3 _ _ = true); kernel_rfl))
  all_goals first
    | rfl
    | trace_state
end Go.SX.Try
/- A verified symbolic executor for Go code in the model: two nil slices in boxes are told as rows that may grow. -/
namespace Go.SX
open Go.RowKit
theorem loopA2 {T : Tys} {A : Sta} {ds : List Nat} {G : (ι : Type) → (ι → Sta) → (ι → Prop) → (ι → Nat) → ι → Prop} (b k : Nat) {α : Type} (C : Cdc α) (e : Nat) (hC : CdOK T e ⟨α, C⟩) {cs : List AV} {t : Nat} (hlt : Nat.ble (b + 1) A.nx = true) (he : getE A.m b = some (.box cs t)) (hk : cs[k]? = some (.v (.slice none 0 0)))
    (b2 k2 : Nat) {α2 : Type} (C2 : Cdc α2) (e2 : Nat) (hC2 : CdOK T e2 ⟨α2, C2⟩) {cs2 : List AV} {t2 : Nat} (hlt2 : Nat.ble (b2 + 1) A.nx = true) (he2 : getE (adoptS A b k C e cs t).m b2 = some (.box cs2 t2)) (hk2 : cs2[k2]? = some (.v (.slice none 0 0)))
    (ι : Type) (xs : List Nat) (F : ι → Fr) (M : ι → Mem) (I : ι → Prop) (μ : ι → Nat) (i0 : ι) (h0 : I i0) (hw : Wk (adoptS (adoptS A b k C e cs t) b2 k2 C2 e2 cs2 t2) (genS (adoptS (adoptS A b k C e cs t) b2 k2 C2 e2 cs2 t2) (xs ++ ds) (F i0) (M i0)))
    (hr : ∀ i, I i → Run (G ι (fun i => genS (adoptS (adoptS A b k C e cs t) b2 k2 C2 e2 cs2 t2) (xs ++ ds) (F i) (M i)) I μ i)) : ∃ (ι : Type) (S : ι → Sta) (I : ι → Prop) (μ : ι → Nat), Base A ds ∧ (∃ i, I i ∧ Wk A (S i)) ∧ ∀ i, I i → Run (G ι S I μ i) :=
  have h1 : b < A.nx := Nat.le_of_ble_eq_true hlt
  have h2 : b2 < (adoptS A b k C e cs t).nx := Nat.lt_of_lt_of_le (Nat.le_of_ble_eq_true hlt2) (Nat.le_succ _)
  ⟨ι, _, I, μ, ⟨⟩, ⟨i0, h0, ((Wk.adopt hC h1 he hk).trans (Wk.adopt hC2 h2 he2 hk2)).trans hw⟩, hr⟩
end Go.SX
/- The law StyleLooks: true, whatever the input. -/
namespace Go.SX.Try
open Go.Proofs Go.Proofs.Try Go.SX.Plain
set_option maxRecDepth 100000
set_option maxHeartbeats 0
set_option linter.unusedSimpArgs false
theorem q_styleLooks : fact 8 f8 := ⟨by kernel_rfl, rfl, by kernel_rfl⟩
theorem q_sSigns : fact 36 f36 := ⟨by kernel_rfl, rfl, by kernel_rfl⟩
theorem q_sSigns1 : fact 77 f77 := ⟨by kernel_rfl, rfl, by kernel_rfl⟩
theorem q_sSigns2 : fact 78 f78 := ⟨by kernel_rfl, rfl, by kernel_rfl⟩
theorem runsA_len (s : ByteArray) (l : List Spn) : (runsA s l).length ≤ 1100000 := by
  by_cases h : chkN s.size l (sgN s : Nat) = 0
  · have h1 : runsA s l = runsL (looksL (sgN s) l) := if_pos h
    have hok := OkT.of h
    have h2 := looksL_len hok.spans
    have h3 := sgN_le s
    have h4 := hok.size
    have h5 := runsTo_len (looksL (sgN s) l) (looksL (sgN s) l).length
    rw [h1]
    unfold runsL
    omega
  · have h1 : runsA s l = [] := if_neg h
    rw [h1]
    decide
theorem bad_eq (s : ByteArray) (p : Nat) : ((((Utf8.decode s p).1 : Nat) : Int) == 65533 && (((Utf8.decode s p).2 : Nat) : Int) == 1) = decide (Utf8.decode s p = (65533, 1)) := by
  rw [Bool.eq_iff_iff]
  simp only [Bool.and_eq_true, beq_iff_eq, decide_eq_true_eq, Prod.ext_iff]
  omega
theorem sgns_rune {s : ByteArray} : ∀ x ∈ sgns s, 0 ≤ x.rune ∧ x.rune ≤ 1114111 := fun x hx => by
  obtain ⟨j, hj, rfl⟩ := List.getElem_of_mem hx
  have hj2 : j < sgN s := by rw [← sgns_len']; exact hj
  have h := (sgns_at s hj2).1
  have h2 : (sgns s).getD j ⟨0, 0, 0, false⟩ = (sgns s)[j] := by simp [List.getD_eq_getElem?_getD, hj]
  rw [h2] at h
  rw [h]
  have := rune_max s (posS s j)
  refine ⟨?_, this⟩
  show (0 : Int) ≤ ((Utf8.decode s (posS s j)).1 : Nat)
  omega
theorem con_styleLooks : Con prog 8 (fun ((s, l, k) : ByteArray × List Spn × Int) => [txAV s l, .v (.int .i64 k)]) (fun _ => .v (.bool true)) (fun (_, l, _) => l.length * 32 ≤ 140737488351232) := by
  refine Con.of (by kernel_rfl) T_ok D_spnP_ok (.inl (J := []) q_lend.1 q_lend.2.1 q_lend.2.2 (.inl (J := []) q_back.1 q_back.2.1 q_back.2.2 (.inl (J := []) q_sSigns.1 q_sSigns.2.1 q_sSigns.2.2 (.inl (J := []) q_sSigns1.1 q_sSigns1.2.1 q_sSigns1.2.2 (.inl (J := []) q_sSigns2.1 q_sSigns2.2.1 q_sSigns2.2.2 (.inl (J := []) q_usigns.1 q_usigns.2.1 q_usigns.2.2 (.inl (J := [8]) q_usigns1.1 q_usigns1.2.1 q_usigns1.2.2
    (.con con_slook (.con con_rlook (.con con_sRuns (.con con_rRuns7 (.con con_sameRuns (.con con_scheck (.con con_slooks (.con con_runeLen (.con con_hasPrefix (.con con_rall7 (.con con_rsigns (.con con_alike (.con con_sameSpans (.con con_head7 .nil))))))))))))))))))))) 9 [] q_styleLooks.1 q_styleLooks.2.1 q_styleLooks.2.2 (fun _ => rfl) fun i hi => ?_
  obtain ⟨s, l, k⟩ := i
  have hl : l.length * 32 ≤ 140737488351232 := hi
  have hln : (l ++ [mrk]).length = l.length + 1 := by simp
  have e3 : ((l.length : Int) + 3).toNat = l.length + 3 := by omega
  have hvl : (((l ++ [mrk]).drop 0).take l.length) = l := by rw [List.drop_zero]; exact snoc_take l mrk
  have hll : decide (l = l) = true := decide_eq_true rfl
  have hE4 : (decide (l = l) && spEqB ((l ++ [mrk]).getD (((0 : Nat) : Int) + (l.length : Int)).toNat C_spnP.d) mrk) = true := by
    rw [hll, show (((0 : Nat) : Int) + (l.length : Int)).toNat = l.length by omega, snoc_at, spEqB_eq]
    simp
  have w1 : (!((lookV s l k).bold == (lookV s l k).bold && ((lookV s l k).italic == (lookV s l k).italic && ((lookV s l k).under == (lookV s l k).under && ((lookV s l k).strike == (lookV s l k).strike && ((lookV s l k).colour == (lookV s l k).colour)))))) = false := by simp
  have w2 : (lookE s l k != lookE s l k) = false := by simp
  have w3 : (chkN s.size l (sgN s : Nat) != chkN s.size l (sgN s : Nat)) = false := by simp
  have o2 : ((!((lookV s l k).bold == (lookV s l k).bold && ((lookV s l k).italic == (lookV s l k).italic && ((lookV s l k).under == (lookV s l k).under && ((lookV s l k).strike == (lookV s l k).strike && ((lookV s l k).colour == (lookV s l k).colour)))))) || (lookE s l k != lookE s l k)) = false := by rw [w1, w2]; rfl
  have o3 : ((!((lookV s l k).bold == (lookV s l k).bold && ((lookV s l k).italic == (lookV s l k).italic && ((lookV s l k).under == (lookV s l k).under && ((lookV s l k).strike == (lookV s l k).strike && ((lookV s l k).colour == (lookV s l k).colour)))))) || (lookE s l k != lookE s l k) || (chkN s.size l (sgN s : Nat) != chkN s.size l (sgN s : Nat))) = false := by rw [w1, w2, w3]; rfl
  have n1 : (!(!((lookV s l k).bold == (lookV s l k).bold && ((lookV s l k).italic == (lookV s l k).italic && ((lookV s l k).under == (lookV s l k).under && ((lookV s l k).strike == (lookV s l k).strike && ((lookV s l k).colour == (lookV s l k).colour))))))) = true := by rw [w1]; rfl
  have n2 : (!((!((lookV s l k).bold == (lookV s l k).bold && ((lookV s l k).italic == (lookV s l k).italic && ((lookV s l k).under == (lookV s l k).under && ((lookV s l k).strike == (lookV s l k).strike && ((lookV s l k).colour == (lookV s l k).colour)))))) || (lookE s l k != lookE s l k))) = true := by rw [o2]; rfl
  have n3 : (!((!((lookV s l k).bold == (lookV s l k).bold && ((lookV s l k).italic == (lookV s l k).italic && ((lookV s l k).under == (lookV s l k).under && ((lookV s l k).strike == (lookV s l k).strike && ((lookV s l k).colour == (lookV s l k).colour)))))) || (lookE s l k != lookE s l k) || (chkN s.size l (sgN s : Nat) != chkN s.size l (sgN s : Nat)))) = true := by rw [o3]; rfl
  have o4 : (!((lookV s l k).bold == (lookV s l k).bold && ((lookV s l k).italic == (lookV s l k).italic && ((lookV s l k).under == (lookV s l k).under && ((lookV s l k).strike == (lookV s l k).strike && ((lookV s l k).colour == (lookV s l k).colour))))) || lookE s l k != lookE s l k || chkN s.size l (sgN s : Nat) != chkN s.size l (sgN s : Nat) || !true) = false := by rw [o3]; rfl
  have hrl := runsA_len s l
  by_cases hc : chkN s.size l (sgN s : Nat) = 0
  case neg =>
    have k1 : (chkN s.size l (sgN s : Nat) != 0) = true := by simpa using hc
    have hok : True := trivial
    have kz : ((((([] : List Sgn).length) : Nat) : Int) == 0) = true := rfl
    repeat' (first | (with_reducible refine ex_of (α := List Spn) l ⟨rfl, rfl, fun _ => rfl⟩ ?_) | (with_reducible refine ⟨(s, l, k), ⟨.cons (.agg (.cons (.v _) (.cons (le_view (by with_unfolding_all exact rfl) (by with_unfolding_all exact rfl) (by with_unfolding_all exact rfl) ?_ ?_) .nil))) (.cons (.v _) .nil), ?_⟩, ?_⟩) | (with_reducible refine ⟨(s, l), ⟨.cons (.agg (.cons (.v _) (.cons (le_view (by with_unfolding_all exact rfl) (by with_unfolding_all exact rfl) (by with_unfolding_all exact rfl) ?_ ?_) .nil))) .nil, ?_⟩, ?_⟩) | (with_reducible refine ⟨(s, l, k), ⟨(.cons (.agg (.cons (.v _) (.cons (.lent _ _ _ _ _ _) .nil))) (.cons (.v _) .nil)), ?_⟩, ?_⟩) | (with_reducible refine ⟨(s, l), ⟨(.cons (.agg (.cons (.v _) (.cons (.lent _ _ _ _ _ _) .nil))) .nil), ?_⟩, ?_⟩) | (with_reducible refine ⟨(_, _), ⟨(.cons (.lent _ _ _ _ _ _) (.cons (.lent _ _ _ _ _ _) .nil)), ?_⟩, ?_⟩) | (with_reducible refine ⟨_, ⟨(.cons (.v _) .nil), ?_⟩, ?_⟩) | (with_reducible refine ⟨(l, l), ⟨.cons (le_view (by with_unfolding_all exact rfl) (by with_unfolding_all exact rfl) (by with_unfolding_all exact rfl) ?_ ?_) (.cons (.lent _ _ _ _ _ _) .nil), ?_⟩, ?_⟩) | (with_reducible refine ⟨(), ⟨.nil, ?_⟩, ?_⟩) | (with_reducible first | exact fun h => h | refine ExE.row (by with_unfolding_all rfl) ?_ | refine And.intro ?_ ?_) | ((with_reducible intro hq); first | exact bne1 hq (by with_reducible assumption) | exact bne1 (by with_reducible assumption) hq | ((simp only [*, BB, cond_true, cond_false, reduceCtorEq] at hq); done) | (revert hq; with_reducible intro _)) | (with_reducible first | exact True.intro | rfl | refine EntLe.row ?_ | exact LeN.ro rfl | exact LeN.rptr | assumption) | ((with_reducible first | refine WkX.chk ?_ | refine Wk.chk ?_ | refine LeL.chk ?_ | refine LeF.chk ?_ | refine Run.mk ?_); (conv => whnf)) | ((with_reducible show LeO _ _); first | refine LeO.ro ?_ | refine LeO.roCap ?_ | refine LeO.nil ?_ (fun _ => rfl)) | ((with_reducible show LeR _ _ _); first | refine LeR.own rfl rfl rfl ?_ | refine LeR.view rfl rfl rfl ?_ ?_ | refine LeR.ro ?_ | refine LeR.roCap ?_ | refine LeR.nil ?_ (fun _ => rfl)) | ((with_reducible first | show drawOK _ _ = true | show lateOK _ _ = true | show drawOK2 _ _ = true | show drawOK3 _ _ = true); kernel_rfl))
    all_goals (try first | omega | (apply Fits.i64 <;> omega) | exact hvl | exact hok | (dsimp only; omega) | exact ⟨rfl, hrl⟩ | (simp only [List.length_append, List.length_cons, List.length_nil, List.length_replicate, e3]; omega) | rfl)
    refine loopA2 8 0 C_asg 62 (T := T) ⟨fun _ => rfl, by decide, _, rfl, rfl, by decide⟩ (by rfl) (by with_unfolding_all exact rfl) (by with_unfolding_all exact rfl) 9 0 C_att 45 ⟨fun _ => rfl, by decide, _, rfl, rfl, by decide⟩ (by rfl) (by with_unfolding_all exact rfl) (by with_unfolding_all exact rfl) Nat [] (fun i => [(7, .v (.int .i64 (i : Nat))), (6, .sb true)]) (fun i => [(3, .row C_spnP (bkTo ovr (l ++ [mrk]) i) 71 (some ((l.length : Int) + 3).toNat))]) (fun i => i ≤ l.length + 1) (fun i => l.length + 1 - i) 0 (Nat.zero_le _) (Wk.chk ?_) fun i hi => ?_
    · ((conv => whnf); repeat' (first | (with_reducible first | exact fun h => h | refine ExE.row (by with_unfolding_all rfl) ?_ | refine And.intro ?_ ?_) | ((with_reducible intro hq); first | exact bne1 hq (by with_reducible assumption) | exact bne1 (by with_reducible assumption) hq | ((simp only [*, BB, cond_true, cond_false, reduceCtorEq] at hq); done) | (revert hq; with_reducible intro _)) | (with_reducible first | exact True.intro | rfl | refine EntLe.row ?_ | exact LeN.ro rfl | exact LeN.rptr | assumption) | ((with_reducible first | refine WkX.chk ?_ | refine Wk.chk ?_ | refine LeL.chk ?_ | refine LeF.chk ?_ | refine Run.mk ?_); (conv => whnf)) | ((with_reducible show LeO _ _); first | refine LeO.ro ?_ | refine LeO.roCap ?_ | refine LeO.nil ?_ (fun _ => rfl)) | ((with_reducible show LeR _ _ _); first | refine LeR.own rfl rfl rfl ?_ | refine LeR.view rfl rfl rfl ?_ ?_ | refine LeR.ro ?_ | refine LeR.roCap ?_ | refine LeR.nil ?_ (fun _ => rfl)) | ((with_reducible first | show drawOK _ _ = true | show lateOK _ _ = true | show drawOK2 _ _ = true | show drawOK3 _ _ = true); kernel_rfl)))
      all_goals first
        | rfl
        | exact hE4
        | (rw [bk_zero]; rfl)
        | trace_state
    have hi : i ≤ l.length + 1 := hi
    have hbl := bk_len ovr (R := l ++ [mrk]) (i := i) (by omega)
    by_cases hil : i < l.length + 1
    · have hlt : decide ((i : Int) < ((((l.length : Int) + 1).toNat : Nat) : Int)) = true := decide_eq_true (by omega)
      have hst := bk_step ovr (R := l ++ [mrk]) (i := i) (by omega)
      have hst' : (bkTo ovr (l ++ [mrk]) i).set (((0 : Nat) : Int) + (i : Int)).toNat ovr = bkTo ovr (l ++ [mrk]) (i + 1) := by rw [show (((0 : Nat) : Int) + (i : Int)).toNat = i by omega]; exact hst
      repeat' (first | (with_reducible refine ex_of (α := Nat) (i + 1) ⟨?_, ?_⟩ ?_) | (with_reducible first | exact fun h => h | refine ExE.row (by with_unfolding_all rfl) ?_ | refine And.intro ?_ ?_) | ((with_reducible intro hq); first | exact bne1 hq (by with_reducible assumption) | exact bne1 (by with_reducible assumption) hq | ((simp only [*, BB, cond_true, cond_false, reduceCtorEq] at hq); done) | (revert hq; with_reducible intro _)) | (with_reducible first | exact True.intro | rfl | refine EntLe.row ?_ | exact LeN.ro rfl | exact LeN.rptr | assumption) | ((with_reducible first | refine WkX.chk ?_ | refine Wk.chk ?_ | refine LeL.chk ?_ | refine LeF.chk ?_ | refine Run.mk ?_); (conv => whnf)) | ((with_reducible show LeO _ _); first | refine LeO.ro ?_ | refine LeO.roCap ?_ | refine LeO.nil ?_ (fun _ => rfl)) | ((with_reducible show LeR _ _ _); first | refine LeR.own rfl rfl rfl ?_ | refine LeR.view rfl rfl rfl ?_ ?_ | refine LeR.ro ?_ | refine LeR.roCap ?_ | refine LeR.nil ?_ (fun _ => rfl)) | ((with_reducible first | show drawOK _ _ = true | show lateOK _ _ = true | show drawOK2 _ _ = true | show drawOK3 _ _ = true); kernel_rfl))
      all_goals first
        | omega
        | (apply Fits.i64 <;> omega)
        | (dsimp only; omega)
        | (with_reducible rfl)
        | (dsimp only [C_spn]; done)
        | exact hst'
        | trace_state
    have hlt : decide ((i : Int) < ((((l.length : Int) + 1).toNat : Nat) : Int)) = false := decide_eq_false (by omega)
    repeat' (first | (with_reducible refine ex_of (α := List Spn) l ⟨rfl, rfl, fun _ => rfl⟩ ?_) | (with_reducible refine ⟨(s, l, k), ⟨.cons (.agg (.cons (.v _) (.cons (le_view (by with_unfolding_all exact rfl) (by with_unfolding_all exact rfl) (by with_unfolding_all exact rfl) ?_ ?_) .nil))) (.cons (.v _) .nil), ?_⟩, ?_⟩) | (with_reducible refine ⟨(s, l), ⟨.cons (.agg (.cons (.v _) (.cons (le_view (by with_unfolding_all exact rfl) (by with_unfolding_all exact rfl) (by with_unfolding_all exact rfl) ?_ ?_) .nil))) .nil, ?_⟩, ?_⟩) | (with_reducible refine ⟨(s, l, k), ⟨(.cons (.agg (.cons (.v _) (.cons (.lent _ _ _ _ _ _) .nil))) (.cons (.v _) .nil)), ?_⟩, ?_⟩) | (with_reducible refine ⟨(s, l), ⟨(.cons (.agg (.cons (.v _) (.cons (.lent _ _ _ _ _ _) .nil))) .nil), ?_⟩, ?_⟩) | (with_reducible refine ⟨(_, _), ⟨(.cons (.lent _ _ _ _ _ _) (.cons (.lent _ _ _ _ _ _) .nil)), ?_⟩, ?_⟩) | (with_reducible refine ⟨_, ⟨(.cons (.v _) .nil), ?_⟩, ?_⟩) | (with_reducible refine ⟨(l, l), ⟨.cons (le_view (by with_unfolding_all exact rfl) (by with_unfolding_all exact rfl) (by with_unfolding_all exact rfl) ?_ ?_) (.cons (.lent _ _ _ _ _ _) .nil), ?_⟩, ?_⟩) | (with_reducible refine ⟨(), ⟨.nil, ?_⟩, ?_⟩) | (with_reducible first | exact fun h => h | refine ExE.row (by with_unfolding_all rfl) ?_ | refine And.intro ?_ ?_) | ((with_reducible intro hq); first | exact bne1 hq (by with_reducible assumption) | exact bne1 (by with_reducible assumption) hq | ((simp only [*, BB, cond_true, cond_false, reduceCtorEq] at hq); done) | (revert hq; with_reducible intro _)) | (with_reducible first | exact True.intro | rfl | refine EntLe.row ?_ | exact LeN.ro rfl | exact LeN.rptr | assumption) | ((with_reducible first | refine WkX.chk ?_ | refine Wk.chk ?_ | refine LeL.chk ?_ | refine LeF.chk ?_ | refine Run.mk ?_); (conv => whnf)) | ((with_reducible show LeO _ _); first | refine LeO.ro ?_ | refine LeO.roCap ?_ | refine LeO.nil ?_ (fun _ => rfl)) | ((with_reducible show LeR _ _ _); first | refine LeR.own rfl rfl rfl ?_ | refine LeR.view rfl rfl rfl ?_ ?_ | refine LeR.ro ?_ | refine LeR.roCap ?_ | refine LeR.nil ?_ (fun _ => rfl)) | ((with_reducible first | show drawOK _ _ = true | show lateOK _ _ = true | show drawOK2 _ _ = true | show drawOK3 _ _ = true); kernel_rfl))
    all_goals first
      | omega
      | (dsimp only; omega)
      | rfl
      | trace_state
  have k1 : (chkN s.size l (sgN s : Nat) != 0) = false := by rw [hc]; rfl
  have hok := OkT.of hc
  have hlen := looksL_len hok.spans
  have hn := sgN_le s
  have hs := hok.size
  have hsl := sgns_len' s
  repeat' (first | (with_reducible refine ex_of (α := List Spn) l ⟨rfl, rfl, fun _ => rfl⟩ ?_) | (with_reducible refine ⟨(s, l, k), ⟨.cons (.agg (.cons (.v _) (.cons (le_view (by with_unfolding_all exact rfl) (by with_unfolding_all exact rfl) (by with_unfolding_all exact rfl) ?_ ?_) .nil))) (.cons (.v _) .nil), ?_⟩, ?_⟩) | (with_reducible refine ⟨(s, l), ⟨.cons (.agg (.cons (.v _) (.cons (le_view (by with_unfolding_all exact rfl) (by with_unfolding_all exact rfl) (by with_unfolding_all exact rfl) ?_ ?_) .nil))) .nil, ?_⟩, ?_⟩) | (with_reducible refine ⟨(s, l, k), ⟨(.cons (.agg (.cons (.v _) (.cons (.lent _ _ _ _ _ _) .nil))) (.cons (.v _) .nil)), ?_⟩, ?_⟩) | (with_reducible refine ⟨(s, l), ⟨(.cons (.agg (.cons (.v _) (.cons (.lent _ _ _ _ _ _) .nil))) .nil), ?_⟩, ?_⟩) | (with_reducible refine ⟨(_, _), ⟨(.cons (.lent _ _ _ _ _ _) (.cons (.lent _ _ _ _ _ _) .nil)), ?_⟩, ?_⟩) | (with_reducible refine ⟨_, ⟨(.cons (.v _) .nil), ?_⟩, ?_⟩) | (with_reducible refine ⟨(l, l), ⟨.cons (le_view (by with_unfolding_all exact rfl) (by with_unfolding_all exact rfl) (by with_unfolding_all exact rfl) ?_ ?_) (.cons (.lent _ _ _ _ _ _) .nil), ?_⟩, ?_⟩) | (with_reducible refine ⟨(), ⟨.nil, ?_⟩, ?_⟩) | (with_reducible first | exact fun h => h | refine ExE.row (by with_unfolding_all rfl) ?_ | refine And.intro ?_ ?_) | ((with_reducible intro hq); first | exact bne1 hq (by with_reducible assumption) | exact bne1 (by with_reducible assumption) hq | ((simp only [*, BB, cond_true, cond_false, reduceCtorEq] at hq); done) | (revert hq; with_reducible intro _)) | (with_reducible first | exact True.intro | rfl | refine EntLe.row ?_ | exact LeN.ro rfl | exact LeN.rptr | assumption) | ((with_reducible first | refine WkX.chk ?_ | refine Wk.chk ?_ | refine LeL.chk ?_ | refine LeF.chk ?_ | refine Run.mk ?_); (conv => whnf)) | ((with_reducible show LeO _ _); first | refine LeO.ro ?_ | refine LeO.roCap ?_ | refine LeO.nil ?_ (fun _ => rfl)) | ((with_reducible show LeR _ _ _); first | refine LeR.own rfl rfl rfl ?_ | refine LeR.view rfl rfl rfl ?_ ?_ | refine LeR.ro ?_ | refine LeR.roCap ?_ | refine LeR.nil ?_ (fun _ => rfl)) | ((with_reducible first | show drawOK _ _ = true | show lateOK _ _ = true | show drawOK2 _ _ = true | show drawOK3 _ _ = true); kernel_rfl))
  all_goals (try first | omega | (apply Fits.i64 <;> omega) | exact hvl | exact hok | (dsimp only; omega) | exact ⟨rfl, hrl⟩ | (simp only [List.length_append, List.length_cons, List.length_nil, List.length_replicate, e3]; omega) | rfl)
  refine loopA2 8 0 C_asg 62 (T := T) ⟨fun _ => rfl, by decide, _, rfl, rfl, by decide⟩ (by rfl) (by with_unfolding_all exact rfl) (by with_unfolding_all exact rfl) 9 0 C_att 45 ⟨fun _ => rfl, by decide, _, rfl, rfl, by decide⟩ (by rfl) (by with_unfolding_all exact rfl) (by with_unfolding_all exact rfl) Nat [] (fun _ => [])
    (fun i => [(19, .iter s (posS s i)), (20, .row C_asg ((sgns s).take i) 62 none), (21, .row C_att ((looksL (sgN s) l).take i) 45 none), (15, .box [.v (.int .i64 (i : Nat))] 3)]) (fun i => i ≤ sgN s) (fun i => sgN s - i) 0 (Nat.zero_le _) (Wk.chk ?_) fun i hi => ?_
  · ((conv => whnf); repeat' (first | (with_reducible first | exact fun h => h | refine ExE.row (by with_unfolding_all rfl) ?_ | refine And.intro ?_ ?_) | ((with_reducible intro hq); first | exact bne1 hq (by with_reducible assumption) | exact bne1 (by with_reducible assumption) hq | ((simp only [*, BB, cond_true, cond_false, reduceCtorEq] at hq); done) | (revert hq; with_reducible intro _)) | (with_reducible first | exact True.intro | rfl | refine EntLe.row ?_ | exact LeN.ro rfl | exact LeN.rptr | assumption) | ((with_reducible first | refine WkX.chk ?_ | refine Wk.chk ?_ | refine LeL.chk ?_ | refine LeF.chk ?_ | refine Run.mk ?_); (conv => whnf)) | ((with_reducible show LeO _ _); first | refine LeO.ro ?_ | refine LeO.roCap ?_ | refine LeO.nil ?_ (fun _ => rfl)) | ((with_reducible show LeR _ _ _); first | refine LeR.own rfl rfl rfl ?_ | refine LeR.view rfl rfl rfl ?_ ?_ | refine LeR.ro ?_ | refine LeR.roCap ?_ | refine LeR.nil ?_ (fun _ => rfl)) | ((with_reducible first | show drawOK _ _ = true | show lateOK _ _ = true | show drawOK2 _ _ = true | show drawOK3 _ _ = true); kernel_rfl)))
    all_goals first
      | rfl
      | (rw [posS_zero]; done)
      | trace_state
  have hi : i ≤ sgN s := hi
  by_cases hil : i < sgN s
  · have hsa := sgns_at s hil
    obtain ⟨q1, q2, q3⟩ := hsa
    have hw := width_pos s (posS s i)
    have hwl := width_le q2
    have hmax := rune_max s (posS s i)
    have e1 : ((posS s i : Nat) : Int).toNat = posS s i := Int.toNat_natCast _
    have e2 : ((i : Nat) : Int).toNat = i := Int.toNat_natCast _
    have hd : C_att.d = zA := rfl
    have hbd := bad_eq s (posS s i)
    have hst1 : (sgns s).take i ++ [⟨((posS s i : Nat) : Int), (((Utf8.decode s (posS s i)).2 : Nat) : Int), (((Utf8.decode s (posS s i)).1 : Nat) : Int), ((((Utf8.decode s (posS s i)).1 : Nat) : Int) == 65533 && (((Utf8.decode s (posS s i)).2 : Nat) : Int) == 1)⟩] = (sgns s).take (i + 1) := by
      rw [hbd, ← take_one (sgns s) ⟨0, 0, 0, false⟩ (by omega), q1]
      rfl
    have hst2 : (looksL (sgN s) l).take i ++ [(looksL (sgN s) l).getD i zA] = (looksL (sgN s) l).take (i + 1) := take_one _ _ (by omega)
    have hl1 : ((sgns s).take i).length = i := by rw [List.length_take]; omega
    have hl2 : ((looksL (sgN s) l).take i).length = i := by rw [List.length_take]; omega
    repeat' (first | (with_reducible first | exact fun h => h | refine ExE.row (by with_unfolding_all rfl) ?_ | refine And.intro ?_ ?_) | ((with_reducible intro hq); first | exact bne1 hq (by with_reducible assumption) | exact bne1 (by with_reducible assumption) hq | ((simp only [*, BB, cond_true, cond_false, reduceCtorEq] at hq); done) | (revert hq; with_reducible intro _)) | (with_reducible first | exact True.intro | rfl | refine EntLe.row ?_ | exact LeN.ro rfl | exact LeN.rptr | assumption) | ((with_reducible first | refine WkX.chk ?_ | refine Wk.chk ?_ | refine LeL.chk ?_ | refine LeF.chk ?_ | refine Run.mk ?_); (conv => whnf)) | ((with_reducible show LeO _ _); first | refine LeO.ro ?_ | refine LeO.roCap ?_ | refine LeO.nil ?_ (fun _ => rfl)) | ((with_reducible show LeR _ _ _); first | refine LeR.own rfl rfl rfl ?_ | refine LeR.view rfl rfl rfl ?_ ?_ | refine LeR.ro ?_ | refine LeR.roCap ?_ | refine LeR.nil ?_ (fun _ => rfl)) | ((with_reducible first | show drawOK _ _ = true | show lateOK _ _ = true | show drawOK2 _ _ = true | show drawOK3 _ _ = true); kernel_rfl))
    any_goals omega
    refine joinI Unit [] (fun _ => [(5, .v (.int .i64 ((Utf8.decode s (posS s i)).2 : Nat)))]) (fun _ => []) (fun _ => True) ?_ fun _ _ => ?_
    · by_cases hr : (((Utf8.decode s (posS s i)).1 : Nat) : Int) = 65533
      · have k1 : ((((Utf8.decode s (posS s i)).1 : Nat) : Int) != 65533) = false := by rw [hr]; rfl
        have hpf : (decide ((badL.size : Int) ≤ ((s.extract ((posS s i : Nat) : Int).toNat s.size).size : Int)) && decide ((s.extract ((posS s i : Nat) : Int).toNat s.size).extract 0 ((badL.size : Nat) : Int).toNat = badL)) = decide ((Utf8.decode s (posS s i)).2 = 3) := by
          rw [e1]
          exact pref_iff q2 hr
        have h13 := dec_bad hr
        rcases h13 with h13 | h13
        · have hpf := hpf.trans (show decide ((Utf8.decode s (posS s i)).2 = 3) = false from by rw [h13]; rfl)
          repeat' (first | (with_reducible refine ⟨(_, badL), ⟨(.cons (.v _) (.cons (.v _) .nil)), ?_⟩, ?_⟩) | (with_reducible refine ex_of () trivial ?_) | (with_reducible first | exact fun h => h | refine ExE.row (by with_unfolding_all rfl) ?_ | refine And.intro ?_ ?_) | ((with_reducible intro hq); first | exact bne1 hq (by with_reducible assumption) | exact bne1 (by with_reducible assumption) hq | ((simp only [*, BB, cond_true, cond_false, reduceCtorEq] at hq); done) | (revert hq; with_reducible intro _)) | (with_reducible first | exact True.intro | rfl | refine EntLe.row ?_ | exact LeN.ro rfl | exact LeN.rptr | assumption) | ((with_reducible first | refine WkX.chk ?_ | refine Wk.chk ?_ | refine LeL.chk ?_ | refine LeF.chk ?_ | refine Run.mk ?_); (conv => whnf)) | ((with_reducible show LeO _ _); first | refine LeO.ro ?_ | refine LeO.roCap ?_ | refine LeO.nil ?_ (fun _ => rfl)) | ((with_reducible show LeR _ _ _); first | refine LeR.own rfl rfl rfl ?_ | refine LeR.view rfl rfl rfl ?_ ?_ | refine LeR.ro ?_ | refine LeR.roCap ?_ | refine LeR.nil ?_ (fun _ => rfl)) | ((with_reducible first | show drawOK _ _ = true | show lateOK _ _ = true | show drawOK2 _ _ = true | show drawOK3 _ _ = true); kernel_rfl))
          all_goals first
            | omega
            | (rw [h13]; rfl)
            | trace_state
        · have hpf := hpf.trans (show decide ((Utf8.decode s (posS s i)).2 = 3) = true from by rw [h13]; rfl)
          repeat' (first | (with_reducible refine ⟨(_, badL), ⟨(.cons (.v _) (.cons (.v _) .nil)), ?_⟩, ?_⟩) | (with_reducible refine ex_of () trivial ?_) | (with_reducible first | exact fun h => h | refine ExE.row (by with_unfolding_all rfl) ?_ | refine And.intro ?_ ?_) | ((with_reducible intro hq); first | exact bne1 hq (by with_reducible assumption) | exact bne1 (by with_reducible assumption) hq | ((simp only [*, BB, cond_true, cond_false, reduceCtorEq] at hq); done) | (revert hq; with_reducible intro _)) | (with_reducible first | exact True.intro | rfl | refine EntLe.row ?_ | exact LeN.ro rfl | exact LeN.rptr | assumption) | ((with_reducible first | refine WkX.chk ?_ | refine Wk.chk ?_ | refine LeL.chk ?_ | refine LeF.chk ?_ | refine Run.mk ?_); (conv => whnf)) | ((with_reducible show LeO _ _); first | refine LeO.ro ?_ | refine LeO.roCap ?_ | refine LeO.nil ?_ (fun _ => rfl)) | ((with_reducible show LeR _ _ _); first | refine LeR.own rfl rfl rfl ?_ | refine LeR.view rfl rfl rfl ?_ ?_ | refine LeR.ro ?_ | refine LeR.roCap ?_ | refine LeR.nil ?_ (fun _ => rfl)) | ((with_reducible first | show drawOK _ _ = true | show lateOK _ _ = true | show drawOK2 _ _ = true | show drawOK3 _ _ = true); kernel_rfl))
          all_goals first
            | omega
            | (rw [h13]; rfl)
            | trace_state
      · have k1 : ((((Utf8.decode s (posS s i)).1 : Nat) : Int) != 65533) = true := by simpa using hr
        have hg := dec_good hr
        repeat' (first | (with_reducible refine ⟨(((Utf8.decode s (posS s i)).1 : Nat) : Int), ⟨(.cons (.v _) .nil), ?_⟩, ?_⟩) | (with_reducible refine ex_of () trivial ?_) | (with_reducible first | exact fun h => h | refine ExE.row (by with_unfolding_all rfl) ?_ | refine And.intro ?_ ?_) | ((with_reducible intro hq); first | exact bne1 hq (by with_reducible assumption) | exact bne1 (by with_reducible assumption) hq | ((simp only [*, BB, cond_true, cond_false, reduceCtorEq] at hq); done) | (revert hq; with_reducible intro _)) | (with_reducible first | exact True.intro | rfl | refine EntLe.row ?_ | exact LeN.ro rfl | exact LeN.rptr | assumption) | ((with_reducible first | refine WkX.chk ?_ | refine Wk.chk ?_ | refine LeL.chk ?_ | refine LeF.chk ?_ | refine Run.mk ?_); (conv => whnf)) | ((with_reducible show LeO _ _); first | refine LeO.ro ?_ | refine LeO.roCap ?_ | refine LeO.nil ?_ (fun _ => rfl)) | ((with_reducible show LeR _ _ _); first | refine LeR.own rfl rfl rfl ?_ | refine LeR.view rfl rfl rfl ?_ ?_ | refine LeR.ro ?_ | refine LeR.roCap ?_ | refine LeR.nil ?_ (fun _ => rfl)) | ((with_reducible first | show drawOK _ _ = true | show lateOK _ _ = true | show drawOK2 _ _ = true | show drawOK3 _ _ = true); kernel_rfl))
        all_goals first
          | omega
          | exact hg
          | trace_state
    repeat' (first | (with_reducible refine ex_of (α := Nat) (i + 1) ⟨?_, ?_⟩ ?_) | (with_reducible first | exact fun h => h | refine ExE.row (by with_unfolding_all rfl) ?_ | refine And.intro ?_ ?_) | ((with_reducible intro hq); first | exact bne1 hq (by with_reducible assumption) | exact bne1 (by with_reducible assumption) hq | ((simp only [*, BB, cond_true, cond_false, reduceCtorEq] at hq); done) | (revert hq; with_reducible intro _)) | (with_reducible first | exact True.intro | rfl | refine EntLe.row ?_ | exact LeN.ro rfl | exact LeN.rptr | assumption) | ((with_reducible first | refine WkX.chk ?_ | refine Wk.chk ?_ | refine LeL.chk ?_ | refine LeF.chk ?_ | refine Run.mk ?_); (conv => whnf)) | ((with_reducible show LeO _ _); first | refine LeO.ro ?_ | refine LeO.roCap ?_ | refine LeO.nil ?_ (fun _ => rfl)) | ((with_reducible show LeR _ _ _); first | refine LeR.own rfl rfl rfl ?_ | refine LeR.view rfl rfl rfl ?_ ?_ | refine LeR.ro ?_ | refine LeR.roCap ?_ | refine LeR.nil ?_ (fun _ => rfl)) | ((with_reducible first | show drawOK _ _ = true | show lateOK _ _ = true | show drawOK2 _ _ = true | show drawOK3 _ _ = true); kernel_rfl))
    all_goals first
      | omega
      | (apply Fits.i64 <;> omega)
      | (dsimp only; omega)
      | rfl
      | exact hst1
      | (show (((sgns s).take i).length + 1) * 24 ≤ 140737488355328; omega)
      | (show (((looksL (sgN s) l).take i).length + 1) * 16 ≤ 140737488355328; omega)
      | (rw [e2, hd]; exact hst2)
      | (rw [q3]; done)
      | trace_state
  have hii : i = sgN s := by omega
  subst hii
  have hend := posS_end s
  have hT1 : (sgns s).take (sgN s) = sgns s := take_all _ (by omega)
  have hT2 : (looksL (sgN s) l).take (sgN s) = looksL (sgN s) l := take_all _ (by omega)
  repeat' (first | (with_reducible refine ex_of (α := List Spn) l ⟨rfl, rfl, fun _ => rfl⟩ ?_) | (with_reducible refine ⟨(s, l, k), ⟨.cons (.agg (.cons (.v _) (.cons (le_view (by with_unfolding_all exact rfl) (by with_unfolding_all exact rfl) (by with_unfolding_all exact rfl) ?_ ?_) .nil))) (.cons (.v _) .nil), ?_⟩, ?_⟩) | (with_reducible refine ⟨(s, l), ⟨.cons (.agg (.cons (.v _) (.cons (le_view (by with_unfolding_all exact rfl) (by with_unfolding_all exact rfl) (by with_unfolding_all exact rfl) ?_ ?_) .nil))) .nil, ?_⟩, ?_⟩) | (with_reducible refine ⟨(s, l, k), ⟨(.cons (.agg (.cons (.v _) (.cons (.lent _ _ _ _ _ _) .nil))) (.cons (.v _) .nil)), ?_⟩, ?_⟩) | (with_reducible refine ⟨(s, l), ⟨(.cons (.agg (.cons (.v _) (.cons (.lent _ _ _ _ _ _) .nil))) .nil), ?_⟩, ?_⟩) | (with_reducible refine ⟨(_, _), ⟨(.cons (.lent _ _ _ _ _ _) (.cons (.lent _ _ _ _ _ _) .nil)), ?_⟩, ?_⟩) | (with_reducible refine ⟨_, ⟨(.cons (.v _) .nil), ?_⟩, ?_⟩) | (with_reducible refine ⟨(l, l), ⟨.cons (le_view (by with_unfolding_all exact rfl) (by with_unfolding_all exact rfl) (by with_unfolding_all exact rfl) ?_ ?_) (.cons (.lent _ _ _ _ _ _) .nil), ?_⟩, ?_⟩) | (with_reducible refine ⟨(), ⟨.nil, ?_⟩, ?_⟩) | (with_reducible first | exact fun h => h | refine ExE.row (by with_unfolding_all rfl) ?_ | refine And.intro ?_ ?_) | ((with_reducible intro hq); first | exact bne1 hq (by with_reducible assumption) | exact bne1 (by with_reducible assumption) hq | ((simp only [*, BB, cond_true, cond_false, reduceCtorEq] at hq); done) | (revert hq; with_reducible intro _)) | (with_reducible first | exact True.intro | rfl | refine EntLe.row ?_ | exact LeN.ro rfl | exact LeN.rptr | assumption) | ((with_reducible first | refine WkX.chk ?_ | refine Wk.chk ?_ | refine LeL.chk ?_ | refine LeF.chk ?_ | refine Run.mk ?_); (conv => whnf)) | ((with_reducible show LeO _ _); first | refine LeO.ro ?_ | refine LeO.roCap ?_ | refine LeO.nil ?_ (fun _ => rfl)) | ((with_reducible show LeR _ _ _); first | refine LeR.own rfl rfl rfl ?_ | refine LeR.view rfl rfl rfl ?_ ?_ | refine LeR.ro ?_ | refine LeR.roCap ?_ | refine LeR.nil ?_ (fun _ => rfl)) | ((with_reducible first | show drawOK _ _ = true | show lateOK _ _ = true | show drawOK2 _ _ = true | show drawOK3 _ _ = true); kernel_rfl))
  all_goals (try (exfalso; omega))
  all_goals (try first | omega | (apply Fits.i64 <;> omega) | exact hvl | exact hok | (dsimp only; omega) | exact ⟨rfl, hrl⟩ | (simp only [List.length_append, List.length_cons, List.length_nil, List.length_replicate, e3]; omega) | rfl)
  refine loopI Nat [] (fun i => [(7, .v (.int .i64 (i : Nat))), (6, .sb true)]) (fun i => [(3, .row C_spnP (bkTo ovr (l ++ [mrk]) i) 71 (some ((l.length : Int) + 3).toNat))]) (fun i => i ≤ l.length + 1) (fun i => l.length + 1 - i) 0 (Nat.zero_le _) (Wk.chk ?_) fun i hi => ?_
  · ((conv => whnf); repeat' (first | (with_reducible first | exact fun h => h | refine ExE.row (by with_unfolding_all rfl) ?_ | refine And.intro ?_ ?_) | ((with_reducible intro hq); first | exact bne1 hq (by with_reducible assumption) | exact bne1 (by with_reducible assumption) hq | ((simp only [*, BB, cond_true, cond_false, reduceCtorEq] at hq); done) | (revert hq; with_reducible intro _)) | (with_reducible first | exact True.intro | rfl | refine EntLe.row ?_ | exact LeN.ro rfl | exact LeN.rptr | assumption) | ((with_reducible first | refine WkX.chk ?_ | refine Wk.chk ?_ | refine LeL.chk ?_ | refine LeF.chk ?_ | refine Run.mk ?_); (conv => whnf)) | ((with_reducible show LeO _ _); first | refine LeO.ro ?_ | refine LeO.roCap ?_ | refine LeO.nil ?_ (fun _ => rfl)) | ((with_reducible show LeR _ _ _); first | refine LeR.own rfl rfl rfl ?_ | refine LeR.view rfl rfl rfl ?_ ?_ | refine LeR.ro ?_ | refine LeR.roCap ?_ | refine LeR.nil ?_ (fun _ => rfl)) | ((with_reducible first | show drawOK _ _ = true | show lateOK _ _ = true | show drawOK2 _ _ = true | show drawOK3 _ _ = true); kernel_rfl)))
    all_goals first
      | rfl
      | exact hE4
      | (rw [bk_zero]; rfl)
      | trace_state
  have hi : i ≤ l.length + 1 := hi
  have hbl := bk_len ovr (R := l ++ [mrk]) (i := i) (by omega)
  by_cases hil : i < l.length + 1
  · have hlt : decide ((i : Int) < ((((l.length : Int) + 1).toNat : Nat) : Int)) = true := decide_eq_true (by omega)
    have hst := bk_step ovr (R := l ++ [mrk]) (i := i) (by omega)
    have hst' : (bkTo ovr (l ++ [mrk]) i).set (((0 : Nat) : Int) + (i : Int)).toNat ovr = bkTo ovr (l ++ [mrk]) (i + 1) := by rw [show (((0 : Nat) : Int) + (i : Int)).toNat = i by omega]; exact hst
    repeat' (first | (with_reducible refine ex_of (α := Nat) (i + 1) ⟨?_, ?_⟩ ?_) | (with_reducible first | exact fun h => h | refine ExE.row (by with_unfolding_all rfl) ?_ | refine And.intro ?_ ?_) | ((with_reducible intro hq); first | exact bne1 hq (by with_reducible assumption) | exact bne1 (by with_reducible assumption) hq | ((simp only [*, BB, cond_true, cond_false, reduceCtorEq] at hq); done) | (revert hq; with_reducible intro _)) | (with_reducible first | exact True.intro | rfl | refine EntLe.row ?_ | exact LeN.ro rfl | exact LeN.rptr | assumption) | ((with_reducible first | refine WkX.chk ?_ | refine Wk.chk ?_ | refine LeL.chk ?_ | refine LeF.chk ?_ | refine Run.mk ?_); (conv => whnf)) | ((with_reducible show LeO _ _); first | refine LeO.ro ?_ | refine LeO.roCap ?_ | refine LeO.nil ?_ (fun _ => rfl)) | ((with_reducible show LeR _ _ _); first | refine LeR.own rfl rfl rfl ?_ | refine LeR.view rfl rfl rfl ?_ ?_ | refine LeR.ro ?_ | refine LeR.roCap ?_ | refine LeR.nil ?_ (fun _ => rfl)) | ((with_reducible first | show drawOK _ _ = true | show lateOK _ _ = true | show drawOK2 _ _ = true | show drawOK3 _ _ = true); kernel_rfl))
    all_goals first
      | omega
      | (apply Fits.i64 <;> omega)
      | (dsimp only; omega)
      | (with_reducible rfl)
      | (dsimp only [C_spn]; done)
      | exact hst'
      | trace_state
  have hlt : decide ((i : Int) < ((((l.length : Int) + 1).toNat : Nat) : Int)) = false := decide_eq_false (by omega)
  have z0 : (!!true) = true := rfl
  have z1 : ((((looksL (sgN s) l).take (sgN s)).length : Int) != ((looksL (sgN s) l).length : Int)) = false := by rw [hT2]; simp
  have z2 : (!true || ((((looksL (sgN s) l).take (sgN s)).length : Int) != ((looksL (sgN s) l).length : Int))) = false := by rw [z1]; rfl
  repeat' (first | (with_reducible refine ex_of (α := List Spn) l ⟨rfl, rfl, fun _ => rfl⟩ ?_) | (with_reducible refine ⟨(s, l, k), ⟨.cons (.agg (.cons (.v _) (.cons (le_view (by with_unfolding_all exact rfl) (by with_unfolding_all exact rfl) (by with_unfolding_all exact rfl) ?_ ?_) .nil))) (.cons (.v _) .nil), ?_⟩, ?_⟩) | (with_reducible refine ⟨(s, l), ⟨.cons (.agg (.cons (.v _) (.cons (le_view (by with_unfolding_all exact rfl) (by with_unfolding_all exact rfl) (by with_unfolding_all exact rfl) ?_ ?_) .nil))) .nil, ?_⟩, ?_⟩) | (with_reducible refine ⟨(s, l, k), ⟨(.cons (.agg (.cons (.v _) (.cons (.lent _ _ _ _ _ _) .nil))) (.cons (.v _) .nil)), ?_⟩, ?_⟩) | (with_reducible refine ⟨(s, l), ⟨(.cons (.agg (.cons (.v _) (.cons (.lent _ _ _ _ _ _) .nil))) .nil), ?_⟩, ?_⟩) | (with_reducible refine ⟨(_, _), ⟨(.cons (.lent _ _ _ _ _ _) (.cons (.lent _ _ _ _ _ _) .nil)), ?_⟩, ?_⟩) | (with_reducible refine ⟨_, ⟨(.cons (.v _) .nil), ?_⟩, ?_⟩) | (with_reducible refine ⟨(_, _), ⟨(.cons (.own (by with_unfolding_all exact rfl) (by with_unfolding_all exact rfl) (by with_unfolding_all exact rfl)) (.cons (.lent _ _ _ _ _ _) .nil)), ?_⟩, ?_⟩) | (with_reducible refine ⟨(l, l), ⟨.cons (le_view (by with_unfolding_all exact rfl) (by with_unfolding_all exact rfl) (by with_unfolding_all exact rfl) ?_ ?_) (.cons (.lent _ _ _ _ _ _) .nil), ?_⟩, ?_⟩) | (with_reducible refine ⟨(), ⟨.nil, ?_⟩, ?_⟩) | (with_reducible first | exact fun h => h | refine ExE.row (by with_unfolding_all rfl) ?_ | refine And.intro ?_ ?_) | ((with_reducible intro hq); first | exact bne1 hq (by with_reducible assumption) | exact bne1 (by with_reducible assumption) hq | ((simp only [*, BB, cond_true, cond_false, reduceCtorEq] at hq); done) | (revert hq; with_reducible intro _)) | (with_reducible first | exact True.intro | rfl | refine EntLe.row ?_ | exact LeN.ro rfl | exact LeN.rptr | assumption) | ((with_reducible first | refine WkX.chk ?_ | refine Wk.chk ?_ | refine LeL.chk ?_ | refine LeF.chk ?_ | refine Run.mk ?_); (conv => whnf)) | ((with_reducible show LeO _ _); first | refine LeO.ro ?_ | refine LeO.roCap ?_ | refine LeO.nil ?_ (fun _ => rfl)) | ((with_reducible show LeR _ _ _); first | refine LeR.own rfl rfl rfl ?_ | refine LeR.view rfl rfl rfl ?_ ?_ | refine LeR.ro ?_ | refine LeR.roCap ?_ | refine LeR.nil ?_ (fun _ => rfl)) | ((with_reducible first | show drawOK _ _ = true | show lateOK _ _ = true | show drawOK2 _ _ = true | show drawOK3 _ _ = true); kernel_rfl))
  all_goals (try first | omega | exact hok | (dsimp only; omega) | (rw [hT1]; omega) | (have hxx := sgns_rune _ (List.mem_of_mem_take (by assumption)); omega))
  refine loopI Nat [] (fun j => [(19, .v (.int .i64 (j : Nat)))]) (fun _ => []) (fun j => j ≤ sgN s) (fun j => sgN s - j) 0 (Nat.zero_le _) (Wk.chk ?_) fun j hj => ?_
  · ((conv => whnf); repeat' (first | (with_reducible first | exact fun h => h | refine ExE.row (by with_unfolding_all rfl) ?_ | refine And.intro ?_ ?_) | ((with_reducible intro hq); first | exact bne1 hq (by with_reducible assumption) | exact bne1 (by with_reducible assumption) hq | ((simp only [*, BB, cond_true, cond_false, reduceCtorEq] at hq); done) | (revert hq; with_reducible intro _)) | (with_reducible first | exact True.intro | rfl | refine EntLe.row ?_ | exact LeN.ro rfl | exact LeN.rptr | assumption) | ((with_reducible first | refine WkX.chk ?_ | refine Wk.chk ?_ | refine LeL.chk ?_ | refine LeF.chk ?_ | refine Run.mk ?_); (conv => whnf)) | ((with_reducible show LeO _ _); first | refine LeO.ro ?_ | refine LeO.roCap ?_ | refine LeO.nil ?_ (fun _ => rfl)) | ((with_reducible show LeR _ _ _); first | refine LeR.own rfl rfl rfl ?_ | refine LeR.view rfl rfl rfl ?_ ?_ | refine LeR.ro ?_ | refine LeR.roCap ?_ | refine LeR.nil ?_ (fun _ => rfl)) | ((with_reducible first | show drawOK _ _ = true | show lateOK _ _ = true | show drawOK2 _ _ = true | show drawOK3 _ _ = true); kernel_rfl)))
    all_goals first
      | rfl
      | trace_state
  have hj : j ≤ sgN s := hj
  have e2 : ((j : Nat) : Int).toNat = j := Int.toNat_natCast _
  by_cases hjl : j < sgN s
  · have hlt2 : decide ((j : Int) < ((looksL (sgN s) l).length : Int)) = true := decide_eq_true (by omega)
    have hjt : j < ((looksL (sgN s) l).take (sgN s)).length := by rw [hT2]; omega
    have hW : (!((((looksL (sgN s) l).take (sgN s)).getD ((j : Nat) : Int).toNat C_att.d).bold == ((looksL (sgN s) l).getD ((j : Nat) : Int).toNat C_att.d).bold && ((((looksL (sgN s) l).take (sgN s)).getD ((j : Nat) : Int).toNat C_att.d).italic == ((looksL (sgN s) l).getD ((j : Nat) : Int).toNat C_att.d).italic && ((((looksL (sgN s) l).take (sgN s)).getD ((j : Nat) : Int).toNat C_att.d).under == ((looksL (sgN s) l).getD ((j : Nat) : Int).toNat C_att.d).under && ((((looksL (sgN s) l).take (sgN s)).getD ((j : Nat) : Int).toNat C_att.d).strike == ((looksL (sgN s) l).getD ((j : Nat) : Int).toNat C_att.d).strike && ((((looksL (sgN s) l).take (sgN s)).getD ((j : Nat) : Int).toNat C_att.d).colour == ((looksL (sgN s) l).getD ((j : Nat) : Int).toNat C_att.d).colour)))))) = false := by rw [hT2]; simp
    repeat' (first | (with_reducible refine ex_of (α := Nat) (j + 1) ⟨?_, ?_⟩ ?_) | (with_reducible first | exact fun h => h | refine ExE.row (by with_unfolding_all rfl) ?_ | refine And.intro ?_ ?_) | ((with_reducible intro hq); first | exact bne1 hq (by with_reducible assumption) | exact bne1 (by with_reducible assumption) hq | ((simp only [*, BB, cond_true, cond_false, reduceCtorEq] at hq); done) | (revert hq; with_reducible intro _)) | (with_reducible first | exact True.intro | rfl | refine EntLe.row ?_ | exact LeN.ro rfl | exact LeN.rptr | assumption) | ((with_reducible first | refine WkX.chk ?_ | refine Wk.chk ?_ | refine LeL.chk ?_ | refine LeF.chk ?_ | refine Run.mk ?_); (conv => whnf)) | ((with_reducible show LeO _ _); first | refine LeO.ro ?_ | refine LeO.roCap ?_ | refine LeO.nil ?_ (fun _ => rfl)) | ((with_reducible show LeR _ _ _); first | refine LeR.own rfl rfl rfl ?_ | refine LeR.view rfl rfl rfl ?_ ?_ | refine LeR.ro ?_ | refine LeR.roCap ?_ | refine LeR.nil ?_ (fun _ => rfl)) | ((with_reducible first | show drawOK _ _ = true | show lateOK _ _ = true | show drawOK2 _ _ = true | show drawOK3 _ _ = true); kernel_rfl))
    all_goals first
      | omega
      | (apply Fits.i64 <;> omega)
      | (dsimp only; omega)
      | (with_reducible rfl)
      | trace_state
  have hlt2 : decide ((j : Int) < ((looksL (sgN s) l).length : Int)) = false := decide_eq_false (by omega)
  repeat' (first | (with_reducible refine ⟨(), ⟨.nil, ?_⟩, ?_⟩) | (with_reducible first | exact fun h => h | refine ExE.row (by with_unfolding_all rfl) ?_ | refine And.intro ?_ ?_) | ((with_reducible intro hq); first | exact bne1 hq (by with_reducible assumption) | exact bne1 (by with_reducible assumption) hq | ((simp only [*, BB, cond_true, cond_false, reduceCtorEq] at hq); done) | (revert hq; with_reducible intro _)) | (with_reducible first | exact True.intro | rfl | refine EntLe.row ?_ | exact LeN.ro rfl | exact LeN.rptr | assumption) | ((with_reducible first | refine WkX.chk ?_ | refine Wk.chk ?_ | refine LeL.chk ?_ | refine LeF.chk ?_ | refine Run.mk ?_); (conv => whnf)) | ((with_reducible show LeO _ _); first | refine LeO.ro ?_ | refine LeO.roCap ?_ | refine LeO.nil ?_ (fun _ => rfl)) | ((with_reducible show LeR _ _ _); first | refine LeR.own rfl rfl rfl ?_ | refine LeR.view rfl rfl rfl ?_ ?_ | refine LeR.ro ?_ | refine LeR.roCap ?_ | refine LeR.nil ?_ (fun _ => rfl)) | ((with_reducible first | show drawOK _ _ = true | show lateOK _ _ = true | show drawOK2 _ _ = true | show drawOK3 _ _ = true); kernel_rfl))
  all_goals first
    | rfl
    | trace_state
end Go.SX.Try
