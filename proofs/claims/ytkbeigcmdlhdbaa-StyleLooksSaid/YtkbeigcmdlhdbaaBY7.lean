/- A verified symbolic executor for Go code in the model, contracts and plain laws that the proofs lean on, part 7. -/
import Derived.Test.YtkbeigcmdlhdbaaBY6
import Derived.Deep.Fields
import Derived.SizedLaws
set_option linter.unusedVariables false
set_option linter.unusedSimpArgs false
/- The law StyleSplices: true, whatever the input. -/
namespace Go.SX.Try
open Go.Proofs Go.Proofs.Try Go.SX.Plain
set_option maxRecDepth 100000
set_option maxHeartbeats 0
set_option linter.unusedSimpArgs false
theorem q_styleSplices : fact 3 f3 := ⟨by kernel_rfl, rfl, by kernel_rfl⟩
theorem q_lend : fact 15 f15 := ⟨by kernel_rfl, rfl, by kernel_rfl⟩
theorem q_back : fact 18 f18 := ⟨by kernel_rfl, rfl, by kernel_rfl⟩
abbrev C_spnP : Cdc Spn := { size := C_spn.size, enc := C_spn.enc, dec := C_spn.dec, d := C_spn.d, pl := true }
def D_spnP : Cds := [(71, ⟨Spn, C_spnP⟩)]
theorem D_spnP_ok : CdsOK T D_spnP := .cons ⟨fun _ => rfl, by decide, _, rfl, rfl, by decide⟩ .nil
def mrk : Spn := ⟨-77, 0, 0, 0⟩
def ovr : Spn := ⟨7, 9, 1, 0⟩
theorem le_view {m : Mem} {α : Type} {C : Cdc α} {s n lo u t : Nat} {en : α → List AV} {l l' : List α} {cap : Option Nat} {d : α} (he : getE m n = some (.row C l t cap)) (hC : C.size = s) (hen : C.enc = en) (hlu : lo + u ≤ l.length) (hl : (l.drop lo).take u = l') :
    LeA m (.view n s lo u) (.ro s en d l' none true) := hl ▸ LeA.view he hC hen hlu
theorem con_styleSplices : Con prog 3 (fun ((s, l, f, t, s2, l2) : ByteArray × List Spn × Int × Int × ByteArray × List Spn) => [txAV s l, .v (.int .i64 f), .v (.int .i64 t), txAV s2 l2]) (fun _ => .v (.bool true))
    (fun (_, l, _, _, _, l2) => l.length * 32 ≤ 140737488351232 ∧ l2.length * 32 ≤ 140737488351232) := by
  refine Con.of (by kernel_rfl) T_ok D_spnP_ok (.inl (J := []) q_lend.1 q_lend.2.1 q_lend.2.2 (.inl (J := []) q_back.1 q_back.2.1 q_back.2.2 (.con con_ssplice (.con con_rsplice (.con con_sameSpans (.con con_sameText (.con con_head7 .nil))))))) 5 [] q_styleSplices.1 q_styleSplices.2.1 q_styleSplices.2.2 (fun _ => rfl) fun i hi => ?_
  obtain ⟨s, l, f, t, s2, l2⟩ := i
  obtain ⟨hl, hl2⟩ : l.length * 32 ≤ 140737488351232 ∧ l2.length * 32 ≤ 140737488351232 := hi
  have hln : (l ++ [mrk]).length = l.length + 1 := by simp
  have hln2 : (l2 ++ [mrk]).length = l2.length + 1 := by simp
  have e3 : ((l.length : Int) + 3).toNat = l.length + 3 := by omega
  have e4 : ((l2.length : Int) + 3).toNat = l2.length + 3 := by omega
  have hvl : (((l ++ [mrk]).drop 0).take l.length) = l := by rw [List.drop_zero]; exact snoc_take l mrk
  have hvl2 : (((l2 ++ [mrk]).drop 0).take l2.length) = l2 := by rw [List.drop_zero]; exact snoc_take l2 mrk
  have hll : decide (l = l) = true := decide_eq_true rfl
  have hll2 : decide (l2 = l2) = true := decide_eq_true rfl
  have hE4 : (decide (l = l) && spEqB ((l ++ [mrk]).getD (((0 : Nat) : Int) + (l.length : Int)).toNat C_spnP.d) mrk) = true := by
    rw [hll, show (((0 : Nat) : Int) + (l.length : Int)).toNat = l.length by omega, snoc_at, spEqB_eq]
    simp
  have hE9 : (decide (l2 = l2) && spEqB ((l2 ++ [mrk]).getD (((0 : Nat) : Int) + (l2.length : Int)).toNat C_spnP.d) mrk) = true := by
    rw [hll2, show (((0 : Nat) : Int) + (l2.length : Int)).toNat = l2.length by omega, snoc_at, spEqB_eq]
    simp
  have hspl := splL_len s l f t s2 l2
  have hTT : (decide (splT s l f t s2 l2 = splT s l f t s2 l2) && decide (splL s l f t s2 l2 = splL s l f t s2 l2)) = true := by simp
  have hEE : (splE s l f t s2 l2 == splE s l f t s2 l2) = true := by simp
  repeat' (first | (with_reducible refine ex_of (α := List Spn) l ⟨rfl, rfl, fun _ => rfl⟩ ?_) | (with_reducible refine ex_of (α := List Spn) l2 ⟨rfl, rfl, fun _ => rfl⟩ ?_) | (with_reducible refine ⟨(s, l, f, t, s2, l2), ⟨.cons (.agg (.cons (.v _) (.cons (le_view (by with_unfolding_all exact rfl) (by with_unfolding_all exact rfl) (by with_unfolding_all exact rfl) ?_ ?_) .nil))) (.cons (.v _) (.cons (.v _) (.cons (.agg (.cons (.v _) (.cons (le_view (by with_unfolding_all exact rfl) (by with_unfolding_all exact rfl) (by with_unfolding_all exact rfl) ?_ ?_) .nil))) .nil))), ?_⟩, ?_⟩) | (with_reducible refine ⟨(s, l, f, t, s2, l2), ⟨(.cons (.agg (.cons (.v _) (.cons (.lent _ _ _ _ _ _) .nil))) (.cons (.v _) (.cons (.v _) (.cons (.agg (.cons (.v _) (.cons (.lent _ _ _ _ _ _) .nil))) .nil)))), ?_⟩, ?_⟩) | (with_reducible refine ⟨(l, l), ⟨.cons (le_view (by with_unfolding_all exact rfl) (by with_unfolding_all exact rfl) (by with_unfolding_all exact rfl) ?_ ?_) (.cons (.lent _ _ _ _ _ _) .nil), ?_⟩, ?_⟩) | (with_reducible first | exact fun h => h | refine ExE.row (by with_unfolding_all rfl) ?_ | refine And.intro ?_ ?_) | ((with_reducible intro hq); first | exact bne1 hq (by with_reducible assumption) | exact bne1 (by with_reducible assumption) hq | ((simp only [*, BB, cond_true, cond_false, reduceCtorEq] at hq); done) | (revert hq; with_reducible intro _)) | (with_reducible first | exact True.intro | rfl | refine EntLe.row ?_ | exact LeN.ro rfl | exact LeN.rptr | assumption) | ((with_reducible first | refine WkX.chk ?_ | refine Wk.chk ?_ | refine LeL.chk ?_ | refine LeF.chk ?_ | refine Run.mk ?_); (conv => whnf)) | ((with_reducible show LeO _ _); first | refine LeO.ro ?_ | refine LeO.roCap ?_ | refine LeO.nil ?_ (fun _ => rfl)) | ((with_reducible show LeR _ _ _); first | refine LeR.own rfl rfl rfl ?_ | refine LeR.view rfl rfl rfl ?_ ?_ | refine LeR.ro ?_ | refine LeR.roCap ?_ | refine LeR.nil ?_ (fun _ => rfl)) | ((with_reducible first | show drawOK _ _ = true | show lateOK _ _ = true | show drawOK2 _ _ = true | show drawOK3 _ _ = true); kernel_rfl))
  all_goals (try first | omega | (apply Fits.i64 <;> omega) | exact hvl | exact hvl2 | (dsimp only; omega) | (simp only [List.length_append, List.length_cons, List.length_nil, List.length_replicate, e3, e4]; omega) | rfl)
  refine loopI Nat [] (fun i => [(7, .v (.int .i64 (i : Nat))), (6, .sb true)]) (fun i => [(4, .row C_spnP (bkTo ovr (l ++ [mrk]) i) 71 (some ((l.length : Int) + 3).toNat))]) (fun i => i ≤ l.length + 1) (fun i => l.length + 1 - i) 0 (Nat.zero_le _) (Wk.chk ?_) fun i hi => ?_
  · ((conv => whnf); repeat' (first | (with_reducible first | exact fun h => h | refine ExE.row (by with_unfolding_all rfl) ?_ | refine And.intro ?_ ?_) | ((with_reducible intro hq); first | exact bne1 hq (by with_reducible assumption) | exact bne1 (by with_reducible assumption) hq | ((simp only [*, BB, cond_true, cond_false, reduceCtorEq] at hq); done) | (revert hq; with_reducible intro _)) | (with_reducible first | exact True.intro | rfl | refine EntLe.row ?_ | exact LeN.ro rfl | exact LeN.rptr | assumption) | ((with_reducible first | refine WkX.chk ?_ | refine Wk.chk ?_ | refine LeL.chk ?_ | refine LeF.chk ?_ | refine Run.mk ?_); (conv => whnf)) | ((with_reducible show LeO _ _); first | refine LeO.ro ?_ | refine LeO.roCap ?_ | refine LeO.nil ?_ (fun _ => rfl)) | ((with_reducible show LeR _ _ _); first | refine LeR.own rfl rfl rfl ?_ | refine LeR.view rfl rfl rfl ?_ ?_ | refine LeR.ro ?_ | refine LeR.roCap ?_ | refine LeR.nil ?_ (fun _ => rfl)) | ((with_reducible first | show drawOK _ _ = true | show lateOK _ _ = true | show drawOK2 _ _ = true | show drawOK3 _ _ = true); kernel_rfl)))
    all_goals first
      | rfl
      | exact hE4
      | (rw [bk_zero]; rfl)
      | trace_state
  have hi : i ≤ l.length + 1 := hi
  have hbl := bk_len ovr (R := l ++ [mrk]) (i := i) (by omega)
  by_cases hil : i < l.length + 1
  · have hlt : decide ((i : Int) < ((((l.length : Int) + 1).toNat : Nat) : Int)) = true := decide_eq_true (by omega)
    have hst := bk_step ovr (R := l ++ [mrk]) (i := i) (by omega)
    have hst' : (bkTo ovr (l ++ [mrk]) i).set (((0 : Nat) : Int) + (i : Int)).toNat ovr = bkTo ovr (l ++ [mrk]) (i + 1) := by rw [show (((0 : Nat) : Int) + (i : Int)).toNat = i by omega]; exact hst
    repeat' (first | (with_reducible refine ex_of (α := Nat) (i + 1) ⟨?_, ?_⟩ ?_) | (with_reducible first | exact fun h => h | refine ExE.row (by with_unfolding_all rfl) ?_ | refine And.intro ?_ ?_) | ((with_reducible intro hq); first | exact bne1 hq (by with_reducible assumption) | exact bne1 (by with_reducible assumption) hq | ((simp only [*, BB, cond_true, cond_false, reduceCtorEq] at hq); done) | (revert hq; with_reducible intro _)) | (with_reducible first | exact True.intro | rfl | refine EntLe.row ?_ | exact LeN.ro rfl | exact LeN.rptr | assumption) | ((with_reducible first | refine WkX.chk ?_ | refine Wk.chk ?_ | refine LeL.chk ?_ | refine LeF.chk ?_ | refine Run.mk ?_); (conv => whnf)) | ((with_reducible show LeO _ _); first | refine LeO.ro ?_ | refine LeO.roCap ?_ | refine LeO.nil ?_ (fun _ => rfl)) | ((with_reducible show LeR _ _ _); first | refine LeR.own rfl rfl rfl ?_ | refine LeR.view rfl rfl rfl ?_ ?_ | refine LeR.ro ?_ | refine LeR.roCap ?_ | refine LeR.nil ?_ (fun _ => rfl)) | ((with_reducible first | show drawOK _ _ = true | show lateOK _ _ = true | show drawOK2 _ _ = true | show drawOK3 _ _ = true); kernel_rfl))
    all_goals first
      | omega
      | (apply Fits.i64 <;> omega)
      | (dsimp only; omega)
      | (with_reducible rfl)
      | (dsimp only [C_spn]; done)
      | exact hst'
      | trace_state
  have hlt : decide ((i : Int) < ((((l.length : Int) + 1).toNat : Nat) : Int)) = false := decide_eq_false (by omega)
  repeat' (first | (with_reducible refine ex_of (α := List Spn) l ⟨rfl, rfl, fun _ => rfl⟩ ?_) | (with_reducible refine ex_of (α := List Spn) l2 ⟨rfl, rfl, fun _ => rfl⟩ ?_) | (with_reducible refine ⟨(s, l, f, t, s2, l2), ⟨.cons (.agg (.cons (.v _) (.cons (le_view (by with_unfolding_all exact rfl) (by with_unfolding_all exact rfl) (by with_unfolding_all exact rfl) ?_ ?_) .nil))) (.cons (.v _) (.cons (.v _) (.cons (.agg (.cons (.v _) (.cons (le_view (by with_unfolding_all exact rfl) (by with_unfolding_all exact rfl) (by with_unfolding_all exact rfl) ?_ ?_) .nil))) .nil))), ?_⟩, ?_⟩) | (with_reducible refine ⟨(s, l, f, t, s2, l2), ⟨(.cons (.agg (.cons (.v _) (.cons (.lent _ _ _ _ _ _) .nil))) (.cons (.v _) (.cons (.v _) (.cons (.agg (.cons (.v _) (.cons (.lent _ _ _ _ _ _) .nil))) .nil)))), ?_⟩, ?_⟩) | (with_reducible refine ⟨(l, l), ⟨.cons (le_view (by with_unfolding_all exact rfl) (by with_unfolding_all exact rfl) (by with_unfolding_all exact rfl) ?_ ?_) (.cons (.lent _ _ _ _ _ _) .nil), ?_⟩, ?_⟩) | (with_reducible refine ⟨(l2, l2), ⟨.cons (le_view (by with_unfolding_all exact rfl) (by with_unfolding_all exact rfl) (by with_unfolding_all exact rfl) ?_ ?_) (.cons (.lent _ _ _ _ _ _) .nil), ?_⟩, ?_⟩) | (with_reducible refine ⟨(_, _, _, _), ⟨(.cons (.agg (.cons (.v _) (.cons (.lent _ _ _ _ _ _) .nil))) (.cons (.agg (.cons (.v _) (.cons (.lent _ _ _ _ _ _) .nil))) .nil)), ?_⟩, ?_⟩) | (with_reducible refine ⟨(), ⟨.nil, ?_⟩, ?_⟩) | (with_reducible first | exact fun h => h | refine ExE.row (by with_unfolding_all rfl) ?_ | refine And.intro ?_ ?_) | ((with_reducible intro hq); first | exact bne1 hq (by with_reducible assumption) | exact bne1 (by with_reducible assumption) hq | ((simp only [*, BB, cond_true, cond_false, reduceCtorEq] at hq); done) | (revert hq; with_reducible intro _)) | (with_reducible first | exact True.intro | rfl | refine EntLe.row ?_ | exact LeN.ro rfl | exact LeN.rptr | assumption) | ((with_reducible first | refine WkX.chk ?_ | refine Wk.chk ?_ | refine LeL.chk ?_ | refine LeF.chk ?_ | refine Run.mk ?_); (conv => whnf)) | ((with_reducible show LeO _ _); first | refine LeO.ro ?_ | refine LeO.roCap ?_ | refine LeO.nil ?_ (fun _ => rfl)) | ((with_reducible show LeR _ _ _); first | refine LeR.own rfl rfl rfl ?_ | refine LeR.view rfl rfl rfl ?_ ?_ | refine LeR.ro ?_ | refine LeR.roCap ?_ | refine LeR.nil ?_ (fun _ => rfl)) | ((with_reducible first | show drawOK _ _ = true | show lateOK _ _ = true | show drawOK2 _ _ = true | show drawOK3 _ _ = true); kernel_rfl))
  all_goals (try first | omega | (apply Fits.i64 <;> omega) | exact hvl | exact hvl2 | (dsimp only; omega) | (simp only [List.length_append, List.length_cons, List.length_nil, List.length_replicate, e3, e4]; omega) | rfl)
  refine loopI Nat [] (fun i => [(7, .v (.int .i64 (i : Nat))), (6, .sb true)]) (fun i => [(9, .row C_spnP (bkTo ovr (l2 ++ [mrk]) i) 71 (some ((l2.length : Int) + 3).toNat))]) (fun i => i ≤ l2.length + 1) (fun i => l2.length + 1 - i) 0 (Nat.zero_le _) (Wk.chk ?_) fun i hi => ?_
  · ((conv => whnf); repeat' (first | (with_reducible first | exact fun h => h | refine ExE.row (by with_unfolding_all rfl) ?_ | refine And.intro ?_ ?_) | ((with_reducible intro hq); first | exact bne1 hq (by with_reducible assumption) | exact bne1 (by with_reducible assumption) hq | ((simp only [*, BB, cond_true, cond_false, reduceCtorEq] at hq); done) | (revert hq; with_reducible intro _)) | (with_reducible first | exact True.intro | rfl | refine EntLe.row ?_ | exact LeN.ro rfl | exact LeN.rptr | assumption) | ((with_reducible first | refine WkX.chk ?_ | refine Wk.chk ?_ | refine LeL.chk ?_ | refine LeF.chk ?_ | refine Run.mk ?_); (conv => whnf)) | ((with_reducible show LeO _ _); first | refine LeO.ro ?_ | refine LeO.roCap ?_ | refine LeO.nil ?_ (fun _ => rfl)) | ((with_reducible show LeR _ _ _); first | refine LeR.own rfl rfl rfl ?_ | refine LeR.view rfl rfl rfl ?_ ?_ | refine LeR.ro ?_ | refine LeR.roCap ?_ | refine LeR.nil ?_ (fun _ => rfl)) | ((with_reducible first | show drawOK _ _ = true | show lateOK _ _ = true | show drawOK2 _ _ = true | show drawOK3 _ _ = true); kernel_rfl)))
    all_goals first
      | rfl
      | exact hE9
      | (rw [bk_zero]; rfl)
      | trace_state
  have hi : i ≤ l2.length + 1 := hi
  have hbl := bk_len ovr (R := l2 ++ [mrk]) (i := i) (by omega)
  by_cases hil : i < l2.length + 1
  · have hlt : decide ((i : Int) < ((((l2.length : Int) + 1).toNat : Nat) : Int)) = true := decide_eq_true (by omega)
    have hst := bk_step ovr (R := l2 ++ [mrk]) (i := i) (by omega)
    have hst' : (bkTo ovr (l2 ++ [mrk]) i).set (((0 : Nat) : Int) + (i : Int)).toNat ovr = bkTo ovr (l2 ++ [mrk]) (i + 1) := by rw [show (((0 : Nat) : Int) + (i : Int)).toNat = i by omega]; exact hst
    repeat' (first | (with_reducible refine ex_of (α := Nat) (i + 1) ⟨?_, ?_⟩ ?_) | (with_reducible first | exact fun h => h | refine ExE.row (by with_unfolding_all rfl) ?_ | refine And.intro ?_ ?_) | ((with_reducible intro hq); first | exact bne1 hq (by with_reducible assumption) | exact bne1 (by with_reducible assumption) hq | ((simp only [*, BB, cond_true, cond_false, reduceCtorEq] at hq); done) | (revert hq; with_reducible intro _)) | (with_reducible first | exact True.intro | rfl | refine EntLe.row ?_ | exact LeN.ro rfl | exact LeN.rptr | assumption) | ((with_reducible first | refine WkX.chk ?_ | refine Wk.chk ?_ | refine LeL.chk ?_ | refine LeF.chk ?_ | refine Run.mk ?_); (conv => whnf)) | ((with_reducible show LeO _ _); first | refine LeO.ro ?_ | refine LeO.roCap ?_ | refine LeO.nil ?_ (fun _ => rfl)) | ((with_reducible show LeR _ _ _); first | refine LeR.own rfl rfl rfl ?_ | refine LeR.view rfl rfl rfl ?_ ?_ | refine LeR.ro ?_ | refine LeR.roCap ?_ | refine LeR.nil ?_ (fun _ => rfl)) | ((with_reducible first | show drawOK _ _ = true | show lateOK _ _ = true | show drawOK2 _ _ = true | show drawOK3 _ _ = true); kernel_rfl))
    all_goals first
      | omega
      | (apply Fits.i64 <;> omega)
      | (dsimp only; omega)
      | (with_reducible rfl)
      | (dsimp only [C_spn]; done)
      | exact hst'
      | trace_state
  have hlt : decide ((i : Int) < ((((l2.length : Int) + 1).toNat : Nat) : Int)) = false := decide_eq_false (by omega)
  repeat' (first | (with_reducible refine ex_of (α := List Spn) l ⟨rfl, rfl, fun _ => rfl⟩ ?_) | (with_reducible refine ex_of (α := List Spn) l2 ⟨rfl, rfl, fun _ => rfl⟩ ?_) | (with_reducible refine ⟨(s, l, f, t, s2, l2), ⟨.cons (.agg (.cons (.v _) (.cons (le_view (by with_unfolding_all exact rfl) (by with_unfolding_all exact rfl) (by with_unfolding_all exact rfl) ?_ ?_) .nil))) (.cons (.v _) (.cons (.v _) (.cons (.agg (.cons (.v _) (.cons (le_view (by with_unfolding_all exact rfl) (by with_unfolding_all exact rfl) (by with_unfolding_all exact rfl) ?_ ?_) .nil))) .nil))), ?_⟩, ?_⟩) | (with_reducible refine ⟨(s, l, f, t, s2, l2), ⟨(.cons (.agg (.cons (.v _) (.cons (.lent _ _ _ _ _ _) .nil))) (.cons (.v _) (.cons (.v _) (.cons (.agg (.cons (.v _) (.cons (.lent _ _ _ _ _ _) .nil))) .nil)))), ?_⟩, ?_⟩) | (with_reducible refine ⟨(l, l), ⟨.cons (le_view (by with_unfolding_all exact rfl) (by with_unfolding_all exact rfl) (by with_unfolding_all exact rfl) ?_ ?_) (.cons (.lent _ _ _ _ _ _) .nil), ?_⟩, ?_⟩) | (with_reducible refine ⟨(l2, l2), ⟨.cons (le_view (by with_unfolding_all exact rfl) (by with_unfolding_all exact rfl) (by with_unfolding_all exact rfl) ?_ ?_) (.cons (.lent _ _ _ _ _ _) .nil), ?_⟩, ?_⟩) | (with_reducible refine ⟨(_, _, _, _), ⟨(.cons (.agg (.cons (.v _) (.cons (.lent _ _ _ _ _ _) .nil))) (.cons (.agg (.cons (.v _) (.cons (.lent _ _ _ _ _ _) .nil))) .nil)), ?_⟩, ?_⟩) | (with_reducible refine ⟨(), ⟨.nil, ?_⟩, ?_⟩) | (with_reducible first | exact fun h => h | refine ExE.row (by with_unfolding_all rfl) ?_ | refine And.intro ?_ ?_) | ((with_reducible intro hq); first | exact bne1 hq (by with_reducible assumption) | exact bne1 (by with_reducible assumption) hq | ((simp only [*, BB, cond_true, cond_false, reduceCtorEq] at hq); done) | (revert hq; with_reducible intro _)) | (with_reducible first | exact True.intro | rfl | refine EntLe.row ?_ | exact LeN.ro rfl | exact LeN.rptr | assumption) | ((with_reducible first | refine WkX.chk ?_ | refine Wk.chk ?_ | refine LeL.chk ?_ | refine LeF.chk ?_ | refine Run.mk ?_); (conv => whnf)) | ((with_reducible show LeO _ _); first | refine LeO.ro ?_ | refine LeO.roCap ?_ | refine LeO.nil ?_ (fun _ => rfl)) | ((with_reducible show LeR _ _ _); first | refine LeR.own rfl rfl rfl ?_ | refine LeR.view rfl rfl rfl ?_ ?_ | refine LeR.ro ?_ | refine LeR.roCap ?_ | refine LeR.nil ?_ (fun _ => rfl)) | ((with_reducible first | show drawOK _ _ = true | show lateOK _ _ = true | show drawOK2 _ _ = true | show drawOK3 _ _ = true); kernel_rfl))
  all_goals first
    | omega
    | exact hTT
    | exact hEE
    | (dsimp only; omega)
    | rfl
    | (simp only [*, Bool.and_true, Bool.true_and]; done)
    | (rename_i hbad; rw [hTT, hEE] at hbad; cases hbad; done)
    | (simp [hTT, hEE]; done)
    | trace_state
end Go.SX.Try
/- A verified symbolic executor for Go code in the model: what a call's arguments read as. -/
namespace Go.SX
open Go.ChangeShapes Go.WideShapes Go.Deep Go.RowKit
section
variable {H : Type} {encH : TypeId × Value → H} {P : Program} {w : World} {E : Env}
/-- Cells of a type read as one of α. -/
structure Reads (encH : TypeId × Value → H) (P : Program) (w : World) (E : Env) (e : TypeId) {α : Type} (en : α → List AV) : Prop where
  out : ∀ n cs y, DataW.trod encH P w 0 (fun _ => true) true n e cs = some y → ∃ x : α, RelL w E (en x) cs
theorem Reads.int {e : TypeId} (he : P.underlying e = some (.int .i64)) : Reads encH P w E e (fun a : Int => [.v (.int .i64 a)]) := ⟨fun n cs y h => by
  obtain ⟨a, rfl, _⟩ := DataW.trod_int he h
  exact ⟨a, RelL.cons (.v _) (RelL.nil _ _)⟩⟩
theorem Reads.string {e : TypeId} (he : P.underlying e = some .string) : Reads encH P w E e (fun a : ByteArray => [.v (.string a)]) := ⟨fun n cs y h => by
  obtain ⟨a, rfl, _⟩ := DataW.trod_string he h
  exact ⟨a, RelL.cons (.v _) (RelL.nil _ _)⟩⟩
theorem Reads.bool {e : TypeId} (he : P.underlying e = some .bool) : Reads encH P w E e (fun a : Bool => [.sb a]) := ⟨fun n cs y h => by
  obtain ⟨a, rfl, _⟩ := DataW.trod_bool he h
  exact ⟨a, RelL.cons (.sb _) (RelL.nil _ _)⟩⟩
theorem Reads.map {e : TypeId} {α β : Type} {en : α → List AV} {en' : β → List AV} (h : Reads encH P w E e en) (f : α → β) (hf : ∀ x, en' (f x) = en x) : Reads encH P w E e en' := ⟨fun n cs y ht => by
  obtain ⟨x, hx⟩ := h.out n cs y ht
  exact ⟨f x, by rw [hf]; exact hx⟩⟩
/-- The fields of a struct, from one on: each reads as one of its kind; so many cells to the end. -/
inductive FReads (encH : TypeId × Value → H) (P : Program) (w : World) (E : Env) : List Field → Nat → Nat → {α : Type} → (α → List AV) → Prop
  | nil {o : Nat} : FReads encH P w E [] o o (fun _ : Unit => [])
  | cons {f : Field} {fs : List Field} {o k t : Nat} {α β : Type} {en : α → List AV} {en' : β → List AV} (ho : f.offset = o) (hc : P.cellsOf f.type = k) (h : Reads encH P w E f.type en) (hk : ∀ x, (en x).length = k) (hr : FReads encH P w E fs (o + k) t en') :
      FReads encH P w E (f :: fs) o t (fun x : α × β => en x.1 ++ en' x.2)
theorem FReads.out {fs : List Field} {o t : Nat} {α : Type} {en : α → List AV} (h : FReads encH P w E fs o t en) : o ≤ t ∧ ∀ (cs : List Value), cs.length = t →
    (∀ f ∈ fs, ∃ y n, DataW.trod encH P w 0 (fun _ => true) true n f.type ((cs.drop f.offset).take (P.cellsOf f.type)) = some y) → ∃ x : α, RelL w E (en x) (cs.drop o) := by
  induction h with
  | nil =>
    refine ⟨Nat.le_refl _, fun cs hl _ => ⟨(), ?_⟩⟩
    rw [List.drop_eq_nil_of_le (by omega)]
    exact RelL.nil _ _
  | @cons f fs o k t α β en en' ho hc h hk hr ih =>
    refine ⟨by omega, fun cs hl hf => ?_⟩
    obtain ⟨y, n, hy⟩ := hf f List.mem_cons_self
    obtain ⟨x, hx⟩ := h.out _ _ _ hy
    obtain ⟨z, hz⟩ := ih.2 cs hl fun g hg => hf g (List.mem_cons_of_mem _ hg)
    refine ⟨(x, z), ?_⟩
    rw [ho, hc] at hx
    have := hx.append hz
    rwa [show cs.drop (o + k) = (cs.drop o).drop k by rw [List.drop_drop], List.take_append_drop] at this
theorem Reads.struct {e : TypeId} {fs : Array Field} (he : P.underlying e = some (.struct fs)) {t : Nat} (hC : P.cellsOf e = t) {α : Type} {en : α → List AV} (h : FReads encH P w E fs.toList 0 t en) : Reads encH P w E e en := ⟨fun n cs y ht => by
  obtain ⟨xs, m, _, _, hl, hxl, hf⟩ := DataW.trod_struct he ht
  have := h.out.2 cs (by omega) fun f hmem => by
    obtain ⟨i, hi, hfi⟩ := List.getElem_of_mem hmem
    have hi2 : i < fs.size := by simpa using hi
    have h1 := hf i f (by rw [Array.getElem?_eq_getElem hi2]; simpa using hfi)
    rw [List.getElem?_eq_getElem (by omega)] at h1
    exact ⟨_, m, h1⟩
  simpa using this⟩
theorem Rel.v_bz {E : Env} {z : Bool} {x : Value} : Rel w (E.bz z) (.v x) x := .v x
/-- A slice that was handed in: lent. -/
theorem Reads.slice {t e : TypeId} (ht : P.underlying t = some (.slice e)) {α : Type} {en : α → List AV} {k : Nat} (d : α) (hk : P.cellsOf e = k) (hk0 : 0 < k) (hs : ∀ x, (en x).length = k) (hl : ∀ b, b < w.heap.size → E.lnt b)
    (h : Reads encH P w (E.bz true) e en) : Reads encH P w E t (fun l : List α => [.ro k en d l none true]) := ⟨fun n cs y hy => by
  rcases open_slice ht hy with ⟨rfl, _⟩ | ⟨a, len, cap, m, n', D, Pl, rfl, _, hlc, _, hm, _, hi⟩
  · exact ⟨[], RelL.cons (.roNil k en d none none 0 hs (by simp)) (RelL.nil _ _)⟩
  have hlm : len ≤ m := by rw [hm]; simp; omega
  have hel : ∀ i, i < len → ∃ (x : α) (cs' : List Value), w.cells? 0 (a.add (i * k)) k = some cs' ∧ RelL w (E.bz true) (en x) cs' := fun i hil => by
    obtain ⟨cs', h1, h2⟩ := hi i (by omega)
    obtain ⟨x, hx⟩ := h.out _ _ _ h2
    rw [hk] at h1
    exact ⟨x, cs', h1, hx⟩
  by_cases h0 : len = 0
  · subst h0
    exact ⟨[], RelL.cons (.roNil k en d none (some a) cap hs (by simp)) (RelL.nil _ _)⟩
  obtain ⟨b, o, spot⟩ := a
  have hc0 : ∀ i j, i < len → j < k → ∃ v, w.cell? ((⟨b, o, spot⟩ : Addr).add (i * k + j)) = some v := fun i j h1 h2 => by
    obtain ⟨x, cs', h3, h4⟩ := hel i h1
    obtain ⟨_, h5, h6⟩ := World.cells?_some h3
    have h7 := h6 j h2
    rw [List.getElem?_eq_getElem (by omega), Go.Deep.add_add] at h7
    exact ⟨_, h7⟩
  have hspot : spot = none := by
    obtain ⟨v, hv⟩ := hc0 0 0 (by omega) hk0
    simpa [Addr.add] using World.cell?_spot hv
  subst hspot
  have hb : b < w.heap.size := by
    obtain ⟨v, hv⟩ := hc0 0 0 (by omega) hk0
    refine Nat.lt_of_not_le fun hle => ?_
    unfold World.cell? at hv
    rw [show ((⟨b, o, none⟩ : Addr).add (0 * k + 0)).block = b by simp [Addr.add], Array.getElem?_eq_none hle] at hv
    cases hv
  let X : Nat → α := fun i => if hi : i < len then Classical.choose (hel i hi) else d
  let Cs : Nat → List Value := fun i => if hi : i < len then Classical.choose (Classical.choose_spec (hel i hi)) else []
  have hX : ∀ i, i < len → w.cells? 0 ((⟨b, o, none⟩ : Addr).add (i * k)) k = some (Cs i) ∧ RelL w (E.bz true) (en (X i)) (Cs i) := fun i hi => by
    have := Classical.choose_spec (Classical.choose_spec (hel i hi))
    simpa only [X, Cs, dif_pos hi] using this
  refine ⟨(List.range len).map X, RelL.cons ?_ (RelL.nil _ _)⟩
  have hll : ((List.range len).map X).length = len := by simp
  have key : Rel w E (.ro k en d ((List.range len).map X) none true) (.slice (some ⟨b, o, none⟩) ((List.range len).map X).length cap) :=
    .ro (fun i j => (Cs i).getD j undef) hs (by simp) (by rw [hll]; exact hlc) (.inr (hl b hb)) (fun i j h1 h2 => by
      rw [hll] at h1
      obtain ⟨h3, _⟩ := hX i h1
      obtain ⟨_, h5, h6⟩ := World.cells?_some h3
      have h7 := h6 j h2
      rw [Go.Deep.add_add, add_plain] at h7
      rw [h7, List.getElem?_eq_getElem (by omega)]
      simp [List.getD_eq_getElem?_getD, show j < (Cs i).length by omega]) fun i h1 j h2 => by
      have h1' : i < len := by rw [hll] at h1; exact h1
      obtain ⟨_, h4⟩ := hX i h1'
      have he : ((List.range len).map X)[i] = X i := by simp
      have h2' : j < (en (X i)).length := by rw [← he]; exact h2
      have h8 : j < (Cs i).length := by have := h4.1; omega
      have h9 := h4.2 j h2' h8
      have he2 : (en ((List.range len).map X)[i])[j] = (en (X i))[j] := by simp only [he]
      rw [he2, show (Cs i).getD j undef = (Cs i)[j] by simp [List.getD_eq_getElem?_getD, h8]]
      exact h9
  rwa [hll] at key⟩
/-- A slice argument. -/
theorem Reads.arg {t e : TypeId} (ht : P.underlying t = some (.slice e)) {α : Type} {en : α → List AV} {k : Nat} {d : α} (h : Reads encH P w E t (fun l : List α => [.ro k en d l none true])) {a : Option Addr} {len cap : Nat} {y : DataW H} {p : List MemPlace}
    (hT : DataW.Trod encH P w 0 (fun _ => true) true t (.slice a len cap) y p) : ∃ l : List α, Rel w E (.ro k en d l none true) (.slice a len cap) := by
  obtain ⟨fuel, hf⟩ := hT
  obtain ⟨l, hl⟩ := h.out _ _ _ hf
  exact ⟨l, hl.2 0 (by simp) (by simp [Value.cells])⟩
end
end Go.SX
/- What the arguments of chapter 7's laws read as. -/
namespace Go.SX.Try
open Go.Proofs Go.Proofs.Try Go.SX.Plain Go.ChangeShapes Go.WideShapes Go.Deep
set_option maxRecDepth 100000
section
variable {H : Type} {encH : TypeId × Value → H} {w : World} {E : Env}
theorem cells_int7 : prog.cellsOf 3 = 1 := by kernel_rfl
theorem cells_str7 : prog.cellsOf 9 = 1 := by kernel_rfl
theorem cells_spn : prog.cellsOf 71 = 4 := by kernel_rfl
theorem cells_spns : prog.cellsOf 22 = 1 := by kernel_rfl
theorem cells_text : prog.cellsOf 24 = 2 := by kernel_rfl
theorem bytes_spn : prog.bytesOf 71 = 32 := by kernel_rfl
theorem reads_int7 : Reads encH prog w E 3 (fun a : Int => [.v (.int .i64 a)]) := Reads.int Try.underlying3
theorem reads_spn : Reads encH prog w E 71 C_spn.enc :=
  Reads.map (Reads.struct Try.underlying71 cells_spn (.cons rfl cells_int7 reads_int7 (fun _ => rfl) (.cons rfl cells_int7 reads_int7 (fun _ => rfl) (.cons rfl cells_int7 reads_int7 (fun _ => rfl) (.cons rfl cells_int7 reads_int7 (fun _ => rfl) .nil)))))
    (fun x : Int × Int × Int × Int × Unit => (⟨x.1, x.2.1, x.2.2.1, x.2.2.2.1⟩ : Spn)) (fun _ => rfl)
theorem reads_spns (hl : ∀ b, b < w.heap.size → E.lnt b) : Reads encH prog w E 22 (fun l : List Spn => [spR l]) :=
  Reads.slice Try.underlying22 C_spn.d cells_spn (by decide) (fun _ => rfl) hl reads_spn
theorem reads_text (hl : ∀ b, b < w.heap.size → E.lnt b) : Reads encH prog w E 24 (fun x : ByteArray × List Spn × Unit => [.v (.string x.1)] ++ ([spR x.2.1] ++ [])) :=
  Reads.struct Try.underlying24 cells_text (FReads.cons (en := fun a : ByteArray => [AV.v (.string a)]) (en' := fun x : List Spn × Unit => [spR x.1] ++ []) rfl cells_str7 (Reads.string Try.underlying9) (fun _ => rfl)
    (FReads.cons (en := fun l : List Spn => [spR l]) (en' := fun _ : Unit => []) rfl cells_spns (reads_spns hl) (fun _ => rfl) .nil))
theorem text_arg (hl : ∀ b, b < w.heap.size → E.lnt b) {cs : Array Value} {y : DataW H} {p : List MemPlace} (hT : DataW.Trod encH prog w 0 (fun _ => true) true 24 (.agg cs) y p) (hw : (y.weights prog 24).all (· ≤ reachBytes) = true) :
    ∃ (s : ByteArray) (l : List Spn), Rel w E (txAV s l) (.agg cs) ∧ l.length * 32 ≤ 140737488351232 := by
  obtain ⟨fuel, hf⟩ := hT
  have hf : DataW.trod encH prog w 0 (fun _ => true) true fuel 24 cs.toList = some (y, p) := hf
  obtain ⟨⟨s, l, _⟩, hr⟩ := (reads_text (E := E) hl).out _ _ _ hf
  refine ⟨s, l, .agg (by simpa using hr.1) fun i h1 h2 => hr.2 i h1 (by simpa using h2), ?_⟩
  obtain ⟨xs, m, _, hxe, hcl, hxl, hfl⟩ := DataW.trod_struct Try.underlying24 hf
  rw [cells_text] at hcl
  have hc1 : 1 < cs.size := by simpa using (show 1 < cs.toList.length by omega)
  have hv := hr.2 1 (by simp) (by rw [hcl]; decide)
  have hv : Rel w E (spR l) cs[1] := by simpa using hv
  have h1 := hfl 1 _ rfl
  have hd : (cs.toList.drop 1).take 1 = [cs[1]] := by
    rw [List.drop_eq_getElem_cons (by rw [hcl]; decide)]
    simp
  have h1 : DataW.trod encH prog w 0 (fun _ => true) true m 22 [cs[1]] = xs[1]? := by
    rw [← hd]
    exact h1
  have hx1 : 1 < xs.length := by rw [hxl]; decide
  rw [List.getElem?_eq_getElem hx1] at h1
  rcases open_slice Try.underlying22 h1 with ⟨hc, _⟩ | ⟨a, len, cap, m', n', D, Pl, hc, _, hlc, _, hm, hx, _⟩
  · have hc : cs[1] = .slice none 0 0 := by simpa using hc
    rw [hc] at hv
    cases hv
    simp
  · have hc : cs[1] = .slice (some a) len cap := by simpa using hc
    rw [hc] at hv
    have hlen : l.length ≤ len := by
      cases hv with
      | roNil => simp
      | ro => exact Nat.le_refl _
    have hy : y = .agg (xs.map (·.1)) := congrArg Prod.fst hxe
    have hmem : ((((List.range len).map D).length + ((List.range (m' - len)).map fun j => D (len + j)).length) * prog.bytesOf 71) ∈ y.weights prog 24 := by
      rw [hy]
      simp only [DataW.weights, Try.underlying24]
      refine DataW.weights_mem_each (j := 1) (t := 22) (d := xs[1].1) rfl (by simp [hx1]) _ ?_
      rw [hx]
      simp [DataW.weights, Try.underlying22]
    have := List.all_eq_true.1 hw _ hmem
    rw [bytes_spn] at this
    simp [reachBytes] at this
    omega
end
end Go.SX.Try
/- The law StyleChecks: true, whatever the input. -/
namespace Go.SX.Try
open Go.Proofs Go.Proofs.Try Go.SX.Plain
set_option maxRecDepth 100000
set_option maxHeartbeats 0
set_option linter.unusedSimpArgs false
theorem q_styleChecks : fact 4 f4 := ⟨by kernel_rfl, rfl, by kernel_rfl⟩
theorem con_styleChecks : Con prog 4 (fun ((s, l) : ByteArray × List Spn) => [txAV s l]) (fun _ => .v (.bool true)) (fun (_, l) => l.length * 32 ≤ 140737488351232) := by
  refine Con.of (by kernel_rfl) T_ok D_spnP_ok (.inl (J := []) q_lend.1 q_lend.2.1 q_lend.2.2 (.inl (J := []) q_back.1 q_back.2.1 q_back.2.2 (.con con_scheck (.con con_rcheck7 (.con con_splain (.con con_rplain (.con con_sameSpans (.con con_sameText (.con con_head7 .nil))))))))) 5 [] q_styleChecks.1 q_styleChecks.2.1 q_styleChecks.2.2 (fun _ => rfl) fun i hi => ?_
  obtain ⟨s, l⟩ := i
  have hl : l.length * 32 ≤ 140737488351232 := hi
  have hln : (l ++ [mrk]).length = l.length + 1 := by simp
  have e3 : ((l.length : Int) + 3).toNat = l.length + 3 := by omega
  have hvl : (((l ++ [mrk]).drop 0).take l.length) = l := by rw [List.drop_zero]; exact snoc_take l mrk
  have hll : decide (l = l) = true := decide_eq_true rfl
  have hE4 : (decide (l = l) && spEqB ((l ++ [mrk]).getD (((0 : Nat) : Int) + (l.length : Int)).toNat C_spnP.d) mrk) = true := by
    rw [hll, show (((0 : Nat) : Int) + (l.length : Int)).toNat = l.length by omega, snoc_at, spEqB_eq]
    simp
  have hTT : (decide (plainT s = plainT s) && decide (([] : List Spn) = [])) = true := by simp
  have hEE : (chkN s.size l (sgN s : Nat) == chkN s.size l (sgN s : Nat)) = true := by simp
  have hFF : (plainN s == plainN s) = true := by simp
  repeat' (first | (with_reducible refine ex_of (α := List Spn) l ⟨rfl, rfl, fun _ => rfl⟩ ?_) | (with_reducible refine ⟨(s, l), ⟨.cons (.agg (.cons (.v _) (.cons (le_view (by with_unfolding_all exact rfl) (by with_unfolding_all exact rfl) (by with_unfolding_all exact rfl) ?_ ?_) .nil))) .nil, ?_⟩, ?_⟩) | (with_reducible refine ⟨(s, l), ⟨(.cons (.agg (.cons (.v _) (.cons (.lent _ _ _ _ _ _) .nil))) .nil), ?_⟩, ?_⟩) | (with_reducible refine ⟨_, ⟨(.cons (.v _) .nil), ?_⟩, ?_⟩) | (with_reducible refine ⟨(l, l), ⟨.cons (le_view (by with_unfolding_all exact rfl) (by with_unfolding_all exact rfl) (by with_unfolding_all exact rfl) ?_ ?_) (.cons (.lent _ _ _ _ _ _) .nil), ?_⟩, ?_⟩) | (with_reducible refine ⟨(_, _, _, _), ⟨(.cons (.agg (.cons (.v _) (.cons (.lent _ _ _ _ _ _) .nil))) (.cons (.agg (.cons (.v _) (.cons (.lent _ _ _ _ _ _) .nil))) .nil)), ?_⟩, ?_⟩) | (with_reducible refine ⟨(), ⟨.nil, ?_⟩, ?_⟩) | (with_reducible first | exact fun h => h | refine ExE.row (by with_unfolding_all rfl) ?_ | refine And.intro ?_ ?_) | ((with_reducible intro hq); first | exact bne1 hq (by with_reducible assumption) | exact bne1 (by with_reducible assumption) hq | ((simp only [*, BB, cond_true, cond_false, reduceCtorEq] at hq); done) | (revert hq; with_reducible intro _)) | (with_reducible first | exact True.intro | rfl | refine EntLe.row ?_ | exact LeN.ro rfl | exact LeN.rptr | assumption) | ((with_reducible first | refine WkX.chk ?_ | refine Wk.chk ?_ | refine LeL.chk ?_ | refine LeF.chk ?_ | refine Run.mk ?_); (conv => whnf)) | ((with_reducible show LeO _ _); first | refine LeO.ro ?_ | refine LeO.roCap ?_ | refine LeO.nil ?_ (fun _ => rfl)) | ((with_reducible show LeR _ _ _); first | refine LeR.own rfl rfl rfl ?_ | refine LeR.view rfl rfl rfl ?_ ?_ | refine LeR.ro ?_ | refine LeR.roCap ?_ | refine LeR.nil ?_ (fun _ => rfl)) | ((with_reducible first | show drawOK _ _ = true | show lateOK _ _ = true | show drawOK2 _ _ = true | show drawOK3 _ _ = true); kernel_rfl))
  all_goals (try first | omega | (apply Fits.i64 <;> omega) | exact hvl | (dsimp only; omega) | (simp only [List.length_append, List.length_cons, List.length_nil, List.length_replicate, e3]; omega) | rfl)
  refine loopI Nat [] (fun i => [(7, .v (.int .i64 (i : Nat))), (6, .sb true)]) (fun i => [(3, .row C_spnP (bkTo ovr (l ++ [mrk]) i) 71 (some ((l.length : Int) + 3).toNat))]) (fun i => i ≤ l.length + 1) (fun i => l.length + 1 - i) 0 (Nat.zero_le _) (Wk.chk ?_) fun i hi => ?_
  · ((conv => whnf); repeat' (first | (with_reducible first | exact fun h => h | refine ExE.row (by with_unfolding_all rfl) ?_ | refine And.intro ?_ ?_) | ((with_reducible intro hq); first | exact bne1 hq (by with_reducible assumption) | exact bne1 (by with_reducible assumption) hq | ((simp only [*, BB, cond_true, cond_false, reduceCtorEq] at hq); done) | (revert hq; with_reducible intro _)) | (with_reducible first | exact True.intro | rfl | refine EntLe.row ?_ | exact LeN.ro rfl | exact LeN.rptr | assumption) | ((with_reducible first | refine WkX.chk ?_ | refine Wk.chk ?_ | refine LeL.chk ?_ | refine LeF.chk ?_ | refine Run.mk ?_); (conv => whnf)) | ((with_reducible show LeO _ _); first | refine LeO.ro ?_ | refine LeO.roCap ?_ | refine LeO.nil ?_ (fun _ => rfl)) | ((with_reducible show LeR _ _ _); first | refine LeR.own rfl rfl rfl ?_ | refine LeR.view rfl rfl rfl ?_ ?_ | refine LeR.ro ?_ | refine LeR.roCap ?_ | refine LeR.nil ?_ (fun _ => rfl)) | ((with_reducible first | show drawOK _ _ = true | show lateOK _ _ = true | show drawOK2 _ _ = true | show drawOK3 _ _ = true); kernel_rfl)))
    all_goals first
      | rfl
      | exact hE4
      | (rw [bk_zero]; rfl)
      | trace_state
  have hi : i ≤ l.length + 1 := hi
  have hbl := bk_len ovr (R := l ++ [mrk]) (i := i) (by omega)
  by_cases hil : i < l.length + 1
  · have hlt : decide ((i : Int) < ((((l.length : Int) + 1).toNat : Nat) : Int)) = true := decide_eq_true (by omega)
    have hst := bk_step ovr (R := l ++ [mrk]) (i := i) (by omega)
    have hst' : (bkTo ovr (l ++ [mrk]) i).set (((0 : Nat) : Int) + (i : Int)).toNat ovr = bkTo ovr (l ++ [mrk]) (i + 1) := by rw [show (((0 : Nat) : Int) + (i : Int)).toNat = i by omega]; exact hst
    repeat' (first | (with_reducible refine ex_of (α := Nat) (i + 1) ⟨?_, ?_⟩ ?_) | (with_reducible first | exact fun h => h | refine ExE.row (by with_unfolding_all rfl) ?_ | refine And.intro ?_ ?_) | ((with_reducible intro hq); first | exact bne1 hq (by with_reducible assumption) | exact bne1 (by with_reducible assumption) hq | ((simp only [*, BB, cond_true, cond_false, reduceCtorEq] at hq); done) | (revert hq; with_reducible intro _)) | (with_reducible first | exact True.intro | rfl | refine EntLe.row ?_ | exact LeN.ro rfl | exact LeN.rptr | assumption) | ((with_reducible first | refine WkX.chk ?_ | refine Wk.chk ?_ | refine LeL.chk ?_ | refine LeF.chk ?_ | refine Run.mk ?_); (conv => whnf)) | ((with_reducible show LeO _ _); first | refine LeO.ro ?_ | refine LeO.roCap ?_ | refine LeO.nil ?_ (fun _ => rfl)) | ((with_reducible show LeR _ _ _); first | refine LeR.own rfl rfl rfl ?_ | refine LeR.view rfl rfl rfl ?_ ?_ | refine LeR.ro ?_ | refine LeR.roCap ?_ | refine LeR.nil ?_ (fun _ => rfl)) | ((with_reducible first | show drawOK _ _ = true | show lateOK _ _ = true | show drawOK2 _ _ = true | show drawOK3 _ _ = true); kernel_rfl))
    all_goals first
      | omega
      | (apply Fits.i64 <;> omega)
      | (dsimp only; omega)
      | (with_reducible rfl)
      | (dsimp only [C_spn]; done)
      | exact hst'
      | trace_state
  have hlt : decide ((i : Int) < ((((l.length : Int) + 1).toNat : Nat) : Int)) = false := decide_eq_false (by omega)
  repeat' (first | (with_reducible refine ex_of (α := List Spn) l ⟨rfl, rfl, fun _ => rfl⟩ ?_) | (with_reducible refine ⟨(s, l), ⟨.cons (.agg (.cons (.v _) (.cons (le_view (by with_unfolding_all exact rfl) (by with_unfolding_all exact rfl) (by with_unfolding_all exact rfl) ?_ ?_) .nil))) .nil, ?_⟩, ?_⟩) | (with_reducible refine ⟨(s, l), ⟨(.cons (.agg (.cons (.v _) (.cons (.lent _ _ _ _ _ _) .nil))) .nil), ?_⟩, ?_⟩) | (with_reducible refine ⟨_, ⟨(.cons (.v _) .nil), ?_⟩, ?_⟩) | (with_reducible refine ⟨(l, l), ⟨.cons (le_view (by with_unfolding_all exact rfl) (by with_unfolding_all exact rfl) (by with_unfolding_all exact rfl) ?_ ?_) (.cons (.lent _ _ _ _ _ _) .nil), ?_⟩, ?_⟩) | (with_reducible refine ⟨(_, _, _, _), ⟨(.cons (.agg (.cons (.v _) (.cons (.lent _ _ _ _ _ _) .nil))) (.cons (.agg (.cons (.v _) (.cons (.lent _ _ _ _ _ _) .nil))) .nil)), ?_⟩, ?_⟩) | (with_reducible refine ⟨(), ⟨.nil, ?_⟩, ?_⟩) | (with_reducible first | exact fun h => h | refine ExE.row (by with_unfolding_all rfl) ?_ | refine And.intro ?_ ?_) | ((with_reducible intro hq); first | exact bne1 hq (by with_reducible assumption) | exact bne1 (by with_reducible assumption) hq | ((simp only [*, BB, cond_true, cond_false, reduceCtorEq] at hq); done) | (revert hq; with_reducible intro _)) | (with_reducible first | exact True.intro | rfl | refine EntLe.row ?_ | exact LeN.ro rfl | exact LeN.rptr | assumption) | ((with_reducible first | refine WkX.chk ?_ | refine Wk.chk ?_ | refine LeL.chk ?_ | refine LeF.chk ?_ | refine Run.mk ?_); (conv => whnf)) | ((with_reducible show LeO _ _); first | refine LeO.ro ?_ | refine LeO.roCap ?_ | refine LeO.nil ?_ (fun _ => rfl)) | ((with_reducible show LeR _ _ _); first | refine LeR.own rfl rfl rfl ?_ | refine LeR.view rfl rfl rfl ?_ ?_ | refine LeR.ro ?_ | refine LeR.roCap ?_ | refine LeR.nil ?_ (fun _ => rfl)) | ((with_reducible first | show drawOK _ _ = true | show lateOK _ _ = true | show drawOK2 _ _ = true | show drawOK3 _ _ = true); kernel_rfl))
  all_goals first
    | omega
    | exact hTT
    | exact hEE
    | exact hFF
    | (dsimp only; omega)
    | rfl
    | (show (0 : Nat) ≤ 9000000000000000000; decide)
    | (rename_i hbad; rw [hTT, hEE, hFF] at hbad; cases hbad; done)
    | (rename_i hbad; rw [hEE] at hbad; cases hbad; done)
    | (rename_i hbad; rw [hEE, hTT] at hbad; cases hbad; done)
    | (simp [hTT, hEE, hFF]; done)
    | trace_state
end Go.SX.Try
/- Contract of the law StyleNames: true. -/
namespace Go.SX.Try
open Go.Proofs Go.Proofs.Try Go.SX.Plain
set_option maxRecDepth 100000
set_option maxHeartbeats 0
set_option linter.unusedSimpArgs false
theorem q_errno7 : fact 47 f47 := ⟨by kernel_rfl, rfl, by kernel_rfl⟩
theorem q_wordTexts : fact 87 f87 := ⟨by kernel_rfl, rfl, by kernel_rfl⟩
theorem q_styleNames : fact 12 f12 := ⟨by kernel_rfl, rfl, by kernel_rfl⟩
theorem con_seamW : Con prog 87 (fun _ : Unit => [.v (.int .i64 22)]) (fun _ => .v (.string ⟨#[115, 101, 97, 109]⟩)) (fun _ => True) := by
  refine Con.of (by kernel_rfl) T_ok CdsOK.nil .nil 3 [] q_wordTexts.1 q_wordTexts.2.1 q_wordTexts.2.2 (fun _ => rfl) fun i _ => ?_
  repeat' (first | (with_reducible first | exact fun h => h | refine ExE.row (by with_unfolding_all rfl) ?_ | refine And.intro ?_ ?_) | ((with_reducible intro hq); first | exact bne1 hq (by with_reducible assumption) | exact bne1 (by with_reducible assumption) hq | ((simp only [*, BB, cond_true, cond_false, reduceCtorEq] at hq); done) | (revert hq; with_reducible intro _)) | (with_reducible first | exact True.intro | rfl | refine EntLe.row ?_ | exact LeN.ro rfl | exact LeN.rptr | assumption) | ((with_reducible first | refine WkX.chk ?_ | refine Wk.chk ?_ | refine LeL.chk ?_ | refine LeF.chk ?_ | refine Run.mk ?_); (conv => whnf)) | ((with_reducible show LeO _ _); first | refine LeO.ro ?_ | refine LeO.roCap ?_ | refine LeO.nil ?_ (fun _ => rfl)) | ((with_reducible show LeR _ _ _); first | refine LeR.own rfl rfl rfl ?_ | refine LeR.view rfl rfl rfl ?_ ?_ | refine LeR.ro ?_ | refine LeR.roCap ?_ | refine LeR.nil ?_ (fun _ => rfl)) | ((with_reducible first | show drawOK _ _ = true | show lateOK _ _ = true | show drawOK2 _ _ = true | show drawOK3 _ _ = true); kernel_rfl))
  all_goals simp_all
theorem con_errno7 : Con prog 47 (fun _ : Unit => [.v (.int .i64 22)]) (fun _ => .v (.string ⟨#[115, 101, 97, 109]⟩)) (fun _ => True) := by
  refine Con.of (by kernel_rfl) T_ok CdsOK.nil (.con con_seamW .nil) 3 [] q_errno7.1 q_errno7.2.1 q_errno7.2.2 (fun _ => rfl) fun i _ => ?_
  repeat' (first | (with_reducible refine ⟨(), ⟨(.cons (.v _) .nil), ?_⟩, ?_⟩) | (with_reducible first | exact fun h => h | refine ExE.row (by with_unfolding_all rfl) ?_ | refine And.intro ?_ ?_) | ((with_reducible intro hq); first | exact bne1 hq (by with_reducible assumption) | exact bne1 (by with_reducible assumption) hq | ((simp only [*, BB, cond_true, cond_false, reduceCtorEq] at hq); done) | (revert hq; with_reducible intro _)) | (with_reducible first | exact True.intro | rfl | refine EntLe.row ?_ | exact LeN.ro rfl | exact LeN.rptr | assumption) | ((with_reducible first | refine WkX.chk ?_ | refine Wk.chk ?_ | refine LeL.chk ?_ | refine LeF.chk ?_ | refine Run.mk ?_); (conv => whnf)) | ((with_reducible show LeO _ _); first | refine LeO.ro ?_ | refine LeO.roCap ?_ | refine LeO.nil ?_ (fun _ => rfl)) | ((with_reducible show LeR _ _ _); first | refine LeR.own rfl rfl rfl ?_ | refine LeR.view rfl rfl rfl ?_ ?_ | refine LeR.ro ?_ | refine LeR.roCap ?_ | refine LeR.nil ?_ (fun _ => rfl)) | ((with_reducible first | show drawOK _ _ = true | show lateOK _ _ = true | show drawOK2 _ _ = true | show drawOK3 _ _ = true); kernel_rfl))
  all_goals simp_all
theorem con_styleNames : Con prog 12 (fun _ : Unit => []) (fun _ => .v (.bool true)) (fun _ => True) := by
  refine Con.of (by kernel_rfl) T_ok CdsOK.nil (.con con_errno7 (.con con_head7 .nil)) 3 [] q_styleNames.1 q_styleNames.2.1 q_styleNames.2.2 (fun _ => rfl) fun i _ => ?_
  repeat' (first | (with_reducible refine ⟨(), ⟨(.cons (.v _) .nil), ?_⟩, ?_⟩) | (with_reducible refine ⟨(), ⟨.nil, ?_⟩, ?_⟩) | (with_reducible first | exact fun h => h | refine ExE.row (by with_unfolding_all rfl) ?_ | refine And.intro ?_ ?_) | ((with_reducible intro hq); first | exact bne1 hq (by with_reducible assumption) | exact bne1 (by with_reducible assumption) hq | ((simp only [*, BB, cond_true, cond_false, reduceCtorEq] at hq); done) | (revert hq; with_reducible intro _)) | (with_reducible first | exact True.intro | rfl | refine EntLe.row ?_ | exact LeN.ro rfl | exact LeN.rptr | assumption) | ((with_reducible first | refine WkX.chk ?_ | refine Wk.chk ?_ | refine LeL.chk ?_ | refine LeF.chk ?_ | refine Run.mk ?_); (conv => whnf)) | ((with_reducible show LeO _ _); first | refine LeO.ro ?_ | refine LeO.roCap ?_ | refine LeO.nil ?_ (fun _ => rfl)) | ((with_reducible show LeR _ _ _); first | refine LeR.own rfl rfl rfl ?_ | refine LeR.view rfl rfl rfl ?_ ?_ | refine LeR.ro ?_ | refine LeR.roCap ?_ | refine LeR.nil ?_ (fun _ => rfl)) | ((with_reducible first | show drawOK _ _ = true | show lateOK _ _ = true | show drawOK2 _ _ = true | show drawOK3 _ _ = true); kernel_rfl))
  all_goals simp_all
end Go.SX.Try
