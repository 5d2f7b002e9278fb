/- A verified symbolic executor for Go code in the model, contracts and plain laws that the proofs lean on, BO7. -/
import Derived.Test.YtjbegcohbfglpaaBO6
import Derived.Deep.Fields
import Derived.SizedLaws
set_option linter.unusedVariables false
set_option linter.unusedSimpArgs false
/- Contract of wrap's Text. -/
namespace Go.SX.Try
open Go.Proofs Go.Proofs.Try Go.SX.Plain
set_option maxRecDepth 100000
set_option maxHeartbeats 0
set_option linter.unusedSimpArgs false
theorem q_wtext : fact 18 f18 := ⟨by kernel_rfl, rfl, by kernel_rfl⟩
theorem conx_wtext : ConX prog 18 (fun ((s, l, w) : ByteArray × List Spn × Int) => [txAV s l, .v (.int .i64 w)]) (fun (s, l, w) n => .tup [.agg [.v (.string (txR s l w).1), .own n], .v (.int .i64 (txR s l w).2.2)]) C_spn (fun (s, l, w) => (txR s l w).2.1) 50 (fun _ => True) := by
  refine ConX.of (by kernel_rfl) T_ok D_spn_ok (.con con_scheck (.con con_wrap (.con con_lines (.con con_ucount (.con con_trimmed (.conx conx_ssplice .nil)))))) 3 [17, 20, 27, 30] q_wtext.1 q_wtext.2.1 q_wtext.2.2 (fun _ => rfl) fun i _ => ?_
  obtain ⟨s, l, width⟩ := i
  by_cases h1 : chkN s.size l (sgN s : Nat) = 0
  case neg =>
    have hR : txR s l width = (ByteArray.empty, [], chkN s.size l (sgN s : Nat)) := by unfold txR; rw [if_pos h1]
    have k1 : (chkN s.size l (sgN s : Nat) != 0) = true := by simpa using h1
    repeat' (first | ((with_reducible show IsX _ _ _ _ _ _); first | (refine IsX.mk (by with_unfolding_all exact rfl) ?_ (RX.tupL (.cons (RX.aggL (.cons (.fro ?_) (.cons (.own rfl) .nil))) (.cons (.fro ?_) .nil)))) | (refine IsX.nil (fun _ => rfl) (by decide) ?_ (RX.tupL (.cons (RX.aggL (.cons (.fro ?_) (.cons (.nil rfl) .nil))) (.cons (.fro ?_) .nil))))) | (with_reducible first | refine ⟨(s, l), ⟨(.cons (.agg (.cons (.v _) (.cons (.lent _ _ _ _ _ _) .nil))) .nil), ?_⟩, ?_⟩ | exact fun h => h | refine ExE.row (by with_unfolding_all rfl) ?_ | refine And.intro ?_ ?_) | ((with_reducible intro hq); first | exact bne1 hq (by with_reducible assumption) | exact bne1 (by with_reducible assumption) hq | ((simp only [*, BB, cond_true, cond_false, reduceCtorEq] at hq); done) | (revert hq; with_reducible intro _)) | (with_reducible first | exact True.intro | rfl | refine EntLe.row ?_ | exact LeN.ro rfl | exact LeN.rptr | assumption) | ((with_reducible first | refine WkX.chk ?_ | refine Wk.chk ?_ | refine LeL.chk ?_ | refine LeF.chk ?_ | refine Run.mk ?_); (conv => whnf)) | ((with_reducible show LeO _ _); first | refine LeO.ro ?_ | refine LeO.roCap ?_ | refine LeO.nil ?_ (fun _ => rfl)) | ((with_reducible show LeR _ _ _); first | refine LeR.own rfl rfl rfl ?_ | refine LeR.view rfl rfl rfl ?_ ?_ | refine LeR.ro ?_ | refine LeR.roCap ?_ | refine LeR.nil ?_ (fun _ => rfl)) | ((with_reducible first | show drawOK _ _ = true | show lateOK _ _ = true | show drawOK2 _ _ = true | show drawOK3 _ _ = true); kernel_rfl))
    all_goals first
      | (rw [hR]; first | done | rfl)
      | (show (txR s l width).2.1 = []; rw [hR]; done)
      | (dsimp only; rw [hR]; done)
      | trace_state
  have k1 : (chkN s.size l (sgN s : Nat) != 0) = false := by rw [h1]; rfl
  have ok1 := OkT.of h1
  have hs := ok1.size
  have hl := ok1.len
  have hn := sgN_le s
  by_cases h2 : checkN s.size width = 0
  case neg =>
    have hR : txR s l width = (ByteArray.empty, [], checkN s.size width) := by unfold txR; rw [if_neg (fun h => h h1), if_pos h2]
    have k2 : (checkN s.size width != 0) = true := by simpa using h2
    repeat' (first | ((with_reducible show IsX _ _ _ _ _ _); first | (refine IsX.mk (by with_unfolding_all exact rfl) ?_ (RX.tupL (.cons (RX.aggL (.cons (.fro ?_) (.cons (.own rfl) .nil))) (.cons (.fro ?_) .nil)))) | (refine IsX.nil (fun _ => rfl) (by decide) ?_ (RX.tupL (.cons (RX.aggL (.cons (.fro ?_) (.cons (.nil rfl) .nil))) (.cons (.fro ?_) .nil))))) | (with_reducible first | refine ⟨(s, l), ⟨(.cons (.agg (.cons (.v _) (.cons (.lent _ _ _ _ _ _) .nil))) .nil), ?_⟩, ?_⟩ | refine ⟨(s, width), ⟨(.cons (.v _) (.cons (.v _) .nil)), ?_⟩, ?_⟩ | exact fun h => h | refine ExE.row (by with_unfolding_all rfl) ?_ | refine And.intro ?_ ?_) | ((with_reducible intro hq); first | exact bne1 hq (by with_reducible assumption) | exact bne1 (by with_reducible assumption) hq | ((simp only [*, BB, cond_true, cond_false, reduceCtorEq] at hq); done) | (revert hq; with_reducible intro _)) | (with_reducible first | exact True.intro | rfl | refine EntLe.row ?_ | exact LeN.ro rfl | exact LeN.rptr | assumption) | ((with_reducible first | refine WkX.chk ?_ | refine Wk.chk ?_ | refine LeL.chk ?_ | refine LeF.chk ?_ | refine Run.mk ?_); (conv => whnf)) | ((with_reducible show LeO _ _); first | refine LeO.ro ?_ | refine LeO.roCap ?_ | refine LeO.nil ?_ (fun _ => rfl)) | ((with_reducible show LeR _ _ _); first | refine LeR.own rfl rfl rfl ?_ | refine LeR.view rfl rfl rfl ?_ ?_ | refine LeR.ro ?_ | refine LeR.roCap ?_ | refine LeR.nil ?_ (fun _ => rfl)) | ((with_reducible first | show drawOK _ _ = true | show lateOK _ _ = true | show drawOK2 _ _ = true | show drawOK3 _ _ = true); kernel_rfl))
    all_goals first
      | (rw [hR]; first | done | rfl)
      | (show (txR s l width).2.1 = []; rw [hR]; done)
      | (dsimp only; rw [hR]; done)
      | trace_state
  have k2 : (checkN s.size width != 0) = false := by rw [h2]; rfl
  have hw : 2 ≤ width ∧ width ≤ 200 := by
    unfold checkN at h2
    split at h2
    · cases h2
    · omega
  have hwl : wrapL s width = wrapOut (parts s) width := if_pos h2
  have WF := wayF (s := s) hw.1 hw.2
  have hR : txR s l width = txGo (parts s) (wayP (parts s) width) ((wayP (parts s) width).length + 1) s l := by unfold txR; rw [if_neg (fun h => h h1), if_neg (fun h => h h2)]
  generalize hW : wayP (parts s) width = W at WF hR
  have hll : (linesL s (wrapL s width)).length = W.length + 1 := by rw [hwl, WF.lines, segs_len]
  have hwn : (wrapL s width).length = W.length := by rw [hwl, WF.len]
  have hlo := wrapOut_len (Plain.parts s) width
  have hlp := plcs_len (Plain.parts s) ((Plain.parts s).length + 1)
  have hpl := parts_len s
  have hd : C_spn.d = zS := rfl
  have hd2 : C_parts.d = [] := rfl
  have hd3 : C_brk.d = (0, 0) := rfl
  have hWl : W.length ≤ 4100 := by rw [WF.len]; omega
  repeat' (first | ((with_reducible show IsX _ _ _ _ _ _); first | (refine IsX.mk (by with_unfolding_all exact rfl) ?_ (RX.tupL (.cons (RX.aggL (.cons (.fro ?_) (.cons (.own rfl) .nil))) (.cons (.fro ?_) .nil)))) | (refine IsX.nil (fun _ => rfl) (by decide) ?_ (RX.tupL (.cons (RX.aggL (.cons (.fro ?_) (.cons (.nil rfl) .nil))) (.cons (.fro ?_) .nil))))) | (with_reducible first | refine ⟨(s, l), ⟨(.cons (.agg (.cons (.v _) (.cons (.lent _ _ _ _ _ _) .nil))) .nil), ?_⟩, ?_⟩ | refine ⟨(s, width), ⟨(.cons (.v _) (.cons (.v _) .nil)), ?_⟩, ?_⟩ | refine ⟨(_, _), ⟨(.cons (.v _) (.cons (.lent _ _ _ _ _ _) .nil)), ?_⟩, ?_⟩ | refine ⟨_, ⟨(.cons (.v _) .nil), ?_⟩, ?_⟩ | refine ex_of (α := List Spn) l ⟨rfl, rfl, fun _ => rfl⟩ ?_ | exact fun h => h | refine ExE.row (by with_unfolding_all rfl) ?_ | refine And.intro ?_ ?_) | ((with_reducible intro hq); first | exact bne1 hq (by with_reducible assumption) | exact bne1 (by with_reducible assumption) hq | ((simp only [*, BB, cond_true, cond_false, reduceCtorEq] at hq); done) | (revert hq; with_reducible intro _)) | (with_reducible first | exact True.intro | rfl | refine EntLe.row ?_ | exact LeN.ro rfl | exact LeN.rptr | assumption) | ((with_reducible first | refine WkX.chk ?_ | refine Wk.chk ?_ | refine LeL.chk ?_ | refine LeF.chk ?_ | refine Run.mk ?_); (conv => whnf)) | ((with_reducible show LeO _ _); first | refine LeO.ro ?_ | refine LeO.roCap ?_ | refine LeO.nil ?_ (fun _ => rfl)) | ((with_reducible show LeR _ _ _); first | refine LeR.own rfl rfl rfl ?_ | refine LeR.view rfl rfl rfl ?_ ?_ | refine LeR.ro ?_ | refine LeR.roCap ?_ | refine LeR.nil ?_ (fun _ => rfl)) | ((with_reducible first | show drawOK _ _ = true | show lateOK _ _ = true | show drawOK2 _ _ = true | show drawOK3 _ _ = true); kernel_rfl))
  all_goals (try first | omega | (apply Fits.i64 <;> omega) | (rw [hll]; apply Fits.i64 <;> omega) | (dsimp only; omega))
  refine loopI (Int × ByteArray × List Spn) [51, 52] (fun (i, S, L) => [(14, .v (.int .i64 i))]) (fun (i, S, L) => [(3, .box [.v (.string S), .own 2] 43), (2, .row C_spn L 50 none)]) (fun (i, S, L) => (-1 ≤ i ∧ i ≤ W.length) ∧ txGo (Plain.parts s) W (i + 1).toNat S L = txR s l width) (fun (i, S, L) => (i + 1).toNat) ((W.length : Int), s, l) ⟨⟨by omega, by omega⟩, by rw [hR]; congr 1⟩ (Wk.chk ?_) fun i hi => ?_
  · ((conv => whnf); repeat' (first | (with_reducible first | exact fun h => h | refine ExE.row (by with_unfolding_all rfl) ?_ | refine And.intro ?_ ?_) | ((with_reducible intro hq); first | exact bne1 hq (by with_reducible assumption) | exact bne1 (by with_reducible assumption) hq | ((simp only [*, BB, cond_true, cond_false, reduceCtorEq] at hq); done) | (revert hq; with_reducible intro _)) | (with_reducible first | exact True.intro | rfl | refine EntLe.row ?_ | exact LeN.ro rfl | exact LeN.rptr | assumption) | ((with_reducible first | refine WkX.chk ?_ | refine Wk.chk ?_ | refine LeL.chk ?_ | refine LeF.chk ?_ | refine Run.mk ?_); (conv => whnf)) | ((with_reducible show LeO _ _); first | refine LeO.ro ?_ | refine LeO.roCap ?_ | refine LeO.nil ?_ (fun _ => rfl)) | ((with_reducible show LeR _ _ _); first | refine LeR.own rfl rfl rfl ?_ | refine LeR.view rfl rfl rfl ?_ ?_ | refine LeR.ro ?_ | refine LeR.roCap ?_ | refine LeR.nil ?_ (fun _ => rfl)) | ((with_reducible first | show drawOK _ _ = true | show lateOK _ _ = true | show drawOK2 _ _ = true | show drawOK3 _ _ = true); kernel_rfl)))
    all_goals first
      | (rw [hll]; omega)
      | rfl
      | trace_state
  obtain ⟨i, S, L⟩ := i
  obtain ⟨⟨hi0, hi1⟩, hi2⟩ := hi
  by_cases hneg : i = -1
  · subst hneg
    have hng : decide (0 ≤ (-1 : Int)) = false := rfl
    repeat' (first | ((with_reducible show IsX _ _ _ _ _ _); first | (refine IsX.mk (by with_unfolding_all exact rfl) ?_ (RX.tupL (.cons (RX.aggL (.cons (.fro ?_) (.cons (.own rfl) .nil))) (.cons (.fro ?_) .nil)))) | (refine IsX.nil (fun _ => rfl) (by decide) ?_ (RX.tupL (.cons (RX.aggL (.cons (.fro ?_) (.cons (.nil rfl) .nil))) (.cons (.fro ?_) .nil))))) | (with_reducible first | exact fun h => h | refine ExE.row (by with_unfolding_all rfl) ?_ | refine And.intro ?_ ?_) | ((with_reducible intro hq); first | exact bne1 hq (by with_reducible assumption) | exact bne1 (by with_reducible assumption) hq | ((simp only [*, BB, cond_true, cond_false, reduceCtorEq] at hq); done) | (revert hq; with_reducible intro _)) | (with_reducible first | exact True.intro | rfl | refine EntLe.row ?_ | exact LeN.ro rfl | exact LeN.rptr | assumption) | ((with_reducible first | refine WkX.chk ?_ | refine Wk.chk ?_ | refine LeL.chk ?_ | refine LeF.chk ?_ | refine Run.mk ?_); (conv => whnf)) | ((with_reducible show LeO _ _); first | refine LeO.ro ?_ | refine LeO.roCap ?_ | refine LeO.nil ?_ (fun _ => rfl)) | ((with_reducible show LeR _ _ _); first | refine LeR.own rfl rfl rfl ?_ | refine LeR.view rfl rfl rfl ?_ ?_ | refine LeR.ro ?_ | refine LeR.roCap ?_ | refine LeR.nil ?_ (fun _ => rfl)) | ((with_reducible first | show drawOK _ _ = true | show lateOK _ _ = true | show drawOK2 _ _ = true | show drawOK3 _ _ = true); kernel_rfl))
    all_goals first
      | (rw [← hi2]; rfl)
      | (show _ = (txR s l width).2.1; rw [← hi2]; rfl)
      | trace_state
  obtain ⟨k, rfl⟩ := Int.eq_ofNat_of_zero_le (a := i) (by omega)
  have hk : k ≤ W.length := by omega
  have e1 : ((k : Int)).toNat = k := Int.toNat_natCast _
  rw [show (((k : Int)) + 1).toNat = k + 1 by omega] at hi2
  have hng : decide (0 ≤ (k : Int)) = true := decide_eq_true (by omega)
  have hft := WF.frto k hk
  have hseg : (linesL s (wrapL s width)).getD ((k : Int)).toNat C_parts.d = segOf (Plain.parts s) (frO W k) (toO (Plain.parts s) W k) := by rw [e1, hwl]; exact wf_seg WF hk
  have hsl := wf_seglen WF hk
  have htv := wf_to WF hk
  have hkd := wf_kind (i := k) WF
  have hK := edK_eq WF hk
  have hWs := edW_size (s := s) (W := W) (i := k)
  repeat' (first | ((with_reducible show IsX _ _ _ _ _ _); first | (refine IsX.mk (by with_unfolding_all exact rfl) ?_ (RX.tupL (.cons (RX.aggL (.cons (.fro ?_) (.cons (.own rfl) .nil))) (.cons (.fro ?_) .nil)))) | (refine IsX.nil (fun _ => rfl) (by decide) ?_ (RX.tupL (.cons (RX.aggL (.cons (.fro ?_) (.cons (.nil rfl) .nil))) (.cons (.fro ?_) .nil))))) | (with_reducible first | exact fun h => h | refine ExE.row (by with_unfolding_all rfl) ?_ | refine And.intro ?_ ?_) | ((with_reducible intro hq); first | exact bne1 hq (by with_reducible assumption) | exact bne1 (by with_reducible assumption) hq | ((simp only [*, BB, cond_true, cond_false, reduceCtorEq] at hq); done) | (revert hq; with_reducible intro _)) | (with_reducible first | exact True.intro | rfl | refine EntLe.row ?_ | exact LeN.ro rfl | exact LeN.rptr | assumption) | ((with_reducible first | refine WkX.chk ?_ | refine Wk.chk ?_ | refine LeL.chk ?_ | refine LeF.chk ?_ | refine Run.mk ?_); (conv => whnf)) | ((with_reducible show LeO _ _); first | refine LeO.ro ?_ | refine LeO.roCap ?_ | refine LeO.nil ?_ (fun _ => rfl)) | ((with_reducible show LeR _ _ _); first | refine LeR.own rfl rfl rfl ?_ | refine LeR.view rfl rfl rfl ?_ ?_ | refine LeR.ro ?_ | refine LeR.roCap ?_ | refine LeR.nil ?_ (fun _ => rfl)) | ((with_reducible first | show drawOK _ _ = true | show lateOK _ _ = true | show drawOK2 _ _ = true | show drawOK3 _ _ = true); kernel_rfl))
  all_goals (try first | omega | (rw [hll]; omega))
  obtain ⟨Y, hY⟩ : ∃ Y, Y = segOf (Plain.parts s) (frO W k) (toO (Plain.parts s) W k) := ⟨_, rfl⟩
  rw [← hY] at hseg hsl
  refine joinI Unit [15] (fun _ => [(15, .ro 12 C_part.enc C_part.d Y none), (16, .v (.int .i64 (plA (Plain.parts s) (toO (Plain.parts s) W k))))]) (fun _ => []) (fun _ => True) ?_ fun _ _ => ?_
  · by_cases hkW : k < W.length
    · have kb : decide ((k : Int) < ((wrapL s width).length : Int)) = true := decide_eq_true (by omega)
      rw [if_pos hkW] at htv
      repeat' (first | ((with_reducible show IsX _ _ _ _ _ _); first | (refine IsX.mk (by with_unfolding_all exact rfl) ?_ (RX.tupL (.cons (RX.aggL (.cons (.fro ?_) (.cons (.own rfl) .nil))) (.cons (.fro ?_) .nil)))) | (refine IsX.nil (fun _ => rfl) (by decide) ?_ (RX.tupL (.cons (RX.aggL (.cons (.fro ?_) (.cons (.nil rfl) .nil))) (.cons (.fro ?_) .nil))))) | (with_reducible first | refine ex_of () trivial ?_ | exact fun h => h | refine ExE.row (by with_unfolding_all rfl) ?_ | refine And.intro ?_ ?_) | ((with_reducible intro hq); first | exact bne1 hq (by with_reducible assumption) | exact bne1 (by with_reducible assumption) hq | ((simp only [*, BB, cond_true, cond_false, reduceCtorEq] at hq); done) | (revert hq; with_reducible intro _)) | (with_reducible first | exact True.intro | rfl | refine EntLe.row ?_ | exact LeN.ro rfl | exact LeN.rptr | assumption) | ((with_reducible first | refine WkX.chk ?_ | refine Wk.chk ?_ | refine LeL.chk ?_ | refine LeF.chk ?_ | refine Run.mk ?_); (conv => whnf)) | ((with_reducible show LeO _ _); first | refine LeO.ro ?_ | refine LeO.roCap ?_ | refine LeO.nil ?_ (fun _ => rfl)) | ((with_reducible show LeR _ _ _); first | refine LeR.own rfl rfl rfl ?_ | refine LeR.view rfl rfl rfl ?_ ?_ | refine LeR.ro ?_ | refine LeR.roCap ?_ | refine LeR.nil ?_ (fun _ => rfl)) | ((with_reducible first | show drawOK _ _ = true | show lateOK _ _ = true | show drawOK2 _ _ = true | show drawOK3 _ _ = true); kernel_rfl))
      all_goals first
        | omega
        | exact LeN.ro hseg
        | (rw [htv, hwl, e1]; first | done | rfl)
        | trace_state
    · have kb : decide ((k : Int) < ((wrapL s width).length : Int)) = false := decide_eq_false (by omega)
      rw [if_neg hkW] at htv
      repeat' (first | ((with_reducible show IsX _ _ _ _ _ _); first | (refine IsX.mk (by with_unfolding_all exact rfl) ?_ (RX.tupL (.cons (RX.aggL (.cons (.fro ?_) (.cons (.own rfl) .nil))) (.cons (.fro ?_) .nil)))) | (refine IsX.nil (fun _ => rfl) (by decide) ?_ (RX.tupL (.cons (RX.aggL (.cons (.fro ?_) (.cons (.nil rfl) .nil))) (.cons (.fro ?_) .nil))))) | (with_reducible first | refine ex_of () trivial ?_ | exact fun h => h | refine ExE.row (by with_unfolding_all rfl) ?_ | refine And.intro ?_ ?_) | ((with_reducible intro hq); first | exact bne1 hq (by with_reducible assumption) | exact bne1 (by with_reducible assumption) hq | ((simp only [*, BB, cond_true, cond_false, reduceCtorEq] at hq); done) | (revert hq; with_reducible intro _)) | (with_reducible first | exact True.intro | rfl | refine EntLe.row ?_ | exact LeN.ro rfl | exact LeN.rptr | assumption) | ((with_reducible first | refine WkX.chk ?_ | refine Wk.chk ?_ | refine LeL.chk ?_ | refine LeF.chk ?_ | refine Run.mk ?_); (conv => whnf)) | ((with_reducible show LeO _ _); first | refine LeO.ro ?_ | refine LeO.roCap ?_ | refine LeO.nil ?_ (fun _ => rfl)) | ((with_reducible show LeR _ _ _); first | refine LeR.own rfl rfl rfl ?_ | refine LeR.view rfl rfl rfl ?_ ?_ | refine LeR.ro ?_ | refine LeR.roCap ?_ | refine LeR.nil ?_ (fun _ => rfl)) | ((with_reducible first | show drawOK _ _ = true | show lateOK _ _ = true | show drawOK2 _ _ = true | show drawOK3 _ _ = true); kernel_rfl))
      all_goals first
        | omega
        | exact LeN.ro hseg
        | exact htv.symm
        | exact htv
        | trace_state
  have hYb : Y.length ≤ 5000 := by omega
  have hlast : frO W k < toO (Plain.parts s) W k → Y.getD ((Y.length : Int) - 1).toNat C_part.d = (Plain.parts s).getD (toO (Plain.parts s) W k - 1) dPart := fun h => by
    rw [show ((Y.length : Int) - 1).toNat = toO (Plain.parts s) W k - frO W k - 1 by omega, hY]
    exact (wf_at WF hk (by omega)).trans (by congr 1; omega)
  have hyl : (decide (0 < (Y.length : Int)) = true → frO W k < toO (Plain.parts s) W k) ∧ (decide (0 < (Y.length : Int)) = false → ¬ frO W k < toO (Plain.parts s) W k) := by
    constructor
    · intro h; have := of_decide_eq_true h; omega
    · intro h; have := of_decide_eq_false h; omega
  repeat' (first | ((with_reducible show IsX _ _ _ _ _ _); first | (refine IsX.mk (by with_unfolding_all exact rfl) ?_ (RX.tupL (.cons (RX.aggL (.cons (.fro ?_) (.cons (.own rfl) .nil))) (.cons (.fro ?_) .nil)))) | (refine IsX.nil (fun _ => rfl) (by decide) ?_ (RX.tupL (.cons (RX.aggL (.cons (.fro ?_) (.cons (.nil rfl) .nil))) (.cons (.fro ?_) .nil))))) | (with_reducible first | exact fun h => h | refine ExE.row (by with_unfolding_all rfl) ?_ | refine And.intro ?_ ?_) | ((with_reducible intro hq); first | exact bne1 hq (by with_reducible assumption) | exact bne1 (by with_reducible assumption) hq | ((simp only [*, BB, cond_true, cond_false, reduceCtorEq] at hq); done) | (revert hq; with_reducible intro _)) | (with_reducible first | exact True.intro | rfl | refine EntLe.row ?_ | exact LeN.ro rfl | exact LeN.rptr | assumption) | ((with_reducible first | refine WkX.chk ?_ | refine Wk.chk ?_ | refine LeL.chk ?_ | refine LeF.chk ?_ | refine Run.mk ?_); (conv => whnf)) | ((with_reducible show LeO _ _); first | refine LeO.ro ?_ | refine LeO.roCap ?_ | refine LeO.nil ?_ (fun _ => rfl)) | ((with_reducible show LeR _ _ _); first | refine LeR.own rfl rfl rfl ?_ | refine LeR.view rfl rfl rfl ?_ ?_ | refine LeR.ro ?_ | refine LeR.roCap ?_ | refine LeR.nil ?_ (fun _ => rfl)) | ((with_reducible first | show drawOK _ _ = true | show lateOK _ _ = true | show drawOK2 _ _ = true | show drawOK3 _ _ = true); kernel_rfl))
  all_goals (try first | omega | (apply Fits.i64 <;> omega))
  refine joinI Unit [] (fun _ => [(16, .v (.int .i64 (plA (Plain.parts s) (edT (Plain.parts s) W k))))]) (fun _ => []) (fun _ => True) ?_ fun _ _ => ?_
  · have hff : (decide (0 < (Y.length : Int)) && (Y.getD ((Y.length : Int) - 1).toNat C_part.d).fin) = false → plA (Plain.parts s) (toO (Plain.parts s) W k) = plA (Plain.parts s) (edT (Plain.parts s) W k) := fun h => by
      refine (wf_nofin fun hh => ?_).symm
      rw [hlast hh.1, hh.2, decide_eq_true (by omega)] at h
      cases h
    have hft2 : (decide (0 < (Y.length : Int)) && (Y.getD ((Y.length : Int) - 1).toNat C_part.d).fin) = true → 0 < Y.length ∧ (Y.getD ((Y.length : Int) - 1).toNat C_part.d).c.frm = plA (Plain.parts s) (edT (Plain.parts s) W k) := fun h => by
      rw [Bool.and_eq_true] at h
      have h1 := hyl.1 h.1
      refine ⟨by omega, ?_⟩
      rw [hlast h1] at h ⊢
      exact wf_fin WF hk h1 h.2
    repeat' (first | ((with_reducible show IsX _ _ _ _ _ _); first | (refine IsX.mk (by with_unfolding_all exact rfl) ?_ (RX.tupL (.cons (RX.aggL (.cons (.fro ?_) (.cons (.own rfl) .nil))) (.cons (.fro ?_) .nil)))) | (refine IsX.nil (fun _ => rfl) (by decide) ?_ (RX.tupL (.cons (RX.aggL (.cons (.fro ?_) (.cons (.nil rfl) .nil))) (.cons (.fro ?_) .nil))))) | (with_reducible first | refine ex_of () trivial ?_ | exact fun h => h | refine ExE.row (by with_unfolding_all rfl) ?_ | refine And.intro ?_ ?_) | ((with_reducible intro hq); first | exact bne1 hq (by with_reducible assumption) | exact bne1 (by with_reducible assumption) hq | ((simp only [*, BB, cond_true, cond_false, reduceCtorEq] at hq); done) | (revert hq; with_reducible intro _)) | (with_reducible first | exact True.intro | rfl | refine EntLe.row ?_ | exact LeN.ro rfl | exact LeN.rptr | assumption) | ((with_reducible first | refine WkX.chk ?_ | refine Wk.chk ?_ | refine LeL.chk ?_ | refine LeF.chk ?_ | refine Run.mk ?_); (conv => whnf)) | ((with_reducible show LeO _ _); first | refine LeO.ro ?_ | refine LeO.roCap ?_ | refine LeO.nil ?_ (fun _ => rfl)) | ((with_reducible show LeR _ _ _); first | refine LeR.own rfl rfl rfl ?_ | refine LeR.view rfl rfl rfl ?_ ?_ | refine LeR.ro ?_ | refine LeR.roCap ?_ | refine LeR.nil ?_ (fun _ => rfl)) | ((with_reducible first | show drawOK _ _ = true | show lateOK _ _ = true | show drawOK2 _ _ = true | show drawOK3 _ _ = true); kernel_rfl))
    all_goals first
      | omega
      | (have h3 := (hft2 (by assumption)).1; first | omega | (apply Fits.i64 <;> omega))
      | (have h3 := of_decide_eq_true (show decide (0 < (Y.length : Int)) = true by assumption); omega)
      | exact (hft2 (by assumption)).2
      | exact hff (by assumption)
      | (apply Fits.i64 <;> omega)
      | trace_state
  repeat' (first | ((with_reducible show IsX _ _ _ _ _ _); first | (refine IsX.mk (by with_unfolding_all exact rfl) ?_ (RX.tupL (.cons (RX.aggL (.cons (.fro ?_) (.cons (.own rfl) .nil))) (.cons (.fro ?_) .nil)))) | (refine IsX.nil (fun _ => rfl) (by decide) ?_ (RX.tupL (.cons (RX.aggL (.cons (.fro ?_) (.cons (.nil rfl) .nil))) (.cons (.fro ?_) .nil))))) | (with_reducible first | exact fun h => h | refine ExE.row (by with_unfolding_all rfl) ?_ | refine And.intro ?_ ?_) | ((with_reducible intro hq); first | exact bne1 hq (by with_reducible assumption) | exact bne1 (by with_reducible assumption) hq | ((simp only [*, BB, cond_true, cond_false, reduceCtorEq] at hq); done) | (revert hq; with_reducible intro _)) | (with_reducible first | exact True.intro | rfl | refine EntLe.row ?_ | exact LeN.ro rfl | exact LeN.rptr | assumption) | ((with_reducible first | refine WkX.chk ?_ | refine Wk.chk ?_ | refine LeL.chk ?_ | refine LeF.chk ?_ | refine Run.mk ?_); (conv => whnf)) | ((with_reducible show LeO _ _); first | refine LeO.ro ?_ | refine LeO.roCap ?_ | refine LeO.nil ?_ (fun _ => rfl)) | ((with_reducible show LeR _ _ _); first | refine LeR.own rfl rfl rfl ?_ | refine LeR.view rfl rfl rfl ?_ ?_ | refine LeR.ro ?_ | refine LeR.roCap ?_ | refine LeR.nil ?_ (fun _ => rfl)) | ((with_reducible first | show drawOK _ _ = true | show lateOK _ _ = true | show drawOK2 _ _ = true | show drawOK3 _ _ = true); kernel_rfl))
  all_goals (try first | omega | (apply Fits.i64 <;> omega))
  refine joinI Unit [] (fun _ => [(18, .v (.int .i64 (plA (Plain.parts s) (edF (Plain.parts s) W k))))]) (fun _ => []) (fun _ => True) ?_ fun _ _ => ?_
  · have hnil : decide (0 < (Y.length : Int)) = false → plA (Plain.parts s) (edT (Plain.parts s) W k) = plA (Plain.parts s) (edF (Plain.parts s) W k) := fun h => by rw [wf_nil WF hk (hyl.2 h)]
    have htl := trimL_len Y
    have htn := trimN_le Y
    repeat' (first | ((with_reducible show IsX _ _ _ _ _ _); first | (refine IsX.mk (by with_unfolding_all exact rfl) ?_ (RX.tupL (.cons (RX.aggL (.cons (.fro ?_) (.cons (.own rfl) .nil))) (.cons (.fro ?_) .nil)))) | (refine IsX.nil (fun _ => rfl) (by decide) ?_ (RX.tupL (.cons (RX.aggL (.cons (.fro ?_) (.cons (.nil rfl) .nil))) (.cons (.fro ?_) .nil))))) | (with_reducible first | refine ⟨_, ⟨(.cons (.ro _ _ _ _ _) .nil), ?_⟩, ?_⟩ | refine ex_of () trivial ?_ | exact fun h => h | refine ExE.row (by with_unfolding_all rfl) ?_ | refine And.intro ?_ ?_) | ((with_reducible intro hq); first | exact bne1 hq (by with_reducible assumption) | exact bne1 (by with_reducible assumption) hq | ((simp only [*, BB, cond_true, cond_false, reduceCtorEq] at hq); done) | (revert hq; with_reducible intro _)) | (with_reducible first | exact True.intro | rfl | refine EntLe.row ?_ | exact LeN.ro rfl | exact LeN.rptr | assumption) | ((with_reducible first | refine WkX.chk ?_ | refine Wk.chk ?_ | refine LeL.chk ?_ | refine LeF.chk ?_ | refine Run.mk ?_); (conv => whnf)) | ((with_reducible show LeO _ _); first | refine LeO.ro ?_ | refine LeO.roCap ?_ | refine LeO.nil ?_ (fun _ => rfl)) | ((with_reducible show LeR _ _ _); first | refine LeR.own rfl rfl rfl ?_ | refine LeR.view rfl rfl rfl ?_ ?_ | refine LeR.ro ?_ | refine LeR.roCap ?_ | refine LeR.nil ?_ (fun _ => rfl)) | ((with_reducible first | show drawOK _ _ = true | show lateOK _ _ = true | show drawOK2 _ _ = true | show drawOK3 _ _ = true); kernel_rfl))
    all_goals first
      | omega
      | (apply Fits.i64 <;> omega)
      | (dsimp only; omega)
      | (have h3 := of_decide_eq_true (show decide (0 < (Y.length : Int)) = true by assumption); omega)
      | (have h3 := of_decide_eq_true (show decide (0 < ((trimL Y).length : Int)) = true by assumption); omega)
      | exact hnil (by assumption)
      | (have h1 := hyl.1 (by assumption); have h2 : decide (0 < ((trimL Y).length : Int)) = false := by assumption
         have h2 := of_decide_eq_false h2; subst hY; exact wf_from0 WF hk h1 (by omega))
      | (have h2 : decide (0 < ((trimL Y).length : Int)) = true := by assumption
         have h2 := of_decide_eq_true h2
         rw [show (((trimL Y).length : Int) - 1).toNat = (trimL Y).length - 1 by omega]; subst hY; exact wf_from1 WF hk (by omega))
      | trace_state
  repeat' (first | ((with_reducible show IsX _ _ _ _ _ _); first | (refine IsX.mk (by with_unfolding_all exact rfl) ?_ (RX.tupL (.cons (RX.aggL (.cons (.fro ?_) (.cons (.own rfl) .nil))) (.cons (.fro ?_) .nil)))) | (refine IsX.nil (fun _ => rfl) (by decide) ?_ (RX.tupL (.cons (RX.aggL (.cons (.fro ?_) (.cons (.nil rfl) .nil))) (.cons (.fro ?_) .nil))))) | (with_reducible first | exact fun h => h | refine ExE.row (by with_unfolding_all rfl) ?_ | refine And.intro ?_ ?_) | ((with_reducible intro hq); first | exact bne1 hq (by with_reducible assumption) | exact bne1 (by with_reducible assumption) hq | ((simp only [*, BB, cond_true, cond_false, reduceCtorEq] at hq); done) | (revert hq; with_reducible intro _)) | (with_reducible first | exact True.intro | rfl | refine EntLe.row ?_ | exact LeN.ro rfl | exact LeN.rptr | assumption) | ((with_reducible first | refine WkX.chk ?_ | refine Wk.chk ?_ | refine LeL.chk ?_ | refine LeF.chk ?_ | refine Run.mk ?_); (conv => whnf)) | ((with_reducible show LeO _ _); first | refine LeO.ro ?_ | refine LeO.roCap ?_ | refine LeO.nil ?_ (fun _ => rfl)) | ((with_reducible show LeR _ _ _); first | refine LeR.own rfl rfl rfl ?_ | refine LeR.view rfl rfl rfl ?_ ?_ | refine LeR.ro ?_ | refine LeR.roCap ?_ | refine LeR.nil ?_ (fun _ => rfl)) | ((with_reducible first | show drawOK _ _ = true | show lateOK _ _ = true | show drawOK2 _ _ = true | show drawOK3 _ _ = true); kernel_rfl))
  all_goals (try first | omega | (apply Fits.i64 <;> omega))
  refine joinI Unit [] (fun _ => []) (fun _ => [(4, .box [.v (.string (edW (Plain.parts s) W k)), .v (.slice none 0 0)] 43)]) (fun _ => True) ?_ fun _ _ => ?_
  · have hm : edW (Plain.parts s) W k = if edM (Plain.parts s) W k = true then nlB else ByteArray.empty := rfl
    have hkd2 : edM (Plain.parts s) W k = (decide ((k : Int) < ((wrapL s width).length : Int)) && ((wrapL s width).getD ((k : Int)).toNat C_brk.d).2 != 1) := by
      rw [hkd, hwl, e1, hd3, ← hwl]
      congr 1
      exact decide_eq_decide.2 (by omega)
    by_cases hM : edM (Plain.parts s) W k = true
    · rw [if_pos hM] at hm
      rw [hkd2] at hM
      have hlt := of_decide_eq_true (Bool.and_eq_true_iff.1 hM).1
      rw [hm]
      repeat' (first | ((with_reducible show IsX _ _ _ _ _ _); first | (refine IsX.mk (by with_unfolding_all exact rfl) ?_ (RX.tupL (.cons (RX.aggL (.cons (.fro ?_) (.cons (.own rfl) .nil))) (.cons (.fro ?_) .nil)))) | (refine IsX.nil (fun _ => rfl) (by decide) ?_ (RX.tupL (.cons (RX.aggL (.cons (.fro ?_) (.cons (.nil rfl) .nil))) (.cons (.fro ?_) .nil))))) | (with_reducible first | refine ex_of () trivial ?_ | exact fun h => h | refine ExE.row (by with_unfolding_all rfl) ?_ | refine And.intro ?_ ?_) | ((with_reducible intro hq); first | exact bne1 hq (by with_reducible assumption) | exact bne1 (by with_reducible assumption) hq | ((simp only [*, BB, cond_true, cond_false, reduceCtorEq] at hq); done) | (revert hq; with_reducible intro _)) | (with_reducible first | exact True.intro | rfl | refine EntLe.row ?_ | exact LeN.ro rfl | exact LeN.rptr | assumption) | ((with_reducible first | refine WkX.chk ?_ | refine Wk.chk ?_ | refine LeL.chk ?_ | refine LeF.chk ?_ | refine Run.mk ?_); (conv => whnf)) | ((with_reducible show LeO _ _); first | refine LeO.ro ?_ | refine LeO.roCap ?_ | refine LeO.nil ?_ (fun _ => rfl)) | ((with_reducible show LeR _ _ _); first | refine LeR.own rfl rfl rfl ?_ | refine LeR.view rfl rfl rfl ?_ ?_ | refine LeR.ro ?_ | refine LeR.roCap ?_ | refine LeR.nil ?_ (fun _ => rfl)) | ((with_reducible first | show drawOK _ _ = true | show lateOK _ _ = true | show drawOK2 _ _ = true | show drawOK3 _ _ = true); kernel_rfl))
      all_goals first
        | omega
        | rfl
        | trace_state
    · rw [if_neg hM] at hm
      have hM := Bool.eq_false_iff.2 hM
      rw [hkd2] at hM
      have hlt : decide ((k : Int) < ((wrapL s width).length : Int)) = true → (k : Int) < ((wrapL s width).length : Int) := of_decide_eq_true
      rw [hm]
      repeat' (first | ((with_reducible show IsX _ _ _ _ _ _); first | (refine IsX.mk (by with_unfolding_all exact rfl) ?_ (RX.tupL (.cons (RX.aggL (.cons (.fro ?_) (.cons (.own rfl) .nil))) (.cons (.fro ?_) .nil)))) | (refine IsX.nil (fun _ => rfl) (by decide) ?_ (RX.tupL (.cons (RX.aggL (.cons (.fro ?_) (.cons (.nil rfl) .nil))) (.cons (.fro ?_) .nil))))) | (with_reducible first | refine ex_of () trivial ?_ | exact fun h => h | refine ExE.row (by with_unfolding_all rfl) ?_ | refine And.intro ?_ ?_) | ((with_reducible intro hq); first | exact bne1 hq (by with_reducible assumption) | exact bne1 (by with_reducible assumption) hq | ((simp only [*, BB, cond_true, cond_false, reduceCtorEq] at hq); done) | (revert hq; with_reducible intro _)) | (with_reducible first | exact True.intro | rfl | refine EntLe.row ?_ | exact LeN.ro rfl | exact LeN.rptr | assumption) | ((with_reducible first | refine WkX.chk ?_ | refine Wk.chk ?_ | refine LeL.chk ?_ | refine LeF.chk ?_ | refine Run.mk ?_); (conv => whnf)) | ((with_reducible show LeO _ _); first | refine LeO.ro ?_ | refine LeO.roCap ?_ | refine LeO.nil ?_ (fun _ => rfl)) | ((with_reducible show LeR _ _ _); first | refine LeR.own rfl rfl rfl ?_ | refine LeR.view rfl rfl rfl ?_ ?_ | refine LeR.ro ?_ | refine LeR.roCap ?_ | refine LeR.nil ?_ (fun _ => rfl)) | ((with_reducible first | show drawOK _ _ = true | show lateOK _ _ = true | show drawOK2 _ _ = true | show drawOK3 _ _ = true); kernel_rfl))
      all_goals first
        | omega
        | exact hlt (by assumption)
        | rfl
        | trace_state
  by_cases hKK : edK (Plain.parts s) W k = true
  · have hK2 : (plA (Plain.parts s) (edF (Plain.parts s) W k) == plA (Plain.parts s) (edT (Plain.parts s) W k) && decide (edW (Plain.parts s) W k = { data := #[] })) = true := by rw [hWs, ← hK]; exact hKK
    rw [txGo_skip hKK] at hi2
    repeat' (first | ((with_reducible show IsX _ _ _ _ _ _); first | (refine IsX.mk (by with_unfolding_all exact rfl) ?_ (RX.tupL (.cons (RX.aggL (.cons (.fro ?_) (.cons (.own rfl) .nil))) (.cons (.fro ?_) .nil)))) | (refine IsX.nil (fun _ => rfl) (by decide) ?_ (RX.tupL (.cons (RX.aggL (.cons (.fro ?_) (.cons (.nil rfl) .nil))) (.cons (.fro ?_) .nil))))) | (with_reducible first | refine ex_of (α := Int × ByteArray × List Spn) ((k : Int) - 1, S, L) ⟨⟨⟨?_, ?_⟩, ?_⟩, ?_⟩ ?_ | exact fun h => h | refine ExE.row (by with_unfolding_all rfl) ?_ | refine And.intro ?_ ?_) | ((with_reducible intro hq); first | exact bne1 hq (by with_reducible assumption) | exact bne1 (by with_reducible assumption) hq | ((simp only [*, BB, cond_true, cond_false, reduceCtorEq] at hq); done) | (revert hq; with_reducible intro _)) | (with_reducible first | exact True.intro | rfl | refine EntLe.row ?_ | exact LeN.ro rfl | exact LeN.rptr | assumption) | ((with_reducible first | refine WkX.chk ?_ | refine Wk.chk ?_ | refine LeL.chk ?_ | refine LeF.chk ?_ | refine Run.mk ?_); (conv => whnf)) | ((with_reducible show LeO _ _); first | refine LeO.ro ?_ | refine LeO.roCap ?_ | refine LeO.nil ?_ (fun _ => rfl)) | ((with_reducible show LeR _ _ _); first | refine LeR.own rfl rfl rfl ?_ | refine LeR.view rfl rfl rfl ?_ ?_ | refine LeR.ro ?_ | refine LeR.roCap ?_ | refine LeR.nil ?_ (fun _ => rfl)) | ((with_reducible first | show drawOK _ _ = true | show lateOK _ _ = true | show drawOK2 _ _ = true | show drawOK3 _ _ = true); kernel_rfl))
    all_goals first
      | omega
      | (apply Fits.i64 <;> omega)
      | (rw [show (k : Int) - 1 + 1 = (k : Int) by omega, e1]; exact hi2)
      | (dsimp only; omega)
      | trace_state
  have hKK := Bool.eq_false_iff.2 hKK
  have hK2 : (plA (Plain.parts s) (edF (Plain.parts s) W k) == plA (Plain.parts s) (edT (Plain.parts s) W k) && decide (edW (Plain.parts s) W k = { data := #[] })) = false := by rw [hWs, ← hK]; exact hKK
  by_cases hE : splE S L (plA (Plain.parts s) (edF (Plain.parts s) W k)) (plA (Plain.parts s) (edT (Plain.parts s) W k)) (edW (Plain.parts s) W k) [] = 0
  · have hE2 : (splE S L (plA (Plain.parts s) (edF (Plain.parts s) W k)) (plA (Plain.parts s) (edT (Plain.parts s) W k)) (edW (Plain.parts s) W k) [] != 0) = false := by rw [hE]; rfl
    rw [txGo_go hKK hE] at hi2
    repeat' (first | ((with_reducible show IsX _ _ _ _ _ _); first | (refine IsX.mk (by with_unfolding_all exact rfl) ?_ (RX.tupL (.cons (RX.aggL (.cons (.fro ?_) (.cons (.own rfl) .nil))) (.cons (.fro ?_) .nil)))) | (refine IsX.nil (fun _ => rfl) (by decide) ?_ (RX.tupL (.cons (RX.aggL (.cons (.fro ?_) (.cons (.nil rfl) .nil))) (.cons (.fro ?_) .nil))))) | (with_reducible first | refine ⟨(_, _, _, _, _, _), ⟨(.cons (.agg (.cons (.v _) (.cons (.own (by with_unfolding_all exact rfl) (by with_unfolding_all exact rfl) (by with_unfolding_all exact rfl)) .nil))) (.cons (.v _) (.cons (.v _) (.cons (.agg (.cons (.v _) (.cons (.nil _ _ _ (fun _ => rfl)) .nil))) .nil)))), ?_⟩, ?_⟩ | refine ex_moveO (α := Int × ByteArray × List Spn) ((k : Int) - 1, splT S L (plA (Plain.parts s) (edF (Plain.parts s) W k)) (plA (Plain.parts s) (edT (Plain.parts s) W k)) (edW (Plain.parts s) W k) [], splL S L (plA (Plain.parts s) (edF (Plain.parts s) W k)) (plA (Plain.parts s) (edT (Plain.parts s) W k)) (edW (Plain.parts s) W k) []) 2 5 rfl (by with_unfolding_all exact rfl) (by with_unfolding_all exact rfl) ⟨⟨⟨?_, ?_⟩, ?_⟩, ?_⟩ ?_ | exact fun h => h | refine ExE.row (by with_unfolding_all rfl) ?_ | refine And.intro ?_ ?_) | ((with_reducible intro hq); first | exact bne1 hq (by with_reducible assumption) | exact bne1 (by with_reducible assumption) hq | ((simp only [*, BB, cond_true, cond_false, reduceCtorEq] at hq); done) | (revert hq; with_reducible intro _)) | (with_reducible first | exact True.intro | rfl | refine EntLe.row ?_ | exact LeN.ro rfl | exact LeN.rptr | assumption) | ((with_reducible first | refine WkX.chk ?_ | refine Wk.chk ?_ | refine LeL.chk ?_ | refine LeF.chk ?_ | refine Run.mk ?_); (conv => whnf)) | ((with_reducible show LeO _ _); first | refine LeO.ro ?_ | refine LeO.roCap ?_ | refine LeO.nil ?_ (fun _ => rfl)) | ((with_reducible show LeR _ _ _); first | refine LeR.own rfl rfl rfl ?_ | refine LeR.view rfl rfl rfl ?_ ?_ | refine LeR.ro ?_ | refine LeR.roCap ?_ | refine LeR.nil ?_ (fun _ => rfl)) | ((with_reducible first | show drawOK _ _ = true | show lateOK _ _ = true | show drawOK2 _ _ = true | show drawOK3 _ _ = true); kernel_rfl))
    all_goals first
      | omega
      | (apply Fits.i64 <;> omega)
      | (rw [show (k : Int) - 1 + 1 = (k : Int) by omega, e1]; exact hi2)
      | (dsimp only; omega)
      | trace_state
  · have hE2 : (splE S L (plA (Plain.parts s) (edF (Plain.parts s) W k)) (plA (Plain.parts s) (edT (Plain.parts s) W k)) (edW (Plain.parts s) W k) [] != 0) = true := by simpa using hE
    rw [txGo_err hKK hE] at hi2
    repeat' (first | ((with_reducible show IsX _ _ _ _ _ _); first | (refine IsX.mk (by with_unfolding_all exact rfl) ?_ (RX.tupL (.cons (RX.aggL (.cons (.fro ?_) (.cons (.own rfl) .nil))) (.cons (.fro ?_) .nil)))) | (refine IsX.nil (fun _ => rfl) (by decide) ?_ (RX.tupL (.cons (RX.aggL (.cons (.fro ?_) (.cons (.nil rfl) .nil))) (.cons (.fro ?_) .nil))))) | (with_reducible first | refine ⟨(_, _, _, _, _, _), ⟨(.cons (.agg (.cons (.v _) (.cons (.own (by with_unfolding_all exact rfl) (by with_unfolding_all exact rfl) (by with_unfolding_all exact rfl)) .nil))) (.cons (.v _) (.cons (.v _) (.cons (.agg (.cons (.v _) (.cons (.nil _ _ _ (fun _ => rfl)) .nil))) .nil)))), ?_⟩, ?_⟩ | exact fun h => h | refine ExE.row (by with_unfolding_all rfl) ?_ | refine And.intro ?_ ?_) | ((with_reducible intro hq); first | exact bne1 hq (by with_reducible assumption) | exact bne1 (by with_reducible assumption) hq | ((simp only [*, BB, cond_true, cond_false, reduceCtorEq] at hq); done) | (revert hq; with_reducible intro _)) | (with_reducible first | exact True.intro | rfl | refine EntLe.row ?_ | exact LeN.ro rfl | exact LeN.rptr | assumption) | ((with_reducible first | refine WkX.chk ?_ | refine Wk.chk ?_ | refine LeL.chk ?_ | refine LeF.chk ?_ | refine Run.mk ?_); (conv => whnf)) | ((with_reducible show LeO _ _); first | refine LeO.ro ?_ | refine LeO.roCap ?_ | refine LeO.nil ?_ (fun _ => rfl)) | ((with_reducible show LeR _ _ _); first | refine LeR.own rfl rfl rfl ?_ | refine LeR.view rfl rfl rfl ?_ ?_ | refine LeR.ro ?_ | refine LeR.roCap ?_ | refine LeR.nil ?_ (fun _ => rfl)) | ((with_reducible first | show drawOK _ _ = true | show lateOK _ _ = true | show drawOK2 _ _ = true | show drawOK3 _ _ = true); kernel_rfl))
    all_goals first
      | omega
      | (rw [← hi2]; first | done | rfl)
      | (show (txR s l width).2.1 = []; rw [← hi2]; done)
      | trace_state
end Go.SX.Try
/- Contracts of the laws' SameSpans, SameText. -/
namespace Go.SX.Try
open Go.Proofs Go.Proofs.Try Go.SX.Plain
set_option maxRecDepth 100000
set_option maxHeartbeats 0
set_option linter.unusedSimpArgs false
theorem q_sameSpans : fact 43 f43 := ⟨by kernel_rfl, rfl, by kernel_rfl⟩
theorem q_sameText : fact 22 f22 := ⟨by kernel_rfl, rfl, by kernel_rfl⟩
def spEqB (x y : Spn) : Bool := x.frm == y.frm && (x.to == y.to && (x.kind == y.kind && x.val == y.val))
theorem spEqB_eq (x y : Spn) : spEqB x y = decide (x = y) := by
  obtain ⟨a, b, c, d⟩ := x
  obtain ⟨a', b', c', d'⟩ := y
  rw [Bool.eq_iff_iff]
  simp only [spEqB, Bool.and_eq_true, beq_iff_eq, decide_eq_true_eq, Spn.mk.injEq]
theorem con_sameSpans : Con prog 43 (fun ((l, r) : List Spn × List Spn) => [spR l, spR r]) (fun (l, r) => .sb (decide (l = r))) (fun (l, _) => l.length ≤ 9000000000000000000) := by
  refine Con.of (by kernel_rfl) T_ok CdsOK.nil .nil 3 [] q_sameSpans.1 q_sameSpans.2.1 q_sameSpans.2.2 (fun _ => rfl) fun i hi => ?_
  obtain ⟨l, r⟩ := i
  have hl9 : l.length ≤ 9000000000000000000 := hi
  have hd : C_spn.d = zS := rfl
  by_cases hl : l.length = r.length
  case neg =>
    have k1 : ((l.length : Int) != (r.length : Int)) = true := by rw [bne_iff_ne]; omega
    have hne : decide (l = r) = false := decide_eq_false fun h => hl (by rw [h])
    repeat' (first | (with_reducible first | exact fun h => h | refine ExE.row (by with_unfolding_all rfl) ?_ | refine And.intro ?_ ?_) | ((with_reducible intro hq); first | exact bne1 hq (by with_reducible assumption) | exact bne1 (by with_reducible assumption) hq | ((simp only [*, BB, cond_true, cond_false, reduceCtorEq] at hq); done) | (revert hq; with_reducible intro _)) | (with_reducible first | exact True.intro | rfl | refine EntLe.row ?_ | exact LeN.ro rfl | exact LeN.rptr | assumption) | ((with_reducible first | refine WkX.chk ?_ | refine Wk.chk ?_ | refine LeL.chk ?_ | refine LeF.chk ?_ | refine Run.mk ?_); (conv => whnf)) | ((with_reducible show LeO _ _); first | refine LeO.ro ?_ | refine LeO.roCap ?_ | refine LeO.nil ?_ (fun _ => rfl)) | ((with_reducible show LeR _ _ _); first | refine LeR.own rfl rfl rfl ?_ | refine LeR.view rfl rfl rfl ?_ ?_ | refine LeR.ro ?_ | refine LeR.roCap ?_ | refine LeR.nil ?_ (fun _ => rfl)) | ((with_reducible first | show drawOK _ _ = true | show lateOK _ _ = true | show drawOK2 _ _ = true | show drawOK3 _ _ = true); kernel_rfl))
    all_goals first
      | exact hne.symm
      | trace_state
  have k1 : ((l.length : Int) != (r.length : Int)) = false := by rw [bne_eq_false_iff_eq]; omega
  repeat' (first | (with_reducible first | exact fun h => h | refine ExE.row (by with_unfolding_all rfl) ?_ | refine And.intro ?_ ?_) | ((with_reducible intro hq); first | exact bne1 hq (by with_reducible assumption) | exact bne1 (by with_reducible assumption) hq | ((simp only [*, BB, cond_true, cond_false, reduceCtorEq] at hq); done) | (revert hq; with_reducible intro _)) | (with_reducible first | exact True.intro | rfl | refine EntLe.row ?_ | exact LeN.ro rfl | exact LeN.rptr | assumption) | ((with_reducible first | refine WkX.chk ?_ | refine Wk.chk ?_ | refine LeL.chk ?_ | refine LeF.chk ?_ | refine Run.mk ?_); (conv => whnf)) | ((with_reducible show LeO _ _); first | refine LeO.ro ?_ | refine LeO.roCap ?_ | refine LeO.nil ?_ (fun _ => rfl)) | ((with_reducible show LeR _ _ _); first | refine LeR.own rfl rfl rfl ?_ | refine LeR.view rfl rfl rfl ?_ ?_ | refine LeR.ro ?_ | refine LeR.roCap ?_ | refine LeR.nil ?_ (fun _ => rfl)) | ((with_reducible first | show drawOK _ _ = true | show lateOK _ _ = true | show drawOK2 _ _ = true | show drawOK3 _ _ = true); kernel_rfl))
  refine loopI Nat [] (fun i => [(5, .v (.int .i64 (i : Nat)))]) (fun _ => []) (fun i => i ≤ l.length ∧ ∀ k, k < i → l.getD k zS = r.getD k zS) (fun i => l.length - i) 0 ⟨Nat.zero_le _, fun k h => absurd h (Nat.not_lt_zero _)⟩ (Wk.chk ?_) fun i hx => ?_
  · ((conv => whnf); repeat' (first | (with_reducible first | exact fun h => h | refine ExE.row (by with_unfolding_all rfl) ?_ | refine And.intro ?_ ?_) | ((with_reducible intro hq); first | exact bne1 hq (by with_reducible assumption) | exact bne1 (by with_reducible assumption) hq | ((simp only [*, BB, cond_true, cond_false, reduceCtorEq] at hq); done) | (revert hq; with_reducible intro _)) | (with_reducible first | exact True.intro | rfl | refine EntLe.row ?_ | exact LeN.ro rfl | exact LeN.rptr | assumption) | ((with_reducible first | refine WkX.chk ?_ | refine Wk.chk ?_ | refine LeL.chk ?_ | refine LeF.chk ?_ | refine Run.mk ?_); (conv => whnf)) | ((with_reducible show LeO _ _); first | refine LeO.ro ?_ | refine LeO.roCap ?_ | refine LeO.nil ?_ (fun _ => rfl)) | ((with_reducible show LeR _ _ _); first | refine LeR.own rfl rfl rfl ?_ | refine LeR.view rfl rfl rfl ?_ ?_ | refine LeR.ro ?_ | refine LeR.roCap ?_ | refine LeR.nil ?_ (fun _ => rfl)) | ((with_reducible first | show drawOK _ _ = true | show lateOK _ _ = true | show drawOK2 _ _ = true | show drawOK3 _ _ = true); kernel_rfl)))
    all_goals rfl
  obtain ⟨hi1, hi2⟩ := hx
  have e1 : ((i : Nat) : Int).toNat = i := Int.toNat_natCast _
  by_cases hil : i < l.length
  · have hlt : decide ((i : Int) < (l.length : Int)) = true := decide_eq_true (by omega)
    have hW : ((l.getD ((i : Nat) : Int).toNat C_spn.d).frm == (r.getD ((i : Nat) : Int).toNat C_spn.d).frm && ((l.getD ((i : Nat) : Int).toNat C_spn.d).to == (r.getD ((i : Nat) : Int).toNat C_spn.d).to && ((l.getD ((i : Nat) : Int).toNat C_spn.d).kind == (r.getD ((i : Nat) : Int).toNat C_spn.d).kind && (l.getD ((i : Nat) : Int).toNat C_spn.d).val == (r.getD ((i : Nat) : Int).toNat C_spn.d).val))) = decide (l.getD i zS = r.getD i zS) := by
      rw [e1, hd]
      exact spEqB_eq _ _
    by_cases he : l.getD i zS = r.getD i zS
    · rw [decide_eq_true he] at hW
      have k4 : (!((l.getD ((i : Nat) : Int).toNat C_spn.d).frm == (r.getD ((i : Nat) : Int).toNat C_spn.d).frm && ((l.getD ((i : Nat) : Int).toNat C_spn.d).to == (r.getD ((i : Nat) : Int).toNat C_spn.d).to && ((l.getD ((i : Nat) : Int).toNat C_spn.d).kind == (r.getD ((i : Nat) : Int).toNat C_spn.d).kind && (l.getD ((i : Nat) : Int).toNat C_spn.d).val == (r.getD ((i : Nat) : Int).toNat C_spn.d).val)))) = false := by rw [hW]; rfl
      have hi3 : ∀ k, k < i + 1 → l.getD k zS = r.getD k zS := fun k hk => by
        by_cases h : k = i
        · rw [h]; exact he
        · exact hi2 k (by omega)
      clear he hW
      repeat' (first | (with_reducible first | refine ex_of (α := Nat) (i + 1) ⟨⟨?_, hi3⟩, ?_⟩ ?_ | exact fun h => h | refine ExE.row (by with_unfolding_all rfl) ?_ | refine And.intro ?_ ?_) | ((with_reducible intro hq); first | exact bne1 hq (by with_reducible assumption) | exact bne1 (by with_reducible assumption) hq | ((simp only [*, BB, cond_true, cond_false, reduceCtorEq] at hq); done) | (revert hq; with_reducible intro _)) | (with_reducible first | exact True.intro | rfl | refine EntLe.row ?_ | exact LeN.ro rfl | exact LeN.rptr | assumption) | ((with_reducible first | refine WkX.chk ?_ | refine Wk.chk ?_ | refine LeL.chk ?_ | refine LeF.chk ?_ | refine Run.mk ?_); (conv => whnf)) | ((with_reducible show LeO _ _); first | refine LeO.ro ?_ | refine LeO.roCap ?_ | refine LeO.nil ?_ (fun _ => rfl)) | ((with_reducible show LeR _ _ _); first | refine LeR.own rfl rfl rfl ?_ | refine LeR.view rfl rfl rfl ?_ ?_ | refine LeR.ro ?_ | refine LeR.roCap ?_ | refine LeR.nil ?_ (fun _ => rfl)) | ((with_reducible first | show drawOK _ _ = true | show lateOK _ _ = true | show drawOK2 _ _ = true | show drawOK3 _ _ = true); kernel_rfl))
      all_goals first
        | omega
        | (apply Fits.i64 <;> omega)
        | (dsimp only; omega)
        | trace_state
    · rw [decide_eq_false he] at hW
      have k4 : (!((l.getD ((i : Nat) : Int).toNat C_spn.d).frm == (r.getD ((i : Nat) : Int).toNat C_spn.d).frm && ((l.getD ((i : Nat) : Int).toNat C_spn.d).to == (r.getD ((i : Nat) : Int).toNat C_spn.d).to && ((l.getD ((i : Nat) : Int).toNat C_spn.d).kind == (r.getD ((i : Nat) : Int).toNat C_spn.d).kind && (l.getD ((i : Nat) : Int).toNat C_spn.d).val == (r.getD ((i : Nat) : Int).toNat C_spn.d).val)))) = true := by rw [hW]; rfl
      have hne : decide (l = r) = false := decide_eq_false fun h => he (by rw [h])
      clear he hW
      repeat' (first | (with_reducible first | exact fun h => h | refine ExE.row (by with_unfolding_all rfl) ?_ | refine And.intro ?_ ?_) | ((with_reducible intro hq); first | exact bne1 hq (by with_reducible assumption) | exact bne1 (by with_reducible assumption) hq | ((simp only [*, BB, cond_true, cond_false, reduceCtorEq] at hq); done) | (revert hq; with_reducible intro _)) | (with_reducible first | exact True.intro | rfl | refine EntLe.row ?_ | exact LeN.ro rfl | exact LeN.rptr | assumption) | ((with_reducible first | refine WkX.chk ?_ | refine Wk.chk ?_ | refine LeL.chk ?_ | refine LeF.chk ?_ | refine Run.mk ?_); (conv => whnf)) | ((with_reducible show LeO _ _); first | refine LeO.ro ?_ | refine LeO.roCap ?_ | refine LeO.nil ?_ (fun _ => rfl)) | ((with_reducible show LeR _ _ _); first | refine LeR.own rfl rfl rfl ?_ | refine LeR.view rfl rfl rfl ?_ ?_ | refine LeR.ro ?_ | refine LeR.roCap ?_ | refine LeR.nil ?_ (fun _ => rfl)) | ((with_reducible first | show drawOK _ _ = true | show lateOK _ _ = true | show drawOK2 _ _ = true | show drawOK3 _ _ = true); kernel_rfl))
      all_goals first
        | omega
        | exact hne.symm
        | trace_state
  have hlt : decide ((i : Int) < (l.length : Int)) = false := decide_eq_false (by omega)
  have heq : decide (l = r) = true := decide_eq_true (getD_ext (d := zS) hl fun k hk => hi2 k (by omega))
  repeat' (first | (with_reducible first | exact fun h => h | refine ExE.row (by with_unfolding_all rfl) ?_ | refine And.intro ?_ ?_) | ((with_reducible intro hq); first | exact bne1 hq (by with_reducible assumption) | exact bne1 (by with_reducible assumption) hq | ((simp only [*, BB, cond_true, cond_false, reduceCtorEq] at hq); done) | (revert hq; with_reducible intro _)) | (with_reducible first | exact True.intro | rfl | refine EntLe.row ?_ | exact LeN.ro rfl | exact LeN.rptr | assumption) | ((with_reducible first | refine WkX.chk ?_ | refine Wk.chk ?_ | refine LeL.chk ?_ | refine LeF.chk ?_ | refine Run.mk ?_); (conv => whnf)) | ((with_reducible show LeO _ _); first | refine LeO.ro ?_ | refine LeO.roCap ?_ | refine LeO.nil ?_ (fun _ => rfl)) | ((with_reducible show LeR _ _ _); first | refine LeR.own rfl rfl rfl ?_ | refine LeR.view rfl rfl rfl ?_ ?_ | refine LeR.ro ?_ | refine LeR.roCap ?_ | refine LeR.nil ?_ (fun _ => rfl)) | ((with_reducible first | show drawOK _ _ = true | show lateOK _ _ = true | show drawOK2 _ _ = true | show drawOK3 _ _ = true); kernel_rfl))
  all_goals first
    | exact heq.symm
    | trace_state
theorem con_sameText : Con prog 22 (fun ((a, l, b, r) : ByteArray × List Spn × ByteArray × List Spn) => [txAV a l, txAV b r]) (fun (a, l, b, r) => .sb (decide (a = b) && decide (l = r))) (fun (_, l, _, _) => l.length ≤ 9000000000000000000) := by
  refine Con.of (by kernel_rfl) T_ok CdsOK.nil (.con con_sameSpans .nil) 3 [] q_sameText.1 q_sameText.2.1 q_sameText.2.2 (fun _ => rfl) fun i hi => ?_
  obtain ⟨a, l, b, r⟩ := i
  have hl9 : l.length ≤ 9000000000000000000 := hi
  repeat' (first | (with_reducible first | refine ⟨(l, r), ⟨(.cons (.lent _ _ _ _ _ _) (.cons (.lent _ _ _ _ _ _) .nil)), ?_⟩, ?_⟩ | exact fun h => h | refine ExE.row (by with_unfolding_all rfl) ?_ | refine And.intro ?_ ?_) | ((with_reducible intro hq); first | exact bne1 hq (by with_reducible assumption) | exact bne1 (by with_reducible assumption) hq | ((simp only [*, BB, cond_true, cond_false, reduceCtorEq] at hq); done) | (revert hq; with_reducible intro _)) | (with_reducible first | exact True.intro | rfl | refine EntLe.row ?_ | exact LeN.ro rfl | exact LeN.rptr | assumption) | ((with_reducible first | refine WkX.chk ?_ | refine Wk.chk ?_ | refine LeL.chk ?_ | refine LeF.chk ?_ | refine Run.mk ?_); (conv => whnf)) | ((with_reducible show LeO _ _); first | refine LeO.ro ?_ | refine LeO.roCap ?_ | refine LeO.nil ?_ (fun _ => rfl)) | ((with_reducible show LeR _ _ _); first | refine LeR.own rfl rfl rfl ?_ | refine LeR.view rfl rfl rfl ?_ ?_ | refine LeR.ro ?_ | refine LeR.roCap ?_ | refine LeR.nil ?_ (fun _ => rfl)) | ((with_reducible first | show drawOK _ _ = true | show lateOK _ _ = true | show drawOK2 _ _ = true | show drawOK3 _ _ = true); kernel_rfl))
  all_goals first
    | exact hl9
    | rfl
    | (simp only [*, Bool.false_and]; done)
    | (cases hc : decide (a = b) <;> simp_all; done)
    | trace_state
end Go.SX.Try
/- Contract of wrap's Badness. -/
namespace Go.SX.Try
open Go.Proofs Go.Proofs.Try Go.SX.Plain
set_option maxRecDepth 100000
set_option maxHeartbeats 0
set_option linter.unusedSimpArgs false
end Go.SX.Try
/- Contract of the document's chapter 1: Runes. -/
namespace Go.SX.Try
open Go.Proofs Go.Proofs.Try Go.SX.Plain
set_option maxRecDepth 100000
set_option maxHeartbeats 0
set_option linter.unusedSimpArgs false
end Go.SX.Try
/- Contracts of the document's chapter 2. -/
namespace Go.SX.Try
open Go.Proofs Go.Proofs.Try Go.SX.Plain
set_option maxRecDepth 100000
set_option maxHeartbeats 0
set_option linter.unusedSimpArgs false
def C_i32 : Cdc Int where
  size := 1
  enc p := [.v (.int .i32 p)]
  dec l := match l with
    | [.v (.int _ a)] => a
    | _ => 0
  d := 0
def D_csg : Cds := [(21, ⟨Int, C_i32⟩), (3, ⟨Int, C_int⟩)]
def C_clu : Cdc Clu where
  size := 5
  enc p := [.v (.int .i64 p.at), .v (.int .i64 p.len), .v (.int .i64 p.frm), .v (.int .i64 p.to), .v (.int .i64 p.cells)]
  dec l := match l with
    | [.v (.int _ a), .v (.int _ b), .v (.int _ c), .v (.int _ d), .v (.int _ e)] => ⟨a, b, c, d, e⟩
    | _ => ⟨0, 0, 0, 0, 0⟩
  d := ⟨0, 0, 0, 0, 0⟩
end Go.SX.Try
/- Contracts of the document's chapter 10: runes among some, pieces, kinds, places. -/
namespace Go.SX.Try
open Go.Proofs Go.Proofs.Try Go.SX.Plain
set_option maxRecDepth 100000
set_option maxHeartbeats 0
set_option linter.unusedSimpArgs false
abbrev pcAV (x : Pc) : List AV := [.v (.int .i64 x.r), .v (.int .i64 x.frm), .v (.int .i64 x.to), .v (.int .i64 x.cells)]
def C_pc : Cdc Pc where
  size := 4
  enc := pcAV
  dec l := match l with
    | [.v (.int _ a), .v (.int _ b), .v (.int _ c), .v (.int _ d)] => ⟨a, b, c, d⟩
    | _ => ⟨0, 0, 0, 0⟩
  d := ⟨0, 0, 0, 0⟩
def C_intL : Cdc Int := { C_int with lit := true }
end Go.SX.Try
/- Contract of the document's table. -/
namespace Go.SX.Try
open Go.Proofs Go.Proofs.Try Go.SX.Plain
set_option maxRecDepth 100000
set_option maxHeartbeats 0
set_option linter.unusedSimpArgs false
abbrev rbAV (x : Rb) : List AV := [.v (.int .i64 x.bad), .v (.int .i64 x.count), .v (.int .i64 x.next)]
def C_rb : Cdc Rb where
  size := 3
  enc := rbAV
  dec l := match l with
    | [.v (.int _ a), .v (.int _ b), .v (.int _ c)] => ⟨a, b, c⟩
    | _ => ⟨0, 0, 0⟩
  d := ⟨0, 0, 0⟩
structure OkL (l : List Part) : Prop where
  told : ∀ p ∈ l, Plain.Told p
  small : Small l
  len : l.length ≤ 5000
end Go.SX.Try
/- Contracts of the document's way, Wrap, Places; of the program's Places; of the law's Same, head. -/
namespace Go.SX.Try
open Go.Proofs Go.Proofs.Try Go.SX.Plain
set_option maxRecDepth 100000
set_option maxHeartbeats 0
set_option linter.unusedSimpArgs false
def D_way : Cds := [(3, ⟨Int, C_int⟩), (57, ⟨Int × Int, C_brk⟩)]
theorem D_way_ok : CdsOK T D_way := .cons ⟨fun _ => rfl, by decide, _, rfl, rfl, by decide⟩ (.cons ⟨fun _ => rfl, by decide, _, rfl, rfl, by decide⟩ .nil)
theorem q_wplaces : fact 9 f9 := ⟨by kernel_rfl, rfl, by kernel_rfl⟩
theorem q_same : fact 19 f19 := ⟨by kernel_rfl, rfl, by kernel_rfl⟩
theorem q_head : fact 7 f7 := ⟨by kernel_rfl, rfl, by kernel_rfl⟩
theorem conx_wplaces : ConX prog 9 (fun s : ByteArray => [.v (.string s)]) (fun _ n => .own n) C_brk (fun s => outL (Plain.parts s) ((Plain.parts s).length + 1)) 36 (fun s => s.size ≤ 2000000) := by
  refine ConX.of (by kernel_rfl) T_ok D_way_ok (.con con_parts (.conx conx_places .nil)) 3 [] q_wplaces.1 q_wplaces.2.1 q_wplaces.2.2 (fun _ => rfl) fun s hs => ?_
  have hl := parts_len s
  repeat' (first | ((with_reducible show IsX _ _ _ _ _ _); first | (refine IsX.mk (by with_unfolding_all exact rfl) ?_ (.own rfl)) | (refine IsX.nil (fun _ => rfl) (by decide) ?_ (.nil rfl))) | (with_reducible first | refine ⟨_, ⟨(.cons (.v _) .nil), ?_⟩, ?_⟩ | refine ⟨_, ⟨(.cons (.ro _ _ _ _ _) .nil), ?_⟩, ?_⟩ | exact fun h => h | refine ExE.row (by with_unfolding_all rfl) ?_ | refine And.intro ?_ ?_) | ((with_reducible intro hq); first | exact bne1 hq (by with_reducible assumption) | exact bne1 (by with_reducible assumption) hq | ((simp only [*, BB, cond_true, cond_false, reduceCtorEq] at hq); done) | (revert hq; with_reducible intro _)) | (with_reducible first | exact True.intro | rfl | refine EntLe.row ?_ | exact LeN.ro rfl | exact LeN.rptr | assumption) | ((with_reducible first | refine WkX.chk ?_ | refine Wk.chk ?_ | refine LeL.chk ?_ | refine LeF.chk ?_ | refine Run.mk ?_); (conv => whnf)) | ((with_reducible show LeO _ _); first | refine LeO.ro ?_ | refine LeO.roCap ?_ | refine LeO.nil ?_ (fun _ => rfl)) | ((with_reducible show LeR _ _ _); first | refine LeR.own rfl rfl rfl ?_ | refine LeR.view rfl rfl rfl ?_ ?_ | refine LeR.ro ?_ | refine LeR.roCap ?_ | refine LeR.nil ?_ (fun _ => rfl)) | ((with_reducible first | show drawOK _ _ = true | show lateOK _ _ = true | show drawOK2 _ _ = true | show drawOK3 _ _ = true); kernel_rfl))
  all_goals first
    | exact hs
    | (dsimp only at *; omega)
    | rfl
def sameB (a b : List (Int × Int)) : Bool := decide (a = b)
theorem con_same : Con prog 19 (fun ((a, b) : List (Int × Int) × List (Int × Int)) => [.ro 2 C_brk.enc C_brk.d a none true, .ro 2 C_brk.enc C_brk.d b none true]) (fun (a, b) => .sb (decide (a = b))) (fun (a, b) => a.length ≤ 1100000) := by
  refine Con.of (by kernel_rfl) T_ok D_way_ok .nil 3 [] q_same.1 q_same.2.1 q_same.2.2 (fun _ => rfl) fun i hi => ?_
  obtain ⟨a, b⟩ := i
  have hi : a.length ≤ 1100000 := hi
  have e0 : ((a.length : Int) != (b.length : Int)) = !decide (a.length = b.length) := by rw [bne, natBeq]
  repeat' (first | (with_reducible first | exact fun h => h | refine ExE.row (by with_unfolding_all rfl) ?_ | refine And.intro ?_ ?_) | ((with_reducible intro hq); first | exact bne1 hq (by with_reducible assumption) | exact bne1 (by with_reducible assumption) hq | ((simp only [*, BB, cond_true, cond_false, reduceCtorEq] at hq); done) | (revert hq; with_reducible intro _)) | (with_reducible first | exact True.intro | rfl | refine EntLe.row ?_ | exact LeN.ro rfl | exact LeN.rptr | assumption) | ((with_reducible first | refine WkX.chk ?_ | refine Wk.chk ?_ | refine LeL.chk ?_ | refine LeF.chk ?_ | refine Run.mk ?_); (conv => whnf)) | ((with_reducible show LeO _ _); first | refine LeO.ro ?_ | refine LeO.roCap ?_ | refine LeO.nil ?_ (fun _ => rfl)) | ((with_reducible show LeR _ _ _); first | refine LeR.own rfl rfl rfl ?_ | refine LeR.view rfl rfl rfl ?_ ?_ | refine LeR.ro ?_ | refine LeR.roCap ?_ | refine LeR.nil ?_ (fun _ => rfl)) | ((with_reducible first | show drawOK _ _ = true | show lateOK _ _ = true | show drawOK2 _ _ = true | show drawOK3 _ _ = true); kernel_rfl))
  · rename_i h
    rw [e0] at h
    symm
    refine decide_eq_false ?_
    rintro rfl
    simp at h
  rename_i h
  rw [e0] at h
  have hab : a.length = b.length := by simpa using h
  refine loopI Nat [] (fun i => [(5, .v (.int .i64 (i : Int)))]) (fun _ => []) (fun i => i ≤ a.length ∧ a.take i = b.take i) (fun i => a.length - i) 0 ⟨Nat.zero_le _, rfl⟩ (Wk.chk ?_) fun i hi => ?_
  · ((conv => whnf); repeat' (first | (with_reducible first | exact fun h => h | refine ExE.row (by with_unfolding_all rfl) ?_ | refine And.intro ?_ ?_) | ((with_reducible intro hq); first | exact bne1 hq (by with_reducible assumption) | exact bne1 (by with_reducible assumption) hq | ((simp only [*, BB, cond_true, cond_false, reduceCtorEq] at hq); done) | (revert hq; with_reducible intro _)) | (with_reducible first | exact True.intro | rfl | refine EntLe.row ?_ | exact LeN.ro rfl | exact LeN.rptr | assumption) | ((with_reducible first | refine WkX.chk ?_ | refine Wk.chk ?_ | refine LeL.chk ?_ | refine LeF.chk ?_ | refine Run.mk ?_); (conv => whnf)) | ((with_reducible show LeO _ _); first | refine LeO.ro ?_ | refine LeO.roCap ?_ | refine LeO.nil ?_ (fun _ => rfl)) | ((with_reducible show LeR _ _ _); first | refine LeR.own rfl rfl rfl ?_ | refine LeR.view rfl rfl rfl ?_ ?_ | refine LeR.ro ?_ | refine LeR.roCap ?_ | refine LeR.nil ?_ (fun _ => rfl)) | ((with_reducible first | show drawOK _ _ = true | show lateOK _ _ = true | show drawOK2 _ _ = true | show drawOK3 _ _ = true); kernel_rfl)))
    all_goals rfl
  obtain ⟨h1, h2⟩ := hi
  have e1 : ((i : Int)).toNat = i := Int.toNat_natCast _
  have e2 : C_brk.d = (0, 0) := rfl
  repeat' (first | (with_reducible first | refine ex_of (i + 1) ⟨⟨?_, ?_⟩, ?_⟩ ?_ | exact fun h => h | refine ExE.row (by with_unfolding_all rfl) ?_ | refine And.intro ?_ ?_) | ((with_reducible intro hq); first | exact bne1 hq (by with_reducible assumption) | exact bne1 (by with_reducible assumption) hq | ((simp only [*, BB, cond_true, cond_false, reduceCtorEq] at hq); done) | (revert hq; with_reducible intro _)) | (with_reducible first | exact True.intro | rfl | refine EntLe.row ?_ | exact LeN.ro rfl | exact LeN.rptr | assumption) | ((with_reducible first | refine WkX.chk ?_ | refine Wk.chk ?_ | refine LeL.chk ?_ | refine LeF.chk ?_ | refine Run.mk ?_); (conv => whnf)) | ((with_reducible show LeO _ _); first | refine LeO.ro ?_ | refine LeO.roCap ?_ | refine LeO.nil ?_ (fun _ => rfl)) | ((with_reducible show LeR _ _ _); first | refine LeR.own rfl rfl rfl ?_ | refine LeR.view rfl rfl rfl ?_ ?_ | refine LeR.ro ?_ | refine LeR.roCap ?_ | refine LeR.nil ?_ (fun _ => rfl)) | ((with_reducible first | show drawOK _ _ = true | show lateOK _ _ = true | show drawOK2 _ _ = true | show drawOK3 _ _ = true); kernel_rfl))
  all_goals (try simp only [e1, e2, decide_eq_true_eq, decide_eq_false_iff_not] at *)
  all_goals first
    | omega
    | (refine Fits.i64 ?_ ?_ <;> omega)
    | rfl
    | (symm
       refine decide_eq_false ?_
       rintro rfl
       simp at *; done)
    | (simp_all; done)
    | (rw [← take_one a (0, 0) (by omega), ← take_one b (0, 0) (by omega), h2]
       have q : (a.getD i (0, 0)) = (b.getD i (0, 0)) := by
         refine Prod.ext ?_ ?_ <;> simp_all
       rw [q])
    | (symm
       refine decide_eq_true ?_
       rw [take_all a (by omega), take_all b (by omega)] at h2
       exact h2)
end Go.SX.Try
/- Contracts of chapter 10's law: ours, texts. -/
namespace Go.SX.Try
open Go.Proofs Go.Proofs.Try Go.SX.Plain
set_option maxRecDepth 100000
set_option maxHeartbeats 0
set_option linter.unusedSimpArgs false
theorem q_ours : fact 20 f20 := ⟨by kernel_rfl, rfl, by kernel_rfl⟩
theorem q_texts : fact 21 f21 := ⟨by kernel_rfl, rfl, by kernel_rfl⟩
def D_ours : Cds := [(57, ⟨Int × Int, C_brk⟩)]
theorem D_ours_ok : CdsOK T D_ours := .cons ⟨fun _ => rfl, by decide, _, rfl, rfl, by decide⟩ .nil
theorem con_ours : Con prog 20 (fun l : List (Int × Int) => [.ro 2 C_brk.enc C_brk.d l none true]) (fun l => .ro 2 C_brk.enc C_brk.d l none) (fun l => l.length ≤ 100000) := by
  refine Con.of (by kernel_rfl) T_ok D_ours_ok .nil 3 [] q_ours.1 q_ours.2.1 q_ours.2.2 (fun _ => rfl) fun l hl => ?_
  have hl2 : l.length ≤ 100000 := hl
  have hd : C_brk.d = (0, 0) := rfl
  repeat' (first | (with_reducible first | exact fun h => h | refine ExE.row (by with_unfolding_all rfl) ?_ | refine And.intro ?_ ?_) | ((with_reducible intro hq); first | exact bne1 hq (by with_reducible assumption) | exact bne1 (by with_reducible assumption) hq | ((simp only [*, BB, cond_true, cond_false, reduceCtorEq] at hq); done) | (revert hq; with_reducible intro _)) | (with_reducible first | exact True.intro | rfl | refine EntLe.row ?_ | exact LeN.ro rfl | exact LeN.rptr | assumption) | ((with_reducible first | refine WkX.chk ?_ | refine Wk.chk ?_ | refine LeL.chk ?_ | refine LeF.chk ?_ | refine Run.mk ?_); (conv => whnf)) | ((with_reducible show LeO _ _); first | refine LeO.ro ?_ | refine LeO.roCap ?_ | refine LeO.nil ?_ (fun _ => rfl)) | ((with_reducible show LeR _ _ _); first | refine LeR.own rfl rfl rfl ?_ | refine LeR.view rfl rfl rfl ?_ ?_ | refine LeR.ro ?_ | refine LeR.roCap ?_ | refine LeR.nil ?_ (fun _ => rfl)) | ((with_reducible first | show drawOK _ _ = true | show lateOK _ _ = true | show drawOK2 _ _ = true | show drawOK3 _ _ = true); kernel_rfl))
  refine loopI Nat [] (fun k => [(4, .v (.int .i64 (k : Nat))), (3, .own 1)]) (fun k => [(1, .row C_brk (l.take k) 57 none)]) (fun k => k ≤ l.length) (fun k => l.length - k) 0 (Nat.zero_le _) (Wk.chk ?_) fun k hk => ?_
  · ((conv => whnf); repeat' (first | (with_reducible first | exact fun h => h | refine ExE.row (by with_unfolding_all rfl) ?_ | refine And.intro ?_ ?_) | ((with_reducible intro hq); first | exact bne1 hq (by with_reducible assumption) | exact bne1 (by with_reducible assumption) hq | ((simp only [*, BB, cond_true, cond_false, reduceCtorEq] at hq); done) | (revert hq; with_reducible intro _)) | (with_reducible first | exact True.intro | rfl | refine EntLe.row ?_ | exact LeN.ro rfl | exact LeN.rptr | assumption) | ((with_reducible first | refine WkX.chk ?_ | refine Wk.chk ?_ | refine LeL.chk ?_ | refine LeF.chk ?_ | refine Run.mk ?_); (conv => whnf)) | ((with_reducible show LeO _ _); first | refine LeO.ro ?_ | refine LeO.roCap ?_ | refine LeO.nil ?_ (fun _ => rfl)) | ((with_reducible show LeR _ _ _); first | refine LeR.own rfl rfl rfl ?_ | refine LeR.view rfl rfl rfl ?_ ?_ | refine LeR.ro ?_ | refine LeR.roCap ?_ | refine LeR.nil ?_ (fun _ => rfl)) | ((with_reducible first | show drawOK _ _ = true | show lateOK _ _ = true | show drawOK2 _ _ = true | show drawOK3 _ _ = true); kernel_rfl)))
    all_goals rfl
  have e1 : ((k : Int)).toNat = k := Int.toNat_natCast _
  repeat' (first | (with_reducible first | refine ex_of (α := Nat) (k + 1) ⟨?_, ?_⟩ ?_ | exact fun h => h | refine ExE.row (by with_unfolding_all rfl) ?_ | refine And.intro ?_ ?_) | ((with_reducible intro hq); first | exact bne1 hq (by with_reducible assumption) | exact bne1 (by with_reducible assumption) hq | ((simp only [*, BB, cond_true, cond_false, reduceCtorEq] at hq); done) | (revert hq; with_reducible intro _)) | (with_reducible first | exact True.intro | rfl | refine EntLe.row ?_ | exact LeN.ro rfl | exact LeN.rptr | assumption) | ((with_reducible first | refine WkX.chk ?_ | refine Wk.chk ?_ | refine LeL.chk ?_ | refine LeF.chk ?_ | refine Run.mk ?_); (conv => whnf)) | ((with_reducible show LeO _ _); first | refine LeO.ro ?_ | refine LeO.roCap ?_ | refine LeO.nil ?_ (fun _ => rfl)) | ((with_reducible show LeR _ _ _); first | refine LeR.own rfl rfl rfl ?_ | refine LeR.view rfl rfl rfl ?_ ?_ | refine LeR.ro ?_ | refine LeR.roCap ?_ | refine LeR.nil ?_ (fun _ => rfl)) | ((with_reducible first | show drawOK _ _ = true | show lateOK _ _ = true | show drawOK2 _ _ = true | show drawOK3 _ _ = true); kernel_rfl))
  all_goals first
    | omega
    | (simp only [decide_eq_true_eq, decide_eq_false_iff_not, e1, hd, List.length_take, List.length_cons, List.length_nil] at *; first | omega | (apply Fits.i64 <;> omega) | (exact take_one l (0, 0) (by omega)) | (exact take_all l (by omega)))
    | rfl
    | trace_state
def C_str : Cdc ByteArray where
  size := 1
  enc p := [.v (.string p)]
  dec l := match l with
    | [.v (.string a)] => a
    | _ => ByteArray.empty
  d := ByteArray.empty
theorem con_texts : Con prog 21 (fun ((a, b) : List ByteArray × List ByteArray) => [.ro 1 C_str.enc C_str.d a none true, .ro 1 C_str.enc C_str.d b none true]) (fun (a, b) => .sb (decide (a = b))) (fun (a, b) => a.length ≤ 1100000) := by
  refine Con.of (by kernel_rfl) T_ok CdsOK.nil .nil 3 [] q_texts.1 q_texts.2.1 q_texts.2.2 (fun _ => rfl) fun i hi => ?_
  obtain ⟨a, b⟩ := i
  have hi : a.length ≤ 1100000 := hi
  have e0 : ((a.length : Int) != (b.length : Int)) = !decide (a.length = b.length) := by rw [bne, natBeq]
  repeat' (first | (with_reducible first | exact fun h => h | refine ExE.row (by with_unfolding_all rfl) ?_ | refine And.intro ?_ ?_) | ((with_reducible intro hq); first | exact bne1 hq (by with_reducible assumption) | exact bne1 (by with_reducible assumption) hq | ((simp only [*, BB, cond_true, cond_false, reduceCtorEq] at hq); done) | (revert hq; with_reducible intro _)) | (with_reducible first | exact True.intro | rfl | refine EntLe.row ?_ | exact LeN.ro rfl | exact LeN.rptr | assumption) | ((with_reducible first | refine WkX.chk ?_ | refine Wk.chk ?_ | refine LeL.chk ?_ | refine LeF.chk ?_ | refine Run.mk ?_); (conv => whnf)) | ((with_reducible show LeO _ _); first | refine LeO.ro ?_ | refine LeO.roCap ?_ | refine LeO.nil ?_ (fun _ => rfl)) | ((with_reducible show LeR _ _ _); first | refine LeR.own rfl rfl rfl ?_ | refine LeR.view rfl rfl rfl ?_ ?_ | refine LeR.ro ?_ | refine LeR.roCap ?_ | refine LeR.nil ?_ (fun _ => rfl)) | ((with_reducible first | show drawOK _ _ = true | show lateOK _ _ = true | show drawOK2 _ _ = true | show drawOK3 _ _ = true); kernel_rfl))
  · rename_i h
    rw [e0] at h
    symm
    refine decide_eq_false ?_
    rintro rfl
    simp at h
  rename_i h
  rw [e0] at h
  have hab : a.length = b.length := by simpa using h
  refine loopI Nat [] (fun i => [(5, .v (.int .i64 (i : Int)))]) (fun _ => []) (fun i => i ≤ a.length ∧ a.take i = b.take i) (fun i => a.length - i) 0 ⟨Nat.zero_le _, rfl⟩ (Wk.chk ?_) fun i hi => ?_
  · ((conv => whnf); repeat' (first | (with_reducible first | exact fun h => h | refine ExE.row (by with_unfolding_all rfl) ?_ | refine And.intro ?_ ?_) | ((with_reducible intro hq); first | exact bne1 hq (by with_reducible assumption) | exact bne1 (by with_reducible assumption) hq | ((simp only [*, BB, cond_true, cond_false, reduceCtorEq] at hq); done) | (revert hq; with_reducible intro _)) | (with_reducible first | exact True.intro | rfl | refine EntLe.row ?_ | exact LeN.ro rfl | exact LeN.rptr | assumption) | ((with_reducible first | refine WkX.chk ?_ | refine Wk.chk ?_ | refine LeL.chk ?_ | refine LeF.chk ?_ | refine Run.mk ?_); (conv => whnf)) | ((with_reducible show LeO _ _); first | refine LeO.ro ?_ | refine LeO.roCap ?_ | refine LeO.nil ?_ (fun _ => rfl)) | ((with_reducible show LeR _ _ _); first | refine LeR.own rfl rfl rfl ?_ | refine LeR.view rfl rfl rfl ?_ ?_ | refine LeR.ro ?_ | refine LeR.roCap ?_ | refine LeR.nil ?_ (fun _ => rfl)) | ((with_reducible first | show drawOK _ _ = true | show lateOK _ _ = true | show drawOK2 _ _ = true | show drawOK3 _ _ = true); kernel_rfl)))
    all_goals rfl
  obtain ⟨h1, h2⟩ := hi
  have e1 : ((i : Int)).toNat = i := Int.toNat_natCast _
  have e2 : C_str.d = ByteArray.empty := rfl
  repeat' (first | (with_reducible first | refine ex_of (i + 1) ⟨⟨?_, ?_⟩, ?_⟩ ?_ | exact fun h => h | refine ExE.row (by with_unfolding_all rfl) ?_ | refine And.intro ?_ ?_) | ((with_reducible intro hq); first | exact bne1 hq (by with_reducible assumption) | exact bne1 (by with_reducible assumption) hq | ((simp only [*, BB, cond_true, cond_false, reduceCtorEq] at hq); done) | (revert hq; with_reducible intro _)) | (with_reducible first | exact True.intro | rfl | refine EntLe.row ?_ | exact LeN.ro rfl | exact LeN.rptr | assumption) | ((with_reducible first | refine WkX.chk ?_ | refine Wk.chk ?_ | refine LeL.chk ?_ | refine LeF.chk ?_ | refine Run.mk ?_); (conv => whnf)) | ((with_reducible show LeO _ _); first | refine LeO.ro ?_ | refine LeO.roCap ?_ | refine LeO.nil ?_ (fun _ => rfl)) | ((with_reducible show LeR _ _ _); first | refine LeR.own rfl rfl rfl ?_ | refine LeR.view rfl rfl rfl ?_ ?_ | refine LeR.ro ?_ | refine LeR.roCap ?_ | refine LeR.nil ?_ (fun _ => rfl)) | ((with_reducible first | show drawOK _ _ = true | show lateOK _ _ = true | show drawOK2 _ _ = true | show drawOK3 _ _ = true); kernel_rfl))
  all_goals (try simp only [e1, e2, decide_eq_true_eq, decide_eq_false_iff_not] at *)
  all_goals first
    | omega
    | (refine Fits.i64 ?_ ?_ <;> omega)
    | rfl
    | (symm
       refine decide_eq_false ?_
       rintro rfl
       simp at *; done)
    | (simp_all; done)
    | (rw [← take_one a ByteArray.empty (by omega), ← take_one b ByteArray.empty (by omega), h2]
       have q : (a.getD i ByteArray.empty) = (b.getD i ByteArray.empty) := by simp_all
       rw [q])
    | (symm
       refine decide_eq_true ?_
       rw [take_all a (by omega), take_all b (by omega)] at h2
       exact h2)
end Go.SX.Try
/- Contract of wrap's Lines. -/
namespace Go.SX.Try
open Go.Proofs Go.Proofs.Try Go.SX.Plain
set_option maxRecDepth 100000
set_option maxHeartbeats 0
set_option linter.unusedSimpArgs false
theorem q_wlines : fact 10 f10 := ⟨by kernel_rfl, rfl, by kernel_rfl⟩
def D_str : Cds := [(9, ⟨ByteArray, C_str⟩)]
theorem D_str_ok : CdsOK T D_str := .cons ⟨fun _ => rfl, by decide, _, rfl, rfl, by decide⟩ .nil
theorem conx_wlines : ConX prog 10 (fun ((s, way) : ByteArray × List (Int × Int)) => [.v (.string s), .ro 2 C_brk.enc C_brk.d way none true]) (fun (s, way) n => .tup [.own n, .v (.int .i64 (linesE s way))]) C_str (fun (s, way) => linesT s way) 9 (fun _ => True) := by
  refine ConX.of (by kernel_rfl) T_ok D_str_ok (.con con_lines (.con con_trimmed .nil)) 3 [] q_wlines.1 q_wlines.2.1 q_wlines.2.2 (fun _ => rfl) fun i hi => ?_
  obtain ⟨s, way⟩ := i
  by_cases hsz : 4096 < s.size
  · have ht : decide ((4096 : Int) < (s.size : Int)) = true := decide_eq_true (by omega)
    have hE : linesE s way = 3 := by unfold linesE; rw [if_pos hsz]
    have hT : linesT s way = [] := by unfold linesT; rw [hE, if_neg (by decide)]
    repeat' (first | ((with_reducible show IsX _ _ _ _ _ _); first | (refine IsX.mk (by with_unfolding_all exact rfl) ?_ (RX.tupL (.cons (.own rfl) (.cons (.fro ?_) .nil)))) | (refine IsX.nil (fun _ => rfl) (by decide) ?_ (RX.tupL (.cons (.nil rfl) (.cons (.fro ?_) .nil))))) | (with_reducible first | refine ⟨(_, _), ⟨(.cons (.v _) (.cons (.lent _ _ _ _ _ _) .nil)), ?_⟩, ?_⟩ | exact fun h => h | refine ExE.row (by with_unfolding_all rfl) ?_ | refine And.intro ?_ ?_) | ((with_reducible intro hq); first | exact bne1 hq (by with_reducible assumption) | exact bne1 (by with_reducible assumption) hq | ((simp only [*, BB, cond_true, cond_false, reduceCtorEq] at hq); done) | (revert hq; with_reducible intro _)) | (with_reducible first | exact True.intro | rfl | refine EntLe.row ?_ | exact LeN.ro rfl | exact LeN.rptr | assumption) | ((with_reducible first | refine WkX.chk ?_ | refine Wk.chk ?_ | refine LeL.chk ?_ | refine LeF.chk ?_ | refine Run.mk ?_); (conv => whnf)) | ((with_reducible show LeO _ _); first | refine LeO.ro ?_ | refine LeO.roCap ?_ | refine LeO.nil ?_ (fun _ => rfl)) | ((with_reducible show LeR _ _ _); first | refine LeR.own rfl rfl rfl ?_ | refine LeR.view rfl rfl rfl ?_ ?_ | refine LeR.ro ?_ | refine LeR.roCap ?_ | refine LeR.nil ?_ (fun _ => rfl)) | ((with_reducible first | show drawOK _ _ = true | show lateOK _ _ = true | show drawOK2 _ _ = true | show drawOK3 _ _ = true); kernel_rfl))
    all_goals first
      | exact hT
      | exact hT.symm
      | exact hE.symm
      | trace_state
  have ht : decide ((4096 : Int) < (s.size : Int)) = false := decide_eq_false (by omega)
  cases hB : linesB s way with
  | false =>
    have hE : linesE s way = 1 := by unfold linesE; rw [if_neg hsz, if_pos hB]
    have hT : linesT s way = [] := by unfold linesT; rw [hE, if_neg (by decide)]
    have hnb : (!linesB s way) = true := by rw [hB]; rfl
    repeat' (first | ((with_reducible show IsX _ _ _ _ _ _); first | (refine IsX.mk (by with_unfolding_all exact rfl) ?_ (RX.tupL (.cons (.own rfl) (.cons (.fro ?_) .nil)))) | (refine IsX.nil (fun _ => rfl) (by decide) ?_ (RX.tupL (.cons (.nil rfl) (.cons (.fro ?_) .nil))))) | (with_reducible first | refine ⟨(_, _), ⟨(.cons (.v _) (.cons (.lent _ _ _ _ _ _) .nil)), ?_⟩, ?_⟩ | exact fun h => h | refine ExE.row (by with_unfolding_all rfl) ?_ | refine And.intro ?_ ?_) | ((with_reducible intro hq); first | exact bne1 hq (by with_reducible assumption) | exact bne1 (by with_reducible assumption) hq | ((simp only [*, BB, cond_true, cond_false, reduceCtorEq] at hq); done) | (revert hq; with_reducible intro _)) | (with_reducible first | exact True.intro | rfl | refine EntLe.row ?_ | exact LeN.ro rfl | exact LeN.rptr | assumption) | ((with_reducible first | refine WkX.chk ?_ | refine Wk.chk ?_ | refine LeL.chk ?_ | refine LeF.chk ?_ | refine Run.mk ?_); (conv => whnf)) | ((with_reducible show LeO _ _); first | refine LeO.ro ?_ | refine LeO.roCap ?_ | refine LeO.nil ?_ (fun _ => rfl)) | ((with_reducible show LeR _ _ _); first | refine LeR.own rfl rfl rfl ?_ | refine LeR.view rfl rfl rfl ?_ ?_ | refine LeR.ro ?_ | refine LeR.roCap ?_ | refine LeR.nil ?_ (fun _ => rfl)) | ((with_reducible first | show drawOK _ _ = true | show lateOK _ _ = true | show drawOK2 _ _ = true | show drawOK3 _ _ = true); kernel_rfl))
    all_goals first
      | exact hT
      | exact hT.symm
      | exact hE.symm
      | (dsimp only; omega)
      | trace_state
  | true =>
    have hE : linesE s way = 0 := by unfold linesE; rw [if_neg hsz, if_neg (by rw [hB]; decide)]
    have hT : linesT s way = (linesL s way).map (textL s) := by unfold linesT; rw [hE, if_pos rfl]
    have hnb : (!linesB s way) = false := by rw [hB]; rfl
    obtain ⟨hwl, hLl⟩ := linesB_way hB
    have hsm := linesL_small s way
    have hsub := linesL_sub s way
    have hd : C_parts.d = [] := rfl
    have hd2 : C_part.d = dPart := rfl
    repeat' (first | ((with_reducible show IsX _ _ _ _ _ _); first | (refine IsX.mk (by with_unfolding_all exact rfl) ?_ (RX.tupL (.cons (.own rfl) (.cons (.fro ?_) .nil)))) | (refine IsX.nil (fun _ => rfl) (by decide) ?_ (RX.tupL (.cons (.nil rfl) (.cons (.fro ?_) .nil))))) | (with_reducible first | refine ⟨(_, _), ⟨(.cons (.v _) (.cons (.lent _ _ _ _ _ _) .nil)), ?_⟩, ?_⟩ | exact fun h => h | refine ExE.row (by with_unfolding_all rfl) ?_ | refine And.intro ?_ ?_) | ((with_reducible intro hq); first | exact bne1 hq (by with_reducible assumption) | exact bne1 (by with_reducible assumption) hq | ((simp only [*, BB, cond_true, cond_false, reduceCtorEq] at hq); done) | (revert hq; with_reducible intro _)) | (with_reducible first | exact True.intro | rfl | refine EntLe.row ?_ | exact LeN.ro rfl | exact LeN.rptr | assumption) | ((with_reducible first | refine WkX.chk ?_ | refine Wk.chk ?_ | refine LeL.chk ?_ | refine LeF.chk ?_ | refine Run.mk ?_); (conv => whnf)) | ((with_reducible show LeO _ _); first | refine LeO.ro ?_ | refine LeO.roCap ?_ | refine LeO.nil ?_ (fun _ => rfl)) | ((with_reducible show LeR _ _ _); first | refine LeR.own rfl rfl rfl ?_ | refine LeR.view rfl rfl rfl ?_ ?_ | refine LeR.ro ?_ | refine LeR.roCap ?_ | refine LeR.nil ?_ (fun _ => rfl)) | ((with_reducible first | show drawOK _ _ = true | show lateOK _ _ = true | show drawOK2 _ _ = true | show drawOK3 _ _ = true); kernel_rfl))
    · dsimp only; omega
    refine loopI Nat [] (fun k => [(25, .v (.int .i64 (k : Nat))), (8, .own 1)]) (fun k => [(1, .row C_str ((linesT s way).take k) 9 none)]) (fun k => k ≤ (linesL s way).length)
      (fun k => (linesL s way).length - k) 0 (Nat.zero_le _) (Wk.chk ?_) fun k hk => ?_
    · ((conv => whnf); repeat' (first | (with_reducible first | exact fun h => h | refine ExE.row (by with_unfolding_all rfl) ?_ | refine And.intro ?_ ?_) | ((with_reducible intro hq); first | exact bne1 hq (by with_reducible assumption) | exact bne1 (by with_reducible assumption) hq | ((simp only [*, BB, cond_true, cond_false, reduceCtorEq] at hq); done) | (revert hq; with_reducible intro _)) | (with_reducible first | exact True.intro | rfl | refine EntLe.row ?_ | exact LeN.ro rfl | exact LeN.rptr | assumption) | ((with_reducible first | refine WkX.chk ?_ | refine Wk.chk ?_ | refine LeL.chk ?_ | refine LeF.chk ?_ | refine Run.mk ?_); (conv => whnf)) | ((with_reducible show LeO _ _); first | refine LeO.ro ?_ | refine LeO.roCap ?_ | refine LeO.nil ?_ (fun _ => rfl)) | ((with_reducible show LeR _ _ _); first | refine LeR.own rfl rfl rfl ?_ | refine LeR.view rfl rfl rfl ?_ ?_ | refine LeR.ro ?_ | refine LeR.roCap ?_ | refine LeR.nil ?_ (fun _ => rfl)) | ((with_reducible first | show drawOK _ _ = true | show lateOK _ _ = true | show drawOK2 _ _ = true | show drawOK3 _ _ = true); kernel_rfl)))
      all_goals rfl
    have e1 : ((k : Int)).toNat = k := Int.toNat_natCast _
    by_cases hkl : k < (linesL s way).length
    · have hlt : decide ((k : Int) < ((linesL s way).length : Int)) = true := decide_eq_true (by omega)
      have hmem := getD_memL [] hkl
      have hs1 := hsm _ hmem
      obtain ⟨a, b, hab⟩ := hsub _ hmem
      have htk := take_map (textL s) (linesL s way) [] hkl
      rw [← hT] at htk
      have hg0 := fun h => (trim_get hab (k := 0) h).1
      have hg1 := fun h => trim_get hab (k := (trimL ((linesL s way).getD k [])).length - 1) h
      have hzl : (trimL ((linesL s way).getD k [])).length ≤ s.size := by
        have := trimN_le ((linesL s way).getD k [])
        rw [trimL_len]
        have := hs1.2
        omega
      have hb : 0 < (trimL ((linesL s way).getD k [])).length → 0 ≤ ((trimL ((linesL s way).getD k [])).getD 0 dPart).c.at ∧ ((trimL ((linesL s way).getD k [])).getD 0 dPart).c.at ≤ ((trimL ((linesL s way).getD k [])).getD ((trimL ((linesL s way).getD k [])).length - 1) dPart).c.at + ((trimL ((linesL s way).getD k [])).getD ((trimL ((linesL s way).getD k [])).length - 1) dPart).c.len ∧
          ((trimL ((linesL s way).getD k [])).getD ((trimL ((linesL s way).getD k [])).length - 1) dPart).c.at + ((trimL ((linesL s way).getD k [])).getD ((trimL ((linesL s way).getD k [])).length - 1) dPart).c.len ≤ s.size := fun h => by
        have h2 := hg1 (by omega)
        rw [hg0 h, h2.1]
        exact (part_ord s (i := a + 0) (by omega) h2.2).2
      have ht0 : (trimL ((linesL s way).getD k [])).length = 0 → textL s ((linesL s way).getD k []) = ByteArray.empty := fun h => by
        unfold textL
        rw [if_pos h]
      have ht1 : ¬ (trimL ((linesL s way).getD k [])).length = 0 → textL s ((linesL s way).getD k []) = s.extract ((trimL ((linesL s way).getD k [])).getD 0 dPart).c.at.toNat (((trimL ((linesL s way).getD k [])).getD ((trimL ((linesL s way).getD k [])).length - 1) dPart).c.at + ((trimL ((linesL s way).getD k [])).getD ((trimL ((linesL s way).getD k [])).length - 1) dPart).c.len).toNat := fun h => by
        unfold textL
        rw [if_neg h]
      have htl : (List.take k (linesT s way)).length ≤ k := List.length_take_le _ _
      clear hg0 hg1 hab
      revert hb ht0 ht1 htk hzl
      have hzz : ∃ Z, Z = trimL ((linesL s way).getD k []) := ⟨_, rfl⟩
      obtain ⟨Z, hZ⟩ := hzz
      rw [← hZ]
      intro htk hzl hb ht0 ht1
      have e3 : ((Z.length : Int) - 1).toNat = Z.length - 1 := by omega
      repeat' (first | ((with_reducible show IsX _ _ _ _ _ _); first | (refine IsX.mk (by with_unfolding_all exact rfl) ?_ (RX.tupL (.cons (.own rfl) (.cons (.fro ?_) .nil)))) | (refine IsX.nil (fun _ => rfl) (by decide) ?_ (RX.tupL (.cons (.nil rfl) (.cons (.fro ?_) .nil))))) | (with_reducible first | refine ⟨_, ⟨(.cons (.ro _ _ _ _ _) .nil), ?_⟩, ?_⟩ | refine ex_of (α := Nat) (k + 1) ⟨?_, ?_⟩ ?_ | exact fun h => h | refine ExE.row (by with_unfolding_all rfl) ?_ | refine And.intro ?_ ?_) | ((with_reducible intro hq); first | exact bne1 hq (by with_reducible assumption) | exact bne1 (by with_reducible assumption) hq | ((simp only [*, BB, cond_true, cond_false, reduceCtorEq] at hq); done) | (revert hq; with_reducible intro _)) | (with_reducible first | exact True.intro | rfl | refine EntLe.row ?_ | exact LeN.ro rfl | exact LeN.rptr | assumption) | ((with_reducible first | refine WkX.chk ?_ | refine Wk.chk ?_ | refine LeL.chk ?_ | refine LeF.chk ?_ | refine Run.mk ?_); (conv => whnf)) | ((with_reducible show LeO _ _); first | refine LeO.ro ?_ | refine LeO.roCap ?_ | refine LeO.nil ?_ (fun _ => rfl)) | ((with_reducible show LeR _ _ _); first | refine LeR.own rfl rfl rfl ?_ | refine LeR.view rfl rfl rfl ?_ ?_ | refine LeR.ro ?_ | refine LeR.roCap ?_ | refine LeR.nil ?_ (fun _ => rfl)) | ((with_reducible first | show drawOK _ _ = true | show lateOK _ _ = true | show drawOK2 _ _ = true | show drawOK3 _ _ = true); kernel_rfl))
      all_goals (try simp only [e1, hd, hd2, ← hZ, e3, show Int.toNat 0 = 0 from rfl, C_str, beq_iff_eq, beq_eq_false_iff_ne, ne_eq] at *)
      all_goals first
        | omega
        | rfl
        | (apply Fits.i64 <;> omega)
        | (simp only [List.length_cons, List.length_nil]; omega)
        | (rw [← htk, ht0 (by omega)]; rfl)
        | (rw [← htk, ht1 (by omega)]; done)
        | (have hbb := hb (by omega); first | omega | (apply Fits.i64 <;> omega))
        | trace_state
    · have hlt : decide ((k : Int) < ((linesL s way).length : Int)) = false := decide_eq_false (by omega)
      have hfin : List.take k (linesT s way) = linesT s way := List.take_of_length_le (by rw [hT, List.length_map]; omega)
      repeat' (first | ((with_reducible show IsX _ _ _ _ _ _); first | (refine IsX.mk (by with_unfolding_all exact rfl) ?_ (RX.tupL (.cons (.own rfl) (.cons (.fro ?_) .nil)))) | (refine IsX.nil (fun _ => rfl) (by decide) ?_ (RX.tupL (.cons (.nil rfl) (.cons (.fro ?_) .nil))))) | (with_reducible first | exact fun h => h | refine ExE.row (by with_unfolding_all rfl) ?_ | refine And.intro ?_ ?_) | ((with_reducible intro hq); first | exact bne1 hq (by with_reducible assumption) | exact bne1 (by with_reducible assumption) hq | ((simp only [*, BB, cond_true, cond_false, reduceCtorEq] at hq); done) | (revert hq; with_reducible intro _)) | (with_reducible first | exact True.intro | rfl | refine EntLe.row ?_ | exact LeN.ro rfl | exact LeN.rptr | assumption) | ((with_reducible first | refine WkX.chk ?_ | refine Wk.chk ?_ | refine LeL.chk ?_ | refine LeF.chk ?_ | refine Run.mk ?_); (conv => whnf)) | ((with_reducible show LeO _ _); first | refine LeO.ro ?_ | refine LeO.roCap ?_ | refine LeO.nil ?_ (fun _ => rfl)) | ((with_reducible show LeR _ _ _); first | refine LeR.own rfl rfl rfl ?_ | refine LeR.view rfl rfl rfl ?_ ?_ | refine LeR.ro ?_ | refine LeR.roCap ?_ | refine LeR.nil ?_ (fun _ => rfl)) | ((with_reducible first | show drawOK _ _ = true | show lateOK _ _ = true | show drawOK2 _ _ = true | show drawOK3 _ _ = true); kernel_rfl))
      all_goals first
        | exact hfin
        | exact hE.symm
        | trace_state
end Go.SX.Try
/- Contracts of the document's read, line. -/
namespace Go.SX.Try
open Go.Proofs Go.Proofs.Try Go.SX.Plain
set_option maxRecDepth 100000
set_option maxHeartbeats 0
set_option linter.unusedSimpArgs false
def D_rd : Cds := [(3, ⟨Int, C_int⟩)]
def castL (l : List Nat) : List Int := l.map fun (i : Nat) => (i : Int)
def readL (s : ByteArray) (way : List (Int × Int)) : List Int := ((rdW (Plain.parts s) way).map fun x => castL x.1).getD []
end Go.SX.Try
/- Contract of the document's line. -/
namespace Go.SX.Try
open Go.Proofs Go.Proofs.Try Go.SX.Plain
set_option maxRecDepth 100000
set_option maxHeartbeats 0
set_option linter.unusedSimpArgs false
end Go.SX.Try
/- Contract of the document's Badness. -/
namespace Go.SX.Try
open Go.Proofs Go.Proofs.Try Go.SX.Plain
set_option maxRecDepth 100000
set_option maxHeartbeats 0
set_option linter.unusedSimpArgs false
def frE (l : List Part) (R : List Nat) (k : Nat) : Nat := if k ≤ R.length then frO R k else l.length
end Go.SX.Try
/- Contract of chapter 10's head; what the laws WrapLeast, WrapPlaces answer, in terms of the two tables. -/
namespace Go.SX.Try
open Go.Proofs Go.Proofs.Try Go.SX.Plain
set_option maxRecDepth 100000
set_option maxHeartbeats 0
set_option linter.unusedSimpArgs false
def C_brkL : Cdc (Int × Int) := { C_brk with lit := true }
def D_law : Cds := [(36, ⟨Int × Int, C_brk⟩), (57, ⟨Int × Int, C_brkL⟩)]
theorem D_law_ok : CdsOK T D_law := .cons ⟨fun _ => rfl, by decide, _, rfl, rfl, by decide⟩ (.cons ⟨fun _ => rfl, by decide, _, rfl, rfl, by decide⟩ .nil)
def tx1 : ByteArray := ⟨#[97, 97, 97, 32, 98, 98, 32, 99, 99]⟩
def tx2 : ByteArray := ⟨#[97, 98, 99, 100, 101, 102]⟩
theorem con_head : Con prog 7 (fun _ : Unit => []) (fun _ => .sb true) (fun _ => True) := by
  refine Con.of (by kernel_rfl) T_ok D_law_ok (.con con_wrap (.con con_same .nil)) 3 [] q_head.1 q_head.2.1 q_head.2.2 (fun _ => rfl) fun i _ => ?_
  have h1 : wrapL { data := #[97, 97, 97, 32, 98, 98, 32, 99, 99] } 6 = [(4, 2)] := by kernel_rfl
  have h2 : wrapB { data := #[97, 97, 97, 32, 98, 98, 32, 99, 99] } 6 = 10 := by kernel_rfl
  have h3 : checkN (ByteArray.size { data := #[97, 97, 97, 32, 98, 98, 32, 99, 99] }) 6 = 0 := by kernel_rfl
  have h4 : wrapL { data := #[97, 98, 99, 100, 101, 102] } 4 = [(3, 3)] := by kernel_rfl
  have h5 : wrapB { data := #[97, 98, 99, 100, 101, 102] } 4 = 1048578 := by kernel_rfl
  have h6 : checkN (ByteArray.size { data := #[97, 98, 99, 100, 101, 102] }) 4 = 0 := by kernel_rfl
  repeat' (first | (with_reducible first | refine ⟨(_, _), ⟨(.cons (.v _) (.cons (.v _) .nil)), ?_⟩, ?_⟩ | refine ⟨(_, _), ⟨(.cons (.lent _ _ _ _ _ _) (.cons (.lent _ _ _ _ _ _) .nil)), ?_⟩, ?_⟩ | exact fun h => h | refine ExE.row (by with_unfolding_all rfl) ?_ | refine And.intro ?_ ?_) | ((with_reducible intro hq); first | exact bne1 hq (by with_reducible assumption) | exact bne1 (by with_reducible assumption) hq | ((simp only [*, BB, cond_true, cond_false, reduceCtorEq] at hq); done) | (revert hq; with_reducible intro _)) | (with_reducible first | exact True.intro | rfl | refine EntLe.row ?_ | exact LeN.ro rfl | exact LeN.rptr | assumption) | ((with_reducible first | refine WkX.chk ?_ | refine Wk.chk ?_ | refine LeL.chk ?_ | refine LeF.chk ?_ | refine Run.mk ?_); (conv => whnf)) | ((with_reducible show LeO _ _); first | refine LeO.ro ?_ | refine LeO.roCap ?_ | refine LeO.nil ?_ (fun _ => rfl)) | ((with_reducible show LeR _ _ _); first | refine LeR.own rfl rfl rfl ?_ | refine LeR.view rfl rfl rfl ?_ ?_ | refine LeR.ro ?_ | refine LeR.roCap ?_ | refine LeR.nil ?_ (fun _ => rfl)) | ((with_reducible first | show drawOK _ _ = true | show lateOK _ _ = true | show drawOK2 _ _ = true | show drawOK3 _ _ = true); kernel_rfl))
  all_goals first
    | rfl
    | (dsimp only; rw [h1]; decide)
    | (dsimp only; rw [h4]; decide)
    | (rw [h1, h2, h3, h4, h5, h6]; rfl)
    | (exfalso
       simp_all [C_brkL, C_brk, zeroAV]; done)
end Go.SX.Try
/- Contract of the law WrapBadness: true, whatever the input. -/
namespace Go.SX.Try
open Go.Proofs Go.Proofs.Try Go.SX.Plain
set_option maxRecDepth 100000
set_option maxHeartbeats 0
set_option linter.unusedSimpArgs false
end Go.SX.Try
/- Contracts of chapter 10's law: within, chosen. -/
namespace Go.SX.Plain
def pickB (pl : List (Int × Int)) (picks : List Int) (i : Nat) : Bool := decide ((pl.getD i (0, 0)).2 = 1) || (decide (0 < picks.length) && decide ((picks.getD ((i : Int).tmod picks.length).toNat 0).tmod 2 ≠ 0))
def chosenTo (pl : List (Int × Int)) (picks : List Int) (k : Nat) : List (Int × Int) := ((List.range k).filter (pickB pl picks)).map fun i => pl.getD i (0, 0)
end Go.SX.Plain
namespace Go.SX.Try
open Go.Proofs Go.Proofs.Try Go.SX.Plain
set_option maxRecDepth 100000
set_option maxHeartbeats 0
set_option linter.unusedSimpArgs false
theorem q_within : fact 6 f6 := ⟨by kernel_rfl, rfl, by kernel_rfl⟩
theorem tmod_bd (a : Int) {n : Int} (hn : 0 < n) : (a.tmod n < 0 → a.tmod n + n = a % n) ∧ (¬ a.tmod n < 0 → a.tmod n = a % n) ∧ -n < a.tmod n ∧ a.tmod n < n := by
  have h1 := Int.emod_nonneg a (show n ≠ 0 by omega)
  have h2 := Int.emod_lt_of_pos a hn
  have h3 := Int.tmod_eq_emod (a := a) (b := n)
  by_cases hc : 0 ≤ a ∨ n ∣ a
  · rw [if_pos hc] at h3
    omega
  · rw [if_neg hc] at h3
    have h4 : a % n ≠ 0 := fun h => hc (.inr (Int.dvd_of_emod_eq_zero h))
    omega
theorem con_within : Con prog 6 (fun ((a, n) : Int × Int) => [.v (.int .i64 a), .v (.int .i64 n)]) (fun (a, n) => .v (.int .i64 (a % n))) (fun (_, n) => 0 < n ∧ n ≤ 1100000) := by
  refine Con.of (by kernel_rfl) T_ok CdsOK.nil .nil 3 [] q_within.1 q_within.2.1 q_within.2.2 (fun _ => rfl) fun i hi => ?_
  obtain ⟨a, n⟩ := i
  have hn : 0 < n ∧ n ≤ 1100000 := hi
  obtain ⟨h1, h2, h3, h4⟩ := tmod_bd a hn.1
  repeat' (first | (with_reducible first | exact fun h => h | refine ExE.row (by with_unfolding_all rfl) ?_ | refine And.intro ?_ ?_) | ((with_reducible intro hq); first | exact bne1 hq (by with_reducible assumption) | exact bne1 (by with_reducible assumption) hq | ((simp only [*, BB, cond_true, cond_false, reduceCtorEq] at hq); done) | (revert hq; with_reducible intro _)) | (with_reducible first | exact True.intro | rfl | refine EntLe.row ?_ | exact LeN.ro rfl | exact LeN.rptr | assumption) | ((with_reducible first | refine WkX.chk ?_ | refine Wk.chk ?_ | refine LeL.chk ?_ | refine LeF.chk ?_ | refine Run.mk ?_); (conv => whnf)) | ((with_reducible show LeO _ _); first | refine LeO.ro ?_ | refine LeO.roCap ?_ | refine LeO.nil ?_ (fun _ => rfl)) | ((with_reducible show LeR _ _ _); first | refine LeR.own rfl rfl rfl ?_ | refine LeR.view rfl rfl rfl ?_ ?_ | refine LeR.ro ?_ | refine LeR.roCap ?_ | refine LeR.nil ?_ (fun _ => rfl)) | ((with_reducible first | show drawOK _ _ = true | show lateOK _ _ = true | show drawOK2 _ _ = true | show drawOK3 _ _ = true); kernel_rfl))
  all_goals (try simp only [decide_eq_true_eq, decide_eq_false_iff_not] at *)
  all_goals first
    | omega
    | (apply Fits.i64 <;> omega)
    | exact h1 (by assumption)
    | exact h2 (by assumption)
    | trace_state
end Go.SX.Try
/- The law WrapOwn: true, whatever the input. -/
namespace Go.SX.Try
open Go.Proofs Go.Proofs.Try Go.SX.Plain
set_option maxRecDepth 100000
set_option maxHeartbeats 0
set_option linter.unusedSimpArgs false
theorem q_wrapOwn : fact 4 f4 := ⟨by kernel_rfl, rfl, by kernel_rfl⟩
def C_brkK : Cdc (Int × Int) := { C_brk with kp := true }
def C_strK : Cdc ByteArray := { C_str with kp := true }
def C_spnK : Cdc Spn := { C_spn with kp := true }
def C_strL : Cdc ByteArray := { C_str with lit := true }
def C_spnL : Cdc Spn := { C_spn with lit := true }
def D_own : Cds := [(36, ⟨Int × Int, C_brkL⟩), (9, ⟨ByteArray, C_strL⟩), (50, ⟨Spn, C_spnL⟩)]
theorem D_own_ok : CdsOK T D_own := .cons ⟨fun _ => rfl, by decide, _, rfl, rfl, by decide⟩ (.cons ⟨fun _ => rfl, by decide, _, rfl, rfl, by decide⟩ (.cons ⟨fun _ => rfl, by decide, _, rfl, rfl, by decide⟩ .nil))
theorem con_wrapOwn : Con prog 4 (fun ((s, l, w) : ByteArray × List Spn × Int) => [txAV s l, .v (.int .i64 w)]) (fun _ => .v (.bool true)) (fun (_, l, _) => l.length * 32 ≤ 140737488351232) := by
  refine Con.of (by kernel_rfl) T_ok D_own_ok (.con con_within (.con con_scheck (.con con_head (.conx (conx_wrap.cod (C' := C_brkK) rfl rfl) (.conx (conx_wplaces.cod (C' := C_brkK) rfl rfl) (.conx (conx_wtext.cod (C' := C_spnK) rfl rfl) (.conx (conx_wlines.cod (C' := C_strK) rfl rfl) (.con con_ours (.con con_same (.con con_texts (.con con_sameText .nil))))))))))) 3 [] q_wrapOwn.1 q_wrapOwn.2.1 q_wrapOwn.2.2 (fun _ => rfl) fun i hi => ?_
  obtain ⟨s, l, width⟩ := i
  have hl : l.length * 32 ≤ 140737488351232 := hi
  have hw0 := Int.emod_nonneg width (show (199 : Int) ≠ 0 by decide)
  have hw3 := Int.emod_lt_of_pos width (show (0 : Int) < 199 by decide)
  by_cases h1 : chkN s.size l (sgN s : Nat) = 0
  case neg =>
    have k1 : (chkN s.size l (sgN s : Nat) != 0) = true := by simpa using h1
    repeat' (first | (with_reducible first | refine ⟨(_, _), ⟨(.cons (.v _) (.cons (.v _) .nil)), ?_⟩, ?_⟩ | refine ⟨(s, l), ⟨(.cons (.agg (.cons (.v _) (.cons (.lent _ _ _ _ _ _) .nil))) .nil), ?_⟩, ?_⟩ | refine ⟨(), ⟨.nil, ?_⟩, ?_⟩ | exact fun h => h | refine ExE.row (by with_unfolding_all rfl) ?_ | refine And.intro ?_ ?_) | ((with_reducible intro hq); first | exact bne1 hq (by with_reducible assumption) | exact bne1 (by with_reducible assumption) hq | ((simp only [*, BB, cond_true, cond_false, reduceCtorEq] at hq); done) | (revert hq; with_reducible intro _)) | (with_reducible first | exact True.intro | rfl | refine EntLe.row ?_ | exact LeN.ro rfl | exact LeN.rptr | assumption) | ((with_reducible first | refine WkX.chk ?_ | refine Wk.chk ?_ | refine LeL.chk ?_ | refine LeF.chk ?_ | refine Run.mk ?_); (conv => whnf)) | ((with_reducible show LeO _ _); first | refine LeO.ro ?_ | refine LeO.roCap ?_ | refine LeO.nil ?_ (fun _ => rfl)) | ((with_reducible show LeR _ _ _); first | refine LeR.own rfl rfl rfl ?_ | refine LeR.view rfl rfl rfl ?_ ?_ | refine LeR.ro ?_ | refine LeR.roCap ?_ | refine LeR.nil ?_ (fun _ => rfl)) | ((with_reducible first | show drawOK _ _ = true | show lateOK _ _ = true | show drawOK2 _ _ = true | show drawOK3 _ _ = true); kernel_rfl))
    all_goals first
      | omega
      | (dsimp only; omega)
      | (apply Fits.i64 <;> omega)
      | rfl
      | trace_state
  have k1 : (chkN s.size l (sgN s : Nat) != 0) = false := by rw [h1]; rfl
  have ok1 := OkT.of h1
  have hs := ok1.size
  have f0 : ((txR s l (2 + width % 199)).2.2 != (txR s l (2 + width % 199)).2.2) = false := by simp
  have g0 : (!(txR s l (2 + width % 199)).2.2 != (txR s l (2 + width % 199)).2.2) = true := by simp
  have f1 : (((txR s l (2 + width % 199)).2.2 != (txR s l (2 + width % 199)).2.2 || (((wrapL s (2 + width % 199)).length + [((0 : Int), (0 : Int))].length : Nat) : Int) != ((wrapL s (2 + width % 199)).length : Int) + 1)) = false := by simp
  have g1 : (!(((txR s l (2 + width % 199)).2.2 != (txR s l (2 + width % 199)).2.2 || (((wrapL s (2 + width % 199)).length + [((0 : Int), (0 : Int))].length : Nat) : Int) != ((wrapL s (2 + width % 199)).length : Int) + 1))) = true := by simp
  have f2 : ((((txR s l (2 + width % 199)).2.2 != (txR s l (2 + width % 199)).2.2 || (((wrapL s (2 + width % 199)).length + [((0 : Int), (0 : Int))].length : Nat) : Int) != ((wrapL s (2 + width % 199)).length : Int) + 1) || (((outL (Plain.parts s) ((Plain.parts s).length + 1)).length + [((0 : Int), (0 : Int))].length : Nat) : Int) != ((outL (Plain.parts s) ((Plain.parts s).length + 1)).length : Int) + 1)) = false := by simp
  have g2 : (!((((txR s l (2 + width % 199)).2.2 != (txR s l (2 + width % 199)).2.2 || (((wrapL s (2 + width % 199)).length + [((0 : Int), (0 : Int))].length : Nat) : Int) != ((wrapL s (2 + width % 199)).length : Int) + 1) || (((outL (Plain.parts s) ((Plain.parts s).length + 1)).length + [((0 : Int), (0 : Int))].length : Nat) : Int) != ((outL (Plain.parts s) ((Plain.parts s).length + 1)).length : Int) + 1))) = true := by simp
  have f3 : (((((txR s l (2 + width % 199)).2.2 != (txR s l (2 + width % 199)).2.2 || (((wrapL s (2 + width % 199)).length + [((0 : Int), (0 : Int))].length : Nat) : Int) != ((wrapL s (2 + width % 199)).length : Int) + 1) || (((outL (Plain.parts s) ((Plain.parts s).length + 1)).length + [((0 : Int), (0 : Int))].length : Nat) : Int) != ((outL (Plain.parts s) ((Plain.parts s).length + 1)).length : Int) + 1) || (((linesT s (wrapL s (2 + width % 199))).length + [ByteArray.empty].length : Nat) : Int) != ((linesT s (wrapL s (2 + width % 199))).length : Int) + 1)) = false := by simp
  have g3 : (!(((((txR s l (2 + width % 199)).2.2 != (txR s l (2 + width % 199)).2.2 || (((wrapL s (2 + width % 199)).length + [((0 : Int), (0 : Int))].length : Nat) : Int) != ((wrapL s (2 + width % 199)).length : Int) + 1) || (((outL (Plain.parts s) ((Plain.parts s).length + 1)).length + [((0 : Int), (0 : Int))].length : Nat) : Int) != ((outL (Plain.parts s) ((Plain.parts s).length + 1)).length : Int) + 1) || (((linesT s (wrapL s (2 + width % 199))).length + [ByteArray.empty].length : Nat) : Int) != ((linesT s (wrapL s (2 + width % 199))).length : Int) + 1))) = true := by simp
  have f4 : ((((((txR s l (2 + width % 199)).2.2 != (txR s l (2 + width % 199)).2.2 || (((wrapL s (2 + width % 199)).length + [((0 : Int), (0 : Int))].length : Nat) : Int) != ((wrapL s (2 + width % 199)).length : Int) + 1) || (((outL (Plain.parts s) ((Plain.parts s).length + 1)).length + [((0 : Int), (0 : Int))].length : Nat) : Int) != ((outL (Plain.parts s) ((Plain.parts s).length + 1)).length : Int) + 1) || (((linesT s (wrapL s (2 + width % 199))).length + [ByteArray.empty].length : Nat) : Int) != ((linesT s (wrapL s (2 + width % 199))).length : Int) + 1) || (((txR s l (2 + width % 199)).2.1.length + [zS].length : Nat) : Int) != ((txR s l (2 + width % 199)).2.1.length : Int) + 1)) = false := by simp
  have g4 : (!((((((txR s l (2 + width % 199)).2.2 != (txR s l (2 + width % 199)).2.2 || (((wrapL s (2 + width % 199)).length + [((0 : Int), (0 : Int))].length : Nat) : Int) != ((wrapL s (2 + width % 199)).length : Int) + 1) || (((outL (Plain.parts s) ((Plain.parts s).length + 1)).length + [((0 : Int), (0 : Int))].length : Nat) : Int) != ((outL (Plain.parts s) ((Plain.parts s).length + 1)).length : Int) + 1) || (((linesT s (wrapL s (2 + width % 199))).length + [ByteArray.empty].length : Nat) : Int) != ((linesT s (wrapL s (2 + width % 199))).length : Int) + 1) || (((txR s l (2 + width % 199)).2.1.length + [zS].length : Nat) : Int) != ((txR s l (2 + width % 199)).2.1.length : Int) + 1))) = true := by simp
  have hwl : (wrapL s (2 + width % 199)).length ≤ 5000 := by
    unfold wrapL
    split
    · have hlo := wrapOut_len (Plain.parts s) (2 + width % 199)
      have hlp := plcs_len (Plain.parts s) ((Plain.parts s).length + 1)
      have hpl := parts_len s
      omega
    · exact Nat.zero_le _
  have hol : (outL (Plain.parts s) ((Plain.parts s).length + 1)).length ≤ 5000 := by
    have hout : (outL (Plain.parts s) ((Plain.parts s).length + 1)).length ≤ (Plain.parts s).length + 1 := outL_len _ _
    have hpl := parts_len s
    omega
  have hll := linesT_len s (wrapL s (2 + width % 199))
  have hxl := txR_len s l (2 + width % 199)
  have hl2 := ok1.len
  repeat' (first | (with_reducible first | refine ⟨(_, _), ⟨(.cons (.v _) (.cons (.v _) .nil)), ?_⟩, ?_⟩ | refine ⟨(s, l), ⟨(.cons (.agg (.cons (.v _) (.cons (.lent _ _ _ _ _ _) .nil))) .nil), ?_⟩, ?_⟩ | refine ⟨_, ⟨(.cons (.v _) .nil), ?_⟩, ?_⟩ | refine ⟨(_, _), ⟨(.cons (.v _) (.cons (.own (by with_unfolding_all exact rfl) (by with_unfolding_all exact rfl) (by with_unfolding_all exact rfl)) .nil)), ?_⟩, ?_⟩ | refine ⟨(_, _, _), ⟨(.cons (.agg (.cons (.v _) (.cons (.lent _ _ _ _ _ _) .nil))) (.cons (.v _) .nil)), ?_⟩, ?_⟩) | (refine ex_of (α := List (Int × Int)) [(0, 0)] ⟨rfl, rfl, fun _ => rfl⟩ ?_) | (refine ex_of (α := List ByteArray) [ByteArray.empty] ⟨rfl, rfl, fun _ => rfl⟩ ?_) | (refine ex_of (α := List Spn) [zS] ⟨rfl, rfl, fun _ => rfl⟩ ?_) | (with_reducible first | exact fun h => h | refine ExE.row (by with_unfolding_all rfl) ?_ | refine And.intro ?_ ?_) | ((with_reducible intro hq); first | exact bne1 hq (by with_reducible assumption) | exact bne1 (by with_reducible assumption) hq | ((simp only [*, BB, cond_true, cond_false, reduceCtorEq] at hq); done) | (revert hq; with_reducible intro _)) | (with_reducible first | exact True.intro | rfl | refine EntLe.row ?_ | exact LeN.ro rfl | exact LeN.rptr | assumption) | ((with_reducible first | refine WkX.chk ?_ | refine Wk.chk ?_ | refine LeL.chk ?_ | refine LeF.chk ?_ | refine Run.mk ?_); (conv => whnf)) | ((with_reducible show LeO _ _); first | refine LeO.ro ?_ | refine LeO.roCap ?_ | refine LeO.nil ?_ (fun _ => rfl)) | ((with_reducible show LeR _ _ _); first | refine LeR.own rfl rfl rfl ?_ | refine LeR.view rfl rfl rfl ?_ ?_ | refine LeR.ro ?_ | refine LeR.roCap ?_ | refine LeR.nil ?_ (fun _ => rfl)) | ((with_reducible first | show drawOK _ _ = true | show lateOK _ _ = true | show drawOK2 _ _ = true | show drawOK3 _ _ = true); kernel_rfl))
  all_goals (try first | omega | (dsimp only; omega) | (apply Fits.i64 <;> omega) | (dsimp only; apply Fits.i64 <;> omega) | (simp only [List.length_cons, List.length_nil]; omega) | rfl | assumption)
  refine loopI (Nat × List (Int × Int)) [94, 105, 115, 127] (fun (k, _) => [(21, .v (.int .i64 (k : Nat)))]) (fun (_, A) => [(1, .row C_brkK A 36 none)]) (fun (k, A) => A.length = (wrapL s (2 + width % 199)).length ∧ k ≤ A.length) (fun (k, A) => (wrapL s (2 + width % 199)).length - k) (0, wrapL s (2 + width % 199)) ⟨rfl, Nat.zero_le _⟩ (Wk.chk ?_) fun i hi => ?_
  · ((conv => whnf); repeat' (first | (with_reducible first | exact fun h => h | refine ExE.row (by with_unfolding_all rfl) ?_ | refine And.intro ?_ ?_) | ((with_reducible intro hq); first | exact bne1 hq (by with_reducible assumption) | exact bne1 (by with_reducible assumption) hq | ((simp only [*, BB, cond_true, cond_false, reduceCtorEq] at hq); done) | (revert hq; with_reducible intro _)) | (with_reducible first | exact True.intro | rfl | refine EntLe.row ?_ | exact LeN.ro rfl | exact LeN.rptr | assumption) | ((with_reducible first | refine WkX.chk ?_ | refine Wk.chk ?_ | refine LeL.chk ?_ | refine LeF.chk ?_ | refine Run.mk ?_); (conv => whnf)) | ((with_reducible show LeO _ _); first | refine LeO.ro ?_ | refine LeO.roCap ?_ | refine LeO.nil ?_ (fun _ => rfl)) | ((with_reducible show LeR _ _ _); first | refine LeR.own rfl rfl rfl ?_ | refine LeR.view rfl rfl rfl ?_ ?_ | refine LeR.ro ?_ | refine LeR.roCap ?_ | refine LeR.nil ?_ (fun _ => rfl)) | ((with_reducible first | show drawOK _ _ = true | show lateOK _ _ = true | show drawOK2 _ _ = true | show drawOK3 _ _ = true); kernel_rfl)))
    all_goals first
      | rfl
      | trace_state
  obtain ⟨k, A21⟩ := i
  obtain ⟨hA21, hk⟩ := hi
  by_cases hkl : k < A21.length
  · have kb : decide ((k : Int) < (A21.length : Int)) = true := decide_eq_true (by omega)
    repeat' (first | (with_reducible first | refine ex_of (α := Nat × List (Int × Int)) (k + 1, A21.set k (-7, 0)) ⟨⟨?_, ?_⟩, ?_⟩ ?_ | exact fun h => h | refine ExE.row (by with_unfolding_all rfl) ?_ | refine And.intro ?_ ?_) | ((with_reducible intro hq); first | exact bne1 hq (by with_reducible assumption) | exact bne1 (by with_reducible assumption) hq | ((simp only [*, BB, cond_true, cond_false, reduceCtorEq] at hq); done) | (revert hq; with_reducible intro _)) | (with_reducible first | exact True.intro | rfl | refine EntLe.row ?_ | exact LeN.ro rfl | exact LeN.rptr | assumption) | ((with_reducible first | refine WkX.chk ?_ | refine Wk.chk ?_ | refine LeL.chk ?_ | refine LeF.chk ?_ | refine Run.mk ?_); (conv => whnf)) | ((with_reducible show LeO _ _); first | refine LeO.ro ?_ | refine LeO.roCap ?_ | refine LeO.nil ?_ (fun _ => rfl)) | ((with_reducible show LeR _ _ _); first | refine LeR.own rfl rfl rfl ?_ | refine LeR.view rfl rfl rfl ?_ ?_ | refine LeR.ro ?_ | refine LeR.roCap ?_ | refine LeR.nil ?_ (fun _ => rfl)) | ((with_reducible first | show drawOK _ _ = true | show lateOK _ _ = true | show drawOK2 _ _ = true | show drawOK3 _ _ = true); kernel_rfl))
    all_goals first
      | omega
      | (apply Fits.i64 <;> omega)
      | (rw [List.length_set]; omega)
      | (dsimp only; omega)
      | rfl
      | trace_state
  have kb : decide ((k : Int) < (A21.length : Int)) = false := decide_eq_false (by omega)
  repeat' (first | (with_reducible first | exact fun h => h | refine ExE.row (by with_unfolding_all rfl) ?_ | refine And.intro ?_ ?_) | ((with_reducible intro hq); first | exact bne1 hq (by with_reducible assumption) | exact bne1 (by with_reducible assumption) hq | ((simp only [*, BB, cond_true, cond_false, reduceCtorEq] at hq); done) | (revert hq; with_reducible intro _)) | (with_reducible first | exact True.intro | rfl | refine EntLe.row ?_ | exact LeN.ro rfl | exact LeN.rptr | assumption) | ((with_reducible first | refine WkX.chk ?_ | refine Wk.chk ?_ | refine LeL.chk ?_ | refine LeF.chk ?_ | refine Run.mk ?_); (conv => whnf)) | ((with_reducible show LeO _ _); first | refine LeO.ro ?_ | refine LeO.roCap ?_ | refine LeO.nil ?_ (fun _ => rfl)) | ((with_reducible show LeR _ _ _); first | refine LeR.own rfl rfl rfl ?_ | refine LeR.view rfl rfl rfl ?_ ?_ | refine LeR.ro ?_ | refine LeR.roCap ?_ | refine LeR.nil ?_ (fun _ => rfl)) | ((with_reducible first | show drawOK _ _ = true | show lateOK _ _ = true | show drawOK2 _ _ = true | show drawOK3 _ _ = true); kernel_rfl))
  all_goals (try omega)
  refine loopI (Nat × List (Int × Int)) [] (fun (k, _) => [(22, .v (.int .i64 (k : Nat)))]) (fun (_, A) => [(3, .row C_brkK A 36 none)]) (fun (k, A) => A.length = (outL (Plain.parts s) ((Plain.parts s).length + 1)).length ∧ k ≤ A.length) (fun (k, A) => (outL (Plain.parts s) ((Plain.parts s).length + 1)).length - k) (0, outL (Plain.parts s) ((Plain.parts s).length + 1)) ⟨rfl, Nat.zero_le _⟩ (Wk.chk ?_) fun i hi => ?_
  · ((conv => whnf); repeat' (first | (with_reducible first | exact fun h => h | refine ExE.row (by with_unfolding_all rfl) ?_ | refine And.intro ?_ ?_) | ((with_reducible intro hq); first | exact bne1 hq (by with_reducible assumption) | exact bne1 (by with_reducible assumption) hq | ((simp only [*, BB, cond_true, cond_false, reduceCtorEq] at hq); done) | (revert hq; with_reducible intro _)) | (with_reducible first | exact True.intro | rfl | refine EntLe.row ?_ | exact LeN.ro rfl | exact LeN.rptr | assumption) | ((with_reducible first | refine WkX.chk ?_ | refine Wk.chk ?_ | refine LeL.chk ?_ | refine LeF.chk ?_ | refine Run.mk ?_); (conv => whnf)) | ((with_reducible show LeO _ _); first | refine LeO.ro ?_ | refine LeO.roCap ?_ | refine LeO.nil ?_ (fun _ => rfl)) | ((with_reducible show LeR _ _ _); first | refine LeR.own rfl rfl rfl ?_ | refine LeR.view rfl rfl rfl ?_ ?_ | refine LeR.ro ?_ | refine LeR.roCap ?_ | refine LeR.nil ?_ (fun _ => rfl)) | ((with_reducible first | show drawOK _ _ = true | show lateOK _ _ = true | show drawOK2 _ _ = true | show drawOK3 _ _ = true); kernel_rfl)))
    all_goals first
      | rfl
      | trace_state
  obtain ⟨k, A22⟩ := i
  obtain ⟨hA22, hk⟩ := hi
  by_cases hkl : k < A22.length
  · have kb : decide ((k : Int) < (A22.length : Int)) = true := decide_eq_true (by omega)
    repeat' (first | (with_reducible first | refine ex_of (α := Nat × List (Int × Int)) (k + 1, A22.set k (-8, 0)) ⟨⟨?_, ?_⟩, ?_⟩ ?_ | exact fun h => h | refine ExE.row (by with_unfolding_all rfl) ?_ | refine And.intro ?_ ?_) | ((with_reducible intro hq); first | exact bne1 hq (by with_reducible assumption) | exact bne1 (by with_reducible assumption) hq | ((simp only [*, BB, cond_true, cond_false, reduceCtorEq] at hq); done) | (revert hq; with_reducible intro _)) | (with_reducible first | exact True.intro | rfl | refine EntLe.row ?_ | exact LeN.ro rfl | exact LeN.rptr | assumption) | ((with_reducible first | refine WkX.chk ?_ | refine Wk.chk ?_ | refine LeL.chk ?_ | refine LeF.chk ?_ | refine Run.mk ?_); (conv => whnf)) | ((with_reducible show LeO _ _); first | refine LeO.ro ?_ | refine LeO.roCap ?_ | refine LeO.nil ?_ (fun _ => rfl)) | ((with_reducible show LeR _ _ _); first | refine LeR.own rfl rfl rfl ?_ | refine LeR.view rfl rfl rfl ?_ ?_ | refine LeR.ro ?_ | refine LeR.roCap ?_ | refine LeR.nil ?_ (fun _ => rfl)) | ((with_reducible first | show drawOK _ _ = true | show lateOK _ _ = true | show drawOK2 _ _ = true | show drawOK3 _ _ = true); kernel_rfl))
    all_goals first
      | omega
      | (apply Fits.i64 <;> omega)
      | (rw [List.length_set]; omega)
      | (dsimp only; omega)
      | rfl
      | trace_state
  have kb : decide ((k : Int) < (A22.length : Int)) = false := decide_eq_false (by omega)
  repeat' (first | (with_reducible first | exact fun h => h | refine ExE.row (by with_unfolding_all rfl) ?_ | refine And.intro ?_ ?_) | ((with_reducible intro hq); first | exact bne1 hq (by with_reducible assumption) | exact bne1 (by with_reducible assumption) hq | ((simp only [*, BB, cond_true, cond_false, reduceCtorEq] at hq); done) | (revert hq; with_reducible intro _)) | (with_reducible first | exact True.intro | rfl | refine EntLe.row ?_ | exact LeN.ro rfl | exact LeN.rptr | assumption) | ((with_reducible first | refine WkX.chk ?_ | refine Wk.chk ?_ | refine LeL.chk ?_ | refine LeF.chk ?_ | refine Run.mk ?_); (conv => whnf)) | ((with_reducible show LeO _ _); first | refine LeO.ro ?_ | refine LeO.roCap ?_ | refine LeO.nil ?_ (fun _ => rfl)) | ((with_reducible show LeR _ _ _); first | refine LeR.own rfl rfl rfl ?_ | refine LeR.view rfl rfl rfl ?_ ?_ | refine LeR.ro ?_ | refine LeR.roCap ?_ | refine LeR.nil ?_ (fun _ => rfl)) | ((with_reducible first | show drawOK _ _ = true | show lateOK _ _ = true | show drawOK2 _ _ = true | show drawOK3 _ _ = true); kernel_rfl))
  all_goals (try omega)
  refine loopI (Nat × List ByteArray) [] (fun (k, _) => [(23, .v (.int .i64 (k : Nat)))]) (fun (_, A) => [(9, .row C_strK A 9 none)]) (fun (k, A) => A.length = (linesT s (wrapL s (2 + width % 199))).length ∧ k ≤ A.length) (fun (k, A) => (linesT s (wrapL s (2 + width % 199))).length - k) (0, linesT s (wrapL s (2 + width % 199))) ⟨rfl, Nat.zero_le _⟩ (Wk.chk ?_) fun i hi => ?_
  · ((conv => whnf); repeat' (first | (with_reducible first | exact fun h => h | refine ExE.row (by with_unfolding_all rfl) ?_ | refine And.intro ?_ ?_) | ((with_reducible intro hq); first | exact bne1 hq (by with_reducible assumption) | exact bne1 (by with_reducible assumption) hq | ((simp only [*, BB, cond_true, cond_false, reduceCtorEq] at hq); done) | (revert hq; with_reducible intro _)) | (with_reducible first | exact True.intro | rfl | refine EntLe.row ?_ | exact LeN.ro rfl | exact LeN.rptr | assumption) | ((with_reducible first | refine WkX.chk ?_ | refine Wk.chk ?_ | refine LeL.chk ?_ | refine LeF.chk ?_ | refine Run.mk ?_); (conv => whnf)) | ((with_reducible show LeO _ _); first | refine LeO.ro ?_ | refine LeO.roCap ?_ | refine LeO.nil ?_ (fun _ => rfl)) | ((with_reducible show LeR _ _ _); first | refine LeR.own rfl rfl rfl ?_ | refine LeR.view rfl rfl rfl ?_ ?_ | refine LeR.ro ?_ | refine LeR.roCap ?_ | refine LeR.nil ?_ (fun _ => rfl)) | ((with_reducible first | show drawOK _ _ = true | show lateOK _ _ = true | show drawOK2 _ _ = true | show drawOK3 _ _ = true); kernel_rfl)))
    all_goals first
      | rfl
      | trace_state
  obtain ⟨k, A23⟩ := i
  obtain ⟨hA23, hk⟩ := hi
  by_cases hkl : k < A23.length
  · have kb : decide ((k : Int) < (A23.length : Int)) = true := decide_eq_true (by omega)
    repeat' (first | (with_reducible first | refine ex_of (α := Nat × List ByteArray) (k + 1, A23.set k ⟨#[115, 112, 111, 105, 108, 116]⟩) ⟨⟨?_, ?_⟩, ?_⟩ ?_ | exact fun h => h | refine ExE.row (by with_unfolding_all rfl) ?_ | refine And.intro ?_ ?_) | ((with_reducible intro hq); first | exact bne1 hq (by with_reducible assumption) | exact bne1 (by with_reducible assumption) hq | ((simp only [*, BB, cond_true, cond_false, reduceCtorEq] at hq); done) | (revert hq; with_reducible intro _)) | (with_reducible first | exact True.intro | rfl | refine EntLe.row ?_ | exact LeN.ro rfl | exact LeN.rptr | assumption) | ((with_reducible first | refine WkX.chk ?_ | refine Wk.chk ?_ | refine LeL.chk ?_ | refine LeF.chk ?_ | refine Run.mk ?_); (conv => whnf)) | ((with_reducible show LeO _ _); first | refine LeO.ro ?_ | refine LeO.roCap ?_ | refine LeO.nil ?_ (fun _ => rfl)) | ((with_reducible show LeR _ _ _); first | refine LeR.own rfl rfl rfl ?_ | refine LeR.view rfl rfl rfl ?_ ?_ | refine LeR.ro ?_ | refine LeR.roCap ?_ | refine LeR.nil ?_ (fun _ => rfl)) | ((with_reducible first | show drawOK _ _ = true | show lateOK _ _ = true | show drawOK2 _ _ = true | show drawOK3 _ _ = true); kernel_rfl))
    all_goals first
      | omega
      | (apply Fits.i64 <;> omega)
      | (rw [List.length_set]; omega)
      | (dsimp only; omega)
      | rfl
      | trace_state
  have kb : decide ((k : Int) < (A23.length : Int)) = false := decide_eq_false (by omega)
  repeat' (first | (with_reducible first | exact fun h => h | refine ExE.row (by with_unfolding_all rfl) ?_ | refine And.intro ?_ ?_) | ((with_reducible intro hq); first | exact bne1 hq (by with_reducible assumption) | exact bne1 (by with_reducible assumption) hq | ((simp only [*, BB, cond_true, cond_false, reduceCtorEq] at hq); done) | (revert hq; with_reducible intro _)) | (with_reducible first | exact True.intro | rfl | refine EntLe.row ?_ | exact LeN.ro rfl | exact LeN.rptr | assumption) | ((with_reducible first | refine WkX.chk ?_ | refine Wk.chk ?_ | refine LeL.chk ?_ | refine LeF.chk ?_ | refine Run.mk ?_); (conv => whnf)) | ((with_reducible show LeO _ _); first | refine LeO.ro ?_ | refine LeO.roCap ?_ | refine LeO.nil ?_ (fun _ => rfl)) | ((with_reducible show LeR _ _ _); first | refine LeR.own rfl rfl rfl ?_ | refine LeR.view rfl rfl rfl ?_ ?_ | refine LeR.ro ?_ | refine LeR.roCap ?_ | refine LeR.nil ?_ (fun _ => rfl)) | ((with_reducible first | show drawOK _ _ = true | show lateOK _ _ = true | show drawOK2 _ _ = true | show drawOK3 _ _ = true); kernel_rfl))
  all_goals (try omega)
  refine loopI (Nat × List Spn) [] (fun (k, _) => [(24, .v (.int .i64 (k : Nat)))]) (fun (_, A) => [(5, .row C_spnK A 50 none)]) (fun (k, A) => A.length = ((txR s l (2 + width % 199)).2.1).length ∧ k ≤ A.length) (fun (k, A) => ((txR s l (2 + width % 199)).2.1).length - k) (0, (txR s l (2 + width % 199)).2.1) ⟨rfl, Nat.zero_le _⟩ (Wk.chk ?_) fun i hi => ?_
  · ((conv => whnf); repeat' (first | (with_reducible first | exact fun h => h | refine ExE.row (by with_unfolding_all rfl) ?_ | refine And.intro ?_ ?_) | ((with_reducible intro hq); first | exact bne1 hq (by with_reducible assumption) | exact bne1 (by with_reducible assumption) hq | ((simp only [*, BB, cond_true, cond_false, reduceCtorEq] at hq); done) | (revert hq; with_reducible intro _)) | (with_reducible first | exact True.intro | rfl | refine EntLe.row ?_ | exact LeN.ro rfl | exact LeN.rptr | assumption) | ((with_reducible first | refine WkX.chk ?_ | refine Wk.chk ?_ | refine LeL.chk ?_ | refine LeF.chk ?_ | refine Run.mk ?_); (conv => whnf)) | ((with_reducible show LeO _ _); first | refine LeO.ro ?_ | refine LeO.roCap ?_ | refine LeO.nil ?_ (fun _ => rfl)) | ((with_reducible show LeR _ _ _); first | refine LeR.own rfl rfl rfl ?_ | refine LeR.view rfl rfl rfl ?_ ?_ | refine LeR.ro ?_ | refine LeR.roCap ?_ | refine LeR.nil ?_ (fun _ => rfl)) | ((with_reducible first | show drawOK _ _ = true | show lateOK _ _ = true | show drawOK2 _ _ = true | show drawOK3 _ _ = true); kernel_rfl)))
    all_goals first
      | rfl
      | trace_state
  obtain ⟨k, A24⟩ := i
  obtain ⟨hA24, hk⟩ := hi
  by_cases hkl : k < A24.length
  · have kb : decide ((k : Int) < (A24.length : Int)) = true := decide_eq_true (by omega)
    repeat' (first | (with_reducible first | refine ex_of (α := Nat × List Spn) (k + 1, A24.set k zS) ⟨⟨?_, ?_⟩, ?_⟩ ?_ | exact fun h => h | refine ExE.row (by with_unfolding_all rfl) ?_ | refine And.intro ?_ ?_) | ((with_reducible intro hq); first | exact bne1 hq (by with_reducible assumption) | exact bne1 (by with_reducible assumption) hq | ((simp only [*, BB, cond_true, cond_false, reduceCtorEq] at hq); done) | (revert hq; with_reducible intro _)) | (with_reducible first | exact True.intro | rfl | refine EntLe.row ?_ | exact LeN.ro rfl | exact LeN.rptr | assumption) | ((with_reducible first | refine WkX.chk ?_ | refine Wk.chk ?_ | refine LeL.chk ?_ | refine LeF.chk ?_ | refine Run.mk ?_); (conv => whnf)) | ((with_reducible show LeO _ _); first | refine LeO.ro ?_ | refine LeO.roCap ?_ | refine LeO.nil ?_ (fun _ => rfl)) | ((with_reducible show LeR _ _ _); first | refine LeR.own rfl rfl rfl ?_ | refine LeR.view rfl rfl rfl ?_ ?_ | refine LeR.ro ?_ | refine LeR.roCap ?_ | refine LeR.nil ?_ (fun _ => rfl)) | ((with_reducible first | show drawOK _ _ = true | show lateOK _ _ = true | show drawOK2 _ _ = true | show drawOK3 _ _ = true); kernel_rfl))
    all_goals first
      | omega
      | (apply Fits.i64 <;> omega)
      | (rw [List.length_set]; omega)
      | (dsimp only; omega)
      | rfl
      | trace_state
  have kb : decide ((k : Int) < (A24.length : Int)) = false := decide_eq_false (by omega)
  repeat' (first | (with_reducible first | refine ⟨(_, _), ⟨(.cons (.v _) (.cons (.v _) .nil)), ?_⟩, ?_⟩ | refine ⟨_, ⟨(.cons (.v _) .nil), ?_⟩, ?_⟩ | refine ⟨(_, _), ⟨(.cons (.v _) (.cons (.own (by with_unfolding_all exact rfl) (by with_unfolding_all exact rfl) (by with_unfolding_all exact rfl)) .nil)), ?_⟩, ?_⟩ | refine ⟨(_, _, _), ⟨(.cons (.agg (.cons (.v _) (.cons (.lent _ _ _ _ _ _) .nil))) (.cons (.v _) .nil)), ?_⟩, ?_⟩ | refine ⟨_, ⟨(.cons (.own (by with_unfolding_all exact rfl) (by with_unfolding_all exact rfl) (by with_unfolding_all exact rfl)) .nil), ?_⟩, ?_⟩ | refine ⟨(_, _), ⟨(.cons (.own (by with_unfolding_all exact rfl) (by with_unfolding_all exact rfl) (by with_unfolding_all exact rfl)) (.cons (.lent _ _ _ _ _ _) .nil)), ?_⟩, ?_⟩ | refine ⟨(_, _), ⟨(.cons (.own (by with_unfolding_all exact rfl) (by with_unfolding_all exact rfl) (by with_unfolding_all exact rfl)) (.cons (.own (by with_unfolding_all exact rfl) (by with_unfolding_all exact rfl) (by with_unfolding_all exact rfl)) .nil)), ?_⟩, ?_⟩ | refine ⟨(_, _, _, _), ⟨(.cons (.agg (.cons (.v _) (.cons (.own (by with_unfolding_all exact rfl) (by with_unfolding_all exact rfl) (by with_unfolding_all exact rfl)) .nil))) (.cons (.agg (.cons (.v _) (.cons (.own (by with_unfolding_all exact rfl) (by with_unfolding_all exact rfl) (by with_unfolding_all exact rfl)) .nil))) .nil)), ?_⟩, ?_⟩ | refine ⟨(), ⟨.nil, ?_⟩, ?_⟩ | exact fun h => h | refine ExE.row (by with_unfolding_all rfl) ?_ | refine And.intro ?_ ?_) | ((with_reducible intro hq); first | exact bne1 hq (by with_reducible assumption) | exact bne1 (by with_reducible assumption) hq | ((simp only [*, BB, cond_true, cond_false, reduceCtorEq] at hq); done) | (revert hq; with_reducible intro _)) | (with_reducible first | exact True.intro | rfl | refine EntLe.row ?_ | exact LeN.ro rfl | exact LeN.rptr | assumption) | ((with_reducible first | refine WkX.chk ?_ | refine Wk.chk ?_ | refine LeL.chk ?_ | refine LeF.chk ?_ | refine Run.mk ?_); (conv => whnf)) | ((with_reducible show LeO _ _); first | refine LeO.ro ?_ | refine LeO.roCap ?_ | refine LeO.nil ?_ (fun _ => rfl)) | ((with_reducible show LeR _ _ _); first | refine LeR.own rfl rfl rfl ?_ | refine LeR.view rfl rfl rfl ?_ ?_ | refine LeR.ro ?_ | refine LeR.roCap ?_ | refine LeR.nil ?_ (fun _ => rfl)) | ((with_reducible first | show drawOK _ _ = true | show lateOK _ _ = true | show drawOK2 _ _ = true | show drawOK3 _ _ = true); kernel_rfl))
  all_goals first
    | omega
    | (dsimp only; omega)
    | (apply Fits.i64 <;> omega)
    | rfl
    | (simp; done)
    | (exfalso; rename_i hbad; revert hbad; simp; done)
    | trace_state
end Go.SX.Try
/- A verified symbolic executor for Go code in the model: what a call's arguments read as. -/
namespace Go.SX
open Go.ChangeShapes Go.WideShapes Go.Deep Go.RowKit
section
variable {H : Type} {encH : TypeId × Value → H} {P : Program} {w : World} {E : Env}
structure Reads (encH : TypeId × Value → H) (P : Program) (w : World) (E : Env) (e : TypeId) {α : Type} (en : α → List AV) : Prop where
  out : ∀ n cs y, DataW.trod encH P w 0 (fun _ => true) true n e cs = some y → ∃ x : α, RelL w E (en x) cs
theorem Reads.int {e : TypeId} (he : P.underlying e = some (.int .i64)) : Reads encH P w E e (fun a : Int => [.v (.int .i64 a)]) := ⟨fun n cs y h => by
  obtain ⟨a, rfl, _⟩ := DataW.trod_int he h
  exact ⟨a, RelL.cons (.v _) (RelL.nil _ _)⟩⟩
theorem Reads.string {e : TypeId} (he : P.underlying e = some .string) : Reads encH P w E e (fun a : ByteArray => [.v (.string a)]) := ⟨fun n cs y h => by
  obtain ⟨a, rfl, _⟩ := DataW.trod_string he h
  exact ⟨a, RelL.cons (.v _) (RelL.nil _ _)⟩⟩
theorem Reads.bool {e : TypeId} (he : P.underlying e = some .bool) : Reads encH P w E e (fun a : Bool => [.sb a]) := ⟨fun n cs y h => by
  obtain ⟨a, rfl, _⟩ := DataW.trod_bool he h
  exact ⟨a, RelL.cons (.sb _) (RelL.nil _ _)⟩⟩
theorem Reads.map {e : TypeId} {α β : Type} {en : α → List AV} {en' : β → List AV} (h : Reads encH P w E e en) (f : α → β) (hf : ∀ x, en' (f x) = en x) : Reads encH P w E e en' := ⟨fun n cs y ht => by
  obtain ⟨x, hx⟩ := h.out n cs y ht
  exact ⟨f x, by rw [hf]; exact hx⟩⟩
inductive FReads (encH : TypeId × Value → H) (P : Program) (w : World) (E : Env) : List Field → Nat → Nat → {α : Type} → (α → List AV) → Prop
  | nil {o : Nat} : FReads encH P w E [] o o (fun _ : Unit => [])
  | cons {f : Field} {fs : List Field} {o k t : Nat} {α β : Type} {en : α → List AV} {en' : β → List AV} (ho : f.offset = o) (hc : P.cellsOf f.type = k) (h : Reads encH P w E f.type en) (hk : ∀ x, (en x).length = k) (hr : FReads encH P w E fs (o + k) t en') :
      FReads encH P w E (f :: fs) o t (fun x : α × β => en x.1 ++ en' x.2)
theorem FReads.out {fs : List Field} {o t : Nat} {α : Type} {en : α → List AV} (h : FReads encH P w E fs o t en) : o ≤ t ∧ ∀ (cs : List Value), cs.length = t →
    (∀ f ∈ fs, ∃ y n, DataW.trod encH P w 0 (fun _ => true) true n f.type ((cs.drop f.offset).take (P.cellsOf f.type)) = some y) → ∃ x : α, RelL w E (en x) (cs.drop o) := by
  induction h with
  | nil =>
    refine ⟨Nat.le_refl _, fun cs hl _ => ⟨(), ?_⟩⟩
    rw [List.drop_eq_nil_of_le (by omega)]
    exact RelL.nil _ _
  | @cons f fs o k t α β en en' ho hc h hk hr ih =>
    refine ⟨by omega, fun cs hl hf => ?_⟩
    obtain ⟨y, n, hy⟩ := hf f List.mem_cons_self
    obtain ⟨x, hx⟩ := h.out _ _ _ hy
    obtain ⟨z, hz⟩ := ih.2 cs hl fun g hg => hf g (List.mem_cons_of_mem _ hg)
    refine ⟨(x, z), ?_⟩
    rw [ho, hc] at hx
    have := hx.append hz
    rwa [show cs.drop (o + k) = (cs.drop o).drop k by rw [List.drop_drop], List.take_append_drop] at this
theorem Reads.struct {e : TypeId} {fs : Array Field} (he : P.underlying e = some (.struct fs)) {t : Nat} (hC : P.cellsOf e = t) {α : Type} {en : α → List AV} (h : FReads encH P w E fs.toList 0 t en) : Reads encH P w E e en := ⟨fun n cs y ht => by
  obtain ⟨xs, m, _, _, hl, hxl, hf⟩ := DataW.trod_struct he ht
  have := h.out.2 cs (by omega) fun f hmem => by
    obtain ⟨i, hi, hfi⟩ := List.getElem_of_mem hmem
    have hi2 : i < fs.size := by simpa using hi
    have h1 := hf i f (by rw [Array.getElem?_eq_getElem hi2]; simpa using hfi)
    rw [List.getElem?_eq_getElem (by omega)] at h1
    exact ⟨_, m, h1⟩
  simpa using this⟩
theorem Reads.slice {t e : TypeId} (ht : P.underlying t = some (.slice e)) {α : Type} {en : α → List AV} {k : Nat} (d : α) (hk : P.cellsOf e = k) (hk0 : 0 < k) (hs : ∀ x, (en x).length = k) (hl : ∀ b, b < w.heap.size → E.lnt b)
    (h : Reads encH P w (E.bz true) e en) : Reads encH P w E t (fun l : List α => [.ro k en d l none true]) := ⟨fun n cs y hy => by
  rcases open_slice ht hy with ⟨rfl, _⟩ | ⟨a, len, cap, m, n', D, Pl, rfl, _, hlc, _, hm, _, hi⟩
  · exact ⟨[], RelL.cons (.roNil k en d none none 0 hs (by simp)) (RelL.nil _ _)⟩
  have hlm : len ≤ m := by rw [hm]; simp; omega
  have hel : ∀ i, i < len → ∃ (x : α) (cs' : List Value), w.cells? 0 (a.add (i * k)) k = some cs' ∧ RelL w (E.bz true) (en x) cs' := fun i hil => by
    obtain ⟨cs', h1, h2⟩ := hi i (by omega)
    obtain ⟨x, hx⟩ := h.out _ _ _ h2
    rw [hk] at h1
    exact ⟨x, cs', h1, hx⟩
  by_cases h0 : len = 0
  · subst h0
    exact ⟨[], RelL.cons (.roNil k en d none (some a) cap hs (by simp)) (RelL.nil _ _)⟩
  obtain ⟨b, o, spot⟩ := a
  have hc0 : ∀ i j, i < len → j < k → ∃ v, w.cell? ((⟨b, o, spot⟩ : Addr).add (i * k + j)) = some v := fun i j h1 h2 => by
    obtain ⟨x, cs', h3, h4⟩ := hel i h1
    obtain ⟨_, h5, h6⟩ := World.cells?_some h3
    have h7 := h6 j h2
    rw [List.getElem?_eq_getElem (by omega), Go.Deep.add_add] at h7
    exact ⟨_, h7⟩
  have hspot : spot = none := by
    obtain ⟨v, hv⟩ := hc0 0 0 (by omega) hk0
    simpa [Addr.add] using World.cell?_spot hv
  subst hspot
  have hb : b < w.heap.size := by
    obtain ⟨v, hv⟩ := hc0 0 0 (by omega) hk0
    refine Nat.lt_of_not_le fun hle => ?_
    unfold World.cell? at hv
    rw [show ((⟨b, o, none⟩ : Addr).add (0 * k + 0)).block = b by simp [Addr.add], Array.getElem?_eq_none hle] at hv
    cases hv
  let X : Nat → α := fun i => if hi : i < len then Classical.choose (hel i hi) else d
  let Cs : Nat → List Value := fun i => if hi : i < len then Classical.choose (Classical.choose_spec (hel i hi)) else []
  have hX : ∀ i, i < len → w.cells? 0 ((⟨b, o, none⟩ : Addr).add (i * k)) k = some (Cs i) ∧ RelL w (E.bz true) (en (X i)) (Cs i) := fun i hi => by
    have := Classical.choose_spec (Classical.choose_spec (hel i hi))
    simpa only [X, Cs, dif_pos hi] using this
  refine ⟨(List.range len).map X, RelL.cons ?_ (RelL.nil _ _)⟩
  have hll : ((List.range len).map X).length = len := by simp
  have key : Rel w E (.ro k en d ((List.range len).map X) none true) (.slice (some ⟨b, o, none⟩) ((List.range len).map X).length cap) :=
    .ro (fun i j => (Cs i).getD j undef) hs (by simp) (by rw [hll]; exact hlc) (.inr (hl b hb)) (fun i j h1 h2 => by
      rw [hll] at h1
      obtain ⟨h3, _⟩ := hX i h1
      obtain ⟨_, h5, h6⟩ := World.cells?_some h3
      have h7 := h6 j h2
      rw [Go.Deep.add_add, add_plain] at h7
      rw [h7, List.getElem?_eq_getElem (by omega)]
      simp [List.getD_eq_getElem?_getD, show j < (Cs i).length by omega]) fun i h1 j h2 => by
      have h1' : i < len := by rw [hll] at h1; exact h1
      obtain ⟨_, h4⟩ := hX i h1'
      have he : ((List.range len).map X)[i] = X i := by simp
      have h2' : j < (en (X i)).length := by rw [← he]; exact h2
      have h8 : j < (Cs i).length := by have := h4.1; omega
      have h9 := h4.2 j h2' h8
      have he2 : (en ((List.range len).map X)[i])[j] = (en (X i))[j] := by simp only [he]
      rw [he2, show (Cs i).getD j undef = (Cs i)[j] by simp [List.getD_eq_getElem?_getD, h8]]
      exact h9
  rwa [hll] at key⟩
theorem Reads.arg {t e : TypeId} (ht : P.underlying t = some (.slice e)) {α : Type} {en : α → List AV} {k : Nat} {d : α} (h : Reads encH P w E t (fun l : List α => [.ro k en d l none true])) {a : Option Addr} {len cap : Nat} {y : DataW H} {p : List MemPlace}
    (hT : DataW.Trod encH P w 0 (fun _ => true) true t (.slice a len cap) y p) : ∃ l : List α, Rel w E (.ro k en d l none true) (.slice a len cap) := by
  obtain ⟨fuel, hf⟩ := hT
  obtain ⟨l, hl⟩ := h.out _ _ _ hf
  exact ⟨l, hl.2 0 (by simp) (by simp [Value.cells])⟩
end
end Go.SX
/- What the arguments of chapter 7's laws read as. -/
namespace Go.SX.Try
open Go.Proofs Go.Proofs.Try Go.SX.Plain Go.ChangeShapes Go.WideShapes Go.Deep
set_option maxRecDepth 100000
section
variable {H : Type} {encH : TypeId × Value → H} {w : World} {E : Env}
theorem cells_int7 : prog.cellsOf 3 = 1 := by kernel_rfl
theorem cells_str7 : prog.cellsOf 9 = 1 := by kernel_rfl
theorem cells_spn : prog.cellsOf 50 = 4 := by kernel_rfl
theorem cells_spns : prog.cellsOf 41 = 1 := by kernel_rfl
theorem cells_text : prog.cellsOf 43 = 2 := by kernel_rfl
theorem bytes_spn : prog.bytesOf 50 = 32 := by kernel_rfl
theorem reads_int7 : Reads encH prog w E 3 (fun a : Int => [.v (.int .i64 a)]) := Reads.int Try.underlying3
theorem reads_spn : Reads encH prog w E 50 C_spn.enc :=
  Reads.map (Reads.struct Try.underlying50 cells_spn (.cons rfl cells_int7 reads_int7 (fun _ => rfl) (.cons rfl cells_int7 reads_int7 (fun _ => rfl) (.cons rfl cells_int7 reads_int7 (fun _ => rfl) (.cons rfl cells_int7 reads_int7 (fun _ => rfl) .nil)))))
    (fun x : Int × Int × Int × Int × Unit => (⟨x.1, x.2.1, x.2.2.1, x.2.2.2.1⟩ : Spn)) (fun _ => rfl)
theorem reads_spns (hl : ∀ b, b < w.heap.size → E.lnt b) : Reads encH prog w E 41 (fun l : List Spn => [spR l]) :=
  Reads.slice Try.underlying41 C_spn.d cells_spn (by decide) (fun _ => rfl) hl reads_spn
theorem reads_text (hl : ∀ b, b < w.heap.size → E.lnt b) : Reads encH prog w E 43 (fun x : ByteArray × List Spn × Unit => [.v (.string x.1)] ++ ([spR x.2.1] ++ [])) :=
  Reads.struct Try.underlying43 cells_text (FReads.cons (en := fun a : ByteArray => [AV.v (.string a)]) (en' := fun x : List Spn × Unit => [spR x.1] ++ []) rfl cells_str7 (Reads.string Try.underlying9) (fun _ => rfl)
    (FReads.cons (en := fun l : List Spn => [spR l]) (en' := fun _ : Unit => []) rfl cells_spns (reads_spns hl) (fun _ => rfl) .nil))
theorem text_arg (hl : ∀ b, b < w.heap.size → E.lnt b) {cs : Array Value} {y : DataW H} {p : List MemPlace} (hT : DataW.Trod encH prog w 0 (fun _ => true) true 43 (.agg cs) y p) (hw : (y.weights prog 43).all (· ≤ reachBytes) = true) :
    ∃ (s : ByteArray) (l : List Spn), Rel w E (txAV s l) (.agg cs) ∧ l.length * 32 ≤ 140737488351232 := by
  obtain ⟨fuel, hf⟩ := hT
  have hf : DataW.trod encH prog w 0 (fun _ => true) true fuel 43 cs.toList = some (y, p) := hf
  obtain ⟨⟨s, l, _⟩, hr⟩ := (reads_text (E := E) hl).out _ _ _ hf
  refine ⟨s, l, .agg (by simpa using hr.1) fun i h1 h2 => hr.2 i h1 (by simpa using h2), ?_⟩
  obtain ⟨xs, m, _, hxe, hcl, hxl, hfl⟩ := DataW.trod_struct Try.underlying43 hf
  rw [cells_text] at hcl
  have hc1 : 1 < cs.size := by simpa using (show 1 < cs.toList.length by omega)
  have hv := hr.2 1 (by simp) (by rw [hcl]; decide)
  have hv : Rel w E (spR l) cs[1] := by simpa using hv
  have h1 := hfl 1 _ rfl
  have hd : (cs.toList.drop 1).take 1 = [cs[1]] := by
    rw [List.drop_eq_getElem_cons (by rw [hcl]; decide)]
    simp
  have h1 : DataW.trod encH prog w 0 (fun _ => true) true m 41 [cs[1]] = xs[1]? := by
    rw [← hd]
    exact h1
  have hx1 : 1 < xs.length := by rw [hxl]; decide
  rw [List.getElem?_eq_getElem hx1] at h1
  rcases open_slice Try.underlying41 h1 with ⟨hc, _⟩ | ⟨a, len, cap, m', n', D, Pl, hc, _, hlc, _, hm, hx, _⟩
  · have hc : cs[1] = .slice none 0 0 := by simpa using hc
    rw [hc] at hv
    cases hv
    simp
  · have hc : cs[1] = .slice (some a) len cap := by simpa using hc
    rw [hc] at hv
    have hlen : l.length ≤ len := by
      cases hv with
      | roNil => simp
      | ro => exact Nat.le_refl _
    have hy : y = .agg (xs.map (·.1)) := congrArg Prod.fst hxe
    have hmem : ((((List.range len).map D).length + ((List.range (m' - len)).map fun j => D (len + j)).length) * prog.bytesOf 50) ∈ y.weights prog 43 := by
      rw [hy]
      simp only [DataW.weights, Try.underlying43]
      refine DataW.weights_mem_each (j := 1) (t := 41) (d := xs[1].1) rfl (by simp [hx1]) _ ?_
      rw [hx]
      simp [DataW.weights, Try.underlying41]
    have := List.all_eq_true.1 hw _ hmem
    rw [bytes_spn] at this
    simp [reachBytes] at this
    omega
end
end Go.SX.Try
