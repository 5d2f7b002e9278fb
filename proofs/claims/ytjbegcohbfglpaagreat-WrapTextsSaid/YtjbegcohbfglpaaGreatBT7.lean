/- A verified symbolic executor for Go code in the model, contracts and plain laws that the proofs lean on, BT7. -/
import Derived.Test.YtjbegcohbfglpaaGreatBT6
import Derived.Deep.Fields
import Derived.SizedLaws
set_option linter.unusedVariables false
set_option linter.unusedSimpArgs false
/- Contract of the document's line. -/
namespace Go.SX.Tryz
open Go.Proofs Go.Proofs.Tryz Go.SX.Plain
set_option maxRecDepth 100000
set_option maxHeartbeats 0
set_option linter.unusedSimpArgs false
theorem q_line : fact 23 f23 := ⟨by kernel_rfl, rfl, by kernel_rfl⟩
theorem con_line : Con prog 23 (fun ((l, frm, to) : List Part × Int × Int) => [.ro 4 C_pc.enc C_pc.d (l.map pcOf) none, .v (.int .i64 frm), .v (.int .i64 to)])
    (fun (l, frm, to) => .tup [.v (.int .i64 (frm + (trimN (segOf l frm.toNat to.toNat) : Nat))), .v (.int .i64 (cellsL (segOf l frm.toNat to.toNat)))])
    (fun (l, frm, to) => (0 ≤ frm ∧ frm ≤ to ∧ to ≤ l.length ∧ l.length ≤ 100000) ∧ (∀ p ∈ l, Plain.Told p) ∧ Small l) := by
  refine Con.of (by kernel_rfl) T_ok CdsOK.nil (.con con_ends (.con con_rblank .nil)) 3 [3] q_line.1 q_line.2.1 q_line.2.2 (fun _ => rfl) fun i hi => ?_
  obtain ⟨l, frm, to⟩ := i
  obtain ⟨⟨h0, h1, h2, h3⟩, hT, hS⟩ := hi
  obtain ⟨frm, rfl⟩ := Int.eq_ofNat_of_zero_le h0
  obtain ⟨to, rfl⟩ := Int.eq_ofNat_of_zero_le (show 0 ≤ to by omega)
  have e1 : ((frm : Int)).toNat = frm := Int.toNat_natCast _
  have e2 : ((to : Int)).toNat = to := Int.toNat_natCast _
  have e3 : ((to : Int) - 1).toNat = to - 1 := by omega
  have hlen : (l.map pcOf).length = l.length := by simp
  have hgd : ∀ j, (l.map pcOf).getD j C_pc.d = pcOf (l.getD j dPart) := fun j => getD_map pcOf l dPart j
  have htd : ∀ j, j < l.length → Plain.Told (l.getD j dPart) := fun j hj => hT _ (getD_memL dPart hj)
  have hst := trim_start (l := l) (frm := frm) (to := to) (by omega) (by omega)
  have hsl := segOf_len (l := l) (frm := frm) (to := to) (by omega)
  have htr := trimN_le (segOf l frm to)
  simp only [e1, e2]
  have hfd : endsP { r := ((l.map pcOf).getD ((to : Int) - 1).toNat C_pc.d).r, frm := ((l.map pcOf).getD ((to : Int) - 1).toNat C_pc.d).frm, to := ((l.map pcOf).getD ((to : Int) - 1).toNat C_pc.d).to, cells := ((l.map pcOf).getD ((to : Int) - 1).toNat C_pc.d).cells } = endsP (pcOf (l.getD (to - 1) dPart)) := by rw [e3, hgd]
  have hfe : frm < to → (endsP (pcOf (l.getD (to - 1) dPart)) = (l.getD (to - 1) dPart).fin) := fun h => (htd _ (by omega)).fin.symm
  repeat' ((with_reducible refine Run.mk ?_); (conv => whnf))
  refine joinI Int [] (fun t => [(2, .v (.int .i64 t))]) (fun _ => []) (fun t => t = if frm < to ∧ (l.getD (to - 1) dPart).fin = true then (to : Int) - 1 else to) ?_ fun t ht => ?_
  · repeat' (first | (with_reducible first | refine ⟨⟨_, _, _, _⟩, ⟨(.cons (.agg (.cons (.v _) (.cons (.v _) (.cons (.v _) (.cons (.v _) .nil))))) .nil), ?_⟩, ?_⟩ | refine ex_eq ?_ | exact fun h => h | refine And.intro ?_ ?_ | intro _ | exact True.intro | rfl | exact LeN.ro rfl | assumption) | ((with_reducible first | refine Wk.chk ?_ | refine Run.mk ?_); (conv => whnf)))
    all_goals (try simp only [hfd, hlen, decide_eq_true_eq, decide_eq_false_iff_not, Bool.and_eq_true, Bool.and_eq_false_iff] at *)
    all_goals first
      | omega
      | (apply Fits.i64 <;> omega)
      | (split <;> rename_i hz <;> first | rfl | (exfalso; have hx := hfe (by omega); simp_all; omega) | (exfalso; have hx := hfe (by omega); simp_all; done))
  · repeat' ((with_reducible refine Run.mk ?_); (conv => whnf))
    refine loopI Int [] (fun n => [(2, .v (.int .i64 n))]) (fun _ => []) (fun n => ((frm : Int) ≤ n ∧ n ≤ to) ∧ trimGo (segOf l frm to) (n.toNat - frm) = trimN (segOf l frm to)) (fun n => n.toNat) t ⟨?_, ?_⟩ (Wk.chk ?_) fun n hn => ?_
    · subst ht
      split <;> omega
    · subst ht
      rw [hst]
      split
      · rw [e3]
      · rw [e2]
    · ((conv => whnf); repeat' (first | (with_reducible first | refine And.intro ?_ ?_ | exact True.intro | rfl | exact LeN.ro rfl) | ((with_reducible refine Run.mk ?_); (conv => whnf))))
      all_goals rfl
    obtain ⟨⟨hn1, hn2⟩, hn3⟩ := hn
    obtain ⟨n, rfl⟩ := Int.eq_ofNat_of_zero_le (show 0 ≤ n by omega)
    have e4 : ((n : Int)).toNat = n := Int.toNat_natCast _
    have e5 : ((n : Int) - 1).toNat = n - 1 := by omega
    have hbl : blankP { r := ((l.map pcOf).getD ((n : Int) - 1).toNat C_pc.d).r, frm := ((l.map pcOf).getD ((n : Int) - 1).toNat C_pc.d).frm, to := ((l.map pcOf).getD ((n : Int) - 1).toNat C_pc.d).to, cells := ((l.map pcOf).getD ((n : Int) - 1).toNat C_pc.d).cells } = blankP (pcOf (l.getD (n - 1) dPart)) := by rw [e5, hgd]
    have hbe : frm < n → (blankP (pcOf (l.getD (n - 1) dPart)) = (l.getD (n - 1) dPart).blank) := fun h => (htd _ (by omega)).blank.symm
    have hstp : frm < n → _ := fun h => trim_step (l := l) (frm := frm) (to := to) (t := n) h (by omega)
    rw [e4] at hn3
    by_cases hgo : frm < n ∧ (l.getD (n - 1) dPart).blank = true
    · have hlt : decide ((frm : Int) < (n : Int)) = true := decide_eq_true (by omega)
      have hs := hstp hgo.1
      rw [if_pos hgo.2, hn3] at hs
      have hbt : blankP { r := ((l.map pcOf).getD ((n : Int) - 1).toNat C_pc.d).r, frm := ((l.map pcOf).getD ((n : Int) - 1).toNat C_pc.d).frm, to := ((l.map pcOf).getD ((n : Int) - 1).toNat C_pc.d).to, cells := ((l.map pcOf).getD ((n : Int) - 1).toNat C_pc.d).cells } = true := by rw [hbl, hbe hgo.1]; exact hgo.2
      repeat' (first | (with_reducible first | refine ⟨⟨_, _, _, _⟩, ⟨(.cons (.agg (.cons (.v _) (.cons (.v _) (.cons (.v _) (.cons (.v _) .nil))))) .nil), ?_⟩, ?_⟩ | refine ex_of (α := Int) ((n : Int) - 1) ⟨⟨⟨?_, ?_⟩, ?_⟩, ?_⟩ ?_ | exact fun h => h | refine And.intro ?_ ?_) | ((with_reducible intro hq); first | exact bne1 (by with_reducible assumption) hq | ((simp only [*, BB, cond_true, cond_false, reduceCtorEq] at hq); done) | (revert hq; with_reducible intro _)) | (with_reducible first | exact True.intro | rfl | exact LeN.ro rfl | assumption) | ((with_reducible first | refine Wk.chk ?_ | refine Run.mk ?_); (conv => whnf)))
      all_goals first
        | omega
        | (simp only [e4, e5, hlen] at *; first | omega | (apply Fits.i64 <;> omega) | exact hs.symm)
    · have hfin : n - frm = trimN (segOf l frm to) := by
        by_cases hfn : frm < n
        · have hs := hstp hfn
          rw [if_neg (fun hb => hgo ⟨hfn, hb⟩)] at hs
          omega
        · have : n - frm = 0 := by omega
          rw [this] at hn3 ⊢
          exact hn3
      have hgoe : (decide ((frm : Int) < (n : Int)) && blankP { r := ((l.map pcOf).getD ((n : Int) - 1).toNat C_pc.d).r, frm := ((l.map pcOf).getD ((n : Int) - 1).toNat C_pc.d).frm, to := ((l.map pcOf).getD ((n : Int) - 1).toNat C_pc.d).to, cells := ((l.map pcOf).getD ((n : Int) - 1).toNat C_pc.d).cells }) = true → False := fun h => by
        rw [hbl] at h
        simp only [Bool.and_eq_true, decide_eq_true_eq] at h
        have h7 : frm < n := by omega
        rw [hbe h7] at h
        exact hgo ⟨h7, h.2⟩
      clear hn3 hstp hst
      repeat' (first | (with_reducible first | refine ⟨⟨_, _, _, _⟩, ⟨(.cons (.agg (.cons (.v _) (.cons (.v _) (.cons (.v _) (.cons (.v _) .nil))))) .nil), ?_⟩, ?_⟩ | refine ex_of (α := Int) ((n : Int) - 1) ⟨⟨⟨?_, ?_⟩, ?_⟩, ?_⟩ ?_ | exact fun h => h | refine And.intro ?_ ?_ | intro _ | exact True.intro | rfl | exact LeN.ro rfl | assumption) | ((with_reducible first | refine Wk.chk ?_ | refine Run.mk ?_); (conv => whnf)))
      any_goals (first | exact (hgoe (by assumption)).elim | omega | (simp only [decide_eq_true_eq, hlen, e5] at *; first | omega | (apply Fits.i64 <;> omega)))
      all_goals
        have hcl : cellsL (segOf l frm to) = sumC (segOf l frm to) (n - frm) := by rw [hfin]; exact cellsL_trim _
        have hbd := sumC_bd (l := segOf l frm to) (by unfold segOf; exact (hS.drop _).take _)
        refine loopI Nat [] (fun k => [(9, .v (.int .i64 ((frm + k : Nat) : Int))), (8, .v (.int .i64 (sumC (segOf l frm to) k)))]) (fun _ => []) (fun k => k ≤ n - frm) (fun k => n - frm - k) 0 (Nat.zero_le _) (Wk.chk ?_) fun k hk => ?_
        · ((conv => whnf); repeat' (first | (with_reducible first | refine And.intro ?_ ?_ | exact True.intro | rfl | exact LeN.ro rfl) | ((with_reducible refine Run.mk ?_); (conv => whnf))))
          all_goals rfl
        have hb1 := hbd k
        have hb2 := hbd (k + 1)
        have e6 : ((frm + k : Nat) : Int).toNat = frm + k := Int.toNat_natCast _
        have hsu := fun h => sumC_succ (l := segOf l frm to) (k := k) h
        have hsg := fun h => segOf_get (l := l) (frm := frm) (to := to) (j := k) h
        have hpc : ((l.map pcOf).getD (frm + k) C_pc.d).cells = (l.getD (frm + k) dPart).c.cells := by rw [hgd]; rfl
        repeat' (first | (with_reducible first | refine ex_of (α := Nat) (k + 1) ⟨?_, ?_⟩ ?_ | refine And.intro ?_ ?_ | intro _ | exact True.intro | rfl | exact LeN.ro rfl) | ((with_reducible first | refine Wk.chk ?_ | refine LeF.chk ?_ | refine Run.mk ?_); (conv => whnf)))
        all_goals (try simp only [e6, hlen, hpc, decide_eq_true_eq, decide_eq_false_iff_not] at *)
        all_goals first
          | omega
          | (apply Fits.i64 <;> omega)
          | (rw [hsu (by omega), hsg (by omega)]; done)
          | (rw [hsu (by omega), hsg (by omega)] at hb2; apply Fits.i64 <;> omega)
          | (rw [hcl, show k = n - frm by omega]; done)
end Go.SX.Tryz
/- Contracts of the document's sign, Text. -/
namespace Go.SX.Tryz
open Go.Proofs Go.Proofs.Tryz Go.SX.Plain
set_option maxRecDepth 100000
set_option maxHeartbeats 0
set_option linter.unusedSimpArgs false
theorem q_rsign10 : fact 24 f24 := ⟨by kernel_rfl, rfl, by kernel_rfl⟩
theorem q_rtext10 : fact 7 f7 := ⟨by kernel_rfl, rfl, by kernel_rfl⟩
theorem con_rsign10 : Con prog 24 (fun ((l, i) : List Pc × Int) => [.ro 4 C_pc.enc C_pc.d l none, .v (.int .i64 i)]) (fun (l, i) => .v (.int .i64 (signP l i.toNat))) (fun (l, i) => 0 ≤ i ∧ i ≤ l.length ∧ l.length ≤ 1100000) := by
  refine Con.of (by kernel_rfl) T_ok D_pc_ok (.con con_place .nil) 3 [] q_rsign10.1 q_rsign10.2.1 q_rsign10.2.2 (fun _ => rfl) fun i hi => ?_
  obtain ⟨l, i⟩ := i
  obtain ⟨h1, h2, h3⟩ : 0 ≤ i ∧ i ≤ l.length ∧ l.length ≤ 1100000 := hi
  by_cases h0 : l.length = 0
  · have k0 : ((l.length : Int) == 0) = true := by rw [h0]; rfl
    repeat' (first | (with_reducible refine And.intro ?_ ?_) | ((with_reducible intro hq); first | exact bne1 (by with_reducible assumption) hq | (revert hq; with_reducible intro _)) | (with_reducible exact True.intro) | ((with_reducible first | refine LeF.chk ?_ | refine Run.mk ?_); (conv => whnf)))
    all_goals (unfold signP; rw [if_pos h0]; done)
  · have k0 : ((l.length : Int) == 0) = false := by rw [beq_eq_false_iff_ne]; omega
    repeat' (first | (with_reducible first | refine ⟨(_, _), ⟨(.cons (.ro _ _ _ _ _) (.cons (.v _) .nil)), ?_⟩, ?_⟩ | refine And.intro ?_ ?_) | ((with_reducible intro hq); first | exact bne1 hq (by with_reducible assumption) | (revert hq; with_reducible intro _)) | (with_reducible first | exact True.intro | assumption) | ((with_reducible first | refine LeF.chk ?_ | refine Run.mk ?_); (conv => whnf)))
    all_goals first
      | omega
      | (unfold signP; rw [if_neg h0]; done)
theorem con_rtext10 : Con prog 7 (fun ((s, l, w) : ByteArray × List Spn × Int) => [txAV s l, .v (.int .i64 w)]) (fun (s, l, w) => .tup [txO (txR s l w).1 (txR s l w).2.1, .v (.int .i64 (txR s l w).2.2)]) (fun _ => True) := by
  refine Con.of (by kernel_rfl) T_ok D_spn_ok (.con con_rcheck7 (.con con_rcheck (.con con_pieces (.con con_kinds (.con con_way (.con con_ends (.con con_line (.con con_rsign10 (.con con_rsplice .nil))))))))) 3 [22, 24, 28] q_rtext10.1 q_rtext10.2.1 q_rtext10.2.2 (fun _ => rfl) fun i _ => ?_
  obtain ⟨s, l, width⟩ := i
  by_cases h1 : chkN s.size l (sgN s : Nat) = 0
  case neg =>
    have hR : txR s l width = (ByteArray.empty, [], chkN s.size l (sgN s : Nat)) := by unfold txR; rw [if_pos h1]
    have k1 : (chkN s.size l (sgN s : Nat) != 0) = true := by simpa using h1
    repeat' (first | (with_reducible first | refine ⟨(s, l), ⟨(.cons (.agg (.cons (.v _) (.cons (.lent _ _ _ _ _ _) .nil))) .nil), ?_⟩, ?_⟩ | refine And.intro ?_ ?_) | ((with_reducible intro hq); first | exact bne1 (by with_reducible assumption) hq | (revert hq; with_reducible intro _)) | (with_reducible exact True.intro) | ((with_reducible first | refine LeF.chk ?_ | refine Run.mk ?_); (conv => whnf)) | ((with_reducible show LeR _ _ _); refine LeR.nil ?_ (fun _ => rfl)))
    all_goals (rw [hR]; first | done | rfl)
  have k1 : (chkN s.size l (sgN s : Nat) != 0) = false := by rw [h1]; rfl
  by_cases h2 : checkN s.size width = 0
  case neg =>
    have hR : txR s l width = (ByteArray.empty, [], checkN s.size width) := by unfold txR; rw [if_neg (fun h => h h1), if_pos h2]
    have k2 : (checkN s.size width != 0) = true := by simpa using h2
    repeat' (first | (with_reducible first | refine ⟨(s, l), ⟨(.cons (.agg (.cons (.v _) (.cons (.lent _ _ _ _ _ _) .nil))) .nil), ?_⟩, ?_⟩ | refine ⟨(s, width), ⟨(.cons (.v _) (.cons (.v _) .nil)), ?_⟩, ?_⟩ | refine And.intro ?_ ?_) | ((with_reducible intro hq); first | exact bne1 hq (by with_reducible assumption) | exact bne1 (by with_reducible assumption) hq | (revert hq; with_reducible intro _)) | (with_reducible exact True.intro) | ((with_reducible first | refine LeF.chk ?_ | refine Run.mk ?_); (conv => whnf)) | ((with_reducible show LeR _ _ _); refine LeR.nil ?_ (fun _ => rfl)))
    all_goals (rw [hR]; first | done | rfl)
  have k2 : (checkN s.size width != 0) = false := by rw [h2]; rfl
  have hw : 2 ≤ width ∧ width ≤ 200 := by
    unfold checkN at h2
    split at h2
    · cases h2
    · omega
  have hs : s.size ≤ 4096 := by
    unfold checkN at h2
    split at h2
    · cases h2
    · split at h2
      · cases h2
      · omega
  have WF := wayF (s := s) hw.1 hw.2
  have hR : txR s l width = txGo (Plain.parts s) (wayP (Plain.parts s) width) ((wayP (Plain.parts s) width).length + 1) s l := by unfold txR; rw [if_neg (fun h => h h1), if_neg (fun h => h h2)]
  have hpc : pcs s = (Plain.parts s).map pcOf := rfl
  have hpl := parts_len s
  have hpl2 : (pcs s).length = (Plain.parts s).length := by simp [pcs]
  have hpt := parts_told s
  have hps := parts_small s
  have hok : OkL (Plain.parts s) := ⟨hpt, hps, by omega⟩
  have hd1 : C_int.d = 0 := rfl
  have hd2 : C_pc.d = dPc := rfl
  have hwr : rwayL (Plain.parts s) width = (wayP (Plain.parts s) width).map fun (p : Nat) => (p : Int) := WF.rway
  have hwl : (rwayL (Plain.parts s) width).length = (wayP (Plain.parts s) width).length := by rw [hwr, List.length_map]
  repeat' (first | (with_reducible first | refine ⟨(s, l), ⟨(.cons (.agg (.cons (.v _) (.cons (.lent _ _ _ _ _ _) .nil))) .nil), ?_⟩, ?_⟩ | refine ⟨(s, width), ⟨(.cons (.v _) (.cons (.v _) .nil)), ?_⟩, ?_⟩ | refine ⟨(Plain.parts s, width), ⟨(.cons (.ro _ _ _ _ _) (.cons (.v _) .nil)), ?_⟩, ?_⟩ | refine ⟨_, ⟨(.cons (.v _) .nil), ?_⟩, ?_⟩ | refine ⟨_, ⟨(.cons (.ro _ _ _ _ _) .nil), ?_⟩, ?_⟩ | refine And.intro ?_ ?_) | ((with_reducible intro hq); first | exact bne1 hq (by with_reducible assumption) | (revert hq; with_reducible intro _)) | (with_reducible first | exact True.intro | assumption) | ((with_reducible refine Run.mk ?_); (conv => whnf)))
  all_goals (try omega)
  obtain ⟨W, hW⟩ : ∃ W, W = wayP (Plain.parts s) width := ⟨_, rfl⟩
  rw [← hW] at WF hR hwr hwl
  have hWl : W.length ≤ 4100 := by
    have hlo := wrapOut_len (Plain.parts s) width
    have hlp := plcs_len (Plain.parts s) ((Plain.parts s).length + 1)
    rw [WF.len]; omega
  have hn := sgN_le s
  refine loopI (Int × ByteArray × List Spn) [] (fun (i, S, L) => [(12, .v (.int .i64 i))]) (fun (i, S, L) => [(2, .box [.v (.string S), .ro 4 C_spn.enc C_spn.d L none true] 24)]) (fun (i, S, L) => ((-1 ≤ i ∧ i ≤ W.length) ∧ L.length ≤ 256) ∧ txGo (Plain.parts s) W (i + 1).toNat S L = txR s l width) (fun (i, S, L) => (i + 1).toNat) ((W.length : Int), s, l) ⟨⟨⟨by omega, by omega⟩, (OkT.of h1).len⟩, by rw [hR]; congr 1⟩ (Wk.chk ?_) fun i hi => ?_
  · ((conv => whnf); repeat' (first | (with_reducible first | refine And.intro ?_ ?_ | exact True.intro | rfl | exact LeN.ro rfl) | ((with_reducible refine Run.mk ?_); (conv => whnf))))
    all_goals (rw [hwl]; done)
  obtain ⟨i, S, L⟩ := i
  obtain ⟨⟨⟨hi0, hi1⟩, hL⟩, hi2⟩ := hi
  by_cases hneg : i = -1
  · subst hneg
    have hng : decide (0 ≤ (-1 : Int)) = false := rfl
    repeat' (first | (with_reducible first | refine ex_of (α := List Spn) L ⟨rfl, rfl, fun _ => rfl⟩ ?_ | refine And.intro ?_ ?_) | ((with_reducible intro hq); first | exact bne1 hq (by with_reducible assumption) | (revert hq; with_reducible intro _)) | (with_reducible exact True.intro) | ((with_reducible first | refine LeF.chk ?_ | refine Run.mk ?_); (conv => whnf)) | ((with_reducible show LeR _ _ _); refine LeR.own rfl rfl rfl ?_))
    all_goals first
      | (simp only [List.length_nil]; omega)
      | (rw [← hi2]; rfl)
  obtain ⟨k, rfl⟩ := Int.eq_ofNat_of_zero_le (a := i) (by omega)
  have hk : k ≤ W.length := by omega
  have e1 : ((k : Int)).toNat = k := Int.toNat_natCast _
  rw [show (((k : Int)) + 1).toNat = k + 1 by omega] at hi2
  have hng : decide (0 ≤ (k : Int)) = true := decide_eq_true (by omega)
  have hft := WF.frto k hk
  have hWget : ∀ j, j < W.length → (rwayL (Plain.parts s) width).getD j C_int.d = (W.getD j 0 : Nat) := fun j hj => by
    rw [hwr, hd1]
    simp [List.getD_eq_getElem?_getD, hj]
  have hWs := edW_size (s := s) (W := W) (i := k)
  repeat' (first | (with_reducible refine And.intro ?_ ?_) | ((with_reducible intro hq); first | exact bne1 (by with_reducible assumption) hq | (revert hq; with_reducible intro _)) | ((with_reducible refine Run.mk ?_); (conv => whnf)))
  refine joinI Unit [] (fun _ => [(13, .v (.int .i64 (toO (Plain.parts s) W k : Nat))), (15, .v (.string (edW (Plain.parts s) W k)))]) (fun _ => []) (fun _ => True) ?_ fun _ _ => ?_
  · by_cases hkW : k < W.length
    · have kb : decide ((k : Int) < ((rwayL (Plain.parts s) width).length : Int)) = true := decide_eq_true (by omega)
      have hv := hWget k hkW
      have hp := WF.pos k hkW
      have hto : toO (Plain.parts s) W k = W.getD k 0 := by unfold toO; rw [if_pos hkW]
      have hX : (rwayL (Plain.parts s) width).getD ((k : Int)).toNat C_int.d = (toO (Plain.parts s) W k : Nat) := by rw [e1, hto]; exact hv
      have hkl : (kindsP (pcs s)).length = (pcs s).length + 1 := kindsP_len _
      have hkk : (kindsP (pcs s)).getD ((rwayL (Plain.parts s) width).getD ((k : Int)).toNat C_int.d).toNat C_int.d = kindAt (Plain.parts s) (W.getD k 0) := by
        rw [hX, Int.toNat_natCast, hto, hd1]
        exact kinds_eq hpt (by omega) hp.2
      by_cases hM : kindAt (Plain.parts s) (W.getD k 0) = 1
      · have kc : ((kindsP (pcs s)).getD ((rwayL (Plain.parts s) width).getD ((k : Int)).toNat C_int.d).toNat C_int.d != 1) = false := by rw [hkk, hM]; rfl
        have hm : edW (Plain.parts s) W k = ByteArray.empty := by unfold edW edM; rw [decide_eq_false (p := kindAt (Plain.parts s) (W.getD k 0) ≠ 1) (fun h => h hM), Bool.and_false]; rfl
        rw [hm]
        repeat' (first | (with_reducible first | refine ex_of () trivial ?_ | refine And.intro ?_ ?_) | ((with_reducible intro hq); first | exact bne1 hq (by with_reducible assumption) | exact bne1 (by with_reducible assumption) hq | (revert hq; with_reducible intro _)) | (with_reducible first | exact True.intro | rfl | exact LeN.ro rfl | assumption) | ((with_reducible first | refine Wk.chk ?_ | refine Run.mk ?_); (conv => whnf)))
        all_goals first
          | omega
          | rfl
      · have kc : ((kindsP (pcs s)).getD ((rwayL (Plain.parts s) width).getD ((k : Int)).toNat C_int.d).toNat C_int.d != 1) = true := by rw [hkk]; exact bne_iff_ne.2 hM
        have hm : edW (Plain.parts s) W k = nlB := by unfold edW edM; rw [decide_eq_true hM, decide_eq_true hkW]; rfl
        rw [hm]
        repeat' (first | (with_reducible first | refine ex_of () trivial ?_ | refine And.intro ?_ ?_) | ((with_reducible intro hq); first | exact bne1 (by with_reducible assumption) hq | (revert hq; with_reducible intro _)) | (with_reducible first | exact True.intro | rfl | exact LeN.ro rfl | assumption) | ((with_reducible first | refine Wk.chk ?_ | refine Run.mk ?_); (conv => whnf)))
        all_goals first
          | omega
          | rfl
    · have kb : decide ((k : Int) < ((rwayL (Plain.parts s) width).length : Int)) = false := decide_eq_false (by omega)
      obtain rfl : k = W.length := by omega
      have hto : toO (Plain.parts s) W W.length = (Plain.parts s).length := by unfold toO; rw [if_neg (Nat.lt_irrefl _)]
      have hm : edW (Plain.parts s) W W.length = ByteArray.empty := by unfold edW edM; rw [decide_eq_false (Nat.lt_irrefl _)]; rfl
      rw [hm]
      have hlast : 0 < (pcs s).length → endsP ((pcs s).getD (((pcs s).length : Int) - 1).toNat C_pc.d) = true → txGo (Plain.parts s) W W.length S L = txR s l width := fun h1 h2 => by
        rw [← hi2]
        refine (txGo_skip (ed_last WF (by omega) ?_)).symm
        rw [show (((pcs s).length : Int) - 1).toNat = (Plain.parts s).length - 1 by omega, hd2] at h2
        rw [show (pcs s).getD ((Plain.parts s).length - 1) dPc = pcOf ((Plain.parts s).getD ((Plain.parts s).length - 1) dPart) from getD_map pcOf (Plain.parts s) dPart _] at h2
        rw [← h2]
        exact (told_at hpt (by omega)).fin
      have hpq : decide (0 < ((pcs s).length : Int)) = true → 0 < (pcs s).length := fun h => by have := of_decide_eq_true h; omega
      repeat' (first | (with_reducible first | refine ⟨⟨_, _, _, _⟩, ⟨(.cons (.agg (.cons (.v _) (.cons (.v _) (.cons (.v _) (.cons (.v _) .nil))))) .nil), ?_⟩, ?_⟩ | refine ex_of () trivial ?_ | refine ex_of (α := Int × ByteArray × List Spn) ((W.length : Int) - 1, S, L) ⟨⟨⟨⟨?_, ?_⟩, ?_⟩, ?_⟩, ?_⟩ ?_ | exact fun h => h | refine And.intro ?_ ?_) | ((with_reducible intro hq); first | exact bne1 hq (by with_reducible assumption) | (revert hq; with_reducible intro _)) | (with_reducible first | exact True.intro | rfl | exact LeN.ro rfl | assumption) | ((with_reducible first | refine Wk.chk ?_ | refine Run.mk ?_); (conv => whnf)))
      all_goals first
        | omega
        | (apply Fits.i64 <;> omega)
        | (have h9 := hpq (by assumption); omega)
        | (have h8 : (decide (0 < ((pcs s).length : Int)) && endsP ((pcs s).getD (((pcs s).length : Int) - 1).toNat C_pc.d)) = true := by assumption
           rw [Bool.and_eq_true] at h8
           rw [show ((W.length : Int) - 1 + 1).toNat = W.length by omega]
           exact hlast (hpq h8.1) h8.2)
        | (dsimp only; omega)
        | rfl
  repeat' ((with_reducible refine Run.mk ?_); (conv => whnf))
  refine joinI Unit [] (fun _ => [(14, .v (.int .i64 (frO W k : Nat)))]) (fun _ => []) (fun _ => True) ?_ fun _ _ => ?_
  · by_cases h0 : k = 0
    · subst h0
      have kb : decide (0 < ((0 : Nat) : Int)) = false := rfl
      repeat' (first | (with_reducible first | refine ex_of () trivial ?_ | refine And.intro ?_ ?_) | ((with_reducible intro hq); first | exact bne1 hq (by with_reducible assumption) | (revert hq; with_reducible intro _)) | (with_reducible first | exact True.intro | rfl | exact LeN.ro rfl) | ((with_reducible first | refine Wk.chk ?_ | refine Run.mk ?_); (conv => whnf)))
      all_goals rfl
    · have kb : decide (0 < (k : Int)) = true := decide_eq_true (by omega)
      have hX : (rwayL (Plain.parts s) width).getD ((k : Int) - 1).toNat C_int.d = (frO W k : Nat) := by
        rw [show ((k : Int) - 1).toNat = k - 1 by omega, hWget (k - 1) (by omega)]
        unfold frO
        rw [if_neg h0]
      repeat' (first | (with_reducible first | refine ex_of () trivial ?_ | refine And.intro ?_ ?_) | ((with_reducible intro hq); first | exact bne1 (by with_reducible assumption) hq | (revert hq; with_reducible intro _)) | (with_reducible first | exact True.intro | rfl | exact LeN.ro rfl | assumption) | ((with_reducible first | refine Wk.chk ?_ | refine Run.mk ?_); (conv => whnf)))
      all_goals first
        | omega
        | (apply Fits.i64 <;> omega)
  have hbd : toO (Plain.parts s) W k ≤ 5000 := by omega
  repeat' (first | (with_reducible first | refine ⟨(Plain.parts s, _, _), ⟨(.cons (.ro _ _ _ _ _) (.cons (.v _) (.cons (.v _) .nil))), ?_⟩, ?_⟩ | refine And.intro ?_ ?_ | intro _ | assumption) | ((with_reducible refine Run.mk ?_); (conv => whnf)))
  all_goals (try first | omega | exact hpt _ (by assumption))
  have hFT := edF_le (l := Plain.parts s) (W := W) (i := k) hft.1 hft.2
  have hTT := edT_le (l := Plain.parts s) (W := W) (i := k) hft.1
  refine joinI Unit [16] (fun _ => [(16, .v (.int .i64 (edF (Plain.parts s) W k : Nat))), (18, .v (.int .i64 (edT (Plain.parts s) W k : Nat)))]) (fun _ => []) (fun _ => True) ?_ fun _ _ => ?_
  · have hF : ((frO W k : Nat) : Int) + (trimN (segOf (Plain.parts s) ((frO W k : Nat) : Int).toNat ((toO (Plain.parts s) W k : Nat) : Int).toNat) : Nat) = (edF (Plain.parts s) W k : Nat) := by
      rw [Int.toNat_natCast, Int.toNat_natCast]
      unfold edF
      omega
    by_cases hlt : frO W k < toO (Plain.parts s) W k
    · have kb : decide (((frO W k : Nat) : Int) < ((toO (Plain.parts s) W k : Nat) : Int)) = true := decide_eq_true (by omega)
      have he : endsP ((pcs s).getD (((toO (Plain.parts s) W k : Nat) : Int) - 1).toNat C_pc.d) = ((Plain.parts s).getD (toO (Plain.parts s) W k - 1) dPart).fin := by
        rw [show (((toO (Plain.parts s) W k : Nat) : Int) - 1).toNat = toO (Plain.parts s) W k - 1 by omega, hd2]
        rw [show (pcs s).getD (toO (Plain.parts s) W k - 1) dPc = pcOf ((Plain.parts s).getD (toO (Plain.parts s) W k - 1) dPart) from getD_map pcOf (Plain.parts s) dPart _]
        exact (told_at hpt (by omega)).fin.symm
      by_cases hf : ((Plain.parts s).getD (toO (Plain.parts s) W k - 1) dPart).fin = true
      · have hT : ((toO (Plain.parts s) W k : Nat) : Int) - 1 = (edT (Plain.parts s) W k : Nat) := by
          unfold edT; rw [if_pos ⟨hlt, hf⟩]; omega
        rw [hf] at he
        have kc : (decide (((frO W k : Nat) : Int) < ((toO (Plain.parts s) W k : Nat) : Int)) && endsP ((pcs s).getD (((toO (Plain.parts s) W k : Nat) : Int) - 1).toNat C_pc.d)) = true := by rw [kb, he]; rfl
        repeat' (first | (with_reducible first | refine ⟨⟨_, _, _, _⟩, ⟨(.cons (.agg (.cons (.v _) (.cons (.v _) (.cons (.v _) (.cons (.v _) .nil))))) .nil), ?_⟩, ?_⟩ | refine ex_of () trivial ?_ | exact fun h => h | refine And.intro ?_ ?_) | ((with_reducible intro hq); first | exact bne1 (by with_reducible assumption) hq | (revert hq; with_reducible intro _)) | (with_reducible first | exact True.intro | rfl | exact LeN.ro rfl | assumption) | ((with_reducible first | refine Wk.chk ?_ | refine Run.mk ?_); (conv => whnf)))
        all_goals first
          | omega
          | (apply Fits.i64 <;> omega)
      · have hT : ((toO (Plain.parts s) W k : Nat) : Int) = (edT (Plain.parts s) W k : Nat) := by
          unfold edT; rw [if_neg (fun h => hf h.2)]
        rw [Bool.eq_false_iff.2 hf] at he
        have kc : (decide (((frO W k : Nat) : Int) < ((toO (Plain.parts s) W k : Nat) : Int)) && endsP ((pcs s).getD (((toO (Plain.parts s) W k : Nat) : Int) - 1).toNat C_pc.d)) = false := by rw [kb, he]; rfl
        repeat' (first | (with_reducible first | refine ⟨⟨_, _, _, _⟩, ⟨(.cons (.agg (.cons (.v _) (.cons (.v _) (.cons (.v _) (.cons (.v _) .nil))))) .nil), ?_⟩, ?_⟩ | refine ex_of () trivial ?_ | exact fun h => h | refine And.intro ?_ ?_) | ((with_reducible intro hq); first | exact bne1 hq (by with_reducible assumption) | exact bne1 (by with_reducible assumption) hq | (revert hq; with_reducible intro _)) | (with_reducible first | exact True.intro | rfl | exact LeN.ro rfl | assumption) | ((with_reducible first | refine Wk.chk ?_ | refine Run.mk ?_); (conv => whnf)))
        all_goals first
          | omega
          | (apply Fits.i64 <;> omega)
    · have kb : decide (((frO W k : Nat) : Int) < ((toO (Plain.parts s) W k : Nat) : Int)) = false := decide_eq_false (by omega)
      have hT : ((toO (Plain.parts s) W k : Nat) : Int) = (edT (Plain.parts s) W k : Nat) := by
        unfold edT; rw [if_neg (fun h => hlt h.1)]
      repeat' (first | (with_reducible first | refine ex_of () trivial ?_ | exact fun h => h | refine And.intro ?_ ?_) | ((with_reducible intro hq); first | exact bne1 hq (by with_reducible assumption) | (revert hq; with_reducible intro _)) | (with_reducible first | exact True.intro | rfl | exact LeN.ro rfl | assumption) | ((with_reducible first | refine Wk.chk ?_ | refine Run.mk ?_); (conv => whnf)))
      all_goals first
        | (exfalso; have h9 : (decide (((frO W k : Nat) : Int) < ((toO (Plain.parts s) W k : Nat) : Int)) && endsP ((pcs s).getD (((toO (Plain.parts s) W k : Nat) : Int) - 1).toNat C_pc.d)) = true := by assumption
           rw [kb, Bool.false_and] at h9; cases h9)
  by_cases hKK : edK (Plain.parts s) W k = true
  · have hkk : edF (Plain.parts s) W k = edT (Plain.parts s) W k ∧ edM (Plain.parts s) W k = false := by
      unfold edK at hKK
      rw [Bool.and_eq_true, decide_eq_true_eq] at hKK
      exact ⟨hKK.1, by simpa using hKK.2⟩
    have hK2 : (((edF (Plain.parts s) W k : Nat) : Int) == ((edT (Plain.parts s) W k : Nat) : Int) && decide (edW (Plain.parts s) W k = { data := #[] })) = true := by rw [hWs, hkk.1, hkk.2, beq_self_eq_true]; rfl
    rw [txGo_skip hKK] at hi2
    repeat' (first | (with_reducible first | refine ex_of (α := Int × ByteArray × List Spn) ((k : Int) - 1, S, L) ⟨⟨⟨⟨?_, ?_⟩, ?_⟩, ?_⟩, ?_⟩ ?_ | exact fun h => h | refine And.intro ?_ ?_) | ((with_reducible intro hq); first | exact bne1 (by with_reducible assumption) hq | (revert hq; with_reducible intro _)) | (with_reducible first | exact True.intro | rfl | exact LeN.ro rfl | assumption) | ((with_reducible first | refine Wk.chk ?_ | refine Run.mk ?_); (conv => whnf)))
    all_goals first
      | omega
      | (apply Fits.i64 <;> omega)
      | (rw [show (k : Int) - 1 + 1 = (k : Int) by omega, e1]; exact hi2)
      | (dsimp only; omega)
  have hKK := Bool.eq_false_iff.2 hKK
  have hK2 : (((edF (Plain.parts s) W k : Nat) : Int) == ((edT (Plain.parts s) W k : Nat) : Int) && decide (edW (Plain.parts s) W k = { data := #[] })) = false := by
    rw [hWs, ← hKK]
    unfold edK
    congr 1
    rw [Bool.eq_iff_iff, beq_iff_eq, decide_eq_true_eq]
    omega
  have hA : signP (pcs s) ((edF (Plain.parts s) W k : Nat) : Int).toNat = plA (Plain.parts s) (edF (Plain.parts s) W k) := by rw [Int.toNat_natCast]; exact signP_plA (by omega)
  have hB : signP (pcs s) ((edT (Plain.parts s) W k : Nat) : Int).toNat = plA (Plain.parts s) (edT (Plain.parts s) W k) := by rw [Int.toNat_natCast]; exact signP_plA (by omega)
  by_cases hE : splE S L (signP (pcs s) ((edF (Plain.parts s) W k : Nat) : Int).toNat) (signP (pcs s) ((edT (Plain.parts s) W k : Nat) : Int).toNat) (edW (Plain.parts s) W k) [] = 0
  · have hE2 : (splE S L (signP (pcs s) ((edF (Plain.parts s) W k : Nat) : Int).toNat) (signP (pcs s) ((edT (Plain.parts s) W k : Nat) : Int).toNat) (edW (Plain.parts s) W k) [] != 0) = false := by rw [hE]; rfl
    have hgo := txGo_go (S := S) (L := L) hKK (by rw [← hA, ← hB]; exact hE)
    rw [hgo, ← hA, ← hB] at hi2
    have hsl := splL_len S L (signP (pcs s) ((edF (Plain.parts s) W k : Nat) : Int).toNat) (signP (pcs s) ((edT (Plain.parts s) W k : Nat) : Int).toNat) (edW (Plain.parts s) W k) []
    repeat' (first | (with_reducible first | refine ⟨(_, _), ⟨(.cons (.ro _ _ _ _ _) (.cons (.v _) .nil)), ?_⟩, ?_⟩ | refine ⟨(_, _, _, _, _, []), ⟨.cons (.agg (.cons (.v _) (.cons (.lent _ _ _ _ _ _) .nil))) (.cons (.v _) (.cons (.v _) (.cons (.agg (.cons (.v _) ?_)) .nil))), ?_⟩, ?_⟩ | refine ex_of (α := Int × ByteArray × List Spn) ((k : Int) - 1, splT S L (signP (pcs s) ((edF (Plain.parts s) W k : Nat) : Int).toNat) (signP (pcs s) ((edT (Plain.parts s) W k : Nat) : Int).toNat) (edW (Plain.parts s) W k) [], splL S L (signP (pcs s) ((edF (Plain.parts s) W k : Nat) : Int).toNat) (signP (pcs s) ((edT (Plain.parts s) W k : Nat) : Int).toNat) (edW (Plain.parts s) W k) []) ⟨⟨⟨⟨?_, ?_⟩, ?_⟩, ?_⟩, ?_⟩ ?_ | exact fun h => h | refine And.intro ?_ ?_) | ((with_reducible intro hq); first | exact bne1 hq (by with_reducible assumption) | (revert hq; with_reducible intro _)) | (with_reducible first | exact True.intro | rfl | exact LeN.ro rfl | assumption) | ((with_reducible first | refine Wk.chk ?_ | refine Run.mk ?_); (conv => whnf)))
    all_goals first
      | omega
      | (apply Fits.i64 <;> omega)
      | (rw [show (k : Int) - 1 + 1 = (k : Int) by omega, e1]; exact hi2)
      | exact LeN.zt rfl
      | exact .cons (.nil _ _ _ (fun _ => rfl)) .nil
      | (dsimp only; omega)
  · have hE2 : (splE S L (signP (pcs s) ((edF (Plain.parts s) W k : Nat) : Int).toNat) (signP (pcs s) ((edT (Plain.parts s) W k : Nat) : Int).toNat) (edW (Plain.parts s) W k) [] != 0) = true := by simpa using hE
    have hgo := txGo_err (S := S) (L := L) hKK (by rw [← hA, ← hB]; exact hE)
    rw [hgo, ← hA, ← hB] at hi2
    repeat' (first | (with_reducible first | refine ⟨(_, _), ⟨(.cons (.ro _ _ _ _ _) (.cons (.v _) .nil)), ?_⟩, ?_⟩ | refine ⟨(_, _, _, _, _, []), ⟨.cons (.agg (.cons (.v _) (.cons (.lent _ _ _ _ _ _) .nil))) (.cons (.v _) (.cons (.v _) (.cons (.agg (.cons (.v _) ?_)) .nil))), ?_⟩, ?_⟩ | exact fun h => h | refine And.intro ?_ ?_) | ((with_reducible intro hq); first | exact bne1 hq (by with_reducible assumption) | exact bne1 (by with_reducible assumption) hq | (revert hq; with_reducible intro _)) | (with_reducible exact True.intro) | ((with_reducible first | refine LeF.chk ?_ | refine Run.mk ?_); (conv => whnf)) | ((with_reducible show LeR _ _ _); refine LeR.nil ?_ (fun _ => rfl)))
    all_goals first
      | omega
      | (rw [← hi2]; first | done | rfl)
      | exact .cons (.nil _ _ _ (fun _ => rfl)) .nil
end Go.SX.Tryz
/- Contract of chapter 10's head; what the laws WrapLeast, WrapPlaces answer, in terms of the two tables. -/
namespace Go.SX.Tryz
open Go.Proofs Go.Proofs.Tryz Go.SX.Plain
set_option maxRecDepth 100000
set_option maxHeartbeats 0
set_option linter.unusedSimpArgs false
def C_brkL : Cdc (Int × Int) := { C_brk with lit := true }
def D_law : Cds := [(49, ⟨Int × Int, C_brk⟩), (39, ⟨Int × Int, C_brkL⟩)]
theorem D_law_ok : CdsOK T D_law := .cons ⟨fun _ => rfl, by decide, _, rfl, rfl, by decide⟩ (.cons ⟨fun _ => rfl, by decide, _, rfl, rfl, by decide⟩ .nil)
def tx1 : ByteArray := ⟨#[97, 97, 97, 32, 98, 98, 32, 99, 99]⟩
def tx2 : ByteArray := ⟨#[97, 98, 99, 100, 101, 102]⟩
theorem con_head : Con prog 4 (fun _ : Unit => []) (fun _ => .sb true) (fun _ => True) := by
  refine Con.of (by kernel_rfl) T_ok D_law_ok (.con con_wrap (.con con_same .nil)) 3 [] q_head.1 q_head.2.1 q_head.2.2 (fun _ => rfl) fun i _ => ?_
  have h1 : wrapL { data := #[97, 97, 97, 32, 98, 98, 32, 99, 99] } 6 = [(4, 2)] := by kernel_rfl
  have h2 : wrapB { data := #[97, 97, 97, 32, 98, 98, 32, 99, 99] } 6 = 10 := by kernel_rfl
  have h3 : checkN (ByteArray.size { data := #[97, 97, 97, 32, 98, 98, 32, 99, 99] }) 6 = 0 := by kernel_rfl
  have h4 : wrapL { data := #[97, 98, 99, 100, 101, 102] } 4 = [(3, 3)] := by kernel_rfl
  have h5 : wrapB { data := #[97, 98, 99, 100, 101, 102] } 4 = 1048578 := by kernel_rfl
  have h6 : checkN (ByteArray.size { data := #[97, 98, 99, 100, 101, 102] }) 4 = 0 := by kernel_rfl
  repeat' (first | (with_reducible first | refine ⟨(_, _), ⟨(.cons (.v _) (.cons (.v _) .nil)), ?_⟩, ?_⟩ | refine ⟨(_, _), ⟨(.cons (.lent _ _ _ _ _ _) (.cons (.lent _ _ _ _ _ _) .nil)), ?_⟩, ?_⟩ | exact fun h => h | refine And.intro ?_ ?_) | ((with_reducible intro hq); first | exact bne1 hq (by with_reducible assumption) | exact bne1 (by with_reducible assumption) hq | (revert hq; with_reducible intro _)) | (with_reducible first | exact True.intro | assumption) | ((with_reducible first | refine LeL.chk ?_ | refine LeF.chk ?_ | refine Run.mk ?_); (conv => whnf)))
  all_goals first
    | rfl
    | (dsimp only; rw [h1]; decide)
    | (dsimp only; rw [h4]; decide)
    | (exfalso
       simp_all [C_brkL, C_brk, zeroAV]; done)
end Go.SX.Tryz
/- The law WrapTexts: true, whatever the input. -/
namespace Go.SX.Tryz
open Go.Proofs Go.Proofs.Tryz Go.SX.Plain
set_option maxRecDepth 100000
set_option maxHeartbeats 0
set_option linter.unusedSimpArgs false
theorem q_wrapTexts : fact 3 f3 := ⟨by kernel_rfl, rfl, by kernel_rfl⟩
theorem con_wrapTexts : Con prog 3 (fun ((s, l, f) : ByteArray × List Spn × Int) => [txAV s l, .v (.int .i64 f)]) (fun _ => .v (.bool true)) (fun (_, l, _) => l.length * 32 ≤ 140737488351232) := by
  refine Con.of (by kernel_rfl) T_ok D_spnP_ok (.inl (J := []) q_lend.1 q_lend.2.1 q_lend.2.2 (.inl (J := []) q_back.1 q_back.2.1 q_back.2.2 (.con con_wtext (.con con_rtext10 (.con con_sameSpans (.con con_sameText (.con con_head .nil))))))) 5 [] q_wrapTexts.1 q_wrapTexts.2.1 q_wrapTexts.2.2 (fun _ => rfl) fun i hi => ?_
  obtain ⟨s, l, f⟩ := i
  have hl : l.length * 32 ≤ 140737488351232 := hi
  by_cases hbig : 300 < l.length
  · have kb : decide ((300 : Int) < (l.length : Int)) = true := decide_eq_true (by omega)
    repeat' (first | (with_reducible first | refine ⟨(), ⟨.nil, ?_⟩, ?_⟩ | refine And.intro ?_ ?_) | ((with_reducible intro hq); first | exact bne1 (by with_reducible assumption) hq | (revert hq; with_reducible intro _)) | (with_reducible first | exact True.intro | rfl) | ((with_reducible first | refine LeF.chk ?_ | refine Run.mk ?_); (conv => whnf)))
  have kb : decide ((300 : Int) < (l.length : Int)) = false := decide_eq_false (by omega)
  have hln : (l ++ [mrk]).length = l.length + 1 := by simp
  have e3 : ((l.length : Int) + 3).toNat = l.length + 3 := by omega
  have hvl : (((l ++ [mrk]).drop 0).take l.length) = l := by rw [List.drop_zero]; exact snoc_take l mrk
  have hcl := txR_len s l f
  have hll : decide (l = l) = true := decide_eq_true rfl
  have hE4 : (decide (l = l) && spEqB ((l ++ [mrk]).getD (((0 : Nat) : Int) + (l.length : Int)).toNat C_spnP.d) mrk) = true := by
    rw [hll, show (((0 : Nat) : Int) + (l.length : Int)).toNat = l.length by omega, snoc_at, spEqB_eq]
    simp
  have hTT : (decide ((txR s l f).1 = (txR s l f).1) && decide ((txR s l f).2.1 = (txR s l f).2.1)) = true := by simp
  have hEE : ((txR s l f).2.2 == (txR s l f).2.2) = true := by simp
  repeat' (first | (with_reducible first | refine ex_of (α := List Spn) l ⟨rfl, rfl, fun _ => rfl⟩ ?_ | refine ⟨(s, l, f), ⟨.cons (.agg (.cons (.v _) (.cons (le_view (by with_unfolding_all exact rfl) (by with_unfolding_all exact rfl) (by with_unfolding_all exact rfl) ?_ ?_) .nil))) (.cons (.v _) .nil), ?_⟩, ?_⟩ | refine ⟨(s, l, f), ⟨(.cons (.agg (.cons (.v _) (.cons (.lent _ _ _ _ _ _) .nil))) (.cons (.v _) .nil)), ?_⟩, ?_⟩ | refine ⟨(l, l), ⟨.cons (le_view (by with_unfolding_all exact rfl) (by with_unfolding_all exact rfl) (by with_unfolding_all exact rfl) ?_ ?_) (.cons (.lent _ _ _ _ _ _) .nil), ?_⟩, ?_⟩ | exact fun h => h | refine And.intro ?_ ?_) | ((with_reducible intro hq); first | exact bne1 hq (by with_reducible assumption) | (revert hq; with_reducible intro _)) | (with_reducible first | exact True.intro | assumption) | ((with_reducible first | refine LeL.chk ?_ | refine Run.mk ?_); (conv => whnf)) | ((with_reducible show drawOK _ _ = true); kernel_rfl))
  all_goals (try first | omega | (apply Fits.i64 <;> omega) | exact hvl | (dsimp only; omega) | (simp only [List.length_append, List.length_cons, List.length_nil, List.length_replicate, e3]; omega) | rfl)
  refine loopI Nat [] (fun i => [(7, .v (.int .i64 (i : Nat))), (6, .sb true)]) (fun i => [(3, .row C_spnP (bkTo ovr (l ++ [mrk]) i) 42 (some ((l.length : Int) + 3).toNat))]) (fun i => i ≤ l.length + 1) (fun i => l.length + 1 - i) 0 (Nat.zero_le _) (Wk.chk ?_) fun i hi => ?_
  · ((conv => whnf); repeat' (first | (with_reducible first | refine And.intro ?_ ?_ | exact True.intro | rfl | refine EntLe.row ?_ | exact LeN.ro rfl) | ((with_reducible refine Run.mk ?_); (conv => whnf))))
    all_goals first
      | rfl
      | exact hE4
  have hi : i ≤ l.length + 1 := hi
  have hbl := bk_len ovr (R := l ++ [mrk]) (i := i) (by omega)
  by_cases hil : i < l.length + 1
  · have hlt : decide ((i : Int) < ((((l.length : Int) + 1).toNat : Nat) : Int)) = true := decide_eq_true (by omega)
    have hst := bk_step ovr (R := l ++ [mrk]) (i := i) (by omega)
    have hst' : (bkTo ovr (l ++ [mrk]) i).set (((0 : Nat) : Int) + (i : Int)).toNat ovr = bkTo ovr (l ++ [mrk]) (i + 1) := by rw [show (((0 : Nat) : Int) + (i : Int)).toNat = i by omega]; exact hst
    repeat' (first | (with_reducible first | refine ex_of (α := Nat) (i + 1) ⟨?_, ?_⟩ ?_ | refine And.intro ?_ ?_) | ((with_reducible intro hq); first | exact bne1 (by with_reducible assumption) hq | (revert hq; with_reducible intro _)) | (with_reducible first | exact True.intro | rfl | refine EntLe.row ?_ | exact LeN.ro rfl) | ((with_reducible first | refine Wk.chk ?_ | refine LeL.chk ?_ | refine Run.mk ?_); (conv => whnf)))
    all_goals first
      | omega
      | (apply Fits.i64 <;> omega)
      | (dsimp only; omega)
      | (dsimp only [C_spn]; done)
      | exact hst'
  have hlt : decide ((i : Int) < ((((l.length : Int) + 1).toNat : Nat) : Int)) = false := decide_eq_false (by omega)
  repeat' (first | (with_reducible first | refine ⟨(_, _, _, _), ⟨(.cons (.agg (.cons (.v _) (.cons (.lent _ _ _ _ _ _) .nil))) (.cons (.agg (.cons (.v _) (.cons (.lent _ _ _ _ _ _) .nil))) .nil)), ?_⟩, ?_⟩ | refine ⟨(), ⟨.nil, ?_⟩, ?_⟩ | exact fun h => h | refine And.intro ?_ ?_) | ((with_reducible intro hq); first | exact bne1 hq (by with_reducible assumption) | ((simp only [*, BB, cond_true, cond_false, reduceCtorEq] at hq); done) | (revert hq; with_reducible intro _)) | (with_reducible first | exact True.intro | rfl | assumption) | ((with_reducible first | refine LeF.chk ?_ | refine Run.mk ?_); (conv => whnf)))
  all_goals first
    | omega
    | (rename_i hbad; rw [hTT, hEE] at hbad; cases hbad; done)
    | (simp [hTT, hEE]; done)
end Go.SX.Tryz
/- A verified symbolic executor for Go code in the model: what a call's arguments read as. -/
namespace Go.SX
open Go.ChangeShapes Go.WideShapes Go.Deep Go.RowKit
section
variable {H : Type} {encH : TypeId × Value → H} {P : Program} {w : World} {E : Env}
structure Reads (encH : TypeId × Value → H) (P : Program) (w : World) (E : Env) (e : TypeId) {α : Type} (en : α → List AV) : Prop where
  out : ∀ n cs y, DataW.trod encH P w 0 (fun _ => true) true n e cs = some y → ∃ x : α, RelL w E (en x) cs
theorem Reads.int {e : TypeId} (he : P.underlying e = some (.int .i64)) : Reads encH P w E e (fun a : Int => [.v (.int .i64 a)]) := ⟨fun n cs y h => by
  obtain ⟨a, rfl, _⟩ := DataW.trod_int he h
  exact ⟨a, RelL.cons (.v _) (RelL.nil _ _)⟩⟩
theorem Reads.string {e : TypeId} (he : P.underlying e = some .string) : Reads encH P w E e (fun a : ByteArray => [.v (.string a)]) := ⟨fun n cs y h => by
  obtain ⟨a, rfl, _⟩ := DataW.trod_string he h
  exact ⟨a, RelL.cons (.v _) (RelL.nil _ _)⟩⟩
theorem Reads.bool {e : TypeId} (he : P.underlying e = some .bool) : Reads encH P w E e (fun a : Bool => [.sb a]) := ⟨fun n cs y h => by
  obtain ⟨a, rfl, _⟩ := DataW.trod_bool he h
  exact ⟨a, RelL.cons (.sb _) (RelL.nil _ _)⟩⟩
theorem Reads.map {e : TypeId} {α β : Type} {en : α → List AV} {en' : β → List AV} (h : Reads encH P w E e en) (f : α → β) (hf : ∀ x, en' (f x) = en x) : Reads encH P w E e en' := ⟨fun n cs y ht => by
  obtain ⟨x, hx⟩ := h.out n cs y ht
  exact ⟨f x, by rw [hf]; exact hx⟩⟩
inductive FReads (encH : TypeId × Value → H) (P : Program) (w : World) (E : Env) : List Field → Nat → Nat → {α : Type} → (α → List AV) → Prop
  | nil {o : Nat} : FReads encH P w E [] o o (fun _ : Unit => [])
  | cons {f : Field} {fs : List Field} {o k t : Nat} {α β : Type} {en : α → List AV} {en' : β → List AV} (ho : f.offset = o) (hc : P.cellsOf f.type = k) (h : Reads encH P w E f.type en) (hk : ∀ x, (en x).length = k) (hr : FReads encH P w E fs (o + k) t en') :
      FReads encH P w E (f :: fs) o t (fun x : α × β => en x.1 ++ en' x.2)
theorem FReads.out {fs : List Field} {o t : Nat} {α : Type} {en : α → List AV} (h : FReads encH P w E fs o t en) : o ≤ t ∧ ∀ (cs : List Value), cs.length = t →
    (∀ f ∈ fs, ∃ y n, DataW.trod encH P w 0 (fun _ => true) true n f.type ((cs.drop f.offset).take (P.cellsOf f.type)) = some y) → ∃ x : α, RelL w E (en x) (cs.drop o) := by
  induction h with
  | nil =>
    refine ⟨Nat.le_refl _, fun cs hl _ => ⟨(), ?_⟩⟩
    rw [List.drop_eq_nil_of_le (by omega)]
    exact RelL.nil _ _
  | @cons f fs o k t α β en en' ho hc h hk hr ih =>
    refine ⟨by omega, fun cs hl hf => ?_⟩
    obtain ⟨y, n, hy⟩ := hf f List.mem_cons_self
    obtain ⟨x, hx⟩ := h.out _ _ _ hy
    obtain ⟨z, hz⟩ := ih.2 cs hl fun g hg => hf g (List.mem_cons_of_mem _ hg)
    refine ⟨(x, z), ?_⟩
    rw [ho, hc] at hx
    have := hx.append hz
    rwa [show cs.drop (o + k) = (cs.drop o).drop k by rw [List.drop_drop], List.take_append_drop] at this
theorem Reads.struct {e : TypeId} {fs : Array Field} (he : P.underlying e = some (.struct fs)) {t : Nat} (hC : P.cellsOf e = t) {α : Type} {en : α → List AV} (h : FReads encH P w E fs.toList 0 t en) : Reads encH P w E e en := ⟨fun n cs y ht => by
  obtain ⟨xs, m, _, _, hl, hxl, hf⟩ := DataW.trod_struct he ht
  have := h.out.2 cs (by omega) fun f hmem => by
    obtain ⟨i, hi, hfi⟩ := List.getElem_of_mem hmem
    have hi2 : i < fs.size := by simpa using hi
    have h1 := hf i f (by rw [Array.getElem?_eq_getElem hi2]; simpa using hfi)
    rw [List.getElem?_eq_getElem (by omega)] at h1
    exact ⟨_, m, h1⟩
  simpa using this⟩
theorem Reads.slice {t e : TypeId} (ht : P.underlying t = some (.slice e)) {α : Type} {en : α → List AV} {k : Nat} (d : α) (hk : P.cellsOf e = k) (hk0 : 0 < k) (hs : ∀ x, (en x).length = k) (hl : ∀ b, b < w.heap.size → E.lnt b)
    (h : Reads encH P w (E.bz true) e en) : Reads encH P w E t (fun l : List α => [.ro k en d l none true]) := ⟨fun n cs y hy => by
  rcases open_slice ht hy with ⟨rfl, _⟩ | ⟨a, len, cap, m, n', D, Pl, rfl, _, hlc, _, hm, _, hi⟩
  · exact ⟨[], RelL.cons (.roNil k en d none none 0 hs (by simp)) (RelL.nil _ _)⟩
  have hlm : len ≤ m := by rw [hm]; simp; omega
  have hel : ∀ i, i < len → ∃ (x : α) (cs' : List Value), w.cells? 0 (a.add (i * k)) k = some cs' ∧ RelL w (E.bz true) (en x) cs' := fun i hil => by
    obtain ⟨cs', h1, h2⟩ := hi i (by omega)
    obtain ⟨x, hx⟩ := h.out _ _ _ h2
    rw [hk] at h1
    exact ⟨x, cs', h1, hx⟩
  by_cases h0 : len = 0
  · subst h0
    exact ⟨[], RelL.cons (.roNil k en d none (some a) cap hs (by simp)) (RelL.nil _ _)⟩
  obtain ⟨b, o, spot⟩ := a
  have hc0 : ∀ i j, i < len → j < k → ∃ v, w.cell? ((⟨b, o, spot⟩ : Addr).add (i * k + j)) = some v := fun i j h1 h2 => by
    obtain ⟨x, cs', h3, h4⟩ := hel i h1
    obtain ⟨_, h5, h6⟩ := World.cells?_some h3
    have h7 := h6 j h2
    rw [List.getElem?_eq_getElem (by omega), Go.Deep.add_add] at h7
    exact ⟨_, h7⟩
  have hspot : spot = none := by
    obtain ⟨v, hv⟩ := hc0 0 0 (by omega) hk0
    simpa [Addr.add] using World.cell?_spot hv
  subst hspot
  have hb : b < w.heap.size := by
    obtain ⟨v, hv⟩ := hc0 0 0 (by omega) hk0
    refine Nat.lt_of_not_le fun hle => ?_
    unfold World.cell? at hv
    rw [show ((⟨b, o, none⟩ : Addr).add (0 * k + 0)).block = b by simp [Addr.add], Array.getElem?_eq_none hle] at hv
    cases hv
  let X : Nat → α := fun i => if hi : i < len then Classical.choose (hel i hi) else d
  let Cs : Nat → List Value := fun i => if hi : i < len then Classical.choose (Classical.choose_spec (hel i hi)) else []
  have hX : ∀ i, i < len → w.cells? 0 ((⟨b, o, none⟩ : Addr).add (i * k)) k = some (Cs i) ∧ RelL w (E.bz true) (en (X i)) (Cs i) := fun i hi => by
    have := Classical.choose_spec (Classical.choose_spec (hel i hi))
    simpa only [X, Cs, dif_pos hi] using this
  refine ⟨(List.range len).map X, RelL.cons ?_ (RelL.nil _ _)⟩
  have hll : ((List.range len).map X).length = len := by simp
  have key : Rel w E (.ro k en d ((List.range len).map X) none true) (.slice (some ⟨b, o, none⟩) ((List.range len).map X).length cap) :=
    .ro (fun i j => (Cs i).getD j undef) hs (by simp) (by rw [hll]; exact hlc) (.inr (hl b hb)) (fun i j h1 h2 => by
      rw [hll] at h1
      obtain ⟨h3, _⟩ := hX i h1
      obtain ⟨_, h5, h6⟩ := World.cells?_some h3
      have h7 := h6 j h2
      rw [Go.Deep.add_add, add_plain] at h7
      rw [h7, List.getElem?_eq_getElem (by omega)]
      simp [List.getD_eq_getElem?_getD, show j < (Cs i).length by omega]) fun i h1 j h2 => by
      have h1' : i < len := by rw [hll] at h1; exact h1
      obtain ⟨_, h4⟩ := hX i h1'
      have he : ((List.range len).map X)[i] = X i := by simp
      have h2' : j < (en (X i)).length := by rw [← he]; exact h2
      have h8 : j < (Cs i).length := by have := h4.1; omega
      have h9 := h4.2 j h2' h8
      have he2 : (en ((List.range len).map X)[i])[j] = (en (X i))[j] := by simp only [he]
      rw [he2, show (Cs i).getD j undef = (Cs i)[j] by simp [List.getD_eq_getElem?_getD, h8]]
      exact h9
  rwa [hll] at key⟩
theorem Reads.arg {t e : TypeId} (ht : P.underlying t = some (.slice e)) {α : Type} {en : α → List AV} {k : Nat} {d : α} (h : Reads encH P w E t (fun l : List α => [.ro k en d l none true])) {a : Option Addr} {len cap : Nat} {y : DataW H} {p : List MemPlace}
    (hT : DataW.Trod encH P w 0 (fun _ => true) true t (.slice a len cap) y p) : ∃ l : List α, Rel w E (.ro k en d l none true) (.slice a len cap) := by
  obtain ⟨fuel, hf⟩ := hT
  obtain ⟨l, hl⟩ := h.out _ _ _ hf
  exact ⟨l, hl.2 0 (by simp) (by simp [Value.cells])⟩
end
end Go.SX
/- What the arguments of chapter 7's laws read as. -/
namespace Go.SX.Tryz
open Go.Proofs Go.Proofs.Tryz Go.SX.Plain Go.ChangeShapes Go.WideShapes Go.Deep
set_option maxRecDepth 100000
section
variable {H : Type} {encH : TypeId × Value → H} {w : World} {E : Env}
theorem cells_int7 : prog.cellsOf 3 = 1 := by kernel_rfl
theorem cells_str7 : prog.cellsOf 9 = 1 := by kernel_rfl
theorem cells_spn : prog.cellsOf 42 = 4 := by kernel_rfl
theorem cells_spns : prog.cellsOf 22 = 1 := by kernel_rfl
theorem cells_text : prog.cellsOf 24 = 2 := by kernel_rfl
theorem bytes_spn : prog.bytesOf 42 = 32 := by kernel_rfl
theorem reads_int7 : Reads encH prog w E 3 (fun a : Int => [.v (.int .i64 a)]) := Reads.int Tryz.underlying3
theorem reads_spn : Reads encH prog w E 42 C_spn.enc :=
  Reads.map (Reads.struct Tryz.underlying42 cells_spn (.cons rfl cells_int7 reads_int7 (fun _ => rfl) (.cons rfl cells_int7 reads_int7 (fun _ => rfl) (.cons rfl cells_int7 reads_int7 (fun _ => rfl) (.cons rfl cells_int7 reads_int7 (fun _ => rfl) .nil)))))
    (fun x : Int × Int × Int × Int × Unit => (⟨x.1, x.2.1, x.2.2.1, x.2.2.2.1⟩ : Spn)) (fun _ => rfl)
theorem reads_spns (hl : ∀ b, b < w.heap.size → E.lnt b) : Reads encH prog w E 22 (fun l : List Spn => [spR l]) :=
  Reads.slice Tryz.underlying22 C_spn.d cells_spn (by decide) (fun _ => rfl) hl reads_spn
theorem reads_text (hl : ∀ b, b < w.heap.size → E.lnt b) : Reads encH prog w E 24 (fun x : ByteArray × List Spn × Unit => [.v (.string x.1)] ++ ([spR x.2.1] ++ [])) :=
  Reads.struct Tryz.underlying24 cells_text (FReads.cons (en := fun a : ByteArray => [AV.v (.string a)]) (en' := fun x : List Spn × Unit => [spR x.1] ++ []) rfl cells_str7 (Reads.string Tryz.underlying9) (fun _ => rfl)
    (FReads.cons (en := fun l : List Spn => [spR l]) (en' := fun _ : Unit => []) rfl cells_spns (reads_spns hl) (fun _ => rfl) .nil))
theorem text_arg (hl : ∀ b, b < w.heap.size → E.lnt b) {cs : Array Value} {y : DataW H} {p : List MemPlace} (hT : DataW.Trod encH prog w 0 (fun _ => true) true 24 (.agg cs) y p) (hw : (y.weights prog 24).all (· ≤ reachBytes) = true) :
    ∃ (s : ByteArray) (l : List Spn), Rel w E (txAV s l) (.agg cs) ∧ l.length * 32 ≤ 140737488351232 := by
  obtain ⟨fuel, hf⟩ := hT
  have hf : DataW.trod encH prog w 0 (fun _ => true) true fuel 24 cs.toList = some (y, p) := hf
  obtain ⟨⟨s, l, _⟩, hr⟩ := (reads_text (E := E) hl).out _ _ _ hf
  refine ⟨s, l, .agg (by simpa using hr.1) fun i h1 h2 => hr.2 i h1 (by simpa using h2), ?_⟩
  obtain ⟨xs, m, _, hxe, hcl, hxl, hfl⟩ := DataW.trod_struct Tryz.underlying24 hf
  rw [cells_text] at hcl
  have hc1 : 1 < cs.size := by simpa using (show 1 < cs.toList.length by omega)
  have hv := hr.2 1 (by simp) (by rw [hcl]; decide)
  have hv : Rel w E (spR l) cs[1] := by simpa using hv
  have h1 := hfl 1 _ rfl
  have hd : (cs.toList.drop 1).take 1 = [cs[1]] := by
    rw [List.drop_eq_getElem_cons (by rw [hcl]; decide)]
    simp
  have h1 : DataW.trod encH prog w 0 (fun _ => true) true m 22 [cs[1]] = xs[1]? := by
    rw [← hd]
    exact h1
  have hx1 : 1 < xs.length := by rw [hxl]; decide
  rw [List.getElem?_eq_getElem hx1] at h1
  rcases open_slice Tryz.underlying22 h1 with ⟨hc, _⟩ | ⟨a, len, cap, m', n', D, Pl, hc, _, hlc, _, hm, hx, _⟩
  · have hc : cs[1] = .slice none 0 0 := by simpa using hc
    rw [hc] at hv
    cases hv
    simp
  · have hc : cs[1] = .slice (some a) len cap := by simpa using hc
    rw [hc] at hv
    have hlen : l.length ≤ len := by
      cases hv with
      | roNil => simp
      | ro => exact Nat.le_refl _
    have hy : y = .agg (xs.map (·.1)) := congrArg Prod.fst hxe
    have hmem : ((((List.range len).map D).length + ((List.range (m' - len)).map fun j => D (len + j)).length) * prog.bytesOf 42) ∈ y.weights prog 24 := by
      rw [hy]
      simp only [DataW.weights, Tryz.underlying24]
      refine DataW.weights_mem_each (j := 1) (t := 22) (d := xs[1].1) rfl (by simp [hx1]) _ ?_
      rw [hx]
      simp [DataW.weights, Tryz.underlying22]
    have := List.all_eq_true.1 hw _ hmem
    rw [bytes_spn] at this
    simp [reachBytes] at this
    omega
end
end Go.SX.Tryz
