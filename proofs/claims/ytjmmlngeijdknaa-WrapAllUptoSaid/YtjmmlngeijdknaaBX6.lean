/- A verified symbolic executor for Go code in the model, contracts and plain laws that the proofs lean on, part 6 of 7. -/
import Derived.Test.YtjmmlngeijdknaaBX5
import Derived.Deep.Fields
set_option linter.unusedVariables false
set_option linter.unusedSimpArgs false
/- Contract of the document's line. -/
namespace Go.SX.Try
open Go.Proofs Go.Proofs.Try Go.SX.Plain
set_option maxRecDepth 100000
set_option maxHeartbeats 0
set_option linter.unusedSimpArgs false
theorem q_line : fact 52 f52 := ⟨by kernel_rfl, rfl, by kernel_rfl⟩
theorem con_line : Con prog 52 (fun ((l, frm, to) : List Part × Int × Int) => [.ro 4 C_pc.enc C_pc.d (l.map pcOf) none, .v (.int .i64 frm), .v (.int .i64 to)])
    (fun (l, frm, to) => .tup [.v (.int .i64 (frm + (trimN (segOf l frm.toNat to.toNat) : Nat))), .v (.int .i64 (cellsL (segOf l frm.toNat to.toNat)))])
    (fun (l, frm, to) => (0 ≤ frm ∧ frm ≤ to ∧ to ≤ l.length ∧ l.length ≤ 100000) ∧ (∀ p ∈ l, Plain.Told p) ∧ Small l) := by
  refine Con.of (by kernel_rfl) T_ok CdsOK.nil (.con con_ends (.con con_rblank .nil)) 3 [3] q_line.1 q_line.2.1 q_line.2.2 (fun _ => rfl) fun i hi => ?_
  obtain ⟨l, frm, to⟩ := i
  obtain ⟨⟨h0, h1, h2, h3⟩, hT, hS⟩ := hi
  obtain ⟨frm, rfl⟩ := Int.eq_ofNat_of_zero_le h0
  obtain ⟨to, rfl⟩ := Int.eq_ofNat_of_zero_le (show 0 ≤ to by omega)
  have e1 : ((frm : Int)).toNat = frm := Int.toNat_natCast _
  have e2 : ((to : Int)).toNat = to := Int.toNat_natCast _
  have e3 : ((to : Int) - 1).toNat = to - 1 := by omega
  have hlen : (l.map pcOf).length = l.length := by simp
  have hgd : ∀ j, (l.map pcOf).getD j C_pc.d = pcOf (l.getD j dPart) := fun j => getD_map pcOf l dPart j
  have htd : ∀ j, j < l.length → Plain.Told (l.getD j dPart) := fun j hj => hT _ (getD_memL dPart hj)
  have hst := trim_start (l := l) (frm := frm) (to := to) (by omega) (by omega)
  have hsl := segOf_len (l := l) (frm := frm) (to := to) (by omega)
  have htr := trimN_le (segOf l frm to)
  simp only [e1, e2]
  have hfd : endsP { r := ((l.map pcOf).getD ((to : Int) - 1).toNat C_pc.d).r, frm := ((l.map pcOf).getD ((to : Int) - 1).toNat C_pc.d).frm, to := ((l.map pcOf).getD ((to : Int) - 1).toNat C_pc.d).to, cells := ((l.map pcOf).getD ((to : Int) - 1).toNat C_pc.d).cells } = endsP (pcOf (l.getD (to - 1) dPart)) := by rw [e3, hgd]
  have hfe : frm < to → (endsP (pcOf (l.getD (to - 1) dPart)) = (l.getD (to - 1) dPart).fin) := fun h => (htd _ (by omega)).fin.symm
  repeat' (first | (with_reducible refine ⟨⟨_, _, _, _⟩, ⟨(.cons (.agg (.cons (.v _) (.cons (.v _) (.cons (.v _) (.cons (.v _) .nil))))) .nil), ?_⟩, ?_⟩) | (with_reducible exact fun h => h) | (with_reducible refine ExE.row (by with_unfolding_all rfl) ?_) | (with_reducible refine And.intro ?_ ?_) | ((with_reducible intro hq); first | (exact bne1 hq (by with_reducible assumption)) | (exact bne1 (by with_reducible assumption) hq) | ((simp only [*, Bool.and_true, Bool.true_and, Bool.and_false, Bool.false_and, Bool.or_true, Bool.true_or, Bool.or_false, Bool.false_or, Bool.not_true, Bool.not_false, Bool.true_eq_false, Bool.false_eq_true, cond_true, cond_false, Bool.cond_self, reduceCtorEq] at hq); done) | (revert hq; with_reducible intro _)) | (with_reducible exact True.intro) | (with_reducible rfl) | ((with_reducible refine WkX.chk ?_); (conv => whnf)) | ((with_reducible refine Wk.chk ?_); (conv => whnf)) | (with_reducible refine EntLe.row ?_) | (with_reducible exact LeN.ro rfl) | (with_reducible exact LeN.rptr) | ((with_reducible refine LeL.chk ?_); (conv => whnf)) | ((with_reducible show LeO _ _); (first | (refine LeO.ro ?_) | (refine LeO.roCap ?_) | (refine LeO.nil ?_ (fun _ => rfl)))) | ((with_reducible show LeR _ _ _); (first | (refine LeR.own rfl rfl rfl ?_) | (refine LeR.view rfl rfl rfl ?_ ?_) | (refine LeR.ro ?_) | (refine LeR.roCap ?_) | (refine LeR.nil ?_ (fun _ => rfl)))) | ((with_reducible refine LeF.chk ?_); (conv => whnf)) | (with_reducible assumption) | ((with_reducible refine Run.mk ?_); (conv => whnf)) | ((with_reducible show drawOK _ _ = true); kernel_rfl) | ((with_reducible show drawOK2 _ _ = true); kernel_rfl) | ((with_reducible show drawOK3 _ _ = true); kernel_rfl))
  refine joinI Int [] (fun t => [(2, .v (.int .i64 t))]) (fun _ => []) (fun t => t = if frm < to ∧ (l.getD (to - 1) dPart).fin = true then (to : Int) - 1 else to) ?_ fun t ht => ?_
  · repeat' (first | (with_reducible refine ⟨⟨_, _, _, _⟩, ⟨(.cons (.agg (.cons (.v _) (.cons (.v _) (.cons (.v _) (.cons (.v _) .nil))))) .nil), ?_⟩, ?_⟩) | (with_reducible refine ex_eq ?_) | (with_reducible exact fun h => h) | (with_reducible refine ExE.row (by with_unfolding_all rfl) ?_) | (with_reducible refine And.intro ?_ ?_) | ((with_reducible intro hq); first | (exact bne1 hq (by with_reducible assumption)) | (exact bne1 (by with_reducible assumption) hq) | ((simp only [*, Bool.and_true, Bool.true_and, Bool.and_false, Bool.false_and, Bool.or_true, Bool.true_or, Bool.or_false, Bool.false_or, Bool.not_true, Bool.not_false, Bool.true_eq_false, Bool.false_eq_true, cond_true, cond_false, Bool.cond_self, reduceCtorEq] at hq); done) | (revert hq; with_reducible intro _)) | (with_reducible exact True.intro) | (with_reducible rfl) | ((with_reducible refine WkX.chk ?_); (conv => whnf)) | ((with_reducible refine Wk.chk ?_); (conv => whnf)) | (with_reducible refine EntLe.row ?_) | (with_reducible exact LeN.ro rfl) | (with_reducible exact LeN.rptr) | ((with_reducible refine LeL.chk ?_); (conv => whnf)) | ((with_reducible show LeO _ _); (first | (refine LeO.ro ?_) | (refine LeO.roCap ?_) | (refine LeO.nil ?_ (fun _ => rfl)))) | ((with_reducible show LeR _ _ _); (first | (refine LeR.own rfl rfl rfl ?_) | (refine LeR.view rfl rfl rfl ?_ ?_) | (refine LeR.ro ?_) | (refine LeR.roCap ?_) | (refine LeR.nil ?_ (fun _ => rfl)))) | ((with_reducible refine LeF.chk ?_); (conv => whnf)) | (with_reducible assumption) | ((with_reducible refine Run.mk ?_); (conv => whnf)) | ((with_reducible show drawOK _ _ = true); kernel_rfl) | ((with_reducible show drawOK2 _ _ = true); kernel_rfl) | ((with_reducible show drawOK3 _ _ = true); kernel_rfl))
    all_goals (try simp only [hfd, hlen, decide_eq_true_eq, decide_eq_false_iff_not, Bool.and_eq_true, Bool.and_eq_false_iff] at *)
    all_goals first
      | omega
      | (apply Fits.i64 <;> omega)
      | (split <;> rename_i hz <;> first | rfl | (exfalso; have hx := hfe (by omega); simp_all; omega) | (exfalso; have hx := hfe (by omega); simp_all; done))
      | trace_state
  · repeat' (first | (with_reducible exact fun h => h) | (with_reducible refine ExE.row (by with_unfolding_all rfl) ?_) | (with_reducible refine And.intro ?_ ?_) | ((with_reducible intro hq); first | (exact bne1 hq (by with_reducible assumption)) | (exact bne1 (by with_reducible assumption) hq) | ((simp only [*, Bool.and_true, Bool.true_and, Bool.and_false, Bool.false_and, Bool.or_true, Bool.true_or, Bool.or_false, Bool.false_or, Bool.not_true, Bool.not_false, Bool.true_eq_false, Bool.false_eq_true, cond_true, cond_false, Bool.cond_self, reduceCtorEq] at hq); done) | (revert hq; with_reducible intro _)) | (with_reducible exact True.intro) | (with_reducible rfl) | ((with_reducible refine WkX.chk ?_); (conv => whnf)) | ((with_reducible refine Wk.chk ?_); (conv => whnf)) | (with_reducible refine EntLe.row ?_) | (with_reducible exact LeN.ro rfl) | (with_reducible exact LeN.rptr) | ((with_reducible refine LeL.chk ?_); (conv => whnf)) | ((with_reducible show LeO _ _); (first | (refine LeO.ro ?_) | (refine LeO.roCap ?_) | (refine LeO.nil ?_ (fun _ => rfl)))) | ((with_reducible show LeR _ _ _); (first | (refine LeR.own rfl rfl rfl ?_) | (refine LeR.view rfl rfl rfl ?_ ?_) | (refine LeR.ro ?_) | (refine LeR.roCap ?_) | (refine LeR.nil ?_ (fun _ => rfl)))) | ((with_reducible refine LeF.chk ?_); (conv => whnf)) | (with_reducible assumption) | ((with_reducible refine Run.mk ?_); (conv => whnf)) | ((with_reducible show drawOK _ _ = true); kernel_rfl) | ((with_reducible show drawOK2 _ _ = true); kernel_rfl) | ((with_reducible show drawOK3 _ _ = true); kernel_rfl))
    refine loopI Int [] (fun n => [(2, .v (.int .i64 n))]) (fun _ => []) (fun n => ((frm : Int) ≤ n ∧ n ≤ to) ∧ trimGo (segOf l frm to) (n.toNat - frm) = trimN (segOf l frm to)) (fun n => n.toNat) t ⟨?_, ?_⟩ (Wk.chk ?_) fun n hn => ?_
    · subst ht
      split <;> omega
    · subst ht
      rw [hst]
      split
      · rw [e3]
      · rw [e2]
    · ((conv => whnf); repeat' (first | (with_reducible exact fun h => h) | (with_reducible refine ExE.row (by with_unfolding_all rfl) ?_) | (with_reducible refine And.intro ?_ ?_) | ((with_reducible intro hq); first | (exact bne1 hq (by with_reducible assumption)) | (exact bne1 (by with_reducible assumption) hq) | ((simp only [*, Bool.and_true, Bool.true_and, Bool.and_false, Bool.false_and, Bool.or_true, Bool.true_or, Bool.or_false, Bool.false_or, Bool.not_true, Bool.not_false, Bool.true_eq_false, Bool.false_eq_true, cond_true, cond_false, Bool.cond_self, reduceCtorEq] at hq); done) | (revert hq; with_reducible intro _)) | (with_reducible exact True.intro) | (with_reducible rfl) | ((with_reducible refine WkX.chk ?_); (conv => whnf)) | ((with_reducible refine Wk.chk ?_); (conv => whnf)) | (with_reducible refine EntLe.row ?_) | (with_reducible exact LeN.ro rfl) | (with_reducible exact LeN.rptr) | ((with_reducible refine LeL.chk ?_); (conv => whnf)) | ((with_reducible show LeO _ _); (first | (refine LeO.ro ?_) | (refine LeO.roCap ?_) | (refine LeO.nil ?_ (fun _ => rfl)))) | ((with_reducible show LeR _ _ _); (first | (refine LeR.own rfl rfl rfl ?_) | (refine LeR.view rfl rfl rfl ?_ ?_) | (refine LeR.ro ?_) | (refine LeR.roCap ?_) | (refine LeR.nil ?_ (fun _ => rfl)))) | ((with_reducible refine LeF.chk ?_); (conv => whnf)) | (with_reducible assumption) | ((with_reducible refine Run.mk ?_); (conv => whnf)) | ((with_reducible show drawOK _ _ = true); kernel_rfl) | ((with_reducible show drawOK2 _ _ = true); kernel_rfl) | ((with_reducible show drawOK3 _ _ = true); kernel_rfl)))
      all_goals rfl
    obtain ⟨⟨hn1, hn2⟩, hn3⟩ := hn
    obtain ⟨n, rfl⟩ := Int.eq_ofNat_of_zero_le (show 0 ≤ n by omega)
    have e4 : ((n : Int)).toNat = n := Int.toNat_natCast _
    have e5 : ((n : Int) - 1).toNat = n - 1 := by omega
    have hbl : blankP { r := ((l.map pcOf).getD ((n : Int) - 1).toNat C_pc.d).r, frm := ((l.map pcOf).getD ((n : Int) - 1).toNat C_pc.d).frm, to := ((l.map pcOf).getD ((n : Int) - 1).toNat C_pc.d).to, cells := ((l.map pcOf).getD ((n : Int) - 1).toNat C_pc.d).cells } = blankP (pcOf (l.getD (n - 1) dPart)) := by rw [e5, hgd]
    have hbe : frm < n → (blankP (pcOf (l.getD (n - 1) dPart)) = (l.getD (n - 1) dPart).blank) := fun h => (htd _ (by omega)).blank.symm
    have hstp : frm < n → _ := fun h => trim_step (l := l) (frm := frm) (to := to) (t := n) h (by omega)
    rw [e4] at hn3
    by_cases hgo : frm < n ∧ (l.getD (n - 1) dPart).blank = true
    · have hlt : decide ((frm : Int) < (n : Int)) = true := decide_eq_true (by omega)
      have hs := hstp hgo.1
      rw [if_pos hgo.2, hn3] at hs
      have hbt : blankP { r := ((l.map pcOf).getD ((n : Int) - 1).toNat C_pc.d).r, frm := ((l.map pcOf).getD ((n : Int) - 1).toNat C_pc.d).frm, to := ((l.map pcOf).getD ((n : Int) - 1).toNat C_pc.d).to, cells := ((l.map pcOf).getD ((n : Int) - 1).toNat C_pc.d).cells } = true := by rw [hbl, hbe hgo.1]; exact hgo.2
      repeat' (first | (with_reducible refine ⟨⟨_, _, _, _⟩, ⟨(.cons (.agg (.cons (.v _) (.cons (.v _) (.cons (.v _) (.cons (.v _) .nil))))) .nil), ?_⟩, ?_⟩) | (with_reducible refine ex_of (α := Int) ((n : Int) - 1) ⟨⟨⟨?_, ?_⟩, ?_⟩, ?_⟩ ?_) | (with_reducible exact fun h => h) | (with_reducible refine ExE.row (by with_unfolding_all rfl) ?_) | (with_reducible refine And.intro ?_ ?_) | ((with_reducible intro hq); first | (exact bne1 hq (by with_reducible assumption)) | (exact bne1 (by with_reducible assumption) hq) | ((simp only [*, Bool.and_true, Bool.true_and, Bool.and_false, Bool.false_and, Bool.or_true, Bool.true_or, Bool.or_false, Bool.false_or, Bool.not_true, Bool.not_false, Bool.true_eq_false, Bool.false_eq_true, cond_true, cond_false, Bool.cond_self, reduceCtorEq] at hq); done) | (revert hq; with_reducible intro _)) | (with_reducible exact True.intro) | (with_reducible rfl) | ((with_reducible refine WkX.chk ?_); (conv => whnf)) | ((with_reducible refine Wk.chk ?_); (conv => whnf)) | (with_reducible refine EntLe.row ?_) | (with_reducible exact LeN.ro rfl) | (with_reducible exact LeN.rptr) | ((with_reducible refine LeL.chk ?_); (conv => whnf)) | ((with_reducible show LeO _ _); (first | (refine LeO.ro ?_) | (refine LeO.roCap ?_) | (refine LeO.nil ?_ (fun _ => rfl)))) | ((with_reducible show LeR _ _ _); (first | (refine LeR.own rfl rfl rfl ?_) | (refine LeR.view rfl rfl rfl ?_ ?_) | (refine LeR.ro ?_) | (refine LeR.roCap ?_) | (refine LeR.nil ?_ (fun _ => rfl)))) | ((with_reducible refine LeF.chk ?_); (conv => whnf)) | (with_reducible assumption) | ((with_reducible refine Run.mk ?_); (conv => whnf)) | ((with_reducible show drawOK _ _ = true); kernel_rfl) | ((with_reducible show drawOK2 _ _ = true); kernel_rfl) | ((with_reducible show drawOK3 _ _ = true); kernel_rfl))
      all_goals first
        | omega
        | (simp only [e4, e5, hlen] at *; first | omega | (apply Fits.i64 <;> omega) | exact hs.symm)
        | (exfalso; simp_all; done)
        | trace_state
    · have hfin : n - frm = trimN (segOf l frm to) := by
        by_cases hfn : frm < n
        · have hs := hstp hfn
          rw [if_neg (fun hb => hgo ⟨hfn, hb⟩)] at hs
          omega
        · have : n - frm = 0 := by omega
          rw [this] at hn3 ⊢
          exact hn3
      have hgoe : (decide ((frm : Int) < (n : Int)) && blankP { r := ((l.map pcOf).getD ((n : Int) - 1).toNat C_pc.d).r, frm := ((l.map pcOf).getD ((n : Int) - 1).toNat C_pc.d).frm, to := ((l.map pcOf).getD ((n : Int) - 1).toNat C_pc.d).to, cells := ((l.map pcOf).getD ((n : Int) - 1).toNat C_pc.d).cells }) = true → False := fun h => by
        rw [hbl] at h
        simp only [Bool.and_eq_true, decide_eq_true_eq] at h
        have h7 : frm < n := by omega
        rw [hbe h7] at h
        exact hgo ⟨h7, h.2⟩
      clear hn3 hstp hst
      repeat' (first | (with_reducible refine ⟨⟨_, _, _, _⟩, ⟨(.cons (.agg (.cons (.v _) (.cons (.v _) (.cons (.v _) (.cons (.v _) .nil))))) .nil), ?_⟩, ?_⟩) | (with_reducible refine ex_of (α := Int) ((n : Int) - 1) ⟨⟨⟨?_, ?_⟩, ?_⟩, ?_⟩ ?_) | (with_reducible exact fun h => h) | (with_reducible refine ExE.row (by with_unfolding_all rfl) ?_) | (with_reducible refine And.intro ?_ ?_) | ((with_reducible intro hq); first | (exact bne1 hq (by with_reducible assumption)) | (exact bne1 (by with_reducible assumption) hq) | ((simp only [*, Bool.and_true, Bool.true_and, Bool.and_false, Bool.false_and, Bool.or_true, Bool.true_or, Bool.or_false, Bool.false_or, Bool.not_true, Bool.not_false, Bool.true_eq_false, Bool.false_eq_true, cond_true, cond_false, Bool.cond_self, reduceCtorEq] at hq); done) | (revert hq; with_reducible intro _)) | (with_reducible exact True.intro) | (with_reducible rfl) | ((with_reducible refine WkX.chk ?_); (conv => whnf)) | ((with_reducible refine Wk.chk ?_); (conv => whnf)) | (with_reducible refine EntLe.row ?_) | (with_reducible exact LeN.ro rfl) | (with_reducible exact LeN.rptr) | ((with_reducible refine LeL.chk ?_); (conv => whnf)) | ((with_reducible show LeO _ _); (first | (refine LeO.ro ?_) | (refine LeO.roCap ?_) | (refine LeO.nil ?_ (fun _ => rfl)))) | ((with_reducible show LeR _ _ _); (first | (refine LeR.own rfl rfl rfl ?_) | (refine LeR.view rfl rfl rfl ?_ ?_) | (refine LeR.ro ?_) | (refine LeR.roCap ?_) | (refine LeR.nil ?_ (fun _ => rfl)))) | ((with_reducible refine LeF.chk ?_); (conv => whnf)) | (with_reducible assumption) | ((with_reducible refine Run.mk ?_); (conv => whnf)) | ((with_reducible show drawOK _ _ = true); kernel_rfl) | ((with_reducible show drawOK2 _ _ = true); kernel_rfl) | ((with_reducible show drawOK3 _ _ = true); kernel_rfl))
      any_goals (first | exact (hgoe (by assumption)).elim | omega | (simp only [decide_eq_true_eq, hlen, e5] at *; first | omega | (apply Fits.i64 <;> omega)))
      all_goals
        have hcl : cellsL (segOf l frm to) = sumC (segOf l frm to) (n - frm) := by rw [hfin]; exact cellsL_trim _
        have hbd := sumC_bd (l := segOf l frm to) (by unfold segOf; exact (hS.drop _).take _)
        refine loopI Nat [] (fun k => [(9, .v (.int .i64 ((frm + k : Nat) : Int))), (8, .v (.int .i64 (sumC (segOf l frm to) k)))]) (fun _ => []) (fun k => k ≤ n - frm) (fun k => n - frm - k) 0 (Nat.zero_le _) (Wk.chk ?_) fun k hk => ?_
        · ((conv => whnf); repeat' (first | (with_reducible exact fun h => h) | (with_reducible refine ExE.row (by with_unfolding_all rfl) ?_) | (with_reducible refine And.intro ?_ ?_) | ((with_reducible intro hq); first | (exact bne1 hq (by with_reducible assumption)) | (exact bne1 (by with_reducible assumption) hq) | ((simp only [*, Bool.and_true, Bool.true_and, Bool.and_false, Bool.false_and, Bool.or_true, Bool.true_or, Bool.or_false, Bool.false_or, Bool.not_true, Bool.not_false, Bool.true_eq_false, Bool.false_eq_true, cond_true, cond_false, Bool.cond_self, reduceCtorEq] at hq); done) | (revert hq; with_reducible intro _)) | (with_reducible exact True.intro) | (with_reducible rfl) | ((with_reducible refine WkX.chk ?_); (conv => whnf)) | ((with_reducible refine Wk.chk ?_); (conv => whnf)) | (with_reducible refine EntLe.row ?_) | (with_reducible exact LeN.ro rfl) | (with_reducible exact LeN.rptr) | ((with_reducible refine LeL.chk ?_); (conv => whnf)) | ((with_reducible show LeO _ _); (first | (refine LeO.ro ?_) | (refine LeO.roCap ?_) | (refine LeO.nil ?_ (fun _ => rfl)))) | ((with_reducible show LeR _ _ _); (first | (refine LeR.own rfl rfl rfl ?_) | (refine LeR.view rfl rfl rfl ?_ ?_) | (refine LeR.ro ?_) | (refine LeR.roCap ?_) | (refine LeR.nil ?_ (fun _ => rfl)))) | ((with_reducible refine LeF.chk ?_); (conv => whnf)) | (with_reducible assumption) | ((with_reducible refine Run.mk ?_); (conv => whnf)) | ((with_reducible show drawOK _ _ = true); kernel_rfl) | ((with_reducible show drawOK2 _ _ = true); kernel_rfl) | ((with_reducible show drawOK3 _ _ = true); kernel_rfl)))
          all_goals rfl
        have hb1 := hbd k
        have hb2 := hbd (k + 1)
        have e6 : ((frm + k : Nat) : Int).toNat = frm + k := Int.toNat_natCast _
        have hsu := fun h => sumC_succ (l := segOf l frm to) (k := k) h
        have hsg := fun h => segOf_get (l := l) (frm := frm) (to := to) (j := k) h
        have hpc : ((l.map pcOf).getD (frm + k) C_pc.d).cells = (l.getD (frm + k) dPart).c.cells := by rw [hgd]; rfl
        repeat' (first | (with_reducible refine ex_of (α := Nat) (k + 1) ⟨?_, ?_⟩ ?_) | (with_reducible exact fun h => h) | (with_reducible refine ExE.row (by with_unfolding_all rfl) ?_) | (with_reducible refine And.intro ?_ ?_) | ((with_reducible intro hq); first | (exact bne1 hq (by with_reducible assumption)) | (exact bne1 (by with_reducible assumption) hq) | ((simp only [*, Bool.and_true, Bool.true_and, Bool.and_false, Bool.false_and, Bool.or_true, Bool.true_or, Bool.or_false, Bool.false_or, Bool.not_true, Bool.not_false, Bool.true_eq_false, Bool.false_eq_true, cond_true, cond_false, Bool.cond_self, reduceCtorEq] at hq); done) | (revert hq; with_reducible intro _)) | (with_reducible exact True.intro) | (with_reducible rfl) | ((with_reducible refine WkX.chk ?_); (conv => whnf)) | ((with_reducible refine Wk.chk ?_); (conv => whnf)) | (with_reducible refine EntLe.row ?_) | (with_reducible exact LeN.ro rfl) | (with_reducible exact LeN.rptr) | ((with_reducible refine LeL.chk ?_); (conv => whnf)) | ((with_reducible show LeO _ _); (first | (refine LeO.ro ?_) | (refine LeO.roCap ?_) | (refine LeO.nil ?_ (fun _ => rfl)))) | ((with_reducible show LeR _ _ _); (first | (refine LeR.own rfl rfl rfl ?_) | (refine LeR.view rfl rfl rfl ?_ ?_) | (refine LeR.ro ?_) | (refine LeR.roCap ?_) | (refine LeR.nil ?_ (fun _ => rfl)))) | ((with_reducible refine LeF.chk ?_); (conv => whnf)) | (with_reducible assumption) | ((with_reducible refine Run.mk ?_); (conv => whnf)) | ((with_reducible show drawOK _ _ = true); kernel_rfl) | ((with_reducible show drawOK2 _ _ = true); kernel_rfl) | ((with_reducible show drawOK3 _ _ = true); kernel_rfl))
        all_goals (try simp only [e6, hlen, hpc, decide_eq_true_eq, decide_eq_false_iff_not] at *)
        all_goals first
          | omega
          | (apply Fits.i64 <;> omega)
          | (rw [hsu (by omega), hsg (by omega)]; done)
          | (rw [hsu (by omega), hsg (by omega)] at hb2; apply Fits.i64 <;> omega)
          | (rw [hcl, show k = n - frm by omega]; done)
          | trace_state
end Go.SX.Try
/- Contracts of wrap's lines, trimmed, cells. -/
namespace Go.SX.Try
open Go.Proofs Go.Proofs.Try Go.SX.Plain
set_option maxRecDepth 100000
set_option maxHeartbeats 0
set_option linter.unusedSimpArgs false
theorem q_lines : fact 49 f49 := ⟨by kernel_rfl, rfl, by kernel_rfl⟩
theorem q_trimmed : fact 50 f50 := ⟨by kernel_rfl, rfl, by kernel_rfl⟩
theorem q_cells10 : fact 54 f54 := ⟨by kernel_rfl, rfl, by kernel_rfl⟩
def C_parts : Cdc (List Part) where
  size := 1
  enc l := [.ro 12 C_part.enc C_part.d l none]
  dec _ := []
  d := []
  sl := true
def D_lin : Cds := [(72, ⟨List Part, C_parts⟩)]
theorem D_lin_ok : CdsOK T D_lin := .cons ⟨fun _ => rfl, by decide, _, rfl, rfl, by decide⟩ .nil
theorem con_lines : Con prog 49 (fun ((s, way) : ByteArray × List (Int × Int)) => [.v (.string s), .ro 2 C_brk.enc C_brk.d way none true])
    (fun (s, way) => .tup [.ro 1 C_parts.enc C_parts.d (linesL s way) none, .sb (linesB s way)]) (fun (s, _) => s.size ≤ 100000) := by
  refine Con.of (by kernel_rfl) T_ok D_lin_ok (.con con_parts (.con con_places .nil)) 3 [] q_lines.1 q_lines.2.1 q_lines.2.2 (fun _ => rfl) fun i hi => ?_
  obtain ⟨s, way⟩ := i
  have hsz : s.size ≤ 100000 := hi
  have hpl := parts_len s
  repeat' (first | (with_reducible refine ⟨_, ⟨(.cons (.v _) .nil), ?_⟩, ?_⟩) | (with_reducible refine ⟨_, ⟨(.cons (.ro _ _ _ _ _) .nil), ?_⟩, ?_⟩) | (with_reducible exact fun h => h) | (with_reducible refine ExE.row (by with_unfolding_all rfl) ?_) | (with_reducible refine And.intro ?_ ?_) | ((with_reducible intro hq); first | (exact bne1 hq (by with_reducible assumption)) | (exact bne1 (by with_reducible assumption) hq) | ((simp only [*, Bool.and_true, Bool.true_and, Bool.and_false, Bool.false_and, Bool.or_true, Bool.true_or, Bool.or_false, Bool.false_or, Bool.not_true, Bool.not_false, Bool.true_eq_false, Bool.false_eq_true, cond_true, cond_false, Bool.cond_self, reduceCtorEq] at hq); done) | (revert hq; with_reducible intro _)) | (with_reducible exact True.intro) | (with_reducible rfl) | ((with_reducible refine WkX.chk ?_); (conv => whnf)) | ((with_reducible refine Wk.chk ?_); (conv => whnf)) | (with_reducible refine EntLe.row ?_) | (with_reducible exact LeN.ro rfl) | (with_reducible exact LeN.rptr) | ((with_reducible refine LeL.chk ?_); (conv => whnf)) | ((with_reducible show LeO _ _); (first | (refine LeO.ro ?_) | (refine LeO.roCap ?_) | (refine LeO.nil ?_ (fun _ => rfl)))) | ((with_reducible show LeR _ _ _); (first | (refine LeR.own rfl rfl rfl ?_) | (refine LeR.view rfl rfl rfl ?_ ?_) | (refine LeR.ro ?_) | (refine LeR.roCap ?_) | (refine LeR.nil ?_ (fun _ => rfl)))) | ((with_reducible refine LeF.chk ?_); (conv => whnf)) | (with_reducible assumption) | ((with_reducible refine Run.mk ?_); (conv => whnf)) | ((with_reducible show drawOK _ _ = true); kernel_rfl) | ((with_reducible show drawOK2 _ _ = true); kernel_rfl) | ((with_reducible show drawOK3 _ _ = true); kernel_rfl))
  any_goals (dsimp only; omega)
  have hLL : linesL s way = ((lnW (Plain.parts s) way).map (·.1)).getD [] := rfl
  have hLB : linesB s way = ((lnW (Plain.parts s) way).map (·.2)).getD false := rfl
  revert hpl hLL hLB
  generalize Plain.parts s = l
  intro hpl hLL hLB
  have hW : lnW l way = lnL l (plcs l (l.length + 1)) way 0 := rfl
  have hat : (atL l (l.length + 1)).length = (plcs l (l.length + 1)).length := atL_length _ _
  have hout : (outL l (l.length + 1)).length = (plcs l (l.length + 1)).length := outL_length _ _
  have hpn := plcs_len l (l.length + 1)
  have hat2 : ∀ i, (atL l (l.length + 1)).getD i 0 = ((plcs l (l.length + 1)).getD i 0 : Nat) := fun i => atL_getD _ _ i
  have hout2 : ∀ i, i < (plcs l (l.length + 1)).length → (outL l (l.length + 1)).getD i (0, 0) = brkAt l ((plcs l (l.length + 1)).getD i 0) := fun i hi => outL_getD hi
  have hple : ∀ i, i < (plcs l (l.length + 1)).length → (plcs l (l.length + 1)).getD i 0 < l.length + 1 := fun i hi => (plcs_le hi).1
  have hso : ∀ i j, i < j → j < (plcs l (l.length + 1)).length → (plcs l (l.length + 1)).getD i 0 < (plcs l (l.length + 1)).getD j 0 := fun i j h1 h2 => sorted_lt (plcs_sorted _ _) h1 h2
  revert hW hat hout hpn hat2 hout2 hple hso
  generalize plcs l (l.length + 1) = P
  generalize atL l (l.length + 1) = AT
  generalize outL l (l.length + 1) = OUT
  intro hW hat hout hpn hat2 hout2 hple hso
  have e1 : C_brk.d = (0, 0) := rfl
  have e2 : C_int.d = 0 := rfl
  refine loopI (Int × List (List Part) × Int × Int) [] (fun | (k, o, frm, n) => [(23, .v (.int .i64 k)), (9, .own 1), (10, .v (.int .i64 frm)), (11, .v (.int .i64 n))]) (fun | (_, o, _, _) => [(1, .row C_parts o 72 none)])
    (fun | (k, o, frm, n) => (0 ≤ k ∧ k ≤ P.length ∧ 0 ≤ n ∧ n ≤ way.length ∧ n ≤ k ∧ (o.length : Int) = n ∧ 0 ≤ frm ∧ frm ≤ l.length ∧ ∀ j, k.toNat ≤ j → j < P.length → frm ≤ P.getD j 0) ∧ (lnL l (P.drop k.toNat) (way.drop n.toNat) frm.toNat).map (fun x => (o ++ x.1, x.2)) = lnW l way)
    (fun | (k, _, _, _) => (P.length - k).toNat) (0, [], 0, 0) ⟨⟨by omega, by omega, by omega, by omega, by omega, rfl, by omega, by omega, fun _ _ _ => by omega⟩, by rw [hW]; simp⟩ (Wk.chk ?_) fun i hi => ?_
  · ((conv => whnf); repeat' (first | (with_reducible exact fun h => h) | (with_reducible refine ExE.row (by with_unfolding_all rfl) ?_) | (with_reducible refine And.intro ?_ ?_) | ((with_reducible intro hq); first | (exact bne1 hq (by with_reducible assumption)) | (exact bne1 (by with_reducible assumption) hq) | ((simp only [*, Bool.and_true, Bool.true_and, Bool.and_false, Bool.false_and, Bool.or_true, Bool.true_or, Bool.or_false, Bool.false_or, Bool.not_true, Bool.not_false, Bool.true_eq_false, Bool.false_eq_true, cond_true, cond_false, Bool.cond_self, reduceCtorEq] at hq); done) | (revert hq; with_reducible intro _)) | (with_reducible exact True.intro) | (with_reducible rfl) | ((with_reducible refine WkX.chk ?_); (conv => whnf)) | ((with_reducible refine Wk.chk ?_); (conv => whnf)) | (with_reducible refine EntLe.row ?_) | (with_reducible exact LeN.ro rfl) | (with_reducible exact LeN.rptr) | ((with_reducible refine LeL.chk ?_); (conv => whnf)) | ((with_reducible show LeO _ _); (first | (refine LeO.ro ?_) | (refine LeO.roCap ?_) | (refine LeO.nil ?_ (fun _ => rfl)))) | ((with_reducible show LeR _ _ _); (first | (refine LeR.own rfl rfl rfl ?_) | (refine LeR.view rfl rfl rfl ?_ ?_) | (refine LeR.ro ?_) | (refine LeR.roCap ?_) | (refine LeR.nil ?_ (fun _ => rfl)))) | ((with_reducible refine LeF.chk ?_); (conv => whnf)) | (with_reducible assumption) | ((with_reducible refine Run.mk ?_); (conv => whnf)) | ((with_reducible show drawOK _ _ = true); kernel_rfl) | ((with_reducible show drawOK2 _ _ = true); kernel_rfl) | ((with_reducible show drawOK3 _ _ = true); kernel_rfl)))
    all_goals rfl
  obtain ⟨k, o, frm, n⟩ := i
  obtain ⟨⟨hk0, hk, hn0, hn, hnk, ho, hf0, hf, hfj⟩, hI⟩ := hi
  obtain ⟨k, rfl⟩ := Int.eq_ofNat_of_zero_le hk0
  obtain ⟨n, rfl⟩ := Int.eq_ofNat_of_zero_le hn0
  obtain ⟨frm, rfl⟩ := Int.eq_ofNat_of_zero_le hf0
  have e3 : ((k : Int)).toNat = k := Int.toNat_natCast _
  have e4 : ((n : Int)).toNat = n := Int.toNat_natCast _
  have e5 : ((frm : Int)).toNat = frm := Int.toNat_natCast _
  have e6 : ((k : Int) + 1).toNat = k + 1 := by omega
  have e7 : ((n : Int) + 1).toNat = n + 1 := by omega
  have e8 : ((P.getD k 0 : Nat) : Int).toNat = P.getD k 0 := Int.toNat_natCast _
  simp only [e3, e4, e5] at hI hfj
  have hPk := hple k
  have hAk := hat2 k
  have hOk := hout2 k
  have hfk := hfj k (Nat.le_refl _)
  have hfn : k < P.length → ∀ j, k + 1 ≤ j → j < P.length → P.getD k 0 < P.getD j 0 := fun _ j h1 h2 => hso k j (by omega) h2
  have sy : k < P.length → n < way.length → way.getD n (0, 0) = brkAt l (P.getD k 0) → (lnL l (P.drop (k + 1)) (way.drop (n + 1)) (P.getD k 0)).map (fun x => ((o ++ [(l.drop frm).take (P.getD k 0 - frm)]) ++ x.1, x.2)) = lnW l way := fun h1 h2 h3 => by
    rw [lnL_yes h1 h2 h3] at hI
    rw [← hI, Option.map_map]
    congr 1
    funext x
    simp
  have sn : k < P.length → ¬ (n < way.length ∧ way.getD n (0, 0) = brkAt l (P.getD k 0)) → ¬ (brkAt l (P.getD k 0)).2 = 1 → (lnL l (P.drop (k + 1)) (way.drop n) frm).map (fun x => (o ++ x.1, x.2)) = lnW l way := fun h1 h2 h3 => by
    rw [lnL_on h1 h2 h3] at hI
    exact hI
  have sh : k < P.length → ¬ (n < way.length ∧ way.getD n (0, 0) = brkAt l (P.getD k 0)) → (brkAt l (P.getD k 0)).2 = 1 → lnW l way = none := fun h1 h2 h3 => by
    rw [lnL_hard h1 h2 h3] at hI
    rw [← hI]
    rfl
  have se : ¬ k < P.length → lnW l way = some (o ++ [l.drop frm], decide (n = way.length)) := fun h1 => by
    rw [lnL_end h1 (by omega)] at hI
    exact hI.symm
  have hno : ∀ {b : Int × Int}, (decide ((n : Int) < (way.length : Int)) && ((way.getD n (0, 0)).1 == b.1 && (way.getD n (0, 0)).2 == b.2)) = false → ¬ (n < way.length ∧ way.getD n (0, 0) = b) := fun h => by
    rintro ⟨h1, h2⟩
    rw [h2] at h
    simp at h
    omega
  have hyes : ∀ {b : Int × Int}, (decide ((n : Int) < (way.length : Int)) && ((way.getD n (0, 0)).1 == b.1 && (way.getD n (0, 0)).2 == b.2)) = true → n < way.length ∧ way.getD n (0, 0) = b := fun h => by
    simp only [Bool.and_eq_true, decide_eq_true_eq, beq_iff_eq] at h
    exact ⟨by omega, Prod.ext h.2.1 h.2.2⟩
  by_cases hkP : k < P.length
  case neg =>
    have hx := se hkP
    rw [hx] at hLL hLB
    repeat' (first | (with_reducible refine ex_of (α := Int × List (List Part) × Int × Int) ((k : Int) + 1, o, (frm : Int), (n : Int)) ⟨⟨⟨?_, ?_, ?_, ?_, ?_, ?_, ?_, ?_, ?_⟩, ?_⟩, ?_⟩ ?_) | (with_reducible exact fun h => h) | (with_reducible refine ExE.row (by with_unfolding_all rfl) ?_) | (with_reducible refine And.intro ?_ ?_) | ((with_reducible intro hq); first | (exact bne1 hq (by with_reducible assumption)) | (exact bne1 (by with_reducible assumption) hq) | ((simp only [*, Bool.and_true, Bool.true_and, Bool.and_false, Bool.false_and, Bool.or_true, Bool.true_or, Bool.or_false, Bool.false_or, Bool.not_true, Bool.not_false, Bool.true_eq_false, Bool.false_eq_true, cond_true, cond_false, Bool.cond_self, reduceCtorEq] at hq); done) | (revert hq; with_reducible intro _)) | (with_reducible exact True.intro) | (with_reducible rfl) | ((with_reducible refine WkX.chk ?_); (conv => whnf)) | ((with_reducible refine Wk.chk ?_); (conv => whnf)) | (with_reducible refine EntLe.row ?_) | (with_reducible exact LeN.ro rfl) | (with_reducible exact LeN.rptr) | ((with_reducible refine LeL.chk ?_); (conv => whnf)) | ((with_reducible show LeO _ _); (first | (refine LeO.ro ?_) | (refine LeO.roCap ?_) | (refine LeO.nil ?_ (fun _ => rfl)))) | ((with_reducible show LeR _ _ _); (first | (refine LeR.own rfl rfl rfl ?_) | (refine LeR.view rfl rfl rfl ?_ ?_) | (refine LeR.ro ?_) | (refine LeR.roCap ?_) | (refine LeR.nil ?_ (fun _ => rfl)))) | ((with_reducible refine LeF.chk ?_); (conv => whnf)) | (with_reducible assumption) | ((with_reducible refine Run.mk ?_); (conv => whnf)) | ((with_reducible show drawOK _ _ = true); kernel_rfl) | ((with_reducible show drawOK2 _ _ = true); kernel_rfl) | ((with_reducible show drawOK3 _ _ = true); kernel_rfl))
    all_goals first
      | (exfalso; simp only [decide_eq_true_eq] at *; omega)
      | (simp only [decide_eq_false_iff_not, e5] at *; omega)
      | (simp only [List.length_cons, List.length_nil, e5] at *; omega)
      | (rw [hLL, e5]; rfl)
      | (rw [hLB]; rw [Bool.eq_iff_iff]; simp; omega)
      | trace_state
  have hOk' := hOk hkP
  by_cases hc : n < way.length ∧ way.getD n (0, 0) = brkAt l (P.getD k 0)
  · have hy := sy hkP hc.1 hc.2
    have hn1 := hc.1
    repeat' (first | (with_reducible refine ex_of (α := Int × List (List Part) × Int × Int) ((k : Int) + 1, o ++ [(l.drop frm).take (P.getD k 0 - frm)], ((P.getD k 0 : Nat) : Int), (n : Int) + 1) ⟨⟨⟨?_, ?_, ?_, ?_, ?_, ?_, ?_, ?_, ?_⟩, ?_⟩, ?_⟩ ?_) | (with_reducible exact fun h => h) | (with_reducible refine ExE.row (by with_unfolding_all rfl) ?_) | (with_reducible refine And.intro ?_ ?_) | ((with_reducible intro hq); first | (exact bne1 hq (by with_reducible assumption)) | (exact bne1 (by with_reducible assumption) hq) | ((simp only [*, Bool.and_true, Bool.true_and, Bool.and_false, Bool.false_and, Bool.or_true, Bool.true_or, Bool.or_false, Bool.false_or, Bool.not_true, Bool.not_false, Bool.true_eq_false, Bool.false_eq_true, cond_true, cond_false, Bool.cond_self, reduceCtorEq] at hq); done) | (revert hq; with_reducible intro _)) | (with_reducible exact True.intro) | (with_reducible rfl) | ((with_reducible refine WkX.chk ?_); (conv => whnf)) | ((with_reducible refine Wk.chk ?_); (conv => whnf)) | (with_reducible refine EntLe.row ?_) | (with_reducible exact LeN.ro rfl) | (with_reducible exact LeN.rptr) | ((with_reducible refine LeL.chk ?_); (conv => whnf)) | ((with_reducible show LeO _ _); (first | (refine LeO.ro ?_) | (refine LeO.roCap ?_) | (refine LeO.nil ?_ (fun _ => rfl)))) | ((with_reducible show LeR _ _ _); (first | (refine LeR.own rfl rfl rfl ?_) | (refine LeR.view rfl rfl rfl ?_ ?_) | (refine LeR.ro ?_) | (refine LeR.roCap ?_) | (refine LeR.nil ?_ (fun _ => rfl)))) | ((with_reducible refine LeF.chk ?_); (conv => whnf)) | (with_reducible assumption) | ((with_reducible refine Run.mk ?_); (conv => whnf)) | ((with_reducible show drawOK _ _ = true); kernel_rfl) | ((with_reducible show drawOK2 _ _ = true); kernel_rfl) | ((with_reducible show drawOK3 _ _ = true); kernel_rfl))
    all_goals first
      | (exfalso; simp only [e1, e3, e4, hOk'] at *; exact hno (by assumption) hc)
      | (simp only [e1, e2, e3, e4, e5, e6, e7, e8, hAk, decide_eq_true_eq, decide_eq_false_iff_not, List.length_append, List.length_cons, List.length_nil] at *; first | omega | (apply Fits.i64 <;> omega) | rfl | exact hy | (have := hfn hkP _ (by assumption) (by assumption); omega))
      | (simp only [e2, e3, e5, e8, hAk]; done)
      | trace_state
  · have hz := hyes (b := brkAt l (P.getD k 0))
    have hs : ((brkAt l (P.getD k 0)).2 == 1) = false → _ := fun h => sn hkP hc (by simpa using h)
    repeat' (first | (with_reducible refine ex_of (α := Int × List (List Part) × Int × Int) ((k : Int) + 1, o, (frm : Int), (n : Int)) ⟨⟨⟨?_, ?_, ?_, ?_, ?_, ?_, ?_, ?_, ?_⟩, ?_⟩, ?_⟩ ?_) | (with_reducible exact fun h => h) | (with_reducible refine ExE.row (by with_unfolding_all rfl) ?_) | (with_reducible refine And.intro ?_ ?_) | ((with_reducible intro hq); first | (exact bne1 hq (by with_reducible assumption)) | (exact bne1 (by with_reducible assumption) hq) | ((simp only [*, Bool.and_true, Bool.true_and, Bool.and_false, Bool.false_and, Bool.or_true, Bool.true_or, Bool.or_false, Bool.false_or, Bool.not_true, Bool.not_false, Bool.true_eq_false, Bool.false_eq_true, cond_true, cond_false, Bool.cond_self, reduceCtorEq] at hq); done) | (revert hq; with_reducible intro _)) | (with_reducible exact True.intro) | (with_reducible rfl) | ((with_reducible refine WkX.chk ?_); (conv => whnf)) | ((with_reducible refine Wk.chk ?_); (conv => whnf)) | (with_reducible refine EntLe.row ?_) | (with_reducible exact LeN.ro rfl) | (with_reducible exact LeN.rptr) | ((with_reducible refine LeL.chk ?_); (conv => whnf)) | ((with_reducible show LeO _ _); (first | (refine LeO.ro ?_) | (refine LeO.roCap ?_) | (refine LeO.nil ?_ (fun _ => rfl)))) | ((with_reducible show LeR _ _ _); (first | (refine LeR.own rfl rfl rfl ?_) | (refine LeR.view rfl rfl rfl ?_ ?_) | (refine LeR.ro ?_) | (refine LeR.roCap ?_) | (refine LeR.nil ?_ (fun _ => rfl)))) | ((with_reducible refine LeF.chk ?_); (conv => whnf)) | (with_reducible assumption) | ((with_reducible refine Run.mk ?_); (conv => whnf)) | ((with_reducible show drawOK _ _ = true); kernel_rfl) | ((with_reducible show drawOK2 _ _ = true); kernel_rfl) | ((with_reducible show drawOK3 _ _ = true); kernel_rfl))
    all_goals first
      | (exfalso; simp only [e1, e3, e4, hOk'] at *; exact hc (hz (by assumption)))
      | (rw [hLL, sh hkP hc (by simp only [e1, e3, hOk', beq_iff_eq] at *; assumption)]; rfl)
      | (rw [hLB, sh hkP hc (by simp only [e1, e3, hOk', beq_iff_eq] at *; assumption)]; rfl)
      | (simp only [e1, e2, e3, e4, e5, e6, e7, e8, hAk, decide_eq_true_eq, decide_eq_false_iff_not, List.length_append, List.length_cons, List.length_nil] at *; first | omega | (apply Fits.i64 <;> omega) | rfl | (exact hfj _ (by omega) (by assumption)))
      | (simp only [e1, e3, e4, e5, e6, hOk'] at *; exact hs (by assumption))
      | trace_state
end Go.SX.Try
/- Contracts of wrap's trimmed, cells. -/
namespace Go.SX.Try
open Go.Proofs Go.Proofs.Try Go.SX.Plain
set_option maxRecDepth 100000
set_option maxHeartbeats 0
set_option linter.unusedSimpArgs false
theorem con_trimmed : Con prog 50 (fun l : List Part => [.ro 12 C_part.enc C_part.d l none]) (fun l => .ro 12 C_part.enc C_part.d (trimL l) none) (fun l => l.length ≤ 100000) := by
  refine Con.of (by kernel_rfl) T_ok CdsOK.nil .nil 3 [] q_trimmed.1 q_trimmed.2.1 q_trimmed.2.2 (fun _ => rfl) fun l hi => ?_
  have hl : l.length ≤ 100000 := hi
  have hd : C_part.d = dPart := rfl
  have e0 : ((l.length : Int) - 1).toNat = l.length - 1 := by omega
  have hpos : (decide (0 < (l.length : Int)) && (l.getD (l.length - 1) dPart).fin) = true → 0 < l.length ∧ (l.getD (l.length - 1) dPart).fin = true := fun h => by
    simp only [Bool.and_eq_true, decide_eq_true_eq] at h
    exact ⟨by omega, h.2⟩
  have hneg : (decide (0 < (l.length : Int)) && (l.getD (l.length - 1) dPart).fin) = false → ¬ (0 < l.length ∧ (l.getD (l.length - 1) dPart).fin = true) := fun h => by
    rintro ⟨h1, h2⟩
    rw [h2] at h
    simp only [Bool.and_true, decide_eq_false_iff_not] at h
    omega
  have step : ∀ n : Nat, trimGo l (n + 1) = if (l.getD n dPart).blank = true then trimGo l n else n + 1 := fun n => rfl
  repeat' (first | (with_reducible exact fun h => h) | (with_reducible refine ExE.row (by with_unfolding_all rfl) ?_) | (with_reducible refine And.intro ?_ ?_) | ((with_reducible intro hq); first | (exact bne1 hq (by with_reducible assumption)) | (exact bne1 (by with_reducible assumption) hq) | ((simp only [*, Bool.and_true, Bool.true_and, Bool.and_false, Bool.false_and, Bool.or_true, Bool.true_or, Bool.or_false, Bool.false_or, Bool.not_true, Bool.not_false, Bool.true_eq_false, Bool.false_eq_true, cond_true, cond_false, Bool.cond_self, reduceCtorEq] at hq); done) | (revert hq; with_reducible intro _)) | (with_reducible exact True.intro) | (with_reducible rfl) | ((with_reducible refine WkX.chk ?_); (conv => whnf)) | ((with_reducible refine Wk.chk ?_); (conv => whnf)) | (with_reducible refine EntLe.row ?_) | (with_reducible exact LeN.ro rfl) | (with_reducible exact LeN.rptr) | ((with_reducible refine LeL.chk ?_); (conv => whnf)) | ((with_reducible show LeO _ _); (first | (refine LeO.ro ?_) | (refine LeO.roCap ?_) | (refine LeO.nil ?_ (fun _ => rfl)))) | ((with_reducible show LeR _ _ _); (first | (refine LeR.own rfl rfl rfl ?_) | (refine LeR.view rfl rfl rfl ?_ ?_) | (refine LeR.ro ?_) | (refine LeR.roCap ?_) | (refine LeR.nil ?_ (fun _ => rfl)))) | ((with_reducible refine LeF.chk ?_); (conv => whnf)) | (with_reducible assumption) | ((with_reducible refine Run.mk ?_); (conv => whnf)) | ((with_reducible show drawOK _ _ = true); kernel_rfl) | ((with_reducible show drawOK2 _ _ = true); kernel_rfl) | ((with_reducible show drawOK3 _ _ = true); kernel_rfl))
  any_goals (first | omega | (simp only [decide_eq_true_eq, Bool.and_eq_true] at *; first | omega | (apply Fits.i64 <;> omega)))
  · have hq : (decide (0 < (l.length : Int)) && (l.getD ((l.length : Int) - 1).toNat C_part.d).fin) = true := by assumption
    rw [e0, hd] at hq
    refine loopI Int [] (fun n => [(3, .v (.int .i64 n))]) (fun _ => []) (fun n => (0 ≤ n ∧ n ≤ l.length) ∧ trimGo l n.toNat = trimN l) (fun n => n.toNat) ((l.length : Int) - 1) ⟨⟨by have := (hpos hq).1; omega, by omega⟩, by unfold trimN; rw [if_pos (hpos hq), e0]⟩ (Wk.chk ?_) fun n hn => ?_
    · ((conv => whnf); repeat' (first | (with_reducible exact fun h => h) | (with_reducible refine ExE.row (by with_unfolding_all rfl) ?_) | (with_reducible refine And.intro ?_ ?_) | ((with_reducible intro hq); first | (exact bne1 hq (by with_reducible assumption)) | (exact bne1 (by with_reducible assumption) hq) | ((simp only [*, Bool.and_true, Bool.true_and, Bool.and_false, Bool.false_and, Bool.or_true, Bool.true_or, Bool.or_false, Bool.false_or, Bool.not_true, Bool.not_false, Bool.true_eq_false, Bool.false_eq_true, cond_true, cond_false, Bool.cond_self, reduceCtorEq] at hq); done) | (revert hq; with_reducible intro _)) | (with_reducible exact True.intro) | (with_reducible rfl) | ((with_reducible refine WkX.chk ?_); (conv => whnf)) | ((with_reducible refine Wk.chk ?_); (conv => whnf)) | (with_reducible refine EntLe.row ?_) | (with_reducible exact LeN.ro rfl) | (with_reducible exact LeN.rptr) | ((with_reducible refine LeL.chk ?_); (conv => whnf)) | ((with_reducible show LeO _ _); (first | (refine LeO.ro ?_) | (refine LeO.roCap ?_) | (refine LeO.nil ?_ (fun _ => rfl)))) | ((with_reducible show LeR _ _ _); (first | (refine LeR.own rfl rfl rfl ?_) | (refine LeR.view rfl rfl rfl ?_ ?_) | (refine LeR.ro ?_) | (refine LeR.roCap ?_) | (refine LeR.nil ?_ (fun _ => rfl)))) | ((with_reducible refine LeF.chk ?_); (conv => whnf)) | (with_reducible assumption) | ((with_reducible refine Run.mk ?_); (conv => whnf)) | ((with_reducible show drawOK _ _ = true); kernel_rfl) | ((with_reducible show drawOK2 _ _ = true); kernel_rfl) | ((with_reducible show drawOK3 _ _ = true); kernel_rfl)))
      all_goals rfl
    obtain ⟨⟨h1, h2⟩, h3⟩ := hn
    obtain ⟨n, rfl⟩ := Int.eq_ofNat_of_zero_le h1
    have e1 : ((n : Int) - 1).toNat = n - 1 := by omega
    have e2 : ((n : Int)).toNat = n := Int.toNat_natCast _
    have e3 : (0 : Int).toNat = 0 := rfl
    rw [e2] at h3
    have stepY : 0 < n → (l.getD (n - 1) dPart).blank = true → trimGo l (n - 1) = trimN l := fun h hb => by
      obtain ⟨m, rfl⟩ : ∃ m, n = m + 1 := ⟨n - 1, by omega⟩
      rw [step, if_pos (by simpa using hb)] at h3
      simpa using h3
    have stepN : 0 < n → ¬ (l.getD (n - 1) dPart).blank = true → n = trimN l := fun h hb => by
      obtain ⟨m, rfl⟩ : ∃ m, n = m + 1 := ⟨n - 1, by omega⟩
      rw [step, if_neg (by simpa using hb)] at h3
      exact h3
    have step0 : ¬ 0 < n → n = trimN l := fun h => by
      obtain rfl : n = 0 := by omega
      exact h3
    have stepE : (decide (0 < (n : Int)) && (l.getD (n - 1) dPart).blank) = false → n = trimN l := fun h => by
      by_cases h0 : 0 < n
      · exact stepN h0 (by intro hb; rw [hb] at h; simp at h; omega)
      · exact step0 h0
    repeat' (first | (with_reducible refine ex_of (α := Int) ((n : Int) - 1) ⟨⟨⟨?_, ?_⟩, ?_⟩, ?_⟩ ?_) | (with_reducible exact fun h => h) | (with_reducible refine ExE.row (by with_unfolding_all rfl) ?_) | (with_reducible refine And.intro ?_ ?_) | ((with_reducible intro hq); first | (exact bne1 hq (by with_reducible assumption)) | (exact bne1 (by with_reducible assumption) hq) | ((simp only [*, Bool.and_true, Bool.true_and, Bool.and_false, Bool.false_and, Bool.or_true, Bool.true_or, Bool.or_false, Bool.false_or, Bool.not_true, Bool.not_false, Bool.true_eq_false, Bool.false_eq_true, cond_true, cond_false, Bool.cond_self, reduceCtorEq] at hq); done) | (revert hq; with_reducible intro _)) | (with_reducible exact True.intro) | (with_reducible rfl) | ((with_reducible refine WkX.chk ?_); (conv => whnf)) | ((with_reducible refine Wk.chk ?_); (conv => whnf)) | (with_reducible refine EntLe.row ?_) | (with_reducible exact LeN.ro rfl) | (with_reducible exact LeN.rptr) | ((with_reducible refine LeL.chk ?_); (conv => whnf)) | ((with_reducible show LeO _ _); (first | (refine LeO.ro ?_) | (refine LeO.roCap ?_) | (refine LeO.nil ?_ (fun _ => rfl)))) | ((with_reducible show LeR _ _ _); (first | (refine LeR.own rfl rfl rfl ?_) | (refine LeR.view rfl rfl rfl ?_ ?_) | (refine LeR.ro ?_) | (refine LeR.roCap ?_) | (refine LeR.nil ?_ (fun _ => rfl)))) | ((with_reducible refine LeF.chk ?_); (conv => whnf)) | (with_reducible assumption) | ((with_reducible refine Run.mk ?_); (conv => whnf)) | ((with_reducible show drawOK _ _ = true); kernel_rfl) | ((with_reducible show drawOK2 _ _ = true); kernel_rfl) | ((with_reducible show drawOK3 _ _ = true); kernel_rfl))
    all_goals first
      | omega
      | (simp only [decide_eq_true_eq, Bool.and_eq_true, e1, hd] at *; first | omega | (apply Fits.i64 <;> omega) | (exact stepY (by omega) (by simp_all)) )
      | (have hx := stepE (by simp only [e1, hd] at *; assumption); unfold trimL; rw [← hx]; simp [e2, e3]; done)
      | trace_state
  · have hq : (decide (0 < (l.length : Int)) && (l.getD ((l.length : Int) - 1).toNat C_part.d).fin) = false := by assumption
    rw [e0, hd] at hq
    refine loopI Int [] (fun n => [(3, .v (.int .i64 n))]) (fun _ => []) (fun n => (0 ≤ n ∧ n ≤ l.length) ∧ trimGo l n.toNat = trimN l) (fun n => n.toNat) ((l.length : Int)) ⟨⟨by omega, by omega⟩, by unfold trimN; rw [if_neg (hneg hq), Int.toNat_natCast]⟩ (Wk.chk ?_) fun n hn => ?_
    · ((conv => whnf); repeat' (first | (with_reducible exact fun h => h) | (with_reducible refine ExE.row (by with_unfolding_all rfl) ?_) | (with_reducible refine And.intro ?_ ?_) | ((with_reducible intro hq); first | (exact bne1 hq (by with_reducible assumption)) | (exact bne1 (by with_reducible assumption) hq) | ((simp only [*, Bool.and_true, Bool.true_and, Bool.and_false, Bool.false_and, Bool.or_true, Bool.true_or, Bool.or_false, Bool.false_or, Bool.not_true, Bool.not_false, Bool.true_eq_false, Bool.false_eq_true, cond_true, cond_false, Bool.cond_self, reduceCtorEq] at hq); done) | (revert hq; with_reducible intro _)) | (with_reducible exact True.intro) | (with_reducible rfl) | ((with_reducible refine WkX.chk ?_); (conv => whnf)) | ((with_reducible refine Wk.chk ?_); (conv => whnf)) | (with_reducible refine EntLe.row ?_) | (with_reducible exact LeN.ro rfl) | (with_reducible exact LeN.rptr) | ((with_reducible refine LeL.chk ?_); (conv => whnf)) | ((with_reducible show LeO _ _); (first | (refine LeO.ro ?_) | (refine LeO.roCap ?_) | (refine LeO.nil ?_ (fun _ => rfl)))) | ((with_reducible show LeR _ _ _); (first | (refine LeR.own rfl rfl rfl ?_) | (refine LeR.view rfl rfl rfl ?_ ?_) | (refine LeR.ro ?_) | (refine LeR.roCap ?_) | (refine LeR.nil ?_ (fun _ => rfl)))) | ((with_reducible refine LeF.chk ?_); (conv => whnf)) | (with_reducible assumption) | ((with_reducible refine Run.mk ?_); (conv => whnf)) | ((with_reducible show drawOK _ _ = true); kernel_rfl) | ((with_reducible show drawOK2 _ _ = true); kernel_rfl) | ((with_reducible show drawOK3 _ _ = true); kernel_rfl)))
      all_goals rfl
    obtain ⟨⟨h1, h2⟩, h3⟩ := hn
    obtain ⟨n, rfl⟩ := Int.eq_ofNat_of_zero_le h1
    have e1 : ((n : Int) - 1).toNat = n - 1 := by omega
    have e2 : ((n : Int)).toNat = n := Int.toNat_natCast _
    have e3 : (0 : Int).toNat = 0 := rfl
    rw [e2] at h3
    have stepY : 0 < n → (l.getD (n - 1) dPart).blank = true → trimGo l (n - 1) = trimN l := fun h hb => by
      obtain ⟨m, rfl⟩ : ∃ m, n = m + 1 := ⟨n - 1, by omega⟩
      rw [step, if_pos (by simpa using hb)] at h3
      simpa using h3
    have stepN : 0 < n → ¬ (l.getD (n - 1) dPart).blank = true → n = trimN l := fun h hb => by
      obtain ⟨m, rfl⟩ : ∃ m, n = m + 1 := ⟨n - 1, by omega⟩
      rw [step, if_neg (by simpa using hb)] at h3
      exact h3
    have step0 : ¬ 0 < n → n = trimN l := fun h => by
      obtain rfl : n = 0 := by omega
      exact h3
    have stepE : (decide (0 < (n : Int)) && (l.getD (n - 1) dPart).blank) = false → n = trimN l := fun h => by
      by_cases h0 : 0 < n
      · exact stepN h0 (by intro hb; rw [hb] at h; simp at h; omega)
      · exact step0 h0
    repeat' (first | (with_reducible refine ex_of (α := Int) ((n : Int) - 1) ⟨⟨⟨?_, ?_⟩, ?_⟩, ?_⟩ ?_) | (with_reducible exact fun h => h) | (with_reducible refine ExE.row (by with_unfolding_all rfl) ?_) | (with_reducible refine And.intro ?_ ?_) | ((with_reducible intro hq); first | (exact bne1 hq (by with_reducible assumption)) | (exact bne1 (by with_reducible assumption) hq) | ((simp only [*, Bool.and_true, Bool.true_and, Bool.and_false, Bool.false_and, Bool.or_true, Bool.true_or, Bool.or_false, Bool.false_or, Bool.not_true, Bool.not_false, Bool.true_eq_false, Bool.false_eq_true, cond_true, cond_false, Bool.cond_self, reduceCtorEq] at hq); done) | (revert hq; with_reducible intro _)) | (with_reducible exact True.intro) | (with_reducible rfl) | ((with_reducible refine WkX.chk ?_); (conv => whnf)) | ((with_reducible refine Wk.chk ?_); (conv => whnf)) | (with_reducible refine EntLe.row ?_) | (with_reducible exact LeN.ro rfl) | (with_reducible exact LeN.rptr) | ((with_reducible refine LeL.chk ?_); (conv => whnf)) | ((with_reducible show LeO _ _); (first | (refine LeO.ro ?_) | (refine LeO.roCap ?_) | (refine LeO.nil ?_ (fun _ => rfl)))) | ((with_reducible show LeR _ _ _); (first | (refine LeR.own rfl rfl rfl ?_) | (refine LeR.view rfl rfl rfl ?_ ?_) | (refine LeR.ro ?_) | (refine LeR.roCap ?_) | (refine LeR.nil ?_ (fun _ => rfl)))) | ((with_reducible refine LeF.chk ?_); (conv => whnf)) | (with_reducible assumption) | ((with_reducible refine Run.mk ?_); (conv => whnf)) | ((with_reducible show drawOK _ _ = true); kernel_rfl) | ((with_reducible show drawOK2 _ _ = true); kernel_rfl) | ((with_reducible show drawOK3 _ _ = true); kernel_rfl))
    all_goals first
      | omega
      | (simp only [decide_eq_true_eq, Bool.and_eq_true, e1, hd] at *; first | omega | (apply Fits.i64 <;> omega) | (exact stepY (by omega) (by simp_all)) )
      | (have hx := stepE (by simp only [e1, hd] at *; assumption); unfold trimL; rw [← hx]; simp [e2, e3]; done)
      | trace_state
theorem con_cells : Con prog 54 (fun l : List Part => [.ro 12 C_part.enc C_part.d l none]) (fun l => .v (.int .i64 (cellsL l))) (fun l => l.length ≤ 100000 ∧ Small l) := by
  refine Con.of (by kernel_rfl) T_ok CdsOK.nil (.con con_trimmed .nil) 3 [] q_cells10.1 q_cells10.2.1 q_cells10.2.2 (fun _ => rfl) fun l hi => ?_
  have hl : l.length ≤ 100000 := hi.1
  have hsm := trimL_small hi.2
  have hb := sumC_bd hsm
  have hd : C_part.d = dPart := rfl
  have ht : (trimL l).length ≤ l.length := by rw [trimL_len]; exact trimN_le l
  have hc : cellsL l = sumC (trimL l) (trimL l).length := rfl
  repeat' (first | (with_reducible refine ⟨_, ⟨(.cons (.ro _ _ _ _ _) .nil), ?_⟩, ?_⟩) | (with_reducible exact fun h => h) | (with_reducible refine ExE.row (by with_unfolding_all rfl) ?_) | (with_reducible refine And.intro ?_ ?_) | ((with_reducible intro hq); first | (exact bne1 hq (by with_reducible assumption)) | (exact bne1 (by with_reducible assumption) hq) | ((simp only [*, Bool.and_true, Bool.true_and, Bool.and_false, Bool.false_and, Bool.or_true, Bool.true_or, Bool.or_false, Bool.false_or, Bool.not_true, Bool.not_false, Bool.true_eq_false, Bool.false_eq_true, cond_true, cond_false, Bool.cond_self, reduceCtorEq] at hq); done) | (revert hq; with_reducible intro _)) | (with_reducible exact True.intro) | (with_reducible rfl) | ((with_reducible refine WkX.chk ?_); (conv => whnf)) | ((with_reducible refine Wk.chk ?_); (conv => whnf)) | (with_reducible refine EntLe.row ?_) | (with_reducible exact LeN.ro rfl) | (with_reducible exact LeN.rptr) | ((with_reducible refine LeL.chk ?_); (conv => whnf)) | ((with_reducible show LeO _ _); (first | (refine LeO.ro ?_) | (refine LeO.roCap ?_) | (refine LeO.nil ?_ (fun _ => rfl)))) | ((with_reducible show LeR _ _ _); (first | (refine LeR.own rfl rfl rfl ?_) | (refine LeR.view rfl rfl rfl ?_ ?_) | (refine LeR.ro ?_) | (refine LeR.roCap ?_) | (refine LeR.nil ?_ (fun _ => rfl)))) | ((with_reducible refine LeF.chk ?_); (conv => whnf)) | (with_reducible assumption) | ((with_reducible refine Run.mk ?_); (conv => whnf)) | ((with_reducible show drawOK _ _ = true); kernel_rfl) | ((with_reducible show drawOK2 _ _ = true); kernel_rfl) | ((with_reducible show drawOK3 _ _ = true); kernel_rfl))
  refine loopI Nat [] (fun k => [(9, .v (.int .i64 (k : Nat))), (3, .v (.int .i64 (sumC (trimL l) k)))]) (fun _ => []) (fun k => k ≤ (trimL l).length) (fun k => (trimL l).length - k) 0 (Nat.zero_le _) (Wk.chk ?_) fun k hk => ?_
  · ((conv => whnf); repeat' (first | (with_reducible exact fun h => h) | (with_reducible refine ExE.row (by with_unfolding_all rfl) ?_) | (with_reducible refine And.intro ?_ ?_) | ((with_reducible intro hq); first | (exact bne1 hq (by with_reducible assumption)) | (exact bne1 (by with_reducible assumption) hq) | ((simp only [*, Bool.and_true, Bool.true_and, Bool.and_false, Bool.false_and, Bool.or_true, Bool.true_or, Bool.or_false, Bool.false_or, Bool.not_true, Bool.not_false, Bool.true_eq_false, Bool.false_eq_true, cond_true, cond_false, Bool.cond_self, reduceCtorEq] at hq); done) | (revert hq; with_reducible intro _)) | (with_reducible exact True.intro) | (with_reducible rfl) | ((with_reducible refine WkX.chk ?_); (conv => whnf)) | ((with_reducible refine Wk.chk ?_); (conv => whnf)) | (with_reducible refine EntLe.row ?_) | (with_reducible exact LeN.ro rfl) | (with_reducible exact LeN.rptr) | ((with_reducible refine LeL.chk ?_); (conv => whnf)) | ((with_reducible show LeO _ _); (first | (refine LeO.ro ?_) | (refine LeO.roCap ?_) | (refine LeO.nil ?_ (fun _ => rfl)))) | ((with_reducible show LeR _ _ _); (first | (refine LeR.own rfl rfl rfl ?_) | (refine LeR.view rfl rfl rfl ?_ ?_) | (refine LeR.ro ?_) | (refine LeR.roCap ?_) | (refine LeR.nil ?_ (fun _ => rfl)))) | ((with_reducible refine LeF.chk ?_); (conv => whnf)) | (with_reducible assumption) | ((with_reducible refine Run.mk ?_); (conv => whnf)) | ((with_reducible show drawOK _ _ = true); kernel_rfl) | ((with_reducible show drawOK2 _ _ = true); kernel_rfl) | ((with_reducible show drawOK3 _ _ = true); kernel_rfl)))
    all_goals rfl
  have e1 : ((k : Int)).toNat = k := Int.toNat_natCast _
  have hbk := hb k
  have hsk := hsm.at k
  have hs1 := fun h => sumC_succ (l := trimL l) (k := k) h
  repeat' (first | (with_reducible refine ex_of (α := Nat) (k + 1) ⟨?_, ?_⟩ ?_) | (with_reducible exact fun h => h) | (with_reducible refine ExE.row (by with_unfolding_all rfl) ?_) | (with_reducible refine And.intro ?_ ?_) | ((with_reducible intro hq); first | (exact bne1 hq (by with_reducible assumption)) | (exact bne1 (by with_reducible assumption) hq) | ((simp only [*, Bool.and_true, Bool.true_and, Bool.and_false, Bool.false_and, Bool.or_true, Bool.true_or, Bool.or_false, Bool.false_or, Bool.not_true, Bool.not_false, Bool.true_eq_false, Bool.false_eq_true, cond_true, cond_false, Bool.cond_self, reduceCtorEq] at hq); done) | (revert hq; with_reducible intro _)) | (with_reducible exact True.intro) | (with_reducible rfl) | ((with_reducible refine WkX.chk ?_); (conv => whnf)) | ((with_reducible refine Wk.chk ?_); (conv => whnf)) | (with_reducible refine EntLe.row ?_) | (with_reducible exact LeN.ro rfl) | (with_reducible exact LeN.rptr) | ((with_reducible refine LeL.chk ?_); (conv => whnf)) | ((with_reducible show LeO _ _); (first | (refine LeO.ro ?_) | (refine LeO.roCap ?_) | (refine LeO.nil ?_ (fun _ => rfl)))) | ((with_reducible show LeR _ _ _); (first | (refine LeR.own rfl rfl rfl ?_) | (refine LeR.view rfl rfl rfl ?_ ?_) | (refine LeR.ro ?_) | (refine LeR.roCap ?_) | (refine LeR.nil ?_ (fun _ => rfl)))) | ((with_reducible refine LeF.chk ?_); (conv => whnf)) | (with_reducible assumption) | ((with_reducible refine Run.mk ?_); (conv => whnf)) | ((with_reducible show drawOK _ _ = true); kernel_rfl) | ((with_reducible show drawOK2 _ _ = true); kernel_rfl) | ((with_reducible show drawOK3 _ _ = true); kernel_rfl))
  all_goals first
    | omega
    | (simp only [decide_eq_true_eq, decide_eq_false_iff_not, e1, hd] at *; first | omega | (apply Fits.i64 <;> omega) | (rw [hs1 (by omega)]; done) | (rw [hs1 (by omega)]; rfl))
    | (simp only [decide_eq_true_eq, decide_eq_false_iff_not, e1, hd] at *; rw [hc]; congr 1; omega)
    | trace_state
end Go.SX.Try
/- Contract of wrap's Badness. -/
namespace Go.SX.Try
open Go.Proofs Go.Proofs.Try Go.SX.Plain
set_option maxRecDepth 100000
set_option maxHeartbeats 0
set_option linter.unusedSimpArgs false
theorem q_badness : fact 25 f25 := ⟨by kernel_rfl, rfl, by kernel_rfl⟩
theorem con_badness : Con prog 25 (fun ((s, width, way) : ByteArray × Int × List (Int × Int)) => [.v (.string s), .v (.int .i64 width), .ro 2 C_brk.enc C_brk.d way none true])
    (fun (s, width, way) => .tup [.v (.int .i64 (badN s width way)), .v (.int .i64 (badE s width way))]) (fun _ => True) := by
  refine Con.of (by kernel_rfl) T_ok CdsOK.nil (.con con_check (.con con_lines (.con con_cells .nil))) 3 [] q_badness.1 q_badness.2.1 q_badness.2.2 (fun _ => rfl) fun i hi => ?_
  obtain ⟨s, width, way⟩ := i
  by_cases hck : checkN s.size width = 0
  case neg =>
    have hE : badE s width way = checkN s.size width := by unfold badE; rw [if_pos hck]
    have hN : badN s width way = 0 := by unfold badN; rw [hE, if_neg hck]
    repeat' (first | (with_reducible refine ⟨(_, _), ⟨(.cons (.v _) (.cons (.v _) .nil)), ?_⟩, ?_⟩) | (with_reducible refine ⟨(_, _), ⟨(.cons (.v _) (.cons (.lent _ _ _ _ _ _) .nil)), ?_⟩, ?_⟩) | (with_reducible exact fun h => h) | (with_reducible refine ExE.row (by with_unfolding_all rfl) ?_) | (with_reducible refine And.intro ?_ ?_) | ((with_reducible intro hq); first | (exact bne1 hq (by with_reducible assumption)) | (exact bne1 (by with_reducible assumption) hq) | ((simp only [*, Bool.and_true, Bool.true_and, Bool.and_false, Bool.false_and, Bool.or_true, Bool.true_or, Bool.or_false, Bool.false_or, Bool.not_true, Bool.not_false, Bool.true_eq_false, Bool.false_eq_true, cond_true, cond_false, Bool.cond_self, reduceCtorEq] at hq); done) | (revert hq; with_reducible intro _)) | (with_reducible exact True.intro) | (with_reducible rfl) | ((with_reducible refine WkX.chk ?_); (conv => whnf)) | ((with_reducible refine Wk.chk ?_); (conv => whnf)) | (with_reducible refine EntLe.row ?_) | (with_reducible exact LeN.ro rfl) | (with_reducible exact LeN.rptr) | ((with_reducible refine LeL.chk ?_); (conv => whnf)) | ((with_reducible show LeO _ _); (first | (refine LeO.ro ?_) | (refine LeO.roCap ?_) | (refine LeO.nil ?_ (fun _ => rfl)))) | ((with_reducible show LeR _ _ _); (first | (refine LeR.own rfl rfl rfl ?_) | (refine LeR.view rfl rfl rfl ?_ ?_) | (refine LeR.ro ?_) | (refine LeR.roCap ?_) | (refine LeR.nil ?_ (fun _ => rfl)))) | ((with_reducible refine LeF.chk ?_); (conv => whnf)) | (with_reducible assumption) | ((with_reducible refine Run.mk ?_); (conv => whnf)) | ((with_reducible show drawOK _ _ = true); kernel_rfl) | ((with_reducible show drawOK2 _ _ = true); kernel_rfl) | ((with_reducible show drawOK3 _ _ = true); kernel_rfl))
    all_goals first
      | exact hN.symm
      | exact hE.symm
      | (exfalso; simp_all; done)
  have hw : 2 ≤ width ∧ width ≤ 200 ∧ s.size ≤ 4096 := by
    unfold checkN at hck
    split at hck
    · cases hck
    · split at hck
      · cases hck
      · omega
  obtain ⟨hw1, hw2, hsz⟩ := hw
  cases hB : linesB s way with
  | false =>
    have hE : badE s width way = 1 := by unfold badE; rw [if_neg (by simp [hck]), if_pos hB]
    have hN : badN s width way = 0 := by unfold badN; rw [hE, if_neg (by decide)]
    repeat' (first | (with_reducible refine ⟨(_, _), ⟨(.cons (.v _) (.cons (.v _) .nil)), ?_⟩, ?_⟩) | (with_reducible refine ⟨(_, _), ⟨(.cons (.v _) (.cons (.lent _ _ _ _ _ _) .nil)), ?_⟩, ?_⟩) | (with_reducible exact fun h => h) | (with_reducible refine ExE.row (by with_unfolding_all rfl) ?_) | (with_reducible refine And.intro ?_ ?_) | ((with_reducible intro hq); first | (exact bne1 hq (by with_reducible assumption)) | (exact bne1 (by with_reducible assumption) hq) | ((simp only [*, Bool.and_true, Bool.true_and, Bool.and_false, Bool.false_and, Bool.or_true, Bool.true_or, Bool.or_false, Bool.false_or, Bool.not_true, Bool.not_false, Bool.true_eq_false, Bool.false_eq_true, cond_true, cond_false, Bool.cond_self, reduceCtorEq] at hq); done) | (revert hq; with_reducible intro _)) | (with_reducible exact True.intro) | (with_reducible rfl) | ((with_reducible refine WkX.chk ?_); (conv => whnf)) | ((with_reducible refine Wk.chk ?_); (conv => whnf)) | (with_reducible refine EntLe.row ?_) | (with_reducible exact LeN.ro rfl) | (with_reducible exact LeN.rptr) | ((with_reducible refine LeL.chk ?_); (conv => whnf)) | ((with_reducible show LeO _ _); (first | (refine LeO.ro ?_) | (refine LeO.roCap ?_) | (refine LeO.nil ?_ (fun _ => rfl)))) | ((with_reducible show LeR _ _ _); (first | (refine LeR.own rfl rfl rfl ?_) | (refine LeR.view rfl rfl rfl ?_ ?_) | (refine LeR.ro ?_) | (refine LeR.roCap ?_) | (refine LeR.nil ?_ (fun _ => rfl)))) | ((with_reducible refine LeF.chk ?_); (conv => whnf)) | (with_reducible assumption) | ((with_reducible refine Run.mk ?_); (conv => whnf)) | ((with_reducible show drawOK _ _ = true); kernel_rfl) | ((with_reducible show drawOK2 _ _ = true); kernel_rfl) | ((with_reducible show drawOK3 _ _ = true); kernel_rfl))
    all_goals first
      | exact hN.symm
      | exact hE.symm
      | (show s.size ≤ 100000; omega)
      | (exfalso; simp_all; done)
  | true =>
    obtain ⟨hwl, hLl⟩ := linesB_way hB
    have hsm := linesL_small s way
    have hcb : ∀ y ∈ linesL s way, 0 ≤ cellsL y := fun y hy => (cellsL_bd (hsm y hy).1).1
    have hnz : (checkN s.size width != 0) = false := by rw [hck]; rfl
    have hnb : (!linesB s way) = false := by rw [hB]; rfl
    have hd : C_parts.d = [] := rfl
    have hd2 : C_brk.d = (0, 0) := rfl
    repeat' (first | (with_reducible refine ⟨(_, _), ⟨(.cons (.v _) (.cons (.v _) .nil)), ?_⟩, ?_⟩) | (with_reducible refine ⟨(_, _), ⟨(.cons (.v _) (.cons (.lent _ _ _ _ _ _) .nil)), ?_⟩, ?_⟩) | (with_reducible exact fun h => h) | (with_reducible refine ExE.row (by with_unfolding_all rfl) ?_) | (with_reducible refine And.intro ?_ ?_) | ((with_reducible intro hq); first | (exact bne1 hq (by with_reducible assumption)) | (exact bne1 (by with_reducible assumption) hq) | ((simp only [*, Bool.and_true, Bool.true_and, Bool.and_false, Bool.false_and, Bool.or_true, Bool.true_or, Bool.or_false, Bool.false_or, Bool.not_true, Bool.not_false, Bool.true_eq_false, Bool.false_eq_true, cond_true, cond_false, Bool.cond_self, reduceCtorEq] at hq); done) | (revert hq; with_reducible intro _)) | (with_reducible exact True.intro) | (with_reducible rfl) | ((with_reducible refine WkX.chk ?_); (conv => whnf)) | ((with_reducible refine Wk.chk ?_); (conv => whnf)) | (with_reducible refine EntLe.row ?_) | (with_reducible exact LeN.ro rfl) | (with_reducible exact LeN.rptr) | ((with_reducible refine LeL.chk ?_); (conv => whnf)) | ((with_reducible show LeO _ _); (first | (refine LeO.ro ?_) | (refine LeO.roCap ?_) | (refine LeO.nil ?_ (fun _ => rfl)))) | ((with_reducible show LeR _ _ _); (first | (refine LeR.own rfl rfl rfl ?_) | (refine LeR.view rfl rfl rfl ?_ ?_) | (refine LeR.ro ?_) | (refine LeR.roCap ?_) | (refine LeR.nil ?_ (fun _ => rfl)))) | ((with_reducible refine LeF.chk ?_); (conv => whnf)) | (with_reducible assumption) | ((with_reducible refine Run.mk ?_); (conv => whnf)) | ((with_reducible show drawOK _ _ = true); kernel_rfl) | ((with_reducible show drawOK2 _ _ = true); kernel_rfl) | ((with_reducible show drawOK3 _ _ = true); kernel_rfl))
    · show s.size ≤ 100000
      omega
    refine loopI Nat [] (fun k => [(33, .v (.int .i64 (k : Nat))), (11, .v (.int .i64 (sqS (linesL s way) width k)))]) (fun _ => []) (fun k => k ≤ (linesL s way).length ∧ ∀ i, i < k → i < (linesL s way).length → cellsL ((linesL s way).getD i []) ≤ width)
      (fun k => (linesL s way).length - k) 0 ⟨Nat.zero_le _, fun i hi => by omega⟩ (Wk.chk ?_) fun k hk => ?_
    · ((conv => whnf); repeat' (first | (with_reducible exact fun h => h) | (with_reducible refine ExE.row (by with_unfolding_all rfl) ?_) | (with_reducible refine And.intro ?_ ?_) | ((with_reducible intro hq); first | (exact bne1 hq (by with_reducible assumption)) | (exact bne1 (by with_reducible assumption) hq) | ((simp only [*, Bool.and_true, Bool.true_and, Bool.and_false, Bool.false_and, Bool.or_true, Bool.true_or, Bool.or_false, Bool.false_or, Bool.not_true, Bool.not_false, Bool.true_eq_false, Bool.false_eq_true, cond_true, cond_false, Bool.cond_self, reduceCtorEq] at hq); done) | (revert hq; with_reducible intro _)) | (with_reducible exact True.intro) | (with_reducible rfl) | ((with_reducible refine WkX.chk ?_); (conv => whnf)) | ((with_reducible refine Wk.chk ?_); (conv => whnf)) | (with_reducible refine EntLe.row ?_) | (with_reducible exact LeN.ro rfl) | (with_reducible exact LeN.rptr) | ((with_reducible refine LeL.chk ?_); (conv => whnf)) | ((with_reducible show LeO _ _); (first | (refine LeO.ro ?_) | (refine LeO.roCap ?_) | (refine LeO.nil ?_ (fun _ => rfl)))) | ((with_reducible show LeR _ _ _); (first | (refine LeR.own rfl rfl rfl ?_) | (refine LeR.view rfl rfl rfl ?_ ?_) | (refine LeR.ro ?_) | (refine LeR.roCap ?_) | (refine LeR.nil ?_ (fun _ => rfl)))) | ((with_reducible refine LeF.chk ?_); (conv => whnf)) | (with_reducible assumption) | ((with_reducible refine Run.mk ?_); (conv => whnf)) | ((with_reducible show drawOK _ _ = true); kernel_rfl) | ((with_reducible show drawOK2 _ _ = true); kernel_rfl) | ((with_reducible show drawOK3 _ _ = true); kernel_rfl)))
      all_goals rfl
    obtain ⟨hk, hfit⟩ := hk
    have e1 : ((k : Int)).toNat = k := Int.toNat_natCast _
    have hbd := sqS_bd hw2 hcb k hfit
    by_cases hkl : k < (linesL s way).length
    · have hmem := getD_memL [] hkl
      have hs1 := hsm _ hmem
      have hs2 := cellsL_bd hs1.1
      have hsq := sqS_succ (width := width) hkl
      by_cases hfk : cellsL ((linesL s way).getD k []) ≤ width
      · have hbd2 := sqS_bd hw2 hcb (k + 1) fun i h1 h2 => by
          by_cases hik : i = k
          · subst hik; exact hfk
          · exact hfit i (by omega) h2
        have hsqb := sq_bd (x := width - cellsL ((linesL s way).getD k [])) (y := 200) (by omega) (by omega)
        have hkt : decide ((k : Int) < ((linesL s way).length : Int)) = true := decide_eq_true (by omega)
        have hlt : decide (width - cellsL ((linesL s way).getD ((k : Int)).toNat C_parts.d) < 0) = false := decide_eq_false (by rw [e1, hd]; omega)
        repeat' (first | (with_reducible refine ⟨_, ⟨(.cons (.ro _ _ _ _ _) .nil), ?_⟩, ?_⟩) | (with_reducible refine ex_of (α := Nat) (k + 1) ⟨⟨?_, ?_⟩, ?_⟩ ?_) | (with_reducible exact fun h => h) | (with_reducible refine ExE.row (by with_unfolding_all rfl) ?_) | (with_reducible refine And.intro ?_ ?_) | ((with_reducible intro hq); first | (exact bne1 hq (by with_reducible assumption)) | (exact bne1 (by with_reducible assumption) hq) | ((simp only [*, Bool.and_true, Bool.true_and, Bool.and_false, Bool.false_and, Bool.or_true, Bool.true_or, Bool.or_false, Bool.false_or, Bool.not_true, Bool.not_false, Bool.true_eq_false, Bool.false_eq_true, cond_true, cond_false, Bool.cond_self, reduceCtorEq] at hq); done) | (revert hq; with_reducible intro _)) | (with_reducible exact True.intro) | (with_reducible rfl) | ((with_reducible refine WkX.chk ?_); (conv => whnf)) | ((with_reducible refine Wk.chk ?_); (conv => whnf)) | (with_reducible refine EntLe.row ?_) | (with_reducible exact LeN.ro rfl) | (with_reducible exact LeN.rptr) | ((with_reducible refine LeL.chk ?_); (conv => whnf)) | ((with_reducible show LeO _ _); (first | (refine LeO.ro ?_) | (refine LeO.roCap ?_) | (refine LeO.nil ?_ (fun _ => rfl)))) | ((with_reducible show LeR _ _ _); (first | (refine LeR.own rfl rfl rfl ?_) | (refine LeR.view rfl rfl rfl ?_ ?_) | (refine LeR.ro ?_) | (refine LeR.roCap ?_) | (refine LeR.nil ?_ (fun _ => rfl)))) | ((with_reducible refine LeF.chk ?_); (conv => whnf)) | (with_reducible assumption) | ((with_reducible refine Run.mk ?_); (conv => whnf)) | ((with_reducible show drawOK _ _ = true); kernel_rfl) | ((with_reducible show drawOK2 _ _ = true); kernel_rfl) | ((with_reducible show drawOK3 _ _ = true); kernel_rfl))
        all_goals first
          | omega
          | (show (linesL s way).length - (k + 1) < (linesL s way).length - k; omega)
          | (simp only [e1, hd] at *; first | omega | exact hs1.1 | (apply Fits.i64 <;> omega) | (apply Fits.i64 <;> (rw [hsq] at hbd2; omega)) | (rw [hsq]; done))
          | (rename_i h1 h2; rename Nat => ii; by_cases hik : ii = k
             · subst hik; exact hfk
             · exact hfit ii (by omega) h2)
          | trace_state
      · have hff := fitAll_no hkl hfk
        have hE : badE s width way = 35 := by unfold badE; rw [if_neg (by simp [hck]), if_neg (by simp [hB]), if_neg (by simp [hff])]
        have hN : badN s width way = 0 := by unfold badN; rw [hE, if_neg (by decide)]
        have hkt : decide ((k : Int) < ((linesL s way).length : Int)) = true := decide_eq_true (by omega)
        have hlt : decide (width - cellsL ((linesL s way).getD ((k : Int)).toNat C_parts.d) < 0) = true := decide_eq_true (by rw [e1, hd]; omega)
        repeat' (first | (with_reducible refine ⟨_, ⟨(.cons (.ro _ _ _ _ _) .nil), ?_⟩, ?_⟩) | (with_reducible refine ex_of (α := Nat) (k + 1) ⟨⟨?_, ?_⟩, ?_⟩ ?_) | (with_reducible exact fun h => h) | (with_reducible refine ExE.row (by with_unfolding_all rfl) ?_) | (with_reducible refine And.intro ?_ ?_) | ((with_reducible intro hq); first | (exact bne1 hq (by with_reducible assumption)) | (exact bne1 (by with_reducible assumption) hq) | ((simp only [*, Bool.and_true, Bool.true_and, Bool.and_false, Bool.false_and, Bool.or_true, Bool.true_or, Bool.or_false, Bool.false_or, Bool.not_true, Bool.not_false, Bool.true_eq_false, Bool.false_eq_true, cond_true, cond_false, Bool.cond_self, reduceCtorEq] at hq); done) | (revert hq; with_reducible intro _)) | (with_reducible exact True.intro) | (with_reducible rfl) | ((with_reducible refine WkX.chk ?_); (conv => whnf)) | ((with_reducible refine Wk.chk ?_); (conv => whnf)) | (with_reducible refine EntLe.row ?_) | (with_reducible exact LeN.ro rfl) | (with_reducible exact LeN.rptr) | ((with_reducible refine LeL.chk ?_); (conv => whnf)) | ((with_reducible show LeO _ _); (first | (refine LeO.ro ?_) | (refine LeO.roCap ?_) | (refine LeO.nil ?_ (fun _ => rfl)))) | ((with_reducible show LeR _ _ _); (first | (refine LeR.own rfl rfl rfl ?_) | (refine LeR.view rfl rfl rfl ?_ ?_) | (refine LeR.ro ?_) | (refine LeR.roCap ?_) | (refine LeR.nil ?_ (fun _ => rfl)))) | ((with_reducible refine LeF.chk ?_); (conv => whnf)) | (with_reducible assumption) | ((with_reducible refine Run.mk ?_); (conv => whnf)) | ((with_reducible show drawOK _ _ = true); kernel_rfl) | ((with_reducible show drawOK2 _ _ = true); kernel_rfl) | ((with_reducible show drawOK3 _ _ = true); kernel_rfl))
        all_goals first
          | omega
          | exact hN.symm
          | exact hE.symm
          | (simp only [e1, hd] at *; first | omega | exact hs1.1 | (apply Fits.i64 <;> omega))
          | trace_state
    · have hfa := fitAll_yes fun i hi => hfit i (by omega) hi
      have hE : badE s width way = 0 := by unfold badE; rw [if_neg (by simp [hck]), if_neg (by simp [hB]), if_pos hfa]
      have hN : badN s width way = sqS (linesL s way) width (linesL s way).length + cutS way way.length := by unfold badN; rw [hE, if_pos rfl]
      have hkt : decide ((k : Int) < ((linesL s way).length : Int)) = false := decide_eq_false (by omega)
      obtain rfl : k = (linesL s way).length := by omega
      repeat' (first | (with_reducible exact fun h => h) | (with_reducible refine ExE.row (by with_unfolding_all rfl) ?_) | (with_reducible refine And.intro ?_ ?_) | ((with_reducible intro hq); first | (exact bne1 hq (by with_reducible assumption)) | (exact bne1 (by with_reducible assumption) hq) | ((simp only [*, Bool.and_true, Bool.true_and, Bool.and_false, Bool.false_and, Bool.or_true, Bool.true_or, Bool.or_false, Bool.false_or, Bool.not_true, Bool.not_false, Bool.true_eq_false, Bool.false_eq_true, cond_true, cond_false, Bool.cond_self, reduceCtorEq] at hq); done) | (revert hq; with_reducible intro _)) | (with_reducible exact True.intro) | (with_reducible rfl) | ((with_reducible refine WkX.chk ?_); (conv => whnf)) | ((with_reducible refine Wk.chk ?_); (conv => whnf)) | (with_reducible refine EntLe.row ?_) | (with_reducible exact LeN.ro rfl) | (with_reducible exact LeN.rptr) | ((with_reducible refine LeL.chk ?_); (conv => whnf)) | ((with_reducible show LeO _ _); (first | (refine LeO.ro ?_) | (refine LeO.roCap ?_) | (refine LeO.nil ?_ (fun _ => rfl)))) | ((with_reducible show LeR _ _ _); (first | (refine LeR.own rfl rfl rfl ?_) | (refine LeR.view rfl rfl rfl ?_ ?_) | (refine LeR.ro ?_) | (refine LeR.roCap ?_) | (refine LeR.nil ?_ (fun _ => rfl)))) | ((with_reducible refine LeF.chk ?_); (conv => whnf)) | (with_reducible assumption) | ((with_reducible refine Run.mk ?_); (conv => whnf)) | ((with_reducible show drawOK _ _ = true); kernel_rfl) | ((with_reducible show drawOK2 _ _ = true); kernel_rfl) | ((with_reducible show drawOK3 _ _ = true); kernel_rfl))
      refine loopI (Nat × Unit) [] (fun | (k, _) => [(51, .v (.int .i64 (k : Nat))), (11, .v (.int .i64 (sqS (linesL s way) width (linesL s way).length + cutS way k)))]) (fun _ => []) (fun | (k, _) => k ≤ way.length)
        (fun | (k, _) => way.length - k) (0, ()) (Nat.zero_le _) (Wk.chk ?_) fun i hi => ?_
      · ((conv => whnf); repeat' (first | (with_reducible exact fun h => h) | (with_reducible refine ExE.row (by with_unfolding_all rfl) ?_) | (with_reducible refine And.intro ?_ ?_) | ((with_reducible intro hq); first | (exact bne1 hq (by with_reducible assumption)) | (exact bne1 (by with_reducible assumption) hq) | ((simp only [*, Bool.and_true, Bool.true_and, Bool.and_false, Bool.false_and, Bool.or_true, Bool.true_or, Bool.or_false, Bool.false_or, Bool.not_true, Bool.not_false, Bool.true_eq_false, Bool.false_eq_true, cond_true, cond_false, Bool.cond_self, reduceCtorEq] at hq); done) | (revert hq; with_reducible intro _)) | (with_reducible exact True.intro) | (with_reducible rfl) | ((with_reducible refine WkX.chk ?_); (conv => whnf)) | ((with_reducible refine Wk.chk ?_); (conv => whnf)) | (with_reducible refine EntLe.row ?_) | (with_reducible exact LeN.ro rfl) | (with_reducible exact LeN.rptr) | ((with_reducible refine LeL.chk ?_); (conv => whnf)) | ((with_reducible show LeO _ _); (first | (refine LeO.ro ?_) | (refine LeO.roCap ?_) | (refine LeO.nil ?_ (fun _ => rfl)))) | ((with_reducible show LeR _ _ _); (first | (refine LeR.own rfl rfl rfl ?_) | (refine LeR.view rfl rfl rfl ?_ ?_) | (refine LeR.ro ?_) | (refine LeR.roCap ?_) | (refine LeR.nil ?_ (fun _ => rfl)))) | ((with_reducible refine LeF.chk ?_); (conv => whnf)) | (with_reducible assumption) | ((with_reducible refine Run.mk ?_); (conv => whnf)) | ((with_reducible show drawOK _ _ = true); kernel_rfl) | ((with_reducible show drawOK2 _ _ = true); kernel_rfl) | ((with_reducible show drawOK3 _ _ = true); kernel_rfl)))
        all_goals first
          | rfl
          | (rw [show cutS way 0 = 0 from rfl]; omega)
          | trace_state
      obtain ⟨k, u⟩ := i
      have hk2 : k ≤ way.length := hi
      have e2 : ((k : Int)).toNat = k := Int.toNat_natCast _
      have hcd := cutS_bd way k
      have hcs := fun h => cutS_succ (way := way) (k := k) h
      have hcd2 := cutS_bd way (k + 1)
      repeat' (first | (with_reducible refine ex_of (α := Nat × Unit) (k + 1, ()) ⟨?_, ?_⟩ ?_) | (with_reducible exact fun h => h) | (with_reducible refine ExE.row (by with_unfolding_all rfl) ?_) | (with_reducible refine And.intro ?_ ?_) | ((with_reducible intro hq); first | (exact bne1 hq (by with_reducible assumption)) | (exact bne1 (by with_reducible assumption) hq) | ((simp only [*, Bool.and_true, Bool.true_and, Bool.and_false, Bool.false_and, Bool.or_true, Bool.true_or, Bool.or_false, Bool.false_or, Bool.not_true, Bool.not_false, Bool.true_eq_false, Bool.false_eq_true, cond_true, cond_false, Bool.cond_self, reduceCtorEq] at hq); done) | (revert hq; with_reducible intro _)) | (with_reducible exact True.intro) | (with_reducible rfl) | ((with_reducible refine WkX.chk ?_); (conv => whnf)) | ((with_reducible refine Wk.chk ?_); (conv => whnf)) | (with_reducible refine EntLe.row ?_) | (with_reducible exact LeN.ro rfl) | (with_reducible exact LeN.rptr) | ((with_reducible refine LeL.chk ?_); (conv => whnf)) | ((with_reducible show LeO _ _); (first | (refine LeO.ro ?_) | (refine LeO.roCap ?_) | (refine LeO.nil ?_ (fun _ => rfl)))) | ((with_reducible show LeR _ _ _); (first | (refine LeR.own rfl rfl rfl ?_) | (refine LeR.view rfl rfl rfl ?_ ?_) | (refine LeR.ro ?_) | (refine LeR.roCap ?_) | (refine LeR.nil ?_ (fun _ => rfl)))) | ((with_reducible refine LeF.chk ?_); (conv => whnf)) | (with_reducible assumption) | ((with_reducible refine Run.mk ?_); (conv => whnf)) | ((with_reducible show drawOK _ _ = true); kernel_rfl) | ((with_reducible show drawOK2 _ _ = true); kernel_rfl) | ((with_reducible show drawOK3 _ _ = true); kernel_rfl))
      all_goals first
        | (simp only [decide_eq_true_eq, decide_eq_false_iff_not, e2, hd2, beq_iff_eq, beq_eq_false_iff_ne] at *; first
          | omega
          | (show k + 1 ≤ way.length; omega)
          | (show way.length - (k + 1) < way.length - k; omega)
          | (apply Fits.i64 <;> omega)
          | (rw [hcs (by omega), if_pos (by assumption)]; omega)
          | (rw [hcs (by omega), if_neg (by assumption)]; omega)
          | (rw [hN, show k = way.length by omega]; done))
        | exact hE.symm
        | trace_state
end Go.SX.Try
/- The document's reading of a way, line by line. No program here. -/
namespace Go.SX.Plain
theorem rdL_sub (l : List Part) : ∀ (P : List Nat) (way : List (Int × Int)) (x : List Nat × Bool), rdL l P way = some x → x.1.Sublist P
  | [], way, x, h => by
    simp only [rdL, Option.some.injEq] at h
    subst h
    exact List.Sublist.refl _
  | p :: P, way, x, h => by
    simp only [rdL] at h
    split at h
    · obtain ⟨y, hy, rfl⟩ := Option.map_eq_some_iff.1 h
      exact (rdL_sub l P _ y hy).cons_cons p
    · split at h
      · cases h
      · exact (rdL_sub l P _ x h).cons p
theorem rdL_len (l : List Part) : ∀ (P : List Nat) (way : List (Int × Int)) (x : List Nat × Bool), rdL l P way = some x → x.2 = true → x.1.length = way.length
  | [], way, x, h, hx => by
    simp only [rdL, Option.some.injEq] at h
    subst h
    simp only [List.isEmpty_iff] at hx
    subst hx
    rfl
  | p :: P, way, x, h, hx => by
    simp only [rdL] at h
    split at h
    · rename_i hh
      obtain ⟨y, hy, rfl⟩ := Option.map_eq_some_iff.1 h
      have ih := rdL_len l P _ y hy hx
      cases way with
      | nil => simp at hh
      | cons a way =>
        simp only [List.tail_cons] at ih
        simp only [List.length_cons, ih]
    · split at h
      · cases h
      · exact rdL_len l P _ x h hx
def frO (R : List Nat) (i : Nat) : Nat := if i = 0 then 0 else R.getD (i - 1) 0
def toO (l : List Part) (R : List Nat) (i : Nat) : Nat := if i < R.length then R.getD i 0 else l.length
theorem segs_get (l : List Part) : ∀ (R : List Nat) (frm i : Nat), i ≤ R.length → (segs l R frm).getD i [] = segOf l (if i = 0 then frm else R.getD (i - 1) 0) (toO l R i)
  | [], frm, i, h => by
    obtain rfl : i = 0 := by simpa using h
    simp only [segs, toO, segOf, List.length_nil, Nat.lt_irrefl, if_false, if_true]
    rw [List.take_of_length_le (by simp)]
    rfl
  | p :: R, frm, 0, h => by
    simp [segs, toO, segOf]
  | p :: R, frm, i + 1, h => by
    have ih := segs_get l R p i (by simpa using h)
    simp only [segs, List.getD_cons_succ]
    rw [ih]
    have h1 : toO l (p :: R) (i + 1) = toO l R i := by
      unfold toO
      simp only [List.length_cons, List.getD_cons_succ]
      by_cases hi : i < R.length
      · rw [if_pos hi, if_pos (by omega)]
      · rw [if_neg hi, if_neg (by omega)]
    rw [h1, if_neg (show ¬ i + 1 = 0 by omega), Nat.add_sub_cancel]
    congr 1
    cases i with
    | zero => rfl
    | succ i => simp
/-- A way that was read: the parts at which its lines begin. -/
structure ReadR (s : ByteArray) (way : List (Int × Int)) (R : List Nat) : Prop where
  rd : rdW (parts s) way = some (R, true)
  lines : linesL s way = segs (parts s) R 0
  len : R.length = way.length
  frm : ∀ i, i ≤ R.length → frO R i ≤ toO (parts s) R i
  to : ∀ i, toO (parts s) R i ≤ (parts s).length
  get : ∀ i, i ≤ R.length → (linesL s way).getD i [] = segOf (parts s) (frO R i) (toO (parts s) R i)
theorem read_of {s : ByteArray} {way : List (Int × Int)} (h : linesB s way = true) : ∃ R, ReadR s way R := by
  unfold linesB at h
  rw [lnW_rd] at h
  cases hr : rdW (parts s) way with
  | none => rw [hr] at h; cases h
  | some x =>
    obtain ⟨R, b⟩ := x
    rw [hr] at h
    have hb : b = true := h
    subst hb
    have h1 : linesL s way = segs (parts s) R 0 := by
      unfold linesL
      rw [lnW_rd, hr]
      rfl
    have hsub : R.Sublist (List.range' 1 (parts s).length) := by
      have := rdL_sub _ _ _ _ hr
      rwa [upTo_eq] at this
    have hpw : R.Pairwise (· < ·) := List.Pairwise.sublist hsub List.pairwise_lt_range'
    have hmem : ∀ p ∈ R, 1 ≤ p ∧ p ≤ (parts s).length := fun p hp => by
      have := List.mem_range'_1.1 (hsub.subset hp)
      omega
    have hat : ∀ i, i < R.length → 1 ≤ R.getD i 0 ∧ R.getD i 0 ≤ (parts s).length := fun i hi => hmem _ (getD_mem hi)
    refine ⟨R, hr, h1, rdL_len _ _ _ _ hr rfl, fun i hi => ?_, fun i => ?_, fun i hi => ?_⟩
    · unfold frO toO
      by_cases h0 : i = 0
      · rw [if_pos h0]; exact Nat.zero_le _
      · rw [if_neg h0]
        by_cases h2 : i < R.length
        · rw [if_pos h2]
          exact Nat.le_of_lt (sorted_lt hpw (by omega) h2)
        · rw [if_neg h2]
          exact (hat (i - 1) (by omega)).2
    · unfold toO
      split
      · exact (hat _ (by assumption)).2
      · exact Nat.le_refl _
    · rw [h1, segs_get _ R 0 i hi]
      rfl
end Go.SX.Plain
/- Contract of the document's Badness. -/
namespace Go.SX.Try
open Go.Proofs Go.Proofs.Try Go.SX.Plain
set_option maxRecDepth 100000
set_option maxHeartbeats 0
set_option linter.unusedSimpArgs false
theorem q_rbadness : fact 26 f26 := ⟨by kernel_rfl, rfl, by kernel_rfl⟩
theorem readL_of {s : ByteArray} {way : List (Int × Int)} {R : List Nat} (h : ReadR s way R) : readL s way = castL R := by
  unfold readL
  rw [h.rd]
  rfl
def frE (l : List Part) (R : List Nat) (k : Nat) : Nat := if k ≤ R.length then frO R k else l.length
theorem castL_get (R : List Nat) (i : Nat) : (castL R).getD i 0 = ((R.getD i 0 : Nat) : Int) := getD_map (fun (i : Nat) => (i : Int)) R 0 i
theorem con_rbadness : Con prog 26 (fun ((s, width, way) : ByteArray × Int × List (Int × Int)) => [.v (.string s), .v (.int .i64 width), .ro 2 C_brk.enc C_brk.d way none true])
    (fun (s, width, way) => .tup [.v (.int .i64 (badN s width way)), .v (.int .i64 (badE s width way))]) (fun _ => True) := by
  refine Con.of (by kernel_rfl) T_ok CdsOK.nil (.con con_rcheck (.con con_pieces (.con con_read (.con con_line .nil)))) 3 [] q_rbadness.1 q_rbadness.2.1 q_rbadness.2.2 (fun _ => rfl) fun i hi => ?_
  obtain ⟨s, width, way⟩ := i
  have hpc : pcs s = (Plain.parts s).map pcOf := rfl
  by_cases hck : checkN s.size width = 0
  case neg =>
    have hE : badE s width way = checkN s.size width := by unfold badE; rw [if_pos hck]
    have hN : badN s width way = 0 := by unfold badN; rw [hE, if_neg hck]
    repeat' (first | (with_reducible refine ⟨(_, _), ⟨(.cons (.v _) (.cons (.v _) .nil)), ?_⟩, ?_⟩) | (with_reducible refine ⟨(_, _), ⟨(.cons (.ro _ _ _ _ _) (.cons (.lent _ _ _ _ _ _) .nil)), ?_⟩, ?_⟩) | (with_reducible refine ⟨_, ⟨(.cons (.v _) .nil), ?_⟩, ?_⟩) | (with_reducible exact fun h => h) | (with_reducible refine ExE.row (by with_unfolding_all rfl) ?_) | (with_reducible refine And.intro ?_ ?_) | ((with_reducible intro hq); first | (exact bne1 hq (by with_reducible assumption)) | (exact bne1 (by with_reducible assumption) hq) | ((simp only [*, Bool.and_true, Bool.true_and, Bool.and_false, Bool.false_and, Bool.or_true, Bool.true_or, Bool.or_false, Bool.false_or, Bool.not_true, Bool.not_false, Bool.true_eq_false, Bool.false_eq_true, cond_true, cond_false, Bool.cond_self, reduceCtorEq] at hq); done) | (revert hq; with_reducible intro _)) | (with_reducible exact True.intro) | (with_reducible rfl) | ((with_reducible refine WkX.chk ?_); (conv => whnf)) | ((with_reducible refine Wk.chk ?_); (conv => whnf)) | (with_reducible refine EntLe.row ?_) | (with_reducible exact LeN.ro rfl) | (with_reducible exact LeN.rptr) | ((with_reducible refine LeL.chk ?_); (conv => whnf)) | ((with_reducible show LeO _ _); (first | (refine LeO.ro ?_) | (refine LeO.roCap ?_) | (refine LeO.nil ?_ (fun _ => rfl)))) | ((with_reducible show LeR _ _ _); (first | (refine LeR.own rfl rfl rfl ?_) | (refine LeR.view rfl rfl rfl ?_ ?_) | (refine LeR.ro ?_) | (refine LeR.roCap ?_) | (refine LeR.nil ?_ (fun _ => rfl)))) | ((with_reducible refine LeF.chk ?_); (conv => whnf)) | (with_reducible assumption) | ((with_reducible refine Run.mk ?_); (conv => whnf)) | ((with_reducible show drawOK _ _ = true); kernel_rfl) | ((with_reducible show drawOK2 _ _ = true); kernel_rfl) | ((with_reducible show drawOK3 _ _ = true); kernel_rfl))
    all_goals first
      | exact hN.symm
      | exact hE.symm
      | (exfalso; simp_all; done)
      | trace_state
  obtain ⟨hok, hw1, hw2, hsz⟩ := okParts hck
  have hpl := parts_len s
  cases hB : linesB s way with
  | false =>
    have hE : badE s width way = 1 := by unfold badE; rw [if_neg (by simp [hck]), if_pos hB]
    have hN : badN s width way = 0 := by unfold badN; rw [hE, if_neg (by decide)]
    repeat' (first | (with_reducible refine ⟨(_, _), ⟨(.cons (.v _) (.cons (.v _) .nil)), ?_⟩, ?_⟩) | (with_reducible refine ⟨(_, _), ⟨(.cons (.ro _ _ _ _ _) (.cons (.lent _ _ _ _ _ _) .nil)), ?_⟩, ?_⟩) | (with_reducible refine ⟨_, ⟨(.cons (.v _) .nil), ?_⟩, ?_⟩) | (with_reducible exact fun h => h) | (with_reducible refine ExE.row (by with_unfolding_all rfl) ?_) | (with_reducible refine And.intro ?_ ?_) | ((with_reducible intro hq); first | (exact bne1 hq (by with_reducible assumption)) | (exact bne1 (by with_reducible assumption) hq) | ((simp only [*, Bool.and_true, Bool.true_and, Bool.and_false, Bool.false_and, Bool.or_true, Bool.true_or, Bool.or_false, Bool.false_or, Bool.not_true, Bool.not_false, Bool.true_eq_false, Bool.false_eq_true, cond_true, cond_false, Bool.cond_self, reduceCtorEq] at hq); done) | (revert hq; with_reducible intro _)) | (with_reducible exact True.intro) | (with_reducible rfl) | ((with_reducible refine WkX.chk ?_); (conv => whnf)) | ((with_reducible refine Wk.chk ?_); (conv => whnf)) | (with_reducible refine EntLe.row ?_) | (with_reducible exact LeN.ro rfl) | (with_reducible exact LeN.rptr) | ((with_reducible refine LeL.chk ?_); (conv => whnf)) | ((with_reducible show LeO _ _); (first | (refine LeO.ro ?_) | (refine LeO.roCap ?_) | (refine LeO.nil ?_ (fun _ => rfl)))) | ((with_reducible show LeR _ _ _); (first | (refine LeR.own rfl rfl rfl ?_) | (refine LeR.view rfl rfl rfl ?_ ?_) | (refine LeR.ro ?_) | (refine LeR.roCap ?_) | (refine LeR.nil ?_ (fun _ => rfl)))) | ((with_reducible refine LeF.chk ?_); (conv => whnf)) | (with_reducible assumption) | ((with_reducible refine Run.mk ?_); (conv => whnf)) | ((with_reducible show drawOK _ _ = true); kernel_rfl) | ((with_reducible show drawOK2 _ _ = true); kernel_rfl) | ((with_reducible show drawOK3 _ _ = true); kernel_rfl))
    all_goals first
      | exact hN.symm
      | exact hE.symm
      | (dsimp only; omega)
      | (exfalso; simp_all; done)
      | trace_state
  | true =>
    obtain ⟨R, hR⟩ := read_of hB
    have hRL := readL_of hR
    obtain ⟨hwl, hLl⟩ := linesB_way hB
    have hsm := linesL_small s way
    have hcb : ∀ y ∈ linesL s way, 0 ≤ cellsL y := fun y hy => (cellsL_bd (hsm y hy).1).1
    have hnz : (checkN s.size width != 0) = false := by rw [hck]; rfl
    have hnb : (!linesB s way) = false := by rw [hB]; rfl
    have hd2 : C_brk.d = (0, 0) := rfl
    have hd1 : C_int.d = 0 := rfl
    have hrl : (castL R).length = R.length := by simp [castL]
    repeat' (first | (with_reducible refine ⟨(_, _), ⟨(.cons (.v _) (.cons (.v _) .nil)), ?_⟩, ?_⟩) | (with_reducible refine ⟨(s, way), ⟨(.cons (.ro _ _ _ _ _) (.cons (.lent _ _ _ _ _ _) .nil)), ?_⟩, ?_⟩) | (with_reducible refine ⟨_, ⟨(.cons (.v _) .nil), ?_⟩, ?_⟩) | (with_reducible exact fun h => h) | (with_reducible refine ExE.row (by with_unfolding_all rfl) ?_) | (with_reducible refine And.intro ?_ ?_) | ((with_reducible intro hq); first | (exact bne1 hq (by with_reducible assumption)) | (exact bne1 (by with_reducible assumption) hq) | ((simp only [*, Bool.and_true, Bool.true_and, Bool.and_false, Bool.false_and, Bool.or_true, Bool.true_or, Bool.or_false, Bool.false_or, Bool.not_true, Bool.not_false, Bool.true_eq_false, Bool.false_eq_true, cond_true, cond_false, Bool.cond_self, reduceCtorEq] at hq); done) | (revert hq; with_reducible intro _)) | (with_reducible exact True.intro) | (with_reducible rfl) | ((with_reducible refine WkX.chk ?_); (conv => whnf)) | ((with_reducible refine Wk.chk ?_); (conv => whnf)) | (with_reducible refine EntLe.row ?_) | (with_reducible exact LeN.ro rfl) | (with_reducible exact LeN.rptr) | ((with_reducible refine LeL.chk ?_); (conv => whnf)) | ((with_reducible show LeO _ _); (first | (refine LeO.ro ?_) | (refine LeO.roCap ?_) | (refine LeO.nil ?_ (fun _ => rfl)))) | ((with_reducible show LeR _ _ _); (first | (refine LeR.own rfl rfl rfl ?_) | (refine LeR.view rfl rfl rfl ?_ ?_) | (refine LeR.ro ?_) | (refine LeR.roCap ?_) | (refine LeR.nil ?_ (fun _ => rfl)))) | ((with_reducible refine LeF.chk ?_); (conv => whnf)) | (with_reducible assumption) | ((with_reducible refine Run.mk ?_); (conv => whnf)) | ((with_reducible show drawOK _ _ = true); kernel_rfl) | ((with_reducible show drawOK2 _ _ = true); kernel_rfl) | ((with_reducible show drawOK3 _ _ = true); kernel_rfl))
    all_goals (try (dsimp only; omega))
    have hfull : ∀ k, k < (linesL s way).length → ¬ cellsL ((linesL s way).getD k []) ≤ width → badE s width way = 35 ∧ badN s width way = 0 := fun k h1 h2 => by
      have hff := fitAll_no h1 h2
      have hE : badE s width way = 35 := by unfold badE; rw [if_neg (by simp [hck]), if_neg (by simp [hB]), if_neg (by simp [hff])]
      refine ⟨hE, ?_⟩
      unfold badN; rw [hE, if_neg (by decide)]
    have hrn := hR.len
    refine loopI Nat [] (fun k => [(14, .v (.int .i64 (k : Nat))), (12, .v (.int .i64 (sqS (linesL s way) width k + cutS way k))), (13, .v (.int .i64 (frE (Plain.parts s) R k : Nat)))]) (fun _ => []) (fun k => k ≤ R.length + 1 ∧ ∀ i, i < k → i < (linesL s way).length → cellsL ((linesL s way).getD i []) ≤ width)
      (fun k => R.length + 1 - k) 0 ⟨Nat.zero_le _, fun i hi => by omega⟩ (Wk.chk ?_) fun k hk => ?_
    · ((conv => whnf); repeat' (first | (with_reducible exact fun h => h) | (with_reducible refine ExE.row (by with_unfolding_all rfl) ?_) | (with_reducible refine And.intro ?_ ?_) | ((with_reducible intro hq); first | (exact bne1 hq (by with_reducible assumption)) | (exact bne1 (by with_reducible assumption) hq) | ((simp only [*, Bool.and_true, Bool.true_and, Bool.and_false, Bool.false_and, Bool.or_true, Bool.true_or, Bool.or_false, Bool.false_or, Bool.not_true, Bool.not_false, Bool.true_eq_false, Bool.false_eq_true, cond_true, cond_false, Bool.cond_self, reduceCtorEq] at hq); done) | (revert hq; with_reducible intro _)) | (with_reducible exact True.intro) | (with_reducible rfl) | ((with_reducible refine WkX.chk ?_); (conv => whnf)) | ((with_reducible refine Wk.chk ?_); (conv => whnf)) | (with_reducible refine EntLe.row ?_) | (with_reducible exact LeN.ro rfl) | (with_reducible exact LeN.rptr) | ((with_reducible refine LeL.chk ?_); (conv => whnf)) | ((with_reducible show LeO _ _); (first | (refine LeO.ro ?_) | (refine LeO.roCap ?_) | (refine LeO.nil ?_ (fun _ => rfl)))) | ((with_reducible show LeR _ _ _); (first | (refine LeR.own rfl rfl rfl ?_) | (refine LeR.view rfl rfl rfl ?_ ?_) | (refine LeR.ro ?_) | (refine LeR.roCap ?_) | (refine LeR.nil ?_ (fun _ => rfl)))) | ((with_reducible refine LeF.chk ?_); (conv => whnf)) | (with_reducible assumption) | ((with_reducible refine Run.mk ?_); (conv => whnf)) | ((with_reducible show drawOK _ _ = true); kernel_rfl) | ((with_reducible show drawOK2 _ _ = true); kernel_rfl) | ((with_reducible show drawOK3 _ _ = true); kernel_rfl)))
      all_goals rfl
    obtain ⟨hk, hfit⟩ := hk
    have e1 : ((k : Int)).toNat = k := Int.toNat_natCast _
    have hbd := sqS_bd hw2 hcb k hfit
    have hcd := cutS_bd way k
    by_cases hkl : k ≤ R.length
    case neg =>
      have hfa := fitAll_yes fun i hi => hfit i (by omega) hi
      have hE : badE s width way = 0 := by unfold badE; rw [if_neg (by simp [hck]), if_neg (by simp [hB]), if_pos hfa]
      have hN : badN s width way = sqS (linesL s way) width (linesL s way).length + cutS way way.length := by unfold badN; rw [hE, if_pos rfl]
      have hkt : decide ((k : Int) ≤ ((readL s way).length : Int)) = false := decide_eq_false (by rw [hRL, hrl]; omega)
      obtain rfl : k = R.length + 1 := by omega
      have hc1 : cutS way (R.length + 1) = cutS way way.length := by
        unfold cutS
        rw [List.take_of_length_le (by omega), List.take_of_length_le (by omega)]
      repeat' (first | (with_reducible exact fun h => h) | (with_reducible refine ExE.row (by with_unfolding_all rfl) ?_) | (with_reducible refine And.intro ?_ ?_) | ((with_reducible intro hq); first | (exact bne1 hq (by with_reducible assumption)) | (exact bne1 (by with_reducible assumption) hq) | ((simp only [*, Bool.and_true, Bool.true_and, Bool.and_false, Bool.false_and, Bool.or_true, Bool.true_or, Bool.or_false, Bool.false_or, Bool.not_true, Bool.not_false, Bool.true_eq_false, Bool.false_eq_true, cond_true, cond_false, Bool.cond_self, reduceCtorEq] at hq); done) | (revert hq; with_reducible intro _)) | (with_reducible exact True.intro) | (with_reducible rfl) | ((with_reducible refine WkX.chk ?_); (conv => whnf)) | ((with_reducible refine Wk.chk ?_); (conv => whnf)) | (with_reducible refine EntLe.row ?_) | (with_reducible exact LeN.ro rfl) | (with_reducible exact LeN.rptr) | ((with_reducible refine LeL.chk ?_); (conv => whnf)) | ((with_reducible show LeO _ _); (first | (refine LeO.ro ?_) | (refine LeO.roCap ?_) | (refine LeO.nil ?_ (fun _ => rfl)))) | ((with_reducible show LeR _ _ _); (first | (refine LeR.own rfl rfl rfl ?_) | (refine LeR.view rfl rfl rfl ?_ ?_) | (refine LeR.ro ?_) | (refine LeR.roCap ?_) | (refine LeR.nil ?_ (fun _ => rfl)))) | ((with_reducible refine LeF.chk ?_); (conv => whnf)) | (with_reducible assumption) | ((with_reducible refine Run.mk ?_); (conv => whnf)) | ((with_reducible show drawOK _ _ = true); kernel_rfl) | ((with_reducible show drawOK2 _ _ = true); kernel_rfl) | ((with_reducible show drawOK3 _ _ = true); kernel_rfl))
      all_goals first
        | (rw [hN, hLl, ← hrn, hc1, hrn]; done)
        | exact hE.symm
        | trace_state
    have hkt : decide ((k : Int) ≤ ((readL s way).length : Int)) = true := decide_eq_true (by rw [hRL, hrl]; omega)
    have hfe : frE (Plain.parts s) R k = frO R k := by unfold frE; rw [if_pos hkl]
    have e2 : ((frE (Plain.parts s) R k : Nat) : Int).toNat = frO R k := by rw [hfe]; exact Int.toNat_natCast _
    have hmem := getD_memL (l := linesL s way) (k := k) [] (by omega)
    have hs1 := hsm _ hmem
    have hs2 := cellsL_bd hs1.1
    have hsq := sqS_succ (L := linesL s way) (width := width) (k := k) (by omega)
    have hget := hR.get k hkl
    have hft := hR.frm k hkl
    have hto := hR.to k
    have hcut : cutS way (k + 1) = cutS way k + if k < R.length ∧ (way.getD k (0, 0)).2 = 3 then 1048576 else 0 := by
      by_cases h : k < R.length
      · rw [cutS_succ (by omega)]
        simp only [h, true_and]
      · rw [if_neg (fun hc => h hc.1)]
        unfold cutS
        rw [List.take_of_length_le (by omega), List.take_of_length_le (by omega)]
        omega
    have hcd2 := cutS_bd way (k + 1)
    have hfr : frE (Plain.parts s) R (k + 1) = if k < R.length then R.getD k 0 else (Plain.parts s).length := by
      unfold frE frO
      by_cases h : k < R.length
      · rw [if_pos h, if_pos (by omega), if_neg (by omega), Nat.add_sub_cancel]
      · rw [if_neg h, if_neg (by omega)]
    have hfit2 : cellsL ((linesL s way).getD k []) ≤ width → ∀ ii, ii < k + 1 → ii < (linesL s way).length → cellsL ((linesL s way).getD ii []) ≤ width := fun hf ii h1 h2 => by
      by_cases hik : ii = k
      · subst hik; exact hf
      · exact hfit ii (by omega) h2
    by_cases hkr : k < R.length
    · rw [if_pos hkr] at hfr
      have htO : toO (Plain.parts s) R k = R.getD k 0 := by unfold toO; rw [if_pos hkr]
      have hkt2 : decide ((k : Int) < ((readL s way).length : Int)) = true := decide_eq_true (by rw [hRL, hrl]; omega)
      have hEe : (readL s way).getD ((k : Int)).toNat C_int.d = ((R.getD k 0 : Nat) : Int) := by rw [e1, hd1, hRL, castL_get]
      have hEn : ((readL s way).getD ((k : Int)).toNat C_int.d).toNat = toO (Plain.parts s) R k := by rw [hEe, htO]; exact Int.toNat_natCast _
      have hcl : cellsL (segOf (Plain.parts s) ((frE (Plain.parts s) R k : Nat) : Int).toNat ((readL s way).getD ((k : Int)).toNat C_int.d).toNat) = cellsL ((linesL s way).getD k []) := by rw [hget, e2, hEn]
      by_cases hfk : cellsL ((linesL s way).getD k []) ≤ width
      · have hlt : decide (width < cellsL (segOf (Plain.parts s) ((frE (Plain.parts s) R k : Nat) : Int).toNat ((readL s way).getD ((k : Int)).toNat C_int.d).toNat)) = false := decide_eq_false (by rw [hcl]; omega)
        have hsqb := sq_bd (x := width - cellsL ((linesL s way).getD k [])) (y := 200) (by omega) (by omega)
        repeat' (first | (with_reducible refine ⟨(Plain.parts s, _, _), ⟨(.cons (.ro _ _ _ _ _) (.cons (.v _) (.cons (.v _) .nil))), ?_⟩, ?_⟩) | (with_reducible refine ex_of (α := Nat) (k + 1) ⟨⟨?_, ?_⟩, ?_⟩ ?_) | (with_reducible exact fun h => h) | (with_reducible refine ExE.row (by with_unfolding_all rfl) ?_) | (with_reducible refine And.intro ?_ ?_) | ((with_reducible intro hq); first | (exact bne1 hq (by with_reducible assumption)) | (exact bne1 (by with_reducible assumption) hq) | ((simp only [*, Bool.and_true, Bool.true_and, Bool.and_false, Bool.false_and, Bool.or_true, Bool.true_or, Bool.or_false, Bool.false_or, Bool.not_true, Bool.not_false, Bool.true_eq_false, Bool.false_eq_true, cond_true, cond_false, Bool.cond_self, reduceCtorEq] at hq); done) | (revert hq; with_reducible intro _)) | (with_reducible exact True.intro) | (with_reducible rfl) | ((with_reducible refine WkX.chk ?_); (conv => whnf)) | ((with_reducible refine Wk.chk ?_); (conv => whnf)) | (with_reducible refine EntLe.row ?_) | (with_reducible exact LeN.ro rfl) | (with_reducible exact LeN.rptr) | ((with_reducible refine LeL.chk ?_); (conv => whnf)) | ((with_reducible show LeO _ _); (first | (refine LeO.ro ?_) | (refine LeO.roCap ?_) | (refine LeO.nil ?_ (fun _ => rfl)))) | ((with_reducible show LeR _ _ _); (first | (refine LeR.own rfl rfl rfl ?_) | (refine LeR.view rfl rfl rfl ?_ ?_) | (refine LeR.ro ?_) | (refine LeR.roCap ?_) | (refine LeR.nil ?_ (fun _ => rfl)))) | ((with_reducible refine LeF.chk ?_); (conv => whnf)) | (with_reducible assumption) | ((with_reducible refine Run.mk ?_); (conv => whnf)) | ((with_reducible show drawOK _ _ = true); kernel_rfl) | ((with_reducible show drawOK2 _ _ = true); kernel_rfl) | ((with_reducible show drawOK3 _ _ = true); kernel_rfl))
        all_goals (try simp only [hcl] at *)
        all_goals (try simp only [e1, hd2, beq_iff_eq, beq_eq_false_iff_ne, ne_eq, decide_eq_true_eq] at *)
        all_goals first
          | omega
          | (apply Fits.i64 <;> omega)
          | exact parts_told s _ (by assumption)
          | exact parts_small s
          | (rw [hsq, hcut, if_pos ⟨by omega, by assumption⟩]; omega)
          | (rw [hsq, hcut, if_neg (fun hc => absurd hc.2 (by assumption))]; omega)
          | (rw [hsq, hcut, if_neg (fun hc => absurd hc.1 hkr)]; omega)
          | exact hfit2 hfk _ (by assumption) (by assumption)
          | trace_state
      · obtain ⟨hE, hN⟩ := hfull k (by omega) hfk
        have hlt : decide (width < cellsL (segOf (Plain.parts s) ((frE (Plain.parts s) R k : Nat) : Int).toNat ((readL s way).getD ((k : Int)).toNat C_int.d).toNat)) = true := decide_eq_true (by rw [hcl]; omega)
        repeat' (first | (with_reducible refine ⟨(Plain.parts s, _, _), ⟨(.cons (.ro _ _ _ _ _) (.cons (.v _) (.cons (.v _) .nil))), ?_⟩, ?_⟩) | (with_reducible refine ex_of (α := Nat) (k + 1) ⟨⟨?_, ?_⟩, ?_⟩ ?_) | (with_reducible exact fun h => h) | (with_reducible refine ExE.row (by with_unfolding_all rfl) ?_) | (with_reducible refine And.intro ?_ ?_) | ((with_reducible intro hq); first | (exact bne1 hq (by with_reducible assumption)) | (exact bne1 (by with_reducible assumption) hq) | ((simp only [*, Bool.and_true, Bool.true_and, Bool.and_false, Bool.false_and, Bool.or_true, Bool.true_or, Bool.or_false, Bool.false_or, Bool.not_true, Bool.not_false, Bool.true_eq_false, Bool.false_eq_true, cond_true, cond_false, Bool.cond_self, reduceCtorEq] at hq); done) | (revert hq; with_reducible intro _)) | (with_reducible exact True.intro) | (with_reducible rfl) | ((with_reducible refine WkX.chk ?_); (conv => whnf)) | ((with_reducible refine Wk.chk ?_); (conv => whnf)) | (with_reducible refine EntLe.row ?_) | (with_reducible exact LeN.ro rfl) | (with_reducible exact LeN.rptr) | ((with_reducible refine LeL.chk ?_); (conv => whnf)) | ((with_reducible show LeO _ _); (first | (refine LeO.ro ?_) | (refine LeO.roCap ?_) | (refine LeO.nil ?_ (fun _ => rfl)))) | ((with_reducible show LeR _ _ _); (first | (refine LeR.own rfl rfl rfl ?_) | (refine LeR.view rfl rfl rfl ?_ ?_) | (refine LeR.ro ?_) | (refine LeR.roCap ?_) | (refine LeR.nil ?_ (fun _ => rfl)))) | ((with_reducible refine LeF.chk ?_); (conv => whnf)) | (with_reducible assumption) | ((with_reducible refine Run.mk ?_); (conv => whnf)) | ((with_reducible show drawOK _ _ = true); kernel_rfl) | ((with_reducible show drawOK2 _ _ = true); kernel_rfl) | ((with_reducible show drawOK3 _ _ = true); kernel_rfl))
        all_goals (try simp only [hcl] at *)
        all_goals (try simp only [e1, hd2, beq_iff_eq, beq_eq_false_iff_ne, ne_eq, decide_eq_true_eq] at *)
        all_goals first
          | omega
          | exact hN.symm
          | exact hE.symm
          | (apply Fits.i64 <;> omega)
          | exact parts_told s _ (by assumption)
          | exact parts_small s
          | trace_state
    · rw [if_neg hkr] at hfr
      obtain rfl : k = R.length := by omega
      have htO : toO (Plain.parts s) R R.length = (Plain.parts s).length := by unfold toO; rw [if_neg (Nat.lt_irrefl _)]
      have hkt2 : decide (((R.length : Nat) : Int) < ((readL s way).length : Int)) = false := decide_eq_false (by rw [hRL, hrl]; omega)
      have hpl2 : (pcs s).length = (Plain.parts s).length := by simp [pcs]
      have hEn : (((pcs s).length : Nat) : Int).toNat = toO (Plain.parts s) R R.length := by rw [htO, hpl2]; exact Int.toNat_natCast _
      have hcl : cellsL (segOf (Plain.parts s) ((frE (Plain.parts s) R R.length : Nat) : Int).toNat (((pcs s).length : Nat) : Int).toNat) = cellsL ((linesL s way).getD R.length []) := by rw [hget, e2, hEn]
      by_cases hfk : cellsL ((linesL s way).getD R.length []) ≤ width
      · have hlt : decide (width < cellsL (segOf (Plain.parts s) ((frE (Plain.parts s) R R.length : Nat) : Int).toNat (((pcs s).length : Nat) : Int).toNat)) = false := decide_eq_false (by rw [hcl]; omega)
        have hsqb := sq_bd (x := width - cellsL ((linesL s way).getD R.length [])) (y := 200) (by omega) (by omega)
        repeat' (first | (with_reducible refine ⟨(Plain.parts s, _, _), ⟨(.cons (.ro _ _ _ _ _) (.cons (.v _) (.cons (.v _) .nil))), ?_⟩, ?_⟩) | (with_reducible refine ex_of (α := Nat) (R.length + 1) ⟨⟨?_, ?_⟩, ?_⟩ ?_) | (with_reducible exact fun h => h) | (with_reducible refine ExE.row (by with_unfolding_all rfl) ?_) | (with_reducible refine And.intro ?_ ?_) | ((with_reducible intro hq); first | (exact bne1 hq (by with_reducible assumption)) | (exact bne1 (by with_reducible assumption) hq) | ((simp only [*, Bool.and_true, Bool.true_and, Bool.and_false, Bool.false_and, Bool.or_true, Bool.true_or, Bool.or_false, Bool.false_or, Bool.not_true, Bool.not_false, Bool.true_eq_false, Bool.false_eq_true, cond_true, cond_false, Bool.cond_self, reduceCtorEq] at hq); done) | (revert hq; with_reducible intro _)) | (with_reducible exact True.intro) | (with_reducible rfl) | ((with_reducible refine WkX.chk ?_); (conv => whnf)) | ((with_reducible refine Wk.chk ?_); (conv => whnf)) | (with_reducible refine EntLe.row ?_) | (with_reducible exact LeN.ro rfl) | (with_reducible exact LeN.rptr) | ((with_reducible refine LeL.chk ?_); (conv => whnf)) | ((with_reducible show LeO _ _); (first | (refine LeO.ro ?_) | (refine LeO.roCap ?_) | (refine LeO.nil ?_ (fun _ => rfl)))) | ((with_reducible show LeR _ _ _); (first | (refine LeR.own rfl rfl rfl ?_) | (refine LeR.view rfl rfl rfl ?_ ?_) | (refine LeR.ro ?_) | (refine LeR.roCap ?_) | (refine LeR.nil ?_ (fun _ => rfl)))) | ((with_reducible refine LeF.chk ?_); (conv => whnf)) | (with_reducible assumption) | ((with_reducible refine Run.mk ?_); (conv => whnf)) | ((with_reducible show drawOK _ _ = true); kernel_rfl) | ((with_reducible show drawOK2 _ _ = true); kernel_rfl) | ((with_reducible show drawOK3 _ _ = true); kernel_rfl))
        all_goals (try simp only [hcl] at *)
        all_goals (try simp only [e1, hd2, beq_iff_eq, beq_eq_false_iff_ne, ne_eq, decide_eq_true_eq] at *)
        all_goals first
          | omega
          | (apply Fits.i64 <;> omega)
          | exact parts_told s _ (by assumption)
          | exact parts_small s
          | (rw [hsq, hcut, if_pos ⟨by omega, by assumption⟩]; omega)
          | (rw [hsq, hcut, if_neg (fun hc => absurd hc.2 (by assumption))]; omega)
          | (rw [hsq, hcut, if_neg (fun hc => absurd hc.1 hkr)]; omega)
          | exact hfit2 hfk _ (by assumption) (by assumption)
          | trace_state
      · obtain ⟨hE, hN⟩ := hfull R.length (by omega) hfk
        have hlt : decide (width < cellsL (segOf (Plain.parts s) ((frE (Plain.parts s) R R.length : Nat) : Int).toNat ((((pcs s).length : Nat) : Int)).toNat)) = true := decide_eq_true (by rw [hcl]; omega)
        repeat' (first | (with_reducible refine ⟨(Plain.parts s, _, _), ⟨(.cons (.ro _ _ _ _ _) (.cons (.v _) (.cons (.v _) .nil))), ?_⟩, ?_⟩) | (with_reducible refine ex_of (α := Nat) (R.length + 1) ⟨⟨?_, ?_⟩, ?_⟩ ?_) | (with_reducible exact fun h => h) | (with_reducible refine ExE.row (by with_unfolding_all rfl) ?_) | (with_reducible refine And.intro ?_ ?_) | ((with_reducible intro hq); first | (exact bne1 hq (by with_reducible assumption)) | (exact bne1 (by with_reducible assumption) hq) | ((simp only [*, Bool.and_true, Bool.true_and, Bool.and_false, Bool.false_and, Bool.or_true, Bool.true_or, Bool.or_false, Bool.false_or, Bool.not_true, Bool.not_false, Bool.true_eq_false, Bool.false_eq_true, cond_true, cond_false, Bool.cond_self, reduceCtorEq] at hq); done) | (revert hq; with_reducible intro _)) | (with_reducible exact True.intro) | (with_reducible rfl) | ((with_reducible refine WkX.chk ?_); (conv => whnf)) | ((with_reducible refine Wk.chk ?_); (conv => whnf)) | (with_reducible refine EntLe.row ?_) | (with_reducible exact LeN.ro rfl) | (with_reducible exact LeN.rptr) | ((with_reducible refine LeL.chk ?_); (conv => whnf)) | ((with_reducible show LeO _ _); (first | (refine LeO.ro ?_) | (refine LeO.roCap ?_) | (refine LeO.nil ?_ (fun _ => rfl)))) | ((with_reducible show LeR _ _ _); (first | (refine LeR.own rfl rfl rfl ?_) | (refine LeR.view rfl rfl rfl ?_ ?_) | (refine LeR.ro ?_) | (refine LeR.roCap ?_) | (refine LeR.nil ?_ (fun _ => rfl)))) | ((with_reducible refine LeF.chk ?_); (conv => whnf)) | (with_reducible assumption) | ((with_reducible refine Run.mk ?_); (conv => whnf)) | ((with_reducible show drawOK _ _ = true); kernel_rfl) | ((with_reducible show drawOK2 _ _ = true); kernel_rfl) | ((with_reducible show drawOK3 _ _ = true); kernel_rfl))
        all_goals (try simp only [hcl] at *)
        all_goals (try simp only [e1, hd2, beq_iff_eq, beq_eq_false_iff_ne, ne_eq, decide_eq_true_eq] at *)
        all_goals first
          | omega
          | exact hN.symm
          | exact hE.symm
          | (apply Fits.i64 <;> omega)
          | exact parts_told s _ (by assumption)
          | exact parts_small s
          | trace_state
end Go.SX.Try
/- Contracts of chapter 10's law: ours, texts. -/
namespace Go.SX.Try
open Go.Proofs Go.Proofs.Try Go.SX.Plain
set_option maxRecDepth 100000
set_option maxHeartbeats 0
set_option linter.unusedSimpArgs false
theorem q_ours : fact 22 f22 := ⟨by kernel_rfl, rfl, by kernel_rfl⟩
theorem q_texts : fact 24 f24 := ⟨by kernel_rfl, rfl, by kernel_rfl⟩
def D_ours : Cds := [(92, ⟨Int × Int, C_brk⟩)]
theorem D_ours_ok : CdsOK T D_ours := .cons ⟨fun _ => rfl, by decide, _, rfl, rfl, by decide⟩ .nil
theorem con_ours : Con prog 22 (fun l : List (Int × Int) => [.ro 2 C_brk.enc C_brk.d l none true]) (fun l => .ro 2 C_brk.enc C_brk.d l none) (fun l => l.length ≤ 100000) := by
  refine Con.of (by kernel_rfl) T_ok D_ours_ok .nil 3 [] q_ours.1 q_ours.2.1 q_ours.2.2 (fun _ => rfl) fun l hl => ?_
  have hl2 : l.length ≤ 100000 := hl
  have hd : C_brk.d = (0, 0) := rfl
  repeat' (first | (with_reducible exact fun h => h) | (with_reducible refine ExE.row (by with_unfolding_all rfl) ?_) | (with_reducible refine And.intro ?_ ?_) | ((with_reducible intro hq); first | (exact bne1 hq (by with_reducible assumption)) | (exact bne1 (by with_reducible assumption) hq) | ((simp only [*, Bool.and_true, Bool.true_and, Bool.and_false, Bool.false_and, Bool.or_true, Bool.true_or, Bool.or_false, Bool.false_or, Bool.not_true, Bool.not_false, Bool.true_eq_false, Bool.false_eq_true, cond_true, cond_false, Bool.cond_self, reduceCtorEq] at hq); done) | (revert hq; with_reducible intro _)) | (with_reducible exact True.intro) | (with_reducible rfl) | ((with_reducible refine WkX.chk ?_); (conv => whnf)) | ((with_reducible refine Wk.chk ?_); (conv => whnf)) | (with_reducible refine EntLe.row ?_) | (with_reducible exact LeN.ro rfl) | (with_reducible exact LeN.rptr) | ((with_reducible refine LeL.chk ?_); (conv => whnf)) | ((with_reducible show LeO _ _); (first | (refine LeO.ro ?_) | (refine LeO.roCap ?_) | (refine LeO.nil ?_ (fun _ => rfl)))) | ((with_reducible show LeR _ _ _); (first | (refine LeR.own rfl rfl rfl ?_) | (refine LeR.view rfl rfl rfl ?_ ?_) | (refine LeR.ro ?_) | (refine LeR.roCap ?_) | (refine LeR.nil ?_ (fun _ => rfl)))) | ((with_reducible refine LeF.chk ?_); (conv => whnf)) | (with_reducible assumption) | ((with_reducible refine Run.mk ?_); (conv => whnf)) | ((with_reducible show drawOK _ _ = true); kernel_rfl) | ((with_reducible show drawOK2 _ _ = true); kernel_rfl) | ((with_reducible show drawOK3 _ _ = true); kernel_rfl))
  refine loopI Nat [] (fun k => [(4, .v (.int .i64 (k : Nat))), (3, .own 1)]) (fun k => [(1, .row C_brk (l.take k) 92 none)]) (fun k => k ≤ l.length) (fun k => l.length - k) 0 (Nat.zero_le _) (Wk.chk ?_) fun k hk => ?_
  · ((conv => whnf); repeat' (first | (with_reducible exact fun h => h) | (with_reducible refine ExE.row (by with_unfolding_all rfl) ?_) | (with_reducible refine And.intro ?_ ?_) | ((with_reducible intro hq); first | (exact bne1 hq (by with_reducible assumption)) | (exact bne1 (by with_reducible assumption) hq) | ((simp only [*, Bool.and_true, Bool.true_and, Bool.and_false, Bool.false_and, Bool.or_true, Bool.true_or, Bool.or_false, Bool.false_or, Bool.not_true, Bool.not_false, Bool.true_eq_false, Bool.false_eq_true, cond_true, cond_false, Bool.cond_self, reduceCtorEq] at hq); done) | (revert hq; with_reducible intro _)) | (with_reducible exact True.intro) | (with_reducible rfl) | ((with_reducible refine WkX.chk ?_); (conv => whnf)) | ((with_reducible refine Wk.chk ?_); (conv => whnf)) | (with_reducible refine EntLe.row ?_) | (with_reducible exact LeN.ro rfl) | (with_reducible exact LeN.rptr) | ((with_reducible refine LeL.chk ?_); (conv => whnf)) | ((with_reducible show LeO _ _); (first | (refine LeO.ro ?_) | (refine LeO.roCap ?_) | (refine LeO.nil ?_ (fun _ => rfl)))) | ((with_reducible show LeR _ _ _); (first | (refine LeR.own rfl rfl rfl ?_) | (refine LeR.view rfl rfl rfl ?_ ?_) | (refine LeR.ro ?_) | (refine LeR.roCap ?_) | (refine LeR.nil ?_ (fun _ => rfl)))) | ((with_reducible refine LeF.chk ?_); (conv => whnf)) | (with_reducible assumption) | ((with_reducible refine Run.mk ?_); (conv => whnf)) | ((with_reducible show drawOK _ _ = true); kernel_rfl) | ((with_reducible show drawOK2 _ _ = true); kernel_rfl) | ((with_reducible show drawOK3 _ _ = true); kernel_rfl)))
    all_goals rfl
  have e1 : ((k : Int)).toNat = k := Int.toNat_natCast _
  repeat' (first | (with_reducible refine ex_of (α := Nat) (k + 1) ⟨?_, ?_⟩ ?_) | (with_reducible exact fun h => h) | (with_reducible refine ExE.row (by with_unfolding_all rfl) ?_) | (with_reducible refine And.intro ?_ ?_) | ((with_reducible intro hq); first | (exact bne1 hq (by with_reducible assumption)) | (exact bne1 (by with_reducible assumption) hq) | ((simp only [*, Bool.and_true, Bool.true_and, Bool.and_false, Bool.false_and, Bool.or_true, Bool.true_or, Bool.or_false, Bool.false_or, Bool.not_true, Bool.not_false, Bool.true_eq_false, Bool.false_eq_true, cond_true, cond_false, Bool.cond_self, reduceCtorEq] at hq); done) | (revert hq; with_reducible intro _)) | (with_reducible exact True.intro) | (with_reducible rfl) | ((with_reducible refine WkX.chk ?_); (conv => whnf)) | ((with_reducible refine Wk.chk ?_); (conv => whnf)) | (with_reducible refine EntLe.row ?_) | (with_reducible exact LeN.ro rfl) | (with_reducible exact LeN.rptr) | ((with_reducible refine LeL.chk ?_); (conv => whnf)) | ((with_reducible show LeO _ _); (first | (refine LeO.ro ?_) | (refine LeO.roCap ?_) | (refine LeO.nil ?_ (fun _ => rfl)))) | ((with_reducible show LeR _ _ _); (first | (refine LeR.own rfl rfl rfl ?_) | (refine LeR.view rfl rfl rfl ?_ ?_) | (refine LeR.ro ?_) | (refine LeR.roCap ?_) | (refine LeR.nil ?_ (fun _ => rfl)))) | ((with_reducible refine LeF.chk ?_); (conv => whnf)) | (with_reducible assumption) | ((with_reducible refine Run.mk ?_); (conv => whnf)) | ((with_reducible show drawOK _ _ = true); kernel_rfl) | ((with_reducible show drawOK2 _ _ = true); kernel_rfl) | ((with_reducible show drawOK3 _ _ = true); kernel_rfl))
  all_goals first
    | omega
    | (simp only [decide_eq_true_eq, decide_eq_false_iff_not, e1, hd, List.length_take, List.length_cons, List.length_nil] at *; first | omega | (apply Fits.i64 <;> omega) | (exact take_one l (0, 0) (by omega)) | (exact take_all l (by omega)))
    | rfl
    | trace_state
def C_str : Cdc ByteArray where
  size := 1
  enc p := [.v (.string p)]
  dec l := match l with
    | [.v (.string a)] => a
    | _ => ByteArray.empty
  d := ByteArray.empty
theorem con_texts : Con prog 24 (fun ((a, b) : List ByteArray × List ByteArray) => [.ro 1 C_str.enc C_str.d a none true, .ro 1 C_str.enc C_str.d b none true]) (fun (a, b) => .sb (decide (a = b))) (fun (a, b) => a.length ≤ 1000000) := by
  refine Con.of (by kernel_rfl) T_ok CdsOK.nil .nil 3 [] q_texts.1 q_texts.2.1 q_texts.2.2 (fun _ => rfl) fun i hi => ?_
  obtain ⟨a, b⟩ := i
  have hi : a.length ≤ 1000000 := hi
  have e0 : ((a.length : Int) != (b.length : Int)) = !decide (a.length = b.length) := by rw [bne, natBeq]
  repeat' (first | (with_reducible exact fun h => h) | (with_reducible refine ExE.row (by with_unfolding_all rfl) ?_) | (with_reducible refine And.intro ?_ ?_) | ((with_reducible intro hq); first | (exact bne1 hq (by with_reducible assumption)) | (exact bne1 (by with_reducible assumption) hq) | ((simp only [*, Bool.and_true, Bool.true_and, Bool.and_false, Bool.false_and, Bool.or_true, Bool.true_or, Bool.or_false, Bool.false_or, Bool.not_true, Bool.not_false, Bool.true_eq_false, Bool.false_eq_true, cond_true, cond_false, Bool.cond_self, reduceCtorEq] at hq); done) | (revert hq; with_reducible intro _)) | (with_reducible exact True.intro) | (with_reducible rfl) | ((with_reducible refine WkX.chk ?_); (conv => whnf)) | ((with_reducible refine Wk.chk ?_); (conv => whnf)) | (with_reducible refine EntLe.row ?_) | (with_reducible exact LeN.ro rfl) | (with_reducible exact LeN.rptr) | ((with_reducible refine LeL.chk ?_); (conv => whnf)) | ((with_reducible show LeO _ _); (first | (refine LeO.ro ?_) | (refine LeO.roCap ?_) | (refine LeO.nil ?_ (fun _ => rfl)))) | ((with_reducible show LeR _ _ _); (first | (refine LeR.own rfl rfl rfl ?_) | (refine LeR.view rfl rfl rfl ?_ ?_) | (refine LeR.ro ?_) | (refine LeR.roCap ?_) | (refine LeR.nil ?_ (fun _ => rfl)))) | ((with_reducible refine LeF.chk ?_); (conv => whnf)) | (with_reducible assumption) | ((with_reducible refine Run.mk ?_); (conv => whnf)) | ((with_reducible show drawOK _ _ = true); kernel_rfl) | ((with_reducible show drawOK2 _ _ = true); kernel_rfl) | ((with_reducible show drawOK3 _ _ = true); kernel_rfl))
  · rename_i h
    rw [e0] at h
    symm
    refine decide_eq_false ?_
    rintro rfl
    simp at h
  rename_i h
  rw [e0] at h
  have hab : a.length = b.length := by simpa using h
  refine loopI Nat [] (fun i => [(5, .v (.int .i64 (i : Int)))]) (fun _ => []) (fun i => i ≤ a.length ∧ a.take i = b.take i) (fun i => a.length - i) 0 ⟨Nat.zero_le _, rfl⟩ (Wk.chk ?_) fun i hi => ?_
  · ((conv => whnf); repeat' (first | (with_reducible exact fun h => h) | (with_reducible refine ExE.row (by with_unfolding_all rfl) ?_) | (with_reducible refine And.intro ?_ ?_) | ((with_reducible intro hq); first | (exact bne1 hq (by with_reducible assumption)) | (exact bne1 (by with_reducible assumption) hq) | ((simp only [*, Bool.and_true, Bool.true_and, Bool.and_false, Bool.false_and, Bool.or_true, Bool.true_or, Bool.or_false, Bool.false_or, Bool.not_true, Bool.not_false, Bool.true_eq_false, Bool.false_eq_true, cond_true, cond_false, Bool.cond_self, reduceCtorEq] at hq); done) | (revert hq; with_reducible intro _)) | (with_reducible exact True.intro) | (with_reducible rfl) | ((with_reducible refine WkX.chk ?_); (conv => whnf)) | ((with_reducible refine Wk.chk ?_); (conv => whnf)) | (with_reducible refine EntLe.row ?_) | (with_reducible exact LeN.ro rfl) | (with_reducible exact LeN.rptr) | ((with_reducible refine LeL.chk ?_); (conv => whnf)) | ((with_reducible show LeO _ _); (first | (refine LeO.ro ?_) | (refine LeO.roCap ?_) | (refine LeO.nil ?_ (fun _ => rfl)))) | ((with_reducible show LeR _ _ _); (first | (refine LeR.own rfl rfl rfl ?_) | (refine LeR.view rfl rfl rfl ?_ ?_) | (refine LeR.ro ?_) | (refine LeR.roCap ?_) | (refine LeR.nil ?_ (fun _ => rfl)))) | ((with_reducible refine LeF.chk ?_); (conv => whnf)) | (with_reducible assumption) | ((with_reducible refine Run.mk ?_); (conv => whnf)) | ((with_reducible show drawOK _ _ = true); kernel_rfl) | ((with_reducible show drawOK2 _ _ = true); kernel_rfl) | ((with_reducible show drawOK3 _ _ = true); kernel_rfl)))
    all_goals rfl
  obtain ⟨h1, h2⟩ := hi
  have e1 : ((i : Int)).toNat = i := Int.toNat_natCast _
  have e2 : C_str.d = ByteArray.empty := rfl
  repeat' (first | (with_reducible refine ex_of (i + 1) ⟨⟨?_, ?_⟩, ?_⟩ ?_) | (with_reducible exact fun h => h) | (with_reducible refine ExE.row (by with_unfolding_all rfl) ?_) | (with_reducible refine And.intro ?_ ?_) | ((with_reducible intro hq); first | (exact bne1 hq (by with_reducible assumption)) | (exact bne1 (by with_reducible assumption) hq) | ((simp only [*, Bool.and_true, Bool.true_and, Bool.and_false, Bool.false_and, Bool.or_true, Bool.true_or, Bool.or_false, Bool.false_or, Bool.not_true, Bool.not_false, Bool.true_eq_false, Bool.false_eq_true, cond_true, cond_false, Bool.cond_self, reduceCtorEq] at hq); done) | (revert hq; with_reducible intro _)) | (with_reducible exact True.intro) | (with_reducible rfl) | ((with_reducible refine WkX.chk ?_); (conv => whnf)) | ((with_reducible refine Wk.chk ?_); (conv => whnf)) | (with_reducible refine EntLe.row ?_) | (with_reducible exact LeN.ro rfl) | (with_reducible exact LeN.rptr) | ((with_reducible refine LeL.chk ?_); (conv => whnf)) | ((with_reducible show LeO _ _); (first | (refine LeO.ro ?_) | (refine LeO.roCap ?_) | (refine LeO.nil ?_ (fun _ => rfl)))) | ((with_reducible show LeR _ _ _); (first | (refine LeR.own rfl rfl rfl ?_) | (refine LeR.view rfl rfl rfl ?_ ?_) | (refine LeR.ro ?_) | (refine LeR.roCap ?_) | (refine LeR.nil ?_ (fun _ => rfl)))) | ((with_reducible refine LeF.chk ?_); (conv => whnf)) | (with_reducible assumption) | ((with_reducible refine Run.mk ?_); (conv => whnf)) | ((with_reducible show drawOK _ _ = true); kernel_rfl) | ((with_reducible show drawOK2 _ _ = true); kernel_rfl) | ((with_reducible show drawOK3 _ _ = true); kernel_rfl))
  all_goals (try simp only [e1, e2, decide_eq_true_eq, decide_eq_false_iff_not] at *)
  all_goals first
    | omega
    | (refine Fits.i64 ?_ ?_ <;> omega)
    | rfl
    | (symm
       refine decide_eq_false ?_
       rintro rfl
       simp at *; done)
    | (simp_all; done)
    | (rw [← take_one a ByteArray.empty (by omega), ← take_one b ByteArray.empty (by omega), h2]
       have q : (a.getD i ByteArray.empty) = (b.getD i ByteArray.empty) := by simp_all
       rw [q])
    | (symm
       refine decide_eq_true ?_
       rw [take_all a (by omega), take_all b (by omega)] at h2
       exact h2)
end Go.SX.Try
/- Contract of chapter 10's head; what the laws WrapLeast, WrapPlaces answer, in terms of the two tables. -/
namespace Go.SX.Try
open Go.Proofs Go.Proofs.Try Go.SX.Plain
set_option maxRecDepth 100000
set_option maxHeartbeats 0
set_option linter.unusedSimpArgs false
def C_brkL : Cdc (Int × Int) := { C_brk with lit := true }
def D_law : Cds := [(54, ⟨Int × Int, C_brk⟩), (92, ⟨Int × Int, C_brkL⟩)]
theorem D_law_ok : CdsOK T D_law := .cons ⟨fun _ => rfl, by decide, _, rfl, rfl, by decide⟩ (.cons ⟨fun _ => rfl, by decide, _, rfl, rfl, by decide⟩ .nil)
def tx1 : ByteArray := ⟨#[97, 97, 97, 32, 98, 98, 32, 99, 99]⟩
def tx2 : ByteArray := ⟨#[97, 98, 99, 100, 101, 102]⟩
theorem con_head : Con prog 16 (fun _ : Unit => []) (fun _ => .sb true) (fun _ => True) := by
  refine Con.of (by kernel_rfl) T_ok D_law_ok (.con con_wrap (.con con_same .nil)) 3 [] q_head.1 q_head.2.1 q_head.2.2 (fun _ => rfl) fun i _ => ?_
  have h1 : wrapL { data := #[97, 97, 97, 32, 98, 98, 32, 99, 99] } 6 = [(4, 2)] := by kernel_rfl
  have h2 : wrapB { data := #[97, 97, 97, 32, 98, 98, 32, 99, 99] } 6 = 10 := by kernel_rfl
  have h3 : checkN (ByteArray.size { data := #[97, 97, 97, 32, 98, 98, 32, 99, 99] }) 6 = 0 := by kernel_rfl
  have h4 : wrapL { data := #[97, 98, 99, 100, 101, 102] } 4 = [(3, 3)] := by kernel_rfl
  have h5 : wrapB { data := #[97, 98, 99, 100, 101, 102] } 4 = 1048578 := by kernel_rfl
  have h6 : checkN (ByteArray.size { data := #[97, 98, 99, 100, 101, 102] }) 4 = 0 := by kernel_rfl
  repeat' (first | (with_reducible refine ⟨(_, _), ⟨(.cons (.v _) (.cons (.v _) .nil)), ?_⟩, ?_⟩) | (with_reducible refine ⟨(_, _), ⟨(.cons (.lent _ _ _ _ _ _) (.cons (.lent _ _ _ _ _ _) .nil)), ?_⟩, ?_⟩) | (with_reducible exact fun h => h) | (with_reducible refine ExE.row (by with_unfolding_all rfl) ?_) | (with_reducible refine And.intro ?_ ?_) | ((with_reducible intro hq); first | (exact bne1 hq (by with_reducible assumption)) | (exact bne1 (by with_reducible assumption) hq) | ((simp only [*, Bool.and_true, Bool.true_and, Bool.and_false, Bool.false_and, Bool.or_true, Bool.true_or, Bool.or_false, Bool.false_or, Bool.not_true, Bool.not_false, Bool.true_eq_false, Bool.false_eq_true, cond_true, cond_false, Bool.cond_self, reduceCtorEq] at hq); done) | (revert hq; with_reducible intro _)) | (with_reducible exact True.intro) | (with_reducible rfl) | ((with_reducible refine WkX.chk ?_); (conv => whnf)) | ((with_reducible refine Wk.chk ?_); (conv => whnf)) | (with_reducible refine EntLe.row ?_) | (with_reducible exact LeN.ro rfl) | (with_reducible exact LeN.rptr) | ((with_reducible refine LeL.chk ?_); (conv => whnf)) | ((with_reducible show LeO _ _); (first | (refine LeO.ro ?_) | (refine LeO.roCap ?_) | (refine LeO.nil ?_ (fun _ => rfl)))) | ((with_reducible show LeR _ _ _); (first | (refine LeR.own rfl rfl rfl ?_) | (refine LeR.view rfl rfl rfl ?_ ?_) | (refine LeR.ro ?_) | (refine LeR.roCap ?_) | (refine LeR.nil ?_ (fun _ => rfl)))) | ((with_reducible refine LeF.chk ?_); (conv => whnf)) | (with_reducible assumption) | ((with_reducible refine Run.mk ?_); (conv => whnf)) | ((with_reducible show drawOK _ _ = true); kernel_rfl) | ((with_reducible show drawOK2 _ _ = true); kernel_rfl) | ((with_reducible show drawOK3 _ _ = true); kernel_rfl))
  all_goals first
    | rfl
    | (dsimp only; rw [h1]; decide)
    | (dsimp only; rw [h4]; decide)
    | (rw [h1, h2, h3, h4, h5, h6]; rfl)
    | (exfalso
       simp_all [C_brkL, C_brk, zeroAV]; done)
end Go.SX.Try
/- Contract of the law WrapBadness: true, whatever the input. -/
namespace Go.SX.Try
open Go.Proofs Go.Proofs.Try Go.SX.Plain
set_option maxRecDepth 100000
set_option maxHeartbeats 0
set_option linter.unusedSimpArgs false
theorem q_lend : fact 19 f19 := ⟨by kernel_rfl, rfl, by kernel_rfl⟩
theorem q_kept : fact 23 f23 := ⟨by kernel_rfl, rfl, by kernel_rfl⟩
theorem q_lawBadness : fact 6 f6 := ⟨by kernel_rfl, rfl, by kernel_rfl⟩
theorem con_wrapBadness : Con prog 6 (fun ((s, width, way) : ByteArray × Int × List (Int × Int)) => [.v (.string s), .v (.int .i64 width), .ro 2 C_brk.enc C_brk.d way none true]) (fun _ => .v (.bool true)) (fun _ => True) := by
  refine Con.of (by kernel_rfl) T_ok D_law_ok (.con con_badness (.con con_rbadness (.con con_ours (.con con_same (.con con_head (.inl (J := []) q_lend.1 q_lend.2.1 q_lend.2.2 (.inl (J := []) q_kept.1 q_kept.2.1 q_kept.2.2 .nil))))))) 5 [] q_lawBadness.1 q_lawBadness.2.1 q_lawBadness.2.2 (fun _ => rfl) fun i _ => ?_
  obtain ⟨s, width, way⟩ := i
  repeat' (first | (with_reducible refine ⟨(_, _, _), ⟨(.cons (.v _) (.cons (.v _) (.cons (.view (by with_unfolding_all exact rfl) (by with_unfolding_all exact rfl) (by with_unfolding_all exact rfl) ?_) .nil))), ?_⟩, ?_⟩) | (with_reducible refine ⟨(_, _, _), ⟨(.cons (.v _) (.cons (.v _) (.cons (.lent _ _ _ _ _ _) .nil))), ?_⟩, ?_⟩) | (with_reducible refine ⟨(_, _), ⟨(.cons (.view (by with_unfolding_all exact rfl) (by with_unfolding_all exact rfl) (by with_unfolding_all exact rfl) ?_) (.cons (.lent _ _ _ _ _ _) .nil)), ?_⟩, ?_⟩) | (with_reducible refine ⟨_, ⟨(.cons (.lent _ _ _ _ _ _) .nil), ?_⟩, ?_⟩) | (with_reducible refine ⟨(), ⟨.nil, ?_⟩, ?_⟩) | (with_reducible refine ⟨way, ⟨(by with_unfolding_all exact rfl), (by with_unfolding_all exact rfl), fun _ => (by with_unfolding_all exact rfl)⟩, ?_⟩) | (with_reducible exact fun h => h) | (with_reducible refine ExE.row (by with_unfolding_all rfl) ?_) | (with_reducible refine And.intro ?_ ?_) | ((with_reducible intro hq); first | (exact bne1 hq (by with_reducible assumption)) | (exact bne1 (by with_reducible assumption) hq) | ((simp only [*, Bool.and_true, Bool.true_and, Bool.and_false, Bool.false_and, Bool.or_true, Bool.true_or, Bool.or_false, Bool.false_or, Bool.not_true, Bool.not_false, Bool.true_eq_false, Bool.false_eq_true, cond_true, cond_false, Bool.cond_self, reduceCtorEq] at hq); done) | (revert hq; with_reducible intro _)) | (with_reducible exact True.intro) | (with_reducible rfl) | ((with_reducible refine WkX.chk ?_); (conv => whnf)) | ((with_reducible refine Wk.chk ?_); (conv => whnf)) | (with_reducible refine EntLe.row ?_) | (with_reducible exact LeN.ro rfl) | (with_reducible exact LeN.rptr) | ((with_reducible refine LeL.chk ?_); (conv => whnf)) | ((with_reducible show LeO _ _); (first | (refine LeO.ro ?_) | (refine LeO.roCap ?_) | (refine LeO.nil ?_ (fun _ => rfl)))) | ((with_reducible show LeR _ _ _); (first | (refine LeR.own rfl rfl rfl ?_) | (refine LeR.view rfl rfl rfl ?_ ?_) | (refine LeR.ro ?_) | (refine LeR.roCap ?_) | (refine LeR.nil ?_ (fun _ => rfl)))) | ((with_reducible refine LeF.chk ?_); (conv => whnf)) | (with_reducible assumption) | ((with_reducible refine Run.mk ?_); (conv => whnf)) | ((with_reducible show drawOK _ _ = true); kernel_rfl) | ((with_reducible show drawOK2 _ _ = true); kernel_rfl) | ((with_reducible show drawOK3 _ _ = true); kernel_rfl))
  all_goals first
    | rfl
    | omega
    | (simp [C_brk, zeroAV] at *; done)
    | (simp [C_brk, zeroAV] at *; first | omega | (apply Fits.i64 <;> omega))
    | trace_state
end Go.SX.Try
/- A verified symbolic executor for Go code in the model: what a call's arguments read as. -/
namespace Go.SX
open Go.ChangeShapes Go.WideShapes Go.Deep Go.RowKit
section
variable {H : Type} {encH : TypeId × Value → H} {P : Program} {w : World} {E : Env}
/-- Cells of a type read as one of α. -/
structure Reads (encH : TypeId × Value → H) (P : Program) (w : World) (E : Env) (e : TypeId) {α : Type} (en : α → List AV) : Prop where
  out : ∀ n cs y, DataW.trod encH P w 0 (fun _ => true) true n e cs = some y → ∃ x : α, RelL w E (en x) cs
theorem Reads.int {e : TypeId} (he : P.underlying e = some (.int .i64)) : Reads encH P w E e (fun a : Int => [.v (.int .i64 a)]) := ⟨fun n cs y h => by
  obtain ⟨a, rfl, _⟩ := DataW.trod_int he h
  exact ⟨a, RelL.cons (.v _) (RelL.nil _ _)⟩⟩
theorem Reads.string {e : TypeId} (he : P.underlying e = some .string) : Reads encH P w E e (fun a : ByteArray => [.v (.string a)]) := ⟨fun n cs y h => by
  obtain ⟨a, rfl, _⟩ := DataW.trod_string he h
  exact ⟨a, RelL.cons (.v _) (RelL.nil _ _)⟩⟩
theorem Reads.bool {e : TypeId} (he : P.underlying e = some .bool) : Reads encH P w E e (fun a : Bool => [.sb a]) := ⟨fun n cs y h => by
  obtain ⟨a, rfl, _⟩ := DataW.trod_bool he h
  exact ⟨a, RelL.cons (.sb _) (RelL.nil _ _)⟩⟩
theorem Reads.map {e : TypeId} {α β : Type} {en : α → List AV} {en' : β → List AV} (h : Reads encH P w E e en) (f : α → β) (hf : ∀ x, en' (f x) = en x) : Reads encH P w E e en' := ⟨fun n cs y ht => by
  obtain ⟨x, hx⟩ := h.out n cs y ht
  exact ⟨f x, by rw [hf]; exact hx⟩⟩
/-- The fields of a struct, from one on: each reads as one of its kind; so many cells to the end. -/
inductive FReads (encH : TypeId × Value → H) (P : Program) (w : World) (E : Env) : List Field → Nat → Nat → {α : Type} → (α → List AV) → Prop
  | nil {o : Nat} : FReads encH P w E [] o o (fun _ : Unit => [])
  | cons {f : Field} {fs : List Field} {o k t : Nat} {α β : Type} {en : α → List AV} {en' : β → List AV} (ho : f.offset = o) (hc : P.cellsOf f.type = k) (h : Reads encH P w E f.type en) (hk : ∀ x, (en x).length = k) (hr : FReads encH P w E fs (o + k) t en') :
      FReads encH P w E (f :: fs) o t (fun x : α × β => en x.1 ++ en' x.2)
theorem FReads.out {fs : List Field} {o t : Nat} {α : Type} {en : α → List AV} (h : FReads encH P w E fs o t en) : o ≤ t ∧ ∀ (cs : List Value), cs.length = t →
    (∀ f ∈ fs, ∃ y n, DataW.trod encH P w 0 (fun _ => true) true n f.type ((cs.drop f.offset).take (P.cellsOf f.type)) = some y) → ∃ x : α, RelL w E (en x) (cs.drop o) := by
  induction h with
  | nil =>
    refine ⟨Nat.le_refl _, fun cs hl _ => ⟨(), ?_⟩⟩
    rw [List.drop_eq_nil_of_le (by omega)]
    exact RelL.nil _ _
  | @cons f fs o k t α β en en' ho hc h hk hr ih =>
    refine ⟨by omega, fun cs hl hf => ?_⟩
    obtain ⟨y, n, hy⟩ := hf f List.mem_cons_self
    obtain ⟨x, hx⟩ := h.out _ _ _ hy
    obtain ⟨z, hz⟩ := ih.2 cs hl fun g hg => hf g (List.mem_cons_of_mem _ hg)
    refine ⟨(x, z), ?_⟩
    rw [ho, hc] at hx
    have := hx.append hz
    rwa [show cs.drop (o + k) = (cs.drop o).drop k by rw [List.drop_drop], List.take_append_drop] at this
theorem Reads.struct {e : TypeId} {fs : Array Field} (he : P.underlying e = some (.struct fs)) {t : Nat} (hC : P.cellsOf e = t) {α : Type} {en : α → List AV} (h : FReads encH P w E fs.toList 0 t en) : Reads encH P w E e en := ⟨fun n cs y ht => by
  obtain ⟨xs, m, _, _, hl, hxl, hf⟩ := DataW.trod_struct he ht
  have := h.out.2 cs (by omega) fun f hmem => by
    obtain ⟨i, hi, hfi⟩ := List.getElem_of_mem hmem
    have hi2 : i < fs.size := by simpa using hi
    have h1 := hf i f (by rw [Array.getElem?_eq_getElem hi2]; simpa using hfi)
    rw [List.getElem?_eq_getElem (by omega)] at h1
    exact ⟨_, m, h1⟩
  simpa using this⟩
theorem Rel.v_bz {E : Env} {z : Bool} {x : Value} : Rel w (E.bz z) (.v x) x := .v x
/-- A slice that was handed in: lent. -/
theorem Reads.slice {t e : TypeId} (ht : P.underlying t = some (.slice e)) {α : Type} {en : α → List AV} {k : Nat} (d : α) (hk : P.cellsOf e = k) (hk0 : 0 < k) (hs : ∀ x, (en x).length = k) (hl : ∀ b, b < w.heap.size → E.lnt b)
    (h : Reads encH P w (E.bz true) e en) : Reads encH P w E t (fun l : List α => [.ro k en d l none true]) := ⟨fun n cs y hy => by
  rcases open_slice ht hy with ⟨rfl, _⟩ | ⟨a, len, cap, m, n', D, Pl, rfl, _, hlc, _, hm, _, hi⟩
  · exact ⟨[], RelL.cons (.roNil k en d none none 0 hs (by simp)) (RelL.nil _ _)⟩
  have hlm : len ≤ m := by rw [hm]; simp; omega
  have hel : ∀ i, i < len → ∃ (x : α) (cs' : List Value), w.cells? 0 (a.add (i * k)) k = some cs' ∧ RelL w (E.bz true) (en x) cs' := fun i hil => by
    obtain ⟨cs', h1, h2⟩ := hi i (by omega)
    obtain ⟨x, hx⟩ := h.out _ _ _ h2
    rw [hk] at h1
    exact ⟨x, cs', h1, hx⟩
  by_cases h0 : len = 0
  · subst h0
    exact ⟨[], RelL.cons (.roNil k en d none (some a) cap hs (by simp)) (RelL.nil _ _)⟩
  obtain ⟨b, o, spot⟩ := a
  have hc0 : ∀ i j, i < len → j < k → ∃ v, w.cell? ((⟨b, o, spot⟩ : Addr).add (i * k + j)) = some v := fun i j h1 h2 => by
    obtain ⟨x, cs', h3, h4⟩ := hel i h1
    obtain ⟨_, h5, h6⟩ := World.cells?_some h3
    have h7 := h6 j h2
    rw [List.getElem?_eq_getElem (by omega), Go.Deep.add_add] at h7
    exact ⟨_, h7⟩
  have hspot : spot = none := by
    obtain ⟨v, hv⟩ := hc0 0 0 (by omega) hk0
    simpa [Addr.add] using World.cell?_spot hv
  subst hspot
  have hb : b < w.heap.size := by
    obtain ⟨v, hv⟩ := hc0 0 0 (by omega) hk0
    refine Nat.lt_of_not_le fun hle => ?_
    unfold World.cell? at hv
    rw [show ((⟨b, o, none⟩ : Addr).add (0 * k + 0)).block = b by simp [Addr.add], Array.getElem?_eq_none hle] at hv
    cases hv
  let X : Nat → α := fun i => if hi : i < len then Classical.choose (hel i hi) else d
  let Cs : Nat → List Value := fun i => if hi : i < len then Classical.choose (Classical.choose_spec (hel i hi)) else []
  have hX : ∀ i, i < len → w.cells? 0 ((⟨b, o, none⟩ : Addr).add (i * k)) k = some (Cs i) ∧ RelL w (E.bz true) (en (X i)) (Cs i) := fun i hi => by
    have := Classical.choose_spec (Classical.choose_spec (hel i hi))
    simpa only [X, Cs, dif_pos hi] using this
  refine ⟨(List.range len).map X, RelL.cons ?_ (RelL.nil _ _)⟩
  have hll : ((List.range len).map X).length = len := by simp
  have key : Rel w E (.ro k en d ((List.range len).map X) none true) (.slice (some ⟨b, o, none⟩) ((List.range len).map X).length cap) :=
    .ro (fun i j => (Cs i).getD j undef) hs (by simp) (by rw [hll]; exact hlc) (.inr (hl b hb)) (fun i j h1 h2 => by
      rw [hll] at h1
      obtain ⟨h3, _⟩ := hX i h1
      obtain ⟨_, h5, h6⟩ := World.cells?_some h3
      have h7 := h6 j h2
      rw [Go.Deep.add_add, add_plain] at h7
      rw [h7, List.getElem?_eq_getElem (by omega)]
      simp [List.getD_eq_getElem?_getD, show j < (Cs i).length by omega]) fun i h1 j h2 => by
      have h1' : i < len := by rw [hll] at h1; exact h1
      obtain ⟨_, h4⟩ := hX i h1'
      have he : ((List.range len).map X)[i] = X i := by simp
      have h2' : j < (en (X i)).length := by rw [← he]; exact h2
      have h8 : j < (Cs i).length := by have := h4.1; omega
      have h9 := h4.2 j h2' h8
      have he2 : (en ((List.range len).map X)[i])[j] = (en (X i))[j] := by simp only [he]
      rw [he2, show (Cs i).getD j undef = (Cs i)[j] by simp [List.getD_eq_getElem?_getD, h8]]
      exact h9
  rwa [hll] at key⟩
/-- A slice argument. -/
theorem Reads.arg {t e : TypeId} (ht : P.underlying t = some (.slice e)) {α : Type} {en : α → List AV} {k : Nat} {d : α} (h : Reads encH P w E t (fun l : List α => [.ro k en d l none true])) {a : Option Addr} {len cap : Nat} {y : DataW H} {p : List MemPlace}
    (hT : DataW.Trod encH P w 0 (fun _ => true) true t (.slice a len cap) y p) : ∃ l : List α, Rel w E (.ro k en d l none true) (.slice a len cap) := by
  obtain ⟨fuel, hf⟩ := hT
  obtain ⟨l, hl⟩ := h.out _ _ _ hf
  exact ⟨l, hl.2 0 (by simp) (by simp [Value.cells])⟩
end
end Go.SX
/- What the arguments of chapter 10's laws read as. -/
namespace Go.SX.Try
open Go.Proofs Go.Proofs.Try
section
variable {H : Type} {encH : TypeId × Value → H} {w : World} {E : Env}
theorem cells_int : prog.cellsOf 3 = 1 := by kernel_rfl
theorem cells_brk : prog.cellsOf 54 = 2 := by kernel_rfl
theorem reads_int : Reads encH prog w E 3 (fun a : Int => [.v (.int .i64 a)]) := Reads.int Try.underlying3
theorem reads_ints (hl : ∀ b, b < w.heap.size → E.lnt b) : Reads encH prog w E 50 (fun l : List Int => [.ro 1 C_int.enc C_int.d l none true]) :=
  Reads.slice Try.underlying50 C_int.d cells_int (by decide) (fun _ => rfl) hl reads_int
theorem reads_brk : Reads encH prog w E 54 C_brk.enc :=
  Reads.map (Reads.struct Try.underlying54 cells_brk (.cons rfl cells_int reads_int (fun _ => rfl) (.cons rfl cells_int reads_int (fun _ => rfl) .nil))) (fun x : Int × Int × Unit => (x.1, x.2.1)) (fun _ => rfl)
theorem reads_brks (hl : ∀ b, b < w.heap.size → E.lnt b) : Reads encH prog w E 22 (fun l : List (Int × Int) => [.ro 2 C_brk.enc C_brk.d l none true]) :=
  Reads.slice Try.underlying22 C_brk.d cells_brk (by decide) (fun _ => rfl) hl reads_brk
end
end Go.SX.Try
/- Places by signs, cuts by signs. No program here. -/
namespace Go.SX.Plain
def sgN (s : ByteArray) : Nat := (rl s).length
/-- Where a sign begins, in bytes; behind the last one: the end. -/
def posS (s : ByteArray) (i : Nat) : Nat := ((al s).getD i 0).toNat
theorem sgns_len' (s : ByteArray) : (sgns s).length = sgN s := by simp [sgns, sgN, rl]
theorem sgN_le (s : ByteArray) : sgN s ≤ s.size := by rw [← sgns_len']; exact sgns_len s
theorem al_pos (s : ByteArray) (i : Nat) : (al s).getD i 0 = (posS s i : Nat) := by
  have := al_bd s i
  unfold posS
  omega
theorem posS_le (s : ByteArray) (i : Nat) : posS s i ≤ s.size := by
  have := al_bd s i
  unfold posS
  omega
theorem posS_zero (s : ByteArray) : posS s 0 = 0 := by
  unfold posS
  rw [al_next s (Nat.zero_le _), List.drop_zero]
  by_cases h : 0 < s.size
  · rw [signsFrom_step h]
    rfl
  · rw [signsFrom_end h]
    simp only [nextPos]
    omega
theorem posS_mono (s : ByteArray) {i j : Nat} (h : i ≤ j) (hj : j ≤ sgN s) : posS s i ≤ posS s j := by
  have := al_mono s h hj
  have h1 := al_pos s i
  have h2 := al_pos s j
  omega
theorem posS_end (s : ByteArray) : posS s (sgN s) = s.size := by
  have h : sgN s = (signsFrom s 0).length := rl_len s
  unfold posS
  rw [h, al_next s (Nat.le_refl _), List.drop_length]
  simp only [nextPos]
  omega
theorem sgns_at (s : ByteArray) {i : Nat} (h : i < sgN s) : (sgns s).getD i ⟨0, 0, 0, false⟩ = sgnAt s (posS s i) ∧ posS s i < s.size ∧ posS s (i + 1) = posS s i + (Utf8.decode s (posS s i)).2 := by
  obtain ⟨p, h1, h2, h3, h4⟩ := rl_dec s h
  have e1 := al_pos s i
  have e2 := al_pos s (i + 1)
  have hp : posS s i = p := by omega
  refine ⟨?_, by omega, by rw [hp]; omega⟩
  have hl : i < (signsFrom s 0).length := by rw [← rl_len]; exact h
  have := al_get s hl
  have h5 : ((signsFrom s 0)[i]).1 = p := by omega
  rw [hp, ← h5]
  simp [sgns, List.getD_eq_getElem?_getD, hl]
def cutE (s : ByteArray) (f t : Int) : Int := if 0 ≤ f ∧ f ≤ t ∧ t ≤ sgN s then 0 else 1
def cutT (s : ByteArray) (f t : Int) : ByteArray := if 0 ≤ f ∧ f ≤ t ∧ t ≤ sgN s then s.extract (posS s f.toNat) (posS s t.toNat) else ByteArray.empty
def plE (s : ByteArray) (a : Int) : Int := if 0 ≤ a ∧ a ≤ sgN s then 0 else 1
def plN (s : ByteArray) (a : Int) : Int := if 0 ≤ a ∧ a ≤ sgN s then (posS s a.toNat : Nat) else 0
end Go.SX.Plain
/- Contracts of the document's chapter 1: Count, Place, Cut by signs. -/
namespace Go.SX.Try
open Go.Proofs Go.Proofs.Try Go.SX.Plain
set_option maxRecDepth 100000
set_option maxHeartbeats 0
set_option linter.unusedSimpArgs false
theorem q_rcount : fact 108 f108 := ⟨by kernel_rfl, rfl, by kernel_rfl⟩
theorem q_runit : fact 82 f82 := ⟨by kernel_rfl, rfl, by kernel_rfl⟩
theorem q_rsize : fact 109 f109 := ⟨by kernel_rfl, rfl, by kernel_rfl⟩
theorem q_rall : fact 83 f83 := ⟨by kernel_rfl, rfl, by kernel_rfl⟩
theorem q_rplace : fact 84 f84 := ⟨by kernel_rfl, rfl, by kernel_rfl⟩
theorem q_rcut : fact 53 f53 := ⟨by kernel_rfl, rfl, by kernel_rfl⟩
theorem con_rcount : Con prog 108 (fun s : ByteArray => [.v (.string s)]) (fun s => .v (.int .i64 (sgN s : Nat))) (fun s => s.size ≤ 1000000) := by
  refine Con.of (by kernel_rfl) T_ok CdsOK.nil (.con con_rsigns .nil) 3 [] q_rcount.1 q_rcount.2.1 q_rcount.2.2 (fun _ => rfl) fun s hs => ?_
  repeat' (first | (with_reducible refine ⟨_, ⟨(.cons (.v _) .nil), ?_⟩, ?_⟩) | (with_reducible exact fun h => h) | (with_reducible refine ExE.row (by with_unfolding_all rfl) ?_) | (with_reducible refine And.intro ?_ ?_) | ((with_reducible intro hq); first | (exact bne1 hq (by with_reducible assumption)) | (exact bne1 (by with_reducible assumption) hq) | ((simp only [*, Bool.and_true, Bool.true_and, Bool.and_false, Bool.false_and, Bool.or_true, Bool.true_or, Bool.or_false, Bool.false_or, Bool.not_true, Bool.not_false, Bool.true_eq_false, Bool.false_eq_true, cond_true, cond_false, Bool.cond_self, reduceCtorEq] at hq); done) | (revert hq; with_reducible intro _)) | (with_reducible exact True.intro) | (with_reducible rfl) | ((with_reducible refine WkX.chk ?_); (conv => whnf)) | ((with_reducible refine Wk.chk ?_); (conv => whnf)) | (with_reducible refine EntLe.row ?_) | (with_reducible exact LeN.ro rfl) | (with_reducible exact LeN.rptr) | ((with_reducible refine LeL.chk ?_); (conv => whnf)) | ((with_reducible show LeO _ _); (first | (refine LeO.ro ?_) | (refine LeO.roCap ?_) | (refine LeO.nil ?_ (fun _ => rfl)))) | ((with_reducible show LeR _ _ _); (first | (refine LeR.own rfl rfl rfl ?_) | (refine LeR.view rfl rfl rfl ?_ ?_) | (refine LeR.ro ?_) | (refine LeR.roCap ?_) | (refine LeR.nil ?_ (fun _ => rfl)))) | ((with_reducible refine LeF.chk ?_); (conv => whnf)) | (with_reducible assumption) | ((with_reducible refine Run.mk ?_); (conv => whnf)) | ((with_reducible show drawOK _ _ = true); kernel_rfl) | ((with_reducible show drawOK2 _ _ = true); kernel_rfl) | ((with_reducible show drawOK3 _ _ = true); kernel_rfl))
  all_goals first
    | exact hs
    | (rw [sgns_len']; done)
    | trace_state
theorem con_rsize : Con prog 109 (fun ((x, u) : Sgn × Int) => [.agg (sgAV x), .v (.int .i64 u)]) (fun (x, u) => .v (.int .i64 (if u = 1 then x.len else 1))) (fun (_, u) => u = 1 ∨ u = 2) := by
  refine Con.of (by kernel_rfl) T_ok CdsOK.nil .nil 3 [] q_rsize.1 q_rsize.2.1 q_rsize.2.2 (fun _ => rfl) fun i hi => ?_
  obtain ⟨x, u⟩ := i
  have hi : u = 1 ∨ u = 2 := hi
  rcases hi with rfl | rfl
  · repeat' (first | (with_reducible exact fun h => h) | (with_reducible refine ExE.row (by with_unfolding_all rfl) ?_) | (with_reducible refine And.intro ?_ ?_) | ((with_reducible intro hq); first | (exact bne1 hq (by with_reducible assumption)) | (exact bne1 (by with_reducible assumption) hq) | ((simp only [*, Bool.and_true, Bool.true_and, Bool.and_false, Bool.false_and, Bool.or_true, Bool.true_or, Bool.or_false, Bool.false_or, Bool.not_true, Bool.not_false, Bool.true_eq_false, Bool.false_eq_true, cond_true, cond_false, Bool.cond_self, reduceCtorEq] at hq); done) | (revert hq; with_reducible intro _)) | (with_reducible exact True.intro) | (with_reducible rfl) | ((with_reducible refine WkX.chk ?_); (conv => whnf)) | ((with_reducible refine Wk.chk ?_); (conv => whnf)) | (with_reducible refine EntLe.row ?_) | (with_reducible exact LeN.ro rfl) | (with_reducible exact LeN.rptr) | ((with_reducible refine LeL.chk ?_); (conv => whnf)) | ((with_reducible show LeO _ _); (first | (refine LeO.ro ?_) | (refine LeO.roCap ?_) | (refine LeO.nil ?_ (fun _ => rfl)))) | ((with_reducible show LeR _ _ _); (first | (refine LeR.own rfl rfl rfl ?_) | (refine LeR.view rfl rfl rfl ?_ ?_) | (refine LeR.ro ?_) | (refine LeR.roCap ?_) | (refine LeR.nil ?_ (fun _ => rfl)))) | ((with_reducible refine LeF.chk ?_); (conv => whnf)) | (with_reducible assumption) | ((with_reducible refine Run.mk ?_); (conv => whnf)) | ((with_reducible show drawOK _ _ = true); kernel_rfl) | ((with_reducible show drawOK2 _ _ = true); kernel_rfl) | ((with_reducible show drawOK3 _ _ = true); kernel_rfl))
    all_goals first
      | rfl
      | (exfalso; simp_all; done)
      | trace_state
  · repeat' (first | (with_reducible exact fun h => h) | (with_reducible refine ExE.row (by with_unfolding_all rfl) ?_) | (with_reducible refine And.intro ?_ ?_) | ((with_reducible intro hq); first | (exact bne1 hq (by with_reducible assumption)) | (exact bne1 (by with_reducible assumption) hq) | ((simp only [*, Bool.and_true, Bool.true_and, Bool.and_false, Bool.false_and, Bool.or_true, Bool.true_or, Bool.or_false, Bool.false_or, Bool.not_true, Bool.not_false, Bool.true_eq_false, Bool.false_eq_true, cond_true, cond_false, Bool.cond_self, reduceCtorEq] at hq); done) | (revert hq; with_reducible intro _)) | (with_reducible exact True.intro) | (with_reducible rfl) | ((with_reducible refine WkX.chk ?_); (conv => whnf)) | ((with_reducible refine Wk.chk ?_); (conv => whnf)) | (with_reducible refine EntLe.row ?_) | (with_reducible exact LeN.ro rfl) | (with_reducible exact LeN.rptr) | ((with_reducible refine LeL.chk ?_); (conv => whnf)) | ((with_reducible show LeO _ _); (first | (refine LeO.ro ?_) | (refine LeO.roCap ?_) | (refine LeO.nil ?_ (fun _ => rfl)))) | ((with_reducible show LeR _ _ _); (first | (refine LeR.own rfl rfl rfl ?_) | (refine LeR.view rfl rfl rfl ?_ ?_) | (refine LeR.ro ?_) | (refine LeR.roCap ?_) | (refine LeR.nil ?_ (fun _ => rfl)))) | ((with_reducible refine LeF.chk ?_); (conv => whnf)) | (with_reducible assumption) | ((with_reducible refine Run.mk ?_); (conv => whnf)) | ((with_reducible show drawOK _ _ = true); kernel_rfl) | ((with_reducible show drawOK2 _ _ = true); kernel_rfl) | ((with_reducible show drawOK3 _ _ = true); kernel_rfl))
    all_goals first
      | rfl
      | (exfalso; simp_all; done)
      | trace_state
theorem con_runit : Con prog 82 (fun u : Int => [.v (.int .i64 u)]) (fun _ => .v (.bool true)) (fun u => u = 1 ∨ u = 2 ∨ u = 3) := by
  refine Con.of (by kernel_rfl) T_ok CdsOK.nil .nil 3 [] q_runit.1 q_runit.2.1 q_runit.2.2 (fun _ => rfl) fun u hu => ?_
  have hu : u = 1 ∨ u = 2 ∨ u = 3 := hu
  rcases hu with rfl | rfl | rfl
  all_goals
    repeat' (first | (with_reducible exact fun h => h) | (with_reducible refine ExE.row (by with_unfolding_all rfl) ?_) | (with_reducible refine And.intro ?_ ?_) | ((with_reducible intro hq); first | (exact bne1 hq (by with_reducible assumption)) | (exact bne1 (by with_reducible assumption) hq) | ((simp only [*, Bool.and_true, Bool.true_and, Bool.and_false, Bool.false_and, Bool.or_true, Bool.true_or, Bool.or_false, Bool.false_or, Bool.not_true, Bool.not_false, Bool.true_eq_false, Bool.false_eq_true, cond_true, cond_false, Bool.cond_self, reduceCtorEq] at hq); done) | (revert hq; with_reducible intro _)) | (with_reducible exact True.intro) | (with_reducible rfl) | ((with_reducible refine WkX.chk ?_); (conv => whnf)) | ((with_reducible refine Wk.chk ?_); (conv => whnf)) | (with_reducible refine EntLe.row ?_) | (with_reducible exact LeN.ro rfl) | (with_reducible exact LeN.rptr) | ((with_reducible refine LeL.chk ?_); (conv => whnf)) | ((with_reducible show LeO _ _); (first | (refine LeO.ro ?_) | (refine LeO.roCap ?_) | (refine LeO.nil ?_ (fun _ => rfl)))) | ((with_reducible show LeR _ _ _); (first | (refine LeR.own rfl rfl rfl ?_) | (refine LeR.view rfl rfl rfl ?_ ?_) | (refine LeR.ro ?_) | (refine LeR.roCap ?_) | (refine LeR.nil ?_ (fun _ => rfl)))) | ((with_reducible refine LeF.chk ?_); (conv => whnf)) | (with_reducible assumption) | ((with_reducible refine Run.mk ?_); (conv => whnf)) | ((with_reducible show drawOK _ _ = true); kernel_rfl) | ((with_reducible show drawOK2 _ _ = true); kernel_rfl) | ((with_reducible show drawOK3 _ _ = true); kernel_rfl))
    all_goals first
      | rfl
      | (exfalso; simp_all; done)
      | (simp_all; done)
      | trace_state
theorem con_rplace : Con prog 84 (fun ((s, a) : ByteArray × Int) => [.v (.string s), .v (.int .i64 a), .v (.int .i64 2), .v (.int .i64 1)]) (fun (s, a) => .tup [.v (.int .i64 (plN s a)), .v (.int .i64 (plE s a))]) (fun (s, _) => s.size ≤ 1000000) := by
  refine Con.of (by kernel_rfl) T_ok CdsOK.nil (.con con_rsigns (.con con_rsize (.con con_runit .nil))) 3 [] q_rplace.1 q_rplace.2.1 q_rplace.2.2 (fun _ => rfl) fun i hs => ?_
  obtain ⟨s, a⟩ := i
  have hs : s.size ≤ 1000000 := hs
  by_cases ha : a < 0
  · have ht : decide (a < 0) = true := decide_eq_true ha
    repeat' (first | (with_reducible refine ⟨_, ⟨(.cons (.v _) .nil), ?_⟩, ?_⟩) | (with_reducible exact fun h => h) | (with_reducible refine ExE.row (by with_unfolding_all rfl) ?_) | (with_reducible refine And.intro ?_ ?_) | ((with_reducible intro hq); first | (exact bne1 hq (by with_reducible assumption)) | (exact bne1 (by with_reducible assumption) hq) | ((simp only [*, Bool.and_true, Bool.true_and, Bool.and_false, Bool.false_and, Bool.or_true, Bool.true_or, Bool.or_false, Bool.false_or, Bool.not_true, Bool.not_false, Bool.true_eq_false, Bool.false_eq_true, cond_true, cond_false, Bool.cond_self, reduceCtorEq] at hq); done) | (revert hq; with_reducible intro _)) | (with_reducible exact True.intro) | (with_reducible rfl) | ((with_reducible refine WkX.chk ?_); (conv => whnf)) | ((with_reducible refine Wk.chk ?_); (conv => whnf)) | (with_reducible refine EntLe.row ?_) | (with_reducible exact LeN.ro rfl) | (with_reducible exact LeN.rptr) | ((with_reducible refine LeL.chk ?_); (conv => whnf)) | ((with_reducible show LeO _ _); (first | (refine LeO.ro ?_) | (refine LeO.roCap ?_) | (refine LeO.nil ?_ (fun _ => rfl)))) | ((with_reducible show LeR _ _ _); (first | (refine LeR.own rfl rfl rfl ?_) | (refine LeR.view rfl rfl rfl ?_ ?_) | (refine LeR.ro ?_) | (refine LeR.roCap ?_) | (refine LeR.nil ?_ (fun _ => rfl)))) | ((with_reducible refine LeF.chk ?_); (conv => whnf)) | (with_reducible assumption) | ((with_reducible refine Run.mk ?_); (conv => whnf)) | ((with_reducible show drawOK _ _ = true); kernel_rfl) | ((with_reducible show drawOK2 _ _ = true); kernel_rfl) | ((with_reducible show drawOK3 _ _ = true); kernel_rfl))
    all_goals first
      | (unfold plN; rw [if_neg (by omega)]; done)
      | (unfold plE; rw [if_neg (by omega)]; done)
      | (dsimp only; omega)
      | (exfalso; simp_all; done)
      | trace_state
  · have ht : decide (a < 0) = false := decide_eq_false ha
    have hn := sgN_le s
    have hl := sgns_len' s
    repeat' (first | (with_reducible refine ⟨_, ⟨(.cons (.v _) .nil), ?_⟩, ?_⟩) | (with_reducible exact fun h => h) | (with_reducible refine ExE.row (by with_unfolding_all rfl) ?_) | (with_reducible refine And.intro ?_ ?_) | ((with_reducible intro hq); first | (exact bne1 hq (by with_reducible assumption)) | (exact bne1 (by with_reducible assumption) hq) | ((simp only [*, Bool.and_true, Bool.true_and, Bool.and_false, Bool.false_and, Bool.or_true, Bool.true_or, Bool.or_false, Bool.false_or, Bool.not_true, Bool.not_false, Bool.true_eq_false, Bool.false_eq_true, cond_true, cond_false, Bool.cond_self, reduceCtorEq] at hq); done) | (revert hq; with_reducible intro _)) | (with_reducible exact True.intro) | (with_reducible rfl) | ((with_reducible refine WkX.chk ?_); (conv => whnf)) | ((with_reducible refine Wk.chk ?_); (conv => whnf)) | (with_reducible refine EntLe.row ?_) | (with_reducible exact LeN.ro rfl) | (with_reducible exact LeN.rptr) | ((with_reducible refine LeL.chk ?_); (conv => whnf)) | ((with_reducible show LeO _ _); (first | (refine LeO.ro ?_) | (refine LeO.roCap ?_) | (refine LeO.nil ?_ (fun _ => rfl)))) | ((with_reducible show LeR _ _ _); (first | (refine LeR.own rfl rfl rfl ?_) | (refine LeR.view rfl rfl rfl ?_ ?_) | (refine LeR.ro ?_) | (refine LeR.roCap ?_) | (refine LeR.nil ?_ (fun _ => rfl)))) | ((with_reducible refine LeF.chk ?_); (conv => whnf)) | (with_reducible assumption) | ((with_reducible refine Run.mk ?_); (conv => whnf)) | ((with_reducible show drawOK _ _ = true); kernel_rfl) | ((with_reducible show drawOK2 _ _ = true); kernel_rfl) | ((with_reducible show drawOK3 _ _ = true); kernel_rfl))
    all_goals (try (dsimp only; omega))
    refine loopI Nat [] (fun i => [(13, .v (.int .i64 (i : Nat))), (11, .v (.int .i64 (i : Nat))), (12, .v (.int .i64 (posS s i : Nat)))]) (fun _ => []) (fun i => i ≤ sgN s ∧ (i : Int) ≤ a) (fun i => sgN s - i) 0 ⟨Nat.zero_le _, by omega⟩ (Wk.chk ?_) fun i hi => ?_
    · ((conv => whnf); repeat' (first | (with_reducible exact fun h => h) | (with_reducible refine ExE.row (by with_unfolding_all rfl) ?_) | (with_reducible refine And.intro ?_ ?_) | ((with_reducible intro hq); first | (exact bne1 hq (by with_reducible assumption)) | (exact bne1 (by with_reducible assumption) hq) | ((simp only [*, Bool.and_true, Bool.true_and, Bool.and_false, Bool.false_and, Bool.or_true, Bool.true_or, Bool.or_false, Bool.false_or, Bool.not_true, Bool.not_false, Bool.true_eq_false, Bool.false_eq_true, cond_true, cond_false, Bool.cond_self, reduceCtorEq] at hq); done) | (revert hq; with_reducible intro _)) | (with_reducible exact True.intro) | (with_reducible rfl) | ((with_reducible refine WkX.chk ?_); (conv => whnf)) | ((with_reducible refine Wk.chk ?_); (conv => whnf)) | (with_reducible refine EntLe.row ?_) | (with_reducible exact LeN.ro rfl) | (with_reducible exact LeN.rptr) | ((with_reducible refine LeL.chk ?_); (conv => whnf)) | ((with_reducible show LeO _ _); (first | (refine LeO.ro ?_) | (refine LeO.roCap ?_) | (refine LeO.nil ?_ (fun _ => rfl)))) | ((with_reducible show LeR _ _ _); (first | (refine LeR.own rfl rfl rfl ?_) | (refine LeR.view rfl rfl rfl ?_ ?_) | (refine LeR.ro ?_) | (refine LeR.roCap ?_) | (refine LeR.nil ?_ (fun _ => rfl)))) | ((with_reducible refine LeF.chk ?_); (conv => whnf)) | (with_reducible assumption) | ((with_reducible refine Run.mk ?_); (conv => whnf)) | ((with_reducible show drawOK _ _ = true); kernel_rfl) | ((with_reducible show drawOK2 _ _ = true); kernel_rfl) | ((with_reducible show drawOK3 _ _ = true); kernel_rfl)))
      all_goals first
        | rfl
        | (rw [posS_zero]; rfl)
        | trace_state
    obtain ⟨hi1, hi2⟩ := hi
    have e1 : ((i : Int)).toNat = i := Int.toNat_natCast _
    have hd : C_sgn.d = ⟨0, 0, 0, false⟩ := rfl
    have hpl := posS_le s i
    by_cases hin : i < sgN s
    · have hlt : decide ((i : Int) < ((sgns s).length : Int)) = true := decide_eq_true (by omega)
      by_cases hia : (i : Int) = a
      · have hyes : ((i : Int) == a) = true := by simpa using hia
        repeat' (first | (with_reducible exact fun h => h) | (with_reducible refine ExE.row (by with_unfolding_all rfl) ?_) | (with_reducible refine And.intro ?_ ?_) | ((with_reducible intro hq); first | (exact bne1 hq (by with_reducible assumption)) | (exact bne1 (by with_reducible assumption) hq) | ((simp only [*, Bool.and_true, Bool.true_and, Bool.and_false, Bool.false_and, Bool.or_true, Bool.true_or, Bool.or_false, Bool.false_or, Bool.not_true, Bool.not_false, Bool.true_eq_false, Bool.false_eq_true, cond_true, cond_false, Bool.cond_self, reduceCtorEq] at hq); done) | (revert hq; with_reducible intro _)) | (with_reducible exact True.intro) | (with_reducible rfl) | ((with_reducible refine WkX.chk ?_); (conv => whnf)) | ((with_reducible refine Wk.chk ?_); (conv => whnf)) | (with_reducible refine EntLe.row ?_) | (with_reducible exact LeN.ro rfl) | (with_reducible exact LeN.rptr) | ((with_reducible refine LeL.chk ?_); (conv => whnf)) | ((with_reducible show LeO _ _); (first | (refine LeO.ro ?_) | (refine LeO.roCap ?_) | (refine LeO.nil ?_ (fun _ => rfl)))) | ((with_reducible show LeR _ _ _); (first | (refine LeR.own rfl rfl rfl ?_) | (refine LeR.view rfl rfl rfl ?_ ?_) | (refine LeR.ro ?_) | (refine LeR.roCap ?_) | (refine LeR.nil ?_ (fun _ => rfl)))) | ((with_reducible refine LeF.chk ?_); (conv => whnf)) | (with_reducible assumption) | ((with_reducible refine Run.mk ?_); (conv => whnf)) | ((with_reducible show drawOK _ _ = true); kernel_rfl) | ((with_reducible show drawOK2 _ _ = true); kernel_rfl) | ((with_reducible show drawOK3 _ _ = true); kernel_rfl))
        all_goals first
          | (unfold plN; rw [if_pos ⟨by omega, by omega⟩, show a.toNat = i by omega]; done)
          | (unfold plE; rw [if_pos ⟨by omega, by omega⟩]; done)
          | (exfalso; simp_all; done)
          | trace_state
      · have hno : ((i : Int) == a) = false := by simpa using hia
        obtain ⟨q1, q2, q3⟩ := sgns_at s hin
        have hpl2 := posS_le s (i + 1)
        have hgt : decide (a < (i : Int) + (if (2 : Int) = 1 then ((sgns s).getD ((i : Int)).toNat C_sgn.d).len else 1)) = false := decide_eq_false (by rw [if_neg (by decide)]; omega)
        have hlen : ((sgns s).getD ((i : Int)).toNat C_sgn.d).len = ((Utf8.decode s (posS s i)).2 : Int) := by rw [e1, hd, q1]; rfl
        repeat' (first | (with_reducible refine ⟨(⟨_, _, _, _⟩, _), ⟨(.cons (.agg (.cons (.v _) (.cons (.v _) (.cons (.v _) (.cons (.sb _) .nil))))) (.cons (.v _) .nil)), ?_⟩, ?_⟩) | (with_reducible refine ex_of (α := Nat) (i + 1) ⟨⟨?_, ?_⟩, ?_⟩ ?_) | (with_reducible exact fun h => h) | (with_reducible refine ExE.row (by with_unfolding_all rfl) ?_) | (with_reducible refine And.intro ?_ ?_) | ((with_reducible intro hq); first | (exact bne1 hq (by with_reducible assumption)) | (exact bne1 (by with_reducible assumption) hq) | ((simp only [*, Bool.and_true, Bool.true_and, Bool.and_false, Bool.false_and, Bool.or_true, Bool.true_or, Bool.or_false, Bool.false_or, Bool.not_true, Bool.not_false, Bool.true_eq_false, Bool.false_eq_true, cond_true, cond_false, Bool.cond_self, reduceCtorEq] at hq); done) | (revert hq; with_reducible intro _)) | (with_reducible exact True.intro) | (with_reducible rfl) | ((with_reducible refine WkX.chk ?_); (conv => whnf)) | ((with_reducible refine Wk.chk ?_); (conv => whnf)) | (with_reducible refine EntLe.row ?_) | (with_reducible exact LeN.ro rfl) | (with_reducible exact LeN.rptr) | ((with_reducible refine LeL.chk ?_); (conv => whnf)) | ((with_reducible show LeO _ _); (first | (refine LeO.ro ?_) | (refine LeO.roCap ?_) | (refine LeO.nil ?_ (fun _ => rfl)))) | ((with_reducible show LeR _ _ _); (first | (refine LeR.own rfl rfl rfl ?_) | (refine LeR.view rfl rfl rfl ?_ ?_) | (refine LeR.ro ?_) | (refine LeR.roCap ?_) | (refine LeR.nil ?_ (fun _ => rfl)))) | ((with_reducible refine LeF.chk ?_); (conv => whnf)) | (with_reducible assumption) | ((with_reducible refine Run.mk ?_); (conv => whnf)) | ((with_reducible show drawOK _ _ = true); kernel_rfl) | ((with_reducible show drawOK2 _ _ = true); kernel_rfl) | ((with_reducible show drawOK3 _ _ = true); kernel_rfl))
        all_goals first
          | omega
          | (dsimp only; omega)
          | (simp only [if_neg (show ¬ ((2 : Int) = 1) by decide), if_pos (show (1 : Int) = 1 from rfl), hlen] at *; first | omega | (apply Fits.i64 <;> omega))
          | trace_state
    · have hlt : decide ((i : Int) < ((sgns s).length : Int)) = false := decide_eq_false (by omega)
      obtain rfl : i = sgN s := by omega
      by_cases hia : ((sgN s : Nat) : Int) = a
      · have hyes : (((sgN s : Nat) : Int) == a) = true := by simpa using hia
        repeat' (first | (with_reducible exact fun h => h) | (with_reducible refine ExE.row (by with_unfolding_all rfl) ?_) | (with_reducible refine And.intro ?_ ?_) | ((with_reducible intro hq); first | (exact bne1 hq (by with_reducible assumption)) | (exact bne1 (by with_reducible assumption) hq) | ((simp only [*, Bool.and_true, Bool.true_and, Bool.and_false, Bool.false_and, Bool.or_true, Bool.true_or, Bool.or_false, Bool.false_or, Bool.not_true, Bool.not_false, Bool.true_eq_false, Bool.false_eq_true, cond_true, cond_false, Bool.cond_self, reduceCtorEq] at hq); done) | (revert hq; with_reducible intro _)) | (with_reducible exact True.intro) | (with_reducible rfl) | ((with_reducible refine WkX.chk ?_); (conv => whnf)) | ((with_reducible refine Wk.chk ?_); (conv => whnf)) | (with_reducible refine EntLe.row ?_) | (with_reducible exact LeN.ro rfl) | (with_reducible exact LeN.rptr) | ((with_reducible refine LeL.chk ?_); (conv => whnf)) | ((with_reducible show LeO _ _); (first | (refine LeO.ro ?_) | (refine LeO.roCap ?_) | (refine LeO.nil ?_ (fun _ => rfl)))) | ((with_reducible show LeR _ _ _); (first | (refine LeR.own rfl rfl rfl ?_) | (refine LeR.view rfl rfl rfl ?_ ?_) | (refine LeR.ro ?_) | (refine LeR.roCap ?_) | (refine LeR.nil ?_ (fun _ => rfl)))) | ((with_reducible refine LeF.chk ?_); (conv => whnf)) | (with_reducible assumption) | ((with_reducible refine Run.mk ?_); (conv => whnf)) | ((with_reducible show drawOK _ _ = true); kernel_rfl) | ((with_reducible show drawOK2 _ _ = true); kernel_rfl) | ((with_reducible show drawOK3 _ _ = true); kernel_rfl))
        all_goals first
          | (unfold plN; rw [if_pos ⟨by omega, by omega⟩, show a.toNat = sgN s by omega]; done)
          | (unfold plE; rw [if_pos ⟨by omega, by omega⟩]; done)
          | trace_state
      · have hno : (((sgN s : Nat) : Int) == a) = false := by simpa using hia
        repeat' (first | (with_reducible exact fun h => h) | (with_reducible refine ExE.row (by with_unfolding_all rfl) ?_) | (with_reducible refine And.intro ?_ ?_) | ((with_reducible intro hq); first | (exact bne1 hq (by with_reducible assumption)) | (exact bne1 (by with_reducible assumption) hq) | ((simp only [*, Bool.and_true, Bool.true_and, Bool.and_false, Bool.false_and, Bool.or_true, Bool.true_or, Bool.or_false, Bool.false_or, Bool.not_true, Bool.not_false, Bool.true_eq_false, Bool.false_eq_true, cond_true, cond_false, Bool.cond_self, reduceCtorEq] at hq); done) | (revert hq; with_reducible intro _)) | (with_reducible exact True.intro) | (with_reducible rfl) | ((with_reducible refine WkX.chk ?_); (conv => whnf)) | ((with_reducible refine Wk.chk ?_); (conv => whnf)) | (with_reducible refine EntLe.row ?_) | (with_reducible exact LeN.ro rfl) | (with_reducible exact LeN.rptr) | ((with_reducible refine LeL.chk ?_); (conv => whnf)) | ((with_reducible show LeO _ _); (first | (refine LeO.ro ?_) | (refine LeO.roCap ?_) | (refine LeO.nil ?_ (fun _ => rfl)))) | ((with_reducible show LeR _ _ _); (first | (refine LeR.own rfl rfl rfl ?_) | (refine LeR.view rfl rfl rfl ?_ ?_) | (refine LeR.ro ?_) | (refine LeR.roCap ?_) | (refine LeR.nil ?_ (fun _ => rfl)))) | ((with_reducible refine LeF.chk ?_); (conv => whnf)) | (with_reducible assumption) | ((with_reducible refine Run.mk ?_); (conv => whnf)) | ((with_reducible show drawOK _ _ = true); kernel_rfl) | ((with_reducible show drawOK2 _ _ = true); kernel_rfl) | ((with_reducible show drawOK3 _ _ = true); kernel_rfl))
        all_goals first
          | (unfold plN; rw [if_neg (by omega)]; done)
          | (unfold plE; rw [if_neg (by omega)]; done)
          | trace_state
theorem con_rcut : Con prog 53 (fun ((s, f, t) : ByteArray × Int × Int) => [.v (.string s), .v (.int .i64 2), .v (.int .i64 f), .v (.int .i64 t)]) (fun (s, f, t) => .tup [.v (.string (cutT s f t)), .v (.int .i64 (cutE s f t))]) (fun (s, _, _) => s.size ≤ 1000000) := by
  refine Con.of (by kernel_rfl) T_ok CdsOK.nil (.con con_rcount (.con con_rplace (.con con_runit (.inl (J := []) q_rall.1 q_rall.2.1 q_rall.2.2 .nil)))) 5 [] q_rcut.1 q_rcut.2.1 q_rcut.2.2 (fun _ => rfl) fun i hs => ?_
  obtain ⟨s, f, t⟩ := i
  have hs : s.size ≤ 1000000 := hs
  have hn := sgN_le s
  have k1 : ((2 : Int) == 1) = false := rfl
  have k2 : ((2 : Int) == 3) = false := rfl
  by_cases hc : 0 ≤ f ∧ f ≤ t ∧ t ≤ sgN s
  · have hE : cutE s f t = 0 := by unfold cutE; rw [if_pos hc]
    have hT : cutT s f t = s.extract (posS s f.toNat) (posS s t.toNat) := by unfold cutT; rw [if_pos hc]
    have p1 : plE s f = 0 := by unfold plE; rw [if_pos ⟨by omega, by omega⟩]
    have p2 : plE s t = 0 := by unfold plE; rw [if_pos ⟨by omega, by omega⟩]
    have p3 : plN s f = (posS s f.toNat : Nat) := by unfold plN; rw [if_pos ⟨by omega, by omega⟩]
    have p4 : plN s t = (posS s t.toNat : Nat) := by unfold plN; rw [if_pos ⟨by omega, by omega⟩]
    have p5 := posS_mono s (i := f.toNat) (j := t.toNat) (by omega) (by omega)
    have p6 := posS_le s t.toNat
    have b1 : (plE s f != 0) = false := by rw [p1]; rfl
    have b2 : (plE s t != 0) = false := by rw [p2]; rfl
    repeat' (first | (with_reducible refine ⟨_, ⟨(.cons (.v _) .nil), ?_⟩, ?_⟩) | (with_reducible refine ⟨(_, _), ⟨(.cons (.v _) (.cons (.v _) (.cons (.v _) (.cons (.v _) .nil)))), ?_⟩, ?_⟩) | (with_reducible exact fun h => h) | (with_reducible refine ExE.row (by with_unfolding_all rfl) ?_) | (with_reducible refine And.intro ?_ ?_) | ((with_reducible intro hq); first | (exact bne1 hq (by with_reducible assumption)) | (exact bne1 (by with_reducible assumption) hq) | ((simp only [*, Bool.and_true, Bool.true_and, Bool.and_false, Bool.false_and, Bool.or_true, Bool.true_or, Bool.or_false, Bool.false_or, Bool.not_true, Bool.not_false, Bool.true_eq_false, Bool.false_eq_true, cond_true, cond_false, Bool.cond_self, reduceCtorEq] at hq); done) | (revert hq; with_reducible intro _)) | (with_reducible exact True.intro) | (with_reducible rfl) | ((with_reducible refine WkX.chk ?_); (conv => whnf)) | ((with_reducible refine Wk.chk ?_); (conv => whnf)) | (with_reducible refine EntLe.row ?_) | (with_reducible exact LeN.ro rfl) | (with_reducible exact LeN.rptr) | ((with_reducible refine LeL.chk ?_); (conv => whnf)) | ((with_reducible show LeO _ _); (first | (refine LeO.ro ?_) | (refine LeO.roCap ?_) | (refine LeO.nil ?_ (fun _ => rfl)))) | ((with_reducible show LeR _ _ _); (first | (refine LeR.own rfl rfl rfl ?_) | (refine LeR.view rfl rfl rfl ?_ ?_) | (refine LeR.ro ?_) | (refine LeR.roCap ?_) | (refine LeR.nil ?_ (fun _ => rfl)))) | ((with_reducible refine LeF.chk ?_); (conv => whnf)) | (with_reducible assumption) | ((with_reducible refine Run.mk ?_); (conv => whnf)) | ((with_reducible show drawOK _ _ = true); kernel_rfl) | ((with_reducible show drawOK2 _ _ = true); kernel_rfl) | ((with_reducible show drawOK3 _ _ = true); kernel_rfl))
    all_goals (try simp only [p1, p2, p3, p4] at *)
    all_goals first
      | omega
      | (dsimp only; omega)
      | (rw [hT]; rfl)
      | (rw [hT]; simp only [Int.toNat_natCast]; done)
      | exact hE.symm
      | (simp only [decide_eq_true_eq, Bool.or_eq_true] at *; omega)
      | (simp_all; done)
      | (exfalso; simp_all; omega)
      | trace_state
  · have hE : cutE s f t = 1 := by unfold cutE; rw [if_neg hc]
    have hT : cutT s f t = ByteArray.empty := by unfold cutT; rw [if_neg hc]
    have hbad : ∀ b, b = (decide (f < 0) || decide (((sgN s : Nat) : Int) < f) || decide (t < 0) || decide (((sgN s : Nat) : Int) < t) || decide (t < f)) → b = true := fun b h => by
      rw [h]
      simp only [Bool.or_eq_true, decide_eq_true_eq]
      omega
    repeat' (first | (with_reducible refine ⟨_, ⟨(.cons (.v _) .nil), ?_⟩, ?_⟩) | (with_reducible refine ⟨(_, _), ⟨(.cons (.v _) (.cons (.v _) (.cons (.v _) (.cons (.v _) .nil)))), ?_⟩, ?_⟩) | (with_reducible exact fun h => h) | (with_reducible refine ExE.row (by with_unfolding_all rfl) ?_) | (with_reducible refine And.intro ?_ ?_) | ((with_reducible intro hq); first | (exact bne1 hq (by with_reducible assumption)) | (exact bne1 (by with_reducible assumption) hq) | ((simp only [*, Bool.and_true, Bool.true_and, Bool.and_false, Bool.false_and, Bool.or_true, Bool.true_or, Bool.or_false, Bool.false_or, Bool.not_true, Bool.not_false, Bool.true_eq_false, Bool.false_eq_true, cond_true, cond_false, Bool.cond_self, reduceCtorEq] at hq); done) | (revert hq; with_reducible intro _)) | (with_reducible exact True.intro) | (with_reducible rfl) | ((with_reducible refine WkX.chk ?_); (conv => whnf)) | ((with_reducible refine Wk.chk ?_); (conv => whnf)) | (with_reducible refine EntLe.row ?_) | (with_reducible exact LeN.ro rfl) | (with_reducible exact LeN.rptr) | ((with_reducible refine LeL.chk ?_); (conv => whnf)) | ((with_reducible show LeO _ _); (first | (refine LeO.ro ?_) | (refine LeO.roCap ?_) | (refine LeO.nil ?_ (fun _ => rfl)))) | ((with_reducible show LeR _ _ _); (first | (refine LeR.own rfl rfl rfl ?_) | (refine LeR.view rfl rfl rfl ?_ ?_) | (refine LeR.ro ?_) | (refine LeR.roCap ?_) | (refine LeR.nil ?_ (fun _ => rfl)))) | ((with_reducible refine LeF.chk ?_); (conv => whnf)) | (with_reducible assumption) | ((with_reducible refine Run.mk ?_); (conv => whnf)) | ((with_reducible show drawOK _ _ = true); kernel_rfl) | ((with_reducible show drawOK2 _ _ = true); kernel_rfl) | ((with_reducible show drawOK3 _ _ = true); kernel_rfl))
    all_goals first
      | exact hT.symm
      | exact hE.symm
      | (dsimp only; omega)
      | (exfalso; have := hbad _ rfl; simp_all; done)
      | (simp_all; done)
      | trace_state
end Go.SX.Try
/- The texts of a way's lines. No program here. -/
namespace Go.SX.Plain
def textL (s : ByteArray) (y : List Part) : ByteArray := if (trimL y).length = 0 then ByteArray.empty else s.extract ((trimL y).getD 0 dPart).c.at.toNat (((trimL y).getD ((trimL y).length - 1) dPart).c.at + ((trimL y).getD ((trimL y).length - 1) dPart).c.len).toNat
def linesE (s : ByteArray) (way : List (Int × Int)) : Int := if 4096 < s.size then 3 else if linesB s way = false then 1 else 0
def linesT (s : ByteArray) (way : List (Int × Int)) : List ByteArray := if linesE s way = 0 then (linesL s way).map (textL s) else []
theorem part_cl (s : ByteArray) {i : Nat} (h : i < (parts s).length) : ∃ f t : Nat, f < t ∧ t ≤ sgN s ∧ ((parts s).getD i dPart).c.frm = f ∧ ((parts s).getD i dPart).c.to = t ∧ ((parts s).getD i dPart).c.at = (posS s f : Nat) ∧ ((parts s).getD i dPart).c.at + ((parts s).getD i dPart).c.len = (posS s t : Nat) := by
  have hlen : (parts s).length = (clusters s).length := by simp [parts]
  have e : ((parts s).getD i dPart).c = (clusters s)[i]'(by omega) := by
    simp [parts, List.getD_eq_getElem?_getD, show i < (clusters s).length by omega]; rfl
  obtain ⟨f, t, h1, h2, h3⟩ := (clusters_ok s _ (List.getElem_mem (show i < (clusters s).length by omega))).ex
  rw [e, h3]
  refine ⟨f, t, h1, h2, rfl, rfl, ?_, ?_⟩
  · exact al_pos s f
  · show (al s).getD f 0 + ((al s).getD t 0 - (al s).getD f 0) = _
    rw [← al_pos s t]
    omega
theorem part_ord (s : ByteArray) {i j : Nat} (h : i ≤ j) (hj : j < (parts s).length) : ((parts s).getD i dPart).c.frm < ((parts s).getD j dPart).c.to ∧ 0 ≤ ((parts s).getD i dPart).c.at ∧ ((parts s).getD i dPart).c.at ≤ ((parts s).getD j dPart).c.at + ((parts s).getD j dPart).c.len ∧ ((parts s).getD j dPart).c.at + ((parts s).getD j dPart).c.len ≤ s.size := by
  obtain ⟨f, t, a1, a2, a3, a4, a5, a6⟩ := part_cl s (i := i) (by omega)
  obtain ⟨f', t', b1, b2, b3, b4, b5, b6⟩ := part_cl s (i := j) hj
  have htt : t ≤ t' := by
    by_cases he : i = j
    · subst he; omega
    · have := (parts_mono s).out i j (by omega) hj
      omega
  have hp := posS_mono s (i := f) (j := t') (by omega) b2
  have hq := posS_le s t'
  exact ⟨by omega, by omega, by omega, by omega⟩
theorem trim_get {l y : List Part} {a b : Nat} (hy : y = (l.drop a).take b) {k : Nat} (hk : k < (trimL y).length) : (trimL y).getD k dPart = l.getD (a + k) dPart ∧ a + k < l.length := by
  have h1 : k < trimN y := by rw [← trimL_len]; exact hk
  have h2 := trimN_le y
  have h3 : y.length = min b (l.length - a) := by rw [hy]; simp
  refine ⟨?_, by omega⟩
  unfold trimL
  subst hy
  simp only [List.getD_eq_getElem?_getD, List.getElem?_take, List.getElem?_drop]
  rw [if_pos h1, if_pos (by omega)]
/-- The document's text of a line is the program's. -/
theorem text_seg (s : ByteArray) {f t : Nat} (hft : f ≤ t) (ht : t ≤ (parts s).length) (hp : 0 < trimN (segOf (parts s) f t)) :
    cutT s ((parts s).getD f dPart).c.frm ((parts s).getD (f + trimN (segOf (parts s) f t) - 1) dPart).c.to = textL s (segOf (parts s) f t) := by
  have hl := trimL_len (segOf (parts s) f t)
  have hle := trimN_le (segOf (parts s) f t)
  have hsl := segOf_len (l := parts s) (frm := f) (to := t) ht
  have g0 := (trim_get (l := parts s) (y := segOf (parts s) f t) (a := f) (b := t - f) rfl (k := 0) (by omega)).1
  have g1 := (trim_get (l := parts s) (y := segOf (parts s) f t) (a := f) (b := t - f) rfl (k := trimN (segOf (parts s) f t) - 1) (by omega)).1
  unfold textL
  rw [if_neg (by omega), hl, g0, g1, Nat.add_zero, show f + (trimN (segOf (parts s) f t) - 1) = f + trimN (segOf (parts s) f t) - 1 by omega]
  obtain ⟨p, q, a1, a2, a3, a4, a5, a6⟩ := part_cl s (i := f) (by omega)
  obtain ⟨p', q', b1, b2, b3, b4, b5, b6⟩ := part_cl s (i := f + trimN (segOf (parts s) f t) - 1) (by omega)
  have ho := part_ord s (i := f) (j := f + trimN (segOf (parts s) f t) - 1) (by omega) (by omega)
  unfold cutT
  rw [if_pos ⟨by omega, by omega, by omega⟩, b6, a5, a3, b4]
  rfl
theorem linesT_len (s : ByteArray) (way : List (Int × Int)) : (linesT s way).length ≤ 5000 := by
  unfold linesT
  split
  · rename_i h
    unfold linesE at h
    split at h
    · cases h
    · rename_i h1
      split at h
      · cases h
      · rename_i h2
        have := linesB_way (s := s) (way := way) (by simpa using h2)
        rw [List.length_map]
        omega
  · simp
end Go.SX.Plain
/- Contract of wrap's Lines. -/
namespace Go.SX.Try
open Go.Proofs Go.Proofs.Try Go.SX.Plain
set_option maxRecDepth 100000
set_option maxHeartbeats 0
set_option linter.unusedSimpArgs false
theorem q_wlines : fact 20 f20 := ⟨by kernel_rfl, rfl, by kernel_rfl⟩
def D_str : Cds := [(9, ⟨ByteArray, C_str⟩)]
theorem D_str_ok : CdsOK T D_str := .cons ⟨fun _ => rfl, by decide, _, rfl, rfl, by decide⟩ .nil
theorem con_wlines : Con prog 20 (fun ((s, way) : ByteArray × List (Int × Int)) => [.v (.string s), .ro 2 C_brk.enc C_brk.d way none true])
    (fun (s, way) => .tup [.ro 1 C_str.enc C_str.d (linesT s way) none, .v (.int .i64 (linesE s way))]) (fun _ => True) := by
  refine Con.of (by kernel_rfl) T_ok D_str_ok (.con con_lines (.con con_trimmed .nil)) 3 [] q_wlines.1 q_wlines.2.1 q_wlines.2.2 (fun _ => rfl) fun i hi => ?_
  obtain ⟨s, way⟩ := i
  by_cases hsz : 4096 < s.size
  · have ht : decide ((4096 : Int) < (s.size : Int)) = true := decide_eq_true (by omega)
    have hE : linesE s way = 3 := by unfold linesE; rw [if_pos hsz]
    have hT : linesT s way = [] := by unfold linesT; rw [hE, if_neg (by decide)]
    repeat' (first | (with_reducible refine ⟨(_, _), ⟨(.cons (.v _) (.cons (.lent _ _ _ _ _ _) .nil)), ?_⟩, ?_⟩) | (with_reducible exact fun h => h) | (with_reducible refine ExE.row (by with_unfolding_all rfl) ?_) | (with_reducible refine And.intro ?_ ?_) | ((with_reducible intro hq); first | (exact bne1 hq (by with_reducible assumption)) | (exact bne1 (by with_reducible assumption) hq) | ((simp only [*, Bool.and_true, Bool.true_and, Bool.and_false, Bool.false_and, Bool.or_true, Bool.true_or, Bool.or_false, Bool.false_or, Bool.not_true, Bool.not_false, Bool.true_eq_false, Bool.false_eq_true, cond_true, cond_false, Bool.cond_self, reduceCtorEq] at hq); done) | (revert hq; with_reducible intro _)) | (with_reducible exact True.intro) | (with_reducible rfl) | ((with_reducible refine WkX.chk ?_); (conv => whnf)) | ((with_reducible refine Wk.chk ?_); (conv => whnf)) | (with_reducible refine EntLe.row ?_) | (with_reducible exact LeN.ro rfl) | (with_reducible exact LeN.rptr) | ((with_reducible refine LeL.chk ?_); (conv => whnf)) | ((with_reducible show LeO _ _); (first | (refine LeO.ro ?_) | (refine LeO.roCap ?_) | (refine LeO.nil ?_ (fun _ => rfl)))) | ((with_reducible show LeR _ _ _); (first | (refine LeR.own rfl rfl rfl ?_) | (refine LeR.view rfl rfl rfl ?_ ?_) | (refine LeR.ro ?_) | (refine LeR.roCap ?_) | (refine LeR.nil ?_ (fun _ => rfl)))) | ((with_reducible refine LeF.chk ?_); (conv => whnf)) | (with_reducible assumption) | ((with_reducible refine Run.mk ?_); (conv => whnf)) | ((with_reducible show drawOK _ _ = true); kernel_rfl) | ((with_reducible show drawOK2 _ _ = true); kernel_rfl) | ((with_reducible show drawOK3 _ _ = true); kernel_rfl))
    all_goals first
      | exact hT
      | exact hT.symm
      | exact hE.symm
      | trace_state
  have ht : decide ((4096 : Int) < (s.size : Int)) = false := decide_eq_false (by omega)
  cases hB : linesB s way with
  | false =>
    have hE : linesE s way = 1 := by unfold linesE; rw [if_neg hsz, if_pos hB]
    have hT : linesT s way = [] := by unfold linesT; rw [hE, if_neg (by decide)]
    have hnb : (!linesB s way) = true := by rw [hB]; rfl
    repeat' (first | (with_reducible refine ⟨(_, _), ⟨(.cons (.v _) (.cons (.lent _ _ _ _ _ _) .nil)), ?_⟩, ?_⟩) | (with_reducible exact fun h => h) | (with_reducible refine ExE.row (by with_unfolding_all rfl) ?_) | (with_reducible refine And.intro ?_ ?_) | ((with_reducible intro hq); first | (exact bne1 hq (by with_reducible assumption)) | (exact bne1 (by with_reducible assumption) hq) | ((simp only [*, Bool.and_true, Bool.true_and, Bool.and_false, Bool.false_and, Bool.or_true, Bool.true_or, Bool.or_false, Bool.false_or, Bool.not_true, Bool.not_false, Bool.true_eq_false, Bool.false_eq_true, cond_true, cond_false, Bool.cond_self, reduceCtorEq] at hq); done) | (revert hq; with_reducible intro _)) | (with_reducible exact True.intro) | (with_reducible rfl) | ((with_reducible refine WkX.chk ?_); (conv => whnf)) | ((with_reducible refine Wk.chk ?_); (conv => whnf)) | (with_reducible refine EntLe.row ?_) | (with_reducible exact LeN.ro rfl) | (with_reducible exact LeN.rptr) | ((with_reducible refine LeL.chk ?_); (conv => whnf)) | ((with_reducible show LeO _ _); (first | (refine LeO.ro ?_) | (refine LeO.roCap ?_) | (refine LeO.nil ?_ (fun _ => rfl)))) | ((with_reducible show LeR _ _ _); (first | (refine LeR.own rfl rfl rfl ?_) | (refine LeR.view rfl rfl rfl ?_ ?_) | (refine LeR.ro ?_) | (refine LeR.roCap ?_) | (refine LeR.nil ?_ (fun _ => rfl)))) | ((with_reducible refine LeF.chk ?_); (conv => whnf)) | (with_reducible assumption) | ((with_reducible refine Run.mk ?_); (conv => whnf)) | ((with_reducible show drawOK _ _ = true); kernel_rfl) | ((with_reducible show drawOK2 _ _ = true); kernel_rfl) | ((with_reducible show drawOK3 _ _ = true); kernel_rfl))
    all_goals first
      | exact hT
      | exact hT.symm
      | exact hE.symm
      | (dsimp only; omega)
      | trace_state
  | true =>
    have hE : linesE s way = 0 := by unfold linesE; rw [if_neg hsz, if_neg (by rw [hB]; decide)]
    have hT : linesT s way = (linesL s way).map (textL s) := by unfold linesT; rw [hE, if_pos rfl]
    have hnb : (!linesB s way) = false := by rw [hB]; rfl
    obtain ⟨hwl, hLl⟩ := linesB_way hB
    have hsm := linesL_small s way
    have hsub := linesL_sub s way
    have hd : C_parts.d = [] := rfl
    have hd2 : C_part.d = dPart := rfl
    repeat' (first | (with_reducible refine ⟨(_, _), ⟨(.cons (.v _) (.cons (.lent _ _ _ _ _ _) .nil)), ?_⟩, ?_⟩) | (with_reducible exact fun h => h) | (with_reducible refine ExE.row (by with_unfolding_all rfl) ?_) | (with_reducible refine And.intro ?_ ?_) | ((with_reducible intro hq); first | (exact bne1 hq (by with_reducible assumption)) | (exact bne1 (by with_reducible assumption) hq) | ((simp only [*, Bool.and_true, Bool.true_and, Bool.and_false, Bool.false_and, Bool.or_true, Bool.true_or, Bool.or_false, Bool.false_or, Bool.not_true, Bool.not_false, Bool.true_eq_false, Bool.false_eq_true, cond_true, cond_false, Bool.cond_self, reduceCtorEq] at hq); done) | (revert hq; with_reducible intro _)) | (with_reducible exact True.intro) | (with_reducible rfl) | ((with_reducible refine WkX.chk ?_); (conv => whnf)) | ((with_reducible refine Wk.chk ?_); (conv => whnf)) | (with_reducible refine EntLe.row ?_) | (with_reducible exact LeN.ro rfl) | (with_reducible exact LeN.rptr) | ((with_reducible refine LeL.chk ?_); (conv => whnf)) | ((with_reducible show LeO _ _); (first | (refine LeO.ro ?_) | (refine LeO.roCap ?_) | (refine LeO.nil ?_ (fun _ => rfl)))) | ((with_reducible show LeR _ _ _); (first | (refine LeR.own rfl rfl rfl ?_) | (refine LeR.view rfl rfl rfl ?_ ?_) | (refine LeR.ro ?_) | (refine LeR.roCap ?_) | (refine LeR.nil ?_ (fun _ => rfl)))) | ((with_reducible refine LeF.chk ?_); (conv => whnf)) | (with_reducible assumption) | ((with_reducible refine Run.mk ?_); (conv => whnf)) | ((with_reducible show drawOK _ _ = true); kernel_rfl) | ((with_reducible show drawOK2 _ _ = true); kernel_rfl) | ((with_reducible show drawOK3 _ _ = true); kernel_rfl))
    · dsimp only; omega
    refine loopI Nat [] (fun k => [(25, .v (.int .i64 (k : Nat))), (8, .own 1)]) (fun k => [(1, .row C_str ((linesT s way).take k) 9 none)]) (fun k => k ≤ (linesL s way).length)
      (fun k => (linesL s way).length - k) 0 (Nat.zero_le _) (Wk.chk ?_) fun k hk => ?_
    · ((conv => whnf); repeat' (first | (with_reducible exact fun h => h) | (with_reducible refine ExE.row (by with_unfolding_all rfl) ?_) | (with_reducible refine And.intro ?_ ?_) | ((with_reducible intro hq); first | (exact bne1 hq (by with_reducible assumption)) | (exact bne1 (by with_reducible assumption) hq) | ((simp only [*, Bool.and_true, Bool.true_and, Bool.and_false, Bool.false_and, Bool.or_true, Bool.true_or, Bool.or_false, Bool.false_or, Bool.not_true, Bool.not_false, Bool.true_eq_false, Bool.false_eq_true, cond_true, cond_false, Bool.cond_self, reduceCtorEq] at hq); done) | (revert hq; with_reducible intro _)) | (with_reducible exact True.intro) | (with_reducible rfl) | ((with_reducible refine WkX.chk ?_); (conv => whnf)) | ((with_reducible refine Wk.chk ?_); (conv => whnf)) | (with_reducible refine EntLe.row ?_) | (with_reducible exact LeN.ro rfl) | (with_reducible exact LeN.rptr) | ((with_reducible refine LeL.chk ?_); (conv => whnf)) | ((with_reducible show LeO _ _); (first | (refine LeO.ro ?_) | (refine LeO.roCap ?_) | (refine LeO.nil ?_ (fun _ => rfl)))) | ((with_reducible show LeR _ _ _); (first | (refine LeR.own rfl rfl rfl ?_) | (refine LeR.view rfl rfl rfl ?_ ?_) | (refine LeR.ro ?_) | (refine LeR.roCap ?_) | (refine LeR.nil ?_ (fun _ => rfl)))) | ((with_reducible refine LeF.chk ?_); (conv => whnf)) | (with_reducible assumption) | ((with_reducible refine Run.mk ?_); (conv => whnf)) | ((with_reducible show drawOK _ _ = true); kernel_rfl) | ((with_reducible show drawOK2 _ _ = true); kernel_rfl) | ((with_reducible show drawOK3 _ _ = true); kernel_rfl)))
      all_goals rfl
    have e1 : ((k : Int)).toNat = k := Int.toNat_natCast _
    by_cases hkl : k < (linesL s way).length
    · have hlt : decide ((k : Int) < ((linesL s way).length : Int)) = true := decide_eq_true (by omega)
      have hmem := getD_memL [] hkl
      have hs1 := hsm _ hmem
      obtain ⟨a, b, hab⟩ := hsub _ hmem
      have htk := take_map (textL s) (linesL s way) [] hkl
      rw [← hT] at htk
      have hg0 := fun h => (trim_get hab (k := 0) h).1
      have hg1 := fun h => trim_get hab (k := (trimL ((linesL s way).getD k [])).length - 1) h
      have hzl : (trimL ((linesL s way).getD k [])).length ≤ s.size := by
        have := trimN_le ((linesL s way).getD k [])
        rw [trimL_len]
        have := hs1.2
        omega
      have hb : 0 < (trimL ((linesL s way).getD k [])).length → 0 ≤ ((trimL ((linesL s way).getD k [])).getD 0 dPart).c.at ∧ ((trimL ((linesL s way).getD k [])).getD 0 dPart).c.at ≤ ((trimL ((linesL s way).getD k [])).getD ((trimL ((linesL s way).getD k [])).length - 1) dPart).c.at + ((trimL ((linesL s way).getD k [])).getD ((trimL ((linesL s way).getD k [])).length - 1) dPart).c.len ∧
          ((trimL ((linesL s way).getD k [])).getD ((trimL ((linesL s way).getD k [])).length - 1) dPart).c.at + ((trimL ((linesL s way).getD k [])).getD ((trimL ((linesL s way).getD k [])).length - 1) dPart).c.len ≤ s.size := fun h => by
        have h2 := hg1 (by omega)
        rw [hg0 h, h2.1]
        exact (part_ord s (i := a + 0) (by omega) h2.2).2
      have ht0 : (trimL ((linesL s way).getD k [])).length = 0 → textL s ((linesL s way).getD k []) = ByteArray.empty := fun h => by
        unfold textL
        rw [if_pos h]
      have ht1 : ¬ (trimL ((linesL s way).getD k [])).length = 0 → textL s ((linesL s way).getD k []) = s.extract ((trimL ((linesL s way).getD k [])).getD 0 dPart).c.at.toNat (((trimL ((linesL s way).getD k [])).getD ((trimL ((linesL s way).getD k [])).length - 1) dPart).c.at + ((trimL ((linesL s way).getD k [])).getD ((trimL ((linesL s way).getD k [])).length - 1) dPart).c.len).toNat := fun h => by
        unfold textL
        rw [if_neg h]
      have htl : (List.take k (linesT s way)).length ≤ k := List.length_take_le _ _
      clear hg0 hg1 hab
      revert hb ht0 ht1 htk hzl
      have hzz : ∃ Z, Z = trimL ((linesL s way).getD k []) := ⟨_, rfl⟩
      obtain ⟨Z, hZ⟩ := hzz
      rw [← hZ]
      intro htk hzl hb ht0 ht1
      have e3 : ((Z.length : Int) - 1).toNat = Z.length - 1 := by omega
      repeat' (first | (with_reducible refine ⟨_, ⟨(.cons (.ro _ _ _ _ _) .nil), ?_⟩, ?_⟩) | (with_reducible refine ex_of (α := Nat) (k + 1) ⟨?_, ?_⟩ ?_) | (with_reducible exact fun h => h) | (with_reducible refine ExE.row (by with_unfolding_all rfl) ?_) | (with_reducible refine And.intro ?_ ?_) | ((with_reducible intro hq); first | (exact bne1 hq (by with_reducible assumption)) | (exact bne1 (by with_reducible assumption) hq) | ((simp only [*, Bool.and_true, Bool.true_and, Bool.and_false, Bool.false_and, Bool.or_true, Bool.true_or, Bool.or_false, Bool.false_or, Bool.not_true, Bool.not_false, Bool.true_eq_false, Bool.false_eq_true, cond_true, cond_false, Bool.cond_self, reduceCtorEq] at hq); done) | (revert hq; with_reducible intro _)) | (with_reducible exact True.intro) | (with_reducible rfl) | ((with_reducible refine WkX.chk ?_); (conv => whnf)) | ((with_reducible refine Wk.chk ?_); (conv => whnf)) | (with_reducible refine EntLe.row ?_) | (with_reducible exact LeN.ro rfl) | (with_reducible exact LeN.rptr) | ((with_reducible refine LeL.chk ?_); (conv => whnf)) | ((with_reducible show LeO _ _); (first | (refine LeO.ro ?_) | (refine LeO.roCap ?_) | (refine LeO.nil ?_ (fun _ => rfl)))) | ((with_reducible show LeR _ _ _); (first | (refine LeR.own rfl rfl rfl ?_) | (refine LeR.view rfl rfl rfl ?_ ?_) | (refine LeR.ro ?_) | (refine LeR.roCap ?_) | (refine LeR.nil ?_ (fun _ => rfl)))) | ((with_reducible refine LeF.chk ?_); (conv => whnf)) | (with_reducible assumption) | ((with_reducible refine Run.mk ?_); (conv => whnf)) | ((with_reducible show drawOK _ _ = true); kernel_rfl) | ((with_reducible show drawOK2 _ _ = true); kernel_rfl) | ((with_reducible show drawOK3 _ _ = true); kernel_rfl))
      all_goals (try simp only [e1, hd, hd2, ← hZ, e3, show Int.toNat 0 = 0 from rfl, C_str, beq_iff_eq, beq_eq_false_iff_ne, ne_eq] at *)
      all_goals first
        | omega
        | rfl
        | (apply Fits.i64 <;> omega)
        | (simp only [List.length_cons, List.length_nil]; omega)
        | (rw [← htk, ht0 (by omega)]; rfl)
        | (rw [← htk, ht1 (by omega)]; done)
        | (have hbb := hb (by omega); first | omega | (apply Fits.i64 <;> omega))
        | trace_state
    · have hlt : decide ((k : Int) < ((linesL s way).length : Int)) = false := decide_eq_false (by omega)
      have hfin : List.take k (linesT s way) = linesT s way := List.take_of_length_le (by rw [hT, List.length_map]; omega)
      repeat' (first | (with_reducible exact fun h => h) | (with_reducible refine ExE.row (by with_unfolding_all rfl) ?_) | (with_reducible refine And.intro ?_ ?_) | ((with_reducible intro hq); first | (exact bne1 hq (by with_reducible assumption)) | (exact bne1 (by with_reducible assumption) hq) | ((simp only [*, Bool.and_true, Bool.true_and, Bool.and_false, Bool.false_and, Bool.or_true, Bool.true_or, Bool.or_false, Bool.false_or, Bool.not_true, Bool.not_false, Bool.true_eq_false, Bool.false_eq_true, cond_true, cond_false, Bool.cond_self, reduceCtorEq] at hq); done) | (revert hq; with_reducible intro _)) | (with_reducible exact True.intro) | (with_reducible rfl) | ((with_reducible refine WkX.chk ?_); (conv => whnf)) | ((with_reducible refine Wk.chk ?_); (conv => whnf)) | (with_reducible refine EntLe.row ?_) | (with_reducible exact LeN.ro rfl) | (with_reducible exact LeN.rptr) | ((with_reducible refine LeL.chk ?_); (conv => whnf)) | ((with_reducible show LeO _ _); (first | (refine LeO.ro ?_) | (refine LeO.roCap ?_) | (refine LeO.nil ?_ (fun _ => rfl)))) | ((with_reducible show LeR _ _ _); (first | (refine LeR.own rfl rfl rfl ?_) | (refine LeR.view rfl rfl rfl ?_ ?_) | (refine LeR.ro ?_) | (refine LeR.roCap ?_) | (refine LeR.nil ?_ (fun _ => rfl)))) | ((with_reducible refine LeF.chk ?_); (conv => whnf)) | (with_reducible assumption) | ((with_reducible refine Run.mk ?_); (conv => whnf)) | ((with_reducible show drawOK _ _ = true); kernel_rfl) | ((with_reducible show drawOK2 _ _ = true); kernel_rfl) | ((with_reducible show drawOK3 _ _ = true); kernel_rfl))
      all_goals first
        | exact hfin
        | exact hE.symm
        | trace_state
end Go.SX.Try
/- Contract of the document's Lines. -/
namespace Go.SX.Try
open Go.Proofs Go.Proofs.Try Go.SX.Plain
set_option maxRecDepth 100000
set_option maxHeartbeats 0
set_option linter.unusedSimpArgs false
theorem q_rlines : fact 21 f21 := ⟨by kernel_rfl, rfl, by kernel_rfl⟩
theorem con_rlines : Con prog 21 (fun ((s, way) : ByteArray × List (Int × Int)) => [.v (.string s), .ro 2 C_brk.enc C_brk.d way none true])
    (fun (s, way) => .tup [.ro 1 C_str.enc C_str.d (linesT s way) none, .v (.int .i64 (linesE s way))]) (fun _ => True) := by
  refine Con.of (by kernel_rfl) T_ok D_str_ok (.con con_pieces (.con con_read (.con con_line (.con con_rcut .nil)))) 3 [] q_rlines.1 q_rlines.2.1 q_rlines.2.2 (fun _ => rfl) fun i hi => ?_
  obtain ⟨s, way⟩ := i
  have hpc : pcs s = (Plain.parts s).map pcOf := rfl
  by_cases hsz : 4096 < s.size
  · have ht : decide ((4096 : Int) < (s.size : Int)) = true := decide_eq_true (by omega)
    have hE : linesE s way = 3 := by unfold linesE; rw [if_pos hsz]
    have hT : linesT s way = [] := by unfold linesT; rw [hE, if_neg (by decide)]
    repeat' (first | (with_reducible refine ⟨(_, _), ⟨(.cons (.v _) (.cons (.lent _ _ _ _ _ _) .nil)), ?_⟩, ?_⟩) | (with_reducible exact fun h => h) | (with_reducible refine ExE.row (by with_unfolding_all rfl) ?_) | (with_reducible refine And.intro ?_ ?_) | ((with_reducible intro hq); first | (exact bne1 hq (by with_reducible assumption)) | (exact bne1 (by with_reducible assumption) hq) | ((simp only [*, Bool.and_true, Bool.true_and, Bool.and_false, Bool.false_and, Bool.or_true, Bool.true_or, Bool.or_false, Bool.false_or, Bool.not_true, Bool.not_false, Bool.true_eq_false, Bool.false_eq_true, cond_true, cond_false, Bool.cond_self, reduceCtorEq] at hq); done) | (revert hq; with_reducible intro _)) | (with_reducible exact True.intro) | (with_reducible rfl) | ((with_reducible refine WkX.chk ?_); (conv => whnf)) | ((with_reducible refine Wk.chk ?_); (conv => whnf)) | (with_reducible refine EntLe.row ?_) | (with_reducible exact LeN.ro rfl) | (with_reducible exact LeN.rptr) | ((with_reducible refine LeL.chk ?_); (conv => whnf)) | ((with_reducible show LeO _ _); (first | (refine LeO.ro ?_) | (refine LeO.roCap ?_) | (refine LeO.nil ?_ (fun _ => rfl)))) | ((with_reducible show LeR _ _ _); (first | (refine LeR.own rfl rfl rfl ?_) | (refine LeR.view rfl rfl rfl ?_ ?_) | (refine LeR.ro ?_) | (refine LeR.roCap ?_) | (refine LeR.nil ?_ (fun _ => rfl)))) | ((with_reducible refine LeF.chk ?_); (conv => whnf)) | (with_reducible assumption) | ((with_reducible refine Run.mk ?_); (conv => whnf)) | ((with_reducible show drawOK _ _ = true); kernel_rfl) | ((with_reducible show drawOK2 _ _ = true); kernel_rfl) | ((with_reducible show drawOK3 _ _ = true); kernel_rfl))
    all_goals first
      | exact hT
      | exact hT.symm
      | exact hE.symm
      | trace_state
  have ht : decide ((4096 : Int) < (s.size : Int)) = false := decide_eq_false (by omega)
  cases hB : linesB s way with
  | false =>
    have hE : linesE s way = 1 := by unfold linesE; rw [if_neg hsz, if_pos hB]
    have hT : linesT s way = [] := by unfold linesT; rw [hE, if_neg (by decide)]
    have hnb : (!linesB s way) = true := by rw [hB]; rfl
    repeat' (first | (with_reducible refine ⟨(s, way), ⟨(.cons (.ro _ _ _ _ _) (.cons (.lent _ _ _ _ _ _) .nil)), ?_⟩, ?_⟩) | (with_reducible refine ⟨_, ⟨(.cons (.v _) .nil), ?_⟩, ?_⟩) | (with_reducible exact fun h => h) | (with_reducible refine ExE.row (by with_unfolding_all rfl) ?_) | (with_reducible refine And.intro ?_ ?_) | ((with_reducible intro hq); first | (exact bne1 hq (by with_reducible assumption)) | (exact bne1 (by with_reducible assumption) hq) | ((simp only [*, Bool.and_true, Bool.true_and, Bool.and_false, Bool.false_and, Bool.or_true, Bool.true_or, Bool.or_false, Bool.false_or, Bool.not_true, Bool.not_false, Bool.true_eq_false, Bool.false_eq_true, cond_true, cond_false, Bool.cond_self, reduceCtorEq] at hq); done) | (revert hq; with_reducible intro _)) | (with_reducible exact True.intro) | (with_reducible rfl) | ((with_reducible refine WkX.chk ?_); (conv => whnf)) | ((with_reducible refine Wk.chk ?_); (conv => whnf)) | (with_reducible refine EntLe.row ?_) | (with_reducible exact LeN.ro rfl) | (with_reducible exact LeN.rptr) | ((with_reducible refine LeL.chk ?_); (conv => whnf)) | ((with_reducible show LeO _ _); (first | (refine LeO.ro ?_) | (refine LeO.roCap ?_) | (refine LeO.nil ?_ (fun _ => rfl)))) | ((with_reducible show LeR _ _ _); (first | (refine LeR.own rfl rfl rfl ?_) | (refine LeR.view rfl rfl rfl ?_ ?_) | (refine LeR.ro ?_) | (refine LeR.roCap ?_) | (refine LeR.nil ?_ (fun _ => rfl)))) | ((with_reducible refine LeF.chk ?_); (conv => whnf)) | (with_reducible assumption) | ((with_reducible refine Run.mk ?_); (conv => whnf)) | ((with_reducible show drawOK _ _ = true); kernel_rfl) | ((with_reducible show drawOK2 _ _ = true); kernel_rfl) | ((with_reducible show drawOK3 _ _ = true); kernel_rfl))
    all_goals first
      | exact hT
      | exact hT.symm
      | exact hE.symm
      | (dsimp only; omega)
      | trace_state
  | true =>
    have hE : linesE s way = 0 := by unfold linesE; rw [if_neg hsz, if_neg (by rw [hB]; decide)]
    have hT : linesT s way = (linesL s way).map (textL s) := by unfold linesT; rw [hE, if_pos rfl]
    have hnb : (!linesB s way) = false := by rw [hB]; rfl
    obtain ⟨R, hR⟩ := read_of hB
    have hRL := readL_of hR
    obtain ⟨hwl, hLl⟩ := linesB_way hB
    have hrl : (castL R).length = R.length := by simp [castL]
    have hd1 : C_int.d = 0 := rfl
    have hd2 : C_pc.d = dPc := rfl
    have hpl := parts_len s
    have hpl2 : (pcs s).length = (Plain.parts s).length := by simp [pcs]
    have hpg : ∀ j, (pcs s).getD j dPc = pcOf ((Plain.parts s).getD j dPart) := fun j => getD_map pcOf (Plain.parts s) dPart j
    have hrn := hR.len
    repeat' (first | (with_reducible refine ⟨(s, way), ⟨(.cons (.ro _ _ _ _ _) (.cons (.lent _ _ _ _ _ _) .nil)), ?_⟩, ?_⟩) | (with_reducible refine ⟨_, ⟨(.cons (.v _) .nil), ?_⟩, ?_⟩) | (with_reducible exact fun h => h) | (with_reducible refine ExE.row (by with_unfolding_all rfl) ?_) | (with_reducible refine And.intro ?_ ?_) | ((with_reducible intro hq); first | (exact bne1 hq (by with_reducible assumption)) | (exact bne1 (by with_reducible assumption) hq) | ((simp only [*, Bool.and_true, Bool.true_and, Bool.and_false, Bool.false_and, Bool.or_true, Bool.true_or, Bool.or_false, Bool.false_or, Bool.not_true, Bool.not_false, Bool.true_eq_false, Bool.false_eq_true, cond_true, cond_false, Bool.cond_self, reduceCtorEq] at hq); done) | (revert hq; with_reducible intro _)) | (with_reducible exact True.intro) | (with_reducible rfl) | ((with_reducible refine WkX.chk ?_); (conv => whnf)) | ((with_reducible refine Wk.chk ?_); (conv => whnf)) | (with_reducible refine EntLe.row ?_) | (with_reducible exact LeN.ro rfl) | (with_reducible exact LeN.rptr) | ((with_reducible refine LeL.chk ?_); (conv => whnf)) | ((with_reducible show LeO _ _); (first | (refine LeO.ro ?_) | (refine LeO.roCap ?_) | (refine LeO.nil ?_ (fun _ => rfl)))) | ((with_reducible show LeR _ _ _); (first | (refine LeR.own rfl rfl rfl ?_) | (refine LeR.view rfl rfl rfl ?_ ?_) | (refine LeR.ro ?_) | (refine LeR.roCap ?_) | (refine LeR.nil ?_ (fun _ => rfl)))) | ((with_reducible refine LeF.chk ?_); (conv => whnf)) | (with_reducible assumption) | ((with_reducible refine Run.mk ?_); (conv => whnf)) | ((with_reducible show drawOK _ _ = true); kernel_rfl) | ((with_reducible show drawOK2 _ _ = true); kernel_rfl) | ((with_reducible show drawOK3 _ _ = true); kernel_rfl))
    all_goals (try (dsimp only; omega))
    refine loopI Nat [] (fun k => [(11, .v (.int .i64 (k : Nat))), (10, .v (.int .i64 (frE (Plain.parts s) R k : Nat))), (9, .own 1)]) (fun k => [(1, .row C_str ((linesT s way).take k) 9 none)]) (fun k => k ≤ R.length + 1)
      (fun k => R.length + 1 - k) 0 (Nat.zero_le _) (Wk.chk ?_) fun k hk => ?_
    · ((conv => whnf); repeat' (first | (with_reducible exact fun h => h) | (with_reducible refine ExE.row (by with_unfolding_all rfl) ?_) | (with_reducible refine And.intro ?_ ?_) | ((with_reducible intro hq); first | (exact bne1 hq (by with_reducible assumption)) | (exact bne1 (by with_reducible assumption) hq) | ((simp only [*, Bool.and_true, Bool.true_and, Bool.and_false, Bool.false_and, Bool.or_true, Bool.true_or, Bool.or_false, Bool.false_or, Bool.not_true, Bool.not_false, Bool.true_eq_false, Bool.false_eq_true, cond_true, cond_false, Bool.cond_self, reduceCtorEq] at hq); done) | (revert hq; with_reducible intro _)) | (with_reducible exact True.intro) | (with_reducible rfl) | ((with_reducible refine WkX.chk ?_); (conv => whnf)) | ((with_reducible refine Wk.chk ?_); (conv => whnf)) | (with_reducible refine EntLe.row ?_) | (with_reducible exact LeN.ro rfl) | (with_reducible exact LeN.rptr) | ((with_reducible refine LeL.chk ?_); (conv => whnf)) | ((with_reducible show LeO _ _); (first | (refine LeO.ro ?_) | (refine LeO.roCap ?_) | (refine LeO.nil ?_ (fun _ => rfl)))) | ((with_reducible show LeR _ _ _); (first | (refine LeR.own rfl rfl rfl ?_) | (refine LeR.view rfl rfl rfl ?_ ?_) | (refine LeR.ro ?_) | (refine LeR.roCap ?_) | (refine LeR.nil ?_ (fun _ => rfl)))) | ((with_reducible refine LeF.chk ?_); (conv => whnf)) | (with_reducible assumption) | ((with_reducible refine Run.mk ?_); (conv => whnf)) | ((with_reducible show drawOK _ _ = true); kernel_rfl) | ((with_reducible show drawOK2 _ _ = true); kernel_rfl) | ((with_reducible show drawOK3 _ _ = true); kernel_rfl)))
      all_goals rfl
    have e1 : ((k : Int)).toNat = k := Int.toNat_natCast _
    by_cases hkl : k ≤ R.length
    case neg =>
      have hlt : decide ((k : Int) ≤ ((readL s way).length : Int)) = false := decide_eq_false (by rw [hRL, hrl]; omega)
      have hfin : List.take k (linesT s way) = linesT s way := List.take_of_length_le (by rw [hT, List.length_map]; omega)
      repeat' (first | (with_reducible exact fun h => h) | (with_reducible refine ExE.row (by with_unfolding_all rfl) ?_) | (with_reducible refine And.intro ?_ ?_) | ((with_reducible intro hq); first | (exact bne1 hq (by with_reducible assumption)) | (exact bne1 (by with_reducible assumption) hq) | ((simp only [*, Bool.and_true, Bool.true_and, Bool.and_false, Bool.false_and, Bool.or_true, Bool.true_or, Bool.or_false, Bool.false_or, Bool.not_true, Bool.not_false, Bool.true_eq_false, Bool.false_eq_true, cond_true, cond_false, Bool.cond_self, reduceCtorEq] at hq); done) | (revert hq; with_reducible intro _)) | (with_reducible exact True.intro) | (with_reducible rfl) | ((with_reducible refine WkX.chk ?_); (conv => whnf)) | ((with_reducible refine Wk.chk ?_); (conv => whnf)) | (with_reducible refine EntLe.row ?_) | (with_reducible exact LeN.ro rfl) | (with_reducible exact LeN.rptr) | ((with_reducible refine LeL.chk ?_); (conv => whnf)) | ((with_reducible show LeO _ _); (first | (refine LeO.ro ?_) | (refine LeO.roCap ?_) | (refine LeO.nil ?_ (fun _ => rfl)))) | ((with_reducible show LeR _ _ _); (first | (refine LeR.own rfl rfl rfl ?_) | (refine LeR.view rfl rfl rfl ?_ ?_) | (refine LeR.ro ?_) | (refine LeR.roCap ?_) | (refine LeR.nil ?_ (fun _ => rfl)))) | ((with_reducible refine LeF.chk ?_); (conv => whnf)) | (with_reducible assumption) | ((with_reducible refine Run.mk ?_); (conv => whnf)) | ((with_reducible show drawOK _ _ = true); kernel_rfl) | ((with_reducible show drawOK2 _ _ = true); kernel_rfl) | ((with_reducible show drawOK3 _ _ = true); kernel_rfl))
      all_goals first
        | exact hfin
        | exact hE.symm
        | trace_state
    have hkt : decide ((k : Int) ≤ ((readL s way).length : Int)) = true := decide_eq_true (by rw [hRL, hrl]; omega)
    have hfe : frE (Plain.parts s) R k = frO R k := by unfold frE; rw [if_pos hkl]
    have e2 : ((frE (Plain.parts s) R k : Nat) : Int).toNat = frO R k := by rw [hfe]; exact Int.toNat_natCast _
    have hget := hR.get k hkl
    have hft := hR.frm k hkl
    have hto := hR.to k
    have htk := take_map (textL s) (linesL s way) [] (i := k) (by omega)
    rw [← hT, hget] at htk
    have htl : (List.take k (linesT s way)).length ≤ k := List.length_take_le _ _
    have htn := trimN_le (segOf (Plain.parts s) (frO R k) (toO (Plain.parts s) R k))
    have hsl := segOf_len (l := Plain.parts s) (frm := frO R k) (to := toO (Plain.parts s) R k) hto
    have hseg := text_seg s hft hto
    have ht0 : trimN (segOf (Plain.parts s) (frO R k) (toO (Plain.parts s) R k)) = 0 → textL s (segOf (Plain.parts s) (frO R k) (toO (Plain.parts s) R k)) = ByteArray.empty := fun h => by
      unfold textL
      rw [if_pos (by rw [trimL_len]; exact h)]
    have hfr : frE (Plain.parts s) R (k + 1) = if k < R.length then R.getD k 0 else (Plain.parts s).length := by
      unfold frE frO
      by_cases h : k < R.length
      · rw [if_pos h, if_pos (by omega), if_neg (by omega), Nat.add_sub_cancel]
      · rw [if_neg h, if_neg (by omega)]
    by_cases hkr : k < R.length
    · rw [if_pos hkr] at hfr
      have htO : toO (Plain.parts s) R k = R.getD k 0 := by unfold toO; rw [if_pos hkr]
      have hkt2 : decide ((k : Int) < ((readL s way).length : Int)) = true := decide_eq_true (by rw [hRL, hrl]; omega)
      have hEe : (readL s way).getD ((k : Int)).toNat C_int.d = ((R.getD k 0 : Nat) : Int) := by rw [e1, hd1, hRL, castL_get]
      have hEn : ((readL s way).getD ((k : Int)).toNat C_int.d).toNat = toO (Plain.parts s) R k := by rw [hEe, htO]; exact Int.toNat_natCast _
      have hTm : trimN (segOf (Plain.parts s) ((frE (Plain.parts s) R k : Nat) : Int).toNat ((readL s way).getD ((k : Int)).toNat C_int.d).toNat) = trimN (segOf (Plain.parts s) (frO R k) (toO (Plain.parts s) R k)) := by rw [e2, hEn]
      repeat' (first | (with_reducible refine ⟨(Plain.parts s, _, _), ⟨(.cons (.ro _ _ _ _ _) (.cons (.v _) (.cons (.v _) .nil))), ?_⟩, ?_⟩) | (with_reducible refine ⟨(_, _, _), ⟨(.cons (.v _) (.cons (.v _) (.cons (.v _) (.cons (.v _) .nil)))), ?_⟩, ?_⟩) | (with_reducible refine ex_of (α := Nat) (k + 1) ⟨?_, ?_⟩ ?_) | (with_reducible exact fun h => h) | (with_reducible refine ExE.row (by with_unfolding_all rfl) ?_) | (with_reducible refine And.intro ?_ ?_) | ((with_reducible intro hq); first | (exact bne1 hq (by with_reducible assumption)) | (exact bne1 (by with_reducible assumption) hq) | ((simp only [*, Bool.and_true, Bool.true_and, Bool.and_false, Bool.false_and, Bool.or_true, Bool.true_or, Bool.or_false, Bool.false_or, Bool.not_true, Bool.not_false, Bool.true_eq_false, Bool.false_eq_true, cond_true, cond_false, Bool.cond_self, reduceCtorEq] at hq); done) | (revert hq; with_reducible intro _)) | (with_reducible exact True.intro) | (with_reducible rfl) | ((with_reducible refine WkX.chk ?_); (conv => whnf)) | ((with_reducible refine Wk.chk ?_); (conv => whnf)) | (with_reducible refine EntLe.row ?_) | (with_reducible exact LeN.ro rfl) | (with_reducible exact LeN.rptr) | ((with_reducible refine LeL.chk ?_); (conv => whnf)) | ((with_reducible show LeO _ _); (first | (refine LeO.ro ?_) | (refine LeO.roCap ?_) | (refine LeO.nil ?_ (fun _ => rfl)))) | ((with_reducible show LeR _ _ _); (first | (refine LeR.own rfl rfl rfl ?_) | (refine LeR.view rfl rfl rfl ?_ ?_) | (refine LeR.ro ?_) | (refine LeR.roCap ?_) | (refine LeR.nil ?_ (fun _ => rfl)))) | ((with_reducible refine LeF.chk ?_); (conv => whnf)) | (with_reducible assumption) | ((with_reducible refine Run.mk ?_); (conv => whnf)) | ((with_reducible show drawOK _ _ = true); kernel_rfl) | ((with_reducible show drawOK2 _ _ = true); kernel_rfl) | ((with_reducible show drawOK3 _ _ = true); kernel_rfl))
      all_goals (try simp only [hTm] at *)
      all_goals
        have e4 : (((frE (Plain.parts s) R k : Nat) : Int) + ((trimN (segOf (Plain.parts s) (frO R k) (toO (Plain.parts s) R k)) : Nat) : Int) - 1).toNat = frO R k + trimN (segOf (Plain.parts s) (frO R k) (toO (Plain.parts s) R k)) - 1 := by omega
      all_goals (try simp only [e1, e2, e4, hd2, hpg, C_str, decide_eq_true_eq, decide_eq_false_iff_not] at *)
      all_goals first
        | omega
        | rfl
        | (apply Fits.i64 <;> omega)
        | exact parts_told s _ (by assumption)
        | exact parts_small s
        | (dsimp only; omega)
        | (simp only [List.length_cons, List.length_nil]; omega)
        | (rw [← htk, ht0 (by omega)]; rfl)
        | (rw [← htk, ← hseg (by omega)]; rfl)
        | trace_state
    · rw [if_neg hkr] at hfr
      obtain rfl : k = R.length := by omega
      have htO : toO (Plain.parts s) R R.length = (Plain.parts s).length := by unfold toO; rw [if_neg (Nat.lt_irrefl _)]
      have hkt2 : decide (((R.length : Nat) : Int) < ((readL s way).length : Int)) = false := decide_eq_false (by rw [hRL, hrl]; omega)
      have hEn : (((pcs s).length : Nat) : Int).toNat = toO (Plain.parts s) R R.length := by rw [htO, hpl2]; exact Int.toNat_natCast _
      have hTm : trimN (segOf (Plain.parts s) ((frE (Plain.parts s) R R.length : Nat) : Int).toNat (((pcs s).length : Int)).toNat) = trimN (segOf (Plain.parts s) (frO R R.length) (toO (Plain.parts s) R R.length)) := by rw [e2, hEn]
      repeat' (first | (with_reducible refine ⟨(Plain.parts s, _, _), ⟨(.cons (.ro _ _ _ _ _) (.cons (.v _) (.cons (.v _) .nil))), ?_⟩, ?_⟩) | (with_reducible refine ⟨(_, _, _), ⟨(.cons (.v _) (.cons (.v _) (.cons (.v _) (.cons (.v _) .nil)))), ?_⟩, ?_⟩) | (with_reducible refine ex_of (α := Nat) (R.length + 1) ⟨?_, ?_⟩ ?_) | (with_reducible exact fun h => h) | (with_reducible refine ExE.row (by with_unfolding_all rfl) ?_) | (with_reducible refine And.intro ?_ ?_) | ((with_reducible intro hq); first | (exact bne1 hq (by with_reducible assumption)) | (exact bne1 (by with_reducible assumption) hq) | ((simp only [*, Bool.and_true, Bool.true_and, Bool.and_false, Bool.false_and, Bool.or_true, Bool.true_or, Bool.or_false, Bool.false_or, Bool.not_true, Bool.not_false, Bool.true_eq_false, Bool.false_eq_true, cond_true, cond_false, Bool.cond_self, reduceCtorEq] at hq); done) | (revert hq; with_reducible intro _)) | (with_reducible exact True.intro) | (with_reducible rfl) | ((with_reducible refine WkX.chk ?_); (conv => whnf)) | ((with_reducible refine Wk.chk ?_); (conv => whnf)) | (with_reducible refine EntLe.row ?_) | (with_reducible exact LeN.ro rfl) | (with_reducible exact LeN.rptr) | ((with_reducible refine LeL.chk ?_); (conv => whnf)) | ((with_reducible show LeO _ _); (first | (refine LeO.ro ?_) | (refine LeO.roCap ?_) | (refine LeO.nil ?_ (fun _ => rfl)))) | ((with_reducible show LeR _ _ _); (first | (refine LeR.own rfl rfl rfl ?_) | (refine LeR.view rfl rfl rfl ?_ ?_) | (refine LeR.ro ?_) | (refine LeR.roCap ?_) | (refine LeR.nil ?_ (fun _ => rfl)))) | ((with_reducible refine LeF.chk ?_); (conv => whnf)) | (with_reducible assumption) | ((with_reducible refine Run.mk ?_); (conv => whnf)) | ((with_reducible show drawOK _ _ = true); kernel_rfl) | ((with_reducible show drawOK2 _ _ = true); kernel_rfl) | ((with_reducible show drawOK3 _ _ = true); kernel_rfl))
      all_goals (try simp only [hTm] at *)
      all_goals
        have e4 : (((frE (Plain.parts s) R R.length : Nat) : Int) + ((trimN (segOf (Plain.parts s) (frO R R.length) (toO (Plain.parts s) R R.length)) : Nat) : Int) - 1).toNat = frO R R.length + trimN (segOf (Plain.parts s) (frO R R.length) (toO (Plain.parts s) R R.length)) - 1 := by omega
      all_goals (try simp only [e1, e2, e4, hd2, hpg, C_str, decide_eq_true_eq, decide_eq_false_iff_not] at *)
      all_goals first
        | omega
        | rfl
        | (apply Fits.i64 <;> omega)
        | exact parts_told s _ (by assumption)
        | exact parts_small s
        | (dsimp only; omega)
        | (simp only [List.length_cons, List.length_nil]; omega)
        | (rw [← htk, ht0 (by omega)]; rfl)
        | (rw [← htk, ← hseg (by omega)]; rfl)
        | trace_state
end Go.SX.Try
/- Contract of the law WrapLines: true, whatever the input. -/
namespace Go.SX.Try
open Go.Proofs Go.Proofs.Try Go.SX.Plain
set_option maxRecDepth 100000
set_option maxHeartbeats 0
set_option linter.unusedSimpArgs false
theorem q_lawLines : fact 5 f5 := ⟨by kernel_rfl, rfl, by kernel_rfl⟩
theorem con_wrapLines : Con prog 5 (fun ((s, way) : ByteArray × List (Int × Int)) => [.v (.string s), .ro 2 C_brk.enc C_brk.d way none true]) (fun _ => .v (.bool true)) (fun _ => True) := by
  refine Con.of (by kernel_rfl) T_ok D_law_ok (.con con_wlines (.con con_rlines (.con con_ours (.con con_same (.con con_texts (.con con_head (.inl (J := []) q_lend.1 q_lend.2.1 q_lend.2.2 (.inl (J := []) q_kept.1 q_kept.2.1 q_kept.2.2 .nil)))))))) 5 [] q_lawLines.1 q_lawLines.2.1 q_lawLines.2.2 (fun _ => rfl) fun i _ => ?_
  obtain ⟨s, way⟩ := i
  have htl := linesT_len s way
  repeat' (first | (with_reducible refine ⟨(_, _), ⟨(.cons (.v _) (.cons (.view (by with_unfolding_all exact rfl) (by with_unfolding_all exact rfl) (by with_unfolding_all exact rfl) ?_) .nil)), ?_⟩, ?_⟩) | (with_reducible refine ⟨(_, _), ⟨(.cons (.v _) (.cons (.lent _ _ _ _ _ _) .nil)), ?_⟩, ?_⟩) | (with_reducible refine ⟨(_, _), ⟨(.cons (.view (by with_unfolding_all exact rfl) (by with_unfolding_all exact rfl) (by with_unfolding_all exact rfl) ?_) (.cons (.lent _ _ _ _ _ _) .nil)), ?_⟩, ?_⟩) | (with_reducible refine ⟨(_, _), ⟨(.cons (.lent _ _ _ _ _ _) (.cons (.lent _ _ _ _ _ _) .nil)), ?_⟩, ?_⟩) | (with_reducible refine ⟨_, ⟨(.cons (.lent _ _ _ _ _ _) .nil), ?_⟩, ?_⟩) | (with_reducible refine ⟨(), ⟨.nil, ?_⟩, ?_⟩) | (with_reducible refine ⟨way, ⟨(by with_unfolding_all exact rfl), (by with_unfolding_all exact rfl), fun _ => (by with_unfolding_all exact rfl)⟩, ?_⟩) | (with_reducible exact fun h => h) | (with_reducible refine ExE.row (by with_unfolding_all rfl) ?_) | (with_reducible refine And.intro ?_ ?_) | ((with_reducible intro hq); first | (exact bne1 hq (by with_reducible assumption)) | (exact bne1 (by with_reducible assumption) hq) | ((simp only [*, Bool.and_true, Bool.true_and, Bool.and_false, Bool.false_and, Bool.or_true, Bool.true_or, Bool.or_false, Bool.false_or, Bool.not_true, Bool.not_false, Bool.true_eq_false, Bool.false_eq_true, cond_true, cond_false, Bool.cond_self, reduceCtorEq] at hq); done) | (revert hq; with_reducible intro _)) | (with_reducible exact True.intro) | (with_reducible rfl) | ((with_reducible refine WkX.chk ?_); (conv => whnf)) | ((with_reducible refine Wk.chk ?_); (conv => whnf)) | (with_reducible refine EntLe.row ?_) | (with_reducible exact LeN.ro rfl) | (with_reducible exact LeN.rptr) | ((with_reducible refine LeL.chk ?_); (conv => whnf)) | ((with_reducible show LeO _ _); (first | (refine LeO.ro ?_) | (refine LeO.roCap ?_) | (refine LeO.nil ?_ (fun _ => rfl)))) | ((with_reducible show LeR _ _ _); (first | (refine LeR.own rfl rfl rfl ?_) | (refine LeR.view rfl rfl rfl ?_ ?_) | (refine LeR.ro ?_) | (refine LeR.roCap ?_) | (refine LeR.nil ?_ (fun _ => rfl)))) | ((with_reducible refine LeF.chk ?_); (conv => whnf)) | (with_reducible assumption) | ((with_reducible refine Run.mk ?_); (conv => whnf)) | ((with_reducible show drawOK _ _ = true); kernel_rfl) | ((with_reducible show drawOK2 _ _ = true); kernel_rfl) | ((with_reducible show drawOK3 _ _ = true); kernel_rfl))
  all_goals first
    | rfl
    | omega
    | (simp [C_brk, zeroAV] at *; done)
    | (simp [C_brk, zeroAV] at *; first | omega | (apply Fits.i64 <;> omega))
    | trace_state
end Go.SX.Try
/- Contracts of chapter 10's law: within, chosen. -/
namespace Go.SX.Plain
def pickB (pl : List (Int × Int)) (picks : List Int) (i : Nat) : Bool := decide ((pl.getD i (0, 0)).2 = 1) || (decide (0 < picks.length) && decide ((picks.getD ((i : Int).tmod picks.length).toNat 0).tmod 2 ≠ 0))
def chosenTo (pl : List (Int × Int)) (picks : List Int) (k : Nat) : List (Int × Int) := ((List.range k).filter (pickB pl picks)).map fun i => pl.getD i (0, 0)
theorem chosenTo_yes {pl : List (Int × Int)} {picks : List Int} {k : Nat} (h : pickB pl picks k = true) : chosenTo pl picks (k + 1) = chosenTo pl picks k ++ [pl.getD k (0, 0)] := by
  unfold chosenTo
  rw [List.range_succ, List.filter_append, List.filter_cons_of_pos h, List.filter_nil, List.map_append]
  rfl
theorem chosenTo_no {pl : List (Int × Int)} {picks : List Int} {k : Nat} (h : pickB pl picks k = false) : chosenTo pl picks (k + 1) = chosenTo pl picks k := by
  unfold chosenTo
  rw [List.range_succ, List.filter_append, List.filter_cons_of_neg (by rw [h]; decide), List.filter_nil, List.append_nil]
theorem chosenTo_len (pl : List (Int × Int)) (picks : List Int) (k : Nat) : (chosenTo pl picks k).length ≤ k := by
  unfold chosenTo
  rw [List.length_map]
  exact Nat.le_trans (List.length_filter_le _ _) (by simp)
end Go.SX.Plain
namespace Go.SX.Try
open Go.Proofs Go.Proofs.Try Go.SX.Plain
set_option maxRecDepth 100000
set_option maxHeartbeats 0
set_option linter.unusedSimpArgs false
theorem q_within : fact 27 f27 := ⟨by kernel_rfl, rfl, by kernel_rfl⟩
theorem q_chosen : fact 28 f28 := ⟨by kernel_rfl, rfl, by kernel_rfl⟩
theorem tmod_bd (a : Int) {n : Int} (hn : 0 < n) : (a.tmod n < 0 → a.tmod n + n = a % n) ∧ (¬ a.tmod n < 0 → a.tmod n = a % n) ∧ -n < a.tmod n ∧ a.tmod n < n := by
  have h1 := Int.emod_nonneg a (show n ≠ 0 by omega)
  have h2 := Int.emod_lt_of_pos a hn
  have h3 := Int.tmod_eq_emod (a := a) (b := n)
  by_cases hc : 0 ≤ a ∨ n ∣ a
  · rw [if_pos hc] at h3
    omega
  · rw [if_neg hc] at h3
    have h4 : a % n ≠ 0 := fun h => hc (.inr (Int.dvd_of_emod_eq_zero h))
    omega
theorem con_within : Con prog 27 (fun ((a, n) : Int × Int) => [.v (.int .i64 a), .v (.int .i64 n)]) (fun (a, n) => .v (.int .i64 (a % n))) (fun (_, n) => 0 < n ∧ n ≤ 1000000) := by
  refine Con.of (by kernel_rfl) T_ok CdsOK.nil .nil 3 [] q_within.1 q_within.2.1 q_within.2.2 (fun _ => rfl) fun i hi => ?_
  obtain ⟨a, n⟩ := i
  have hn : 0 < n ∧ n ≤ 1000000 := hi
  obtain ⟨h1, h2, h3, h4⟩ := tmod_bd a hn.1
  repeat' (first | (with_reducible exact fun h => h) | (with_reducible refine ExE.row (by with_unfolding_all rfl) ?_) | (with_reducible refine And.intro ?_ ?_) | ((with_reducible intro hq); first | (exact bne1 hq (by with_reducible assumption)) | (exact bne1 (by with_reducible assumption) hq) | ((simp only [*, Bool.and_true, Bool.true_and, Bool.and_false, Bool.false_and, Bool.or_true, Bool.true_or, Bool.or_false, Bool.false_or, Bool.not_true, Bool.not_false, Bool.true_eq_false, Bool.false_eq_true, cond_true, cond_false, Bool.cond_self, reduceCtorEq] at hq); done) | (revert hq; with_reducible intro _)) | (with_reducible exact True.intro) | (with_reducible rfl) | ((with_reducible refine WkX.chk ?_); (conv => whnf)) | ((with_reducible refine Wk.chk ?_); (conv => whnf)) | (with_reducible refine EntLe.row ?_) | (with_reducible exact LeN.ro rfl) | (with_reducible exact LeN.rptr) | ((with_reducible refine LeL.chk ?_); (conv => whnf)) | ((with_reducible show LeO _ _); (first | (refine LeO.ro ?_) | (refine LeO.roCap ?_) | (refine LeO.nil ?_ (fun _ => rfl)))) | ((with_reducible show LeR _ _ _); (first | (refine LeR.own rfl rfl rfl ?_) | (refine LeR.view rfl rfl rfl ?_ ?_) | (refine LeR.ro ?_) | (refine LeR.roCap ?_) | (refine LeR.nil ?_ (fun _ => rfl)))) | ((with_reducible refine LeF.chk ?_); (conv => whnf)) | (with_reducible assumption) | ((with_reducible refine Run.mk ?_); (conv => whnf)) | ((with_reducible show drawOK _ _ = true); kernel_rfl) | ((with_reducible show drawOK2 _ _ = true); kernel_rfl) | ((with_reducible show drawOK3 _ _ = true); kernel_rfl))
  all_goals (try simp only [decide_eq_true_eq, decide_eq_false_iff_not] at *)
  all_goals first
    | omega
    | (apply Fits.i64 <;> omega)
    | exact h1 (by assumption)
    | exact h2 (by assumption)
    | trace_state
theorem con_chosen : Con prog 28 (fun ((pl, picks) : List (Int × Int) × List Int) => [.ro 2 C_brk.enc C_brk.d pl none true, .ro 1 C_int.enc C_int.d picks none true]) (fun (pl, picks) => .ro 2 C_brk.enc C_brk.d (chosenTo pl picks pl.length) none) (fun (pl, _) => pl.length ≤ 1000000) := by
  refine Con.of (by kernel_rfl) T_ok D_law_ok .nil 3 [] q_chosen.1 q_chosen.2.1 q_chosen.2.2 (fun _ => rfl) fun i hi => ?_
  obtain ⟨pl, picks⟩ := i
  have hpl : pl.length ≤ 1000000 := hi
  repeat' (first | (with_reducible exact fun h => h) | (with_reducible refine ExE.row (by with_unfolding_all rfl) ?_) | (with_reducible refine And.intro ?_ ?_) | ((with_reducible intro hq); first | (exact bne1 hq (by with_reducible assumption)) | (exact bne1 (by with_reducible assumption) hq) | ((simp only [*, Bool.and_true, Bool.true_and, Bool.and_false, Bool.false_and, Bool.or_true, Bool.true_or, Bool.or_false, Bool.false_or, Bool.not_true, Bool.not_false, Bool.true_eq_false, Bool.false_eq_true, cond_true, cond_false, Bool.cond_self, reduceCtorEq] at hq); done) | (revert hq; with_reducible intro _)) | (with_reducible exact True.intro) | (with_reducible rfl) | ((with_reducible refine WkX.chk ?_); (conv => whnf)) | ((with_reducible refine Wk.chk ?_); (conv => whnf)) | (with_reducible refine EntLe.row ?_) | (with_reducible exact LeN.ro rfl) | (with_reducible exact LeN.rptr) | ((with_reducible refine LeL.chk ?_); (conv => whnf)) | ((with_reducible show LeO _ _); (first | (refine LeO.ro ?_) | (refine LeO.roCap ?_) | (refine LeO.nil ?_ (fun _ => rfl)))) | ((with_reducible show LeR _ _ _); (first | (refine LeR.own rfl rfl rfl ?_) | (refine LeR.view rfl rfl rfl ?_ ?_) | (refine LeR.ro ?_) | (refine LeR.roCap ?_) | (refine LeR.nil ?_ (fun _ => rfl)))) | ((with_reducible refine LeF.chk ?_); (conv => whnf)) | (with_reducible assumption) | ((with_reducible refine Run.mk ?_); (conv => whnf)) | ((with_reducible show drawOK _ _ = true); kernel_rfl) | ((with_reducible show drawOK2 _ _ = true); kernel_rfl) | ((with_reducible show drawOK3 _ _ = true); kernel_rfl))
  refine loopI Nat [] (fun k => [(6, .v (.int .i64 (k : Nat))), (5, .own 1)]) (fun k => [(1, .row C_brk (chosenTo pl picks k) 54 none)]) (fun k => k ≤ pl.length) (fun k => pl.length - k) 0 (Nat.zero_le _) (Wk.chk ?_) fun k hk => ?_
  · ((conv => whnf); repeat' (first | (with_reducible exact fun h => h) | (with_reducible refine ExE.row (by with_unfolding_all rfl) ?_) | (with_reducible refine And.intro ?_ ?_) | ((with_reducible intro hq); first | (exact bne1 hq (by with_reducible assumption)) | (exact bne1 (by with_reducible assumption) hq) | ((simp only [*, Bool.and_true, Bool.true_and, Bool.and_false, Bool.false_and, Bool.or_true, Bool.true_or, Bool.or_false, Bool.false_or, Bool.not_true, Bool.not_false, Bool.true_eq_false, Bool.false_eq_true, cond_true, cond_false, Bool.cond_self, reduceCtorEq] at hq); done) | (revert hq; with_reducible intro _)) | (with_reducible exact True.intro) | (with_reducible rfl) | ((with_reducible refine WkX.chk ?_); (conv => whnf)) | ((with_reducible refine Wk.chk ?_); (conv => whnf)) | (with_reducible refine EntLe.row ?_) | (with_reducible exact LeN.ro rfl) | (with_reducible exact LeN.rptr) | ((with_reducible refine LeL.chk ?_); (conv => whnf)) | ((with_reducible show LeO _ _); (first | (refine LeO.ro ?_) | (refine LeO.roCap ?_) | (refine LeO.nil ?_ (fun _ => rfl)))) | ((with_reducible show LeR _ _ _); (first | (refine LeR.own rfl rfl rfl ?_) | (refine LeR.view rfl rfl rfl ?_ ?_) | (refine LeR.ro ?_) | (refine LeR.roCap ?_) | (refine LeR.nil ?_ (fun _ => rfl)))) | ((with_reducible refine LeF.chk ?_); (conv => whnf)) | (with_reducible assumption) | ((with_reducible refine Run.mk ?_); (conv => whnf)) | ((with_reducible show drawOK _ _ = true); kernel_rfl) | ((with_reducible show drawOK2 _ _ = true); kernel_rfl) | ((with_reducible show drawOK3 _ _ = true); kernel_rfl)))
    all_goals rfl
  have e1 : ((k : Int)).toNat = k := Int.toNat_natCast _
  have hln := chosenTo_len pl picks k
  have hpb : pickB pl picks k = ((pl.getD k C_brk.d).2 == 1 || decide (0 < (picks.length : Int)) && (picks.getD ((k : Int).tmod (picks.length : Int)).toNat C_int.d).tmod 2 != 0) := by
    unfold pickB
    rw [Bool.eq_iff_iff]
    simp [C_brk, C_int]
  repeat' (first | (with_reducible refine ex_of (α := Nat) (k + 1) ⟨?_, ?_⟩ ?_) | (with_reducible exact fun h => h) | (with_reducible refine ExE.row (by with_unfolding_all rfl) ?_) | (with_reducible refine And.intro ?_ ?_) | ((with_reducible intro hq); first | (exact bne1 hq (by with_reducible assumption)) | (exact bne1 (by with_reducible assumption) hq) | ((simp only [*, Bool.and_true, Bool.true_and, Bool.and_false, Bool.false_and, Bool.or_true, Bool.true_or, Bool.or_false, Bool.false_or, Bool.not_true, Bool.not_false, Bool.true_eq_false, Bool.false_eq_true, cond_true, cond_false, Bool.cond_self, reduceCtorEq] at hq); done) | (revert hq; with_reducible intro _)) | (with_reducible exact True.intro) | (with_reducible rfl) | ((with_reducible refine WkX.chk ?_); (conv => whnf)) | ((with_reducible refine Wk.chk ?_); (conv => whnf)) | (with_reducible refine EntLe.row ?_) | (with_reducible exact LeN.ro rfl) | (with_reducible exact LeN.rptr) | ((with_reducible refine LeL.chk ?_); (conv => whnf)) | ((with_reducible show LeO _ _); (first | (refine LeO.ro ?_) | (refine LeO.roCap ?_) | (refine LeO.nil ?_ (fun _ => rfl)))) | ((with_reducible show LeR _ _ _); (first | (refine LeR.own rfl rfl rfl ?_) | (refine LeR.view rfl rfl rfl ?_ ?_) | (refine LeR.ro ?_) | (refine LeR.roCap ?_) | (refine LeR.nil ?_ (fun _ => rfl)))) | ((with_reducible refine LeF.chk ?_); (conv => whnf)) | (with_reducible assumption) | ((with_reducible refine Run.mk ?_); (conv => whnf)) | ((with_reducible show drawOK _ _ = true); kernel_rfl) | ((with_reducible show drawOK2 _ _ = true); kernel_rfl) | ((with_reducible show drawOK3 _ _ = true); kernel_rfl))
  all_goals (try simp only [e1, decide_eq_true_eq, decide_eq_false_iff_not] at *)
  all_goals first
    | omega
    | (apply Fits.i64 <;> omega)
    | rfl
    | (simp only [Bool.and_eq_true, decide_eq_true_eq] at *; first | omega | (have hz := tmod_bd (k : Int) (n := (picks.length : Int)) (by omega); have := Int.emod_nonneg (k : Int) (show (picks.length : Int) ≠ 0 by omega); first | omega | (have hz2 := Int.tmod_nonneg (picks.length : Int) (show 0 ≤ (k : Int) by omega); omega)))
    | (simp_all; done)
    | (simp only [List.length_cons, List.length_nil]; omega)
    | (rw [chosenTo_yes (hpb.trans (by assumption))]; rfl)
    | (rw [chosenTo_no (hpb.trans (by assumption))]; done)
    | (rw [show k = pl.length by omega]; done)
    | trace_state
end Go.SX.Try
