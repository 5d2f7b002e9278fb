/- A verified symbolic executor for Go code in the model, contracts and plain laws that the proofs lean on, BC6. -/
import Derived.Test.YtjbegcohbfglpaaBC5
import Derived.Deep.Fields
set_option linter.unusedVariables false
set_option linter.unusedSimpArgs false
/- Contracts of wrap's trimmed, cells. -/
namespace Go.SX.Try
open Go.Proofs Go.Proofs.Try Go.SX.Plain
set_option maxRecDepth 100000
set_option maxHeartbeats 0
set_option linter.unusedSimpArgs false
theorem con_trimmed : Con prog 28 (fun l : List Part => [.ro 12 C_part.enc C_part.d l none]) (fun l => .ro 12 C_part.enc C_part.d (trimL l) none) (fun l => l.length ≤ 100000) := by
  refine Con.of (by kernel_rfl) T_ok CdsOK.nil .nil 3 [] q_trimmed.1 q_trimmed.2.1 q_trimmed.2.2 (fun _ => rfl) fun l hi => ?_
  have hl : l.length ≤ 100000 := hi
  have hd : C_part.d = dPart := rfl
  have e0 : ((l.length : Int) - 1).toNat = l.length - 1 := by omega
  have hpos : (decide (0 < (l.length : Int)) && (l.getD (l.length - 1) dPart).fin) = true → 0 < l.length ∧ (l.getD (l.length - 1) dPart).fin = true := fun h => by
    simp only [Bool.and_eq_true, decide_eq_true_eq] at h
    exact ⟨by omega, h.2⟩
  have hneg : (decide (0 < (l.length : Int)) && (l.getD (l.length - 1) dPart).fin) = false → ¬ (0 < l.length ∧ (l.getD (l.length - 1) dPart).fin = true) := fun h => by
    rintro ⟨h1, h2⟩
    rw [h2] at h
    simp only [Bool.and_true, decide_eq_false_iff_not] at h
    omega
  have step : ∀ n : Nat, trimGo l (n + 1) = if (l.getD n dPart).blank = true then trimGo l n else n + 1 := fun n => rfl
  repeat' (first | (with_reducible first | exact fun h => h | refine ExE.row (by with_unfolding_all rfl) ?_ | refine And.intro ?_ ?_) | ((with_reducible intro hq); first | exact bne1 hq (by with_reducible assumption) | exact bne1 (by with_reducible assumption) hq | ((simp only [*, BB, cond_true, cond_false, reduceCtorEq] at hq); done) | (revert hq; with_reducible intro _)) | (with_reducible first | exact True.intro | rfl | refine EntLe.row ?_ | exact LeN.ro rfl | exact LeN.rptr | assumption) | ((with_reducible first | refine WkX.chk ?_ | refine Wk.chk ?_ | refine LeL.chk ?_ | refine LeF.chk ?_ | refine Run.mk ?_); (conv => whnf)) | ((with_reducible show LeO _ _); first | refine LeO.ro ?_ | refine LeO.roCap ?_ | refine LeO.nil ?_ (fun _ => rfl)) | ((with_reducible show LeR _ _ _); first | refine LeR.own rfl rfl rfl ?_ | refine LeR.view rfl rfl rfl ?_ ?_ | refine LeR.ro ?_ | refine LeR.roCap ?_ | refine LeR.nil ?_ (fun _ => rfl)) | ((with_reducible first | show drawOK _ _ = true | show lateOK _ _ = true | show drawOK2 _ _ = true | show drawOK3 _ _ = true); kernel_rfl))
  any_goals (first | omega | (simp only [decide_eq_true_eq, Bool.and_eq_true] at *; first | omega | (apply Fits.i64 <;> omega)))
  · have hq : (decide (0 < (l.length : Int)) && (l.getD ((l.length : Int) - 1).toNat C_part.d).fin) = true := by assumption
    rw [e0, hd] at hq
    refine loopI Int [] (fun n => [(3, .v (.int .i64 n))]) (fun _ => []) (fun n => (0 ≤ n ∧ n ≤ l.length) ∧ trimGo l n.toNat = trimN l) (fun n => n.toNat) ((l.length : Int) - 1) ⟨⟨by have := (hpos hq).1; omega, by omega⟩, by unfold trimN; rw [if_pos (hpos hq), e0]⟩ (Wk.chk ?_) fun n hn => ?_
    · ((conv => whnf); repeat' (first | (with_reducible first | exact fun h => h | refine ExE.row (by with_unfolding_all rfl) ?_ | refine And.intro ?_ ?_) | ((with_reducible intro hq); first | exact bne1 hq (by with_reducible assumption) | exact bne1 (by with_reducible assumption) hq | ((simp only [*, BB, cond_true, cond_false, reduceCtorEq] at hq); done) | (revert hq; with_reducible intro _)) | (with_reducible first | exact True.intro | rfl | refine EntLe.row ?_ | exact LeN.ro rfl | exact LeN.rptr | assumption) | ((with_reducible first | refine WkX.chk ?_ | refine Wk.chk ?_ | refine LeL.chk ?_ | refine LeF.chk ?_ | refine Run.mk ?_); (conv => whnf)) | ((with_reducible show LeO _ _); first | refine LeO.ro ?_ | refine LeO.roCap ?_ | refine LeO.nil ?_ (fun _ => rfl)) | ((with_reducible show LeR _ _ _); first | refine LeR.own rfl rfl rfl ?_ | refine LeR.view rfl rfl rfl ?_ ?_ | refine LeR.ro ?_ | refine LeR.roCap ?_ | refine LeR.nil ?_ (fun _ => rfl)) | ((with_reducible first | show drawOK _ _ = true | show lateOK _ _ = true | show drawOK2 _ _ = true | show drawOK3 _ _ = true); kernel_rfl)))
      all_goals rfl
    obtain ⟨⟨h1, h2⟩, h3⟩ := hn
    obtain ⟨n, rfl⟩ := Int.eq_ofNat_of_zero_le h1
    have e1 : ((n : Int) - 1).toNat = n - 1 := by omega
    have e2 : ((n : Int)).toNat = n := Int.toNat_natCast _
    have e3 : (0 : Int).toNat = 0 := rfl
    rw [e2] at h3
    have stepY : 0 < n → (l.getD (n - 1) dPart).blank = true → trimGo l (n - 1) = trimN l := fun h hb => by
      obtain ⟨m, rfl⟩ : ∃ m, n = m + 1 := ⟨n - 1, by omega⟩
      rw [step, if_pos (by simpa using hb)] at h3
      simpa using h3
    have stepN : 0 < n → ¬ (l.getD (n - 1) dPart).blank = true → n = trimN l := fun h hb => by
      obtain ⟨m, rfl⟩ : ∃ m, n = m + 1 := ⟨n - 1, by omega⟩
      rw [step, if_neg (by simpa using hb)] at h3
      exact h3
    have step0 : ¬ 0 < n → n = trimN l := fun h => by
      obtain rfl : n = 0 := by omega
      exact h3
    have stepE : (decide (0 < (n : Int)) && (l.getD (n - 1) dPart).blank) = false → n = trimN l := fun h => by
      by_cases h0 : 0 < n
      · exact stepN h0 (by intro hb; rw [hb] at h; simp at h; omega)
      · exact step0 h0
    repeat' (first | (with_reducible first | refine ex_of (α := Int) ((n : Int) - 1) ⟨⟨⟨?_, ?_⟩, ?_⟩, ?_⟩ ?_ | exact fun h => h | refine ExE.row (by with_unfolding_all rfl) ?_ | refine And.intro ?_ ?_) | ((with_reducible intro hq); first | exact bne1 hq (by with_reducible assumption) | exact bne1 (by with_reducible assumption) hq | ((simp only [*, BB, cond_true, cond_false, reduceCtorEq] at hq); done) | (revert hq; with_reducible intro _)) | (with_reducible first | exact True.intro | rfl | refine EntLe.row ?_ | exact LeN.ro rfl | exact LeN.rptr | assumption) | ((with_reducible first | refine WkX.chk ?_ | refine Wk.chk ?_ | refine LeL.chk ?_ | refine LeF.chk ?_ | refine Run.mk ?_); (conv => whnf)) | ((with_reducible show LeO _ _); first | refine LeO.ro ?_ | refine LeO.roCap ?_ | refine LeO.nil ?_ (fun _ => rfl)) | ((with_reducible show LeR _ _ _); first | refine LeR.own rfl rfl rfl ?_ | refine LeR.view rfl rfl rfl ?_ ?_ | refine LeR.ro ?_ | refine LeR.roCap ?_ | refine LeR.nil ?_ (fun _ => rfl)) | ((with_reducible first | show drawOK _ _ = true | show lateOK _ _ = true | show drawOK2 _ _ = true | show drawOK3 _ _ = true); kernel_rfl))
    all_goals first
      | omega
      | (simp only [decide_eq_true_eq, Bool.and_eq_true, e1, hd] at *; first | omega | (apply Fits.i64 <;> omega) | (exact stepY (by omega) (by simp_all)) )
      | (have hx := stepE (by simp only [e1, hd] at *; assumption); unfold trimL; rw [← hx]; simp [e2, e3]; done)
      | trace_state
  · have hq : (decide (0 < (l.length : Int)) && (l.getD ((l.length : Int) - 1).toNat C_part.d).fin) = false := by assumption
    rw [e0, hd] at hq
    refine loopI Int [] (fun n => [(3, .v (.int .i64 n))]) (fun _ => []) (fun n => (0 ≤ n ∧ n ≤ l.length) ∧ trimGo l n.toNat = trimN l) (fun n => n.toNat) ((l.length : Int)) ⟨⟨by omega, by omega⟩, by unfold trimN; rw [if_neg (hneg hq), Int.toNat_natCast]⟩ (Wk.chk ?_) fun n hn => ?_
    · ((conv => whnf); repeat' (first | (with_reducible first | exact fun h => h | refine ExE.row (by with_unfolding_all rfl) ?_ | refine And.intro ?_ ?_) | ((with_reducible intro hq); first | exact bne1 hq (by with_reducible assumption) | exact bne1 (by with_reducible assumption) hq | ((simp only [*, BB, cond_true, cond_false, reduceCtorEq] at hq); done) | (revert hq; with_reducible intro _)) | (with_reducible first | exact True.intro | rfl | refine EntLe.row ?_ | exact LeN.ro rfl | exact LeN.rptr | assumption) | ((with_reducible first | refine WkX.chk ?_ | refine Wk.chk ?_ | refine LeL.chk ?_ | refine LeF.chk ?_ | refine Run.mk ?_); (conv => whnf)) | ((with_reducible show LeO _ _); first | refine LeO.ro ?_ | refine LeO.roCap ?_ | refine LeO.nil ?_ (fun _ => rfl)) | ((with_reducible show LeR _ _ _); first | refine LeR.own rfl rfl rfl ?_ | refine LeR.view rfl rfl rfl ?_ ?_ | refine LeR.ro ?_ | refine LeR.roCap ?_ | refine LeR.nil ?_ (fun _ => rfl)) | ((with_reducible first | show drawOK _ _ = true | show lateOK _ _ = true | show drawOK2 _ _ = true | show drawOK3 _ _ = true); kernel_rfl)))
      all_goals rfl
    obtain ⟨⟨h1, h2⟩, h3⟩ := hn
    obtain ⟨n, rfl⟩ := Int.eq_ofNat_of_zero_le h1
    have e1 : ((n : Int) - 1).toNat = n - 1 := by omega
    have e2 : ((n : Int)).toNat = n := Int.toNat_natCast _
    have e3 : (0 : Int).toNat = 0 := rfl
    rw [e2] at h3
    have stepY : 0 < n → (l.getD (n - 1) dPart).blank = true → trimGo l (n - 1) = trimN l := fun h hb => by
      obtain ⟨m, rfl⟩ : ∃ m, n = m + 1 := ⟨n - 1, by omega⟩
      rw [step, if_pos (by simpa using hb)] at h3
      simpa using h3
    have stepN : 0 < n → ¬ (l.getD (n - 1) dPart).blank = true → n = trimN l := fun h hb => by
      obtain ⟨m, rfl⟩ : ∃ m, n = m + 1 := ⟨n - 1, by omega⟩
      rw [step, if_neg (by simpa using hb)] at h3
      exact h3
    have step0 : ¬ 0 < n → n = trimN l := fun h => by
      obtain rfl : n = 0 := by omega
      exact h3
    have stepE : (decide (0 < (n : Int)) && (l.getD (n - 1) dPart).blank) = false → n = trimN l := fun h => by
      by_cases h0 : 0 < n
      · exact stepN h0 (by intro hb; rw [hb] at h; simp at h; omega)
      · exact step0 h0
    repeat' (first | (with_reducible first | refine ex_of (α := Int) ((n : Int) - 1) ⟨⟨⟨?_, ?_⟩, ?_⟩, ?_⟩ ?_ | exact fun h => h | refine ExE.row (by with_unfolding_all rfl) ?_ | refine And.intro ?_ ?_) | ((with_reducible intro hq); first | exact bne1 hq (by with_reducible assumption) | exact bne1 (by with_reducible assumption) hq | ((simp only [*, BB, cond_true, cond_false, reduceCtorEq] at hq); done) | (revert hq; with_reducible intro _)) | (with_reducible first | exact True.intro | rfl | refine EntLe.row ?_ | exact LeN.ro rfl | exact LeN.rptr | assumption) | ((with_reducible first | refine WkX.chk ?_ | refine Wk.chk ?_ | refine LeL.chk ?_ | refine LeF.chk ?_ | refine Run.mk ?_); (conv => whnf)) | ((with_reducible show LeO _ _); first | refine LeO.ro ?_ | refine LeO.roCap ?_ | refine LeO.nil ?_ (fun _ => rfl)) | ((with_reducible show LeR _ _ _); first | refine LeR.own rfl rfl rfl ?_ | refine LeR.view rfl rfl rfl ?_ ?_ | refine LeR.ro ?_ | refine LeR.roCap ?_ | refine LeR.nil ?_ (fun _ => rfl)) | ((with_reducible first | show drawOK _ _ = true | show lateOK _ _ = true | show drawOK2 _ _ = true | show drawOK3 _ _ = true); kernel_rfl))
    all_goals first
      | omega
      | (simp only [decide_eq_true_eq, Bool.and_eq_true, e1, hd] at *; first | omega | (apply Fits.i64 <;> omega) | (exact stepY (by omega) (by simp_all)) )
      | (have hx := stepE (by simp only [e1, hd] at *; assumption); unfold trimL; rw [← hx]; simp [e2, e3]; done)
      | trace_state
theorem con_cells : Con prog 30 (fun l : List Part => [.ro 12 C_part.enc C_part.d l none]) (fun l => .v (.int .i64 (cellsL l))) (fun l => l.length ≤ 100000 ∧ Small l) := by
  refine Con.of (by kernel_rfl) T_ok CdsOK.nil (.con con_trimmed .nil) 3 [] q_cells10.1 q_cells10.2.1 q_cells10.2.2 (fun _ => rfl) fun l hi => ?_
  have hl : l.length ≤ 100000 := hi.1
  have hsm := trimL_small hi.2
  have hb := sumC_bd hsm
  have hd : C_part.d = dPart := rfl
  have ht : (trimL l).length ≤ l.length := by rw [trimL_len]; exact trimN_le l
  have hc : cellsL l = sumC (trimL l) (trimL l).length := rfl
  repeat' (first | (with_reducible first | refine ⟨_, ⟨(.cons (.ro _ _ _ _ _) .nil), ?_⟩, ?_⟩ | exact fun h => h | refine ExE.row (by with_unfolding_all rfl) ?_ | refine And.intro ?_ ?_) | ((with_reducible intro hq); first | exact bne1 hq (by with_reducible assumption) | exact bne1 (by with_reducible assumption) hq | ((simp only [*, BB, cond_true, cond_false, reduceCtorEq] at hq); done) | (revert hq; with_reducible intro _)) | (with_reducible first | exact True.intro | rfl | refine EntLe.row ?_ | exact LeN.ro rfl | exact LeN.rptr | assumption) | ((with_reducible first | refine WkX.chk ?_ | refine Wk.chk ?_ | refine LeL.chk ?_ | refine LeF.chk ?_ | refine Run.mk ?_); (conv => whnf)) | ((with_reducible show LeO _ _); first | refine LeO.ro ?_ | refine LeO.roCap ?_ | refine LeO.nil ?_ (fun _ => rfl)) | ((with_reducible show LeR _ _ _); first | refine LeR.own rfl rfl rfl ?_ | refine LeR.view rfl rfl rfl ?_ ?_ | refine LeR.ro ?_ | refine LeR.roCap ?_ | refine LeR.nil ?_ (fun _ => rfl)) | ((with_reducible first | show drawOK _ _ = true | show lateOK _ _ = true | show drawOK2 _ _ = true | show drawOK3 _ _ = true); kernel_rfl))
  refine loopI Nat [] (fun k => [(9, .v (.int .i64 (k : Nat))), (3, .v (.int .i64 (sumC (trimL l) k)))]) (fun _ => []) (fun k => k ≤ (trimL l).length) (fun k => (trimL l).length - k) 0 (Nat.zero_le _) (Wk.chk ?_) fun k hk => ?_
  · ((conv => whnf); repeat' (first | (with_reducible first | exact fun h => h | refine ExE.row (by with_unfolding_all rfl) ?_ | refine And.intro ?_ ?_) | ((with_reducible intro hq); first | exact bne1 hq (by with_reducible assumption) | exact bne1 (by with_reducible assumption) hq | ((simp only [*, BB, cond_true, cond_false, reduceCtorEq] at hq); done) | (revert hq; with_reducible intro _)) | (with_reducible first | exact True.intro | rfl | refine EntLe.row ?_ | exact LeN.ro rfl | exact LeN.rptr | assumption) | ((with_reducible first | refine WkX.chk ?_ | refine Wk.chk ?_ | refine LeL.chk ?_ | refine LeF.chk ?_ | refine Run.mk ?_); (conv => whnf)) | ((with_reducible show LeO _ _); first | refine LeO.ro ?_ | refine LeO.roCap ?_ | refine LeO.nil ?_ (fun _ => rfl)) | ((with_reducible show LeR _ _ _); first | refine LeR.own rfl rfl rfl ?_ | refine LeR.view rfl rfl rfl ?_ ?_ | refine LeR.ro ?_ | refine LeR.roCap ?_ | refine LeR.nil ?_ (fun _ => rfl)) | ((with_reducible first | show drawOK _ _ = true | show lateOK _ _ = true | show drawOK2 _ _ = true | show drawOK3 _ _ = true); kernel_rfl)))
    all_goals rfl
  have e1 : ((k : Int)).toNat = k := Int.toNat_natCast _
  have hbk := hb k
  have hsk := hsm.at k
  have hs1 := fun h => sumC_succ (l := trimL l) (k := k) h
  repeat' (first | (with_reducible first | refine ex_of (α := Nat) (k + 1) ⟨?_, ?_⟩ ?_ | exact fun h => h | refine ExE.row (by with_unfolding_all rfl) ?_ | refine And.intro ?_ ?_) | ((with_reducible intro hq); first | exact bne1 hq (by with_reducible assumption) | exact bne1 (by with_reducible assumption) hq | ((simp only [*, BB, cond_true, cond_false, reduceCtorEq] at hq); done) | (revert hq; with_reducible intro _)) | (with_reducible first | exact True.intro | rfl | refine EntLe.row ?_ | exact LeN.ro rfl | exact LeN.rptr | assumption) | ((with_reducible first | refine WkX.chk ?_ | refine Wk.chk ?_ | refine LeL.chk ?_ | refine LeF.chk ?_ | refine Run.mk ?_); (conv => whnf)) | ((with_reducible show LeO _ _); first | refine LeO.ro ?_ | refine LeO.roCap ?_ | refine LeO.nil ?_ (fun _ => rfl)) | ((with_reducible show LeR _ _ _); first | refine LeR.own rfl rfl rfl ?_ | refine LeR.view rfl rfl rfl ?_ ?_ | refine LeR.ro ?_ | refine LeR.roCap ?_ | refine LeR.nil ?_ (fun _ => rfl)) | ((with_reducible first | show drawOK _ _ = true | show lateOK _ _ = true | show drawOK2 _ _ = true | show drawOK3 _ _ = true); kernel_rfl))
  all_goals first
    | omega
    | (simp only [decide_eq_true_eq, decide_eq_false_iff_not, e1, hd] at *; first | omega | (apply Fits.i64 <;> omega) | (rw [hs1 (by omega)]; done) | (rw [hs1 (by omega)]; rfl))
    | (simp only [decide_eq_true_eq, decide_eq_false_iff_not, e1, hd] at *; rw [hc]; congr 1; omega)
    | trace_state
end Go.SX.Try
/- Contracts of wrap's check, before. -/
namespace Go.SX.Try
open Go.Proofs Go.Proofs.Try Go.SX.Plain
set_option maxRecDepth 100000
set_option maxHeartbeats 0
set_option linter.unusedSimpArgs false
theorem q_before : fact 41 f41 := ⟨by kernel_rfl, rfl, by kernel_rfl⟩
theorem q_check : fact 29 f29 := ⟨by kernel_rfl, rfl, by kernel_rfl⟩
abbrev bAV (b : Bst) : List AV := [.v (.int .i64 b.bad), .v (.int .i64 b.places), .v (.int .i64 b.next), .sb b.ok]
theorem con_before : Con prog 41 (fun ((a, b) : Bst × Bst) => [.agg (bAV a), .agg (bAV b)]) (fun (a, b) => .sb (before a b)) (fun _ => True) := by
  refine Con.of (by kernel_rfl) T_ok CdsOK.nil .nil 2 [] q_before.1 q_before.2.1 q_before.2.2 (fun _ => rfl) fun i _ => ?_
  obtain ⟨⟨a1, a2, a3, a4⟩, ⟨b1, b2, b3, b4⟩⟩ := i
  repeat' (first | (with_reducible first | exact fun h => h | refine ExE.row (by with_unfolding_all rfl) ?_ | refine And.intro ?_ ?_) | ((with_reducible intro hq); first | exact bne1 hq (by with_reducible assumption) | exact bne1 (by with_reducible assumption) hq | ((simp only [*, BB, cond_true, cond_false, reduceCtorEq] at hq); done) | (revert hq; with_reducible intro _)) | (with_reducible first | exact True.intro | rfl | refine EntLe.row ?_ | exact LeN.ro rfl | exact LeN.rptr | assumption) | ((with_reducible first | refine WkX.chk ?_ | refine Wk.chk ?_ | refine LeL.chk ?_ | refine LeF.chk ?_ | refine Run.mk ?_); (conv => whnf)) | ((with_reducible show LeO _ _); first | refine LeO.ro ?_ | refine LeO.roCap ?_ | refine LeO.nil ?_ (fun _ => rfl)) | ((with_reducible show LeR _ _ _); first | refine LeR.own rfl rfl rfl ?_ | refine LeR.view rfl rfl rfl ?_ ?_ | refine LeR.ro ?_ | refine LeR.roCap ?_ | refine LeR.nil ?_ (fun _ => rfl)) | ((with_reducible first | show drawOK _ _ = true | show lateOK _ _ = true | show drawOK2 _ _ = true | show drawOK3 _ _ = true); kernel_rfl))
  all_goals simp_all [before]
theorem con_check : Con prog 29 (fun ((s, w) : ByteArray × Int) => [.v (.string s), .v (.int .i64 w)]) (fun (s, w) => .v (.int .i64 (checkN s.size w))) (fun _ => True) := by
  refine Con.of (by kernel_rfl) T_ok CdsOK.nil .nil 2 [] q_check.1 q_check.2.1 q_check.2.2 (fun _ => rfl) fun i _ => ?_
  obtain ⟨s, w⟩ := i
  repeat' (first | (with_reducible first | exact fun h => h | refine ExE.row (by with_unfolding_all rfl) ?_ | refine And.intro ?_ ?_) | ((with_reducible intro hq); first | exact bne1 hq (by with_reducible assumption) | exact bne1 (by with_reducible assumption) hq | ((simp only [*, BB, cond_true, cond_false, reduceCtorEq] at hq); done) | (revert hq; with_reducible intro _)) | (with_reducible first | exact True.intro | rfl | refine EntLe.row ?_ | exact LeN.ro rfl | exact LeN.rptr | assumption) | ((with_reducible first | refine WkX.chk ?_ | refine Wk.chk ?_ | refine LeL.chk ?_ | refine LeF.chk ?_ | refine Run.mk ?_); (conv => whnf)) | ((with_reducible show LeO _ _); first | refine LeO.ro ?_ | refine LeO.roCap ?_ | refine LeO.nil ?_ (fun _ => rfl)) | ((with_reducible show LeR _ _ _); first | refine LeR.own rfl rfl rfl ?_ | refine LeR.view rfl rfl rfl ?_ ?_ | refine LeR.ro ?_ | refine LeR.roCap ?_ | refine LeR.nil ?_ (fun _ => rfl)) | ((with_reducible first | show drawOK _ _ = true | show lateOK _ _ = true | show drawOK2 _ _ = true | show drawOK3 _ _ = true); kernel_rfl))
  all_goals simp only [Bool.or_eq_true, Bool.or_eq_false_iff, decide_eq_true_eq, decide_eq_false_iff_not, Bool.not_eq_true'] at *
  all_goals first
    | assumption
    | (unfold checkN; repeat' split) <;> omega
end Go.SX.Try
/- Contract of wrap's Badness. -/
namespace Go.SX.Try
open Go.Proofs Go.Proofs.Try Go.SX.Plain
set_option maxRecDepth 100000
set_option maxHeartbeats 0
set_option linter.unusedSimpArgs false
theorem q_badness : fact 11 f11 := ⟨by kernel_rfl, rfl, by kernel_rfl⟩
theorem con_badness : Con prog 11 (fun ((s, width, way) : ByteArray × Int × List (Int × Int)) => [.v (.string s), .v (.int .i64 width), .ro 2 C_brk.enc C_brk.d way none true])
    (fun (s, width, way) => .tup [.v (.int .i64 (badN s width way)), .v (.int .i64 (badE s width way))]) (fun _ => True) := by
  refine Con.of (by kernel_rfl) T_ok CdsOK.nil (.con con_check (.con con_lines (.con con_cells .nil))) 3 [] q_badness.1 q_badness.2.1 q_badness.2.2 (fun _ => rfl) fun i hi => ?_
  obtain ⟨s, width, way⟩ := i
  by_cases hck : checkN s.size width = 0
  case neg =>
    have hE : badE s width way = checkN s.size width := by unfold badE; rw [if_pos hck]
    have hN : badN s width way = 0 := by unfold badN; rw [hE, if_neg hck]
    repeat' (first | (with_reducible first | refine ⟨(_, _), ⟨(.cons (.v _) (.cons (.v _) .nil)), ?_⟩, ?_⟩ | refine ⟨(_, _), ⟨(.cons (.v _) (.cons (.lent _ _ _ _ _ _) .nil)), ?_⟩, ?_⟩ | exact fun h => h | refine ExE.row (by with_unfolding_all rfl) ?_ | refine And.intro ?_ ?_) | ((with_reducible intro hq); first | exact bne1 hq (by with_reducible assumption) | exact bne1 (by with_reducible assumption) hq | ((simp only [*, BB, cond_true, cond_false, reduceCtorEq] at hq); done) | (revert hq; with_reducible intro _)) | (with_reducible first | exact True.intro | rfl | refine EntLe.row ?_ | exact LeN.ro rfl | exact LeN.rptr | assumption) | ((with_reducible first | refine WkX.chk ?_ | refine Wk.chk ?_ | refine LeL.chk ?_ | refine LeF.chk ?_ | refine Run.mk ?_); (conv => whnf)) | ((with_reducible show LeO _ _); first | refine LeO.ro ?_ | refine LeO.roCap ?_ | refine LeO.nil ?_ (fun _ => rfl)) | ((with_reducible show LeR _ _ _); first | refine LeR.own rfl rfl rfl ?_ | refine LeR.view rfl rfl rfl ?_ ?_ | refine LeR.ro ?_ | refine LeR.roCap ?_ | refine LeR.nil ?_ (fun _ => rfl)) | ((with_reducible first | show drawOK _ _ = true | show lateOK _ _ = true | show drawOK2 _ _ = true | show drawOK3 _ _ = true); kernel_rfl))
    all_goals first
      | exact hN.symm
      | exact hE.symm
      | (exfalso; simp_all; done)
  have hw : 2 ≤ width ∧ width ≤ 200 ∧ s.size ≤ 4096 := by
    unfold checkN at hck
    split at hck
    · cases hck
    · split at hck
      · cases hck
      · omega
  obtain ⟨hw1, hw2, hsz⟩ := hw
  cases hB : linesB s way with
  | false =>
    have hE : badE s width way = 1 := by unfold badE; rw [if_neg (by simp [hck]), if_pos hB]
    have hN : badN s width way = 0 := by unfold badN; rw [hE, if_neg (by decide)]
    repeat' (first | (with_reducible first | refine ⟨(_, _), ⟨(.cons (.v _) (.cons (.v _) .nil)), ?_⟩, ?_⟩ | refine ⟨(_, _), ⟨(.cons (.v _) (.cons (.lent _ _ _ _ _ _) .nil)), ?_⟩, ?_⟩ | exact fun h => h | refine ExE.row (by with_unfolding_all rfl) ?_ | refine And.intro ?_ ?_) | ((with_reducible intro hq); first | exact bne1 hq (by with_reducible assumption) | exact bne1 (by with_reducible assumption) hq | ((simp only [*, BB, cond_true, cond_false, reduceCtorEq] at hq); done) | (revert hq; with_reducible intro _)) | (with_reducible first | exact True.intro | rfl | refine EntLe.row ?_ | exact LeN.ro rfl | exact LeN.rptr | assumption) | ((with_reducible first | refine WkX.chk ?_ | refine Wk.chk ?_ | refine LeL.chk ?_ | refine LeF.chk ?_ | refine Run.mk ?_); (conv => whnf)) | ((with_reducible show LeO _ _); first | refine LeO.ro ?_ | refine LeO.roCap ?_ | refine LeO.nil ?_ (fun _ => rfl)) | ((with_reducible show LeR _ _ _); first | refine LeR.own rfl rfl rfl ?_ | refine LeR.view rfl rfl rfl ?_ ?_ | refine LeR.ro ?_ | refine LeR.roCap ?_ | refine LeR.nil ?_ (fun _ => rfl)) | ((with_reducible first | show drawOK _ _ = true | show lateOK _ _ = true | show drawOK2 _ _ = true | show drawOK3 _ _ = true); kernel_rfl))
    all_goals first
      | exact hN.symm
      | exact hE.symm
      | (show s.size ≤ 100000; omega)
      | (exfalso; simp_all; done)
  | true =>
    obtain ⟨hwl, hLl⟩ := linesB_way hB
    have hsm := linesL_small s way
    have hcb : ∀ y ∈ linesL s way, 0 ≤ cellsL y := fun y hy => (cellsL_bd (hsm y hy).1).1
    have hnz : (checkN s.size width != 0) = false := by rw [hck]; rfl
    have hnb : (!linesB s way) = false := by rw [hB]; rfl
    have hd : C_parts.d = [] := rfl
    have hd2 : C_brk.d = (0, 0) := rfl
    repeat' (first | (with_reducible first | refine ⟨(_, _), ⟨(.cons (.v _) (.cons (.v _) .nil)), ?_⟩, ?_⟩ | refine ⟨(_, _), ⟨(.cons (.v _) (.cons (.lent _ _ _ _ _ _) .nil)), ?_⟩, ?_⟩ | exact fun h => h | refine ExE.row (by with_unfolding_all rfl) ?_ | refine And.intro ?_ ?_) | ((with_reducible intro hq); first | exact bne1 hq (by with_reducible assumption) | exact bne1 (by with_reducible assumption) hq | ((simp only [*, BB, cond_true, cond_false, reduceCtorEq] at hq); done) | (revert hq; with_reducible intro _)) | (with_reducible first | exact True.intro | rfl | refine EntLe.row ?_ | exact LeN.ro rfl | exact LeN.rptr | assumption) | ((with_reducible first | refine WkX.chk ?_ | refine Wk.chk ?_ | refine LeL.chk ?_ | refine LeF.chk ?_ | refine Run.mk ?_); (conv => whnf)) | ((with_reducible show LeO _ _); first | refine LeO.ro ?_ | refine LeO.roCap ?_ | refine LeO.nil ?_ (fun _ => rfl)) | ((with_reducible show LeR _ _ _); first | refine LeR.own rfl rfl rfl ?_ | refine LeR.view rfl rfl rfl ?_ ?_ | refine LeR.ro ?_ | refine LeR.roCap ?_ | refine LeR.nil ?_ (fun _ => rfl)) | ((with_reducible first | show drawOK _ _ = true | show lateOK _ _ = true | show drawOK2 _ _ = true | show drawOK3 _ _ = true); kernel_rfl))
    · show s.size ≤ 100000
      omega
    refine loopI Nat [] (fun k => [(33, .v (.int .i64 (k : Nat))), (11, .v (.int .i64 (sqS (linesL s way) width k)))]) (fun _ => []) (fun k => k ≤ (linesL s way).length ∧ ∀ i, i < k → i < (linesL s way).length → cellsL ((linesL s way).getD i []) ≤ width)
      (fun k => (linesL s way).length - k) 0 ⟨Nat.zero_le _, fun i hi => by omega⟩ (Wk.chk ?_) fun k hk => ?_
    · ((conv => whnf); repeat' (first | (with_reducible first | exact fun h => h | refine ExE.row (by with_unfolding_all rfl) ?_ | refine And.intro ?_ ?_) | ((with_reducible intro hq); first | exact bne1 hq (by with_reducible assumption) | exact bne1 (by with_reducible assumption) hq | ((simp only [*, BB, cond_true, cond_false, reduceCtorEq] at hq); done) | (revert hq; with_reducible intro _)) | (with_reducible first | exact True.intro | rfl | refine EntLe.row ?_ | exact LeN.ro rfl | exact LeN.rptr | assumption) | ((with_reducible first | refine WkX.chk ?_ | refine Wk.chk ?_ | refine LeL.chk ?_ | refine LeF.chk ?_ | refine Run.mk ?_); (conv => whnf)) | ((with_reducible show LeO _ _); first | refine LeO.ro ?_ | refine LeO.roCap ?_ | refine LeO.nil ?_ (fun _ => rfl)) | ((with_reducible show LeR _ _ _); first | refine LeR.own rfl rfl rfl ?_ | refine LeR.view rfl rfl rfl ?_ ?_ | refine LeR.ro ?_ | refine LeR.roCap ?_ | refine LeR.nil ?_ (fun _ => rfl)) | ((with_reducible first | show drawOK _ _ = true | show lateOK _ _ = true | show drawOK2 _ _ = true | show drawOK3 _ _ = true); kernel_rfl)))
      all_goals rfl
    obtain ⟨hk, hfit⟩ := hk
    have e1 : ((k : Int)).toNat = k := Int.toNat_natCast _
    have hbd := sqS_bd hw2 hcb k hfit
    by_cases hkl : k < (linesL s way).length
    · have hmem := getD_memL [] hkl
      have hs1 := hsm _ hmem
      have hs2 := cellsL_bd hs1.1
      have hsq := sqS_succ (width := width) hkl
      by_cases hfk : cellsL ((linesL s way).getD k []) ≤ width
      · have hbd2 := sqS_bd hw2 hcb (k + 1) fun i h1 h2 => by
          by_cases hik : i = k
          · subst hik; exact hfk
          · exact hfit i (by omega) h2
        have hsqb := sq_bd (x := width - cellsL ((linesL s way).getD k [])) (y := 200) (by omega) (by omega)
        have hkt : decide ((k : Int) < ((linesL s way).length : Int)) = true := decide_eq_true (by omega)
        have hlt : decide (width - cellsL ((linesL s way).getD ((k : Int)).toNat C_parts.d) < 0) = false := decide_eq_false (by rw [e1, hd]; omega)
        repeat' (first | (with_reducible first | refine ⟨_, ⟨(.cons (.ro _ _ _ _ _) .nil), ?_⟩, ?_⟩ | refine ex_of (α := Nat) (k + 1) ⟨⟨?_, ?_⟩, ?_⟩ ?_ | exact fun h => h | refine ExE.row (by with_unfolding_all rfl) ?_ | refine And.intro ?_ ?_) | ((with_reducible intro hq); first | exact bne1 hq (by with_reducible assumption) | exact bne1 (by with_reducible assumption) hq | ((simp only [*, BB, cond_true, cond_false, reduceCtorEq] at hq); done) | (revert hq; with_reducible intro _)) | (with_reducible first | exact True.intro | rfl | refine EntLe.row ?_ | exact LeN.ro rfl | exact LeN.rptr | assumption) | ((with_reducible first | refine WkX.chk ?_ | refine Wk.chk ?_ | refine LeL.chk ?_ | refine LeF.chk ?_ | refine Run.mk ?_); (conv => whnf)) | ((with_reducible show LeO _ _); first | refine LeO.ro ?_ | refine LeO.roCap ?_ | refine LeO.nil ?_ (fun _ => rfl)) | ((with_reducible show LeR _ _ _); first | refine LeR.own rfl rfl rfl ?_ | refine LeR.view rfl rfl rfl ?_ ?_ | refine LeR.ro ?_ | refine LeR.roCap ?_ | refine LeR.nil ?_ (fun _ => rfl)) | ((with_reducible first | show drawOK _ _ = true | show lateOK _ _ = true | show drawOK2 _ _ = true | show drawOK3 _ _ = true); kernel_rfl))
        all_goals first
          | omega
          | (show (linesL s way).length - (k + 1) < (linesL s way).length - k; omega)
          | (simp only [e1, hd] at *; first | omega | exact hs1.1 | (apply Fits.i64 <;> omega) | (apply Fits.i64 <;> (rw [hsq] at hbd2; omega)) | (rw [hsq]; done))
          | (rename_i h1 h2; rename Nat => ii; by_cases hik : ii = k
             · subst hik; exact hfk
             · exact hfit ii (by omega) h2)
          | trace_state
      · have hff := fitAll_no hkl hfk
        have hE : badE s width way = 35 := by unfold badE; rw [if_neg (by simp [hck]), if_neg (by simp [hB]), if_neg (by simp [hff])]
        have hN : badN s width way = 0 := by unfold badN; rw [hE, if_neg (by decide)]
        have hkt : decide ((k : Int) < ((linesL s way).length : Int)) = true := decide_eq_true (by omega)
        have hlt : decide (width - cellsL ((linesL s way).getD ((k : Int)).toNat C_parts.d) < 0) = true := decide_eq_true (by rw [e1, hd]; omega)
        repeat' (first | (with_reducible first | refine ⟨_, ⟨(.cons (.ro _ _ _ _ _) .nil), ?_⟩, ?_⟩ | refine ex_of (α := Nat) (k + 1) ⟨⟨?_, ?_⟩, ?_⟩ ?_ | exact fun h => h | refine ExE.row (by with_unfolding_all rfl) ?_ | refine And.intro ?_ ?_) | ((with_reducible intro hq); first | exact bne1 hq (by with_reducible assumption) | exact bne1 (by with_reducible assumption) hq | ((simp only [*, BB, cond_true, cond_false, reduceCtorEq] at hq); done) | (revert hq; with_reducible intro _)) | (with_reducible first | exact True.intro | rfl | refine EntLe.row ?_ | exact LeN.ro rfl | exact LeN.rptr | assumption) | ((with_reducible first | refine WkX.chk ?_ | refine Wk.chk ?_ | refine LeL.chk ?_ | refine LeF.chk ?_ | refine Run.mk ?_); (conv => whnf)) | ((with_reducible show LeO _ _); first | refine LeO.ro ?_ | refine LeO.roCap ?_ | refine LeO.nil ?_ (fun _ => rfl)) | ((with_reducible show LeR _ _ _); first | refine LeR.own rfl rfl rfl ?_ | refine LeR.view rfl rfl rfl ?_ ?_ | refine LeR.ro ?_ | refine LeR.roCap ?_ | refine LeR.nil ?_ (fun _ => rfl)) | ((with_reducible first | show drawOK _ _ = true | show lateOK _ _ = true | show drawOK2 _ _ = true | show drawOK3 _ _ = true); kernel_rfl))
        all_goals first
          | omega
          | exact hN.symm
          | exact hE.symm
          | (simp only [e1, hd] at *; first | omega | exact hs1.1 | (apply Fits.i64 <;> omega))
          | trace_state
    · have hfa := fitAll_yes fun i hi => hfit i (by omega) hi
      have hE : badE s width way = 0 := by unfold badE; rw [if_neg (by simp [hck]), if_neg (by simp [hB]), if_pos hfa]
      have hN : badN s width way = sqS (linesL s way) width (linesL s way).length + cutS way way.length := by unfold badN; rw [hE, if_pos rfl]
      have hkt : decide ((k : Int) < ((linesL s way).length : Int)) = false := decide_eq_false (by omega)
      obtain rfl : k = (linesL s way).length := by omega
      repeat' (first | (with_reducible first | exact fun h => h | refine ExE.row (by with_unfolding_all rfl) ?_ | refine And.intro ?_ ?_) | ((with_reducible intro hq); first | exact bne1 hq (by with_reducible assumption) | exact bne1 (by with_reducible assumption) hq | ((simp only [*, BB, cond_true, cond_false, reduceCtorEq] at hq); done) | (revert hq; with_reducible intro _)) | (with_reducible first | exact True.intro | rfl | refine EntLe.row ?_ | exact LeN.ro rfl | exact LeN.rptr | assumption) | ((with_reducible first | refine WkX.chk ?_ | refine Wk.chk ?_ | refine LeL.chk ?_ | refine LeF.chk ?_ | refine Run.mk ?_); (conv => whnf)) | ((with_reducible show LeO _ _); first | refine LeO.ro ?_ | refine LeO.roCap ?_ | refine LeO.nil ?_ (fun _ => rfl)) | ((with_reducible show LeR _ _ _); first | refine LeR.own rfl rfl rfl ?_ | refine LeR.view rfl rfl rfl ?_ ?_ | refine LeR.ro ?_ | refine LeR.roCap ?_ | refine LeR.nil ?_ (fun _ => rfl)) | ((with_reducible first | show drawOK _ _ = true | show lateOK _ _ = true | show drawOK2 _ _ = true | show drawOK3 _ _ = true); kernel_rfl))
      refine loopI (Nat × Unit) [] (fun | (k, _) => [(51, .v (.int .i64 (k : Nat))), (11, .v (.int .i64 (sqS (linesL s way) width (linesL s way).length + cutS way k)))]) (fun _ => []) (fun | (k, _) => k ≤ way.length)
        (fun | (k, _) => way.length - k) (0, ()) (Nat.zero_le _) (Wk.chk ?_) fun i hi => ?_
      · ((conv => whnf); repeat' (first | (with_reducible first | exact fun h => h | refine ExE.row (by with_unfolding_all rfl) ?_ | refine And.intro ?_ ?_) | ((with_reducible intro hq); first | exact bne1 hq (by with_reducible assumption) | exact bne1 (by with_reducible assumption) hq | ((simp only [*, BB, cond_true, cond_false, reduceCtorEq] at hq); done) | (revert hq; with_reducible intro _)) | (with_reducible first | exact True.intro | rfl | refine EntLe.row ?_ | exact LeN.ro rfl | exact LeN.rptr | assumption) | ((with_reducible first | refine WkX.chk ?_ | refine Wk.chk ?_ | refine LeL.chk ?_ | refine LeF.chk ?_ | refine Run.mk ?_); (conv => whnf)) | ((with_reducible show LeO _ _); first | refine LeO.ro ?_ | refine LeO.roCap ?_ | refine LeO.nil ?_ (fun _ => rfl)) | ((with_reducible show LeR _ _ _); first | refine LeR.own rfl rfl rfl ?_ | refine LeR.view rfl rfl rfl ?_ ?_ | refine LeR.ro ?_ | refine LeR.roCap ?_ | refine LeR.nil ?_ (fun _ => rfl)) | ((with_reducible first | show drawOK _ _ = true | show lateOK _ _ = true | show drawOK2 _ _ = true | show drawOK3 _ _ = true); kernel_rfl)))
        all_goals first
          | rfl
          | (rw [show cutS way 0 = 0 from rfl]; omega)
          | trace_state
      obtain ⟨k, u⟩ := i
      have hk2 : k ≤ way.length := hi
      have e2 : ((k : Int)).toNat = k := Int.toNat_natCast _
      have hcd := cutS_bd way k
      have hcs := fun h => cutS_succ (way := way) (k := k) h
      have hcd2 := cutS_bd way (k + 1)
      repeat' (first | (with_reducible first | refine ex_of (α := Nat × Unit) (k + 1, ()) ⟨?_, ?_⟩ ?_ | exact fun h => h | refine ExE.row (by with_unfolding_all rfl) ?_ | refine And.intro ?_ ?_) | ((with_reducible intro hq); first | exact bne1 hq (by with_reducible assumption) | exact bne1 (by with_reducible assumption) hq | ((simp only [*, BB, cond_true, cond_false, reduceCtorEq] at hq); done) | (revert hq; with_reducible intro _)) | (with_reducible first | exact True.intro | rfl | refine EntLe.row ?_ | exact LeN.ro rfl | exact LeN.rptr | assumption) | ((with_reducible first | refine WkX.chk ?_ | refine Wk.chk ?_ | refine LeL.chk ?_ | refine LeF.chk ?_ | refine Run.mk ?_); (conv => whnf)) | ((with_reducible show LeO _ _); first | refine LeO.ro ?_ | refine LeO.roCap ?_ | refine LeO.nil ?_ (fun _ => rfl)) | ((with_reducible show LeR _ _ _); first | refine LeR.own rfl rfl rfl ?_ | refine LeR.view rfl rfl rfl ?_ ?_ | refine LeR.ro ?_ | refine LeR.roCap ?_ | refine LeR.nil ?_ (fun _ => rfl)) | ((with_reducible first | show drawOK _ _ = true | show lateOK _ _ = true | show drawOK2 _ _ = true | show drawOK3 _ _ = true); kernel_rfl))
      all_goals first
        | (simp only [decide_eq_true_eq, decide_eq_false_iff_not, e2, hd2, beq_iff_eq, beq_eq_false_iff_ne] at *; first
          | omega
          | (show k + 1 ≤ way.length; omega)
          | (show way.length - (k + 1) < way.length - k; omega)
          | (apply Fits.i64 <;> omega)
          | (rw [hcs (by omega), if_pos (by assumption)]; omega)
          | (rw [hcs (by omega), if_neg (by assumption)]; omega)
          | (rw [hN, show k = way.length by omega]; done))
        | exact hE.symm
        | trace_state
end Go.SX.Try
/- Contract of the document's chapter 1: Runes. -/
namespace Go.SX.Try
open Go.Proofs Go.Proofs.Try Go.SX.Plain
set_option maxRecDepth 100000
set_option maxHeartbeats 0
set_option linter.unusedSimpArgs false
end Go.SX.Try
/- Contracts of the document's chapter 2. -/
namespace Go.SX.Try
open Go.Proofs Go.Proofs.Try Go.SX.Plain
set_option maxRecDepth 100000
set_option maxHeartbeats 0
set_option linter.unusedSimpArgs false
def C_i32 : Cdc Int where
  size := 1
  enc p := [.v (.int .i32 p)]
  dec l := match l with
    | [.v (.int _ a)] => a
    | _ => 0
  d := 0
def D_csg : Cds := [(21, ⟨Int, C_i32⟩), (3, ⟨Int, C_int⟩)]
def C_clu : Cdc Clu where
  size := 5
  enc p := [.v (.int .i64 p.at), .v (.int .i64 p.len), .v (.int .i64 p.frm), .v (.int .i64 p.to), .v (.int .i64 p.cells)]
  dec l := match l with
    | [.v (.int _ a), .v (.int _ b), .v (.int _ c), .v (.int _ d), .v (.int _ e)] => ⟨a, b, c, d, e⟩
    | _ => ⟨0, 0, 0, 0, 0⟩
  d := ⟨0, 0, 0, 0, 0⟩
end Go.SX.Try
/- Contracts of the document's chapter 10: runes among some, pieces, kinds, places. -/
namespace Go.SX.Try
open Go.Proofs Go.Proofs.Try Go.SX.Plain
set_option maxRecDepth 100000
set_option maxHeartbeats 0
set_option linter.unusedSimpArgs false
abbrev pcAV (x : Pc) : List AV := [.v (.int .i64 x.r), .v (.int .i64 x.frm), .v (.int .i64 x.to), .v (.int .i64 x.cells)]
def C_pc : Cdc Pc where
  size := 4
  enc := pcAV
  dec l := match l with
    | [.v (.int _ a), .v (.int _ b), .v (.int _ c), .v (.int _ d)] => ⟨a, b, c, d⟩
    | _ => ⟨0, 0, 0, 0⟩
  d := ⟨0, 0, 0, 0⟩
def C_intL : Cdc Int := { C_int with lit := true }
end Go.SX.Try
/- Contract of the document's table. -/
namespace Go.SX.Try
open Go.Proofs Go.Proofs.Try Go.SX.Plain
set_option maxRecDepth 100000
set_option maxHeartbeats 0
set_option linter.unusedSimpArgs false
abbrev rbAV (x : Rb) : List AV := [.v (.int .i64 x.bad), .v (.int .i64 x.count), .v (.int .i64 x.next)]
def C_rb : Cdc Rb where
  size := 3
  enc := rbAV
  dec l := match l with
    | [.v (.int _ a), .v (.int _ b), .v (.int _ c)] => ⟨a, b, c⟩
    | _ => ⟨0, 0, 0⟩
  d := ⟨0, 0, 0⟩
structure OkL (l : List Part) : Prop where
  told : ∀ p ∈ l, Plain.Told p
  small : Small l
  len : l.length ≤ 5000
end Go.SX.Try
/- Contract of wrap's Wrap. -/
namespace Go.SX.Try
open Go.Proofs Go.Proofs.Try Go.SX.Plain
set_option maxRecDepth 100000
set_option maxHeartbeats 0
set_option linter.unusedSimpArgs false
def C_bst : Cdc Bst where
  size := 4
  enc := bAV
  dec l := match l with
    | [.v (.int _ a), .v (.int _ b), .v (.int _ c), d] => ⟨a, b, c, bOf d⟩
    | _ => ⟨0, 0, 0, false⟩
  d := ⟨0, 0, 0, false⟩
def D_wrp : Cds := [(36, ⟨Int × Int, C_brk⟩), (88, ⟨Bst, C_bst⟩)]
theorem D_wrp_ok : CdsOK T D_wrp := .cons ⟨fun _ => rfl, by decide, _, rfl, rfl, by decide⟩ (.cons ⟨fun _ => rfl, by decide, _, rfl, rfl, by decide⟩ .nil)
theorem q_wrap : fact 17 f17 := ⟨by kernel_rfl, rfl, by kernel_rfl⟩
theorem q_look : fact 40 f40 := ⟨by kernel_rfl, rfl, by kernel_rfl⟩
def wrapL (s : ByteArray) (width : Int) : List (Int × Int) := if checkN s.size width = 0 then wrapOut (parts s) width else []
def wrapB (s : ByteArray) (width : Int) : Int := if checkN s.size width = 0 then ((tabOf (parts s) width).getD 0 zB).bad else 0
theorem con_wrap : Con prog 17 (fun ((s, width) : ByteArray × Int) => [.v (.string s), .v (.int .i64 width)]) (fun (s, width) => .tup [.ro 2 C_brk.enc C_brk.d (wrapL s width) none, .v (.int .i64 (wrapB s width)), .v (.int .i64 (checkN s.size width))]) (fun _ => True) := by
  refine Con.of (by kernel_rfl) T_ok D_wrp_ok (.inl (J := []) q_look.1 q_look.2.1 q_look.2.2 (.con con_before (.con con_check (.con con_parts (.con con_places .nil))))) 6 [13] q_wrap.1 q_wrap.2.1 q_wrap.2.2 (fun _ => rfl) fun i hi => ?_
  obtain ⟨s, width⟩ := i
  have hpl := parts_len s
  have hps := parts_small s
  repeat' (first | (with_reducible first | refine ⟨_, ⟨(.cons (.v _) .nil), ?_⟩, ?_⟩ | refine ⟨(_, _), ⟨(.cons (.v _) (.cons (.v _) .nil)), ?_⟩, ?_⟩ | refine ⟨_, ⟨(.cons (.ro _ _ _ _ _) .nil), ?_⟩, ?_⟩ | exact fun h => h | refine ExE.row (by with_unfolding_all rfl) ?_ | refine And.intro ?_ ?_) | ((with_reducible intro hq); first | exact bne1 hq (by with_reducible assumption) | exact bne1 (by with_reducible assumption) hq | ((simp only [*, BB, cond_true, cond_false, reduceCtorEq] at hq); done) | (revert hq; with_reducible intro _)) | (with_reducible first | exact True.intro | rfl | refine EntLe.row ?_ | exact LeN.ro rfl | exact LeN.rptr | assumption) | ((with_reducible first | refine WkX.chk ?_ | refine Wk.chk ?_ | refine LeL.chk ?_ | refine LeF.chk ?_ | refine Run.mk ?_); (conv => whnf)) | ((with_reducible show LeO _ _); first | refine LeO.ro ?_ | refine LeO.roCap ?_ | refine LeO.nil ?_ (fun _ => rfl)) | ((with_reducible show LeR _ _ _); first | refine LeR.own rfl rfl rfl ?_ | refine LeR.view rfl rfl rfl ?_ ?_ | refine LeR.ro ?_ | refine LeR.roCap ?_ | refine LeR.nil ?_ (fun _ => rfl)) | ((with_reducible first | show drawOK _ _ = true | show lateOK _ _ = true | show drawOK2 _ _ = true | show drawOK3 _ _ = true); kernel_rfl))
  · simp_all [wrapL]
  · simp_all [wrapB]
  all_goals
    have hck : checkN s.size width = 0 := by simp_all
    have hw1 : 2 ≤ width ∧ width ≤ 200 ∧ s.size ≤ 4096 := by
      unfold checkN at hck
      split at hck
      · cases hck
      · split at hck
        · cases hck
        · omega
    obtain ⟨hw1, hw2, hsz⟩ := hw1
  · dsimp only; omega
  · dsimp only; omega
  all_goals
    have hN : (plcs (parts s) ((parts s).length + 1)).length ≤ (parts s).length + 1 := plcs_len _ _
  · rw [atL_length]; refine Fits.i64 ?_ ?_ <;> omega
  · rw [atL_length]; omega
  · rw [atL_length]; omega
  · rw [atL_length]; dsimp only; omega
  · rfl
  · rfl
  · rfl
  · rfl
  have hL : wrapL s width = wrapOut (parts s) width := by unfold wrapL; rw [if_pos hck]
  have hB : wrapB s width = ((tabOf (parts s) width).getD 0 zB).bad := by unfold wrapB; rw [if_pos hck]
  clear hi
  revert hpl hps hN hL hB
  generalize parts s = l
  intro hpl hps hN hL hB
  refine loopI Nat [] (fun c => [(12, .v (.int .i64 (((plcs l (l.length + 1)).length : Int) - (c : Int))))]) (fun c => [(3, .row C_bst (tab l (plcs l (l.length + 1)) width c) 88 none)]) (fun c => c ≤ (plcs l (l.length + 1)).length + 1) (fun c => (plcs l (l.length + 1)).length + 1 - c) 0 (Nat.zero_le _) (Wk.chk ?_) fun c hc => ?_
  · ((conv => whnf); repeat' (first | ((with_reducible show EntLe _ _ _); refine EntLe.row ?_) | (with_reducible first | exact fun h => h | refine ExE.row (by with_unfolding_all rfl) ?_ | refine And.intro ?_ ?_) | ((with_reducible intro hq); first | exact bne1 hq (by with_reducible assumption) | exact bne1 (by with_reducible assumption) hq | ((simp only [*, BB, cond_true, cond_false, reduceCtorEq] at hq); done) | (revert hq; with_reducible intro _)) | (with_reducible first | exact True.intro | rfl | refine EntLe.row ?_ | exact LeN.ro rfl | exact LeN.rptr | assumption) | ((with_reducible first | refine WkX.chk ?_ | refine Wk.chk ?_ | refine LeL.chk ?_ | refine LeF.chk ?_ | refine Run.mk ?_); (conv => whnf)) | ((with_reducible show LeO _ _); first | refine LeO.ro ?_ | refine LeO.roCap ?_ | refine LeO.nil ?_ (fun _ => rfl)) | ((with_reducible show LeR _ _ _); first | refine LeR.own rfl rfl rfl ?_ | refine LeR.view rfl rfl rfl ?_ ?_ | refine LeR.ro ?_ | refine LeR.roCap ?_ | refine LeR.nil ?_ (fun _ => rfl)) | ((with_reducible first | show drawOK _ _ = true | show lateOK _ _ = true | show drawOK2 _ _ = true | show drawOK3 _ _ = true); kernel_rfl)))
    · rw [atL_length]; simp
    · rw [atL_length]; simp only [tab]; congr 1
  repeat' (first | (with_reducible first | refine ⟨_, ⟨(.cons (.v _) .nil), ?_⟩, ?_⟩ | refine ⟨(_, _), ⟨(.cons (.v _) (.cons (.v _) .nil)), ?_⟩, ?_⟩ | refine ⟨_, ⟨(.cons (.ro _ _ _ _ _) .nil), ?_⟩, ?_⟩ | exact fun h => h | refine ExE.row (by with_unfolding_all rfl) ?_ | refine And.intro ?_ ?_) | ((with_reducible intro hq); first | exact bne1 hq (by with_reducible assumption) | exact bne1 (by with_reducible assumption) hq | ((simp only [*, BB, cond_true, cond_false, reduceCtorEq] at hq); done) | (revert hq; with_reducible intro _)) | (with_reducible first | exact True.intro | rfl | refine EntLe.row ?_ | exact LeN.ro rfl | exact LeN.rptr | assumption) | ((with_reducible first | refine WkX.chk ?_ | refine Wk.chk ?_ | refine LeL.chk ?_ | refine LeF.chk ?_ | refine Run.mk ?_); (conv => whnf)) | ((with_reducible show LeO _ _); first | refine LeO.ro ?_ | refine LeO.roCap ?_ | refine LeO.nil ?_ (fun _ => rfl)) | ((with_reducible show LeR _ _ _); first | refine LeR.own rfl rfl rfl ?_ | refine LeR.view rfl rfl rfl ?_ ?_ | refine LeR.ro ?_ | refine LeR.roCap ?_ | refine LeR.nil ?_ (fun _ => rfl)) | ((with_reducible first | show drawOK _ _ = true | show lateOK _ _ = true | show drawOK2 _ _ = true | show drawOK3 _ _ = true); kernel_rfl))
  · have hc1 : c ≤ (plcs l (l.length + 1)).length := by
      have h : decide (0 ≤ ((plcs l (l.length + 1)).length : Int) - (c : Int)) = true := by assumption
      simp only [decide_eq_true_eq] at h; omega
    obtain ⟨k, hk⟩ : ∃ k, k = (plcs l (l.length + 1)).length - c := ⟨_, rfl⟩
    have hkc : ((plcs l (l.length + 1)).length : Int) - (c : Int) = (k : Int) := by omega
    rw [hkc]
    refine joinI Unit [] (fun _ => [(13, .v (.int .i64 (posn (plcs l (l.length + 1)) k : Nat)))]) (fun _ => []) (fun _ => True) ?_ fun _ _ => ?_
    · repeat' (first | (with_reducible first | refine ex_of () trivial ?_ | exact fun h => h | refine ExE.row (by with_unfolding_all rfl) ?_ | refine And.intro ?_ ?_) | ((with_reducible intro hq); first | exact bne1 hq (by with_reducible assumption) | exact bne1 (by with_reducible assumption) hq | ((simp only [*, BB, cond_true, cond_false, reduceCtorEq] at hq); done) | (revert hq; with_reducible intro _)) | (with_reducible first | exact True.intro | rfl | refine EntLe.row ?_ | exact LeN.ro rfl | exact LeN.rptr | assumption) | ((with_reducible first | refine WkX.chk ?_ | refine Wk.chk ?_ | refine LeL.chk ?_ | refine LeF.chk ?_ | refine Run.mk ?_); (conv => whnf)) | ((with_reducible show LeO _ _); first | refine LeO.ro ?_ | refine LeO.roCap ?_ | refine LeO.nil ?_ (fun _ => rfl)) | ((with_reducible show LeR _ _ _); first | refine LeR.own rfl rfl rfl ?_ | refine LeR.view rfl rfl rfl ?_ ?_ | refine LeR.ro ?_ | refine LeR.roCap ?_ | refine LeR.nil ?_ (fun _ => rfl)) | ((with_reducible first | show drawOK _ _ = true | show lateOK _ _ = true | show drawOK2 _ _ = true | show drawOK3 _ _ = true); kernel_rfl))
      all_goals (simp only [decide_eq_true_eq, decide_eq_false_iff_not] at *)
      · refine Fits.i64 ?_ ?_ <;> omega
      · omega
      · rw [atL_length]; omega
      · rw [show ((k : Int) - 1).toNat = k - 1 by omega]
        refine (atL_getD _ _ _).trans ?_
        unfold posn; rw [if_neg (by omega)]
      · unfold posn; rw [if_pos (by omega)]; rfl
    · repeat' (first | (with_reducible first | exact fun h => h | refine ExE.row (by with_unfolding_all rfl) ?_ | refine And.intro ?_ ?_) | ((with_reducible intro hq); first | exact bne1 hq (by with_reducible assumption) | exact bne1 (by with_reducible assumption) hq | ((simp only [*, BB, cond_true, cond_false, reduceCtorEq] at hq); done) | (revert hq; with_reducible intro _)) | (with_reducible first | exact True.intro | rfl | refine EntLe.row ?_ | exact LeN.ro rfl | exact LeN.rptr | assumption) | ((with_reducible first | refine WkX.chk ?_ | refine Wk.chk ?_ | refine LeL.chk ?_ | refine LeF.chk ?_ | refine Run.mk ?_); (conv => whnf)) | ((with_reducible show LeO _ _); first | refine LeO.ro ?_ | refine LeO.roCap ?_ | refine LeO.nil ?_ (fun _ => rfl)) | ((with_reducible show LeR _ _ _); first | refine LeR.own rfl rfl rfl ?_ | refine LeR.view rfl rfl rfl ?_ ?_ | refine LeR.ro ?_ | refine LeR.roCap ?_ | refine LeR.nil ?_ (fun _ => rfl)) | ((with_reducible first | show drawOK _ _ = true | show lateOK _ _ = true | show drawOK2 _ _ = true | show drawOK3 _ _ = true); kernel_rfl))
      have htl := tab_len l (plcs l (l.length + 1)) width c
      refine loopI (Nat × Bst) [] (fun | (n, acc) => [(19, .v (.int .i64 (n : Int))), (18, .v (.bool false))])
        (fun | (n, acc) => [(6, .box [.v (.int .i64 (posn (plcs l (l.length + 1)) n : Nat))] 3), (5, .box [.v (.int .i64 (scan l (posn (plcs l (l.length + 1)) k) (posn (plcs l (l.length + 1)) n - posn (plcs l (l.length + 1)) k)).2)] 3),
          (4, .box [.v (.int .i64 (scan l (posn (plcs l (l.length + 1)) k) (posn (plcs l (l.length + 1)) n - posn (plcs l (l.length + 1)) k)).1)] 3), (3, .row C_bst ((tab l (plcs l (l.length + 1)) width c).set k acc) 88 none)])
        (fun | (n, acc) => k ≤ n ∧ n ≤ (plcs l (l.length + 1)).length ∧ Gd (plcs l (l.length + 1)).length (tab l (plcs l (l.length + 1)) width c) k acc ∧ inner l (plcs l (l.length + 1)) width (tab l (plcs l (l.length + 1)) width c) k n acc = inner l (plcs l (l.length + 1)) width (tab l (plcs l (l.length + 1)) width c) k k zB)
        (fun | (n, _) => (plcs l (l.length + 1)).length - n) (k, zB) ⟨Nat.le_refl _, by omega, Gd.zero _ _ _, rfl⟩ (Wk.chk ?_) fun i hi => ?_
      · ((conv => whnf); repeat' (first | (with_reducible first | exact fun h => h | refine ExE.row (by with_unfolding_all rfl) ?_ | refine And.intro ?_ ?_) | ((with_reducible intro hq); first | exact bne1 hq (by with_reducible assumption) | exact bne1 (by with_reducible assumption) hq | ((simp only [*, BB, cond_true, cond_false, reduceCtorEq] at hq); done) | (revert hq; with_reducible intro _)) | (with_reducible first | exact True.intro | rfl | refine EntLe.row ?_ | exact LeN.ro rfl | exact LeN.rptr | assumption) | ((with_reducible first | refine WkX.chk ?_ | refine Wk.chk ?_ | refine LeL.chk ?_ | refine LeF.chk ?_ | refine Run.mk ?_); (conv => whnf)) | ((with_reducible show LeO _ _); first | refine LeO.ro ?_ | refine LeO.roCap ?_ | refine LeO.nil ?_ (fun _ => rfl)) | ((with_reducible show LeR _ _ _); first | refine LeR.own rfl rfl rfl ?_ | refine LeR.view rfl rfl rfl ?_ ?_ | refine LeR.ro ?_ | refine LeR.roCap ?_ | refine LeR.nil ?_ (fun _ => rfl)) | ((with_reducible first | show drawOK _ _ = true | show lateOK _ _ = true | show drawOK2 _ _ = true | show drawOK3 _ _ = true); kernel_rfl)))
        all_goals first
          | rfl
          | (rw [Nat.sub_self]; rfl)
          | exact (tab_set0 _ _ _ (by omega)).symm
      obtain ⟨n, acc⟩ := i
      obtain ⟨hi1, hi2, hi3, hi4⟩ := hi
      have hmono := posn_mono (l := l) hi1 hi2
      repeat' (first | (with_reducible first | exact fun h => h | refine ExE.row (by with_unfolding_all rfl) ?_ | refine And.intro ?_ ?_) | ((with_reducible intro hq); first | exact bne1 hq (by with_reducible assumption) | exact bne1 (by with_reducible assumption) hq | ((simp only [*, BB, cond_true, cond_false, reduceCtorEq] at hq); done) | (revert hq; with_reducible intro _)) | (with_reducible first | exact True.intro | rfl | refine EntLe.row ?_ | exact LeN.ro rfl | exact LeN.rptr | assumption) | ((with_reducible first | refine WkX.chk ?_ | refine Wk.chk ?_ | refine LeL.chk ?_ | refine LeF.chk ?_ | refine Run.mk ?_); (conv => whnf)) | ((with_reducible show LeO _ _); first | refine LeO.ro ?_ | refine LeO.roCap ?_ | refine LeO.nil ?_ (fun _ => rfl)) | ((with_reducible show LeR _ _ _); first | refine LeR.own rfl rfl rfl ?_ | refine LeR.view rfl rfl rfl ?_ ?_ | refine LeR.ro ?_ | refine LeR.roCap ?_ | refine LeR.nil ?_ (fun _ => rfl)) | ((with_reducible first | show drawOK _ _ = true | show lateOK _ _ = true | show drawOK2 _ _ = true | show drawOK3 _ _ = true); kernel_rfl))
      · omega
      · exact of_decide_eq_true (by assumption)
      · have hn : n < (plcs l (l.length + 1)).length := by
          have h : decide ((n : Int) < ((atL l (l.length + 1)).length : Int)) = true := by assumption
          rw [atL_length] at h; simp only [decide_eq_true_eq] at h; omega
        have hPn := plcs_le hn
        have hlt := posn_lt hn
        have hgd := tab_gd (P := plcs l (l.length + 1)) hps hw2 c (n + 1) (by omega) (by omega)
        refine loopI (Nat × Unit) [] (fun _ => []) (fun | (j, _) => [(6, .box [.v (.int .i64 (j : Int))] 3), (5, .box [.v (.int .i64 (scan l (posn (plcs l (l.length + 1)) k) (j - posn (plcs l (l.length + 1)) k)).2)] 3),
          (4, .box [.v (.int .i64 (scan l (posn (plcs l (l.length + 1)) k) (j - posn (plcs l (l.length + 1)) k)).1)] 3)]) (fun | (j, _) => posn (plcs l (l.length + 1)) n ≤ j ∧ j ≤ (plcs l (l.length + 1)).getD n 0) (fun | (j, _) => (plcs l (l.length + 1)).getD n 0 - j) (posn (plcs l (l.length + 1)) n, ()) ⟨Nat.le_refl _, Nat.le_of_lt hlt⟩ (Wk.chk ?_) fun j hj => ?_
        · ((conv => whnf); repeat' (first | (with_reducible first | exact fun h => h | refine ExE.row (by with_unfolding_all rfl) ?_ | refine And.intro ?_ ?_) | ((with_reducible intro hq); first | exact bne1 hq (by with_reducible assumption) | exact bne1 (by with_reducible assumption) hq | ((simp only [*, BB, cond_true, cond_false, reduceCtorEq] at hq); done) | (revert hq; with_reducible intro _)) | (with_reducible first | exact True.intro | rfl | refine EntLe.row ?_ | exact LeN.ro rfl | exact LeN.rptr | assumption) | ((with_reducible first | refine WkX.chk ?_ | refine Wk.chk ?_ | refine LeL.chk ?_ | refine LeF.chk ?_ | refine Run.mk ?_); (conv => whnf)) | ((with_reducible show LeO _ _); first | refine LeO.ro ?_ | refine LeO.roCap ?_ | refine LeO.nil ?_ (fun _ => rfl)) | ((with_reducible show LeR _ _ _); first | refine LeR.own rfl rfl rfl ?_ | refine LeR.view rfl rfl rfl ?_ ?_ | refine LeR.ro ?_ | refine LeR.roCap ?_ | refine LeR.nil ?_ (fun _ => rfl)) | ((with_reducible first | show drawOK _ _ = true | show lateOK _ _ = true | show drawOK2 _ _ = true | show drawOK3 _ _ = true); kernel_rfl)))
        obtain ⟨j, _⟩ := j
        obtain ⟨hj1, hj2⟩ := hj
        have hsb := scan_bd hps (posn (plcs l (l.length + 1)) k) (j - posn (plcs l (l.length + 1)) k)
        have hcb := hps.at j
        have g1 := hgd.b0
        have g2 : ((tab l (plcs l (l.length + 1)) width c).getD (n + 1) zB).bad ≤ 9000000000 := by have := hgd.b1; omega
        have g3 := hgd.p0
        have g4 : ((tab l (plcs l (l.length + 1)) width c).getD (n + 1) zB).places ≤ 5000 := by have := hgd.p1; omega
        have e1 : ((j : Int)).toNat = j := Int.toNat_natCast _
        have e2 : ((n : Int)).toNat = n := Int.toNat_natCast _
        have e3 : ((n : Int) + 1).toNat = n + 1 := by omega
        have e4 : C_bst.d = zB := rfl
        have e5 : C_part.d = dPart := rfl
        have e6 : (atL l (l.length + 1)).getD n C_int.d = ((plcs l (l.length + 1)).getD n 0 : Nat) := atL_getD _ _ _
        have e7 : (outL l (l.length + 1)).getD n C_brk.d = ((l.getD ((plcs l (l.length + 1)).getD n 0 - 1) dPart).c.to, kindAt l ((plcs l (l.length + 1)).getD n 0)) := outL_getD hn
        have e8 : ((tab l (plcs l (l.length + 1)) width c).set k acc).getD (n + 1) zB = (tab l (plcs l (l.length + 1)) width c).getD (n + 1) zB := Go.SX.Plain.getD_set_ne _ _ _ _ _ (by omega)
        have e9 : ((tab l (plcs l (l.length + 1)) width c).set k acc).getD k zB = acc := Go.SX.Plain.getD_set_eq _ _ _ _ (by omega)
        have e10 : ((k : Int)).toNat = k := Int.toNat_natCast _
        repeat' (first | (with_reducible first | refine ex_of (α := Nat × Unit) (j + 1, ()) ⟨⟨?_, ?_⟩, ?_⟩ ?_ | refine ex_of (α := Nat × Bst) (n + 1, nextAcc l (plcs l (l.length + 1)) width (tab l (plcs l (l.length + 1)) width c) k n acc) ⟨⟨?_, ?_, ?_, ?_⟩, ?_⟩ ?_ | refine ex_of (α := Nat) (c + 1) ⟨?_, ?_⟩ ?_ | refine ⟨(⟨_, _, _, _⟩, ⟨_, _, _, _⟩), ⟨(.cons (.agg (.cons (.v _) (.cons (.v _) (.cons (.v _) (.cons (.vb _) .nil))))) (.cons (.agg (.cons (.v _) (.cons (.v _) (.cons (.v _) (.cons (.sb _) .nil))))) .nil)), ?_⟩, ?_⟩ | exact fun h => h | refine ExE.row (by with_unfolding_all rfl) ?_ | refine And.intro ?_ ?_) | ((with_reducible intro hq); first | exact bne1 hq (by with_reducible assumption) | exact bne1 (by with_reducible assumption) hq | ((simp only [*, BB, cond_true, cond_false, reduceCtorEq] at hq); done) | (revert hq; with_reducible intro _)) | (with_reducible first | exact True.intro | rfl | refine EntLe.row ?_ | exact LeN.ro rfl | exact LeN.rptr | assumption) | ((with_reducible first | refine WkX.chk ?_ | refine Wk.chk ?_ | refine LeL.chk ?_ | refine LeF.chk ?_ | refine Run.mk ?_); (conv => whnf)) | ((with_reducible show LeO _ _); first | refine LeO.ro ?_ | refine LeO.roCap ?_ | refine LeO.nil ?_ (fun _ => rfl)) | ((with_reducible show LeR _ _ _); first | refine LeR.own rfl rfl rfl ?_ | refine LeR.view rfl rfl rfl ?_ ?_ | refine LeR.ro ?_ | refine LeR.roCap ?_ | refine LeR.nil ?_ (fun _ => rfl)) | ((with_reducible first | show drawOK _ _ = true | show lateOK _ _ = true | show drawOK2 _ _ = true | show drawOK3 _ _ = true); kernel_rfl))
        all_goals (try simp only [e1, e2, e3, e4, e5, e6, e7, e8, e9, e10, decide_eq_true_eq, decide_eq_false_iff_not, Bool.not_eq_true', Bool.not_eq_false', beq_iff_eq, beq_eq_false_iff_ne, ne_eq, List.length_set, htl, atL_length, outL_length] at *)
        all_goals first
          | omega
          | (refine Fits.i64 ?_ ?_ <;> omega)
          | rfl
          | (rw [scan_fin (by omega) (by assumption)]; done)
          | (rw [scan_blank (by omega) (by assumption) (by assumption)]; done)
          | (rw [scan_ink (by omega) (by assumption) (by assumption)]; done)
          | (have hje : j = (plcs l (l.length + 1)).getD n 0 := by omega
             subst hje
             first
             | (rw [posn_succ]; done)
             | (simp only [fullTo_eq] at *; fail_if_success done; skip
                first
                | omega
                | rfl
                | (have hsq := sq_bd (x := width - fullTo l (plcs l (l.length + 1)) k ((plcs l (l.length + 1)).getD n 0)) (y := 200) (by omega) (by omega)
                   refine Fits.i64 ?_ ?_ <;> omega)
                | (rw [tab_succ hk, ← hi4, inner_full hn (by assumption)]; done)
                | exact Gd.next hps hw2 hi1 hn (by assumption) hgd hi3
                | (rw [← inner_next hn (by assumption) (by assumption)]; exact hi4)
                | (try rw [tab_succ hk, ← hi4, inner_stop hn (by assumption) (by assumption)]
                   first
                   | (rw [nextAcc_no (by assumption)]; done)
                   | (rw [nextAcc_yes (by assumption), better_1 (by rw [cand_cut (by assumption)]; assumption), cand_cut (by assumption), List.set_set]; rfl)
                   | (rw [nextAcc_yes (by assumption), better_1 (by rw [cand_not (by assumption)]; assumption), cand_not (by assumption), List.set_set]; rfl)
                   | (rw [nextAcc_yes (by assumption), better_0 (by rw [cand_cut (by assumption)]; assumption)]; done)
                   | (rw [nextAcc_yes (by assumption), better_0 (by rw [cand_not (by assumption)]; assumption)]; done))))
      · have hn : n = (plcs l (l.length + 1)).length := by
          have h : decide ((n : Int) < ((atL l (l.length + 1)).length : Int)) = false := by assumption
          rw [atL_length] at h; simp only [decide_eq_false_iff_not] at h; omega
        have hple := posn_le (l := l) (k := n) (by omega)
        refine loopI (Nat × Unit) [] (fun _ => []) (fun | (j, _) => [(6, .box [.v (.int .i64 (j : Int))] 3), (5, .box [.v (.int .i64 (scan l (posn (plcs l (l.length + 1)) k) (j - posn (plcs l (l.length + 1)) k)).2)] 3),
          (4, .box [.v (.int .i64 (scan l (posn (plcs l (l.length + 1)) k) (j - posn (plcs l (l.length + 1)) k)).1)] 3)]) (fun | (j, _) => posn (plcs l (l.length + 1)) n ≤ j ∧ j ≤ l.length) (fun | (j, _) => l.length - j) (posn (plcs l (l.length + 1)) n, ()) ⟨Nat.le_refl _, hple⟩ (Wk.chk ?_) fun j hj => ?_
        · ((conv => whnf); repeat' (first | (with_reducible first | exact fun h => h | refine ExE.row (by with_unfolding_all rfl) ?_ | refine And.intro ?_ ?_) | ((with_reducible intro hq); first | exact bne1 hq (by with_reducible assumption) | exact bne1 (by with_reducible assumption) hq | ((simp only [*, BB, cond_true, cond_false, reduceCtorEq] at hq); done) | (revert hq; with_reducible intro _)) | (with_reducible first | exact True.intro | rfl | refine EntLe.row ?_ | exact LeN.ro rfl | exact LeN.rptr | assumption) | ((with_reducible first | refine WkX.chk ?_ | refine Wk.chk ?_ | refine LeL.chk ?_ | refine LeF.chk ?_ | refine Run.mk ?_); (conv => whnf)) | ((with_reducible show LeO _ _); first | refine LeO.ro ?_ | refine LeO.roCap ?_ | refine LeO.nil ?_ (fun _ => rfl)) | ((with_reducible show LeR _ _ _); first | refine LeR.own rfl rfl rfl ?_ | refine LeR.view rfl rfl rfl ?_ ?_ | refine LeR.ro ?_ | refine LeR.roCap ?_ | refine LeR.nil ?_ (fun _ => rfl)) | ((with_reducible first | show drawOK _ _ = true | show lateOK _ _ = true | show drawOK2 _ _ = true | show drawOK3 _ _ = true); kernel_rfl)))
        obtain ⟨j, _⟩ := j
        obtain ⟨hj1, hj2⟩ := hj
        have hsb := scan_bd hps (posn (plcs l (l.length + 1)) k) (j - posn (plcs l (l.length + 1)) k)
        have hcb := hps.at j
        have e1 : ((j : Int)).toNat = j := Int.toNat_natCast _
        have e4 : C_bst.d = zB := rfl
        have e5 : C_part.d = dPart := rfl
        have e9 : ((tab l (plcs l (l.length + 1)) width c).set k acc).getD k zB = acc := Go.SX.Plain.getD_set_eq _ _ _ _ (by omega)
        have e10 : ((k : Int)).toNat = k := Int.toNat_natCast _
        repeat' (first | (with_reducible first | refine ex_of (α := Nat × Unit) (j + 1, ()) ⟨⟨?_, ?_⟩, ?_⟩ ?_ | refine ex_of (α := Nat) (c + 1) ⟨?_, ?_⟩ ?_ | refine ⟨(⟨_, _, _, _⟩, ⟨_, _, _, _⟩), ⟨(.cons (.agg (.cons (.v _) (.cons (.v _) (.cons (.v _) (.cons (.vb _) .nil))))) (.cons (.agg (.cons (.v _) (.cons (.v _) (.cons (.v _) (.cons (.sb _) .nil))))) .nil)), ?_⟩, ?_⟩ | exact fun h => h | refine ExE.row (by with_unfolding_all rfl) ?_ | refine And.intro ?_ ?_) | ((with_reducible intro hq); first | exact bne1 hq (by with_reducible assumption) | exact bne1 (by with_reducible assumption) hq | ((simp only [*, BB, cond_true, cond_false, reduceCtorEq] at hq); done) | (revert hq; with_reducible intro _)) | (with_reducible first | exact True.intro | rfl | refine EntLe.row ?_ | exact LeN.ro rfl | exact LeN.rptr | assumption) | ((with_reducible first | refine WkX.chk ?_ | refine Wk.chk ?_ | refine LeL.chk ?_ | refine LeF.chk ?_ | refine Run.mk ?_); (conv => whnf)) | ((with_reducible show LeO _ _); first | refine LeO.ro ?_ | refine LeO.roCap ?_ | refine LeO.nil ?_ (fun _ => rfl)) | ((with_reducible show LeR _ _ _); first | refine LeR.own rfl rfl rfl ?_ | refine LeR.view rfl rfl rfl ?_ ?_ | refine LeR.ro ?_ | refine LeR.roCap ?_ | refine LeR.nil ?_ (fun _ => rfl)) | ((with_reducible first | show drawOK _ _ = true | show lateOK _ _ = true | show drawOK2 _ _ = true | show drawOK3 _ _ = true); kernel_rfl))
        all_goals (try simp only [e1, e4, e5, e9, e10, decide_eq_true_eq, decide_eq_false_iff_not, Bool.not_eq_true', Bool.not_eq_false', beq_iff_eq, beq_eq_false_iff_ne, ne_eq, List.length_set, htl, atL_length, outL_length] at *)
        all_goals first
          | omega
          | (refine Fits.i64 ?_ ?_ <;> omega)
          | rfl
          | (rw [scan_fin (by omega) (by assumption)]; done)
          | (rw [scan_blank (by omega) (by assumption) (by assumption)]; done)
          | (rw [scan_ink (by omega) (by assumption) (by assumption)]; done)
          | (have hje : j = l.length := by omega
             subst hje
             simp only [fullTo_eq] at *
             first
             | omega
             | (have hsq := sq_bd (x := width - fullTo l (plcs l (l.length + 1)) k l.length) (y := 200) (by omega) (by omega)
                refine Fits.i64 ?_ ?_ <;> omega)
             | (rw [tab_succ hk, ← hi4, inner_end (by omega)]
                first
                | (rw [endly_no (by assumption)]; done)
                | (rw [endly_yes (by assumption), better_1 (by assumption), List.set_set]; rfl)
                | (rw [endly_yes (by assumption), better_0 (by assumption)]; done)))
  all_goals
    have hcN : c = (plcs l (l.length + 1)).length + 1 := by
      have h : decide (0 ≤ ((plcs l (l.length + 1)).length : Int) - (c : Int)) = false := by assumption
      simp only [decide_eq_false_iff_not] at h; omega
    subst hcN
    have htl := tab_len l (plcs l (l.length + 1)) width ((plcs l (l.length + 1)).length + 1)
  · omega
  · rw [htl]; omega
  · rw [htl]; dsimp only [Int.toNat]; omega
  have hg := fun j => tabOf_gd (l := l) (width := width) hps hw2 j
  have hok0 := tabOf_ok (l := l) (width := width) hps hw1 (j := 0) (Nat.zero_le _)
  have hwl := wrapOut_len l width
  refine loopI (Int × List (Int × Int)) [] (fun | (x, _) => [(25, .v (.int .i64 x)), (24, .own 4)]) (fun | (_, o) => [(4, .row C_brk o 36 none)])
    (fun | (x, o) => Nx (plcs l (l.length + 1)).length (tabOf l width) x ∧ o ++ (wayOf (plcs l (l.length + 1)).length (tabOf l width) x).map (fun n => (outL l (l.length + 1)).getD n (0, 0)) = wrapOut l width) (fun | (x, _) => far (plcs l (l.length + 1)).length x)
    (((tabOf l width).getD 0 zB).next, []) ⟨⟨((hg 0).nx hok0).imp (fun h => h) fun ⟨n, h1, _, h3, h4⟩ => ⟨n, h1, h3, h4⟩⟩, rfl⟩ (Wk.chk ?_) fun i hi => ?_
  · ((conv => whnf); repeat' (first | (with_reducible first | exact fun h => h | refine ExE.row (by with_unfolding_all rfl) ?_ | refine And.intro ?_ ?_) | ((with_reducible intro hq); first | exact bne1 hq (by with_reducible assumption) | exact bne1 (by with_reducible assumption) hq | ((simp only [*, BB, cond_true, cond_false, reduceCtorEq] at hq); done) | (revert hq; with_reducible intro _)) | (with_reducible first | exact True.intro | rfl | refine EntLe.row ?_ | exact LeN.ro rfl | exact LeN.rptr | assumption) | ((with_reducible first | refine WkX.chk ?_ | refine Wk.chk ?_ | refine LeL.chk ?_ | refine LeF.chk ?_ | refine Run.mk ?_); (conv => whnf)) | ((with_reducible show LeO _ _); first | refine LeO.ro ?_ | refine LeO.roCap ?_ | refine LeO.nil ?_ (fun _ => rfl)) | ((with_reducible show LeR _ _ _); first | refine LeR.own rfl rfl rfl ?_ | refine LeR.view rfl rfl rfl ?_ ?_ | refine LeR.ro ?_ | refine LeR.roCap ?_ | refine LeR.nil ?_ (fun _ => rfl)) | ((with_reducible first | show drawOK _ _ = true | show lateOK _ _ = true | show drawOK2 _ _ = true | show drawOK3 _ _ = true); kernel_rfl)))
    all_goals rfl
  obtain ⟨x, o⟩ := i
  obtain ⟨hx, ho⟩ := hi
  rcases hx.out with hx1 | ⟨m, hx1, hx2, hx3⟩
  · subst hx1
    rw [wayOf_end _ _ (by omega)] at ho
    simp only [List.map_nil, List.append_nil] at ho
    repeat' (first | (with_reducible first | exact fun h => h | refine ExE.row (by with_unfolding_all rfl) ?_ | refine And.intro ?_ ?_) | ((with_reducible intro hq); first | exact bne1 hq (by with_reducible assumption) | exact bne1 (by with_reducible assumption) hq | ((simp only [*, BB, cond_true, cond_false, reduceCtorEq] at hq); done) | (revert hq; with_reducible intro _)) | (with_reducible first | exact True.intro | rfl | refine EntLe.row ?_ | exact LeN.ro rfl | exact LeN.rptr | assumption) | ((with_reducible first | refine WkX.chk ?_ | refine Wk.chk ?_ | refine LeL.chk ?_ | refine LeF.chk ?_ | refine Run.mk ?_); (conv => whnf)) | ((with_reducible show LeO _ _); first | refine LeO.ro ?_ | refine LeO.roCap ?_ | refine LeO.nil ?_ (fun _ => rfl)) | ((with_reducible show LeR _ _ _); first | refine LeR.own rfl rfl rfl ?_ | refine LeR.view rfl rfl rfl ?_ ?_ | refine LeR.ro ?_ | refine LeR.roCap ?_ | refine LeR.nil ?_ (fun _ => rfl)) | ((with_reducible first | show drawOK _ _ = true | show lateOK _ _ = true | show drawOK2 _ _ = true | show drawOK3 _ _ = true); kernel_rfl))
    all_goals first
      | omega
      | (exfalso; have h : decide ((0 : Int) ≤ -1) = true := by assumption
         exact absurd h (by decide))
      | (rw [htl]; omega)
      | (rw [htl]; dsimp only [Int.toNat]; omega)
      | (rw [hL]; exact ho)
      | (rw [hB]; rfl)
      | exact hck.symm
  · subst hx1
    obtain ⟨hn1, hn2⟩ := Nx.next hg hx3 hx2
    rw [wayOf_step hg hx3 hx2, List.map_cons, List.append_cons] at ho
    have hol : o.length + 1 ≤ (plcs l (l.length + 1)).length := by rw [← ho] at hwl; simp at hwl; omega
    repeat' (first | (with_reducible first | refine ex_of (α := Int × List (Int × Int)) (_, _) ⟨⟨hn1, ho⟩, hn2⟩ ?_ | exact fun h => h | refine ExE.row (by with_unfolding_all rfl) ?_ | refine And.intro ?_ ?_) | ((with_reducible intro hq); first | exact bne1 hq (by with_reducible assumption) | exact bne1 (by with_reducible assumption) hq | ((simp only [*, BB, cond_true, cond_false, reduceCtorEq] at hq); done) | (revert hq; with_reducible intro _)) | (with_reducible first | exact True.intro | rfl | refine EntLe.row ?_ | exact LeN.ro rfl | exact LeN.rptr | assumption) | ((with_reducible first | refine WkX.chk ?_ | refine Wk.chk ?_ | refine LeL.chk ?_ | refine LeF.chk ?_ | refine Run.mk ?_); (conv => whnf)) | ((with_reducible show LeO _ _); first | refine LeO.ro ?_ | refine LeO.roCap ?_ | refine LeO.nil ?_ (fun _ => rfl)) | ((with_reducible show LeR _ _ _); first | refine LeR.own rfl rfl rfl ?_ | refine LeR.view rfl rfl rfl ?_ ?_ | refine LeR.ro ?_ | refine LeR.roCap ?_ | refine LeR.nil ?_ (fun _ => rfl)) | ((with_reducible first | show drawOK _ _ = true | show lateOK _ _ = true | show drawOK2 _ _ = true | show drawOK3 _ _ = true); kernel_rfl))
    all_goals first
      | omega
      | (exfalso; have h : decide ((0 : Int) ≤ (m : Int)) = false := by assumption
         simp at h; done)
      | rfl
      | (rw [outL_length]; omega)
      | (rw [htl]; omega)
      | (refine Fits.i64 ?_ ?_ <;> omega)
      | (simp only [List.length_cons, List.length_nil]; omega)
end Go.SX.Try
/- Contracts of the document's way, Wrap, Places; of the program's Places; of the law's Same, head. -/
namespace Go.SX.Try
open Go.Proofs Go.Proofs.Try Go.SX.Plain
set_option maxRecDepth 100000
set_option maxHeartbeats 0
set_option linter.unusedSimpArgs false
def D_way : Cds := [(3, ⟨Int, C_int⟩), (57, ⟨Int × Int, C_brk⟩)]
theorem D_way_ok : CdsOK T D_way := .cons ⟨fun _ => rfl, by decide, _, rfl, rfl, by decide⟩ (.cons ⟨fun _ => rfl, by decide, _, rfl, rfl, by decide⟩ .nil)
theorem q_wplaces : fact 9 f9 := ⟨by kernel_rfl, rfl, by kernel_rfl⟩
theorem q_same : fact 19 f19 := ⟨by kernel_rfl, rfl, by kernel_rfl⟩
theorem q_head : fact 7 f7 := ⟨by kernel_rfl, rfl, by kernel_rfl⟩
theorem con_wplaces : Con prog 9 (fun s : ByteArray => [.v (.string s)]) (fun s => .ro 2 C_brk.enc C_brk.d (outL (Plain.parts s) ((Plain.parts s).length + 1)) none) (fun s => s.size ≤ 2000000) := by
  refine Con.of (by kernel_rfl) T_ok D_way_ok (.con con_parts (.con con_places .nil)) 3 [] q_wplaces.1 q_wplaces.2.1 q_wplaces.2.2 (fun _ => rfl) fun s hs => ?_
  have hl := parts_len s
  repeat' (first | (with_reducible first | refine ⟨_, ⟨(.cons (.v _) .nil), ?_⟩, ?_⟩ | refine ⟨_, ⟨(.cons (.ro _ _ _ _ _) .nil), ?_⟩, ?_⟩ | exact fun h => h | refine ExE.row (by with_unfolding_all rfl) ?_ | refine And.intro ?_ ?_) | ((with_reducible intro hq); first | exact bne1 hq (by with_reducible assumption) | exact bne1 (by with_reducible assumption) hq | ((simp only [*, BB, cond_true, cond_false, reduceCtorEq] at hq); done) | (revert hq; with_reducible intro _)) | (with_reducible first | exact True.intro | rfl | refine EntLe.row ?_ | exact LeN.ro rfl | exact LeN.rptr | assumption) | ((with_reducible first | refine WkX.chk ?_ | refine Wk.chk ?_ | refine LeL.chk ?_ | refine LeF.chk ?_ | refine Run.mk ?_); (conv => whnf)) | ((with_reducible show LeO _ _); first | refine LeO.ro ?_ | refine LeO.roCap ?_ | refine LeO.nil ?_ (fun _ => rfl)) | ((with_reducible show LeR _ _ _); first | refine LeR.own rfl rfl rfl ?_ | refine LeR.view rfl rfl rfl ?_ ?_ | refine LeR.ro ?_ | refine LeR.roCap ?_ | refine LeR.nil ?_ (fun _ => rfl)) | ((with_reducible first | show drawOK _ _ = true | show lateOK _ _ = true | show drawOK2 _ _ = true | show drawOK3 _ _ = true); kernel_rfl))
  all_goals first
    | exact hs
    | (dsimp only at *; omega)
    | rfl
def sameB (a b : List (Int × Int)) : Bool := decide (a = b)
theorem con_same : Con prog 19 (fun ((a, b) : List (Int × Int) × List (Int × Int)) => [.ro 2 C_brk.enc C_brk.d a none true, .ro 2 C_brk.enc C_brk.d b none true]) (fun (a, b) => .sb (decide (a = b))) (fun (a, b) => a.length ≤ 1100000) := by
  refine Con.of (by kernel_rfl) T_ok D_way_ok .nil 3 [] q_same.1 q_same.2.1 q_same.2.2 (fun _ => rfl) fun i hi => ?_
  obtain ⟨a, b⟩ := i
  have hi : a.length ≤ 1100000 := hi
  have e0 : ((a.length : Int) != (b.length : Int)) = !decide (a.length = b.length) := by rw [bne, natBeq]
  repeat' (first | (with_reducible first | exact fun h => h | refine ExE.row (by with_unfolding_all rfl) ?_ | refine And.intro ?_ ?_) | ((with_reducible intro hq); first | exact bne1 hq (by with_reducible assumption) | exact bne1 (by with_reducible assumption) hq | ((simp only [*, BB, cond_true, cond_false, reduceCtorEq] at hq); done) | (revert hq; with_reducible intro _)) | (with_reducible first | exact True.intro | rfl | refine EntLe.row ?_ | exact LeN.ro rfl | exact LeN.rptr | assumption) | ((with_reducible first | refine WkX.chk ?_ | refine Wk.chk ?_ | refine LeL.chk ?_ | refine LeF.chk ?_ | refine Run.mk ?_); (conv => whnf)) | ((with_reducible show LeO _ _); first | refine LeO.ro ?_ | refine LeO.roCap ?_ | refine LeO.nil ?_ (fun _ => rfl)) | ((with_reducible show LeR _ _ _); first | refine LeR.own rfl rfl rfl ?_ | refine LeR.view rfl rfl rfl ?_ ?_ | refine LeR.ro ?_ | refine LeR.roCap ?_ | refine LeR.nil ?_ (fun _ => rfl)) | ((with_reducible first | show drawOK _ _ = true | show lateOK _ _ = true | show drawOK2 _ _ = true | show drawOK3 _ _ = true); kernel_rfl))
  · rename_i h
    rw [e0] at h
    symm
    refine decide_eq_false ?_
    rintro rfl
    simp at h
  rename_i h
  rw [e0] at h
  have hab : a.length = b.length := by simpa using h
  refine loopI Nat [] (fun i => [(5, .v (.int .i64 (i : Int)))]) (fun _ => []) (fun i => i ≤ a.length ∧ a.take i = b.take i) (fun i => a.length - i) 0 ⟨Nat.zero_le _, rfl⟩ (Wk.chk ?_) fun i hi => ?_
  · ((conv => whnf); repeat' (first | (with_reducible first | exact fun h => h | refine ExE.row (by with_unfolding_all rfl) ?_ | refine And.intro ?_ ?_) | ((with_reducible intro hq); first | exact bne1 hq (by with_reducible assumption) | exact bne1 (by with_reducible assumption) hq | ((simp only [*, BB, cond_true, cond_false, reduceCtorEq] at hq); done) | (revert hq; with_reducible intro _)) | (with_reducible first | exact True.intro | rfl | refine EntLe.row ?_ | exact LeN.ro rfl | exact LeN.rptr | assumption) | ((with_reducible first | refine WkX.chk ?_ | refine Wk.chk ?_ | refine LeL.chk ?_ | refine LeF.chk ?_ | refine Run.mk ?_); (conv => whnf)) | ((with_reducible show LeO _ _); first | refine LeO.ro ?_ | refine LeO.roCap ?_ | refine LeO.nil ?_ (fun _ => rfl)) | ((with_reducible show LeR _ _ _); first | refine LeR.own rfl rfl rfl ?_ | refine LeR.view rfl rfl rfl ?_ ?_ | refine LeR.ro ?_ | refine LeR.roCap ?_ | refine LeR.nil ?_ (fun _ => rfl)) | ((with_reducible first | show drawOK _ _ = true | show lateOK _ _ = true | show drawOK2 _ _ = true | show drawOK3 _ _ = true); kernel_rfl)))
    all_goals rfl
  obtain ⟨h1, h2⟩ := hi
  have e1 : ((i : Int)).toNat = i := Int.toNat_natCast _
  have e2 : C_brk.d = (0, 0) := rfl
  repeat' (first | (with_reducible first | refine ex_of (i + 1) ⟨⟨?_, ?_⟩, ?_⟩ ?_ | exact fun h => h | refine ExE.row (by with_unfolding_all rfl) ?_ | refine And.intro ?_ ?_) | ((with_reducible intro hq); first | exact bne1 hq (by with_reducible assumption) | exact bne1 (by with_reducible assumption) hq | ((simp only [*, BB, cond_true, cond_false, reduceCtorEq] at hq); done) | (revert hq; with_reducible intro _)) | (with_reducible first | exact True.intro | rfl | refine EntLe.row ?_ | exact LeN.ro rfl | exact LeN.rptr | assumption) | ((with_reducible first | refine WkX.chk ?_ | refine Wk.chk ?_ | refine LeL.chk ?_ | refine LeF.chk ?_ | refine Run.mk ?_); (conv => whnf)) | ((with_reducible show LeO _ _); first | refine LeO.ro ?_ | refine LeO.roCap ?_ | refine LeO.nil ?_ (fun _ => rfl)) | ((with_reducible show LeR _ _ _); first | refine LeR.own rfl rfl rfl ?_ | refine LeR.view rfl rfl rfl ?_ ?_ | refine LeR.ro ?_ | refine LeR.roCap ?_ | refine LeR.nil ?_ (fun _ => rfl)) | ((with_reducible first | show drawOK _ _ = true | show lateOK _ _ = true | show drawOK2 _ _ = true | show drawOK3 _ _ = true); kernel_rfl))
  all_goals (try simp only [e1, e2, decide_eq_true_eq, decide_eq_false_iff_not] at *)
  all_goals first
    | omega
    | (refine Fits.i64 ?_ ?_ <;> omega)
    | rfl
    | (symm
       refine decide_eq_false ?_
       rintro rfl
       simp at *; done)
    | (simp_all; done)
    | (rw [← take_one a (0, 0) (by omega), ← take_one b (0, 0) (by omega), h2]
       have q : (a.getD i (0, 0)) = (b.getD i (0, 0)) := by
         refine Prod.ext ?_ ?_ <;> simp_all
       rw [q])
    | (symm
       refine decide_eq_true ?_
       rw [take_all a (by omega), take_all b (by omega)] at h2
       exact h2)
end Go.SX.Try
/- Contracts of chapter 10's law: ours, texts. -/
namespace Go.SX.Try
open Go.Proofs Go.Proofs.Try Go.SX.Plain
set_option maxRecDepth 100000
set_option maxHeartbeats 0
set_option linter.unusedSimpArgs false
def D_ours : Cds := [(57, ⟨Int × Int, C_brk⟩)]
def C_str : Cdc ByteArray where
  size := 1
  enc p := [.v (.string p)]
  dec l := match l with
    | [.v (.string a)] => a
    | _ => ByteArray.empty
  d := ByteArray.empty
end Go.SX.Try
/- Contract of wrap's Lines. -/
namespace Go.SX.Try
open Go.Proofs Go.Proofs.Try Go.SX.Plain
set_option maxRecDepth 100000
set_option maxHeartbeats 0
set_option linter.unusedSimpArgs false
theorem q_wlines : fact 10 f10 := ⟨by kernel_rfl, rfl, by kernel_rfl⟩
def D_str : Cds := [(9, ⟨ByteArray, C_str⟩)]
theorem D_str_ok : CdsOK T D_str := .cons ⟨fun _ => rfl, by decide, _, rfl, rfl, by decide⟩ .nil
theorem con_wlines : Con prog 10 (fun ((s, way) : ByteArray × List (Int × Int)) => [.v (.string s), .ro 2 C_brk.enc C_brk.d way none true])
    (fun (s, way) => .tup [.ro 1 C_str.enc C_str.d (linesT s way) none, .v (.int .i64 (linesE s way))]) (fun _ => True) := by
  refine Con.of (by kernel_rfl) T_ok D_str_ok (.con con_lines (.con con_trimmed .nil)) 3 [] q_wlines.1 q_wlines.2.1 q_wlines.2.2 (fun _ => rfl) fun i hi => ?_
  obtain ⟨s, way⟩ := i
  by_cases hsz : 4096 < s.size
  · have ht : decide ((4096 : Int) < (s.size : Int)) = true := decide_eq_true (by omega)
    have hE : linesE s way = 3 := by unfold linesE; rw [if_pos hsz]
    have hT : linesT s way = [] := by unfold linesT; rw [hE, if_neg (by decide)]
    repeat' (first | (with_reducible first | refine ⟨(_, _), ⟨(.cons (.v _) (.cons (.lent _ _ _ _ _ _) .nil)), ?_⟩, ?_⟩ | exact fun h => h | refine ExE.row (by with_unfolding_all rfl) ?_ | refine And.intro ?_ ?_) | ((with_reducible intro hq); first | exact bne1 hq (by with_reducible assumption) | exact bne1 (by with_reducible assumption) hq | ((simp only [*, BB, cond_true, cond_false, reduceCtorEq] at hq); done) | (revert hq; with_reducible intro _)) | (with_reducible first | exact True.intro | rfl | refine EntLe.row ?_ | exact LeN.ro rfl | exact LeN.rptr | assumption) | ((with_reducible first | refine WkX.chk ?_ | refine Wk.chk ?_ | refine LeL.chk ?_ | refine LeF.chk ?_ | refine Run.mk ?_); (conv => whnf)) | ((with_reducible show LeO _ _); first | refine LeO.ro ?_ | refine LeO.roCap ?_ | refine LeO.nil ?_ (fun _ => rfl)) | ((with_reducible show LeR _ _ _); first | refine LeR.own rfl rfl rfl ?_ | refine LeR.view rfl rfl rfl ?_ ?_ | refine LeR.ro ?_ | refine LeR.roCap ?_ | refine LeR.nil ?_ (fun _ => rfl)) | ((with_reducible first | show drawOK _ _ = true | show lateOK _ _ = true | show drawOK2 _ _ = true | show drawOK3 _ _ = true); kernel_rfl))
    all_goals first
      | exact hT
      | exact hT.symm
      | exact hE.symm
      | trace_state
  have ht : decide ((4096 : Int) < (s.size : Int)) = false := decide_eq_false (by omega)
  cases hB : linesB s way with
  | false =>
    have hE : linesE s way = 1 := by unfold linesE; rw [if_neg hsz, if_pos hB]
    have hT : linesT s way = [] := by unfold linesT; rw [hE, if_neg (by decide)]
    have hnb : (!linesB s way) = true := by rw [hB]; rfl
    repeat' (first | (with_reducible first | refine ⟨(_, _), ⟨(.cons (.v _) (.cons (.lent _ _ _ _ _ _) .nil)), ?_⟩, ?_⟩ | exact fun h => h | refine ExE.row (by with_unfolding_all rfl) ?_ | refine And.intro ?_ ?_) | ((with_reducible intro hq); first | exact bne1 hq (by with_reducible assumption) | exact bne1 (by with_reducible assumption) hq | ((simp only [*, BB, cond_true, cond_false, reduceCtorEq] at hq); done) | (revert hq; with_reducible intro _)) | (with_reducible first | exact True.intro | rfl | refine EntLe.row ?_ | exact LeN.ro rfl | exact LeN.rptr | assumption) | ((with_reducible first | refine WkX.chk ?_ | refine Wk.chk ?_ | refine LeL.chk ?_ | refine LeF.chk ?_ | refine Run.mk ?_); (conv => whnf)) | ((with_reducible show LeO _ _); first | refine LeO.ro ?_ | refine LeO.roCap ?_ | refine LeO.nil ?_ (fun _ => rfl)) | ((with_reducible show LeR _ _ _); first | refine LeR.own rfl rfl rfl ?_ | refine LeR.view rfl rfl rfl ?_ ?_ | refine LeR.ro ?_ | refine LeR.roCap ?_ | refine LeR.nil ?_ (fun _ => rfl)) | ((with_reducible first | show drawOK _ _ = true | show lateOK _ _ = true | show drawOK2 _ _ = true | show drawOK3 _ _ = true); kernel_rfl))
    all_goals first
      | exact hT
      | exact hT.symm
      | exact hE.symm
      | (dsimp only; omega)
      | trace_state
  | true =>
    have hE : linesE s way = 0 := by unfold linesE; rw [if_neg hsz, if_neg (by rw [hB]; decide)]
    have hT : linesT s way = (linesL s way).map (textL s) := by unfold linesT; rw [hE, if_pos rfl]
    have hnb : (!linesB s way) = false := by rw [hB]; rfl
    obtain ⟨hwl, hLl⟩ := linesB_way hB
    have hsm := linesL_small s way
    have hsub := linesL_sub s way
    have hd : C_parts.d = [] := rfl
    have hd2 : C_part.d = dPart := rfl
    repeat' (first | (with_reducible first | refine ⟨(_, _), ⟨(.cons (.v _) (.cons (.lent _ _ _ _ _ _) .nil)), ?_⟩, ?_⟩ | exact fun h => h | refine ExE.row (by with_unfolding_all rfl) ?_ | refine And.intro ?_ ?_) | ((with_reducible intro hq); first | exact bne1 hq (by with_reducible assumption) | exact bne1 (by with_reducible assumption) hq | ((simp only [*, BB, cond_true, cond_false, reduceCtorEq] at hq); done) | (revert hq; with_reducible intro _)) | (with_reducible first | exact True.intro | rfl | refine EntLe.row ?_ | exact LeN.ro rfl | exact LeN.rptr | assumption) | ((with_reducible first | refine WkX.chk ?_ | refine Wk.chk ?_ | refine LeL.chk ?_ | refine LeF.chk ?_ | refine Run.mk ?_); (conv => whnf)) | ((with_reducible show LeO _ _); first | refine LeO.ro ?_ | refine LeO.roCap ?_ | refine LeO.nil ?_ (fun _ => rfl)) | ((with_reducible show LeR _ _ _); first | refine LeR.own rfl rfl rfl ?_ | refine LeR.view rfl rfl rfl ?_ ?_ | refine LeR.ro ?_ | refine LeR.roCap ?_ | refine LeR.nil ?_ (fun _ => rfl)) | ((with_reducible first | show drawOK _ _ = true | show lateOK _ _ = true | show drawOK2 _ _ = true | show drawOK3 _ _ = true); kernel_rfl))
    · dsimp only; omega
    refine loopI Nat [] (fun k => [(25, .v (.int .i64 (k : Nat))), (8, .own 1)]) (fun k => [(1, .row C_str ((linesT s way).take k) 9 none)]) (fun k => k ≤ (linesL s way).length)
      (fun k => (linesL s way).length - k) 0 (Nat.zero_le _) (Wk.chk ?_) fun k hk => ?_
    · ((conv => whnf); repeat' (first | (with_reducible first | exact fun h => h | refine ExE.row (by with_unfolding_all rfl) ?_ | refine And.intro ?_ ?_) | ((with_reducible intro hq); first | exact bne1 hq (by with_reducible assumption) | exact bne1 (by with_reducible assumption) hq | ((simp only [*, BB, cond_true, cond_false, reduceCtorEq] at hq); done) | (revert hq; with_reducible intro _)) | (with_reducible first | exact True.intro | rfl | refine EntLe.row ?_ | exact LeN.ro rfl | exact LeN.rptr | assumption) | ((with_reducible first | refine WkX.chk ?_ | refine Wk.chk ?_ | refine LeL.chk ?_ | refine LeF.chk ?_ | refine Run.mk ?_); (conv => whnf)) | ((with_reducible show LeO _ _); first | refine LeO.ro ?_ | refine LeO.roCap ?_ | refine LeO.nil ?_ (fun _ => rfl)) | ((with_reducible show LeR _ _ _); first | refine LeR.own rfl rfl rfl ?_ | refine LeR.view rfl rfl rfl ?_ ?_ | refine LeR.ro ?_ | refine LeR.roCap ?_ | refine LeR.nil ?_ (fun _ => rfl)) | ((with_reducible first | show drawOK _ _ = true | show lateOK _ _ = true | show drawOK2 _ _ = true | show drawOK3 _ _ = true); kernel_rfl)))
      all_goals rfl
    have e1 : ((k : Int)).toNat = k := Int.toNat_natCast _
    by_cases hkl : k < (linesL s way).length
    · have hlt : decide ((k : Int) < ((linesL s way).length : Int)) = true := decide_eq_true (by omega)
      have hmem := getD_memL [] hkl
      have hs1 := hsm _ hmem
      obtain ⟨a, b, hab⟩ := hsub _ hmem
      have htk := take_map (textL s) (linesL s way) [] hkl
      rw [← hT] at htk
      have hg0 := fun h => (trim_get hab (k := 0) h).1
      have hg1 := fun h => trim_get hab (k := (trimL ((linesL s way).getD k [])).length - 1) h
      have hzl : (trimL ((linesL s way).getD k [])).length ≤ s.size := by
        have := trimN_le ((linesL s way).getD k [])
        rw [trimL_len]
        have := hs1.2
        omega
      have hb : 0 < (trimL ((linesL s way).getD k [])).length → 0 ≤ ((trimL ((linesL s way).getD k [])).getD 0 dPart).c.at ∧ ((trimL ((linesL s way).getD k [])).getD 0 dPart).c.at ≤ ((trimL ((linesL s way).getD k [])).getD ((trimL ((linesL s way).getD k [])).length - 1) dPart).c.at + ((trimL ((linesL s way).getD k [])).getD ((trimL ((linesL s way).getD k [])).length - 1) dPart).c.len ∧
          ((trimL ((linesL s way).getD k [])).getD ((trimL ((linesL s way).getD k [])).length - 1) dPart).c.at + ((trimL ((linesL s way).getD k [])).getD ((trimL ((linesL s way).getD k [])).length - 1) dPart).c.len ≤ s.size := fun h => by
        have h2 := hg1 (by omega)
        rw [hg0 h, h2.1]
        exact (part_ord s (i := a + 0) (by omega) h2.2).2
      have ht0 : (trimL ((linesL s way).getD k [])).length = 0 → textL s ((linesL s way).getD k []) = ByteArray.empty := fun h => by
        unfold textL
        rw [if_pos h]
      have ht1 : ¬ (trimL ((linesL s way).getD k [])).length = 0 → textL s ((linesL s way).getD k []) = s.extract ((trimL ((linesL s way).getD k [])).getD 0 dPart).c.at.toNat (((trimL ((linesL s way).getD k [])).getD ((trimL ((linesL s way).getD k [])).length - 1) dPart).c.at + ((trimL ((linesL s way).getD k [])).getD ((trimL ((linesL s way).getD k [])).length - 1) dPart).c.len).toNat := fun h => by
        unfold textL
        rw [if_neg h]
      have htl : (List.take k (linesT s way)).length ≤ k := List.length_take_le _ _
      clear hg0 hg1 hab
      revert hb ht0 ht1 htk hzl
      have hzz : ∃ Z, Z = trimL ((linesL s way).getD k []) := ⟨_, rfl⟩
      obtain ⟨Z, hZ⟩ := hzz
      rw [← hZ]
      intro htk hzl hb ht0 ht1
      have e3 : ((Z.length : Int) - 1).toNat = Z.length - 1 := by omega
      repeat' (first | (with_reducible first | refine ⟨_, ⟨(.cons (.ro _ _ _ _ _) .nil), ?_⟩, ?_⟩ | refine ex_of (α := Nat) (k + 1) ⟨?_, ?_⟩ ?_ | exact fun h => h | refine ExE.row (by with_unfolding_all rfl) ?_ | refine And.intro ?_ ?_) | ((with_reducible intro hq); first | exact bne1 hq (by with_reducible assumption) | exact bne1 (by with_reducible assumption) hq | ((simp only [*, BB, cond_true, cond_false, reduceCtorEq] at hq); done) | (revert hq; with_reducible intro _)) | (with_reducible first | exact True.intro | rfl | refine EntLe.row ?_ | exact LeN.ro rfl | exact LeN.rptr | assumption) | ((with_reducible first | refine WkX.chk ?_ | refine Wk.chk ?_ | refine LeL.chk ?_ | refine LeF.chk ?_ | refine Run.mk ?_); (conv => whnf)) | ((with_reducible show LeO _ _); first | refine LeO.ro ?_ | refine LeO.roCap ?_ | refine LeO.nil ?_ (fun _ => rfl)) | ((with_reducible show LeR _ _ _); first | refine LeR.own rfl rfl rfl ?_ | refine LeR.view rfl rfl rfl ?_ ?_ | refine LeR.ro ?_ | refine LeR.roCap ?_ | refine LeR.nil ?_ (fun _ => rfl)) | ((with_reducible first | show drawOK _ _ = true | show lateOK _ _ = true | show drawOK2 _ _ = true | show drawOK3 _ _ = true); kernel_rfl))
      all_goals (try simp only [e1, hd, hd2, ← hZ, e3, show Int.toNat 0 = 0 from rfl, C_str, beq_iff_eq, beq_eq_false_iff_ne, ne_eq] at *)
      all_goals first
        | omega
        | rfl
        | (apply Fits.i64 <;> omega)
        | (simp only [List.length_cons, List.length_nil]; omega)
        | (rw [← htk, ht0 (by omega)]; rfl)
        | (rw [← htk, ht1 (by omega)]; done)
        | (have hbb := hb (by omega); first | omega | (apply Fits.i64 <;> omega))
        | trace_state
    · have hlt : decide ((k : Int) < ((linesL s way).length : Int)) = false := decide_eq_false (by omega)
      have hfin : List.take k (linesT s way) = linesT s way := List.take_of_length_le (by rw [hT, List.length_map]; omega)
      repeat' (first | (with_reducible first | exact fun h => h | refine ExE.row (by with_unfolding_all rfl) ?_ | refine And.intro ?_ ?_) | ((with_reducible intro hq); first | exact bne1 hq (by with_reducible assumption) | exact bne1 (by with_reducible assumption) hq | ((simp only [*, BB, cond_true, cond_false, reduceCtorEq] at hq); done) | (revert hq; with_reducible intro _)) | (with_reducible first | exact True.intro | rfl | refine EntLe.row ?_ | exact LeN.ro rfl | exact LeN.rptr | assumption) | ((with_reducible first | refine WkX.chk ?_ | refine Wk.chk ?_ | refine LeL.chk ?_ | refine LeF.chk ?_ | refine Run.mk ?_); (conv => whnf)) | ((with_reducible show LeO _ _); first | refine LeO.ro ?_ | refine LeO.roCap ?_ | refine LeO.nil ?_ (fun _ => rfl)) | ((with_reducible show LeR _ _ _); first | refine LeR.own rfl rfl rfl ?_ | refine LeR.view rfl rfl rfl ?_ ?_ | refine LeR.ro ?_ | refine LeR.roCap ?_ | refine LeR.nil ?_ (fun _ => rfl)) | ((with_reducible first | show drawOK _ _ = true | show lateOK _ _ = true | show drawOK2 _ _ = true | show drawOK3 _ _ = true); kernel_rfl))
      all_goals first
        | exact hfin
        | exact hE.symm
        | trace_state
end Go.SX.Try
/- Contracts of the document's read, line. -/
namespace Go.SX.Try
open Go.Proofs Go.Proofs.Try Go.SX.Plain
set_option maxRecDepth 100000
set_option maxHeartbeats 0
set_option linter.unusedSimpArgs false
def D_rd : Cds := [(3, ⟨Int, C_int⟩)]
def castL (l : List Nat) : List Int := l.map fun (i : Nat) => (i : Int)
def readL (s : ByteArray) (way : List (Int × Int)) : List Int := ((rdW (Plain.parts s) way).map fun x => castL x.1).getD []
end Go.SX.Try
/- Contract of the document's line. -/
namespace Go.SX.Try
open Go.Proofs Go.Proofs.Try Go.SX.Plain
set_option maxRecDepth 100000
set_option maxHeartbeats 0
set_option linter.unusedSimpArgs false
end Go.SX.Try
/- Contract of the document's Badness. -/
namespace Go.SX.Try
open Go.Proofs Go.Proofs.Try Go.SX.Plain
set_option maxRecDepth 100000
set_option maxHeartbeats 0
set_option linter.unusedSimpArgs false
def frE (l : List Part) (R : List Nat) (k : Nat) : Nat := if k ≤ R.length then frO R k else l.length
end Go.SX.Try
/- Contract of chapter 10's head; what the laws WrapLeast, WrapPlaces answer, in terms of the two tables. -/
namespace Go.SX.Try
open Go.Proofs Go.Proofs.Try Go.SX.Plain
set_option maxRecDepth 100000
set_option maxHeartbeats 0
set_option linter.unusedSimpArgs false
def C_brkL : Cdc (Int × Int) := { C_brk with lit := true }
def D_law : Cds := [(36, ⟨Int × Int, C_brk⟩), (57, ⟨Int × Int, C_brkL⟩)]
theorem D_law_ok : CdsOK T D_law := .cons ⟨fun _ => rfl, by decide, _, rfl, rfl, by decide⟩ (.cons ⟨fun _ => rfl, by decide, _, rfl, rfl, by decide⟩ .nil)
def tx1 : ByteArray := ⟨#[97, 97, 97, 32, 98, 98, 32, 99, 99]⟩
def tx2 : ByteArray := ⟨#[97, 98, 99, 100, 101, 102]⟩
theorem con_head : Con prog 7 (fun _ : Unit => []) (fun _ => .sb true) (fun _ => True) := by
  refine Con.of (by kernel_rfl) T_ok D_law_ok (.con con_wrap (.con con_same .nil)) 3 [] q_head.1 q_head.2.1 q_head.2.2 (fun _ => rfl) fun i _ => ?_
  have h1 : wrapL { data := #[97, 97, 97, 32, 98, 98, 32, 99, 99] } 6 = [(4, 2)] := by kernel_rfl
  have h2 : wrapB { data := #[97, 97, 97, 32, 98, 98, 32, 99, 99] } 6 = 10 := by kernel_rfl
  have h3 : checkN (ByteArray.size { data := #[97, 97, 97, 32, 98, 98, 32, 99, 99] }) 6 = 0 := by kernel_rfl
  have h4 : wrapL { data := #[97, 98, 99, 100, 101, 102] } 4 = [(3, 3)] := by kernel_rfl
  have h5 : wrapB { data := #[97, 98, 99, 100, 101, 102] } 4 = 1048578 := by kernel_rfl
  have h6 : checkN (ByteArray.size { data := #[97, 98, 99, 100, 101, 102] }) 4 = 0 := by kernel_rfl
  repeat' (first | (with_reducible first | refine ⟨(_, _), ⟨(.cons (.v _) (.cons (.v _) .nil)), ?_⟩, ?_⟩ | refine ⟨(_, _), ⟨(.cons (.lent _ _ _ _ _ _) (.cons (.lent _ _ _ _ _ _) .nil)), ?_⟩, ?_⟩ | exact fun h => h | refine ExE.row (by with_unfolding_all rfl) ?_ | refine And.intro ?_ ?_) | ((with_reducible intro hq); first | exact bne1 hq (by with_reducible assumption) | exact bne1 (by with_reducible assumption) hq | ((simp only [*, BB, cond_true, cond_false, reduceCtorEq] at hq); done) | (revert hq; with_reducible intro _)) | (with_reducible first | exact True.intro | rfl | refine EntLe.row ?_ | exact LeN.ro rfl | exact LeN.rptr | assumption) | ((with_reducible first | refine WkX.chk ?_ | refine Wk.chk ?_ | refine LeL.chk ?_ | refine LeF.chk ?_ | refine Run.mk ?_); (conv => whnf)) | ((with_reducible show LeO _ _); first | refine LeO.ro ?_ | refine LeO.roCap ?_ | refine LeO.nil ?_ (fun _ => rfl)) | ((with_reducible show LeR _ _ _); first | refine LeR.own rfl rfl rfl ?_ | refine LeR.view rfl rfl rfl ?_ ?_ | refine LeR.ro ?_ | refine LeR.roCap ?_ | refine LeR.nil ?_ (fun _ => rfl)) | ((with_reducible first | show drawOK _ _ = true | show lateOK _ _ = true | show drawOK2 _ _ = true | show drawOK3 _ _ = true); kernel_rfl))
  all_goals first
    | rfl
    | (dsimp only; rw [h1]; decide)
    | (dsimp only; rw [h4]; decide)
    | (rw [h1, h2, h3, h4, h5, h6]; rfl)
    | (exfalso
       simp_all [C_brkL, C_brk, zeroAV]; done)
end Go.SX.Try
/- Contract of the law WrapBadness: true, whatever the input. -/
namespace Go.SX.Try
open Go.Proofs Go.Proofs.Try Go.SX.Plain
set_option maxRecDepth 100000
set_option maxHeartbeats 0
set_option linter.unusedSimpArgs false
end Go.SX.Try
/- Contracts of chapter 10's law: within, chosen. -/
namespace Go.SX.Plain
def pickB (pl : List (Int × Int)) (picks : List Int) (i : Nat) : Bool := decide ((pl.getD i (0, 0)).2 = 1) || (decide (0 < picks.length) && decide ((picks.getD ((i : Int).tmod picks.length).toNat 0).tmod 2 ≠ 0))
def chosenTo (pl : List (Int × Int)) (picks : List Int) (k : Nat) : List (Int × Int) := ((List.range k).filter (pickB pl picks)).map fun i => pl.getD i (0, 0)
theorem chosenTo_yes {pl : List (Int × Int)} {picks : List Int} {k : Nat} (h : pickB pl picks k = true) : chosenTo pl picks (k + 1) = chosenTo pl picks k ++ [pl.getD k (0, 0)] := by
  unfold chosenTo
  rw [List.range_succ, List.filter_append, List.filter_cons_of_pos h, List.filter_nil, List.map_append]
  rfl
theorem chosenTo_no {pl : List (Int × Int)} {picks : List Int} {k : Nat} (h : pickB pl picks k = false) : chosenTo pl picks (k + 1) = chosenTo pl picks k := by
  unfold chosenTo
  rw [List.range_succ, List.filter_append, List.filter_cons_of_neg (by rw [h]; decide), List.filter_nil, List.append_nil]
theorem chosenTo_len (pl : List (Int × Int)) (picks : List Int) (k : Nat) : (chosenTo pl picks k).length ≤ k := by
  unfold chosenTo
  rw [List.length_map]
  exact Nat.le_trans (List.length_filter_le _ _) (by simp)
end Go.SX.Plain
namespace Go.SX.Try
open Go.Proofs Go.Proofs.Try Go.SX.Plain
set_option maxRecDepth 100000
set_option maxHeartbeats 0
set_option linter.unusedSimpArgs false
theorem q_within : fact 6 f6 := ⟨by kernel_rfl, rfl, by kernel_rfl⟩
theorem q_chosen : fact 8 f8 := ⟨by kernel_rfl, rfl, by kernel_rfl⟩
theorem tmod_bd (a : Int) {n : Int} (hn : 0 < n) : (a.tmod n < 0 → a.tmod n + n = a % n) ∧ (¬ a.tmod n < 0 → a.tmod n = a % n) ∧ -n < a.tmod n ∧ a.tmod n < n := by
  have h1 := Int.emod_nonneg a (show n ≠ 0 by omega)
  have h2 := Int.emod_lt_of_pos a hn
  have h3 := Int.tmod_eq_emod (a := a) (b := n)
  by_cases hc : 0 ≤ a ∨ n ∣ a
  · rw [if_pos hc] at h3
    omega
  · rw [if_neg hc] at h3
    have h4 : a % n ≠ 0 := fun h => hc (.inr (Int.dvd_of_emod_eq_zero h))
    omega
theorem con_within : Con prog 6 (fun ((a, n) : Int × Int) => [.v (.int .i64 a), .v (.int .i64 n)]) (fun (a, n) => .v (.int .i64 (a % n))) (fun (_, n) => 0 < n ∧ n ≤ 1100000) := by
  refine Con.of (by kernel_rfl) T_ok CdsOK.nil .nil 3 [] q_within.1 q_within.2.1 q_within.2.2 (fun _ => rfl) fun i hi => ?_
  obtain ⟨a, n⟩ := i
  have hn : 0 < n ∧ n ≤ 1100000 := hi
  obtain ⟨h1, h2, h3, h4⟩ := tmod_bd a hn.1
  repeat' (first | (with_reducible first | exact fun h => h | refine ExE.row (by with_unfolding_all rfl) ?_ | refine And.intro ?_ ?_) | ((with_reducible intro hq); first | exact bne1 hq (by with_reducible assumption) | exact bne1 (by with_reducible assumption) hq | ((simp only [*, BB, cond_true, cond_false, reduceCtorEq] at hq); done) | (revert hq; with_reducible intro _)) | (with_reducible first | exact True.intro | rfl | refine EntLe.row ?_ | exact LeN.ro rfl | exact LeN.rptr | assumption) | ((with_reducible first | refine WkX.chk ?_ | refine Wk.chk ?_ | refine LeL.chk ?_ | refine LeF.chk ?_ | refine Run.mk ?_); (conv => whnf)) | ((with_reducible show LeO _ _); first | refine LeO.ro ?_ | refine LeO.roCap ?_ | refine LeO.nil ?_ (fun _ => rfl)) | ((with_reducible show LeR _ _ _); first | refine LeR.own rfl rfl rfl ?_ | refine LeR.view rfl rfl rfl ?_ ?_ | refine LeR.ro ?_ | refine LeR.roCap ?_ | refine LeR.nil ?_ (fun _ => rfl)) | ((with_reducible first | show drawOK _ _ = true | show lateOK _ _ = true | show drawOK2 _ _ = true | show drawOK3 _ _ = true); kernel_rfl))
  all_goals (try simp only [decide_eq_true_eq, decide_eq_false_iff_not] at *)
  all_goals first
    | omega
    | (apply Fits.i64 <;> omega)
    | exact h1 (by assumption)
    | exact h2 (by assumption)
    | trace_state
theorem con_chosen : Con prog 8 (fun ((pl, picks) : List (Int × Int) × List Int) => [.ro 2 C_brk.enc C_brk.d pl none true, .ro 1 C_int.enc C_int.d picks none true]) (fun (pl, picks) => .ro 2 C_brk.enc C_brk.d (chosenTo pl picks pl.length) none) (fun (pl, _) => pl.length ≤ 1100000) := by
  refine Con.of (by kernel_rfl) T_ok D_law_ok .nil 3 [] q_chosen.1 q_chosen.2.1 q_chosen.2.2 (fun _ => rfl) fun i hi => ?_
  obtain ⟨pl, picks⟩ := i
  have hpl : pl.length ≤ 1100000 := hi
  repeat' (first | (with_reducible first | exact fun h => h | refine ExE.row (by with_unfolding_all rfl) ?_ | refine And.intro ?_ ?_) | ((with_reducible intro hq); first | exact bne1 hq (by with_reducible assumption) | exact bne1 (by with_reducible assumption) hq | ((simp only [*, BB, cond_true, cond_false, reduceCtorEq] at hq); done) | (revert hq; with_reducible intro _)) | (with_reducible first | exact True.intro | rfl | refine EntLe.row ?_ | exact LeN.ro rfl | exact LeN.rptr | assumption) | ((with_reducible first | refine WkX.chk ?_ | refine Wk.chk ?_ | refine LeL.chk ?_ | refine LeF.chk ?_ | refine Run.mk ?_); (conv => whnf)) | ((with_reducible show LeO _ _); first | refine LeO.ro ?_ | refine LeO.roCap ?_ | refine LeO.nil ?_ (fun _ => rfl)) | ((with_reducible show LeR _ _ _); first | refine LeR.own rfl rfl rfl ?_ | refine LeR.view rfl rfl rfl ?_ ?_ | refine LeR.ro ?_ | refine LeR.roCap ?_ | refine LeR.nil ?_ (fun _ => rfl)) | ((with_reducible first | show drawOK _ _ = true | show lateOK _ _ = true | show drawOK2 _ _ = true | show drawOK3 _ _ = true); kernel_rfl))
  refine loopI Nat [] (fun k => [(6, .v (.int .i64 (k : Nat))), (5, .own 1)]) (fun k => [(1, .row C_brk (chosenTo pl picks k) 36 none)]) (fun k => k ≤ pl.length) (fun k => pl.length - k) 0 (Nat.zero_le _) (Wk.chk ?_) fun k hk => ?_
  · ((conv => whnf); repeat' (first | (with_reducible first | exact fun h => h | refine ExE.row (by with_unfolding_all rfl) ?_ | refine And.intro ?_ ?_) | ((with_reducible intro hq); first | exact bne1 hq (by with_reducible assumption) | exact bne1 (by with_reducible assumption) hq | ((simp only [*, BB, cond_true, cond_false, reduceCtorEq] at hq); done) | (revert hq; with_reducible intro _)) | (with_reducible first | exact True.intro | rfl | refine EntLe.row ?_ | exact LeN.ro rfl | exact LeN.rptr | assumption) | ((with_reducible first | refine WkX.chk ?_ | refine Wk.chk ?_ | refine LeL.chk ?_ | refine LeF.chk ?_ | refine Run.mk ?_); (conv => whnf)) | ((with_reducible show LeO _ _); first | refine LeO.ro ?_ | refine LeO.roCap ?_ | refine LeO.nil ?_ (fun _ => rfl)) | ((with_reducible show LeR _ _ _); first | refine LeR.own rfl rfl rfl ?_ | refine LeR.view rfl rfl rfl ?_ ?_ | refine LeR.ro ?_ | refine LeR.roCap ?_ | refine LeR.nil ?_ (fun _ => rfl)) | ((with_reducible first | show drawOK _ _ = true | show lateOK _ _ = true | show drawOK2 _ _ = true | show drawOK3 _ _ = true); kernel_rfl)))
    all_goals rfl
  have e1 : ((k : Int)).toNat = k := Int.toNat_natCast _
  have hln := chosenTo_len pl picks k
  have hpb : pickB pl picks k = ((pl.getD k C_brk.d).2 == 1 || decide (0 < (picks.length : Int)) && (picks.getD ((k : Int).tmod (picks.length : Int)).toNat C_int.d).tmod 2 != 0) := by
    unfold pickB
    rw [Bool.eq_iff_iff]
    simp [C_brk, C_int]
  repeat' (first | (with_reducible first | refine ex_of (α := Nat) (k + 1) ⟨?_, ?_⟩ ?_ | exact fun h => h | refine ExE.row (by with_unfolding_all rfl) ?_ | refine And.intro ?_ ?_) | ((with_reducible intro hq); first | exact bne1 hq (by with_reducible assumption) | exact bne1 (by with_reducible assumption) hq | ((simp only [*, BB, cond_true, cond_false, reduceCtorEq] at hq); done) | (revert hq; with_reducible intro _)) | (with_reducible first | exact True.intro | rfl | refine EntLe.row ?_ | exact LeN.ro rfl | exact LeN.rptr | assumption) | ((with_reducible first | refine WkX.chk ?_ | refine Wk.chk ?_ | refine LeL.chk ?_ | refine LeF.chk ?_ | refine Run.mk ?_); (conv => whnf)) | ((with_reducible show LeO _ _); first | refine LeO.ro ?_ | refine LeO.roCap ?_ | refine LeO.nil ?_ (fun _ => rfl)) | ((with_reducible show LeR _ _ _); first | refine LeR.own rfl rfl rfl ?_ | refine LeR.view rfl rfl rfl ?_ ?_ | refine LeR.ro ?_ | refine LeR.roCap ?_ | refine LeR.nil ?_ (fun _ => rfl)) | ((with_reducible first | show drawOK _ _ = true | show lateOK _ _ = true | show drawOK2 _ _ = true | show drawOK3 _ _ = true); kernel_rfl))
  all_goals (try simp only [e1, decide_eq_true_eq, decide_eq_false_iff_not] at *)
  all_goals first
    | omega
    | (apply Fits.i64 <;> omega)
    | rfl
    | (simp only [Bool.and_eq_true, decide_eq_true_eq] at *; first | omega | (have hz := tmod_bd (k : Int) (n := (picks.length : Int)) (by omega); have := Int.emod_nonneg (k : Int) (show (picks.length : Int) ≠ 0 by omega); first | omega | (have hz2 := Int.tmod_nonneg (picks.length : Int) (show 0 ≤ (k : Int) by omega); omega)))
    | (simp_all; done)
    | (simp only [List.length_cons, List.length_nil]; omega)
    | (rw [chosenTo_yes (hpb.trans (by assumption))]; rfl)
    | (rw [chosenTo_no (hpb.trans (by assumption))]; done)
    | (rw [show k = pl.length by omega]; done)
    | trace_state
end Go.SX.Try
/- Contract of the law WrapCounts: true, whatever the input. -/
namespace Go.SX.Try
open Go.Proofs Go.Proofs.Try Go.SX.Plain
set_option maxRecDepth 100000
set_option maxHeartbeats 0
set_option linter.unusedSimpArgs false
theorem q_lawCounts : fact 3 f3 := ⟨by kernel_rfl, rfl, by kernel_rfl⟩
theorem chosen_way (s : ByteArray) (picks : List Int) : ∃ Q, wOk (Plain.parts s) 0 Q ∧ chosenTo (outL (Plain.parts s) ((Plain.parts s).length + 1)) picks (outL (Plain.parts s) ((Plain.parts s).length + 1)).length = Q.map (brk (Plain.parts s)) := by
  obtain ⟨h1, h2⟩ := choice (s := s) (pickB (outL (Plain.parts s) ((Plain.parts s).length + 1)) picks) fun j hj hk => by
    unfold pickB
    rw [outL_getD hj, hk]
    rfl
  refine ⟨_, h1, ?_⟩
  rw [← h2]
  unfold chosenTo
  rw [outL_length]
theorem con_wrapCounts : Con prog 3 (fun ((s, width, picks) : ByteArray × Int × List Int) => [.v (.string s), .v (.int .i64 width), .ro 1 C_int.enc C_int.d picks none true]) (fun _ => .v (.bool true)) (fun _ => True) := by
  refine Con.of (by kernel_rfl) T_ok D_law_ok (.con con_within (.con con_head (.con con_badness (.con con_wplaces (.con con_chosen (.con con_wlines (.con con_ucount (.con con_ucut (.con con_bare10 (.con con_cellOf .nil)))))))))) 3 [20] q_lawCounts.1 q_lawCounts.2.1 q_lawCounts.2.2 (fun _ => rfl) fun i _ => ?_
  obtain ⟨s, width, picks⟩ := i
  have hw0 := Int.emod_nonneg width (show (199 : Int) ≠ 0 by decide)
  have hw3 := Int.emod_lt_of_pos width (show (0 : Int) < 199 by decide)
  by_cases hsz : 4096 < s.size
  · have ht : decide ((4096 : Int) < (s.size : Int)) = true := decide_eq_true (by omega)
    repeat' (first | (with_reducible first | refine ⟨(_, _), ⟨(.cons (.v _) (.cons (.v _) .nil)), ?_⟩, ?_⟩ | refine ⟨(), ⟨.nil, ?_⟩, ?_⟩ | exact fun h => h | refine ExE.row (by with_unfolding_all rfl) ?_ | refine And.intro ?_ ?_) | ((with_reducible intro hq); first | exact bne1 hq (by with_reducible assumption) | exact bne1 (by with_reducible assumption) hq | ((simp only [*, BB, cond_true, cond_false, reduceCtorEq] at hq); done) | (revert hq; with_reducible intro _)) | (with_reducible first | exact True.intro | rfl | refine EntLe.row ?_ | exact LeN.ro rfl | exact LeN.rptr | assumption) | ((with_reducible first | refine WkX.chk ?_ | refine Wk.chk ?_ | refine LeL.chk ?_ | refine LeF.chk ?_ | refine Run.mk ?_); (conv => whnf)) | ((with_reducible show LeO _ _); first | refine LeO.ro ?_ | refine LeO.roCap ?_ | refine LeO.nil ?_ (fun _ => rfl)) | ((with_reducible show LeR _ _ _); first | refine LeR.own rfl rfl rfl ?_ | refine LeR.view rfl rfl rfl ?_ ?_ | refine LeR.ro ?_ | refine LeR.roCap ?_ | refine LeR.nil ?_ (fun _ => rfl)) | ((with_reducible first | show drawOK _ _ = true | show lateOK _ _ = true | show drawOK2 _ _ = true | show drawOK3 _ _ = true); kernel_rfl))
    all_goals first
      | omega
      | (dsimp only; omega)
      | (apply Fits.i64 <;> omega)
      | rfl
      | trace_state
  have ht : decide ((4096 : Int) < (s.size : Int)) = false := decide_eq_false (by omega)
  have hck : checkN s.size (2 + width % 199) = 0 := by unfold checkN; rw [if_neg (by omega), if_neg (by omega)]
  obtain ⟨Q, hQ, hch⟩ := chosen_way s picks
  have hpl := parts_len s
  have hps := parts_small s
  have hout : (outL (Plain.parts s) ((Plain.parts s).length + 1)).length ≤ (Plain.parts s).length + 1 := outL_len _ _
  have WG := wayG hQ
  rw [← hch] at WG
  have hlen := wOk_lt _ _ hQ
  revert WG
  generalize (Q.map fun m => (plcs (Plain.parts s) ((Plain.parts s).length + 1)).getD m 0) = W
  generalize hOT : chosenTo (outL (Plain.parts s) ((Plain.parts s).length + 1)) picks (outL (Plain.parts s) ((Plain.parts s).length + 1)).length = OT
  intro WG
  have hLE : linesE s OT = 0 := by unfold linesE; rw [if_neg (by omega), if_neg (by rw [WG.ok]; decide)]
  have hLT : linesT s OT = (linesL s OT).map (textL s) := by unfold linesT; rw [hLE, if_pos rfl]
  have hLl := WG.llen
  have hTl : (linesT s OT).length = W.length + 1 := by rw [hLT, List.length_map, hLl]
  have hWl : W.length ≤ 4097 := by
    have := chosenTo_len (outL (Plain.parts s) ((Plain.parts s).length + 1)) picks (outL (Plain.parts s) ((Plain.parts s).length + 1)).length
    rw [hOT, ← WG.len] at this
    omega
  have hOl : OT.length = W.length := WG.len.symm
  have hne : (linesE s (chosenTo (outL (Plain.parts s) ((Plain.parts s).length + 1)) picks (outL (Plain.parts s) ((Plain.parts s).length + 1)).length) != 0) = false := by rw [hOT, hLE]; rfl
  have hne1 : (!linesE s (chosenTo (outL (Plain.parts s) ((Plain.parts s).length + 1)) picks (outL (Plain.parts s) ((Plain.parts s).length + 1)).length) != 0) = true := by rw [hne]; rfl
  have hne2 : (linesE s (chosenTo (outL (Plain.parts s) ((Plain.parts s).length + 1)) picks (outL (Plain.parts s) ((Plain.parts s).length + 1)).length) != 0 || ((linesT s (chosenTo (outL (Plain.parts s) ((Plain.parts s).length + 1)) picks (outL (Plain.parts s) ((Plain.parts s).length + 1)).length)).length : Int) != ((chosenTo (outL (Plain.parts s) ((Plain.parts s).length + 1)) picks (outL (Plain.parts s) ((Plain.parts s).length + 1)).length).length : Int) + 1) = false := by rw [hne, hOT, hTl, hOl]; simp
  have hCl : (chosenTo (outL (Plain.parts s) ((Plain.parts s).length + 1)) picks (outL (Plain.parts s) ((Plain.parts s).length + 1)).length).length = W.length := by rw [hOT]; exact hOl
  repeat' (first | (with_reducible first | refine ⟨(_, _), ⟨(.cons (.v _) (.cons (.v _) .nil)), ?_⟩, ?_⟩ | refine ⟨(_, _, _), ⟨(.cons (.v _) (.cons (.v _) (.cons (.lent _ _ _ _ _ _) .nil))), ?_⟩, ?_⟩ | refine ⟨_, ⟨(.cons (.v _) .nil), ?_⟩, ?_⟩ | refine ⟨(_, picks), ⟨(.cons (.lent _ _ _ _ _ _) (.cons (.lent _ _ _ _ _ _) .nil)), ?_⟩, ?_⟩ | refine ⟨(_, _), ⟨(.cons (.v _) (.cons (.lent _ _ _ _ _ _) .nil)), ?_⟩, ?_⟩ | refine ⟨(), ⟨.nil, ?_⟩, ?_⟩ | exact fun h => h | refine ExE.row (by with_unfolding_all rfl) ?_ | refine And.intro ?_ ?_) | ((with_reducible intro hq); first | exact bne1 hq (by with_reducible assumption) | exact bne1 (by with_reducible assumption) hq | ((simp only [*, BB, cond_true, cond_false, reduceCtorEq] at hq); done) | (revert hq; with_reducible intro _)) | (with_reducible first | exact True.intro | rfl | refine EntLe.row ?_ | exact LeN.ro rfl | exact LeN.rptr | assumption) | ((with_reducible first | refine WkX.chk ?_ | refine Wk.chk ?_ | refine LeL.chk ?_ | refine LeF.chk ?_ | refine Run.mk ?_); (conv => whnf)) | ((with_reducible show LeO _ _); first | refine LeO.ro ?_ | refine LeO.roCap ?_ | refine LeO.nil ?_ (fun _ => rfl)) | ((with_reducible show LeR _ _ _); first | refine LeR.own rfl rfl rfl ?_ | refine LeR.view rfl rfl rfl ?_ ?_ | refine LeR.ro ?_ | refine LeR.roCap ?_ | refine LeR.nil ?_ (fun _ => rfl)) | ((with_reducible first | show drawOK _ _ = true | show lateOK _ _ = true | show drawOK2 _ _ = true | show drawOK3 _ _ = true); kernel_rfl))
  all_goals (try first | omega | (dsimp only; omega) | (apply Fits.i64 <;> omega) | (rw [hCl]; apply Fits.i64 <;> omega))
  have hBE : badE s (2 + width % 199) OT = if fullB (linesL s OT) (2 + width % 199) (W.length + 1) = true then 35 else 0 := by
    unfold badE
    rw [if_neg (fun h => h hck), if_neg (by rw [WG.ok]; decide), ← hLl, fullB_all]
    cases fitAll (linesL s OT) (2 + width % 199) <;> rfl
  obtain ⟨wd, hwd⟩ : ∃ wd, wd = 2 + width % 199 := ⟨_, rfl⟩
  have hwd1 : 2 ≤ wd ∧ wd ≤ 200 := by omega
  have hBN : badN s (2 + width % 199) OT = if fullB (linesL s OT) (2 + width % 199) (W.length + 1) = true then 0 else sqS (linesL s OT) (2 + width % 199) (W.length + 1) + cutS OT (W.length + 1) := by
    unfold badN
    rw [hBE]
    split
    · rw [if_neg (by decide)]
    · rw [if_pos rfl, hLl, ← hOl, cutS_end]
  rw [← hwd] at hBE hBN
  refine loopI (Nat × Int) [7, 8, 10, 11, 1] (fun (k, f) => [(7, .ro 2 C_brk.enc C_brk.d OT none), (8, .ro 1 C_str.enc C_str.d ((linesL s OT).map (textL s)) none), (10, .v (.int .i64 (badN s wd OT))), (11, .v (.int .i64 (badE s wd OT))), (1, .v (.int .i64 wd)), (15, .v (.int .i64 (k : Nat))), (12, .v (.int .i64 f)), (13, .v (.int .i64 (sqS (linesL s OT) wd k + cutS OT k))), (14, .sb (fullB (linesL s OT) wd k))]) (fun _ => []) (fun (k, f) => k ≤ W.length + 1 ∧ (k ≤ W.length → f = plA (Plain.parts s) (frO W k))) (fun (k, _) => W.length + 1 - k) (0, 0) ⟨Nat.zero_le _, fun _ => rfl⟩ (Wk.chk ?_) fun k hk => ?_
  · ((conv => whnf); repeat' (first | (with_reducible first | exact fun h => h | refine ExE.row (by with_unfolding_all rfl) ?_ | refine And.intro ?_ ?_) | ((with_reducible intro hq); first | exact bne1 hq (by with_reducible assumption) | exact bne1 (by with_reducible assumption) hq | ((simp only [*, BB, cond_true, cond_false, reduceCtorEq] at hq); done) | (revert hq; with_reducible intro _)) | (with_reducible first | exact True.intro | rfl | refine EntLe.row ?_ | exact LeN.ro rfl | exact LeN.rptr | assumption) | ((with_reducible first | refine WkX.chk ?_ | refine Wk.chk ?_ | refine LeL.chk ?_ | refine LeF.chk ?_ | refine Run.mk ?_); (conv => whnf)) | ((with_reducible show LeO _ _); first | refine LeO.ro ?_ | refine LeO.roCap ?_ | refine LeO.nil ?_ (fun _ => rfl)) | ((with_reducible show LeR _ _ _); first | refine LeR.own rfl rfl rfl ?_ | refine LeR.view rfl rfl rfl ?_ ?_ | refine LeR.ro ?_ | refine LeR.roCap ?_ | refine LeR.nil ?_ (fun _ => rfl)) | ((with_reducible first | show drawOK _ _ = true | show lateOK _ _ = true | show drawOK2 _ _ = true | show drawOK3 _ _ = true); kernel_rfl)))
    all_goals first
      | exact LeN.ro hOT
      | exact LeN.ro (by rw [hOT]; exact hLT)
      | (rw [hOT, hwd]; done)
      | rfl
      | exact hwd.symm
      | trace_state
  obtain ⟨k, f⟩ := k
  obtain ⟨hk, hf⟩ := hk
  have e1 : ((k : Int)).toNat = k := Int.toNat_natCast _
  have hml : ((linesL s OT).map (textL s)).length = W.length + 1 := by rw [List.length_map, hLl]
  by_cases hkW : k ≤ W.length
  case neg =>
    obtain rfl : k = W.length + 1 := by omega
    have kb : decide (((W.length + 1 : Nat) : Int) < (((linesL s OT).map (textL s)).length : Int)) = false := by rw [hml]; exact decide_eq_false (by omega)
    by_cases hF : fullB (linesL s OT) wd (W.length + 1) = true
    · rw [if_pos hF] at hBE hBN
      have hc : (badE s wd OT == 35 && badN s wd OT == 0) = true := by rw [hBE, hBN]; rfl
      repeat' (first | (with_reducible first | refine ⟨(), ⟨.nil, ?_⟩, ?_⟩ | exact fun h => h | refine ExE.row (by with_unfolding_all rfl) ?_ | refine And.intro ?_ ?_) | ((with_reducible intro hq); first | exact bne1 hq (by with_reducible assumption) | exact bne1 (by with_reducible assumption) hq | ((simp only [*, BB, cond_true, cond_false, reduceCtorEq] at hq); done) | (revert hq; with_reducible intro _)) | (with_reducible first | exact True.intro | rfl | refine EntLe.row ?_ | exact LeN.ro rfl | exact LeN.rptr | assumption) | ((with_reducible first | refine WkX.chk ?_ | refine Wk.chk ?_ | refine LeL.chk ?_ | refine LeF.chk ?_ | refine Run.mk ?_); (conv => whnf)) | ((with_reducible show LeO _ _); first | refine LeO.ro ?_ | refine LeO.roCap ?_ | refine LeO.nil ?_ (fun _ => rfl)) | ((with_reducible show LeR _ _ _); first | refine LeR.own rfl rfl rfl ?_ | refine LeR.view rfl rfl rfl ?_ ?_ | refine LeR.ro ?_ | refine LeR.roCap ?_ | refine LeR.nil ?_ (fun _ => rfl)) | ((with_reducible first | show drawOK _ _ = true | show lateOK _ _ = true | show drawOK2 _ _ = true | show drawOK3 _ _ = true); kernel_rfl))
      all_goals first
        | rfl
        | (rw [Bool.and_true]; exact hc)
        | trace_state
    · have hF := Bool.eq_false_iff.2 hF
      rw [hF, if_neg (by decide)] at hBE hBN
      have hc : (badE s wd OT == 0 && badN s wd OT == sqS (linesL s OT) wd (W.length + 1) + cutS OT (W.length + 1)) = true := by rw [hBE, hBN]; simp
      repeat' (first | (with_reducible first | refine ⟨(), ⟨.nil, ?_⟩, ?_⟩ | exact fun h => h | refine ExE.row (by with_unfolding_all rfl) ?_ | refine And.intro ?_ ?_) | ((with_reducible intro hq); first | exact bne1 hq (by with_reducible assumption) | exact bne1 (by with_reducible assumption) hq | ((simp only [*, BB, cond_true, cond_false, reduceCtorEq] at hq); done) | (revert hq; with_reducible intro _)) | (with_reducible first | exact True.intro | rfl | refine EntLe.row ?_ | exact LeN.ro rfl | exact LeN.rptr | assumption) | ((with_reducible first | refine WkX.chk ?_ | refine Wk.chk ?_ | refine LeL.chk ?_ | refine LeF.chk ?_ | refine Run.mk ?_); (conv => whnf)) | ((with_reducible show LeO _ _); first | refine LeO.ro ?_ | refine LeO.roCap ?_ | refine LeO.nil ?_ (fun _ => rfl)) | ((with_reducible show LeR _ _ _); first | refine LeR.own rfl rfl rfl ?_ | refine LeR.view rfl rfl rfl ?_ ?_ | refine LeR.ro ?_ | refine LeR.roCap ?_ | refine LeR.nil ?_ (fun _ => rfl)) | ((with_reducible first | show drawOK _ _ = true | show lateOK _ _ = true | show drawOK2 _ _ = true | show drawOK3 _ _ = true); kernel_rfl))
      all_goals first
        | rfl
        | (rw [Bool.and_true]; exact hc)
        | trace_state
  obtain rfl := hf hkW
  clear hf
  have kb : decide ((k : Int) < (((linesL s OT).map (textL s)).length : Int)) = true := by rw [hml]; exact decide_eq_true (by omega)
  have hto := WG.to hkW
  have hft := WG.frto k hkW
  have hcb := WG.cells (by omega) hkW
  have hsq := sqS_bd2 (L := linesL s OT) (width := wd) (by omega) (by omega) (fun i hi => WG.cells (by omega) (by omega)) k (by omega)
  have hsq1 := sqS_succ (L := linesL s OT) (width := wd) (k := k) (by omega)
  have hcu := cutS_bd OT k
  have hcu1 := cutS_bd OT (k + 1)
  have hfu := fullB_succ (L := linesL s OT) (width := wd) (k := k) (by omega)
  have hse := WG.seg hkW
  have hfb := plA_bd (s := s) (i := frO W k) (by omega)
  have htb := plA_bd (s := s) (i := toO (Plain.parts s) W k) hft.2
  have hsn := sgN_le s
  have hln : ((linesL s OT).map (textL s)).getD ((k : Int)).toNat C_str.d = textL s ((linesL s OT).getD k []) := by
    rw [e1]
    simp [List.getD_eq_getElem?_getD, show k < (linesL s OT).length by omega]
  have hbare : bareT (cutT s (plA (Plain.parts s) (frO W k)) (plA (Plain.parts s) (toO (Plain.parts s) W k))) = textL s ((linesL s OT).getD k []) := by rw [hse]; exact bare_seg hft.1 hft.2
  have hcel : cellsS (textL s ((linesL s OT).getD k [])) = cellsL ((linesL s OT).getD k []) := by rw [hse]; exact cellsS_seg hft.1 hft.2
  have hCE : cutE s (plA (Plain.parts s) (frO W k)) (plA (Plain.parts s) (toO (Plain.parts s) W k)) = 0 := by
    have hle : plA (Plain.parts s) (frO W k) ≤ plA (Plain.parts s) (toO (Plain.parts s) W k) := by
      rcases Nat.lt_or_eq_of_le hft.1 with h | h
      · exact Int.le_of_lt (plA_lt h hft.2)
      · rw [h]; exact Int.le_refl _
    unfold cutE
    rw [if_pos ⟨by omega, hle, by omega⟩]
  repeat' (first | (with_reducible first | refine ⟨_, ⟨(.cons (.v _) .nil), ?_⟩, ?_⟩ | exact fun h => h | refine ExE.row (by with_unfolding_all rfl) ?_ | refine And.intro ?_ ?_) | ((with_reducible intro hq); first | exact bne1 hq (by with_reducible assumption) | exact bne1 (by with_reducible assumption) hq | ((simp only [*, BB, cond_true, cond_false, reduceCtorEq] at hq); done) | (revert hq; with_reducible intro _)) | (with_reducible first | exact True.intro | rfl | refine EntLe.row ?_ | exact LeN.ro rfl | exact LeN.rptr | assumption) | ((with_reducible first | refine WkX.chk ?_ | refine Wk.chk ?_ | refine LeL.chk ?_ | refine LeF.chk ?_ | refine Run.mk ?_); (conv => whnf)) | ((with_reducible show LeO _ _); first | refine LeO.ro ?_ | refine LeO.roCap ?_ | refine LeO.nil ?_ (fun _ => rfl)) | ((with_reducible show LeR _ _ _); first | refine LeR.own rfl rfl rfl ?_ | refine LeR.view rfl rfl rfl ?_ ?_ | refine LeR.ro ?_ | refine LeR.roCap ?_ | refine LeR.nil ?_ (fun _ => rfl)) | ((with_reducible first | show drawOK _ _ = true | show lateOK _ _ = true | show drawOK2 _ _ = true | show drawOK3 _ _ = true); kernel_rfl))
  all_goals (try first | omega | (dsimp only; omega) | (apply Fits.i64 <;> omega))
  refine joinI Unit [] (fun _ => [(16, .v (.int .i64 (plA (Plain.parts s) (toO (Plain.parts s) W k)))), (13, .v (.int .i64 (sqS (linesL s OT) wd k + cutS OT (k + 1))))]) (fun _ => []) (fun _ => True) ?_ fun _ _ => ?_
  · by_cases hkl : k < W.length
    · have kc : decide ((k : Int) < (OT.length : Int)) = true := decide_eq_true (by omega)
      rw [if_pos hkl] at hto
      have hcs := cutS_succ (way := OT) (k := k) (by omega)
      have hd3 : C_brk.d = (0, 0) := rfl
      have hx1 : (OT.getD ((k : Int)).toNat C_brk.d).1 = plA (Plain.parts s) (toO (Plain.parts s) W k) := by rw [e1, hto, hd3]
      by_cases h3 : (OT.getD k (0, 0)).2 = 3
      · have kd : ((OT.getD ((k : Int)).toNat C_brk.d).2 == 3) = true := by rw [e1, hd3, h3]; rfl
        rw [if_pos h3] at hcs
        repeat' (first | (with_reducible first | refine ex_of () trivial ?_ | exact fun h => h | refine ExE.row (by with_unfolding_all rfl) ?_ | refine And.intro ?_ ?_) | ((with_reducible intro hq); first | exact bne1 hq (by with_reducible assumption) | exact bne1 (by with_reducible assumption) hq | ((simp only [*, BB, cond_true, cond_false, reduceCtorEq] at hq); done) | (revert hq; with_reducible intro _)) | (with_reducible first | exact True.intro | rfl | refine EntLe.row ?_ | exact LeN.ro rfl | exact LeN.rptr | assumption) | ((with_reducible first | refine WkX.chk ?_ | refine Wk.chk ?_ | refine LeL.chk ?_ | refine LeF.chk ?_ | refine Run.mk ?_); (conv => whnf)) | ((with_reducible show LeO _ _); first | refine LeO.ro ?_ | refine LeO.roCap ?_ | refine LeO.nil ?_ (fun _ => rfl)) | ((with_reducible show LeR _ _ _); first | refine LeR.own rfl rfl rfl ?_ | refine LeR.view rfl rfl rfl ?_ ?_ | refine LeR.ro ?_ | refine LeR.roCap ?_ | refine LeR.nil ?_ (fun _ => rfl)) | ((with_reducible first | show drawOK _ _ = true | show lateOK _ _ = true | show drawOK2 _ _ = true | show drawOK3 _ _ = true); kernel_rfl))
        all_goals first
          | omega
          | exact hx1
          | (apply Fits.i64 <;> omega)
          | trace_state
      · have kd : ((OT.getD ((k : Int)).toNat C_brk.d).2 == 3) = false := by rw [e1, hd3]; exact beq_eq_false_iff_ne.2 h3
        rw [if_neg h3] at hcs
        repeat' (first | (with_reducible first | refine ex_of () trivial ?_ | exact fun h => h | refine ExE.row (by with_unfolding_all rfl) ?_ | refine And.intro ?_ ?_) | ((with_reducible intro hq); first | exact bne1 hq (by with_reducible assumption) | exact bne1 (by with_reducible assumption) hq | ((simp only [*, BB, cond_true, cond_false, reduceCtorEq] at hq); done) | (revert hq; with_reducible intro _)) | (with_reducible first | exact True.intro | rfl | refine EntLe.row ?_ | exact LeN.ro rfl | exact LeN.rptr | assumption) | ((with_reducible first | refine WkX.chk ?_ | refine Wk.chk ?_ | refine LeL.chk ?_ | refine LeF.chk ?_ | refine Run.mk ?_); (conv => whnf)) | ((with_reducible show LeO _ _); first | refine LeO.ro ?_ | refine LeO.roCap ?_ | refine LeO.nil ?_ (fun _ => rfl)) | ((with_reducible show LeR _ _ _); first | refine LeR.own rfl rfl rfl ?_ | refine LeR.view rfl rfl rfl ?_ ?_ | refine LeR.ro ?_ | refine LeR.roCap ?_ | refine LeR.nil ?_ (fun _ => rfl)) | ((with_reducible first | show drawOK _ _ = true | show lateOK _ _ = true | show drawOK2 _ _ = true | show drawOK3 _ _ = true); kernel_rfl))
        all_goals first
          | omega
          | exact hx1
          | (apply Fits.i64 <;> omega)
          | trace_state
    · obtain rfl : k = W.length := by omega
      have kc : decide ((W.length : Int) < (OT.length : Int)) = false := decide_eq_false (by omega)
      rw [if_neg (Nat.lt_irrefl _)] at hto
      have hcs : cutS OT (W.length + 1) = cutS OT W.length := by rw [← hOl]; exact cutS_end
      repeat' (first | (with_reducible first | refine ex_of () trivial ?_ | exact fun h => h | refine ExE.row (by with_unfolding_all rfl) ?_ | refine And.intro ?_ ?_) | ((with_reducible intro hq); first | exact bne1 hq (by with_reducible assumption) | exact bne1 (by with_reducible assumption) hq | ((simp only [*, BB, cond_true, cond_false, reduceCtorEq] at hq); done) | (revert hq; with_reducible intro _)) | (with_reducible first | exact True.intro | rfl | refine EntLe.row ?_ | exact LeN.ro rfl | exact LeN.rptr | assumption) | ((with_reducible first | refine WkX.chk ?_ | refine Wk.chk ?_ | refine LeL.chk ?_ | refine LeF.chk ?_ | refine Run.mk ?_); (conv => whnf)) | ((with_reducible show LeO _ _); first | refine LeO.ro ?_ | refine LeO.roCap ?_ | refine LeO.nil ?_ (fun _ => rfl)) | ((with_reducible show LeR _ _ _); first | refine LeR.own rfl rfl rfl ?_ | refine LeR.view rfl rfl rfl ?_ ?_ | refine LeR.ro ?_ | refine LeR.roCap ?_ | refine LeR.nil ?_ (fun _ => rfl)) | ((with_reducible first | show drawOK _ _ = true | show lateOK _ _ = true | show drawOK2 _ _ = true | show drawOK3 _ _ = true); kernel_rfl))
      all_goals first
        | omega
        | exact hto.symm
        | (apply Fits.i64 <;> omega)
        | trace_state
  have hcz : (cutT s (plA (Plain.parts s) (frO W k)) (plA (Plain.parts s) (toO (Plain.parts s) W k))).size ≤ s.size := by
    unfold cutT
    split
    · rw [ByteArray.size_extract]; omega
    · exact Nat.zero_le _
  have hlz : (((linesL s OT).map (textL s)).getD ((k : Int)).toNat C_str.d).size ≤ s.size := by rw [hln]; exact textL_size _ _
  have hk1 : (cutE s (plA (Plain.parts s) (frO W k)) (plA (Plain.parts s) (toO (Plain.parts s) W k)) != 0) = false := by rw [hCE]; rfl
  have hk2 : (!cutE s (plA (Plain.parts s) (frO W k)) (plA (Plain.parts s) (toO (Plain.parts s) W k)) != 0) = true := by rw [hk1]; rfl
  have hk3 : (cutE s (plA (Plain.parts s) (frO W k)) (plA (Plain.parts s) (toO (Plain.parts s) W k)) != 0 || !decide (((linesL s OT).map (textL s)).getD ((k : Int)).toNat C_str.d = bareT (cutT s (plA (Plain.parts s) (frO W k)) (plA (Plain.parts s) (toO (Plain.parts s) W k))))) = false := by rw [hk1, hln, hbare]; simp
  have hcl : cellsS (((linesL s OT).map (textL s)).getD ((k : Int)).toNat C_str.d) = cellsL ((linesL s OT).getD k []) := by rw [hln]; exact hcel
  have hq2 := sq_le (x := wd - cellsL ((linesL s OT).getD k [])) (by omega) (by omega)
  repeat' (first | (with_reducible first | refine ⟨_, ⟨(.cons (.v _) .nil), ?_⟩, ?_⟩ | refine ⟨(_, _, _), ⟨(.cons (.v _) (.cons (.v _) (.cons (.v _) (.cons (.v _) .nil)))), ?_⟩, ?_⟩ | refine ex_of (α := Nat × Int) (k + 1, plA (Plain.parts s) (toO (Plain.parts s) W k)) ⟨⟨?_, ?_⟩, ?_⟩ ?_ | exact fun h => h | refine ExE.row (by with_unfolding_all rfl) ?_ | refine And.intro ?_ ?_) | ((with_reducible intro hq); first | exact bne1 hq (by with_reducible assumption) | exact bne1 (by with_reducible assumption) hq | ((simp only [*, BB, cond_true, cond_false, reduceCtorEq] at hq); done) | (revert hq; with_reducible intro _)) | (with_reducible first | exact True.intro | rfl | refine EntLe.row ?_ | exact LeN.ro rfl | exact LeN.rptr | assumption) | ((with_reducible first | refine WkX.chk ?_ | refine Wk.chk ?_ | refine LeL.chk ?_ | refine LeF.chk ?_ | refine Run.mk ?_); (conv => whnf)) | ((with_reducible show LeO _ _); first | refine LeO.ro ?_ | refine LeO.roCap ?_ | refine LeO.nil ?_ (fun _ => rfl)) | ((with_reducible show LeR _ _ _); first | refine LeR.own rfl rfl rfl ?_ | refine LeR.view rfl rfl rfl ?_ ?_ | refine LeR.ro ?_ | refine LeR.roCap ?_ | refine LeR.nil ?_ (fun _ => rfl)) | ((with_reducible first | show drawOK _ _ = true | show lateOK _ _ = true | show drawOK2 _ _ = true | show drawOK3 _ _ = true); kernel_rfl))
  all_goals first
    | omega
    | (dsimp only; omega)
    | (apply Fits.i64 <;> omega)
    | (rw [hcl]; apply Fits.i64 <;> omega)
    | (rw [hcl, hsq1]; omega)
    | (rw [hcl]; exact hfu.symm)
    | (have hn := WG.next (show k < W.length by omega); rw [hn]; done)
    | ((with_reducible show (_ : Bool) = true); (first | (simp_all only [Bool.and_eq_true, and_self]; done) | (simp only [*, Bool.not_false, Bool.not_true, Bool.and_true, Bool.true_and]; done)))
    | trace_state
end Go.SX.Try
/- A verified symbolic executor for Go code in the model: what a call's arguments read as. -/
namespace Go.SX
open Go.ChangeShapes Go.WideShapes Go.Deep Go.RowKit
section
variable {H : Type} {encH : TypeId × Value → H} {P : Program} {w : World} {E : Env}
structure Reads (encH : TypeId × Value → H) (P : Program) (w : World) (E : Env) (e : TypeId) {α : Type} (en : α → List AV) : Prop where
  out : ∀ n cs y, DataW.trod encH P w 0 (fun _ => true) true n e cs = some y → ∃ x : α, RelL w E (en x) cs
theorem Reads.int {e : TypeId} (he : P.underlying e = some (.int .i64)) : Reads encH P w E e (fun a : Int => [.v (.int .i64 a)]) := ⟨fun n cs y h => by
  obtain ⟨a, rfl, _⟩ := DataW.trod_int he h
  exact ⟨a, RelL.cons (.v _) (RelL.nil _ _)⟩⟩
theorem Reads.string {e : TypeId} (he : P.underlying e = some .string) : Reads encH P w E e (fun a : ByteArray => [.v (.string a)]) := ⟨fun n cs y h => by
  obtain ⟨a, rfl, _⟩ := DataW.trod_string he h
  exact ⟨a, RelL.cons (.v _) (RelL.nil _ _)⟩⟩
theorem Reads.bool {e : TypeId} (he : P.underlying e = some .bool) : Reads encH P w E e (fun a : Bool => [.sb a]) := ⟨fun n cs y h => by
  obtain ⟨a, rfl, _⟩ := DataW.trod_bool he h
  exact ⟨a, RelL.cons (.sb _) (RelL.nil _ _)⟩⟩
theorem Reads.map {e : TypeId} {α β : Type} {en : α → List AV} {en' : β → List AV} (h : Reads encH P w E e en) (f : α → β) (hf : ∀ x, en' (f x) = en x) : Reads encH P w E e en' := ⟨fun n cs y ht => by
  obtain ⟨x, hx⟩ := h.out n cs y ht
  exact ⟨f x, by rw [hf]; exact hx⟩⟩
inductive FReads (encH : TypeId × Value → H) (P : Program) (w : World) (E : Env) : List Field → Nat → Nat → {α : Type} → (α → List AV) → Prop
  | nil {o : Nat} : FReads encH P w E [] o o (fun _ : Unit => [])
  | cons {f : Field} {fs : List Field} {o k t : Nat} {α β : Type} {en : α → List AV} {en' : β → List AV} (ho : f.offset = o) (hc : P.cellsOf f.type = k) (h : Reads encH P w E f.type en) (hk : ∀ x, (en x).length = k) (hr : FReads encH P w E fs (o + k) t en') :
      FReads encH P w E (f :: fs) o t (fun x : α × β => en x.1 ++ en' x.2)
theorem FReads.out {fs : List Field} {o t : Nat} {α : Type} {en : α → List AV} (h : FReads encH P w E fs o t en) : o ≤ t ∧ ∀ (cs : List Value), cs.length = t →
    (∀ f ∈ fs, ∃ y n, DataW.trod encH P w 0 (fun _ => true) true n f.type ((cs.drop f.offset).take (P.cellsOf f.type)) = some y) → ∃ x : α, RelL w E (en x) (cs.drop o) := by
  induction h with
  | nil =>
    refine ⟨Nat.le_refl _, fun cs hl _ => ⟨(), ?_⟩⟩
    rw [List.drop_eq_nil_of_le (by omega)]
    exact RelL.nil _ _
  | @cons f fs o k t α β en en' ho hc h hk hr ih =>
    refine ⟨by omega, fun cs hl hf => ?_⟩
    obtain ⟨y, n, hy⟩ := hf f List.mem_cons_self
    obtain ⟨x, hx⟩ := h.out _ _ _ hy
    obtain ⟨z, hz⟩ := ih.2 cs hl fun g hg => hf g (List.mem_cons_of_mem _ hg)
    refine ⟨(x, z), ?_⟩
    rw [ho, hc] at hx
    have := hx.append hz
    rwa [show cs.drop (o + k) = (cs.drop o).drop k by rw [List.drop_drop], List.take_append_drop] at this
theorem Reads.struct {e : TypeId} {fs : Array Field} (he : P.underlying e = some (.struct fs)) {t : Nat} (hC : P.cellsOf e = t) {α : Type} {en : α → List AV} (h : FReads encH P w E fs.toList 0 t en) : Reads encH P w E e en := ⟨fun n cs y ht => by
  obtain ⟨xs, m, _, _, hl, hxl, hf⟩ := DataW.trod_struct he ht
  have := h.out.2 cs (by omega) fun f hmem => by
    obtain ⟨i, hi, hfi⟩ := List.getElem_of_mem hmem
    have hi2 : i < fs.size := by simpa using hi
    have h1 := hf i f (by rw [Array.getElem?_eq_getElem hi2]; simpa using hfi)
    rw [List.getElem?_eq_getElem (by omega)] at h1
    exact ⟨_, m, h1⟩
  simpa using this⟩
theorem Reads.slice {t e : TypeId} (ht : P.underlying t = some (.slice e)) {α : Type} {en : α → List AV} {k : Nat} (d : α) (hk : P.cellsOf e = k) (hk0 : 0 < k) (hs : ∀ x, (en x).length = k) (hl : ∀ b, b < w.heap.size → E.lnt b)
    (h : Reads encH P w (E.bz true) e en) : Reads encH P w E t (fun l : List α => [.ro k en d l none true]) := ⟨fun n cs y hy => by
  rcases open_slice ht hy with ⟨rfl, _⟩ | ⟨a, len, cap, m, n', D, Pl, rfl, _, hlc, _, hm, _, hi⟩
  · exact ⟨[], RelL.cons (.roNil k en d none none 0 hs (by simp)) (RelL.nil _ _)⟩
  have hlm : len ≤ m := by rw [hm]; simp; omega
  have hel : ∀ i, i < len → ∃ (x : α) (cs' : List Value), w.cells? 0 (a.add (i * k)) k = some cs' ∧ RelL w (E.bz true) (en x) cs' := fun i hil => by
    obtain ⟨cs', h1, h2⟩ := hi i (by omega)
    obtain ⟨x, hx⟩ := h.out _ _ _ h2
    rw [hk] at h1
    exact ⟨x, cs', h1, hx⟩
  by_cases h0 : len = 0
  · subst h0
    exact ⟨[], RelL.cons (.roNil k en d none (some a) cap hs (by simp)) (RelL.nil _ _)⟩
  obtain ⟨b, o, spot⟩ := a
  have hc0 : ∀ i j, i < len → j < k → ∃ v, w.cell? ((⟨b, o, spot⟩ : Addr).add (i * k + j)) = some v := fun i j h1 h2 => by
    obtain ⟨x, cs', h3, h4⟩ := hel i h1
    obtain ⟨_, h5, h6⟩ := World.cells?_some h3
    have h7 := h6 j h2
    rw [List.getElem?_eq_getElem (by omega), Go.Deep.add_add] at h7
    exact ⟨_, h7⟩
  have hspot : spot = none := by
    obtain ⟨v, hv⟩ := hc0 0 0 (by omega) hk0
    simpa [Addr.add] using World.cell?_spot hv
  subst hspot
  have hb : b < w.heap.size := by
    obtain ⟨v, hv⟩ := hc0 0 0 (by omega) hk0
    refine Nat.lt_of_not_le fun hle => ?_
    unfold World.cell? at hv
    rw [show ((⟨b, o, none⟩ : Addr).add (0 * k + 0)).block = b by simp [Addr.add], Array.getElem?_eq_none hle] at hv
    cases hv
  let X : Nat → α := fun i => if hi : i < len then Classical.choose (hel i hi) else d
  let Cs : Nat → List Value := fun i => if hi : i < len then Classical.choose (Classical.choose_spec (hel i hi)) else []
  have hX : ∀ i, i < len → w.cells? 0 ((⟨b, o, none⟩ : Addr).add (i * k)) k = some (Cs i) ∧ RelL w (E.bz true) (en (X i)) (Cs i) := fun i hi => by
    have := Classical.choose_spec (Classical.choose_spec (hel i hi))
    simpa only [X, Cs, dif_pos hi] using this
  refine ⟨(List.range len).map X, RelL.cons ?_ (RelL.nil _ _)⟩
  have hll : ((List.range len).map X).length = len := by simp
  have key : Rel w E (.ro k en d ((List.range len).map X) none true) (.slice (some ⟨b, o, none⟩) ((List.range len).map X).length cap) :=
    .ro (fun i j => (Cs i).getD j undef) hs (by simp) (by rw [hll]; exact hlc) (.inr (hl b hb)) (fun i j h1 h2 => by
      rw [hll] at h1
      obtain ⟨h3, _⟩ := hX i h1
      obtain ⟨_, h5, h6⟩ := World.cells?_some h3
      have h7 := h6 j h2
      rw [Go.Deep.add_add, add_plain] at h7
      rw [h7, List.getElem?_eq_getElem (by omega)]
      simp [List.getD_eq_getElem?_getD, show j < (Cs i).length by omega]) fun i h1 j h2 => by
      have h1' : i < len := by rw [hll] at h1; exact h1
      obtain ⟨_, h4⟩ := hX i h1'
      have he : ((List.range len).map X)[i] = X i := by simp
      have h2' : j < (en (X i)).length := by rw [← he]; exact h2
      have h8 : j < (Cs i).length := by have := h4.1; omega
      have h9 := h4.2 j h2' h8
      have he2 : (en ((List.range len).map X)[i])[j] = (en (X i))[j] := by simp only [he]
      rw [he2, show (Cs i).getD j undef = (Cs i)[j] by simp [List.getD_eq_getElem?_getD, h8]]
      exact h9
  rwa [hll] at key⟩
theorem Reads.arg {t e : TypeId} (ht : P.underlying t = some (.slice e)) {α : Type} {en : α → List AV} {k : Nat} {d : α} (h : Reads encH P w E t (fun l : List α => [.ro k en d l none true])) {a : Option Addr} {len cap : Nat} {y : DataW H} {p : List MemPlace}
    (hT : DataW.Trod encH P w 0 (fun _ => true) true t (.slice a len cap) y p) : ∃ l : List α, Rel w E (.ro k en d l none true) (.slice a len cap) := by
  obtain ⟨fuel, hf⟩ := hT
  obtain ⟨l, hl⟩ := h.out _ _ _ hf
  exact ⟨l, hl.2 0 (by simp) (by simp [Value.cells])⟩
end
end Go.SX
/- What the arguments of chapter 10's laws read as. -/
namespace Go.SX.Try
open Go.Proofs Go.Proofs.Try
section
variable {H : Type} {encH : TypeId × Value → H} {w : World} {E : Env}
theorem cells_int : prog.cellsOf 3 = 1 := by kernel_rfl
theorem reads_int : Reads encH prog w E 3 (fun a : Int => [.v (.int .i64 a)]) := Reads.int Try.underlying3
theorem reads_ints (hl : ∀ b, b < w.heap.size → E.lnt b) : Reads encH prog w E 22 (fun l : List Int => [.ro 1 C_int.enc C_int.d l none true]) :=
  Reads.slice Try.underlying22 C_int.d cells_int (by decide) (fun _ => rfl) hl reads_int
end
end Go.SX.Try
