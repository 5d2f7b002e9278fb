/- A verified symbolic executor for Go code in the model, contracts and plain laws that the proofs lean on, FStyleMakesP1. -/
import Derived.Test.YtkbeigcmdlhdbaaBZ7
set_option linter.unusedVariables false
set_option linter.unusedSimpArgs false
/- Contract of the laws' SameRuns. -/
namespace Go.SX.Try
open Go.Proofs Go.Proofs.Try Go.SX.Plain
set_option maxRecDepth 100000
set_option maxHeartbeats 0
theorem q_sameRuns : fact 35 f35 := ⟨by kernel_rfl, rfl, by kernel_rfl⟩
def rnEqB (x y : Rn) : Bool := x.frm == y.frm && (x.to == y.to && (x.at'.bold == y.at'.bold && (x.at'.italic == y.at'.italic && (x.at'.under == y.at'.under && (x.at'.strike == y.at'.strike && (x.at'.colour == y.at'.colour))))))
theorem rnEqB_self (x : Rn) : rnEqB x x = true := by simp [rnEqB]
theorem con_sameRuns : Con prog 35 (fun ((l, r) : List Rn × List Rn) => [rnR l, rnR r]) (fun _ => .sb true) (fun (l, r) => l = r ∧ l.length ≤ 1100000) := by
  refine Con.of (by kernel_rfl) T_ok CdsOK.nil .nil 3 [] q_sameRuns.1 q_sameRuns.2.1 q_sameRuns.2.2 (fun _ => rfl) fun i hi => ?_
  obtain ⟨l, r⟩ := i
  obtain ⟨hlr, hl9⟩ : l = r ∧ l.length ≤ 1100000 := hi
  subst hlr
  have k1 : ((l.length : Int) != (l.length : Int)) = false := by simp
  repeat' (first | (with_reducible first | exact fun h => h | refine And.intro ?_ ?_) | ((with_reducible intro hq); first | exact bne1 hq (by with_reducible assumption) | exact bne1 (by with_reducible assumption) hq | ((simp only [*, BB, cond_true, cond_false, reduceCtorEq] at hq); done) | (revert hq; with_reducible intro _)) | (with_reducible first | exact True.intro | rfl | refine EntLe.row ?_ | exact LeN.ro rfl | exact LeN.rptr | assumption) | ((with_reducible first | refine WkX.chk ?_ | refine Wk.chk ?_ | refine LeL.chk ?_ | refine LeF.chk ?_ | refine Run.mk ?_); (conv => whnf)) | ((with_reducible show LeO _ _); first | refine LeO.ro ?_ | refine LeO.roCap ?_ | refine LeO.nil ?_ (fun _ => rfl)) | ((with_reducible show LeR _ _ _); first | refine LeR.own rfl rfl rfl ?_ | refine LeR.view rfl rfl rfl ?_ ?_ | refine LeR.ro ?_ | refine LeR.roCap ?_ | refine LeR.nil ?_ (fun _ => rfl)) | ((with_reducible first | show drawOK _ _ = true | show lateOK _ _ = true | show drawOK2 _ _ = true | show drawOK3 _ _ = true); kernel_rfl))
  refine loopI Nat [] (fun i => [(5, .v (.int .i64 (i : Nat)))]) (fun _ => []) (fun i => i ≤ l.length) (fun i => l.length - i) 0 (Nat.zero_le _) (Wk.chk ?_) fun i hi => ?_
  · ((conv => whnf); repeat' (first | (with_reducible first | exact fun h => h | refine And.intro ?_ ?_) | ((with_reducible intro hq); first | exact bne1 hq (by with_reducible assumption) | exact bne1 (by with_reducible assumption) hq | ((simp only [*, BB, cond_true, cond_false, reduceCtorEq] at hq); done) | (revert hq; with_reducible intro _)) | (with_reducible first | exact True.intro | rfl | refine EntLe.row ?_ | exact LeN.ro rfl | exact LeN.rptr | assumption) | ((with_reducible first | refine WkX.chk ?_ | refine Wk.chk ?_ | refine LeL.chk ?_ | refine LeF.chk ?_ | refine Run.mk ?_); (conv => whnf)) | ((with_reducible show LeO _ _); first | refine LeO.ro ?_ | refine LeO.roCap ?_ | refine LeO.nil ?_ (fun _ => rfl)) | ((with_reducible show LeR _ _ _); first | refine LeR.own rfl rfl rfl ?_ | refine LeR.view rfl rfl rfl ?_ ?_ | refine LeR.ro ?_ | refine LeR.roCap ?_ | refine LeR.nil ?_ (fun _ => rfl)) | ((with_reducible first | show drawOK _ _ = true | show lateOK _ _ = true | show drawOK2 _ _ = true | show drawOK3 _ _ = true); kernel_rfl)))
    all_goals rfl
  have hi : i ≤ l.length := hi
  by_cases hil : i < l.length
  · have hlt : decide ((i : Int) < (l.length : Int)) = true := decide_eq_true (by omega)
    have hW : (!(rnEqB (l.getD ((i : Nat) : Int).toNat C_rn.d) (l.getD ((i : Nat) : Int).toNat C_rn.d))) = false := by rw [rnEqB_self]; rfl
    unfold rnEqB at hW
    repeat' (first | (with_reducible refine ex_of (α := Nat) (i + 1) ⟨?_, ?_⟩ ?_) | (with_reducible first | exact fun h => h | refine And.intro ?_ ?_) | ((with_reducible intro hq); first | exact bne1 hq (by with_reducible assumption) | exact bne1 (by with_reducible assumption) hq | ((simp only [*, BB, cond_true, cond_false, reduceCtorEq] at hq); done) | (revert hq; with_reducible intro _)) | (with_reducible first | exact True.intro | rfl | refine EntLe.row ?_ | exact LeN.ro rfl | exact LeN.rptr | assumption) | ((with_reducible first | refine WkX.chk ?_ | refine Wk.chk ?_ | refine LeL.chk ?_ | refine LeF.chk ?_ | refine Run.mk ?_); (conv => whnf)) | ((with_reducible show LeO _ _); first | refine LeO.ro ?_ | refine LeO.roCap ?_ | refine LeO.nil ?_ (fun _ => rfl)) | ((with_reducible show LeR _ _ _); first | refine LeR.own rfl rfl rfl ?_ | refine LeR.view rfl rfl rfl ?_ ?_ | refine LeR.ro ?_ | refine LeR.roCap ?_ | refine LeR.nil ?_ (fun _ => rfl)) | ((with_reducible first | show drawOK _ _ = true | show lateOK _ _ = true | show drawOK2 _ _ = true | show drawOK3 _ _ = true); kernel_rfl))
    all_goals first
      | omega
      | (apply Fits.i64 <;> omega)
      | (dsimp only; omega)
      | trace_state
  have hlt : decide ((i : Int) < (l.length : Int)) = false := decide_eq_false (by omega)
  repeat' (first | (with_reducible first | exact fun h => h | refine And.intro ?_ ?_) | ((with_reducible intro hq); first | exact bne1 hq (by with_reducible assumption) | exact bne1 (by with_reducible assumption) hq | ((simp only [*, BB, cond_true, cond_false, reduceCtorEq] at hq); done) | (revert hq; with_reducible intro _)) | (with_reducible first | exact True.intro | rfl | refine EntLe.row ?_ | exact LeN.ro rfl | exact LeN.rptr | assumption) | ((with_reducible first | refine WkX.chk ?_ | refine Wk.chk ?_ | refine LeL.chk ?_ | refine LeF.chk ?_ | refine Run.mk ?_); (conv => whnf)) | ((with_reducible show LeO _ _); first | refine LeO.ro ?_ | refine LeO.roCap ?_ | refine LeO.nil ?_ (fun _ => rfl)) | ((with_reducible show LeR _ _ _); first | refine LeR.own rfl rfl rfl ?_ | refine LeR.view rfl rfl rfl ?_ ?_ | refine LeR.ro ?_ | refine LeR.roCap ?_ | refine LeR.nil ?_ (fun _ => rfl)) | ((with_reducible first | show drawOK _ _ = true | show lateOK _ _ = true | show drawOK2 _ _ = true | show drawOK3 _ _ = true); kernel_rfl))
  all_goals first
    | rfl
    | trace_state
end Go.SX.Try
/- Plain law: a text made of runs. -/
namespace Go.SX.Plain
section
variable (R : List Rn) (n : Nat)
def atR (i : Nat) : Int := if i = 0 then 0 else (R.getD (i - 1) zRn).to
def okR (i : Nat) : Bool := decide ((R.getD i zRn).frm = atR R i) && (decide ((R.getD i zRn).frm < (R.getD i zRn).to) && (decide ((R.getD i zRn).to ≤ (n : Int)) && (decide (0 ≤ (R.getD i zRn).at'.colour) && decide ((R.getD i zRn).at'.colour ≤ 16777216))))
def allR (i : Nat) : Bool := (List.range i).all (okR R n)
def sprTo (i : Nat) : List Atr := (R.take i).flatMap fun x => List.replicate (x.to - x.frm).toNat x.at'
end
def mkE0 (s : ByteArray) (R : List Rn) : Int := if 4096 < s.size then 3 else if allR R (sgN s) R.length = true ∧ atR R R.length = (sgN s : Nat) then 0 else 1
section
variable {R : List Rn} {n : Nat}
theorem okR_iff {i : Nat} : okR R n i = true ↔ (R.getD i zRn).frm = atR R i ∧ (R.getD i zRn).frm < (R.getD i zRn).to ∧ (R.getD i zRn).to ≤ (n : Int) ∧ 0 ≤ (R.getD i zRn).at'.colour ∧ (R.getD i zRn).at'.colour ≤ 16777216 := by
  unfold okR
  simp only [Bool.and_eq_true, decide_eq_true_eq]
theorem allR_step {i : Nat} (h : allR R n i = true) (h2 : okR R n i = true) : allR R n (i + 1) = true := by
  unfold allR at h ⊢
  rw [List.range_succ, List.all_append, h]
  simp [h2]
theorem allR_at {i j : Nat} (h : allR R n i = true) (hj : j < i) : okR R n j = true := List.all_eq_true.1 h j (List.mem_range.2 hj)
theorem allR_no {i : Nat} (hi : i < R.length) (h : okR R n i = false) : ¬ (allR R n R.length = true ∧ atR R R.length = (n : Int)) := fun g => by
  have := allR_at g.1 hi
  rw [h] at this
  cases this
theorem atR_succ (i : Nat) : atR R (i + 1) = (R.getD i zRn).to := by
  unfold atR
  rw [if_neg (by omega)]
  rfl
theorem atR_bd : ∀ {i : Nat}, allR R n i = true → (0 ≤ atR R i ∧ atR R i ≤ n) ∧ (i : Int) ≤ atR R i
  | 0, _ => by unfold atR; simp
  | i + 1, h => by
    have h1 := allR_at h (Nat.lt_succ_self i)
    rw [okR_iff] at h1
    have h2 : allR R n i = true := List.all_eq_true.2 fun j hj => allR_at h (by have := List.mem_range.1 hj; omega)
    have h3 := atR_bd h2
    rw [atR_succ]
    omega
theorem spr_step {i : Nat} (h : i < R.length) : sprTo R (i + 1) = sprTo R i ++ List.replicate ((R.getD i zRn).to - (R.getD i zRn).frm).toNat (R.getD i zRn).at' := by
  unfold sprTo
  rw [← take_one R zRn h, List.flatMap_append]
  simp
theorem spr_len : ∀ {i : Nat}, i ≤ R.length → allR R n i = true → ((sprTo R i).length : Int) = atR R i
  | 0, _, _ => by unfold sprTo atR; simp
  | i + 1, hi, h => by
    have h1 := allR_at h (Nat.lt_succ_self i)
    rw [okR_iff] at h1
    have h2 : allR R n i = true := List.all_eq_true.2 fun j hj => allR_at h (by have := List.mem_range.1 hj; omega)
    have h3 := spr_len (by omega) h2
    have h4 := atR_bd h2
    rw [spr_step (by omega), List.length_append, List.length_replicate, atR_succ]
    omega
theorem spr_col : ∀ {i : Nat}, i ≤ R.length → allR R n i = true → ColOK (sprTo R i)
  | 0, _, _ => fun a ha => by unfold sprTo at ha; simp at ha
  | i + 1, hi, h => fun a ha => by
    have h1 := allR_at h (Nat.lt_succ_self i)
    rw [okR_iff] at h1
    have h2 : allR R n i = true := List.all_eq_true.2 fun j hj => allR_at h (by have := List.mem_range.1 hj; omega)
    rw [spr_step (by omega)] at ha
    rcases List.mem_append.1 ha with h3 | h3
    · exact spr_col (by omega) h2 a h3
    · rw [List.mem_replicate] at h3
      rw [h3.2]
      exact h1.2.2.2
theorem rep_snoc {α : Type} (L : List α) (k : Nat) (a : α) : L ++ List.replicate k a ++ [a] = L ++ List.replicate (k + 1) a := by
  rw [List.append_assoc, ← List.replicate_succ']
end
end Go.SX.Plain
/- Contract of style.Make. -/
namespace Go.SX.Try
open Go.Proofs Go.Proofs.Try Go.SX.Plain
set_option maxRecDepth 100000
set_option maxHeartbeats 0
theorem q_sMake : fact 45 f45 := ⟨by kernel_rfl, rfl, by kernel_rfl⟩
theorem bad_chain {f t n c len : Int} : (f != len || decide (t ≤ f) || decide (n < t) || decide (c < 0) || decide (16777216 < c)) = !(decide (f = len) && (decide (f < t) && (decide (t ≤ n) && (decide (0 ≤ c) && decide (c ≤ 16777216))))) := by
  rw [Bool.eq_iff_iff]
  simp only [Bool.or_eq_true, bne_iff_ne, ne_eq, decide_eq_true_eq, Bool.not_eq_true', Bool.and_eq_false_iff, decide_eq_false_iff_not]
  omega
theorem con_sMake : Con prog 45 (fun ((s, R) : ByteArray × List Rn) => [.v (.string s), rnR R]) (fun (s, R) => .tup [txO (nrmT (mkE0 s R) s (sprTo R R.length)) (nrmL (mkE0 s R) (sprTo R R.length)), .v (.int .i64 (nrmE (mkE0 s R) (sprTo R R.length)))]) (fun _ => True) := by
  refine Con.of (by kernel_rfl) T_ok D_att_ok (.con con_ucount (.con con_stext .nil)) 5 [] q_sMake.1 q_sMake.2.1 q_sMake.2.2 (fun _ => rfl) fun i _ => ?_
  obtain ⟨s, R⟩ := i
  have no : ∀ e, mkE0 s R = e → ¬ e = 0 → nrmE (mkE0 s R) (sprTo R R.length) = e ∧ nrmT (mkE0 s R) s (sprTo R R.length) = ByteArray.empty ∧ nrmL (mkE0 s R) (sprTo R R.length) = [] := fun e h h2 => ⟨(nrmE_no (by rw [h]; exact h2)).trans h, nrmT_no (by rw [h]; exact h2), nrmL_no (by rw [h]; exact h2)⟩
  by_cases hs : 4096 < s.size
  · have k0 : decide ((4096 : Int) < (s.size : Int)) = true := decide_eq_true (by omega)
    have hno := no 3 (if_pos hs) (by decide)
    obtain ⟨hE, hT, hL⟩ := hno
    repeat' (first | (with_reducible first | exact fun h => h | refine And.intro ?_ ?_) | ((with_reducible intro hq); first | exact bne1 hq (by with_reducible assumption) | exact bne1 (by with_reducible assumption) hq | ((simp only [*, BB, cond_true, cond_false, reduceCtorEq] at hq); done) | (revert hq; with_reducible intro _)) | (with_reducible first | exact True.intro | rfl | refine EntLe.row ?_ | exact LeN.ro rfl | exact LeN.rptr | assumption) | ((with_reducible first | refine WkX.chk ?_ | refine Wk.chk ?_ | refine LeL.chk ?_ | refine LeF.chk ?_ | refine Run.mk ?_); (conv => whnf)) | ((with_reducible show LeO _ _); first | refine LeO.ro ?_ | refine LeO.roCap ?_ | refine LeO.nil ?_ (fun _ => rfl)) | ((with_reducible show LeR _ _ _); first | refine LeR.own rfl rfl rfl ?_ | refine LeR.view rfl rfl rfl ?_ ?_ | refine LeR.ro ?_ | refine LeR.roCap ?_ | refine LeR.nil ?_ (fun _ => rfl)))
    all_goals first
      | exact hE.symm
      | exact hT.symm
      | exact hL.symm
      | trace_state
  have k0 : decide ((4096 : Int) < (s.size : Int)) = false := decide_eq_false (by omega)
  have hn := sgN_le s
  have hE1 : ¬ (allR R (sgN s) R.length = true ∧ atR R R.length = (sgN s : Nat)) → mkE0 s R = 1 := fun h => by unfold mkE0; rw [if_neg hs, if_neg h]
  have hd : C_rn.d = zRn := rfl
  repeat' (first | (with_reducible refine ⟨_, ⟨(.cons (.v _) .nil), ?_⟩, ?_⟩) | (with_reducible first | exact fun h => h | refine And.intro ?_ ?_) | ((with_reducible intro hq); first | exact bne1 hq (by with_reducible assumption) | exact bne1 (by with_reducible assumption) hq | ((simp only [*, BB, cond_true, cond_false, reduceCtorEq] at hq); done) | (revert hq; with_reducible intro _)) | (with_reducible first | exact True.intro | rfl | refine EntLe.row ?_ | exact LeN.ro rfl | exact LeN.rptr | assumption) | ((with_reducible first | refine WkX.chk ?_ | refine Wk.chk ?_ | refine LeL.chk ?_ | refine LeF.chk ?_ | refine Run.mk ?_); (conv => whnf)) | ((with_reducible show LeO _ _); first | refine LeO.ro ?_ | refine LeO.roCap ?_ | refine LeO.nil ?_ (fun _ => rfl)) | ((with_reducible show LeR _ _ _); first | refine LeR.own rfl rfl rfl ?_ | refine LeR.view rfl rfl rfl ?_ ?_ | refine LeR.ro ?_ | refine LeR.roCap ?_ | refine LeR.nil ?_ (fun _ => rfl)))
  all_goals (try (first | omega | (dsimp only; omega) | rfl))
  refine loopI Nat [] (fun i => [(18, .v (.int .i64 (i : Nat))), (6, .own 1)]) (fun i => [(1, .row C_att (sprTo R i) 45 none)]) (fun i => i ≤ R.length ∧ allR R (sgN s) i = true) (fun i => R.length - i) 0 ⟨Nat.zero_le _, rfl⟩ (Wk.chk ?_) fun i hi => ?_
  · ((conv => whnf); repeat' (first | (with_reducible first | exact fun h => h | refine And.intro ?_ ?_) | ((with_reducible intro hq); first | exact bne1 hq (by with_reducible assumption) | exact bne1 (by with_reducible assumption) hq | ((simp only [*, BB, cond_true, cond_false, reduceCtorEq] at hq); done) | (revert hq; with_reducible intro _)) | (with_reducible first | exact True.intro | rfl | refine EntLe.row ?_ | exact LeN.ro rfl | exact LeN.rptr | assumption) | ((with_reducible first | refine WkX.chk ?_ | refine Wk.chk ?_ | refine LeL.chk ?_ | refine LeF.chk ?_ | refine Run.mk ?_); (conv => whnf)) | ((with_reducible show LeO _ _); first | refine LeO.ro ?_ | refine LeO.roCap ?_ | refine LeO.nil ?_ (fun _ => rfl)) | ((with_reducible show LeR _ _ _); first | refine LeR.own rfl rfl rfl ?_ | refine LeR.view rfl rfl rfl ?_ ?_ | refine LeR.ro ?_ | refine LeR.roCap ?_ | refine LeR.nil ?_ (fun _ => rfl))))
    all_goals first
      | rfl
      | trace_state
  obtain ⟨hi, hal⟩ := hi
  have e1 : (i : Int).toNat = i := Int.toNat_natCast _
  have hbd := atR_bd hal
  have hsl := spr_len hi hal
  by_cases hil : i < R.length
  · have hlt : decide ((i : Int) < (R.length : Int)) = true := decide_eq_true (by omega)
    have hxx : (R.getD (i : Int).toNat C_rn.d) = R.getD i zRn := by rw [e1, hd]
    have hch := bad_chain (f := (R.getD (i : Int).toNat C_rn.d).frm) (t := (R.getD (i : Int).toNat C_rn.d).to) (n := (sgN s : Int)) (c := (R.getD (i : Int).toNat C_rn.d).at'.colour) (len := ((sprTo R i).length : Int))
    have hok0 : (decide ((R.getD (i : Int).toNat C_rn.d).frm = ((sprTo R i).length : Int)) && (decide ((R.getD (i : Int).toNat C_rn.d).frm < (R.getD (i : Int).toNat C_rn.d).to) && (decide ((R.getD (i : Int).toNat C_rn.d).to ≤ (sgN s : Int)) && (decide (0 ≤ (R.getD (i : Int).toNat C_rn.d).at'.colour) && decide ((R.getD (i : Int).toNat C_rn.d).at'.colour ≤ 16777216))))) = okR R (sgN s) i := by rw [hxx, hsl]; rfl
    rw [hok0] at hch
    cases hok : okR R (sgN s) i with
    | false =>
      rw [hok] at hch
      have hch : ((R.getD (i : Int).toNat C_rn.d).frm != ((sprTo R i).length : Int) || decide ((R.getD (i : Int).toNat C_rn.d).to ≤ (R.getD (i : Int).toNat C_rn.d).frm) || decide ((sgN s : Int) < (R.getD (i : Int).toNat C_rn.d).to) || decide ((R.getD (i : Int).toNat C_rn.d).at'.colour < 0) || decide (16777216 < (R.getD (i : Int).toNat C_rn.d).at'.colour)) = true := hch
      have hno := no 1 (hE1 (allR_no hil hok)) (by decide)
      obtain ⟨hE, hT, hL⟩ := hno
      clear hok0
      repeat' (first | (with_reducible first | exact fun h => h | refine And.intro ?_ ?_) | ((with_reducible intro hq); first | exact bne1 hq (by with_reducible assumption) | exact bne1 (by with_reducible assumption) hq | ((simp only [*, BB, cond_true, cond_false, reduceCtorEq] at hq); done) | (revert hq; with_reducible intro _)) | (with_reducible first | exact True.intro | rfl | refine EntLe.row ?_ | exact LeN.ro rfl | exact LeN.rptr | assumption) | ((with_reducible first | refine WkX.chk ?_ | refine Wk.chk ?_ | refine LeL.chk ?_ | refine LeF.chk ?_ | refine Run.mk ?_); (conv => whnf)) | ((with_reducible show LeO _ _); first | refine LeO.ro ?_ | refine LeO.roCap ?_ | refine LeO.nil ?_ (fun _ => rfl)) | ((with_reducible show LeR _ _ _); first | refine LeR.own rfl rfl rfl ?_ | refine LeR.view rfl rfl rfl ?_ ?_ | refine LeR.ro ?_ | refine LeR.roCap ?_ | refine LeR.nil ?_ (fun _ => rfl)))
      all_goals first
        | exact hE.symm
        | exact hT.symm
        | exact hL.symm
        | (simp only [Bool.not_eq_true']; assumption)
        | omega
        | trace_state
    | true =>
      rw [hok] at hch
      have hal2 := allR_step hal hok
      have hst := spr_step hil
      have hal3 := atR_bd hal2
      rw [okR_iff, ← hxx] at hok
      obtain ⟨o1, o2, o3, o4⟩ := hok
      have hch : ((R.getD (i : Int).toNat C_rn.d).frm != ((sprTo R i).length : Int) || decide ((R.getD (i : Int).toNat C_rn.d).to ≤ (R.getD (i : Int).toNat C_rn.d).frm) || decide ((sgN s : Int) < (R.getD (i : Int).toNat C_rn.d).to) || decide ((R.getD (i : Int).toNat C_rn.d).at'.colour < 0) || decide (16777216 < (R.getD (i : Int).toNat C_rn.d).at'.colour)) = false := hch
      have hpp := hch
      simp only [Bool.or_eq_false_iff] at hpp
      obtain ⟨⟨⟨⟨p1, p2⟩, p3⟩, p4⟩, p5⟩ := hpp
      have r2 : ((R.getD (i : Int).toNat C_rn.d).frm != ((sprTo R i).length : Int) || decide ((R.getD (i : Int).toNat C_rn.d).to ≤ (R.getD (i : Int).toNat C_rn.d).frm)) = false := by rw [p1, p2]; rfl
      have r3 : ((R.getD (i : Int).toNat C_rn.d).frm != ((sprTo R i).length : Int) || decide ((R.getD (i : Int).toNat C_rn.d).to ≤ (R.getD (i : Int).toNat C_rn.d).frm) || decide ((sgN s : Int) < (R.getD (i : Int).toNat C_rn.d).to)) = false := by rw [p1, p2, p3]; rfl
      have r4 : ((R.getD (i : Int).toNat C_rn.d).frm != ((sprTo R i).length : Int) || decide ((R.getD (i : Int).toNat C_rn.d).to ≤ (R.getD (i : Int).toNat C_rn.d).frm) || decide ((sgN s : Int) < (R.getD (i : Int).toNat C_rn.d).to) || decide ((R.getD (i : Int).toNat C_rn.d).at'.colour < 0)) = false := by rw [p1, p2, p3, p4]; rfl
      clear hok0
      repeat' (first | (with_reducible first | exact fun h => h | refine And.intro ?_ ?_) | ((with_reducible intro hq); first | exact bne1 hq (by with_reducible assumption) | exact bne1 (by with_reducible assumption) hq | ((simp only [*, BB, cond_true, cond_false, reduceCtorEq] at hq); done) | (revert hq; with_reducible intro _)) | (with_reducible first | exact True.intro | rfl | refine EntLe.row ?_ | exact LeN.ro rfl | exact LeN.rptr | assumption) | ((with_reducible first | refine WkX.chk ?_ | refine Wk.chk ?_ | refine LeL.chk ?_ | refine LeF.chk ?_ | refine Run.mk ?_); (conv => whnf)) | ((with_reducible show LeO _ _); first | refine LeO.ro ?_ | refine LeO.roCap ?_ | refine LeO.nil ?_ (fun _ => rfl)) | ((with_reducible show LeR _ _ _); first | refine LeR.own rfl rfl rfl ?_ | refine LeR.view rfl rfl rfl ?_ ?_ | refine LeR.ro ?_ | refine LeR.roCap ?_ | refine LeR.nil ?_ (fun _ => rfl)))
      all_goals (try (first | omega | (simp only [Bool.not_eq_true']; assumption) | (apply Fits.i64 <;> omega)))
      refine loopI Nat [24] (fun k => [(58, .v (.int .i64 (k : Nat))), (6, .own 1)]) (fun k => [(1, .row C_att (sprTo R i ++ List.replicate k (R.getD (i : Int).toNat C_rn.d).at') 45 none)]) (fun k => (k : Int) ≤ (R.getD (i : Int).toNat C_rn.d).to - (R.getD (i : Int).toNat C_rn.d).frm) (fun k => ((R.getD (i : Int).toNat C_rn.d).to - (R.getD (i : Int).toNat C_rn.d).frm).toNat - k) 0 (by simp only [Int.ofNat_zero]; omega) (Wk.chk ?_) fun k hk => ?_
      · ((conv => whnf); repeat' (first | (with_reducible first | exact fun h => h | refine And.intro ?_ ?_) | ((with_reducible intro hq); first | exact bne1 hq (by with_reducible assumption) | exact bne1 (by with_reducible assumption) hq | ((simp only [*, BB, cond_true, cond_false, reduceCtorEq] at hq); done) | (revert hq; with_reducible intro _)) | (with_reducible first | exact True.intro | rfl | refine EntLe.row ?_ | exact LeN.ro rfl | exact LeN.rptr | assumption) | ((with_reducible first | refine WkX.chk ?_ | refine Wk.chk ?_ | refine LeL.chk ?_ | refine LeF.chk ?_ | refine Run.mk ?_); (conv => whnf)) | ((with_reducible show LeO _ _); first | refine LeO.ro ?_ | refine LeO.roCap ?_ | refine LeO.nil ?_ (fun _ => rfl)) | ((with_reducible show LeR _ _ _); first | refine LeR.own rfl rfl rfl ?_ | refine LeR.view rfl rfl rfl ?_ ?_ | refine LeR.ro ?_ | refine LeR.roCap ?_ | refine LeR.nil ?_ (fun _ => rfl))))
        all_goals first
          | rfl
          | (simp; done)
          | trace_state
      have hk : (k : Int) ≤ (R.getD (i : Int).toNat C_rn.d).to - (R.getD (i : Int).toNat C_rn.d).frm := hk
      have hrl : (sprTo R i ++ List.replicate k (R.getD (i : Int).toNat C_rn.d).at').length = (sprTo R i).length + k := by rw [List.length_append, List.length_replicate]
      by_cases hkl : (k : Int) < (R.getD (i : Int).toNat C_rn.d).to - (R.getD (i : Int).toNat C_rn.d).frm
      · have hlt2 : decide ((k : Int) < (R.getD (i : Int).toNat C_rn.d).to - (R.getD (i : Int).toNat C_rn.d).frm) = true := decide_eq_true hkl
        have hsn := rep_snoc (sprTo R i) k (R.getD (i : Int).toNat C_rn.d).at'
        repeat' (first | (with_reducible refine ex_of (α := Nat) (k + 1) ⟨?_, ?_⟩ ?_) | (with_reducible first | exact fun h => h | refine And.intro ?_ ?_) | ((with_reducible intro hq); first | exact bne1 hq (by with_reducible assumption) | exact bne1 (by with_reducible assumption) hq | ((simp only [*, BB, cond_true, cond_false, reduceCtorEq] at hq); done) | (revert hq; with_reducible intro _)) | (with_reducible first | exact True.intro | rfl | refine EntLe.row ?_ | exact LeN.ro rfl | exact LeN.rptr | assumption) | ((with_reducible first | refine WkX.chk ?_ | refine Wk.chk ?_ | refine LeL.chk ?_ | refine LeF.chk ?_ | refine Run.mk ?_); (conv => whnf)) | ((with_reducible show LeO _ _); first | refine LeO.ro ?_ | refine LeO.roCap ?_ | refine LeO.nil ?_ (fun _ => rfl)) | ((with_reducible show LeR _ _ _); first | refine LeR.own rfl rfl rfl ?_ | refine LeR.view rfl rfl rfl ?_ ?_ | refine LeR.ro ?_ | refine LeR.roCap ?_ | refine LeR.nil ?_ (fun _ => rfl)))
        all_goals first
          | omega
          | (apply Fits.i64 <;> omega)
          | (show ((k + 1 : Nat) : Int) ≤ (R.getD (i : Int).toNat C_rn.d).to - (R.getD (i : Int).toNat C_rn.d).frm; omega)
          | (show ((R.getD (i : Int).toNat C_rn.d).to - (R.getD (i : Int).toNat C_rn.d).frm).toNat - (k + 1) < ((R.getD (i : Int).toNat C_rn.d).to - (R.getD (i : Int).toNat C_rn.d).frm).toNat - k; omega)
          | (show ((sprTo R i ++ List.replicate k (R.getD (i : Int).toNat C_rn.d).at').length + 1) * 16 ≤ 140737488355328; omega)
          | exact hsn
          | rfl
          | trace_state
      have hlt2 : decide ((k : Int) < (R.getD (i : Int).toNat C_rn.d).to - (R.getD (i : Int).toNat C_rn.d).frm) = false := decide_eq_false hkl
      have hkk : k = ((R.getD (i : Int).toNat C_rn.d).to - (R.getD (i : Int).toNat C_rn.d).frm).toNat := by omega
      have hfin : sprTo R i ++ List.replicate k (R.getD (i : Int).toNat C_rn.d).at' = sprTo R (i + 1) := by rw [hst, hkk, hxx]
      repeat' (first | (with_reducible refine ex_of (α := Nat) (i + 1) ⟨⟨?_, hal2⟩, ?_⟩ ?_) | (with_reducible first | exact fun h => h | refine And.intro ?_ ?_) | ((with_reducible intro hq); first | exact bne1 hq (by with_reducible assumption) | exact bne1 (by with_reducible assumption) hq | ((simp only [*, BB, cond_true, cond_false, reduceCtorEq] at hq); done) | (revert hq; with_reducible intro _)) | (with_reducible first | exact True.intro | rfl | refine EntLe.row ?_ | exact LeN.ro rfl | exact LeN.rptr | assumption) | ((with_reducible first | refine WkX.chk ?_ | refine Wk.chk ?_ | refine LeL.chk ?_ | refine LeF.chk ?_ | refine Run.mk ?_); (conv => whnf)) | ((with_reducible show LeO _ _); first | refine LeO.ro ?_ | refine LeO.roCap ?_ | refine LeO.nil ?_ (fun _ => rfl)) | ((with_reducible show LeR _ _ _); first | refine LeR.own rfl rfl rfl ?_ | refine LeR.view rfl rfl rfl ?_ ?_ | refine LeR.ro ?_ | refine LeR.roCap ?_ | refine LeR.nil ?_ (fun _ => rfl)))
      all_goals first
        | omega
        | (apply Fits.i64 <;> omega)
        | (dsimp only; omega)
        | exact hfin
        | rfl
        | trace_state
  have hlt : decide ((i : Int) < (R.length : Int)) = false := decide_eq_false (by omega)
  have hii : i = R.length := by omega
  subst hii
  by_cases hat : atR R R.length = (sgN s : Nat)
  case neg =>
    have k1 : (((sprTo R R.length).length : Int) != (sgN s : Int)) = true := by rw [bne_iff_ne]; omega
    have hno := no 1 (hE1 fun h => hat h.2) (by decide)
    obtain ⟨hE, hT, hL⟩ := hno
    repeat' (first | (with_reducible first | exact fun h => h | refine And.intro ?_ ?_) | ((with_reducible intro hq); first | exact bne1 hq (by with_reducible assumption) | exact bne1 (by with_reducible assumption) hq | ((simp only [*, BB, cond_true, cond_false, reduceCtorEq] at hq); done) | (revert hq; with_reducible intro _)) | (with_reducible first | exact True.intro | rfl | refine EntLe.row ?_ | exact LeN.ro rfl | exact LeN.rptr | assumption) | ((with_reducible first | refine WkX.chk ?_ | refine Wk.chk ?_ | refine LeL.chk ?_ | refine LeF.chk ?_ | refine Run.mk ?_); (conv => whnf)) | ((with_reducible show LeO _ _); first | refine LeO.ro ?_ | refine LeO.roCap ?_ | refine LeO.nil ?_ (fun _ => rfl)) | ((with_reducible show LeR _ _ _); first | refine LeR.own rfl rfl rfl ?_ | refine LeR.view rfl rfl rfl ?_ ?_ | refine LeR.ro ?_ | refine LeR.roCap ?_ | refine LeR.nil ?_ (fun _ => rfl)))
    all_goals first
      | exact hE.symm
      | exact hT.symm
      | exact hL.symm
      | omega
      | trace_state
  have k1 : (((sprTo R R.length).length : Int) != (sgN s : Int)) = false := by rw [bne_eq_false_iff_eq]; omega
  have h0 : mkE0 s R = 0 := by unfold mkE0; rw [if_neg hs, if_pos ⟨hal, hat⟩]
  have hE := nrmE_yes (A := sprTo R R.length) h0
  have hT := nrmT_yes (s := s) (A := sprTo R R.length) h0
  have hL := nrmL_yes (A := sprTo R R.length) h0
  have hcol := spr_col hi hal
  repeat' (first | (with_reducible refine ⟨(_, _), ⟨(.cons (.v _) (.cons (.own (by with_unfolding_all exact rfl) (by with_unfolding_all exact rfl) (by with_unfolding_all exact rfl)) .nil)), ?_⟩, ?_⟩) | (with_reducible first | exact fun h => h | refine And.intro ?_ ?_) | ((with_reducible intro hq); first | exact bne1 hq (by with_reducible assumption) | exact bne1 (by with_reducible assumption) hq | ((simp only [*, BB, cond_true, cond_false, reduceCtorEq] at hq); done) | (revert hq; with_reducible intro _)) | (with_reducible first | exact True.intro | rfl | refine EntLe.row ?_ | exact LeN.ro rfl | exact LeN.rptr | assumption) | ((with_reducible first | refine WkX.chk ?_ | refine Wk.chk ?_ | refine LeL.chk ?_ | refine LeF.chk ?_ | refine Run.mk ?_); (conv => whnf)) | ((with_reducible show LeO _ _); first | refine LeO.ro ?_ | refine LeO.roCap ?_ | refine LeO.nil ?_ (fun _ => rfl)) | ((with_reducible show LeR _ _ _); first | refine LeR.own rfl rfl rfl ?_ | refine LeR.view rfl rfl rfl ?_ ?_ | refine LeR.ro ?_ | refine LeR.roCap ?_ | refine LeR.nil ?_ (fun _ => rfl)))
  all_goals first
    | omega
    | exact hcol
    | (dsimp only; omega)
    | exact hE.symm
    | exact hT.symm
    | exact hL.symm
    | trace_state
end Go.SX.Try
/- Contract of the document's Make. -/
namespace Go.SX.Try
open Go.Proofs Go.Proofs.Try Go.SX.Plain
set_option maxRecDepth 100000
set_option maxHeartbeats 0
theorem q_rMake : fact 46 f46 := ⟨by kernel_rfl, rfl, by kernel_rfl⟩
theorem con_rMake : Con prog 46 (fun ((s, R) : ByteArray × List Rn) => [.v (.string s), rnR R]) (fun (s, R) => .tup [txO (nrmT (mkE0 s R) s (sprTo R R.length)) (nrmL (mkE0 s R) (sprTo R R.length)), .v (.int .i64 (nrmE (mkE0 s R) (sprTo R R.length)))]) (fun _ => True) := by
  refine Con.of (by kernel_rfl) T_ok D_att_ok (.con con_rcount (.con con_rmade .nil)) 5 [] q_rMake.1 q_rMake.2.1 q_rMake.2.2 (fun _ => rfl) fun i _ => ?_
  obtain ⟨s, R⟩ := i
  have no : ∀ e, mkE0 s R = e → ¬ e = 0 → nrmE (mkE0 s R) (sprTo R R.length) = e ∧ nrmT (mkE0 s R) s (sprTo R R.length) = ByteArray.empty ∧ nrmL (mkE0 s R) (sprTo R R.length) = [] := fun e h h2 => ⟨(nrmE_no (by rw [h]; exact h2)).trans h, nrmT_no (by rw [h]; exact h2), nrmL_no (by rw [h]; exact h2)⟩
  by_cases hs : 4096 < s.size
  · have k0 : decide ((4096 : Int) < (s.size : Int)) = true := decide_eq_true (by omega)
    have hno := no 3 (if_pos hs) (by decide)
    obtain ⟨hE, hT, hL⟩ := hno
    repeat' (first | (with_reducible first | exact fun h => h | refine And.intro ?_ ?_) | ((with_reducible intro hq); first | exact bne1 hq (by with_reducible assumption) | exact bne1 (by with_reducible assumption) hq | ((simp only [*, BB, cond_true, cond_false, reduceCtorEq] at hq); done) | (revert hq; with_reducible intro _)) | (with_reducible first | exact True.intro | rfl | refine EntLe.row ?_ | exact LeN.ro rfl | exact LeN.rptr | assumption) | ((with_reducible first | refine WkX.chk ?_ | refine Wk.chk ?_ | refine LeL.chk ?_ | refine LeF.chk ?_ | refine Run.mk ?_); (conv => whnf)) | ((with_reducible show LeO _ _); first | refine LeO.ro ?_ | refine LeO.roCap ?_ | refine LeO.nil ?_ (fun _ => rfl)) | ((with_reducible show LeR _ _ _); first | refine LeR.own rfl rfl rfl ?_ | refine LeR.view rfl rfl rfl ?_ ?_ | refine LeR.ro ?_ | refine LeR.roCap ?_ | refine LeR.nil ?_ (fun _ => rfl)))
    all_goals first
      | exact hE.symm
      | exact hT.symm
      | exact hL.symm
      | trace_state
  have k0 : decide ((4096 : Int) < (s.size : Int)) = false := decide_eq_false (by omega)
  have hn := sgN_le s
  have hE1 : ¬ (allR R (sgN s) R.length = true ∧ atR R R.length = (sgN s : Nat)) → mkE0 s R = 1 := fun h => by unfold mkE0; rw [if_neg hs, if_neg h]
  have hd : C_rn.d = zRn := rfl
  repeat' (first | (with_reducible refine ⟨_, ⟨(.cons (.v _) .nil), ?_⟩, ?_⟩) | (with_reducible first | exact fun h => h | refine And.intro ?_ ?_) | ((with_reducible intro hq); first | exact bne1 hq (by with_reducible assumption) | exact bne1 (by with_reducible assumption) hq | ((simp only [*, BB, cond_true, cond_false, reduceCtorEq] at hq); done) | (revert hq; with_reducible intro _)) | (with_reducible first | exact True.intro | rfl | refine EntLe.row ?_ | exact LeN.ro rfl | exact LeN.rptr | assumption) | ((with_reducible first | refine WkX.chk ?_ | refine Wk.chk ?_ | refine LeL.chk ?_ | refine LeF.chk ?_ | refine Run.mk ?_); (conv => whnf)) | ((with_reducible show LeO _ _); first | refine LeO.ro ?_ | refine LeO.roCap ?_ | refine LeO.nil ?_ (fun _ => rfl)) | ((with_reducible show LeR _ _ _); first | refine LeR.own rfl rfl rfl ?_ | refine LeR.view rfl rfl rfl ?_ ?_ | refine LeR.ro ?_ | refine LeR.roCap ?_ | refine LeR.nil ?_ (fun _ => rfl)))
  all_goals (try (first | omega | (dsimp only; omega) | rfl))
  refine loopI Nat [] (fun i => [(8, .v (.int .i64 (i : Nat))), (7, .v (.int .i64 (atR R i)))]) (fun _ => []) (fun i => i ≤ R.length ∧ allR R (sgN s) i = true) (fun i => R.length - i) 0 ⟨Nat.zero_le _, rfl⟩ (Wk.chk ?_) fun i hi => ?_
  · ((conv => whnf); repeat' (first | (with_reducible first | exact fun h => h | refine And.intro ?_ ?_) | ((with_reducible intro hq); first | exact bne1 hq (by with_reducible assumption) | exact bne1 (by with_reducible assumption) hq | ((simp only [*, BB, cond_true, cond_false, reduceCtorEq] at hq); done) | (revert hq; with_reducible intro _)) | (with_reducible first | exact True.intro | rfl | refine EntLe.row ?_ | exact LeN.ro rfl | exact LeN.rptr | assumption) | ((with_reducible first | refine WkX.chk ?_ | refine Wk.chk ?_ | refine LeL.chk ?_ | refine LeF.chk ?_ | refine Run.mk ?_); (conv => whnf)) | ((with_reducible show LeO _ _); first | refine LeO.ro ?_ | refine LeO.roCap ?_ | refine LeO.nil ?_ (fun _ => rfl)) | ((with_reducible show LeR _ _ _); first | refine LeR.own rfl rfl rfl ?_ | refine LeR.view rfl rfl rfl ?_ ?_ | refine LeR.ro ?_ | refine LeR.roCap ?_ | refine LeR.nil ?_ (fun _ => rfl))))
    all_goals first
      | rfl
      | trace_state
  obtain ⟨hi, hal⟩ := hi
  have e1 : (i : Int).toNat = i := Int.toNat_natCast _
  have hbd := atR_bd hal
  have hsl := spr_len hi hal
  by_cases hil : i < R.length
  · have hlt : decide ((i : Int) < (R.length : Int)) = true := decide_eq_true (by omega)
    have hxx : (R.getD (i : Int).toNat C_rn.d) = R.getD i zRn := by rw [e1, hd]
    have hch := bad_chain (f := (R.getD (i : Int).toNat C_rn.d).frm) (t := (R.getD (i : Int).toNat C_rn.d).to) (n := (sgN s : Int)) (c := (R.getD (i : Int).toNat C_rn.d).at'.colour) (len := (atR R i))
    have hok0 : (decide ((R.getD (i : Int).toNat C_rn.d).frm = (atR R i)) && (decide ((R.getD (i : Int).toNat C_rn.d).frm < (R.getD (i : Int).toNat C_rn.d).to) && (decide ((R.getD (i : Int).toNat C_rn.d).to ≤ (sgN s : Int)) && (decide (0 ≤ (R.getD (i : Int).toNat C_rn.d).at'.colour) && decide ((R.getD (i : Int).toNat C_rn.d).at'.colour ≤ 16777216))))) = okR R (sgN s) i := by rw [hxx]; rfl
    rw [hok0] at hch
    cases hok : okR R (sgN s) i with
    | false =>
      rw [hok] at hch
      have hch : ((R.getD (i : Int).toNat C_rn.d).frm != (atR R i) || decide ((R.getD (i : Int).toNat C_rn.d).to ≤ (R.getD (i : Int).toNat C_rn.d).frm) || decide ((sgN s : Int) < (R.getD (i : Int).toNat C_rn.d).to) || decide ((R.getD (i : Int).toNat C_rn.d).at'.colour < 0) || decide (16777216 < (R.getD (i : Int).toNat C_rn.d).at'.colour)) = true := hch
      have hno := no 1 (hE1 (allR_no hil hok)) (by decide)
      obtain ⟨hE, hT, hL⟩ := hno
      clear hok0
      repeat' (first | (with_reducible first | exact fun h => h | refine And.intro ?_ ?_) | ((with_reducible intro hq); first | exact bne1 hq (by with_reducible assumption) | exact bne1 (by with_reducible assumption) hq | ((simp only [*, BB, cond_true, cond_false, reduceCtorEq] at hq); done) | (revert hq; with_reducible intro _)) | (with_reducible first | exact True.intro | rfl | refine EntLe.row ?_ | exact LeN.ro rfl | exact LeN.rptr | assumption) | ((with_reducible first | refine WkX.chk ?_ | refine Wk.chk ?_ | refine LeL.chk ?_ | refine LeF.chk ?_ | refine Run.mk ?_); (conv => whnf)) | ((with_reducible show LeO _ _); first | refine LeO.ro ?_ | refine LeO.roCap ?_ | refine LeO.nil ?_ (fun _ => rfl)) | ((with_reducible show LeR _ _ _); first | refine LeR.own rfl rfl rfl ?_ | refine LeR.view rfl rfl rfl ?_ ?_ | refine LeR.ro ?_ | refine LeR.roCap ?_ | refine LeR.nil ?_ (fun _ => rfl)))
      all_goals first
        | exact hE.symm
        | exact hT.symm
        | exact hL.symm
        | (simp only [Bool.not_eq_true']; assumption)
        | omega
        | trace_state
    | true =>
      rw [hok] at hch
      have hal2 := allR_step hal hok
      have hst := spr_step hil
      have hal3 := atR_bd hal2
      rw [okR_iff, ← hxx] at hok
      obtain ⟨o1, o2, o3, o4⟩ := hok
      have hch : ((R.getD (i : Int).toNat C_rn.d).frm != (atR R i) || decide ((R.getD (i : Int).toNat C_rn.d).to ≤ (R.getD (i : Int).toNat C_rn.d).frm) || decide ((sgN s : Int) < (R.getD (i : Int).toNat C_rn.d).to) || decide ((R.getD (i : Int).toNat C_rn.d).at'.colour < 0) || decide (16777216 < (R.getD (i : Int).toNat C_rn.d).at'.colour)) = false := hch
      have hpp := hch
      simp only [Bool.or_eq_false_iff] at hpp
      obtain ⟨⟨⟨⟨p1, p2⟩, p3⟩, p4⟩, p5⟩ := hpp
      have r2 : ((R.getD (i : Int).toNat C_rn.d).frm != (atR R i) || decide ((R.getD (i : Int).toNat C_rn.d).to ≤ (R.getD (i : Int).toNat C_rn.d).frm)) = false := by rw [p1, p2]; rfl
      have r3 : ((R.getD (i : Int).toNat C_rn.d).frm != (atR R i) || decide ((R.getD (i : Int).toNat C_rn.d).to ≤ (R.getD (i : Int).toNat C_rn.d).frm) || decide ((sgN s : Int) < (R.getD (i : Int).toNat C_rn.d).to)) = false := by rw [p1, p2, p3]; rfl
      have r4 : ((R.getD (i : Int).toNat C_rn.d).frm != (atR R i) || decide ((R.getD (i : Int).toNat C_rn.d).to ≤ (R.getD (i : Int).toNat C_rn.d).frm) || decide ((sgN s : Int) < (R.getD (i : Int).toNat C_rn.d).to) || decide ((R.getD (i : Int).toNat C_rn.d).at'.colour < 0)) = false := by rw [p1, p2, p3, p4]; rfl
      clear hok0
      have hto : (R.getD (i : Int).toNat C_rn.d).to = atR R (i + 1) := by rw [atR_succ, hxx]
      repeat' (first | (with_reducible refine ex_of (α := Nat) (i + 1) ⟨⟨?_, hal2⟩, ?_⟩ ?_) | (with_reducible first | exact fun h => h | refine And.intro ?_ ?_) | ((with_reducible intro hq); first | exact bne1 hq (by with_reducible assumption) | exact bne1 (by with_reducible assumption) hq | ((simp only [*, BB, cond_true, cond_false, reduceCtorEq] at hq); done) | (revert hq; with_reducible intro _)) | (with_reducible first | exact True.intro | rfl | refine EntLe.row ?_ | exact LeN.ro rfl | exact LeN.rptr | assumption) | ((with_reducible first | refine WkX.chk ?_ | refine Wk.chk ?_ | refine LeL.chk ?_ | refine LeF.chk ?_ | refine Run.mk ?_); (conv => whnf)) | ((with_reducible show LeO _ _); first | refine LeO.ro ?_ | refine LeO.roCap ?_ | refine LeO.nil ?_ (fun _ => rfl)) | ((with_reducible show LeR _ _ _); first | refine LeR.own rfl rfl rfl ?_ | refine LeR.view rfl rfl rfl ?_ ?_ | refine LeR.ro ?_ | refine LeR.roCap ?_ | refine LeR.nil ?_ (fun _ => rfl)))
      all_goals first
        | omega
        | (apply Fits.i64 <;> omega)
        | (simp only [Bool.not_eq_true']; assumption)
        | (dsimp only; omega)
        | exact hto
        | rfl
        | trace_state
  have hlt : decide ((i : Int) < (R.length : Int)) = false := decide_eq_false (by omega)
  have hii : i = R.length := by omega
  subst hii
  by_cases hat : atR R R.length = (sgN s : Nat)
  case neg =>
    have k1 : (atR R R.length != (sgN s : Int)) = true := by rw [bne_iff_ne]; omega
    have hno := no 1 (hE1 fun h => hat h.2) (by decide)
    obtain ⟨hE, hT, hL⟩ := hno
    repeat' (first | (with_reducible first | exact fun h => h | refine And.intro ?_ ?_) | ((with_reducible intro hq); first | exact bne1 hq (by with_reducible assumption) | exact bne1 (by with_reducible assumption) hq | ((simp only [*, BB, cond_true, cond_false, reduceCtorEq] at hq); done) | (revert hq; with_reducible intro _)) | (with_reducible first | exact True.intro | rfl | refine EntLe.row ?_ | exact LeN.ro rfl | exact LeN.rptr | assumption) | ((with_reducible first | refine WkX.chk ?_ | refine Wk.chk ?_ | refine LeL.chk ?_ | refine LeF.chk ?_ | refine Run.mk ?_); (conv => whnf)) | ((with_reducible show LeO _ _); first | refine LeO.ro ?_ | refine LeO.roCap ?_ | refine LeO.nil ?_ (fun _ => rfl)) | ((with_reducible show LeR _ _ _); first | refine LeR.own rfl rfl rfl ?_ | refine LeR.view rfl rfl rfl ?_ ?_ | refine LeR.ro ?_ | refine LeR.roCap ?_ | refine LeR.nil ?_ (fun _ => rfl)))
    all_goals first
      | exact hE.symm
      | exact hT.symm
      | exact hL.symm
      | omega
      | trace_state
  have k1 : (atR R R.length != (sgN s : Int)) = false := by rw [bne_eq_false_iff_eq]; omega
  have h0 : mkE0 s R = 0 := by unfold mkE0; rw [if_neg hs, if_pos ⟨hal, hat⟩]
  have hE := nrmE_yes (A := sprTo R R.length) h0
  have hT := nrmT_yes (s := s) (A := sprTo R R.length) h0
  have hL := nrmL_yes (A := sprTo R R.length) h0
  have hcol := spr_col hi hal
  have hbN := hbd
  have hAL := hal
  repeat' (first | (with_reducible first | exact fun h => h | refine And.intro ?_ ?_) | ((with_reducible intro hq); first | exact bne1 hq (by with_reducible assumption) | exact bne1 (by with_reducible assumption) hq | ((simp only [*, BB, cond_true, cond_false, reduceCtorEq] at hq); done) | (revert hq; with_reducible intro _)) | (with_reducible first | exact True.intro | rfl | refine EntLe.row ?_ | exact LeN.ro rfl | exact LeN.rptr | assumption) | ((with_reducible first | refine WkX.chk ?_ | refine Wk.chk ?_ | refine LeL.chk ?_ | refine LeF.chk ?_ | refine Run.mk ?_); (conv => whnf)) | ((with_reducible show LeO _ _); first | refine LeO.ro ?_ | refine LeO.roCap ?_ | refine LeO.nil ?_ (fun _ => rfl)) | ((with_reducible show LeR _ _ _); first | refine LeR.own rfl rfl rfl ?_ | refine LeR.view rfl rfl rfl ?_ ?_ | refine LeR.ro ?_ | refine LeR.roCap ?_ | refine LeR.nil ?_ (fun _ => rfl)))
  all_goals (try (first | omega | rfl))
  clear hlt hsl hbd hal
  refine loopI Nat [] (fun i => [(11, .v (.int .i64 (i : Nat))), (10, .own 1)]) (fun i => [(1, .row C_att (sprTo R i) 45 none)]) (fun i => i ≤ R.length) (fun i => R.length - i) 0 (Nat.zero_le _) (Wk.chk ?_) fun i hi2 => ?_
  · ((conv => whnf); repeat' (first | (with_reducible first | exact fun h => h | refine And.intro ?_ ?_) | ((with_reducible intro hq); first | exact bne1 hq (by with_reducible assumption) | exact bne1 (by with_reducible assumption) hq | ((simp only [*, BB, cond_true, cond_false, reduceCtorEq] at hq); done) | (revert hq; with_reducible intro _)) | (with_reducible first | exact True.intro | rfl | refine EntLe.row ?_ | exact LeN.ro rfl | exact LeN.rptr | assumption) | ((with_reducible first | refine WkX.chk ?_ | refine Wk.chk ?_ | refine LeL.chk ?_ | refine LeF.chk ?_ | refine Run.mk ?_); (conv => whnf)) | ((with_reducible show LeO _ _); first | refine LeO.ro ?_ | refine LeO.roCap ?_ | refine LeO.nil ?_ (fun _ => rfl)) | ((with_reducible show LeR _ _ _); first | refine LeR.own rfl rfl rfl ?_ | refine LeR.view rfl rfl rfl ?_ ?_ | refine LeR.ro ?_ | refine LeR.roCap ?_ | refine LeR.nil ?_ (fun _ => rfl))))
    all_goals first
      | rfl
      | trace_state
  have hi2 : i ≤ R.length := hi2
  have e1 : (i : Int).toNat = i := Int.toNat_natCast _
  have hal : allR R (sgN s) i = true := List.all_eq_true.2 fun j hj => allR_at hAL (by have := List.mem_range.1 hj; omega)
  have hbd := atR_bd hal
  have hsl := spr_len hi2 hal
  by_cases hil : i < R.length
  · have hlt : decide ((i : Int) < (R.length : Int)) = true := decide_eq_true (by omega)
    have hxx : (R.getD (i : Int).toNat C_rn.d) = R.getD i zRn := by rw [e1, hd]
    have hok := allR_at hAL hil
    have hst := spr_step hil
    rw [okR_iff, ← hxx] at hok
    obtain ⟨o1, o2, o3, o4⟩ := hok
    repeat' (first | (with_reducible first | exact fun h => h | refine And.intro ?_ ?_) | ((with_reducible intro hq); first | exact bne1 hq (by with_reducible assumption) | exact bne1 (by with_reducible assumption) hq | ((simp only [*, BB, cond_true, cond_false, reduceCtorEq] at hq); done) | (revert hq; with_reducible intro _)) | (with_reducible first | exact True.intro | rfl | refine EntLe.row ?_ | exact LeN.ro rfl | exact LeN.rptr | assumption) | ((with_reducible first | refine WkX.chk ?_ | refine Wk.chk ?_ | refine LeL.chk ?_ | refine LeF.chk ?_ | refine Run.mk ?_); (conv => whnf)) | ((with_reducible show LeO _ _); first | refine LeO.ro ?_ | refine LeO.roCap ?_ | refine LeO.nil ?_ (fun _ => rfl)) | ((with_reducible show LeR _ _ _); first | refine LeR.own rfl rfl rfl ?_ | refine LeR.view rfl rfl rfl ?_ ?_ | refine LeR.ro ?_ | refine LeR.roCap ?_ | refine LeR.nil ?_ (fun _ => rfl)))
    all_goals (try (first | omega | (apply Fits.i64 <;> omega)))
    refine loopI Nat [] (fun k => [(12, .v (.int .i64 ((R.getD (i : Int).toNat C_rn.d).frm + (k : Int)))), (10, .own 1)]) (fun k => [(1, .row C_att (sprTo R i ++ List.replicate k (R.getD (i : Int).toNat C_rn.d).at') 45 none)]) (fun k => (k : Int) ≤ (R.getD (i : Int).toNat C_rn.d).to - (R.getD (i : Int).toNat C_rn.d).frm) (fun k => ((R.getD (i : Int).toNat C_rn.d).to - (R.getD (i : Int).toNat C_rn.d).frm).toNat - k) 0 (by simp only [Int.ofNat_zero]; omega) (Wk.chk ?_) fun k hk => ?_
    · ((conv => whnf); repeat' (first | (with_reducible first | exact fun h => h | refine And.intro ?_ ?_) | ((with_reducible intro hq); first | exact bne1 hq (by with_reducible assumption) | exact bne1 (by with_reducible assumption) hq | ((simp only [*, BB, cond_true, cond_false, reduceCtorEq] at hq); done) | (revert hq; with_reducible intro _)) | (with_reducible first | exact True.intro | rfl | refine EntLe.row ?_ | exact LeN.ro rfl | exact LeN.rptr | assumption) | ((with_reducible first | refine WkX.chk ?_ | refine Wk.chk ?_ | refine LeL.chk ?_ | refine LeF.chk ?_ | refine Run.mk ?_); (conv => whnf)) | ((with_reducible show LeO _ _); first | refine LeO.ro ?_ | refine LeO.roCap ?_ | refine LeO.nil ?_ (fun _ => rfl)) | ((with_reducible show LeR _ _ _); first | refine LeR.own rfl rfl rfl ?_ | refine LeR.view rfl rfl rfl ?_ ?_ | refine LeR.ro ?_ | refine LeR.roCap ?_ | refine LeR.nil ?_ (fun _ => rfl))))
      all_goals first
        | rfl
        | (simp; done)
        | trace_state
    have hk : (k : Int) ≤ (R.getD (i : Int).toNat C_rn.d).to - (R.getD (i : Int).toNat C_rn.d).frm := hk
    have hrl : (sprTo R i ++ List.replicate k (R.getD (i : Int).toNat C_rn.d).at').length = (sprTo R i).length + k := by rw [List.length_append, List.length_replicate]
    by_cases hkl : (k : Int) < (R.getD (i : Int).toNat C_rn.d).to - (R.getD (i : Int).toNat C_rn.d).frm
    · have hlt2 : decide ((R.getD (i : Int).toNat C_rn.d).frm + (k : Int) < (R.getD (i : Int).toNat C_rn.d).to) = true := decide_eq_true (by omega)
      have hsn := rep_snoc (sprTo R i) k (R.getD (i : Int).toNat C_rn.d).at'
      repeat' (first | (with_reducible refine ex_of (α := Nat) (k + 1) ⟨?_, ?_⟩ ?_) | (with_reducible first | exact fun h => h | refine And.intro ?_ ?_) | ((with_reducible intro hq); first | exact bne1 hq (by with_reducible assumption) | exact bne1 (by with_reducible assumption) hq | ((simp only [*, BB, cond_true, cond_false, reduceCtorEq] at hq); done) | (revert hq; with_reducible intro _)) | (with_reducible first | exact True.intro | rfl | refine EntLe.row ?_ | exact LeN.ro rfl | exact LeN.rptr | assumption) | ((with_reducible first | refine WkX.chk ?_ | refine Wk.chk ?_ | refine LeL.chk ?_ | refine LeF.chk ?_ | refine Run.mk ?_); (conv => whnf)) | ((with_reducible show LeO _ _); first | refine LeO.ro ?_ | refine LeO.roCap ?_ | refine LeO.nil ?_ (fun _ => rfl)) | ((with_reducible show LeR _ _ _); first | refine LeR.own rfl rfl rfl ?_ | refine LeR.view rfl rfl rfl ?_ ?_ | refine LeR.ro ?_ | refine LeR.roCap ?_ | refine LeR.nil ?_ (fun _ => rfl)))
      all_goals first
        | omega
        | (apply Fits.i64 <;> omega)
        | (show ((k + 1 : Nat) : Int) ≤ (R.getD (i : Int).toNat C_rn.d).to - (R.getD (i : Int).toNat C_rn.d).frm; omega)
        | (show ((R.getD (i : Int).toNat C_rn.d).to - (R.getD (i : Int).toNat C_rn.d).frm).toNat - (k + 1) < ((R.getD (i : Int).toNat C_rn.d).to - (R.getD (i : Int).toNat C_rn.d).frm).toNat - k; omega)
        | (show ((sprTo R i ++ List.replicate k (R.getD (i : Int).toNat C_rn.d).at').length + 1) * 16 ≤ 140737488355328; omega)
        | exact hsn
        | rfl
        | trace_state
    have hlt2 : decide ((R.getD (i : Int).toNat C_rn.d).frm + (k : Int) < (R.getD (i : Int).toNat C_rn.d).to) = false := decide_eq_false (by omega)
    have hkk : k = ((R.getD (i : Int).toNat C_rn.d).to - (R.getD (i : Int).toNat C_rn.d).frm).toNat := by omega
    have hfin : sprTo R i ++ List.replicate k (R.getD (i : Int).toNat C_rn.d).at' = sprTo R (i + 1) := by rw [hst, hkk, hxx]
    repeat' (first | (with_reducible refine ex_of (α := Nat) (i + 1) ⟨?_, ?_⟩ ?_) | (with_reducible first | exact fun h => h | refine And.intro ?_ ?_) | ((with_reducible intro hq); first | exact bne1 hq (by with_reducible assumption) | exact bne1 (by with_reducible assumption) hq | ((simp only [*, BB, cond_true, cond_false, reduceCtorEq] at hq); done) | (revert hq; with_reducible intro _)) | (with_reducible first | exact True.intro | rfl | refine EntLe.row ?_ | exact LeN.ro rfl | exact LeN.rptr | assumption) | ((with_reducible first | refine WkX.chk ?_ | refine Wk.chk ?_ | refine LeL.chk ?_ | refine LeF.chk ?_ | refine Run.mk ?_); (conv => whnf)) | ((with_reducible show LeO _ _); first | refine LeO.ro ?_ | refine LeO.roCap ?_ | refine LeO.nil ?_ (fun _ => rfl)) | ((with_reducible show LeR _ _ _); first | refine LeR.own rfl rfl rfl ?_ | refine LeR.view rfl rfl rfl ?_ ?_ | refine LeR.ro ?_ | refine LeR.roCap ?_ | refine LeR.nil ?_ (fun _ => rfl)))
    all_goals first
      | omega
      | (apply Fits.i64 <;> omega)
      | (dsimp only; omega)
      | exact hfin
      | rfl
      | trace_state
  have hlt : decide ((i : Int) < (R.length : Int)) = false := decide_eq_false (by omega)
  have hii : i = R.length := by omega
  subst hii
  repeat' (first | (with_reducible refine ⟨(_, _), ⟨(.cons (.v _) (.cons (.own (by with_unfolding_all exact rfl) (by with_unfolding_all exact rfl) (by with_unfolding_all exact rfl)) .nil)), ?_⟩, ?_⟩) | (with_reducible first | exact fun h => h | refine And.intro ?_ ?_) | ((with_reducible intro hq); first | exact bne1 hq (by with_reducible assumption) | exact bne1 (by with_reducible assumption) hq | ((simp only [*, BB, cond_true, cond_false, reduceCtorEq] at hq); done) | (revert hq; with_reducible intro _)) | (with_reducible first | exact True.intro | rfl | refine EntLe.row ?_ | exact LeN.ro rfl | exact LeN.rptr | assumption) | ((with_reducible first | refine WkX.chk ?_ | refine Wk.chk ?_ | refine LeL.chk ?_ | refine LeF.chk ?_ | refine Run.mk ?_); (conv => whnf)) | ((with_reducible show LeO _ _); first | refine LeO.ro ?_ | refine LeO.roCap ?_ | refine LeO.nil ?_ (fun _ => rfl)) | ((with_reducible show LeR _ _ _); first | refine LeR.own rfl rfl rfl ?_ | refine LeR.view rfl rfl rfl ?_ ?_ | refine LeR.ro ?_ | refine LeR.roCap ?_ | refine LeR.nil ?_ (fun _ => rfl)))
  all_goals first
    | omega
    | exact hcol
    | (dsimp only; omega)
    | exact hE.symm
    | exact hT.symm
    | exact hL.symm
    | trace_state
end Go.SX.Try
/- The law StyleMakes: true, whatever the input. -/
namespace Go.SX.Try
open Go.Proofs Go.Proofs.Try Go.SX.Plain
set_option maxRecDepth 100000
set_option maxHeartbeats 0
theorem q_styleMakes : fact 11 f11 := ⟨by kernel_rfl, rfl, by kernel_rfl⟩
abbrev C_rnP : Cdc Rn := { size := C_rn.size, enc := C_rn.enc, dec := C_rn.dec, d := C_rn.d, pl := true }
def D_rnP : Cds := [(76, ⟨Rn, C_rnP⟩)]
theorem D_rnP_ok : CdsOK T D_rnP := .cons ⟨fun _ => rfl, by decide, _, rfl, rfl, by decide⟩ .nil
def mrkR : Rn := ⟨-77, 0, zA⟩
theorem con_styleMakes : Con prog 11 (fun ((s, R) : ByteArray × List Rn) => [.v (.string s), rnR R]) (fun _ => .v (.bool true)) (fun _ => True) := by
  refine Con.of (by kernel_rfl) T_ok D_rnP_ok (.con con_sMake (.con con_rMake (.con con_sameRuns (.con con_sameText (.con con_head7 .nil))))) 5 [] q_styleMakes.1 q_styleMakes.2.1 q_styleMakes.2.2 (fun _ => rfl) fun i _ => ?_
  obtain ⟨s, R⟩ := i
  by_cases hR : 5000 < R.length
  · have k0 : decide ((5000 : Int) < (R.length : Int)) = true := decide_eq_true (by omega)
    repeat' (first | (with_reducible refine ⟨(), ⟨.nil, ?_⟩, ?_⟩) | (with_reducible first | exact fun h => h | refine And.intro ?_ ?_) | ((with_reducible intro hq); first | exact bne1 hq (by with_reducible assumption) | exact bne1 (by with_reducible assumption) hq | ((simp only [*, BB, cond_true, cond_false, reduceCtorEq] at hq); done) | (revert hq; with_reducible intro _)) | (with_reducible first | exact True.intro | rfl | refine EntLe.row ?_ | exact LeN.ro rfl | exact LeN.rptr | assumption) | ((with_reducible first | refine WkX.chk ?_ | refine Wk.chk ?_ | refine LeL.chk ?_ | refine LeF.chk ?_ | refine Run.mk ?_); (conv => whnf)) | ((with_reducible show LeO _ _); first | refine LeO.ro ?_ | refine LeO.roCap ?_ | refine LeO.nil ?_ (fun _ => rfl)) | ((with_reducible show LeR _ _ _); first | refine LeR.own rfl rfl rfl ?_ | refine LeR.view rfl rfl rfl ?_ ?_ | refine LeR.ro ?_ | refine LeR.roCap ?_ | refine LeR.nil ?_ (fun _ => rfl)))
    all_goals first
      | rfl
      | trace_state
  have k0 : decide ((5000 : Int) < (R.length : Int)) = false := decide_eq_false (by omega)
  have hln : (R ++ [mrkR]).length = R.length + 1 := by simp
  have e3 : ((R.length : Int) + 3).toNat = R.length + 3 := by omega
  have hvl : (((R ++ [mrkR]).drop 0).take R.length) = R := by rw [List.drop_zero]; exact snoc_take R mrkR
  have hcl : (nrmL (mkE0 s R) (sprTo R R.length)).length ≤ 256 := nrmL_len
  have hM : (((R ++ [mrkR]).getD (((0 : Nat) : Int) + (R.length : Int)).toNat C_rnP.d).frm == -77) = true := by
    rw [show (((0 : Nat) : Int) + (R.length : Int)).toNat = R.length by omega, snoc_at]
    rfl
  have hTT : (decide (nrmT (mkE0 s R) s (sprTo R R.length) = nrmT (mkE0 s R) s (sprTo R R.length)) && decide (nrmL (mkE0 s R) (sprTo R R.length) = nrmL (mkE0 s R) (sprTo R R.length))) = true := by simp
  have hEE : (nrmE (mkE0 s R) (sprTo R R.length) == nrmE (mkE0 s R) (sprTo R R.length)) = true := by simp
  have hTE : ((decide (nrmT (mkE0 s R) s (sprTo R R.length) = nrmT (mkE0 s R) s (sprTo R R.length)) && decide (nrmL (mkE0 s R) (sprTo R R.length) = nrmL (mkE0 s R) (sprTo R R.length))) && (nrmE (mkE0 s R) (sprTo R R.length) == nrmE (mkE0 s R) (sprTo R R.length))) = true := by rw [hTT, hEE]; rfl
  have hTS : (((decide (nrmT (mkE0 s R) s (sprTo R R.length) = nrmT (mkE0 s R) s (sprTo R R.length)) && decide (nrmL (mkE0 s R) (sprTo R R.length) = nrmL (mkE0 s R) (sprTo R R.length))) && (nrmE (mkE0 s R) (sprTo R R.length) == nrmE (mkE0 s R) (sprTo R R.length))) && true) = true := by rw [hTE]; rfl
  have hQ : ((((decide (nrmT (mkE0 s R) s (sprTo R R.length) = nrmT (mkE0 s R) s (sprTo R R.length)) && decide (nrmL (mkE0 s R) (sprTo R R.length) = nrmL (mkE0 s R) (sprTo R R.length))) && (nrmE (mkE0 s R) (sprTo R R.length) == nrmE (mkE0 s R) (sprTo R R.length))) && true) && (((R ++ [mrkR]).getD (((0 : Nat) : Int) + (R.length : Int)).toNat C_rnP.d).frm == -77)) = true := by rw [hTS, hM]; rfl
  repeat' (first | (with_reducible refine ex_of (α := List Rn) R ⟨rfl, rfl, fun _ => rfl⟩ ?_) | (with_reducible refine ⟨(s, R), ⟨.cons (.v _) (.cons (le_view (by with_unfolding_all exact rfl) (by with_unfolding_all exact rfl) (by with_unfolding_all exact rfl) ?_ ?_) .nil), ?_⟩, ?_⟩) | (with_reducible refine ⟨(s, R), ⟨(.cons (.v _) (.cons (.lent _ _ _ _ _ _) .nil)), ?_⟩, ?_⟩) | (with_reducible refine ⟨(R, R), ⟨.cons (le_view (by with_unfolding_all exact rfl) (by with_unfolding_all exact rfl) (by with_unfolding_all exact rfl) ?_ ?_) (.cons (.lent _ _ _ _ _ _) .nil), ?_⟩, ?_⟩) | (with_reducible refine ⟨(_, _, _, _), ⟨(.cons (.agg (.cons (.v _) (.cons (.lent _ _ _ _ _ _) .nil))) (.cons (.agg (.cons (.v _) (.cons (.lent _ _ _ _ _ _) .nil))) .nil)), ?_⟩, ?_⟩) | (with_reducible refine ⟨(), ⟨.nil, ?_⟩, ?_⟩) | (with_reducible first | exact fun h => h | refine And.intro ?_ ?_) | ((with_reducible intro hq); first | exact bne1 hq (by with_reducible assumption) | exact bne1 (by with_reducible assumption) hq | ((simp only [*, BB, cond_true, cond_false, reduceCtorEq] at hq); done) | (revert hq; with_reducible intro _)) | (with_reducible first | exact True.intro | rfl | refine EntLe.row ?_ | exact LeN.ro rfl | exact LeN.rptr | assumption) | ((with_reducible first | refine WkX.chk ?_ | refine Wk.chk ?_ | refine LeL.chk ?_ | refine LeF.chk ?_ | refine Run.mk ?_); (conv => whnf)) | ((with_reducible show LeO _ _); first | refine LeO.ro ?_ | refine LeO.roCap ?_ | refine LeO.nil ?_ (fun _ => rfl)) | ((with_reducible show LeR _ _ _); first | refine LeR.own rfl rfl rfl ?_ | refine LeR.view rfl rfl rfl ?_ ?_ | refine LeR.ro ?_ | refine LeR.roCap ?_ | refine LeR.nil ?_ (fun _ => rfl)))
  all_goals (try first | omega | (apply Fits.i64 <;> omega) | exact hvl | (dsimp only; omega) | (simp only [List.length_append, List.length_cons, List.length_nil, List.length_replicate, e3]; omega) | rfl)
  all_goals first
    | (rename_i hb; have h2 : false = true := hb.symm.trans hQ; cases h2; done)
    | (rename_i hb; rw [hb]; rfl)
    | trace_state
end Go.SX.Try
/- What runs, as arguments of chapter 7's laws, read as. -/
namespace Go.SX.Try
open Go.Proofs Go.Proofs.Try Go.SX.Plain Go.ChangeShapes Go.WideShapes Go.Deep
set_option maxRecDepth 100000
section
variable {H : Type} {encH : TypeId × Value → H} {w : World} {E : Env}
theorem cells_bool7 : prog.cellsOf 4 = 1 := by kernel_rfl
theorem cells_atr7 : prog.cellsOf 45 = 5 := by kernel_rfl
theorem cells_run7 : prog.cellsOf 76 = 7 := by kernel_rfl
theorem reads_bool7 : Reads encH prog w E 4 (fun a : Bool => [.sb a]) := Reads.bool Try.underlying4
theorem reads_atr7 : Reads encH prog w E 45 C_att.enc :=
  Reads.map (Reads.struct Try.underlying45 cells_atr7 (.cons rfl cells_bool7 reads_bool7 (fun _ => rfl) (.cons rfl cells_bool7 reads_bool7 (fun _ => rfl) (.cons rfl cells_bool7 reads_bool7 (fun _ => rfl) (.cons rfl cells_bool7 reads_bool7 (fun _ => rfl) (.cons rfl cells_int7 reads_int7 (fun _ => rfl) .nil))))))
    (fun x : Bool × Bool × Bool × Bool × Int × Unit => (⟨x.1, x.2.1, x.2.2.1, x.2.2.2.1, x.2.2.2.2.1⟩ : Atr)) (fun _ => rfl)
theorem reads_run7 : Reads encH prog w E 76 C_rn.enc :=
  Reads.map (Reads.struct Try.underlying76 cells_run7 (.cons rfl cells_int7 reads_int7 (fun _ => rfl) (.cons rfl cells_int7 reads_int7 (fun _ => rfl) (.cons rfl cells_atr7 reads_atr7 (fun _ => rfl) .nil))))
    (fun x : Int × Int × Atr × Unit => (⟨x.1, x.2.1, x.2.2.1⟩ : Rn)) (fun _ => rfl)
theorem reads_runs7 (hl : ∀ b, b < w.heap.size → E.lnt b) : Reads encH prog w E 50 (fun l : List Rn => [rnR l]) :=
  Reads.slice Try.underlying50 C_rn.d cells_run7 (by decide) (fun _ => rfl) hl reads_run7
end
end Go.SX.Try
