/- A verified symbolic executor for Go code in the model, contracts and plain laws that the proofs lean on, part 5 of 7. -/
import Derived.Test.YtjmmlngeijdknaaBX4
set_option linter.unusedVariables false
set_option linter.unusedSimpArgs false
/- Contract of the document's table. -/
namespace Go.SX.Try
open Go.Proofs Go.Proofs.Try Go.SX.Plain
set_option maxRecDepth 100000
set_option maxHeartbeats 0
set_option linter.unusedSimpArgs false
theorem q_less : fact 105 f105 := ⟨by kernel_rfl, rfl, by kernel_rfl⟩
theorem q_table : fact 79 f79 := ⟨by kernel_rfl, rfl, by kernel_rfl⟩
abbrev rbAV (x : Rb) : List AV := [.v (.int .i64 x.bad), .v (.int .i64 x.count), .v (.int .i64 x.next)]
def C_rb : Cdc Rb where
  size := 3
  enc := rbAV
  dec l := match l with
    | [.v (.int _ a), .v (.int _ b), .v (.int _ c)] => ⟨a, b, c⟩
    | _ => ⟨0, 0, 0⟩
  d := ⟨0, 0, 0⟩
def D_tb : Cds := [(135, ⟨Rb, C_rb⟩)]
theorem D_tb_ok : CdsOK T D_tb := .cons ⟨fun _ => rfl, by decide, _, rfl, rfl, by decide⟩ .nil
theorem con_less : Con prog 105 (fun ((a, b) : Rb × Rb) => [.agg (rbAV a), .agg (rbAV b)]) (fun (a, b) => .sb (lessB a b)) (fun _ => True) := by
  refine Con.of (by kernel_rfl) T_ok CdsOK.nil .nil 2 [] q_less.1 q_less.2.1 q_less.2.2 (fun _ => rfl) fun i _ => ?_
  obtain ⟨⟨a1, a2, a3⟩, ⟨b1, b2, b3⟩⟩ := i
  repeat' (first | (with_reducible exact fun h => h) | (with_reducible refine ExE.row (by with_unfolding_all rfl) ?_) | (with_reducible refine And.intro ?_ ?_) | ((with_reducible intro hq); first | (exact bne1 hq (by with_reducible assumption)) | (exact bne1 (by with_reducible assumption) hq) | ((simp only [*, Bool.and_true, Bool.true_and, Bool.and_false, Bool.false_and, Bool.or_true, Bool.true_or, Bool.or_false, Bool.false_or, Bool.not_true, Bool.not_false, Bool.true_eq_false, Bool.false_eq_true, cond_true, cond_false, Bool.cond_self, reduceCtorEq] at hq); done) | (revert hq; with_reducible intro _)) | (with_reducible exact True.intro) | (with_reducible rfl) | ((with_reducible refine WkX.chk ?_); (conv => whnf)) | ((with_reducible refine Wk.chk ?_); (conv => whnf)) | (with_reducible refine EntLe.row ?_) | (with_reducible exact LeN.ro rfl) | (with_reducible exact LeN.rptr) | ((with_reducible refine LeL.chk ?_); (conv => whnf)) | ((with_reducible show LeO _ _); (first | (refine LeO.ro ?_) | (refine LeO.roCap ?_) | (refine LeO.nil ?_ (fun _ => rfl)))) | ((with_reducible show LeR _ _ _); (first | (refine LeR.own rfl rfl rfl ?_) | (refine LeR.view rfl rfl rfl ?_ ?_) | (refine LeR.ro ?_) | (refine LeR.roCap ?_) | (refine LeR.nil ?_ (fun _ => rfl)))) | ((with_reducible refine LeF.chk ?_); (conv => whnf)) | (with_reducible assumption) | ((with_reducible refine Run.mk ?_); (conv => whnf)) | ((with_reducible show drawOK _ _ = true); kernel_rfl) | ((with_reducible show drawOK2 _ _ = true); kernel_rfl) | ((with_reducible show drawOK3 _ _ = true); kernel_rfl))
  all_goals simp_all [lessB]
structure OkL (l : List Part) : Prop where
  told : ∀ p ∈ l, Plain.Told p
  small : Small l
  len : l.length ≤ 5000
theorem con_table : Con prog 79 (fun ((l, width) : List Part × Int) => [.ro 4 C_pc.enc C_pc.d (l.map pcOf) none, .v (.int .i64 width)]) (fun (l, width) => .ro 3 C_rb.enc C_rb.d (rtab l width) none) (fun (l, width) => OkL l ∧ 2 ≤ width ∧ width ≤ 200) := by
  refine Con.of (by kernel_rfl) T_ok D_tb_ok (.con con_kinds (.con con_ends (.con con_rblank (.con con_less .nil)))) 3 [21, 24, 31, 36] q_table.1 q_table.2.1 q_table.2.2 (fun _ => rfl) fun i hi => ?_
  obtain ⟨l, width⟩ := i
  obtain ⟨⟨hT, hS, hlen⟩, hw1, hw2⟩ : OkL l ∧ 2 ≤ width ∧ width ≤ 200 := hi
  have hml : (l.map pcOf).length = l.length := by simp
  repeat' (first | (with_reducible refine ⟨_, ⟨(.cons (.ro _ _ _ _ _) .nil), ?_⟩, ?_⟩) | (with_reducible exact fun h => h) | (with_reducible refine ExE.row (by with_unfolding_all rfl) ?_) | (with_reducible refine And.intro ?_ ?_) | ((with_reducible intro hq); first | (exact bne1 hq (by with_reducible assumption)) | (exact bne1 (by with_reducible assumption) hq) | ((simp only [*, Bool.and_true, Bool.true_and, Bool.and_false, Bool.false_and, Bool.or_true, Bool.true_or, Bool.or_false, Bool.false_or, Bool.not_true, Bool.not_false, Bool.true_eq_false, Bool.false_eq_true, cond_true, cond_false, Bool.cond_self, reduceCtorEq] at hq); done) | (revert hq; with_reducible intro _)) | (with_reducible exact True.intro) | (with_reducible rfl) | ((with_reducible refine WkX.chk ?_); (conv => whnf)) | ((with_reducible refine Wk.chk ?_); (conv => whnf)) | (with_reducible refine EntLe.row ?_) | (with_reducible exact LeN.ro rfl) | (with_reducible exact LeN.rptr) | ((with_reducible refine LeL.chk ?_); (conv => whnf)) | ((with_reducible show LeO _ _); (first | (refine LeO.ro ?_) | (refine LeO.roCap ?_) | (refine LeO.nil ?_ (fun _ => rfl)))) | ((with_reducible show LeR _ _ _); (first | (refine LeR.own rfl rfl rfl ?_) | (refine LeR.view rfl rfl rfl ?_ ?_) | (refine LeR.ro ?_) | (refine LeR.roCap ?_) | (refine LeR.nil ?_ (fun _ => rfl)))) | ((with_reducible refine LeF.chk ?_); (conv => whnf)) | (with_reducible assumption) | ((with_reducible refine Run.mk ?_); (conv => whnf)) | ((with_reducible show drawOK _ _ = true); kernel_rfl) | ((with_reducible show drawOK2 _ _ = true); kernel_rfl) | ((with_reducible show drawOK3 _ _ = true); kernel_rfl))
  · dsimp only; omega
  · rw [hml]; refine Fits.i64 ?_ ?_ <;> omega
  · rw [hml]; omega
  · omega
  · rw [hml]; dsimp only; omega
  · rfl
  · rfl
  · rfl
  simp only [hml]
  refine loopI Nat [] (fun c => [(8, .v (.int .i64 ((l.length : Int) - (c : Int))))]) (fun c => [(1, .row C_rb (rt l width c) 135 none)]) (fun c => c ≤ l.length + 1) (fun c => l.length + 1 - c) 0 (Nat.zero_le _) (Wk.chk ?_) fun c hc => ?_
  · ((conv => whnf); repeat' (first | (with_reducible exact fun h => h) | (with_reducible refine ExE.row (by with_unfolding_all rfl) ?_) | (with_reducible refine And.intro ?_ ?_) | ((with_reducible intro hq); first | (exact bne1 hq (by with_reducible assumption)) | (exact bne1 (by with_reducible assumption) hq) | ((simp only [*, Bool.and_true, Bool.true_and, Bool.and_false, Bool.false_and, Bool.or_true, Bool.true_or, Bool.or_false, Bool.false_or, Bool.not_true, Bool.not_false, Bool.true_eq_false, Bool.false_eq_true, cond_true, cond_false, Bool.cond_self, reduceCtorEq] at hq); done) | (revert hq; with_reducible intro _)) | (with_reducible exact True.intro) | (with_reducible rfl) | ((with_reducible refine WkX.chk ?_); (conv => whnf)) | ((with_reducible refine Wk.chk ?_); (conv => whnf)) | (with_reducible refine EntLe.row ?_) | (with_reducible exact LeN.ro rfl) | (with_reducible exact LeN.rptr) | ((with_reducible refine LeL.chk ?_); (conv => whnf)) | ((with_reducible show LeO _ _); (first | (refine LeO.ro ?_) | (refine LeO.roCap ?_) | (refine LeO.nil ?_ (fun _ => rfl)))) | ((with_reducible show LeR _ _ _); (first | (refine LeR.own rfl rfl rfl ?_) | (refine LeR.view rfl rfl rfl ?_ ?_) | (refine LeR.ro ?_) | (refine LeR.roCap ?_) | (refine LeR.nil ?_ (fun _ => rfl)))) | ((with_reducible refine LeF.chk ?_); (conv => whnf)) | (with_reducible assumption) | ((with_reducible refine Run.mk ?_); (conv => whnf)) | ((with_reducible show drawOK _ _ = true); kernel_rfl) | ((with_reducible show drawOK2 _ _ = true); kernel_rfl) | ((with_reducible show drawOK3 _ _ = true); kernel_rfl)))
    · simp
    · simp only [rt]; congr 1
  have hrl := rt_len l width c
  repeat' (first | (with_reducible exact fun h => h) | (with_reducible refine ExE.row (by with_unfolding_all rfl) ?_) | (with_reducible refine And.intro ?_ ?_) | ((with_reducible intro hq); first | (exact bne1 hq (by with_reducible assumption)) | (exact bne1 (by with_reducible assumption) hq) | ((simp only [*, Bool.and_true, Bool.true_and, Bool.and_false, Bool.false_and, Bool.or_true, Bool.true_or, Bool.or_false, Bool.false_or, Bool.not_true, Bool.not_false, Bool.true_eq_false, Bool.false_eq_true, cond_true, cond_false, Bool.cond_self, reduceCtorEq] at hq); done) | (revert hq; with_reducible intro _)) | (with_reducible exact True.intro) | (with_reducible rfl) | ((with_reducible refine WkX.chk ?_); (conv => whnf)) | ((with_reducible refine Wk.chk ?_); (conv => whnf)) | (with_reducible refine EntLe.row ?_) | (with_reducible exact LeN.ro rfl) | (with_reducible exact LeN.rptr) | ((with_reducible refine LeL.chk ?_); (conv => whnf)) | ((with_reducible show LeO _ _); (first | (refine LeO.ro ?_) | (refine LeO.roCap ?_) | (refine LeO.nil ?_ (fun _ => rfl)))) | ((with_reducible show LeR _ _ _); (first | (refine LeR.own rfl rfl rfl ?_) | (refine LeR.view rfl rfl rfl ?_ ?_) | (refine LeR.ro ?_) | (refine LeR.roCap ?_) | (refine LeR.nil ?_ (fun _ => rfl)))) | ((with_reducible refine LeF.chk ?_); (conv => whnf)) | (with_reducible assumption) | ((with_reducible refine Run.mk ?_); (conv => whnf)) | ((with_reducible show drawOK _ _ = true); kernel_rfl) | ((with_reducible show drawOK2 _ _ = true); kernel_rfl) | ((with_reducible show drawOK3 _ _ = true); kernel_rfl))
  · have hc1 : c ≤ l.length := by
      have h : decide (0 ≤ (l.length : Int) - (c : Int)) = true := by assumption
      simp only [decide_eq_true_eq] at h; omega
    obtain ⟨f, hf⟩ : ∃ f, f = l.length - c := ⟨_, rfl⟩
    have hfc : (l.length : Int) - (c : Int) = (f : Int) := by omega
    have hfl : f ≤ l.length := by omega
    rw [hfc]
    have hgd := fun t (ht : f < t) => rt_gd (width := width) hS hw2 c t (by omega) (by omega)
    refine loopI (Nat × Bst) [] (fun | (t, acc) => [(12, .v (.int .i64 (t : Int))), (9, .sb acc.ok), (10, .v (.int .i64 (scan l f (t - 1 - f)).2)), (11, .v (.int .i64 ((scan l f (t - 1 - f)).2 - (scan l f (t - 1 - f)).1)))])
      (fun | (_, acc) => [(1, .row C_rb ((rt l width c).set f (rbOf acc)) 135 none)])
      (fun | (t, acc) => f ≤ t ∧ t ≤ l.length + 1 ∧ GdR l.length f (rbOf acc) ∧ rinner l width (rt l width c) f t acc = rinner l width (rt l width c) f f zB) (fun | (t, _) => l.length + 1 - t) (f, zB) ⟨Nat.le_refl _, by omega, GdR.zero _ _, rfl⟩ (Wk.chk ?_) fun i hi => ?_
    · ((conv => whnf); repeat' (first | (with_reducible exact fun h => h) | (with_reducible refine ExE.row (by with_unfolding_all rfl) ?_) | (with_reducible refine And.intro ?_ ?_) | ((with_reducible intro hq); first | (exact bne1 hq (by with_reducible assumption)) | (exact bne1 (by with_reducible assumption) hq) | ((simp only [*, Bool.and_true, Bool.true_and, Bool.and_false, Bool.false_and, Bool.or_true, Bool.true_or, Bool.or_false, Bool.false_or, Bool.not_true, Bool.not_false, Bool.true_eq_false, Bool.false_eq_true, cond_true, cond_false, Bool.cond_self, reduceCtorEq] at hq); done) | (revert hq; with_reducible intro _)) | (with_reducible exact True.intro) | (with_reducible rfl) | ((with_reducible refine WkX.chk ?_); (conv => whnf)) | ((with_reducible refine Wk.chk ?_); (conv => whnf)) | (with_reducible refine EntLe.row ?_) | (with_reducible exact LeN.ro rfl) | (with_reducible exact LeN.rptr) | ((with_reducible refine LeL.chk ?_); (conv => whnf)) | ((with_reducible show LeO _ _); (first | (refine LeO.ro ?_) | (refine LeO.roCap ?_) | (refine LeO.nil ?_ (fun _ => rfl)))) | ((with_reducible show LeR _ _ _); (first | (refine LeR.own rfl rfl rfl ?_) | (refine LeR.view rfl rfl rfl ?_ ?_) | (refine LeR.ro ?_) | (refine LeR.roCap ?_) | (refine LeR.nil ?_ (fun _ => rfl)))) | ((with_reducible refine LeF.chk ?_); (conv => whnf)) | (with_reducible assumption) | ((with_reducible refine Run.mk ?_); (conv => whnf)) | ((with_reducible show drawOK _ _ = true); kernel_rfl) | ((with_reducible show drawOK2 _ _ = true); kernel_rfl) | ((with_reducible show drawOK3 _ _ = true); kernel_rfl)))
      · rw [show f - 1 - f = 0 by omega]; rfl
      · rw [show f - 1 - f = 0 by omega]; rfl
      · exact (rt_set0 _ _ (by omega)).symm
    obtain ⟨t, acc⟩ := i
    obtain ⟨hi1, hi2, hi3, hi4⟩ := hi
    have e4 : C_pc.d = dPc := rfl
    have e5 : C_rb.d = zR := rfl
    have e6 : C_int.d = 0 := rfl
    have e1 : ((t : Int)).toNat = t := Int.toNat_natCast _
    have e2 : ((t : Int) - 1).toNat = t - 1 := by omega
    have e3 : ((f : Int)).toNat = f := Int.toNat_natCast _
    have e7 : ((l.length : Int) - 1).toNat = l.length - 1 := by omega
    repeat' (first | (with_reducible exact fun h => h) | (with_reducible refine ExE.row (by with_unfolding_all rfl) ?_) | (with_reducible refine And.intro ?_ ?_) | ((with_reducible intro hq); first | (exact bne1 hq (by with_reducible assumption)) | (exact bne1 (by with_reducible assumption) hq) | ((simp only [*, Bool.and_true, Bool.true_and, Bool.and_false, Bool.false_and, Bool.or_true, Bool.true_or, Bool.or_false, Bool.false_or, Bool.not_true, Bool.not_false, Bool.true_eq_false, Bool.false_eq_true, cond_true, cond_false, Bool.cond_self, reduceCtorEq] at hq); done) | (revert hq; with_reducible intro _)) | (with_reducible exact True.intro) | (with_reducible rfl) | ((with_reducible refine WkX.chk ?_); (conv => whnf)) | ((with_reducible refine Wk.chk ?_); (conv => whnf)) | (with_reducible refine EntLe.row ?_) | (with_reducible exact LeN.ro rfl) | (with_reducible exact LeN.rptr) | ((with_reducible refine LeL.chk ?_); (conv => whnf)) | ((with_reducible show LeO _ _); (first | (refine LeO.ro ?_) | (refine LeO.roCap ?_) | (refine LeO.nil ?_ (fun _ => rfl)))) | ((with_reducible show LeR _ _ _); (first | (refine LeR.own rfl rfl rfl ?_) | (refine LeR.view rfl rfl rfl ?_ ?_) | (refine LeR.ro ?_) | (refine LeR.roCap ?_) | (refine LeR.nil ?_ (fun _ => rfl)))) | ((with_reducible refine LeF.chk ?_); (conv => whnf)) | (with_reducible assumption) | ((with_reducible refine Run.mk ?_); (conv => whnf)) | ((with_reducible show drawOK _ _ = true); kernel_rfl) | ((with_reducible show drawOK2 _ _ = true); kernel_rfl) | ((with_reducible show drawOK3 _ _ = true); kernel_rfl))
    · have ht : t ≤ l.length := by
        have h : decide ((t : Int) ≤ (l.length : Int)) = true := by assumption
        simp only [decide_eq_true_eq] at h; omega
      refine joinI Unit [] (fun _ => [(10, .v (.int .i64 (scan l f (t - f)).2)), (11, .v (.int .i64 ((scan l f (t - f)).2 - wAt l f t)))]) (fun _ => []) (fun _ => True) ?_ fun _ _ => ?_
      · have hx : f < t → 0 < t := by omega
        have hsb := scan_bd hS f (t - 1 - f)
        have hcb : 0 ≤ (pcOf (l.getD (t - 1) dPart)).cells ∧ (pcOf (l.getD (t - 1) dPart)).cells ≤ 2 := hS.at (t - 1)
        have htl := fun (h : f < t) => told_at hT (i := t - 1) (by omega)
        have hw' : wAt l f t = (scan l f (t - f)).1 := rfl
        have s1 : f < t → endsP (pcOf (l.getD (t - 1) dPart)) = true → scan l f (t - f) = scan l f (t - 1 - f) := fun h h1 => by
          rw [show t - f = t - 1 + 1 - f by omega]; exact scan_fin (by omega) (by rw [(htl h).fin]; exact h1)
        have s2 : f < t → endsP (pcOf (l.getD (t - 1) dPart)) = false → blankP (pcOf (l.getD (t - 1) dPart)) = true → scan l f (t - f) = ((scan l f (t - 1 - f)).1, (scan l f (t - 1 - f)).2 + (pcOf (l.getD (t - 1) dPart)).cells) := fun h h1 h2 => by
          rw [show t - f = t - 1 + 1 - f by omega]; exact scan_blank (by omega) (by rw [(htl h).fin]; exact h1) (by rw [(htl h).blank]; exact h2)
        have s3 : f < t → endsP (pcOf (l.getD (t - 1) dPart)) = false → blankP (pcOf (l.getD (t - 1) dPart)) = false → scan l f (t - f) = ((scan l f (t - 1 - f)).2 + (pcOf (l.getD (t - 1) dPart)).cells, (scan l f (t - 1 - f)).2 + (pcOf (l.getD (t - 1) dPart)).cells) := fun h h1 h2 => by
          rw [show t - f = t - 1 + 1 - f by omega]; exact scan_ink (by omega) (by rw [(htl h).fin]; exact h1) (by rw [(htl h).blank]; exact h2)
        clear htl
        repeat' (first | (with_reducible refine ⟨⟨_, _, _, _⟩, ⟨(.cons (.agg (.cons (.v _) (.cons (.v _) (.cons (.v _) (.cons (.v _) .nil))))) .nil), ?_⟩, ?_⟩) | (with_reducible refine ex_of () trivial ?_) | (with_reducible exact fun h => h) | (with_reducible refine ExE.row (by with_unfolding_all rfl) ?_) | (with_reducible refine And.intro ?_ ?_) | ((with_reducible intro hq); first | (exact bne1 hq (by with_reducible assumption)) | (exact bne1 (by with_reducible assumption) hq) | ((simp only [*, Bool.and_true, Bool.true_and, Bool.and_false, Bool.false_and, Bool.or_true, Bool.true_or, Bool.or_false, Bool.false_or, Bool.not_true, Bool.not_false, Bool.true_eq_false, Bool.false_eq_true, cond_true, cond_false, Bool.cond_self, reduceCtorEq] at hq); done) | (revert hq; with_reducible intro _)) | (with_reducible exact True.intro) | (with_reducible rfl) | ((with_reducible refine WkX.chk ?_); (conv => whnf)) | ((with_reducible refine Wk.chk ?_); (conv => whnf)) | (with_reducible refine EntLe.row ?_) | (with_reducible exact LeN.ro rfl) | (with_reducible exact LeN.rptr) | ((with_reducible refine LeL.chk ?_); (conv => whnf)) | ((with_reducible show LeO _ _); (first | (refine LeO.ro ?_) | (refine LeO.roCap ?_) | (refine LeO.nil ?_ (fun _ => rfl)))) | ((with_reducible show LeR _ _ _); (first | (refine LeR.own rfl rfl rfl ?_) | (refine LeR.view rfl rfl rfl ?_ ?_) | (refine LeR.ro ?_) | (refine LeR.roCap ?_) | (refine LeR.nil ?_ (fun _ => rfl)))) | ((with_reducible refine LeF.chk ?_); (conv => whnf)) | (with_reducible assumption) | ((with_reducible refine Run.mk ?_); (conv => whnf)) | ((with_reducible show drawOK _ _ = true); kernel_rfl) | ((with_reducible show drawOK2 _ _ = true); kernel_rfl) | ((with_reducible show drawOK3 _ _ = true); kernel_rfl))
        all_goals (try simp only [e1, e2, e3, e4, pc_eta, pc_at, hw', decide_eq_true_eq, decide_eq_false_iff_not] at *)
        all_goals first
          | omega
          | (refine Fits.i64 ?_ ?_ <;> omega)
          | (simp only [List.length_map]; omega)
          | (rw [s1 (by omega) (by assumption)]; done)
          | (rw [s1 (by omega) (by assumption)]; omega)
          | (rw [s2 (by omega) (by assumption) (by assumption)]; done)
          | (rw [s2 (by omega) (by assumption) (by assumption)]; dsimp only; omega)
          | (rw [s3 (by omega) (by assumption) (by assumption)]; done)
          | (rw [s3 (by omega) (by assumption) (by assumption)]; dsimp only; omega)
          | (rw [show t - 1 - f = t - f by omega])
      have hwb := wAt_bd hS f t
      have hsb := scan_bd hS f (t - f)
      have hwu : wAt l f t ≤ 10000 := by unfold wAt; omega
      have e8 : (scan l f (t - f)).2 - ((scan l f (t - f)).2 - wAt l f t) = wAt l f t := by omega
      repeat' (first | (with_reducible refine ex_of (α := Nat) (c + 1) ⟨?_, ?_⟩ ?_) | (with_reducible exact fun h => h) | (with_reducible refine ExE.row (by with_unfolding_all rfl) ?_) | (with_reducible refine And.intro ?_ ?_) | ((with_reducible intro hq); first | (exact bne1 hq (by with_reducible assumption)) | (exact bne1 (by with_reducible assumption) hq) | ((simp only [*, Bool.and_true, Bool.true_and, Bool.and_false, Bool.false_and, Bool.or_true, Bool.true_or, Bool.or_false, Bool.false_or, Bool.not_true, Bool.not_false, Bool.true_eq_false, Bool.false_eq_true, cond_true, cond_false, Bool.cond_self, reduceCtorEq] at hq); done) | (revert hq; with_reducible intro _)) | (with_reducible exact True.intro) | (with_reducible rfl) | ((with_reducible refine WkX.chk ?_); (conv => whnf)) | ((with_reducible refine Wk.chk ?_); (conv => whnf)) | (with_reducible refine EntLe.row ?_) | (with_reducible exact LeN.ro rfl) | (with_reducible exact LeN.rptr) | ((with_reducible refine LeL.chk ?_); (conv => whnf)) | ((with_reducible show LeO _ _); (first | (refine LeO.ro ?_) | (refine LeO.roCap ?_) | (refine LeO.nil ?_ (fun _ => rfl)))) | ((with_reducible show LeR _ _ _); (first | (refine LeR.own rfl rfl rfl ?_) | (refine LeR.view rfl rfl rfl ?_ ?_) | (refine LeR.ro ?_) | (refine LeR.roCap ?_) | (refine LeR.nil ?_ (fun _ => rfl)))) | ((with_reducible refine LeF.chk ?_); (conv => whnf)) | (with_reducible assumption) | ((with_reducible refine Run.mk ?_); (conv => whnf)) | ((with_reducible show drawOK _ _ = true); kernel_rfl) | ((with_reducible show drawOK2 _ _ = true); kernel_rfl) | ((with_reducible show drawOK3 _ _ = true); kernel_rfl))
      all_goals (try simp only [e1, e2, e3, e4, e5, e6, e7, e8, pc_eta, pc_at, decide_eq_true_eq, decide_eq_false_iff_not] at *)
      all_goals first
        | omega
        | (refine Fits.i64 ?_ ?_ <;> omega)
        | (rw [rt_succ hf, ← hi4, rinner_full ht (by omega)]; done)
        | skip
      have e4 : C_pc.d = dPc := rfl
      have e5 : C_rb.d = zR := rfl
      have e6 : C_int.d = 0 := rfl
      have e1 : ((t : Int)).toNat = t := Int.toNat_natCast _
      have e3 : ((f : Int)).toNat = f := Int.toNat_natCast _
      have e7 : ((l.length : Int) - 1).toNat = l.length - 1 := by omega
      refine joinI Unit [] (fun _ => [(15, .sb (lastB l f t))]) (fun _ => []) (fun _ => True) ?_ fun _ _ => ?_
      · repeat' (first | (with_reducible refine ⟨⟨_, _, _, _⟩, ⟨(.cons (.agg (.cons (.v _) (.cons (.v _) (.cons (.v _) (.cons (.v _) .nil))))) .nil), ?_⟩, ?_⟩) | (with_reducible refine ex_of () trivial ?_) | (with_reducible exact fun h => h) | (with_reducible refine ExE.row (by with_unfolding_all rfl) ?_) | (with_reducible refine And.intro ?_ ?_) | ((with_reducible intro hq); first | (exact bne1 hq (by with_reducible assumption)) | (exact bne1 (by with_reducible assumption) hq) | ((simp only [*, Bool.and_true, Bool.true_and, Bool.and_false, Bool.false_and, Bool.or_true, Bool.true_or, Bool.or_false, Bool.false_or, Bool.not_true, Bool.not_false, Bool.true_eq_false, Bool.false_eq_true, cond_true, cond_false, Bool.cond_self, reduceCtorEq] at hq); done) | (revert hq; with_reducible intro _)) | (with_reducible exact True.intro) | (with_reducible rfl) | ((with_reducible refine WkX.chk ?_); (conv => whnf)) | ((with_reducible refine Wk.chk ?_); (conv => whnf)) | (with_reducible refine EntLe.row ?_) | (with_reducible exact LeN.ro rfl) | (with_reducible exact LeN.rptr) | ((with_reducible refine LeL.chk ?_); (conv => whnf)) | ((with_reducible show LeO _ _); (first | (refine LeO.ro ?_) | (refine LeO.roCap ?_) | (refine LeO.nil ?_ (fun _ => rfl)))) | ((with_reducible show LeR _ _ _); (first | (refine LeR.own rfl rfl rfl ?_) | (refine LeR.view rfl rfl rfl ?_ ?_) | (refine LeR.ro ?_) | (refine LeR.roCap ?_) | (refine LeR.nil ?_ (fun _ => rfl)))) | ((with_reducible refine LeF.chk ?_); (conv => whnf)) | (with_reducible assumption) | ((with_reducible refine Run.mk ?_); (conv => whnf)) | ((with_reducible show drawOK _ _ = true); kernel_rfl) | ((with_reducible show drawOK2 _ _ = true); kernel_rfl) | ((with_reducible show drawOK3 _ _ = true); kernel_rfl))
        all_goals (try simp only [e7, pc_eta, pc_at, natBeq] at *)
        all_goals first
          | (simp only [Bool.and_eq_true, decide_eq_true_eq, Bool.not_eq_true', decide_eq_false_iff_not] at *
             refine Fits.i64 ?_ ?_ <;> omega)
          | (simp only [Bool.and_eq_true, decide_eq_true_eq, Bool.not_eq_true', decide_eq_false_iff_not] at *
             omega)
          | (simp only [Bool.and_eq_true, decide_eq_true_eq, Bool.not_eq_true', decide_eq_false_iff_not, List.length_map] at *
             omega)
          | exact lastB_1 hT hfl
          | exact lastB_2 (by assumption)
          | (simp_all; done)
      have hw : wAt l f t ≤ width := by omega
      have hsq := sq_bd (x := width - wAt l f t) (y := 200) (by omega) (by omega)
      have hkl := kindsP_len (l.map pcOf)
      rw [hml] at hkl
      have e8 : ((rt l width c).set f (rbOf acc)).getD f zR = rbOf acc := Go.SX.Plain.getD_set_eq _ _ _ _ (by omega)
      have hs1 : ((rt l width c).set f (rbOf acc)).length = l.length + 1 := by rw [List.length_set, hrl]
      by_cases hft : f < t
      · have e9 : ((rt l width c).set f (rbOf acc)).getD t zR = (rt l width c).getD t zR := Go.SX.Plain.getD_set_ne _ _ _ _ _ (by omega)
        have e10 : (kindsP (l.map pcOf)).getD t 0 = kindAt l t := by
          rw [kindsP_get (by omega) (by omega)]; exact kindP_eq hT (by omega) ht
        have g1 := (hgd t hft).b0
        have g2 : ((rt l width c).getD t zR).bad ≤ 10100000000 := by have := (hgd t hft).b1; omega
        have g3 := (hgd t hft).p0
        have g4 : ((rt l width c).getD t zR).count ≤ 5050 := by have := (hgd t hft).p1; omega
        repeat' (first | (with_reducible exact fun h => h) | (with_reducible refine ExE.row (by with_unfolding_all rfl) ?_) | (with_reducible refine And.intro ?_ ?_) | ((with_reducible intro hq); first | (exact bne1 hq (by with_reducible assumption)) | (exact bne1 (by with_reducible assumption) hq) | ((simp only [*, Bool.and_true, Bool.true_and, Bool.and_false, Bool.false_and, Bool.or_true, Bool.true_or, Bool.or_false, Bool.false_or, Bool.not_true, Bool.not_false, Bool.true_eq_false, Bool.false_eq_true, cond_true, cond_false, Bool.cond_self, reduceCtorEq] at hq); done) | (revert hq; with_reducible intro _)) | (with_reducible exact True.intro) | (with_reducible rfl) | ((with_reducible refine WkX.chk ?_); (conv => whnf)) | ((with_reducible refine Wk.chk ?_); (conv => whnf)) | (with_reducible refine EntLe.row ?_) | (with_reducible exact LeN.ro rfl) | (with_reducible exact LeN.rptr) | ((with_reducible refine LeL.chk ?_); (conv => whnf)) | ((with_reducible show LeO _ _); (first | (refine LeO.ro ?_) | (refine LeO.roCap ?_) | (refine LeO.nil ?_ (fun _ => rfl)))) | ((with_reducible show LeR _ _ _); (first | (refine LeR.own rfl rfl rfl ?_) | (refine LeR.view rfl rfl rfl ?_ ?_) | (refine LeR.ro ?_) | (refine LeR.roCap ?_) | (refine LeR.nil ?_ (fun _ => rfl)))) | ((with_reducible refine LeF.chk ?_); (conv => whnf)) | (with_reducible assumption) | ((with_reducible refine Run.mk ?_); (conv => whnf)) | ((with_reducible show drawOK _ _ = true); kernel_rfl) | ((with_reducible show drawOK2 _ _ = true); kernel_rfl) | ((with_reducible show drawOK3 _ _ = true); kernel_rfl))
        refine joinI Bst [] (fun a => [(9, .sb a.ok)]) (fun a => [(1, .row C_rb ((rt l width c).set f (rbOf a)) 135 none)]) (fun a => a = racc1 l width (rt l width c) f t acc) ?_ fun a ha => ?_
        · repeat' (first | (with_reducible refine ex_eq ?_) | (with_reducible refine ⟨(⟨_, _, _⟩, ⟨_, _, _⟩), ⟨(.cons (.agg (.cons (.v _) (.cons (.v _) (.cons (.v _) .nil)))) (.cons (.agg (.cons (.v _) (.cons (.v _) (.cons (.v _) .nil)))) .nil)), ?_⟩, ?_⟩) | (with_reducible exact fun h => h) | (with_reducible refine ExE.row (by with_unfolding_all rfl) ?_) | (with_reducible refine And.intro ?_ ?_) | ((with_reducible intro hq); first | (exact bne1 hq (by with_reducible assumption)) | (exact bne1 (by with_reducible assumption) hq) | ((simp only [*, Bool.and_true, Bool.true_and, Bool.and_false, Bool.false_and, Bool.or_true, Bool.true_or, Bool.or_false, Bool.false_or, Bool.not_true, Bool.not_false, Bool.true_eq_false, Bool.false_eq_true, cond_true, cond_false, Bool.cond_self, reduceCtorEq] at hq); done) | (revert hq; with_reducible intro _)) | (with_reducible exact True.intro) | (with_reducible rfl) | ((with_reducible refine WkX.chk ?_); (conv => whnf)) | ((with_reducible refine Wk.chk ?_); (conv => whnf)) | (with_reducible refine EntLe.row ?_) | (with_reducible exact LeN.ro rfl) | (with_reducible exact LeN.rptr) | ((with_reducible refine LeL.chk ?_); (conv => whnf)) | ((with_reducible show LeO _ _); (first | (refine LeO.ro ?_) | (refine LeO.roCap ?_) | (refine LeO.nil ?_ (fun _ => rfl)))) | ((with_reducible show LeR _ _ _); (first | (refine LeR.own rfl rfl rfl ?_) | (refine LeR.view rfl rfl rfl ?_ ?_) | (refine LeR.ro ?_) | (refine LeR.roCap ?_) | (refine LeR.nil ?_ (fun _ => rfl)))) | ((with_reducible refine LeF.chk ?_); (conv => whnf)) | (with_reducible assumption) | ((with_reducible refine Run.mk ?_); (conv => whnf)) | ((with_reducible show drawOK _ _ = true); kernel_rfl) | ((with_reducible show drawOK2 _ _ = true); kernel_rfl) | ((with_reducible show drawOK3 _ _ = true); kernel_rfl))
          all_goals (try simp only [e1, e3, e5, e8, e9, e10, hs1, hkl, decide_eq_true_eq, decide_eq_false_iff_not, Bool.and_eq_true, Bool.and_eq_false_iff, beq_iff_eq, beq_eq_false_iff_ne, ne_eq, Bool.not_not] at *)
          all_goals first
            | omega
            | (refine Fits.i64 ?_ ?_ <;> omega)
            | rfl
            | (simp_all; done)
            | (rw [racc1_yes ⟨by omega, by omega⟩ (by rw [rcand_cut (by assumption)]; assumption)]; first | (rw [rcand_cut (by assumption), List.set_set]; rfl) | rfl)
            | (rw [racc1_yes ⟨by omega, by omega⟩ (by rw [rcand_not (by assumption)]; assumption)]; first | (rw [rcand_not (by assumption), List.set_set]; rfl) | rfl)
            | (rw [racc1_yes ⟨by omega, by omega⟩ (by rw [show acc.ok = false by assumption]; rfl)]; first | (rw [rcand_cut (by assumption), List.set_set]; rfl) | (rw [rcand_not (by assumption), List.set_set]; rfl) | rfl)
            | (rw [racc1_keep ⟨by omega, by omega⟩ (by rw [rcand_cut (by assumption)]; assumption)]; done)
            | (rw [racc1_keep ⟨by omega, by omega⟩ (by rw [rcand_not (by assumption)]; assumption)]; done)
            | (rw [racc1_no (by omega)]; done)
        clear e8 hs1
        repeat' (first | (with_reducible exact fun h => h) | (with_reducible refine ExE.row (by with_unfolding_all rfl) ?_) | (with_reducible refine And.intro ?_ ?_) | ((with_reducible intro hq); first | (exact bne1 hq (by with_reducible assumption)) | (exact bne1 (by with_reducible assumption) hq) | ((simp only [*, Bool.and_true, Bool.true_and, Bool.and_false, Bool.false_and, Bool.or_true, Bool.true_or, Bool.or_false, Bool.false_or, Bool.not_true, Bool.not_false, Bool.true_eq_false, Bool.false_eq_true, cond_true, cond_false, Bool.cond_self, reduceCtorEq] at hq); done) | (revert hq; with_reducible intro _)) | (with_reducible exact True.intro) | (with_reducible rfl) | ((with_reducible refine WkX.chk ?_); (conv => whnf)) | ((with_reducible refine Wk.chk ?_); (conv => whnf)) | (with_reducible refine EntLe.row ?_) | (with_reducible exact LeN.ro rfl) | (with_reducible exact LeN.rptr) | ((with_reducible refine LeL.chk ?_); (conv => whnf)) | ((with_reducible show LeO _ _); (first | (refine LeO.ro ?_) | (refine LeO.roCap ?_) | (refine LeO.nil ?_ (fun _ => rfl)))) | ((with_reducible show LeR _ _ _); (first | (refine LeR.own rfl rfl rfl ?_) | (refine LeR.view rfl rfl rfl ?_ ?_) | (refine LeR.ro ?_) | (refine LeR.roCap ?_) | (refine LeR.nil ?_ (fun _ => rfl)))) | ((with_reducible refine LeF.chk ?_); (conv => whnf)) | (with_reducible assumption) | ((with_reducible refine Run.mk ?_); (conv => whnf)) | ((with_reducible show drawOK _ _ = true); kernel_rfl) | ((with_reducible show drawOK2 _ _ = true); kernel_rfl) | ((with_reducible show drawOK3 _ _ = true); kernel_rfl))
        refine joinI Bst [] (fun a => [(9, .sb a.ok)]) (fun a => [(1, .row C_rb ((rt l width c).set f (rbOf a)) 135 none)]) (fun a => a = racc2 l width (rt l width c) f t acc) ?_ fun a2 ha2 => ?_
        · have e8 : ((rt l width c).set f (rbOf a)).getD f zR = rbOf a := Go.SX.Plain.getD_set_eq _ _ _ _ (by omega)
          have hs1 : ((rt l width c).set f (rbOf a)).length = l.length + 1 := by rw [List.length_set, hrl]
          repeat' (first | (with_reducible refine ex_eq ?_) | (with_reducible refine ⟨(⟨_, _, _⟩, ⟨_, _, _⟩), ⟨(.cons (.agg (.cons (.v _) (.cons (.v _) (.cons (.v _) .nil)))) (.cons (.agg (.cons (.v _) (.cons (.v _) (.cons (.v _) .nil)))) .nil)), ?_⟩, ?_⟩) | (with_reducible exact fun h => h) | (with_reducible refine ExE.row (by with_unfolding_all rfl) ?_) | (with_reducible refine And.intro ?_ ?_) | ((with_reducible intro hq); first | (exact bne1 hq (by with_reducible assumption)) | (exact bne1 (by with_reducible assumption) hq) | ((simp only [*, Bool.and_true, Bool.true_and, Bool.and_false, Bool.false_and, Bool.or_true, Bool.true_or, Bool.or_false, Bool.false_or, Bool.not_true, Bool.not_false, Bool.true_eq_false, Bool.false_eq_true, cond_true, cond_false, Bool.cond_self, reduceCtorEq] at hq); done) | (revert hq; with_reducible intro _)) | (with_reducible exact True.intro) | (with_reducible rfl) | ((with_reducible refine WkX.chk ?_); (conv => whnf)) | ((with_reducible refine Wk.chk ?_); (conv => whnf)) | (with_reducible refine EntLe.row ?_) | (with_reducible exact LeN.ro rfl) | (with_reducible exact LeN.rptr) | ((with_reducible refine LeL.chk ?_); (conv => whnf)) | ((with_reducible show LeO _ _); (first | (refine LeO.ro ?_) | (refine LeO.roCap ?_) | (refine LeO.nil ?_ (fun _ => rfl)))) | ((with_reducible show LeR _ _ _); (first | (refine LeR.own rfl rfl rfl ?_) | (refine LeR.view rfl rfl rfl ?_ ?_) | (refine LeR.ro ?_) | (refine LeR.roCap ?_) | (refine LeR.nil ?_ (fun _ => rfl)))) | ((with_reducible refine LeF.chk ?_); (conv => whnf)) | (with_reducible assumption) | ((with_reducible refine Run.mk ?_); (conv => whnf)) | ((with_reducible show drawOK _ _ = true); kernel_rfl) | ((with_reducible show drawOK2 _ _ = true); kernel_rfl) | ((with_reducible show drawOK3 _ _ = true); kernel_rfl))
          all_goals (try simp only [e1, e3, e5, e8, hs1, Bool.not_not] at *)
          all_goals first
            | omega
            | (refine Fits.i64 ?_ ?_ <;> omega)
            | rfl
            | (simp_all; done)
            | (rw [racc2_yes' ha (by assumption) (by assumption)]; done)
            | (rw [racc2_yes' ha (by assumption) (by assumption)]; rw [List.set_set]; rfl)
            | (rw [racc2_yes0 ha (by assumption) (by assumption)]; done)
            | (rw [racc2_yes0 ha (by assumption) (by assumption)]; rw [List.set_set]; rfl)
            | (rw [racc2_keep' ha (by assumption) (by assumption)]; done)
            | (rw [racc2_no' ha (by assumption)]; done)
        have hga := GdR.acc2 hS hw2 hw hfl ht (hgd t) hi3
        repeat' (first | (with_reducible refine ex_of (α := Nat) (c + 1) ⟨?_, ?_⟩ ?_) | (with_reducible refine ex_of (α := Nat × Bst) (t + 1, a2) ⟨⟨?_, ?_, ?_, ?_⟩, ?_⟩ ?_) | (with_reducible exact fun h => h) | (with_reducible refine ExE.row (by with_unfolding_all rfl) ?_) | (with_reducible refine And.intro ?_ ?_) | ((with_reducible intro hq); first | (exact bne1 hq (by with_reducible assumption)) | (exact bne1 (by with_reducible assumption) hq) | ((simp only [*, Bool.and_true, Bool.true_and, Bool.and_false, Bool.false_and, Bool.or_true, Bool.true_or, Bool.or_false, Bool.false_or, Bool.not_true, Bool.not_false, Bool.true_eq_false, Bool.false_eq_true, cond_true, cond_false, Bool.cond_self, reduceCtorEq] at hq); done) | (revert hq; with_reducible intro _)) | (with_reducible exact True.intro) | (with_reducible rfl) | ((with_reducible refine WkX.chk ?_); (conv => whnf)) | ((with_reducible refine Wk.chk ?_); (conv => whnf)) | (with_reducible refine EntLe.row ?_) | (with_reducible exact LeN.ro rfl) | (with_reducible exact LeN.rptr) | ((with_reducible refine LeL.chk ?_); (conv => whnf)) | ((with_reducible show LeO _ _); (first | (refine LeO.ro ?_) | (refine LeO.roCap ?_) | (refine LeO.nil ?_ (fun _ => rfl)))) | ((with_reducible show LeR _ _ _); (first | (refine LeR.own rfl rfl rfl ?_) | (refine LeR.view rfl rfl rfl ?_ ?_) | (refine LeR.ro ?_) | (refine LeR.roCap ?_) | (refine LeR.nil ?_ (fun _ => rfl)))) | ((with_reducible refine LeF.chk ?_); (conv => whnf)) | (with_reducible assumption) | ((with_reducible refine Run.mk ?_); (conv => whnf)) | ((with_reducible show drawOK _ _ = true); kernel_rfl) | ((with_reducible show drawOK2 _ _ = true); kernel_rfl) | ((with_reducible show drawOK3 _ _ = true); kernel_rfl))
        all_goals (try simp only [e1, e10, hkl, decide_eq_true_eq, decide_eq_false_iff_not, Bool.and_eq_true, Bool.and_eq_false_iff, beq_iff_eq, beq_eq_false_iff_ne, ne_eq] at *)
        all_goals first
          | omega
          | (refine Fits.i64 ?_ ?_ <;> omega)
          | (rw [rt_succ hf, ← hi4, rinner_stop ht hw ⟨by omega, by omega⟩, ← ha2]; done)
          | (rw [ha2]; exact hga)
          | (rw [ha2, ← rinner_on ht hw (by omega)]; exact hi4)
          | rfl
      · repeat' (first | (with_reducible exact fun h => h) | (with_reducible refine ExE.row (by with_unfolding_all rfl) ?_) | (with_reducible refine And.intro ?_ ?_) | ((with_reducible intro hq); first | (exact bne1 hq (by with_reducible assumption)) | (exact bne1 (by with_reducible assumption) hq) | ((simp only [*, Bool.and_true, Bool.true_and, Bool.and_false, Bool.false_and, Bool.or_true, Bool.true_or, Bool.or_false, Bool.false_or, Bool.not_true, Bool.not_false, Bool.true_eq_false, Bool.false_eq_true, cond_true, cond_false, Bool.cond_self, reduceCtorEq] at hq); done) | (revert hq; with_reducible intro _)) | (with_reducible exact True.intro) | (with_reducible rfl) | ((with_reducible refine WkX.chk ?_); (conv => whnf)) | ((with_reducible refine Wk.chk ?_); (conv => whnf)) | (with_reducible refine EntLe.row ?_) | (with_reducible exact LeN.ro rfl) | (with_reducible exact LeN.rptr) | ((with_reducible refine LeL.chk ?_); (conv => whnf)) | ((with_reducible show LeO _ _); (first | (refine LeO.ro ?_) | (refine LeO.roCap ?_) | (refine LeO.nil ?_ (fun _ => rfl)))) | ((with_reducible show LeR _ _ _); (first | (refine LeR.own rfl rfl rfl ?_) | (refine LeR.view rfl rfl rfl ?_ ?_) | (refine LeR.ro ?_) | (refine LeR.roCap ?_) | (refine LeR.nil ?_ (fun _ => rfl)))) | ((with_reducible refine LeF.chk ?_); (conv => whnf)) | (with_reducible assumption) | ((with_reducible refine Run.mk ?_); (conv => whnf)) | ((with_reducible show drawOK _ _ = true); kernel_rfl) | ((with_reducible show drawOK2 _ _ = true); kernel_rfl) | ((with_reducible show drawOK3 _ _ = true); kernel_rfl))
        refine joinI Bst [] (fun a => [(9, .sb a.ok)]) (fun a => [(1, .row C_rb ((rt l width c).set f (rbOf a)) 135 none)]) (fun a => a = racc1 l width (rt l width c) f t acc) ?_ fun a ha => ?_
        · have hnd : decide ((f : Int) < (t : Int)) = false := decide_eq_false (by omega)
          repeat' (first | (with_reducible refine ex_eq ?_) | (with_reducible refine ⟨(⟨_, _, _⟩, ⟨_, _, _⟩), ⟨(.cons (.agg (.cons (.v _) (.cons (.v _) (.cons (.v _) .nil)))) (.cons (.agg (.cons (.v _) (.cons (.v _) (.cons (.v _) .nil)))) .nil)), ?_⟩, ?_⟩) | (with_reducible exact fun h => h) | (with_reducible refine ExE.row (by with_unfolding_all rfl) ?_) | (with_reducible refine And.intro ?_ ?_) | ((with_reducible intro hq); first | (exact bne1 hq (by with_reducible assumption)) | (exact bne1 (by with_reducible assumption) hq) | ((simp only [*, Bool.and_true, Bool.true_and, Bool.and_false, Bool.false_and, Bool.or_true, Bool.true_or, Bool.or_false, Bool.false_or, Bool.not_true, Bool.not_false, Bool.true_eq_false, Bool.false_eq_true, cond_true, cond_false, Bool.cond_self, reduceCtorEq] at hq); done) | (revert hq; with_reducible intro _)) | (with_reducible exact True.intro) | (with_reducible rfl) | ((with_reducible refine WkX.chk ?_); (conv => whnf)) | ((with_reducible refine Wk.chk ?_); (conv => whnf)) | (with_reducible refine EntLe.row ?_) | (with_reducible exact LeN.ro rfl) | (with_reducible exact LeN.rptr) | ((with_reducible refine LeL.chk ?_); (conv => whnf)) | ((with_reducible show LeO _ _); (first | (refine LeO.ro ?_) | (refine LeO.roCap ?_) | (refine LeO.nil ?_ (fun _ => rfl)))) | ((with_reducible show LeR _ _ _); (first | (refine LeR.own rfl rfl rfl ?_) | (refine LeR.view rfl rfl rfl ?_ ?_) | (refine LeR.ro ?_) | (refine LeR.roCap ?_) | (refine LeR.nil ?_ (fun _ => rfl)))) | ((with_reducible refine LeF.chk ?_); (conv => whnf)) | (with_reducible assumption) | ((with_reducible refine Run.mk ?_); (conv => whnf)) | ((with_reducible show drawOK _ _ = true); kernel_rfl) | ((with_reducible show drawOK2 _ _ = true); kernel_rfl) | ((with_reducible show drawOK3 _ _ = true); kernel_rfl))
          all_goals first
            | (rw [racc1_no (by omega)]; done)
            | (exfalso; have h9 : (decide ((f : Int) < (t : Int)) && decide (0 < (kindsP (l.map pcOf)).getD ((t : Int)).toNat 0)) = true := by assumption
               rw [hnd, Bool.false_and] at h9; cases h9)
        clear e8 hs1
        have hnd : decide ((f : Int) < (t : Int)) = false := decide_eq_false (by omega)
        repeat' (first | (with_reducible exact fun h => h) | (with_reducible refine ExE.row (by with_unfolding_all rfl) ?_) | (with_reducible refine And.intro ?_ ?_) | ((with_reducible intro hq); first | (exact bne1 hq (by with_reducible assumption)) | (exact bne1 (by with_reducible assumption) hq) | ((simp only [*, Bool.and_true, Bool.true_and, Bool.and_false, Bool.false_and, Bool.or_true, Bool.true_or, Bool.or_false, Bool.false_or, Bool.not_true, Bool.not_false, Bool.true_eq_false, Bool.false_eq_true, cond_true, cond_false, Bool.cond_self, reduceCtorEq] at hq); done) | (revert hq; with_reducible intro _)) | (with_reducible exact True.intro) | (with_reducible rfl) | ((with_reducible refine WkX.chk ?_); (conv => whnf)) | ((with_reducible refine Wk.chk ?_); (conv => whnf)) | (with_reducible refine EntLe.row ?_) | (with_reducible exact LeN.ro rfl) | (with_reducible exact LeN.rptr) | ((with_reducible refine LeL.chk ?_); (conv => whnf)) | ((with_reducible show LeO _ _); (first | (refine LeO.ro ?_) | (refine LeO.roCap ?_) | (refine LeO.nil ?_ (fun _ => rfl)))) | ((with_reducible show LeR _ _ _); (first | (refine LeR.own rfl rfl rfl ?_) | (refine LeR.view rfl rfl rfl ?_ ?_) | (refine LeR.ro ?_) | (refine LeR.roCap ?_) | (refine LeR.nil ?_ (fun _ => rfl)))) | ((with_reducible refine LeF.chk ?_); (conv => whnf)) | (with_reducible assumption) | ((with_reducible refine Run.mk ?_); (conv => whnf)) | ((with_reducible show drawOK _ _ = true); kernel_rfl) | ((with_reducible show drawOK2 _ _ = true); kernel_rfl) | ((with_reducible show drawOK3 _ _ = true); kernel_rfl))
        refine joinI Bst [] (fun a => [(9, .sb a.ok)]) (fun a => [(1, .row C_rb ((rt l width c).set f (rbOf a)) 135 none)]) (fun a => a = racc2 l width (rt l width c) f t acc) ?_ fun a2 ha2 => ?_
        · have e8 : ((rt l width c).set f (rbOf a)).getD f zR = rbOf a := Go.SX.Plain.getD_set_eq _ _ _ _ (by omega)
          have hs1 : ((rt l width c).set f (rbOf a)).length = l.length + 1 := by rw [List.length_set, hrl]
          repeat' (first | (with_reducible refine ex_eq ?_) | (with_reducible refine ⟨(⟨_, _, _⟩, ⟨_, _, _⟩), ⟨(.cons (.agg (.cons (.v _) (.cons (.v _) (.cons (.v _) .nil)))) (.cons (.agg (.cons (.v _) (.cons (.v _) (.cons (.v _) .nil)))) .nil)), ?_⟩, ?_⟩) | (with_reducible exact fun h => h) | (with_reducible refine ExE.row (by with_unfolding_all rfl) ?_) | (with_reducible refine And.intro ?_ ?_) | ((with_reducible intro hq); first | (exact bne1 hq (by with_reducible assumption)) | (exact bne1 (by with_reducible assumption) hq) | ((simp only [*, Bool.and_true, Bool.true_and, Bool.and_false, Bool.false_and, Bool.or_true, Bool.true_or, Bool.or_false, Bool.false_or, Bool.not_true, Bool.not_false, Bool.true_eq_false, Bool.false_eq_true, cond_true, cond_false, Bool.cond_self, reduceCtorEq] at hq); done) | (revert hq; with_reducible intro _)) | (with_reducible exact True.intro) | (with_reducible rfl) | ((with_reducible refine WkX.chk ?_); (conv => whnf)) | ((with_reducible refine Wk.chk ?_); (conv => whnf)) | (with_reducible refine EntLe.row ?_) | (with_reducible exact LeN.ro rfl) | (with_reducible exact LeN.rptr) | ((with_reducible refine LeL.chk ?_); (conv => whnf)) | ((with_reducible show LeO _ _); (first | (refine LeO.ro ?_) | (refine LeO.roCap ?_) | (refine LeO.nil ?_ (fun _ => rfl)))) | ((with_reducible show LeR _ _ _); (first | (refine LeR.own rfl rfl rfl ?_) | (refine LeR.view rfl rfl rfl ?_ ?_) | (refine LeR.ro ?_) | (refine LeR.roCap ?_) | (refine LeR.nil ?_ (fun _ => rfl)))) | ((with_reducible refine LeF.chk ?_); (conv => whnf)) | (with_reducible assumption) | ((with_reducible refine Run.mk ?_); (conv => whnf)) | ((with_reducible show drawOK _ _ = true); kernel_rfl) | ((with_reducible show drawOK2 _ _ = true); kernel_rfl) | ((with_reducible show drawOK3 _ _ = true); kernel_rfl))
          all_goals (try simp only [e1, e3, e5, e8, hs1, Bool.not_not] at *)
          all_goals first
            | omega
            | (refine Fits.i64 ?_ ?_ <;> omega)
            | rfl
            | (simp_all; done)
            | (rw [racc2_yes' ha (by assumption) (by assumption)]; done)
            | (rw [racc2_yes' ha (by assumption) (by assumption)]; rw [List.set_set]; rfl)
            | (rw [racc2_yes0 ha (by assumption) (by assumption)]; done)
            | (rw [racc2_yes0 ha (by assumption) (by assumption)]; rw [List.set_set]; rfl)
            | (rw [racc2_keep' ha (by assumption) (by assumption)]; done)
            | (rw [racc2_no' ha (by assumption)]; done)
        have hga := GdR.acc2 hS hw2 hw hfl ht (hgd t) hi3
        repeat' (first | (with_reducible refine ex_of (α := Nat) (c + 1) ⟨?_, ?_⟩ ?_) | (with_reducible refine ex_of (α := Nat × Bst) (t + 1, a2) ⟨⟨?_, ?_, ?_, ?_⟩, ?_⟩ ?_) | (with_reducible exact fun h => h) | (with_reducible refine ExE.row (by with_unfolding_all rfl) ?_) | (with_reducible refine And.intro ?_ ?_) | ((with_reducible intro hq); first | (exact bne1 hq (by with_reducible assumption)) | (exact bne1 (by with_reducible assumption) hq) | ((simp only [*, Bool.and_true, Bool.true_and, Bool.and_false, Bool.false_and, Bool.or_true, Bool.true_or, Bool.or_false, Bool.false_or, Bool.not_true, Bool.not_false, Bool.true_eq_false, Bool.false_eq_true, cond_true, cond_false, Bool.cond_self, reduceCtorEq] at hq); done) | (revert hq; with_reducible intro _)) | (with_reducible exact True.intro) | (with_reducible rfl) | ((with_reducible refine WkX.chk ?_); (conv => whnf)) | ((with_reducible refine Wk.chk ?_); (conv => whnf)) | (with_reducible refine EntLe.row ?_) | (with_reducible exact LeN.ro rfl) | (with_reducible exact LeN.rptr) | ((with_reducible refine LeL.chk ?_); (conv => whnf)) | ((with_reducible show LeO _ _); (first | (refine LeO.ro ?_) | (refine LeO.roCap ?_) | (refine LeO.nil ?_ (fun _ => rfl)))) | ((with_reducible show LeR _ _ _); (first | (refine LeR.own rfl rfl rfl ?_) | (refine LeR.view rfl rfl rfl ?_ ?_) | (refine LeR.ro ?_) | (refine LeR.roCap ?_) | (refine LeR.nil ?_ (fun _ => rfl)))) | ((with_reducible refine LeF.chk ?_); (conv => whnf)) | (with_reducible assumption) | ((with_reducible refine Run.mk ?_); (conv => whnf)) | ((with_reducible show drawOK _ _ = true); kernel_rfl) | ((with_reducible show drawOK2 _ _ = true); kernel_rfl) | ((with_reducible show drawOK3 _ _ = true); kernel_rfl))
        all_goals (try simp only [e1, hkl, decide_eq_true_eq, decide_eq_false_iff_not, Bool.and_eq_true, Bool.and_eq_false_iff, beq_iff_eq, beq_eq_false_iff_ne, ne_eq] at *)
        all_goals first
          | omega
          | (refine Fits.i64 ?_ ?_ <;> omega)
          | (rw [rt_succ hf, ← hi4, rinner_stop ht hw ⟨by omega, by omega⟩, ← ha2]; done)
          | (rw [ha2]; exact hga)
          | (rw [ha2, ← rinner_on ht hw (by omega)]; exact hi4)
          | rfl
    · refine Fits.i64 ?_ ?_ <;> omega
    · have hnt : ¬ t ≤ l.length := by
        have h : decide ((t : Int) ≤ (l.length : Int)) = false := by assumption
        simp only [decide_eq_false_iff_not] at h; omega
      repeat' (first | (with_reducible refine ex_of (α := Nat) (c + 1) ⟨?_, ?_⟩ ?_) | (with_reducible exact fun h => h) | (with_reducible refine ExE.row (by with_unfolding_all rfl) ?_) | (with_reducible refine And.intro ?_ ?_) | ((with_reducible intro hq); first | (exact bne1 hq (by with_reducible assumption)) | (exact bne1 (by with_reducible assumption) hq) | ((simp only [*, Bool.and_true, Bool.true_and, Bool.and_false, Bool.false_and, Bool.or_true, Bool.true_or, Bool.or_false, Bool.false_or, Bool.not_true, Bool.not_false, Bool.true_eq_false, Bool.false_eq_true, cond_true, cond_false, Bool.cond_self, reduceCtorEq] at hq); done) | (revert hq; with_reducible intro _)) | (with_reducible exact True.intro) | (with_reducible rfl) | ((with_reducible refine WkX.chk ?_); (conv => whnf)) | ((with_reducible refine Wk.chk ?_); (conv => whnf)) | (with_reducible refine EntLe.row ?_) | (with_reducible exact LeN.ro rfl) | (with_reducible exact LeN.rptr) | ((with_reducible refine LeL.chk ?_); (conv => whnf)) | ((with_reducible show LeO _ _); (first | (refine LeO.ro ?_) | (refine LeO.roCap ?_) | (refine LeO.nil ?_ (fun _ => rfl)))) | ((with_reducible show LeR _ _ _); (first | (refine LeR.own rfl rfl rfl ?_) | (refine LeR.view rfl rfl rfl ?_ ?_) | (refine LeR.ro ?_) | (refine LeR.roCap ?_) | (refine LeR.nil ?_ (fun _ => rfl)))) | ((with_reducible refine LeF.chk ?_); (conv => whnf)) | (with_reducible assumption) | ((with_reducible refine Run.mk ?_); (conv => whnf)) | ((with_reducible show drawOK _ _ = true); kernel_rfl) | ((with_reducible show drawOK2 _ _ = true); kernel_rfl) | ((with_reducible show drawOK3 _ _ = true); kernel_rfl))
      all_goals first
        | omega
        | (rw [rt_succ hf, ← hi4, rinner_end hnt]; done)
        | (dsimp only; omega)
  · have hcN : c = l.length + 1 := by
      have h : decide (0 ≤ (l.length : Int) - (c : Int)) = false := by assumption
      simp only [decide_eq_false_iff_not] at h; omega
    subst hcN
    rfl
end Go.SX.Try
/- Contract of wrap's Wrap. -/
namespace Go.SX.Try
open Go.Proofs Go.Proofs.Try Go.SX.Plain
set_option maxRecDepth 100000
set_option maxHeartbeats 0
set_option linter.unusedSimpArgs false
def C_bst : Cdc Bst where
  size := 4
  enc := bAV
  dec l := match l with
    | [.v (.int _ a), .v (.int _ b), .v (.int _ c), d] => ⟨a, b, c, bOf d⟩
    | _ => ⟨0, 0, 0, false⟩
  d := ⟨0, 0, 0, false⟩
def D_wrp : Cds := [(54, ⟨Int × Int, C_brk⟩), (83, ⟨Bst, C_bst⟩)]
theorem D_wrp_ok : CdsOK T D_wrp := .cons ⟨fun _ => rfl, by decide, _, rfl, rfl, by decide⟩ (.cons ⟨fun _ => rfl, by decide, _, rfl, rfl, by decide⟩ .nil)
theorem q_wrap : fact 13 f13 := ⟨by kernel_rfl, rfl, by kernel_rfl⟩
theorem q_look : fact 42 f42 := ⟨by kernel_rfl, rfl, by kernel_rfl⟩
def wrapL (s : ByteArray) (width : Int) : List (Int × Int) := if checkN s.size width = 0 then wrapOut (parts s) width else []
def wrapB (s : ByteArray) (width : Int) : Int := if checkN s.size width = 0 then ((tabOf (parts s) width).getD 0 zB).bad else 0
theorem con_wrap : Con prog 13 (fun ((s, width) : ByteArray × Int) => [.v (.string s), .v (.int .i64 width)]) (fun (s, width) => .tup [.ro 2 C_brk.enc C_brk.d (wrapL s width) none, .v (.int .i64 (wrapB s width)), .v (.int .i64 (checkN s.size width))]) (fun _ => True) := by
  refine Con.of (by kernel_rfl) T_ok D_wrp_ok (.inl (J := []) q_look.1 q_look.2.1 q_look.2.2 (.con con_before (.con con_check (.con con_parts (.con con_places .nil))))) 6 [13] q_wrap.1 q_wrap.2.1 q_wrap.2.2 (fun _ => rfl) fun i hi => ?_
  obtain ⟨s, width⟩ := i
  have hpl := parts_len s
  have hps := parts_small s
  repeat' (first | (with_reducible refine ⟨_, ⟨(.cons (.v _) .nil), ?_⟩, ?_⟩) | (with_reducible refine ⟨(_, _), ⟨(.cons (.v _) (.cons (.v _) .nil)), ?_⟩, ?_⟩) | (with_reducible refine ⟨_, ⟨(.cons (.ro _ _ _ _ _) .nil), ?_⟩, ?_⟩)  | (with_reducible exact fun h => h) | (with_reducible refine ExE.row (by with_unfolding_all rfl) ?_) | (with_reducible refine And.intro ?_ ?_) | ((with_reducible intro hq); first | (exact bne1 hq (by with_reducible assumption)) | (exact bne1 (by with_reducible assumption) hq) | ((simp only [*, Bool.and_true, Bool.true_and, Bool.and_false, Bool.false_and, Bool.or_true, Bool.true_or, Bool.or_false, Bool.false_or, Bool.not_true, Bool.not_false, Bool.true_eq_false, Bool.false_eq_true, cond_true, cond_false, Bool.cond_self, reduceCtorEq] at hq); done) | (revert hq; with_reducible intro _)) | (with_reducible exact True.intro) | (with_reducible rfl) | ((with_reducible refine WkX.chk ?_); (conv => whnf)) | ((with_reducible refine Wk.chk ?_); (conv => whnf)) | (with_reducible refine EntLe.row ?_) | (with_reducible exact LeN.ro rfl) | (with_reducible exact LeN.rptr) | ((with_reducible refine LeL.chk ?_); (conv => whnf)) | ((with_reducible show LeO _ _); (first | (refine LeO.ro ?_) | (refine LeO.roCap ?_) | (refine LeO.nil ?_ (fun _ => rfl)))) | ((with_reducible show LeR _ _ _); (first | (refine LeR.own rfl rfl rfl ?_) | (refine LeR.view rfl rfl rfl ?_ ?_) | (refine LeR.ro ?_) | (refine LeR.roCap ?_) | (refine LeR.nil ?_ (fun _ => rfl)))) | ((with_reducible refine LeF.chk ?_); (conv => whnf)) | (with_reducible assumption) | ((with_reducible refine Run.mk ?_); (conv => whnf)) | ((with_reducible show drawOK _ _ = true); kernel_rfl) | ((with_reducible show drawOK2 _ _ = true); kernel_rfl) | ((with_reducible show drawOK3 _ _ = true); kernel_rfl))
  · simp_all [wrapL]
  · simp_all [wrapB]
  all_goals
    have hck : checkN s.size width = 0 := by simp_all
    have hw1 : 2 ≤ width ∧ width ≤ 200 ∧ s.size ≤ 4096 := by
      unfold checkN at hck
      split at hck
      · cases hck
      · split at hck
        · cases hck
        · omega
    obtain ⟨hw1, hw2, hsz⟩ := hw1
  · dsimp only; omega
  · dsimp only; omega
  all_goals
    have hN : (plcs (parts s) ((parts s).length + 1)).length ≤ (parts s).length + 1 := plcs_len _ _
  · rw [atL_length]; refine Fits.i64 ?_ ?_ <;> omega
  · rw [atL_length]; omega
  · rw [atL_length]; omega
  · rw [atL_length]; dsimp only; omega
  · rfl
  · rfl
  · rfl
  · rfl
  have hL : wrapL s width = wrapOut (parts s) width := by unfold wrapL; rw [if_pos hck]
  have hB : wrapB s width = ((tabOf (parts s) width).getD 0 zB).bad := by unfold wrapB; rw [if_pos hck]
  clear hi
  revert hpl hps hN hL hB
  generalize parts s = l
  intro hpl hps hN hL hB
  refine loopI Nat [] (fun c => [(12, .v (.int .i64 (((plcs l (l.length + 1)).length : Int) - (c : Int))))]) (fun c => [(3, .row C_bst (tab l (plcs l (l.length + 1)) width c) 83 none)]) (fun c => c ≤ (plcs l (l.length + 1)).length + 1) (fun c => (plcs l (l.length + 1)).length + 1 - c) 0 (Nat.zero_le _) (Wk.chk ?_) fun c hc => ?_
  · ((conv => whnf); repeat' (first | (with_reducible exact fun h => h) | (with_reducible refine ExE.row (by with_unfolding_all rfl) ?_) | (with_reducible refine And.intro ?_ ?_) | ((with_reducible intro hq); first | (exact bne1 hq (by with_reducible assumption)) | (exact bne1 (by with_reducible assumption) hq) | ((simp only [*, Bool.and_true, Bool.true_and, Bool.and_false, Bool.false_and, Bool.or_true, Bool.true_or, Bool.or_false, Bool.false_or, Bool.not_true, Bool.not_false, Bool.true_eq_false, Bool.false_eq_true, cond_true, cond_false, Bool.cond_self, reduceCtorEq] at hq); done) | (revert hq; with_reducible intro _)) | (with_reducible exact True.intro) | (with_reducible rfl) | ((with_reducible refine WkX.chk ?_); (conv => whnf)) | ((with_reducible refine Wk.chk ?_); (conv => whnf)) | (with_reducible refine EntLe.row ?_) | (with_reducible exact LeN.ro rfl) | (with_reducible exact LeN.rptr) | ((with_reducible refine LeL.chk ?_); (conv => whnf)) | ((with_reducible show LeO _ _); (first | (refine LeO.ro ?_) | (refine LeO.roCap ?_) | (refine LeO.nil ?_ (fun _ => rfl)))) | ((with_reducible show LeR _ _ _); (first | (refine LeR.own rfl rfl rfl ?_) | (refine LeR.view rfl rfl rfl ?_ ?_) | (refine LeR.ro ?_) | (refine LeR.roCap ?_) | (refine LeR.nil ?_ (fun _ => rfl)))) | ((with_reducible refine LeF.chk ?_); (conv => whnf)) | (with_reducible assumption) | ((with_reducible refine Run.mk ?_); (conv => whnf)) | ((with_reducible show drawOK _ _ = true); kernel_rfl) | ((with_reducible show drawOK2 _ _ = true); kernel_rfl) | ((with_reducible show drawOK3 _ _ = true); kernel_rfl)))
    · rw [atL_length]; simp
    · rw [atL_length]; simp only [tab]; congr 1
  repeat' (first | (with_reducible refine ⟨_, ⟨(.cons (.v _) .nil), ?_⟩, ?_⟩) | (with_reducible refine ⟨(_, _), ⟨(.cons (.v _) (.cons (.v _) .nil)), ?_⟩, ?_⟩) | (with_reducible refine ⟨_, ⟨(.cons (.ro _ _ _ _ _) .nil), ?_⟩, ?_⟩)  | (with_reducible exact fun h => h) | (with_reducible refine ExE.row (by with_unfolding_all rfl) ?_) | (with_reducible refine And.intro ?_ ?_) | ((with_reducible intro hq); first | (exact bne1 hq (by with_reducible assumption)) | (exact bne1 (by with_reducible assumption) hq) | ((simp only [*, Bool.and_true, Bool.true_and, Bool.and_false, Bool.false_and, Bool.or_true, Bool.true_or, Bool.or_false, Bool.false_or, Bool.not_true, Bool.not_false, Bool.true_eq_false, Bool.false_eq_true, cond_true, cond_false, Bool.cond_self, reduceCtorEq] at hq); done) | (revert hq; with_reducible intro _)) | (with_reducible exact True.intro) | (with_reducible rfl) | ((with_reducible refine WkX.chk ?_); (conv => whnf)) | ((with_reducible refine Wk.chk ?_); (conv => whnf)) | (with_reducible refine EntLe.row ?_) | (with_reducible exact LeN.ro rfl) | (with_reducible exact LeN.rptr) | ((with_reducible refine LeL.chk ?_); (conv => whnf)) | ((with_reducible show LeO _ _); (first | (refine LeO.ro ?_) | (refine LeO.roCap ?_) | (refine LeO.nil ?_ (fun _ => rfl)))) | ((with_reducible show LeR _ _ _); (first | (refine LeR.own rfl rfl rfl ?_) | (refine LeR.view rfl rfl rfl ?_ ?_) | (refine LeR.ro ?_) | (refine LeR.roCap ?_) | (refine LeR.nil ?_ (fun _ => rfl)))) | ((with_reducible refine LeF.chk ?_); (conv => whnf)) | (with_reducible assumption) | ((with_reducible refine Run.mk ?_); (conv => whnf)) | ((with_reducible show drawOK _ _ = true); kernel_rfl) | ((with_reducible show drawOK2 _ _ = true); kernel_rfl) | ((with_reducible show drawOK3 _ _ = true); kernel_rfl))
  · have hc1 : c ≤ (plcs l (l.length + 1)).length := by
      have h : decide (0 ≤ ((plcs l (l.length + 1)).length : Int) - (c : Int)) = true := by assumption
      simp only [decide_eq_true_eq] at h; omega
    obtain ⟨k, hk⟩ : ∃ k, k = (plcs l (l.length + 1)).length - c := ⟨_, rfl⟩
    have hkc : ((plcs l (l.length + 1)).length : Int) - (c : Int) = (k : Int) := by omega
    rw [hkc]
    refine joinI Unit [] (fun _ => [(13, .v (.int .i64 (posn (plcs l (l.length + 1)) k : Nat)))]) (fun _ => []) (fun _ => True) ?_ fun _ _ => ?_
    · repeat' (first | (with_reducible refine ex_of () trivial ?_) | (with_reducible exact fun h => h) | (with_reducible refine ExE.row (by with_unfolding_all rfl) ?_) | (with_reducible refine And.intro ?_ ?_) | ((with_reducible intro hq); first | (exact bne1 hq (by with_reducible assumption)) | (exact bne1 (by with_reducible assumption) hq) | ((simp only [*, Bool.and_true, Bool.true_and, Bool.and_false, Bool.false_and, Bool.or_true, Bool.true_or, Bool.or_false, Bool.false_or, Bool.not_true, Bool.not_false, Bool.true_eq_false, Bool.false_eq_true, cond_true, cond_false, Bool.cond_self, reduceCtorEq] at hq); done) | (revert hq; with_reducible intro _)) | (with_reducible exact True.intro) | (with_reducible rfl) | ((with_reducible refine WkX.chk ?_); (conv => whnf)) | ((with_reducible refine Wk.chk ?_); (conv => whnf)) | (with_reducible refine EntLe.row ?_) | (with_reducible exact LeN.ro rfl) | (with_reducible exact LeN.rptr) | ((with_reducible refine LeL.chk ?_); (conv => whnf)) | ((with_reducible show LeO _ _); (first | (refine LeO.ro ?_) | (refine LeO.roCap ?_) | (refine LeO.nil ?_ (fun _ => rfl)))) | ((with_reducible show LeR _ _ _); (first | (refine LeR.own rfl rfl rfl ?_) | (refine LeR.view rfl rfl rfl ?_ ?_) | (refine LeR.ro ?_) | (refine LeR.roCap ?_) | (refine LeR.nil ?_ (fun _ => rfl)))) | ((with_reducible refine LeF.chk ?_); (conv => whnf)) | (with_reducible assumption) | ((with_reducible refine Run.mk ?_); (conv => whnf)) | ((with_reducible show drawOK _ _ = true); kernel_rfl) | ((with_reducible show drawOK2 _ _ = true); kernel_rfl) | ((with_reducible show drawOK3 _ _ = true); kernel_rfl))
      all_goals (simp only [decide_eq_true_eq, decide_eq_false_iff_not] at *)
      · refine Fits.i64 ?_ ?_ <;> omega
      · omega
      · rw [atL_length]; omega
      · rw [show ((k : Int) - 1).toNat = k - 1 by omega]
        refine (atL_getD _ _ _).trans ?_
        unfold posn; rw [if_neg (by omega)]
      · unfold posn; rw [if_pos (by omega)]; rfl
    · repeat' (first | (with_reducible exact fun h => h) | (with_reducible refine ExE.row (by with_unfolding_all rfl) ?_) | (with_reducible refine And.intro ?_ ?_) | ((with_reducible intro hq); first | (exact bne1 hq (by with_reducible assumption)) | (exact bne1 (by with_reducible assumption) hq) | ((simp only [*, Bool.and_true, Bool.true_and, Bool.and_false, Bool.false_and, Bool.or_true, Bool.true_or, Bool.or_false, Bool.false_or, Bool.not_true, Bool.not_false, Bool.true_eq_false, Bool.false_eq_true, cond_true, cond_false, Bool.cond_self, reduceCtorEq] at hq); done) | (revert hq; with_reducible intro _)) | (with_reducible exact True.intro) | (with_reducible rfl) | ((with_reducible refine WkX.chk ?_); (conv => whnf)) | ((with_reducible refine Wk.chk ?_); (conv => whnf)) | (with_reducible refine EntLe.row ?_) | (with_reducible exact LeN.ro rfl) | (with_reducible exact LeN.rptr) | ((with_reducible refine LeL.chk ?_); (conv => whnf)) | ((with_reducible show LeO _ _); (first | (refine LeO.ro ?_) | (refine LeO.roCap ?_) | (refine LeO.nil ?_ (fun _ => rfl)))) | ((with_reducible show LeR _ _ _); (first | (refine LeR.own rfl rfl rfl ?_) | (refine LeR.view rfl rfl rfl ?_ ?_) | (refine LeR.ro ?_) | (refine LeR.roCap ?_) | (refine LeR.nil ?_ (fun _ => rfl)))) | ((with_reducible refine LeF.chk ?_); (conv => whnf)) | (with_reducible assumption) | ((with_reducible refine Run.mk ?_); (conv => whnf)) | ((with_reducible show drawOK _ _ = true); kernel_rfl) | ((with_reducible show drawOK2 _ _ = true); kernel_rfl) | ((with_reducible show drawOK3 _ _ = true); kernel_rfl))
      have htl := tab_len l (plcs l (l.length + 1)) width c
      refine loopI (Nat × Bst) [] (fun | (n, acc) => [(19, .v (.int .i64 (n : Int))), (18, .v (.bool false))])
        (fun | (n, acc) => [(6, .box [.v (.int .i64 (posn (plcs l (l.length + 1)) n : Nat))] 3), (5, .box [.v (.int .i64 (scan l (posn (plcs l (l.length + 1)) k) (posn (plcs l (l.length + 1)) n - posn (plcs l (l.length + 1)) k)).2)] 3),
          (4, .box [.v (.int .i64 (scan l (posn (plcs l (l.length + 1)) k) (posn (plcs l (l.length + 1)) n - posn (plcs l (l.length + 1)) k)).1)] 3), (3, .row C_bst ((tab l (plcs l (l.length + 1)) width c).set k acc) 83 none)])
        (fun | (n, acc) => k ≤ n ∧ n ≤ (plcs l (l.length + 1)).length ∧ Gd (plcs l (l.length + 1)).length (tab l (plcs l (l.length + 1)) width c) k acc ∧ inner l (plcs l (l.length + 1)) width (tab l (plcs l (l.length + 1)) width c) k n acc = inner l (plcs l (l.length + 1)) width (tab l (plcs l (l.length + 1)) width c) k k zB)
        (fun | (n, _) => (plcs l (l.length + 1)).length - n) (k, zB) ⟨Nat.le_refl _, by omega, Gd.zero _ _ _, rfl⟩ (Wk.chk ?_) fun i hi => ?_
      · ((conv => whnf); repeat' (first | (with_reducible exact fun h => h) | (with_reducible refine ExE.row (by with_unfolding_all rfl) ?_) | (with_reducible refine And.intro ?_ ?_) | ((with_reducible intro hq); first | (exact bne1 hq (by with_reducible assumption)) | (exact bne1 (by with_reducible assumption) hq) | ((simp only [*, Bool.and_true, Bool.true_and, Bool.and_false, Bool.false_and, Bool.or_true, Bool.true_or, Bool.or_false, Bool.false_or, Bool.not_true, Bool.not_false, Bool.true_eq_false, Bool.false_eq_true, cond_true, cond_false, Bool.cond_self, reduceCtorEq] at hq); done) | (revert hq; with_reducible intro _)) | (with_reducible exact True.intro) | (with_reducible rfl) | ((with_reducible refine WkX.chk ?_); (conv => whnf)) | ((with_reducible refine Wk.chk ?_); (conv => whnf)) | (with_reducible refine EntLe.row ?_) | (with_reducible exact LeN.ro rfl) | (with_reducible exact LeN.rptr) | ((with_reducible refine LeL.chk ?_); (conv => whnf)) | ((with_reducible show LeO _ _); (first | (refine LeO.ro ?_) | (refine LeO.roCap ?_) | (refine LeO.nil ?_ (fun _ => rfl)))) | ((with_reducible show LeR _ _ _); (first | (refine LeR.own rfl rfl rfl ?_) | (refine LeR.view rfl rfl rfl ?_ ?_) | (refine LeR.ro ?_) | (refine LeR.roCap ?_) | (refine LeR.nil ?_ (fun _ => rfl)))) | ((with_reducible refine LeF.chk ?_); (conv => whnf)) | (with_reducible assumption) | ((with_reducible refine Run.mk ?_); (conv => whnf)) | ((with_reducible show drawOK _ _ = true); kernel_rfl) | ((with_reducible show drawOK2 _ _ = true); kernel_rfl) | ((with_reducible show drawOK3 _ _ = true); kernel_rfl)))
        all_goals first
          | rfl
          | (rw [Nat.sub_self]; rfl)
          | exact (tab_set0 _ _ _ (by omega)).symm
      obtain ⟨n, acc⟩ := i
      obtain ⟨hi1, hi2, hi3, hi4⟩ := hi
      have hmono := posn_mono (l := l) hi1 hi2
      repeat' (first | (with_reducible exact fun h => h) | (with_reducible refine ExE.row (by with_unfolding_all rfl) ?_) | (with_reducible refine And.intro ?_ ?_) | ((with_reducible intro hq); first | (exact bne1 hq (by with_reducible assumption)) | (exact bne1 (by with_reducible assumption) hq) | ((simp only [*, Bool.and_true, Bool.true_and, Bool.and_false, Bool.false_and, Bool.or_true, Bool.true_or, Bool.or_false, Bool.false_or, Bool.not_true, Bool.not_false, Bool.true_eq_false, Bool.false_eq_true, cond_true, cond_false, Bool.cond_self, reduceCtorEq] at hq); done) | (revert hq; with_reducible intro _)) | (with_reducible exact True.intro) | (with_reducible rfl) | ((with_reducible refine WkX.chk ?_); (conv => whnf)) | ((with_reducible refine Wk.chk ?_); (conv => whnf)) | (with_reducible refine EntLe.row ?_) | (with_reducible exact LeN.ro rfl) | (with_reducible exact LeN.rptr) | ((with_reducible refine LeL.chk ?_); (conv => whnf)) | ((with_reducible show LeO _ _); (first | (refine LeO.ro ?_) | (refine LeO.roCap ?_) | (refine LeO.nil ?_ (fun _ => rfl)))) | ((with_reducible show LeR _ _ _); (first | (refine LeR.own rfl rfl rfl ?_) | (refine LeR.view rfl rfl rfl ?_ ?_) | (refine LeR.ro ?_) | (refine LeR.roCap ?_) | (refine LeR.nil ?_ (fun _ => rfl)))) | ((with_reducible refine LeF.chk ?_); (conv => whnf)) | (with_reducible assumption) | ((with_reducible refine Run.mk ?_); (conv => whnf)) | ((with_reducible show drawOK _ _ = true); kernel_rfl) | ((with_reducible show drawOK2 _ _ = true); kernel_rfl) | ((with_reducible show drawOK3 _ _ = true); kernel_rfl))
      · omega
      · exact of_decide_eq_true (by assumption)
      · have hn : n < (plcs l (l.length + 1)).length := by
          have h : decide ((n : Int) < ((atL l (l.length + 1)).length : Int)) = true := by assumption
          rw [atL_length] at h; simp only [decide_eq_true_eq] at h; omega
        have hPn := plcs_le hn
        have hlt := posn_lt hn
        have hgd := tab_gd (P := plcs l (l.length + 1)) hps hw2 c (n + 1) (by omega) (by omega)
        refine loopI (Nat × Unit) [] (fun _ => []) (fun | (j, _) => [(6, .box [.v (.int .i64 (j : Int))] 3), (5, .box [.v (.int .i64 (scan l (posn (plcs l (l.length + 1)) k) (j - posn (plcs l (l.length + 1)) k)).2)] 3),
          (4, .box [.v (.int .i64 (scan l (posn (plcs l (l.length + 1)) k) (j - posn (plcs l (l.length + 1)) k)).1)] 3)]) (fun | (j, _) => posn (plcs l (l.length + 1)) n ≤ j ∧ j ≤ (plcs l (l.length + 1)).getD n 0) (fun | (j, _) => (plcs l (l.length + 1)).getD n 0 - j) (posn (plcs l (l.length + 1)) n, ()) ⟨Nat.le_refl _, Nat.le_of_lt hlt⟩ (Wk.chk ?_) fun j hj => ?_
        · ((conv => whnf); repeat' (first | (with_reducible exact fun h => h) | (with_reducible refine ExE.row (by with_unfolding_all rfl) ?_) | (with_reducible refine And.intro ?_ ?_) | ((with_reducible intro hq); first | (exact bne1 hq (by with_reducible assumption)) | (exact bne1 (by with_reducible assumption) hq) | ((simp only [*, Bool.and_true, Bool.true_and, Bool.and_false, Bool.false_and, Bool.or_true, Bool.true_or, Bool.or_false, Bool.false_or, Bool.not_true, Bool.not_false, Bool.true_eq_false, Bool.false_eq_true, cond_true, cond_false, Bool.cond_self, reduceCtorEq] at hq); done) | (revert hq; with_reducible intro _)) | (with_reducible exact True.intro) | (with_reducible rfl) | ((with_reducible refine WkX.chk ?_); (conv => whnf)) | ((with_reducible refine Wk.chk ?_); (conv => whnf)) | (with_reducible refine EntLe.row ?_) | (with_reducible exact LeN.ro rfl) | (with_reducible exact LeN.rptr) | ((with_reducible refine LeL.chk ?_); (conv => whnf)) | ((with_reducible show LeO _ _); (first | (refine LeO.ro ?_) | (refine LeO.roCap ?_) | (refine LeO.nil ?_ (fun _ => rfl)))) | ((with_reducible show LeR _ _ _); (first | (refine LeR.own rfl rfl rfl ?_) | (refine LeR.view rfl rfl rfl ?_ ?_) | (refine LeR.ro ?_) | (refine LeR.roCap ?_) | (refine LeR.nil ?_ (fun _ => rfl)))) | ((with_reducible refine LeF.chk ?_); (conv => whnf)) | (with_reducible assumption) | ((with_reducible refine Run.mk ?_); (conv => whnf)) | ((with_reducible show drawOK _ _ = true); kernel_rfl) | ((with_reducible show drawOK2 _ _ = true); kernel_rfl) | ((with_reducible show drawOK3 _ _ = true); kernel_rfl)))
        obtain ⟨j, _⟩ := j
        obtain ⟨hj1, hj2⟩ := hj
        have hsb := scan_bd hps (posn (plcs l (l.length + 1)) k) (j - posn (plcs l (l.length + 1)) k)
        have hcb := hps.at j
        have g1 := hgd.b0
        have g2 : ((tab l (plcs l (l.length + 1)) width c).getD (n + 1) zB).bad ≤ 9000000000 := by have := hgd.b1; omega
        have g3 := hgd.p0
        have g4 : ((tab l (plcs l (l.length + 1)) width c).getD (n + 1) zB).places ≤ 5000 := by have := hgd.p1; omega
        have e1 : ((j : Int)).toNat = j := Int.toNat_natCast _
        have e2 : ((n : Int)).toNat = n := Int.toNat_natCast _
        have e3 : ((n : Int) + 1).toNat = n + 1 := by omega
        have e4 : C_bst.d = zB := rfl
        have e5 : C_part.d = dPart := rfl
        have e6 : (atL l (l.length + 1)).getD n C_int.d = ((plcs l (l.length + 1)).getD n 0 : Nat) := atL_getD _ _ _
        have e7 : (outL l (l.length + 1)).getD n C_brk.d = ((l.getD ((plcs l (l.length + 1)).getD n 0 - 1) dPart).c.to, kindAt l ((plcs l (l.length + 1)).getD n 0)) := outL_getD hn
        have e8 : ((tab l (plcs l (l.length + 1)) width c).set k acc).getD (n + 1) zB = (tab l (plcs l (l.length + 1)) width c).getD (n + 1) zB := Go.SX.Plain.getD_set_ne _ _ _ _ _ (by omega)
        have e9 : ((tab l (plcs l (l.length + 1)) width c).set k acc).getD k zB = acc := Go.SX.Plain.getD_set_eq _ _ _ _ (by omega)
        have e10 : ((k : Int)).toNat = k := Int.toNat_natCast _
        repeat' (first | (with_reducible refine ex_of (α := Nat × Unit) (j + 1, ()) ⟨⟨?_, ?_⟩, ?_⟩ ?_) | (with_reducible refine ex_of (α := Nat × Bst) (n + 1, nextAcc l (plcs l (l.length + 1)) width (tab l (plcs l (l.length + 1)) width c) k n acc) ⟨⟨?_, ?_, ?_, ?_⟩, ?_⟩ ?_) | (with_reducible refine ex_of (α := Nat) (c + 1) ⟨?_, ?_⟩ ?_) | (with_reducible refine ⟨(⟨_, _, _, _⟩, ⟨_, _, _, _⟩), ⟨(.cons (.agg (.cons (.v _) (.cons (.v _) (.cons (.v _) (.cons (.vb _) .nil))))) (.cons (.agg (.cons (.v _) (.cons (.v _) (.cons (.v _) (.cons (.sb _) .nil))))) .nil)), ?_⟩, ?_⟩) | (with_reducible exact fun h => h) | (with_reducible refine ExE.row (by with_unfolding_all rfl) ?_) | (with_reducible refine And.intro ?_ ?_) | ((with_reducible intro hq); first | (exact bne1 hq (by with_reducible assumption)) | (exact bne1 (by with_reducible assumption) hq) | ((simp only [*, Bool.and_true, Bool.true_and, Bool.and_false, Bool.false_and, Bool.or_true, Bool.true_or, Bool.or_false, Bool.false_or, Bool.not_true, Bool.not_false, Bool.true_eq_false, Bool.false_eq_true, cond_true, cond_false, Bool.cond_self, reduceCtorEq] at hq); done) | (revert hq; with_reducible intro _)) | (with_reducible exact True.intro) | (with_reducible rfl) | ((with_reducible refine WkX.chk ?_); (conv => whnf)) | ((with_reducible refine Wk.chk ?_); (conv => whnf)) | (with_reducible refine EntLe.row ?_) | (with_reducible exact LeN.ro rfl) | (with_reducible exact LeN.rptr) | ((with_reducible refine LeL.chk ?_); (conv => whnf)) | ((with_reducible show LeO _ _); (first | (refine LeO.ro ?_) | (refine LeO.roCap ?_) | (refine LeO.nil ?_ (fun _ => rfl)))) | ((with_reducible show LeR _ _ _); (first | (refine LeR.own rfl rfl rfl ?_) | (refine LeR.view rfl rfl rfl ?_ ?_) | (refine LeR.ro ?_) | (refine LeR.roCap ?_) | (refine LeR.nil ?_ (fun _ => rfl)))) | ((with_reducible refine LeF.chk ?_); (conv => whnf)) | (with_reducible assumption) | ((with_reducible refine Run.mk ?_); (conv => whnf)) | ((with_reducible show drawOK _ _ = true); kernel_rfl) | ((with_reducible show drawOK2 _ _ = true); kernel_rfl) | ((with_reducible show drawOK3 _ _ = true); kernel_rfl))
        all_goals (try simp only [e1, e2, e3, e4, e5, e6, e7, e8, e9, e10, decide_eq_true_eq, decide_eq_false_iff_not, Bool.not_eq_true', Bool.not_eq_false', beq_iff_eq, beq_eq_false_iff_ne, ne_eq, List.length_set, htl, atL_length, outL_length] at *)
        all_goals first
          | omega
          | (refine Fits.i64 ?_ ?_ <;> omega)
          | rfl
          | (rw [scan_fin (by omega) (by assumption)]; done)
          | (rw [scan_blank (by omega) (by assumption) (by assumption)]; done)
          | (rw [scan_ink (by omega) (by assumption) (by assumption)]; done)
          | (have hje : j = (plcs l (l.length + 1)).getD n 0 := by omega
             subst hje
             first
             | (rw [posn_succ]; done)
             | (simp only [fullTo_eq] at *; fail_if_success done; skip
                first
                | omega
                | rfl
                | (have hsq := sq_bd (x := width - fullTo l (plcs l (l.length + 1)) k ((plcs l (l.length + 1)).getD n 0)) (y := 200) (by omega) (by omega)
                   refine Fits.i64 ?_ ?_ <;> omega)
                | (rw [tab_succ hk, ← hi4, inner_full hn (by assumption)]; done)
                | exact Gd.next hps hw2 hi1 hn (by assumption) hgd hi3
                | (rw [← inner_next hn (by assumption) (by assumption)]; exact hi4)
                | (try rw [tab_succ hk, ← hi4, inner_stop hn (by assumption) (by assumption)]
                   first
                   | (rw [nextAcc_no (by assumption)]; done)
                   | (rw [nextAcc_yes (by assumption), better_1 (by rw [cand_cut (by assumption)]; assumption), cand_cut (by assumption), List.set_set]; rfl)
                   | (rw [nextAcc_yes (by assumption), better_1 (by rw [cand_not (by assumption)]; assumption), cand_not (by assumption), List.set_set]; rfl)
                   | (rw [nextAcc_yes (by assumption), better_0 (by rw [cand_cut (by assumption)]; assumption)]; done)
                   | (rw [nextAcc_yes (by assumption), better_0 (by rw [cand_not (by assumption)]; assumption)]; done))))
      · have hn : n = (plcs l (l.length + 1)).length := by
          have h : decide ((n : Int) < ((atL l (l.length + 1)).length : Int)) = false := by assumption
          rw [atL_length] at h; simp only [decide_eq_false_iff_not] at h; omega
        have hple := posn_le (l := l) (k := n) (by omega)
        refine loopI (Nat × Unit) [] (fun _ => []) (fun | (j, _) => [(6, .box [.v (.int .i64 (j : Int))] 3), (5, .box [.v (.int .i64 (scan l (posn (plcs l (l.length + 1)) k) (j - posn (plcs l (l.length + 1)) k)).2)] 3),
          (4, .box [.v (.int .i64 (scan l (posn (plcs l (l.length + 1)) k) (j - posn (plcs l (l.length + 1)) k)).1)] 3)]) (fun | (j, _) => posn (plcs l (l.length + 1)) n ≤ j ∧ j ≤ l.length) (fun | (j, _) => l.length - j) (posn (plcs l (l.length + 1)) n, ()) ⟨Nat.le_refl _, hple⟩ (Wk.chk ?_) fun j hj => ?_
        · ((conv => whnf); repeat' (first | (with_reducible exact fun h => h) | (with_reducible refine ExE.row (by with_unfolding_all rfl) ?_) | (with_reducible refine And.intro ?_ ?_) | ((with_reducible intro hq); first | (exact bne1 hq (by with_reducible assumption)) | (exact bne1 (by with_reducible assumption) hq) | ((simp only [*, Bool.and_true, Bool.true_and, Bool.and_false, Bool.false_and, Bool.or_true, Bool.true_or, Bool.or_false, Bool.false_or, Bool.not_true, Bool.not_false, Bool.true_eq_false, Bool.false_eq_true, cond_true, cond_false, Bool.cond_self, reduceCtorEq] at hq); done) | (revert hq; with_reducible intro _)) | (with_reducible exact True.intro) | (with_reducible rfl) | ((with_reducible refine WkX.chk ?_); (conv => whnf)) | ((with_reducible refine Wk.chk ?_); (conv => whnf)) | (with_reducible refine EntLe.row ?_) | (with_reducible exact LeN.ro rfl) | (with_reducible exact LeN.rptr) | ((with_reducible refine LeL.chk ?_); (conv => whnf)) | ((with_reducible show LeO _ _); (first | (refine LeO.ro ?_) | (refine LeO.roCap ?_) | (refine LeO.nil ?_ (fun _ => rfl)))) | ((with_reducible show LeR _ _ _); (first | (refine LeR.own rfl rfl rfl ?_) | (refine LeR.view rfl rfl rfl ?_ ?_) | (refine LeR.ro ?_) | (refine LeR.roCap ?_) | (refine LeR.nil ?_ (fun _ => rfl)))) | ((with_reducible refine LeF.chk ?_); (conv => whnf)) | (with_reducible assumption) | ((with_reducible refine Run.mk ?_); (conv => whnf)) | ((with_reducible show drawOK _ _ = true); kernel_rfl) | ((with_reducible show drawOK2 _ _ = true); kernel_rfl) | ((with_reducible show drawOK3 _ _ = true); kernel_rfl)))
        obtain ⟨j, _⟩ := j
        obtain ⟨hj1, hj2⟩ := hj
        have hsb := scan_bd hps (posn (plcs l (l.length + 1)) k) (j - posn (plcs l (l.length + 1)) k)
        have hcb := hps.at j
        have e1 : ((j : Int)).toNat = j := Int.toNat_natCast _
        have e4 : C_bst.d = zB := rfl
        have e5 : C_part.d = dPart := rfl
        have e9 : ((tab l (plcs l (l.length + 1)) width c).set k acc).getD k zB = acc := Go.SX.Plain.getD_set_eq _ _ _ _ (by omega)
        have e10 : ((k : Int)).toNat = k := Int.toNat_natCast _
        repeat' (first | (with_reducible refine ex_of (α := Nat × Unit) (j + 1, ()) ⟨⟨?_, ?_⟩, ?_⟩ ?_) | (with_reducible refine ex_of (α := Nat) (c + 1) ⟨?_, ?_⟩ ?_) | (with_reducible refine ⟨(⟨_, _, _, _⟩, ⟨_, _, _, _⟩), ⟨(.cons (.agg (.cons (.v _) (.cons (.v _) (.cons (.v _) (.cons (.vb _) .nil))))) (.cons (.agg (.cons (.v _) (.cons (.v _) (.cons (.v _) (.cons (.sb _) .nil))))) .nil)), ?_⟩, ?_⟩) | (with_reducible exact fun h => h) | (with_reducible refine ExE.row (by with_unfolding_all rfl) ?_) | (with_reducible refine And.intro ?_ ?_) | ((with_reducible intro hq); first | (exact bne1 hq (by with_reducible assumption)) | (exact bne1 (by with_reducible assumption) hq) | ((simp only [*, Bool.and_true, Bool.true_and, Bool.and_false, Bool.false_and, Bool.or_true, Bool.true_or, Bool.or_false, Bool.false_or, Bool.not_true, Bool.not_false, Bool.true_eq_false, Bool.false_eq_true, cond_true, cond_false, Bool.cond_self, reduceCtorEq] at hq); done) | (revert hq; with_reducible intro _)) | (with_reducible exact True.intro) | (with_reducible rfl) | ((with_reducible refine WkX.chk ?_); (conv => whnf)) | ((with_reducible refine Wk.chk ?_); (conv => whnf)) | (with_reducible refine EntLe.row ?_) | (with_reducible exact LeN.ro rfl) | (with_reducible exact LeN.rptr) | ((with_reducible refine LeL.chk ?_); (conv => whnf)) | ((with_reducible show LeO _ _); (first | (refine LeO.ro ?_) | (refine LeO.roCap ?_) | (refine LeO.nil ?_ (fun _ => rfl)))) | ((with_reducible show LeR _ _ _); (first | (refine LeR.own rfl rfl rfl ?_) | (refine LeR.view rfl rfl rfl ?_ ?_) | (refine LeR.ro ?_) | (refine LeR.roCap ?_) | (refine LeR.nil ?_ (fun _ => rfl)))) | ((with_reducible refine LeF.chk ?_); (conv => whnf)) | (with_reducible assumption) | ((with_reducible refine Run.mk ?_); (conv => whnf)) | ((with_reducible show drawOK _ _ = true); kernel_rfl) | ((with_reducible show drawOK2 _ _ = true); kernel_rfl) | ((with_reducible show drawOK3 _ _ = true); kernel_rfl))
        all_goals (try simp only [e1, e4, e5, e9, e10, decide_eq_true_eq, decide_eq_false_iff_not, Bool.not_eq_true', Bool.not_eq_false', beq_iff_eq, beq_eq_false_iff_ne, ne_eq, List.length_set, htl, atL_length, outL_length] at *)
        all_goals first
          | omega
          | (refine Fits.i64 ?_ ?_ <;> omega)
          | rfl
          | (rw [scan_fin (by omega) (by assumption)]; done)
          | (rw [scan_blank (by omega) (by assumption) (by assumption)]; done)
          | (rw [scan_ink (by omega) (by assumption) (by assumption)]; done)
          | (have hje : j = l.length := by omega
             subst hje
             simp only [fullTo_eq] at *
             first
             | omega
             | (have hsq := sq_bd (x := width - fullTo l (plcs l (l.length + 1)) k l.length) (y := 200) (by omega) (by omega)
                refine Fits.i64 ?_ ?_ <;> omega)
             | (rw [tab_succ hk, ← hi4, inner_end (by omega)]
                first
                | (rw [endly_no (by assumption)]; done)
                | (rw [endly_yes (by assumption), better_1 (by assumption), List.set_set]; rfl)
                | (rw [endly_yes (by assumption), better_0 (by assumption)]; done)))
  all_goals
    have hcN : c = (plcs l (l.length + 1)).length + 1 := by
      have h : decide (0 ≤ ((plcs l (l.length + 1)).length : Int) - (c : Int)) = false := by assumption
      simp only [decide_eq_false_iff_not] at h; omega
    subst hcN
    have htl := tab_len l (plcs l (l.length + 1)) width ((plcs l (l.length + 1)).length + 1)
  · omega
  · rw [htl]; omega
  · rw [htl]; dsimp only [Int.toNat]; omega
  have hg := fun j => tabOf_gd (l := l) (width := width) hps hw2 j
  have hok0 := tabOf_ok (l := l) (width := width) hps hw1 (j := 0) (Nat.zero_le _)
  have hwl := wrapOut_len l width
  refine loopI (Int × List (Int × Int)) [] (fun | (x, _) => [(25, .v (.int .i64 x)), (24, .own 4)]) (fun | (_, o) => [(4, .row C_brk o 54 none)])
    (fun | (x, o) => Nx (plcs l (l.length + 1)).length (tabOf l width) x ∧ o ++ (wayOf (plcs l (l.length + 1)).length (tabOf l width) x).map (fun n => (outL l (l.length + 1)).getD n (0, 0)) = wrapOut l width) (fun | (x, _) => far (plcs l (l.length + 1)).length x)
    (((tabOf l width).getD 0 zB).next, []) ⟨⟨((hg 0).nx hok0).imp (fun h => h) fun ⟨n, h1, _, h3, h4⟩ => ⟨n, h1, h3, h4⟩⟩, rfl⟩ (Wk.chk ?_) fun i hi => ?_
  · ((conv => whnf); repeat' (first | (with_reducible exact fun h => h) | (with_reducible refine ExE.row (by with_unfolding_all rfl) ?_) | (with_reducible refine And.intro ?_ ?_) | ((with_reducible intro hq); first | (exact bne1 hq (by with_reducible assumption)) | (exact bne1 (by with_reducible assumption) hq) | ((simp only [*, Bool.and_true, Bool.true_and, Bool.and_false, Bool.false_and, Bool.or_true, Bool.true_or, Bool.or_false, Bool.false_or, Bool.not_true, Bool.not_false, Bool.true_eq_false, Bool.false_eq_true, cond_true, cond_false, Bool.cond_self, reduceCtorEq] at hq); done) | (revert hq; with_reducible intro _)) | (with_reducible exact True.intro) | (with_reducible rfl) | ((with_reducible refine WkX.chk ?_); (conv => whnf)) | ((with_reducible refine Wk.chk ?_); (conv => whnf)) | (with_reducible refine EntLe.row ?_) | (with_reducible exact LeN.ro rfl) | (with_reducible exact LeN.rptr) | ((with_reducible refine LeL.chk ?_); (conv => whnf)) | ((with_reducible show LeO _ _); (first | (refine LeO.ro ?_) | (refine LeO.roCap ?_) | (refine LeO.nil ?_ (fun _ => rfl)))) | ((with_reducible show LeR _ _ _); (first | (refine LeR.own rfl rfl rfl ?_) | (refine LeR.view rfl rfl rfl ?_ ?_) | (refine LeR.ro ?_) | (refine LeR.roCap ?_) | (refine LeR.nil ?_ (fun _ => rfl)))) | ((with_reducible refine LeF.chk ?_); (conv => whnf)) | (with_reducible assumption) | ((with_reducible refine Run.mk ?_); (conv => whnf)) | ((with_reducible show drawOK _ _ = true); kernel_rfl) | ((with_reducible show drawOK2 _ _ = true); kernel_rfl) | ((with_reducible show drawOK3 _ _ = true); kernel_rfl)))
    all_goals rfl
  obtain ⟨x, o⟩ := i
  obtain ⟨hx, ho⟩ := hi
  rcases hx.out with hx1 | ⟨m, hx1, hx2, hx3⟩
  · subst hx1
    rw [wayOf_end _ _ (by omega)] at ho
    simp only [List.map_nil, List.append_nil] at ho
    repeat' (first | (with_reducible exact fun h => h) | (with_reducible refine ExE.row (by with_unfolding_all rfl) ?_) | (with_reducible refine And.intro ?_ ?_) | ((with_reducible intro hq); first | (exact bne1 hq (by with_reducible assumption)) | (exact bne1 (by with_reducible assumption) hq) | ((simp only [*, Bool.and_true, Bool.true_and, Bool.and_false, Bool.false_and, Bool.or_true, Bool.true_or, Bool.or_false, Bool.false_or, Bool.not_true, Bool.not_false, Bool.true_eq_false, Bool.false_eq_true, cond_true, cond_false, Bool.cond_self, reduceCtorEq] at hq); done) | (revert hq; with_reducible intro _)) | (with_reducible exact True.intro) | (with_reducible rfl) | ((with_reducible refine WkX.chk ?_); (conv => whnf)) | ((with_reducible refine Wk.chk ?_); (conv => whnf)) | (with_reducible refine EntLe.row ?_) | (with_reducible exact LeN.ro rfl) | (with_reducible exact LeN.rptr) | ((with_reducible refine LeL.chk ?_); (conv => whnf)) | ((with_reducible show LeO _ _); (first | (refine LeO.ro ?_) | (refine LeO.roCap ?_) | (refine LeO.nil ?_ (fun _ => rfl)))) | ((with_reducible show LeR _ _ _); (first | (refine LeR.own rfl rfl rfl ?_) | (refine LeR.view rfl rfl rfl ?_ ?_) | (refine LeR.ro ?_) | (refine LeR.roCap ?_) | (refine LeR.nil ?_ (fun _ => rfl)))) | ((with_reducible refine LeF.chk ?_); (conv => whnf)) | (with_reducible assumption) | ((with_reducible refine Run.mk ?_); (conv => whnf)) | ((with_reducible show drawOK _ _ = true); kernel_rfl) | ((with_reducible show drawOK2 _ _ = true); kernel_rfl) | ((with_reducible show drawOK3 _ _ = true); kernel_rfl))
    all_goals first
      | omega
      | (exfalso; have h : decide ((0 : Int) ≤ -1) = true := by assumption
         exact absurd h (by decide))
      | (rw [htl]; omega)
      | (rw [htl]; dsimp only [Int.toNat]; omega)
      | (rw [hL]; exact ho)
      | (rw [hB]; rfl)
      | exact hck.symm
  · subst hx1
    obtain ⟨hn1, hn2⟩ := Nx.next hg hx3 hx2
    rw [wayOf_step hg hx3 hx2, List.map_cons, List.append_cons] at ho
    have hol : o.length + 1 ≤ (plcs l (l.length + 1)).length := by rw [← ho] at hwl; simp at hwl; omega
    repeat' (first | (with_reducible refine ex_of (α := Int × List (Int × Int)) (_, _) ⟨⟨hn1, ho⟩, hn2⟩ ?_) | (with_reducible exact fun h => h) | (with_reducible refine ExE.row (by with_unfolding_all rfl) ?_) | (with_reducible refine And.intro ?_ ?_) | ((with_reducible intro hq); first | (exact bne1 hq (by with_reducible assumption)) | (exact bne1 (by with_reducible assumption) hq) | ((simp only [*, Bool.and_true, Bool.true_and, Bool.and_false, Bool.false_and, Bool.or_true, Bool.true_or, Bool.or_false, Bool.false_or, Bool.not_true, Bool.not_false, Bool.true_eq_false, Bool.false_eq_true, cond_true, cond_false, Bool.cond_self, reduceCtorEq] at hq); done) | (revert hq; with_reducible intro _)) | (with_reducible exact True.intro) | (with_reducible rfl) | ((with_reducible refine WkX.chk ?_); (conv => whnf)) | ((with_reducible refine Wk.chk ?_); (conv => whnf)) | (with_reducible refine EntLe.row ?_) | (with_reducible exact LeN.ro rfl) | (with_reducible exact LeN.rptr) | ((with_reducible refine LeL.chk ?_); (conv => whnf)) | ((with_reducible show LeO _ _); (first | (refine LeO.ro ?_) | (refine LeO.roCap ?_) | (refine LeO.nil ?_ (fun _ => rfl)))) | ((with_reducible show LeR _ _ _); (first | (refine LeR.own rfl rfl rfl ?_) | (refine LeR.view rfl rfl rfl ?_ ?_) | (refine LeR.ro ?_) | (refine LeR.roCap ?_) | (refine LeR.nil ?_ (fun _ => rfl)))) | ((with_reducible refine LeF.chk ?_); (conv => whnf)) | (with_reducible assumption) | ((with_reducible refine Run.mk ?_); (conv => whnf)) | ((with_reducible show drawOK _ _ = true); kernel_rfl) | ((with_reducible show drawOK2 _ _ = true); kernel_rfl) | ((with_reducible show drawOK3 _ _ = true); kernel_rfl))
    all_goals first
      | omega
      | (exfalso; have h : decide ((0 : Int) ≤ (m : Int)) = false := by assumption
         simp at h; done)
      | rfl
      | (rw [outL_length]; omega)
      | (rw [htl]; omega)
      | (refine Fits.i64 ?_ ?_ <;> omega)
      | (simp only [List.length_cons, List.length_nil]; omega)
end Go.SX.Try
/- The program's table and the document's say the same. No program here. -/
namespace Go.SX.Plain
/-! ### Each entry out of the whole table -/
theorem inn_congr {l : List Part} {P : List Nat} {width : Int} {ws ws' : List Bst} {k : Nat} (h : ∀ j, k < j → ws.getD j zB = ws'.getD j zB) : ∀ (f n : Nat) (acc : Bst), k ≤ n → inn l P width ws k f n acc = inn l P width ws' k f n acc
  | 0, _, _, _ => rfl
  | f + 1, n, acc, hn => by
    have e := h (n + 1) (by omega)
    have ec : cand l P width ws k n = cand l P width ws' k n := by unfold cand; rw [e]
    simp only [inn, e, ec]
    rw [inn_congr h f (n + 1) _ (by omega), inn_congr h f (n + 1) _ (by omega)]
theorem tab_later (l : List Part) (P : List Nat) (width : Int) {c : Nat} : ∀ (d j : Nat), P.length + 1 ≤ c + j → c + d ≤ P.length + 1 → (tab l P width (c + d)).getD j zB = (tab l P width c).getD j zB
  | 0, _, _, _ => rfl
  | d + 1, j, h, hd => by
    rw [← Nat.add_assoc]
    simp only [tab]
    rw [getD_set_ne _ _ _ _ _ (by omega)]
    exact tab_later l P width d j h (by omega)
theorem tab_entry {l : List Part} {width : Int} {k : Nat} (hk : k ≤ (plcs l (l.length + 1)).length) : (tabOf l width).getD k zB = inner l (plcs l (l.length + 1)) width (tabOf l width) k k zB := by
  unfold tabOf
  generalize plcs l (l.length + 1) = P at hk
  have hl := tab_len l P width (P.length - k)
  have e : P.length + 1 = (P.length - k + 1) + k := by omega
  have h1 : (tab l P width (P.length + 1)).getD k zB = (tab l P width (P.length - k + 1)).getD k zB := by
    have := tab_later l P width (c := P.length - k + 1) k k (by omega) (by omega)
    rw [← e] at this; exact this
  rw [h1, tab_succ (c := P.length - k) (k := k) (by omega), getD_set_eq _ _ _ _ (by omega)]
  unfold inner
  refine inn_congr (fun j hj => ?_) _ _ _ (Nat.le_refl _)
  have e2 : P.length + 1 = (P.length - k) + (k + 1) := by omega
  have := tab_later l P width (c := P.length - k) (k + 1) j (by omega) (by omega)
  rw [← e2] at this; exact this.symm
theorem rinn_congr {l : List Part} {width : Int} {ct ct' : List Rb} {f : Nat} (h : ∀ j, f < j → ct.getD j zR = ct'.getD j zR) : ∀ (k t : Nat) (acc : Bst), rinn l width ct f k t acc = rinn l width ct' f k t acc
  | 0, _, _ => rfl
  | k + 1, t, acc => by
    have e1 : racc1 l width ct f t acc = racc1 l width ct' f t acc := by
      unfold racc1
      split
      · rename_i hc
        have : rcand l width ct f t = rcand l width ct' f t := by unfold rcand; rw [h t hc.1]
        rw [this]
      · rfl
    have e2 : racc2 l width ct f t acc = racc2 l width ct' f t acc := by unfold racc2; rw [e1]
    simp only [rinn, e2]
    rw [rinn_congr h k (t + 1)]
theorem rt_later (l : List Part) (width : Int) {c : Nat} : ∀ (d j : Nat), l.length + 1 ≤ c + j → c + d ≤ l.length + 1 → (rt l width (c + d)).getD j zR = (rt l width c).getD j zR
  | 0, _, _, _ => rfl
  | d + 1, j, h, hd => by
    rw [← Nat.add_assoc]
    simp only [rt]
    rw [getD_set_ne _ _ _ _ _ (by omega)]
    exact rt_later l width d j h (by omega)
theorem rt_entry {l : List Part} {width : Int} {f : Nat} (hf : f ≤ l.length) : (rtab l width).getD f zR = rbOf (rinner l width (rtab l width) f f zB) := by
  unfold rtab
  have hl := rt_len l width (l.length - f)
  have e : l.length + 1 = (l.length - f + 1) + f := by omega
  have h1 : (rt l width (l.length + 1)).getD f zR = (rt l width (l.length - f + 1)).getD f zR := by
    have := rt_later l width (c := l.length - f + 1) f f (by omega) (by omega)
    rw [← e] at this; exact this
  rw [h1, rt_succ (c := l.length - f) (f := f) (by omega), getD_set_eq _ _ _ _ (by omega)]
  unfold rinner
  rw [rinn_congr (fun j hj => ?_)]
  have e2 : l.length + 1 = (l.length - f) + (f + 1) := by omega
  have := rt_later l width (c := l.length - f) (f + 1) j (by omega) (by omega)
  rw [← e2] at this; exact this.symm

/-! ### Alike -/
/-- The next places are alike: among the places; among the clusters. -/
def NxA (P : List Nat) (x y : Int) : Prop := (x = -1 ∧ y = 0) ∨ ∃ m : Nat, x = m ∧ m < P.length ∧ y = (P.getD m 0 : Nat)
structure EqA (P : List Nat) (a b : Bst) : Prop where
  bad : a.bad = b.bad
  places : a.places = b.places
  ok : a.ok = b.ok
  next : a.ok = true → NxA P a.next b.next
theorem EqA.better {P : List Nat} {a b x y : Bst} (h : EqA P a b) (h' : EqA P x y) : EqA P (better a x) (better b y) := by
  have e : before a x = before b y := by unfold before; rw [h.bad, h.places, h'.ok, h'.bad, h'.places]
  unfold Plain.better
  rw [e]
  split <;> assumption
theorem scan_mono {l : List Part} (h : Small l) (f : Nat) : ∀ (d n : Nat), (scan l f n).1 ≤ (scan l f (n + d)).1
  | 0, n => Int.le_refl _
  | d + 1, n => by
    have h1 := scan_mono h f d n
    have hb := scan_bd h f (n + d)
    have hc := h.at (f + (n + d))
    rw [← Nat.add_assoc]
    refine Int.le_trans h1 ?_
    simp only [scan]
    split
    · exact Int.le_refl _
    · simp only
      split
      · exact Int.le_refl _
      · omega
theorem wAt_mono {l : List Part} (h : Small l) {f t e : Nat} (h1 : t ≤ e) : wAt l f t ≤ wAt l f e := by
  unfold wAt
  by_cases hf : f ≤ t
  · have := scan_mono h f (e - t) (t - f)
    rwa [show t - f + (e - t) = e - f by omega] at this
  · rw [show t - f = 0 by omega]
    have := scan_mono h f (e - f) 0
    rwa [Nat.zero_add] at this
theorem rinner_skip {l : List Part} (hS : Small l) {width : Int} {ct : List Rb} {f e : Nat} (he : e ≤ l.length) : ∀ (d t : Nat) (acc : Bst), t + d = e → (∀ i, t ≤ i → i < e → f < i ∧ kindAt l i = 0) → rinner l width ct f t acc = rinner l width ct f e acc
  | 0, t, acc, hd, _ => by rw [show t = e by omega]
  | d + 1, t, acc, hd, h => by
    obtain ⟨h1, h2⟩ := h t (Nat.le_refl _) (by omega)
    by_cases hw : wAt l f t ≤ width
    · have hl : lastB l f t = false := by
        unfold lastB
        rw [decide_eq_false (by omega)]; rfl
      have ha : racc2 l width ct f t acc = acc := by rw [racc2_no hl, racc1_no (by omega)]
      rw [rinner_on (by omega) hw (by omega), ha]
      exact rinner_skip hS he d (t + 1) acc (by omega) fun i hi hj => h i (by omega) hj
    · rw [rinner_full (by omega) hw]
      have hm := wAt_mono hS (f := f) (show t ≤ e by omega)
      rw [rinner_full he (by omega)]
theorem kind_len (l : List Part) : kindAt l l.length = 0 ∨ kindAt l l.length = 1 := by
  unfold kindAt
  split
  · exact .inr rfl
  · rw [if_pos rfl]; exact .inl rfl
theorem kind_fin {l : List Part} : kindAt l l.length = 1 ↔ (l.getD (l.length - 1) dPart).fin = true := by
  unfold kindAt
  constructor
  · intro h
    split at h
    · assumption
    · rw [if_pos rfl] at h; cases h
  · intro h; rw [if_pos h]
theorem not_place {l : List Part} {k i : Nat} (hk : k ≤ (plcs l (l.length + 1)).length) (h1 : posn (plcs l (l.length + 1)) k < i) (h2 : k < (plcs l (l.length + 1)).length → i < (plcs l (l.length + 1)).getD k 0) (hi : i ≤ l.length) : kindAt l i = 0 := gap hk h1 h2 hi
section
variable {l : List Part} {width : Int}
/-- What is known of the entries behind k. -/
def Later (l : List Part) (width : Int) (k : Nat) : Prop := ∀ j, k < j → j ≤ (plcs l (l.length + 1)).length →
  ((tabOf l width).getD j zB).bad = ((rtab l width).getD (posn (plcs l (l.length + 1)) j) zR).bad ∧ ((tabOf l width).getD j zB).places = ((rtab l width).getD (posn (plcs l (l.length + 1)) j) zR).count
theorem loop_eq (hS : Small l) (hw1 : 2 ≤ width) {k : Nat} (hL : Later l width k) : ∀ (d n : Nat) (acc acc' : Bst), (plcs l (l.length + 1)).length = n + d → k ≤ n → posn (plcs l (l.length + 1)) n < l.length → EqA (plcs l (l.length + 1)) acc acc' →
    EqA (plcs l (l.length + 1)) (inner l (plcs l (l.length + 1)) width (tabOf l width) k n acc) (rinner l width (rtab l width) (posn (plcs l (l.length + 1)) k) (posn (plcs l (l.length + 1)) n + 1) acc')
  | 0, n, acc, acc', hd, hk, hc, ha => by
    have hn : n = (plcs l (l.length + 1)).length := by omega
    have hmono := posn_mono (l := l) hk (by omega)
    have hk0 : kindAt l l.length = 0 := gap (k := n) (by omega) hc (fun h => by omega) (Nat.le_refl _)
    have hnf : (l.getD (l.length - 1) dPart).fin = false := by
      cases hf : (l.getD (l.length - 1) dPart).fin with
      | false => rfl
      | true => rw [kind_fin.2 hf] at hk0; cases hk0
    rw [inner_end (by omega), rinner_skip hS (Nat.le_refl _) (l.length - (posn (plcs l (l.length + 1)) n + 1)) _ _ (by omega) fun i hi hj => ⟨by omega, gap (k := n) (by omega) (by omega) (fun h => by omega) (by omega)⟩]
    have hl : lastB l (posn (plcs l (l.length + 1)) k) l.length = true := by
      unfold lastB; rw [hnf]; simp
    by_cases hw : fullTo l (plcs l (l.length + 1)) k l.length ≤ width
    · have hw' : wAt l (posn (plcs l (l.length + 1)) k) l.length ≤ width := hw
      rw [endly_yes hw, rinner_on (Nat.le_refl _) hw' (by omega), rinner_end (by omega)]
      unfold racc2
      rw [if_pos hl, racc1_no (by omega)]
      refine EqA.better ⟨rfl, rfl, rfl, fun _ => .inl ⟨rfl, rfl⟩⟩ ha
    · have hw' : ¬ wAt l (posn (plcs l (l.length + 1)) k) l.length ≤ width := hw
      rw [endly_no hw, rinner_full (Nat.le_refl _) hw']
      exact ha
  | d + 1, n, acc, acc', hd, hk, hc, ha => by
    have hn : n < (plcs l (l.length + 1)).length := by omega
    have hmono := posn_mono (l := l) hk (by omega)
    have hlt := posn_lt hn
    obtain ⟨p1, p2, p3⟩ := plcs_le hn
    have hsucc := posn_succ (plcs l (l.length + 1)) n
    rw [rinner_skip hS (e := (plcs l (l.length + 1)).getD n 0) (by omega) ((plcs l (l.length + 1)).getD n 0 - (posn (plcs l (l.length + 1)) n + 1)) _ _ (by omega) fun i hi hj => ⟨by omega, gap (k := n) (by omega) (by omega) (fun h => hj) (by omega)⟩]
    obtain ⟨hb, hp⟩ := hL (n + 1) (by omega) (by omega)
    rw [hsucc] at hb hp
    have hok := tabOf_ok (l := l) (width := width) hS hw1 (j := n + 1) (by omega)
    generalize hE : (plcs l (l.length + 1)).getD n 0 = e at *
    have hkc := kindAt_cases l e
    have hlast : lastB l (posn (plcs l (l.length + 1)) k) e = false := by
      unfold lastB
      by_cases h : e = l.length
      · subst h
        have h1 := (kind_len l).resolve_left p3
        have hne : ¬ l.length = posn (plcs l (l.length + 1)) k := by omega
        rw [kind_fin.1 h1, decide_eq_false hne]
        simp
      · rw [decide_eq_false h]; rfl
    by_cases hw : fullTo l (plcs l (l.length + 1)) k e ≤ width
    · have hw' : wAt l (posn (plcs l (l.length + 1)) k) e ≤ width := hw
      have hcand : EqA (plcs l (l.length + 1)) (cand l (plcs l (l.length + 1)) width (tabOf l width) k n) (rcand l width (rtab l width) (posn (plcs l (l.length + 1)) k) e) := by
        refine ⟨?_, ?_, rfl, fun _ => .inr ⟨n, rfl, hn, by rw [hE]; rfl⟩⟩
        · simp only [cand, rcand, hE, hb]; rfl
        · simp only [cand, rcand, hp]; omega
      have hacc := EqA.better hcand ha
      have hr2 : racc2 l width (rtab l width) (posn (plcs l (l.length + 1)) k) e acc' = better (rcand l width (rtab l width) (posn (plcs l (l.length + 1)) k) e) acc' := by
        rw [racc2_no hlast]
        unfold racc1
        rw [if_pos ⟨by omega, by omega⟩]
      by_cases h1 : kindAt l e = 1
      · rw [inner_hard hn (by rw [hE]; exact hw) hok (by rw [hE]; exact h1), rinner_stop (by omega) hw' ⟨by omega, h1⟩, hr2]
        exact hacc
      · rw [inner_on hn (by rw [hE]; exact hw) hok (by rw [hE]; exact h1), rinner_on (by omega) hw' (fun h => h1 h.2), hr2]
        have hne : e ≠ l.length := fun h => by
          subst h; rcases kind_len l with h2 | h2 <;> contradiction
        have := loop_eq hS hw1 hL d (n + 1) _ _ (by omega) (by omega) (by rw [hsucc]; omega) hacc
        rw [hsucc] at this
        exact this
    · have hw' : ¬ wAt l (posn (plcs l (l.length + 1)) k) e ≤ width := hw
      rw [inner_full hn (by rw [hE]; exact hw), rinner_full (by omega) hw']
      exact ha
theorem entry_eq (hS : Small l) (hw1 : 2 ≤ width) {k : Nat} (hk : k ≤ (plcs l (l.length + 1)).length) (hL : Later l width k) :
    EqA (plcs l (l.length + 1)) ((tabOf l width).getD k zB) (rinner l width (rtab l width) (posn (plcs l (l.length + 1)) k) (posn (plcs l (l.length + 1)) k) zB) := by
  rw [tab_entry hk]
  have hle := posn_le hk
  have hw0 : wAt l (posn (plcs l (l.length + 1)) k) (posn (plcs l (l.length + 1)) k) = 0 := by unfold wAt; rw [Nat.sub_self]; rfl
  rw [rinner_on hle (by rw [hw0]; omega) (by omega)]
  have hr1 : racc1 l width (rtab l width) (posn (plcs l (l.length + 1)) k) (posn (plcs l (l.length + 1)) k) zB = zB := racc1_no (by omega)
  by_cases h : posn (plcs l (l.length + 1)) k = l.length
  · have hN : ¬ k < (plcs l (l.length + 1)).length := fun hlt => by
      have := posn_lt hlt
      have := (plcs_le hlt).1
      omega
    have hl : lastB l (posn (plcs l (l.length + 1)) k) (posn (plcs l (l.length + 1)) k) = true := by
      unfold lastB; rw [decide_eq_true h, decide_eq_true h.symm]; rfl
    have hf : fullTo l (plcs l (l.length + 1)) k l.length = 0 := by unfold fullTo; rw [h, Nat.sub_self]; rfl
    rw [inner_end hN, rinner_end (by omega), endly_yes (by rw [hf]; omega)]
    unfold racc2
    rw [if_pos hl, hr1]
    refine EqA.better ⟨?_, rfl, rfl, fun _ => .inl ⟨rfl, rfl⟩⟩ ⟨rfl, rfl, rfl, fun h => by cases h⟩
    simp only [rend, hf, hw0]
  · have hl : lastB l (posn (plcs l (l.length + 1)) k) (posn (plcs l (l.length + 1)) k) = false := by
      unfold lastB; rw [decide_eq_false h]; rfl
    rw [racc2_no hl, hr1]
    exact loop_eq hS hw1 hL ((plcs l (l.length + 1)).length - k) k zB zB (by omega) (Nat.le_refl _) (by omega) ⟨rfl, rfl, rfl, fun h => by cases h⟩
theorem later (hS : Small l) (hw1 : 2 ≤ width) : ∀ (d k : Nat), k + d = (plcs l (l.length + 1)).length → Later l width k
  | 0, k, h => fun j h1 h2 => by omega
  | d + 1, k, h => fun j h1 h2 => by
    have ih := later hS hw1 d (k + 1) (by omega)
    by_cases hj : j = k + 1
    · subst hj
      have he := entry_eq hS hw1 (k := k + 1) (by omega) ih
      rw [rt_entry (posn_le (by omega))]
      exact ⟨he.bad, he.places⟩
    · exact ih j (by omega) h2
theorem both_eq (hS : Small l) (hw1 : 2 ≤ width) {k : Nat} (hk : k ≤ (plcs l (l.length + 1)).length) :
    ((tabOf l width).getD k zB).bad = ((rtab l width).getD (posn (plcs l (l.length + 1)) k) zR).bad ∧ ((tabOf l width).getD k zB).places = ((rtab l width).getD (posn (plcs l (l.length + 1)) k) zR).count ∧ NxA (plcs l (l.length + 1)) ((tabOf l width).getD k zB).next ((rtab l width).getD (posn (plcs l (l.length + 1)) k) zR).next := by
  have he := entry_eq hS hw1 hk (later hS hw1 ((plcs l (l.length + 1)).length - k) k (by omega))
  rw [rt_entry (posn_le hk)]
  exact ⟨he.bad, he.places, he.next (tabOf_ok hS hw1 hk)⟩
end
end Go.SX.Plain
/- The program's way and the document's are the same; the places. No program here. -/
namespace Go.SX.Plain
/-- The way out of a table: clusters. -/
def rwGo (ct : List Rb) : Nat → Int → List Int
  | 0, _ => []
  | k + 1, x => if 0 < x then x :: rwGo ct k (ct.getD x.toNat zR).next else []
def rfar (n : Nat) (x : Int) : Nat := if 0 < x then n + 1 - x.toNat else 0
def rway (n : Nat) (ct : List Rb) (x : Int) : List Int := rwGo ct (rfar n x) x
structure RNx (n : Nat) (x : Int) : Prop where
  out : x = 0 ∨ ∃ m : Nat, x = m ∧ 0 < m ∧ m ≤ n
theorem RNx.next {n : Nat} {ct : List Rb} {m : Nat} (hg : ∀ j, GdR n j (ct.getD j zR)) (h0 : 0 < m) (hm : m ≤ n) : RNx n (ct.getD m zR).next ∧ rfar n (ct.getD m zR).next < rfar n (m : Int) := by
  have hx := (hg m).n0
  have e1 : rfar n (m : Int) = n + 1 - m := by unfold rfar; rw [if_pos (by omega)]; omega
  rw [e1]
  rcases hx with hx | ⟨q, h1, h2, h3⟩
  · rw [hx]; exact ⟨⟨.inl rfl⟩, by unfold rfar; simp; omega⟩
  · rw [h1]; exact ⟨⟨.inr ⟨q, rfl, by omega, h3⟩⟩, by unfold rfar; rw [if_pos (by omega)]; omega⟩
theorem rwGo_fuel {n : Nat} {ct : List Rb} (hg : ∀ j, GdR n j (ct.getD j zR)) : ∀ (k k' : Nat) (x : Int), RNx n x → rfar n x ≤ k → rfar n x ≤ k' → rwGo ct k x = rwGo ct k' x
  | 0, 0, _, _, _, _ => rfl
  | 0, k' + 1, x, hx, h, _ => by
    simp only [rwGo]
    rcases hx.out with rfl | ⟨m, rfl, h1, h2⟩
    · simp
    · unfold rfar at h; rw [if_pos (by omega)] at h; omega
  | k + 1, 0, x, hx, _, h => by
    simp only [rwGo]
    rcases hx.out with rfl | ⟨m, rfl, h1, h2⟩
    · simp
    · unfold rfar at h; rw [if_pos (by omega)] at h; omega
  | k + 1, k' + 1, x, hx, h, h' => by
    simp only [rwGo]
    split
    · rcases hx.out with rfl | ⟨m, rfl, h1, h2⟩
      · omega
      · rw [Int.toNat_natCast]
        obtain ⟨q1, q2⟩ := RNx.next hg h1 h2
        rw [rwGo_fuel hg k k' _ q1 (by omega) (by omega)]
    · rfl
theorem rway_step {n : Nat} {ct : List Rb} {m : Nat} (hg : ∀ j, GdR n j (ct.getD j zR)) (h0 : 0 < m) (hm : m ≤ n) : rway n ct (m : Int) = (m : Int) :: rway n ct (ct.getD m zR).next := by
  obtain ⟨q1, q2⟩ := RNx.next hg h0 hm
  unfold rway
  obtain ⟨k, hk⟩ : ∃ k, rfar n (m : Int) = k + 1 := ⟨rfar n (m : Int) - 1, by omega⟩
  rw [hk]
  simp only [rwGo, Int.toNat_natCast]
  rw [if_pos (by omega), rwGo_fuel hg k _ _ q1 (by omega) (Nat.le_refl _)]
theorem rway_end (n : Nat) (ct : List Rb) {x : Int} (h : ¬ 0 < x) : rway n ct x = [] := by
  unfold rway rfar; rw [if_neg h]; rfl
theorem rwGo_len (ct : List Rb) : ∀ (k : Nat) (x : Int), (rwGo ct k x).length ≤ k
  | 0, _ => by simp [rwGo]
  | k + 1, x => by
    simp only [rwGo]
    split
    · have := rwGo_len ct k (ct.getD x.toNat zR).next
      simp only [List.length_cons]; omega
    · simp
theorem rwGo_mem {n : Nat} {ct : List Rb} (hg : ∀ j, GdR n j (ct.getD j zR)) : ∀ (k : Nat) (x : Int), RNx n x → ∀ y ∈ rwGo ct k x, 0 < y ∧ y ≤ n
  | 0, _, _, y, hy => by simp [rwGo] at hy
  | k + 1, x, hx, y, hy => by
    simp only [rwGo] at hy
    split at hy
    · rcases hx.out with rfl | ⟨m, rfl, h1, h2⟩
      · omega
      · rcases List.mem_cons.1 hy with rfl | hy
        · omega
        · rw [Int.toNat_natCast] at hy
          exact rwGo_mem hg k _ (RNx.next hg h1 h2).1 y hy
    · cases hy
def rwayL (l : List Part) (width : Int) : List Int := rway l.length (rtab l width) ((rtab l width).getD 0 zR).next
theorem rtab_gd {l : List Part} {width : Int} (hs : Small l) (hw : width ≤ 200) (j : Nat) : GdR l.length j ((rtab l width).getD j zR) := rt_gd hs hw _ j (Nat.le_refl _) (by omega)
theorem rnx0 {l : List Part} {width : Int} (hs : Small l) (hw : width ≤ 200) : RNx l.length ((rtab l width).getD 0 zR).next :=
  ⟨(rtab_gd hs hw 0).n0.imp (fun h => h) fun ⟨m, h1, h2, h3⟩ => ⟨m, h1, h2, h3⟩⟩
theorem rwayL_mem {l : List Part} {width : Int} (hs : Small l) (hw : width ≤ 200) : ∀ y ∈ rwayL l width, 0 < y ∧ y ≤ l.length := rwGo_mem (rtab_gd hs hw) _ _ (rnx0 hs hw)
theorem rwayL_len (l : List Part) (width : Int) : (rwayL l width).length ≤ l.length + 1 := by
  unfold rwayL rway
  refine Nat.le_trans (rwGo_len _ _ _) ?_
  unfold rfar; split <;> omega
/-- The document's answer. -/
def rwrapOut (l : List Part) (width : Int) : List (Int × Int) := (rwayL l width).map fun x => (placeP (l.map pcOf) x.toNat, (kindsP (l.map pcOf)).getD x.toNat 0)
def rwrapL (s : ByteArray) (width : Int) : List (Int × Int) := if checkN s.size width = 0 then rwrapOut (parts s) width else []
def rwrapB (s : ByteArray) (width : Int) : Int := if checkN s.size width = 0 then ((rtab (parts s) width).getD 0 zR).bad else 0
/-- The document's places, those up to cluster i told. -/
def routTo (l : List Pc) (i : Nat) : List (Int × Int) := ((List.range i).filter fun i => decide (0 < i) && decide (0 < (kindsP l).getD i 0)).map fun i => (placeP l i, (kindsP l).getD i 0)
theorem routTo_no {l : List Pc} {i : Nat} (h : ¬ 0 < (kindsP l).getD i 0) : routTo l (i + 1) = routTo l i := by
  simp only [routTo, List.range_succ, List.filter_append, List.filter_cons, List.filter_nil]
  rw [decide_eq_false h]; simp
theorem routTo_yes {l : List Pc} {i : Nat} (h0 : 0 < i) (h : 0 < (kindsP l).getD i 0) : routTo l (i + 1) = routTo l i ++ [(placeP l i, (kindsP l).getD i 0)] := by
  simp only [routTo, List.range_succ, List.filter_append, List.filter_cons, List.filter_nil]
  rw [decide_eq_true h, decide_eq_true h0]; simp
theorem routTo_len (l : List Pc) (i : Nat) : (routTo l i).length ≤ i := by
  simp only [routTo, List.length_map]
  exact Nat.le_trans (List.length_filter_le _ _) (by simp)
theorem wayGo_lt {N : Nat} {ws : List Bst} (hg : ∀ j, Gd N ws j (ws.getD j zB)) : ∀ (f : Nat) (n : Int), Nx N ws n → ∀ x ∈ wayGo ws f n, x < N
  | 0, _, _, x, hx => by simp [wayGo] at hx
  | f + 1, n, hn, x, hx => by
    simp only [wayGo] at hx
    split at hx
    · rcases hn.out with rfl | ⟨m, rfl, hm, hok⟩
      · omega
      · have e : ((m : Int) + 1).toNat = m + 1 := by omega
        rw [e, Int.toNat_natCast] at hx
        rcases List.mem_cons.1 hx with rfl | hx
        · exact hm
        · exact wayGo_lt hg f _ (Nx.next hg hok hm).1 x hx
    · cases hx
theorem wayL_lt {l : List Part} {width : Int} (hg : ∀ j, Gd (plcs l (l.length + 1)).length (tabOf l width) j ((tabOf l width).getD j zB)) (hok : ((tabOf l width).getD 0 zB).ok = true) : ∀ x ∈ wayL l width, x < (plcs l (l.length + 1)).length :=
  wayGo_lt hg _ _ ⟨((hg 0).nx hok).imp (fun h => h) fun ⟨n, h1, _, h3, h4⟩ => ⟨n, h1, h3, h4⟩⟩
section
variable {l : List Part} {width : Int}
/-- The ways are alike. -/
theorem way_eq (hS : Small l) (hw1 : 2 ≤ width) (hw2 : width ≤ 200) : ∀ (d : Nat) (x y : Int), far (plcs l (l.length + 1)).length x ≤ d → NxA (plcs l (l.length + 1)) x y → Nx (plcs l (l.length + 1)).length (tabOf l width) x →
    rway l.length (rtab l width) y = (wayOf (plcs l (l.length + 1)).length (tabOf l width) x).map fun m => (((plcs l (l.length + 1)).getD m 0 : Nat) : Int)
  | d, x, y, hd, hxy, hx => by
    rcases hxy with ⟨rfl, rfl⟩ | ⟨m, rfl, hm, rfl⟩
    · rw [wayOf_end _ _ (by omega), rway_end _ _ (by omega)]; rfl
    · obtain ⟨d', rfl⟩ : ∃ d', d = d' + 1 := by
        refine ⟨d - 1, ?_⟩
        unfold far at hd
        rw [if_pos (by omega)] at hd
        omega
      have hg := fun j => tabOf_gd (l := l) (width := width) hS hw2 j
      have hrg := fun j => rtab_gd (l := l) (width := width) hS hw2 j
      have hok := tabOf_ok (l := l) (width := width) hS hw1 (j := m + 1) (by omega)
      obtain ⟨h1, h2⟩ := Nx.next hg hok hm
      obtain ⟨p1, p2, p3⟩ := plcs_le hm
      have hb := (both_eq (width := width) hS hw1 (k := m + 1) (by omega)).2.2
      rw [posn_succ] at hb
      rw [wayOf_step hg hok hm, rway_step hrg p2 (by omega), List.map_cons, way_eq hS hw1 hw2 d' _ _ (by omega) hb h1]
theorem rwayL_eq (hS : Small l) (hw1 : 2 ≤ width) (hw2 : width ≤ 200) : rwayL l width = (wayL l width).map fun m => (((plcs l (l.length + 1)).getD m 0 : Nat) : Int) := by
  have hok := tabOf_ok (l := l) (width := width) hS hw1 (j := 0) (Nat.zero_le _)
  have hb := (both_eq (width := width) hS hw1 (k := 0) (Nat.zero_le _)).2.2
  have h0 : posn (plcs l (l.length + 1)) 0 = 0 := rfl
  rw [h0] at hb
  exact way_eq hS hw1 hw2 _ _ _ (Nat.le_refl _) hb ⟨((tabOf_gd hS hw2 0).nx hok).imp (fun h => h) fun ⟨n, h1, _, h3, h4⟩ => ⟨n, h1, h3, h4⟩⟩
theorem bad_eq (hS : Small l) (hw1 : 2 ≤ width) : ((tabOf l width).getD 0 zB).bad = ((rtab l width).getD 0 zR).bad := (both_eq (width := width) hS hw1 (k := 0) (Nat.zero_le _)).1
end
/-- Clusters, one behind the other. -/
inductive Chn : Int → List Clu → Prop
  | nil {x : Int} : Chn x []
  | cons {x : Int} {c : Clu} {l : List Clu} (hx : c.frm = x) (h : Chn c.to l) : Chn x (c :: l)
theorem remGo_chn (l a : List Int) : ∀ (k f t : Nat), Chn (f : Int) (remGo l a k f t)
  | 0, f, t => Chn.cons (c := (gAt l a f t).c) rfl .nil
  | k + 1, f, t => by
    simp only [remGo]
    split
    · split
      · exact remGo_chn l a k f (t + 1)
      · exact Chn.cons (c := (gAt l a f t).c) rfl (remGo_chn l a k t (t + 1))
    · exact Chn.cons (c := (gAt l a f t).c) rfl .nil
theorem Chn.at {x : Int} {l : List Clu} (h : Chn x l) (d : Clu) : ∀ i, i + 1 < l.length → (l.getD (i + 1) d).frm = (l.getD i d).to := by
  induction h with
  | nil => intro i hi; simp at hi
  | @cons x c l hx h ih =>
    intro i hi
    cases i with
    | zero =>
      cases h with
      | nil => simp at hi
      | cons hx2 _ => exact hx2
    | succ i => exact ih i (by simpa using hi)
theorem clusters_chn (s : ByteArray) : Chn 0 (clusters s) := by
  rw [clusters_rem]
  split
  · exact remGo_chn _ _ _ 0 1
  · exact .nil
theorem parts_chn (s : ByteArray) {i : Nat} (h0 : 0 < i) (hi : i < (parts s).length) : ((parts s).getD i dPart).c.frm = ((parts s).getD (i - 1) dPart).c.to := by
  have hlen : (parts s).length = (clusters s).length := by simp [parts]
  have e : ∀ j, j < (clusters s).length → ((parts s).getD j dPart).c = (clusters s).getD j ⟨0, 0, 0, 0, 0⟩ := fun j hj => by
    simp [parts, List.getD_eq_getElem?_getD, hj]; rfl
  rw [e i (by omega), e (i - 1) (by omega)]
  have := (clusters_chn s).at ⟨0, 0, 0, 0, 0⟩ (i - 1) (by omega)
  rwa [show i - 1 + 1 = i by omega] at this
theorem place_eq (s : ByteArray) {i : Nat} (h0 : 0 < i) (hi : i ≤ (parts s).length) : placeP ((parts s).map pcOf) i = ((parts s).getD (i - 1) dPart).c.to := by
  unfold placeP
  rw [List.length_map]
  by_cases h : i = (parts s).length
  · rw [if_pos h, pc_at]; rfl
  · rw [if_neg h, pc_at]
    exact parts_chn s h0 (by omega)
theorem kinds_eq {l : List Part} (hT : ∀ p ∈ l, Told p) {i : Nat} (h0 : 0 < i) (hi : i ≤ l.length) : (kindsP (l.map pcOf)).getD i 0 = kindAt l i := by
  rw [kindsP_get h0 (by simpa using hi)]
  exact kindP_eq hT h0 hi
/-- **The document breaks a text as the program does.** -/
theorem wrap_eq {s : ByteArray} {width : Int} (hw1 : 2 ≤ width) (hw2 : width ≤ 200) : wrapOut (parts s) width = rwrapOut (parts s) width := by
  have hS := parts_small s
  unfold wrapOut rwrapOut
  rw [rwayL_eq hS hw1 hw2, List.map_map]
  refine List.map_congr_left fun n hn => ?_
  have hg := fun j => tabOf_gd (l := parts s) (width := width) hS hw2 j
  have hlt : n < (plcs (parts s) ((parts s).length + 1)).length := wayL_lt hg (tabOf_ok hS hw1 (Nat.zero_le _)) n hn
  obtain ⟨p1, p2, p3⟩ := plcs_le hlt
  rw [outL_getD hlt]
  simp only [Function.comp_apply, Int.toNat_natCast]
  rw [place_eq s p2 (by omega), kinds_eq (parts_told s) p2 (by omega)]
/-- **The document's places are the program's.** -/
theorem places_eq (s : ByteArray) : outL (parts s) ((parts s).length + 1) = routTo (pcs s) ((pcs s).length + 1) := by
  have hpc : pcs s = (parts s).map pcOf := rfl
  have hml : ((parts s).map pcOf).length = (parts s).length := by simp
  unfold outL routTo plcs
  rw [hpc, hml]
  have hfilt : (List.range ((parts s).length + 1)).filter (fun i => decide (0 < i) && decide (kindAt (parts s) i ≠ 0)) = (List.range ((parts s).length + 1)).filter (fun i => decide (0 < i) && decide (0 < (kindsP ((parts s).map pcOf)).getD i 0)) := by
    refine List.filter_congr fun i hi => ?_
    have hi := List.mem_range.1 hi
    by_cases h0 : 0 < i
    · rw [kinds_eq (parts_told s) h0 (by omega)]
      have := kindAt_cases (parts s) i
      congr 1
      rw [decide_eq_decide]
      omega
    · rw [decide_eq_false h0]; rfl
  rw [hfilt]
  refine List.map_congr_left fun i hi => ?_
  obtain ⟨h1, h2⟩ := List.mem_filter.1 hi
  have h1 := List.mem_range.1 h1
  simp only [Bool.and_eq_true, decide_eq_true_eq] at h2
  rw [place_eq s h2.1 (by omega), kinds_eq (parts_told s) h2.1 (by omega)]
end Go.SX.Plain
/- Contracts of the document's way, Wrap, Places; of the program's Places; of the law's Same, head. -/
namespace Go.SX.Try
open Go.Proofs Go.Proofs.Try Go.SX.Plain
set_option maxRecDepth 100000
set_option maxHeartbeats 0
set_option linter.unusedSimpArgs false
theorem q_way : fact 47 f47 := ⟨by kernel_rfl, rfl, by kernel_rfl⟩
theorem q_rwrap : fact 14 f14 := ⟨by kernel_rfl, rfl, by kernel_rfl⟩
def D_way : Cds := [(3, ⟨Int, C_int⟩), (92, ⟨Int × Int, C_brk⟩)]
theorem D_way_ok : CdsOK T D_way := .cons ⟨fun _ => rfl, by decide, _, rfl, rfl, by decide⟩ (.cons ⟨fun _ => rfl, by decide, _, rfl, rfl, by decide⟩ .nil)
theorem con_way : Con prog 47 (fun ((l, width) : List Part × Int) => [.ro 4 C_pc.enc C_pc.d (l.map pcOf) none, .v (.int .i64 width)]) (fun (l, width) => .tup [.ro 1 C_int.enc C_int.d (rwayL l width) none, .v (.int .i64 ((rtab l width).getD 0 zR).bad)]) (fun (l, width) => OkL l ∧ 2 ≤ width ∧ width ≤ 200) := by
  refine Con.of (by kernel_rfl) T_ok D_way_ok (.con con_table .nil) 3 [] q_way.1 q_way.2.1 q_way.2.2 (fun _ => rfl) fun i hi => ?_
  obtain ⟨l, width⟩ := i
  have hi2 := hi
  obtain ⟨⟨hT, hS, hlen⟩, hw1, hw2⟩ : OkL l ∧ 2 ≤ width ∧ width ≤ 200 := hi
  have hrl : (rtab l width).length = l.length + 1 := rt_len _ _ _
  repeat' (first | (with_reducible refine ⟨(_, _), ⟨(.cons (.ro _ _ _ _ _) (.cons (.v _) .nil)), ?_⟩, ?_⟩) | (with_reducible exact fun h => h) | (with_reducible refine ExE.row (by with_unfolding_all rfl) ?_) | (with_reducible refine And.intro ?_ ?_) | ((with_reducible intro hq); first | (exact bne1 hq (by with_reducible assumption)) | (exact bne1 (by with_reducible assumption) hq) | ((simp only [*, Bool.and_true, Bool.true_and, Bool.and_false, Bool.false_and, Bool.or_true, Bool.true_or, Bool.or_false, Bool.false_or, Bool.not_true, Bool.not_false, Bool.true_eq_false, Bool.false_eq_true, cond_true, cond_false, Bool.cond_self, reduceCtorEq] at hq); done) | (revert hq; with_reducible intro _)) | (with_reducible exact True.intro) | (with_reducible rfl) | ((with_reducible refine WkX.chk ?_); (conv => whnf)) | ((with_reducible refine Wk.chk ?_); (conv => whnf)) | (with_reducible refine EntLe.row ?_) | (with_reducible exact LeN.ro rfl) | (with_reducible exact LeN.rptr) | ((with_reducible refine LeL.chk ?_); (conv => whnf)) | ((with_reducible show LeO _ _); (first | (refine LeO.ro ?_) | (refine LeO.roCap ?_) | (refine LeO.nil ?_ (fun _ => rfl)))) | ((with_reducible show LeR _ _ _); (first | (refine LeR.own rfl rfl rfl ?_) | (refine LeR.view rfl rfl rfl ?_ ?_) | (refine LeR.ro ?_) | (refine LeR.roCap ?_) | (refine LeR.nil ?_ (fun _ => rfl)))) | ((with_reducible refine LeF.chk ?_); (conv => whnf)) | (with_reducible assumption) | ((with_reducible refine Run.mk ?_); (conv => whnf)) | ((with_reducible show drawOK _ _ = true); kernel_rfl) | ((with_reducible show drawOK2 _ _ = true); kernel_rfl) | ((with_reducible show drawOK3 _ _ = true); kernel_rfl))
  · exact hi2.1
  · omega
  · rw [hrl]; omega
  have hg := fun j => rtab_gd (l := l) (width := width) hS hw2 j
  have hwl := rwayL_len l width
  have e5 : C_rb.d = zR := rfl
  refine loopI (Int × List Int) [] (fun | (x, _) => [(8, .v (.int .i64 x)), (7, .own 1)]) (fun | (_, o) => [(1, .row C_int o 3 none)])
    (fun | (x, o) => RNx l.length x ∧ o ++ rway l.length (rtab l width) x = rwayL l width) (fun | (x, _) => rfar l.length x) (((rtab l width).getD 0 zR).next, []) ⟨rnx0 hS hw2, rfl⟩ (Wk.chk ?_) fun i hi => ?_
  · ((conv => whnf); repeat' (first | (with_reducible exact fun h => h) | (with_reducible refine ExE.row (by with_unfolding_all rfl) ?_) | (with_reducible refine And.intro ?_ ?_) | ((with_reducible intro hq); first | (exact bne1 hq (by with_reducible assumption)) | (exact bne1 (by with_reducible assumption) hq) | ((simp only [*, Bool.and_true, Bool.true_and, Bool.and_false, Bool.false_and, Bool.or_true, Bool.true_or, Bool.or_false, Bool.false_or, Bool.not_true, Bool.not_false, Bool.true_eq_false, Bool.false_eq_true, cond_true, cond_false, Bool.cond_self, reduceCtorEq] at hq); done) | (revert hq; with_reducible intro _)) | (with_reducible exact True.intro) | (with_reducible rfl) | ((with_reducible refine WkX.chk ?_); (conv => whnf)) | ((with_reducible refine Wk.chk ?_); (conv => whnf)) | (with_reducible refine EntLe.row ?_) | (with_reducible exact LeN.ro rfl) | (with_reducible exact LeN.rptr) | ((with_reducible refine LeL.chk ?_); (conv => whnf)) | ((with_reducible show LeO _ _); (first | (refine LeO.ro ?_) | (refine LeO.roCap ?_) | (refine LeO.nil ?_ (fun _ => rfl)))) | ((with_reducible show LeR _ _ _); (first | (refine LeR.own rfl rfl rfl ?_) | (refine LeR.view rfl rfl rfl ?_ ?_) | (refine LeR.ro ?_) | (refine LeR.roCap ?_) | (refine LeR.nil ?_ (fun _ => rfl)))) | ((with_reducible refine LeF.chk ?_); (conv => whnf)) | (with_reducible assumption) | ((with_reducible refine Run.mk ?_); (conv => whnf)) | ((with_reducible show drawOK _ _ = true); kernel_rfl) | ((with_reducible show drawOK2 _ _ = true); kernel_rfl) | ((with_reducible show drawOK3 _ _ = true); kernel_rfl)))
    all_goals rfl
  obtain ⟨x, o⟩ := i
  obtain ⟨hx, ho⟩ := hi
  rcases hx.out with hx1 | ⟨m, hx1, hx2, hx3⟩
  · subst hx1
    rw [rway_end _ _ (by omega), List.append_nil] at ho
    repeat' (first | (with_reducible exact fun h => h) | (with_reducible refine ExE.row (by with_unfolding_all rfl) ?_) | (with_reducible refine And.intro ?_ ?_) | ((with_reducible intro hq); first | (exact bne1 hq (by with_reducible assumption)) | (exact bne1 (by with_reducible assumption) hq) | ((simp only [*, Bool.and_true, Bool.true_and, Bool.and_false, Bool.false_and, Bool.or_true, Bool.true_or, Bool.or_false, Bool.false_or, Bool.not_true, Bool.not_false, Bool.true_eq_false, Bool.false_eq_true, cond_true, cond_false, Bool.cond_self, reduceCtorEq] at hq); done) | (revert hq; with_reducible intro _)) | (with_reducible exact True.intro) | (with_reducible rfl) | ((with_reducible refine WkX.chk ?_); (conv => whnf)) | ((with_reducible refine Wk.chk ?_); (conv => whnf)) | (with_reducible refine EntLe.row ?_) | (with_reducible exact LeN.ro rfl) | (with_reducible exact LeN.rptr) | ((with_reducible refine LeL.chk ?_); (conv => whnf)) | ((with_reducible show LeO _ _); (first | (refine LeO.ro ?_) | (refine LeO.roCap ?_) | (refine LeO.nil ?_ (fun _ => rfl)))) | ((with_reducible show LeR _ _ _); (first | (refine LeR.own rfl rfl rfl ?_) | (refine LeR.view rfl rfl rfl ?_ ?_) | (refine LeR.ro ?_) | (refine LeR.roCap ?_) | (refine LeR.nil ?_ (fun _ => rfl)))) | ((with_reducible refine LeF.chk ?_); (conv => whnf)) | (with_reducible assumption) | ((with_reducible refine Run.mk ?_); (conv => whnf)) | ((with_reducible show drawOK _ _ = true); kernel_rfl) | ((with_reducible show drawOK2 _ _ = true); kernel_rfl) | ((with_reducible show drawOK3 _ _ = true); kernel_rfl))
    all_goals first
      | omega
      | (exfalso; have h : decide ((0 : Int) < 0) = true := by assumption
         exact absurd h (by decide))
      | (rw [hrl]; omega)
      | exact ho
      | rfl
  · subst hx1
    obtain ⟨hn1, hn2⟩ := RNx.next hg hx2 hx3
    rw [rway_step hg hx2 hx3, List.append_cons] at ho
    have hol : o.length + 1 ≤ l.length + 1 := by rw [← ho] at hwl; simp at hwl; omega
    have e1 : ((m : Int)).toNat = m := Int.toNat_natCast _
    repeat' (first | (with_reducible refine ex_of (α := Int × List Int) (_, _) ⟨⟨hn1, ho⟩, hn2⟩ ?_) | (with_reducible exact fun h => h) | (with_reducible refine ExE.row (by with_unfolding_all rfl) ?_) | (with_reducible refine And.intro ?_ ?_) | ((with_reducible intro hq); first | (exact bne1 hq (by with_reducible assumption)) | (exact bne1 (by with_reducible assumption) hq) | ((simp only [*, Bool.and_true, Bool.true_and, Bool.and_false, Bool.false_and, Bool.or_true, Bool.true_or, Bool.or_false, Bool.false_or, Bool.not_true, Bool.not_false, Bool.true_eq_false, Bool.false_eq_true, cond_true, cond_false, Bool.cond_self, reduceCtorEq] at hq); done) | (revert hq; with_reducible intro _)) | (with_reducible exact True.intro) | (with_reducible rfl) | ((with_reducible refine WkX.chk ?_); (conv => whnf)) | ((with_reducible refine Wk.chk ?_); (conv => whnf)) | (with_reducible refine EntLe.row ?_) | (with_reducible exact LeN.ro rfl) | (with_reducible exact LeN.rptr) | ((with_reducible refine LeL.chk ?_); (conv => whnf)) | ((with_reducible show LeO _ _); (first | (refine LeO.ro ?_) | (refine LeO.roCap ?_) | (refine LeO.nil ?_ (fun _ => rfl)))) | ((with_reducible show LeR _ _ _); (first | (refine LeR.own rfl rfl rfl ?_) | (refine LeR.view rfl rfl rfl ?_ ?_) | (refine LeR.ro ?_) | (refine LeR.roCap ?_) | (refine LeR.nil ?_ (fun _ => rfl)))) | ((with_reducible refine LeF.chk ?_); (conv => whnf)) | (with_reducible assumption) | ((with_reducible refine Run.mk ?_); (conv => whnf)) | ((with_reducible show drawOK _ _ = true); kernel_rfl) | ((with_reducible show drawOK2 _ _ = true); kernel_rfl) | ((with_reducible show drawOK3 _ _ = true); kernel_rfl))
    all_goals first
      | omega
      | (exfalso; have h : decide ((0 : Int) < (m : Int)) = false := by assumption
         simp at h; omega)
      | (rw [hrl]; omega)
      | rfl
      | (simp only [List.length_cons, List.length_nil]; omega)
theorem okParts {s : ByteArray} {width : Int} (h : checkN s.size width = 0) : OkL (Plain.parts s) ∧ 2 ≤ width ∧ width ≤ 200 ∧ s.size ≤ 4096 := by
  have hl := parts_len s
  unfold checkN at h
  split at h
  · cases h
  · split at h
    · cases h
    · exact ⟨⟨parts_told s, parts_small s, by omega⟩, by omega, by omega, by omega⟩
theorem con_rwrap : Con prog 14 (fun ((s, width) : ByteArray × Int) => [.v (.string s), .v (.int .i64 width)]) (fun (s, width) => .tup [.ro 2 C_brk.enc C_brk.d (rwrapL s width) none, .v (.int .i64 (rwrapB s width)), .v (.int .i64 (checkN s.size width))]) (fun _ => True) := by
  refine Con.of (by kernel_rfl) T_ok D_way_ok (.con con_rcheck (.con con_pieces (.con con_kinds (.con con_way (.con con_place .nil))))) 3 [] q_rwrap.1 q_rwrap.2.1 q_rwrap.2.2 (fun _ => rfl) fun i _ => ?_
  obtain ⟨s, width⟩ := i
  have hpc : pcs s = (Plain.parts s).map pcOf := rfl
  by_cases hck : checkN s.size width = 0
  · obtain ⟨hok, hw1, hw2, hsz⟩ := okParts hck
    have hL : rwrapL s width = rwrapOut (Plain.parts s) width := by unfold rwrapL; rw [if_pos hck]
    have hB : rwrapB s width = ((rtab (Plain.parts s) width).getD 0 zR).bad := by unfold rwrapB; rw [if_pos hck]
    have hnz : (checkN s.size width != 0) = false := by rw [hck]; rfl
    repeat' (first | (with_reducible refine ⟨(_, _), ⟨(.cons (.v _) (.cons (.v _) .nil)), ?_⟩, ?_⟩) | (with_reducible refine ⟨_, ⟨(.cons (.v _) .nil), ?_⟩, ?_⟩) | (with_reducible refine ⟨_, ⟨(.cons (.ro _ _ _ _ _) .nil), ?_⟩, ?_⟩) | (with_reducible refine ⟨(Plain.parts s, _), ⟨(.cons (.ro _ _ _ _ _) (.cons (.v _) .nil)), ?_⟩, ?_⟩) | (with_reducible exact fun h => h) | (with_reducible refine ExE.row (by with_unfolding_all rfl) ?_) | (with_reducible refine And.intro ?_ ?_) | ((with_reducible intro hq); first | (exact bne1 hq (by with_reducible assumption)) | (exact bne1 (by with_reducible assumption) hq) | ((simp only [*, Bool.and_true, Bool.true_and, Bool.and_false, Bool.false_and, Bool.or_true, Bool.true_or, Bool.or_false, Bool.false_or, Bool.not_true, Bool.not_false, Bool.true_eq_false, Bool.false_eq_true, cond_true, cond_false, Bool.cond_self, reduceCtorEq] at hq); done) | (revert hq; with_reducible intro _)) | (with_reducible exact True.intro) | (with_reducible rfl) | ((with_reducible refine WkX.chk ?_); (conv => whnf)) | ((with_reducible refine Wk.chk ?_); (conv => whnf)) | (with_reducible refine EntLe.row ?_) | (with_reducible exact LeN.ro rfl) | (with_reducible exact LeN.rptr) | ((with_reducible refine LeL.chk ?_); (conv => whnf)) | ((with_reducible show LeO _ _); (first | (refine LeO.ro ?_) | (refine LeO.roCap ?_) | (refine LeO.nil ?_ (fun _ => rfl)))) | ((with_reducible show LeR _ _ _); (first | (refine LeR.own rfl rfl rfl ?_) | (refine LeR.view rfl rfl rfl ?_ ?_) | (refine LeR.ro ?_) | (refine LeR.roCap ?_) | (refine LeR.nil ?_ (fun _ => rfl)))) | ((with_reducible refine LeF.chk ?_); (conv => whnf)) | (with_reducible assumption) | ((with_reducible refine Run.mk ?_); (conv => whnf)) | ((with_reducible show drawOK _ _ = true); kernel_rfl) | ((with_reducible show drawOK2 _ _ = true); kernel_rfl) | ((with_reducible show drawOK3 _ _ = true); kernel_rfl))
    · dsimp only; omega
    · have := parts_len s
      dsimp only; rw [hpc, List.length_map]; omega
    rw [hpc]
    revert hok hL hB
    generalize Plain.parts s = l
    intro hok hL hB
    have hkl := kindsP_len (l.map pcOf)
    have hml : (l.map pcOf).length = l.length := by simp
    rw [hml] at hkl
    have hrw := rwayL_len l width
    have hmem := rwayL_mem (width := width) hok.small hw2
    have hlen := hok.len
    refine loopI Nat [] (fun i => [(13, .v (.int .i64 (i : Int))), (12, .own 1)]) (fun i => [(1, .row C_brk ((rwrapOut l width).take i) 92 none)]) (fun i => i ≤ (rwayL l width).length) (fun i => (rwayL l width).length - i) 0 (Nat.zero_le _) (Wk.chk ?_) fun i hi => ?_
    · ((conv => whnf); repeat' (first | (with_reducible exact fun h => h) | (with_reducible refine ExE.row (by with_unfolding_all rfl) ?_) | (with_reducible refine And.intro ?_ ?_) | ((with_reducible intro hq); first | (exact bne1 hq (by with_reducible assumption)) | (exact bne1 (by with_reducible assumption) hq) | ((simp only [*, Bool.and_true, Bool.true_and, Bool.and_false, Bool.false_and, Bool.or_true, Bool.true_or, Bool.or_false, Bool.false_or, Bool.not_true, Bool.not_false, Bool.true_eq_false, Bool.false_eq_true, cond_true, cond_false, Bool.cond_self, reduceCtorEq] at hq); done) | (revert hq; with_reducible intro _)) | (with_reducible exact True.intro) | (with_reducible rfl) | ((with_reducible refine WkX.chk ?_); (conv => whnf)) | ((with_reducible refine Wk.chk ?_); (conv => whnf)) | (with_reducible refine EntLe.row ?_) | (with_reducible exact LeN.ro rfl) | (with_reducible exact LeN.rptr) | ((with_reducible refine LeL.chk ?_); (conv => whnf)) | ((with_reducible show LeO _ _); (first | (refine LeO.ro ?_) | (refine LeO.roCap ?_) | (refine LeO.nil ?_ (fun _ => rfl)))) | ((with_reducible show LeR _ _ _); (first | (refine LeR.own rfl rfl rfl ?_) | (refine LeR.view rfl rfl rfl ?_ ?_) | (refine LeR.ro ?_) | (refine LeR.roCap ?_) | (refine LeR.nil ?_ (fun _ => rfl)))) | ((with_reducible refine LeF.chk ?_); (conv => whnf)) | (with_reducible assumption) | ((with_reducible refine Run.mk ?_); (conv => whnf)) | ((with_reducible show drawOK _ _ = true); kernel_rfl) | ((with_reducible show drawOK2 _ _ = true); kernel_rfl) | ((with_reducible show drawOK3 _ _ = true); kernel_rfl)))
      all_goals rfl
    have e1 : ((i : Int)).toNat = i := Int.toNat_natCast _
    have e2 : C_int.d = 0 := rfl
    have htk : ((rwrapOut l width).take i).length ≤ i := List.length_take_le _ _
    have hy := fun (h : i < (rwayL l width).length) => hmem _ (getD_mem' (rwayL l width) 0 h)
    repeat' (first | (with_reducible refine ⟨(_, _), ⟨(.cons (.ro _ _ _ _ _) (.cons (.v _) .nil)), ?_⟩, ?_⟩) | (with_reducible refine ex_of (i + 1) ⟨?_, ?_⟩ ?_) | (with_reducible exact fun h => h) | (with_reducible refine ExE.row (by with_unfolding_all rfl) ?_) | (with_reducible refine And.intro ?_ ?_) | ((with_reducible intro hq); first | (exact bne1 hq (by with_reducible assumption)) | (exact bne1 (by with_reducible assumption) hq) | ((simp only [*, Bool.and_true, Bool.true_and, Bool.and_false, Bool.false_and, Bool.or_true, Bool.true_or, Bool.or_false, Bool.false_or, Bool.not_true, Bool.not_false, Bool.true_eq_false, Bool.false_eq_true, cond_true, cond_false, Bool.cond_self, reduceCtorEq] at hq); done) | (revert hq; with_reducible intro _)) | (with_reducible exact True.intro) | (with_reducible rfl) | ((with_reducible refine WkX.chk ?_); (conv => whnf)) | ((with_reducible refine Wk.chk ?_); (conv => whnf)) | (with_reducible refine EntLe.row ?_) | (with_reducible exact LeN.ro rfl) | (with_reducible exact LeN.rptr) | ((with_reducible refine LeL.chk ?_); (conv => whnf)) | ((with_reducible show LeO _ _); (first | (refine LeO.ro ?_) | (refine LeO.roCap ?_) | (refine LeO.nil ?_ (fun _ => rfl)))) | ((with_reducible show LeR _ _ _); (first | (refine LeR.own rfl rfl rfl ?_) | (refine LeR.view rfl rfl rfl ?_ ?_) | (refine LeR.ro ?_) | (refine LeR.roCap ?_) | (refine LeR.nil ?_ (fun _ => rfl)))) | ((with_reducible refine LeF.chk ?_); (conv => whnf)) | (with_reducible assumption) | ((with_reducible refine Run.mk ?_); (conv => whnf)) | ((with_reducible show drawOK _ _ = true); kernel_rfl) | ((with_reducible show drawOK2 _ _ = true); kernel_rfl) | ((with_reducible show drawOK3 _ _ = true); kernel_rfl))
    all_goals (try simp only [e1, e2, hml, hkl, decide_eq_true_eq, decide_eq_false_iff_not] at *)
    all_goals first
      | omega
      | (refine Fits.i64 ?_ ?_ <;> omega)
      | rfl
      | (simp only [List.length_cons, List.length_nil]; omega)
      | (unfold rwrapOut; exact take_map (fun x => (placeP (l.map pcOf) x.toNat, (kindsP (l.map pcOf)).getD x.toNat 0)) (rwayL l width) 0 (by omega))
      | (rw [hL]; exact take_map_all _ _ (by omega))
      | exact hB.symm
      | exact hck.symm
      | (have q := take_map (fun x => (placeP (l.map pcOf) x.toNat, (kindsP (l.map pcOf)).getD x.toNat 0)) (rwayL l width) 0 (i := i) (by omega)
         exact q)
  · have hnz : (checkN s.size width != 0) = true := by simpa using hck
    repeat' (first | (with_reducible refine ⟨(_, _), ⟨(.cons (.v _) (.cons (.v _) .nil)), ?_⟩, ?_⟩) | (with_reducible exact fun h => h) | (with_reducible refine ExE.row (by with_unfolding_all rfl) ?_) | (with_reducible refine And.intro ?_ ?_) | ((with_reducible intro hq); first | (exact bne1 hq (by with_reducible assumption)) | (exact bne1 (by with_reducible assumption) hq) | ((simp only [*, Bool.and_true, Bool.true_and, Bool.and_false, Bool.false_and, Bool.or_true, Bool.true_or, Bool.or_false, Bool.false_or, Bool.not_true, Bool.not_false, Bool.true_eq_false, Bool.false_eq_true, cond_true, cond_false, Bool.cond_self, reduceCtorEq] at hq); done) | (revert hq; with_reducible intro _)) | (with_reducible exact True.intro) | (with_reducible rfl) | ((with_reducible refine WkX.chk ?_); (conv => whnf)) | ((with_reducible refine Wk.chk ?_); (conv => whnf)) | (with_reducible refine EntLe.row ?_) | (with_reducible exact LeN.ro rfl) | (with_reducible exact LeN.rptr) | ((with_reducible refine LeL.chk ?_); (conv => whnf)) | ((with_reducible show LeO _ _); (first | (refine LeO.ro ?_) | (refine LeO.roCap ?_) | (refine LeO.nil ?_ (fun _ => rfl)))) | ((with_reducible show LeR _ _ _); (first | (refine LeR.own rfl rfl rfl ?_) | (refine LeR.view rfl rfl rfl ?_ ?_) | (refine LeR.ro ?_) | (refine LeR.roCap ?_) | (refine LeR.nil ?_ (fun _ => rfl)))) | ((with_reducible refine LeF.chk ?_); (conv => whnf)) | (with_reducible assumption) | ((with_reducible refine Run.mk ?_); (conv => whnf)) | ((with_reducible show drawOK _ _ = true); kernel_rfl) | ((with_reducible show drawOK2 _ _ = true); kernel_rfl) | ((with_reducible show drawOK3 _ _ = true); kernel_rfl))
    · unfold rwrapL; rw [if_neg hck]
    · unfold rwrapB; rw [if_neg hck]
theorem q_rplaces : fact 18 f18 := ⟨by kernel_rfl, rfl, by kernel_rfl⟩
theorem q_wplaces : fact 17 f17 := ⟨by kernel_rfl, rfl, by kernel_rfl⟩
theorem q_same : fact 15 f15 := ⟨by kernel_rfl, rfl, by kernel_rfl⟩
theorem q_head : fact 16 f16 := ⟨by kernel_rfl, rfl, by kernel_rfl⟩
theorem con_wplaces : Con prog 17 (fun s : ByteArray => [.v (.string s)]) (fun s => .ro 2 C_brk.enc C_brk.d (outL (Plain.parts s) ((Plain.parts s).length + 1)) none) (fun s => s.size ≤ 2000000) := by
  refine Con.of (by kernel_rfl) T_ok D_way_ok (.con con_parts (.con con_places .nil)) 3 [] q_wplaces.1 q_wplaces.2.1 q_wplaces.2.2 (fun _ => rfl) fun s hs => ?_
  have hl := parts_len s
  repeat' (first | (with_reducible refine ⟨_, ⟨(.cons (.v _) .nil), ?_⟩, ?_⟩) | (with_reducible refine ⟨_, ⟨(.cons (.ro _ _ _ _ _) .nil), ?_⟩, ?_⟩) | (with_reducible exact fun h => h) | (with_reducible refine ExE.row (by with_unfolding_all rfl) ?_) | (with_reducible refine And.intro ?_ ?_) | ((with_reducible intro hq); first | (exact bne1 hq (by with_reducible assumption)) | (exact bne1 (by with_reducible assumption) hq) | ((simp only [*, Bool.and_true, Bool.true_and, Bool.and_false, Bool.false_and, Bool.or_true, Bool.true_or, Bool.or_false, Bool.false_or, Bool.not_true, Bool.not_false, Bool.true_eq_false, Bool.false_eq_true, cond_true, cond_false, Bool.cond_self, reduceCtorEq] at hq); done) | (revert hq; with_reducible intro _)) | (with_reducible exact True.intro) | (with_reducible rfl) | ((with_reducible refine WkX.chk ?_); (conv => whnf)) | ((with_reducible refine Wk.chk ?_); (conv => whnf)) | (with_reducible refine EntLe.row ?_) | (with_reducible exact LeN.ro rfl) | (with_reducible exact LeN.rptr) | ((with_reducible refine LeL.chk ?_); (conv => whnf)) | ((with_reducible show LeO _ _); (first | (refine LeO.ro ?_) | (refine LeO.roCap ?_) | (refine LeO.nil ?_ (fun _ => rfl)))) | ((with_reducible show LeR _ _ _); (first | (refine LeR.own rfl rfl rfl ?_) | (refine LeR.view rfl rfl rfl ?_ ?_) | (refine LeR.ro ?_) | (refine LeR.roCap ?_) | (refine LeR.nil ?_ (fun _ => rfl)))) | ((with_reducible refine LeF.chk ?_); (conv => whnf)) | (with_reducible assumption) | ((with_reducible refine Run.mk ?_); (conv => whnf)) | ((with_reducible show drawOK _ _ = true); kernel_rfl) | ((with_reducible show drawOK2 _ _ = true); kernel_rfl) | ((with_reducible show drawOK3 _ _ = true); kernel_rfl))
  all_goals first
    | exact hs
    | (dsimp only at *; omega)
    | rfl
theorem con_rplaces : Con prog 18 (fun s : ByteArray => [.v (.string s)]) (fun s => .ro 2 C_brk.enc C_brk.d (routTo (pcs s) ((pcs s).length + 1)) none) (fun s => s.size ≤ 100000) := by
  refine Con.of (by kernel_rfl) T_ok D_way_ok (.con con_pieces (.con con_kinds (.con con_place .nil))) 3 [] q_rplaces.1 q_rplaces.2.1 q_rplaces.2.2 (fun _ => rfl) fun s hs => ?_
  have hs : s.size ≤ 100000 := hs
  have hl : (pcs s).length ≤ s.size := by have := parts_len s; simp only [pcs, List.length_map]; omega
  repeat' (first | (with_reducible refine ⟨_, ⟨(.cons (.v _) .nil), ?_⟩, ?_⟩) | (with_reducible refine ⟨_, ⟨(.cons (.ro _ _ _ _ _) .nil), ?_⟩, ?_⟩) | (with_reducible exact fun h => h) | (with_reducible refine ExE.row (by with_unfolding_all rfl) ?_) | (with_reducible refine And.intro ?_ ?_) | ((with_reducible intro hq); first | (exact bne1 hq (by with_reducible assumption)) | (exact bne1 (by with_reducible assumption) hq) | ((simp only [*, Bool.and_true, Bool.true_and, Bool.and_false, Bool.false_and, Bool.or_true, Bool.true_or, Bool.or_false, Bool.false_or, Bool.not_true, Bool.not_false, Bool.true_eq_false, Bool.false_eq_true, cond_true, cond_false, Bool.cond_self, reduceCtorEq] at hq); done) | (revert hq; with_reducible intro _)) | (with_reducible exact True.intro) | (with_reducible rfl) | ((with_reducible refine WkX.chk ?_); (conv => whnf)) | ((with_reducible refine Wk.chk ?_); (conv => whnf)) | (with_reducible refine EntLe.row ?_) | (with_reducible exact LeN.ro rfl) | (with_reducible exact LeN.rptr) | ((with_reducible refine LeL.chk ?_); (conv => whnf)) | ((with_reducible show LeO _ _); (first | (refine LeO.ro ?_) | (refine LeO.roCap ?_) | (refine LeO.nil ?_ (fun _ => rfl)))) | ((with_reducible show LeR _ _ _); (first | (refine LeR.own rfl rfl rfl ?_) | (refine LeR.view rfl rfl rfl ?_ ?_) | (refine LeR.ro ?_) | (refine LeR.roCap ?_) | (refine LeR.nil ?_ (fun _ => rfl)))) | ((with_reducible refine LeF.chk ?_); (conv => whnf)) | (with_reducible assumption) | ((with_reducible refine Run.mk ?_); (conv => whnf)) | ((with_reducible show drawOK _ _ = true); kernel_rfl) | ((with_reducible show drawOK2 _ _ = true); kernel_rfl) | ((with_reducible show drawOK3 _ _ = true); kernel_rfl))
  · dsimp only; omega
  · dsimp only; omega
  generalize pcs s = l at hl ⊢
  have hkl := kindsP_len l
  refine loopI Nat [] (fun i => [(6, .v (.int .i64 (i : Int))), (5, .own 1)]) (fun i => [(1, .row C_brk (routTo l i) 92 none)]) (fun i => 1 ≤ i ∧ i ≤ l.length + 1) (fun i => l.length + 1 - i) 1 ⟨by omega, by omega⟩ (Wk.chk ?_) fun i hi => ?_
  · ((conv => whnf); repeat' (first | (with_reducible exact fun h => h) | (with_reducible refine ExE.row (by with_unfolding_all rfl) ?_) | (with_reducible refine And.intro ?_ ?_) | ((with_reducible intro hq); first | (exact bne1 hq (by with_reducible assumption)) | (exact bne1 (by with_reducible assumption) hq) | ((simp only [*, Bool.and_true, Bool.true_and, Bool.and_false, Bool.false_and, Bool.or_true, Bool.true_or, Bool.or_false, Bool.false_or, Bool.not_true, Bool.not_false, Bool.true_eq_false, Bool.false_eq_true, cond_true, cond_false, Bool.cond_self, reduceCtorEq] at hq); done) | (revert hq; with_reducible intro _)) | (with_reducible exact True.intro) | (with_reducible rfl) | ((with_reducible refine WkX.chk ?_); (conv => whnf)) | ((with_reducible refine Wk.chk ?_); (conv => whnf)) | (with_reducible refine EntLe.row ?_) | (with_reducible exact LeN.ro rfl) | (with_reducible exact LeN.rptr) | ((with_reducible refine LeL.chk ?_); (conv => whnf)) | ((with_reducible show LeO _ _); (first | (refine LeO.ro ?_) | (refine LeO.roCap ?_) | (refine LeO.nil ?_ (fun _ => rfl)))) | ((with_reducible show LeR _ _ _); (first | (refine LeR.own rfl rfl rfl ?_) | (refine LeR.view rfl rfl rfl ?_ ?_) | (refine LeR.ro ?_) | (refine LeR.roCap ?_) | (refine LeR.nil ?_ (fun _ => rfl)))) | ((with_reducible refine LeF.chk ?_); (conv => whnf)) | (with_reducible assumption) | ((with_reducible refine Run.mk ?_); (conv => whnf)) | ((with_reducible show drawOK _ _ = true); kernel_rfl) | ((with_reducible show drawOK2 _ _ = true); kernel_rfl) | ((with_reducible show drawOK3 _ _ = true); kernel_rfl)))
    all_goals rfl
  obtain ⟨h1, h2⟩ := hi
  have e1 : ((i : Int)).toNat = i := Int.toNat_natCast _
  have e2 : C_int.d = 0 := rfl
  have htk := routTo_len l i
  repeat' (first | (with_reducible refine ⟨(_, _), ⟨(.cons (.ro _ _ _ _ _) (.cons (.v _) .nil)), ?_⟩, ?_⟩) | (with_reducible refine ex_of (i + 1) ⟨⟨?_, ?_⟩, ?_⟩ ?_) | (with_reducible exact fun h => h) | (with_reducible refine ExE.row (by with_unfolding_all rfl) ?_) | (with_reducible refine And.intro ?_ ?_) | ((with_reducible intro hq); first | (exact bne1 hq (by with_reducible assumption)) | (exact bne1 (by with_reducible assumption) hq) | ((simp only [*, Bool.and_true, Bool.true_and, Bool.and_false, Bool.false_and, Bool.or_true, Bool.true_or, Bool.or_false, Bool.false_or, Bool.not_true, Bool.not_false, Bool.true_eq_false, Bool.false_eq_true, cond_true, cond_false, Bool.cond_self, reduceCtorEq] at hq); done) | (revert hq; with_reducible intro _)) | (with_reducible exact True.intro) | (with_reducible rfl) | ((with_reducible refine WkX.chk ?_); (conv => whnf)) | ((with_reducible refine Wk.chk ?_); (conv => whnf)) | (with_reducible refine EntLe.row ?_) | (with_reducible exact LeN.ro rfl) | (with_reducible exact LeN.rptr) | ((with_reducible refine LeL.chk ?_); (conv => whnf)) | ((with_reducible show LeO _ _); (first | (refine LeO.ro ?_) | (refine LeO.roCap ?_) | (refine LeO.nil ?_ (fun _ => rfl)))) | ((with_reducible show LeR _ _ _); (first | (refine LeR.own rfl rfl rfl ?_) | (refine LeR.view rfl rfl rfl ?_ ?_) | (refine LeR.ro ?_) | (refine LeR.roCap ?_) | (refine LeR.nil ?_ (fun _ => rfl)))) | ((with_reducible refine LeF.chk ?_); (conv => whnf)) | (with_reducible assumption) | ((with_reducible refine Run.mk ?_); (conv => whnf)) | ((with_reducible show drawOK _ _ = true); kernel_rfl) | ((with_reducible show drawOK2 _ _ = true); kernel_rfl) | ((with_reducible show drawOK3 _ _ = true); kernel_rfl))
  all_goals (try simp only [e1, e2, hkl, decide_eq_true_eq, decide_eq_false_iff_not] at *)
  all_goals first
    | omega
    | (refine Fits.i64 ?_ ?_ <;> omega)
    | rfl
    | (simp only [List.length_cons, List.length_nil]; omega)
    | (rw [routTo_yes (by omega) (by assumption)]; rfl)
    | (rw [routTo_no (by assumption)]; done)
    | (have : i = l.length + 1 := by omega
       subst this; rfl)
def sameB (a b : List (Int × Int)) : Bool := decide (a = b)
theorem con_same : Con prog 15 (fun ((a, b) : List (Int × Int) × List (Int × Int)) => [.ro 2 C_brk.enc C_brk.d a none true, .ro 2 C_brk.enc C_brk.d b none true]) (fun (a, b) => .sb (decide (a = b))) (fun (a, b) => a.length ≤ 1000000) := by
  refine Con.of (by kernel_rfl) T_ok D_way_ok .nil 3 [] q_same.1 q_same.2.1 q_same.2.2 (fun _ => rfl) fun i hi => ?_
  obtain ⟨a, b⟩ := i
  have hi : a.length ≤ 1000000 := hi
  have e0 : ((a.length : Int) != (b.length : Int)) = !decide (a.length = b.length) := by rw [bne, natBeq]
  repeat' (first | (with_reducible exact fun h => h) | (with_reducible refine ExE.row (by with_unfolding_all rfl) ?_) | (with_reducible refine And.intro ?_ ?_) | ((with_reducible intro hq); first | (exact bne1 hq (by with_reducible assumption)) | (exact bne1 (by with_reducible assumption) hq) | ((simp only [*, Bool.and_true, Bool.true_and, Bool.and_false, Bool.false_and, Bool.or_true, Bool.true_or, Bool.or_false, Bool.false_or, Bool.not_true, Bool.not_false, Bool.true_eq_false, Bool.false_eq_true, cond_true, cond_false, Bool.cond_self, reduceCtorEq] at hq); done) | (revert hq; with_reducible intro _)) | (with_reducible exact True.intro) | (with_reducible rfl) | ((with_reducible refine WkX.chk ?_); (conv => whnf)) | ((with_reducible refine Wk.chk ?_); (conv => whnf)) | (with_reducible refine EntLe.row ?_) | (with_reducible exact LeN.ro rfl) | (with_reducible exact LeN.rptr) | ((with_reducible refine LeL.chk ?_); (conv => whnf)) | ((with_reducible show LeO _ _); (first | (refine LeO.ro ?_) | (refine LeO.roCap ?_) | (refine LeO.nil ?_ (fun _ => rfl)))) | ((with_reducible show LeR _ _ _); (first | (refine LeR.own rfl rfl rfl ?_) | (refine LeR.view rfl rfl rfl ?_ ?_) | (refine LeR.ro ?_) | (refine LeR.roCap ?_) | (refine LeR.nil ?_ (fun _ => rfl)))) | ((with_reducible refine LeF.chk ?_); (conv => whnf)) | (with_reducible assumption) | ((with_reducible refine Run.mk ?_); (conv => whnf)) | ((with_reducible show drawOK _ _ = true); kernel_rfl) | ((with_reducible show drawOK2 _ _ = true); kernel_rfl) | ((with_reducible show drawOK3 _ _ = true); kernel_rfl))
  · rename_i h
    rw [e0] at h
    symm
    refine decide_eq_false ?_
    rintro rfl
    simp at h
  rename_i h
  rw [e0] at h
  have hab : a.length = b.length := by simpa using h
  refine loopI Nat [] (fun i => [(5, .v (.int .i64 (i : Int)))]) (fun _ => []) (fun i => i ≤ a.length ∧ a.take i = b.take i) (fun i => a.length - i) 0 ⟨Nat.zero_le _, rfl⟩ (Wk.chk ?_) fun i hi => ?_
  · ((conv => whnf); repeat' (first | (with_reducible exact fun h => h) | (with_reducible refine ExE.row (by with_unfolding_all rfl) ?_) | (with_reducible refine And.intro ?_ ?_) | ((with_reducible intro hq); first | (exact bne1 hq (by with_reducible assumption)) | (exact bne1 (by with_reducible assumption) hq) | ((simp only [*, Bool.and_true, Bool.true_and, Bool.and_false, Bool.false_and, Bool.or_true, Bool.true_or, Bool.or_false, Bool.false_or, Bool.not_true, Bool.not_false, Bool.true_eq_false, Bool.false_eq_true, cond_true, cond_false, Bool.cond_self, reduceCtorEq] at hq); done) | (revert hq; with_reducible intro _)) | (with_reducible exact True.intro) | (with_reducible rfl) | ((with_reducible refine WkX.chk ?_); (conv => whnf)) | ((with_reducible refine Wk.chk ?_); (conv => whnf)) | (with_reducible refine EntLe.row ?_) | (with_reducible exact LeN.ro rfl) | (with_reducible exact LeN.rptr) | ((with_reducible refine LeL.chk ?_); (conv => whnf)) | ((with_reducible show LeO _ _); (first | (refine LeO.ro ?_) | (refine LeO.roCap ?_) | (refine LeO.nil ?_ (fun _ => rfl)))) | ((with_reducible show LeR _ _ _); (first | (refine LeR.own rfl rfl rfl ?_) | (refine LeR.view rfl rfl rfl ?_ ?_) | (refine LeR.ro ?_) | (refine LeR.roCap ?_) | (refine LeR.nil ?_ (fun _ => rfl)))) | ((with_reducible refine LeF.chk ?_); (conv => whnf)) | (with_reducible assumption) | ((with_reducible refine Run.mk ?_); (conv => whnf)) | ((with_reducible show drawOK _ _ = true); kernel_rfl) | ((with_reducible show drawOK2 _ _ = true); kernel_rfl) | ((with_reducible show drawOK3 _ _ = true); kernel_rfl)))
    all_goals rfl
  obtain ⟨h1, h2⟩ := hi
  have e1 : ((i : Int)).toNat = i := Int.toNat_natCast _
  have e2 : C_brk.d = (0, 0) := rfl
  repeat' (first | (with_reducible refine ex_of (i + 1) ⟨⟨?_, ?_⟩, ?_⟩ ?_) | (with_reducible exact fun h => h) | (with_reducible refine ExE.row (by with_unfolding_all rfl) ?_) | (with_reducible refine And.intro ?_ ?_) | ((with_reducible intro hq); first | (exact bne1 hq (by with_reducible assumption)) | (exact bne1 (by with_reducible assumption) hq) | ((simp only [*, Bool.and_true, Bool.true_and, Bool.and_false, Bool.false_and, Bool.or_true, Bool.true_or, Bool.or_false, Bool.false_or, Bool.not_true, Bool.not_false, Bool.true_eq_false, Bool.false_eq_true, cond_true, cond_false, Bool.cond_self, reduceCtorEq] at hq); done) | (revert hq; with_reducible intro _)) | (with_reducible exact True.intro) | (with_reducible rfl) | ((with_reducible refine WkX.chk ?_); (conv => whnf)) | ((with_reducible refine Wk.chk ?_); (conv => whnf)) | (with_reducible refine EntLe.row ?_) | (with_reducible exact LeN.ro rfl) | (with_reducible exact LeN.rptr) | ((with_reducible refine LeL.chk ?_); (conv => whnf)) | ((with_reducible show LeO _ _); (first | (refine LeO.ro ?_) | (refine LeO.roCap ?_) | (refine LeO.nil ?_ (fun _ => rfl)))) | ((with_reducible show LeR _ _ _); (first | (refine LeR.own rfl rfl rfl ?_) | (refine LeR.view rfl rfl rfl ?_ ?_) | (refine LeR.ro ?_) | (refine LeR.roCap ?_) | (refine LeR.nil ?_ (fun _ => rfl)))) | ((with_reducible refine LeF.chk ?_); (conv => whnf)) | (with_reducible assumption) | ((with_reducible refine Run.mk ?_); (conv => whnf)) | ((with_reducible show drawOK _ _ = true); kernel_rfl) | ((with_reducible show drawOK2 _ _ = true); kernel_rfl) | ((with_reducible show drawOK3 _ _ = true); kernel_rfl))
  all_goals (try simp only [e1, e2, decide_eq_true_eq, decide_eq_false_iff_not] at *)
  all_goals first
    | omega
    | (refine Fits.i64 ?_ ?_ <;> omega)
    | rfl
    | (symm
       refine decide_eq_false ?_
       rintro rfl
       simp at *; done)
    | (simp_all; done)
    | (rw [← take_one a (0, 0) (by omega), ← take_one b (0, 0) (by omega), h2]
       have q : (a.getD i (0, 0)) = (b.getD i (0, 0)) := by
         refine Prod.ext ?_ ?_ <;> simp_all
       rw [q])
    | (symm
       refine decide_eq_true ?_
       rw [take_all a (by omega), take_all b (by omega)] at h2
       exact h2)
end Go.SX.Try
/- The lines of a way, told plainly. No program here. -/
namespace Go.SX.Plain
def brkAt (l : List Part) (p : Nat) : Int × Int := ((l.getD (p - 1) dPart).c.to, kindAt l p)
def lnL (l : List Part) : List Nat → List (Int × Int) → Nat → Option (List (List Part) × Bool)
  | [], way, frm => some ([l.drop frm], way.isEmpty)
  | p :: P, way, frm =>
    if way.head? = some (brkAt l p) then (lnL l P way.tail p).map fun x => ((l.drop frm).take (p - frm) :: x.1, x.2)
    else if kindAt l p = 1 then none else lnL l P way frm
def lnW (l : List Part) (way : List (Int × Int)) : Option (List (List Part) × Bool) := lnL l (plcs l (l.length + 1)) way 0
def linesL (s : ByteArray) (way : List (Int × Int)) : List (List Part) := ((lnW (parts s) way).map (·.1)).getD []
def linesB (s : ByteArray) (way : List (Int × Int)) : Bool := ((lnW (parts s) way).map (·.2)).getD false
section
variable {l : List Part} {P : List Nat} {way : List (Int × Int)} {k n frm : Nat}
theorem drop_cons_getD {α : Type} {P : List α} {k : Nat} (d : α) (h : k < P.length) : P.drop k = P.getD k d :: P.drop (k + 1) := by
  rw [List.drop_eq_getElem_cons h]
  simp [List.getD_eq_getElem?_getD, h]
theorem head_drop {x : Int × Int} : (way.drop n).head? = some x ↔ n < way.length ∧ way.getD n (0, 0) = x := by
  rw [List.head?_drop]
  constructor
  · intro h
    obtain ⟨h1, h2⟩ := List.getElem?_eq_some_iff.1 h
    exact ⟨h1, by simp [List.getD_eq_getElem?_getD, h1, h2]⟩
  · rintro ⟨h1, h2⟩
    rw [← h2]
    simp [List.getD_eq_getElem?_getD, h1]
theorem lnL_yes (hk : k < P.length) (hn : n < way.length) (he : way.getD n (0, 0) = brkAt l (P.getD k 0)) :
    lnL l (P.drop k) (way.drop n) frm = (lnL l (P.drop (k + 1)) (way.drop (n + 1)) (P.getD k 0)).map fun x => ((l.drop frm).take (P.getD k 0 - frm) :: x.1, x.2) := by
  rw [drop_cons_getD 0 hk, lnL, if_pos (head_drop.2 ⟨hn, he⟩), List.tail_drop]
theorem lnL_hard (hk : k < P.length) (hno : ¬ (n < way.length ∧ way.getD n (0, 0) = brkAt l (P.getD k 0))) (h1 : kindAt l (P.getD k 0) = 1) : lnL l (P.drop k) (way.drop n) frm = none := by
  rw [drop_cons_getD 0 hk, lnL, if_neg (fun h => hno (head_drop.1 h)), if_pos h1]
theorem lnL_on (hk : k < P.length) (hno : ¬ (n < way.length ∧ way.getD n (0, 0) = brkAt l (P.getD k 0))) (h1 : ¬ kindAt l (P.getD k 0) = 1) : lnL l (P.drop k) (way.drop n) frm = lnL l (P.drop (k + 1)) (way.drop n) frm := by
  rw [drop_cons_getD 0 hk, lnL, if_neg (fun h => hno (head_drop.1 h)), if_neg h1]
theorem lnL_end (hk : ¬ k < P.length) (hn : n ≤ way.length) : lnL l (P.drop k) (way.drop n) frm = some ([l.drop frm], decide (n = way.length)) := by
  rw [List.drop_eq_nil_of_le (by omega), lnL]
  congr 2
  rw [Bool.eq_iff_iff, List.isEmpty_iff, decide_eq_true_iff, List.drop_eq_nil_iff]
  omega
end
theorem lnL_len (l : List Part) : ∀ (P : List Nat) (way : List (Int × Int)) (frm : Nat) (x : List (List Part) × Bool), lnL l P way frm = some x → x.1.length ≤ P.length + 1
  | [], way, frm, x, h => by
    simp only [lnL, Option.some.injEq] at h
    subst h
    simp
  | p :: P, way, frm, x, h => by
    simp only [lnL] at h
    split at h
    · obtain ⟨y, hy, rfl⟩ := Option.map_eq_some_iff.1 h
      have := lnL_len l P _ _ y hy
      simp only [List.length_cons]
      omega
    · split at h
      · cases h
      · have := lnL_len l P _ _ x h
        simp only [List.length_cons]
        omega
/-- A line without its end and the blanks ahead of it: how many parts. -/
def trimGo (l : List Part) : Nat → Nat
  | 0 => 0
  | n + 1 => if (l.getD n dPart).blank = true then trimGo l n else n + 1
def trimN (l : List Part) : Nat := trimGo l (if 0 < l.length ∧ (l.getD (l.length - 1) dPart).fin = true then l.length - 1 else l.length)
def trimL (l : List Part) : List Part := l.take (trimN l)
theorem trimGo_le (l : List Part) : ∀ n, trimGo l n ≤ n
  | 0 => Nat.le_refl _
  | n + 1 => by
    simp only [trimGo]
    split
    · have := trimGo_le l n; omega
    · omega
def sumC (l : List Part) (k : Nat) : Int := ((l.take k).map fun p => p.c.cells).sum
def cellsL (l : List Part) : Int := sumC (trimL l) (trimL l).length
theorem sumC_succ {l : List Part} {k : Nat} (h : k < l.length) : sumC l (k + 1) = sumC l k + (l.getD k dPart).c.cells := by
  unfold sumC
  rw [List.take_succ_eq_append_getElem h, List.map_append, List.sum_append]
  simp [List.getD_eq_getElem?_getD, h]
theorem sumC_bd {l : List Part} (hs : Small l) : ∀ k, 0 ≤ sumC l k ∧ sumC l k ≤ 2 * k
  | 0 => ⟨Int.le_refl _, Int.le_refl _⟩
  | k + 1 => by
    have ih := sumC_bd hs k
    by_cases h : k < l.length
    · rw [sumC_succ h]
      have := hs.at k
      omega
    · have : sumC l (k + 1) = sumC l k := by
        unfold sumC
        rw [List.take_of_length_le (by omega), List.take_of_length_le (by omega)]
      omega
theorem Small.take {l : List Part} (h : Small l) (n : Nat) : Small (l.take n) := fun p hp => h p (List.mem_of_mem_take hp)
theorem Small.drop {l : List Part} (h : Small l) (n : Nat) : Small (l.drop n) := fun p hp => h p (List.mem_of_mem_drop hp)
theorem trimN_le (l : List Part) : trimN l ≤ l.length := by
  unfold trimN
  split
  · have := trimGo_le l (l.length - 1)
    omega
  · exact trimGo_le l l.length
theorem trimL_len (l : List Part) : (trimL l).length = trimN l := by
  unfold trimL
  have := trimN_le l
  simp; omega
theorem trimL_small {l : List Part} (h : Small l) : Small (trimL l) := h.take _
end Go.SX.Plain
/- The badness of a way, told plainly. No program here. -/
namespace Go.SX.Plain
theorem lnL_way (l : List Part) : ∀ (P : List Nat) (way : List (Int × Int)) (frm : Nat) (x : List (List Part) × Bool), lnL l P way frm = some x → x.2 = true → way.length ≤ P.length ∧ x.1.length = way.length + 1
  | [], way, frm, x, h, hx => by
    simp only [lnL, Option.some.injEq] at h
    subst h
    simp only [List.isEmpty_iff] at hx
    subst hx
    simp
  | p :: P, way, frm, x, h, hx => by
    simp only [lnL] at h
    split at h
    · rename_i hh
      obtain ⟨y, hy, rfl⟩ := Option.map_eq_some_iff.1 h
      obtain ⟨h1, h2⟩ := lnL_way l P _ _ y hy hx
      cases way with
      | nil => simp at hh
      | cons a way =>
        simp only [List.tail_cons] at h1 h2
        simp only [List.length_cons]
        omega
    · split at h
      · cases h
      · obtain ⟨h1, h2⟩ := lnL_way l P _ _ x h hx
        simp only [List.length_cons]
        omega
theorem lnL_sub (l : List Part) : ∀ (P : List Nat) (way : List (Int × Int)) (frm : Nat) (x : List (List Part) × Bool), lnL l P way frm = some x → ∀ y ∈ x.1, ∃ a b, y = (l.drop a).take b
  | [], way, frm, x, h, y, hy => by
    simp only [lnL, Option.some.injEq] at h
    subst h
    simp only [List.mem_singleton] at hy
    subst hy
    exact ⟨frm, (l.drop frm).length, by rw [List.take_length]⟩
  | p :: P, way, frm, x, h, y, hy => by
    simp only [lnL] at h
    split at h
    · obtain ⟨z, hz, rfl⟩ := Option.map_eq_some_iff.1 h
      rcases List.mem_cons.1 hy with rfl | hy
      · exact ⟨_, _, rfl⟩
      · exact lnL_sub l P _ _ z hz y hy
    · split at h
      · cases h
      · exact lnL_sub l P _ _ x h y hy
theorem linesL_sub (s : ByteArray) (way : List (Int × Int)) : ∀ y ∈ linesL s way, ∃ a b, y = ((parts s).drop a).take b := by
  intro y hy
  unfold linesL at hy
  cases h : lnW (parts s) way with
  | none => rw [h] at hy; simp at hy
  | some x =>
    rw [h] at hy
    exact lnL_sub _ _ _ _ x h y (by simpa using hy)
theorem linesL_small (s : ByteArray) (way : List (Int × Int)) : ∀ y ∈ linesL s way, Small y ∧ y.length ≤ s.size := by
  intro y hy
  obtain ⟨a, b, rfl⟩ := linesL_sub s way y hy
  refine ⟨((parts_small s).drop a).take b, ?_⟩
  have := parts_len s
  simp only [List.length_take, List.length_drop]
  omega
theorem linesB_way {s : ByteArray} {way : List (Int × Int)} (h : linesB s way = true) : way.length ≤ s.size + 1 ∧ (linesL s way).length = way.length + 1 := by
  unfold linesB at h
  unfold linesL
  cases hx : lnW (parts s) way with
  | none => rw [hx] at h; cases h
  | some x =>
    rw [hx] at h
    obtain ⟨h1, h2⟩ := lnL_way _ _ _ _ x hx h
    have h3 := plcs_len (parts s) ((parts s).length + 1)
    have h4 := parts_len s
    exact ⟨by omega, h2⟩
theorem getD_memL {α : Type} {l : List α} {k : Nat} (d : α) (h : k < l.length) : l.getD k d ∈ l := by
  simp [List.getD_eq_getElem?_getD, h]
def sqS (L : List (List Part)) (width : Int) (k : Nat) : Int := ((L.take k).map fun x => (width - cellsL x) * (width - cellsL x)).sum
theorem sqS_succ {L : List (List Part)} {width : Int} {k : Nat} (h : k < L.length) : sqS L width (k + 1) = sqS L width k + (width - cellsL (L.getD k [])) * (width - cellsL (L.getD k [])) := by
  unfold sqS
  rw [List.take_succ_eq_append_getElem h, List.map_append, List.sum_append]
  simp [List.getD_eq_getElem?_getD, h]
def cutS (way : List (Int × Int)) (k : Nat) : Int := ((way.take k).map fun b => if b.2 = 3 then 1048576 else 0).sum
theorem cutS_succ {way : List (Int × Int)} {k : Nat} (h : k < way.length) : cutS way (k + 1) = cutS way k + if (way.getD k (0, 0)).2 = 3 then 1048576 else 0 := by
  unfold cutS
  rw [List.take_succ_eq_append_getElem h, List.map_append, List.sum_append]
  simp [List.getD_eq_getElem?_getD, h]
theorem cutS_bd (way : List (Int × Int)) : ∀ k, 0 ≤ cutS way k ∧ cutS way k ≤ 1048576 * k
  | 0 => ⟨Int.le_refl _, Int.le_refl _⟩
  | k + 1 => by
    have ih := cutS_bd way k
    by_cases h : k < way.length
    · rw [cutS_succ h]
      split <;> omega
    · have : cutS way (k + 1) = cutS way k := by
        unfold cutS
        rw [List.take_of_length_le (by omega), List.take_of_length_le (by omega)]
      omega
theorem sqS_bd {L : List (List Part)} {width : Int} (hw : width ≤ 200) (hL : ∀ y ∈ L, 0 ≤ cellsL y) : ∀ k, (∀ i, i < k → i < L.length → cellsL (L.getD i []) ≤ width) → 0 ≤ sqS L width k ∧ sqS L width k ≤ 40000 * k
  | 0, _ => ⟨Int.le_refl _, Int.le_refl _⟩
  | k + 1, hc => by
    have ih := sqS_bd hw hL k fun i hi => hc i (by omega)
    by_cases h : k < L.length
    · rw [sqS_succ h]
      have h1 := hL _ (getD_memL [] h)
      have h2 := hc k (by omega) h
      have h3 := sq_bd (x := width - cellsL (L.getD k [])) (y := 200) (by omega) (by omega)
      omega
    · have : sqS L width (k + 1) = sqS L width k := by
        unfold sqS
        rw [List.take_of_length_le (by omega), List.take_of_length_le (by omega)]
      omega
theorem cellsL_bd {l : List Part} (h : Small l) : 0 ≤ cellsL l ∧ cellsL l ≤ 2 * l.length := by
  have h1 := sumC_bd (trimL_small h) (trimL l).length
  have h2 : (trimL l).length ≤ l.length := by rw [trimL_len]; exact trimN_le l
  unfold cellsL
  omega
/-- Does every line fit? -/
def fitAll (L : List (List Part)) (width : Int) : Bool := L.all fun x => decide (cellsL x ≤ width)
def badE (s : ByteArray) (width : Int) (way : List (Int × Int)) : Int := if checkN s.size width ≠ 0 then checkN s.size width else if linesB s way = false then 1 else if fitAll (linesL s way) width = true then 0 else 35
def badN (s : ByteArray) (width : Int) (way : List (Int × Int)) : Int := if badE s width way = 0 then sqS (linesL s way) width (linesL s way).length + cutS way way.length else 0
theorem fitAll_yes {L : List (List Part)} {width : Int} (h : ∀ i, i < L.length → cellsL (L.getD i []) ≤ width) : fitAll L width = true := by
  unfold fitAll
  rw [List.all_eq_true]
  intro x hx
  obtain ⟨i, hi, rfl⟩ := List.mem_iff_getElem.1 hx
  have := h i hi
  simp [List.getD_eq_getElem?_getD, hi] at this
  simpa using this
theorem fitAll_no {L : List (List Part)} {width : Int} {i : Nat} (hi : i < L.length) (h : ¬ cellsL (L.getD i []) ≤ width) : fitAll L width = false := by
  rw [Bool.eq_false_iff]
  intro hc
  unfold fitAll at hc
  rw [List.all_eq_true] at hc
  exact h (by simpa using hc _ (getD_memL [] hi))
end Go.SX.Plain
/- The document's reading of a way, and the lines that it makes. No program here. -/
namespace Go.SX.Plain
def rdL (l : List Part) : List Nat → List (Int × Int) → Option (List Nat × Bool)
  | [], way => some ([], way.isEmpty)
  | p :: P, way =>
    if kindAt l p ≠ 0 ∧ way.head? = some (brkAt l p) then (rdL l P way.tail).map fun x => (p :: x.1, x.2)
    else if kindAt l p = 1 then none else rdL l P way
def segs (l : List Part) : List Nat → Nat → List (List Part)
  | [], frm => [l.drop frm]
  | p :: P, frm => (l.drop frm).take (p - frm) :: segs l P p
theorem rdL_filter (l : List Part) : ∀ (P : List Nat) (way : List (Int × Int)), rdL l (P.filter fun i => decide (kindAt l i ≠ 0)) way = rdL l P way
  | [], way => rfl
  | p :: P, way => by
    by_cases h : kindAt l p ≠ 0
    · rw [List.filter_cons_of_pos (by simpa using h), rdL, rdL, rdL_filter l P, rdL_filter l P]
    · rw [List.filter_cons_of_neg (by simpa using h), rdL_filter l P]
      rw [rdL, if_neg (fun hc => h hc.1), if_neg (by omega)]
theorem lnL_rd (l : List Part) : ∀ (P : List Nat) (way : List (Int × Int)) (frm : Nat), (∀ p ∈ P, kindAt l p ≠ 0) → lnL l P way frm = (rdL l P way).map fun x => (segs l x.1 frm, x.2)
  | [], way, frm, _ => rfl
  | p :: P, way, frm, h => by
    have hp := h p List.mem_cons_self
    have ih := fun w f => lnL_rd l P w f fun q hq => h q (List.mem_cons_of_mem _ hq)
    rw [lnL, rdL]
    by_cases hh : way.head? = some (brkAt l p)
    · rw [if_pos hh, if_pos ⟨hp, hh⟩, ih, Option.map_map, Option.map_map]
      rfl
    · rw [if_neg hh, if_neg (show ¬ (kindAt l p ≠ 0 ∧ way.head? = some (brkAt l p)) from fun hc => hh hc.2)]
      by_cases h1 : kindAt l p = 1
      · rw [if_pos h1, if_pos h1]
        rfl
      · rw [if_neg h1, if_neg h1]
        exact ih _ _
/-- From 1 up to the number of parts. -/
def upTo (l : List Part) : List Nat := (List.range (l.length + 1)).filter fun i => decide (0 < i)
theorem upTo_eq (l : List Part) : upTo l = List.range' 1 l.length := by
  unfold upTo
  rw [List.range_eq_range', List.range'_succ, List.filter_cons_of_neg (by simp)]
  refine List.filter_eq_self.2 fun i hi => ?_
  have := (List.mem_range'_1.1 hi).1
  simp
  omega
def rdW (l : List Part) (way : List (Int × Int)) : Option (List Nat × Bool) := rdL l (upTo l) way
theorem lnW_rd (l : List Part) (way : List (Int × Int)) : lnW l way = (rdW l way).map fun x => (segs l x.1 0, x.2) := by
  unfold lnW rdW
  have h : plcs l (l.length + 1) = (upTo l).filter fun i => decide (kindAt l i ≠ 0) := by
    unfold plcs upTo
    rw [List.filter_filter]
    congr 1
    funext i
    rw [Bool.and_comm]
  rw [← rdL_filter l (upTo l), ← h]
  exact lnL_rd l _ way 0 fun p hp => (plcs_mem.1 hp).2.2
section
variable {l : List Part} {i k n : Nat} {way : List (Int × Int)}
theorem rdL_yes (hk : kindAt l i ≠ 0) (hn : n < way.length) (he : way.getD n (0, 0) = brkAt l i) : rdL l (List.range' i (k + 1)) (way.drop n) = (rdL l (List.range' (i + 1) k) (way.drop (n + 1))).map fun x => (i :: x.1, x.2) := by
  rw [List.range'_succ, rdL, if_pos ⟨hk, head_drop.2 ⟨hn, he⟩⟩, List.tail_drop]
theorem rdL_hard (hno : ¬ (kindAt l i ≠ 0 ∧ n < way.length ∧ way.getD n (0, 0) = brkAt l i)) (h1 : kindAt l i = 1) : rdL l (List.range' i (k + 1)) (way.drop n) = none := by
  rw [List.range'_succ, rdL, if_neg (fun h => hno ⟨h.1, head_drop.1 h.2⟩), if_pos h1]
theorem rdL_on (hno : ¬ (kindAt l i ≠ 0 ∧ n < way.length ∧ way.getD n (0, 0) = brkAt l i)) (h1 : ¬ kindAt l i = 1) : rdL l (List.range' i (k + 1)) (way.drop n) = rdL l (List.range' (i + 1) k) (way.drop n) := by
  rw [List.range'_succ, rdL, if_neg (fun h => hno ⟨h.1, head_drop.1 h.2⟩), if_neg h1]
theorem rdL_end (hn : n ≤ way.length) : rdL l (List.range' i 0) (way.drop n) = some ([], decide (n = way.length)) := by
  rw [List.range'_zero, rdL]
  congr 2
  rw [Bool.eq_iff_iff, List.isEmpty_iff, decide_eq_true_iff, List.drop_eq_nil_iff]
  omega
theorem kindAt_pos : 0 < kindAt l i ↔ kindAt l i ≠ 0 := by
  constructor
  · intro h; omega
  · intro h
    have : 0 ≤ kindAt l i := by
      unfold kindAt
      repeat' split
      all_goals omega
    omega
end
end Go.SX.Plain
/- Contracts of the document's read, line. -/
namespace Go.SX.Try
open Go.Proofs Go.Proofs.Try Go.SX.Plain
set_option maxRecDepth 100000
set_option maxHeartbeats 0
set_option linter.unusedSimpArgs false
theorem q_read : fact 51 f51 := ⟨by kernel_rfl, rfl, by kernel_rfl⟩
def D_rd : Cds := [(3, ⟨Int, C_int⟩)]
theorem D_rd_ok : CdsOK T D_rd := .cons ⟨fun _ => rfl, by decide, _, rfl, rfl, by decide⟩ .nil
def castL (l : List Nat) : List Int := l.map fun (i : Nat) => (i : Int)
def readL (s : ByteArray) (way : List (Int × Int)) : List Int := ((rdW (Plain.parts s) way).map fun x => castL x.1).getD []
theorem con_read : Con prog 51 (fun ((s, way) : ByteArray × List (Int × Int)) => [.ro 4 C_pc.enc C_pc.d (pcs s) none, .ro 2 C_brk.enc C_brk.d way none true])
    (fun (s, way) => .tup [.ro 1 C_int.enc C_int.d (readL s way) none, .sb (linesB s way)]) (fun (s, _) => s.size ≤ 100000) := by
  refine Con.of (by kernel_rfl) T_ok D_rd_ok (.con con_kinds (.con con_place .nil)) 3 [] q_read.1 q_read.2.1 q_read.2.2 (fun _ => rfl) fun i hi => ?_
  obtain ⟨s, way⟩ := i
  have hsz : s.size ≤ 100000 := hi
  have hpl := parts_len s
  have hpc : (pcs s).length = (Plain.parts s).length := by simp [pcs]
  repeat' (first | (with_reducible refine ⟨_, ⟨(.cons (.ro _ _ _ _ _) .nil), ?_⟩, ?_⟩) | (with_reducible exact fun h => h) | (with_reducible refine ExE.row (by with_unfolding_all rfl) ?_) | (with_reducible refine And.intro ?_ ?_) | ((with_reducible intro hq); first | (exact bne1 hq (by with_reducible assumption)) | (exact bne1 (by with_reducible assumption) hq) | ((simp only [*, Bool.and_true, Bool.true_and, Bool.and_false, Bool.false_and, Bool.or_true, Bool.true_or, Bool.or_false, Bool.false_or, Bool.not_true, Bool.not_false, Bool.true_eq_false, Bool.false_eq_true, cond_true, cond_false, Bool.cond_self, reduceCtorEq] at hq); done) | (revert hq; with_reducible intro _)) | (with_reducible exact True.intro) | (with_reducible rfl) | ((with_reducible refine WkX.chk ?_); (conv => whnf)) | ((with_reducible refine Wk.chk ?_); (conv => whnf)) | (with_reducible refine EntLe.row ?_) | (with_reducible exact LeN.ro rfl) | (with_reducible exact LeN.rptr) | ((with_reducible refine LeL.chk ?_); (conv => whnf)) | ((with_reducible show LeO _ _); (first | (refine LeO.ro ?_) | (refine LeO.roCap ?_) | (refine LeO.nil ?_ (fun _ => rfl)))) | ((with_reducible show LeR _ _ _); (first | (refine LeR.own rfl rfl rfl ?_) | (refine LeR.view rfl rfl rfl ?_ ?_) | (refine LeR.ro ?_) | (refine LeR.roCap ?_) | (refine LeR.nil ?_ (fun _ => rfl)))) | ((with_reducible refine LeF.chk ?_); (conv => whnf)) | (with_reducible assumption) | ((with_reducible refine Run.mk ?_); (conv => whnf)) | ((with_reducible show drawOK _ _ = true); kernel_rfl) | ((with_reducible show drawOK2 _ _ = true); kernel_rfl) | ((with_reducible show drawOK3 _ _ = true); kernel_rfl))
  · show (pcs s).length ≤ 1000000
    rw [hpc]; omega
  have hLB : linesB s way = ((rdW (Plain.parts s) way).map (·.2)).getD false := by
    unfold linesB
    rw [lnW_rd]
    cases rdW (Plain.parts s) way <;> rfl
  have hW : rdW (Plain.parts s) way = rdL (Plain.parts s) (List.range' 1 (Plain.parts s).length) way := by unfold rdW; rw [upTo_eq]
  refine loopI (Int × List Int × Int) [] (fun | (i, o, n) => [(9, .v (.int .i64 i)), (7, .own 1), (8, .v (.int .i64 n))]) (fun | (_, o, _) => [(1, .row C_int o 3 none)])
    (fun | (i, o, n) => (1 ≤ i ∧ i ≤ (Plain.parts s).length + 1 ∧ 0 ≤ n ∧ n ≤ way.length ∧ n < i ∧ (o.length : Int) = n) ∧ (rdL (Plain.parts s) (List.range' i.toNat ((Plain.parts s).length + 1 - i.toNat)) (way.drop n.toNat)).map (fun x => (o ++ castL x.1, x.2)) = (rdW (Plain.parts s) way).map fun x => (castL x.1, x.2))
    (fun | (i, _, _) => ((Plain.parts s).length + 1 - i).toNat) (1, [], 0) ⟨⟨by omega, by omega, by omega, by omega, by omega, rfl⟩, by rw [hW]; simp⟩ (Wk.chk ?_) fun i hi => ?_
  · ((conv => whnf); repeat' (first | (with_reducible exact fun h => h) | (with_reducible refine ExE.row (by with_unfolding_all rfl) ?_) | (with_reducible refine And.intro ?_ ?_) | ((with_reducible intro hq); first | (exact bne1 hq (by with_reducible assumption)) | (exact bne1 (by with_reducible assumption) hq) | ((simp only [*, Bool.and_true, Bool.true_and, Bool.and_false, Bool.false_and, Bool.or_true, Bool.true_or, Bool.or_false, Bool.false_or, Bool.not_true, Bool.not_false, Bool.true_eq_false, Bool.false_eq_true, cond_true, cond_false, Bool.cond_self, reduceCtorEq] at hq); done) | (revert hq; with_reducible intro _)) | (with_reducible exact True.intro) | (with_reducible rfl) | ((with_reducible refine WkX.chk ?_); (conv => whnf)) | ((with_reducible refine Wk.chk ?_); (conv => whnf)) | (with_reducible refine EntLe.row ?_) | (with_reducible exact LeN.ro rfl) | (with_reducible exact LeN.rptr) | ((with_reducible refine LeL.chk ?_); (conv => whnf)) | ((with_reducible show LeO _ _); (first | (refine LeO.ro ?_) | (refine LeO.roCap ?_) | (refine LeO.nil ?_ (fun _ => rfl)))) | ((with_reducible show LeR _ _ _); (first | (refine LeR.own rfl rfl rfl ?_) | (refine LeR.view rfl rfl rfl ?_ ?_) | (refine LeR.ro ?_) | (refine LeR.roCap ?_) | (refine LeR.nil ?_ (fun _ => rfl)))) | ((with_reducible refine LeF.chk ?_); (conv => whnf)) | (with_reducible assumption) | ((with_reducible refine Run.mk ?_); (conv => whnf)) | ((with_reducible show drawOK _ _ = true); kernel_rfl) | ((with_reducible show drawOK2 _ _ = true); kernel_rfl) | ((with_reducible show drawOK3 _ _ = true); kernel_rfl)))
    all_goals rfl
  obtain ⟨i, o, n⟩ := i
  obtain ⟨⟨hi1, hi2, hn0, hn, hni, ho⟩, hI⟩ := hi
  obtain ⟨i, rfl⟩ := Int.eq_ofNat_of_zero_le (show 0 ≤ i by omega)
  obtain ⟨n, rfl⟩ := Int.eq_ofNat_of_zero_le hn0
  have e1 : ((i : Int)).toNat = i := Int.toNat_natCast _
  have e2 : ((n : Int)).toNat = n := Int.toNat_natCast _
  have e3 : ((i : Int) + 1).toNat = i + 1 := by omega
  have e4 : ((n : Int) + 1).toNat = n + 1 := by omega
  have e5 : C_int.d = 0 := rfl
  have e6 : C_brk.d = (0, 0) := rfl
  have e7 : (kindsP (pcs s)).length = (pcs s).length + 1 := kindsP_len _
  simp only [e1, e2] at hI
  have hRL : readL s way = (((rdW (Plain.parts s) way).map fun x => (castL x.1, x.2)).map (·.1)).getD [] := by
    unfold readL; cases rdW (Plain.parts s) way <;> rfl
  have hLB2 : linesB s way = (((rdW (Plain.parts s) way).map fun x => (castL x.1, x.2)).map (·.2)).getD false := by
    rw [hLB]; cases rdW (Plain.parts s) way <;> rfl
  by_cases hil : i ≤ (Plain.parts s).length
  case neg =>
    obtain rfl : i = (Plain.parts s).length + 1 := by omega
    rw [Nat.sub_self, rdL_end (by omega)] at hI
    rw [← hI] at hRL hLB2
    have hkt : decide ((((Plain.parts s).length + 1 : Nat) : Int) ≤ ((pcs s).length : Int)) = false := decide_eq_false (by omega)
    repeat' (first | (with_reducible refine ⟨(_, _), ⟨(.cons (.ro _ _ _ _ _) (.cons (.v _) .nil)), ?_⟩, ?_⟩) | (with_reducible refine ex_of (α := Int × List Int × Int) ((i : Int) + 1, o, (n : Int)) ⟨⟨⟨?_, ?_, ?_, ?_, ?_, ?_⟩, ?_⟩, ?_⟩ ?_) | (with_reducible exact fun h => h) | (with_reducible refine ExE.row (by with_unfolding_all rfl) ?_) | (with_reducible refine And.intro ?_ ?_) | ((with_reducible intro hq); first | (exact bne1 hq (by with_reducible assumption)) | (exact bne1 (by with_reducible assumption) hq) | ((simp only [*, Bool.and_true, Bool.true_and, Bool.and_false, Bool.false_and, Bool.or_true, Bool.true_or, Bool.or_false, Bool.false_or, Bool.not_true, Bool.not_false, Bool.true_eq_false, Bool.false_eq_true, cond_true, cond_false, Bool.cond_self, reduceCtorEq] at hq); done) | (revert hq; with_reducible intro _)) | (with_reducible exact True.intro) | (with_reducible rfl) | ((with_reducible refine WkX.chk ?_); (conv => whnf)) | ((with_reducible refine Wk.chk ?_); (conv => whnf)) | (with_reducible refine EntLe.row ?_) | (with_reducible exact LeN.ro rfl) | (with_reducible exact LeN.rptr) | ((with_reducible refine LeL.chk ?_); (conv => whnf)) | ((with_reducible show LeO _ _); (first | (refine LeO.ro ?_) | (refine LeO.roCap ?_) | (refine LeO.nil ?_ (fun _ => rfl)))) | ((with_reducible show LeR _ _ _); (first | (refine LeR.own rfl rfl rfl ?_) | (refine LeR.view rfl rfl rfl ?_ ?_) | (refine LeR.ro ?_) | (refine LeR.roCap ?_) | (refine LeR.nil ?_ (fun _ => rfl)))) | ((with_reducible refine LeF.chk ?_); (conv => whnf)) | (with_reducible assumption) | ((with_reducible refine Run.mk ?_); (conv => whnf)) | ((with_reducible show drawOK _ _ = true); kernel_rfl) | ((with_reducible show drawOK2 _ _ = true); kernel_rfl) | ((with_reducible show drawOK3 _ _ = true); kernel_rfl))
    all_goals first
      | (rw [hRL]; simp [castL]; done)
      | (rw [hLB2, Bool.eq_iff_iff]; simp; omega)
      | trace_state
  have hkt : decide ((i : Int) ≤ ((pcs s).length : Int)) = true := decide_eq_true (by omega)
  have hK : (kindsP (pcs s)).getD i 0 = kindAt (Plain.parts s) i := kinds_eq (parts_told s) (by omega) hil
  have hP : placeP (pcs s) i = ((Plain.parts s).getD (i - 1) dPart).c.to := place_eq s (by omega) hil
  have hbr : brkAt (Plain.parts s) i = (placeP (pcs s) i, (kindsP (pcs s)).getD i 0) := by rw [hK, hP]; rfl
  obtain ⟨k, hk⟩ : ∃ k, (Plain.parts s).length + 1 - i = k + 1 := ⟨(Plain.parts s).length - i, by omega⟩
  have hk2 : (Plain.parts s).length + 1 - (i + 1) = k := by omega
  rw [hk] at hI
  have hval : ∀ b, (decide ((n : Int) < (way.length : Int)) && decide (0 < (kindsP (pcs s)).getD i 0) && (way.getD n (0, 0)).1 == placeP (pcs s) i && (way.getD n (0, 0)).2 == (kindsP (pcs s)).getD i 0) = b →
      b = decide (kindAt (Plain.parts s) i ≠ 0 ∧ n < way.length ∧ way.getD n (0, 0) = brkAt (Plain.parts s) i) := by
    rintro b rfl
    rw [Bool.eq_iff_iff]
    simp only [Bool.and_eq_true, decide_eq_true_eq, beq_iff_eq]
    rw [hbr, Prod.ext_iff]
    simp only [hK]
    have := kindAt_pos (l := Plain.parts s) (i := i)
    omega
  by_cases hc : kindAt (Plain.parts s) i ≠ 0 ∧ n < way.length ∧ way.getD n (0, 0) = brkAt (Plain.parts s) i
  · have hy := rdL_yes (k := k) hc.1 hc.2.1 hc.2.2
    rw [hy, Option.map_map] at hI
    have q1 : decide ((n : Int) < (way.length : Int)) = true := decide_eq_true (by omega)
    have q2 : decide (0 < (kindsP (pcs s)).getD ((i : Int)).toNat C_int.d) = true := decide_eq_true (by rw [e1, e5, hK]; exact kindAt_pos.2 hc.1)
    have q3 : ((way.getD ((n : Int)).toNat C_brk.d).1 == placeP (pcs s) ((i : Int)).toNat) = true := by rw [e1, e2, e6, hc.2.2, hbr]; simp
    have q4 : ((way.getD ((n : Int)).toNat C_brk.d).2 == (kindsP (pcs s)).getD ((i : Int)).toNat C_int.d) = true := by rw [e1, e2, e5, e6, hc.2.2, hbr]; simp
    have hn1 : (decide ((n : Int) < (way.length : Int)) && decide (0 < (kindsP (pcs s)).getD ((i : Int)).toNat C_int.d) && (way.getD ((n : Int)).toNat C_brk.d).1 == placeP (pcs s) ((i : Int)).toNat && (way.getD ((n : Int)).toNat C_brk.d).2 == (kindsP (pcs s)).getD ((i : Int)).toNat C_int.d) = false → False := fun h => by simp only [q1, q2, q3, q4] at h; cases h
    have hn2 : (decide ((n : Int) < (way.length : Int)) && decide (0 < (kindsP (pcs s)).getD ((i : Int)).toNat C_int.d)) = false → False := fun h => by simp only [q1, q2] at h; cases h
    have hfin : (rdL (Plain.parts s) (List.range' (i + 1) k) (way.drop (n + 1))).map (fun x => (o ++ [(i : Int)] ++ castL x.1, x.2)) = (rdW (Plain.parts s) way).map fun x => (castL x.1, x.2) := by
      rw [← hI]
      congr 1
      funext x
      simp [castL]
    repeat' (first | (with_reducible refine ⟨(_, _), ⟨(.cons (.ro _ _ _ _ _) (.cons (.v _) .nil)), ?_⟩, ?_⟩) | (with_reducible refine ex_of (α := Int × List Int × Int) ((i : Int) + 1, o ++ [(i : Int)], (n : Int) + 1) ⟨⟨⟨?_, ?_, ?_, ?_, ?_, ?_⟩, ?_⟩, ?_⟩ ?_) | (with_reducible exact fun h => h) | (with_reducible refine ExE.row (by with_unfolding_all rfl) ?_) | (with_reducible refine And.intro ?_ ?_) | ((with_reducible intro hq); first | (exact bne1 hq (by with_reducible assumption)) | (exact bne1 (by with_reducible assumption) hq) | ((simp only [*, Bool.and_true, Bool.true_and, Bool.and_false, Bool.false_and, Bool.or_true, Bool.true_or, Bool.or_false, Bool.false_or, Bool.not_true, Bool.not_false, Bool.true_eq_false, Bool.false_eq_true, cond_true, cond_false, Bool.cond_self, reduceCtorEq] at hq); done) | (revert hq; with_reducible intro _)) | (with_reducible exact True.intro) | (with_reducible rfl) | ((with_reducible refine WkX.chk ?_); (conv => whnf)) | ((with_reducible refine Wk.chk ?_); (conv => whnf)) | (with_reducible refine EntLe.row ?_) | (with_reducible exact LeN.ro rfl) | (with_reducible exact LeN.rptr) | ((with_reducible refine LeL.chk ?_); (conv => whnf)) | ((with_reducible show LeO _ _); (first | (refine LeO.ro ?_) | (refine LeO.roCap ?_) | (refine LeO.nil ?_ (fun _ => rfl)))) | ((with_reducible show LeR _ _ _); (first | (refine LeR.own rfl rfl rfl ?_) | (refine LeR.view rfl rfl rfl ?_ ?_) | (refine LeR.ro ?_) | (refine LeR.roCap ?_) | (refine LeR.nil ?_ (fun _ => rfl)))) | ((with_reducible refine LeF.chk ?_); (conv => whnf)) | (with_reducible assumption) | ((with_reducible refine Run.mk ?_); (conv => whnf)) | ((with_reducible show drawOK _ _ = true); kernel_rfl) | ((with_reducible show drawOK2 _ _ = true); kernel_rfl) | ((with_reducible show drawOK3 _ _ = true); kernel_rfl))
    all_goals first
      | exact (hn1 (by assumption)).elim
      | exact (hn2 (by assumption)).elim
      | (simp only [e3, e4, hk2]; exact hfin)
      | (simp only [e1, e2, e3, e4, e5, e6, decide_eq_true_eq, List.length_append, List.length_cons, List.length_nil] at *; first | omega | (apply Fits.i64 <;> omega) | rfl)
      | rfl
      | trace_state
  · have hn1 : (decide ((n : Int) < (way.length : Int)) && decide (0 < (kindsP (pcs s)).getD ((i : Int)).toNat C_int.d) && (way.getD ((n : Int)).toNat C_brk.d).1 == placeP (pcs s) ((i : Int)).toNat && (way.getD ((n : Int)).toNat C_brk.d).2 == (kindsP (pcs s)).getD ((i : Int)).toNat C_int.d) = true → False := fun h => by
      simp only [e1, e2, e5, e6] at h
      exact hc (of_decide_eq_true (hval true h).symm)
    repeat' (first | (with_reducible refine ⟨(_, _), ⟨(.cons (.ro _ _ _ _ _) (.cons (.v _) .nil)), ?_⟩, ?_⟩) | (with_reducible refine ex_of (α := Int × List Int × Int) ((i : Int) + 1, o, (n : Int)) ⟨⟨⟨?_, ?_, ?_, ?_, ?_, ?_⟩, ?_⟩, ?_⟩ ?_) | (with_reducible exact fun h => h) | (with_reducible refine ExE.row (by with_unfolding_all rfl) ?_) | (with_reducible refine And.intro ?_ ?_) | ((with_reducible intro hq); first | (exact bne1 hq (by with_reducible assumption)) | (exact bne1 (by with_reducible assumption) hq) | ((simp only [*, Bool.and_true, Bool.true_and, Bool.and_false, Bool.false_and, Bool.or_true, Bool.true_or, Bool.or_false, Bool.false_or, Bool.not_true, Bool.not_false, Bool.true_eq_false, Bool.false_eq_true, cond_true, cond_false, Bool.cond_self, reduceCtorEq] at hq); done) | (revert hq; with_reducible intro _)) | (with_reducible exact True.intro) | (with_reducible rfl) | ((with_reducible refine WkX.chk ?_); (conv => whnf)) | ((with_reducible refine Wk.chk ?_); (conv => whnf)) | (with_reducible refine EntLe.row ?_) | (with_reducible exact LeN.ro rfl) | (with_reducible exact LeN.rptr) | ((with_reducible refine LeL.chk ?_); (conv => whnf)) | ((with_reducible show LeO _ _); (first | (refine LeO.ro ?_) | (refine LeO.roCap ?_) | (refine LeO.nil ?_ (fun _ => rfl)))) | ((with_reducible show LeR _ _ _); (first | (refine LeR.own rfl rfl rfl ?_) | (refine LeR.view rfl rfl rfl ?_ ?_) | (refine LeR.ro ?_) | (refine LeR.roCap ?_) | (refine LeR.nil ?_ (fun _ => rfl)))) | ((with_reducible refine LeF.chk ?_); (conv => whnf)) | (with_reducible assumption) | ((with_reducible refine Run.mk ?_); (conv => whnf)) | ((with_reducible show drawOK _ _ = true); kernel_rfl) | ((with_reducible show drawOK2 _ _ = true); kernel_rfl) | ((with_reducible show drawOK3 _ _ = true); kernel_rfl))
    all_goals first
      | exact (hn1 (by assumption)).elim
      | (have h1 : kindAt (Plain.parts s) i = 1 := by (simp only [e1, e5, hK, beq_iff_eq] at *; assumption)
         rw [rdL_hard hc h1] at hI
         rw [hRL, ← hI]; rfl)
      | (have h1 : kindAt (Plain.parts s) i = 1 := by (simp only [e1, e5, hK, beq_iff_eq] at *; assumption)
         rw [rdL_hard hc h1] at hI
         rw [hLB2, ← hI]; rfl)
      | (simp only [e2, e3, hk2]
         rw [← rdL_on hc (by simp only [e1, e5, hK, beq_eq_false_iff_ne, ne_eq] at *; assumption)]
         exact hI)
      | (simp only [e1, e2, e3, e4, e5, e6, decide_eq_true_eq, Bool.and_eq_true] at *; first | omega | (apply Fits.i64 <;> omega) | rfl)
      | rfl
      | trace_state
end Go.SX.Try
/- A line out of a text's parts. No program here. -/
namespace Go.SX.Plain
def segOf (l : List Part) (frm to : Nat) : List Part := (l.drop frm).take (to - frm)
theorem segOf_len {l : List Part} {frm to : Nat} (h : to ≤ l.length) : (segOf l frm to).length = to - frm := by
  unfold segOf
  simp only [List.length_take, List.length_drop]
  omega
theorem segOf_get {l : List Part} {frm to j : Nat} (h : j < to - frm) : (segOf l frm to).getD j dPart = l.getD (frm + j) dPart := by
  unfold segOf
  simp only [List.getD_eq_getElem?_getD, List.getElem?_take, List.getElem?_drop, if_pos h]
theorem trim_start {l : List Part} {frm to : Nat} (hft : frm ≤ to) (hto : to ≤ l.length) : trimN (segOf l frm to) = trimGo (segOf l frm to) (if frm < to ∧ (l.getD (to - 1) dPart).fin = true then to - 1 - frm else to - frm) := by
  unfold trimN
  rw [segOf_len hto]
  by_cases h : frm < to
  · rw [segOf_get (by omega), show frm + (to - frm - 1) = to - 1 by omega]
    by_cases hf : (l.getD (to - 1) dPart).fin = true
    · rw [if_pos ⟨by omega, hf⟩, if_pos ⟨h, hf⟩, show to - frm - 1 = to - 1 - frm by omega]
    · rw [if_neg (fun hc => hf hc.2), if_neg (fun hc => hf hc.2)]
  · rw [if_neg (fun hc => h (by omega)), if_neg (fun hc => h hc.1)]
theorem trim_step {l : List Part} {frm to t : Nat} (h : frm < t) (ht : t ≤ to) : trimGo (segOf l frm to) (t - frm) = if (l.getD (t - 1) dPart).blank = true then trimGo (segOf l frm to) (t - 1 - frm) else t - frm := by
  obtain ⟨m, hm⟩ : ∃ m, t - frm = m + 1 := ⟨t - frm - 1, by omega⟩
  rw [hm, trimGo, segOf_get (by omega), show frm + m = t - 1 by omega, show t - 1 - frm = m by omega]
end Go.SX.Plain
/- No way that fits is better than what the table tells. No program here. -/
namespace Go.SX.Plain
section
variable (l : List Part) (width : Int)
/-- Ways, as numbers of places, from place k - 1 on: the badness; does it fit; is it a way? -/
def wBad : Nat → List Nat → Int
  | k, [] => (width - fullTo l (plcs l (l.length + 1)) k l.length) * (width - fullTo l (plcs l (l.length + 1)) k l.length)
  | k, n :: Q => (width - fullTo l (plcs l (l.length + 1)) k ((plcs l (l.length + 1)).getD n 0)) * (width - fullTo l (plcs l (l.length + 1)) k ((plcs l (l.length + 1)).getD n 0)) + wBad (n + 1) Q + (if kindAt l ((plcs l (l.length + 1)).getD n 0) = 3 then 1048576 else 0)
def wFit : Nat → List Nat → Prop
  | k, [] => fullTo l (plcs l (l.length + 1)) k l.length ≤ width
  | k, n :: Q => fullTo l (plcs l (l.length + 1)) k ((plcs l (l.length + 1)).getD n 0) ≤ width ∧ wFit (n + 1) Q
def noHard (k n : Nat) : Prop := ∀ j, k ≤ j → j < n → kindAt l ((plcs l (l.length + 1)).getD j 0) ≠ 1
def wOk : Nat → List Nat → Prop
  | k, [] => k ≤ (plcs l (l.length + 1)).length ∧ noHard l k (plcs l (l.length + 1)).length
  | k, n :: Q => k ≤ n ∧ n < (plcs l (l.length + 1)).length ∧ noHard l k n ∧ wOk (n + 1) Q
end
def nxN (N : Nat) (b : Bst) : Int := if b.next = -1 then N else b.next
structure Le3 (N : Nat) (a b : Bst) : Prop where
  out : a.bad < b.bad ∨ (a.bad = b.bad ∧ (a.places < b.places ∨ (a.places = b.places ∧ nxN N a ≤ nxN N b)))
theorem Le3.refl (N : Nat) (a : Bst) : Le3 N a a := ⟨.inr ⟨rfl, .inr ⟨rfl, Int.le_refl _⟩⟩⟩
theorem Le3.trans {N : Nat} {a b c : Bst} (h : Le3 N a b) (h' : Le3 N b c) : Le3 N a c := by
  obtain ⟨h⟩ := h
  obtain ⟨h'⟩ := h'
  exact ⟨by omega⟩
theorem better_le {N : Nat} {w acc : Bst} (h : acc.ok = true → nxN N acc < nxN N w) : Le3 N (better w acc) w ∧ (acc.ok = true → Le3 N (better w acc) acc) ∧ (acc.ok = true ∨ better w acc = w) ∧ nxN N (better w acc) ≤ nxN N w := by
  unfold better
  by_cases hb : before w acc = true
  · rw [if_pos hb]
    refine ⟨Le3.refl _ _, fun ho => ?_, .inr rfl, Int.le_refl _⟩
    unfold before at hb
    rw [if_neg (by rw [ho]; decide)] at hb
    have := h ho
    split at hb
    · simp only [decide_eq_true_eq] at hb
      exact ⟨.inl hb⟩
    · simp only [decide_eq_true_eq] at hb
      exact ⟨.inr ⟨by omega, .inl hb⟩⟩
  · rw [if_neg hb]
    have ho : acc.ok = true := by
      unfold before at hb
      split at hb
      · exact absurd rfl hb
      · rename_i h2
        simpa using h2
    have h2 := h ho
    refine ⟨?_, fun _ => Le3.refl _ _, .inl ho, by omega⟩
    unfold before at hb
    rw [if_neg (by rw [ho]; decide)] at hb
    split at hb
    · simp only [decide_eq_true_eq] at hb
      exact ⟨.inl (by omega)⟩
    · simp only [decide_eq_true_eq] at hb
      exact ⟨.inr ⟨by omega, by omega⟩⟩
section
variable {l : List Part} {width : Int} {ws : List Bst}
abbrev endc (l : List Part) (width : Int) (k : Nat) : Bst := ⟨(width - fullTo l (plcs l (l.length + 1)) k l.length) * (width - fullTo l (plcs l (l.length + 1)) k l.length), 0, -1, true⟩
theorem fullTo_mono (hS : Small l) {k t e : Nat} (h : t ≤ e) : fullTo l (plcs l (l.length + 1)) k t ≤ fullTo l (plcs l (l.length + 1)) k e := wAt_mono (f := posn (plcs l (l.length + 1)) k) hS h
theorem nx_cand {k n : Nat} : nxN (plcs l (l.length + 1)).length (cand l (plcs l (l.length + 1)) width ws k n) = n := by
  unfold nxN cand
  rw [if_neg (by simp only; omega)]
theorem nx_endc {k : Nat} : nxN (plcs l (l.length + 1)).length (endc l width k) = (plcs l (l.length + 1)).length := by
  unfold nxN
  rw [if_pos rfl]
theorem inn_min (hS : Small l) {k : Nat} (hok : ∀ j, k < j → j ≤ (plcs l (l.length + 1)).length → (ws.getD j zB).ok = true) : ∀ (d n : Nat) (acc : Bst), n + d = (plcs l (l.length + 1)).length → k ≤ n → (acc.ok = true → nxN (plcs l (l.length + 1)).length acc < n) →
    (acc.ok = true → Le3 (plcs l (l.length + 1)).length (inner l (plcs l (l.length + 1)) width ws k n acc) acc) ∧
    (∀ m, n ≤ m → m < (plcs l (l.length + 1)).length → noHard l n m → fullTo l (plcs l (l.length + 1)) k ((plcs l (l.length + 1)).getD m 0) ≤ width → Le3 (plcs l (l.length + 1)).length (inner l (plcs l (l.length + 1)) width ws k n acc) (cand l (plcs l (l.length + 1)) width ws k m)) ∧
    (noHard l n (plcs l (l.length + 1)).length → fullTo l (plcs l (l.length + 1)) k l.length ≤ width → Le3 (plcs l (l.length + 1)).length (inner l (plcs l (l.length + 1)) width ws k n acc) (endc l width k))
  | 0, n, acc, hd, hk, hacc => by
    have hn : n = (plcs l (l.length + 1)).length := by omega
    rw [inner_end (by omega)]
    by_cases hf : fullTo l (plcs l (l.length + 1)) k l.length ≤ width
    · rw [endly_yes hf]
      have hb := better_le (N := (plcs l (l.length + 1)).length) (w := endc l width k) (acc := acc) fun h => by rw [nx_endc]; have := hacc h; omega
      exact ⟨hb.2.1, fun m h1 h2 => by omega, fun _ _ => hb.1⟩
    · rw [endly_no hf]
      exact ⟨fun _ => Le3.refl _ _, fun m h1 h2 => by omega, fun _ h => absurd h hf⟩
  | d + 1, n, acc, hd, hk, hacc => by
    have hn : n < (plcs l (l.length + 1)).length := by omega
    have hple : (plcs l (l.length + 1)).getD n 0 ≤ l.length := Nat.le_of_lt_succ (plcs_le hn).1
    have hpm : ∀ m, n ≤ m → m < (plcs l (l.length + 1)).length → (plcs l (l.length + 1)).getD n 0 ≤ (plcs l (l.length + 1)).getD m 0 := fun m h1 h2 => by
      by_cases he : n = m
      · rw [he]; exact Nat.le_refl _
      · exact Nat.le_of_lt (sorted_lt (plcs_sorted _ _) (by omega) h2)
    by_cases hf : fullTo l (plcs l (l.length + 1)) k ((plcs l (l.length + 1)).getD n 0) ≤ width
    · have ho := hok (n + 1) (by omega) (by omega)
      have hb := better_le (N := (plcs l (l.length + 1)).length) (w := cand l (plcs l (l.length + 1)) width ws k n) (acc := acc) fun h => by rw [nx_cand]; exact hacc h
      by_cases hk1 : kindAt l ((plcs l (l.length + 1)).getD n 0) = 1
      · rw [inner_hard hn hf ho hk1]
        refine ⟨hb.2.1, fun m h1 h2 h3 h4 => ?_, fun h3 _ => absurd hk1 (h3 n (Nat.le_refl _) hn)⟩
        by_cases he : n = m
        · subst he; exact hb.1
        · exact absurd hk1 (h3 n (Nat.le_refl _) (by omega))
      · rw [inner_on hn hf ho hk1]
        obtain ⟨i1, i2, i3⟩ := inn_min hS hok d (n + 1) (better (cand l (plcs l (l.length + 1)) width ws k n) acc) (by omega) (by omega) fun _ => by have := hb.2.2.2; rw [nx_cand] at this; omega
        have hbo := better_ok (w := cand l (plcs l (l.length + 1)) width ws k n) (acc := acc) rfl
        refine ⟨fun h => (i1 hbo).trans (hb.2.1 h), fun m h1 h2 h3 h4 => ?_, fun h3 h4 => i3 (fun j h5 h6 => h3 j (by omega) h6) h4⟩
        by_cases he : n = m
        · subst he; exact (i1 hbo).trans hb.1
        · exact i2 m (by omega) h2 (fun j h5 h6 => h3 j (by omega) h6) h4
    · rw [inner_full hn hf]
      exact ⟨fun _ => Le3.refl _ _, fun m h1 h2 h3 h4 => absurd (Int.le_trans (fullTo_mono hS (hpm m h1 h2)) h4) hf, fun _ h4 => absurd (Int.le_trans (fullTo_mono hS hple) h4) hf⟩
/-- What an entry is made of. -/
structure Att (l : List Part) (width : Int) (ws : List Bst) (k : Nat) (b : Bst) : Prop where
  out : (b = endc l width k ∧ noHard l k (plcs l (l.length + 1)).length ∧ fullTo l (plcs l (l.length + 1)) k l.length ≤ width) ∨
    ∃ m, b = cand l (plcs l (l.length + 1)) width ws k m ∧ k ≤ m ∧ m < (plcs l (l.length + 1)).length ∧ noHard l k m ∧ fullTo l (plcs l (l.length + 1)) k ((plcs l (l.length + 1)).getD m 0) ≤ width
theorem better_or (w acc : Bst) : better w acc = w ∨ better w acc = acc := by
  unfold better
  split
  · exact .inl rfl
  · exact .inr rfl
theorem inn_att {k : Nat} (hok : ∀ j, k < j → j ≤ (plcs l (l.length + 1)).length → (ws.getD j zB).ok = true) : ∀ (d n : Nat) (acc : Bst), n + d = (plcs l (l.length + 1)).length → k ≤ n → noHard l k n → (acc.ok = true → Att l width ws k acc) →
    ((inner l (plcs l (l.length + 1)) width ws k n acc).ok = true → Att l width ws k (inner l (plcs l (l.length + 1)) width ws k n acc))
  | 0, n, acc, hd, hk, hh, hacc => by
    rw [inner_end (by omega)]
    by_cases hf : fullTo l (plcs l (l.length + 1)) k l.length ≤ width
    · rw [endly_yes hf]
      intro ho
      rcases better_or (endc l width k) acc with h | h
      · have hh2 : noHard l k (plcs l (l.length + 1)).length := by rw [show (plcs l (l.length + 1)).length = n by omega]; exact hh
        exact ⟨.inl ⟨h, hh2, hf⟩⟩
      · rw [show better ⟨(width - fullTo l (plcs l (l.length + 1)) k l.length) * (width - fullTo l (plcs l (l.length + 1)) k l.length), 0, -1, true⟩ acc = acc from h] at ho ⊢
        exact hacc ho
    · rw [endly_no hf]
      exact hacc
  | d + 1, n, acc, hd, hk, hh, hacc => by
    have hn : n < (plcs l (l.length + 1)).length := by omega
    by_cases hf : fullTo l (plcs l (l.length + 1)) k ((plcs l (l.length + 1)).getD n 0) ≤ width
    · have ho := hok (n + 1) (by omega) (by omega)
      have hb : (better (cand l (plcs l (l.length + 1)) width ws k n) acc).ok = true → Att l width ws k (better (cand l (plcs l (l.length + 1)) width ws k n) acc) := fun ho2 => by
        rcases better_or (cand l (plcs l (l.length + 1)) width ws k n) acc with h | h
        · rw [h]
          exact ⟨.inr ⟨n, rfl, hk, hn, hh, hf⟩⟩
        · rw [h] at ho2 ⊢
          exact hacc ho2
      by_cases hk1 : kindAt l ((plcs l (l.length + 1)).getD n 0) = 1
      · rw [inner_hard hn hf ho hk1]
        exact hb
      · rw [inner_on hn hf ho hk1]
        refine inn_att hok d (n + 1) _ (by omega) (by omega) (fun j h1 h2 => ?_) hb
        by_cases he : j = n
        · subst he; exact hk1
        · exact hh j h1 (by omega)
    · rw [inner_full hn hf]
      exact hacc
end
section
variable {l : List Part} {width : Int}
abbrev En (l : List Part) (width : Int) (k : Nat) : Bst := (tabOf l width).getD k zB
theorem en_ok (hS : Small l) (hw1 : 2 ≤ width) {k : Nat} (hk : k ≤ (plcs l (l.length + 1)).length) : (En l width k).ok = true := tabOf_ok hS hw1 hk
theorem en_att (hS : Small l) (hw1 : 2 ≤ width) {k : Nat} (hk : k ≤ (plcs l (l.length + 1)).length) : Att l width (tabOf l width) k (En l width k) := by
  have h := tab_entry (l := l) (width := width) hk
  have ho := en_ok hS hw1 hk
  unfold En at ho ⊢
  rw [h] at ho ⊢
  exact inn_att (fun j _ h2 => en_ok hS hw1 h2) ((plcs l (l.length + 1)).length - k) k zB (by omega) (Nat.le_refl _) (fun j h1 h2 => by omega) (fun h => by cases h) ho
theorem en_min (hS : Small l) (hw1 : 2 ≤ width) {k : Nat} (hk : k ≤ (plcs l (l.length + 1)).length) :
    (∀ m, k ≤ m → m < (plcs l (l.length + 1)).length → noHard l k m → fullTo l (plcs l (l.length + 1)) k ((plcs l (l.length + 1)).getD m 0) ≤ width → Le3 (plcs l (l.length + 1)).length (En l width k) (cand l (plcs l (l.length + 1)) width (tabOf l width) k m)) ∧
    (noHard l k (plcs l (l.length + 1)).length → fullTo l (plcs l (l.length + 1)) k l.length ≤ width → Le3 (plcs l (l.length + 1)).length (En l width k) (endc l width k)) := by
  have h := tab_entry (l := l) (width := width) hk
  unfold En
  rw [h]
  exact (inn_min hS (fun j _ h2 => en_ok hS hw1 h2) ((plcs l (l.length + 1)).length - k) k zB (by omega) (Nat.le_refl _) (fun h => by cases h)).2
/-- A way as an entry. -/
def wB (l : List Part) (width : Int) (k : Nat) (Q : List Nat) : Bst := ⟨wBad l width k Q, Q.length, match Q with | [] => -1 | n :: _ => n, true⟩
/-- **No way that fits is better.** -/
theorem opt (hS : Small l) (hw1 : 2 ≤ width) : ∀ (Q : List Nat) (k : Nat), wOk l k Q → wFit l width k Q → Le3 (plcs l (l.length + 1)).length (En l width k) (wB l width k Q)
  | [], k, ho, hf => (en_min hS hw1 ho.1).2 ho.2 hf
  | n :: Q, k, ho, hf => by
    obtain ⟨h1, h2, h3, h4⟩ := ho
    have ih := (opt hS hw1 Q (n + 1) h4 hf.2).out
    refine ((en_min hS hw1 (by omega)).1 n h1 h2 h3 hf.1).trans ?_
    constructor
    unfold cand wB wBad nxN
    unfold wB En at ih
    simp only [List.length_cons, if_neg (show ¬ ((n : Int) = -1) by omega)] at ih ⊢
    omega
/-- The way of an entry. -/
def wF (l : List Part) (width : Int) (k : Nat) : List Nat := wayOf (plcs l (l.length + 1)).length (tabOf l width) (En l width k).next
theorem wF_step (hS : Small l) (hw1 : 2 ≤ width) (hw2 : width ≤ 200) {k : Nat} (hk : k ≤ (plcs l (l.length + 1)).length) :
    (wF l width k = [] ∧ En l width k = endc l width k ∧ noHard l k (plcs l (l.length + 1)).length ∧ fullTo l (plcs l (l.length + 1)) k l.length ≤ width) ∨
    ∃ m, wF l width k = m :: wF l width (m + 1) ∧ En l width k = cand l (plcs l (l.length + 1)) width (tabOf l width) k m ∧ k ≤ m ∧ m < (plcs l (l.length + 1)).length ∧ noHard l k m ∧ fullTo l (plcs l (l.length + 1)) k ((plcs l (l.length + 1)).getD m 0) ≤ width := by
  rcases (en_att hS hw1 hk).out with ⟨h1, h2, h3⟩ | ⟨m, h1, h2, h3, h4, h5⟩
  · refine .inl ⟨?_, h1, h2, h3⟩
    unfold wF
    rw [h1]
    exact wayOf_end _ _ (by simp only; omega)
  · refine .inr ⟨m, ?_, h1, h2, h3, h4, h5⟩
    unfold wF
    rw [h1]
    exact wayOf_step (fun j => tabOf_gd hS hw2 j) (en_ok hS hw1 (by omega)) h3
theorem wF_ok (hS : Small l) (hw1 : 2 ≤ width) (hw2 : width ≤ 200) : ∀ (_d k : Nat), k + _d = (plcs l (l.length + 1)).length → wOk l k (wF l width k) ∧ wFit l width k (wF l width k) ∧ wBad l width k (wF l width k) = (En l width k).bad ∧ ((wF l width k).length : Int) = (En l width k).places
  | 0, k, hd => by
    rcases wF_step hS hw1 hw2 (show k ≤ (plcs l (l.length + 1)).length by omega) with ⟨h1, h2, h3, h4⟩ | ⟨m, h1, h2, h3, h4, _⟩
    · rw [h1, h2]
      exact ⟨⟨by omega, h3⟩, h4, rfl, rfl⟩
    · omega
  | d + 1, k, hd => by
    rcases wF_step hS hw1 hw2 (show k ≤ (plcs l (l.length + 1)).length by omega) with ⟨h1, h2, h3, h4⟩ | ⟨m, h1, h2, h3, h4, h5, h6⟩
    · rw [h1, h2]
      exact ⟨⟨by omega, h3⟩, h4, rfl, rfl⟩
    · obtain ⟨i1, i2, i3, i4⟩ := wF_ok hS hw1 hw2 ((plcs l (l.length + 1)).length - (m + 1)) (m + 1) (by omega)
      rw [h1, h2]
      refine ⟨⟨h3, h4, h5, i1⟩, ⟨h6, i2⟩, ?_, ?_⟩
      · unfold wBad cand
        rw [i3]
      · unfold cand
        simp only [List.length_cons]
        rw [← i4]
        omega
  termination_by d k => (plcs l (l.length + 1)).length - k
/-- **Of the ways that are as good, the table's is the first.** -/
theorem first (hS : Small l) (hw1 : 2 ≤ width) (hw2 : width ≤ 200) : ∀ (Q : List Nat) (k : Nat), wOk l k Q → wFit l width k Q → wBad l width k Q = (En l width k).bad → (Q.length : Int) = (En l width k).places →
    ∀ i, i < Q.length → (∀ j, j < i → Q.getD j 0 = (wF l width k).getD j 0) → Q.getD i 0 ≠ (wF l width k).getD i 0 → (wF l width k).getD i 0 < Q.getD i 0
  | [], k, _, _, _, _, i, hi, _, _ => by simp at hi
  | n :: Q, k, ho, hf, hb, hl, i, hi, he, hne => by
    have hop := (opt hS hw1 (n :: Q) k ho hf).out
    obtain ⟨h1, h2, h3, h4⟩ := ho
    have hnx : nxN (plcs l (l.length + 1)).length (En l width k) ≤ n := by
      have : nxN (plcs l (l.length + 1)).length (wB l width k (n :: Q)) = n := by
        unfold nxN wB
        rw [if_neg (by simp only; omega)]
      rw [this] at hop
      unfold wB at hop
      simp only at hop
      omega
    rcases wF_step hS hw1 hw2 (show k ≤ (plcs l (l.length + 1)).length by omega) with ⟨q1, q2, q3, q4⟩ | ⟨m, q1, q2, q3, q4, q5, q6⟩
    · rw [q2, nx_endc] at hnx
      omega
    · rw [q2, nx_cand] at hnx
      rw [q1] at he hne ⊢
      cases i with
      | zero =>
        simp only [List.getD_cons_zero] at hne ⊢
        omega
      | succ i =>
        have hnm := he 0 (by omega)
        simp only [List.getD_cons_zero] at hnm
        subst hnm
        simp only [List.getD_cons_succ] at hne ⊢
        refine first hS hw1 hw2 Q (n + 1) h4 hf.2 ?_ ?_ i (by simpa using hi) (fun j hj => by have := he (j + 1) (by omega); simpa only [List.getD_cons_succ] using this) hne
        · rw [q2] at hb
          unfold wBad cand at hb
          simp only at hb
          show _ = ((tabOf l width).getD (n + 1) zB).bad
          omega
        · rw [q2] at hl
          unfold cand at hl
          simp only [List.length_cons] at hl
          show _ = ((tabOf l width).getD (n + 1) zB).places
          omega
end
end Go.SX.Plain
/- A way's lines, and what they cost. No program here. -/
namespace Go.SX.Plain
section
variable {l : List Part} {f e : Nat}
theorem sumC_zero (l : List Part) : sumC l 0 = 0 := rfl
theorem sumC_take (l : List Part) {n : Nat} (_h : n ≤ l.length) : sumC (l.take n) (l.take n).length = sumC l n := by
  unfold sumC
  rw [List.take_length]
theorem cellsL_trim (l : List Part) : cellsL l = sumC l (trimN l) := by
  unfold cellsL trimL
  exact sumC_take l (trimN_le l)
theorem scan_seg (he : e ≤ l.length) : ∀ n, n ≤ e - f → (∀ i, f ≤ i → i < f + n → (l.getD i dPart).fin = false) → scan l f n = (sumC (segOf l f e) (trimGo (segOf l f e) n), sumC (segOf l f e) n)
  | 0, _, _ => rfl
  | n + 1, hn, hf => by
    have ih := scan_seg he n (by omega) fun i h1 h2 => hf i h1 (by omega)
    have hlen := segOf_len (l := l) (frm := f) (to := e) he
    have hg := segOf_get (l := l) (frm := f) (to := e) (j := n) (by omega)
    have hs := sumC_succ (l := segOf l f e) (k := n) (by omega)
    rw [hg] at hs
    unfold scan
    rw [if_neg (by rw [hf (f + n) (by omega) (by omega)]; decide), ih, hs]
    simp only [trimGo, hg]
    by_cases hb : (l.getD (f + n) dPart).blank = true
    · rw [if_pos hb, if_pos hb]
    · rw [if_neg hb, if_neg hb, hs]
theorem cells_seg (hfe : f ≤ e) (he : e ≤ l.length) (hf : ∀ i, f ≤ i → i + 1 < e → (l.getD i dPart).fin = false) : cellsL (segOf l f e) = wAt l f e := by
  rw [cellsL_trim, trim_start hfe he]
  unfold wAt
  by_cases hc : f < e ∧ (l.getD (e - 1) dPart).fin = true
  · rw [if_pos hc]
    obtain ⟨m, hm⟩ : ∃ m, e - f = m + 1 := ⟨e - f - 1, by omega⟩
    have h1 : e - 1 - f = m := by omega
    rw [h1, hm]
    have h2 : scan l f (m + 1) = scan l f m := by
      simp only [scan]
      rw [show f + m = e - 1 by omega, if_pos hc.2]
    rw [h2, scan_seg he m (by omega) fun i h3 h4 => hf i h3 (by omega)]
  · rw [if_neg hc]
    rw [scan_seg he (e - f) (Nat.le_refl _) fun i h3 h4 => ?_]
    by_cases hi : i + 1 < e
    · exact hf i h3 hi
    · have : i = e - 1 := by omega
      subst this
      cases hq : (l.getD (e - 1) dPart).fin with
      | false => rfl
      | true => exact absurd ⟨by omega, hq⟩ hc
theorem fin_hard {i : Nat} (h : (l.getD i dPart).fin = true) : kindAt l (i + 1) = 1 := by
  unfold kindAt
  rw [Nat.add_sub_cancel, if_pos h]
/-- Inside of a line that has no hard place no part ends a line. -/
theorem no_fin {k n : Nat} (hk : k ≤ n) (hn : n ≤ (plcs l (l.length + 1)).length) (hh : noHard l k n) (he : e ≤ l.length) (hen : ∀ j, n ≤ j → j < (plcs l (l.length + 1)).length → e ≤ (plcs l (l.length + 1)).getD j 0) : ∀ i, posn (plcs l (l.length + 1)) k ≤ i → i + 1 < e → (l.getD i dPart).fin = false := by
  intro i h1 h2
  cases hq : (l.getD i dPart).fin with
  | false => rfl
  | true =>
    have h3 := fin_hard hq
    obtain ⟨j, hj1, hj2⟩ := List.getElem_of_mem (plcs_mem (l := l) (k := l.length + 1) (i := i + 1) |>.2 ⟨by omega, by omega, by omega⟩)
    have hj3 : (plcs l (l.length + 1)).getD j 0 = i + 1 := by simp [List.getD_eq_getElem?_getD, hj1, hj2]
    have hjk : k ≤ j := by
      refine Nat.le_of_not_lt fun hlt => ?_
      have : (plcs l (l.length + 1)).getD j 0 ≤ posn (plcs l (l.length + 1)) k := by
        unfold posn
        rw [if_neg (by omega)]
        by_cases hx : j = k - 1
        · rw [hx]; exact Nat.le_refl _
        · exact Nat.le_of_lt (sorted_lt (plcs_sorted _ _) (by omega) (by omega))
      omega
    have hjn : j < n := by
      refine Nat.lt_of_not_le fun hle => ?_
      have := hen j hle hj1
      omega
    have h4 := hh j hjk hjn
    rw [hj3] at h4
    exact absurd h3 h4
end
structure MonoTo (l : List Part) : Prop where
  out : ∀ i j, i < j → j < l.length → (l.getD i dPart).c.to < (l.getD j dPart).c.to
theorem parts_mono (s : ByteArray) : MonoTo (parts s) := by
  have hcl : ∀ i, i < (parts s).length → ((parts s).getD i dPart).c.frm < ((parts s).getD i dPart).c.to := fun i hi => by
    have hlen : (parts s).length = (clusters s).length := by simp [parts]
    have e : ((parts s).getD i dPart).c = (clusters s)[i]'(by omega) := by
      simp [parts, List.getD_eq_getElem?_getD, show i < (clusters s).length by omega]; rfl
    rw [e]
    exact (clusters_ok s _ (List.getElem_mem _)).first.2.2.2.1
  have step : ∀ i, i + 1 < (parts s).length → ((parts s).getD i dPart).c.to < ((parts s).getD (i + 1) dPart).c.to := fun i hi => by
    have h1 := parts_chn s (i := i + 1) (by omega) hi
    have h2 := hcl (i + 1) hi
    rw [Nat.add_sub_cancel] at h1
    omega
  refine ⟨fun i j hij hj => ?_⟩
  induction j with
  | zero => omega
  | succ j ih =>
    have := step j hj
    by_cases h : i = j
    · subst h; exact this
    · have := ih (by omega) (by omega)
      omega
section
variable {l : List Part} {width : Int}
abbrev brk (l : List Part) (n : Nat) : Int × Int := brkAt l ((plcs l (l.length + 1)).getD n 0)
theorem brk_lt (hM : MonoTo l) {k m : Nat} (h : k < m) (hm : m < (plcs l (l.length + 1)).length) : (brk l k).1 < (brk l m).1 := by
  have h1 := plcs_le (l := l) (k := l.length + 1) (i := k) (by omega)
  have h2 := plcs_le (l := l) (k := l.length + 1) (i := m) hm
  have h3 := sorted_lt (plcs_sorted l (l.length + 1)) h hm
  exact hM.out _ _ (by omega) (by omega)
theorem lnL_of (hM : MonoTo l) : ∀ (d k : Nat) (Q : List Nat) (frm : Nat), k + d = (plcs l (l.length + 1)).length → wOk l k Q →
    lnL l ((plcs l (l.length + 1)).drop k) (Q.map (brk l)) frm = some (segs l (Q.map fun n => (plcs l (l.length + 1)).getD n 0) frm, true)
  | 0, k, [], frm, hd, ho => by
    rw [List.drop_eq_nil_of_le (by omega)]
    rfl
  | 0, k, n :: Q, frm, hd, ho => by
    have := ho.1
    have := ho.2.1
    omega
  | d + 1, k, [], frm, hd, ho => by
    rw [drop_cons_getD 0 (by omega), lnL, if_neg (by simp), if_neg (ho.2 k (Nat.le_refl _) (by omega))]
    exact lnL_of hM d (k + 1) [] frm (by omega) ⟨by omega, fun j h1 h2 => ho.2 j (by omega) h2⟩
  | d + 1, k, m :: Q, frm, hd, ho => by
    obtain ⟨h1, h2, h3, h4⟩ := ho
    rw [drop_cons_getD 0 (by omega), lnL]
    by_cases hm : k = m
    · subst hm
      rw [if_pos (show (List.map (brk l) (k :: Q)).head? = some (brkAt l ((plcs l (l.length + 1)).getD k 0)) from rfl), List.map_cons, List.tail_cons, lnL_of hM d (k + 1) Q _ (by omega) h4]
      rfl
    · have hne := brk_lt hM (k := k) (m := m) (by omega) h2
      rw [if_neg (by
        simp only [List.map_cons, List.head?_cons, Option.some.injEq]
        intro hc
        have : (brk l m).1 = (brk l k).1 := by rw [hc]
        omega), if_neg (h3 k (Nat.le_refl _) (by omega))]
      exact lnL_of hM d (k + 1) (m :: Q) frm (by omega) ⟨by omega, h2, fun j h5 h6 => h3 j (by omega) h6, h4⟩
theorem lnW_of (hM : MonoTo l) {Q : List Nat} (ho : wOk l 0 Q) : lnW l (Q.map (brk l)) = some (segs l (Q.map fun n => (plcs l (l.length + 1)).getD n 0) 0, true) := by
  unfold lnW
  exact lnL_of hM (plcs l (l.length + 1)).length 0 Q 0 (by omega) ho
theorem sqS_cons (x : List Part) (L : List (List Part)) (k : Nat) : sqS (x :: L) width (k + 1) = (width - cellsL x) * (width - cellsL x) + sqS L width k := by
  unfold sqS
  simp
theorem cutS_cons (x : Int × Int) (L : List (Int × Int)) (k : Nat) : cutS (x :: L) (k + 1) = (if x.2 = 3 then 1048576 else 0) + cutS L k := by
  unfold cutS
  simp
theorem line_cells {k n : Nat} (hk : k ≤ n) (hn : n < (plcs l (l.length + 1)).length) (hh : noHard l k n) : cellsL ((l.drop (posn (plcs l (l.length + 1)) k)).take ((plcs l (l.length + 1)).getD n 0 - posn (plcs l (l.length + 1)) k)) = fullTo l (plcs l (l.length + 1)) k ((plcs l (l.length + 1)).getD n 0) := by
  have h1 := plcs_le hn
  have h2 : posn (plcs l (l.length + 1)) k ≤ (plcs l (l.length + 1)).getD n 0 := by
    have h4 := posn_mono hk (Nat.le_of_lt hn)
    have := posn_lt hn
    omega
  refine cells_seg (f := posn (plcs l (l.length + 1)) k) h2 (by omega) (no_fin hk (Nat.le_of_lt hn) hh (by omega) fun j h3 h4 => ?_)
  by_cases he : n = j
  · rw [he]; exact Nat.le_refl _
  · exact Nat.le_of_lt (sorted_lt (plcs_sorted _ _) (by omega) h4)
theorem last_cells {k : Nat} (hk : k ≤ (plcs l (l.length + 1)).length) (hh : noHard l k (plcs l (l.length + 1)).length) : cellsL (l.drop (posn (plcs l (l.length + 1)) k)) = fullTo l (plcs l (l.length + 1)) k l.length := by
  have h := cells_seg (l := l) (f := posn (plcs l (l.length + 1)) k) (e := l.length) (posn_le hk) (Nat.le_refl _) (no_fin hk (Nat.le_refl _) hh (Nat.le_refl _) fun j h3 h4 => by omega)
  unfold segOf at h
  rw [List.take_of_length_le (by simp)] at h
  exact h
theorem wBad_eq : ∀ (Q : List Nat) (k : Nat), wOk l k Q → sqS (segs l (Q.map fun n => (plcs l (l.length + 1)).getD n 0) (posn (plcs l (l.length + 1)) k)) width (Q.length + 1) + cutS (Q.map (brk l)) Q.length = wBad l width k Q
  | [], k, ho => by
    simp only [List.map_nil, segs, List.length_nil]
    rw [sqS_cons, last_cells ho.1 ho.2]
    unfold wBad
    show _ + sqS [] width 0 + cutS [] 0 = _
    have h1 : sqS [] width 0 = 0 := rfl
    have h2 : cutS [] 0 = 0 := rfl
    rw [h1, h2]
    omega
  | n :: Q, k, ho => by
    obtain ⟨h1, h2, h3, h4⟩ := ho
    have ih := wBad_eq Q (n + 1) h4
    rw [posn_succ] at ih
    simp only [List.map_cons, segs, List.length_cons]
    rw [sqS_cons, cutS_cons, line_cells h1 h2 h3]
    unfold wBad
    rw [← ih]
    have : (brk l n).2 = kindAt l ((plcs l (l.length + 1)).getD n 0) := rfl
    rw [this]
    omega
theorem wFit_eq : ∀ (Q : List Nat) (k : Nat), wOk l k Q → (fitAll (segs l (Q.map fun n => (plcs l (l.length + 1)).getD n 0) (posn (plcs l (l.length + 1)) k)) width = true ↔ wFit l width k Q)
  | [], k, ho => by
    simp only [List.map_nil, segs, fitAll, List.all_cons, List.all_nil, Bool.and_true, decide_eq_true_eq]
    rw [last_cells ho.1 ho.2]
    exact Iff.rfl
  | n :: Q, k, ho => by
    obtain ⟨h1, h2, h3, h4⟩ := ho
    have ih := wFit_eq Q (n + 1) h4
    rw [posn_succ] at ih
    simp only [List.map_cons, segs, fitAll, List.all_cons, Bool.and_eq_true, decide_eq_true_eq] at ih ⊢
    rw [line_cells h1 h2 h3, ih]
    exact Iff.rfl
theorem segs_len (l : List Part) : ∀ (P : List Nat) (frm : Nat), (segs l P frm).length = P.length + 1
  | [], _ => rfl
  | p :: P, frm => by simp [segs, segs_len l P p]
theorem wOk_lt : ∀ (Q : List Nat) (k : Nat), wOk l k Q → ∀ n ∈ Q, n < (plcs l (l.length + 1)).length
  | [], _, _, n, h => by cases h
  | m :: Q, k, ho, n, h => by
    rcases List.mem_cons.1 h with rfl | h
    · exact ho.2.1
    · exact wOk_lt Q _ ho.2.2.2 n h
/-- A choice of places that has all hard ones is a way. -/
theorem wOk_filter (g : Nat → Bool) (hg : ∀ j, j < (plcs l (l.length + 1)).length → kindAt l ((plcs l (l.length + 1)).getD j 0) = 1 → g j = true) : ∀ (d k : Nat), k + d = (plcs l (l.length + 1)).length → wOk l k ((List.range' k d).filter g)
  | 0, k, hd => ⟨by omega, fun j h1 h2 => by omega⟩
  | d + 1, k, hd => by
    have ih := wOk_filter g hg d (k + 1) (by omega)
    rw [List.range'_succ]
    by_cases h : g k = true
    · rw [List.filter_cons_of_pos h]
      exact ⟨Nat.le_refl _, by omega, fun j h1 h2 => by omega, ih⟩
    · rw [List.filter_cons_of_neg h]
      have hk : kindAt l ((plcs l (l.length + 1)).getD k 0) ≠ 1 := fun hc => h (hg k (by omega) hc)
      revert ih
      cases (List.range' (k + 1) d).filter g with
      | nil =>
        intro ih
        refine ⟨by omega, fun j h1 h2 => ?_⟩
        by_cases he : j = k
        · subst he; exact hk
        · exact ih.2 j (by omega) h2
      | cons m Q =>
        intro ih
        obtain ⟨h1, h2, h3, h4⟩ := ih
        refine ⟨by omega, h2, fun j h5 h6 => ?_, h4⟩
        by_cases he : j = k
        · subst he; exact hk
        · exact h3 j (by omega) h6
end
section
variable {s : ByteArray} {width : Int}
theorem lines_of {Q : List Nat} (ho : wOk (parts s) 0 Q) : linesL s (Q.map (brk (parts s))) = segs (parts s) (Q.map fun n => (plcs (parts s) ((parts s).length + 1)).getD n 0) 0 ∧ linesB s (Q.map (brk (parts s))) = true := by
  have h := lnW_of (parts_mono s) ho
  unfold linesL linesB
  rw [h]
  exact ⟨rfl, rfl⟩
theorem badE_of {Q : List Nat} (hc : checkN s.size width = 0) (ho : wOk (parts s) 0 Q) : (wFit (parts s) width 0 Q → badE s width (Q.map (brk (parts s))) = 0 ∧ badN s width (Q.map (brk (parts s))) = wBad (parts s) width 0 Q) ∧
    (¬ wFit (parts s) width 0 Q → badE s width (Q.map (brk (parts s))) = 35 ∧ badN s width (Q.map (brk (parts s))) = 0) := by
  obtain ⟨h1, h2⟩ := lines_of ho
  have h3 := wFit_eq (width := width) Q 0 ho
  have h4 := wBad_eq (width := width) Q 0 ho
  have h5 : posn (plcs (parts s) ((parts s).length + 1)) 0 = 0 := rfl
  rw [h5] at h3 h4
  have h6 := segs_len (parts s) (Q.map fun n => (plcs (parts s) ((parts s).length + 1)).getD n 0) 0
  rw [List.length_map] at h6
  constructor
  · intro hf
    have hE : badE s width (Q.map (brk (parts s))) = 0 := by
      unfold badE
      rw [if_neg (by rw [hc]; decide), if_neg (by rw [h2]; decide), h1, if_pos (h3.2 hf)]
    refine ⟨hE, ?_⟩
    unfold badN
    rw [hE, if_pos rfl, h1, h6, List.length_map, h4]
  · intro hf
    have hE : badE s width (Q.map (brk (parts s))) = 35 := by
      unfold badE
      rw [if_neg (by rw [hc]; decide), if_neg (by rw [h2]; decide), h1, if_neg (fun h => hf (h3.1 h))]
    refine ⟨hE, ?_⟩
    unfold badN
    rw [hE, if_neg (by decide)]
theorem wrapOut_of (hw1 : 2 ≤ width) (hw2 : width ≤ 200) : wrapOut (parts s) width = (wF (parts s) width 0).map (brk (parts s)) := by
  have h := (wF_ok (parts_small s) hw1 hw2 (plcs (parts s) ((parts s).length + 1)).length 0 (by omega)).1
  have h2 := wOk_lt _ _ h
  unfold wrapOut
  refine List.map_congr_left fun n hn => ?_
  exact outL_getD (h2 n hn)
end
end Go.SX.Plain
