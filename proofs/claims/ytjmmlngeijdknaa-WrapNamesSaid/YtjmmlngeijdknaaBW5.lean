/- A verified symbolic executor for Go code in the model, contracts and plain laws that the proofs lean on, part 5 of 5. -/
import Derived.Test.YtjmmlngeijdknaaBW4
set_option linter.unusedVariables false
set_option linter.unusedSimpArgs false
/- Contract of the document's table. -/
namespace Go.SX.Try
open Go.Proofs Go.Proofs.Try Go.SX.Plain
set_option maxRecDepth 100000
set_option maxHeartbeats 0
set_option linter.unusedSimpArgs false
theorem q_less : fact 105 f105 := ⟨by kernel_rfl, rfl, by kernel_rfl⟩
theorem q_table : fact 79 f79 := ⟨by kernel_rfl, rfl, by kernel_rfl⟩
abbrev rbAV (x : Rb) : List AV := [.v (.int .i64 x.bad), .v (.int .i64 x.count), .v (.int .i64 x.next)]
def C_rb : Cdc Rb where
  size := 3
  enc := rbAV
  dec l := match l with
    | [.v (.int _ a), .v (.int _ b), .v (.int _ c)] => ⟨a, b, c⟩
    | _ => ⟨0, 0, 0⟩
  d := ⟨0, 0, 0⟩
def D_tb : Cds := [(135, ⟨Rb, C_rb⟩)]
theorem D_tb_ok : CdsOK T D_tb := .cons ⟨fun _ => rfl, by decide, _, rfl, rfl, by decide⟩ .nil
theorem con_less : Con prog 105 (fun ((a, b) : Rb × Rb) => [.agg (rbAV a), .agg (rbAV b)]) (fun (a, b) => .sb (lessB a b)) (fun _ => True) := by
  refine Con.of (by kernel_rfl) T_ok CdsOK.nil .nil 2 [] q_less.1 q_less.2.1 q_less.2.2 (fun _ => rfl) fun i _ => ?_
  obtain ⟨⟨a1, a2, a3⟩, ⟨b1, b2, b3⟩⟩ := i
  repeat' (first | (with_reducible exact fun h => h) | (with_reducible refine And.intro ?_ ?_) | ((with_reducible intro hq); first | (exact bne1 hq (by with_reducible assumption)) | (exact bne1 (by with_reducible assumption) hq) | ((simp only [*, Bool.and_true, Bool.true_and, Bool.and_false, Bool.false_and, Bool.or_true, Bool.true_or, Bool.or_false, Bool.false_or, Bool.not_true, Bool.not_false, Bool.true_eq_false, Bool.false_eq_true, cond_true, cond_false, Bool.cond_self, reduceCtorEq] at hq); done) | (revert hq; with_reducible intro _)) | (with_reducible exact True.intro) | (with_reducible rfl) | ((with_reducible refine WkX.chk ?_); (conv => whnf)) | ((with_reducible refine Wk.chk ?_); (conv => whnf)) | (with_reducible refine EntLe.row ?_) | (with_reducible exact LeN.ro rfl) | (with_reducible exact LeN.rptr) | ((with_reducible refine LeL.chk ?_); (conv => whnf)) | ((with_reducible show LeO _ _); (first | (refine LeO.ro ?_) | (refine LeO.roCap ?_) | (refine LeO.nil ?_ (fun _ => rfl)))) | ((with_reducible show LeR _ _ _); (first | (refine LeR.own rfl rfl rfl ?_) | (refine LeR.ro ?_) | (refine LeR.roCap ?_) | (refine LeR.nil ?_ (fun _ => rfl)))) | ((with_reducible refine LeF.chk ?_); (conv => whnf)) | (with_reducible assumption) | ((with_reducible refine Run.mk ?_); (conv => whnf)) | ((with_reducible show drawOK _ _ = true); kernel_rfl) | ((with_reducible show drawOK2 _ _ = true); kernel_rfl) | ((with_reducible show drawOK3 _ _ = true); kernel_rfl))
  all_goals simp_all [lessB]
structure OkL (l : List Part) : Prop where
  told : ∀ p ∈ l, Plain.Told p
  small : Small l
  len : l.length ≤ 5000
theorem con_table : Con prog 79 (fun ((l, width) : List Part × Int) => [.ro 4 C_pc.enc C_pc.d (l.map pcOf) none, .v (.int .i64 width)]) (fun (l, width) => .ro 3 C_rb.enc C_rb.d (rtab l width) none) (fun (l, width) => OkL l ∧ 2 ≤ width ∧ width ≤ 200) := by
  refine Con.of (by kernel_rfl) T_ok D_tb_ok (.con con_kinds (.con con_ends (.con con_rblank (.con con_less .nil)))) 3 [21, 24, 31, 36] q_table.1 q_table.2.1 q_table.2.2 (fun _ => rfl) fun i hi => ?_
  obtain ⟨l, width⟩ := i
  obtain ⟨⟨hT, hS, hlen⟩, hw1, hw2⟩ : OkL l ∧ 2 ≤ width ∧ width ≤ 200 := hi
  have hml : (l.map pcOf).length = l.length := by simp
  repeat' (first | (with_reducible refine ⟨_, ⟨(.cons (.ro _ _ _ _ _) .nil), ?_⟩, ?_⟩) | (with_reducible exact fun h => h) | (with_reducible refine And.intro ?_ ?_) | ((with_reducible intro hq); first | (exact bne1 hq (by with_reducible assumption)) | (exact bne1 (by with_reducible assumption) hq) | ((simp only [*, Bool.and_true, Bool.true_and, Bool.and_false, Bool.false_and, Bool.or_true, Bool.true_or, Bool.or_false, Bool.false_or, Bool.not_true, Bool.not_false, Bool.true_eq_false, Bool.false_eq_true, cond_true, cond_false, Bool.cond_self, reduceCtorEq] at hq); done) | (revert hq; with_reducible intro _)) | (with_reducible exact True.intro) | (with_reducible rfl) | ((with_reducible refine WkX.chk ?_); (conv => whnf)) | ((with_reducible refine Wk.chk ?_); (conv => whnf)) | (with_reducible refine EntLe.row ?_) | (with_reducible exact LeN.ro rfl) | (with_reducible exact LeN.rptr) | ((with_reducible refine LeL.chk ?_); (conv => whnf)) | ((with_reducible show LeO _ _); (first | (refine LeO.ro ?_) | (refine LeO.roCap ?_) | (refine LeO.nil ?_ (fun _ => rfl)))) | ((with_reducible show LeR _ _ _); (first | (refine LeR.own rfl rfl rfl ?_) | (refine LeR.ro ?_) | (refine LeR.roCap ?_) | (refine LeR.nil ?_ (fun _ => rfl)))) | ((with_reducible refine LeF.chk ?_); (conv => whnf)) | (with_reducible assumption) | ((with_reducible refine Run.mk ?_); (conv => whnf)) | ((with_reducible show drawOK _ _ = true); kernel_rfl) | ((with_reducible show drawOK2 _ _ = true); kernel_rfl) | ((with_reducible show drawOK3 _ _ = true); kernel_rfl))
  · dsimp only; omega
  · rw [hml]; refine Fits.i64 ?_ ?_ <;> omega
  · rw [hml]; omega
  · omega
  · rw [hml]; dsimp only; omega
  · rfl
  · rfl
  · rfl
  simp only [hml]
  refine loopI Nat [] (fun c => [(8, .v (.int .i64 ((l.length : Int) - (c : Int))))]) (fun c => [(1, .row C_rb (rt l width c) 135 none)]) (fun c => c ≤ l.length + 1) (fun c => l.length + 1 - c) 0 (Nat.zero_le _) (Wk.chk ?_) fun c hc => ?_
  · ((conv => whnf); repeat' (first | (with_reducible exact fun h => h) | (with_reducible refine And.intro ?_ ?_) | ((with_reducible intro hq); first | (exact bne1 hq (by with_reducible assumption)) | (exact bne1 (by with_reducible assumption) hq) | ((simp only [*, Bool.and_true, Bool.true_and, Bool.and_false, Bool.false_and, Bool.or_true, Bool.true_or, Bool.or_false, Bool.false_or, Bool.not_true, Bool.not_false, Bool.true_eq_false, Bool.false_eq_true, cond_true, cond_false, Bool.cond_self, reduceCtorEq] at hq); done) | (revert hq; with_reducible intro _)) | (with_reducible exact True.intro) | (with_reducible rfl) | ((with_reducible refine WkX.chk ?_); (conv => whnf)) | ((with_reducible refine Wk.chk ?_); (conv => whnf)) | (with_reducible refine EntLe.row ?_) | (with_reducible exact LeN.ro rfl) | (with_reducible exact LeN.rptr) | ((with_reducible refine LeL.chk ?_); (conv => whnf)) | ((with_reducible show LeO _ _); (first | (refine LeO.ro ?_) | (refine LeO.roCap ?_) | (refine LeO.nil ?_ (fun _ => rfl)))) | ((with_reducible show LeR _ _ _); (first | (refine LeR.own rfl rfl rfl ?_) | (refine LeR.ro ?_) | (refine LeR.roCap ?_) | (refine LeR.nil ?_ (fun _ => rfl)))) | ((with_reducible refine LeF.chk ?_); (conv => whnf)) | (with_reducible assumption) | ((with_reducible refine Run.mk ?_); (conv => whnf)) | ((with_reducible show drawOK _ _ = true); kernel_rfl) | ((with_reducible show drawOK2 _ _ = true); kernel_rfl) | ((with_reducible show drawOK3 _ _ = true); kernel_rfl)))
    · simp
    · simp only [rt]; congr 1
  have hrl := rt_len l width c
  repeat' (first | (with_reducible exact fun h => h) | (with_reducible refine And.intro ?_ ?_) | ((with_reducible intro hq); first | (exact bne1 hq (by with_reducible assumption)) | (exact bne1 (by with_reducible assumption) hq) | ((simp only [*, Bool.and_true, Bool.true_and, Bool.and_false, Bool.false_and, Bool.or_true, Bool.true_or, Bool.or_false, Bool.false_or, Bool.not_true, Bool.not_false, Bool.true_eq_false, Bool.false_eq_true, cond_true, cond_false, Bool.cond_self, reduceCtorEq] at hq); done) | (revert hq; with_reducible intro _)) | (with_reducible exact True.intro) | (with_reducible rfl) | ((with_reducible refine WkX.chk ?_); (conv => whnf)) | ((with_reducible refine Wk.chk ?_); (conv => whnf)) | (with_reducible refine EntLe.row ?_) | (with_reducible exact LeN.ro rfl) | (with_reducible exact LeN.rptr) | ((with_reducible refine LeL.chk ?_); (conv => whnf)) | ((with_reducible show LeO _ _); (first | (refine LeO.ro ?_) | (refine LeO.roCap ?_) | (refine LeO.nil ?_ (fun _ => rfl)))) | ((with_reducible show LeR _ _ _); (first | (refine LeR.own rfl rfl rfl ?_) | (refine LeR.ro ?_) | (refine LeR.roCap ?_) | (refine LeR.nil ?_ (fun _ => rfl)))) | ((with_reducible refine LeF.chk ?_); (conv => whnf)) | (with_reducible assumption) | ((with_reducible refine Run.mk ?_); (conv => whnf)) | ((with_reducible show drawOK _ _ = true); kernel_rfl) | ((with_reducible show drawOK2 _ _ = true); kernel_rfl) | ((with_reducible show drawOK3 _ _ = true); kernel_rfl))
  · have hc1 : c ≤ l.length := by
      have h : decide (0 ≤ (l.length : Int) - (c : Int)) = true := by assumption
      simp only [decide_eq_true_eq] at h; omega
    obtain ⟨f, hf⟩ : ∃ f, f = l.length - c := ⟨_, rfl⟩
    have hfc : (l.length : Int) - (c : Int) = (f : Int) := by omega
    have hfl : f ≤ l.length := by omega
    rw [hfc]
    have hgd := fun t (ht : f < t) => rt_gd (width := width) hS hw2 c t (by omega) (by omega)
    refine loopI (Nat × Bst) [] (fun | (t, acc) => [(12, .v (.int .i64 (t : Int))), (9, .sb acc.ok), (10, .v (.int .i64 (scan l f (t - 1 - f)).2)), (11, .v (.int .i64 ((scan l f (t - 1 - f)).2 - (scan l f (t - 1 - f)).1)))])
      (fun | (_, acc) => [(1, .row C_rb ((rt l width c).set f (rbOf acc)) 135 none)])
      (fun | (t, acc) => f ≤ t ∧ t ≤ l.length + 1 ∧ GdR l.length f (rbOf acc) ∧ rinner l width (rt l width c) f t acc = rinner l width (rt l width c) f f zB) (fun | (t, _) => l.length + 1 - t) (f, zB) ⟨Nat.le_refl _, by omega, GdR.zero _ _, rfl⟩ (Wk.chk ?_) fun i hi => ?_
    · ((conv => whnf); repeat' (first | (with_reducible exact fun h => h) | (with_reducible refine And.intro ?_ ?_) | ((with_reducible intro hq); first | (exact bne1 hq (by with_reducible assumption)) | (exact bne1 (by with_reducible assumption) hq) | ((simp only [*, Bool.and_true, Bool.true_and, Bool.and_false, Bool.false_and, Bool.or_true, Bool.true_or, Bool.or_false, Bool.false_or, Bool.not_true, Bool.not_false, Bool.true_eq_false, Bool.false_eq_true, cond_true, cond_false, Bool.cond_self, reduceCtorEq] at hq); done) | (revert hq; with_reducible intro _)) | (with_reducible exact True.intro) | (with_reducible rfl) | ((with_reducible refine WkX.chk ?_); (conv => whnf)) | ((with_reducible refine Wk.chk ?_); (conv => whnf)) | (with_reducible refine EntLe.row ?_) | (with_reducible exact LeN.ro rfl) | (with_reducible exact LeN.rptr) | ((with_reducible refine LeL.chk ?_); (conv => whnf)) | ((with_reducible show LeO _ _); (first | (refine LeO.ro ?_) | (refine LeO.roCap ?_) | (refine LeO.nil ?_ (fun _ => rfl)))) | ((with_reducible show LeR _ _ _); (first | (refine LeR.own rfl rfl rfl ?_) | (refine LeR.ro ?_) | (refine LeR.roCap ?_) | (refine LeR.nil ?_ (fun _ => rfl)))) | ((with_reducible refine LeF.chk ?_); (conv => whnf)) | (with_reducible assumption) | ((with_reducible refine Run.mk ?_); (conv => whnf)) | ((with_reducible show drawOK _ _ = true); kernel_rfl) | ((with_reducible show drawOK2 _ _ = true); kernel_rfl) | ((with_reducible show drawOK3 _ _ = true); kernel_rfl)))
      · rw [show f - 1 - f = 0 by omega]; rfl
      · rw [show f - 1 - f = 0 by omega]; rfl
      · exact (rt_set0 _ _ (by omega)).symm
    obtain ⟨t, acc⟩ := i
    obtain ⟨hi1, hi2, hi3, hi4⟩ := hi
    have e4 : C_pc.d = dPc := rfl
    have e5 : C_rb.d = zR := rfl
    have e6 : C_int.d = 0 := rfl
    have e1 : ((t : Int)).toNat = t := Int.toNat_natCast _
    have e2 : ((t : Int) - 1).toNat = t - 1 := by omega
    have e3 : ((f : Int)).toNat = f := Int.toNat_natCast _
    have e7 : ((l.length : Int) - 1).toNat = l.length - 1 := by omega
    repeat' (first | (with_reducible exact fun h => h) | (with_reducible refine And.intro ?_ ?_) | ((with_reducible intro hq); first | (exact bne1 hq (by with_reducible assumption)) | (exact bne1 (by with_reducible assumption) hq) | ((simp only [*, Bool.and_true, Bool.true_and, Bool.and_false, Bool.false_and, Bool.or_true, Bool.true_or, Bool.or_false, Bool.false_or, Bool.not_true, Bool.not_false, Bool.true_eq_false, Bool.false_eq_true, cond_true, cond_false, Bool.cond_self, reduceCtorEq] at hq); done) | (revert hq; with_reducible intro _)) | (with_reducible exact True.intro) | (with_reducible rfl) | ((with_reducible refine WkX.chk ?_); (conv => whnf)) | ((with_reducible refine Wk.chk ?_); (conv => whnf)) | (with_reducible refine EntLe.row ?_) | (with_reducible exact LeN.ro rfl) | (with_reducible exact LeN.rptr) | ((with_reducible refine LeL.chk ?_); (conv => whnf)) | ((with_reducible show LeO _ _); (first | (refine LeO.ro ?_) | (refine LeO.roCap ?_) | (refine LeO.nil ?_ (fun _ => rfl)))) | ((with_reducible show LeR _ _ _); (first | (refine LeR.own rfl rfl rfl ?_) | (refine LeR.ro ?_) | (refine LeR.roCap ?_) | (refine LeR.nil ?_ (fun _ => rfl)))) | ((with_reducible refine LeF.chk ?_); (conv => whnf)) | (with_reducible assumption) | ((with_reducible refine Run.mk ?_); (conv => whnf)) | ((with_reducible show drawOK _ _ = true); kernel_rfl) | ((with_reducible show drawOK2 _ _ = true); kernel_rfl) | ((with_reducible show drawOK3 _ _ = true); kernel_rfl))
    · have ht : t ≤ l.length := by
        have h : decide ((t : Int) ≤ (l.length : Int)) = true := by assumption
        simp only [decide_eq_true_eq] at h; omega
      refine joinI Unit [] (fun _ => [(10, .v (.int .i64 (scan l f (t - f)).2)), (11, .v (.int .i64 ((scan l f (t - f)).2 - wAt l f t)))]) (fun _ => []) (fun _ => True) ?_ fun _ _ => ?_
      · have hx : f < t → 0 < t := by omega
        have hsb := scan_bd hS f (t - 1 - f)
        have hcb : 0 ≤ (pcOf (l.getD (t - 1) dPart)).cells ∧ (pcOf (l.getD (t - 1) dPart)).cells ≤ 2 := hS.at (t - 1)
        have htl := fun (h : f < t) => told_at hT (i := t - 1) (by omega)
        have hw' : wAt l f t = (scan l f (t - f)).1 := rfl
        have s1 : f < t → endsP (pcOf (l.getD (t - 1) dPart)) = true → scan l f (t - f) = scan l f (t - 1 - f) := fun h h1 => by
          rw [show t - f = t - 1 + 1 - f by omega]; exact scan_fin (by omega) (by rw [(htl h).fin]; exact h1)
        have s2 : f < t → endsP (pcOf (l.getD (t - 1) dPart)) = false → blankP (pcOf (l.getD (t - 1) dPart)) = true → scan l f (t - f) = ((scan l f (t - 1 - f)).1, (scan l f (t - 1 - f)).2 + (pcOf (l.getD (t - 1) dPart)).cells) := fun h h1 h2 => by
          rw [show t - f = t - 1 + 1 - f by omega]; exact scan_blank (by omega) (by rw [(htl h).fin]; exact h1) (by rw [(htl h).blank]; exact h2)
        have s3 : f < t → endsP (pcOf (l.getD (t - 1) dPart)) = false → blankP (pcOf (l.getD (t - 1) dPart)) = false → scan l f (t - f) = ((scan l f (t - 1 - f)).2 + (pcOf (l.getD (t - 1) dPart)).cells, (scan l f (t - 1 - f)).2 + (pcOf (l.getD (t - 1) dPart)).cells) := fun h h1 h2 => by
          rw [show t - f = t - 1 + 1 - f by omega]; exact scan_ink (by omega) (by rw [(htl h).fin]; exact h1) (by rw [(htl h).blank]; exact h2)
        clear htl
        repeat' (first | (with_reducible refine ⟨⟨_, _, _, _⟩, ⟨(.cons (.agg (.cons (.v _) (.cons (.v _) (.cons (.v _) (.cons (.v _) .nil))))) .nil), ?_⟩, ?_⟩) | (with_reducible refine ex_of () trivial ?_) | (with_reducible exact fun h => h) | (with_reducible refine And.intro ?_ ?_) | ((with_reducible intro hq); first | (exact bne1 hq (by with_reducible assumption)) | (exact bne1 (by with_reducible assumption) hq) | ((simp only [*, Bool.and_true, Bool.true_and, Bool.and_false, Bool.false_and, Bool.or_true, Bool.true_or, Bool.or_false, Bool.false_or, Bool.not_true, Bool.not_false, Bool.true_eq_false, Bool.false_eq_true, cond_true, cond_false, Bool.cond_self, reduceCtorEq] at hq); done) | (revert hq; with_reducible intro _)) | (with_reducible exact True.intro) | (with_reducible rfl) | ((with_reducible refine WkX.chk ?_); (conv => whnf)) | ((with_reducible refine Wk.chk ?_); (conv => whnf)) | (with_reducible refine EntLe.row ?_) | (with_reducible exact LeN.ro rfl) | (with_reducible exact LeN.rptr) | ((with_reducible refine LeL.chk ?_); (conv => whnf)) | ((with_reducible show LeO _ _); (first | (refine LeO.ro ?_) | (refine LeO.roCap ?_) | (refine LeO.nil ?_ (fun _ => rfl)))) | ((with_reducible show LeR _ _ _); (first | (refine LeR.own rfl rfl rfl ?_) | (refine LeR.ro ?_) | (refine LeR.roCap ?_) | (refine LeR.nil ?_ (fun _ => rfl)))) | ((with_reducible refine LeF.chk ?_); (conv => whnf)) | (with_reducible assumption) | ((with_reducible refine Run.mk ?_); (conv => whnf)) | ((with_reducible show drawOK _ _ = true); kernel_rfl) | ((with_reducible show drawOK2 _ _ = true); kernel_rfl) | ((with_reducible show drawOK3 _ _ = true); kernel_rfl))
        all_goals (try simp only [e1, e2, e3, e4, pc_eta, pc_at, hw', decide_eq_true_eq, decide_eq_false_iff_not] at *)
        all_goals first
          | omega
          | (refine Fits.i64 ?_ ?_ <;> omega)
          | (simp only [List.length_map]; omega)
          | (rw [s1 (by omega) (by assumption)]; done)
          | (rw [s1 (by omega) (by assumption)]; omega)
          | (rw [s2 (by omega) (by assumption) (by assumption)]; done)
          | (rw [s2 (by omega) (by assumption) (by assumption)]; dsimp only; omega)
          | (rw [s3 (by omega) (by assumption) (by assumption)]; done)
          | (rw [s3 (by omega) (by assumption) (by assumption)]; dsimp only; omega)
          | (rw [show t - 1 - f = t - f by omega])
      have hwb := wAt_bd hS f t
      have hsb := scan_bd hS f (t - f)
      have hwu : wAt l f t ≤ 10000 := by unfold wAt; omega
      have e8 : (scan l f (t - f)).2 - ((scan l f (t - f)).2 - wAt l f t) = wAt l f t := by omega
      repeat' (first | (with_reducible refine ex_of (α := Nat) (c + 1) ⟨?_, ?_⟩ ?_) | (with_reducible exact fun h => h) | (with_reducible refine And.intro ?_ ?_) | ((with_reducible intro hq); first | (exact bne1 hq (by with_reducible assumption)) | (exact bne1 (by with_reducible assumption) hq) | ((simp only [*, Bool.and_true, Bool.true_and, Bool.and_false, Bool.false_and, Bool.or_true, Bool.true_or, Bool.or_false, Bool.false_or, Bool.not_true, Bool.not_false, Bool.true_eq_false, Bool.false_eq_true, cond_true, cond_false, Bool.cond_self, reduceCtorEq] at hq); done) | (revert hq; with_reducible intro _)) | (with_reducible exact True.intro) | (with_reducible rfl) | ((with_reducible refine WkX.chk ?_); (conv => whnf)) | ((with_reducible refine Wk.chk ?_); (conv => whnf)) | (with_reducible refine EntLe.row ?_) | (with_reducible exact LeN.ro rfl) | (with_reducible exact LeN.rptr) | ((with_reducible refine LeL.chk ?_); (conv => whnf)) | ((with_reducible show LeO _ _); (first | (refine LeO.ro ?_) | (refine LeO.roCap ?_) | (refine LeO.nil ?_ (fun _ => rfl)))) | ((with_reducible show LeR _ _ _); (first | (refine LeR.own rfl rfl rfl ?_) | (refine LeR.ro ?_) | (refine LeR.roCap ?_) | (refine LeR.nil ?_ (fun _ => rfl)))) | ((with_reducible refine LeF.chk ?_); (conv => whnf)) | (with_reducible assumption) | ((with_reducible refine Run.mk ?_); (conv => whnf)) | ((with_reducible show drawOK _ _ = true); kernel_rfl) | ((with_reducible show drawOK2 _ _ = true); kernel_rfl) | ((with_reducible show drawOK3 _ _ = true); kernel_rfl))
      all_goals (try simp only [e1, e2, e3, e4, e5, e6, e7, e8, pc_eta, pc_at, decide_eq_true_eq, decide_eq_false_iff_not] at *)
      all_goals first
        | omega
        | (refine Fits.i64 ?_ ?_ <;> omega)
        | (rw [rt_succ hf, ← hi4, rinner_full ht (by omega)]; done)
        | skip
      have e4 : C_pc.d = dPc := rfl
      have e5 : C_rb.d = zR := rfl
      have e6 : C_int.d = 0 := rfl
      have e1 : ((t : Int)).toNat = t := Int.toNat_natCast _
      have e3 : ((f : Int)).toNat = f := Int.toNat_natCast _
      have e7 : ((l.length : Int) - 1).toNat = l.length - 1 := by omega
      refine joinI Unit [] (fun _ => [(15, .sb (lastB l f t))]) (fun _ => []) (fun _ => True) ?_ fun _ _ => ?_
      · repeat' (first | (with_reducible refine ⟨⟨_, _, _, _⟩, ⟨(.cons (.agg (.cons (.v _) (.cons (.v _) (.cons (.v _) (.cons (.v _) .nil))))) .nil), ?_⟩, ?_⟩) | (with_reducible refine ex_of () trivial ?_) | (with_reducible exact fun h => h) | (with_reducible refine And.intro ?_ ?_) | ((with_reducible intro hq); first | (exact bne1 hq (by with_reducible assumption)) | (exact bne1 (by with_reducible assumption) hq) | ((simp only [*, Bool.and_true, Bool.true_and, Bool.and_false, Bool.false_and, Bool.or_true, Bool.true_or, Bool.or_false, Bool.false_or, Bool.not_true, Bool.not_false, Bool.true_eq_false, Bool.false_eq_true, cond_true, cond_false, Bool.cond_self, reduceCtorEq] at hq); done) | (revert hq; with_reducible intro _)) | (with_reducible exact True.intro) | (with_reducible rfl) | ((with_reducible refine WkX.chk ?_); (conv => whnf)) | ((with_reducible refine Wk.chk ?_); (conv => whnf)) | (with_reducible refine EntLe.row ?_) | (with_reducible exact LeN.ro rfl) | (with_reducible exact LeN.rptr) | ((with_reducible refine LeL.chk ?_); (conv => whnf)) | ((with_reducible show LeO _ _); (first | (refine LeO.ro ?_) | (refine LeO.roCap ?_) | (refine LeO.nil ?_ (fun _ => rfl)))) | ((with_reducible show LeR _ _ _); (first | (refine LeR.own rfl rfl rfl ?_) | (refine LeR.ro ?_) | (refine LeR.roCap ?_) | (refine LeR.nil ?_ (fun _ => rfl)))) | ((with_reducible refine LeF.chk ?_); (conv => whnf)) | (with_reducible assumption) | ((with_reducible refine Run.mk ?_); (conv => whnf)) | ((with_reducible show drawOK _ _ = true); kernel_rfl) | ((with_reducible show drawOK2 _ _ = true); kernel_rfl) | ((with_reducible show drawOK3 _ _ = true); kernel_rfl))
        all_goals (try simp only [e7, pc_eta, pc_at, natBeq] at *)
        all_goals first
          | (simp only [Bool.and_eq_true, decide_eq_true_eq, Bool.not_eq_true', decide_eq_false_iff_not] at *
             refine Fits.i64 ?_ ?_ <;> omega)
          | (simp only [Bool.and_eq_true, decide_eq_true_eq, Bool.not_eq_true', decide_eq_false_iff_not] at *
             omega)
          | (simp only [Bool.and_eq_true, decide_eq_true_eq, Bool.not_eq_true', decide_eq_false_iff_not, List.length_map] at *
             omega)
          | exact lastB_1 hT hfl
          | exact lastB_2 (by assumption)
          | (simp_all; done)
      have hw : wAt l f t ≤ width := by omega
      have hsq := sq_bd (x := width - wAt l f t) (y := 200) (by omega) (by omega)
      have hkl := kindsP_len (l.map pcOf)
      rw [hml] at hkl
      have e8 : ((rt l width c).set f (rbOf acc)).getD f zR = rbOf acc := Go.SX.Plain.getD_set_eq _ _ _ _ (by omega)
      have hs1 : ((rt l width c).set f (rbOf acc)).length = l.length + 1 := by rw [List.length_set, hrl]
      by_cases hft : f < t
      · have e9 : ((rt l width c).set f (rbOf acc)).getD t zR = (rt l width c).getD t zR := Go.SX.Plain.getD_set_ne _ _ _ _ _ (by omega)
        have e10 : (kindsP (l.map pcOf)).getD t 0 = kindAt l t := by
          rw [kindsP_get (by omega) (by omega)]; exact kindP_eq hT (by omega) ht
        have g1 := (hgd t hft).b0
        have g2 : ((rt l width c).getD t zR).bad ≤ 10100000000 := by have := (hgd t hft).b1; omega
        have g3 := (hgd t hft).p0
        have g4 : ((rt l width c).getD t zR).count ≤ 5050 := by have := (hgd t hft).p1; omega
        repeat' (first | (with_reducible exact fun h => h) | (with_reducible refine And.intro ?_ ?_) | ((with_reducible intro hq); first | (exact bne1 hq (by with_reducible assumption)) | (exact bne1 (by with_reducible assumption) hq) | ((simp only [*, Bool.and_true, Bool.true_and, Bool.and_false, Bool.false_and, Bool.or_true, Bool.true_or, Bool.or_false, Bool.false_or, Bool.not_true, Bool.not_false, Bool.true_eq_false, Bool.false_eq_true, cond_true, cond_false, Bool.cond_self, reduceCtorEq] at hq); done) | (revert hq; with_reducible intro _)) | (with_reducible exact True.intro) | (with_reducible rfl) | ((with_reducible refine WkX.chk ?_); (conv => whnf)) | ((with_reducible refine Wk.chk ?_); (conv => whnf)) | (with_reducible refine EntLe.row ?_) | (with_reducible exact LeN.ro rfl) | (with_reducible exact LeN.rptr) | ((with_reducible refine LeL.chk ?_); (conv => whnf)) | ((with_reducible show LeO _ _); (first | (refine LeO.ro ?_) | (refine LeO.roCap ?_) | (refine LeO.nil ?_ (fun _ => rfl)))) | ((with_reducible show LeR _ _ _); (first | (refine LeR.own rfl rfl rfl ?_) | (refine LeR.ro ?_) | (refine LeR.roCap ?_) | (refine LeR.nil ?_ (fun _ => rfl)))) | ((with_reducible refine LeF.chk ?_); (conv => whnf)) | (with_reducible assumption) | ((with_reducible refine Run.mk ?_); (conv => whnf)) | ((with_reducible show drawOK _ _ = true); kernel_rfl) | ((with_reducible show drawOK2 _ _ = true); kernel_rfl) | ((with_reducible show drawOK3 _ _ = true); kernel_rfl))
        refine joinI Bst [] (fun a => [(9, .sb a.ok)]) (fun a => [(1, .row C_rb ((rt l width c).set f (rbOf a)) 135 none)]) (fun a => a = racc1 l width (rt l width c) f t acc) ?_ fun a ha => ?_
        · repeat' (first | (with_reducible refine ex_eq ?_) | (with_reducible refine ⟨(⟨_, _, _⟩, ⟨_, _, _⟩), ⟨(.cons (.agg (.cons (.v _) (.cons (.v _) (.cons (.v _) .nil)))) (.cons (.agg (.cons (.v _) (.cons (.v _) (.cons (.v _) .nil)))) .nil)), ?_⟩, ?_⟩) | (with_reducible exact fun h => h) | (with_reducible refine And.intro ?_ ?_) | ((with_reducible intro hq); first | (exact bne1 hq (by with_reducible assumption)) | (exact bne1 (by with_reducible assumption) hq) | ((simp only [*, Bool.and_true, Bool.true_and, Bool.and_false, Bool.false_and, Bool.or_true, Bool.true_or, Bool.or_false, Bool.false_or, Bool.not_true, Bool.not_false, Bool.true_eq_false, Bool.false_eq_true, cond_true, cond_false, Bool.cond_self, reduceCtorEq] at hq); done) | (revert hq; with_reducible intro _)) | (with_reducible exact True.intro) | (with_reducible rfl) | ((with_reducible refine WkX.chk ?_); (conv => whnf)) | ((with_reducible refine Wk.chk ?_); (conv => whnf)) | (with_reducible refine EntLe.row ?_) | (with_reducible exact LeN.ro rfl) | (with_reducible exact LeN.rptr) | ((with_reducible refine LeL.chk ?_); (conv => whnf)) | ((with_reducible show LeO _ _); (first | (refine LeO.ro ?_) | (refine LeO.roCap ?_) | (refine LeO.nil ?_ (fun _ => rfl)))) | ((with_reducible show LeR _ _ _); (first | (refine LeR.own rfl rfl rfl ?_) | (refine LeR.ro ?_) | (refine LeR.roCap ?_) | (refine LeR.nil ?_ (fun _ => rfl)))) | ((with_reducible refine LeF.chk ?_); (conv => whnf)) | (with_reducible assumption) | ((with_reducible refine Run.mk ?_); (conv => whnf)) | ((with_reducible show drawOK _ _ = true); kernel_rfl) | ((with_reducible show drawOK2 _ _ = true); kernel_rfl) | ((with_reducible show drawOK3 _ _ = true); kernel_rfl))
          all_goals (try simp only [e1, e3, e5, e8, e9, e10, hs1, hkl, decide_eq_true_eq, decide_eq_false_iff_not, Bool.and_eq_true, Bool.and_eq_false_iff, beq_iff_eq, beq_eq_false_iff_ne, ne_eq, Bool.not_not] at *)
          all_goals first
            | omega
            | (refine Fits.i64 ?_ ?_ <;> omega)
            | rfl
            | (simp_all; done)
            | (rw [racc1_yes ⟨by omega, by omega⟩ (by rw [rcand_cut (by assumption)]; assumption)]; first | (rw [rcand_cut (by assumption), List.set_set]; rfl) | rfl)
            | (rw [racc1_yes ⟨by omega, by omega⟩ (by rw [rcand_not (by assumption)]; assumption)]; first | (rw [rcand_not (by assumption), List.set_set]; rfl) | rfl)
            | (rw [racc1_yes ⟨by omega, by omega⟩ (by rw [show acc.ok = false by assumption]; rfl)]; first | (rw [rcand_cut (by assumption), List.set_set]; rfl) | (rw [rcand_not (by assumption), List.set_set]; rfl) | rfl)
            | (rw [racc1_keep ⟨by omega, by omega⟩ (by rw [rcand_cut (by assumption)]; assumption)]; done)
            | (rw [racc1_keep ⟨by omega, by omega⟩ (by rw [rcand_not (by assumption)]; assumption)]; done)
            | (rw [racc1_no (by omega)]; done)
        clear e8 hs1
        repeat' (first | (with_reducible exact fun h => h) | (with_reducible refine And.intro ?_ ?_) | ((with_reducible intro hq); first | (exact bne1 hq (by with_reducible assumption)) | (exact bne1 (by with_reducible assumption) hq) | ((simp only [*, Bool.and_true, Bool.true_and, Bool.and_false, Bool.false_and, Bool.or_true, Bool.true_or, Bool.or_false, Bool.false_or, Bool.not_true, Bool.not_false, Bool.true_eq_false, Bool.false_eq_true, cond_true, cond_false, Bool.cond_self, reduceCtorEq] at hq); done) | (revert hq; with_reducible intro _)) | (with_reducible exact True.intro) | (with_reducible rfl) | ((with_reducible refine WkX.chk ?_); (conv => whnf)) | ((with_reducible refine Wk.chk ?_); (conv => whnf)) | (with_reducible refine EntLe.row ?_) | (with_reducible exact LeN.ro rfl) | (with_reducible exact LeN.rptr) | ((with_reducible refine LeL.chk ?_); (conv => whnf)) | ((with_reducible show LeO _ _); (first | (refine LeO.ro ?_) | (refine LeO.roCap ?_) | (refine LeO.nil ?_ (fun _ => rfl)))) | ((with_reducible show LeR _ _ _); (first | (refine LeR.own rfl rfl rfl ?_) | (refine LeR.ro ?_) | (refine LeR.roCap ?_) | (refine LeR.nil ?_ (fun _ => rfl)))) | ((with_reducible refine LeF.chk ?_); (conv => whnf)) | (with_reducible assumption) | ((with_reducible refine Run.mk ?_); (conv => whnf)) | ((with_reducible show drawOK _ _ = true); kernel_rfl) | ((with_reducible show drawOK2 _ _ = true); kernel_rfl) | ((with_reducible show drawOK3 _ _ = true); kernel_rfl))
        refine joinI Bst [] (fun a => [(9, .sb a.ok)]) (fun a => [(1, .row C_rb ((rt l width c).set f (rbOf a)) 135 none)]) (fun a => a = racc2 l width (rt l width c) f t acc) ?_ fun a2 ha2 => ?_
        · have e8 : ((rt l width c).set f (rbOf a)).getD f zR = rbOf a := Go.SX.Plain.getD_set_eq _ _ _ _ (by omega)
          have hs1 : ((rt l width c).set f (rbOf a)).length = l.length + 1 := by rw [List.length_set, hrl]
          repeat' (first | (with_reducible refine ex_eq ?_) | (with_reducible refine ⟨(⟨_, _, _⟩, ⟨_, _, _⟩), ⟨(.cons (.agg (.cons (.v _) (.cons (.v _) (.cons (.v _) .nil)))) (.cons (.agg (.cons (.v _) (.cons (.v _) (.cons (.v _) .nil)))) .nil)), ?_⟩, ?_⟩) | (with_reducible exact fun h => h) | (with_reducible refine And.intro ?_ ?_) | ((with_reducible intro hq); first | (exact bne1 hq (by with_reducible assumption)) | (exact bne1 (by with_reducible assumption) hq) | ((simp only [*, Bool.and_true, Bool.true_and, Bool.and_false, Bool.false_and, Bool.or_true, Bool.true_or, Bool.or_false, Bool.false_or, Bool.not_true, Bool.not_false, Bool.true_eq_false, Bool.false_eq_true, cond_true, cond_false, Bool.cond_self, reduceCtorEq] at hq); done) | (revert hq; with_reducible intro _)) | (with_reducible exact True.intro) | (with_reducible rfl) | ((with_reducible refine WkX.chk ?_); (conv => whnf)) | ((with_reducible refine Wk.chk ?_); (conv => whnf)) | (with_reducible refine EntLe.row ?_) | (with_reducible exact LeN.ro rfl) | (with_reducible exact LeN.rptr) | ((with_reducible refine LeL.chk ?_); (conv => whnf)) | ((with_reducible show LeO _ _); (first | (refine LeO.ro ?_) | (refine LeO.roCap ?_) | (refine LeO.nil ?_ (fun _ => rfl)))) | ((with_reducible show LeR _ _ _); (first | (refine LeR.own rfl rfl rfl ?_) | (refine LeR.ro ?_) | (refine LeR.roCap ?_) | (refine LeR.nil ?_ (fun _ => rfl)))) | ((with_reducible refine LeF.chk ?_); (conv => whnf)) | (with_reducible assumption) | ((with_reducible refine Run.mk ?_); (conv => whnf)) | ((with_reducible show drawOK _ _ = true); kernel_rfl) | ((with_reducible show drawOK2 _ _ = true); kernel_rfl) | ((with_reducible show drawOK3 _ _ = true); kernel_rfl))
          all_goals (try simp only [e1, e3, e5, e8, hs1, Bool.not_not] at *)
          all_goals first
            | omega
            | (refine Fits.i64 ?_ ?_ <;> omega)
            | rfl
            | (simp_all; done)
            | (rw [racc2_yes' ha (by assumption) (by assumption)]; done)
            | (rw [racc2_yes' ha (by assumption) (by assumption)]; rw [List.set_set]; rfl)
            | (rw [racc2_yes0 ha (by assumption) (by assumption)]; done)
            | (rw [racc2_yes0 ha (by assumption) (by assumption)]; rw [List.set_set]; rfl)
            | (rw [racc2_keep' ha (by assumption) (by assumption)]; done)
            | (rw [racc2_no' ha (by assumption)]; done)
        have hga := GdR.acc2 hS hw2 hw hfl ht (hgd t) hi3
        repeat' (first | (with_reducible refine ex_of (α := Nat) (c + 1) ⟨?_, ?_⟩ ?_) | (with_reducible refine ex_of (α := Nat × Bst) (t + 1, a2) ⟨⟨?_, ?_, ?_, ?_⟩, ?_⟩ ?_) | (with_reducible exact fun h => h) | (with_reducible refine And.intro ?_ ?_) | ((with_reducible intro hq); first | (exact bne1 hq (by with_reducible assumption)) | (exact bne1 (by with_reducible assumption) hq) | ((simp only [*, Bool.and_true, Bool.true_and, Bool.and_false, Bool.false_and, Bool.or_true, Bool.true_or, Bool.or_false, Bool.false_or, Bool.not_true, Bool.not_false, Bool.true_eq_false, Bool.false_eq_true, cond_true, cond_false, Bool.cond_self, reduceCtorEq] at hq); done) | (revert hq; with_reducible intro _)) | (with_reducible exact True.intro) | (with_reducible rfl) | ((with_reducible refine WkX.chk ?_); (conv => whnf)) | ((with_reducible refine Wk.chk ?_); (conv => whnf)) | (with_reducible refine EntLe.row ?_) | (with_reducible exact LeN.ro rfl) | (with_reducible exact LeN.rptr) | ((with_reducible refine LeL.chk ?_); (conv => whnf)) | ((with_reducible show LeO _ _); (first | (refine LeO.ro ?_) | (refine LeO.roCap ?_) | (refine LeO.nil ?_ (fun _ => rfl)))) | ((with_reducible show LeR _ _ _); (first | (refine LeR.own rfl rfl rfl ?_) | (refine LeR.ro ?_) | (refine LeR.roCap ?_) | (refine LeR.nil ?_ (fun _ => rfl)))) | ((with_reducible refine LeF.chk ?_); (conv => whnf)) | (with_reducible assumption) | ((with_reducible refine Run.mk ?_); (conv => whnf)) | ((with_reducible show drawOK _ _ = true); kernel_rfl) | ((with_reducible show drawOK2 _ _ = true); kernel_rfl) | ((with_reducible show drawOK3 _ _ = true); kernel_rfl))
        all_goals (try simp only [e1, e10, hkl, decide_eq_true_eq, decide_eq_false_iff_not, Bool.and_eq_true, Bool.and_eq_false_iff, beq_iff_eq, beq_eq_false_iff_ne, ne_eq] at *)
        all_goals first
          | omega
          | (refine Fits.i64 ?_ ?_ <;> omega)
          | (rw [rt_succ hf, ← hi4, rinner_stop ht hw ⟨by omega, by omega⟩, ← ha2]; done)
          | (rw [ha2]; exact hga)
          | (rw [ha2, ← rinner_on ht hw (by omega)]; exact hi4)
          | rfl
      · repeat' (first | (with_reducible exact fun h => h) | (with_reducible refine And.intro ?_ ?_) | ((with_reducible intro hq); first | (exact bne1 hq (by with_reducible assumption)) | (exact bne1 (by with_reducible assumption) hq) | ((simp only [*, Bool.and_true, Bool.true_and, Bool.and_false, Bool.false_and, Bool.or_true, Bool.true_or, Bool.or_false, Bool.false_or, Bool.not_true, Bool.not_false, Bool.true_eq_false, Bool.false_eq_true, cond_true, cond_false, Bool.cond_self, reduceCtorEq] at hq); done) | (revert hq; with_reducible intro _)) | (with_reducible exact True.intro) | (with_reducible rfl) | ((with_reducible refine WkX.chk ?_); (conv => whnf)) | ((with_reducible refine Wk.chk ?_); (conv => whnf)) | (with_reducible refine EntLe.row ?_) | (with_reducible exact LeN.ro rfl) | (with_reducible exact LeN.rptr) | ((with_reducible refine LeL.chk ?_); (conv => whnf)) | ((with_reducible show LeO _ _); (first | (refine LeO.ro ?_) | (refine LeO.roCap ?_) | (refine LeO.nil ?_ (fun _ => rfl)))) | ((with_reducible show LeR _ _ _); (first | (refine LeR.own rfl rfl rfl ?_) | (refine LeR.ro ?_) | (refine LeR.roCap ?_) | (refine LeR.nil ?_ (fun _ => rfl)))) | ((with_reducible refine LeF.chk ?_); (conv => whnf)) | (with_reducible assumption) | ((with_reducible refine Run.mk ?_); (conv => whnf)) | ((with_reducible show drawOK _ _ = true); kernel_rfl) | ((with_reducible show drawOK2 _ _ = true); kernel_rfl) | ((with_reducible show drawOK3 _ _ = true); kernel_rfl))
        refine joinI Bst [] (fun a => [(9, .sb a.ok)]) (fun a => [(1, .row C_rb ((rt l width c).set f (rbOf a)) 135 none)]) (fun a => a = racc1 l width (rt l width c) f t acc) ?_ fun a ha => ?_
        · have hnd : decide ((f : Int) < (t : Int)) = false := decide_eq_false (by omega)
          repeat' (first | (with_reducible refine ex_eq ?_) | (with_reducible refine ⟨(⟨_, _, _⟩, ⟨_, _, _⟩), ⟨(.cons (.agg (.cons (.v _) (.cons (.v _) (.cons (.v _) .nil)))) (.cons (.agg (.cons (.v _) (.cons (.v _) (.cons (.v _) .nil)))) .nil)), ?_⟩, ?_⟩) | (with_reducible exact fun h => h) | (with_reducible refine And.intro ?_ ?_) | ((with_reducible intro hq); first | (exact bne1 hq (by with_reducible assumption)) | (exact bne1 (by with_reducible assumption) hq) | ((simp only [*, Bool.and_true, Bool.true_and, Bool.and_false, Bool.false_and, Bool.or_true, Bool.true_or, Bool.or_false, Bool.false_or, Bool.not_true, Bool.not_false, Bool.true_eq_false, Bool.false_eq_true, cond_true, cond_false, Bool.cond_self, reduceCtorEq] at hq); done) | (revert hq; with_reducible intro _)) | (with_reducible exact True.intro) | (with_reducible rfl) | ((with_reducible refine WkX.chk ?_); (conv => whnf)) | ((with_reducible refine Wk.chk ?_); (conv => whnf)) | (with_reducible refine EntLe.row ?_) | (with_reducible exact LeN.ro rfl) | (with_reducible exact LeN.rptr) | ((with_reducible refine LeL.chk ?_); (conv => whnf)) | ((with_reducible show LeO _ _); (first | (refine LeO.ro ?_) | (refine LeO.roCap ?_) | (refine LeO.nil ?_ (fun _ => rfl)))) | ((with_reducible show LeR _ _ _); (first | (refine LeR.own rfl rfl rfl ?_) | (refine LeR.ro ?_) | (refine LeR.roCap ?_) | (refine LeR.nil ?_ (fun _ => rfl)))) | ((with_reducible refine LeF.chk ?_); (conv => whnf)) | (with_reducible assumption) | ((with_reducible refine Run.mk ?_); (conv => whnf)) | ((with_reducible show drawOK _ _ = true); kernel_rfl) | ((with_reducible show drawOK2 _ _ = true); kernel_rfl) | ((with_reducible show drawOK3 _ _ = true); kernel_rfl))
          all_goals first
            | (rw [racc1_no (by omega)]; done)
            | (exfalso; have h9 : (decide ((f : Int) < (t : Int)) && decide (0 < (kindsP (l.map pcOf)).getD ((t : Int)).toNat 0)) = true := by assumption
               rw [hnd, Bool.false_and] at h9; cases h9)
        clear e8 hs1
        have hnd : decide ((f : Int) < (t : Int)) = false := decide_eq_false (by omega)
        repeat' (first | (with_reducible exact fun h => h) | (with_reducible refine And.intro ?_ ?_) | ((with_reducible intro hq); first | (exact bne1 hq (by with_reducible assumption)) | (exact bne1 (by with_reducible assumption) hq) | ((simp only [*, Bool.and_true, Bool.true_and, Bool.and_false, Bool.false_and, Bool.or_true, Bool.true_or, Bool.or_false, Bool.false_or, Bool.not_true, Bool.not_false, Bool.true_eq_false, Bool.false_eq_true, cond_true, cond_false, Bool.cond_self, reduceCtorEq] at hq); done) | (revert hq; with_reducible intro _)) | (with_reducible exact True.intro) | (with_reducible rfl) | ((with_reducible refine WkX.chk ?_); (conv => whnf)) | ((with_reducible refine Wk.chk ?_); (conv => whnf)) | (with_reducible refine EntLe.row ?_) | (with_reducible exact LeN.ro rfl) | (with_reducible exact LeN.rptr) | ((with_reducible refine LeL.chk ?_); (conv => whnf)) | ((with_reducible show LeO _ _); (first | (refine LeO.ro ?_) | (refine LeO.roCap ?_) | (refine LeO.nil ?_ (fun _ => rfl)))) | ((with_reducible show LeR _ _ _); (first | (refine LeR.own rfl rfl rfl ?_) | (refine LeR.ro ?_) | (refine LeR.roCap ?_) | (refine LeR.nil ?_ (fun _ => rfl)))) | ((with_reducible refine LeF.chk ?_); (conv => whnf)) | (with_reducible assumption) | ((with_reducible refine Run.mk ?_); (conv => whnf)) | ((with_reducible show drawOK _ _ = true); kernel_rfl) | ((with_reducible show drawOK2 _ _ = true); kernel_rfl) | ((with_reducible show drawOK3 _ _ = true); kernel_rfl))
        refine joinI Bst [] (fun a => [(9, .sb a.ok)]) (fun a => [(1, .row C_rb ((rt l width c).set f (rbOf a)) 135 none)]) (fun a => a = racc2 l width (rt l width c) f t acc) ?_ fun a2 ha2 => ?_
        · have e8 : ((rt l width c).set f (rbOf a)).getD f zR = rbOf a := Go.SX.Plain.getD_set_eq _ _ _ _ (by omega)
          have hs1 : ((rt l width c).set f (rbOf a)).length = l.length + 1 := by rw [List.length_set, hrl]
          repeat' (first | (with_reducible refine ex_eq ?_) | (with_reducible refine ⟨(⟨_, _, _⟩, ⟨_, _, _⟩), ⟨(.cons (.agg (.cons (.v _) (.cons (.v _) (.cons (.v _) .nil)))) (.cons (.agg (.cons (.v _) (.cons (.v _) (.cons (.v _) .nil)))) .nil)), ?_⟩, ?_⟩) | (with_reducible exact fun h => h) | (with_reducible refine And.intro ?_ ?_) | ((with_reducible intro hq); first | (exact bne1 hq (by with_reducible assumption)) | (exact bne1 (by with_reducible assumption) hq) | ((simp only [*, Bool.and_true, Bool.true_and, Bool.and_false, Bool.false_and, Bool.or_true, Bool.true_or, Bool.or_false, Bool.false_or, Bool.not_true, Bool.not_false, Bool.true_eq_false, Bool.false_eq_true, cond_true, cond_false, Bool.cond_self, reduceCtorEq] at hq); done) | (revert hq; with_reducible intro _)) | (with_reducible exact True.intro) | (with_reducible rfl) | ((with_reducible refine WkX.chk ?_); (conv => whnf)) | ((with_reducible refine Wk.chk ?_); (conv => whnf)) | (with_reducible refine EntLe.row ?_) | (with_reducible exact LeN.ro rfl) | (with_reducible exact LeN.rptr) | ((with_reducible refine LeL.chk ?_); (conv => whnf)) | ((with_reducible show LeO _ _); (first | (refine LeO.ro ?_) | (refine LeO.roCap ?_) | (refine LeO.nil ?_ (fun _ => rfl)))) | ((with_reducible show LeR _ _ _); (first | (refine LeR.own rfl rfl rfl ?_) | (refine LeR.ro ?_) | (refine LeR.roCap ?_) | (refine LeR.nil ?_ (fun _ => rfl)))) | ((with_reducible refine LeF.chk ?_); (conv => whnf)) | (with_reducible assumption) | ((with_reducible refine Run.mk ?_); (conv => whnf)) | ((with_reducible show drawOK _ _ = true); kernel_rfl) | ((with_reducible show drawOK2 _ _ = true); kernel_rfl) | ((with_reducible show drawOK3 _ _ = true); kernel_rfl))
          all_goals (try simp only [e1, e3, e5, e8, hs1, Bool.not_not] at *)
          all_goals first
            | omega
            | (refine Fits.i64 ?_ ?_ <;> omega)
            | rfl
            | (simp_all; done)
            | (rw [racc2_yes' ha (by assumption) (by assumption)]; done)
            | (rw [racc2_yes' ha (by assumption) (by assumption)]; rw [List.set_set]; rfl)
            | (rw [racc2_yes0 ha (by assumption) (by assumption)]; done)
            | (rw [racc2_yes0 ha (by assumption) (by assumption)]; rw [List.set_set]; rfl)
            | (rw [racc2_keep' ha (by assumption) (by assumption)]; done)
            | (rw [racc2_no' ha (by assumption)]; done)
        have hga := GdR.acc2 hS hw2 hw hfl ht (hgd t) hi3
        repeat' (first | (with_reducible refine ex_of (α := Nat) (c + 1) ⟨?_, ?_⟩ ?_) | (with_reducible refine ex_of (α := Nat × Bst) (t + 1, a2) ⟨⟨?_, ?_, ?_, ?_⟩, ?_⟩ ?_) | (with_reducible exact fun h => h) | (with_reducible refine And.intro ?_ ?_) | ((with_reducible intro hq); first | (exact bne1 hq (by with_reducible assumption)) | (exact bne1 (by with_reducible assumption) hq) | ((simp only [*, Bool.and_true, Bool.true_and, Bool.and_false, Bool.false_and, Bool.or_true, Bool.true_or, Bool.or_false, Bool.false_or, Bool.not_true, Bool.not_false, Bool.true_eq_false, Bool.false_eq_true, cond_true, cond_false, Bool.cond_self, reduceCtorEq] at hq); done) | (revert hq; with_reducible intro _)) | (with_reducible exact True.intro) | (with_reducible rfl) | ((with_reducible refine WkX.chk ?_); (conv => whnf)) | ((with_reducible refine Wk.chk ?_); (conv => whnf)) | (with_reducible refine EntLe.row ?_) | (with_reducible exact LeN.ro rfl) | (with_reducible exact LeN.rptr) | ((with_reducible refine LeL.chk ?_); (conv => whnf)) | ((with_reducible show LeO _ _); (first | (refine LeO.ro ?_) | (refine LeO.roCap ?_) | (refine LeO.nil ?_ (fun _ => rfl)))) | ((with_reducible show LeR _ _ _); (first | (refine LeR.own rfl rfl rfl ?_) | (refine LeR.ro ?_) | (refine LeR.roCap ?_) | (refine LeR.nil ?_ (fun _ => rfl)))) | ((with_reducible refine LeF.chk ?_); (conv => whnf)) | (with_reducible assumption) | ((with_reducible refine Run.mk ?_); (conv => whnf)) | ((with_reducible show drawOK _ _ = true); kernel_rfl) | ((with_reducible show drawOK2 _ _ = true); kernel_rfl) | ((with_reducible show drawOK3 _ _ = true); kernel_rfl))
        all_goals (try simp only [e1, hkl, decide_eq_true_eq, decide_eq_false_iff_not, Bool.and_eq_true, Bool.and_eq_false_iff, beq_iff_eq, beq_eq_false_iff_ne, ne_eq] at *)
        all_goals first
          | omega
          | (refine Fits.i64 ?_ ?_ <;> omega)
          | (rw [rt_succ hf, ← hi4, rinner_stop ht hw ⟨by omega, by omega⟩, ← ha2]; done)
          | (rw [ha2]; exact hga)
          | (rw [ha2, ← rinner_on ht hw (by omega)]; exact hi4)
          | rfl
    · refine Fits.i64 ?_ ?_ <;> omega
    · have hnt : ¬ t ≤ l.length := by
        have h : decide ((t : Int) ≤ (l.length : Int)) = false := by assumption
        simp only [decide_eq_false_iff_not] at h; omega
      repeat' (first | (with_reducible refine ex_of (α := Nat) (c + 1) ⟨?_, ?_⟩ ?_) | (with_reducible exact fun h => h) | (with_reducible refine And.intro ?_ ?_) | ((with_reducible intro hq); first | (exact bne1 hq (by with_reducible assumption)) | (exact bne1 (by with_reducible assumption) hq) | ((simp only [*, Bool.and_true, Bool.true_and, Bool.and_false, Bool.false_and, Bool.or_true, Bool.true_or, Bool.or_false, Bool.false_or, Bool.not_true, Bool.not_false, Bool.true_eq_false, Bool.false_eq_true, cond_true, cond_false, Bool.cond_self, reduceCtorEq] at hq); done) | (revert hq; with_reducible intro _)) | (with_reducible exact True.intro) | (with_reducible rfl) | ((with_reducible refine WkX.chk ?_); (conv => whnf)) | ((with_reducible refine Wk.chk ?_); (conv => whnf)) | (with_reducible refine EntLe.row ?_) | (with_reducible exact LeN.ro rfl) | (with_reducible exact LeN.rptr) | ((with_reducible refine LeL.chk ?_); (conv => whnf)) | ((with_reducible show LeO _ _); (first | (refine LeO.ro ?_) | (refine LeO.roCap ?_) | (refine LeO.nil ?_ (fun _ => rfl)))) | ((with_reducible show LeR _ _ _); (first | (refine LeR.own rfl rfl rfl ?_) | (refine LeR.ro ?_) | (refine LeR.roCap ?_) | (refine LeR.nil ?_ (fun _ => rfl)))) | ((with_reducible refine LeF.chk ?_); (conv => whnf)) | (with_reducible assumption) | ((with_reducible refine Run.mk ?_); (conv => whnf)) | ((with_reducible show drawOK _ _ = true); kernel_rfl) | ((with_reducible show drawOK2 _ _ = true); kernel_rfl) | ((with_reducible show drawOK3 _ _ = true); kernel_rfl))
      all_goals first
        | omega
        | (rw [rt_succ hf, ← hi4, rinner_end hnt]; done)
        | (dsimp only; omega)
  · have hcN : c = l.length + 1 := by
      have h : decide (0 ≤ (l.length : Int) - (c : Int)) = false := by assumption
      simp only [decide_eq_false_iff_not] at h; omega
    subst hcN
    rfl
end Go.SX.Try
/- Contract of wrap's Wrap. -/
namespace Go.SX.Try
open Go.Proofs Go.Proofs.Try Go.SX.Plain
set_option maxRecDepth 100000
set_option maxHeartbeats 0
set_option linter.unusedSimpArgs false
def C_bst : Cdc Bst where
  size := 4
  enc := bAV
  dec l := match l with
    | [.v (.int _ a), .v (.int _ b), .v (.int _ c), d] => ⟨a, b, c, bOf d⟩
    | _ => ⟨0, 0, 0, false⟩
  d := ⟨0, 0, 0, false⟩
def D_wrp : Cds := [(54, ⟨Int × Int, C_brk⟩), (83, ⟨Bst, C_bst⟩)]
theorem D_wrp_ok : CdsOK T D_wrp := .cons ⟨fun _ => rfl, by decide, _, rfl, rfl, by decide⟩ (.cons ⟨fun _ => rfl, by decide, _, rfl, rfl, by decide⟩ .nil)
theorem q_wrap : fact 13 f13 := ⟨by kernel_rfl, rfl, by kernel_rfl⟩
theorem q_look : fact 42 f42 := ⟨by kernel_rfl, rfl, by kernel_rfl⟩
def wrapL (s : ByteArray) (width : Int) : List (Int × Int) := if checkN s.size width = 0 then wrapOut (parts s) width else []
def wrapB (s : ByteArray) (width : Int) : Int := if checkN s.size width = 0 then ((tabOf (parts s) width).getD 0 zB).bad else 0
theorem con_wrap : Con prog 13 (fun ((s, width) : ByteArray × Int) => [.v (.string s), .v (.int .i64 width)]) (fun (s, width) => .tup [.ro 2 C_brk.enc C_brk.d (wrapL s width) none, .v (.int .i64 (wrapB s width)), .v (.int .i64 (checkN s.size width))]) (fun _ => True) := by
  refine Con.of (by kernel_rfl) T_ok D_wrp_ok (.inl (J := []) q_look.1 q_look.2.1 q_look.2.2 (.con con_before (.con con_check (.con con_parts (.con con_places .nil))))) 6 [13] q_wrap.1 q_wrap.2.1 q_wrap.2.2 (fun _ => rfl) fun i hi => ?_
  obtain ⟨s, width⟩ := i
  have hpl := parts_len s
  have hps := parts_small s
  repeat' (first | (with_reducible refine ⟨_, ⟨(.cons (.v _) .nil), ?_⟩, ?_⟩) | (with_reducible refine ⟨(_, _), ⟨(.cons (.v _) (.cons (.v _) .nil)), ?_⟩, ?_⟩) | (with_reducible refine ⟨_, ⟨(.cons (.ro _ _ _ _ _) .nil), ?_⟩, ?_⟩)  | (with_reducible exact fun h => h) | (with_reducible refine And.intro ?_ ?_) | ((with_reducible intro hq); first | (exact bne1 hq (by with_reducible assumption)) | (exact bne1 (by with_reducible assumption) hq) | ((simp only [*, Bool.and_true, Bool.true_and, Bool.and_false, Bool.false_and, Bool.or_true, Bool.true_or, Bool.or_false, Bool.false_or, Bool.not_true, Bool.not_false, Bool.true_eq_false, Bool.false_eq_true, cond_true, cond_false, Bool.cond_self, reduceCtorEq] at hq); done) | (revert hq; with_reducible intro _)) | (with_reducible exact True.intro) | (with_reducible rfl) | ((with_reducible refine WkX.chk ?_); (conv => whnf)) | ((with_reducible refine Wk.chk ?_); (conv => whnf)) | (with_reducible refine EntLe.row ?_) | (with_reducible exact LeN.ro rfl) | (with_reducible exact LeN.rptr) | ((with_reducible refine LeL.chk ?_); (conv => whnf)) | ((with_reducible show LeO _ _); (first | (refine LeO.ro ?_) | (refine LeO.roCap ?_) | (refine LeO.nil ?_ (fun _ => rfl)))) | ((with_reducible show LeR _ _ _); (first | (refine LeR.own rfl rfl rfl ?_) | (refine LeR.ro ?_) | (refine LeR.roCap ?_) | (refine LeR.nil ?_ (fun _ => rfl)))) | ((with_reducible refine LeF.chk ?_); (conv => whnf)) | (with_reducible assumption) | ((with_reducible refine Run.mk ?_); (conv => whnf)) | ((with_reducible show drawOK _ _ = true); kernel_rfl) | ((with_reducible show drawOK2 _ _ = true); kernel_rfl) | ((with_reducible show drawOK3 _ _ = true); kernel_rfl))
  · simp_all [wrapL]
  · simp_all [wrapB]
  all_goals
    have hck : checkN s.size width = 0 := by simp_all
    have hw1 : 2 ≤ width ∧ width ≤ 200 ∧ s.size ≤ 4096 := by
      unfold checkN at hck
      split at hck
      · cases hck
      · split at hck
        · cases hck
        · omega
    obtain ⟨hw1, hw2, hsz⟩ := hw1
  · dsimp only; omega
  · dsimp only; omega
  all_goals
    have hN : (plcs (parts s) ((parts s).length + 1)).length ≤ (parts s).length + 1 := plcs_len _ _
  · rw [atL_length]; refine Fits.i64 ?_ ?_ <;> omega
  · rw [atL_length]; omega
  · rw [atL_length]; omega
  · rw [atL_length]; dsimp only; omega
  · rfl
  · rfl
  · rfl
  · rfl
  have hL : wrapL s width = wrapOut (parts s) width := by unfold wrapL; rw [if_pos hck]
  have hB : wrapB s width = ((tabOf (parts s) width).getD 0 zB).bad := by unfold wrapB; rw [if_pos hck]
  clear hi
  revert hpl hps hN hL hB
  generalize parts s = l
  intro hpl hps hN hL hB
  refine loopI Nat [] (fun c => [(12, .v (.int .i64 (((plcs l (l.length + 1)).length : Int) - (c : Int))))]) (fun c => [(3, .row C_bst (tab l (plcs l (l.length + 1)) width c) 83 none)]) (fun c => c ≤ (plcs l (l.length + 1)).length + 1) (fun c => (plcs l (l.length + 1)).length + 1 - c) 0 (Nat.zero_le _) (Wk.chk ?_) fun c hc => ?_
  · ((conv => whnf); repeat' (first | (with_reducible exact fun h => h) | (with_reducible refine And.intro ?_ ?_) | ((with_reducible intro hq); first | (exact bne1 hq (by with_reducible assumption)) | (exact bne1 (by with_reducible assumption) hq) | ((simp only [*, Bool.and_true, Bool.true_and, Bool.and_false, Bool.false_and, Bool.or_true, Bool.true_or, Bool.or_false, Bool.false_or, Bool.not_true, Bool.not_false, Bool.true_eq_false, Bool.false_eq_true, cond_true, cond_false, Bool.cond_self, reduceCtorEq] at hq); done) | (revert hq; with_reducible intro _)) | (with_reducible exact True.intro) | (with_reducible rfl) | ((with_reducible refine WkX.chk ?_); (conv => whnf)) | ((with_reducible refine Wk.chk ?_); (conv => whnf)) | (with_reducible refine EntLe.row ?_) | (with_reducible exact LeN.ro rfl) | (with_reducible exact LeN.rptr) | ((with_reducible refine LeL.chk ?_); (conv => whnf)) | ((with_reducible show LeO _ _); (first | (refine LeO.ro ?_) | (refine LeO.roCap ?_) | (refine LeO.nil ?_ (fun _ => rfl)))) | ((with_reducible show LeR _ _ _); (first | (refine LeR.own rfl rfl rfl ?_) | (refine LeR.ro ?_) | (refine LeR.roCap ?_) | (refine LeR.nil ?_ (fun _ => rfl)))) | ((with_reducible refine LeF.chk ?_); (conv => whnf)) | (with_reducible assumption) | ((with_reducible refine Run.mk ?_); (conv => whnf)) | ((with_reducible show drawOK _ _ = true); kernel_rfl) | ((with_reducible show drawOK2 _ _ = true); kernel_rfl) | ((with_reducible show drawOK3 _ _ = true); kernel_rfl)))
    · rw [atL_length]; simp
    · rw [atL_length]; simp only [tab]; congr 1
  repeat' (first | (with_reducible refine ⟨_, ⟨(.cons (.v _) .nil), ?_⟩, ?_⟩) | (with_reducible refine ⟨(_, _), ⟨(.cons (.v _) (.cons (.v _) .nil)), ?_⟩, ?_⟩) | (with_reducible refine ⟨_, ⟨(.cons (.ro _ _ _ _ _) .nil), ?_⟩, ?_⟩)  | (with_reducible exact fun h => h) | (with_reducible refine And.intro ?_ ?_) | ((with_reducible intro hq); first | (exact bne1 hq (by with_reducible assumption)) | (exact bne1 (by with_reducible assumption) hq) | ((simp only [*, Bool.and_true, Bool.true_and, Bool.and_false, Bool.false_and, Bool.or_true, Bool.true_or, Bool.or_false, Bool.false_or, Bool.not_true, Bool.not_false, Bool.true_eq_false, Bool.false_eq_true, cond_true, cond_false, Bool.cond_self, reduceCtorEq] at hq); done) | (revert hq; with_reducible intro _)) | (with_reducible exact True.intro) | (with_reducible rfl) | ((with_reducible refine WkX.chk ?_); (conv => whnf)) | ((with_reducible refine Wk.chk ?_); (conv => whnf)) | (with_reducible refine EntLe.row ?_) | (with_reducible exact LeN.ro rfl) | (with_reducible exact LeN.rptr) | ((with_reducible refine LeL.chk ?_); (conv => whnf)) | ((with_reducible show LeO _ _); (first | (refine LeO.ro ?_) | (refine LeO.roCap ?_) | (refine LeO.nil ?_ (fun _ => rfl)))) | ((with_reducible show LeR _ _ _); (first | (refine LeR.own rfl rfl rfl ?_) | (refine LeR.ro ?_) | (refine LeR.roCap ?_) | (refine LeR.nil ?_ (fun _ => rfl)))) | ((with_reducible refine LeF.chk ?_); (conv => whnf)) | (with_reducible assumption) | ((with_reducible refine Run.mk ?_); (conv => whnf)) | ((with_reducible show drawOK _ _ = true); kernel_rfl) | ((with_reducible show drawOK2 _ _ = true); kernel_rfl) | ((with_reducible show drawOK3 _ _ = true); kernel_rfl))
  · have hc1 : c ≤ (plcs l (l.length + 1)).length := by
      have h : decide (0 ≤ ((plcs l (l.length + 1)).length : Int) - (c : Int)) = true := by assumption
      simp only [decide_eq_true_eq] at h; omega
    obtain ⟨k, hk⟩ : ∃ k, k = (plcs l (l.length + 1)).length - c := ⟨_, rfl⟩
    have hkc : ((plcs l (l.length + 1)).length : Int) - (c : Int) = (k : Int) := by omega
    rw [hkc]
    refine joinI Unit [] (fun _ => [(13, .v (.int .i64 (posn (plcs l (l.length + 1)) k : Nat)))]) (fun _ => []) (fun _ => True) ?_ fun _ _ => ?_
    · repeat' (first | (with_reducible refine ex_of () trivial ?_) | (with_reducible exact fun h => h) | (with_reducible refine And.intro ?_ ?_) | ((with_reducible intro hq); first | (exact bne1 hq (by with_reducible assumption)) | (exact bne1 (by with_reducible assumption) hq) | ((simp only [*, Bool.and_true, Bool.true_and, Bool.and_false, Bool.false_and, Bool.or_true, Bool.true_or, Bool.or_false, Bool.false_or, Bool.not_true, Bool.not_false, Bool.true_eq_false, Bool.false_eq_true, cond_true, cond_false, Bool.cond_self, reduceCtorEq] at hq); done) | (revert hq; with_reducible intro _)) | (with_reducible exact True.intro) | (with_reducible rfl) | ((with_reducible refine WkX.chk ?_); (conv => whnf)) | ((with_reducible refine Wk.chk ?_); (conv => whnf)) | (with_reducible refine EntLe.row ?_) | (with_reducible exact LeN.ro rfl) | (with_reducible exact LeN.rptr) | ((with_reducible refine LeL.chk ?_); (conv => whnf)) | ((with_reducible show LeO _ _); (first | (refine LeO.ro ?_) | (refine LeO.roCap ?_) | (refine LeO.nil ?_ (fun _ => rfl)))) | ((with_reducible show LeR _ _ _); (first | (refine LeR.own rfl rfl rfl ?_) | (refine LeR.ro ?_) | (refine LeR.roCap ?_) | (refine LeR.nil ?_ (fun _ => rfl)))) | ((with_reducible refine LeF.chk ?_); (conv => whnf)) | (with_reducible assumption) | ((with_reducible refine Run.mk ?_); (conv => whnf)) | ((with_reducible show drawOK _ _ = true); kernel_rfl) | ((with_reducible show drawOK2 _ _ = true); kernel_rfl) | ((with_reducible show drawOK3 _ _ = true); kernel_rfl))
      all_goals (simp only [decide_eq_true_eq, decide_eq_false_iff_not] at *)
      · refine Fits.i64 ?_ ?_ <;> omega
      · omega
      · rw [atL_length]; omega
      · rw [show ((k : Int) - 1).toNat = k - 1 by omega]
        refine (atL_getD _ _ _).trans ?_
        unfold posn; rw [if_neg (by omega)]
      · unfold posn; rw [if_pos (by omega)]; rfl
    · repeat' (first | (with_reducible exact fun h => h) | (with_reducible refine And.intro ?_ ?_) | ((with_reducible intro hq); first | (exact bne1 hq (by with_reducible assumption)) | (exact bne1 (by with_reducible assumption) hq) | ((simp only [*, Bool.and_true, Bool.true_and, Bool.and_false, Bool.false_and, Bool.or_true, Bool.true_or, Bool.or_false, Bool.false_or, Bool.not_true, Bool.not_false, Bool.true_eq_false, Bool.false_eq_true, cond_true, cond_false, Bool.cond_self, reduceCtorEq] at hq); done) | (revert hq; with_reducible intro _)) | (with_reducible exact True.intro) | (with_reducible rfl) | ((with_reducible refine WkX.chk ?_); (conv => whnf)) | ((with_reducible refine Wk.chk ?_); (conv => whnf)) | (with_reducible refine EntLe.row ?_) | (with_reducible exact LeN.ro rfl) | (with_reducible exact LeN.rptr) | ((with_reducible refine LeL.chk ?_); (conv => whnf)) | ((with_reducible show LeO _ _); (first | (refine LeO.ro ?_) | (refine LeO.roCap ?_) | (refine LeO.nil ?_ (fun _ => rfl)))) | ((with_reducible show LeR _ _ _); (first | (refine LeR.own rfl rfl rfl ?_) | (refine LeR.ro ?_) | (refine LeR.roCap ?_) | (refine LeR.nil ?_ (fun _ => rfl)))) | ((with_reducible refine LeF.chk ?_); (conv => whnf)) | (with_reducible assumption) | ((with_reducible refine Run.mk ?_); (conv => whnf)) | ((with_reducible show drawOK _ _ = true); kernel_rfl) | ((with_reducible show drawOK2 _ _ = true); kernel_rfl) | ((with_reducible show drawOK3 _ _ = true); kernel_rfl))
      have htl := tab_len l (plcs l (l.length + 1)) width c
      refine loopI (Nat × Bst) [] (fun | (n, acc) => [(19, .v (.int .i64 (n : Int))), (18, .v (.bool false))])
        (fun | (n, acc) => [(6, .box [.v (.int .i64 (posn (plcs l (l.length + 1)) n : Nat))] 3), (5, .box [.v (.int .i64 (scan l (posn (plcs l (l.length + 1)) k) (posn (plcs l (l.length + 1)) n - posn (plcs l (l.length + 1)) k)).2)] 3),
          (4, .box [.v (.int .i64 (scan l (posn (plcs l (l.length + 1)) k) (posn (plcs l (l.length + 1)) n - posn (plcs l (l.length + 1)) k)).1)] 3), (3, .row C_bst ((tab l (plcs l (l.length + 1)) width c).set k acc) 83 none)])
        (fun | (n, acc) => k ≤ n ∧ n ≤ (plcs l (l.length + 1)).length ∧ Gd (plcs l (l.length + 1)).length (tab l (plcs l (l.length + 1)) width c) k acc ∧ inner l (plcs l (l.length + 1)) width (tab l (plcs l (l.length + 1)) width c) k n acc = inner l (plcs l (l.length + 1)) width (tab l (plcs l (l.length + 1)) width c) k k zB)
        (fun | (n, _) => (plcs l (l.length + 1)).length - n) (k, zB) ⟨Nat.le_refl _, by omega, Gd.zero _ _ _, rfl⟩ (Wk.chk ?_) fun i hi => ?_
      · ((conv => whnf); repeat' (first | (with_reducible exact fun h => h) | (with_reducible refine And.intro ?_ ?_) | ((with_reducible intro hq); first | (exact bne1 hq (by with_reducible assumption)) | (exact bne1 (by with_reducible assumption) hq) | ((simp only [*, Bool.and_true, Bool.true_and, Bool.and_false, Bool.false_and, Bool.or_true, Bool.true_or, Bool.or_false, Bool.false_or, Bool.not_true, Bool.not_false, Bool.true_eq_false, Bool.false_eq_true, cond_true, cond_false, Bool.cond_self, reduceCtorEq] at hq); done) | (revert hq; with_reducible intro _)) | (with_reducible exact True.intro) | (with_reducible rfl) | ((with_reducible refine WkX.chk ?_); (conv => whnf)) | ((with_reducible refine Wk.chk ?_); (conv => whnf)) | (with_reducible refine EntLe.row ?_) | (with_reducible exact LeN.ro rfl) | (with_reducible exact LeN.rptr) | ((with_reducible refine LeL.chk ?_); (conv => whnf)) | ((with_reducible show LeO _ _); (first | (refine LeO.ro ?_) | (refine LeO.roCap ?_) | (refine LeO.nil ?_ (fun _ => rfl)))) | ((with_reducible show LeR _ _ _); (first | (refine LeR.own rfl rfl rfl ?_) | (refine LeR.ro ?_) | (refine LeR.roCap ?_) | (refine LeR.nil ?_ (fun _ => rfl)))) | ((with_reducible refine LeF.chk ?_); (conv => whnf)) | (with_reducible assumption) | ((with_reducible refine Run.mk ?_); (conv => whnf)) | ((with_reducible show drawOK _ _ = true); kernel_rfl) | ((with_reducible show drawOK2 _ _ = true); kernel_rfl) | ((with_reducible show drawOK3 _ _ = true); kernel_rfl)))
        all_goals first
          | rfl
          | (rw [Nat.sub_self]; rfl)
          | exact (tab_set0 _ _ _ (by omega)).symm
      obtain ⟨n, acc⟩ := i
      obtain ⟨hi1, hi2, hi3, hi4⟩ := hi
      have hmono := posn_mono (l := l) hi1 hi2
      repeat' (first | (with_reducible exact fun h => h) | (with_reducible refine And.intro ?_ ?_) | ((with_reducible intro hq); first | (exact bne1 hq (by with_reducible assumption)) | (exact bne1 (by with_reducible assumption) hq) | ((simp only [*, Bool.and_true, Bool.true_and, Bool.and_false, Bool.false_and, Bool.or_true, Bool.true_or, Bool.or_false, Bool.false_or, Bool.not_true, Bool.not_false, Bool.true_eq_false, Bool.false_eq_true, cond_true, cond_false, Bool.cond_self, reduceCtorEq] at hq); done) | (revert hq; with_reducible intro _)) | (with_reducible exact True.intro) | (with_reducible rfl) | ((with_reducible refine WkX.chk ?_); (conv => whnf)) | ((with_reducible refine Wk.chk ?_); (conv => whnf)) | (with_reducible refine EntLe.row ?_) | (with_reducible exact LeN.ro rfl) | (with_reducible exact LeN.rptr) | ((with_reducible refine LeL.chk ?_); (conv => whnf)) | ((with_reducible show LeO _ _); (first | (refine LeO.ro ?_) | (refine LeO.roCap ?_) | (refine LeO.nil ?_ (fun _ => rfl)))) | ((with_reducible show LeR _ _ _); (first | (refine LeR.own rfl rfl rfl ?_) | (refine LeR.ro ?_) | (refine LeR.roCap ?_) | (refine LeR.nil ?_ (fun _ => rfl)))) | ((with_reducible refine LeF.chk ?_); (conv => whnf)) | (with_reducible assumption) | ((with_reducible refine Run.mk ?_); (conv => whnf)) | ((with_reducible show drawOK _ _ = true); kernel_rfl) | ((with_reducible show drawOK2 _ _ = true); kernel_rfl) | ((with_reducible show drawOK3 _ _ = true); kernel_rfl))
      · omega
      · exact of_decide_eq_true (by assumption)
      · have hn : n < (plcs l (l.length + 1)).length := by
          have h : decide ((n : Int) < ((atL l (l.length + 1)).length : Int)) = true := by assumption
          rw [atL_length] at h; simp only [decide_eq_true_eq] at h; omega
        have hPn := plcs_le hn
        have hlt := posn_lt hn
        have hgd := tab_gd (P := plcs l (l.length + 1)) hps hw2 c (n + 1) (by omega) (by omega)
        refine loopI (Nat × Unit) [] (fun _ => []) (fun | (j, _) => [(6, .box [.v (.int .i64 (j : Int))] 3), (5, .box [.v (.int .i64 (scan l (posn (plcs l (l.length + 1)) k) (j - posn (plcs l (l.length + 1)) k)).2)] 3),
          (4, .box [.v (.int .i64 (scan l (posn (plcs l (l.length + 1)) k) (j - posn (plcs l (l.length + 1)) k)).1)] 3)]) (fun | (j, _) => posn (plcs l (l.length + 1)) n ≤ j ∧ j ≤ (plcs l (l.length + 1)).getD n 0) (fun | (j, _) => (plcs l (l.length + 1)).getD n 0 - j) (posn (plcs l (l.length + 1)) n, ()) ⟨Nat.le_refl _, Nat.le_of_lt hlt⟩ (Wk.chk ?_) fun j hj => ?_
        · ((conv => whnf); repeat' (first | (with_reducible exact fun h => h) | (with_reducible refine And.intro ?_ ?_) | ((with_reducible intro hq); first | (exact bne1 hq (by with_reducible assumption)) | (exact bne1 (by with_reducible assumption) hq) | ((simp only [*, Bool.and_true, Bool.true_and, Bool.and_false, Bool.false_and, Bool.or_true, Bool.true_or, Bool.or_false, Bool.false_or, Bool.not_true, Bool.not_false, Bool.true_eq_false, Bool.false_eq_true, cond_true, cond_false, Bool.cond_self, reduceCtorEq] at hq); done) | (revert hq; with_reducible intro _)) | (with_reducible exact True.intro) | (with_reducible rfl) | ((with_reducible refine WkX.chk ?_); (conv => whnf)) | ((with_reducible refine Wk.chk ?_); (conv => whnf)) | (with_reducible refine EntLe.row ?_) | (with_reducible exact LeN.ro rfl) | (with_reducible exact LeN.rptr) | ((with_reducible refine LeL.chk ?_); (conv => whnf)) | ((with_reducible show LeO _ _); (first | (refine LeO.ro ?_) | (refine LeO.roCap ?_) | (refine LeO.nil ?_ (fun _ => rfl)))) | ((with_reducible show LeR _ _ _); (first | (refine LeR.own rfl rfl rfl ?_) | (refine LeR.ro ?_) | (refine LeR.roCap ?_) | (refine LeR.nil ?_ (fun _ => rfl)))) | ((with_reducible refine LeF.chk ?_); (conv => whnf)) | (with_reducible assumption) | ((with_reducible refine Run.mk ?_); (conv => whnf)) | ((with_reducible show drawOK _ _ = true); kernel_rfl) | ((with_reducible show drawOK2 _ _ = true); kernel_rfl) | ((with_reducible show drawOK3 _ _ = true); kernel_rfl)))
        obtain ⟨j, _⟩ := j
        obtain ⟨hj1, hj2⟩ := hj
        have hsb := scan_bd hps (posn (plcs l (l.length + 1)) k) (j - posn (plcs l (l.length + 1)) k)
        have hcb := hps.at j
        have g1 := hgd.b0
        have g2 : ((tab l (plcs l (l.length + 1)) width c).getD (n + 1) zB).bad ≤ 9000000000 := by have := hgd.b1; omega
        have g3 := hgd.p0
        have g4 : ((tab l (plcs l (l.length + 1)) width c).getD (n + 1) zB).places ≤ 5000 := by have := hgd.p1; omega
        have e1 : ((j : Int)).toNat = j := Int.toNat_natCast _
        have e2 : ((n : Int)).toNat = n := Int.toNat_natCast _
        have e3 : ((n : Int) + 1).toNat = n + 1 := by omega
        have e4 : C_bst.d = zB := rfl
        have e5 : C_part.d = dPart := rfl
        have e6 : (atL l (l.length + 1)).getD n C_int.d = ((plcs l (l.length + 1)).getD n 0 : Nat) := atL_getD _ _ _
        have e7 : (outL l (l.length + 1)).getD n C_brk.d = ((l.getD ((plcs l (l.length + 1)).getD n 0 - 1) dPart).c.to, kindAt l ((plcs l (l.length + 1)).getD n 0)) := outL_getD hn
        have e8 : ((tab l (plcs l (l.length + 1)) width c).set k acc).getD (n + 1) zB = (tab l (plcs l (l.length + 1)) width c).getD (n + 1) zB := Go.SX.Plain.getD_set_ne _ _ _ _ _ (by omega)
        have e9 : ((tab l (plcs l (l.length + 1)) width c).set k acc).getD k zB = acc := Go.SX.Plain.getD_set_eq _ _ _ _ (by omega)
        have e10 : ((k : Int)).toNat = k := Int.toNat_natCast _
        repeat' (first | (with_reducible refine ex_of (α := Nat × Unit) (j + 1, ()) ⟨⟨?_, ?_⟩, ?_⟩ ?_) | (with_reducible refine ex_of (α := Nat × Bst) (n + 1, nextAcc l (plcs l (l.length + 1)) width (tab l (plcs l (l.length + 1)) width c) k n acc) ⟨⟨?_, ?_, ?_, ?_⟩, ?_⟩ ?_) | (with_reducible refine ex_of (α := Nat) (c + 1) ⟨?_, ?_⟩ ?_) | (with_reducible refine ⟨(⟨_, _, _, _⟩, ⟨_, _, _, _⟩), ⟨(.cons (.agg (.cons (.v _) (.cons (.v _) (.cons (.v _) (.cons (.vb _) .nil))))) (.cons (.agg (.cons (.v _) (.cons (.v _) (.cons (.v _) (.cons (.sb _) .nil))))) .nil)), ?_⟩, ?_⟩) | (with_reducible exact fun h => h) | (with_reducible refine And.intro ?_ ?_) | ((with_reducible intro hq); first | (exact bne1 hq (by with_reducible assumption)) | (exact bne1 (by with_reducible assumption) hq) | ((simp only [*, Bool.and_true, Bool.true_and, Bool.and_false, Bool.false_and, Bool.or_true, Bool.true_or, Bool.or_false, Bool.false_or, Bool.not_true, Bool.not_false, Bool.true_eq_false, Bool.false_eq_true, cond_true, cond_false, Bool.cond_self, reduceCtorEq] at hq); done) | (revert hq; with_reducible intro _)) | (with_reducible exact True.intro) | (with_reducible rfl) | ((with_reducible refine WkX.chk ?_); (conv => whnf)) | ((with_reducible refine Wk.chk ?_); (conv => whnf)) | (with_reducible refine EntLe.row ?_) | (with_reducible exact LeN.ro rfl) | (with_reducible exact LeN.rptr) | ((with_reducible refine LeL.chk ?_); (conv => whnf)) | ((with_reducible show LeO _ _); (first | (refine LeO.ro ?_) | (refine LeO.roCap ?_) | (refine LeO.nil ?_ (fun _ => rfl)))) | ((with_reducible show LeR _ _ _); (first | (refine LeR.own rfl rfl rfl ?_) | (refine LeR.ro ?_) | (refine LeR.roCap ?_) | (refine LeR.nil ?_ (fun _ => rfl)))) | ((with_reducible refine LeF.chk ?_); (conv => whnf)) | (with_reducible assumption) | ((with_reducible refine Run.mk ?_); (conv => whnf)) | ((with_reducible show drawOK _ _ = true); kernel_rfl) | ((with_reducible show drawOK2 _ _ = true); kernel_rfl) | ((with_reducible show drawOK3 _ _ = true); kernel_rfl))
        all_goals (try simp only [e1, e2, e3, e4, e5, e6, e7, e8, e9, e10, decide_eq_true_eq, decide_eq_false_iff_not, Bool.not_eq_true', Bool.not_eq_false', beq_iff_eq, beq_eq_false_iff_ne, ne_eq, List.length_set, htl, atL_length, outL_length] at *)
        all_goals first
          | omega
          | (refine Fits.i64 ?_ ?_ <;> omega)
          | rfl
          | (rw [scan_fin (by omega) (by assumption)]; done)
          | (rw [scan_blank (by omega) (by assumption) (by assumption)]; done)
          | (rw [scan_ink (by omega) (by assumption) (by assumption)]; done)
          | (have hje : j = (plcs l (l.length + 1)).getD n 0 := by omega
             subst hje
             first
             | (rw [posn_succ]; done)
             | (simp only [fullTo_eq] at *; fail_if_success done; skip
                first
                | omega
                | rfl
                | (have hsq := sq_bd (x := width - fullTo l (plcs l (l.length + 1)) k ((plcs l (l.length + 1)).getD n 0)) (y := 200) (by omega) (by omega)
                   refine Fits.i64 ?_ ?_ <;> omega)
                | (rw [tab_succ hk, ← hi4, inner_full hn (by assumption)]; done)
                | exact Gd.next hps hw2 hi1 hn (by assumption) hgd hi3
                | (rw [← inner_next hn (by assumption) (by assumption)]; exact hi4)
                | (try rw [tab_succ hk, ← hi4, inner_stop hn (by assumption) (by assumption)]
                   first
                   | (rw [nextAcc_no (by assumption)]; done)
                   | (rw [nextAcc_yes (by assumption), better_1 (by rw [cand_cut (by assumption)]; assumption), cand_cut (by assumption), List.set_set]; rfl)
                   | (rw [nextAcc_yes (by assumption), better_1 (by rw [cand_not (by assumption)]; assumption), cand_not (by assumption), List.set_set]; rfl)
                   | (rw [nextAcc_yes (by assumption), better_0 (by rw [cand_cut (by assumption)]; assumption)]; done)
                   | (rw [nextAcc_yes (by assumption), better_0 (by rw [cand_not (by assumption)]; assumption)]; done))))
      · have hn : n = (plcs l (l.length + 1)).length := by
          have h : decide ((n : Int) < ((atL l (l.length + 1)).length : Int)) = false := by assumption
          rw [atL_length] at h; simp only [decide_eq_false_iff_not] at h; omega
        have hple := posn_le (l := l) (k := n) (by omega)
        refine loopI (Nat × Unit) [] (fun _ => []) (fun | (j, _) => [(6, .box [.v (.int .i64 (j : Int))] 3), (5, .box [.v (.int .i64 (scan l (posn (plcs l (l.length + 1)) k) (j - posn (plcs l (l.length + 1)) k)).2)] 3),
          (4, .box [.v (.int .i64 (scan l (posn (plcs l (l.length + 1)) k) (j - posn (plcs l (l.length + 1)) k)).1)] 3)]) (fun | (j, _) => posn (plcs l (l.length + 1)) n ≤ j ∧ j ≤ l.length) (fun | (j, _) => l.length - j) (posn (plcs l (l.length + 1)) n, ()) ⟨Nat.le_refl _, hple⟩ (Wk.chk ?_) fun j hj => ?_
        · ((conv => whnf); repeat' (first | (with_reducible exact fun h => h) | (with_reducible refine And.intro ?_ ?_) | ((with_reducible intro hq); first | (exact bne1 hq (by with_reducible assumption)) | (exact bne1 (by with_reducible assumption) hq) | ((simp only [*, Bool.and_true, Bool.true_and, Bool.and_false, Bool.false_and, Bool.or_true, Bool.true_or, Bool.or_false, Bool.false_or, Bool.not_true, Bool.not_false, Bool.true_eq_false, Bool.false_eq_true, cond_true, cond_false, Bool.cond_self, reduceCtorEq] at hq); done) | (revert hq; with_reducible intro _)) | (with_reducible exact True.intro) | (with_reducible rfl) | ((with_reducible refine WkX.chk ?_); (conv => whnf)) | ((with_reducible refine Wk.chk ?_); (conv => whnf)) | (with_reducible refine EntLe.row ?_) | (with_reducible exact LeN.ro rfl) | (with_reducible exact LeN.rptr) | ((with_reducible refine LeL.chk ?_); (conv => whnf)) | ((with_reducible show LeO _ _); (first | (refine LeO.ro ?_) | (refine LeO.roCap ?_) | (refine LeO.nil ?_ (fun _ => rfl)))) | ((with_reducible show LeR _ _ _); (first | (refine LeR.own rfl rfl rfl ?_) | (refine LeR.ro ?_) | (refine LeR.roCap ?_) | (refine LeR.nil ?_ (fun _ => rfl)))) | ((with_reducible refine LeF.chk ?_); (conv => whnf)) | (with_reducible assumption) | ((with_reducible refine Run.mk ?_); (conv => whnf)) | ((with_reducible show drawOK _ _ = true); kernel_rfl) | ((with_reducible show drawOK2 _ _ = true); kernel_rfl) | ((with_reducible show drawOK3 _ _ = true); kernel_rfl)))
        obtain ⟨j, _⟩ := j
        obtain ⟨hj1, hj2⟩ := hj
        have hsb := scan_bd hps (posn (plcs l (l.length + 1)) k) (j - posn (plcs l (l.length + 1)) k)
        have hcb := hps.at j
        have e1 : ((j : Int)).toNat = j := Int.toNat_natCast _
        have e4 : C_bst.d = zB := rfl
        have e5 : C_part.d = dPart := rfl
        have e9 : ((tab l (plcs l (l.length + 1)) width c).set k acc).getD k zB = acc := Go.SX.Plain.getD_set_eq _ _ _ _ (by omega)
        have e10 : ((k : Int)).toNat = k := Int.toNat_natCast _
        repeat' (first | (with_reducible refine ex_of (α := Nat × Unit) (j + 1, ()) ⟨⟨?_, ?_⟩, ?_⟩ ?_) | (with_reducible refine ex_of (α := Nat) (c + 1) ⟨?_, ?_⟩ ?_) | (with_reducible refine ⟨(⟨_, _, _, _⟩, ⟨_, _, _, _⟩), ⟨(.cons (.agg (.cons (.v _) (.cons (.v _) (.cons (.v _) (.cons (.vb _) .nil))))) (.cons (.agg (.cons (.v _) (.cons (.v _) (.cons (.v _) (.cons (.sb _) .nil))))) .nil)), ?_⟩, ?_⟩) | (with_reducible exact fun h => h) | (with_reducible refine And.intro ?_ ?_) | ((with_reducible intro hq); first | (exact bne1 hq (by with_reducible assumption)) | (exact bne1 (by with_reducible assumption) hq) | ((simp only [*, Bool.and_true, Bool.true_and, Bool.and_false, Bool.false_and, Bool.or_true, Bool.true_or, Bool.or_false, Bool.false_or, Bool.not_true, Bool.not_false, Bool.true_eq_false, Bool.false_eq_true, cond_true, cond_false, Bool.cond_self, reduceCtorEq] at hq); done) | (revert hq; with_reducible intro _)) | (with_reducible exact True.intro) | (with_reducible rfl) | ((with_reducible refine WkX.chk ?_); (conv => whnf)) | ((with_reducible refine Wk.chk ?_); (conv => whnf)) | (with_reducible refine EntLe.row ?_) | (with_reducible exact LeN.ro rfl) | (with_reducible exact LeN.rptr) | ((with_reducible refine LeL.chk ?_); (conv => whnf)) | ((with_reducible show LeO _ _); (first | (refine LeO.ro ?_) | (refine LeO.roCap ?_) | (refine LeO.nil ?_ (fun _ => rfl)))) | ((with_reducible show LeR _ _ _); (first | (refine LeR.own rfl rfl rfl ?_) | (refine LeR.ro ?_) | (refine LeR.roCap ?_) | (refine LeR.nil ?_ (fun _ => rfl)))) | ((with_reducible refine LeF.chk ?_); (conv => whnf)) | (with_reducible assumption) | ((with_reducible refine Run.mk ?_); (conv => whnf)) | ((with_reducible show drawOK _ _ = true); kernel_rfl) | ((with_reducible show drawOK2 _ _ = true); kernel_rfl) | ((with_reducible show drawOK3 _ _ = true); kernel_rfl))
        all_goals (try simp only [e1, e4, e5, e9, e10, decide_eq_true_eq, decide_eq_false_iff_not, Bool.not_eq_true', Bool.not_eq_false', beq_iff_eq, beq_eq_false_iff_ne, ne_eq, List.length_set, htl, atL_length, outL_length] at *)
        all_goals first
          | omega
          | (refine Fits.i64 ?_ ?_ <;> omega)
          | rfl
          | (rw [scan_fin (by omega) (by assumption)]; done)
          | (rw [scan_blank (by omega) (by assumption) (by assumption)]; done)
          | (rw [scan_ink (by omega) (by assumption) (by assumption)]; done)
          | (have hje : j = l.length := by omega
             subst hje
             simp only [fullTo_eq] at *
             first
             | omega
             | (have hsq := sq_bd (x := width - fullTo l (plcs l (l.length + 1)) k l.length) (y := 200) (by omega) (by omega)
                refine Fits.i64 ?_ ?_ <;> omega)
             | (rw [tab_succ hk, ← hi4, inner_end (by omega)]
                first
                | (rw [endly_no (by assumption)]; done)
                | (rw [endly_yes (by assumption), better_1 (by assumption), List.set_set]; rfl)
                | (rw [endly_yes (by assumption), better_0 (by assumption)]; done)))
  all_goals
    have hcN : c = (plcs l (l.length + 1)).length + 1 := by
      have h : decide (0 ≤ ((plcs l (l.length + 1)).length : Int) - (c : Int)) = false := by assumption
      simp only [decide_eq_false_iff_not] at h; omega
    subst hcN
    have htl := tab_len l (plcs l (l.length + 1)) width ((plcs l (l.length + 1)).length + 1)
  · omega
  · rw [htl]; omega
  · rw [htl]; dsimp only [Int.toNat]; omega
  have hg := fun j => tabOf_gd (l := l) (width := width) hps hw2 j
  have hok0 := tabOf_ok (l := l) (width := width) hps hw1 (j := 0) (Nat.zero_le _)
  have hwl := wrapOut_len l width
  refine loopI (Int × List (Int × Int)) [] (fun | (x, _) => [(25, .v (.int .i64 x)), (24, .own 4)]) (fun | (_, o) => [(4, .row C_brk o 54 none)])
    (fun | (x, o) => Nx (plcs l (l.length + 1)).length (tabOf l width) x ∧ o ++ (wayOf (plcs l (l.length + 1)).length (tabOf l width) x).map (fun n => (outL l (l.length + 1)).getD n (0, 0)) = wrapOut l width) (fun | (x, _) => far (plcs l (l.length + 1)).length x)
    (((tabOf l width).getD 0 zB).next, []) ⟨⟨((hg 0).nx hok0).imp (fun h => h) fun ⟨n, h1, _, h3, h4⟩ => ⟨n, h1, h3, h4⟩⟩, rfl⟩ (Wk.chk ?_) fun i hi => ?_
  · ((conv => whnf); repeat' (first | (with_reducible exact fun h => h) | (with_reducible refine And.intro ?_ ?_) | ((with_reducible intro hq); first | (exact bne1 hq (by with_reducible assumption)) | (exact bne1 (by with_reducible assumption) hq) | ((simp only [*, Bool.and_true, Bool.true_and, Bool.and_false, Bool.false_and, Bool.or_true, Bool.true_or, Bool.or_false, Bool.false_or, Bool.not_true, Bool.not_false, Bool.true_eq_false, Bool.false_eq_true, cond_true, cond_false, Bool.cond_self, reduceCtorEq] at hq); done) | (revert hq; with_reducible intro _)) | (with_reducible exact True.intro) | (with_reducible rfl) | ((with_reducible refine WkX.chk ?_); (conv => whnf)) | ((with_reducible refine Wk.chk ?_); (conv => whnf)) | (with_reducible refine EntLe.row ?_) | (with_reducible exact LeN.ro rfl) | (with_reducible exact LeN.rptr) | ((with_reducible refine LeL.chk ?_); (conv => whnf)) | ((with_reducible show LeO _ _); (first | (refine LeO.ro ?_) | (refine LeO.roCap ?_) | (refine LeO.nil ?_ (fun _ => rfl)))) | ((with_reducible show LeR _ _ _); (first | (refine LeR.own rfl rfl rfl ?_) | (refine LeR.ro ?_) | (refine LeR.roCap ?_) | (refine LeR.nil ?_ (fun _ => rfl)))) | ((with_reducible refine LeF.chk ?_); (conv => whnf)) | (with_reducible assumption) | ((with_reducible refine Run.mk ?_); (conv => whnf)) | ((with_reducible show drawOK _ _ = true); kernel_rfl) | ((with_reducible show drawOK2 _ _ = true); kernel_rfl) | ((with_reducible show drawOK3 _ _ = true); kernel_rfl)))
    all_goals rfl
  obtain ⟨x, o⟩ := i
  obtain ⟨hx, ho⟩ := hi
  rcases hx.out with hx1 | ⟨m, hx1, hx2, hx3⟩
  · subst hx1
    rw [wayOf_end _ _ (by omega)] at ho
    simp only [List.map_nil, List.append_nil] at ho
    repeat' (first | (with_reducible exact fun h => h) | (with_reducible refine And.intro ?_ ?_) | ((with_reducible intro hq); first | (exact bne1 hq (by with_reducible assumption)) | (exact bne1 (by with_reducible assumption) hq) | ((simp only [*, Bool.and_true, Bool.true_and, Bool.and_false, Bool.false_and, Bool.or_true, Bool.true_or, Bool.or_false, Bool.false_or, Bool.not_true, Bool.not_false, Bool.true_eq_false, Bool.false_eq_true, cond_true, cond_false, Bool.cond_self, reduceCtorEq] at hq); done) | (revert hq; with_reducible intro _)) | (with_reducible exact True.intro) | (with_reducible rfl) | ((with_reducible refine WkX.chk ?_); (conv => whnf)) | ((with_reducible refine Wk.chk ?_); (conv => whnf)) | (with_reducible refine EntLe.row ?_) | (with_reducible exact LeN.ro rfl) | (with_reducible exact LeN.rptr) | ((with_reducible refine LeL.chk ?_); (conv => whnf)) | ((with_reducible show LeO _ _); (first | (refine LeO.ro ?_) | (refine LeO.roCap ?_) | (refine LeO.nil ?_ (fun _ => rfl)))) | ((with_reducible show LeR _ _ _); (first | (refine LeR.own rfl rfl rfl ?_) | (refine LeR.ro ?_) | (refine LeR.roCap ?_) | (refine LeR.nil ?_ (fun _ => rfl)))) | ((with_reducible refine LeF.chk ?_); (conv => whnf)) | (with_reducible assumption) | ((with_reducible refine Run.mk ?_); (conv => whnf)) | ((with_reducible show drawOK _ _ = true); kernel_rfl) | ((with_reducible show drawOK2 _ _ = true); kernel_rfl) | ((with_reducible show drawOK3 _ _ = true); kernel_rfl))
    all_goals first
      | omega
      | (exfalso; have h : decide ((0 : Int) ≤ -1) = true := by assumption
         exact absurd h (by decide))
      | (rw [htl]; omega)
      | (rw [htl]; dsimp only [Int.toNat]; omega)
      | (rw [hL]; exact ho)
      | (rw [hB]; rfl)
      | exact hck.symm
  · subst hx1
    obtain ⟨hn1, hn2⟩ := Nx.next hg hx3 hx2
    rw [wayOf_step hg hx3 hx2, List.map_cons, List.append_cons] at ho
    have hol : o.length + 1 ≤ (plcs l (l.length + 1)).length := by rw [← ho] at hwl; simp at hwl; omega
    repeat' (first | (with_reducible refine ex_of (α := Int × List (Int × Int)) (_, _) ⟨⟨hn1, ho⟩, hn2⟩ ?_) | (with_reducible exact fun h => h) | (with_reducible refine And.intro ?_ ?_) | ((with_reducible intro hq); first | (exact bne1 hq (by with_reducible assumption)) | (exact bne1 (by with_reducible assumption) hq) | ((simp only [*, Bool.and_true, Bool.true_and, Bool.and_false, Bool.false_and, Bool.or_true, Bool.true_or, Bool.or_false, Bool.false_or, Bool.not_true, Bool.not_false, Bool.true_eq_false, Bool.false_eq_true, cond_true, cond_false, Bool.cond_self, reduceCtorEq] at hq); done) | (revert hq; with_reducible intro _)) | (with_reducible exact True.intro) | (with_reducible rfl) | ((with_reducible refine WkX.chk ?_); (conv => whnf)) | ((with_reducible refine Wk.chk ?_); (conv => whnf)) | (with_reducible refine EntLe.row ?_) | (with_reducible exact LeN.ro rfl) | (with_reducible exact LeN.rptr) | ((with_reducible refine LeL.chk ?_); (conv => whnf)) | ((with_reducible show LeO _ _); (first | (refine LeO.ro ?_) | (refine LeO.roCap ?_) | (refine LeO.nil ?_ (fun _ => rfl)))) | ((with_reducible show LeR _ _ _); (first | (refine LeR.own rfl rfl rfl ?_) | (refine LeR.ro ?_) | (refine LeR.roCap ?_) | (refine LeR.nil ?_ (fun _ => rfl)))) | ((with_reducible refine LeF.chk ?_); (conv => whnf)) | (with_reducible assumption) | ((with_reducible refine Run.mk ?_); (conv => whnf)) | ((with_reducible show drawOK _ _ = true); kernel_rfl) | ((with_reducible show drawOK2 _ _ = true); kernel_rfl) | ((with_reducible show drawOK3 _ _ = true); kernel_rfl))
    all_goals first
      | omega
      | (exfalso; have h : decide ((0 : Int) ≤ (m : Int)) = false := by assumption
         simp at h; done)
      | rfl
      | (rw [outL_length]; omega)
      | (rw [htl]; omega)
      | (refine Fits.i64 ?_ ?_ <;> omega)
      | (simp only [List.length_cons, List.length_nil]; omega)
end Go.SX.Try
/- The program's table and the document's say the same. No program here. -/
namespace Go.SX.Plain
/-! ### Each entry out of the whole table -/
theorem inn_congr {l : List Part} {P : List Nat} {width : Int} {ws ws' : List Bst} {k : Nat} (h : ∀ j, k < j → ws.getD j zB = ws'.getD j zB) : ∀ (f n : Nat) (acc : Bst), k ≤ n → inn l P width ws k f n acc = inn l P width ws' k f n acc
  | 0, _, _, _ => rfl
  | f + 1, n, acc, hn => by
    have e := h (n + 1) (by omega)
    have ec : cand l P width ws k n = cand l P width ws' k n := by unfold cand; rw [e]
    simp only [inn, e, ec]
    rw [inn_congr h f (n + 1) _ (by omega), inn_congr h f (n + 1) _ (by omega)]
theorem tab_later (l : List Part) (P : List Nat) (width : Int) {c : Nat} : ∀ (d j : Nat), P.length + 1 ≤ c + j → c + d ≤ P.length + 1 → (tab l P width (c + d)).getD j zB = (tab l P width c).getD j zB
  | 0, _, _, _ => rfl
  | d + 1, j, h, hd => by
    rw [← Nat.add_assoc]
    simp only [tab]
    rw [getD_set_ne _ _ _ _ _ (by omega)]
    exact tab_later l P width d j h (by omega)
theorem tab_entry {l : List Part} {width : Int} {k : Nat} (hk : k ≤ (plcs l (l.length + 1)).length) : (tabOf l width).getD k zB = inner l (plcs l (l.length + 1)) width (tabOf l width) k k zB := by
  unfold tabOf
  generalize plcs l (l.length + 1) = P at hk
  have hl := tab_len l P width (P.length - k)
  have e : P.length + 1 = (P.length - k + 1) + k := by omega
  have h1 : (tab l P width (P.length + 1)).getD k zB = (tab l P width (P.length - k + 1)).getD k zB := by
    have := tab_later l P width (c := P.length - k + 1) k k (by omega) (by omega)
    rw [← e] at this; exact this
  rw [h1, tab_succ (c := P.length - k) (k := k) (by omega), getD_set_eq _ _ _ _ (by omega)]
  unfold inner
  refine inn_congr (fun j hj => ?_) _ _ _ (Nat.le_refl _)
  have e2 : P.length + 1 = (P.length - k) + (k + 1) := by omega
  have := tab_later l P width (c := P.length - k) (k + 1) j (by omega) (by omega)
  rw [← e2] at this; exact this.symm
theorem rinn_congr {l : List Part} {width : Int} {ct ct' : List Rb} {f : Nat} (h : ∀ j, f < j → ct.getD j zR = ct'.getD j zR) : ∀ (k t : Nat) (acc : Bst), rinn l width ct f k t acc = rinn l width ct' f k t acc
  | 0, _, _ => rfl
  | k + 1, t, acc => by
    have e1 : racc1 l width ct f t acc = racc1 l width ct' f t acc := by
      unfold racc1
      split
      · rename_i hc
        have : rcand l width ct f t = rcand l width ct' f t := by unfold rcand; rw [h t hc.1]
        rw [this]
      · rfl
    have e2 : racc2 l width ct f t acc = racc2 l width ct' f t acc := by unfold racc2; rw [e1]
    simp only [rinn, e2]
    rw [rinn_congr h k (t + 1)]
theorem rt_later (l : List Part) (width : Int) {c : Nat} : ∀ (d j : Nat), l.length + 1 ≤ c + j → c + d ≤ l.length + 1 → (rt l width (c + d)).getD j zR = (rt l width c).getD j zR
  | 0, _, _, _ => rfl
  | d + 1, j, h, hd => by
    rw [← Nat.add_assoc]
    simp only [rt]
    rw [getD_set_ne _ _ _ _ _ (by omega)]
    exact rt_later l width d j h (by omega)
theorem rt_entry {l : List Part} {width : Int} {f : Nat} (hf : f ≤ l.length) : (rtab l width).getD f zR = rbOf (rinner l width (rtab l width) f f zB) := by
  unfold rtab
  have hl := rt_len l width (l.length - f)
  have e : l.length + 1 = (l.length - f + 1) + f := by omega
  have h1 : (rt l width (l.length + 1)).getD f zR = (rt l width (l.length - f + 1)).getD f zR := by
    have := rt_later l width (c := l.length - f + 1) f f (by omega) (by omega)
    rw [← e] at this; exact this
  rw [h1, rt_succ (c := l.length - f) (f := f) (by omega), getD_set_eq _ _ _ _ (by omega)]
  unfold rinner
  rw [rinn_congr (fun j hj => ?_)]
  have e2 : l.length + 1 = (l.length - f) + (f + 1) := by omega
  have := rt_later l width (c := l.length - f) (f + 1) j (by omega) (by omega)
  rw [← e2] at this; exact this.symm

/-! ### Alike -/
/-- The next places are alike: among the places; among the clusters. -/
def NxA (P : List Nat) (x y : Int) : Prop := (x = -1 ∧ y = 0) ∨ ∃ m : Nat, x = m ∧ m < P.length ∧ y = (P.getD m 0 : Nat)
structure EqA (P : List Nat) (a b : Bst) : Prop where
  bad : a.bad = b.bad
  places : a.places = b.places
  ok : a.ok = b.ok
  next : a.ok = true → NxA P a.next b.next
theorem EqA.better {P : List Nat} {a b x y : Bst} (h : EqA P a b) (h' : EqA P x y) : EqA P (better a x) (better b y) := by
  have e : before a x = before b y := by unfold before; rw [h.bad, h.places, h'.ok, h'.bad, h'.places]
  unfold Plain.better
  rw [e]
  split <;> assumption
theorem scan_mono {l : List Part} (h : Small l) (f : Nat) : ∀ (d n : Nat), (scan l f n).1 ≤ (scan l f (n + d)).1
  | 0, n => Int.le_refl _
  | d + 1, n => by
    have h1 := scan_mono h f d n
    have hb := scan_bd h f (n + d)
    have hc := h.at (f + (n + d))
    rw [← Nat.add_assoc]
    refine Int.le_trans h1 ?_
    simp only [scan]
    split
    · exact Int.le_refl _
    · simp only
      split
      · exact Int.le_refl _
      · omega
theorem wAt_mono {l : List Part} (h : Small l) {f t e : Nat} (h1 : t ≤ e) : wAt l f t ≤ wAt l f e := by
  unfold wAt
  by_cases hf : f ≤ t
  · have := scan_mono h f (e - t) (t - f)
    rwa [show t - f + (e - t) = e - f by omega] at this
  · rw [show t - f = 0 by omega]
    have := scan_mono h f (e - f) 0
    rwa [Nat.zero_add] at this
theorem rinner_skip {l : List Part} (hS : Small l) {width : Int} {ct : List Rb} {f e : Nat} (he : e ≤ l.length) : ∀ (d t : Nat) (acc : Bst), t + d = e → (∀ i, t ≤ i → i < e → f < i ∧ kindAt l i = 0) → rinner l width ct f t acc = rinner l width ct f e acc
  | 0, t, acc, hd, _ => by rw [show t = e by omega]
  | d + 1, t, acc, hd, h => by
    obtain ⟨h1, h2⟩ := h t (Nat.le_refl _) (by omega)
    by_cases hw : wAt l f t ≤ width
    · have hl : lastB l f t = false := by
        unfold lastB
        rw [decide_eq_false (by omega)]; rfl
      have ha : racc2 l width ct f t acc = acc := by rw [racc2_no hl, racc1_no (by omega)]
      rw [rinner_on (by omega) hw (by omega), ha]
      exact rinner_skip hS he d (t + 1) acc (by omega) fun i hi hj => h i (by omega) hj
    · rw [rinner_full (by omega) hw]
      have hm := wAt_mono hS (f := f) (show t ≤ e by omega)
      rw [rinner_full he (by omega)]
theorem kind_len (l : List Part) : kindAt l l.length = 0 ∨ kindAt l l.length = 1 := by
  unfold kindAt
  split
  · exact .inr rfl
  · rw [if_pos rfl]; exact .inl rfl
theorem kind_fin {l : List Part} : kindAt l l.length = 1 ↔ (l.getD (l.length - 1) dPart).fin = true := by
  unfold kindAt
  constructor
  · intro h
    split at h
    · assumption
    · rw [if_pos rfl] at h; cases h
  · intro h; rw [if_pos h]
theorem not_place {l : List Part} {k i : Nat} (hk : k ≤ (plcs l (l.length + 1)).length) (h1 : posn (plcs l (l.length + 1)) k < i) (h2 : k < (plcs l (l.length + 1)).length → i < (plcs l (l.length + 1)).getD k 0) (hi : i ≤ l.length) : kindAt l i = 0 := gap hk h1 h2 hi
section
variable {l : List Part} {width : Int}
/-- What is known of the entries behind k. -/
def Later (l : List Part) (width : Int) (k : Nat) : Prop := ∀ j, k < j → j ≤ (plcs l (l.length + 1)).length →
  ((tabOf l width).getD j zB).bad = ((rtab l width).getD (posn (plcs l (l.length + 1)) j) zR).bad ∧ ((tabOf l width).getD j zB).places = ((rtab l width).getD (posn (plcs l (l.length + 1)) j) zR).count
theorem loop_eq (hS : Small l) (hw1 : 2 ≤ width) {k : Nat} (hL : Later l width k) : ∀ (d n : Nat) (acc acc' : Bst), (plcs l (l.length + 1)).length = n + d → k ≤ n → posn (plcs l (l.length + 1)) n < l.length → EqA (plcs l (l.length + 1)) acc acc' →
    EqA (plcs l (l.length + 1)) (inner l (plcs l (l.length + 1)) width (tabOf l width) k n acc) (rinner l width (rtab l width) (posn (plcs l (l.length + 1)) k) (posn (plcs l (l.length + 1)) n + 1) acc')
  | 0, n, acc, acc', hd, hk, hc, ha => by
    have hn : n = (plcs l (l.length + 1)).length := by omega
    have hmono := posn_mono (l := l) hk (by omega)
    have hk0 : kindAt l l.length = 0 := gap (k := n) (by omega) hc (fun h => by omega) (Nat.le_refl _)
    have hnf : (l.getD (l.length - 1) dPart).fin = false := by
      cases hf : (l.getD (l.length - 1) dPart).fin with
      | false => rfl
      | true => rw [kind_fin.2 hf] at hk0; cases hk0
    rw [inner_end (by omega), rinner_skip hS (Nat.le_refl _) (l.length - (posn (plcs l (l.length + 1)) n + 1)) _ _ (by omega) fun i hi hj => ⟨by omega, gap (k := n) (by omega) (by omega) (fun h => by omega) (by omega)⟩]
    have hl : lastB l (posn (plcs l (l.length + 1)) k) l.length = true := by
      unfold lastB; rw [hnf]; simp
    by_cases hw : fullTo l (plcs l (l.length + 1)) k l.length ≤ width
    · have hw' : wAt l (posn (plcs l (l.length + 1)) k) l.length ≤ width := hw
      rw [endly_yes hw, rinner_on (Nat.le_refl _) hw' (by omega), rinner_end (by omega)]
      unfold racc2
      rw [if_pos hl, racc1_no (by omega)]
      refine EqA.better ⟨rfl, rfl, rfl, fun _ => .inl ⟨rfl, rfl⟩⟩ ha
    · have hw' : ¬ wAt l (posn (plcs l (l.length + 1)) k) l.length ≤ width := hw
      rw [endly_no hw, rinner_full (Nat.le_refl _) hw']
      exact ha
  | d + 1, n, acc, acc', hd, hk, hc, ha => by
    have hn : n < (plcs l (l.length + 1)).length := by omega
    have hmono := posn_mono (l := l) hk (by omega)
    have hlt := posn_lt hn
    obtain ⟨p1, p2, p3⟩ := plcs_le hn
    have hsucc := posn_succ (plcs l (l.length + 1)) n
    rw [rinner_skip hS (e := (plcs l (l.length + 1)).getD n 0) (by omega) ((plcs l (l.length + 1)).getD n 0 - (posn (plcs l (l.length + 1)) n + 1)) _ _ (by omega) fun i hi hj => ⟨by omega, gap (k := n) (by omega) (by omega) (fun h => hj) (by omega)⟩]
    obtain ⟨hb, hp⟩ := hL (n + 1) (by omega) (by omega)
    rw [hsucc] at hb hp
    have hok := tabOf_ok (l := l) (width := width) hS hw1 (j := n + 1) (by omega)
    generalize hE : (plcs l (l.length + 1)).getD n 0 = e at *
    have hkc := kindAt_cases l e
    have hlast : lastB l (posn (plcs l (l.length + 1)) k) e = false := by
      unfold lastB
      by_cases h : e = l.length
      · subst h
        have h1 := (kind_len l).resolve_left p3
        have hne : ¬ l.length = posn (plcs l (l.length + 1)) k := by omega
        rw [kind_fin.1 h1, decide_eq_false hne]
        simp
      · rw [decide_eq_false h]; rfl
    by_cases hw : fullTo l (plcs l (l.length + 1)) k e ≤ width
    · have hw' : wAt l (posn (plcs l (l.length + 1)) k) e ≤ width := hw
      have hcand : EqA (plcs l (l.length + 1)) (cand l (plcs l (l.length + 1)) width (tabOf l width) k n) (rcand l width (rtab l width) (posn (plcs l (l.length + 1)) k) e) := by
        refine ⟨?_, ?_, rfl, fun _ => .inr ⟨n, rfl, hn, by rw [hE]; rfl⟩⟩
        · simp only [cand, rcand, hE, hb]; rfl
        · simp only [cand, rcand, hp]; omega
      have hacc := EqA.better hcand ha
      have hr2 : racc2 l width (rtab l width) (posn (plcs l (l.length + 1)) k) e acc' = better (rcand l width (rtab l width) (posn (plcs l (l.length + 1)) k) e) acc' := by
        rw [racc2_no hlast]
        unfold racc1
        rw [if_pos ⟨by omega, by omega⟩]
      by_cases h1 : kindAt l e = 1
      · rw [inner_hard hn (by rw [hE]; exact hw) hok (by rw [hE]; exact h1), rinner_stop (by omega) hw' ⟨by omega, h1⟩, hr2]
        exact hacc
      · rw [inner_on hn (by rw [hE]; exact hw) hok (by rw [hE]; exact h1), rinner_on (by omega) hw' (fun h => h1 h.2), hr2]
        have hne : e ≠ l.length := fun h => by
          subst h; rcases kind_len l with h2 | h2 <;> contradiction
        have := loop_eq hS hw1 hL d (n + 1) _ _ (by omega) (by omega) (by rw [hsucc]; omega) hacc
        rw [hsucc] at this
        exact this
    · have hw' : ¬ wAt l (posn (plcs l (l.length + 1)) k) e ≤ width := hw
      rw [inner_full hn (by rw [hE]; exact hw), rinner_full (by omega) hw']
      exact ha
theorem entry_eq (hS : Small l) (hw1 : 2 ≤ width) {k : Nat} (hk : k ≤ (plcs l (l.length + 1)).length) (hL : Later l width k) :
    EqA (plcs l (l.length + 1)) ((tabOf l width).getD k zB) (rinner l width (rtab l width) (posn (plcs l (l.length + 1)) k) (posn (plcs l (l.length + 1)) k) zB) := by
  rw [tab_entry hk]
  have hle := posn_le hk
  have hw0 : wAt l (posn (plcs l (l.length + 1)) k) (posn (plcs l (l.length + 1)) k) = 0 := by unfold wAt; rw [Nat.sub_self]; rfl
  rw [rinner_on hle (by rw [hw0]; omega) (by omega)]
  have hr1 : racc1 l width (rtab l width) (posn (plcs l (l.length + 1)) k) (posn (plcs l (l.length + 1)) k) zB = zB := racc1_no (by omega)
  by_cases h : posn (plcs l (l.length + 1)) k = l.length
  · have hN : ¬ k < (plcs l (l.length + 1)).length := fun hlt => by
      have := posn_lt hlt
      have := (plcs_le hlt).1
      omega
    have hl : lastB l (posn (plcs l (l.length + 1)) k) (posn (plcs l (l.length + 1)) k) = true := by
      unfold lastB; rw [decide_eq_true h, decide_eq_true h.symm]; rfl
    have hf : fullTo l (plcs l (l.length + 1)) k l.length = 0 := by unfold fullTo; rw [h, Nat.sub_self]; rfl
    rw [inner_end hN, rinner_end (by omega), endly_yes (by rw [hf]; omega)]
    unfold racc2
    rw [if_pos hl, hr1]
    refine EqA.better ⟨?_, rfl, rfl, fun _ => .inl ⟨rfl, rfl⟩⟩ ⟨rfl, rfl, rfl, fun h => by cases h⟩
    simp only [rend, hf, hw0]
  · have hl : lastB l (posn (plcs l (l.length + 1)) k) (posn (plcs l (l.length + 1)) k) = false := by
      unfold lastB; rw [decide_eq_false h]; rfl
    rw [racc2_no hl, hr1]
    exact loop_eq hS hw1 hL ((plcs l (l.length + 1)).length - k) k zB zB (by omega) (Nat.le_refl _) (by omega) ⟨rfl, rfl, rfl, fun h => by cases h⟩
theorem later (hS : Small l) (hw1 : 2 ≤ width) : ∀ (d k : Nat), k + d = (plcs l (l.length + 1)).length → Later l width k
  | 0, k, h => fun j h1 h2 => by omega
  | d + 1, k, h => fun j h1 h2 => by
    have ih := later hS hw1 d (k + 1) (by omega)
    by_cases hj : j = k + 1
    · subst hj
      have he := entry_eq hS hw1 (k := k + 1) (by omega) ih
      rw [rt_entry (posn_le (by omega))]
      exact ⟨he.bad, he.places⟩
    · exact ih j (by omega) h2
theorem both_eq (hS : Small l) (hw1 : 2 ≤ width) {k : Nat} (hk : k ≤ (plcs l (l.length + 1)).length) :
    ((tabOf l width).getD k zB).bad = ((rtab l width).getD (posn (plcs l (l.length + 1)) k) zR).bad ∧ ((tabOf l width).getD k zB).places = ((rtab l width).getD (posn (plcs l (l.length + 1)) k) zR).count ∧ NxA (plcs l (l.length + 1)) ((tabOf l width).getD k zB).next ((rtab l width).getD (posn (plcs l (l.length + 1)) k) zR).next := by
  have he := entry_eq hS hw1 hk (later hS hw1 ((plcs l (l.length + 1)).length - k) k (by omega))
  rw [rt_entry (posn_le hk)]
  exact ⟨he.bad, he.places, he.next (tabOf_ok hS hw1 hk)⟩
end
end Go.SX.Plain
/- The program's way and the document's are the same; the places. No program here. -/
namespace Go.SX.Plain
/-- The way out of a table: clusters. -/
def rwGo (ct : List Rb) : Nat → Int → List Int
  | 0, _ => []
  | k + 1, x => if 0 < x then x :: rwGo ct k (ct.getD x.toNat zR).next else []
def rfar (n : Nat) (x : Int) : Nat := if 0 < x then n + 1 - x.toNat else 0
def rway (n : Nat) (ct : List Rb) (x : Int) : List Int := rwGo ct (rfar n x) x
structure RNx (n : Nat) (x : Int) : Prop where
  out : x = 0 ∨ ∃ m : Nat, x = m ∧ 0 < m ∧ m ≤ n
theorem RNx.next {n : Nat} {ct : List Rb} {m : Nat} (hg : ∀ j, GdR n j (ct.getD j zR)) (h0 : 0 < m) (hm : m ≤ n) : RNx n (ct.getD m zR).next ∧ rfar n (ct.getD m zR).next < rfar n (m : Int) := by
  have hx := (hg m).n0
  have e1 : rfar n (m : Int) = n + 1 - m := by unfold rfar; rw [if_pos (by omega)]; omega
  rw [e1]
  rcases hx with hx | ⟨q, h1, h2, h3⟩
  · rw [hx]; exact ⟨⟨.inl rfl⟩, by unfold rfar; simp; omega⟩
  · rw [h1]; exact ⟨⟨.inr ⟨q, rfl, by omega, h3⟩⟩, by unfold rfar; rw [if_pos (by omega)]; omega⟩
theorem rwGo_fuel {n : Nat} {ct : List Rb} (hg : ∀ j, GdR n j (ct.getD j zR)) : ∀ (k k' : Nat) (x : Int), RNx n x → rfar n x ≤ k → rfar n x ≤ k' → rwGo ct k x = rwGo ct k' x
  | 0, 0, _, _, _, _ => rfl
  | 0, k' + 1, x, hx, h, _ => by
    simp only [rwGo]
    rcases hx.out with rfl | ⟨m, rfl, h1, h2⟩
    · simp
    · unfold rfar at h; rw [if_pos (by omega)] at h; omega
  | k + 1, 0, x, hx, _, h => by
    simp only [rwGo]
    rcases hx.out with rfl | ⟨m, rfl, h1, h2⟩
    · simp
    · unfold rfar at h; rw [if_pos (by omega)] at h; omega
  | k + 1, k' + 1, x, hx, h, h' => by
    simp only [rwGo]
    split
    · rcases hx.out with rfl | ⟨m, rfl, h1, h2⟩
      · omega
      · rw [Int.toNat_natCast]
        obtain ⟨q1, q2⟩ := RNx.next hg h1 h2
        rw [rwGo_fuel hg k k' _ q1 (by omega) (by omega)]
    · rfl
theorem rway_step {n : Nat} {ct : List Rb} {m : Nat} (hg : ∀ j, GdR n j (ct.getD j zR)) (h0 : 0 < m) (hm : m ≤ n) : rway n ct (m : Int) = (m : Int) :: rway n ct (ct.getD m zR).next := by
  obtain ⟨q1, q2⟩ := RNx.next hg h0 hm
  unfold rway
  obtain ⟨k, hk⟩ : ∃ k, rfar n (m : Int) = k + 1 := ⟨rfar n (m : Int) - 1, by omega⟩
  rw [hk]
  simp only [rwGo, Int.toNat_natCast]
  rw [if_pos (by omega), rwGo_fuel hg k _ _ q1 (by omega) (Nat.le_refl _)]
theorem rway_end (n : Nat) (ct : List Rb) {x : Int} (h : ¬ 0 < x) : rway n ct x = [] := by
  unfold rway rfar; rw [if_neg h]; rfl
theorem rwGo_len (ct : List Rb) : ∀ (k : Nat) (x : Int), (rwGo ct k x).length ≤ k
  | 0, _ => by simp [rwGo]
  | k + 1, x => by
    simp only [rwGo]
    split
    · have := rwGo_len ct k (ct.getD x.toNat zR).next
      simp only [List.length_cons]; omega
    · simp
theorem rwGo_mem {n : Nat} {ct : List Rb} (hg : ∀ j, GdR n j (ct.getD j zR)) : ∀ (k : Nat) (x : Int), RNx n x → ∀ y ∈ rwGo ct k x, 0 < y ∧ y ≤ n
  | 0, _, _, y, hy => by simp [rwGo] at hy
  | k + 1, x, hx, y, hy => by
    simp only [rwGo] at hy
    split at hy
    · rcases hx.out with rfl | ⟨m, rfl, h1, h2⟩
      · omega
      · rcases List.mem_cons.1 hy with rfl | hy
        · omega
        · rw [Int.toNat_natCast] at hy
          exact rwGo_mem hg k _ (RNx.next hg h1 h2).1 y hy
    · cases hy
def rwayL (l : List Part) (width : Int) : List Int := rway l.length (rtab l width) ((rtab l width).getD 0 zR).next
theorem rtab_gd {l : List Part} {width : Int} (hs : Small l) (hw : width ≤ 200) (j : Nat) : GdR l.length j ((rtab l width).getD j zR) := rt_gd hs hw _ j (Nat.le_refl _) (by omega)
theorem rnx0 {l : List Part} {width : Int} (hs : Small l) (hw : width ≤ 200) : RNx l.length ((rtab l width).getD 0 zR).next :=
  ⟨(rtab_gd hs hw 0).n0.imp (fun h => h) fun ⟨m, h1, h2, h3⟩ => ⟨m, h1, h2, h3⟩⟩
theorem rwayL_mem {l : List Part} {width : Int} (hs : Small l) (hw : width ≤ 200) : ∀ y ∈ rwayL l width, 0 < y ∧ y ≤ l.length := rwGo_mem (rtab_gd hs hw) _ _ (rnx0 hs hw)
theorem rwayL_len (l : List Part) (width : Int) : (rwayL l width).length ≤ l.length + 1 := by
  unfold rwayL rway
  refine Nat.le_trans (rwGo_len _ _ _) ?_
  unfold rfar; split <;> omega
/-- The document's answer. -/
def rwrapOut (l : List Part) (width : Int) : List (Int × Int) := (rwayL l width).map fun x => (placeP (l.map pcOf) x.toNat, (kindsP (l.map pcOf)).getD x.toNat 0)
def rwrapL (s : ByteArray) (width : Int) : List (Int × Int) := if checkN s.size width = 0 then rwrapOut (parts s) width else []
def rwrapB (s : ByteArray) (width : Int) : Int := if checkN s.size width = 0 then ((rtab (parts s) width).getD 0 zR).bad else 0
/-- The document's places, those up to cluster i told. -/
def routTo (l : List Pc) (i : Nat) : List (Int × Int) := ((List.range i).filter fun i => decide (0 < i) && decide (0 < (kindsP l).getD i 0)).map fun i => (placeP l i, (kindsP l).getD i 0)
theorem routTo_no {l : List Pc} {i : Nat} (h : ¬ 0 < (kindsP l).getD i 0) : routTo l (i + 1) = routTo l i := by
  simp only [routTo, List.range_succ, List.filter_append, List.filter_cons, List.filter_nil]
  rw [decide_eq_false h]; simp
theorem routTo_yes {l : List Pc} {i : Nat} (h0 : 0 < i) (h : 0 < (kindsP l).getD i 0) : routTo l (i + 1) = routTo l i ++ [(placeP l i, (kindsP l).getD i 0)] := by
  simp only [routTo, List.range_succ, List.filter_append, List.filter_cons, List.filter_nil]
  rw [decide_eq_true h, decide_eq_true h0]; simp
theorem routTo_len (l : List Pc) (i : Nat) : (routTo l i).length ≤ i := by
  simp only [routTo, List.length_map]
  exact Nat.le_trans (List.length_filter_le _ _) (by simp)
theorem wayGo_lt {N : Nat} {ws : List Bst} (hg : ∀ j, Gd N ws j (ws.getD j zB)) : ∀ (f : Nat) (n : Int), Nx N ws n → ∀ x ∈ wayGo ws f n, x < N
  | 0, _, _, x, hx => by simp [wayGo] at hx
  | f + 1, n, hn, x, hx => by
    simp only [wayGo] at hx
    split at hx
    · rcases hn.out with rfl | ⟨m, rfl, hm, hok⟩
      · omega
      · have e : ((m : Int) + 1).toNat = m + 1 := by omega
        rw [e, Int.toNat_natCast] at hx
        rcases List.mem_cons.1 hx with rfl | hx
        · exact hm
        · exact wayGo_lt hg f _ (Nx.next hg hok hm).1 x hx
    · cases hx
theorem wayL_lt {l : List Part} {width : Int} (hg : ∀ j, Gd (plcs l (l.length + 1)).length (tabOf l width) j ((tabOf l width).getD j zB)) (hok : ((tabOf l width).getD 0 zB).ok = true) : ∀ x ∈ wayL l width, x < (plcs l (l.length + 1)).length :=
  wayGo_lt hg _ _ ⟨((hg 0).nx hok).imp (fun h => h) fun ⟨n, h1, _, h3, h4⟩ => ⟨n, h1, h3, h4⟩⟩
section
variable {l : List Part} {width : Int}
/-- The ways are alike. -/
theorem way_eq (hS : Small l) (hw1 : 2 ≤ width) (hw2 : width ≤ 200) : ∀ (d : Nat) (x y : Int), far (plcs l (l.length + 1)).length x ≤ d → NxA (plcs l (l.length + 1)) x y → Nx (plcs l (l.length + 1)).length (tabOf l width) x →
    rway l.length (rtab l width) y = (wayOf (plcs l (l.length + 1)).length (tabOf l width) x).map fun m => (((plcs l (l.length + 1)).getD m 0 : Nat) : Int)
  | d, x, y, hd, hxy, hx => by
    rcases hxy with ⟨rfl, rfl⟩ | ⟨m, rfl, hm, rfl⟩
    · rw [wayOf_end _ _ (by omega), rway_end _ _ (by omega)]; rfl
    · obtain ⟨d', rfl⟩ : ∃ d', d = d' + 1 := by
        refine ⟨d - 1, ?_⟩
        unfold far at hd
        rw [if_pos (by omega)] at hd
        omega
      have hg := fun j => tabOf_gd (l := l) (width := width) hS hw2 j
      have hrg := fun j => rtab_gd (l := l) (width := width) hS hw2 j
      have hok := tabOf_ok (l := l) (width := width) hS hw1 (j := m + 1) (by omega)
      obtain ⟨h1, h2⟩ := Nx.next hg hok hm
      obtain ⟨p1, p2, p3⟩ := plcs_le hm
      have hb := (both_eq (width := width) hS hw1 (k := m + 1) (by omega)).2.2
      rw [posn_succ] at hb
      rw [wayOf_step hg hok hm, rway_step hrg p2 (by omega), List.map_cons, way_eq hS hw1 hw2 d' _ _ (by omega) hb h1]
theorem rwayL_eq (hS : Small l) (hw1 : 2 ≤ width) (hw2 : width ≤ 200) : rwayL l width = (wayL l width).map fun m => (((plcs l (l.length + 1)).getD m 0 : Nat) : Int) := by
  have hok := tabOf_ok (l := l) (width := width) hS hw1 (j := 0) (Nat.zero_le _)
  have hb := (both_eq (width := width) hS hw1 (k := 0) (Nat.zero_le _)).2.2
  have h0 : posn (plcs l (l.length + 1)) 0 = 0 := rfl
  rw [h0] at hb
  exact way_eq hS hw1 hw2 _ _ _ (Nat.le_refl _) hb ⟨((tabOf_gd hS hw2 0).nx hok).imp (fun h => h) fun ⟨n, h1, _, h3, h4⟩ => ⟨n, h1, h3, h4⟩⟩
theorem bad_eq (hS : Small l) (hw1 : 2 ≤ width) : ((tabOf l width).getD 0 zB).bad = ((rtab l width).getD 0 zR).bad := (both_eq (width := width) hS hw1 (k := 0) (Nat.zero_le _)).1
end
/-- Clusters, one behind the other. -/
inductive Chn : Int → List Clu → Prop
  | nil {x : Int} : Chn x []
  | cons {x : Int} {c : Clu} {l : List Clu} (hx : c.frm = x) (h : Chn c.to l) : Chn x (c :: l)
theorem remGo_chn (l a : List Int) : ∀ (k f t : Nat), Chn (f : Int) (remGo l a k f t)
  | 0, f, t => Chn.cons (c := (gAt l a f t).c) rfl .nil
  | k + 1, f, t => by
    simp only [remGo]
    split
    · split
      · exact remGo_chn l a k f (t + 1)
      · exact Chn.cons (c := (gAt l a f t).c) rfl (remGo_chn l a k t (t + 1))
    · exact Chn.cons (c := (gAt l a f t).c) rfl .nil
theorem Chn.at {x : Int} {l : List Clu} (h : Chn x l) (d : Clu) : ∀ i, i + 1 < l.length → (l.getD (i + 1) d).frm = (l.getD i d).to := by
  induction h with
  | nil => intro i hi; simp at hi
  | @cons x c l hx h ih =>
    intro i hi
    cases i with
    | zero =>
      cases h with
      | nil => simp at hi
      | cons hx2 _ => exact hx2
    | succ i => exact ih i (by simpa using hi)
theorem clusters_chn (s : ByteArray) : Chn 0 (clusters s) := by
  rw [clusters_rem]
  split
  · exact remGo_chn _ _ _ 0 1
  · exact .nil
theorem parts_chn (s : ByteArray) {i : Nat} (h0 : 0 < i) (hi : i < (parts s).length) : ((parts s).getD i dPart).c.frm = ((parts s).getD (i - 1) dPart).c.to := by
  have hlen : (parts s).length = (clusters s).length := by simp [parts]
  have e : ∀ j, j < (clusters s).length → ((parts s).getD j dPart).c = (clusters s).getD j ⟨0, 0, 0, 0, 0⟩ := fun j hj => by
    simp [parts, List.getD_eq_getElem?_getD, hj]; rfl
  rw [e i (by omega), e (i - 1) (by omega)]
  have := (clusters_chn s).at ⟨0, 0, 0, 0, 0⟩ (i - 1) (by omega)
  rwa [show i - 1 + 1 = i by omega] at this
theorem place_eq (s : ByteArray) {i : Nat} (h0 : 0 < i) (hi : i ≤ (parts s).length) : placeP ((parts s).map pcOf) i = ((parts s).getD (i - 1) dPart).c.to := by
  unfold placeP
  rw [List.length_map]
  by_cases h : i = (parts s).length
  · rw [if_pos h, pc_at]; rfl
  · rw [if_neg h, pc_at]
    exact parts_chn s h0 (by omega)
theorem kinds_eq {l : List Part} (hT : ∀ p ∈ l, Told p) {i : Nat} (h0 : 0 < i) (hi : i ≤ l.length) : (kindsP (l.map pcOf)).getD i 0 = kindAt l i := by
  rw [kindsP_get h0 (by simpa using hi)]
  exact kindP_eq hT h0 hi
/-- **The document breaks a text as the program does.** -/
theorem wrap_eq {s : ByteArray} {width : Int} (hw1 : 2 ≤ width) (hw2 : width ≤ 200) : wrapOut (parts s) width = rwrapOut (parts s) width := by
  have hS := parts_small s
  unfold wrapOut rwrapOut
  rw [rwayL_eq hS hw1 hw2, List.map_map]
  refine List.map_congr_left fun n hn => ?_
  have hg := fun j => tabOf_gd (l := parts s) (width := width) hS hw2 j
  have hlt : n < (plcs (parts s) ((parts s).length + 1)).length := wayL_lt hg (tabOf_ok hS hw1 (Nat.zero_le _)) n hn
  obtain ⟨p1, p2, p3⟩ := plcs_le hlt
  rw [outL_getD hlt]
  simp only [Function.comp_apply, Int.toNat_natCast]
  rw [place_eq s p2 (by omega), kinds_eq (parts_told s) p2 (by omega)]
/-- **The document's places are the program's.** -/
theorem places_eq (s : ByteArray) : outL (parts s) ((parts s).length + 1) = routTo (pcs s) ((pcs s).length + 1) := by
  have hpc : pcs s = (parts s).map pcOf := rfl
  have hml : ((parts s).map pcOf).length = (parts s).length := by simp
  unfold outL routTo plcs
  rw [hpc, hml]
  have hfilt : (List.range ((parts s).length + 1)).filter (fun i => decide (0 < i) && decide (kindAt (parts s) i ≠ 0)) = (List.range ((parts s).length + 1)).filter (fun i => decide (0 < i) && decide (0 < (kindsP ((parts s).map pcOf)).getD i 0)) := by
    refine List.filter_congr fun i hi => ?_
    have hi := List.mem_range.1 hi
    by_cases h0 : 0 < i
    · rw [kinds_eq (parts_told s) h0 (by omega)]
      have := kindAt_cases (parts s) i
      congr 1
      rw [decide_eq_decide]
      omega
    · rw [decide_eq_false h0]; rfl
  rw [hfilt]
  refine List.map_congr_left fun i hi => ?_
  obtain ⟨h1, h2⟩ := List.mem_filter.1 hi
  have h1 := List.mem_range.1 h1
  simp only [Bool.and_eq_true, decide_eq_true_eq] at h2
  rw [place_eq s h2.1 (by omega), kinds_eq (parts_told s) h2.1 (by omega)]
end Go.SX.Plain
/- Contracts of the document's way, Wrap, Places; of the program's Places; of the law's Same, head. -/
namespace Go.SX.Try
open Go.Proofs Go.Proofs.Try Go.SX.Plain
set_option maxRecDepth 100000
set_option maxHeartbeats 0
set_option linter.unusedSimpArgs false
theorem q_way : fact 47 f47 := ⟨by kernel_rfl, rfl, by kernel_rfl⟩
theorem q_rwrap : fact 14 f14 := ⟨by kernel_rfl, rfl, by kernel_rfl⟩
def D_way : Cds := [(3, ⟨Int, C_int⟩), (92, ⟨Int × Int, C_brk⟩)]
theorem D_way_ok : CdsOK T D_way := .cons ⟨fun _ => rfl, by decide, _, rfl, rfl, by decide⟩ (.cons ⟨fun _ => rfl, by decide, _, rfl, rfl, by decide⟩ .nil)
theorem con_way : Con prog 47 (fun ((l, width) : List Part × Int) => [.ro 4 C_pc.enc C_pc.d (l.map pcOf) none, .v (.int .i64 width)]) (fun (l, width) => .tup [.ro 1 C_int.enc C_int.d (rwayL l width) none, .v (.int .i64 ((rtab l width).getD 0 zR).bad)]) (fun (l, width) => OkL l ∧ 2 ≤ width ∧ width ≤ 200) := by
  refine Con.of (by kernel_rfl) T_ok D_way_ok (.con con_table .nil) 3 [] q_way.1 q_way.2.1 q_way.2.2 (fun _ => rfl) fun i hi => ?_
  obtain ⟨l, width⟩ := i
  have hi2 := hi
  obtain ⟨⟨hT, hS, hlen⟩, hw1, hw2⟩ : OkL l ∧ 2 ≤ width ∧ width ≤ 200 := hi
  have hrl : (rtab l width).length = l.length + 1 := rt_len _ _ _
  repeat' (first | (with_reducible refine ⟨(_, _), ⟨(.cons (.ro _ _ _ _ _) (.cons (.v _) .nil)), ?_⟩, ?_⟩) | (with_reducible exact fun h => h) | (with_reducible refine And.intro ?_ ?_) | ((with_reducible intro hq); first | (exact bne1 hq (by with_reducible assumption)) | (exact bne1 (by with_reducible assumption) hq) | ((simp only [*, Bool.and_true, Bool.true_and, Bool.and_false, Bool.false_and, Bool.or_true, Bool.true_or, Bool.or_false, Bool.false_or, Bool.not_true, Bool.not_false, Bool.true_eq_false, Bool.false_eq_true, cond_true, cond_false, Bool.cond_self, reduceCtorEq] at hq); done) | (revert hq; with_reducible intro _)) | (with_reducible exact True.intro) | (with_reducible rfl) | ((with_reducible refine WkX.chk ?_); (conv => whnf)) | ((with_reducible refine Wk.chk ?_); (conv => whnf)) | (with_reducible refine EntLe.row ?_) | (with_reducible exact LeN.ro rfl) | (with_reducible exact LeN.rptr) | ((with_reducible refine LeL.chk ?_); (conv => whnf)) | ((with_reducible show LeO _ _); (first | (refine LeO.ro ?_) | (refine LeO.roCap ?_) | (refine LeO.nil ?_ (fun _ => rfl)))) | ((with_reducible show LeR _ _ _); (first | (refine LeR.own rfl rfl rfl ?_) | (refine LeR.ro ?_) | (refine LeR.roCap ?_) | (refine LeR.nil ?_ (fun _ => rfl)))) | ((with_reducible refine LeF.chk ?_); (conv => whnf)) | (with_reducible assumption) | ((with_reducible refine Run.mk ?_); (conv => whnf)) | ((with_reducible show drawOK _ _ = true); kernel_rfl) | ((with_reducible show drawOK2 _ _ = true); kernel_rfl) | ((with_reducible show drawOK3 _ _ = true); kernel_rfl))
  · exact hi2.1
  · omega
  · rw [hrl]; omega
  have hg := fun j => rtab_gd (l := l) (width := width) hS hw2 j
  have hwl := rwayL_len l width
  have e5 : C_rb.d = zR := rfl
  refine loopI (Int × List Int) [] (fun | (x, _) => [(8, .v (.int .i64 x)), (7, .own 1)]) (fun | (_, o) => [(1, .row C_int o 3 none)])
    (fun | (x, o) => RNx l.length x ∧ o ++ rway l.length (rtab l width) x = rwayL l width) (fun | (x, _) => rfar l.length x) (((rtab l width).getD 0 zR).next, []) ⟨rnx0 hS hw2, rfl⟩ (Wk.chk ?_) fun i hi => ?_
  · ((conv => whnf); repeat' (first | (with_reducible exact fun h => h) | (with_reducible refine And.intro ?_ ?_) | ((with_reducible intro hq); first | (exact bne1 hq (by with_reducible assumption)) | (exact bne1 (by with_reducible assumption) hq) | ((simp only [*, Bool.and_true, Bool.true_and, Bool.and_false, Bool.false_and, Bool.or_true, Bool.true_or, Bool.or_false, Bool.false_or, Bool.not_true, Bool.not_false, Bool.true_eq_false, Bool.false_eq_true, cond_true, cond_false, Bool.cond_self, reduceCtorEq] at hq); done) | (revert hq; with_reducible intro _)) | (with_reducible exact True.intro) | (with_reducible rfl) | ((with_reducible refine WkX.chk ?_); (conv => whnf)) | ((with_reducible refine Wk.chk ?_); (conv => whnf)) | (with_reducible refine EntLe.row ?_) | (with_reducible exact LeN.ro rfl) | (with_reducible exact LeN.rptr) | ((with_reducible refine LeL.chk ?_); (conv => whnf)) | ((with_reducible show LeO _ _); (first | (refine LeO.ro ?_) | (refine LeO.roCap ?_) | (refine LeO.nil ?_ (fun _ => rfl)))) | ((with_reducible show LeR _ _ _); (first | (refine LeR.own rfl rfl rfl ?_) | (refine LeR.ro ?_) | (refine LeR.roCap ?_) | (refine LeR.nil ?_ (fun _ => rfl)))) | ((with_reducible refine LeF.chk ?_); (conv => whnf)) | (with_reducible assumption) | ((with_reducible refine Run.mk ?_); (conv => whnf)) | ((with_reducible show drawOK _ _ = true); kernel_rfl) | ((with_reducible show drawOK2 _ _ = true); kernel_rfl) | ((with_reducible show drawOK3 _ _ = true); kernel_rfl)))
    all_goals rfl
  obtain ⟨x, o⟩ := i
  obtain ⟨hx, ho⟩ := hi
  rcases hx.out with hx1 | ⟨m, hx1, hx2, hx3⟩
  · subst hx1
    rw [rway_end _ _ (by omega), List.append_nil] at ho
    repeat' (first | (with_reducible exact fun h => h) | (with_reducible refine And.intro ?_ ?_) | ((with_reducible intro hq); first | (exact bne1 hq (by with_reducible assumption)) | (exact bne1 (by with_reducible assumption) hq) | ((simp only [*, Bool.and_true, Bool.true_and, Bool.and_false, Bool.false_and, Bool.or_true, Bool.true_or, Bool.or_false, Bool.false_or, Bool.not_true, Bool.not_false, Bool.true_eq_false, Bool.false_eq_true, cond_true, cond_false, Bool.cond_self, reduceCtorEq] at hq); done) | (revert hq; with_reducible intro _)) | (with_reducible exact True.intro) | (with_reducible rfl) | ((with_reducible refine WkX.chk ?_); (conv => whnf)) | ((with_reducible refine Wk.chk ?_); (conv => whnf)) | (with_reducible refine EntLe.row ?_) | (with_reducible exact LeN.ro rfl) | (with_reducible exact LeN.rptr) | ((with_reducible refine LeL.chk ?_); (conv => whnf)) | ((with_reducible show LeO _ _); (first | (refine LeO.ro ?_) | (refine LeO.roCap ?_) | (refine LeO.nil ?_ (fun _ => rfl)))) | ((with_reducible show LeR _ _ _); (first | (refine LeR.own rfl rfl rfl ?_) | (refine LeR.ro ?_) | (refine LeR.roCap ?_) | (refine LeR.nil ?_ (fun _ => rfl)))) | ((with_reducible refine LeF.chk ?_); (conv => whnf)) | (with_reducible assumption) | ((with_reducible refine Run.mk ?_); (conv => whnf)) | ((with_reducible show drawOK _ _ = true); kernel_rfl) | ((with_reducible show drawOK2 _ _ = true); kernel_rfl) | ((with_reducible show drawOK3 _ _ = true); kernel_rfl))
    all_goals first
      | omega
      | (exfalso; have h : decide ((0 : Int) < 0) = true := by assumption
         exact absurd h (by decide))
      | (rw [hrl]; omega)
      | exact ho
      | rfl
  · subst hx1
    obtain ⟨hn1, hn2⟩ := RNx.next hg hx2 hx3
    rw [rway_step hg hx2 hx3, List.append_cons] at ho
    have hol : o.length + 1 ≤ l.length + 1 := by rw [← ho] at hwl; simp at hwl; omega
    have e1 : ((m : Int)).toNat = m := Int.toNat_natCast _
    repeat' (first | (with_reducible refine ex_of (α := Int × List Int) (_, _) ⟨⟨hn1, ho⟩, hn2⟩ ?_) | (with_reducible exact fun h => h) | (with_reducible refine And.intro ?_ ?_) | ((with_reducible intro hq); first | (exact bne1 hq (by with_reducible assumption)) | (exact bne1 (by with_reducible assumption) hq) | ((simp only [*, Bool.and_true, Bool.true_and, Bool.and_false, Bool.false_and, Bool.or_true, Bool.true_or, Bool.or_false, Bool.false_or, Bool.not_true, Bool.not_false, Bool.true_eq_false, Bool.false_eq_true, cond_true, cond_false, Bool.cond_self, reduceCtorEq] at hq); done) | (revert hq; with_reducible intro _)) | (with_reducible exact True.intro) | (with_reducible rfl) | ((with_reducible refine WkX.chk ?_); (conv => whnf)) | ((with_reducible refine Wk.chk ?_); (conv => whnf)) | (with_reducible refine EntLe.row ?_) | (with_reducible exact LeN.ro rfl) | (with_reducible exact LeN.rptr) | ((with_reducible refine LeL.chk ?_); (conv => whnf)) | ((with_reducible show LeO _ _); (first | (refine LeO.ro ?_) | (refine LeO.roCap ?_) | (refine LeO.nil ?_ (fun _ => rfl)))) | ((with_reducible show LeR _ _ _); (first | (refine LeR.own rfl rfl rfl ?_) | (refine LeR.ro ?_) | (refine LeR.roCap ?_) | (refine LeR.nil ?_ (fun _ => rfl)))) | ((with_reducible refine LeF.chk ?_); (conv => whnf)) | (with_reducible assumption) | ((with_reducible refine Run.mk ?_); (conv => whnf)) | ((with_reducible show drawOK _ _ = true); kernel_rfl) | ((with_reducible show drawOK2 _ _ = true); kernel_rfl) | ((with_reducible show drawOK3 _ _ = true); kernel_rfl))
    all_goals first
      | omega
      | (exfalso; have h : decide ((0 : Int) < (m : Int)) = false := by assumption
         simp at h; omega)
      | (rw [hrl]; omega)
      | rfl
      | (simp only [List.length_cons, List.length_nil]; omega)
theorem okParts {s : ByteArray} {width : Int} (h : checkN s.size width = 0) : OkL (Plain.parts s) ∧ 2 ≤ width ∧ width ≤ 200 ∧ s.size ≤ 4096 := by
  have hl := parts_len s
  unfold checkN at h
  split at h
  · cases h
  · split at h
    · cases h
    · exact ⟨⟨parts_told s, parts_small s, by omega⟩, by omega, by omega, by omega⟩
theorem con_rwrap : Con prog 14 (fun ((s, width) : ByteArray × Int) => [.v (.string s), .v (.int .i64 width)]) (fun (s, width) => .tup [.ro 2 C_brk.enc C_brk.d (rwrapL s width) none, .v (.int .i64 (rwrapB s width)), .v (.int .i64 (checkN s.size width))]) (fun _ => True) := by
  refine Con.of (by kernel_rfl) T_ok D_way_ok (.con con_rcheck (.con con_pieces (.con con_kinds (.con con_way (.con con_place .nil))))) 3 [] q_rwrap.1 q_rwrap.2.1 q_rwrap.2.2 (fun _ => rfl) fun i _ => ?_
  obtain ⟨s, width⟩ := i
  have hpc : pcs s = (Plain.parts s).map pcOf := rfl
  by_cases hck : checkN s.size width = 0
  · obtain ⟨hok, hw1, hw2, hsz⟩ := okParts hck
    have hL : rwrapL s width = rwrapOut (Plain.parts s) width := by unfold rwrapL; rw [if_pos hck]
    have hB : rwrapB s width = ((rtab (Plain.parts s) width).getD 0 zR).bad := by unfold rwrapB; rw [if_pos hck]
    have hnz : (checkN s.size width != 0) = false := by rw [hck]; rfl
    repeat' (first | (with_reducible refine ⟨(_, _), ⟨(.cons (.v _) (.cons (.v _) .nil)), ?_⟩, ?_⟩) | (with_reducible refine ⟨_, ⟨(.cons (.v _) .nil), ?_⟩, ?_⟩) | (with_reducible refine ⟨_, ⟨(.cons (.ro _ _ _ _ _) .nil), ?_⟩, ?_⟩) | (with_reducible refine ⟨(Plain.parts s, _), ⟨(.cons (.ro _ _ _ _ _) (.cons (.v _) .nil)), ?_⟩, ?_⟩) | (with_reducible exact fun h => h) | (with_reducible refine And.intro ?_ ?_) | ((with_reducible intro hq); first | (exact bne1 hq (by with_reducible assumption)) | (exact bne1 (by with_reducible assumption) hq) | ((simp only [*, Bool.and_true, Bool.true_and, Bool.and_false, Bool.false_and, Bool.or_true, Bool.true_or, Bool.or_false, Bool.false_or, Bool.not_true, Bool.not_false, Bool.true_eq_false, Bool.false_eq_true, cond_true, cond_false, Bool.cond_self, reduceCtorEq] at hq); done) | (revert hq; with_reducible intro _)) | (with_reducible exact True.intro) | (with_reducible rfl) | ((with_reducible refine WkX.chk ?_); (conv => whnf)) | ((with_reducible refine Wk.chk ?_); (conv => whnf)) | (with_reducible refine EntLe.row ?_) | (with_reducible exact LeN.ro rfl) | (with_reducible exact LeN.rptr) | ((with_reducible refine LeL.chk ?_); (conv => whnf)) | ((with_reducible show LeO _ _); (first | (refine LeO.ro ?_) | (refine LeO.roCap ?_) | (refine LeO.nil ?_ (fun _ => rfl)))) | ((with_reducible show LeR _ _ _); (first | (refine LeR.own rfl rfl rfl ?_) | (refine LeR.ro ?_) | (refine LeR.roCap ?_) | (refine LeR.nil ?_ (fun _ => rfl)))) | ((with_reducible refine LeF.chk ?_); (conv => whnf)) | (with_reducible assumption) | ((with_reducible refine Run.mk ?_); (conv => whnf)) | ((with_reducible show drawOK _ _ = true); kernel_rfl) | ((with_reducible show drawOK2 _ _ = true); kernel_rfl) | ((with_reducible show drawOK3 _ _ = true); kernel_rfl))
    · dsimp only; omega
    · have := parts_len s
      dsimp only; rw [hpc, List.length_map]; omega
    rw [hpc]
    revert hok hL hB
    generalize Plain.parts s = l
    intro hok hL hB
    have hkl := kindsP_len (l.map pcOf)
    have hml : (l.map pcOf).length = l.length := by simp
    rw [hml] at hkl
    have hrw := rwayL_len l width
    have hmem := rwayL_mem (width := width) hok.small hw2
    have hlen := hok.len
    refine loopI Nat [] (fun i => [(13, .v (.int .i64 (i : Int))), (12, .own 1)]) (fun i => [(1, .row C_brk ((rwrapOut l width).take i) 92 none)]) (fun i => i ≤ (rwayL l width).length) (fun i => (rwayL l width).length - i) 0 (Nat.zero_le _) (Wk.chk ?_) fun i hi => ?_
    · ((conv => whnf); repeat' (first | (with_reducible exact fun h => h) | (with_reducible refine And.intro ?_ ?_) | ((with_reducible intro hq); first | (exact bne1 hq (by with_reducible assumption)) | (exact bne1 (by with_reducible assumption) hq) | ((simp only [*, Bool.and_true, Bool.true_and, Bool.and_false, Bool.false_and, Bool.or_true, Bool.true_or, Bool.or_false, Bool.false_or, Bool.not_true, Bool.not_false, Bool.true_eq_false, Bool.false_eq_true, cond_true, cond_false, Bool.cond_self, reduceCtorEq] at hq); done) | (revert hq; with_reducible intro _)) | (with_reducible exact True.intro) | (with_reducible rfl) | ((with_reducible refine WkX.chk ?_); (conv => whnf)) | ((with_reducible refine Wk.chk ?_); (conv => whnf)) | (with_reducible refine EntLe.row ?_) | (with_reducible exact LeN.ro rfl) | (with_reducible exact LeN.rptr) | ((with_reducible refine LeL.chk ?_); (conv => whnf)) | ((with_reducible show LeO _ _); (first | (refine LeO.ro ?_) | (refine LeO.roCap ?_) | (refine LeO.nil ?_ (fun _ => rfl)))) | ((with_reducible show LeR _ _ _); (first | (refine LeR.own rfl rfl rfl ?_) | (refine LeR.ro ?_) | (refine LeR.roCap ?_) | (refine LeR.nil ?_ (fun _ => rfl)))) | ((with_reducible refine LeF.chk ?_); (conv => whnf)) | (with_reducible assumption) | ((with_reducible refine Run.mk ?_); (conv => whnf)) | ((with_reducible show drawOK _ _ = true); kernel_rfl) | ((with_reducible show drawOK2 _ _ = true); kernel_rfl) | ((with_reducible show drawOK3 _ _ = true); kernel_rfl)))
      all_goals rfl
    have e1 : ((i : Int)).toNat = i := Int.toNat_natCast _
    have e2 : C_int.d = 0 := rfl
    have htk : ((rwrapOut l width).take i).length ≤ i := List.length_take_le _ _
    have hy := fun (h : i < (rwayL l width).length) => hmem _ (getD_mem' (rwayL l width) 0 h)
    repeat' (first | (with_reducible refine ⟨(_, _), ⟨(.cons (.ro _ _ _ _ _) (.cons (.v _) .nil)), ?_⟩, ?_⟩) | (with_reducible refine ex_of (i + 1) ⟨?_, ?_⟩ ?_) | (with_reducible exact fun h => h) | (with_reducible refine And.intro ?_ ?_) | ((with_reducible intro hq); first | (exact bne1 hq (by with_reducible assumption)) | (exact bne1 (by with_reducible assumption) hq) | ((simp only [*, Bool.and_true, Bool.true_and, Bool.and_false, Bool.false_and, Bool.or_true, Bool.true_or, Bool.or_false, Bool.false_or, Bool.not_true, Bool.not_false, Bool.true_eq_false, Bool.false_eq_true, cond_true, cond_false, Bool.cond_self, reduceCtorEq] at hq); done) | (revert hq; with_reducible intro _)) | (with_reducible exact True.intro) | (with_reducible rfl) | ((with_reducible refine WkX.chk ?_); (conv => whnf)) | ((with_reducible refine Wk.chk ?_); (conv => whnf)) | (with_reducible refine EntLe.row ?_) | (with_reducible exact LeN.ro rfl) | (with_reducible exact LeN.rptr) | ((with_reducible refine LeL.chk ?_); (conv => whnf)) | ((with_reducible show LeO _ _); (first | (refine LeO.ro ?_) | (refine LeO.roCap ?_) | (refine LeO.nil ?_ (fun _ => rfl)))) | ((with_reducible show LeR _ _ _); (first | (refine LeR.own rfl rfl rfl ?_) | (refine LeR.ro ?_) | (refine LeR.roCap ?_) | (refine LeR.nil ?_ (fun _ => rfl)))) | ((with_reducible refine LeF.chk ?_); (conv => whnf)) | (with_reducible assumption) | ((with_reducible refine Run.mk ?_); (conv => whnf)) | ((with_reducible show drawOK _ _ = true); kernel_rfl) | ((with_reducible show drawOK2 _ _ = true); kernel_rfl) | ((with_reducible show drawOK3 _ _ = true); kernel_rfl))
    all_goals (try simp only [e1, e2, hml, hkl, decide_eq_true_eq, decide_eq_false_iff_not] at *)
    all_goals first
      | omega
      | (refine Fits.i64 ?_ ?_ <;> omega)
      | rfl
      | (simp only [List.length_cons, List.length_nil]; omega)
      | (unfold rwrapOut; exact take_map (fun x => (placeP (l.map pcOf) x.toNat, (kindsP (l.map pcOf)).getD x.toNat 0)) (rwayL l width) 0 (by omega))
      | (rw [hL]; exact take_map_all _ _ (by omega))
      | exact hB.symm
      | exact hck.symm
      | (have q := take_map (fun x => (placeP (l.map pcOf) x.toNat, (kindsP (l.map pcOf)).getD x.toNat 0)) (rwayL l width) 0 (i := i) (by omega)
         exact q)
  · have hnz : (checkN s.size width != 0) = true := by simpa using hck
    repeat' (first | (with_reducible refine ⟨(_, _), ⟨(.cons (.v _) (.cons (.v _) .nil)), ?_⟩, ?_⟩) | (with_reducible exact fun h => h) | (with_reducible refine And.intro ?_ ?_) | ((with_reducible intro hq); first | (exact bne1 hq (by with_reducible assumption)) | (exact bne1 (by with_reducible assumption) hq) | ((simp only [*, Bool.and_true, Bool.true_and, Bool.and_false, Bool.false_and, Bool.or_true, Bool.true_or, Bool.or_false, Bool.false_or, Bool.not_true, Bool.not_false, Bool.true_eq_false, Bool.false_eq_true, cond_true, cond_false, Bool.cond_self, reduceCtorEq] at hq); done) | (revert hq; with_reducible intro _)) | (with_reducible exact True.intro) | (with_reducible rfl) | ((with_reducible refine WkX.chk ?_); (conv => whnf)) | ((with_reducible refine Wk.chk ?_); (conv => whnf)) | (with_reducible refine EntLe.row ?_) | (with_reducible exact LeN.ro rfl) | (with_reducible exact LeN.rptr) | ((with_reducible refine LeL.chk ?_); (conv => whnf)) | ((with_reducible show LeO _ _); (first | (refine LeO.ro ?_) | (refine LeO.roCap ?_) | (refine LeO.nil ?_ (fun _ => rfl)))) | ((with_reducible show LeR _ _ _); (first | (refine LeR.own rfl rfl rfl ?_) | (refine LeR.ro ?_) | (refine LeR.roCap ?_) | (refine LeR.nil ?_ (fun _ => rfl)))) | ((with_reducible refine LeF.chk ?_); (conv => whnf)) | (with_reducible assumption) | ((with_reducible refine Run.mk ?_); (conv => whnf)) | ((with_reducible show drawOK _ _ = true); kernel_rfl) | ((with_reducible show drawOK2 _ _ = true); kernel_rfl) | ((with_reducible show drawOK3 _ _ = true); kernel_rfl))
    · unfold rwrapL; rw [if_neg hck]
    · unfold rwrapB; rw [if_neg hck]
theorem q_rplaces : fact 18 f18 := ⟨by kernel_rfl, rfl, by kernel_rfl⟩
theorem q_wplaces : fact 17 f17 := ⟨by kernel_rfl, rfl, by kernel_rfl⟩
theorem q_same : fact 15 f15 := ⟨by kernel_rfl, rfl, by kernel_rfl⟩
theorem q_head : fact 16 f16 := ⟨by kernel_rfl, rfl, by kernel_rfl⟩
theorem con_wplaces : Con prog 17 (fun s : ByteArray => [.v (.string s)]) (fun s => .ro 2 C_brk.enc C_brk.d (outL (Plain.parts s) ((Plain.parts s).length + 1)) none) (fun s => s.size ≤ 100000) := by
  refine Con.of (by kernel_rfl) T_ok D_way_ok (.con con_parts (.con con_places .nil)) 3 [] q_wplaces.1 q_wplaces.2.1 q_wplaces.2.2 (fun _ => rfl) fun s hs => ?_
  have hl := parts_len s
  repeat' (first | (with_reducible refine ⟨_, ⟨(.cons (.v _) .nil), ?_⟩, ?_⟩) | (with_reducible refine ⟨_, ⟨(.cons (.ro _ _ _ _ _) .nil), ?_⟩, ?_⟩) | (with_reducible exact fun h => h) | (with_reducible refine And.intro ?_ ?_) | ((with_reducible intro hq); first | (exact bne1 hq (by with_reducible assumption)) | (exact bne1 (by with_reducible assumption) hq) | ((simp only [*, Bool.and_true, Bool.true_and, Bool.and_false, Bool.false_and, Bool.or_true, Bool.true_or, Bool.or_false, Bool.false_or, Bool.not_true, Bool.not_false, Bool.true_eq_false, Bool.false_eq_true, cond_true, cond_false, Bool.cond_self, reduceCtorEq] at hq); done) | (revert hq; with_reducible intro _)) | (with_reducible exact True.intro) | (with_reducible rfl) | ((with_reducible refine WkX.chk ?_); (conv => whnf)) | ((with_reducible refine Wk.chk ?_); (conv => whnf)) | (with_reducible refine EntLe.row ?_) | (with_reducible exact LeN.ro rfl) | (with_reducible exact LeN.rptr) | ((with_reducible refine LeL.chk ?_); (conv => whnf)) | ((with_reducible show LeO _ _); (first | (refine LeO.ro ?_) | (refine LeO.roCap ?_) | (refine LeO.nil ?_ (fun _ => rfl)))) | ((with_reducible show LeR _ _ _); (first | (refine LeR.own rfl rfl rfl ?_) | (refine LeR.ro ?_) | (refine LeR.roCap ?_) | (refine LeR.nil ?_ (fun _ => rfl)))) | ((with_reducible refine LeF.chk ?_); (conv => whnf)) | (with_reducible assumption) | ((with_reducible refine Run.mk ?_); (conv => whnf)) | ((with_reducible show drawOK _ _ = true); kernel_rfl) | ((with_reducible show drawOK2 _ _ = true); kernel_rfl) | ((with_reducible show drawOK3 _ _ = true); kernel_rfl))
  all_goals first
    | exact hs
    | (dsimp only at *; omega)
    | rfl
theorem con_rplaces : Con prog 18 (fun s : ByteArray => [.v (.string s)]) (fun s => .ro 2 C_brk.enc C_brk.d (routTo (pcs s) ((pcs s).length + 1)) none) (fun s => s.size ≤ 100000) := by
  refine Con.of (by kernel_rfl) T_ok D_way_ok (.con con_pieces (.con con_kinds (.con con_place .nil))) 3 [] q_rplaces.1 q_rplaces.2.1 q_rplaces.2.2 (fun _ => rfl) fun s hs => ?_
  have hs : s.size ≤ 100000 := hs
  have hl : (pcs s).length ≤ s.size := by have := parts_len s; simp only [pcs, List.length_map]; omega
  repeat' (first | (with_reducible refine ⟨_, ⟨(.cons (.v _) .nil), ?_⟩, ?_⟩) | (with_reducible refine ⟨_, ⟨(.cons (.ro _ _ _ _ _) .nil), ?_⟩, ?_⟩) | (with_reducible exact fun h => h) | (with_reducible refine And.intro ?_ ?_) | ((with_reducible intro hq); first | (exact bne1 hq (by with_reducible assumption)) | (exact bne1 (by with_reducible assumption) hq) | ((simp only [*, Bool.and_true, Bool.true_and, Bool.and_false, Bool.false_and, Bool.or_true, Bool.true_or, Bool.or_false, Bool.false_or, Bool.not_true, Bool.not_false, Bool.true_eq_false, Bool.false_eq_true, cond_true, cond_false, Bool.cond_self, reduceCtorEq] at hq); done) | (revert hq; with_reducible intro _)) | (with_reducible exact True.intro) | (with_reducible rfl) | ((with_reducible refine WkX.chk ?_); (conv => whnf)) | ((with_reducible refine Wk.chk ?_); (conv => whnf)) | (with_reducible refine EntLe.row ?_) | (with_reducible exact LeN.ro rfl) | (with_reducible exact LeN.rptr) | ((with_reducible refine LeL.chk ?_); (conv => whnf)) | ((with_reducible show LeO _ _); (first | (refine LeO.ro ?_) | (refine LeO.roCap ?_) | (refine LeO.nil ?_ (fun _ => rfl)))) | ((with_reducible show LeR _ _ _); (first | (refine LeR.own rfl rfl rfl ?_) | (refine LeR.ro ?_) | (refine LeR.roCap ?_) | (refine LeR.nil ?_ (fun _ => rfl)))) | ((with_reducible refine LeF.chk ?_); (conv => whnf)) | (with_reducible assumption) | ((with_reducible refine Run.mk ?_); (conv => whnf)) | ((with_reducible show drawOK _ _ = true); kernel_rfl) | ((with_reducible show drawOK2 _ _ = true); kernel_rfl) | ((with_reducible show drawOK3 _ _ = true); kernel_rfl))
  · dsimp only; omega
  · dsimp only; omega
  generalize pcs s = l at hl ⊢
  have hkl := kindsP_len l
  refine loopI Nat [] (fun i => [(6, .v (.int .i64 (i : Int))), (5, .own 1)]) (fun i => [(1, .row C_brk (routTo l i) 92 none)]) (fun i => 1 ≤ i ∧ i ≤ l.length + 1) (fun i => l.length + 1 - i) 1 ⟨by omega, by omega⟩ (Wk.chk ?_) fun i hi => ?_
  · ((conv => whnf); repeat' (first | (with_reducible exact fun h => h) | (with_reducible refine And.intro ?_ ?_) | ((with_reducible intro hq); first | (exact bne1 hq (by with_reducible assumption)) | (exact bne1 (by with_reducible assumption) hq) | ((simp only [*, Bool.and_true, Bool.true_and, Bool.and_false, Bool.false_and, Bool.or_true, Bool.true_or, Bool.or_false, Bool.false_or, Bool.not_true, Bool.not_false, Bool.true_eq_false, Bool.false_eq_true, cond_true, cond_false, Bool.cond_self, reduceCtorEq] at hq); done) | (revert hq; with_reducible intro _)) | (with_reducible exact True.intro) | (with_reducible rfl) | ((with_reducible refine WkX.chk ?_); (conv => whnf)) | ((with_reducible refine Wk.chk ?_); (conv => whnf)) | (with_reducible refine EntLe.row ?_) | (with_reducible exact LeN.ro rfl) | (with_reducible exact LeN.rptr) | ((with_reducible refine LeL.chk ?_); (conv => whnf)) | ((with_reducible show LeO _ _); (first | (refine LeO.ro ?_) | (refine LeO.roCap ?_) | (refine LeO.nil ?_ (fun _ => rfl)))) | ((with_reducible show LeR _ _ _); (first | (refine LeR.own rfl rfl rfl ?_) | (refine LeR.ro ?_) | (refine LeR.roCap ?_) | (refine LeR.nil ?_ (fun _ => rfl)))) | ((with_reducible refine LeF.chk ?_); (conv => whnf)) | (with_reducible assumption) | ((with_reducible refine Run.mk ?_); (conv => whnf)) | ((with_reducible show drawOK _ _ = true); kernel_rfl) | ((with_reducible show drawOK2 _ _ = true); kernel_rfl) | ((with_reducible show drawOK3 _ _ = true); kernel_rfl)))
    all_goals rfl
  obtain ⟨h1, h2⟩ := hi
  have e1 : ((i : Int)).toNat = i := Int.toNat_natCast _
  have e2 : C_int.d = 0 := rfl
  have htk := routTo_len l i
  repeat' (first | (with_reducible refine ⟨(_, _), ⟨(.cons (.ro _ _ _ _ _) (.cons (.v _) .nil)), ?_⟩, ?_⟩) | (with_reducible refine ex_of (i + 1) ⟨⟨?_, ?_⟩, ?_⟩ ?_) | (with_reducible exact fun h => h) | (with_reducible refine And.intro ?_ ?_) | ((with_reducible intro hq); first | (exact bne1 hq (by with_reducible assumption)) | (exact bne1 (by with_reducible assumption) hq) | ((simp only [*, Bool.and_true, Bool.true_and, Bool.and_false, Bool.false_and, Bool.or_true, Bool.true_or, Bool.or_false, Bool.false_or, Bool.not_true, Bool.not_false, Bool.true_eq_false, Bool.false_eq_true, cond_true, cond_false, Bool.cond_self, reduceCtorEq] at hq); done) | (revert hq; with_reducible intro _)) | (with_reducible exact True.intro) | (with_reducible rfl) | ((with_reducible refine WkX.chk ?_); (conv => whnf)) | ((with_reducible refine Wk.chk ?_); (conv => whnf)) | (with_reducible refine EntLe.row ?_) | (with_reducible exact LeN.ro rfl) | (with_reducible exact LeN.rptr) | ((with_reducible refine LeL.chk ?_); (conv => whnf)) | ((with_reducible show LeO _ _); (first | (refine LeO.ro ?_) | (refine LeO.roCap ?_) | (refine LeO.nil ?_ (fun _ => rfl)))) | ((with_reducible show LeR _ _ _); (first | (refine LeR.own rfl rfl rfl ?_) | (refine LeR.ro ?_) | (refine LeR.roCap ?_) | (refine LeR.nil ?_ (fun _ => rfl)))) | ((with_reducible refine LeF.chk ?_); (conv => whnf)) | (with_reducible assumption) | ((with_reducible refine Run.mk ?_); (conv => whnf)) | ((with_reducible show drawOK _ _ = true); kernel_rfl) | ((with_reducible show drawOK2 _ _ = true); kernel_rfl) | ((with_reducible show drawOK3 _ _ = true); kernel_rfl))
  all_goals (try simp only [e1, e2, hkl, decide_eq_true_eq, decide_eq_false_iff_not] at *)
  all_goals first
    | omega
    | (refine Fits.i64 ?_ ?_ <;> omega)
    | rfl
    | (simp only [List.length_cons, List.length_nil]; omega)
    | (rw [routTo_yes (by omega) (by assumption)]; rfl)
    | (rw [routTo_no (by assumption)]; done)
    | (have : i = l.length + 1 := by omega
       subst this; rfl)
def sameB (a b : List (Int × Int)) : Bool := decide (a = b)
theorem con_same : Con prog 15 (fun ((a, b) : List (Int × Int) × List (Int × Int)) => [.ro 2 C_brk.enc C_brk.d a none, .ro 2 C_brk.enc C_brk.d b none]) (fun (a, b) => .sb (decide (a = b))) (fun (a, b) => a.length ≤ 1000000) := by
  refine Con.of (by kernel_rfl) T_ok D_way_ok .nil 3 [] q_same.1 q_same.2.1 q_same.2.2 (fun _ => rfl) fun i hi => ?_
  obtain ⟨a, b⟩ := i
  have hi : a.length ≤ 1000000 := hi
  have e0 : ((a.length : Int) != (b.length : Int)) = !decide (a.length = b.length) := by rw [bne, natBeq]
  repeat' (first | (with_reducible exact fun h => h) | (with_reducible refine And.intro ?_ ?_) | ((with_reducible intro hq); first | (exact bne1 hq (by with_reducible assumption)) | (exact bne1 (by with_reducible assumption) hq) | ((simp only [*, Bool.and_true, Bool.true_and, Bool.and_false, Bool.false_and, Bool.or_true, Bool.true_or, Bool.or_false, Bool.false_or, Bool.not_true, Bool.not_false, Bool.true_eq_false, Bool.false_eq_true, cond_true, cond_false, Bool.cond_self, reduceCtorEq] at hq); done) | (revert hq; with_reducible intro _)) | (with_reducible exact True.intro) | (with_reducible rfl) | ((with_reducible refine WkX.chk ?_); (conv => whnf)) | ((with_reducible refine Wk.chk ?_); (conv => whnf)) | (with_reducible refine EntLe.row ?_) | (with_reducible exact LeN.ro rfl) | (with_reducible exact LeN.rptr) | ((with_reducible refine LeL.chk ?_); (conv => whnf)) | ((with_reducible show LeO _ _); (first | (refine LeO.ro ?_) | (refine LeO.roCap ?_) | (refine LeO.nil ?_ (fun _ => rfl)))) | ((with_reducible show LeR _ _ _); (first | (refine LeR.own rfl rfl rfl ?_) | (refine LeR.ro ?_) | (refine LeR.roCap ?_) | (refine LeR.nil ?_ (fun _ => rfl)))) | ((with_reducible refine LeF.chk ?_); (conv => whnf)) | (with_reducible assumption) | ((with_reducible refine Run.mk ?_); (conv => whnf)) | ((with_reducible show drawOK _ _ = true); kernel_rfl) | ((with_reducible show drawOK2 _ _ = true); kernel_rfl) | ((with_reducible show drawOK3 _ _ = true); kernel_rfl))
  · rename_i h
    rw [e0] at h
    symm
    refine decide_eq_false ?_
    rintro rfl
    simp at h
  rename_i h
  rw [e0] at h
  have hab : a.length = b.length := by simpa using h
  refine loopI Nat [] (fun i => [(5, .v (.int .i64 (i : Int)))]) (fun _ => []) (fun i => i ≤ a.length ∧ a.take i = b.take i) (fun i => a.length - i) 0 ⟨Nat.zero_le _, rfl⟩ (Wk.chk ?_) fun i hi => ?_
  · ((conv => whnf); repeat' (first | (with_reducible exact fun h => h) | (with_reducible refine And.intro ?_ ?_) | ((with_reducible intro hq); first | (exact bne1 hq (by with_reducible assumption)) | (exact bne1 (by with_reducible assumption) hq) | ((simp only [*, Bool.and_true, Bool.true_and, Bool.and_false, Bool.false_and, Bool.or_true, Bool.true_or, Bool.or_false, Bool.false_or, Bool.not_true, Bool.not_false, Bool.true_eq_false, Bool.false_eq_true, cond_true, cond_false, Bool.cond_self, reduceCtorEq] at hq); done) | (revert hq; with_reducible intro _)) | (with_reducible exact True.intro) | (with_reducible rfl) | ((with_reducible refine WkX.chk ?_); (conv => whnf)) | ((with_reducible refine Wk.chk ?_); (conv => whnf)) | (with_reducible refine EntLe.row ?_) | (with_reducible exact LeN.ro rfl) | (with_reducible exact LeN.rptr) | ((with_reducible refine LeL.chk ?_); (conv => whnf)) | ((with_reducible show LeO _ _); (first | (refine LeO.ro ?_) | (refine LeO.roCap ?_) | (refine LeO.nil ?_ (fun _ => rfl)))) | ((with_reducible show LeR _ _ _); (first | (refine LeR.own rfl rfl rfl ?_) | (refine LeR.ro ?_) | (refine LeR.roCap ?_) | (refine LeR.nil ?_ (fun _ => rfl)))) | ((with_reducible refine LeF.chk ?_); (conv => whnf)) | (with_reducible assumption) | ((with_reducible refine Run.mk ?_); (conv => whnf)) | ((with_reducible show drawOK _ _ = true); kernel_rfl) | ((with_reducible show drawOK2 _ _ = true); kernel_rfl) | ((with_reducible show drawOK3 _ _ = true); kernel_rfl)))
    all_goals rfl
  obtain ⟨h1, h2⟩ := hi
  have e1 : ((i : Int)).toNat = i := Int.toNat_natCast _
  have e2 : C_brk.d = (0, 0) := rfl
  repeat' (first | (with_reducible refine ex_of (i + 1) ⟨⟨?_, ?_⟩, ?_⟩ ?_) | (with_reducible exact fun h => h) | (with_reducible refine And.intro ?_ ?_) | ((with_reducible intro hq); first | (exact bne1 hq (by with_reducible assumption)) | (exact bne1 (by with_reducible assumption) hq) | ((simp only [*, Bool.and_true, Bool.true_and, Bool.and_false, Bool.false_and, Bool.or_true, Bool.true_or, Bool.or_false, Bool.false_or, Bool.not_true, Bool.not_false, Bool.true_eq_false, Bool.false_eq_true, cond_true, cond_false, Bool.cond_self, reduceCtorEq] at hq); done) | (revert hq; with_reducible intro _)) | (with_reducible exact True.intro) | (with_reducible rfl) | ((with_reducible refine WkX.chk ?_); (conv => whnf)) | ((with_reducible refine Wk.chk ?_); (conv => whnf)) | (with_reducible refine EntLe.row ?_) | (with_reducible exact LeN.ro rfl) | (with_reducible exact LeN.rptr) | ((with_reducible refine LeL.chk ?_); (conv => whnf)) | ((with_reducible show LeO _ _); (first | (refine LeO.ro ?_) | (refine LeO.roCap ?_) | (refine LeO.nil ?_ (fun _ => rfl)))) | ((with_reducible show LeR _ _ _); (first | (refine LeR.own rfl rfl rfl ?_) | (refine LeR.ro ?_) | (refine LeR.roCap ?_) | (refine LeR.nil ?_ (fun _ => rfl)))) | ((with_reducible refine LeF.chk ?_); (conv => whnf)) | (with_reducible assumption) | ((with_reducible refine Run.mk ?_); (conv => whnf)) | ((with_reducible show drawOK _ _ = true); kernel_rfl) | ((with_reducible show drawOK2 _ _ = true); kernel_rfl) | ((with_reducible show drawOK3 _ _ = true); kernel_rfl))
  all_goals (try simp only [e1, e2, decide_eq_true_eq, decide_eq_false_iff_not] at *)
  all_goals first
    | omega
    | (refine Fits.i64 ?_ ?_ <;> omega)
    | rfl
    | (symm
       refine decide_eq_false ?_
       rintro rfl
       simp at *; done)
    | (simp_all; done)
    | (rw [← take_one a (0, 0) (by omega), ← take_one b (0, 0) (by omega), h2]
       have q : (a.getD i (0, 0)) = (b.getD i (0, 0)) := by
         refine Prod.ext ?_ ?_ <;> simp_all
       rw [q])
    | (symm
       refine decide_eq_true ?_
       rw [take_all a (by omega), take_all b (by omega)] at h2
       exact h2)
end Go.SX.Try
/- Contract of chapter 10's head; what the laws WrapLeast, WrapPlaces answer, in terms of the two tables. -/
namespace Go.SX.Try
open Go.Proofs Go.Proofs.Try Go.SX.Plain
set_option maxRecDepth 100000
set_option maxHeartbeats 0
set_option linter.unusedSimpArgs false
def C_brkL : Cdc (Int × Int) := { C_brk with lit := true }
def D_law : Cds := [(54, ⟨Int × Int, C_brk⟩), (92, ⟨Int × Int, C_brkL⟩)]
theorem D_law_ok : CdsOK T D_law := .cons ⟨fun _ => rfl, by decide, _, rfl, rfl, by decide⟩ (.cons ⟨fun _ => rfl, by decide, _, rfl, rfl, by decide⟩ .nil)
def tx1 : ByteArray := ⟨#[97, 97, 97, 32, 98, 98, 32, 99, 99]⟩
def tx2 : ByteArray := ⟨#[97, 98, 99, 100, 101, 102]⟩
theorem con_head : Con prog 16 (fun _ : Unit => []) (fun _ => .sb true) (fun _ => True) := by
  refine Con.of (by kernel_rfl) T_ok D_law_ok (.con con_wrap (.con con_same .nil)) 3 [] q_head.1 q_head.2.1 q_head.2.2 (fun _ => rfl) fun i _ => ?_
  have h1 : wrapL { data := #[97, 97, 97, 32, 98, 98, 32, 99, 99] } 6 = [(4, 2)] := by kernel_rfl
  have h2 : wrapB { data := #[97, 97, 97, 32, 98, 98, 32, 99, 99] } 6 = 10 := by kernel_rfl
  have h3 : checkN (ByteArray.size { data := #[97, 97, 97, 32, 98, 98, 32, 99, 99] }) 6 = 0 := by kernel_rfl
  have h4 : wrapL { data := #[97, 98, 99, 100, 101, 102] } 4 = [(3, 3)] := by kernel_rfl
  have h5 : wrapB { data := #[97, 98, 99, 100, 101, 102] } 4 = 1048578 := by kernel_rfl
  have h6 : checkN (ByteArray.size { data := #[97, 98, 99, 100, 101, 102] }) 4 = 0 := by kernel_rfl
  repeat' (first | (with_reducible refine ⟨(_, _), ⟨(.cons (.v _) (.cons (.v _) .nil)), ?_⟩, ?_⟩) | (with_reducible refine ⟨(_, _), ⟨(.cons (.ro _ _ _ _ _) (.cons (.ro _ _ _ _ _) .nil)), ?_⟩, ?_⟩) | (with_reducible exact fun h => h) | (with_reducible refine And.intro ?_ ?_) | ((with_reducible intro hq); first | (exact bne1 hq (by with_reducible assumption)) | (exact bne1 (by with_reducible assumption) hq) | ((simp only [*, Bool.and_true, Bool.true_and, Bool.and_false, Bool.false_and, Bool.or_true, Bool.true_or, Bool.or_false, Bool.false_or, Bool.not_true, Bool.not_false, Bool.true_eq_false, Bool.false_eq_true, cond_true, cond_false, Bool.cond_self, reduceCtorEq] at hq); done) | (revert hq; with_reducible intro _)) | (with_reducible exact True.intro) | (with_reducible rfl) | ((with_reducible refine WkX.chk ?_); (conv => whnf)) | ((with_reducible refine Wk.chk ?_); (conv => whnf)) | (with_reducible refine EntLe.row ?_) | (with_reducible exact LeN.ro rfl) | (with_reducible exact LeN.rptr) | ((with_reducible refine LeL.chk ?_); (conv => whnf)) | ((with_reducible show LeO _ _); (first | (refine LeO.ro ?_) | (refine LeO.roCap ?_) | (refine LeO.nil ?_ (fun _ => rfl)))) | ((with_reducible show LeR _ _ _); (first | (refine LeR.own rfl rfl rfl ?_) | (refine LeR.ro ?_) | (refine LeR.roCap ?_) | (refine LeR.nil ?_ (fun _ => rfl)))) | ((with_reducible refine LeF.chk ?_); (conv => whnf)) | (with_reducible assumption) | ((with_reducible refine Run.mk ?_); (conv => whnf)) | ((with_reducible show drawOK _ _ = true); kernel_rfl) | ((with_reducible show drawOK2 _ _ = true); kernel_rfl) | ((with_reducible show drawOK3 _ _ = true); kernel_rfl))
  all_goals first
    | rfl
    | (dsimp only; rw [h1]; decide)
    | (dsimp only; rw [h4]; decide)
    | (rw [h1, h2, h3, h4, h5, h6]; rfl)
    | (exfalso
       simp_all [C_brkL, C_brk, zeroAV]; done)
end Go.SX.Try
/- Contract of the law WrapNames: true. -/
namespace Go.SX.Try
open Go.Proofs Go.Proofs.Try Go.SX.Plain
set_option maxRecDepth 100000
set_option maxHeartbeats 0
set_option linter.unusedSimpArgs false
theorem q_errno : fact 29 f29 := ⟨by kernel_rfl, rfl, by kernel_rfl⟩
theorem q_wordTimes : fact 58 f58 := ⟨by kernel_rfl, rfl, by kernel_rfl⟩
theorem q_wrapNames : fact 9 f9 := ⟨by kernel_rfl, rfl, by kernel_rfl⟩
def full4 : ByteArray := ⟨#[102, 117, 108, 108]⟩
theorem con_full : Con prog 58 (fun _ : Unit => [.v (.int .i64 35)]) (fun _ => .v (.string ⟨#[102, 117, 108, 108]⟩)) (fun _ => True) := by
  refine Con.of (by kernel_rfl) T_ok CdsOK.nil .nil 3 [] q_wordTimes.1 q_wordTimes.2.1 q_wordTimes.2.2 (fun _ => rfl) fun i _ => ?_
  repeat' (first | (with_reducible exact fun h => h) | (with_reducible refine And.intro ?_ ?_) | ((with_reducible intro hq); first | (exact bne1 hq (by with_reducible assumption)) | (exact bne1 (by with_reducible assumption) hq) | ((simp only [*, Bool.and_true, Bool.true_and, Bool.and_false, Bool.false_and, Bool.or_true, Bool.true_or, Bool.or_false, Bool.false_or, Bool.not_true, Bool.not_false, Bool.true_eq_false, Bool.false_eq_true, cond_true, cond_false, Bool.cond_self, reduceCtorEq] at hq); done) | (revert hq; with_reducible intro _)) | (with_reducible exact True.intro) | (with_reducible rfl) | ((with_reducible refine WkX.chk ?_); (conv => whnf)) | ((with_reducible refine Wk.chk ?_); (conv => whnf)) | (with_reducible refine EntLe.row ?_) | (with_reducible exact LeN.ro rfl) | (with_reducible exact LeN.rptr) | ((with_reducible refine LeL.chk ?_); (conv => whnf)) | ((with_reducible show LeO _ _); (first | (refine LeO.ro ?_) | (refine LeO.roCap ?_) | (refine LeO.nil ?_ (fun _ => rfl)))) | ((with_reducible show LeR _ _ _); (first | (refine LeR.own rfl rfl rfl ?_) | (refine LeR.ro ?_) | (refine LeR.roCap ?_) | (refine LeR.nil ?_ (fun _ => rfl)))) | ((with_reducible refine LeF.chk ?_); (conv => whnf)) | (with_reducible assumption) | ((with_reducible refine Run.mk ?_); (conv => whnf)) | ((with_reducible show drawOK _ _ = true); kernel_rfl) | ((with_reducible show drawOK2 _ _ = true); kernel_rfl) | ((with_reducible show drawOK3 _ _ = true); kernel_rfl))
  all_goals simp_all
theorem con_errno : Con prog 29 (fun _ : Unit => [.v (.int .i64 35)]) (fun _ => .v (.string ⟨#[102, 117, 108, 108]⟩)) (fun _ => True) := by
  refine Con.of (by kernel_rfl) T_ok CdsOK.nil (.con con_full .nil) 3 [] q_errno.1 q_errno.2.1 q_errno.2.2 (fun _ => rfl) fun i _ => ?_
  repeat' (first | (with_reducible refine ⟨(), ⟨(.cons (.v _) .nil), ?_⟩, ?_⟩) | (with_reducible exact fun h => h) | (with_reducible refine And.intro ?_ ?_) | ((with_reducible intro hq); first | (exact bne1 hq (by with_reducible assumption)) | (exact bne1 (by with_reducible assumption) hq) | ((simp only [*, Bool.and_true, Bool.true_and, Bool.and_false, Bool.false_and, Bool.or_true, Bool.true_or, Bool.or_false, Bool.false_or, Bool.not_true, Bool.not_false, Bool.true_eq_false, Bool.false_eq_true, cond_true, cond_false, Bool.cond_self, reduceCtorEq] at hq); done) | (revert hq; with_reducible intro _)) | (with_reducible exact True.intro) | (with_reducible rfl) | ((with_reducible refine WkX.chk ?_); (conv => whnf)) | ((with_reducible refine Wk.chk ?_); (conv => whnf)) | (with_reducible refine EntLe.row ?_) | (with_reducible exact LeN.ro rfl) | (with_reducible exact LeN.rptr) | ((with_reducible refine LeL.chk ?_); (conv => whnf)) | ((with_reducible show LeO _ _); (first | (refine LeO.ro ?_) | (refine LeO.roCap ?_) | (refine LeO.nil ?_ (fun _ => rfl)))) | ((with_reducible show LeR _ _ _); (first | (refine LeR.own rfl rfl rfl ?_) | (refine LeR.ro ?_) | (refine LeR.roCap ?_) | (refine LeR.nil ?_ (fun _ => rfl)))) | ((with_reducible refine LeF.chk ?_); (conv => whnf)) | (with_reducible assumption) | ((with_reducible refine Run.mk ?_); (conv => whnf)) | ((with_reducible show drawOK _ _ = true); kernel_rfl) | ((with_reducible show drawOK2 _ _ = true); kernel_rfl) | ((with_reducible show drawOK3 _ _ = true); kernel_rfl))
  all_goals simp_all
theorem con_wrapNames : Con prog 9 (fun _ : Unit => []) (fun _ => .v (.bool true)) (fun _ => True) := by
  refine Con.of (by kernel_rfl) T_ok CdsOK.nil (.con con_errno (.con con_head .nil)) 3 [] q_wrapNames.1 q_wrapNames.2.1 q_wrapNames.2.2 (fun _ => rfl) fun i _ => ?_
  repeat' (first | (with_reducible refine ⟨(), ⟨(.cons (.v _) .nil), ?_⟩, ?_⟩) | (with_reducible refine ⟨(), ⟨.nil, ?_⟩, ?_⟩) | (with_reducible exact fun h => h) | (with_reducible refine And.intro ?_ ?_) | ((with_reducible intro hq); first | (exact bne1 hq (by with_reducible assumption)) | (exact bne1 (by with_reducible assumption) hq) | ((simp only [*, Bool.and_true, Bool.true_and, Bool.and_false, Bool.false_and, Bool.or_true, Bool.true_or, Bool.or_false, Bool.false_or, Bool.not_true, Bool.not_false, Bool.true_eq_false, Bool.false_eq_true, cond_true, cond_false, Bool.cond_self, reduceCtorEq] at hq); done) | (revert hq; with_reducible intro _)) | (with_reducible exact True.intro) | (with_reducible rfl) | ((with_reducible refine WkX.chk ?_); (conv => whnf)) | ((with_reducible refine Wk.chk ?_); (conv => whnf)) | (with_reducible refine EntLe.row ?_) | (with_reducible exact LeN.ro rfl) | (with_reducible exact LeN.rptr) | ((with_reducible refine LeL.chk ?_); (conv => whnf)) | ((with_reducible show LeO _ _); (first | (refine LeO.ro ?_) | (refine LeO.roCap ?_) | (refine LeO.nil ?_ (fun _ => rfl)))) | ((with_reducible show LeR _ _ _); (first | (refine LeR.own rfl rfl rfl ?_) | (refine LeR.ro ?_) | (refine LeR.roCap ?_) | (refine LeR.nil ?_ (fun _ => rfl)))) | ((with_reducible refine LeF.chk ?_); (conv => whnf)) | (with_reducible assumption) | ((with_reducible refine Run.mk ?_); (conv => whnf)) | ((with_reducible show drawOK _ _ = true); kernel_rfl) | ((with_reducible show drawOK2 _ _ = true); kernel_rfl) | ((with_reducible show drawOK3 _ _ = true); kernel_rfl))
  all_goals simp_all
end Go.SX.Try
