/- A verified symbolic executor for Go code in the model, contracts and plain laws that the proofs lean on, BN7. -/
import Derived.Test.YtkbeigcmdlhdbaaBN6
import Derived.Deep.Fields
import Derived.SizedLaws
set_option linter.unusedVariables false
set_option linter.unusedSimpArgs false
/- Plain law: a normal form is right, and looks as it was told. -/
namespace Go.SX.Plain
set_option linter.unusedSimpArgs false
theorem adv_all (p : Nat → Bool) : ∀ f j m, j ≤ m → m < adv p f j → p m = true
  | 0, j, m, h1, h2 => by rw [adv] at h2; omega
  | f + 1, j, m, h1, h2 => by
    rw [adv] at h2
    split at h2
    · rename_i hj
      by_cases h : m = j
      · rw [h]; exact hj
      · exact adv_all p f (j + 1) m (by omega) h2
    · omega
section
variable {l : List Atr} {cut : List Bool} {k : Int}
theorem strE_in {i m : Nat} (h1 : i < m) (h2 : m < strE l cut k i) : hasK (l.getD m zA) k = hasK (l.getD i zA) k ∧ cut.getD m false = false := by
  have h := adv_all _ _ _ m (show i + 1 ≤ m by omega) h2
  unfold goOn at h
  rw [Bool.and_eq_true, decide_eq_true_eq, Bool.not_eq_true'] at h
  exact h
theorem strF_at : ∀ (f i : Nat), ∀ x ∈ strF l cut k f i, x.kind = k ∧ (i : Int) ≤ x.frm ∧ x.val = (if k = 5 then hasK (l.getD x.frm.toNat zA) k - 1 else 0) ∧ (∀ m : Nat, x.frm ≤ m → (m : Int) < x.to → hasK (l.getD m zA) k = hasK (l.getD x.frm.toNat zA) k ∧ hasK (l.getD m zA) k ≠ 0 ∧ (x.frm < m → cut.getD m false = false))
  | 0, i, x, hx => by simp [strF] at hx
  | f + 1, i, x, hx => by
    rw [strF] at hx
    split at hx
    · rename_i hi
      have hb := strE_bd (cut := cut) (k := k) hi
      rcases List.mem_append.1 hx with h | h
      · unfold strS at h
        split at h
        · cases h
        · rename_i hv
          rw [List.mem_singleton] at h
          subst h
          refine ⟨rfl, Int.le_refl _, by rw [Int.toNat_natCast], fun m h1 h2 => ?_⟩
          simp only at h1 h2 ⊢
          rw [Int.toNat_natCast]
          by_cases hm : m = i
          · subst hm
            exact ⟨rfl, hv, fun h => absurd h (Int.lt_irrefl _)⟩
          · have h3 := strE_in (l := l) (cut := cut) (k := k) (show i < m by omega) (by omega)
            exact ⟨h3.1, by rw [h3.1]; exact hv, fun _ => h3.2⟩
      · obtain ⟨h1, h2, h3, h4⟩ := strF_at f _ x h
        exact ⟨h1, by omega, h3, h4⟩
    · cases hx
theorem strF_cover {m : Nat} (hv : hasK (l.getD m zA) k ≠ 0) (hm : m < l.length) : ∀ (f i : Nat), l.length - i ≤ f → i ≤ m → ∃ x ∈ strF l cut k f i, hasS m x = true
  | 0, i, h, him => by omega
  | f + 1, i, h, him => by
    have hi : i < l.length := by omega
    have hb := strE_bd (cut := cut) (k := k) hi
    rw [strF, if_pos hi]
    by_cases hme : m < strE l cut k i
    · have hvi : hasK (l.getD i zA) k ≠ 0 := by
        by_cases h2 : m = i
        · rw [← h2]; exact hv
        · rw [← (strE_in (l := l) (cut := cut) (k := k) (show i < m by omega) hme).1]; exact hv
      refine ⟨⟨i, (strE l cut k i : Nat), k, if k = 5 then hasK (l.getD i zA) k - 1 else 0⟩, List.mem_append_left _ ?_, ?_⟩
      · unfold strS
        rw [if_neg hvi]
        exact List.mem_singleton.2 rfl
      · unfold hasS
        rw [decide_eq_true (by simp only; omega), decide_eq_true (by simp only; omega)]
        rfl
    · obtain ⟨x, h1, h2⟩ := strF_cover hv hm f (strE l cut k i) (by omega) (by omega)
      exact ⟨x, List.mem_append_right _ h1, h2⟩
theorem strF_apart : ∀ (f i : Nat), (strF l cut k f i).Pairwise fun x y => x.to ≤ y.frm
  | 0, i => by rw [strF]; exact .nil
  | f + 1, i => by
    rw [strF]
    split
    · rename_i hi
      rw [List.pairwise_append]
      refine ⟨?_, strF_apart f _, fun x hx y hy => ?_⟩
      · unfold strS
        split
        · exact .nil
        · exact List.pairwise_singleton _ _
      · have h2 := (strF_at f _ y hy).2.1
        unfold strS at hx
        split at hx
        · cases hx
        · rw [List.mem_singleton] at hx
          subst hx
          exact h2
    · exact .nil
end
theorem cross_sym (x y : Spn) : crossB x y = crossB y x := by
  unfold crossB
  rw [Bool.eq_iff_iff]
  simp only [Bool.and_eq_true, decide_eq_true_eq, Bool.not_eq_true']
  constructor <;> (intro h; exact ⟨⟨⟨h.1.1.2, h.1.1.1⟩, h.2⟩, h.1.2⟩)
theorem cross_self (x : Spn) : crossB x x = false := by
  unfold crossB withinB
  simp
theorem cross_apart {x y : Spn} (h : x.to ≤ y.frm) : crossB x y = false := by
  unfold crossB
  rw [decide_eq_false (show ¬ y.frm < x.to by omega)]
  simp
theorem pairs_of {S : List Spn} (h : S.Pairwise fun x y => x.to ≤ y.frm) : ∀ x ∈ S, ∀ y ∈ S, crossB x y = false := by
  induction h with
  | nil => intro x hx; cases hx
  | @cons a S h1 h2 ih =>
    intro x hx y hy
    rcases List.mem_cons.1 hx with hx2 | hx2
    · rcases List.mem_cons.1 hy with hy2 | hy2
      · rw [hx2, hy2]; exact cross_self _
      · rw [hx2]; exact cross_apart (h1 y hy2)
    · rcases List.mem_cons.1 hy with hy2 | hy2
      · rw [hy2, cross_sym]; exact cross_apart (h1 x hx2)
      · exact ih x hx2 y hy2
theorem getD_set' (c : List Bool) (i j : Nat) (h : i < c.length) : (c.set i true).getD j false = if i = j then true else c.getD j false := by
  simp only [List.getD_eq_getElem?_getD, List.getElem?_set]
  by_cases hij : i = j
  · subst hij; simp [h]
  · simp [hij]
theorem set_keeps (c : List Bool) (i j : Nat) (h : c.getD j false = true) : (c.set i true).getD j false = true := by
  simp only [List.getD_eq_getElem?_getD, List.getElem?_set] at h ⊢
  by_cases hij : i = j
  · subst hij
    by_cases hl : i < c.length
    · simp [hl]
    · rw [List.getElem?_eq_none (by omega)] at h; cases h
  · simp [hij]; simpa using h
theorem mkC_keeps (c : List Bool) (x : Spn) (j : Nat) (h : c.getD j false = true) : (mkC c x).getD j false = true := set_keeps _ _ _ (set_keeps _ _ _ h)
theorem mkC_frm {c : List Bool} {x : Spn} (h : x.frm.toNat < c.length) : (mkC c x).getD x.frm.toNat false = true := by
  refine set_keeps _ _ _ ?_
  rw [getD_set' _ _ _ h, if_pos rfl]
theorem mkC_to {c : List Bool} {x : Spn} (h : x.to.toNat < c.length) : (mkC c x).getD x.to.toNat false = true := by
  unfold mkC
  rw [getD_set' _ _ _ (by rw [List.length_set]; exact h), if_pos rfl]
theorem fold_keeps : ∀ (S : List Spn) (c : List Bool) (j : Nat), c.getD j false = true → (S.foldl mkC c).getD j false = true
  | [], _, _, h => h
  | x :: S, c, j, h => by rw [List.foldl_cons]; exact fold_keeps S _ j (mkC_keeps c x j h)
theorem fold_marks : ∀ (S : List Spn) (c : List Bool), (∀ x ∈ S, x.frm.toNat < c.length ∧ x.to.toNat < c.length) → ∀ x ∈ S, (S.foldl mkC c).getD x.frm.toNat false = true ∧ (S.foldl mkC c).getD x.to.toNat false = true
  | [], _, _, x, hx => by cases hx
  | y :: S, c, h, x, hx => by
    rw [List.foldl_cons]
    rcases List.mem_cons.1 hx with rfl | hx
    · have hb := h x List.mem_cons_self
      exact ⟨fold_keeps S _ _ (mkC_frm hb.1), fold_keeps S _ _ (mkC_to hb.2)⟩
    · exact fold_marks S _ (fun z hz => by rw [mkC_len]; exact h z (List.mem_cons_of_mem _ hz)) x hx
theorem kinds_marks (l : List Atr) : ∀ k, (∀ x ∈ (kindsTo l k).2, (kindsTo l k).1.getD x.frm.toNat false = true ∧ (kindsTo l k).1.getD x.to.toNat false = true) ∧ ∀ x ∈ (kindsTo l k).2, ∀ y ∈ (kindsTo l k).2, crossB x y = false
  | 0 => ⟨fun x hx => by simp [kindsTo] at hx, fun x hx => by simp [kindsTo] at hx⟩
  | k + 1 => by
    obtain ⟨h1, h2⟩ := kinds_marks l k
    have hcl := kinds_cut l k
    have hin := kinds_in l k
    have hKE : ∃ q : Int, q = ((k + 1 : Nat) : Int) := ⟨_, rfl⟩
    obtain ⟨q, hq⟩ := hKE
    have e : kindsTo l (k + 1) = (mkTo (kindsTo l k).1 (strT l (kindsTo l k).1 q 0) (strT l (kindsTo l k).1 q 0).length, (kindsTo l k).2 ++ strT l (kindsTo l k).1 q 0) := by rw [kindsTo, hq]
    have hSin := strT_in (l := l) (cut := (kindsTo l k).1) (k := q) 0
    have hSat := strF_at (l := l) (cut := (kindsTo l k).1) (k := q) (l.length - 0) 0
    have hSap := pairs_of (strF_apart (l := l) (cut := (kindsTo l k).1) (k := q) (l.length - 0) 0)
    generalize (kindsTo l k).1 = cut at *
    generalize (kindsTo l k).2 = P at *
    have hSe : ∃ S, S = strT l cut q 0 := ⟨_, rfl⟩
    obtain ⟨S, hS⟩ := hSe
    have hS' : strF l cut q (l.length - 0) 0 = S := hS.symm
    rw [hS'] at hSat hSap
    rw [← hS] at e hSin
    have hm : mkTo cut S S.length = S.foldl mkC cut := by unfold mkTo; rw [List.take_length]
    rw [e]
    simp only [hm]
    have hmk := fold_marks S cut fun x hx => by have := hSin x hx; omega
    have hPS : ∀ x ∈ P, ∀ y ∈ S, crossB x y = false := fun x hx y hy => by
      have hx1 := h1 x hx
      have hx2 := hin x hx
      have hy1 := hSat y hy
      have hy2 := hSin y hy
      have c1 : ¬ (y.frm < x.frm ∧ x.frm < y.to) := fun hc => by
        have := (hy1.2.2.2 x.frm.toNat (by omega) (by omega)).2.2 (by omega)
        rw [hx1.1] at this
        cases this
      have c2 : ¬ (y.frm < x.to ∧ x.to < y.to) := fun hc => by
        have := (hy1.2.2.2 x.to.toNat (by omega) (by omega)).2.2 (by omega)
        rw [hx1.2] at this
        cases this
      unfold crossB withinB
      rw [Bool.eq_false_iff]
      intro hc
      simp only [Bool.and_eq_true, decide_eq_true_eq, Bool.not_eq_true', Bool.and_eq_false_iff, decide_eq_false_iff_not] at hc
      omega
    refine ⟨fun x hx => ?_, fun x hx y hy => ?_⟩
    · rcases List.mem_append.1 hx with h | h
      · exact ⟨fold_keeps S cut _ (h1 x h).1, fold_keeps S cut _ (h1 x h).2⟩
      · exact hmk x h
    · rcases List.mem_append.1 hx with h | h <;> rcases List.mem_append.1 hy with g | g
      · exact h2 x h y g
      · exact hPS x h y g
      · rw [cross_sym]; exact hPS y g x h
      · exact hSap x h y g
end Go.SX.Plain
/- Plain law: a normal form is right, and looks as it was told, the end. -/
namespace Go.SX.Plain
set_option linter.unusedSimpArgs false
theorem getD_mem {l : List Spn} {i : Nat} (h : i < l.length) : l.getD i zS ∈ l := by
  simp [List.getD_eq_getElem?_getD, h]
theorem spansB_of {l : List Spn} {n : Int} (h1 : ∀ x ∈ l, rightB x n = true) (h2 : ∀ x ∈ l, ∀ y ∈ l, crossB x y = false) : spansB l n = true := by
  have key : ∀ i, i ≤ l.length → okTo l n i = true := by
    intro i
    induction i with
    | zero => intro _; rfl
    | succ i ih =>
      intro hi
      have hm := getD_mem (l := l) (show i < l.length by omega)
      rw [okTo, ih (by omega), h1 _ hm]
      have : aloneTo l (l.getD i zS) i = true := by
        unfold aloneTo
        refine List.all_eq_true.2 fun y hy => ?_
        rw [h2 _ hm y (List.mem_of_mem_take hy)]
        rfl
      rw [this]
      rfl
  exact key l.length (Nat.le_refl _)
theorem kinds_mem {A : List Atr} {x : Spn} : ∀ k, x ∈ (kindsTo A k).2 → ∃ q, q < k ∧ x ∈ strT A (kindsTo A q).1 ((q + 1 : Nat) : Int) 0
  | 0, h => by simp [kindsTo] at h
  | k + 1, h => by
    rw [kindsTo] at h
    rcases List.mem_append.1 h with h | h
    · obtain ⟨q, h1, h2⟩ := kinds_mem k h
      exact ⟨q, by omega, h2⟩
    · exact ⟨k, Nat.lt_succ_self k, h⟩
theorem mem_kinds {A : List Atr} {x : Spn} {q : Nat} (h : x ∈ strT A (kindsTo A q).1 ((q + 1 : Nat) : Int) 0) : ∀ k, q < k → x ∈ (kindsTo A k).2
  | 0, hq => by omega
  | k + 1, hq => by
    rw [kindsTo]
    by_cases hqk : q = k
    · subst hqk
      exact List.mem_append_right _ h
    · exact List.mem_append_left _ (mem_kinds h k (by omega))
theorem mem_normS {A : List Atr} {x : Spn} : x ∈ normS A ↔ x ∈ normL A := by
  unfold normS isort
  rw [mem_mrg]
  simp
theorem norm_at {A : List Atr} {x : Spn} (h : x ∈ normS A) : (1 ≤ x.kind ∧ x.kind ≤ 5) ∧ (0 ≤ x.frm ∧ x.frm < x.to ∧ x.to ≤ (A.length : Nat)) ∧ x.val = (if x.kind = 5 then hasK (A.getD x.frm.toNat zA) 5 - 1 else 0) ∧ ∀ m : Nat, x.frm ≤ m → (m : Int) < x.to → hasK (A.getD m zA) x.kind = hasK (A.getD x.frm.toNat zA) x.kind ∧ hasK (A.getD m zA) x.kind ≠ 0 := by
  obtain ⟨q, h1, h2⟩ := kinds_mem 5 (mem_normS.1 h)
  have h3 := strT_in 0 x h2
  obtain ⟨h4, _, h5, h6⟩ := strF_at _ _ x h2
  refine ⟨by omega, h3, ?_, fun m a b => ?_⟩
  · rw [h5, h4]
    split
    · rename_i h7; rw [h7]
    · rfl
  · have := h6 m a b
    rw [h4]
    exact ⟨this.1, this.2.1⟩
theorem norm_right {A : List Atr} (hc : ColOK A) : spansB (normS A) (A.length : Nat) = true := by
  refine spansB_of (fun x hx => ?_) fun x hx y hy => (kinds_marks A 5).2 x (mem_normS.1 hx) y (mem_normS.1 hy)
  obtain ⟨h1, h2, h3, h4⟩ := norm_at hx
  have h5 := (h4 x.frm.toNat (by omega) (by omega)).2
  have h6 := hasK_bd (k := x.kind) (hc.at (i := x.frm.toNat) (by omega))
  unfold rightB
  simp only [Bool.and_eq_true, decide_eq_true_eq]
  refine ⟨⟨⟨⟨⟨h2.1, h2.2.1⟩, h2.2.2⟩, h1.1⟩, h1.2⟩, ?_⟩
  split
  · rename_i hk
    rw [if_pos hk] at h3
    rw [hk] at h5 h6
    simp only [Bool.and_eq_true, decide_eq_true_eq]
    omega
  · rename_i hk
    rw [if_neg hk] at h3
    rw [decide_eq_true_eq]
    exact h3
theorem norm_any {A : List Atr} {k : Nat} (hk : k < A.length) {p : Int} (hp : 1 ≤ p ∧ p ≤ 5) : ((normS A).filter (hasS k)).any (fun x => decide (x.kind = p)) = decide (hasK (A.getD k zA) p ≠ 0) := by
  rw [Bool.eq_iff_iff, List.any_eq_true]
  simp only [List.mem_filter, decide_eq_true_eq]
  constructor
  · rintro ⟨x, ⟨hx, hs⟩, hkd⟩
    unfold hasS at hs
    rw [Bool.and_eq_true, decide_eq_true_eq, decide_eq_true_eq] at hs
    have := ((norm_at hx).2.2.2 k hs.1 hs.2).2
    rw [hkd] at this
    exact this
  · intro hv
    obtain ⟨q, hq⟩ : ∃ q : Nat, p = ((q + 1 : Nat) : Int) := ⟨(p - 1).toNat, by omega⟩
    subst hq
    obtain ⟨x, h1, h2⟩ := strF_cover (cut := (kindsTo A q).1) hv hk (A.length - 0) 0 (Nat.le_refl _) (Nat.zero_le _)
    exact ⟨x, ⟨mem_normS.2 (mem_kinds h1 5 (by omega)), h2⟩, (strF_at _ _ x h1).1⟩
theorem inn_mem : ∀ (B : List Spn) (y : Spn), ∃ z, B.foldl (fun acc x => innS x acc) (some y) = some z ∧ (z = y ∨ z ∈ B)
  | [], y => ⟨y, rfl, .inl rfl⟩
  | u :: B, y => by
    rw [List.foldl_cons, innS]
    split
    · obtain ⟨z, h1, h2⟩ := inn_mem B u
      exact ⟨z, h1, .inr (h2.elim (fun h => by rw [h]; exact List.mem_cons_self) (List.mem_cons_of_mem _))⟩
    · obtain ⟨z, h1, h2⟩ := inn_mem B y
      exact ⟨z, h1, h2.imp id (List.mem_cons_of_mem _)⟩
theorem has_b1 (a : Atr) : decide (hasK a 1 ≠ 0) = a.bold := by
  unfold hasK
  cases h : a.bold <;> simp
theorem has_b2 (a : Atr) : decide (hasK a 2 ≠ 0) = a.italic := by
  unfold hasK
  cases h : a.italic <;> simp
theorem has_b3 (a : Atr) : decide (hasK a 3 ≠ 0) = a.under := by
  unfold hasK
  cases h : a.under <;> simp
theorem has_b4 (a : Atr) : decide (hasK a 4 ≠ 0) = a.strike := by
  unfold hasK
  cases h : a.strike <;> simp
theorem has_5 (a : Atr) : hasK a 5 = a.colour := by
  unfold hasK
  simp
theorem norm_look {A : List Atr} {k : Nat} (hk : k < A.length) : (refF k (normS A)).1 = A.getD k zA := by
  have hall := (refF_all k (normS A) zA none trivial).2
  have hcol : (match (((normS A).filter (hasS k)).filter colB).foldl (fun acc x => innS x acc) none with | none => (zA.colour : Int) | some x => x.val + 1) = (A.getD k zA).colour := by
    have hF : ∀ x ∈ ((normS A).filter (hasS k)).filter colB, x.kind = 5 ∧ x.val + 1 = (A.getD k zA).colour := fun x hx => by
      rw [List.mem_filter, List.mem_filter] at hx
      obtain ⟨⟨h1, h2⟩, h3⟩ := hx
      unfold hasS at h2
      rw [Bool.and_eq_true, decide_eq_true_eq, decide_eq_true_eq] at h2
      obtain ⟨g1, g2, g3, g4⟩ := norm_at h1
      unfold colB at h3
      simp only [Bool.not_eq_true', Bool.or_eq_false_iff, decide_eq_false_iff_not] at h3
      have hk5 : x.kind = 5 := by omega
      have g5 := (g4 k h2.1 h2.2).1
      rw [if_pos hk5] at g3
      rw [hk5, has_5] at g5
      rw [g3, ← g5]
      refine ⟨hk5, by omega⟩
    cases hl : ((normS A).filter (hasS k)).filter colB with
    | nil =>
      show (0 : Int) = _
      have h0 := norm_any hk (p := 5) (by decide)
      by_cases hz : (A.getD k zA).colour = 0
      · exact hz.symm
      · exfalso
        rw [has_5, decide_eq_true hz, List.any_eq_true] at h0
        obtain ⟨x, h1, h2⟩ := h0
        have h3 : x ∈ ((normS A).filter (hasS k)).filter colB := List.mem_filter.2 ⟨h1, by
          rw [decide_eq_true_eq] at h2
          simp [colB, h2]⟩
        rw [hl] at h3
        cases h3
    | cons u r =>
      rw [hl] at hF
      obtain ⟨z, h1, h2⟩ := inn_mem r u
      have h3 : (u :: r).foldl (fun acc x => innS x acc) none = some z := h1
      rw [h3]
      exact (hF z (h2.elim (fun h => by rw [h]; exact List.mem_cons_self) (List.mem_cons_of_mem _))).2
  refine (show (refF k (normS A)).1 = _ from hall).trans ?_
  have e1 : (zA.bold || ((normS A).filter (hasS k)).any fun x => decide (x.kind = 1)) = (A.getD k zA).bold := by rw [norm_any hk (by decide), has_b1]; rfl
  have e2 : (zA.italic || ((normS A).filter (hasS k)).any fun x => decide (x.kind = 2)) = (A.getD k zA).italic := by rw [norm_any hk (by decide), has_b2]; rfl
  have e3 : (zA.under || ((normS A).filter (hasS k)).any fun x => decide (x.kind = 3)) = (A.getD k zA).under := by rw [norm_any hk (by decide), has_b3]; rfl
  have e4 : (zA.strike || ((normS A).filter (hasS k)).any fun x => decide (x.kind = 4)) = (A.getD k zA).strike := by rw [norm_any hk (by decide), has_b4]; rfl
  rw [e1, e2, e3, e4]
  have e5 : ∀ c : Int, c = (A.getD k zA).colour → (⟨(A.getD k zA).bold, (A.getD k zA).italic, (A.getD k zA).under, (A.getD k zA).strike, c⟩ : Atr) = A.getD k zA := fun c h => by rw [h]
  exact e5 _ hcol
theorem norm_looks {A : List Atr} (hc : ColOK A) : looksL A.length (normS A) = A := by
  rw [looksL_eq (norm_right hc)]
  apply List.ext_getElem
  · simp
  · intro k h1 h2
    have h3 := norm_look (A := A) (k := k) h2
    simp only [List.getElem_map, List.getElem_range]
    rw [h3]
    simp [List.getD_eq_getElem?_getD, h2]
end Go.SX.Plain
/- Plain law: the runs of looks make them again; what the law of the normal form asks. -/
namespace Go.SX.Plain
set_option linter.unusedSimpArgs false
section
variable {R : List Rn} {r : Rn} {n : Nat}
theorem snoc_lo {j : Nat} (h : j < R.length) : (R ++ [r]).getD j zRn = R.getD j zRn := by
  simp [List.getD_eq_getElem?_getD, List.getElem?_append_left h]
theorem snoc_hi : (R ++ [r]).getD R.length zRn = r := by
  simp [List.getD_eq_getElem?_getD]
theorem atR_snoc {j : Nat} (h : j ≤ R.length) : atR (R ++ [r]) j = atR R j := by
  unfold atR
  by_cases h0 : j = 0
  · rw [if_pos h0, if_pos h0]
  · rw [if_neg h0, if_neg h0, snoc_lo (by omega)]
theorem okR_snoc {j : Nat} (h : j < R.length) : okR (R ++ [r]) n j = okR R n j := by
  unfold okR
  rw [snoc_lo h, atR_snoc (by omega)]
theorem allR_snoc : allR (R ++ [r]) n (R.length + 1) = true ↔ allR R n R.length = true ∧ r.frm = atR R R.length ∧ r.frm < r.to ∧ r.to ≤ (n : Int) ∧ 0 ≤ r.at'.colour ∧ r.at'.colour ≤ 16777216 := by
  constructor
  · intro h
    refine ⟨List.all_eq_true.2 fun j hj => ?_, ?_⟩
    · have hj := List.mem_range.1 hj
      rw [← okR_snoc (r := r) hj]
      exact allR_at h (by omega)
    · have h1 := allR_at h (Nat.lt_succ_self R.length)
      rw [okR_iff, snoc_hi, atR_snoc (Nat.le_refl _)] at h1
      exact h1
  · rintro ⟨h1, h2⟩
    refine List.all_eq_true.2 fun j hj => ?_
    have hj := List.mem_range.1 hj
    by_cases hjl : j < R.length
    · rw [okR_snoc hjl]; exact allR_at h1 hjl
    · obtain rfl : j = R.length := by omega
      rw [okR_iff, snoc_hi, atR_snoc (Nat.le_refl _)]
      exact h2
theorem spr_snoc : sprTo (R ++ [r]) (R.length + 1) = sprTo R R.length ++ List.replicate (r.to - r.frm).toNat r.at' := by
  unfold sprTo
  rw [List.take_length, show (R ++ [r]).take (R.length + 1) = R ++ [r] from List.take_of_length_le (by simp), List.flatMap_append]
  simp
theorem at_snoc : atR (R ++ [r]) (R.length + 1) = r.to := by rw [atR_succ, snoc_hi]
end
theorem len_snoc (R : List Rn) (r : Rn) : (R ++ [r]).length = R.length + 1 := by simp
theorem runs_ok {A : List Atr} (hc : ColOK A) : ∀ i, i ≤ A.length → allR (runsTo A i) A.length (runsTo A i).length = true ∧ atR (runsTo A i) (runsTo A i).length = (i : Nat) ∧ sprTo (runsTo A i) (runsTo A i).length = A.take i
  | 0, _ => ⟨rfl, rfl, rfl⟩
  | i + 1, hi => by
    obtain ⟨h1, h2, h3⟩ := runs_ok hc i (by omega)
    have hcol := hc.at (i := i) (by omega)
    have htk := take_one A zA (i := i) (by omega)
    rw [runsTo, rnNext]
    generalize runsTo A i = R at h1 h2 h3
    by_cases hex : 0 < R.length ∧ (R.getD (R.length - 1) zRn).at' = A.getD i zA
    · rw [if_pos hex]
      rcases List.eq_nil_or_concat R with h0 | ⟨R0, r, h0⟩
      · rw [h0] at hex; exact absurd hex.1 (by decide)
      · rw [List.concat_eq_append] at h0
        subst h0
        have hlen := len_snoc R0 r
        rw [hlen] at h1 h2 h3 hex ⊢
        rw [Nat.add_sub_cancel, snoc_hi] at hex ⊢
        rw [at_snoc] at h2
        rw [spr_snoc] at h3
        obtain ⟨g1, g2, g3, g4, g5⟩ := allR_snoc.1 h1
        have hset : (R0 ++ [r]).set R0.length ⟨r.frm, (i : Int) + 1, r.at'⟩ = R0 ++ [⟨r.frm, (i : Int) + 1, r.at'⟩] := by
          rw [List.set_append_right _ _ (Nat.le_refl _), Nat.sub_self]
          rfl
        rw [hset, len_snoc]
        refine ⟨allR_snoc.2 ⟨g1, g2, by show r.frm < (i : Int) + 1; omega, by show (i : Int) + 1 ≤ _; omega, g5⟩, by rw [at_snoc]; rfl, ?_⟩
        rw [spr_snoc, ← htk, ← h3, List.append_assoc]
        show sprTo R0 R0.length ++ List.replicate ((i : Int) + 1 - r.frm).toNat r.at' = _
        rw [show ((i : Int) + 1 - r.frm).toNat = (r.to - r.frm).toNat + 1 by omega, ← hex.2, List.replicate_succ']
    · rw [if_neg hex, len_snoc]
      refine ⟨allR_snoc.2 ⟨h1, h2.symm, by show (i : Int) < (i : Int) + 1; omega, by show (i : Int) + 1 ≤ _; omega, hcol⟩, by rw [at_snoc]; rfl, ?_⟩
      rw [spr_snoc, ← htk, h3]
      show _ ++ List.replicate ((i : Int) + 1 - (i : Int)).toNat (A.getD i zA) = _
      rw [show ((i : Int) + 1 - (i : Int)).toNat = 1 by omega]
      rfl
theorem make_runs {s : ByteArray} {A : List Atr} (hc : ColOK A) (hn : A.length = sgN s) (hs : s.size ≤ 4096) : mkE0 s (runsL A) = 0 ∧ sprTo (runsL A) (runsL A).length = A := by
  obtain ⟨h1, h2, h3⟩ := runs_ok hc A.length (Nat.le_refl _)
  have e : runsTo A A.length = runsL A := rfl
  rw [e] at h1 h2 h3
  rw [List.take_length] at h3
  refine ⟨?_, h3⟩
  unfold mkE0
  rw [if_neg (by omega), if_pos ⟨by rw [← hn]; exact h1, by rw [← hn]; exact h2⟩]
theorem made_chk {s : ByteArray} {A : List Atr} (hc : ColOK A) (hn : A.length = sgN s) (hs : s.size ≤ 4096) (hm : ¬ 256 < (normL A).length) : chkN s.size (madeL A) (sgN s : Nat) = 0 ∧ looksL (sgN s) (madeL A) = A := by
  have e : madeL A = normS A := if_neg hm
  have hl := normS_len A
  have hr := norm_right hc
  have hk := norm_looks hc
  rw [hn] at hr hk
  rw [e]
  refine ⟨?_, hk⟩
  unfold chkN
  rw [if_neg (by omega), if_neg (by omega), if_pos hr]
end Go.SX.Plain
/- The law StyleNormal: true, whatever the input. -/
namespace Go.SX.Try
open Go.Proofs Go.Proofs.Try Go.SX.Plain
set_option maxRecDepth 100000
set_option maxHeartbeats 0
set_option linter.unusedSimpArgs false
theorem q_styleNormal : fact 14 f14 := ⟨by kernel_rfl, rfl, by kernel_rfl⟩
theorem con_styleNormal : Con prog 14 (fun ((s, l, x) : ByteArray × List Spn × Spn) => [txAV s l, .agg (spAV x)]) (fun _ => .v (.bool true)) (fun (_, l, _) => l.length * 32 ≤ 140737488351232) := by
  refine Con.of (by kernel_rfl) T_ok CdsOK.nil (.con con_sNorm (.con con_scheck (.con con_sameText (.con con_sSame (.con con_llooks (.con con_same7 (.con con_sRuns (.con con_sMake (.con con_sSet (.con con_head7 .nil)))))))))) 5 [4] q_styleNormal.1 q_styleNormal.2.1 q_styleNormal.2.2 (fun _ => rfl) fun i hi => ?_
  obtain ⟨s, l, x⟩ := i
  by_cases he : nrmE (chkN s.size l (sgN s : Nat)) (looksL (sgN s) l) = 0
  case neg =>
    have k1 : (nrmE (chkN s.size l (sgN s : Nat)) (looksL (sgN s) l) != 0) = true := by simpa using he
    have hor : (chkN s.size l (sgN s : Nat) == nrmE (chkN s.size l (sgN s : Nat)) (looksL (sgN s) l) || nrmE (chkN s.size l (sgN s : Nat)) (looksL (sgN s) l) == 2) = true := by
      by_cases hc : chkN s.size l (sgN s : Nat) = 0
      · rw [nrmE_yes hc] at he ⊢
        have : madeE (looksL (sgN s) l) = 2 := by
          unfold madeE at he ⊢
          split
          · rfl
          · rename_i h; rw [if_neg h] at he; exact absurd rfl he
        rw [this]
        simp
      · rw [nrmE_no hc]
        simp
    repeat' (first | (with_reducible refine ⟨(s, l), ⟨(.cons (.agg (.cons (.v _) (.cons (.lent _ _ _ _ _ _) .nil))) .nil), ?_⟩, ?_⟩) | (with_reducible first | exact fun h => h | refine ExE.row (by with_unfolding_all rfl) ?_ | refine And.intro ?_ ?_) | ((with_reducible intro hq); first | exact bne1 hq (by with_reducible assumption) | exact bne1 (by with_reducible assumption) hq | ((simp only [*, BB, cond_true, cond_false, reduceCtorEq] at hq); done) | (revert hq; with_reducible intro _)) | (with_reducible first | exact True.intro | rfl | refine EntLe.row ?_ | exact LeN.ro rfl | exact LeN.rptr | assumption) | ((with_reducible first | refine WkX.chk ?_ | refine Wk.chk ?_ | refine LeL.chk ?_ | refine LeF.chk ?_ | refine Run.mk ?_); (conv => whnf)) | ((with_reducible show LeO _ _); first | refine LeO.ro ?_ | refine LeO.roCap ?_ | refine LeO.nil ?_ (fun _ => rfl)) | ((with_reducible show LeR _ _ _); first | refine LeR.own rfl rfl rfl ?_ | refine LeR.view rfl rfl rfl ?_ ?_ | refine LeR.ro ?_ | refine LeR.roCap ?_ | refine LeR.nil ?_ (fun _ => rfl)) | ((with_reducible first | show drawOK _ _ = true | show lateOK _ _ = true | show drawOK2 _ _ = true | show drawOK3 _ _ = true); kernel_rfl))
    refine joinI Unit [] (fun _ => []) (fun _ => []) (fun _ => False) ?_ fun _ h => h.elim
    repeat' (first | (with_reducible refine ⟨(s, l), ⟨(.cons (.agg (.cons (.v _) (.cons (.lent _ _ _ _ _ _) .nil))) .nil), ?_⟩, ?_⟩) | (with_reducible refine ⟨(), ⟨.nil, ?_⟩, ?_⟩) | (with_reducible first | exact fun h => h | refine ExE.row (by with_unfolding_all rfl) ?_ | refine And.intro ?_ ?_) | ((with_reducible intro hq); first | exact bne1 hq (by with_reducible assumption) | exact bne1 (by with_reducible assumption) hq | ((simp only [*, BB, cond_true, cond_false, reduceCtorEq] at hq); done) | (revert hq; with_reducible intro _)) | (with_reducible first | exact True.intro | rfl | refine EntLe.row ?_ | exact LeN.ro rfl | exact LeN.rptr | assumption) | ((with_reducible first | refine WkX.chk ?_ | refine Wk.chk ?_ | refine LeL.chk ?_ | refine LeF.chk ?_ | refine Run.mk ?_); (conv => whnf)) | ((with_reducible show LeO _ _); first | refine LeO.ro ?_ | refine LeO.roCap ?_ | refine LeO.nil ?_ (fun _ => rfl)) | ((with_reducible show LeR _ _ _); first | refine LeR.own rfl rfl rfl ?_ | refine LeR.view rfl rfl rfl ?_ ?_ | refine LeR.ro ?_ | refine LeR.roCap ?_ | refine LeR.nil ?_ (fun _ => rfl)) | ((with_reducible first | show drawOK _ _ = true | show lateOK _ _ = true | show drawOK2 _ _ = true | show drawOK3 _ _ = true); kernel_rfl))
    all_goals first
      | rfl
      | exact hor
      | (simp only [Bool.not_eq_true']; assumption)
      | (rw [hor]; rfl)
      | trace_state
  have k1 : (nrmE (chkN s.size l (sgN s : Nat)) (looksL (sgN s) l) != 0) = false := by rw [he]; rfl
  have hc : chkN s.size l (sgN s : Nat) = 0 := by
    by_cases hc : chkN s.size l (sgN s : Nat) = 0
    · exact hc
    · rw [nrmE_no hc] at he; exact he
  have hok := OkT.of hc
  have hs := hok.size
  have hn := sgN_le s
  have hlen := looksL_len hok.spans
  have hcol := looksL_col hok.spans
  have hm0 : madeE (looksL (sgN s) l) = 0 := by rw [nrmE_yes hc] at he; exact he
  have hm : ¬ 256 < (normL (looksL (sgN s) l)).length := fun h => by unfold madeE at hm0; rw [if_pos h] at hm0; cases hm0
  have hT : nrmT (chkN s.size l (sgN s : Nat)) s (looksL (sgN s) l) = s := by rw [nrmT_yes hc]; exact if_neg hm
  have hL : nrmL (chkN s.size l (sgN s : Nat)) (looksL (sgN s) l) = madeL (looksL (sgN s) l) := nrmL_yes hc
  have hmc := made_chk (s := s) hcol hlen hs hm
  obtain ⟨cN, lN⟩ := hmc
  have hokN := OkT.of cN
  have hE2 : nrmE (chkN s.size (madeL (looksL (sgN s) l)) (sgN s : Nat)) (looksL (sgN s) (madeL (looksL (sgN s) l))) = 0 := by rw [nrmE_yes cN, lN]; exact hm0
  have hT2 : nrmT (chkN s.size (madeL (looksL (sgN s) l)) (sgN s : Nat)) s (looksL (sgN s) (madeL (looksL (sgN s) l))) = s := by rw [nrmT_yes cN]; rw [lN]; exact if_neg hm
  have hL2 : nrmL (chkN s.size (madeL (looksL (sgN s) l)) (sgN s : Nat)) (looksL (sgN s) (madeL (looksL (sgN s) l))) = madeL (looksL (sgN s) l) := by rw [nrmL_yes cN, lN]
  have hNl := madeL_len (looksL (sgN s) l)
  have hNE : ∃ N, N = madeL (looksL (sgN s) l) := ⟨_, rfl⟩
  obtain ⟨N, hN⟩ := hNE
  rw [← hN] at hL cN lN hokN hE2 hT2 hL2 hNl
  have hsb : sameB s N s l = true := by
    unfold sameB
    rw [decide_eq_true hc, decide_eq_true cN, decide_eq_true (show looksL (sgN s) N = looksL (sgN s) l from lN)]
    simp
  repeat' (first | (with_reducible refine ⟨(s, l), ⟨(.cons (.agg (.cons (.v _) (.cons (.lent _ _ _ _ _ _) .nil))) .nil), ?_⟩, ?_⟩) | (with_reducible first | exact fun h => h | refine ExE.row (by with_unfolding_all rfl) ?_ | refine And.intro ?_ ?_) | ((with_reducible intro hq); first | exact bne1 hq (by with_reducible assumption) | exact bne1 (by with_reducible assumption) hq | ((simp only [*, BB, cond_true, cond_false, reduceCtorEq] at hq); done) | (revert hq; with_reducible intro _)) | (with_reducible first | exact True.intro | rfl | refine EntLe.row ?_ | exact LeN.ro rfl | exact LeN.rptr | assumption) | ((with_reducible first | refine WkX.chk ?_ | refine Wk.chk ?_ | refine LeL.chk ?_ | refine LeF.chk ?_ | refine Run.mk ?_); (conv => whnf)) | ((with_reducible show LeO _ _); first | refine LeO.ro ?_ | refine LeO.roCap ?_ | refine LeO.nil ?_ (fun _ => rfl)) | ((with_reducible show LeR _ _ _); first | refine LeR.own rfl rfl rfl ?_ | refine LeR.view rfl rfl rfl ?_ ?_ | refine LeR.ro ?_ | refine LeR.roCap ?_ | refine LeR.nil ?_ (fun _ => rfl)) | ((with_reducible first | show drawOK _ _ = true | show lateOK _ _ = true | show drawOK2 _ _ = true | show drawOK3 _ _ = true); kernel_rfl))
  refine joinI Unit [] (fun _ => [(6, .v (.int .i64 0))]) (fun _ => [(2, .box [.v (.string s), spO N] 24)]) (fun _ => True) ?_ fun _ _ => ?_
  · repeat' (first | (with_reducible refine ex_of () trivial ?_) | (with_reducible first | exact fun h => h | refine ExE.row (by with_unfolding_all rfl) ?_ | refine And.intro ?_ ?_) | ((with_reducible intro hq); first | exact bne1 hq (by with_reducible assumption) | exact bne1 (by with_reducible assumption) hq | ((simp only [*, BB, cond_true, cond_false, reduceCtorEq] at hq); done) | (revert hq; with_reducible intro _)) | (with_reducible first | exact True.intro | rfl | refine EntLe.row ?_ | exact LeN.ro rfl | exact LeN.rptr | assumption) | ((with_reducible first | refine WkX.chk ?_ | refine Wk.chk ?_ | refine LeL.chk ?_ | refine LeF.chk ?_ | refine Run.mk ?_); (conv => whnf)) | ((with_reducible show LeO _ _); first | refine LeO.ro ?_ | refine LeO.roCap ?_ | refine LeO.nil ?_ (fun _ => rfl)) | ((with_reducible show LeR _ _ _); first | refine LeR.own rfl rfl rfl ?_ | refine LeR.view rfl rfl rfl ?_ ?_ | refine LeR.ro ?_ | refine LeR.roCap ?_ | refine LeR.nil ?_ (fun _ => rfl)) | ((with_reducible first | show drawOK _ _ = true | show lateOK _ _ = true | show drawOK2 _ _ = true | show drawOK3 _ _ = true); kernel_rfl))
    all_goals first
      | exact he
      | exact hT
      | exact LeN.ro hL
      | trace_state
  have w1 : (nrmE (chkN s.size N (sgN s : Nat)) (looksL (sgN s) N) != 0) = false := by rw [hE2]; rfl
  have w2 : (!(decide (nrmT (chkN s.size N (sgN s : Nat)) s (looksL (sgN s) N) = s) && decide (nrmL (chkN s.size N (sgN s : Nat)) (looksL (sgN s) N) = N))) = false := by rw [hT2, hL2]; simp
  have w3 : (chkN s.size N (sgN s : Nat) != 0) = false := by rw [cN]; rfl
  have w4 : (!sameB s N s l) = false := by rw [hsb]; rfl
  have w5 : (!decide (s = s)) = false := by simp
  have w6 : (!true) = false := rfl
  have o2 : (nrmE (chkN s.size N (sgN s : Nat)) (looksL (sgN s) N) != 0 || (!(decide (nrmT (chkN s.size N (sgN s : Nat)) s (looksL (sgN s) N) = s) && decide (nrmL (chkN s.size N (sgN s : Nat)) (looksL (sgN s) N) = N)))) = false := by rw [w1, w2]; rfl
  have o3 : (nrmE (chkN s.size N (sgN s : Nat)) (looksL (sgN s) N) != 0 || (!(decide (nrmT (chkN s.size N (sgN s : Nat)) s (looksL (sgN s) N) = s) && decide (nrmL (chkN s.size N (sgN s : Nat)) (looksL (sgN s) N) = N))) || chkN s.size N (sgN s : Nat) != 0) = false := by rw [w1, w2, w3]; rfl
  have o4 : (nrmE (chkN s.size N (sgN s : Nat)) (looksL (sgN s) N) != 0 || (!(decide (nrmT (chkN s.size N (sgN s : Nat)) s (looksL (sgN s) N) = s) && decide (nrmL (chkN s.size N (sgN s : Nat)) (looksL (sgN s) N) = N))) || chkN s.size N (sgN s : Nat) != 0 || (!sameB s N s l)) = false := by rw [w1, w2, w3, w4]; rfl
  have o5 : (nrmE (chkN s.size N (sgN s : Nat)) (looksL (sgN s) N) != 0 || (!(decide (nrmT (chkN s.size N (sgN s : Nat)) s (looksL (sgN s) N) = s) && decide (nrmL (chkN s.size N (sgN s : Nat)) (looksL (sgN s) N) = N))) || chkN s.size N (sgN s : Nat) != 0 || (!sameB s N s l) || (!decide (s = s))) = false := by rw [w1, w2, w3, w4, w5]; rfl
  have o6 : (nrmE (chkN s.size N (sgN s : Nat)) (looksL (sgN s) N) != 0 || (!(decide (nrmT (chkN s.size N (sgN s : Nat)) s (looksL (sgN s) N) = s) && decide (nrmL (chkN s.size N (sgN s : Nat)) (looksL (sgN s) N) = N))) || chkN s.size N (sgN s : Nat) != 0 || (!sameB s N s l) || (!decide (s = s)) || (!true)) = false := by rw [w1, w2, w3, w4, w5, w6]; rfl
  have n1 : (!(nrmE (chkN s.size N (sgN s : Nat)) (looksL (sgN s) N) != 0)) = true := by rw [w1]; rfl
  have n2 : (!(nrmE (chkN s.size N (sgN s : Nat)) (looksL (sgN s) N) != 0 || (!(decide (nrmT (chkN s.size N (sgN s : Nat)) s (looksL (sgN s) N) = s) && decide (nrmL (chkN s.size N (sgN s : Nat)) (looksL (sgN s) N) = N))))) = true := by rw [o2]; rfl
  have n3 : (!(nrmE (chkN s.size N (sgN s : Nat)) (looksL (sgN s) N) != 0 || (!(decide (nrmT (chkN s.size N (sgN s : Nat)) s (looksL (sgN s) N) = s) && decide (nrmL (chkN s.size N (sgN s : Nat)) (looksL (sgN s) N) = N))) || chkN s.size N (sgN s : Nat) != 0)) = true := by rw [o3]; rfl
  have n4 : (!(nrmE (chkN s.size N (sgN s : Nat)) (looksL (sgN s) N) != 0 || (!(decide (nrmT (chkN s.size N (sgN s : Nat)) s (looksL (sgN s) N) = s) && decide (nrmL (chkN s.size N (sgN s : Nat)) (looksL (sgN s) N) = N))) || chkN s.size N (sgN s : Nat) != 0 || (!sameB s N s l))) = true := by rw [o4]; rfl
  have n5 : (!(nrmE (chkN s.size N (sgN s : Nat)) (looksL (sgN s) N) != 0 || (!(decide (nrmT (chkN s.size N (sgN s : Nat)) s (looksL (sgN s) N) = s) && decide (nrmL (chkN s.size N (sgN s : Nat)) (looksL (sgN s) N) = N))) || chkN s.size N (sgN s : Nat) != 0 || (!sameB s N s l) || (!decide (s = s)))) = true := by rw [o5]; rfl
  have hra : runsA s l = runsL (looksL (sgN s) l) := if_pos hc
  have hmr := make_runs (s := s) hcol hlen hs
  rw [← hra] at hmr
  obtain ⟨hm1, hm2⟩ := hmr
  have hE3 : nrmE (mkE0 s (runsA s l)) (sprTo (runsA s l) (runsA s l).length) = 0 := by rw [nrmE_yes hm1, hm2]; exact hm0
  have hT3 : nrmT (mkE0 s (runsA s l)) s (sprTo (runsA s l) (runsA s l).length) = s := by rw [nrmT_yes hm1, hm2]; exact if_neg hm
  have hL3 : nrmL (mkE0 s (runsA s l)) (sprTo (runsA s l) (runsA s l).length) = N := by rw [nrmL_yes hm1, hm2]; exact hN.symm
  have g1 : (chkN s.size l (sgN s : Nat) != 0) = false := by rw [hc]; rfl
  have g2 : (nrmE (mkE0 s (runsA s l)) (sprTo (runsA s l) (runsA s l).length) != 0) = false := by rw [hE3]; rfl
  have g3 : (!(decide (nrmT (mkE0 s (runsA s l)) s (sprTo (runsA s l) (runsA s l).length) = s) && decide (nrmL (mkE0 s (runsA s l)) (sprTo (runsA s l) (runsA s l).length) = N))) = false := by rw [hT3, hL3]; simp
  have g4 : (chkN s.size l (sgN s : Nat) != 0 || nrmE (mkE0 s (runsA s l)) (sprTo (runsA s l) (runsA s l).length) != 0) = false := by rw [g1, g2]; rfl
  have g5 : (chkN s.size l (sgN s : Nat) != 0 || nrmE (mkE0 s (runsA s l)) (sprTo (runsA s l) (runsA s l).length) != 0 || (!(decide (nrmT (mkE0 s (runsA s l)) s (sprTo (runsA s l) (runsA s l).length) = s) && decide (nrmL (mkE0 s (runsA s l)) (sprTo (runsA s l) (runsA s l).length) = N)))) = false := by rw [g1, g2, g3]; rfl
  have g6 : (!(chkN s.size l (sgN s : Nat) != 0 || nrmE (mkE0 s (runsA s l)) (sprTo (runsA s l) (runsA s l).length) != 0)) = true := by rw [g4]; rfl
  have hlR := runsA_len s l
  have hl9 := hok.len
  by_cases hi0 : nrmE (setE0 s l x) (pnt (looksL (sgN s) l) x) = 0
  case neg =>
    have t1 : (nrmE (setE0 s l x) (pnt (looksL (sgN s) l) x) != 0) = true := by simpa using hi0
    have hU : nrmT (setE0 s l x) s (pnt (looksL (sgN s) l) x) = ByteArray.empty ∧ nrmL (setE0 s l x) (pnt (looksL (sgN s) l) x) = [] := by
      by_cases h0 : (setE0 s l x) = 0
      · rw [nrmE_yes h0] at hi0
        have h256 : 256 < (normL (pnt (looksL (sgN s) l) x)).length := by
          by_cases h : 256 < (normL (pnt (looksL (sgN s) l) x)).length
          · exact h
          · exact absurd (if_neg h) hi0
        rw [nrmT_yes h0, nrmL_yes h0]
        exact ⟨if_pos h256, if_pos h256⟩
      · exact ⟨nrmT_no h0, nrmL_no h0⟩
    have t2 : decide (nrmT (setE0 s l x) s (pnt (looksL (sgN s) l) x) = ⟨#[]⟩) = true := decide_eq_true hU.1
    have t3 : (((nrmL (setE0 s l x) (pnt (looksL (sgN s) l) x)).length : Int) == 0) = true := by rw [hU.2]; rfl
    have t4 : (decide (nrmT (setE0 s l x) s (pnt (looksL (sgN s) l) x) = ⟨#[]⟩) && ((nrmL (setE0 s l x) (pnt (looksL (sgN s) l) x)).length : Int) == 0) = true := by rw [t2, t3]; rfl
    repeat' (first | (with_reducible refine ⟨(_, _, _, _), ⟨(.cons (.agg (.cons (.v _) (.cons (.lent _ _ _ _ _ _) .nil))) (.cons (.agg (.cons (.v _) (.cons (.lent _ _ _ _ _ _) .nil))) .nil)), ?_⟩, ?_⟩) | (with_reducible refine ⟨(s, N), ⟨(.cons (.agg (.cons (.v _) (.cons (.lent _ _ _ _ _ _) .nil))) .nil), ?_⟩, ?_⟩) | (with_reducible refine ⟨(s, l), ⟨(.cons (.agg (.cons (.v _) (.cons (.lent _ _ _ _ _ _) .nil))) .nil), ?_⟩, ?_⟩) | (with_reducible refine ⟨(s, runsA s l), ⟨(.cons (.v _) (.cons (.lent _ _ _ _ _ _) .nil)), ?_⟩, ?_⟩) | (with_reducible refine ⟨(s, l, x), ⟨(.cons (.agg (.cons (.v _) (.cons (.lent _ _ _ _ _ _) .nil))) (.cons (.agg (.cons (.v _) (.cons (.v _) (.cons (.v _) (.cons (.v _) .nil))))) .nil)), ?_⟩, ?_⟩) | (with_reducible refine ⟨(_, _), ⟨(.cons (.agg (.cons (.v _) (.cons (.lent _ _ _ _ _ _) .nil))) .nil), ?_⟩, ?_⟩) | (with_reducible refine ⟨(_, _), ⟨(.cons (.lent _ _ _ _ _ _) (.cons (.lent _ _ _ _ _ _) .nil)), ?_⟩, ?_⟩) | (with_reducible refine ⟨(), ⟨.nil, ?_⟩, ?_⟩) | (with_reducible first | exact fun h => h | refine ExE.row (by with_unfolding_all rfl) ?_ | refine And.intro ?_ ?_) | ((with_reducible intro hq); first | exact bne1 hq (by with_reducible assumption) | exact bne1 (by with_reducible assumption) hq | ((simp only [*, BB, cond_true, cond_false, reduceCtorEq] at hq); done) | (revert hq; with_reducible intro _)) | (with_reducible first | exact True.intro | rfl | refine EntLe.row ?_ | exact LeN.ro rfl | exact LeN.rptr | assumption) | ((with_reducible first | refine WkX.chk ?_ | refine Wk.chk ?_ | refine LeL.chk ?_ | refine LeF.chk ?_ | refine Run.mk ?_); (conv => whnf)) | ((with_reducible show LeO _ _); first | refine LeO.ro ?_ | refine LeO.roCap ?_ | refine LeO.nil ?_ (fun _ => rfl)) | ((with_reducible show LeR _ _ _); first | refine LeR.own rfl rfl rfl ?_ | refine LeR.view rfl rfl rfl ?_ ?_ | refine LeR.ro ?_ | refine LeR.roCap ?_ | refine LeR.nil ?_ (fun _ => rfl)) | ((with_reducible first | show drawOK _ _ = true | show lateOK _ _ = true | show drawOK2 _ _ = true | show drawOK3 _ _ = true); kernel_rfl))
    all_goals first
      | omega
      | (dsimp only; omega)
      | exact hok
      | exact hokN
      | exact lN
      | (rw [hL2]; omega)
      | (rw [hL3]; omega)
      | (rw [lN, hlen]; omega)
      | (show (nrmL _ _).length ≤ 9000000000000000000; have hq9 := @nrmL_len; exact Nat.le_trans hq9 (by decide))
      | rfl
      | (simp only [Bool.not_eq_true']; assumption)
      | (rename_i hb; rw [hb]; rfl)
      | trace_state
  have h0 : (setE0 s l x) = 0 := by
    by_cases h0 : (setE0 s l x) = 0
    · exact h0
    · rw [nrmE_no h0] at hi0; exact hi0
  have hr : rightB x (sgN s : Nat) = true := by
    cases hr : rightB x (sgN s : Nat) with
    | true => rfl
    | false =>
      have h : (setE0 s l x) = 23 := by unfold setE0; rw [if_neg (fun h => h hc), if_pos hr]
      rw [h] at h0
      cases h0
  have hxr := right_bd hr
  have hcB := pnt_col hcol hr
  have hlB : (pnt (looksL (sgN s) l) x).length = sgN s := by
    unfold pnt
    rw [pnt_len _ _ (by omega) (by omega)]
    exact hlen
  have hmB0 : madeE (pnt (looksL (sgN s) l) x) = 0 := by rw [nrmE_yes h0] at hi0; exact hi0
  have hmB : ¬ 256 < (normL (pnt (looksL (sgN s) l) x)).length := fun h => by unfold madeE at hmB0; rw [if_pos h] at hmB0; cases hmB0
  have u1 : nrmT (setE0 s l x) s (pnt (looksL (sgN s) l) x) = s := by rw [nrmT_yes h0]; exact if_neg hmB
  have hME : ∃ M, M = madeL (pnt (looksL (sgN s) l) x) := ⟨_, rfl⟩
  obtain ⟨M, hM⟩ := hME
  have u2 : nrmL (setE0 s l x) (pnt (looksL (sgN s) l) x) = M := by rw [nrmL_yes h0, hM]
  have hmk := made_chk (s := s) hcB hlB hs hmB
  rw [← hM] at hmk
  obtain ⟨cM, lM⟩ := hmk
  have v1 : (chkN (nrmT (setE0 s l x) s (pnt (looksL (sgN s) l) x)).size (nrmL (setE0 s l x) (pnt (looksL (sgN s) l) x)) (sgN (nrmT (setE0 s l x) s (pnt (looksL (sgN s) l) x)) : Nat)) = 0 := by rw [u1, u2]; exact cM
  have v2 : (looksL (sgN (nrmT (setE0 s l x) s (pnt (looksL (sgN s) l) x))) (nrmL (setE0 s l x) (pnt (looksL (sgN s) l) x))) = (pnt (looksL (sgN s) l) x) := by rw [u1, u2]; exact lM
  have x1 : (nrmE (chkN (nrmT (setE0 s l x) s (pnt (looksL (sgN s) l) x)).size (nrmL (setE0 s l x) (pnt (looksL (sgN s) l) x)) (sgN (nrmT (setE0 s l x) s (pnt (looksL (sgN s) l) x)) : Nat)) (looksL (sgN (nrmT (setE0 s l x) s (pnt (looksL (sgN s) l) x))) (nrmL (setE0 s l x) (pnt (looksL (sgN s) l) x))) == 0) = true := by rw [nrmE_yes v1, v2, hmB0]; rfl
  have x2 : nrmT (chkN (nrmT (setE0 s l x) s (pnt (looksL (sgN s) l) x)).size (nrmL (setE0 s l x) (pnt (looksL (sgN s) l) x)) (sgN (nrmT (setE0 s l x) s (pnt (looksL (sgN s) l) x)) : Nat)) (nrmT (setE0 s l x) s (pnt (looksL (sgN s) l) x)) (looksL (sgN (nrmT (setE0 s l x) s (pnt (looksL (sgN s) l) x))) (nrmL (setE0 s l x) (pnt (looksL (sgN s) l) x))) = s := by rw [nrmT_yes v1, v2, u1]; exact if_neg hmB
  have x3 : nrmL (chkN (nrmT (setE0 s l x) s (pnt (looksL (sgN s) l) x)).size (nrmL (setE0 s l x) (pnt (looksL (sgN s) l) x)) (sgN (nrmT (setE0 s l x) s (pnt (looksL (sgN s) l) x)) : Nat)) (looksL (sgN (nrmT (setE0 s l x) s (pnt (looksL (sgN s) l) x))) (nrmL (setE0 s l x) (pnt (looksL (sgN s) l) x))) = M := by rw [nrmL_yes v1, v2, hM]
  have x4 : (decide (nrmT (setE0 s l x) s (pnt (looksL (sgN s) l) x) = nrmT (chkN (nrmT (setE0 s l x) s (pnt (looksL (sgN s) l) x)).size (nrmL (setE0 s l x) (pnt (looksL (sgN s) l) x)) (sgN (nrmT (setE0 s l x) s (pnt (looksL (sgN s) l) x)) : Nat)) (nrmT (setE0 s l x) s (pnt (looksL (sgN s) l) x)) (looksL (sgN (nrmT (setE0 s l x) s (pnt (looksL (sgN s) l) x))) (nrmL (setE0 s l x) (pnt (looksL (sgN s) l) x)))) && decide (nrmL (setE0 s l x) (pnt (looksL (sgN s) l) x) = nrmL (chkN (nrmT (setE0 s l x) s (pnt (looksL (sgN s) l) x)).size (nrmL (setE0 s l x) (pnt (looksL (sgN s) l) x)) (sgN (nrmT (setE0 s l x) s (pnt (looksL (sgN s) l) x)) : Nat)) (looksL (sgN (nrmT (setE0 s l x) s (pnt (looksL (sgN s) l) x))) (nrmL (setE0 s l x) (pnt (looksL (sgN s) l) x))))) = true := by rw [x2, x3, u1, u2]; simp
  have x5 : (sameB (nrmT (setE0 s l x) s (pnt (looksL (sgN s) l) x)) (nrmL (setE0 s l x) (pnt (looksL (sgN s) l) x)) s l == (decide (nrmT (setE0 s l x) s (pnt (looksL (sgN s) l) x) = s) && decide (nrmL (setE0 s l x) (pnt (looksL (sgN s) l) x) = N))) = true := by
    rw [u1, u2]
    have hq : decide (M = N) = decide (looksL (sgN s) M = looksL (sgN s) l) := by
      rw [Bool.eq_iff_iff, decide_eq_true_eq, decide_eq_true_eq, lM]
      constructor
      · intro h
        have h5 := lM
        rw [h] at h5
        exact h5.symm.trans lN
      · intro h
        rw [hM, hN, h]
    unfold sameB
    rw [decide_eq_true hc, decide_eq_true cM, hq]
    simp
  have x6 : ((nrmE (chkN (nrmT (setE0 s l x) s (pnt (looksL (sgN s) l) x)).size (nrmL (setE0 s l x) (pnt (looksL (sgN s) l) x)) (sgN (nrmT (setE0 s l x) s (pnt (looksL (sgN s) l) x)) : Nat)) (looksL (sgN (nrmT (setE0 s l x) s (pnt (looksL (sgN s) l) x))) (nrmL (setE0 s l x) (pnt (looksL (sgN s) l) x))) == 0) && (decide (nrmT (setE0 s l x) s (pnt (looksL (sgN s) l) x) = nrmT (chkN (nrmT (setE0 s l x) s (pnt (looksL (sgN s) l) x)).size (nrmL (setE0 s l x) (pnt (looksL (sgN s) l) x)) (sgN (nrmT (setE0 s l x) s (pnt (looksL (sgN s) l) x)) : Nat)) (nrmT (setE0 s l x) s (pnt (looksL (sgN s) l) x)) (looksL (sgN (nrmT (setE0 s l x) s (pnt (looksL (sgN s) l) x))) (nrmL (setE0 s l x) (pnt (looksL (sgN s) l) x)))) && decide (nrmL (setE0 s l x) (pnt (looksL (sgN s) l) x) = nrmL (chkN (nrmT (setE0 s l x) s (pnt (looksL (sgN s) l) x)).size (nrmL (setE0 s l x) (pnt (looksL (sgN s) l) x)) (sgN (nrmT (setE0 s l x) s (pnt (looksL (sgN s) l) x)) : Nat)) (looksL (sgN (nrmT (setE0 s l x) s (pnt (looksL (sgN s) l) x))) (nrmL (setE0 s l x) (pnt (looksL (sgN s) l) x)))))) = true := by rw [x1, x4]; rfl
  have x7 : (((nrmE (chkN (nrmT (setE0 s l x) s (pnt (looksL (sgN s) l) x)).size (nrmL (setE0 s l x) (pnt (looksL (sgN s) l) x)) (sgN (nrmT (setE0 s l x) s (pnt (looksL (sgN s) l) x)) : Nat)) (looksL (sgN (nrmT (setE0 s l x) s (pnt (looksL (sgN s) l) x))) (nrmL (setE0 s l x) (pnt (looksL (sgN s) l) x))) == 0) && (decide (nrmT (setE0 s l x) s (pnt (looksL (sgN s) l) x) = nrmT (chkN (nrmT (setE0 s l x) s (pnt (looksL (sgN s) l) x)).size (nrmL (setE0 s l x) (pnt (looksL (sgN s) l) x)) (sgN (nrmT (setE0 s l x) s (pnt (looksL (sgN s) l) x)) : Nat)) (nrmT (setE0 s l x) s (pnt (looksL (sgN s) l) x)) (looksL (sgN (nrmT (setE0 s l x) s (pnt (looksL (sgN s) l) x))) (nrmL (setE0 s l x) (pnt (looksL (sgN s) l) x)))) && decide (nrmL (setE0 s l x) (pnt (looksL (sgN s) l) x) = nrmL (chkN (nrmT (setE0 s l x) s (pnt (looksL (sgN s) l) x)).size (nrmL (setE0 s l x) (pnt (looksL (sgN s) l) x)) (sgN (nrmT (setE0 s l x) s (pnt (looksL (sgN s) l) x)) : Nat)) (looksL (sgN (nrmT (setE0 s l x) s (pnt (looksL (sgN s) l) x))) (nrmL (setE0 s l x) (pnt (looksL (sgN s) l) x)))))) && (sameB (nrmT (setE0 s l x) s (pnt (looksL (sgN s) l) x)) (nrmL (setE0 s l x) (pnt (looksL (sgN s) l) x)) s l == (decide (nrmT (setE0 s l x) s (pnt (looksL (sgN s) l) x) = s) && decide (nrmL (setE0 s l x) (pnt (looksL (sgN s) l) x) = N)))) = true := by rw [x6, x5]; rfl
  have t1 : (nrmE (setE0 s l x) (pnt (looksL (sgN s) l) x) != 0) = false := by rw [hi0]; rfl
  repeat' (first | (with_reducible refine ⟨(_, _, _, _), ⟨(.cons (.agg (.cons (.v _) (.cons (.lent _ _ _ _ _ _) .nil))) (.cons (.agg (.cons (.v _) (.cons (.lent _ _ _ _ _ _) .nil))) .nil)), ?_⟩, ?_⟩) | (with_reducible refine ⟨(s, N), ⟨(.cons (.agg (.cons (.v _) (.cons (.lent _ _ _ _ _ _) .nil))) .nil), ?_⟩, ?_⟩) | (with_reducible refine ⟨(s, l), ⟨(.cons (.agg (.cons (.v _) (.cons (.lent _ _ _ _ _ _) .nil))) .nil), ?_⟩, ?_⟩) | (with_reducible refine ⟨(s, runsA s l), ⟨(.cons (.v _) (.cons (.lent _ _ _ _ _ _) .nil)), ?_⟩, ?_⟩) | (with_reducible refine ⟨(s, l, x), ⟨(.cons (.agg (.cons (.v _) (.cons (.lent _ _ _ _ _ _) .nil))) (.cons (.agg (.cons (.v _) (.cons (.v _) (.cons (.v _) (.cons (.v _) .nil))))) .nil)), ?_⟩, ?_⟩) | (with_reducible refine ⟨(_, _), ⟨(.cons (.agg (.cons (.v _) (.cons (.lent _ _ _ _ _ _) .nil))) .nil), ?_⟩, ?_⟩) | (with_reducible refine ⟨(_, _), ⟨(.cons (.lent _ _ _ _ _ _) (.cons (.lent _ _ _ _ _ _) .nil)), ?_⟩, ?_⟩) | (with_reducible refine ⟨(), ⟨.nil, ?_⟩, ?_⟩) | (with_reducible first | exact fun h => h | refine ExE.row (by with_unfolding_all rfl) ?_ | refine And.intro ?_ ?_) | ((with_reducible intro hq); first | exact bne1 hq (by with_reducible assumption) | exact bne1 (by with_reducible assumption) hq | ((simp only [*, BB, cond_true, cond_false, reduceCtorEq] at hq); done) | (revert hq; with_reducible intro _)) | (with_reducible first | exact True.intro | rfl | refine EntLe.row ?_ | exact LeN.ro rfl | exact LeN.rptr | assumption) | ((with_reducible first | refine WkX.chk ?_ | refine Wk.chk ?_ | refine LeL.chk ?_ | refine LeF.chk ?_ | refine Run.mk ?_); (conv => whnf)) | ((with_reducible show LeO _ _); first | refine LeO.ro ?_ | refine LeO.roCap ?_ | refine LeO.nil ?_ (fun _ => rfl)) | ((with_reducible show LeR _ _ _); first | refine LeR.own rfl rfl rfl ?_ | refine LeR.view rfl rfl rfl ?_ ?_ | refine LeR.ro ?_ | refine LeR.roCap ?_ | refine LeR.nil ?_ (fun _ => rfl)) | ((with_reducible first | show drawOK _ _ = true | show lateOK _ _ = true | show drawOK2 _ _ = true | show drawOK3 _ _ = true); kernel_rfl))
  all_goals first
    | omega
    | (dsimp only; omega)
    | exact hok
    | exact hokN
    | exact lN
    | (rw [hL2]; omega)
    | (rw [hL3]; omega)
    | (rw [lN, hlen]; omega)
    | (show (nrmL _ _).length ≤ 9000000000000000000; have hq9 := @nrmL_len; exact Nat.le_trans hq9 (by decide))
    | rfl
    | (simp only [Bool.not_eq_true']; assumption)
    | (rename_i hb; rw [hb]; rfl)
    | trace_state
end Go.SX.Try
/- A verified symbolic executor for Go code in the model: what a call's arguments read as. -/
namespace Go.SX
open Go.ChangeShapes Go.WideShapes Go.Deep Go.RowKit
section
variable {H : Type} {encH : TypeId × Value → H} {P : Program} {w : World} {E : Env}
structure Reads (encH : TypeId × Value → H) (P : Program) (w : World) (E : Env) (e : TypeId) {α : Type} (en : α → List AV) : Prop where
  out : ∀ n cs y, DataW.trod encH P w 0 (fun _ => true) true n e cs = some y → ∃ x : α, RelL w E (en x) cs
theorem Reads.int {e : TypeId} (he : P.underlying e = some (.int .i64)) : Reads encH P w E e (fun a : Int => [.v (.int .i64 a)]) := ⟨fun n cs y h => by
  obtain ⟨a, rfl, _⟩ := DataW.trod_int he h
  exact ⟨a, RelL.cons (.v _) (RelL.nil _ _)⟩⟩
theorem Reads.string {e : TypeId} (he : P.underlying e = some .string) : Reads encH P w E e (fun a : ByteArray => [.v (.string a)]) := ⟨fun n cs y h => by
  obtain ⟨a, rfl, _⟩ := DataW.trod_string he h
  exact ⟨a, RelL.cons (.v _) (RelL.nil _ _)⟩⟩
theorem Reads.bool {e : TypeId} (he : P.underlying e = some .bool) : Reads encH P w E e (fun a : Bool => [.sb a]) := ⟨fun n cs y h => by
  obtain ⟨a, rfl, _⟩ := DataW.trod_bool he h
  exact ⟨a, RelL.cons (.sb _) (RelL.nil _ _)⟩⟩
theorem Reads.map {e : TypeId} {α β : Type} {en : α → List AV} {en' : β → List AV} (h : Reads encH P w E e en) (f : α → β) (hf : ∀ x, en' (f x) = en x) : Reads encH P w E e en' := ⟨fun n cs y ht => by
  obtain ⟨x, hx⟩ := h.out n cs y ht
  exact ⟨f x, by rw [hf]; exact hx⟩⟩
inductive FReads (encH : TypeId × Value → H) (P : Program) (w : World) (E : Env) : List Field → Nat → Nat → {α : Type} → (α → List AV) → Prop
  | nil {o : Nat} : FReads encH P w E [] o o (fun _ : Unit => [])
  | cons {f : Field} {fs : List Field} {o k t : Nat} {α β : Type} {en : α → List AV} {en' : β → List AV} (ho : f.offset = o) (hc : P.cellsOf f.type = k) (h : Reads encH P w E f.type en) (hk : ∀ x, (en x).length = k) (hr : FReads encH P w E fs (o + k) t en') :
      FReads encH P w E (f :: fs) o t (fun x : α × β => en x.1 ++ en' x.2)
theorem FReads.out {fs : List Field} {o t : Nat} {α : Type} {en : α → List AV} (h : FReads encH P w E fs o t en) : o ≤ t ∧ ∀ (cs : List Value), cs.length = t →
    (∀ f ∈ fs, ∃ y n, DataW.trod encH P w 0 (fun _ => true) true n f.type ((cs.drop f.offset).take (P.cellsOf f.type)) = some y) → ∃ x : α, RelL w E (en x) (cs.drop o) := by
  induction h with
  | nil =>
    refine ⟨Nat.le_refl _, fun cs hl _ => ⟨(), ?_⟩⟩
    rw [List.drop_eq_nil_of_le (by omega)]
    exact RelL.nil _ _
  | @cons f fs o k t α β en en' ho hc h hk hr ih =>
    refine ⟨by omega, fun cs hl hf => ?_⟩
    obtain ⟨y, n, hy⟩ := hf f List.mem_cons_self
    obtain ⟨x, hx⟩ := h.out _ _ _ hy
    obtain ⟨z, hz⟩ := ih.2 cs hl fun g hg => hf g (List.mem_cons_of_mem _ hg)
    refine ⟨(x, z), ?_⟩
    rw [ho, hc] at hx
    have := hx.append hz
    rwa [show cs.drop (o + k) = (cs.drop o).drop k by rw [List.drop_drop], List.take_append_drop] at this
theorem Reads.struct {e : TypeId} {fs : Array Field} (he : P.underlying e = some (.struct fs)) {t : Nat} (hC : P.cellsOf e = t) {α : Type} {en : α → List AV} (h : FReads encH P w E fs.toList 0 t en) : Reads encH P w E e en := ⟨fun n cs y ht => by
  obtain ⟨xs, m, _, _, hl, hxl, hf⟩ := DataW.trod_struct he ht
  have := h.out.2 cs (by omega) fun f hmem => by
    obtain ⟨i, hi, hfi⟩ := List.getElem_of_mem hmem
    have hi2 : i < fs.size := by simpa using hi
    have h1 := hf i f (by rw [Array.getElem?_eq_getElem hi2]; simpa using hfi)
    rw [List.getElem?_eq_getElem (by omega)] at h1
    exact ⟨_, m, h1⟩
  simpa using this⟩
theorem Reads.slice {t e : TypeId} (ht : P.underlying t = some (.slice e)) {α : Type} {en : α → List AV} {k : Nat} (d : α) (hk : P.cellsOf e = k) (hk0 : 0 < k) (hs : ∀ x, (en x).length = k) (hl : ∀ b, b < w.heap.size → E.lnt b)
    (h : Reads encH P w (E.bz true) e en) : Reads encH P w E t (fun l : List α => [.ro k en d l none true]) := ⟨fun n cs y hy => by
  rcases open_slice ht hy with ⟨rfl, _⟩ | ⟨a, len, cap, m, n', D, Pl, rfl, _, hlc, _, hm, _, hi⟩
  · exact ⟨[], RelL.cons (.roNil k en d none none 0 hs (by simp)) (RelL.nil _ _)⟩
  have hlm : len ≤ m := by rw [hm]; simp; omega
  have hel : ∀ i, i < len → ∃ (x : α) (cs' : List Value), w.cells? 0 (a.add (i * k)) k = some cs' ∧ RelL w (E.bz true) (en x) cs' := fun i hil => by
    obtain ⟨cs', h1, h2⟩ := hi i (by omega)
    obtain ⟨x, hx⟩ := h.out _ _ _ h2
    rw [hk] at h1
    exact ⟨x, cs', h1, hx⟩
  by_cases h0 : len = 0
  · subst h0
    exact ⟨[], RelL.cons (.roNil k en d none (some a) cap hs (by simp)) (RelL.nil _ _)⟩
  obtain ⟨b, o, spot⟩ := a
  have hc0 : ∀ i j, i < len → j < k → ∃ v, w.cell? ((⟨b, o, spot⟩ : Addr).add (i * k + j)) = some v := fun i j h1 h2 => by
    obtain ⟨x, cs', h3, h4⟩ := hel i h1
    obtain ⟨_, h5, h6⟩ := World.cells?_some h3
    have h7 := h6 j h2
    rw [List.getElem?_eq_getElem (by omega), Go.Deep.add_add] at h7
    exact ⟨_, h7⟩
  have hspot : spot = none := by
    obtain ⟨v, hv⟩ := hc0 0 0 (by omega) hk0
    simpa [Addr.add] using World.cell?_spot hv
  subst hspot
  have hb : b < w.heap.size := by
    obtain ⟨v, hv⟩ := hc0 0 0 (by omega) hk0
    refine Nat.lt_of_not_le fun hle => ?_
    unfold World.cell? at hv
    rw [show ((⟨b, o, none⟩ : Addr).add (0 * k + 0)).block = b by simp [Addr.add], Array.getElem?_eq_none hle] at hv
    cases hv
  let X : Nat → α := fun i => if hi : i < len then Classical.choose (hel i hi) else d
  let Cs : Nat → List Value := fun i => if hi : i < len then Classical.choose (Classical.choose_spec (hel i hi)) else []
  have hX : ∀ i, i < len → w.cells? 0 ((⟨b, o, none⟩ : Addr).add (i * k)) k = some (Cs i) ∧ RelL w (E.bz true) (en (X i)) (Cs i) := fun i hi => by
    have := Classical.choose_spec (Classical.choose_spec (hel i hi))
    simpa only [X, Cs, dif_pos hi] using this
  refine ⟨(List.range len).map X, RelL.cons ?_ (RelL.nil _ _)⟩
  have hll : ((List.range len).map X).length = len := by simp
  have key : Rel w E (.ro k en d ((List.range len).map X) none true) (.slice (some ⟨b, o, none⟩) ((List.range len).map X).length cap) :=
    .ro (fun i j => (Cs i).getD j undef) hs (by simp) (by rw [hll]; exact hlc) (.inr (hl b hb)) (fun i j h1 h2 => by
      rw [hll] at h1
      obtain ⟨h3, _⟩ := hX i h1
      obtain ⟨_, h5, h6⟩ := World.cells?_some h3
      have h7 := h6 j h2
      rw [Go.Deep.add_add, add_plain] at h7
      rw [h7, List.getElem?_eq_getElem (by omega)]
      simp [List.getD_eq_getElem?_getD, show j < (Cs i).length by omega]) fun i h1 j h2 => by
      have h1' : i < len := by rw [hll] at h1; exact h1
      obtain ⟨_, h4⟩ := hX i h1'
      have he : ((List.range len).map X)[i] = X i := by simp
      have h2' : j < (en (X i)).length := by rw [← he]; exact h2
      have h8 : j < (Cs i).length := by have := h4.1; omega
      have h9 := h4.2 j h2' h8
      have he2 : (en ((List.range len).map X)[i])[j] = (en (X i))[j] := by simp only [he]
      rw [he2, show (Cs i).getD j undef = (Cs i)[j] by simp [List.getD_eq_getElem?_getD, h8]]
      exact h9
  rwa [hll] at key⟩
theorem Reads.arg {t e : TypeId} (ht : P.underlying t = some (.slice e)) {α : Type} {en : α → List AV} {k : Nat} {d : α} (h : Reads encH P w E t (fun l : List α => [.ro k en d l none true])) {a : Option Addr} {len cap : Nat} {y : DataW H} {p : List MemPlace}
    (hT : DataW.Trod encH P w 0 (fun _ => true) true t (.slice a len cap) y p) : ∃ l : List α, Rel w E (.ro k en d l none true) (.slice a len cap) := by
  obtain ⟨fuel, hf⟩ := hT
  obtain ⟨l, hl⟩ := h.out _ _ _ hf
  exact ⟨l, hl.2 0 (by simp) (by simp [Value.cells])⟩
end
end Go.SX
/- What the arguments of chapter 7's laws read as. -/
namespace Go.SX.Try
open Go.Proofs Go.Proofs.Try Go.SX.Plain Go.ChangeShapes Go.WideShapes Go.Deep
set_option maxRecDepth 100000
section
variable {H : Type} {encH : TypeId × Value → H} {w : World} {E : Env}
theorem cells_int7 : prog.cellsOf 3 = 1 := by kernel_rfl
theorem cells_str7 : prog.cellsOf 9 = 1 := by kernel_rfl
theorem cells_spn : prog.cellsOf 71 = 4 := by kernel_rfl
theorem cells_spns : prog.cellsOf 22 = 1 := by kernel_rfl
theorem cells_text : prog.cellsOf 24 = 2 := by kernel_rfl
theorem bytes_spn : prog.bytesOf 71 = 32 := by kernel_rfl
theorem reads_int7 : Reads encH prog w E 3 (fun a : Int => [.v (.int .i64 a)]) := Reads.int Try.underlying3
theorem reads_spn : Reads encH prog w E 71 C_spn.enc :=
  Reads.map (Reads.struct Try.underlying71 cells_spn (.cons rfl cells_int7 reads_int7 (fun _ => rfl) (.cons rfl cells_int7 reads_int7 (fun _ => rfl) (.cons rfl cells_int7 reads_int7 (fun _ => rfl) (.cons rfl cells_int7 reads_int7 (fun _ => rfl) .nil)))))
    (fun x : Int × Int × Int × Int × Unit => (⟨x.1, x.2.1, x.2.2.1, x.2.2.2.1⟩ : Spn)) (fun _ => rfl)
theorem reads_spns (hl : ∀ b, b < w.heap.size → E.lnt b) : Reads encH prog w E 22 (fun l : List Spn => [spR l]) :=
  Reads.slice Try.underlying22 C_spn.d cells_spn (by decide) (fun _ => rfl) hl reads_spn
theorem reads_text (hl : ∀ b, b < w.heap.size → E.lnt b) : Reads encH prog w E 24 (fun x : ByteArray × List Spn × Unit => [.v (.string x.1)] ++ ([spR x.2.1] ++ [])) :=
  Reads.struct Try.underlying24 cells_text (FReads.cons (en := fun a : ByteArray => [AV.v (.string a)]) (en' := fun x : List Spn × Unit => [spR x.1] ++ []) rfl cells_str7 (Reads.string Try.underlying9) (fun _ => rfl)
    (FReads.cons (en := fun l : List Spn => [spR l]) (en' := fun _ : Unit => []) rfl cells_spns (reads_spns hl) (fun _ => rfl) .nil))
theorem text_arg (hl : ∀ b, b < w.heap.size → E.lnt b) {cs : Array Value} {y : DataW H} {p : List MemPlace} (hT : DataW.Trod encH prog w 0 (fun _ => true) true 24 (.agg cs) y p) (hw : (y.weights prog 24).all (· ≤ reachBytes) = true) :
    ∃ (s : ByteArray) (l : List Spn), Rel w E (txAV s l) (.agg cs) ∧ l.length * 32 ≤ 140737488351232 := by
  obtain ⟨fuel, hf⟩ := hT
  have hf : DataW.trod encH prog w 0 (fun _ => true) true fuel 24 cs.toList = some (y, p) := hf
  obtain ⟨⟨s, l, _⟩, hr⟩ := (reads_text (E := E) hl).out _ _ _ hf
  refine ⟨s, l, .agg (by simpa using hr.1) fun i h1 h2 => hr.2 i h1 (by simpa using h2), ?_⟩
  obtain ⟨xs, m, _, hxe, hcl, hxl, hfl⟩ := DataW.trod_struct Try.underlying24 hf
  rw [cells_text] at hcl
  have hc1 : 1 < cs.size := by simpa using (show 1 < cs.toList.length by omega)
  have hv := hr.2 1 (by simp) (by rw [hcl]; decide)
  have hv : Rel w E (spR l) cs[1] := by simpa using hv
  have h1 := hfl 1 _ rfl
  have hd : (cs.toList.drop 1).take 1 = [cs[1]] := by
    rw [List.drop_eq_getElem_cons (by rw [hcl]; decide)]
    simp
  have h1 : DataW.trod encH prog w 0 (fun _ => true) true m 22 [cs[1]] = xs[1]? := by
    rw [← hd]
    exact h1
  have hx1 : 1 < xs.length := by rw [hxl]; decide
  rw [List.getElem?_eq_getElem hx1] at h1
  rcases open_slice Try.underlying22 h1 with ⟨hc, _⟩ | ⟨a, len, cap, m', n', D, Pl, hc, _, hlc, _, hm, hx, _⟩
  · have hc : cs[1] = .slice none 0 0 := by simpa using hc
    rw [hc] at hv
    cases hv
    simp
  · have hc : cs[1] = .slice (some a) len cap := by simpa using hc
    rw [hc] at hv
    have hlen : l.length ≤ len := by
      cases hv with
      | roNil => simp
      | ro => exact Nat.le_refl _
    have hy : y = .agg (xs.map (·.1)) := congrArg Prod.fst hxe
    have hmem : ((((List.range len).map D).length + ((List.range (m' - len)).map fun j => D (len + j)).length) * prog.bytesOf 71) ∈ y.weights prog 24 := by
      rw [hy]
      simp only [DataW.weights, Try.underlying24]
      refine DataW.weights_mem_each (j := 1) (t := 22) (d := xs[1].1) rfl (by simp [hx1]) _ ?_
      rw [hx]
      simp [DataW.weights, Try.underlying22]
    have := List.all_eq_true.1 hw _ hmem
    rw [bytes_spn] at this
    simp [reachBytes] at this
    omega
end
end Go.SX.Try
/- What spans, as arguments of chapter 7's laws, read as. -/
namespace Go.SX.Try
open Go.Proofs Go.Proofs.Try Go.SX.Plain Go.ChangeShapes Go.WideShapes Go.Deep
set_option maxRecDepth 100000
section
variable {H : Type} {encH : TypeId × Value → H} {w : World} {E : Env}
theorem span_arg {cs : Array Value} {y : DataW H} {p : List MemPlace} (hT : DataW.Trod encH prog w 0 (fun _ => true) true 71 (.agg cs) y p) : ∃ x : Spn, Rel w E (.agg (spAV x)) (.agg cs) := by
  obtain ⟨fuel, hf⟩ := hT
  have hf : DataW.trod encH prog w 0 (fun _ => true) true fuel 71 cs.toList = some (y, p) := hf
  obtain ⟨x, hr⟩ := (reads_spn (w := w) (E := E)).out _ _ _ hf
  have hl : (spAV x).length = cs.toList.length := hr.1
  exact ⟨x, .agg (by rw [hl]; simp) fun i h1 h2 => hr.2 i h1 (by simpa using h2)⟩
end
end Go.SX.Try
