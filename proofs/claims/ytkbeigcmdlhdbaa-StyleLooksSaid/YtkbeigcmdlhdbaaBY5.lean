/- A verified symbolic executor for Go code in the model, contracts and plain laws that the proofs lean on, part 5. -/
import Derived.Test.YtkbeigcmdlhdbaaBY4
set_option linter.unusedVariables false
set_option linter.unusedSimpArgs false
/- Clusters as the document finds them, and that the program finds the same. No program here. -/
namespace Go.SX.Plain
/-- A text's runes; where each stands, and the text's length behind them. -/
def rl (s : ByteArray) : List Int := (signsFrom s 0).map fun p => (p.2 : Int)
def al (s : ByteArray) : List Int := (signsFrom s 0).map (fun p => (p.1 : Int)) ++ [(s.size : Int)]
def joinsB (l : List Int) (f k : Nat) : Bool :=
  if (widthI (l.getD k 0) == 0 && !controlB (l.getD k 0) && !controlB (l.getD f 0)) = true then true
  else if (widthI (l.getD k 0) == 2 && l.getD (k - 1) 0 == 8205 && widthI (l.getD f 0) == 2) = true then true
  else flagB (l.getD k 0) && decide (k = f + 1) && flagB (l.getD f 0)
def arrowB (r : Int) : Bool := decide (0x2190 ≤ r) && decide (r ≤ 0x2BFF)
/-- Is FE0F among the runes from one up to another? -/
def variant (l : List Int) (f : Nat) : Nat → Bool
  | 0 => false
  | k + 1 => variant l f k || (decide (f < k) && l.getD k 0 == 65039)
def cellsR (l : List Int) (f t : Nat) : Int :=
  if 1 < t - f ∧ flagB (l.getD f 0) = true ∧ flagB (l.getD (f + 1) 0) = true then 2
  else if arrowB (l.getD f 0) = true ∧ variant l f t = true then 2
  else widthI (l.getD f 0)
def gAt (l a : List Int) (f t : Nat) : Grp := ⟨⟨a.getD f 0, a.getD t 0 - a.getD f 0, f, t, cellsR l f t⟩, l.getD f 0, l.getD (t - 1) 0, arrowB (l.getD f 0)⟩
def remGo (l a : List Int) : Nat → Nat → Nat → List Clu
  | 0, f, t => [(gAt l a f t).c]
  | k + 1, f, t => if t < l.length then (if joinsB l f t = true then remGo l a k f (t + 1) else (gAt l a f t).c :: remGo l a k t (t + 1)) else [(gAt l a f t).c]
/-- The clusters from the one on that began at f, its runes up to t gone over. -/
def rem (l a : List Int) (f t : Nat) : List Clu := remGo l a (l.length - t) f t
theorem rem_join {l a : List Int} {f t : Nat} (h : t < l.length) (hj : joinsB l f t = true) : rem l a f t = rem l a f (t + 1) := by
  unfold rem
  rw [show l.length - t = (l.length - (t + 1)) + 1 by omega]
  simp only [remGo]
  rw [if_pos h, if_pos hj]
theorem rem_part {l a : List Int} {f t : Nat} (h : t < l.length) (hj : joinsB l f t = false) : rem l a f t = (gAt l a f t).c :: rem l a t (t + 1) := by
  unfold rem
  rw [show l.length - t = (l.length - (t + 1)) + 1 by omega]
  simp only [remGo]
  rw [if_pos h, if_neg (by rw [hj]; exact Bool.false_ne_true)]
theorem rem_end {l a : List Int} {f t : Nat} (h : ¬ t < l.length) : rem l a f t = [(gAt l a f t).c] := by
  unfold rem
  rw [show l.length - t = 0 by omega]
  rfl
theorem flag_width {r : Int} (h : flagB r = true) : widthI r = 1 ∧ controlB r = false := by
  unfold flagB at h
  have h := of_decide_eq_true h
  unfold flagP at h
  have h1 : nothingB r = false := by
    unfold nothingB
    refine decide_eq_false ?_
    unfold nothingP
    omega
  have h2 : wideB r = false := by
    unfold wideB
    refine decide_eq_false ?_
    unfold wideP
    omega
  refine ⟨by unfold widthI; rw [h1, h2]; rfl, ?_⟩
  unfold controlB
  refine decide_eq_false ?_
  unfold controlP
  omega
theorem flag_arrow {r : Int} (h : flagB r = true) : arrowB r = false := by
  unfold flagB at h
  have h := of_decide_eq_true h
  unfold flagP at h
  unfold arrowB
  simp only [Bool.and_eq_false_iff, decide_eq_false_iff_not]
  omega
theorem takes_joins (l a : List Int) {f t : Nat} (h : f < t) : takesB (gAt l a f t) (l.getD t 0) = joinsB l f t := by
  unfold takesB joinsB gAt
  simp only
  generalize l.getD t 0 = r
  generalize l.getD f 0 = x
  generalize l.getD (t - 1) 0 = z
  by_cases h0 : widthI r = 0 ∧ controlB r = false
  · have hf : flagB r = false := by
      cases hc : flagB r with
      | false => rfl
      | true => have := (flag_width hc).1; omega
    rw [if_pos h0, h0.1, h0.2, hf]
    cases controlB x <;> simp
  · rw [if_neg h0, if_neg (show ¬ (widthI r == 0 && !controlB r && !controlB x) = true by
      intro hc
      simp only [Bool.and_eq_true, beq_iff_eq, Bool.not_eq_true'] at hc
      exact h0 hc.1)]
    cases hc : flagB r with
    | true =>
      have := (flag_width hc).1
      rw [if_pos rfl, if_neg (show ¬ (widthI r == 2 && z == 8205 && widthI x == 2) = true by rw [this]; simp)]
      rw [Bool.eq_iff_iff]
      simp only [Bool.and_eq_true, decide_eq_true_eq, true_and]
      constructor
      · rintro ⟨h1, h2⟩; exact ⟨by omega, h1⟩
      · rintro ⟨h1, h2⟩; exact ⟨h2, by omega⟩
    | false =>
      rw [if_neg Bool.false_ne_true, Bool.eq_iff_iff]
      simp
theorem joins_flag {l : List Int} {f t : Nat} (hj : joinsB l f t = true) (hf : flagB (l.getD t 0) = true) : t = f + 1 ∧ flagB (l.getD f 0) = true := by
  have h1 := flag_width hf
  unfold joinsB at hj
  rw [if_neg (by rw [h1.1]; simp), if_neg (by rw [h1.1]; simp)] at hj
  simp only [Bool.and_eq_true, decide_eq_true_eq] at hj
  exact ⟨hj.1.2, hj.2⟩
theorem variant_one (l : List Int) (f : Nat) : ∀ k, k ≤ f + 1 → variant l f k = false
  | 0, _ => rfl
  | k + 1, h => by
    simp only [variant]
    rw [variant_one l f k (by omega)]
    simp only [Bool.false_or, Bool.and_eq_false_iff, decide_eq_false_iff_not]
    exact .inl (by omega)
theorem add_one (l a : List Int) (f : Nat) : addG ⟨⟨a.getD f 0, 0, f, f, 0⟩, 0, 0, false⟩ (l.getD f 0) (a.getD (f + 1) 0 - a.getD f 0) = gAt l a f (f + 1) := by
  unfold addG gAt
  rw [if_pos rfl]
  have hc : cellsR l f (f + 1) = widthI (l.getD f 0) := by
    unfold cellsR
    rw [if_neg (by omega), if_neg (by rw [variant_one l f _ (Nat.le_refl _)]; simp)]
  rw [hc]
  simp only [arrowB, Int.zero_add, Nat.add_sub_cancel]
  rfl
theorem cellsR_np {l : List Int} {f : Nat} (h : ¬ (flagB (l.getD f 0) = true ∧ flagB (l.getD (f + 1) 0) = true)) (t : Nat) : cellsR l f t = if arrowB (l.getD f 0) = true ∧ variant l f t = true then 2 else widthI (l.getD f 0) := by
  unfold cellsR
  rw [if_neg (fun h2 => h h2.2)]
theorem add_more (l a : List Int) {f t : Nat} (h : f < t) (hj : joinsB l f t = true) : addG (gAt l a f t) (l.getD t 0) (a.getD (t + 1) 0 - a.getD t 0) = gAt l a f (t + 1) := by
  have hne : ¬ ((t : Int) = f) := by omega
  have hcells : cellsR l f (t + 1) = if flagB (l.getD t 0) = true ∨ (arrowB (l.getD f 0) = true ∧ l.getD t 0 = 0xFE0F) then 2 else cellsR l f t := by
    by_cases hf : flagB (l.getD t 0) = true
    · obtain ⟨rfl, hff⟩ := joins_flag hj hf
      rw [if_pos (.inl hf)]
      unfold cellsR
      rw [if_pos ⟨by omega, hff, hf⟩]
    · by_cases hp : flagB (l.getD f 0) = true ∧ flagB (l.getD (f + 1) 0) = true
      · have ht : t ≠ f + 1 := fun e => hf (e ▸ hp.2)
        have hna := flag_arrow hp.1
        rw [if_neg (by rintro (h1 | h1); exact hf h1; rw [hna] at h1; exact absurd h1.1 Bool.false_ne_true)]
        unfold cellsR
        rw [if_pos ⟨by omega, hp⟩, if_pos ⟨by omega, hp⟩]
      · rw [cellsR_np hp, cellsR_np hp]
        by_cases ha : arrowB (l.getD f 0) = true
        · by_cases hv : l.getD t 0 = 0xFE0F
          · have hvar : variant l f (t + 1) = true := by
              simp only [variant, hv]
              simp [h]
            have h1 : arrowB (l.getD f 0) = true ∧ variant l f (t + 1) = true := ⟨ha, hvar⟩
            have h2 : flagB (l.getD t 0) = true ∨ (arrowB (l.getD f 0) = true ∧ l.getD t 0 = 0xFE0F) := .inr ⟨ha, hv⟩
            rw [if_pos h1, if_pos h2]
          · have h2 : ¬ (flagB (l.getD t 0) = true ∨ (arrowB (l.getD f 0) = true ∧ l.getD t 0 = 0xFE0F)) := fun h => h.elim hf fun h => hv h.2
            have : variant l f (t + 1) = variant l f t := by
              simp only [variant]
              have : (l.getD t 0 == 65039) = false := by simpa using hv
              rw [this]; simp
            rw [this, if_neg h2]
        · have h1 : ¬ (arrowB (l.getD f 0) = true ∧ variant l f (t + 1) = true) := fun h => ha h.1
          have h2 : ¬ (flagB (l.getD t 0) = true ∨ (arrowB (l.getD f 0) = true ∧ l.getD t 0 = 0xFE0F)) := fun h => h.elim hf fun h => ha h.1
          have h3 : ¬ (arrowB (l.getD f 0) = true ∧ variant l f t = true) := fun h => ha h.1
          rw [if_neg h1, if_neg h2, if_neg h3]
  unfold addG
  rw [if_neg (by simp only [gAt]; exact hne)]
  have hs : (if flagB (l.getD t 0) = true ∨ ((gAt l a f t).arrow = true ∧ l.getD t 0 = 0xFE0F) then (2 : Int) else (gAt l a f t).c.cells) = cellsR l f (t + 1) := hcells.symm
  have hlen : a.getD t 0 - a.getD f 0 + (a.getD (t + 1) 0 - a.getD t 0) = a.getD (t + 1) 0 - a.getD f 0 := by omega
  split
  · rename_i hc
    rw [if_pos hc] at hs
    simp only [gAt] at hs ⊢
    rw [← hs]
    simp only [hlen, Nat.add_sub_cancel]
    rfl
  · rename_i hc
    rw [if_neg hc] at hs
    simp only [gAt] at hs ⊢
    rw [hs]
    simp only [hlen, Nat.add_sub_cancel]
    rfl

/-- The signs gone over, one by one. -/
def nextPos (s : ByteArray) : List (Nat × Nat) → Nat
  | [] => s.size
  | p :: _ => p.1
def procL (s : ByteArray) : List (Nat × Nat) → Bool → Grp → List Clu
  | [], b, g => if b = true then [g.c] else []
  | (p, r) :: t, b, g => signOut b g r ++ procL s t true (signGrp b g p r (nextPos s t))
theorem rest_proc (s : ByteArray) : ∀ (k pos : Nat) (a w : Nat) (b : Bool) (g : Grp), s.size - pos ≤ k → 0 < pos → pos ≤ s.size → rest s pos a w b g = procL s ((a, w) :: signsFrom s pos) b g
  | k, pos, a, w, b, g, hk, h0, hp => by
    by_cases h : pos < s.size
    · obtain ⟨k', rfl⟩ : ∃ k', k = k' + 1 := ⟨k - 1, by omega⟩
      have hw := width_pos s pos
      have hl := width_le h
      rw [rest_step h, if_pos h0, signsFrom_step h, rest_proc s k' _ _ _ _ _ (by omega) (by omega) hl]
      rfl
    · rw [rest_end h, if_neg (by omega), signsFrom_end h]
      rfl
theorem clusters_proc (s : ByteArray) : clusters s = procL s (signsFrom s 0) false Grp.zero := by
  unfold clusters
  by_cases h : 0 < s.size
  · have hl := width_le h
    have hw := width_pos s 0
    rw [rest_step h, if_neg (Nat.lt_irrefl _), signsFrom_step h]
    have := rest_proc s s.size (0 + (Utf8.decode s 0).2) 0 (Utf8.decode s 0).1 false Grp.zero (by omega) (by omega) hl
    exact this
  · rw [rest_end h, if_pos (by omega), signsFrom_end h]
    rfl
theorem rl_len (s : ByteArray) : (rl s).length = (signsFrom s 0).length := by simp [rl]
theorem al_len (s : ByteArray) : (al s).length = (signsFrom s 0).length + 1 := by simp [al]
theorem rl_get (s : ByteArray) {i : Nat} (h : i < (signsFrom s 0).length) : (rl s).getD i 0 = ((signsFrom s 0)[i]).2 := by
  simp [rl, List.getD_eq_getElem?_getD, h]
theorem al_get (s : ByteArray) {i : Nat} (h : i < (signsFrom s 0).length) : (al s).getD i 0 = ((signsFrom s 0)[i]).1 := by
  simp [al, List.getD_eq_getElem?_getD, List.getElem?_append, h]
theorem al_next (s : ByteArray) {i : Nat} (h : i ≤ (signsFrom s 0).length) : (al s).getD i 0 = nextPos s ((signsFrom s 0).drop i) := by
  by_cases hi : i < (signsFrom s 0).length
  · rw [al_get s hi, List.drop_eq_getElem_cons hi]; rfl
  · have : i = (signsFrom s 0).length := by omega
    rw [List.drop_of_length_le (by omega)]
    simp [al, List.getD_eq_getElem?_getD, this, nextPos]
theorem proc_rem (s : ByteArray) : ∀ (k f t : Nat), (signsFrom s 0).length - t ≤ k → f < t → t ≤ (signsFrom s 0).length → procL s ((signsFrom s 0).drop t) true (gAt (rl s) (al s) f t) = rem (rl s) (al s) f t
  | k, f, t, hk, hf, ht => by
    by_cases h : t < (signsFrom s 0).length
    · obtain ⟨k', rfl⟩ : ∃ k', k = k' + 1 := ⟨k - 1, by omega⟩
      have hr := rl_get s h
      have ha := al_get s h
      have hn := al_next s (i := t + 1) h
      rw [List.drop_eq_getElem_cons h]
      obtain ⟨hd, hd2⟩ : ∃ q, q = (signsFrom s 0)[t] := ⟨_, rfl⟩
      rw [← hd2] at hr ha ⊢
      obtain ⟨p, r⟩ := hd
      simp only at hr ha
      simp only [procL]
      rw [← hr, ← ha, ← hn]
      have htj := takes_joins (rl s) (al s) hf (t := t)
      cases hj : joinsB (rl s) f t with
      | true =>
        have ho : signOut true (gAt (rl s) (al s) f t) ((rl s).getD t 0) = [] := by unfold signOut; rw [htj, hj]; simp
        have hg : signGrp true (gAt (rl s) (al s) f t) ((al s).getD t 0) ((rl s).getD t 0) ((al s).getD (t + 1) 0) = gAt (rl s) (al s) f (t + 1) := by
          unfold signGrp
          rw [if_neg (by rw [htj, hj]; simp)]
          exact add_more _ _ hf hj
        rw [ho, hg, List.nil_append, rem_join (by rw [rl_len]; exact h) hj]
        exact proc_rem s k' f (t + 1) (by omega) (by omega) h
      | false =>
        have ho : signOut true (gAt (rl s) (al s) f t) ((rl s).getD t 0) = [(gAt (rl s) (al s) f t).c] := by unfold signOut; rw [htj, hj]; simp
        have hg : signGrp true (gAt (rl s) (al s) f t) ((al s).getD t 0) ((rl s).getD t 0) ((al s).getD (t + 1) 0) = gAt (rl s) (al s) t (t + 1) := by
          unfold signGrp
          rw [if_pos (by rw [htj, hj]; simp)]
          exact add_one _ _ t
        rw [ho, hg, rem_part (by rw [rl_len]; exact h) hj]
        rw [proc_rem s k' t (t + 1) (by omega) (by omega) h]
        rfl
    · rw [List.drop_of_length_le (by omega), rem_end (by rw [rl_len]; exact h)]
      rfl
theorem clusters_rem (s : ByteArray) : clusters s = if 0 < (signsFrom s 0).length then rem (rl s) (al s) 0 1 else [] := by
  rw [clusters_proc]
  by_cases h : 0 < (signsFrom s 0).length
  · rw [if_pos h, ← proc_rem s _ 0 1 (Nat.le_refl _) (by omega) h]
    have hr := rl_get s h
    have ha := al_get s h
    have hn := al_next s (i := 1) h
    have hd0 : (signsFrom s 0) = (signsFrom s 0)[0] :: (signsFrom s 0).drop 1 := by
      have := List.drop_eq_getElem_cons h
      simpa using this
    have h00 : ((signsFrom s 0)[0]).1 = 0 := by
      have hz : 0 < s.size := by
        rcases Nat.lt_or_ge 0 s.size with h1 | h1
        · exact h1
        · rw [signsFrom_end (by omega)] at h; simp at h
      have := signsFrom_step hz
      simp only [this]
      rfl
    obtain ⟨q, hq⟩ : ∃ q, q = (signsFrom s 0)[0] := ⟨_, rfl⟩
    rw [← hq] at hr ha hd0 h00
    rw [hd0]
    obtain ⟨p, r⟩ := q
    simp only at hr ha h00
    simp only [procL]
    have ho : signOut false Grp.zero (r : Int) = [] := rfl
    rw [ho, List.nil_append, ← hr, ← ha, List.drop_succ_cons, List.drop_zero, ← hn]
    have : signGrp false Grp.zero ((al s).getD 0 0) ((rl s).getD 0 0) ((al s).getD 1 0) = gAt (rl s) (al s) 0 1 := by
      unfold signGrp
      rw [if_neg (by simp)]
      have := add_one (rl s) (al s) 0
      rw [show (al s).getD 0 0 = 0 by rw [ha, h00]; rfl] at this ⊢
      exact this
    rw [this]
  · rw [if_neg h]
    have : signsFrom s 0 = [] := List.eq_nil_of_length_eq_zero (by omega)
    rw [this]
    rfl
theorem signsFrom_len (s : ByteArray) : (signsFrom s 0).length ≤ s.size := by
  have key : ∀ (k pos : Nat), s.size - pos ≤ k → (signsGo s k pos).length ≤ s.size - pos := by
    intro k
    induction k with
    | zero => intro pos _; simp [signsGo]
    | succ k ih =>
      intro pos h
      simp only [signsGo]
      split
      · have := width_pos s pos
        have ih := ih (pos + (Utf8.decode s pos).2) (by omega)
        simp only [List.length_cons]; omega
      · simp
  unfold signsFrom
  exact key _ _ (by omega)
theorem variant_yes {l : List Int} {f i : Nat} (hi : f < i) (hv : l.getD i 0 = 65039) : ∀ t, i < t → variant l f t = true
  | 0, h => by omega
  | t + 1, h => by
    simp only [variant]
    by_cases he : i = t
    · subst he; simp only [hv, hi]; simp
    · rw [variant_yes hi hv t (by omega)]; rfl
theorem variant_no {l : List Int} {f i : Nat} (h : variant l f i = false) (hv : ¬ l.getD i 0 = 65039) : variant l f (i + 1) = false := by
  simp only [variant, h]
  have : (l.getD i 0 == 65039) = false := by simpa using hv
  rw [this]; simp
theorem cellsR_pair {l : List Int} {f t : Nat} (h : f + 1 < t) (h1 : flagB (l.getD f 0) = true) (h2 : flagB (l.getD (f + 1) 0) = true) : cellsR l f t = 2 := by
  unfold cellsR; rw [if_pos ⟨by omega, h1, h2⟩]
theorem cellsR_arrow {l : List Int} {f t : Nat} (h : f + 1 < t → flagB (l.getD f 0) = true → flagB (l.getD (f + 1) 0) = false) : cellsR l f t = if arrowB (l.getD f 0) = true ∧ variant l f t = true then 2 else widthI (l.getD f 0) := by
  unfold cellsR
  rw [if_neg]
  rintro ⟨h1, h2, h3⟩
  rw [h (by omega) h2] at h3
  cases h3
theorem rem_len (l a : List Int) : ∀ (k f t : Nat), (remGo l a k f t).length ≤ k + 1
  | 0, _, _ => by simp [remGo]
  | k + 1, f, t => by
    simp only [remGo]
    split
    · split
      · have := rem_len l a k f (t + 1); omega
      · have := rem_len l a k t (t + 1); simp only [List.length_cons]; omega
    · simp
/-- What is still told when the next cluster begins at f. -/
def remAt (l a : List Int) (f : Nat) : List Clu := if f < l.length then rem l a f (f + 1) else []
theorem signsGo_lt (s : ByteArray) : ∀ (k pos : Nat), ∀ p ∈ signsGo s k pos, p.1 < s.size
  | 0, _, p, h => by simp [signsGo] at h
  | k + 1, pos, p, h => by
    simp only [signsGo] at h
    split at h
    · rcases List.mem_cons.1 h with rfl | h
      · assumption
      · exact signsGo_lt s k _ p h
    · cases h
theorem al_bd (s : ByteArray) (i : Nat) : 0 ≤ (al s).getD i 0 ∧ (al s).getD i 0 ≤ s.size := by
  by_cases h : i < (signsFrom s 0).length
  · rw [al_get s h]
    have := signsGo_lt s _ _ _ (List.getElem_mem h)
    omega
  · by_cases h2 : i = (signsFrom s 0).length
    · rw [al_next s (by omega), List.drop_of_length_le (by omega)]
      simp [nextPos]
    · have : (al s).getD i 0 = 0 := by
        rw [List.getD_eq_getElem?_getD, List.getElem?_eq_none (by rw [al_len]; omega)]; rfl
      omega
end Go.SX.Plain
/- Signs in a part of a text; where signs stand. No program here. -/
namespace Go.SX.Plain
theorem bt_extract {s : ByteArray} {p e k : Nat} (h : p + k < e) (he : e ≤ s.size) : bt (s.extract p e) k = bt s (p + k) := by
  unfold bt
  rw [bytesL_get, bytesL_get]
  congr 2
  rw [ByteArray.data_extract]
  have h1 : p + k < s.data.size := by have : s.data.size = s.size := rfl; omega
  have h2 : k < (s.data.extract p e).size := by simp; omega
  simp [List.getD_eq_getElem?_getD, h1]
  rw [List.getElem?_take, if_pos (by omega), List.getElem?_drop]
  simp [h1]
theorem size_extract' {s : ByteArray} {p e : Nat} (he : e ≤ s.size) : (s.extract p e).size = e - p := by
  simp [ByteArray.size_extract]; omega
theorem second_no2 {s : ByteArray} {i : Nat} (hn : 2 ≤ longI (bt s i)) (h : ¬ (i + 1 < s.size ∧ secondB (bt s i) (bt s (i + 1)) = true)) : Utf8.decode s i = (65533, 1) := by
  refine second_no hn ?_
  by_cases h1 : i + 1 < s.size
  · right
    cases h2 : secondB (bt s i) (bt s (i + 1)) with
    | false => rfl
    | true => exact absurd ⟨h1, h2⟩ h
  · exact .inl h1
/-- A sign is the same in a part that holds it. -/
theorem decode_extract {s : ByteArray} {p e : Nat} (hpe : p < e) (he : e ≤ s.size) (hw : p + (Utf8.decode s p).2 ≤ e) : Utf8.decode (s.extract p e) 0 = Utf8.decode s p := by
  have hsz := size_extract' (p := p) he
  have b0 : bt (s.extract p e) 0 = bt s p := by rw [bt_extract (by omega) he]; rfl
  have bk : ∀ k, p + k < e → bt (s.extract p e) k = bt s (p + k) := fun k h => bt_extract h he
  have mk : ∀ k, p + k < e → moreB (s.extract p e) (0 + k) = moreB s (p + k) := fun k h => by
    unfold moreB
    rw [Nat.zero_add, bk k h, hsz, decide_eq_true (show k < e - p by omega), decide_eq_true (show p + k < s.size by omega)]
  have mno : ∀ k, ¬ p + k < e → moreB (s.extract p e) (0 + k) = false := fun k h => by
    unfold moreB
    rw [Nat.zero_add, hsz, decide_eq_false (show ¬ k < e - p by omega)]; rfl
  rcases longI_cases (bt s p) with h | h | h
  · rw [dec_0 h, dec_0 (by rw [b0]; exact h)]
  · rw [dec_1 h, dec_1 (by rw [b0]; exact h), b0]
  · by_cases h2 : p + 1 < s.size ∧ secondB (bt s p) (bt s (p + 1)) = true
    · by_cases hp1 : p + 1 < e
      · have hx2 : 0 + 1 < (s.extract p e).size ∧ secondB (bt (s.extract p e) 0) (bt (s.extract p e) (0 + 1)) = true := by
          rw [b0, bk (0 + 1) (by omega), hsz]; exact ⟨by omega, h2.2⟩
        rcases h with h | h | h
        · rw [(dec_2 h h2.1 h2.2).1, (dec_2 (by rw [b0]; exact h) hx2.1 hx2.2).1, b0, bk (0 + 1) (by omega)]
        · by_cases m2 : moreB s (p + 2) = true
          · have hd := (dec_3 h h2.1 h2.2 m2).1
            rw [hd] at hw
            simp only at hw
            rw [hd, (dec_3 (by rw [b0]; exact h) hx2.1 hx2.2 (by rw [mk 2 (by omega)]; exact m2)).1, b0, bk (0 + 1) (by omega), bk (0 + 2) (by omega)]
          · have m2 : moreB s (p + 2) = false := by simpa using m2
            rw [more_no2 (by omega) m2, more_no2 (by rw [b0]; omega)]
            by_cases hp2 : p + 2 < e
            · rw [mk 2 hp2]; exact m2
            · exact mno 2 hp2
        · by_cases m2 : moreB s (p + 2) = true
          · by_cases m3 : moreB s (p + 3) = true
            · have hd := (dec_4 h h2.1 h2.2 m2 m3).1
              rw [hd] at hw
              simp only at hw
              rw [hd, (dec_4 (by rw [b0]; exact h) hx2.1 hx2.2 (by rw [mk 2 (by omega)]; exact m2) (by rw [mk 3 (by omega)]; exact m3)).1, b0, bk (0 + 1) (by omega), bk (0 + 2) (by omega), bk (0 + 3) (by omega)]
            · have m3 : moreB s (p + 3) = false := by simpa using m3
              rw [more_no3 (by omega) m3, more_no3 (by rw [b0]; omega)]
              by_cases hp3 : p + 3 < e
              · rw [mk 3 hp3]; exact m3
              · exact mno 3 hp3
          · have m2 : moreB s (p + 2) = false := by simpa using m2
            rw [more_no2 (by omega) m2, more_no2 (by rw [b0]; omega)]
            by_cases hp2 : p + 2 < e
            · rw [mk 2 hp2]; exact m2
            · exact mno 2 hp2
      · have h4 : p + 1 = e := by omega
        rw [second_no2 (s := s.extract p e) (i := 0) (by rw [b0]; omega) (by rw [hsz]; rintro ⟨h5, _⟩; omega)]
        rcases h with h | h | h
        · rw [(dec_2 h h2.1 h2.2).1] at hw; simp only at hw; omega
        · by_cases m2 : moreB s (p + 2) = true
          · rw [(dec_3 h h2.1 h2.2 m2).1] at hw; simp only at hw; omega
          · exact (more_no2 (by omega) (by simpa using m2)).symm
        · by_cases m2 : moreB s (p + 2) = true
          · by_cases m3 : moreB s (p + 3) = true
            · rw [(dec_4 h h2.1 h2.2 m2 m3).1] at hw; simp only at hw; omega
            · exact (more_no3 (by omega) (by simpa using m3)).symm
          · exact (more_no2 (by omega) (by simpa using m2)).symm
    · rw [second_no2 (by omega) h2, second_no2 (by rw [b0]; omega)]
      rw [b0, hsz]
      rintro ⟨h3, h4⟩
      rw [bk (0 + 1) (by omega)] at h4
      exact h2 ⟨by omega, h4⟩
/-- The runes, out of the signs. -/
def runes' (s : ByteArray) : List Int := ((signsFrom s 0).map fun p => sgnAt s p.1).map (·.rune)
/-- The signs hang together. -/
theorem signsGo_chain (s : ByteArray) : ∀ (k pos : Nat), s.size - pos ≤ k → ∀ i (h : i < (signsGo s k pos).length), ((signsGo s k pos)[i]).1 < s.size ∧ ((signsGo s k pos)[i]).2 = (Utf8.decode s ((signsGo s k pos)[i]).1).1 ∧
    nextPos s ((signsGo s k pos).drop (i + 1)) = ((signsGo s k pos)[i]).1 + (Utf8.decode s ((signsGo s k pos)[i]).1).2
  | 0, pos, _, i, h => by simp [signsGo] at h
  | k + 1, pos, hk, i, h => by
    by_cases hp : pos < s.size
    · have hw := width_pos s pos
      have hwl := width_le hp
      have e : signsGo s (k + 1) pos = (pos, (Utf8.decode s pos).1) :: signsGo s k (pos + (Utf8.decode s pos).2) := by simp only [signsGo]; rw [if_pos hp]
      cases i with
      | zero =>
        simp only [e, List.getElem_cons_zero, List.drop_succ_cons, List.drop_zero]
        refine ⟨hp, trivial, ?_⟩
        by_cases hp2 : pos + (Utf8.decode s pos).2 < s.size
        · obtain ⟨k', rfl⟩ : ∃ k', k = k' + 1 := ⟨k - 1, by omega⟩
          simp only [signsGo]
          rw [if_pos hp2]; rfl
        · have : signsGo s k (pos + (Utf8.decode s pos).2) = [] := by
            cases k with
            | zero => rfl
            | succ k => simp only [signsGo]; rw [if_neg hp2]
          rw [this]
          simp only [nextPos]
          omega
      | succ i =>
        simp only [e, List.getElem_cons_succ, List.drop_succ_cons]
        exact signsGo_chain s k _ (by omega) i (by rw [e] at h; simpa using h)
    · simp only [signsGo, if_neg hp] at h
      simp at h
theorem rl_dec (s : ByteArray) {i : Nat} (h : i < (rl s).length) : ∃ p : Nat, (al s).getD i 0 = p ∧ p < s.size ∧ (rl s).getD i 0 = ((Utf8.decode s p).1 : Int) ∧ (al s).getD (i + 1) 0 = ((p + (Utf8.decode s p).2 : Nat) : Int) := by
  rw [rl_len] at h
  obtain ⟨h1, h2, h3⟩ := signsGo_chain s _ _ (by omega) i h
  refine ⟨((signsFrom s 0)[i]).1, al_get s h, h1, ?_, ?_⟩
  · rw [rl_get s h]; exact congrArg Int.ofNat h2
  · rw [al_next s h]
    exact congrArg Int.ofNat h3
theorem al_mono (s : ByteArray) : ∀ {j i : Nat}, i ≤ j → j ≤ (rl s).length → (al s).getD i 0 ≤ (al s).getD j 0
  | 0, i, h, _ => by rw [show i = 0 by omega]; exact Int.le_refl _
  | j + 1, i, h, hj => by
    by_cases he : i = j + 1
    · rw [he]; exact Int.le_refl _
    · obtain ⟨p, h1, h2, h3, h4⟩ := rl_dec s (i := j) (by omega)
      have := al_mono s (i := i) (j := j) (by omega) (by omega)
      rw [h4]; omega
end Go.SX.Plain
/- The signs of a text, plainly. No program here. -/
namespace Go.SX.Plain
def sgns (s : ByteArray) : List Sgn := (signsFrom s 0).map fun p => sgnAt s p.1
def runes (s : ByteArray) : List Int := (sgns s).map (·.rune)
theorem signsGo_len (s : ByteArray) : ∀ (k pos : Nat), s.size - pos ≤ k → (signsGo s k pos).length ≤ s.size - pos
  | 0, _, _ => by simp [signsGo]
  | k + 1, pos, h => by
    simp only [signsGo]
    split
    · have := width_pos s pos
      have ih := signsGo_len s k (pos + (Utf8.decode s pos).2) (by omega)
      simp only [List.length_cons]; omega
    · simp
theorem sgns_len (s : ByteArray) : (sgns s).length ≤ s.size := by
  simp only [sgns, signsFrom, List.length_map]
  exact signsGo_len s _ _ (by omega)
end Go.SX.Plain
/- Places by signs, cuts by signs. No program here. -/
namespace Go.SX.Plain
def sgN (s : ByteArray) : Nat := (rl s).length
/-- Where a sign begins, in bytes; behind the last one: the end. -/
def posS (s : ByteArray) (i : Nat) : Nat := ((al s).getD i 0).toNat
theorem sgns_len' (s : ByteArray) : (sgns s).length = sgN s := by simp [sgns, sgN, rl]
theorem sgN_le (s : ByteArray) : sgN s ≤ s.size := by rw [← sgns_len']; exact sgns_len s
theorem al_pos (s : ByteArray) (i : Nat) : (al s).getD i 0 = (posS s i : Nat) := by
  have := al_bd s i
  unfold posS
  omega
theorem posS_le (s : ByteArray) (i : Nat) : posS s i ≤ s.size := by
  have := al_bd s i
  unfold posS
  omega
theorem posS_zero (s : ByteArray) : posS s 0 = 0 := by
  unfold posS
  rw [al_next s (Nat.zero_le _), List.drop_zero]
  by_cases h : 0 < s.size
  · rw [signsFrom_step h]
    rfl
  · rw [signsFrom_end h]
    simp only [nextPos]
    omega
theorem posS_mono (s : ByteArray) {i j : Nat} (h : i ≤ j) (hj : j ≤ sgN s) : posS s i ≤ posS s j := by
  have := al_mono s h hj
  have h1 := al_pos s i
  have h2 := al_pos s j
  omega
theorem posS_end (s : ByteArray) : posS s (sgN s) = s.size := by
  have h : sgN s = (signsFrom s 0).length := rl_len s
  unfold posS
  rw [h, al_next s (Nat.le_refl _), List.drop_length]
  simp only [nextPos]
  omega
theorem sgns_at (s : ByteArray) {i : Nat} (h : i < sgN s) : (sgns s).getD i ⟨0, 0, 0, false⟩ = sgnAt s (posS s i) ∧ posS s i < s.size ∧ posS s (i + 1) = posS s i + (Utf8.decode s (posS s i)).2 := by
  obtain ⟨p, h1, h2, h3, h4⟩ := rl_dec s h
  have e1 := al_pos s i
  have e2 := al_pos s (i + 1)
  have hp : posS s i = p := by omega
  refine ⟨?_, by omega, by rw [hp]; omega⟩
  have hl : i < (signsFrom s 0).length := by rw [← rl_len]; exact h
  have := al_get s hl
  have h5 : ((signsFrom s 0)[i]).1 = p := by omega
  rw [hp, ← h5]
  simp [sgns, List.getD_eq_getElem?_getD, hl]
def cutE (s : ByteArray) (f t : Int) : Int := if 0 ≤ f ∧ f ≤ t ∧ t ≤ sgN s then 0 else 1
def cutT (s : ByteArray) (f t : Int) : ByteArray := if 0 ≤ f ∧ f ≤ t ∧ t ≤ sgN s then s.extract (posS s f.toNat) (posS s t.toNat) else ByteArray.empty
def plE (s : ByteArray) (a : Int) : Int := if 0 ≤ a ∧ a ≤ sgN s then 0 else 1
def plN (s : ByteArray) (a : Int) : Int := if 0 ≤ a ∧ a ≤ sgN s then (posS s a.toNat : Nat) else 0
end Go.SX.Plain
/- Contracts of the document's chapter 1: long, second, rest, more, one. -/
namespace Go.SX.Try
open Go.Proofs Go.Proofs.Try Go.SX.Plain
set_option maxRecDepth 100000
set_option maxHeartbeats 0
set_option linter.unusedSimpArgs false
theorem q_long : fact 103 f103 := ⟨by kernel_rfl, rfl, by kernel_rfl⟩
theorem q_second : fact 104 f104 := ⟨by kernel_rfl, rfl, by kernel_rfl⟩
theorem q_rest : fact 105 f105 := ⟨by kernel_rfl, rfl, by kernel_rfl⟩
theorem q_more : fact 106 f106 := ⟨by kernel_rfl, rfl, by kernel_rfl⟩
theorem q_rone : fact 80 f80 := ⟨by kernel_rfl, rfl, by kernel_rfl⟩
theorem con_long : Con prog 103 (fun c : Int => [.v (.int .u8 c)]) (fun c => .v (.int .i64 (longI c))) (fun _ => True) := by
  refine Con.of (by kernel_rfl) T_ok CdsOK.nil .nil 1 [] q_long.1 q_long.2.1 q_long.2.2 (fun _ => rfl) fun c _ => ?_
  repeat' (first | (with_reducible first | exact fun h => h | refine ExE.row (by with_unfolding_all rfl) ?_ | refine And.intro ?_ ?_) | ((with_reducible intro hq); first | exact bne1 hq (by with_reducible assumption) | exact bne1 (by with_reducible assumption) hq | ((simp only [*, BB, cond_true, cond_false, reduceCtorEq] at hq); done) | (revert hq; with_reducible intro _)) | (with_reducible first | exact True.intro | rfl | refine EntLe.row ?_ | exact LeN.ro rfl | exact LeN.rptr | assumption) | ((with_reducible first | refine WkX.chk ?_ | refine Wk.chk ?_ | refine LeL.chk ?_ | refine LeF.chk ?_ | refine Run.mk ?_); (conv => whnf)) | ((with_reducible show LeO _ _); first | refine LeO.ro ?_ | refine LeO.roCap ?_ | refine LeO.nil ?_ (fun _ => rfl)) | ((with_reducible show LeR _ _ _); first | refine LeR.own rfl rfl rfl ?_ | refine LeR.view rfl rfl rfl ?_ ?_ | refine LeR.ro ?_ | refine LeR.roCap ?_ | refine LeR.nil ?_ (fun _ => rfl)) | ((with_reducible first | show drawOK _ _ = true | show lateOK _ _ = true | show drawOK2 _ _ = true | show drawOK3 _ _ = true); kernel_rfl))
  all_goals simp only [Bool.and_eq_true, Bool.and_eq_false_iff, decide_eq_true_eq, decide_eq_false_iff_not] at *
  all_goals first
    | omega
    | (unfold longI; repeat' split) <;> omega
theorem con_second : Con prog 104 (fun ((c, d) : Int × Int) => [.v (.int .u8 c), .v (.int .u8 d)]) (fun (c, d) => .sb (secondB c d)) (fun _ => True) := by
  refine Con.of (by kernel_rfl) T_ok CdsOK.nil .nil 1 [] q_second.1 q_second.2.1 q_second.2.2 (fun _ => rfl) fun i _ => ?_
  obtain ⟨c, d⟩ := i
  repeat' (first | (with_reducible first | exact fun h => h | refine ExE.row (by with_unfolding_all rfl) ?_ | refine And.intro ?_ ?_) | ((with_reducible intro hq); first | exact bne1 hq (by with_reducible assumption) | exact bne1 (by with_reducible assumption) hq | ((simp only [*, BB, cond_true, cond_false, reduceCtorEq] at hq); done) | (revert hq; with_reducible intro _)) | (with_reducible first | exact True.intro | rfl | refine EntLe.row ?_ | exact LeN.ro rfl | exact LeN.rptr | assumption) | ((with_reducible first | refine WkX.chk ?_ | refine Wk.chk ?_ | refine LeL.chk ?_ | refine LeF.chk ?_ | refine Run.mk ?_); (conv => whnf)) | ((with_reducible show LeO _ _); first | refine LeO.ro ?_ | refine LeO.roCap ?_ | refine LeO.nil ?_ (fun _ => rfl)) | ((with_reducible show LeR _ _ _); first | refine LeR.own rfl rfl rfl ?_ | refine LeR.view rfl rfl rfl ?_ ?_ | refine LeR.ro ?_ | refine LeR.roCap ?_ | refine LeR.nil ?_ (fun _ => rfl)) | ((with_reducible first | show drawOK _ _ = true | show lateOK _ _ = true | show drawOK2 _ _ = true | show drawOK3 _ _ = true); kernel_rfl))
  all_goals first
    | (simp only [beq_iff_eq, beq_eq_false_iff_ne, ne_eq] at *; unfold secondB; simp_all; done)
theorem con_rest : Con prog 105 (fun ((s, i) : ByteArray × Int) => [.ro 1 C_byte.enc C_byte.d (bytesL s) none, .v (.int .i64 i)]) (fun (s, i) => .v (.int .i64 (bt s i.toNat - 128))) (fun (s, i) => 0 ≤ i ∧ i < s.size) := by
  refine Con.of (by kernel_rfl) T_ok CdsOK.nil .nil 1 [] q_rest.1 q_rest.2.1 q_rest.2.2 (fun _ => rfl) fun i hi => ?_
  obtain ⟨s, i⟩ := i
  obtain ⟨hi0, hi⟩ : 0 ≤ i ∧ i < s.size := hi
  have hb := bt_bd s i.toNat
  have e1 : (bytesL s).getD i.toNat C_byte.d = bt s i.toNat := rfl
  repeat' (first | (with_reducible first | exact fun h => h | refine ExE.row (by with_unfolding_all rfl) ?_ | refine And.intro ?_ ?_) | ((with_reducible intro hq); first | exact bne1 hq (by with_reducible assumption) | exact bne1 (by with_reducible assumption) hq | ((simp only [*, BB, cond_true, cond_false, reduceCtorEq] at hq); done) | (revert hq; with_reducible intro _)) | (with_reducible first | exact True.intro | rfl | refine EntLe.row ?_ | exact LeN.ro rfl | exact LeN.rptr | assumption) | ((with_reducible first | refine WkX.chk ?_ | refine Wk.chk ?_ | refine LeL.chk ?_ | refine LeF.chk ?_ | refine Run.mk ?_); (conv => whnf)) | ((with_reducible show LeO _ _); first | refine LeO.ro ?_ | refine LeO.roCap ?_ | refine LeO.nil ?_ (fun _ => rfl)) | ((with_reducible show LeR _ _ _); first | refine LeR.own rfl rfl rfl ?_ | refine LeR.view rfl rfl rfl ?_ ?_ | refine LeR.ro ?_ | refine LeR.roCap ?_ | refine LeR.nil ?_ (fun _ => rfl)) | ((with_reducible first | show drawOK _ _ = true | show lateOK _ _ = true | show drawOK2 _ _ = true | show drawOK3 _ _ = true); kernel_rfl))
  all_goals (try simp only [e1, bytesL_len])
  all_goals first
    | omega
    | (refine Fits.i64 ?_ ?_ <;> omega)
theorem con_more : Con prog 106 (fun ((s, i) : ByteArray × Int) => [.ro 1 C_byte.enc C_byte.d (bytesL s) none, .v (.int .i64 i)]) (fun (s, i) => .sb (moreB s i.toNat)) (fun (s, i) => 0 ≤ i) := by
  refine Con.of (by kernel_rfl) T_ok CdsOK.nil .nil 1 [] q_more.1 q_more.2.1 q_more.2.2 (fun _ => rfl) fun i hi => ?_
  obtain ⟨s, i⟩ := i
  have hi : 0 ≤ i := hi
  have hb := bt_bd s i.toNat
  have e1 : (bytesL s).getD i.toNat C_byte.d = bt s i.toNat := rfl
  repeat' (first | (with_reducible first | exact fun h => h | refine ExE.row (by with_unfolding_all rfl) ?_ | refine And.intro ?_ ?_) | ((with_reducible intro hq); first | exact bne1 hq (by with_reducible assumption) | exact bne1 (by with_reducible assumption) hq | ((simp only [*, BB, cond_true, cond_false, reduceCtorEq] at hq); done) | (revert hq; with_reducible intro _)) | (with_reducible first | exact True.intro | rfl | refine EntLe.row ?_ | exact LeN.ro rfl | exact LeN.rptr | assumption) | ((with_reducible first | refine WkX.chk ?_ | refine Wk.chk ?_ | refine LeL.chk ?_ | refine LeF.chk ?_ | refine Run.mk ?_); (conv => whnf)) | ((with_reducible show LeO _ _); first | refine LeO.ro ?_ | refine LeO.roCap ?_ | refine LeO.nil ?_ (fun _ => rfl)) | ((with_reducible show LeR _ _ _); first | refine LeR.own rfl rfl rfl ?_ | refine LeR.view rfl rfl rfl ?_ ?_ | refine LeR.ro ?_ | refine LeR.roCap ?_ | refine LeR.nil ?_ (fun _ => rfl)) | ((with_reducible first | show drawOK _ _ = true | show lateOK _ _ = true | show drawOK2 _ _ = true | show drawOK3 _ _ = true); kernel_rfl))
  all_goals (try simp only [e1, bytesL_len] at *)
  all_goals first
    | omega
    | (simp only [decide_eq_true_eq, Bool.and_eq_true] at *; omega)
    | (unfold moreB; rw [Bool.eq_iff_iff]; simp only [decide_eq_true_eq, Bool.and_eq_true]; omega)
abbrev sgAV (x : Sgn) : List AV := [.v (.int .i64 x.at), .v (.int .i64 x.len), .v (.int .i64 x.rune), .sb x.bad]
theorem con_rone : Con prog 80 (fun ((s, i) : ByteArray × Nat) => [.ro 1 C_byte.enc C_byte.d (bytesL s) none, .v (.int .i64 (i : Int))]) (fun (s, i) => .agg (sgAV (sgnAt s i))) (fun (s, i) => i < s.size ∧ s.size ≤ 140737488355328) := by
  refine Con.of (by kernel_rfl) T_ok CdsOK.nil (.con con_long (.con con_second (.con con_rest (.con con_more .nil)))) 3 [] q_rone.1 q_rone.2.1 q_rone.2.2 (fun _ => rfl) fun i hi => ?_
  obtain ⟨s, i⟩ := i
  obtain ⟨hi, hz⟩ : i < s.size ∧ s.size ≤ 140737488355328 := hi
  have hb := bt_bd s i
  have e0 : ((i : Int)).toNat = i := Int.toNat_natCast _
  have e1 : (bytesL s).getD i C_byte.d = bt s i := rfl
  have e2 : ((i : Int) + 1).toNat = i + 1 := by omega
  have e3 : (bytesL s).getD (i + 1) C_byte.d = bt s (i + 1) := rfl
  have hb1 := bt_bd s (i + 1)
  have hb2 := bt_bd s (i + 2)
  have hb3 := bt_bd s (i + 3)
  have hl := longI_cases (bt s i)
  repeat' (first | (with_reducible refine ⟨_, ⟨(.cons (.v _) .nil), ?_⟩, ?_⟩) | (with_reducible refine ⟨(_, _), ⟨(.cons (.v _) (.cons (.v _) .nil)), ?_⟩, ?_⟩) | (with_reducible refine ⟨(_, _), ⟨(.cons (.ro _ _ _ _ _) (.cons (.v _) .nil)), ?_⟩, ?_⟩) | (with_reducible first | exact fun h => h | refine ExE.row (by with_unfolding_all rfl) ?_ | refine And.intro ?_ ?_) | ((with_reducible intro hq); first | exact bne1 hq (by with_reducible assumption) | exact bne1 (by with_reducible assumption) hq | ((simp only [*, BB, cond_true, cond_false, reduceCtorEq] at hq); done) | (revert hq; with_reducible intro _)) | (with_reducible first | exact True.intro | rfl | refine EntLe.row ?_ | exact LeN.ro rfl | exact LeN.rptr | assumption) | ((with_reducible first | refine WkX.chk ?_ | refine Wk.chk ?_ | refine LeL.chk ?_ | refine LeF.chk ?_ | refine Run.mk ?_); (conv => whnf)) | ((with_reducible show LeO _ _); first | refine LeO.ro ?_ | refine LeO.roCap ?_ | refine LeO.nil ?_ (fun _ => rfl)) | ((with_reducible show LeR _ _ _); first | refine LeR.own rfl rfl rfl ?_ | refine LeR.view rfl rfl rfl ?_ ?_ | refine LeR.ro ?_ | refine LeR.roCap ?_ | refine LeR.nil ?_ (fun _ => rfl)) | ((with_reducible first | show drawOK _ _ = true | show lateOK _ _ = true | show drawOK2 _ _ = true | show drawOK3 _ _ = true); kernel_rfl))
  all_goals (try simp only [e0, e1, e2, e3, bytesL_len, beq_iff_eq, beq_eq_false_iff_ne, ne_eq, decide_eq_true_eq, decide_eq_false_iff_not, Bool.or_eq_true, Bool.or_eq_false_iff, Bool.not_eq_true', Bool.not_eq_false', Bool.cond_eq_true_distrib] at *)
  all_goals first
    | omega
    | (refine Fits.i64 ?_ ?_ <;> omega)
    | rfl
    | exact (sgn_bad (dec_0 (by assumption))).1
    | exact (sgn_bad (dec_0 (by assumption))).2.1
    | exact (sgn_bad (dec_0 (by assumption))).2.2
    | exact (sgn_1 (by assumption)).1
    | exact (sgn_1 (by assumption)).2.1
    | exact (sgn_1 (by assumption)).2.2
    | exact (sgn_bad (second_no' (by assumption) (by assumption) (by assumption))).1
    | exact (sgn_bad (second_no' (by assumption) (by assumption) (by assumption))).2.1
    | exact (sgn_bad (second_no' (by assumption) (by assumption) (by assumption))).2.2
    | exact (sgn_bad (second_no' (by assumption) (by assumption) (.inl (by omega)))).1
    | exact (sgn_bad (second_no' (by assumption) (by assumption) (.inl (by omega)))).2.1
    | exact (sgn_bad (second_no' (by assumption) (by assumption) (.inl (by omega)))).2.2
    | (exfalso; simp_all; done)
    | skip
  rename_i hn0 hn1 h1 h2
  obtain ⟨h1, h2⟩ := h2
  refine loopI Nat [] (fun k => [(8, .v (.int .i64 (k : Int))), (7, .v (.int .i64 (restR s i k)))]) (fun _ => []) (fun k => 2 ≤ k ∧ (k : Int) ≤ longI (bt s i) ∧ (3 ≤ k → moreB s (i + 2) = true) ∧ (4 ≤ k → moreB s (i + 3) = true)) (fun k => 4 - k) 2 ⟨by omega, by omega, by omega, by omega⟩ (Wk.chk ?_) fun k hk => ?_
  · ((conv => whnf); repeat' (first | (with_reducible first | exact fun h => h | refine ExE.row (by with_unfolding_all rfl) ?_ | refine And.intro ?_ ?_) | ((with_reducible intro hq); first | exact bne1 hq (by with_reducible assumption) | exact bne1 (by with_reducible assumption) hq | ((simp only [*, BB, cond_true, cond_false, reduceCtorEq] at hq); done) | (revert hq; with_reducible intro _)) | (with_reducible first | exact True.intro | rfl | refine EntLe.row ?_ | exact LeN.ro rfl | exact LeN.rptr | assumption) | ((with_reducible first | refine WkX.chk ?_ | refine Wk.chk ?_ | refine LeL.chk ?_ | refine LeF.chk ?_ | refine Run.mk ?_); (conv => whnf)) | ((with_reducible show LeO _ _); first | refine LeO.ro ?_ | refine LeO.roCap ?_ | refine LeO.nil ?_ (fun _ => rfl)) | ((with_reducible show LeR _ _ _); first | refine LeR.own rfl rfl rfl ?_ | refine LeR.view rfl rfl rfl ?_ ?_ | refine LeR.ro ?_ | refine LeR.roCap ?_ | refine LeR.nil ?_ (fun _ => rfl)) | ((with_reducible first | show drawOK _ _ = true | show lateOK _ _ = true | show drawOK2 _ _ = true | show drawOK3 _ _ = true); kernel_rfl)))
    all_goals rfl
  obtain ⟨k1, k2, k3, k4⟩ := hk
  obtain rfl | rfl | rfl : k = 2 ∨ k = 3 ∨ k = 4 := by omega
  all_goals
    have r2 : restR s i 2 = bt s (i + 1) - 128 := rfl
    have r3 : restR s i 3 = 64 * (bt s (i + 1) - 128) + (bt s (i + 2) - 128) := rfl
    have r4 : restR s i 4 = 64 * (64 * (bt s (i + 1) - 128) + (bt s (i + 2) - 128)) + (bt s (i + 3) - 128) := rfl
    have c2 : ((2 : Nat) : Int) = 2 := rfl
    have c3 : ((3 : Nat) : Int) = 3 := rfl
    have c4 : ((4 : Nat) : Int) = 4 := rfl
    have e2 : ((i : Int) + 2).toNat = i + 2 := by omega
    have e3 : ((i : Int) + 3).toNat = i + 3 := by omega
    have e0 : ((i : Int)).toNat = i := Int.toNat_natCast _
    have e1 : (bytesL s).getD i C_byte.d = bt s i := rfl
  · repeat' (first | (with_reducible refine ex_of 3 ⟨⟨?_, ?_, ?_, ?_⟩, ?_⟩ ?_) | (with_reducible refine ⟨(_, _), ⟨(.cons (.ro _ _ _ _ _) (.cons (.v _) .nil)), ?_⟩, ?_⟩) | (with_reducible first | exact fun h => h | refine ExE.row (by with_unfolding_all rfl) ?_ | refine And.intro ?_ ?_) | ((with_reducible intro hq); first | exact bne1 hq (by with_reducible assumption) | exact bne1 (by with_reducible assumption) hq | ((simp only [*, BB, cond_true, cond_false, reduceCtorEq] at hq); done) | (revert hq; with_reducible intro _)) | (with_reducible first | exact True.intro | rfl | refine EntLe.row ?_ | exact LeN.ro rfl | exact LeN.rptr | assumption) | ((with_reducible first | refine WkX.chk ?_ | refine Wk.chk ?_ | refine LeL.chk ?_ | refine LeF.chk ?_ | refine Run.mk ?_); (conv => whnf)) | ((with_reducible show LeO _ _); first | refine LeO.ro ?_ | refine LeO.roCap ?_ | refine LeO.nil ?_ (fun _ => rfl)) | ((with_reducible show LeR _ _ _); first | refine LeR.own rfl rfl rfl ?_ | refine LeR.view rfl rfl rfl ?_ ?_ | refine LeR.ro ?_ | refine LeR.roCap ?_ | refine LeR.nil ?_ (fun _ => rfl)) | ((with_reducible first | show drawOK _ _ = true | show lateOK _ _ = true | show drawOK2 _ _ = true | show drawOK3 _ _ = true); kernel_rfl))
    all_goals (try simp only [r2, r3, r4, c2, c3, c4, e0, e1, e2, e3, bytesL_len, beq_iff_eq, beq_eq_false_iff_ne, ne_eq, decide_eq_true_eq, decide_eq_false_iff_not, Bool.not_eq_true', Bool.not_eq_false'] at *)
    all_goals first
      | omega
      | (refine Fits.i64 ?_ ?_ <;> omega)
      | assumption
      | exact (moreB_yes (by assumption)).1
      | (have := (moreB_yes (by assumption)).1; omega)
      | rfl
      | exact (sgn_bad (more_no2 (by omega) (by assumption))).1
      | exact (sgn_bad (more_no2 (by omega) (by assumption))).2.1
      | exact (sgn_bad (more_no2 (by omega) (by assumption))).2.2
      | (have hn : longI (bt s i) = 2 := by omega
         have d := dec_2 hn (by omega) h2
         have q := sgn_n d.1 d.2.1 (by omega)
         first
         | (rw [hn]; exact q.1)
         | exact q.2.1
         | exact q.2.2)
  · have m2 : moreB s (i + 2) = true := k3 (by omega)
    repeat' (first | (with_reducible refine ex_of 4 ⟨⟨?_, ?_, ?_, ?_⟩, ?_⟩ ?_) | (with_reducible refine ⟨(_, _), ⟨(.cons (.ro _ _ _ _ _) (.cons (.v _) .nil)), ?_⟩, ?_⟩) | (with_reducible first | exact fun h => h | refine ExE.row (by with_unfolding_all rfl) ?_ | refine And.intro ?_ ?_) | ((with_reducible intro hq); first | exact bne1 hq (by with_reducible assumption) | exact bne1 (by with_reducible assumption) hq | ((simp only [*, BB, cond_true, cond_false, reduceCtorEq] at hq); done) | (revert hq; with_reducible intro _)) | (with_reducible first | exact True.intro | rfl | refine EntLe.row ?_ | exact LeN.ro rfl | exact LeN.rptr | assumption) | ((with_reducible first | refine WkX.chk ?_ | refine Wk.chk ?_ | refine LeL.chk ?_ | refine LeF.chk ?_ | refine Run.mk ?_); (conv => whnf)) | ((with_reducible show LeO _ _); first | refine LeO.ro ?_ | refine LeO.roCap ?_ | refine LeO.nil ?_ (fun _ => rfl)) | ((with_reducible show LeR _ _ _); first | refine LeR.own rfl rfl rfl ?_ | refine LeR.view rfl rfl rfl ?_ ?_ | refine LeR.ro ?_ | refine LeR.roCap ?_ | refine LeR.nil ?_ (fun _ => rfl)) | ((with_reducible first | show drawOK _ _ = true | show lateOK _ _ = true | show drawOK2 _ _ = true | show drawOK3 _ _ = true); kernel_rfl))
    all_goals (try simp only [r2, r3, r4, c2, c3, c4, e0, e1, e2, e3, bytesL_len, beq_iff_eq, beq_eq_false_iff_ne, ne_eq, decide_eq_true_eq, decide_eq_false_iff_not, Bool.not_eq_true', Bool.not_eq_false'] at *)
    all_goals first
      | omega
      | (refine Fits.i64 ?_ ?_ <;> omega)
      | assumption
      | exact (moreB_yes (by assumption)).1
      | (have := (moreB_yes (k := i + 3) (by assumption)).1; omega)
      | rfl
      | exact (sgn_bad (more_no3 (by omega) (by assumption))).1
      | exact (sgn_bad (more_no3 (by omega) (by assumption))).2.1
      | exact (sgn_bad (more_no3 (by omega) (by assumption))).2.2
      | (have hn : longI (bt s i) = 3 := by omega
         have d := dec_3 hn (by omega) h2 m2
         have q := sgn_n d.1 d.2.1 (by omega)
         first
         | (rw [hn]; exact q.1)
         | exact q.2.1
         | exact q.2.2)
  · have m2 : moreB s (i + 2) = true := k3 (by omega)
    have m3 : moreB s (i + 3) = true := k4 (by omega)
    have hn : longI (bt s i) = 4 := by omega
    repeat' (first | (with_reducible refine ex_of 4 ⟨⟨?_, ?_, ?_, ?_⟩, ?_⟩ ?_) | (with_reducible refine ⟨(_, _), ⟨(.cons (.ro _ _ _ _ _) (.cons (.v _) .nil)), ?_⟩, ?_⟩) | (with_reducible first | exact fun h => h | refine ExE.row (by with_unfolding_all rfl) ?_ | refine And.intro ?_ ?_) | ((with_reducible intro hq); first | exact bne1 hq (by with_reducible assumption) | exact bne1 (by with_reducible assumption) hq | ((simp only [*, BB, cond_true, cond_false, reduceCtorEq] at hq); done) | (revert hq; with_reducible intro _)) | (with_reducible first | exact True.intro | rfl | refine EntLe.row ?_ | exact LeN.ro rfl | exact LeN.rptr | assumption) | ((with_reducible first | refine WkX.chk ?_ | refine Wk.chk ?_ | refine LeL.chk ?_ | refine LeF.chk ?_ | refine Run.mk ?_); (conv => whnf)) | ((with_reducible show LeO _ _); first | refine LeO.ro ?_ | refine LeO.roCap ?_ | refine LeO.nil ?_ (fun _ => rfl)) | ((with_reducible show LeR _ _ _); first | refine LeR.own rfl rfl rfl ?_ | refine LeR.view rfl rfl rfl ?_ ?_ | refine LeR.ro ?_ | refine LeR.roCap ?_ | refine LeR.nil ?_ (fun _ => rfl)) | ((with_reducible first | show drawOK _ _ = true | show lateOK _ _ = true | show drawOK2 _ _ = true | show drawOK3 _ _ = true); kernel_rfl))
    all_goals (try simp only [r2, r3, r4, c2, c3, c4, e0, e1, e2, e3, bytesL_len, beq_iff_eq, beq_eq_false_iff_ne, ne_eq, decide_eq_true_eq, decide_eq_false_iff_not, Bool.not_eq_true', Bool.not_eq_false'] at *)
    all_goals first
      | omega
      | (refine Fits.i64 ?_ ?_ <;> omega)
      | assumption
      | rfl
      | (have d := dec_4 hn (by omega) h2 m2 m3
         have q := sgn_n d.1 d.2.1 (by omega)
         first
         | (rw [hn]; exact q.1)
         | exact q.2.1
         | exact q.2.2)
      | (exfalso; omega)
end Go.SX.Try
/- Contract of the document's chapter 1: Signs. -/
namespace Go.SX.Try
open Go.Proofs Go.Proofs.Try Go.SX.Plain
set_option maxRecDepth 100000
set_option maxHeartbeats 0
set_option linter.unusedSimpArgs false
theorem q_rsigns : fact 39 f39 := ⟨by kernel_rfl, rfl, by kernel_rfl⟩
def C_sgn : Cdc Sgn where
  size := 4
  enc := sgAV
  dec l := match l with
    | [.v (.int _ a), .v (.int _ b), .v (.int _ c), d] => ⟨a, b, c, bOf d⟩
    | _ => ⟨0, 0, 0, false⟩
  d := ⟨0, 0, 0, false⟩
def D_sgn : Cds := [(109, ⟨Sgn, C_sgn⟩), (3, ⟨Int, C_int⟩)]
theorem D_sgn_ok : CdsOK T D_sgn := .cons ⟨fun _ => rfl, by decide, _, rfl, rfl, by decide⟩ (.cons ⟨fun _ => rfl, by decide, _, rfl, rfl, by decide⟩ .nil)
theorem con_rsigns : Con prog 39 (fun s : ByteArray => [.v (.string s)]) (fun s => .ro 4 C_sgn.enc C_sgn.d (sgns s) none) (fun s => s.size ≤ 1000000) := by
  refine Con.of (by kernel_rfl) T_ok D_sgn_ok (.con con_rone .nil) 3 [] q_rsigns.1 q_rsigns.2.1 q_rsigns.2.2 (fun _ => rfl) fun s hs => ?_
  repeat' (first | (with_reducible first | exact fun h => h | refine ExE.row (by with_unfolding_all rfl) ?_ | refine And.intro ?_ ?_) | ((with_reducible intro hq); first | exact bne1 hq (by with_reducible assumption) | exact bne1 (by with_reducible assumption) hq | ((simp only [*, BB, cond_true, cond_false, reduceCtorEq] at hq); done) | (revert hq; with_reducible intro _)) | (with_reducible first | exact True.intro | rfl | refine EntLe.row ?_ | exact LeN.ro rfl | exact LeN.rptr | assumption) | ((with_reducible first | refine WkX.chk ?_ | refine Wk.chk ?_ | refine LeL.chk ?_ | refine LeF.chk ?_ | refine Run.mk ?_); (conv => whnf)) | ((with_reducible show LeO _ _); first | refine LeO.ro ?_ | refine LeO.roCap ?_ | refine LeO.nil ?_ (fun _ => rfl)) | ((with_reducible show LeR _ _ _); first | refine LeR.own rfl rfl rfl ?_ | refine LeR.view rfl rfl rfl ?_ ?_ | refine LeR.ro ?_ | refine LeR.roCap ?_ | refine LeR.nil ?_ (fun _ => rfl)) | ((with_reducible first | show drawOK _ _ = true | show lateOK _ _ = true | show drawOK2 _ _ = true | show drawOK3 _ _ = true); kernel_rfl))
  refine loopI (Nat × List Sgn) [] (fun | (pos, _) => [(5, .v (.int .i64 (pos : Int))), (4, .own 1)]) (fun | (_, o) => [(1, .row C_sgn o 109 none)])
    (fun | (pos, o) => pos ≤ s.size ∧ o.length ≤ pos ∧ o ++ (signsFrom s pos).map (fun p => sgnAt s p.1) = sgns s) (fun | (pos, _) => s.size - pos) (0, []) ⟨Nat.zero_le _, Nat.le_refl _, rfl⟩ (Wk.chk ?_) fun i hi => ?_
  · ((conv => whnf); repeat' (first | (with_reducible first | exact fun h => h | refine ExE.row (by with_unfolding_all rfl) ?_ | refine And.intro ?_ ?_) | ((with_reducible intro hq); first | exact bne1 hq (by with_reducible assumption) | exact bne1 (by with_reducible assumption) hq | ((simp only [*, BB, cond_true, cond_false, reduceCtorEq] at hq); done) | (revert hq; with_reducible intro _)) | (with_reducible first | exact True.intro | rfl | refine EntLe.row ?_ | exact LeN.ro rfl | exact LeN.rptr | assumption) | ((with_reducible first | refine WkX.chk ?_ | refine Wk.chk ?_ | refine LeL.chk ?_ | refine LeF.chk ?_ | refine Run.mk ?_); (conv => whnf)) | ((with_reducible show LeO _ _); first | refine LeO.ro ?_ | refine LeO.roCap ?_ | refine LeO.nil ?_ (fun _ => rfl)) | ((with_reducible show LeR _ _ _); first | refine LeR.own rfl rfl rfl ?_ | refine LeR.view rfl rfl rfl ?_ ?_ | refine LeR.ro ?_ | refine LeR.roCap ?_ | refine LeR.nil ?_ (fun _ => rfl)) | ((with_reducible first | show drawOK _ _ = true | show lateOK _ _ = true | show drawOK2 _ _ = true | show drawOK3 _ _ = true); kernel_rfl)))
    all_goals rfl
  obtain ⟨pos, o⟩ := i
  obtain ⟨h1, h2, h3⟩ := hi
  have hw := width_pos s pos
  repeat' (first | (with_reducible refine ⟨(_, _), ⟨(.cons (.ro _ _ _ _ _) (.cons (.v _) .nil)), ?_⟩, ?_⟩) | (with_reducible refine ex_of (α := Nat × List Sgn) (pos + (Utf8.decode s pos).2, o ++ [sgnAt s pos]) ⟨⟨?_, ?_, ?_⟩, ?_⟩ ?_) | (with_reducible first | exact fun h => h | refine ExE.row (by with_unfolding_all rfl) ?_ | refine And.intro ?_ ?_) | ((with_reducible intro hq); first | exact bne1 hq (by with_reducible assumption) | exact bne1 (by with_reducible assumption) hq | ((simp only [*, BB, cond_true, cond_false, reduceCtorEq] at hq); done) | (revert hq; with_reducible intro _)) | (with_reducible first | exact True.intro | rfl | refine EntLe.row ?_ | exact LeN.ro rfl | exact LeN.rptr | assumption) | ((with_reducible first | refine WkX.chk ?_ | refine Wk.chk ?_ | refine LeL.chk ?_ | refine LeF.chk ?_ | refine Run.mk ?_); (conv => whnf)) | ((with_reducible show LeO _ _); first | refine LeO.ro ?_ | refine LeO.roCap ?_ | refine LeO.nil ?_ (fun _ => rfl)) | ((with_reducible show LeR _ _ _); first | refine LeR.own rfl rfl rfl ?_ | refine LeR.view rfl rfl rfl ?_ ?_ | refine LeR.ro ?_ | refine LeR.roCap ?_ | refine LeR.nil ?_ (fun _ => rfl)) | ((with_reducible first | show drawOK _ _ = true | show lateOK _ _ = true | show drawOK2 _ _ = true | show drawOK3 _ _ = true); kernel_rfl))
  all_goals (try simp only [bytesL_len, decide_eq_true_eq, decide_eq_false_iff_not] at *)
  all_goals first
    | omega
    | rfl
    | (have hlt : pos < s.size := by omega
       have hwl := width_le hlt
       have hlen : (sgnAt s pos).len = ((Utf8.decode s pos).2 : Int) := rfl
       first
       | omega
       | (refine Fits.i64 ?_ ?_ <;> omega)
       | (simp only [List.length_append, List.length_cons, List.length_nil]; omega)
       | (rw [List.append_assoc]; rw [signsFrom_step hlt] at h3; exact h3))
    | (rw [signsFrom_end (by omega)] at h3; simpa using h3)
end Go.SX.Try
/- Contracts of the document's chapter 1: Count, Place, Cut by signs. -/
namespace Go.SX.Try
open Go.Proofs Go.Proofs.Try Go.SX.Plain
set_option maxRecDepth 100000
set_option maxHeartbeats 0
set_option linter.unusedSimpArgs false
theorem q_rcount : fact 57 f57 := ⟨by kernel_rfl, rfl, by kernel_rfl⟩
theorem q_runit : fact 111 f111 := ⟨by kernel_rfl, rfl, by kernel_rfl⟩
theorem q_rsize : fact 122 f122 := ⟨by kernel_rfl, rfl, by kernel_rfl⟩
theorem q_rall : fact 112 f112 := ⟨by kernel_rfl, rfl, by kernel_rfl⟩
theorem q_rplace : fact 113 f113 := ⟨by kernel_rfl, rfl, by kernel_rfl⟩
theorem q_rcut : fact 96 f96 := ⟨by kernel_rfl, rfl, by kernel_rfl⟩
theorem con_rcount : Con prog 57 (fun s : ByteArray => [.v (.string s)]) (fun s => .v (.int .i64 (sgN s : Nat))) (fun s => s.size ≤ 1000000) := by
  refine Con.of (by kernel_rfl) T_ok CdsOK.nil (.con con_rsigns .nil) 3 [] q_rcount.1 q_rcount.2.1 q_rcount.2.2 (fun _ => rfl) fun s hs => ?_
  repeat' (first | (with_reducible refine ⟨_, ⟨(.cons (.v _) .nil), ?_⟩, ?_⟩) | (with_reducible first | exact fun h => h | refine ExE.row (by with_unfolding_all rfl) ?_ | refine And.intro ?_ ?_) | ((with_reducible intro hq); first | exact bne1 hq (by with_reducible assumption) | exact bne1 (by with_reducible assumption) hq | ((simp only [*, BB, cond_true, cond_false, reduceCtorEq] at hq); done) | (revert hq; with_reducible intro _)) | (with_reducible first | exact True.intro | rfl | refine EntLe.row ?_ | exact LeN.ro rfl | exact LeN.rptr | assumption) | ((with_reducible first | refine WkX.chk ?_ | refine Wk.chk ?_ | refine LeL.chk ?_ | refine LeF.chk ?_ | refine Run.mk ?_); (conv => whnf)) | ((with_reducible show LeO _ _); first | refine LeO.ro ?_ | refine LeO.roCap ?_ | refine LeO.nil ?_ (fun _ => rfl)) | ((with_reducible show LeR _ _ _); first | refine LeR.own rfl rfl rfl ?_ | refine LeR.view rfl rfl rfl ?_ ?_ | refine LeR.ro ?_ | refine LeR.roCap ?_ | refine LeR.nil ?_ (fun _ => rfl)) | ((with_reducible first | show drawOK _ _ = true | show lateOK _ _ = true | show drawOK2 _ _ = true | show drawOK3 _ _ = true); kernel_rfl))
  all_goals first
    | exact hs
    | (rw [sgns_len']; done)
    | trace_state
theorem con_rsize : Con prog 122 (fun ((x, u) : Sgn × Int) => [.agg (sgAV x), .v (.int .i64 u)]) (fun (x, u) => .v (.int .i64 (if u = 1 then x.len else 1))) (fun (_, u) => u = 1 ∨ u = 2) := by
  refine Con.of (by kernel_rfl) T_ok CdsOK.nil .nil 3 [] q_rsize.1 q_rsize.2.1 q_rsize.2.2 (fun _ => rfl) fun i hi => ?_
  obtain ⟨x, u⟩ := i
  have hi : u = 1 ∨ u = 2 := hi
  rcases hi with rfl | rfl
  · repeat' (first | (with_reducible first | exact fun h => h | refine ExE.row (by with_unfolding_all rfl) ?_ | refine And.intro ?_ ?_) | ((with_reducible intro hq); first | exact bne1 hq (by with_reducible assumption) | exact bne1 (by with_reducible assumption) hq | ((simp only [*, BB, cond_true, cond_false, reduceCtorEq] at hq); done) | (revert hq; with_reducible intro _)) | (with_reducible first | exact True.intro | rfl | refine EntLe.row ?_ | exact LeN.ro rfl | exact LeN.rptr | assumption) | ((with_reducible first | refine WkX.chk ?_ | refine Wk.chk ?_ | refine LeL.chk ?_ | refine LeF.chk ?_ | refine Run.mk ?_); (conv => whnf)) | ((with_reducible show LeO _ _); first | refine LeO.ro ?_ | refine LeO.roCap ?_ | refine LeO.nil ?_ (fun _ => rfl)) | ((with_reducible show LeR _ _ _); first | refine LeR.own rfl rfl rfl ?_ | refine LeR.view rfl rfl rfl ?_ ?_ | refine LeR.ro ?_ | refine LeR.roCap ?_ | refine LeR.nil ?_ (fun _ => rfl)) | ((with_reducible first | show drawOK _ _ = true | show lateOK _ _ = true | show drawOK2 _ _ = true | show drawOK3 _ _ = true); kernel_rfl))
    all_goals first
      | rfl
      | (exfalso; simp_all; done)
      | trace_state
  · repeat' (first | (with_reducible first | exact fun h => h | refine ExE.row (by with_unfolding_all rfl) ?_ | refine And.intro ?_ ?_) | ((with_reducible intro hq); first | exact bne1 hq (by with_reducible assumption) | exact bne1 (by with_reducible assumption) hq | ((simp only [*, BB, cond_true, cond_false, reduceCtorEq] at hq); done) | (revert hq; with_reducible intro _)) | (with_reducible first | exact True.intro | rfl | refine EntLe.row ?_ | exact LeN.ro rfl | exact LeN.rptr | assumption) | ((with_reducible first | refine WkX.chk ?_ | refine Wk.chk ?_ | refine LeL.chk ?_ | refine LeF.chk ?_ | refine Run.mk ?_); (conv => whnf)) | ((with_reducible show LeO _ _); first | refine LeO.ro ?_ | refine LeO.roCap ?_ | refine LeO.nil ?_ (fun _ => rfl)) | ((with_reducible show LeR _ _ _); first | refine LeR.own rfl rfl rfl ?_ | refine LeR.view rfl rfl rfl ?_ ?_ | refine LeR.ro ?_ | refine LeR.roCap ?_ | refine LeR.nil ?_ (fun _ => rfl)) | ((with_reducible first | show drawOK _ _ = true | show lateOK _ _ = true | show drawOK2 _ _ = true | show drawOK3 _ _ = true); kernel_rfl))
    all_goals first
      | rfl
      | (exfalso; simp_all; done)
      | trace_state
theorem con_runit : Con prog 111 (fun u : Int => [.v (.int .i64 u)]) (fun _ => .v (.bool true)) (fun u => u = 1 ∨ u = 2 ∨ u = 3) := by
  refine Con.of (by kernel_rfl) T_ok CdsOK.nil .nil 3 [] q_runit.1 q_runit.2.1 q_runit.2.2 (fun _ => rfl) fun u hu => ?_
  have hu : u = 1 ∨ u = 2 ∨ u = 3 := hu
  rcases hu with rfl | rfl | rfl
  all_goals
    repeat' (first | (with_reducible first | exact fun h => h | refine ExE.row (by with_unfolding_all rfl) ?_ | refine And.intro ?_ ?_) | ((with_reducible intro hq); first | exact bne1 hq (by with_reducible assumption) | exact bne1 (by with_reducible assumption) hq | ((simp only [*, BB, cond_true, cond_false, reduceCtorEq] at hq); done) | (revert hq; with_reducible intro _)) | (with_reducible first | exact True.intro | rfl | refine EntLe.row ?_ | exact LeN.ro rfl | exact LeN.rptr | assumption) | ((with_reducible first | refine WkX.chk ?_ | refine Wk.chk ?_ | refine LeL.chk ?_ | refine LeF.chk ?_ | refine Run.mk ?_); (conv => whnf)) | ((with_reducible show LeO _ _); first | refine LeO.ro ?_ | refine LeO.roCap ?_ | refine LeO.nil ?_ (fun _ => rfl)) | ((with_reducible show LeR _ _ _); first | refine LeR.own rfl rfl rfl ?_ | refine LeR.view rfl rfl rfl ?_ ?_ | refine LeR.ro ?_ | refine LeR.roCap ?_ | refine LeR.nil ?_ (fun _ => rfl)) | ((with_reducible first | show drawOK _ _ = true | show lateOK _ _ = true | show drawOK2 _ _ = true | show drawOK3 _ _ = true); kernel_rfl))
    all_goals first
      | rfl
      | (exfalso; simp_all; done)
      | (simp_all; done)
      | trace_state
theorem con_rplace : Con prog 113 (fun ((s, a) : ByteArray × Int) => [.v (.string s), .v (.int .i64 a), .v (.int .i64 2), .v (.int .i64 1)]) (fun (s, a) => .tup [.v (.int .i64 (plN s a)), .v (.int .i64 (plE s a))]) (fun (s, _) => s.size ≤ 1000000) := by
  refine Con.of (by kernel_rfl) T_ok CdsOK.nil (.con con_rsigns (.con con_rsize (.con con_runit .nil))) 3 [] q_rplace.1 q_rplace.2.1 q_rplace.2.2 (fun _ => rfl) fun i hs => ?_
  obtain ⟨s, a⟩ := i
  have hs : s.size ≤ 1000000 := hs
  by_cases ha : a < 0
  · have ht : decide (a < 0) = true := decide_eq_true ha
    repeat' (first | (with_reducible refine ⟨_, ⟨(.cons (.v _) .nil), ?_⟩, ?_⟩) | (with_reducible first | exact fun h => h | refine ExE.row (by with_unfolding_all rfl) ?_ | refine And.intro ?_ ?_) | ((with_reducible intro hq); first | exact bne1 hq (by with_reducible assumption) | exact bne1 (by with_reducible assumption) hq | ((simp only [*, BB, cond_true, cond_false, reduceCtorEq] at hq); done) | (revert hq; with_reducible intro _)) | (with_reducible first | exact True.intro | rfl | refine EntLe.row ?_ | exact LeN.ro rfl | exact LeN.rptr | assumption) | ((with_reducible first | refine WkX.chk ?_ | refine Wk.chk ?_ | refine LeL.chk ?_ | refine LeF.chk ?_ | refine Run.mk ?_); (conv => whnf)) | ((with_reducible show LeO _ _); first | refine LeO.ro ?_ | refine LeO.roCap ?_ | refine LeO.nil ?_ (fun _ => rfl)) | ((with_reducible show LeR _ _ _); first | refine LeR.own rfl rfl rfl ?_ | refine LeR.view rfl rfl rfl ?_ ?_ | refine LeR.ro ?_ | refine LeR.roCap ?_ | refine LeR.nil ?_ (fun _ => rfl)) | ((with_reducible first | show drawOK _ _ = true | show lateOK _ _ = true | show drawOK2 _ _ = true | show drawOK3 _ _ = true); kernel_rfl))
    all_goals first
      | (unfold plN; rw [if_neg (by omega)]; done)
      | (unfold plE; rw [if_neg (by omega)]; done)
      | (dsimp only; omega)
      | (exfalso; simp_all; done)
      | trace_state
  · have ht : decide (a < 0) = false := decide_eq_false ha
    have hn := sgN_le s
    have hl := sgns_len' s
    repeat' (first | (with_reducible refine ⟨_, ⟨(.cons (.v _) .nil), ?_⟩, ?_⟩) | (with_reducible first | exact fun h => h | refine ExE.row (by with_unfolding_all rfl) ?_ | refine And.intro ?_ ?_) | ((with_reducible intro hq); first | exact bne1 hq (by with_reducible assumption) | exact bne1 (by with_reducible assumption) hq | ((simp only [*, BB, cond_true, cond_false, reduceCtorEq] at hq); done) | (revert hq; with_reducible intro _)) | (with_reducible first | exact True.intro | rfl | refine EntLe.row ?_ | exact LeN.ro rfl | exact LeN.rptr | assumption) | ((with_reducible first | refine WkX.chk ?_ | refine Wk.chk ?_ | refine LeL.chk ?_ | refine LeF.chk ?_ | refine Run.mk ?_); (conv => whnf)) | ((with_reducible show LeO _ _); first | refine LeO.ro ?_ | refine LeO.roCap ?_ | refine LeO.nil ?_ (fun _ => rfl)) | ((with_reducible show LeR _ _ _); first | refine LeR.own rfl rfl rfl ?_ | refine LeR.view rfl rfl rfl ?_ ?_ | refine LeR.ro ?_ | refine LeR.roCap ?_ | refine LeR.nil ?_ (fun _ => rfl)) | ((with_reducible first | show drawOK _ _ = true | show lateOK _ _ = true | show drawOK2 _ _ = true | show drawOK3 _ _ = true); kernel_rfl))
    all_goals (try (dsimp only; omega))
    refine loopI Nat [] (fun i => [(13, .v (.int .i64 (i : Nat))), (11, .v (.int .i64 (i : Nat))), (12, .v (.int .i64 (posS s i : Nat)))]) (fun _ => []) (fun i => i ≤ sgN s ∧ (i : Int) ≤ a) (fun i => sgN s - i) 0 ⟨Nat.zero_le _, by omega⟩ (Wk.chk ?_) fun i hi => ?_
    · ((conv => whnf); repeat' (first | (with_reducible first | exact fun h => h | refine ExE.row (by with_unfolding_all rfl) ?_ | refine And.intro ?_ ?_) | ((with_reducible intro hq); first | exact bne1 hq (by with_reducible assumption) | exact bne1 (by with_reducible assumption) hq | ((simp only [*, BB, cond_true, cond_false, reduceCtorEq] at hq); done) | (revert hq; with_reducible intro _)) | (with_reducible first | exact True.intro | rfl | refine EntLe.row ?_ | exact LeN.ro rfl | exact LeN.rptr | assumption) | ((with_reducible first | refine WkX.chk ?_ | refine Wk.chk ?_ | refine LeL.chk ?_ | refine LeF.chk ?_ | refine Run.mk ?_); (conv => whnf)) | ((with_reducible show LeO _ _); first | refine LeO.ro ?_ | refine LeO.roCap ?_ | refine LeO.nil ?_ (fun _ => rfl)) | ((with_reducible show LeR _ _ _); first | refine LeR.own rfl rfl rfl ?_ | refine LeR.view rfl rfl rfl ?_ ?_ | refine LeR.ro ?_ | refine LeR.roCap ?_ | refine LeR.nil ?_ (fun _ => rfl)) | ((with_reducible first | show drawOK _ _ = true | show lateOK _ _ = true | show drawOK2 _ _ = true | show drawOK3 _ _ = true); kernel_rfl)))
      all_goals first
        | rfl
        | (rw [posS_zero]; rfl)
        | trace_state
    obtain ⟨hi1, hi2⟩ := hi
    have e1 : ((i : Int)).toNat = i := Int.toNat_natCast _
    have hd : C_sgn.d = ⟨0, 0, 0, false⟩ := rfl
    have hpl := posS_le s i
    by_cases hin : i < sgN s
    · have hlt : decide ((i : Int) < ((sgns s).length : Int)) = true := decide_eq_true (by omega)
      by_cases hia : (i : Int) = a
      · have hyes : ((i : Int) == a) = true := by simpa using hia
        repeat' (first | (with_reducible first | exact fun h => h | refine ExE.row (by with_unfolding_all rfl) ?_ | refine And.intro ?_ ?_) | ((with_reducible intro hq); first | exact bne1 hq (by with_reducible assumption) | exact bne1 (by with_reducible assumption) hq | ((simp only [*, BB, cond_true, cond_false, reduceCtorEq] at hq); done) | (revert hq; with_reducible intro _)) | (with_reducible first | exact True.intro | rfl | refine EntLe.row ?_ | exact LeN.ro rfl | exact LeN.rptr | assumption) | ((with_reducible first | refine WkX.chk ?_ | refine Wk.chk ?_ | refine LeL.chk ?_ | refine LeF.chk ?_ | refine Run.mk ?_); (conv => whnf)) | ((with_reducible show LeO _ _); first | refine LeO.ro ?_ | refine LeO.roCap ?_ | refine LeO.nil ?_ (fun _ => rfl)) | ((with_reducible show LeR _ _ _); first | refine LeR.own rfl rfl rfl ?_ | refine LeR.view rfl rfl rfl ?_ ?_ | refine LeR.ro ?_ | refine LeR.roCap ?_ | refine LeR.nil ?_ (fun _ => rfl)) | ((with_reducible first | show drawOK _ _ = true | show lateOK _ _ = true | show drawOK2 _ _ = true | show drawOK3 _ _ = true); kernel_rfl))
        all_goals first
          | (unfold plN; rw [if_pos ⟨by omega, by omega⟩, show a.toNat = i by omega]; done)
          | (unfold plE; rw [if_pos ⟨by omega, by omega⟩]; done)
          | (exfalso; simp_all; done)
          | trace_state
      · have hno : ((i : Int) == a) = false := by simpa using hia
        obtain ⟨q1, q2, q3⟩ := sgns_at s hin
        have hpl2 := posS_le s (i + 1)
        have hgt : decide (a < (i : Int) + (if (2 : Int) = 1 then ((sgns s).getD ((i : Int)).toNat C_sgn.d).len else 1)) = false := decide_eq_false (by rw [if_neg (by decide)]; omega)
        have hlen : ((sgns s).getD ((i : Int)).toNat C_sgn.d).len = ((Utf8.decode s (posS s i)).2 : Int) := by rw [e1, hd, q1]; rfl
        repeat' (first | (with_reducible refine ⟨(⟨_, _, _, _⟩, _), ⟨(.cons (.agg (.cons (.v _) (.cons (.v _) (.cons (.v _) (.cons (.sb _) .nil))))) (.cons (.v _) .nil)), ?_⟩, ?_⟩) | (with_reducible refine ex_of (α := Nat) (i + 1) ⟨⟨?_, ?_⟩, ?_⟩ ?_) | (with_reducible first | exact fun h => h | refine ExE.row (by with_unfolding_all rfl) ?_ | refine And.intro ?_ ?_) | ((with_reducible intro hq); first | exact bne1 hq (by with_reducible assumption) | exact bne1 (by with_reducible assumption) hq | ((simp only [*, BB, cond_true, cond_false, reduceCtorEq] at hq); done) | (revert hq; with_reducible intro _)) | (with_reducible first | exact True.intro | rfl | refine EntLe.row ?_ | exact LeN.ro rfl | exact LeN.rptr | assumption) | ((with_reducible first | refine WkX.chk ?_ | refine Wk.chk ?_ | refine LeL.chk ?_ | refine LeF.chk ?_ | refine Run.mk ?_); (conv => whnf)) | ((with_reducible show LeO _ _); first | refine LeO.ro ?_ | refine LeO.roCap ?_ | refine LeO.nil ?_ (fun _ => rfl)) | ((with_reducible show LeR _ _ _); first | refine LeR.own rfl rfl rfl ?_ | refine LeR.view rfl rfl rfl ?_ ?_ | refine LeR.ro ?_ | refine LeR.roCap ?_ | refine LeR.nil ?_ (fun _ => rfl)) | ((with_reducible first | show drawOK _ _ = true | show lateOK _ _ = true | show drawOK2 _ _ = true | show drawOK3 _ _ = true); kernel_rfl))
        all_goals first
          | omega
          | (dsimp only; omega)
          | (simp only [if_neg (show ¬ ((2 : Int) = 1) by decide), if_pos (show (1 : Int) = 1 from rfl), hlen] at *; first | omega | (apply Fits.i64 <;> omega))
          | trace_state
    · have hlt : decide ((i : Int) < ((sgns s).length : Int)) = false := decide_eq_false (by omega)
      obtain rfl : i = sgN s := by omega
      by_cases hia : ((sgN s : Nat) : Int) = a
      · have hyes : (((sgN s : Nat) : Int) == a) = true := by simpa using hia
        repeat' (first | (with_reducible first | exact fun h => h | refine ExE.row (by with_unfolding_all rfl) ?_ | refine And.intro ?_ ?_) | ((with_reducible intro hq); first | exact bne1 hq (by with_reducible assumption) | exact bne1 (by with_reducible assumption) hq | ((simp only [*, BB, cond_true, cond_false, reduceCtorEq] at hq); done) | (revert hq; with_reducible intro _)) | (with_reducible first | exact True.intro | rfl | refine EntLe.row ?_ | exact LeN.ro rfl | exact LeN.rptr | assumption) | ((with_reducible first | refine WkX.chk ?_ | refine Wk.chk ?_ | refine LeL.chk ?_ | refine LeF.chk ?_ | refine Run.mk ?_); (conv => whnf)) | ((with_reducible show LeO _ _); first | refine LeO.ro ?_ | refine LeO.roCap ?_ | refine LeO.nil ?_ (fun _ => rfl)) | ((with_reducible show LeR _ _ _); first | refine LeR.own rfl rfl rfl ?_ | refine LeR.view rfl rfl rfl ?_ ?_ | refine LeR.ro ?_ | refine LeR.roCap ?_ | refine LeR.nil ?_ (fun _ => rfl)) | ((with_reducible first | show drawOK _ _ = true | show lateOK _ _ = true | show drawOK2 _ _ = true | show drawOK3 _ _ = true); kernel_rfl))
        all_goals first
          | (unfold plN; rw [if_pos ⟨by omega, by omega⟩, show a.toNat = sgN s by omega]; done)
          | (unfold plE; rw [if_pos ⟨by omega, by omega⟩]; done)
          | trace_state
      · have hno : (((sgN s : Nat) : Int) == a) = false := by simpa using hia
        repeat' (first | (with_reducible first | exact fun h => h | refine ExE.row (by with_unfolding_all rfl) ?_ | refine And.intro ?_ ?_) | ((with_reducible intro hq); first | exact bne1 hq (by with_reducible assumption) | exact bne1 (by with_reducible assumption) hq | ((simp only [*, BB, cond_true, cond_false, reduceCtorEq] at hq); done) | (revert hq; with_reducible intro _)) | (with_reducible first | exact True.intro | rfl | refine EntLe.row ?_ | exact LeN.ro rfl | exact LeN.rptr | assumption) | ((with_reducible first | refine WkX.chk ?_ | refine Wk.chk ?_ | refine LeL.chk ?_ | refine LeF.chk ?_ | refine Run.mk ?_); (conv => whnf)) | ((with_reducible show LeO _ _); first | refine LeO.ro ?_ | refine LeO.roCap ?_ | refine LeO.nil ?_ (fun _ => rfl)) | ((with_reducible show LeR _ _ _); first | refine LeR.own rfl rfl rfl ?_ | refine LeR.view rfl rfl rfl ?_ ?_ | refine LeR.ro ?_ | refine LeR.roCap ?_ | refine LeR.nil ?_ (fun _ => rfl)) | ((with_reducible first | show drawOK _ _ = true | show lateOK _ _ = true | show drawOK2 _ _ = true | show drawOK3 _ _ = true); kernel_rfl))
        all_goals first
          | (unfold plN; rw [if_neg (by omega)]; done)
          | (unfold plE; rw [if_neg (by omega)]; done)
          | trace_state
theorem con_rcut : Con prog 96 (fun ((s, f, t) : ByteArray × Int × Int) => [.v (.string s), .v (.int .i64 2), .v (.int .i64 f), .v (.int .i64 t)]) (fun (s, f, t) => .tup [.v (.string (cutT s f t)), .v (.int .i64 (cutE s f t))]) (fun (s, _, _) => s.size ≤ 1000000) := by
  refine Con.of (by kernel_rfl) T_ok CdsOK.nil (.con con_rcount (.con con_rplace (.con con_runit (.inl (J := []) q_rall.1 q_rall.2.1 q_rall.2.2 .nil)))) 5 [] q_rcut.1 q_rcut.2.1 q_rcut.2.2 (fun _ => rfl) fun i hs => ?_
  obtain ⟨s, f, t⟩ := i
  have hs : s.size ≤ 1000000 := hs
  have hn := sgN_le s
  have k1 : ((2 : Int) == 1) = false := rfl
  have k2 : ((2 : Int) == 3) = false := rfl
  by_cases hc : 0 ≤ f ∧ f ≤ t ∧ t ≤ sgN s
  · have hE : cutE s f t = 0 := by unfold cutE; rw [if_pos hc]
    have hT : cutT s f t = s.extract (posS s f.toNat) (posS s t.toNat) := by unfold cutT; rw [if_pos hc]
    have p1 : plE s f = 0 := by unfold plE; rw [if_pos ⟨by omega, by omega⟩]
    have p2 : plE s t = 0 := by unfold plE; rw [if_pos ⟨by omega, by omega⟩]
    have p3 : plN s f = (posS s f.toNat : Nat) := by unfold plN; rw [if_pos ⟨by omega, by omega⟩]
    have p4 : plN s t = (posS s t.toNat : Nat) := by unfold plN; rw [if_pos ⟨by omega, by omega⟩]
    have p5 := posS_mono s (i := f.toNat) (j := t.toNat) (by omega) (by omega)
    have p6 := posS_le s t.toNat
    have b1 : (plE s f != 0) = false := by rw [p1]; rfl
    have b2 : (plE s t != 0) = false := by rw [p2]; rfl
    repeat' (first | (with_reducible refine ⟨_, ⟨(.cons (.v _) .nil), ?_⟩, ?_⟩) | (with_reducible refine ⟨(_, _), ⟨(.cons (.v _) (.cons (.v _) (.cons (.v _) (.cons (.v _) .nil)))), ?_⟩, ?_⟩) | (with_reducible first | exact fun h => h | refine ExE.row (by with_unfolding_all rfl) ?_ | refine And.intro ?_ ?_) | ((with_reducible intro hq); first | exact bne1 hq (by with_reducible assumption) | exact bne1 (by with_reducible assumption) hq | ((simp only [*, BB, cond_true, cond_false, reduceCtorEq] at hq); done) | (revert hq; with_reducible intro _)) | (with_reducible first | exact True.intro | rfl | refine EntLe.row ?_ | exact LeN.ro rfl | exact LeN.rptr | assumption) | ((with_reducible first | refine WkX.chk ?_ | refine Wk.chk ?_ | refine LeL.chk ?_ | refine LeF.chk ?_ | refine Run.mk ?_); (conv => whnf)) | ((with_reducible show LeO _ _); first | refine LeO.ro ?_ | refine LeO.roCap ?_ | refine LeO.nil ?_ (fun _ => rfl)) | ((with_reducible show LeR _ _ _); first | refine LeR.own rfl rfl rfl ?_ | refine LeR.view rfl rfl rfl ?_ ?_ | refine LeR.ro ?_ | refine LeR.roCap ?_ | refine LeR.nil ?_ (fun _ => rfl)) | ((with_reducible first | show drawOK _ _ = true | show lateOK _ _ = true | show drawOK2 _ _ = true | show drawOK3 _ _ = true); kernel_rfl))
    all_goals (try simp only [p1, p2, p3, p4] at *)
    all_goals first
      | omega
      | (dsimp only; omega)
      | (rw [hT]; rfl)
      | (rw [hT]; simp only [Int.toNat_natCast]; done)
      | exact hE.symm
      | (simp only [decide_eq_true_eq, Bool.or_eq_true] at *; omega)
      | (simp_all; done)
      | (exfalso; simp_all; omega)
      | trace_state
  · have hE : cutE s f t = 1 := by unfold cutE; rw [if_neg hc]
    have hT : cutT s f t = ByteArray.empty := by unfold cutT; rw [if_neg hc]
    have hbad : ∀ b, b = (decide (f < 0) || decide (((sgN s : Nat) : Int) < f) || decide (t < 0) || decide (((sgN s : Nat) : Int) < t) || decide (t < f)) → b = true := fun b h => by
      rw [h]
      simp only [Bool.or_eq_true, decide_eq_true_eq]
      omega
    repeat' (first | (with_reducible refine ⟨_, ⟨(.cons (.v _) .nil), ?_⟩, ?_⟩) | (with_reducible refine ⟨(_, _), ⟨(.cons (.v _) (.cons (.v _) (.cons (.v _) (.cons (.v _) .nil)))), ?_⟩, ?_⟩) | (with_reducible first | exact fun h => h | refine ExE.row (by with_unfolding_all rfl) ?_ | refine And.intro ?_ ?_) | ((with_reducible intro hq); first | exact bne1 hq (by with_reducible assumption) | exact bne1 (by with_reducible assumption) hq | ((simp only [*, BB, cond_true, cond_false, reduceCtorEq] at hq); done) | (revert hq; with_reducible intro _)) | (with_reducible first | exact True.intro | rfl | refine EntLe.row ?_ | exact LeN.ro rfl | exact LeN.rptr | assumption) | ((with_reducible first | refine WkX.chk ?_ | refine Wk.chk ?_ | refine LeL.chk ?_ | refine LeF.chk ?_ | refine Run.mk ?_); (conv => whnf)) | ((with_reducible show LeO _ _); first | refine LeO.ro ?_ | refine LeO.roCap ?_ | refine LeO.nil ?_ (fun _ => rfl)) | ((with_reducible show LeR _ _ _); first | refine LeR.own rfl rfl rfl ?_ | refine LeR.view rfl rfl rfl ?_ ?_ | refine LeR.ro ?_ | refine LeR.roCap ?_ | refine LeR.nil ?_ (fun _ => rfl)) | ((with_reducible first | show drawOK _ _ = true | show lateOK _ _ = true | show drawOK2 _ _ = true | show drawOK3 _ _ = true); kernel_rfl))
    all_goals first
      | exact hT.symm
      | exact hE.symm
      | (dsimp only; omega)
      | (exfalso; have := hbad _ rfl; simp_all; done)
      | (simp_all; done)
      | trace_state
end Go.SX.Try
/- Contracts: utf.Count; style's right, within, crosses, Check. -/
namespace Go.SX.Try
open Go.Proofs Go.Proofs.Try Go.SX.Plain
set_option maxRecDepth 100000
set_option maxHeartbeats 0
set_option linter.unusedSimpArgs false
theorem q_ucount : fact 48 f48 := ⟨by kernel_rfl, rfl, by kernel_rfl⟩
theorem q_sright : fact 65 f65 := ⟨by kernel_rfl, rfl, by kernel_rfl⟩
theorem q_swithin : fact 98 f98 := ⟨by kernel_rfl, rfl, by kernel_rfl⟩
theorem q_scrosses : fact 68 f68 := ⟨by kernel_rfl, rfl, by kernel_rfl⟩
theorem q_scheck : fact 21 f21 := ⟨by kernel_rfl, rfl, by kernel_rfl⟩
theorem q_scheck1 : fact 67 f67 := ⟨by kernel_rfl, rfl, by kernel_rfl⟩
theorem q_contains : fact 66 f66 := ⟨by kernel_rfl, rfl, by kernel_rfl⟩
theorem q_indexF : fact 97 f97 := ⟨by kernel_rfl, rfl, by kernel_rfl⟩
theorem con_ucount : Con prog 48 (fun s : ByteArray => [.v (.string s)]) (fun s => .v (.int .i64 (sgN s : Nat))) (fun s => s.size ≤ 1000000) := by
  refine Con.of (by kernel_rfl) T_ok CdsOK.nil .nil 3 [] q_ucount.1 q_ucount.2.1 q_ucount.2.2 (fun _ => rfl) fun s hs => ?_
  have hs : s.size ≤ 1000000 := hs
  have hn := sgN_le s
  repeat' (first | (with_reducible first | exact fun h => h | refine ExE.row (by with_unfolding_all rfl) ?_ | refine And.intro ?_ ?_) | ((with_reducible intro hq); first | exact bne1 hq (by with_reducible assumption) | exact bne1 (by with_reducible assumption) hq | ((simp only [*, BB, cond_true, cond_false, reduceCtorEq] at hq); done) | (revert hq; with_reducible intro _)) | (with_reducible first | exact True.intro | rfl | refine EntLe.row ?_ | exact LeN.ro rfl | exact LeN.rptr | assumption) | ((with_reducible first | refine WkX.chk ?_ | refine Wk.chk ?_ | refine LeL.chk ?_ | refine LeF.chk ?_ | refine Run.mk ?_); (conv => whnf)) | ((with_reducible show LeO _ _); first | refine LeO.ro ?_ | refine LeO.roCap ?_ | refine LeO.nil ?_ (fun _ => rfl)) | ((with_reducible show LeR _ _ _); first | refine LeR.own rfl rfl rfl ?_ | refine LeR.view rfl rfl rfl ?_ ?_ | refine LeR.ro ?_ | refine LeR.roCap ?_ | refine LeR.nil ?_ (fun _ => rfl)) | ((with_reducible first | show drawOK _ _ = true | show lateOK _ _ = true | show drawOK2 _ _ = true | show drawOK3 _ _ = true); kernel_rfl))
  refine loopI Nat [] (fun i => [(3, .v (.int .i64 (i : Nat)))]) (fun i => [(0, .iter s (posS s i))]) (fun i => i ≤ sgN s) (fun i => sgN s - i) 0 (Nat.zero_le _) (Wk.chk ?_) fun i hi => ?_
  · ((conv => whnf); repeat' (first | (with_reducible first | exact fun h => h | refine ExE.row (by with_unfolding_all rfl) ?_ | refine And.intro ?_ ?_) | ((with_reducible intro hq); first | exact bne1 hq (by with_reducible assumption) | exact bne1 (by with_reducible assumption) hq | ((simp only [*, BB, cond_true, cond_false, reduceCtorEq] at hq); done) | (revert hq; with_reducible intro _)) | (with_reducible first | exact True.intro | rfl | refine EntLe.row ?_ | exact LeN.ro rfl | exact LeN.rptr | assumption) | ((with_reducible first | refine WkX.chk ?_ | refine Wk.chk ?_ | refine LeL.chk ?_ | refine LeF.chk ?_ | refine Run.mk ?_); (conv => whnf)) | ((with_reducible show LeO _ _); first | refine LeO.ro ?_ | refine LeO.roCap ?_ | refine LeO.nil ?_ (fun _ => rfl)) | ((with_reducible show LeR _ _ _); first | refine LeR.own rfl rfl rfl ?_ | refine LeR.view rfl rfl rfl ?_ ?_ | refine LeR.ro ?_ | refine LeR.roCap ?_ | refine LeR.nil ?_ (fun _ => rfl)) | ((with_reducible first | show drawOK _ _ = true | show lateOK _ _ = true | show drawOK2 _ _ = true | show drawOK3 _ _ = true); kernel_rfl)))
    all_goals first
      | rfl
      | (rw [posS_zero]; done)
      | trace_state
  have hi : i ≤ sgN s := hi
  have hat := fun h => (sgns_at s (i := i) h).2
  have hend := posS_end s
  repeat' (first | (with_reducible refine ex_of (α := Nat) (i + 1) ⟨?_, ?_⟩ ?_) | (with_reducible first | exact fun h => h | refine ExE.row (by with_unfolding_all rfl) ?_ | refine And.intro ?_ ?_) | ((with_reducible intro hq); first | exact bne1 hq (by with_reducible assumption) | exact bne1 (by with_reducible assumption) hq | ((simp only [*, BB, cond_true, cond_false, reduceCtorEq] at hq); done) | (revert hq; with_reducible intro _)) | (with_reducible first | exact True.intro | rfl | refine EntLe.row ?_ | exact LeN.ro rfl | exact LeN.rptr | assumption) | ((with_reducible first | refine WkX.chk ?_ | refine Wk.chk ?_ | refine LeL.chk ?_ | refine LeF.chk ?_ | refine Run.mk ?_); (conv => whnf)) | ((with_reducible show LeO _ _); first | refine LeO.ro ?_ | refine LeO.roCap ?_ | refine LeO.nil ?_ (fun _ => rfl)) | ((with_reducible show LeR _ _ _); first | refine LeR.own rfl rfl rfl ?_ | refine LeR.view rfl rfl rfl ?_ ?_ | refine LeR.ro ?_ | refine LeR.roCap ?_ | refine LeR.nil ?_ (fun _ => rfl)) | ((with_reducible first | show drawOK _ _ = true | show lateOK _ _ = true | show drawOK2 _ _ = true | show drawOK3 _ _ = true); kernel_rfl))
  all_goals first
    | omega
    | (apply Fits.i64 <;> omega)
    | (have hlt : i < sgN s := by
         rcases Nat.lt_or_ge i (sgN s) with h | h
         · exact h
         · obtain rfl : i = sgN s := by omega
           omega
       have := hat hlt
       first
       | omega
       | (show sgN s - (i + 1) < sgN s - i; omega)
       | (rw [this.2]; done))
    | (have : ¬ i < sgN s := fun h => by have := hat h; omega
       obtain rfl : i = sgN s := by omega
       rfl)
    | trace_state
theorem con_swithin : Con prog 98 (fun ((x, y) : Spn × Spn) => [.agg (spAV x), .agg (spAV y)]) (fun (x, y) => .sb (withinB x y)) (fun _ => True) := by
  refine Con.of (by kernel_rfl) T_ok CdsOK.nil .nil 3 [] q_swithin.1 q_swithin.2.1 q_swithin.2.2 (fun _ => rfl) fun i hi => ?_
  obtain ⟨x, y⟩ := i
  repeat' (first | (with_reducible first | exact fun h => h | refine ExE.row (by with_unfolding_all rfl) ?_ | refine And.intro ?_ ?_) | ((with_reducible intro hq); first | exact bne1 hq (by with_reducible assumption) | exact bne1 (by with_reducible assumption) hq | ((simp only [*, BB, cond_true, cond_false, reduceCtorEq] at hq); done) | (revert hq; with_reducible intro _)) | (with_reducible first | exact True.intro | rfl | refine EntLe.row ?_ | exact LeN.ro rfl | exact LeN.rptr | assumption) | ((with_reducible first | refine WkX.chk ?_ | refine Wk.chk ?_ | refine LeL.chk ?_ | refine LeF.chk ?_ | refine Run.mk ?_); (conv => whnf)) | ((with_reducible show LeO _ _); first | refine LeO.ro ?_ | refine LeO.roCap ?_ | refine LeO.nil ?_ (fun _ => rfl)) | ((with_reducible show LeR _ _ _); first | refine LeR.own rfl rfl rfl ?_ | refine LeR.view rfl rfl rfl ?_ ?_ | refine LeR.ro ?_ | refine LeR.roCap ?_ | refine LeR.nil ?_ (fun _ => rfl)) | ((with_reducible first | show drawOK _ _ = true | show lateOK _ _ = true | show drawOK2 _ _ = true | show drawOK3 _ _ = true); kernel_rfl))
  all_goals first
    | rfl
    | (unfold withinB; simp_all; done)
    | trace_state
theorem con_scrosses : Con prog 68 (fun ((x, y) : Spn × Spn) => [.agg (spAV x), .agg (spAV y)]) (fun (x, y) => .sb (crossB x y)) (fun _ => True) := by
  refine Con.of (by kernel_rfl) T_ok CdsOK.nil (.con con_swithin .nil) 3 [] q_scrosses.1 q_scrosses.2.1 q_scrosses.2.2 (fun _ => rfl) fun i hi => ?_
  obtain ⟨x, y⟩ := i
  repeat' (first | (with_reducible refine ⟨(_, _), ⟨(.cons (.agg (.cons (.v _) (.cons (.v _) (.cons (.v _) (.cons (.v _) .nil))))) (.cons (.agg (.cons (.v _) (.cons (.v _) (.cons (.v _) (.cons (.v _) .nil))))) .nil)), ?_⟩, ?_⟩) | (with_reducible first | exact fun h => h | refine ExE.row (by with_unfolding_all rfl) ?_ | refine And.intro ?_ ?_) | ((with_reducible intro hq); first | exact bne1 hq (by with_reducible assumption) | exact bne1 (by with_reducible assumption) hq | ((simp only [*, BB, cond_true, cond_false, reduceCtorEq] at hq); done) | (revert hq; with_reducible intro _)) | (with_reducible first | exact True.intro | rfl | refine EntLe.row ?_ | exact LeN.ro rfl | exact LeN.rptr | assumption) | ((with_reducible first | refine WkX.chk ?_ | refine Wk.chk ?_ | refine LeL.chk ?_ | refine LeF.chk ?_ | refine Run.mk ?_); (conv => whnf)) | ((with_reducible show LeO _ _); first | refine LeO.ro ?_ | refine LeO.roCap ?_ | refine LeO.nil ?_ (fun _ => rfl)) | ((with_reducible show LeR _ _ _); first | refine LeR.own rfl rfl rfl ?_ | refine LeR.view rfl rfl rfl ?_ ?_ | refine LeR.ro ?_ | refine LeR.roCap ?_ | refine LeR.nil ?_ (fun _ => rfl)) | ((with_reducible first | show drawOK _ _ = true | show lateOK _ _ = true | show drawOK2 _ _ = true | show drawOK3 _ _ = true); kernel_rfl))
  all_goals first
    | rfl
    | (unfold crossB; simp_all; done)
    | (unfold crossB; cases hc : (decide (x.frm < y.to) && decide (y.frm < x.to)) <;> simp_all; done)
    | trace_state
theorem con_sright : Con prog 65 (fun ((x, n) : Spn × Int) => [.agg (spAV x), .v (.int .i64 n)]) (fun (x, n) => .sb (rightB x n)) (fun _ => True) := by
  refine Con.of (by kernel_rfl) T_ok CdsOK.nil .nil 3 [] q_sright.1 q_sright.2.1 q_sright.2.2 (fun _ => rfl) fun i hi => ?_
  obtain ⟨x, n⟩ := i
  repeat' (first | (with_reducible first | exact fun h => h | refine ExE.row (by with_unfolding_all rfl) ?_ | refine And.intro ?_ ?_) | ((with_reducible intro hq); first | exact bne1 hq (by with_reducible assumption) | exact bne1 (by with_reducible assumption) hq | ((simp only [*, BB, cond_true, cond_false, reduceCtorEq] at hq); done) | (revert hq; with_reducible intro _)) | (with_reducible first | exact True.intro | rfl | refine EntLe.row ?_ | exact LeN.ro rfl | exact LeN.rptr | assumption) | ((with_reducible first | refine WkX.chk ?_ | refine Wk.chk ?_ | refine LeL.chk ?_ | refine LeF.chk ?_ | refine Run.mk ?_); (conv => whnf)) | ((with_reducible show LeO _ _); first | refine LeO.ro ?_ | refine LeO.roCap ?_ | refine LeO.nil ?_ (fun _ => rfl)) | ((with_reducible show LeR _ _ _); first | refine LeR.own rfl rfl rfl ?_ | refine LeR.view rfl rfl rfl ?_ ?_ | refine LeR.ro ?_ | refine LeR.roCap ?_ | refine LeR.nil ?_ (fun _ => rfl)) | ((with_reducible first | show drawOK _ _ = true | show lateOK _ _ = true | show drawOK2 _ _ = true | show drawOK3 _ _ = true); kernel_rfl))
  all_goals first
    | rfl
    | (simp_all; done)
    | (unfold rightB; simp_all; done)
    | (exfalso; simp_all; omega)
    | skip
  all_goals (unfold rightB)
  all_goals first
    | (split <;> simp_all <;> omega)
    | (simp only [Bool.or_eq_true, Bool.or_eq_false_iff, decide_eq_true_eq, decide_eq_false_iff_not, beq_iff_eq, beq_eq_false_iff_ne, ne_eq, Bool.and_eq_true, Bool.and_eq_false_iff] at *
       rw [Bool.eq_iff_iff]
       simp only [Bool.and_eq_true, decide_eq_true_eq]
       split <;> simp_all <;> omega)
    | trace_state
theorem con_scheck : Con prog 21 (fun ((s, l) : ByteArray × List Spn) => [txAV s l]) (fun (s, l) => .v (.int .i64 (chkN s.size l (sgN s : Nat)))) (fun _ => True) := by
  refine Con.of (by kernel_rfl) T_ok CdsOK.nil (.con con_ucount (.con con_sright (.con con_scrosses (.inl (J := []) q_scheck1.1 q_scheck1.2.1 q_scheck1.2.2 (.inl (J := []) q_contains.1 q_contains.2.1 q_contains.2.2 (.inl (J := []) q_indexF.1 q_indexF.2.1 q_indexF.2.2 .nil)))))) 9 [] q_scheck.1 q_scheck.2.1 q_scheck.2.2 (fun _ => rfl) fun i hi => ?_
  obtain ⟨s, l⟩ := i
  by_cases hs : s.size ≤ 4096
  · have k1 : decide ((4096 : Int) < (s.size : Int)) = false := decide_eq_false (by omega)
    by_cases hl : l.length ≤ 256
    · have k2 : decide ((256 : Int) < (l.length : Int)) = false := decide_eq_false (by omega)
      have hn := sgN_le s
      repeat' (first | (with_reducible refine ⟨_, ⟨(.cons (.v _) .nil), ?_⟩, ?_⟩) | (with_reducible first | exact fun h => h | refine ExE.row (by with_unfolding_all rfl) ?_ | refine And.intro ?_ ?_) | ((with_reducible intro hq); first | exact bne1 hq (by with_reducible assumption) | exact bne1 (by with_reducible assumption) hq | ((simp only [*, BB, cond_true, cond_false, reduceCtorEq] at hq); done) | (revert hq; with_reducible intro _)) | (with_reducible first | exact True.intro | rfl | refine EntLe.row ?_ | exact LeN.ro rfl | exact LeN.rptr | assumption) | ((with_reducible first | refine WkX.chk ?_ | refine Wk.chk ?_ | refine LeL.chk ?_ | refine LeF.chk ?_ | refine Run.mk ?_); (conv => whnf)) | ((with_reducible show LeO _ _); first | refine LeO.ro ?_ | refine LeO.roCap ?_ | refine LeO.nil ?_ (fun _ => rfl)) | ((with_reducible show LeR _ _ _); first | refine LeR.own rfl rfl rfl ?_ | refine LeR.view rfl rfl rfl ?_ ?_ | refine LeR.ro ?_ | refine LeR.roCap ?_ | refine LeR.nil ?_ (fun _ => rfl)) | ((with_reducible first | show drawOK _ _ = true | show lateOK _ _ = true | show drawOK2 _ _ = true | show drawOK3 _ _ = true); kernel_rfl))
      · show s.size ≤ 1000000; omega
      have hd : C_spn.d = zS := rfl
      have hz : Hid (chkN s.size l (sgN s : Nat) = if spansB l (sgN s : Nat) = true then 0 else 23) := ⟨by unfold chkN; rw [if_neg (by omega), if_neg (by omega)]⟩
      refine loopI Nat [] (fun i => [(22, .v (.int .i64 (i : Nat)))]) (fun _ => []) (fun i => i ≤ l.length ∧ okTo l (sgN s : Nat) i = true) (fun i => l.length - i) 0 ⟨Nat.zero_le _, rfl⟩ (Wk.chk ?_) fun i hi => ?_
      · ((conv => whnf); repeat' (first | (with_reducible first | exact fun h => h | refine ExE.row (by with_unfolding_all rfl) ?_ | refine And.intro ?_ ?_) | ((with_reducible intro hq); first | exact bne1 hq (by with_reducible assumption) | exact bne1 (by with_reducible assumption) hq | ((simp only [*, BB, cond_true, cond_false, reduceCtorEq] at hq); done) | (revert hq; with_reducible intro _)) | (with_reducible first | exact True.intro | rfl | refine EntLe.row ?_ | exact LeN.ro rfl | exact LeN.rptr | assumption) | ((with_reducible first | refine WkX.chk ?_ | refine Wk.chk ?_ | refine LeL.chk ?_ | refine LeF.chk ?_ | refine Run.mk ?_); (conv => whnf)) | ((with_reducible show LeO _ _); first | refine LeO.ro ?_ | refine LeO.roCap ?_ | refine LeO.nil ?_ (fun _ => rfl)) | ((with_reducible show LeR _ _ _); first | refine LeR.own rfl rfl rfl ?_ | refine LeR.view rfl rfl rfl ?_ ?_ | refine LeR.ro ?_ | refine LeR.roCap ?_ | refine LeR.nil ?_ (fun _ => rfl)) | ((with_reducible first | show drawOK _ _ = true | show lateOK _ _ = true | show drawOK2 _ _ = true | show drawOK3 _ _ = true); kernel_rfl)))
        all_goals rfl
      obtain ⟨hi1, hi2⟩ := hi
      have e1 : ((i : Int)).toNat = i := Int.toNat_natCast _
      by_cases hil : i < l.length
      · have hlt : decide ((i : Int) < (l.length : Int)) = true := decide_eq_true (by omega)
        have hbad : Hid (rightB (l.getD i zS) (sgN s : Nat) = false ∨ aloneTo l (l.getD i zS) i = false → chkN s.size l (sgN s : Nat) = 23) := ⟨fun h => by
          have : okTo l (sgN s : Nat) (i + 1) = false := by
            rw [okTo]
            rcases h with h | h <;> rw [h] <;> simp
          rw [hz.out, if_neg (by unfold spansB; rw [okTo_false (by omega) this]; decide)]⟩
        cases hr : rightB (l.getD i zS) (sgN s : Nat) with
        | false =>
          have hr' : rightB (l.getD ((i : Int)).toNat C_spn.d) (sgN s : Nat) = false := by rw [e1, hd]; exact hr
          repeat' (first | (with_reducible refine ⟨(l.getD ((i : Int)).toNat C_spn.d, _), ⟨(.cons (.agg (.cons (.v _) (.cons (.v _) (.cons (.v _) (.cons (.v _) .nil))))) (.cons (.v _) .nil)), ?_⟩, ?_⟩) | (with_reducible first | exact fun h => h | refine ExE.row (by with_unfolding_all rfl) ?_ | refine And.intro ?_ ?_) | ((with_reducible intro hq); first | exact bne1 hq (by with_reducible assumption) | exact bne1 (by with_reducible assumption) hq | ((simp only [*, BB, cond_true, cond_false, reduceCtorEq] at hq); done) | (revert hq; with_reducible intro _)) | (with_reducible first | exact True.intro | rfl | refine EntLe.row ?_ | exact LeN.ro rfl | exact LeN.rptr | assumption) | ((with_reducible first | refine WkX.chk ?_ | refine Wk.chk ?_ | refine LeL.chk ?_ | refine LeF.chk ?_ | refine Run.mk ?_); (conv => whnf)) | ((with_reducible show LeO _ _); first | refine LeO.ro ?_ | refine LeO.roCap ?_ | refine LeO.nil ?_ (fun _ => rfl)) | ((with_reducible show LeR _ _ _); first | refine LeR.own rfl rfl rfl ?_ | refine LeR.view rfl rfl rfl ?_ ?_ | refine LeR.ro ?_ | refine LeR.roCap ?_ | refine LeR.nil ?_ (fun _ => rfl)) | ((with_reducible first | show drawOK _ _ = true | show lateOK _ _ = true | show drawOK2 _ _ = true | show drawOK3 _ _ = true); kernel_rfl))
          all_goals first
            | omega
            | exact (hbad.out (.inl hr)).symm
            | (rw [hr']; rfl)
            | (exfalso; rw [hr'] at *; simp_all; done)
            | trace_state
        | true =>
          have hr' : rightB (l.getD ((i : Int)).toNat C_spn.d) (sgN s : Nat) = true := by rw [e1, hd]; exact hr
          repeat' (first | (with_reducible refine ⟨(l.getD ((i : Int)).toNat C_spn.d, _), ⟨(.cons (.agg (.cons (.v _) (.cons (.v _) (.cons (.v _) (.cons (.v _) .nil))))) (.cons (.v _) .nil)), ?_⟩, ?_⟩) | (with_reducible first | exact fun h => h | refine ExE.row (by with_unfolding_all rfl) ?_ | refine And.intro ?_ ?_) | ((with_reducible intro hq); first | exact bne1 hq (by with_reducible assumption) | exact bne1 (by with_reducible assumption) hq | ((simp only [*, BB, cond_true, cond_false, reduceCtorEq] at hq); done) | (revert hq; with_reducible intro _)) | (with_reducible first | exact True.intro | rfl | refine EntLe.row ?_ | exact LeN.ro rfl | exact LeN.rptr | assumption) | ((with_reducible first | refine WkX.chk ?_ | refine Wk.chk ?_ | refine LeL.chk ?_ | refine LeF.chk ?_ | refine Run.mk ?_); (conv => whnf)) | ((with_reducible show LeO _ _); first | refine LeO.ro ?_ | refine LeO.roCap ?_ | refine LeO.nil ?_ (fun _ => rfl)) | ((with_reducible show LeR _ _ _); first | refine LeR.own rfl rfl rfl ?_ | refine LeR.view rfl rfl rfl ?_ ?_ | refine LeR.ro ?_ | refine LeR.roCap ?_ | refine LeR.nil ?_ (fun _ => rfl)) | ((with_reducible first | show drawOK _ _ = true | show lateOK _ _ = true | show drawOK2 _ _ = true | show drawOK3 _ _ = true); kernel_rfl))
          any_goals omega
          have htl : (l.take ((i : Int)).toNat).length = i := by rw [e1, List.length_take]; omega
          refine loopI Nat [] (fun j => [(8, .v (.int .i64 (j : Nat)))]) (fun _ => []) (fun j => j ≤ i ∧ aloneTo l (l.getD i zS) j = true) (fun j => i - j) 0 ⟨Nat.zero_le _, by unfold aloneTo; simp⟩ (Wk.chk ?_) fun j hj => ?_
          · ((conv => whnf); repeat' (first | (with_reducible first | exact fun h => h | refine ExE.row (by with_unfolding_all rfl) ?_ | refine And.intro ?_ ?_) | ((with_reducible intro hq); first | exact bne1 hq (by with_reducible assumption) | exact bne1 (by with_reducible assumption) hq | ((simp only [*, BB, cond_true, cond_false, reduceCtorEq] at hq); done) | (revert hq; with_reducible intro _)) | (with_reducible first | exact True.intro | rfl | refine EntLe.row ?_ | exact LeN.ro rfl | exact LeN.rptr | assumption) | ((with_reducible first | refine WkX.chk ?_ | refine Wk.chk ?_ | refine LeL.chk ?_ | refine LeF.chk ?_ | refine Run.mk ?_); (conv => whnf)) | ((with_reducible show LeO _ _); first | refine LeO.ro ?_ | refine LeO.roCap ?_ | refine LeO.nil ?_ (fun _ => rfl)) | ((with_reducible show LeR _ _ _); first | refine LeR.own rfl rfl rfl ?_ | refine LeR.view rfl rfl rfl ?_ ?_ | refine LeR.ro ?_ | refine LeR.roCap ?_ | refine LeR.nil ?_ (fun _ => rfl)) | ((with_reducible first | show drawOK _ _ = true | show lateOK _ _ = true | show drawOK2 _ _ = true | show drawOK3 _ _ = true); kernel_rfl)))
            all_goals rfl
          obtain ⟨hj1, hj2⟩ := hj
          have e2 : ((j : Int)).toNat = j := Int.toNat_natCast _
          by_cases hji : j < i
          · have hlt : decide ((j : Int) < ((l.take ((i : Int)).toNat).length : Int)) = true := decide_eq_true (by omega)
            have hg : (l.take ((i : Int)).toNat).getD ((j : Int)).toNat C_spn.d = l.getD j zS := by
              rw [e1, e2, hd]
              simp [List.getD_eq_getElem?_getD, List.getElem?_take, hji]
            have hsucc := aloneTo_succ (l := l) (x := l.getD i zS) (k := j) (by omega)
            have hcc := Bool.eq_false_or_eq_true (crossB (l.getD i zS) (l.getD j zS))
            rcases hcc with hc | hc
            ·
              have hc' : crossB (l.getD ((i : Int)).toNat C_spn.d) ((l.take ((i : Int)).toNat).getD ((j : Int)).toNat C_spn.d) = true := by rw [hg, e1, hd]; exact hc
              have hb : aloneTo l (l.getD i zS) i = false := aloneTo_false (i := j + 1) (by omega) (by rw [hsucc, hc]; simp)
              have hge : decide ((0 : Int) ≤ (j : Int)) = true := decide_eq_true (by omega)
              repeat' (first | (with_reducible refine ⟨(l.getD ((i : Int)).toNat C_spn.d, (l.take ((i : Int)).toNat).getD ((j : Int)).toNat C_spn.d), ⟨(.cons (.agg (.cons (.v _) (.cons (.v _) (.cons (.v _) (.cons (.v _) .nil))))) (.cons (.agg (.cons (.v _) (.cons (.v _) (.cons (.v _) (.cons (.v _) .nil))))) .nil)), ?_⟩, ?_⟩) | (with_reducible first | exact fun h => h | refine ExE.row (by with_unfolding_all rfl) ?_ | refine And.intro ?_ ?_) | ((with_reducible intro hq); first | exact bne1 hq (by with_reducible assumption) | exact bne1 (by with_reducible assumption) hq | ((simp only [*, BB, cond_true, cond_false, reduceCtorEq] at hq); done) | (revert hq; with_reducible intro _)) | (with_reducible first | exact True.intro | rfl | refine EntLe.row ?_ | exact LeN.ro rfl | exact LeN.rptr | assumption) | ((with_reducible first | refine WkX.chk ?_ | refine Wk.chk ?_ | refine LeL.chk ?_ | refine LeF.chk ?_ | refine Run.mk ?_); (conv => whnf)) | ((with_reducible show LeO _ _); first | refine LeO.ro ?_ | refine LeO.roCap ?_ | refine LeO.nil ?_ (fun _ => rfl)) | ((with_reducible show LeR _ _ _); first | refine LeR.own rfl rfl rfl ?_ | refine LeR.view rfl rfl rfl ?_ ?_ | refine LeR.ro ?_ | refine LeR.roCap ?_ | refine LeR.nil ?_ (fun _ => rfl)) | ((with_reducible first | show drawOK _ _ = true | show lateOK _ _ = true | show drawOK2 _ _ = true | show drawOK3 _ _ = true); kernel_rfl))
              all_goals first
                | omega
                | exact (hbad.out (.inr hb)).symm
                | (rw [hc']; rfl)
                | trace_state
            ·
              have hc' : crossB (l.getD ((i : Int)).toNat C_spn.d) ((l.take ((i : Int)).toNat).getD ((j : Int)).toNat C_spn.d) = false := by rw [hg, e1, hd]; exact hc
              have hsucc : aloneTo l (l.getD i zS) (j + 1) = true := by rw [hsucc, hj2, hc]; rfl
              repeat' (first | (with_reducible refine ⟨(l.getD ((i : Int)).toNat C_spn.d, (l.take ((i : Int)).toNat).getD ((j : Int)).toNat C_spn.d), ⟨(.cons (.agg (.cons (.v _) (.cons (.v _) (.cons (.v _) (.cons (.v _) .nil))))) (.cons (.agg (.cons (.v _) (.cons (.v _) (.cons (.v _) (.cons (.v _) .nil))))) .nil)), ?_⟩, ?_⟩) | (with_reducible refine ex_of (α := Nat) (j + 1) ⟨⟨?_, hsucc⟩, ?_⟩ ?_) | (with_reducible first | exact fun h => h | refine ExE.row (by with_unfolding_all rfl) ?_ | refine And.intro ?_ ?_) | ((with_reducible intro hq); first | exact bne1 hq (by with_reducible assumption) | exact bne1 (by with_reducible assumption) hq | ((simp only [*, BB, cond_true, cond_false, reduceCtorEq] at hq); done) | (revert hq; with_reducible intro _)) | (with_reducible first | exact True.intro | rfl | refine EntLe.row ?_ | exact LeN.ro rfl | exact LeN.rptr | assumption) | ((with_reducible first | refine WkX.chk ?_ | refine Wk.chk ?_ | refine LeL.chk ?_ | refine LeF.chk ?_ | refine Run.mk ?_); (conv => whnf)) | ((with_reducible show LeO _ _); first | refine LeO.ro ?_ | refine LeO.roCap ?_ | refine LeO.nil ?_ (fun _ => rfl)) | ((with_reducible show LeR _ _ _); first | refine LeR.own rfl rfl rfl ?_ | refine LeR.view rfl rfl rfl ?_ ?_ | refine LeR.ro ?_ | refine LeR.roCap ?_ | refine LeR.nil ?_ (fun _ => rfl)) | ((with_reducible first | show drawOK _ _ = true | show lateOK _ _ = true | show drawOK2 _ _ = true | show drawOK3 _ _ = true); kernel_rfl))
              all_goals first
                | omega
                | (apply Fits.i64 <;> omega)
                | (show i - (j + 1) < i - j; omega)
                | (rw [hc']; rfl)
                | trace_state
          have hlt : decide ((j : Int) < ((l.take ((i : Int)).toNat).length : Int)) = false := decide_eq_false (by omega)
          have hjj : j = i := by omega
          subst hjj
          have hok : okTo l (sgN s : Nat) (j + 1) = true := by rw [okTo, hi2, hr, hj2]; rfl
          repeat' (first | (with_reducible refine ex_of (α := Nat) (j + 1) ⟨⟨?_, hok⟩, ?_⟩ ?_) | (with_reducible first | exact fun h => h | refine ExE.row (by with_unfolding_all rfl) ?_ | refine And.intro ?_ ?_) | ((with_reducible intro hq); first | exact bne1 hq (by with_reducible assumption) | exact bne1 (by with_reducible assumption) hq | ((simp only [*, BB, cond_true, cond_false, reduceCtorEq] at hq); done) | (revert hq; with_reducible intro _)) | (with_reducible first | exact True.intro | rfl | refine EntLe.row ?_ | exact LeN.ro rfl | exact LeN.rptr | assumption) | ((with_reducible first | refine WkX.chk ?_ | refine Wk.chk ?_ | refine LeL.chk ?_ | refine LeF.chk ?_ | refine Run.mk ?_); (conv => whnf)) | ((with_reducible show LeO _ _); first | refine LeO.ro ?_ | refine LeO.roCap ?_ | refine LeO.nil ?_ (fun _ => rfl)) | ((with_reducible show LeR _ _ _); first | refine LeR.own rfl rfl rfl ?_ | refine LeR.view rfl rfl rfl ?_ ?_ | refine LeR.ro ?_ | refine LeR.roCap ?_ | refine LeR.nil ?_ (fun _ => rfl)) | ((with_reducible first | show drawOK _ _ = true | show lateOK _ _ = true | show drawOK2 _ _ = true | show drawOK3 _ _ = true); kernel_rfl))
          all_goals first
            | omega
            | (apply Fits.i64 <;> omega)
            | (show l.length - (j + 1) < l.length - j; omega)
            | (exfalso; simp_all; done)
            | trace_state
      have hlt : decide ((i : Int) < (l.length : Int)) = false := decide_eq_false (by omega)
      obtain rfl : i = l.length := by omega
      repeat' (first | (with_reducible first | exact fun h => h | refine ExE.row (by with_unfolding_all rfl) ?_ | refine And.intro ?_ ?_) | ((with_reducible intro hq); first | exact bne1 hq (by with_reducible assumption) | exact bne1 (by with_reducible assumption) hq | ((simp only [*, BB, cond_true, cond_false, reduceCtorEq] at hq); done) | (revert hq; with_reducible intro _)) | (with_reducible first | exact True.intro | rfl | refine EntLe.row ?_ | exact LeN.ro rfl | exact LeN.rptr | assumption) | ((with_reducible first | refine WkX.chk ?_ | refine Wk.chk ?_ | refine LeL.chk ?_ | refine LeF.chk ?_ | refine Run.mk ?_); (conv => whnf)) | ((with_reducible show LeO _ _); first | refine LeO.ro ?_ | refine LeO.roCap ?_ | refine LeO.nil ?_ (fun _ => rfl)) | ((with_reducible show LeR _ _ _); first | refine LeR.own rfl rfl rfl ?_ | refine LeR.view rfl rfl rfl ?_ ?_ | refine LeR.ro ?_ | refine LeR.roCap ?_ | refine LeR.nil ?_ (fun _ => rfl)) | ((with_reducible first | show drawOK _ _ = true | show lateOK _ _ = true | show drawOK2 _ _ = true | show drawOK3 _ _ = true); kernel_rfl))
      all_goals first
        | (rw [hz.out, if_pos (show spansB l (sgN s : Nat) = true from hi2)]; done)
        | trace_state
    · have k2 : decide ((256 : Int) < (l.length : Int)) = true := decide_eq_true (by omega)
      repeat' (first | (with_reducible first | exact fun h => h | refine ExE.row (by with_unfolding_all rfl) ?_ | refine And.intro ?_ ?_) | ((with_reducible intro hq); first | exact bne1 hq (by with_reducible assumption) | exact bne1 (by with_reducible assumption) hq | ((simp only [*, BB, cond_true, cond_false, reduceCtorEq] at hq); done) | (revert hq; with_reducible intro _)) | (with_reducible first | exact True.intro | rfl | refine EntLe.row ?_ | exact LeN.ro rfl | exact LeN.rptr | assumption) | ((with_reducible first | refine WkX.chk ?_ | refine Wk.chk ?_ | refine LeL.chk ?_ | refine LeF.chk ?_ | refine Run.mk ?_); (conv => whnf)) | ((with_reducible show LeO _ _); first | refine LeO.ro ?_ | refine LeO.roCap ?_ | refine LeO.nil ?_ (fun _ => rfl)) | ((with_reducible show LeR _ _ _); first | refine LeR.own rfl rfl rfl ?_ | refine LeR.view rfl rfl rfl ?_ ?_ | refine LeR.ro ?_ | refine LeR.roCap ?_ | refine LeR.nil ?_ (fun _ => rfl)) | ((with_reducible first | show drawOK _ _ = true | show lateOK _ _ = true | show drawOK2 _ _ = true | show drawOK3 _ _ = true); kernel_rfl))
      all_goals first
        | (unfold chkN; rw [if_neg (by omega), if_pos (by omega)]; done)
        | trace_state
  · have k1 : decide ((4096 : Int) < (s.size : Int)) = true := decide_eq_true (by omega)
    repeat' (first | (with_reducible first | exact fun h => h | refine ExE.row (by with_unfolding_all rfl) ?_ | refine And.intro ?_ ?_) | ((with_reducible intro hq); first | exact bne1 hq (by with_reducible assumption) | exact bne1 (by with_reducible assumption) hq | ((simp only [*, BB, cond_true, cond_false, reduceCtorEq] at hq); done) | (revert hq; with_reducible intro _)) | (with_reducible first | exact True.intro | rfl | refine EntLe.row ?_ | exact LeN.ro rfl | exact LeN.rptr | assumption) | ((with_reducible first | refine WkX.chk ?_ | refine Wk.chk ?_ | refine LeL.chk ?_ | refine LeF.chk ?_ | refine Run.mk ?_); (conv => whnf)) | ((with_reducible show LeO _ _); first | refine LeO.ro ?_ | refine LeO.roCap ?_ | refine LeO.nil ?_ (fun _ => rfl)) | ((with_reducible show LeR _ _ _); first | refine LeR.own rfl rfl rfl ?_ | refine LeR.view rfl rfl rfl ?_ ?_ | refine LeR.ro ?_ | refine LeR.roCap ?_ | refine LeR.nil ?_ (fun _ => rfl)) | ((with_reducible first | show drawOK _ _ = true | show lateOK _ _ = true | show drawOK2 _ _ = true | show drawOK3 _ _ = true); kernel_rfl))
    all_goals first
      | (unfold chkN; rw [if_pos (by omega)]; done)
      | trace_state
end Go.SX.Try
/- Contracts of the document's chapter 7: fits, within, cross, Check; Plain of both. -/
namespace Go.SX.Try
open Go.Proofs Go.Proofs.Try Go.SX.Plain
set_option maxRecDepth 100000
set_option maxHeartbeats 0
set_option linter.unusedSimpArgs false
theorem q_rfits : fact 69 f69 := ⟨by kernel_rfl, rfl, by kernel_rfl⟩
theorem q_rwithin7 : fact 99 f99 := ⟨by kernel_rfl, rfl, by kernel_rfl⟩
theorem q_rcross : fact 70 f70 := ⟨by kernel_rfl, rfl, by kernel_rfl⟩
theorem q_rcheck7 : fact 24 f24 := ⟨by kernel_rfl, rfl, by kernel_rfl⟩
theorem q_splain : fact 22 f22 := ⟨by kernel_rfl, rfl, by kernel_rfl⟩
theorem q_rplain : fact 23 f23 := ⟨by kernel_rfl, rfl, by kernel_rfl⟩
theorem con_rwithin7 : Con prog 99 (fun ((x, y) : Spn × Spn) => [.agg (spAV x), .agg (spAV y)]) (fun (x, y) => .sb (withinB x y)) (fun _ => True) := by
  refine Con.of (by kernel_rfl) T_ok CdsOK.nil .nil 3 [] q_rwithin7.1 q_rwithin7.2.1 q_rwithin7.2.2 (fun _ => rfl) fun i hi => ?_
  obtain ⟨x, y⟩ := i
  repeat' (first | (with_reducible first | exact fun h => h | refine ExE.row (by with_unfolding_all rfl) ?_ | refine And.intro ?_ ?_) | ((with_reducible intro hq); first | exact bne1 hq (by with_reducible assumption) | exact bne1 (by with_reducible assumption) hq | ((simp only [*, BB, cond_true, cond_false, reduceCtorEq] at hq); done) | (revert hq; with_reducible intro _)) | (with_reducible first | exact True.intro | rfl | refine EntLe.row ?_ | exact LeN.ro rfl | exact LeN.rptr | assumption) | ((with_reducible first | refine WkX.chk ?_ | refine Wk.chk ?_ | refine LeL.chk ?_ | refine LeF.chk ?_ | refine Run.mk ?_); (conv => whnf)) | ((with_reducible show LeO _ _); first | refine LeO.ro ?_ | refine LeO.roCap ?_ | refine LeO.nil ?_ (fun _ => rfl)) | ((with_reducible show LeR _ _ _); first | refine LeR.own rfl rfl rfl ?_ | refine LeR.view rfl rfl rfl ?_ ?_ | refine LeR.ro ?_ | refine LeR.roCap ?_ | refine LeR.nil ?_ (fun _ => rfl)) | ((with_reducible first | show drawOK _ _ = true | show lateOK _ _ = true | show drawOK2 _ _ = true | show drawOK3 _ _ = true); kernel_rfl))
  all_goals first
    | rfl
    | (unfold withinB; simp_all; done)
    | trace_state
theorem con_rcross : Con prog 70 (fun ((x, y) : Spn × Spn) => [.agg (spAV x), .agg (spAV y)]) (fun (x, y) => .sb (crossB x y)) (fun _ => True) := by
  refine Con.of (by kernel_rfl) T_ok CdsOK.nil (.con con_rwithin7 .nil) 3 [] q_rcross.1 q_rcross.2.1 q_rcross.2.2 (fun _ => rfl) fun i hi => ?_
  obtain ⟨x, y⟩ := i
  repeat' (first | (with_reducible refine ⟨(_, _), ⟨(.cons (.agg (.cons (.v _) (.cons (.v _) (.cons (.v _) (.cons (.v _) .nil))))) (.cons (.agg (.cons (.v _) (.cons (.v _) (.cons (.v _) (.cons (.v _) .nil))))) .nil)), ?_⟩, ?_⟩) | (with_reducible first | exact fun h => h | refine ExE.row (by with_unfolding_all rfl) ?_ | refine And.intro ?_ ?_) | ((with_reducible intro hq); first | exact bne1 hq (by with_reducible assumption) | exact bne1 (by with_reducible assumption) hq | ((simp only [*, BB, cond_true, cond_false, reduceCtorEq] at hq); done) | (revert hq; with_reducible intro _)) | (with_reducible first | exact True.intro | rfl | refine EntLe.row ?_ | exact LeN.ro rfl | exact LeN.rptr | assumption) | ((with_reducible first | refine WkX.chk ?_ | refine Wk.chk ?_ | refine LeL.chk ?_ | refine LeF.chk ?_ | refine Run.mk ?_); (conv => whnf)) | ((with_reducible show LeO _ _); first | refine LeO.ro ?_ | refine LeO.roCap ?_ | refine LeO.nil ?_ (fun _ => rfl)) | ((with_reducible show LeR _ _ _); first | refine LeR.own rfl rfl rfl ?_ | refine LeR.view rfl rfl rfl ?_ ?_ | refine LeR.ro ?_ | refine LeR.roCap ?_ | refine LeR.nil ?_ (fun _ => rfl)) | ((with_reducible first | show drawOK _ _ = true | show lateOK _ _ = true | show drawOK2 _ _ = true | show drawOK3 _ _ = true); kernel_rfl))
  all_goals first
    | rfl
    | (unfold crossB; simp_all; done)
    | (unfold crossB; cases hc : (decide (x.frm < y.to) && decide (y.frm < x.to)) <;> simp_all; done)
    | trace_state
theorem con_rfits : Con prog 69 (fun ((x, n) : Spn × Int) => [.agg (spAV x), .v (.int .i64 n)]) (fun (x, n) => .sb (rightB x n)) (fun _ => True) := by
  refine Con.of (by kernel_rfl) T_ok CdsOK.nil .nil 3 [] q_rfits.1 q_rfits.2.1 q_rfits.2.2 (fun _ => rfl) fun i hi => ?_
  obtain ⟨x, n⟩ := i
  repeat' (first | (with_reducible first | exact fun h => h | refine ExE.row (by with_unfolding_all rfl) ?_ | refine And.intro ?_ ?_) | ((with_reducible intro hq); first | exact bne1 hq (by with_reducible assumption) | exact bne1 (by with_reducible assumption) hq | ((simp only [*, BB, cond_true, cond_false, reduceCtorEq] at hq); done) | (revert hq; with_reducible intro _)) | (with_reducible first | exact True.intro | rfl | refine EntLe.row ?_ | exact LeN.ro rfl | exact LeN.rptr | assumption) | ((with_reducible first | refine WkX.chk ?_ | refine Wk.chk ?_ | refine LeL.chk ?_ | refine LeF.chk ?_ | refine Run.mk ?_); (conv => whnf)) | ((with_reducible show LeO _ _); first | refine LeO.ro ?_ | refine LeO.roCap ?_ | refine LeO.nil ?_ (fun _ => rfl)) | ((with_reducible show LeR _ _ _); first | refine LeR.own rfl rfl rfl ?_ | refine LeR.view rfl rfl rfl ?_ ?_ | refine LeR.ro ?_ | refine LeR.roCap ?_ | refine LeR.nil ?_ (fun _ => rfl)) | ((with_reducible first | show drawOK _ _ = true | show lateOK _ _ = true | show drawOK2 _ _ = true | show drawOK3 _ _ = true); kernel_rfl))
  all_goals first
    | rfl
    | (simp_all; done)
    | (unfold rightB; simp_all; done)
    | (exfalso; simp_all; omega)
    | skip
  all_goals (unfold rightB)
  all_goals first
    | (simp_all; done)
    | (split <;> simp_all <;> omega)
    | (rw [Bool.eq_iff_iff]; simp only [Bool.and_eq_true, decide_eq_true_eq]; split <;> simp_all <;> omega)
    | trace_state
theorem con_rcheck7 : Con prog 24 (fun ((s, l) : ByteArray × List Spn) => [txAV s l]) (fun (s, l) => .v (.int .i64 (chkN s.size l (sgN s : Nat)))) (fun _ => True) := by
  refine Con.of (by kernel_rfl) T_ok CdsOK.nil (.con con_rcount (.con con_rfits (.con con_rcross .nil))) 5 [] q_rcheck7.1 q_rcheck7.2.1 q_rcheck7.2.2 (fun _ => rfl) fun i hi => ?_
  obtain ⟨s, l⟩ := i
  by_cases hs : s.size ≤ 4096
  · have k1 : decide ((4096 : Int) < (s.size : Int)) = false := decide_eq_false (by omega)
    by_cases hl : l.length ≤ 256
    · have k2 : decide ((256 : Int) < (l.length : Int)) = false := decide_eq_false (by omega)
      have hn := sgN_le s
      have hz : Hid (∀ i, i < l.length → (rightB (l.getD i zS) (sgN s : Nat) = false ∨ aloneTo l (l.getD i zS) i = false) → 23 = chkN s.size l (sgN s : Nat)) := ⟨fun i h1 h2 => by
        have hb : spansB l (sgN s : Nat) = false := by
          cases hb : spansB l (sgN s : Nat) with
          | false => rfl
          | true =>
            have := okTo_at h1 hb
            rcases h2 with h2 | h2
            · rw [h2] at this; cases this.1
            · rw [h2] at this; cases this.2
        unfold chkN
        rw [if_neg (by omega), if_neg (by omega), hb]
        rfl⟩
      have hz2 : Hid (spansB l (sgN s : Nat) = true → 0 = chkN s.size l (sgN s : Nat)) := ⟨fun hb => by
        unfold chkN
        rw [if_neg (by omega), if_neg (by omega), if_pos hb]⟩
      have hd : C_spn.d = zS := rfl
      repeat' (first | (with_reducible refine ⟨_, ⟨(.cons (.v _) .nil), ?_⟩, ?_⟩) | (with_reducible first | exact fun h => h | refine ExE.row (by with_unfolding_all rfl) ?_ | refine And.intro ?_ ?_) | ((with_reducible intro hq); first | exact bne1 hq (by with_reducible assumption) | exact bne1 (by with_reducible assumption) hq | ((simp only [*, BB, cond_true, cond_false, reduceCtorEq] at hq); done) | (revert hq; with_reducible intro _)) | (with_reducible first | exact True.intro | rfl | refine EntLe.row ?_ | exact LeN.ro rfl | exact LeN.rptr | assumption) | ((with_reducible first | refine WkX.chk ?_ | refine Wk.chk ?_ | refine LeL.chk ?_ | refine LeF.chk ?_ | refine Run.mk ?_); (conv => whnf)) | ((with_reducible show LeO _ _); first | refine LeO.ro ?_ | refine LeO.roCap ?_ | refine LeO.nil ?_ (fun _ => rfl)) | ((with_reducible show LeR _ _ _); first | refine LeR.own rfl rfl rfl ?_ | refine LeR.view rfl rfl rfl ?_ ?_ | refine LeR.ro ?_ | refine LeR.roCap ?_ | refine LeR.nil ?_ (fun _ => rfl)) | ((with_reducible first | show drawOK _ _ = true | show lateOK _ _ = true | show drawOK2 _ _ = true | show drawOK3 _ _ = true); kernel_rfl))
      · show s.size ≤ 1000000; omega
      refine loopI Nat [] (fun i => [(4, .v (.int .i64 (i : Nat)))]) (fun _ => []) (fun i => i ≤ l.length ∧ ∀ k, k < i → rightB (l.getD k zS) (sgN s : Nat) = true) (fun i => l.length - i) 0 ⟨Nat.zero_le _, fun k h => absurd h (Nat.not_lt_zero _)⟩ (Wk.chk ?_) fun i hi => ?_
      · ((conv => whnf); repeat' (first | (with_reducible first | exact fun h => h | refine ExE.row (by with_unfolding_all rfl) ?_ | refine And.intro ?_ ?_) | ((with_reducible intro hq); first | exact bne1 hq (by with_reducible assumption) | exact bne1 (by with_reducible assumption) hq | ((simp only [*, BB, cond_true, cond_false, reduceCtorEq] at hq); done) | (revert hq; with_reducible intro _)) | (with_reducible first | exact True.intro | rfl | refine EntLe.row ?_ | exact LeN.ro rfl | exact LeN.rptr | assumption) | ((with_reducible first | refine WkX.chk ?_ | refine Wk.chk ?_ | refine LeL.chk ?_ | refine LeF.chk ?_ | refine Run.mk ?_); (conv => whnf)) | ((with_reducible show LeO _ _); first | refine LeO.ro ?_ | refine LeO.roCap ?_ | refine LeO.nil ?_ (fun _ => rfl)) | ((with_reducible show LeR _ _ _); first | refine LeR.own rfl rfl rfl ?_ | refine LeR.view rfl rfl rfl ?_ ?_ | refine LeR.ro ?_ | refine LeR.roCap ?_ | refine LeR.nil ?_ (fun _ => rfl)) | ((with_reducible first | show drawOK _ _ = true | show lateOK _ _ = true | show drawOK2 _ _ = true | show drawOK3 _ _ = true); kernel_rfl)))
        all_goals rfl
      obtain ⟨hi1, hi2⟩ := hi
      have e1 : ((i : Int)).toNat = i := Int.toNat_natCast _
      by_cases hil : i < l.length
      · have hlt : decide ((i : Int) < (l.length : Int)) = true := decide_eq_true (by omega)
        have hrr := Bool.eq_false_or_eq_true (rightB (l.getD i zS) (sgN s : Nat))
        rcases hrr with hr | hr
        · have hr' : rightB (l.getD ((i : Int)).toNat C_spn.d) (sgN s : Nat) = true := by rw [e1, hd]; exact hr
          have hi3 : ∀ k, k < i + 1 → rightB (l.getD k zS) (sgN s : Nat) = true := fun k hk => by
            by_cases h : k = i
            · rw [h]; exact hr
            · exact hi2 k (by omega)
          repeat' (first | (with_reducible refine ⟨(l.getD ((i : Int)).toNat C_spn.d, _), ⟨(.cons (.agg (.cons (.v _) (.cons (.v _) (.cons (.v _) (.cons (.v _) .nil))))) (.cons (.v _) .nil)), ?_⟩, ?_⟩) | (with_reducible refine ex_of (α := Nat) (i + 1) ⟨⟨?_, hi3⟩, ?_⟩ ?_) | (with_reducible first | exact fun h => h | refine ExE.row (by with_unfolding_all rfl) ?_ | refine And.intro ?_ ?_) | ((with_reducible intro hq); first | exact bne1 hq (by with_reducible assumption) | exact bne1 (by with_reducible assumption) hq | ((simp only [*, BB, cond_true, cond_false, reduceCtorEq] at hq); done) | (revert hq; with_reducible intro _)) | (with_reducible first | exact True.intro | rfl | refine EntLe.row ?_ | exact LeN.ro rfl | exact LeN.rptr | assumption) | ((with_reducible first | refine WkX.chk ?_ | refine Wk.chk ?_ | refine LeL.chk ?_ | refine LeF.chk ?_ | refine Run.mk ?_); (conv => whnf)) | ((with_reducible show LeO _ _); first | refine LeO.ro ?_ | refine LeO.roCap ?_ | refine LeO.nil ?_ (fun _ => rfl)) | ((with_reducible show LeR _ _ _); first | refine LeR.own rfl rfl rfl ?_ | refine LeR.view rfl rfl rfl ?_ ?_ | refine LeR.ro ?_ | refine LeR.roCap ?_ | refine LeR.nil ?_ (fun _ => rfl)) | ((with_reducible first | show drawOK _ _ = true | show lateOK _ _ = true | show drawOK2 _ _ = true | show drawOK3 _ _ = true); kernel_rfl))
          all_goals first
            | omega
            | (apply Fits.i64 <;> omega)
            | (show l.length - (i + 1) < l.length - i; omega)
            | (rw [hr']; rfl)
            | trace_state
        · have hr' : rightB (l.getD ((i : Int)).toNat C_spn.d) (sgN s : Nat) = false := by rw [e1, hd]; exact hr
          repeat' (first | (with_reducible refine ⟨(l.getD ((i : Int)).toNat C_spn.d, _), ⟨(.cons (.agg (.cons (.v _) (.cons (.v _) (.cons (.v _) (.cons (.v _) .nil))))) (.cons (.v _) .nil)), ?_⟩, ?_⟩) | (with_reducible first | exact fun h => h | refine ExE.row (by with_unfolding_all rfl) ?_ | refine And.intro ?_ ?_) | ((with_reducible intro hq); first | exact bne1 hq (by with_reducible assumption) | exact bne1 (by with_reducible assumption) hq | ((simp only [*, BB, cond_true, cond_false, reduceCtorEq] at hq); done) | (revert hq; with_reducible intro _)) | (with_reducible first | exact True.intro | rfl | refine EntLe.row ?_ | exact LeN.ro rfl | exact LeN.rptr | assumption) | ((with_reducible first | refine WkX.chk ?_ | refine Wk.chk ?_ | refine LeL.chk ?_ | refine LeF.chk ?_ | refine Run.mk ?_); (conv => whnf)) | ((with_reducible show LeO _ _); first | refine LeO.ro ?_ | refine LeO.roCap ?_ | refine LeO.nil ?_ (fun _ => rfl)) | ((with_reducible show LeR _ _ _); first | refine LeR.own rfl rfl rfl ?_ | refine LeR.view rfl rfl rfl ?_ ?_ | refine LeR.ro ?_ | refine LeR.roCap ?_ | refine LeR.nil ?_ (fun _ => rfl)) | ((with_reducible first | show drawOK _ _ = true | show lateOK _ _ = true | show drawOK2 _ _ = true | show drawOK3 _ _ = true); kernel_rfl))
          all_goals first
            | omega
            | exact hz.out i hil (.inl hr)
            | trace_state
      have hlt : decide ((i : Int) < (l.length : Int)) = false := decide_eq_false (by omega)
      have hii : i = l.length := by omega
      subst hii
      repeat' (first | (with_reducible first | exact fun h => h | refine ExE.row (by with_unfolding_all rfl) ?_ | refine And.intro ?_ ?_) | ((with_reducible intro hq); first | exact bne1 hq (by with_reducible assumption) | exact bne1 (by with_reducible assumption) hq | ((simp only [*, BB, cond_true, cond_false, reduceCtorEq] at hq); done) | (revert hq; with_reducible intro _)) | (with_reducible first | exact True.intro | rfl | refine EntLe.row ?_ | exact LeN.ro rfl | exact LeN.rptr | assumption) | ((with_reducible first | refine WkX.chk ?_ | refine Wk.chk ?_ | refine LeL.chk ?_ | refine LeF.chk ?_ | refine Run.mk ?_); (conv => whnf)) | ((with_reducible show LeO _ _); first | refine LeO.ro ?_ | refine LeO.roCap ?_ | refine LeO.nil ?_ (fun _ => rfl)) | ((with_reducible show LeR _ _ _); first | refine LeR.own rfl rfl rfl ?_ | refine LeR.view rfl rfl rfl ?_ ?_ | refine LeR.ro ?_ | refine LeR.roCap ?_ | refine LeR.nil ?_ (fun _ => rfl)) | ((with_reducible first | show drawOK _ _ = true | show lateOK _ _ = true | show drawOK2 _ _ = true | show drawOK3 _ _ = true); kernel_rfl))
      refine loopI Nat [] (fun i => [(5, .v (.int .i64 (i : Nat)))]) (fun _ => []) (fun i => i ≤ l.length ∧ okTo l (sgN s : Nat) i = true) (fun i => l.length - i) 0 ⟨Nat.zero_le _, rfl⟩ (Wk.chk ?_) fun i hi => ?_
      · ((conv => whnf); repeat' (first | (with_reducible first | exact fun h => h | refine ExE.row (by with_unfolding_all rfl) ?_ | refine And.intro ?_ ?_) | ((with_reducible intro hq); first | exact bne1 hq (by with_reducible assumption) | exact bne1 (by with_reducible assumption) hq | ((simp only [*, BB, cond_true, cond_false, reduceCtorEq] at hq); done) | (revert hq; with_reducible intro _)) | (with_reducible first | exact True.intro | rfl | refine EntLe.row ?_ | exact LeN.ro rfl | exact LeN.rptr | assumption) | ((with_reducible first | refine WkX.chk ?_ | refine Wk.chk ?_ | refine LeL.chk ?_ | refine LeF.chk ?_ | refine Run.mk ?_); (conv => whnf)) | ((with_reducible show LeO _ _); first | refine LeO.ro ?_ | refine LeO.roCap ?_ | refine LeO.nil ?_ (fun _ => rfl)) | ((with_reducible show LeR _ _ _); first | refine LeR.own rfl rfl rfl ?_ | refine LeR.view rfl rfl rfl ?_ ?_ | refine LeR.ro ?_ | refine LeR.roCap ?_ | refine LeR.nil ?_ (fun _ => rfl)) | ((with_reducible first | show drawOK _ _ = true | show lateOK _ _ = true | show drawOK2 _ _ = true | show drawOK3 _ _ = true); kernel_rfl)))
        all_goals rfl
      obtain ⟨hj1, hj2⟩ := hi
      have e1 : ((i : Int)).toNat = i := Int.toNat_natCast _
      by_cases hil : i < l.length
      · have hlt : decide ((i : Int) < (l.length : Int)) = true := decide_eq_true (by omega)
        repeat' (first | (with_reducible first | exact fun h => h | refine ExE.row (by with_unfolding_all rfl) ?_ | refine And.intro ?_ ?_) | ((with_reducible intro hq); first | exact bne1 hq (by with_reducible assumption) | exact bne1 (by with_reducible assumption) hq | ((simp only [*, BB, cond_true, cond_false, reduceCtorEq] at hq); done) | (revert hq; with_reducible intro _)) | (with_reducible first | exact True.intro | rfl | refine EntLe.row ?_ | exact LeN.ro rfl | exact LeN.rptr | assumption) | ((with_reducible first | refine WkX.chk ?_ | refine Wk.chk ?_ | refine LeL.chk ?_ | refine LeF.chk ?_ | refine Run.mk ?_); (conv => whnf)) | ((with_reducible show LeO _ _); first | refine LeO.ro ?_ | refine LeO.roCap ?_ | refine LeO.nil ?_ (fun _ => rfl)) | ((with_reducible show LeR _ _ _); first | refine LeR.own rfl rfl rfl ?_ | refine LeR.view rfl rfl rfl ?_ ?_ | refine LeR.ro ?_ | refine LeR.roCap ?_ | refine LeR.nil ?_ (fun _ => rfl)) | ((with_reducible first | show drawOK _ _ = true | show lateOK _ _ = true | show drawOK2 _ _ = true | show drawOK3 _ _ = true); kernel_rfl))
        refine loopI Nat [] (fun j => [(6, .v (.int .i64 (j : Nat)))]) (fun _ => []) (fun j => j ≤ i ∧ aloneTo l (l.getD i zS) j = true) (fun j => i - j) 0 ⟨Nat.zero_le _, by unfold aloneTo; simp⟩ (Wk.chk ?_) fun j hj => ?_
        · ((conv => whnf); repeat' (first | (with_reducible first | exact fun h => h | refine ExE.row (by with_unfolding_all rfl) ?_ | refine And.intro ?_ ?_) | ((with_reducible intro hq); first | exact bne1 hq (by with_reducible assumption) | exact bne1 (by with_reducible assumption) hq | ((simp only [*, BB, cond_true, cond_false, reduceCtorEq] at hq); done) | (revert hq; with_reducible intro _)) | (with_reducible first | exact True.intro | rfl | refine EntLe.row ?_ | exact LeN.ro rfl | exact LeN.rptr | assumption) | ((with_reducible first | refine WkX.chk ?_ | refine Wk.chk ?_ | refine LeL.chk ?_ | refine LeF.chk ?_ | refine Run.mk ?_); (conv => whnf)) | ((with_reducible show LeO _ _); first | refine LeO.ro ?_ | refine LeO.roCap ?_ | refine LeO.nil ?_ (fun _ => rfl)) | ((with_reducible show LeR _ _ _); first | refine LeR.own rfl rfl rfl ?_ | refine LeR.view rfl rfl rfl ?_ ?_ | refine LeR.ro ?_ | refine LeR.roCap ?_ | refine LeR.nil ?_ (fun _ => rfl)) | ((with_reducible first | show drawOK _ _ = true | show lateOK _ _ = true | show drawOK2 _ _ = true | show drawOK3 _ _ = true); kernel_rfl)))
          all_goals rfl
        obtain ⟨hk1, hk2⟩ := hj
        have e2 : ((j : Int)).toNat = j := Int.toNat_natCast _
        by_cases hji : j < i
        · have hlt : decide ((j : Int) < (i : Int)) = true := decide_eq_true (by omega)
          have hsucc := aloneTo_succ (l := l) (x := l.getD i zS) (k := j) (by omega)
          have hcc := Bool.eq_false_or_eq_true (crossB (l.getD i zS) (l.getD j zS))
          rcases hcc with hc | hc
          · have hc' : crossB (l.getD ((i : Int)).toNat C_spn.d) (l.getD ((j : Int)).toNat C_spn.d) = true := by rw [e1, e2, hd]; exact hc
            have hb : aloneTo l (l.getD i zS) i = false := aloneTo_false (i := j + 1) (by omega) (by rw [hsucc, hc]; simp)
            repeat' (first | (with_reducible refine ⟨(l.getD ((i : Int)).toNat C_spn.d, l.getD ((j : Int)).toNat C_spn.d), ⟨(.cons (.agg (.cons (.v _) (.cons (.v _) (.cons (.v _) (.cons (.v _) .nil))))) (.cons (.agg (.cons (.v _) (.cons (.v _) (.cons (.v _) (.cons (.v _) .nil))))) .nil)), ?_⟩, ?_⟩) | (with_reducible first | exact fun h => h | refine ExE.row (by with_unfolding_all rfl) ?_ | refine And.intro ?_ ?_) | ((with_reducible intro hq); first | exact bne1 hq (by with_reducible assumption) | exact bne1 (by with_reducible assumption) hq | ((simp only [*, BB, cond_true, cond_false, reduceCtorEq] at hq); done) | (revert hq; with_reducible intro _)) | (with_reducible first | exact True.intro | rfl | refine EntLe.row ?_ | exact LeN.ro rfl | exact LeN.rptr | assumption) | ((with_reducible first | refine WkX.chk ?_ | refine Wk.chk ?_ | refine LeL.chk ?_ | refine LeF.chk ?_ | refine Run.mk ?_); (conv => whnf)) | ((with_reducible show LeO _ _); first | refine LeO.ro ?_ | refine LeO.roCap ?_ | refine LeO.nil ?_ (fun _ => rfl)) | ((with_reducible show LeR _ _ _); first | refine LeR.own rfl rfl rfl ?_ | refine LeR.view rfl rfl rfl ?_ ?_ | refine LeR.ro ?_ | refine LeR.roCap ?_ | refine LeR.nil ?_ (fun _ => rfl)) | ((with_reducible first | show drawOK _ _ = true | show lateOK _ _ = true | show drawOK2 _ _ = true | show drawOK3 _ _ = true); kernel_rfl))
            all_goals first
              | omega
              | exact hz.out i hil (.inr hb)
              | trace_state
          · have hc' : crossB (l.getD ((i : Int)).toNat C_spn.d) (l.getD ((j : Int)).toNat C_spn.d) = false := by rw [e1, e2, hd]; exact hc
            have hsucc : aloneTo l (l.getD i zS) (j + 1) = true := by rw [hsucc, hk2, hc]; rfl
            repeat' (first | (with_reducible refine ⟨(l.getD ((i : Int)).toNat C_spn.d, l.getD ((j : Int)).toNat C_spn.d), ⟨(.cons (.agg (.cons (.v _) (.cons (.v _) (.cons (.v _) (.cons (.v _) .nil))))) (.cons (.agg (.cons (.v _) (.cons (.v _) (.cons (.v _) (.cons (.v _) .nil))))) .nil)), ?_⟩, ?_⟩) | (with_reducible refine ex_of (α := Nat) (j + 1) ⟨⟨?_, hsucc⟩, ?_⟩ ?_) | (with_reducible first | exact fun h => h | refine ExE.row (by with_unfolding_all rfl) ?_ | refine And.intro ?_ ?_) | ((with_reducible intro hq); first | exact bne1 hq (by with_reducible assumption) | exact bne1 (by with_reducible assumption) hq | ((simp only [*, BB, cond_true, cond_false, reduceCtorEq] at hq); done) | (revert hq; with_reducible intro _)) | (with_reducible first | exact True.intro | rfl | refine EntLe.row ?_ | exact LeN.ro rfl | exact LeN.rptr | assumption) | ((with_reducible first | refine WkX.chk ?_ | refine Wk.chk ?_ | refine LeL.chk ?_ | refine LeF.chk ?_ | refine Run.mk ?_); (conv => whnf)) | ((with_reducible show LeO _ _); first | refine LeO.ro ?_ | refine LeO.roCap ?_ | refine LeO.nil ?_ (fun _ => rfl)) | ((with_reducible show LeR _ _ _); first | refine LeR.own rfl rfl rfl ?_ | refine LeR.view rfl rfl rfl ?_ ?_ | refine LeR.ro ?_ | refine LeR.roCap ?_ | refine LeR.nil ?_ (fun _ => rfl)) | ((with_reducible first | show drawOK _ _ = true | show lateOK _ _ = true | show drawOK2 _ _ = true | show drawOK3 _ _ = true); kernel_rfl))
            all_goals first
              | omega
              | (apply Fits.i64 <;> omega)
              | (show i - (j + 1) < i - j; omega)
              | trace_state
        have hlt : decide ((j : Int) < (i : Int)) = false := decide_eq_false (by omega)
        have hji : j = i := by omega
        subst hji
        have hok : okTo l (sgN s : Nat) (j + 1) = true := by rw [okTo, hj2, hi2 j hil, hk2]; rfl
        repeat' (first | (with_reducible refine ex_of (α := Nat) (j + 1) ⟨⟨?_, hok⟩, ?_⟩ ?_) | (with_reducible first | exact fun h => h | refine ExE.row (by with_unfolding_all rfl) ?_ | refine And.intro ?_ ?_) | ((with_reducible intro hq); first | exact bne1 hq (by with_reducible assumption) | exact bne1 (by with_reducible assumption) hq | ((simp only [*, BB, cond_true, cond_false, reduceCtorEq] at hq); done) | (revert hq; with_reducible intro _)) | (with_reducible first | exact True.intro | rfl | refine EntLe.row ?_ | exact LeN.ro rfl | exact LeN.rptr | assumption) | ((with_reducible first | refine WkX.chk ?_ | refine Wk.chk ?_ | refine LeL.chk ?_ | refine LeF.chk ?_ | refine Run.mk ?_); (conv => whnf)) | ((with_reducible show LeO _ _); first | refine LeO.ro ?_ | refine LeO.roCap ?_ | refine LeO.nil ?_ (fun _ => rfl)) | ((with_reducible show LeR _ _ _); first | refine LeR.own rfl rfl rfl ?_ | refine LeR.view rfl rfl rfl ?_ ?_ | refine LeR.ro ?_ | refine LeR.roCap ?_ | refine LeR.nil ?_ (fun _ => rfl)) | ((with_reducible first | show drawOK _ _ = true | show lateOK _ _ = true | show drawOK2 _ _ = true | show drawOK3 _ _ = true); kernel_rfl))
        all_goals first
          | omega
          | (apply Fits.i64 <;> omega)
          | (show l.length - (j + 1) < l.length - j; omega)
          | trace_state
      have hlt : decide ((i : Int) < (l.length : Int)) = false := decide_eq_false (by omega)
      have hii : i = l.length := by omega
      subst hii
      repeat' (first | (with_reducible first | exact fun h => h | refine ExE.row (by with_unfolding_all rfl) ?_ | refine And.intro ?_ ?_) | ((with_reducible intro hq); first | exact bne1 hq (by with_reducible assumption) | exact bne1 (by with_reducible assumption) hq | ((simp only [*, BB, cond_true, cond_false, reduceCtorEq] at hq); done) | (revert hq; with_reducible intro _)) | (with_reducible first | exact True.intro | rfl | refine EntLe.row ?_ | exact LeN.ro rfl | exact LeN.rptr | assumption) | ((with_reducible first | refine WkX.chk ?_ | refine Wk.chk ?_ | refine LeL.chk ?_ | refine LeF.chk ?_ | refine Run.mk ?_); (conv => whnf)) | ((with_reducible show LeO _ _); first | refine LeO.ro ?_ | refine LeO.roCap ?_ | refine LeO.nil ?_ (fun _ => rfl)) | ((with_reducible show LeR _ _ _); first | refine LeR.own rfl rfl rfl ?_ | refine LeR.view rfl rfl rfl ?_ ?_ | refine LeR.ro ?_ | refine LeR.roCap ?_ | refine LeR.nil ?_ (fun _ => rfl)) | ((with_reducible first | show drawOK _ _ = true | show lateOK _ _ = true | show drawOK2 _ _ = true | show drawOK3 _ _ = true); kernel_rfl))
      all_goals first
        | exact hz2.out hj2
        | trace_state
    · have k2 : decide ((256 : Int) < (l.length : Int)) = true := decide_eq_true (by omega)
      repeat' (first | (with_reducible first | exact fun h => h | refine ExE.row (by with_unfolding_all rfl) ?_ | refine And.intro ?_ ?_) | ((with_reducible intro hq); first | exact bne1 hq (by with_reducible assumption) | exact bne1 (by with_reducible assumption) hq | ((simp only [*, BB, cond_true, cond_false, reduceCtorEq] at hq); done) | (revert hq; with_reducible intro _)) | (with_reducible first | exact True.intro | rfl | refine EntLe.row ?_ | exact LeN.ro rfl | exact LeN.rptr | assumption) | ((with_reducible first | refine WkX.chk ?_ | refine Wk.chk ?_ | refine LeL.chk ?_ | refine LeF.chk ?_ | refine Run.mk ?_); (conv => whnf)) | ((with_reducible show LeO _ _); first | refine LeO.ro ?_ | refine LeO.roCap ?_ | refine LeO.nil ?_ (fun _ => rfl)) | ((with_reducible show LeR _ _ _); first | refine LeR.own rfl rfl rfl ?_ | refine LeR.view rfl rfl rfl ?_ ?_ | refine LeR.ro ?_ | refine LeR.roCap ?_ | refine LeR.nil ?_ (fun _ => rfl)) | ((with_reducible first | show drawOK _ _ = true | show lateOK _ _ = true | show drawOK2 _ _ = true | show drawOK3 _ _ = true); kernel_rfl))
      all_goals first
        | (unfold chkN; rw [if_neg (by omega), if_pos (by omega)]; done)
        | trace_state
  · have k1 : decide ((4096 : Int) < (s.size : Int)) = true := decide_eq_true (by omega)
    repeat' (first | (with_reducible first | exact fun h => h | refine ExE.row (by with_unfolding_all rfl) ?_ | refine And.intro ?_ ?_) | ((with_reducible intro hq); first | exact bne1 hq (by with_reducible assumption) | exact bne1 (by with_reducible assumption) hq | ((simp only [*, BB, cond_true, cond_false, reduceCtorEq] at hq); done) | (revert hq; with_reducible intro _)) | (with_reducible first | exact True.intro | rfl | refine EntLe.row ?_ | exact LeN.ro rfl | exact LeN.rptr | assumption) | ((with_reducible first | refine WkX.chk ?_ | refine Wk.chk ?_ | refine LeL.chk ?_ | refine LeF.chk ?_ | refine Run.mk ?_); (conv => whnf)) | ((with_reducible show LeO _ _); first | refine LeO.ro ?_ | refine LeO.roCap ?_ | refine LeO.nil ?_ (fun _ => rfl)) | ((with_reducible show LeR _ _ _); first | refine LeR.own rfl rfl rfl ?_ | refine LeR.view rfl rfl rfl ?_ ?_ | refine LeR.ro ?_ | refine LeR.roCap ?_ | refine LeR.nil ?_ (fun _ => rfl)) | ((with_reducible first | show drawOK _ _ = true | show lateOK _ _ = true | show drawOK2 _ _ = true | show drawOK3 _ _ = true); kernel_rfl))
    all_goals first
      | (unfold chkN; rw [if_pos (by omega)]; done)
      | trace_state
/-- A text without spans, and whether it is too long. -/
def plainN (s : ByteArray) : Int := if 4096 < s.size then 3 else 0
def plainT (s : ByteArray) : ByteArray := if 4096 < s.size then ByteArray.empty else s
abbrev txO (s : ByteArray) (l : List Spn) : AV := .agg [.v (.string s), spO l]
theorem con_splain : Con prog 22 (fun s : ByteArray => [.v (.string s)]) (fun s => .tup [txO (plainT s) [], .v (.int .i64 (plainN s))]) (fun _ => True) := by
  refine Con.of (by kernel_rfl) T_ok CdsOK.nil .nil 3 [] q_splain.1 q_splain.2.1 q_splain.2.2 (fun _ => rfl) fun s _ => ?_
  repeat' (first | (with_reducible first | exact fun h => h | refine ExE.row (by with_unfolding_all rfl) ?_ | refine And.intro ?_ ?_) | ((with_reducible intro hq); first | exact bne1 hq (by with_reducible assumption) | exact bne1 (by with_reducible assumption) hq | ((simp only [*, BB, cond_true, cond_false, reduceCtorEq] at hq); done) | (revert hq; with_reducible intro _)) | (with_reducible first | exact True.intro | rfl | refine EntLe.row ?_ | exact LeN.ro rfl | exact LeN.rptr | assumption) | ((with_reducible first | refine WkX.chk ?_ | refine Wk.chk ?_ | refine LeL.chk ?_ | refine LeF.chk ?_ | refine Run.mk ?_); (conv => whnf)) | ((with_reducible show LeO _ _); first | refine LeO.ro ?_ | refine LeO.roCap ?_ | refine LeO.nil ?_ (fun _ => rfl)) | ((with_reducible show LeR _ _ _); first | refine LeR.own rfl rfl rfl ?_ | refine LeR.view rfl rfl rfl ?_ ?_ | refine LeR.ro ?_ | refine LeR.roCap ?_ | refine LeR.nil ?_ (fun _ => rfl)) | ((with_reducible first | show drawOK _ _ = true | show lateOK _ _ = true | show drawOK2 _ _ = true | show drawOK3 _ _ = true); kernel_rfl))
  all_goals (simp only [decide_eq_true_eq, decide_eq_false_iff_not] at *)
  all_goals first
    | (unfold plainT; rw [if_pos (by omega)]; rfl)
    | (unfold plainT; rw [if_neg (by omega)]; done)
    | (unfold plainN; rw [if_pos (by omega)]; done)
    | (unfold plainN; rw [if_neg (by omega)]; done)
    | trace_state
theorem con_rplain : Con prog 23 (fun s : ByteArray => [.v (.string s)]) (fun s => .tup [txO (plainT s) [], .v (.int .i64 (plainN s))]) (fun _ => True) := by
  refine Con.of (by kernel_rfl) T_ok CdsOK.nil .nil 3 [] q_rplain.1 q_rplain.2.1 q_rplain.2.2 (fun _ => rfl) fun s _ => ?_
  repeat' (first | (with_reducible first | exact fun h => h | refine ExE.row (by with_unfolding_all rfl) ?_ | refine And.intro ?_ ?_) | ((with_reducible intro hq); first | exact bne1 hq (by with_reducible assumption) | exact bne1 (by with_reducible assumption) hq | ((simp only [*, BB, cond_true, cond_false, reduceCtorEq] at hq); done) | (revert hq; with_reducible intro _)) | (with_reducible first | exact True.intro | rfl | refine EntLe.row ?_ | exact LeN.ro rfl | exact LeN.rptr | assumption) | ((with_reducible first | refine WkX.chk ?_ | refine Wk.chk ?_ | refine LeL.chk ?_ | refine LeF.chk ?_ | refine Run.mk ?_); (conv => whnf)) | ((with_reducible show LeO _ _); first | refine LeO.ro ?_ | refine LeO.roCap ?_ | refine LeO.nil ?_ (fun _ => rfl)) | ((with_reducible show LeR _ _ _); first | refine LeR.own rfl rfl rfl ?_ | refine LeR.view rfl rfl rfl ?_ ?_ | refine LeR.ro ?_ | refine LeR.roCap ?_ | refine LeR.nil ?_ (fun _ => rfl)) | ((with_reducible first | show drawOK _ _ = true | show lateOK _ _ = true | show drawOK2 _ _ = true | show drawOK3 _ _ = true); kernel_rfl))
  all_goals (simp only [decide_eq_true_eq, decide_eq_false_iff_not] at *)
  all_goals first
    | (unfold plainT; rw [if_pos (by omega)]; rfl)
    | (unfold plainT; rw [if_neg (by omega)]; done)
    | (unfold plainN; rw [if_pos (by omega)]; done)
    | (unfold plainN; rw [if_neg (by omega)]; done)
    | trace_state
end Go.SX.Try
/- Contract of style.looks. -/
namespace Go.SX.Try
open Go.Proofs Go.Proofs.Try Go.SX.Plain
set_option maxRecDepth 100000
set_option maxHeartbeats 0
set_option linter.unusedSimpArgs false
theorem q_sset : fact 83 f83 := ⟨by kernel_rfl, rfl, by kernel_rfl⟩
theorem q_slooks : fact 72 f72 := ⟨by kernel_rfl, rfl, by kernel_rfl⟩
abbrev atAV (x : Atr) : List AV := [.sb x.bold, .sb x.italic, .sb x.under, .sb x.strike, .v (.int .i64 x.colour)]
def C_att : Cdc Atr where
  size := 5
  enc := atAV
  dec l := match l with
    | [a, b, c, d, .v (.int _ e)] => ⟨bOf a, bOf b, bOf c, bOf d, e⟩
    | _ => zA
  d := zA
def D_att : Cds := [(45, ⟨Atr, C_att⟩)]
theorem D_att_ok : CdsOK T D_att := .cons ⟨fun _ => rfl, by decide, _, rfl, rfl, by decide⟩ .nil
abbrev lkO (l : List Atr) : AV := .ro 5 C_att.enc C_att.d l none
abbrev lkR (l : List Atr) : AV := .ro 5 C_att.enc C_att.d l none true
structure OkT (s : ByteArray) (l : List Spn) : Prop where
  size : s.size ≤ 4096
  len : l.length ≤ 256
  spans : spansB l (sgN s : Nat) = true
theorem OkT.of {s : ByteArray} {l : List Spn} (h : chkN s.size l (sgN s : Nat) = 0) : OkT s l := by
  unfold chkN at h
  split at h
  · cases h
  · split at h
    · cases h
    · split at h
      · rename_i h1 h2 h3
        exact ⟨by omega, by omega, h3⟩
      · cases h
theorem OkT.eq {s : ByteArray} {l : List Spn} (h : OkT s l) : chkN s.size l (sgN s : Nat) = 0 := by
  obtain ⟨h1, h2, h3⟩ := h
  unfold chkN
  rw [if_neg (by omega), if_neg (by omega), if_pos h3]
theorem setA_1 {x : Spn} (h : (x.kind == 1) = true) (y : Atr) : (⟨true, y.italic, y.under, y.strike, y.colour⟩ : Atr) = setA y x := by
  rw [beq_iff_eq] at h
  unfold setA
  rw [if_pos h]
theorem setA_2 {x : Spn} (h : (x.kind == 2) = true) (y : Atr) : (⟨y.bold, true, y.under, y.strike, y.colour⟩ : Atr) = setA y x := by
  rw [beq_iff_eq] at h
  unfold setA
  rw [if_neg (by omega), if_pos h]
theorem setA_3 {x : Spn} (h : (x.kind == 3) = true) (y : Atr) : (⟨y.bold, y.italic, true, y.strike, y.colour⟩ : Atr) = setA y x := by
  rw [beq_iff_eq] at h
  unfold setA
  rw [if_neg (by omega), if_neg (by omega), if_pos h]
theorem setA_4 {x : Spn} (h : (x.kind == 4) = true) (y : Atr) : (⟨y.bold, y.italic, y.under, true, y.colour⟩ : Atr) = setA y x := by
  rw [beq_iff_eq] at h
  unfold setA
  rw [if_neg (by omega), if_neg (by omega), if_neg (by omega), if_pos h]
theorem setA_5 {x : Spn} (h1 : (x.kind == 1) = false) (h2 : (x.kind == 2) = false) (h3 : (x.kind == 3) = false) (h4 : (x.kind == 4) = false) (y : Atr) : (⟨y.bold, y.italic, y.under, y.strike, x.val + 1⟩ : Atr) = setA y x := by
  rw [beq_eq_false_iff_ne] at h1 h2 h3 h4
  unfold setA
  rw [if_neg h1, if_neg h2, if_neg h3, if_neg h4]
theorem isort_right {l : List Spn} {n : Int} (h : spansB l n = true) {i : Nat} (hi : i < (isort ltO l).length) : rightB ((isort ltO l).getD i zS) n = true := by
  have hm : (isort ltO l).getD i zS ∈ isort ltO l := by
    simp [List.getD_eq_getElem?_getD, hi]
  rcases mem_mrg.1 hm with h1 | h1
  · cases h1
  · exact spans_right h h1
theorem con_slooks : Con prog 72 (fun ((s, l) : ByteArray × List Spn) => [txAV s l]) (fun (s, l) => lkO (looksL (sgN s) l)) (fun (s, l) => OkT s l) := by
  refine Con.of (by kernel_rfl) T_ok D_att_ok (.con con_ucount (.con con_souter (.inl (J := []) q_sset.1 q_sset.2.1 q_sset.2.2 .nil))) 5 [] q_slooks.1 q_slooks.2.1 q_slooks.2.2 (fun _ => rfl) fun i hi => ?_
  obtain ⟨s, l⟩ := i
  obtain ⟨hs, hl, hsp⟩ : OkT s l := hi
  have hn := sgN_le s
  have hd : C_spn.d = zS := rfl
  have hda : C_att.d = zA := rfl
  have hin := (spans_in hsp).isort
  have hLl : (isort ltO l).length = l.length := isort_len l
  repeat' (first | (with_reducible refine ⟨_, ⟨(.cons (.v _) .nil), ?_⟩, ?_⟩) | (with_reducible refine ⟨(s, l), ⟨(.cons (.agg (.cons (.v _) (.cons (.lent _ _ _ _ _ _) .nil))) .nil), ?_⟩, ?_⟩) | (with_reducible first | exact fun h => h | refine ExE.row (by with_unfolding_all rfl) ?_ | refine And.intro ?_ ?_) | ((with_reducible intro hq); first | exact bne1 hq (by with_reducible assumption) | exact bne1 (by with_reducible assumption) hq | ((simp only [*, BB, cond_true, cond_false, reduceCtorEq] at hq); done) | (revert hq; with_reducible intro _)) | (with_reducible first | exact True.intro | rfl | refine EntLe.row ?_ | exact LeN.ro rfl | exact LeN.rptr | assumption) | ((with_reducible first | refine WkX.chk ?_ | refine Wk.chk ?_ | refine LeL.chk ?_ | refine LeF.chk ?_ | refine Run.mk ?_); (conv => whnf)) | ((with_reducible show LeO _ _); first | refine LeO.ro ?_ | refine LeO.roCap ?_ | refine LeO.nil ?_ (fun _ => rfl)) | ((with_reducible show LeR _ _ _); first | refine LeR.own rfl rfl rfl ?_ | refine LeR.view rfl rfl rfl ?_ ?_ | refine LeR.ro ?_ | refine LeR.roCap ?_ | refine LeR.nil ?_ (fun _ => rfl)) | ((with_reducible first | show drawOK _ _ = true | show lateOK _ _ = true | show drawOK2 _ _ = true | show drawOK3 _ _ = true); kernel_rfl))
  all_goals first
    | rfl
    | omega
    | (dsimp only; omega)
    | (show l.length ≤ 1000000; omega)
    | skip
  refine loopI Nat [] (fun i => [(14, .v (.int .i64 (i : Nat)))]) (fun i => [(2, .row C_att (lookTo (sgN s) (isort ltO l) i) 45 none)]) (fun i => i ≤ (isort ltO l).length) (fun i => (isort ltO l).length - i) 0 (Nat.zero_le _) (Wk.chk ?_) fun i hi => ?_
  · ((conv => whnf); repeat' (first | (with_reducible first | exact fun h => h | refine ExE.row (by with_unfolding_all rfl) ?_ | refine And.intro ?_ ?_) | ((with_reducible intro hq); first | exact bne1 hq (by with_reducible assumption) | exact bne1 (by with_reducible assumption) hq | ((simp only [*, BB, cond_true, cond_false, reduceCtorEq] at hq); done) | (revert hq; with_reducible intro _)) | (with_reducible first | exact True.intro | rfl | refine EntLe.row ?_ | exact LeN.ro rfl | exact LeN.rptr | assumption) | ((with_reducible first | refine WkX.chk ?_ | refine Wk.chk ?_ | refine LeL.chk ?_ | refine LeF.chk ?_ | refine Run.mk ?_); (conv => whnf)) | ((with_reducible show LeO _ _); first | refine LeO.ro ?_ | refine LeO.roCap ?_ | refine LeO.nil ?_ (fun _ => rfl)) | ((with_reducible show LeR _ _ _); first | refine LeR.own rfl rfl rfl ?_ | refine LeR.view rfl rfl rfl ?_ ?_ | refine LeR.ro ?_ | refine LeR.roCap ?_ | refine LeR.nil ?_ (fun _ => rfl)) | ((with_reducible first | show drawOK _ _ = true | show lateOK _ _ = true | show drawOK2 _ _ = true | show drawOK3 _ _ = true); kernel_rfl)))
    all_goals first
      | rfl
      | exact EntLe.row rfl
      | trace_state
  have hi : i ≤ (isort ltO l).length := hi
  have e1 : ((i : Int)).toNat = i := Int.toNat_natCast _
  by_cases hil : i < (isort ltO l).length
  · have hlt : decide ((i : Int) < ((isort ltO l).length : Int)) = true := decide_eq_true (by omega)
    have hxb := hin.at hil
    have hxr := right_bd (isort_right hsp hil)
    have hll := lookTo_len hin i hi
    have hsc := lookTo_succ (sgN s) (isort ltO l) hil
    obtain ⟨x, hx⟩ : ∃ x, x = (isort ltO l).getD i zS := ⟨_, rfl⟩
    rw [← hx] at hxb hsc hxr
    have hxx : (isort ltO l).getD ((i : Int)).toNat C_spn.d = x := by rw [e1, hd, hx]
    obtain ⟨P, hP⟩ : ∃ P, P = lookTo (sgN s) (isort ltO l) i := ⟨_, rfl⟩
    rw [← hP] at hll hsc
    obtain ⟨a, ha⟩ := Int.eq_ofNat_of_zero_le hxb.1
    obtain ⟨b, hb⟩ := Int.eq_ofNat_of_zero_le (show 0 ≤ x.to by omega)
    have hab : a < b ∧ b ≤ sgN s := by omega
    have hpnt : pnt P x = pntTo P x a b := by unfold pnt; rw [ha, hb]; rfl
    repeat' (first | (with_reducible first | exact fun h => h | refine ExE.row (by with_unfolding_all rfl) ?_ | refine And.intro ?_ ?_) | ((with_reducible intro hq); first | exact bne1 hq (by with_reducible assumption) | exact bne1 (by with_reducible assumption) hq | ((simp only [*, BB, cond_true, cond_false, reduceCtorEq] at hq); done) | (revert hq; with_reducible intro _)) | (with_reducible first | exact True.intro | rfl | refine EntLe.row ?_ | exact LeN.ro rfl | exact LeN.rptr | assumption) | ((with_reducible first | refine WkX.chk ?_ | refine Wk.chk ?_ | refine LeL.chk ?_ | refine LeF.chk ?_ | refine Run.mk ?_); (conv => whnf)) | ((with_reducible show LeO _ _); first | refine LeO.ro ?_ | refine LeO.roCap ?_ | refine LeO.nil ?_ (fun _ => rfl)) | ((with_reducible show LeR _ _ _); first | refine LeR.own rfl rfl rfl ?_ | refine LeR.view rfl rfl rfl ?_ ?_ | refine LeR.ro ?_ | refine LeR.roCap ?_ | refine LeR.nil ?_ (fun _ => rfl)) | ((with_reducible first | show drawOK _ _ = true | show lateOK _ _ = true | show drawOK2 _ _ = true | show drawOK3 _ _ = true); kernel_rfl))
    any_goals omega
    refine loopI Nat [] (fun k => [(6, .v (.int .i64 (k : Nat)))]) (fun k => [(2, .row C_att (pntTo P x a k) 45 none)]) (fun k => a ≤ k ∧ k ≤ b) (fun k => b - k) a ⟨Nat.le_refl _, by omega⟩ (Wk.chk ?_) fun k hk => ?_
    · ((conv => whnf); repeat' (first | (with_reducible first | exact fun h => h | refine ExE.row (by with_unfolding_all rfl) ?_ | refine And.intro ?_ ?_) | ((with_reducible intro hq); first | exact bne1 hq (by with_reducible assumption) | exact bne1 (by with_reducible assumption) hq | ((simp only [*, BB, cond_true, cond_false, reduceCtorEq] at hq); done) | (revert hq; with_reducible intro _)) | (with_reducible first | exact True.intro | rfl | refine EntLe.row ?_ | exact LeN.ro rfl | exact LeN.rptr | assumption) | ((with_reducible first | refine WkX.chk ?_ | refine Wk.chk ?_ | refine LeL.chk ?_ | refine LeF.chk ?_ | refine Run.mk ?_); (conv => whnf)) | ((with_reducible show LeO _ _); first | refine LeO.ro ?_ | refine LeO.roCap ?_ | refine LeO.nil ?_ (fun _ => rfl)) | ((with_reducible show LeR _ _ _); first | refine LeR.own rfl rfl rfl ?_ | refine LeR.view rfl rfl rfl ?_ ?_ | refine LeR.ro ?_ | refine LeR.roCap ?_ | refine LeR.nil ?_ (fun _ => rfl)) | ((with_reducible first | show drawOK _ _ = true | show lateOK _ _ = true | show drawOK2 _ _ = true | show drawOK3 _ _ = true); kernel_rfl)))
      all_goals first
        | rfl
        | (rw [hxx, ha]; done)
        | (rw [hxx, ha]; rfl)
        | (rw [pnt_start, hP]; done)
        | trace_state
    obtain ⟨hk1, hk2⟩ := hk
    have e2 : ((k : Int)).toNat = k := Int.toNat_natCast _
    have hpl := pnt_len P x hk1 (by omega : k ≤ P.length)
    by_cases hkb : k < b
    · have hlt : decide ((k : Int) < ((isort ltO l).getD ((i : Int)).toNat C_spn.d).to) = true := decide_eq_true (by rw [hxx]; omega)
      have hst := pnt_step P x hk1 (by omega : k < P.length)
      have hat := pnt_at P x hk1 (by omega : k < P.length)
      rw [← hat] at hst
      repeat' (first | (with_reducible refine ex_of (α := Nat) (k + 1) ⟨⟨?_, ?_⟩, ?_⟩ ?_) | (with_reducible first | exact fun h => h | refine ExE.row (by with_unfolding_all rfl) ?_ | refine And.intro ?_ ?_) | ((with_reducible intro hq); first | exact bne1 hq (by with_reducible assumption) | exact bne1 (by with_reducible assumption) hq | ((simp only [*, BB, cond_true, cond_false, reduceCtorEq] at hq); done) | (revert hq; with_reducible intro _)) | (with_reducible first | exact True.intro | rfl | refine EntLe.row ?_ | exact LeN.ro rfl | exact LeN.rptr | assumption) | ((with_reducible first | refine WkX.chk ?_ | refine Wk.chk ?_ | refine LeL.chk ?_ | refine LeF.chk ?_ | refine Run.mk ?_); (conv => whnf)) | ((with_reducible show LeO _ _); first | refine LeO.ro ?_ | refine LeO.roCap ?_ | refine LeO.nil ?_ (fun _ => rfl)) | ((with_reducible show LeR _ _ _); first | refine LeR.own rfl rfl rfl ?_ | refine LeR.view rfl rfl rfl ?_ ?_ | refine LeR.ro ?_ | refine LeR.roCap ?_ | refine LeR.nil ?_ (fun _ => rfl)) | ((with_reducible first | show drawOK _ _ = true | show lateOK _ _ = true | show drawOK2 _ _ = true | show drawOK3 _ _ = true); kernel_rfl))
      all_goals (try simp only [hxx] at *)
      all_goals first
        | omega
        | rfl
        | (apply Fits.i64 <;> omega)
        | (show k < (pntTo P x a k).length; omega)
        | (show b - (k + 1) < b - k; omega)
        | (refine Eq.trans (congrArg ((pntTo P x a k).set k) ?_) hst; first | exact setA_1 (by assumption) _ | exact setA_2 (by assumption) _ | exact setA_3 (by assumption) _ | exact setA_4 (by assumption) _ | exact setA_5 (by assumption) (by assumption) (by assumption) (by assumption) _)
        | trace_state
    have hlt : decide ((k : Int) < ((isort ltO l).getD ((i : Int)).toNat C_spn.d).to) = false := decide_eq_false (by rw [hxx]; omega)
    have hkk : k = b := by omega
    subst hkk
    repeat' (first | (with_reducible refine ex_of (α := Nat) (i + 1) ⟨?_, ?_⟩ ?_) | (with_reducible first | exact fun h => h | refine ExE.row (by with_unfolding_all rfl) ?_ | refine And.intro ?_ ?_) | ((with_reducible intro hq); first | exact bne1 hq (by with_reducible assumption) | exact bne1 (by with_reducible assumption) hq | ((simp only [*, BB, cond_true, cond_false, reduceCtorEq] at hq); done) | (revert hq; with_reducible intro _)) | (with_reducible first | exact True.intro | rfl | refine EntLe.row ?_ | exact LeN.ro rfl | exact LeN.rptr | assumption) | ((with_reducible first | refine WkX.chk ?_ | refine Wk.chk ?_ | refine LeL.chk ?_ | refine LeF.chk ?_ | refine Run.mk ?_); (conv => whnf)) | ((with_reducible show LeO _ _); first | refine LeO.ro ?_ | refine LeO.roCap ?_ | refine LeO.nil ?_ (fun _ => rfl)) | ((with_reducible show LeR _ _ _); first | refine LeR.own rfl rfl rfl ?_ | refine LeR.view rfl rfl rfl ?_ ?_ | refine LeR.ro ?_ | refine LeR.roCap ?_ | refine LeR.nil ?_ (fun _ => rfl)) | ((with_reducible first | show drawOK _ _ = true | show lateOK _ _ = true | show drawOK2 _ _ = true | show drawOK3 _ _ = true); kernel_rfl))
    all_goals first
      | omega
      | (apply Fits.i64 <;> omega)
      | (show (isort ltO l).length - (i + 1) < (isort ltO l).length - i; omega)
      | (rw [hsc, hpnt]; done)
      | trace_state
  have hlt : decide ((i : Int) < ((isort ltO l).length : Int)) = false := decide_eq_false (by omega)
  have hii : i = (isort ltO l).length := by omega
  subst hii
  repeat' (first | (with_reducible first | exact fun h => h | refine ExE.row (by with_unfolding_all rfl) ?_ | refine And.intro ?_ ?_) | ((with_reducible intro hq); first | exact bne1 hq (by with_reducible assumption) | exact bne1 (by with_reducible assumption) hq | ((simp only [*, BB, cond_true, cond_false, reduceCtorEq] at hq); done) | (revert hq; with_reducible intro _)) | (with_reducible first | exact True.intro | rfl | refine EntLe.row ?_ | exact LeN.ro rfl | exact LeN.rptr | assumption) | ((with_reducible first | refine WkX.chk ?_ | refine Wk.chk ?_ | refine LeL.chk ?_ | refine LeF.chk ?_ | refine Run.mk ?_); (conv => whnf)) | ((with_reducible show LeO _ _); first | refine LeO.ro ?_ | refine LeO.roCap ?_ | refine LeO.nil ?_ (fun _ => rfl)) | ((with_reducible show LeR _ _ _); first | refine LeR.own rfl rfl rfl ?_ | refine LeR.view rfl rfl rfl ?_ ?_ | refine LeR.ro ?_ | refine LeR.roCap ?_ | refine LeR.nil ?_ (fun _ => rfl)) | ((with_reducible first | show drawOK _ _ = true | show lateOK _ _ = true | show drawOK2 _ _ = true | show drawOK3 _ _ = true); kernel_rfl))
  all_goals first
    | rfl
    | trace_state
end Go.SX.Try
/- Chapter 7, told plainly: runs. No program here. -/
namespace Go.SX.Plain
structure Rn where
  frm : Int
  to : Int
  at' : Atr
  deriving DecidableEq
abbrev zRn : Rn := ⟨0, 0, zA⟩
def rnNext (o : List Rn) (i : Nat) (a : Atr) : List Rn :=
  if 0 < o.length ∧ (o.getD (o.length - 1) zRn).at' = a then o.set (o.length - 1) ⟨(o.getD (o.length - 1) zRn).frm, (i : Int) + 1, (o.getD (o.length - 1) zRn).at'⟩ else o ++ [⟨i, (i : Int) + 1, a⟩]
/-- Runs of the first i signs. -/
def runsTo (l : List Atr) : Nat → List Rn
  | 0 => []
  | i + 1 => rnNext (runsTo l i) i (l.getD i zA)
def runsL (l : List Atr) : List Rn := runsTo l l.length
theorem runsTo_len (l : List Atr) : ∀ i, (runsTo l i).length ≤ i
  | 0 => Nat.le_refl _
  | i + 1 => by
    have := runsTo_len l i
    rw [runsTo, rnNext]
    split
    · rw [List.length_set]; omega
    · rw [List.length_append]; simp; omega
end Go.SX.Plain
namespace Go.SX.Plain
def atEqB (x y : Atr) : Bool := x.bold == y.bold && (x.italic == y.italic && (x.under == y.under && (x.strike == y.strike && x.colour == y.colour)))
theorem atEqB_eq (x y : Atr) : atEqB x y = decide (x = y) := by
  obtain ⟨a, b, c, d, e⟩ := x
  obtain ⟨a', b', c', d', e'⟩ := y
  rw [Bool.eq_iff_iff]
  simp only [atEqB, Bool.and_eq_true, beq_iff_eq, decide_eq_true_eq, Atr.mk.injEq]
theorem rn_same {l : List Atr} {i : Nat} (h : 0 < (runsTo l i).length) (he : ((runsTo l i).getD ((runsTo l i).length - 1) zRn).at' = l.getD i zA) :
    (runsTo l i).set ((runsTo l i).length - 1) ⟨((runsTo l i).getD ((runsTo l i).length - 1) zRn).frm, (i : Int) + 1, ((runsTo l i).getD ((runsTo l i).length - 1) zRn).at'⟩ = runsTo l (i + 1) := by
  rw [runsTo, rnNext, if_pos ⟨h, he⟩]
theorem rn_more {l : List Atr} {i : Nat} (he : ¬ (0 < (runsTo l i).length ∧ ((runsTo l i).getD ((runsTo l i).length - 1) zRn).at' = l.getD i zA)) :
    runsTo l i ++ [⟨i, (i : Int) + 1, l.getD i zA⟩] = runsTo l (i + 1) := by
  rw [runsTo, rnNext, if_neg he]
end Go.SX.Plain
namespace Go.SX.Plain
theorem refF_step (k : Nat) {l : List Spn} {i : Nat} (h : i < l.length) : refF k (l.take (i + 1)) = refS k (refF k (l.take i)) (l.getD i zS) := by
  unfold refF
  rw [← take_one l zS h, List.foldl_append]
  rfl
/-- Where the innermost colour so far stands. -/
def InAt (l : List Spn) (j : Int) (o : Option Spn) : Prop := (j = -1 ∧ o = none) ∨ (0 ≤ j ∧ j < l.length ∧ o = some (l.getD j.toNat zS))
theorem refS_out {k : Nat} {s : Atr × Option Spn} {x : Spn} (h : hasS k x = false) : refS k s x = s := by
  unfold refS
  rw [if_neg (by rw [h]; decide)]
theorem refS_kind {k : Nat} {s : Atr × Option Spn} {x : Spn} (h : hasS k x = true) (hc : colB x = false) : refS k s x = (setA s.1 x, s.2) := by
  unfold refS
  rw [if_pos h, if_neg (by rw [hc]; decide)]
theorem refS_col {k : Nat} {s : Atr × Option Spn} {x : Spn} (h : hasS k x = true) (hc : colB x = true) : refS k s x = colS s.1 s.2 x := by
  unfold refS
  rw [if_pos h, if_pos hc]
/-- A colour: it is laid on, or it is not. -/
theorem InAt.yes {l : List Spn} {j : Int} {a : Atr} {o : Option Spn} {x : Spn} (h : InAt l j o) (hw : j < 0 ∨ withinB x (l.getD j.toNat zS) = true) : colS a o x = (setA a x, some x) := by
  rcases h with ⟨_, rfl⟩ | ⟨h1, h2, rfl⟩
  · rfl
  · show (if _ then _ else _) = _
    rw [if_pos (by rcases hw with h | h
                   · omega
                   · exact h)]
theorem InAt.no {l : List Spn} {j : Int} {a : Atr} {o : Option Spn} {x : Spn} (h : InAt l j o) (h0 : ¬ j < 0) (hw : withinB x (l.getD j.toNat zS) = false) : colS a o x = (a, o) := by
  rcases h with ⟨h1, _⟩ | ⟨h1, h2, rfl⟩
  · omega
  · show (if _ then _ else _) = _
    rw [if_neg (by rw [hw]; decide)]
end Go.SX.Plain
/- Contracts of runs, of both; style.Runs. -/
namespace Go.SX.Try
open Go.Proofs Go.Proofs.Try Go.SX.Plain
set_option maxRecDepth 100000
set_option maxHeartbeats 0
set_option linter.unusedSimpArgs false
theorem q_sruns : fact 75 f75 := ⟨by kernel_rfl, rfl, by kernel_rfl⟩
theorem q_rruns : fact 76 f76 := ⟨by kernel_rfl, rfl, by kernel_rfl⟩
theorem q_sRuns : fact 33 f33 := ⟨by kernel_rfl, rfl, by kernel_rfl⟩
abbrev rnAV (x : Rn) : List AV := [.v (.int .i64 x.frm), .v (.int .i64 x.to), .sb x.at'.bold, .sb x.at'.italic, .sb x.at'.under, .sb x.at'.strike, .v (.int .i64 x.at'.colour)]
def C_rn : Cdc Rn where
  size := 7
  enc := rnAV
  dec l := match l with
    | [.v (.int _ f), .v (.int _ t), a, b, c, d, .v (.int _ e)] => ⟨f, t, ⟨bOf a, bOf b, bOf c, bOf d, e⟩⟩
    | _ => zRn
  d := zRn
def D_rn : Cds := [(76, ⟨Rn, C_rn⟩)]
theorem D_rn_ok : CdsOK T D_rn := .cons ⟨fun _ => rfl, by decide, _, rfl, rfl, by decide⟩ .nil
abbrev rnO (l : List Rn) : AV := .ro 7 C_rn.enc C_rn.d l none
abbrev rnR (l : List Rn) : AV := .ro 7 C_rn.enc C_rn.d l none true
theorem con_sruns : Con prog 75 (fun l : List Atr => [lkR l]) (fun l => rnO (runsL l)) (fun l => l.length ≤ 1000000) := by
  refine Con.of (by kernel_rfl) T_ok D_rn_ok .nil 5 [] q_sruns.1 q_sruns.2.1 q_sruns.2.2 (fun _ => rfl) fun l hl => ?_
  have hl : l.length ≤ 1000000 := hl
  have hd : C_rn.d = zRn := rfl
  have hda : C_att.d = zA := rfl
  repeat' (first | (with_reducible first | exact fun h => h | refine ExE.row (by with_unfolding_all rfl) ?_ | refine And.intro ?_ ?_) | ((with_reducible intro hq); first | exact bne1 hq (by with_reducible assumption) | exact bne1 (by with_reducible assumption) hq | ((simp only [*, BB, cond_true, cond_false, reduceCtorEq] at hq); done) | (revert hq; with_reducible intro _)) | (with_reducible first | exact True.intro | rfl | refine EntLe.row ?_ | exact LeN.ro rfl | exact LeN.rptr | assumption) | ((with_reducible first | refine WkX.chk ?_ | refine Wk.chk ?_ | refine LeL.chk ?_ | refine LeF.chk ?_ | refine Run.mk ?_); (conv => whnf)) | ((with_reducible show LeO _ _); first | refine LeO.ro ?_ | refine LeO.roCap ?_ | refine LeO.nil ?_ (fun _ => rfl)) | ((with_reducible show LeR _ _ _); first | refine LeR.own rfl rfl rfl ?_ | refine LeR.view rfl rfl rfl ?_ ?_ | refine LeR.ro ?_ | refine LeR.roCap ?_ | refine LeR.nil ?_ (fun _ => rfl)) | ((with_reducible first | show drawOK _ _ = true | show lateOK _ _ = true | show drawOK2 _ _ = true | show drawOK3 _ _ = true); kernel_rfl))
  refine loopI Nat [] (fun i => [(9, .v (.int .i64 (i : Nat))), (3, .own 1)]) (fun i => [(1, .row C_rn (runsTo l i) 76 none)]) (fun i => i ≤ l.length) (fun i => l.length - i) 0 (Nat.zero_le _) (Wk.chk ?_) fun i hi => ?_
  · ((conv => whnf); repeat' (first | (with_reducible first | exact fun h => h | refine ExE.row (by with_unfolding_all rfl) ?_ | refine And.intro ?_ ?_) | ((with_reducible intro hq); first | exact bne1 hq (by with_reducible assumption) | exact bne1 (by with_reducible assumption) hq | ((simp only [*, BB, cond_true, cond_false, reduceCtorEq] at hq); done) | (revert hq; with_reducible intro _)) | (with_reducible first | exact True.intro | rfl | refine EntLe.row ?_ | exact LeN.ro rfl | exact LeN.rptr | assumption) | ((with_reducible first | refine WkX.chk ?_ | refine Wk.chk ?_ | refine LeL.chk ?_ | refine LeF.chk ?_ | refine Run.mk ?_); (conv => whnf)) | ((with_reducible show LeO _ _); first | refine LeO.ro ?_ | refine LeO.roCap ?_ | refine LeO.nil ?_ (fun _ => rfl)) | ((with_reducible show LeR _ _ _); first | refine LeR.own rfl rfl rfl ?_ | refine LeR.view rfl rfl rfl ?_ ?_ | refine LeR.ro ?_ | refine LeR.roCap ?_ | refine LeR.nil ?_ (fun _ => rfl)) | ((with_reducible first | show drawOK _ _ = true | show lateOK _ _ = true | show drawOK2 _ _ = true | show drawOK3 _ _ = true); kernel_rfl)))
    all_goals rfl
  have hi : i ≤ l.length := hi
  have e1 : ((i : Int)).toNat = i := Int.toNat_natCast _
  have hrl := runsTo_len l i
  by_cases hil : i < l.length
  · have hlt : decide ((i : Int) < (l.length : Int)) = true := decide_eq_true (by omega)
    have e2 : (((runsTo l i).length : Int) - 1).toNat = (runsTo l i).length - 1 := by omega
    by_cases h0 : 0 < (runsTo l i).length
    · have k0 : decide ((0 : Int) < ((runsTo l i).length : Int)) = true := decide_eq_true (by omega)
      have kc : (decide ((0 : Int) < ((runsTo l i).length : Int)) && (((runsTo l i).getD (((runsTo l i).length : Int) - 1).toNat C_rn.d).at'.bold == (l.getD ((i : Int)).toNat C_att.d).bold && (((runsTo l i).getD (((runsTo l i).length : Int) - 1).toNat C_rn.d).at'.italic == (l.getD ((i : Int)).toNat C_att.d).italic && (((runsTo l i).getD (((runsTo l i).length : Int) - 1).toNat C_rn.d).at'.under == (l.getD ((i : Int)).toNat C_att.d).under && (((runsTo l i).getD (((runsTo l i).length : Int) - 1).toNat C_rn.d).at'.strike == (l.getD ((i : Int)).toNat C_att.d).strike && ((runsTo l i).getD (((runsTo l i).length : Int) - 1).toNat C_rn.d).at'.colour == (l.getD ((i : Int)).toNat C_att.d).colour))))) = decide (((runsTo l i).getD ((runsTo l i).length - 1) zRn).at' = l.getD i zA) := by
        rw [k0, e1, e2, hd, hda]
        exact atEqB_eq _ _
      by_cases he : ((runsTo l i).getD ((runsTo l i).length - 1) zRn).at' = l.getD i zA
      · rw [decide_eq_true he] at kc
        have hst := rn_same h0 he
        repeat' (first | (with_reducible refine ex_of (α := Nat) (i + 1) ⟨?_, ?_⟩ ?_) | (with_reducible first | exact fun h => h | refine ExE.row (by with_unfolding_all rfl) ?_ | refine And.intro ?_ ?_) | ((with_reducible intro hq); first | exact bne1 hq (by with_reducible assumption) | exact bne1 (by with_reducible assumption) hq | ((simp only [*, BB, cond_true, cond_false, reduceCtorEq] at hq); done) | (revert hq; with_reducible intro _)) | (with_reducible first | exact True.intro | rfl | refine EntLe.row ?_ | exact LeN.ro rfl | exact LeN.rptr | assumption) | ((with_reducible first | refine WkX.chk ?_ | refine Wk.chk ?_ | refine LeL.chk ?_ | refine LeF.chk ?_ | refine Run.mk ?_); (conv => whnf)) | ((with_reducible show LeO _ _); first | refine LeO.ro ?_ | refine LeO.roCap ?_ | refine LeO.nil ?_ (fun _ => rfl)) | ((with_reducible show LeR _ _ _); first | refine LeR.own rfl rfl rfl ?_ | refine LeR.view rfl rfl rfl ?_ ?_ | refine LeR.ro ?_ | refine LeR.roCap ?_ | refine LeR.nil ?_ (fun _ => rfl)) | ((with_reducible first | show drawOK _ _ = true | show lateOK _ _ = true | show drawOK2 _ _ = true | show drawOK3 _ _ = true); kernel_rfl))
        all_goals first
        | omega
        | rfl
        | (apply Fits.i64 <;> omega)
        | (show l.length - (i + 1) < l.length - i; omega)
        | exact hst
        | (refine Eq.trans ?_ hst; rfl)
        | (refine Eq.trans ?_ hst; rw [e2]; rfl)
        | (show ((runsTo l i).length + 1) * 32 ≤ 140737488355328; omega)
        | trace_state

      · rw [decide_eq_false he] at kc
        have hst := rn_more (l := l) (i := i) (fun h => he h.2)
        repeat' (first | (with_reducible refine ex_of (α := Nat) (i + 1) ⟨?_, ?_⟩ ?_) | (with_reducible first | exact fun h => h | refine ExE.row (by with_unfolding_all rfl) ?_ | refine And.intro ?_ ?_) | ((with_reducible intro hq); first | exact bne1 hq (by with_reducible assumption) | exact bne1 (by with_reducible assumption) hq | ((simp only [*, BB, cond_true, cond_false, reduceCtorEq] at hq); done) | (revert hq; with_reducible intro _)) | (with_reducible first | exact True.intro | rfl | refine EntLe.row ?_ | exact LeN.ro rfl | exact LeN.rptr | assumption) | ((with_reducible first | refine WkX.chk ?_ | refine Wk.chk ?_ | refine LeL.chk ?_ | refine LeF.chk ?_ | refine Run.mk ?_); (conv => whnf)) | ((with_reducible show LeO _ _); first | refine LeO.ro ?_ | refine LeO.roCap ?_ | refine LeO.nil ?_ (fun _ => rfl)) | ((with_reducible show LeR _ _ _); first | refine LeR.own rfl rfl rfl ?_ | refine LeR.view rfl rfl rfl ?_ ?_ | refine LeR.ro ?_ | refine LeR.roCap ?_ | refine LeR.nil ?_ (fun _ => rfl)) | ((with_reducible first | show drawOK _ _ = true | show lateOK _ _ = true | show drawOK2 _ _ = true | show drawOK3 _ _ = true); kernel_rfl))
        all_goals first
        | omega
        | rfl
        | (apply Fits.i64 <;> omega)
        | (show l.length - (i + 1) < l.length - i; omega)
        | exact hst
        | (refine Eq.trans ?_ hst; rfl)
        | (refine Eq.trans ?_ hst; rw [e2]; rfl)
        | (show ((runsTo l i).length + 1) * 32 ≤ 140737488355328; omega)
        | trace_state

    · have k0 : decide ((0 : Int) < ((runsTo l i).length : Int)) = false := decide_eq_false (by omega)
      have hst := rn_more (l := l) (i := i) (fun h => h0 h.1)
      repeat' (first | (with_reducible refine ex_of (α := Nat) (i + 1) ⟨?_, ?_⟩ ?_) | (with_reducible first | exact fun h => h | refine ExE.row (by with_unfolding_all rfl) ?_ | refine And.intro ?_ ?_) | ((with_reducible intro hq); first | exact bne1 hq (by with_reducible assumption) | exact bne1 (by with_reducible assumption) hq | ((simp only [*, BB, cond_true, cond_false, reduceCtorEq] at hq); done) | (revert hq; with_reducible intro _)) | (with_reducible first | exact True.intro | rfl | refine EntLe.row ?_ | exact LeN.ro rfl | exact LeN.rptr | assumption) | ((with_reducible first | refine WkX.chk ?_ | refine Wk.chk ?_ | refine LeL.chk ?_ | refine LeF.chk ?_ | refine Run.mk ?_); (conv => whnf)) | ((with_reducible show LeO _ _); first | refine LeO.ro ?_ | refine LeO.roCap ?_ | refine LeO.nil ?_ (fun _ => rfl)) | ((with_reducible show LeR _ _ _); first | refine LeR.own rfl rfl rfl ?_ | refine LeR.view rfl rfl rfl ?_ ?_ | refine LeR.ro ?_ | refine LeR.roCap ?_ | refine LeR.nil ?_ (fun _ => rfl)) | ((with_reducible first | show drawOK _ _ = true | show lateOK _ _ = true | show drawOK2 _ _ = true | show drawOK3 _ _ = true); kernel_rfl))
      all_goals first
      | omega
      | rfl
      | (apply Fits.i64 <;> omega)
      | (show l.length - (i + 1) < l.length - i; omega)
      | exact hst
      | (refine Eq.trans ?_ hst; rfl)
      | (refine Eq.trans ?_ hst; rw [e2]; rfl)
      | (show ((runsTo l i).length + 1) * 32 ≤ 140737488355328; omega)
      | trace_state

  have hlt : decide ((i : Int) < (l.length : Int)) = false := decide_eq_false (by omega)
  have hii : i = l.length := by omega
  subst hii
  repeat' (first | (with_reducible first | exact fun h => h | refine ExE.row (by with_unfolding_all rfl) ?_ | refine And.intro ?_ ?_) | ((with_reducible intro hq); first | exact bne1 hq (by with_reducible assumption) | exact bne1 (by with_reducible assumption) hq | ((simp only [*, BB, cond_true, cond_false, reduceCtorEq] at hq); done) | (revert hq; with_reducible intro _)) | (with_reducible first | exact True.intro | rfl | refine EntLe.row ?_ | exact LeN.ro rfl | exact LeN.rptr | assumption) | ((with_reducible first | refine WkX.chk ?_ | refine Wk.chk ?_ | refine LeL.chk ?_ | refine LeF.chk ?_ | refine Run.mk ?_); (conv => whnf)) | ((with_reducible show LeO _ _); first | refine LeO.ro ?_ | refine LeO.roCap ?_ | refine LeO.nil ?_ (fun _ => rfl)) | ((with_reducible show LeR _ _ _); first | refine LeR.own rfl rfl rfl ?_ | refine LeR.view rfl rfl rfl ?_ ?_ | refine LeR.ro ?_ | refine LeR.roCap ?_ | refine LeR.nil ?_ (fun _ => rfl)) | ((with_reducible first | show drawOK _ _ = true | show lateOK _ _ = true | show drawOK2 _ _ = true | show drawOK3 _ _ = true); kernel_rfl))
  all_goals first
    | rfl
    | trace_state
end Go.SX.Try
/- Contracts of the document's looks. -/
namespace Go.SX.Try
open Go.Proofs Go.Proofs.Try Go.SX.Plain
set_option maxRecDepth 100000
set_option maxHeartbeats 0
set_option linter.unusedSimpArgs false
theorem q_rlooks : fact 74 f74 := ⟨by kernel_rfl, rfl, by kernel_rfl⟩
theorem con_rlooks : Con prog 74 (fun ((s, l, k) : ByteArray × List Spn × Nat) => [txAV s l, .v (.int .i64 (k : Nat))]) (fun (_, l, k) => .agg (atAV (refF k l).1)) (fun (s, l, _) => OkT s l) := by
  refine Con.of (by kernel_rfl) T_ok CdsOK.nil (.con con_rwithin7 .nil) 5 [] q_rlooks.1 q_rlooks.2.1 q_rlooks.2.2 (fun _ => rfl) fun i hi => ?_
  obtain ⟨s, l, k⟩ := i
  obtain ⟨hs, hl, hsp⟩ : OkT s l := hi
  have hd : C_spn.d = zS := rfl
  repeat' (first | (with_reducible first | exact fun h => h | refine ExE.row (by with_unfolding_all rfl) ?_ | refine And.intro ?_ ?_) | ((with_reducible intro hq); first | exact bne1 hq (by with_reducible assumption) | exact bne1 (by with_reducible assumption) hq | ((simp only [*, BB, cond_true, cond_false, reduceCtorEq] at hq); done) | (revert hq; with_reducible intro _)) | (with_reducible first | exact True.intro | rfl | refine EntLe.row ?_ | exact LeN.ro rfl | exact LeN.rptr | assumption) | ((with_reducible first | refine WkX.chk ?_ | refine Wk.chk ?_ | refine LeL.chk ?_ | refine LeF.chk ?_ | refine Run.mk ?_); (conv => whnf)) | ((with_reducible show LeO _ _); first | refine LeO.ro ?_ | refine LeO.roCap ?_ | refine LeO.nil ?_ (fun _ => rfl)) | ((with_reducible show LeR _ _ _); first | refine LeR.own rfl rfl rfl ?_ | refine LeR.view rfl rfl rfl ?_ ?_ | refine LeR.ro ?_ | refine LeR.roCap ?_ | refine LeR.nil ?_ (fun _ => rfl)) | ((with_reducible first | show drawOK _ _ = true | show lateOK _ _ = true | show drawOK2 _ _ = true | show drawOK3 _ _ = true); kernel_rfl))
  refine loopI (Nat × Int) [] (fun | (i, j) => [(7, .v (.int .i64 (i : Nat))), (6, .v (.int .i64 j))]) (fun | (i, _) => [(2, .box (atAV (refF k (l.take i)).1) 45)]) (fun | (i, j) => i ≤ l.length ∧ InAt l j (refF k (l.take i)).2) (fun | (i, _) => l.length - i) (0, -1) ⟨Nat.zero_le _, .inl ⟨rfl, by simp [refF]⟩⟩ (Wk.chk ?_) fun x hx => ?_
  · ((conv => whnf); repeat' (first | (with_reducible first | exact fun h => h | refine ExE.row (by with_unfolding_all rfl) ?_ | refine And.intro ?_ ?_) | ((with_reducible intro hq); first | exact bne1 hq (by with_reducible assumption) | exact bne1 (by with_reducible assumption) hq | ((simp only [*, BB, cond_true, cond_false, reduceCtorEq] at hq); done) | (revert hq; with_reducible intro _)) | (with_reducible first | exact True.intro | rfl | refine EntLe.row ?_ | exact LeN.ro rfl | exact LeN.rptr | assumption) | ((with_reducible first | refine WkX.chk ?_ | refine Wk.chk ?_ | refine LeL.chk ?_ | refine LeF.chk ?_ | refine Run.mk ?_); (conv => whnf)) | ((with_reducible show LeO _ _); first | refine LeO.ro ?_ | refine LeO.roCap ?_ | refine LeO.nil ?_ (fun _ => rfl)) | ((with_reducible show LeR _ _ _); first | refine LeR.own rfl rfl rfl ?_ | refine LeR.view rfl rfl rfl ?_ ?_ | refine LeR.ro ?_ | refine LeR.roCap ?_ | refine LeR.nil ?_ (fun _ => rfl)) | ((with_reducible first | show drawOK _ _ = true | show lateOK _ _ = true | show drawOK2 _ _ = true | show drawOK3 _ _ = true); kernel_rfl)))
    all_goals rfl
  obtain ⟨i, j⟩ := x
  obtain ⟨hi, hj⟩ : i ≤ l.length ∧ InAt l j (refF k (l.take i)).2 := hx
  have e1 : ((i : Int)).toNat = i := Int.toNat_natCast _
  by_cases hil : i < l.length
  · have hlt : decide ((i : Int) < (l.length : Int)) = true := decide_eq_true (by omega)
    have hst := refF_step k hil
    have hxr := right_bd (okTo_at hil hsp).1
    obtain ⟨x, hx⟩ : ∃ x, x = l.getD i zS := ⟨_, rfl⟩
    rw [← hx] at hst hxr
    have hxx : l.getD ((i : Int)).toNat C_spn.d = x := by rw [e1, hd, hx]
    have hjb : j < 0 ∨ (0 ≤ j ∧ j < l.length) := by
      rcases hj with h | h
      · exact .inl (by omega)
      · exact .inr ⟨h.1, h.2.1⟩
    cases hh : hasS k x with
    | false =>
      rw [refS_out hh] at hst
      have hkc : (decide ((k : Int) < (l.getD ((i : Int)).toNat C_spn.d).frm) || decide ((l.getD ((i : Int)).toNat C_spn.d).to ≤ (k : Int))) = true := by
        rw [hxx, Bool.or_eq_true, decide_eq_true_eq, decide_eq_true_eq]
        unfold hasS at hh
        rw [Bool.and_eq_false_iff, decide_eq_false_iff_not, decide_eq_false_iff_not] at hh
        omega
      have hj2 : InAt l j (refF k (l.take (i + 1))).2 := by rw [hst]; exact hj
      repeat' (first | (with_reducible refine ex_of (α := Nat × Int) (i + 1, j) ⟨⟨?_, hj2⟩, ?_⟩ ?_) | (with_reducible first | exact fun h => h | refine ExE.row (by with_unfolding_all rfl) ?_ | refine And.intro ?_ ?_) | ((with_reducible intro hq); first | exact bne1 hq (by with_reducible assumption) | exact bne1 (by with_reducible assumption) hq | ((simp only [*, BB, cond_true, cond_false, reduceCtorEq] at hq); done) | (revert hq; with_reducible intro _)) | (with_reducible first | exact True.intro | rfl | refine EntLe.row ?_ | exact LeN.ro rfl | exact LeN.rptr | assumption) | ((with_reducible first | refine WkX.chk ?_ | refine Wk.chk ?_ | refine LeL.chk ?_ | refine LeF.chk ?_ | refine Run.mk ?_); (conv => whnf)) | ((with_reducible show LeO _ _); first | refine LeO.ro ?_ | refine LeO.roCap ?_ | refine LeO.nil ?_ (fun _ => rfl)) | ((with_reducible show LeR _ _ _); first | refine LeR.own rfl rfl rfl ?_ | refine LeR.view rfl rfl rfl ?_ ?_ | refine LeR.ro ?_ | refine LeR.roCap ?_ | refine LeR.nil ?_ (fun _ => rfl)) | ((with_reducible first | show drawOK _ _ = true | show lateOK _ _ = true | show drawOK2 _ _ = true | show drawOK3 _ _ = true); kernel_rfl))
      all_goals first
        | omega
        | rfl
        | (apply Fits.i64 <;> omega)
        | (show l.length - (i + 1) < l.length - i; omega)
        | (rw [hst]; done)
        | (simp only [Bool.not_eq_true']; assumption)
        | trace_state
    | true =>
      have hkc : (decide ((k : Int) < (l.getD ((i : Int)).toNat C_spn.d).frm) || decide ((l.getD ((i : Int)).toNat C_spn.d).to ≤ (k : Int))) = false := by
        rw [hxx, Bool.or_eq_false_iff, decide_eq_false_iff_not, decide_eq_false_iff_not]
        unfold hasS at hh
        rw [Bool.and_eq_true, decide_eq_true_eq, decide_eq_true_eq] at hh
        omega
      have hka : decide ((k : Int) < (l.getD ((i : Int)).toNat C_spn.d).frm) = false := (Bool.or_eq_false_iff.1 hkc).1
      have hxw : l.getD j.toNat C_spn.d = l.getD j.toNat zS := rfl
      have hco : colB x = false → x.kind = 1 ∨ x.kind = 2 ∨ x.kind = 3 ∨ x.kind = 4 := fun h => by
        unfold colB at h
        simp at h
        omega
      have hco2 : colB x = true → ¬ x.kind = 1 ∧ ¬ x.kind = 2 ∧ ¬ x.kind = 3 ∧ ¬ x.kind = 4 := fun h => by
        unfold colB at h
        simp at h
        omega
      cases hcb : colB x with
      | false =>
        have hkk := hco hcb
        clear hco hco2
        rw [refS_kind hh hcb] at hst
        have hs2 : (refF k (l.take (i + 1))).1 = setA (refF k (l.take i)).1 x := by rw [hst]
        have hj2 : InAt l j (refF k (l.take (i + 1))).2 := by rw [hst]; exact hj
        have k5 : (((l.getD ((i : Int)).toNat C_spn.d).kind == 1) = false) → (((l.getD ((i : Int)).toNat C_spn.d).kind == 2) = false) → (((l.getD ((i : Int)).toNat C_spn.d).kind == 3) = false) → ((l.getD ((i : Int)).toNat C_spn.d).kind == 4) = true := by
          rw [hxx]
          simp only [beq_iff_eq, beq_eq_false_iff_ne, ne_eq]
          omega
        repeat' (first | (with_reducible refine ⟨(l.getD ((i : Int)).toNat C_spn.d, l.getD j.toNat C_spn.d), ⟨(.cons (.agg (.cons (.v _) (.cons (.v _) (.cons (.v _) (.cons (.v _) .nil))))) (.cons (.agg (.cons (.v _) (.cons (.v _) (.cons (.v _) (.cons (.v _) .nil))))) .nil)), ?_⟩, ?_⟩) | (with_reducible refine ex_of (α := Nat × Int) (i + 1, j) ⟨⟨?_, hj2⟩, ?_⟩ ?_) | (with_reducible first | exact fun h => h | refine ExE.row (by with_unfolding_all rfl) ?_ | refine And.intro ?_ ?_) | ((with_reducible intro hq); first | exact bne1 hq (by with_reducible assumption) | exact bne1 (by with_reducible assumption) hq | ((simp only [*, BB, cond_true, cond_false, reduceCtorEq] at hq); done) | (revert hq; with_reducible intro _)) | (with_reducible first | exact True.intro | rfl | refine EntLe.row ?_ | exact LeN.ro rfl | exact LeN.rptr | assumption) | ((with_reducible first | refine WkX.chk ?_ | refine Wk.chk ?_ | refine LeL.chk ?_ | refine LeF.chk ?_ | refine Run.mk ?_); (conv => whnf)) | ((with_reducible show LeO _ _); first | refine LeO.ro ?_ | refine LeO.roCap ?_ | refine LeO.nil ?_ (fun _ => rfl)) | ((with_reducible show LeR _ _ _); first | refine LeR.own rfl rfl rfl ?_ | refine LeR.view rfl rfl rfl ?_ ?_ | refine LeR.ro ?_ | refine LeR.roCap ?_ | refine LeR.nil ?_ (fun _ => rfl)) | ((with_reducible first | show drawOK _ _ = true | show lateOK _ _ = true | show drawOK2 _ _ = true | show drawOK3 _ _ = true); kernel_rfl))
        all_goals (try simp only [hxx, hxw] at *)
        all_goals first
          | omega
          | rfl
          | (apply Fits.i64 <;> omega)
          | (show l.length - (i + 1) < l.length - i; omega)
          | (simp only [Bool.not_eq_true']; assumption)
          | (rw [hs2]; done)
          | (rw [hs2, ← setA_1 (by assumption) _]; done)
          | (rw [hs2, ← setA_2 (by assumption) _]; done)
          | (rw [hs2, ← setA_3 (by assumption) _]; done)
          | (rw [hs2, ← setA_4 (by assumption) _]; done)
          | (rw [hs2, ← setA_5 (by assumption) (by assumption) (by assumption) (by assumption) _]; done)
          | (exfalso; simp only [beq_iff_eq, beq_eq_false_iff_ne, ne_eq] at *; omega)
          | (exfalso; simp_all; done)
          | trace_state

      | true =>
        have hkk := hco2 hcb
        clear hco hco2
        have k1 : ((l.getD ((i : Int)).toNat C_spn.d).kind == 1) = false := by rw [hxx, beq_eq_false_iff_ne]; exact hkk.1
        have k2 : ((l.getD ((i : Int)).toNat C_spn.d).kind == 2) = false := by rw [hxx, beq_eq_false_iff_ne]; exact hkk.2.1
        have k3 : ((l.getD ((i : Int)).toNat C_spn.d).kind == 3) = false := by rw [hxx, beq_eq_false_iff_ne]; exact hkk.2.2.1
        have k4 : ((l.getD ((i : Int)).toNat C_spn.d).kind == 4) = false := by rw [hxx, beq_eq_false_iff_ne]; exact hkk.2.2.2
        rw [refS_col hh hcb] at hst
        rcases hjb with hj0 | hj0
        · rw [hj.yes (.inl hj0)] at hst
          have hs2 : (refF k (l.take (i + 1))).1 = setA (refF k (l.take i)).1 x := by rw [hst]
          have hj2 : InAt l (i : Nat) (refF k (l.take (i + 1))).2 := by rw [hst]; exact .inr ⟨by omega, by omega, by rw [e1, hx]⟩
          have k6 : decide (j < 0) = true := decide_eq_true hj0
          have k8 : (decide (j < 0) || withinB (l.getD ((i : Int)).toNat C_spn.d) (l.getD j.toNat C_spn.d)) = true := by rw [k6]; rfl
          repeat' (first | (with_reducible refine ⟨(l.getD ((i : Int)).toNat C_spn.d, l.getD j.toNat C_spn.d), ⟨(.cons (.agg (.cons (.v _) (.cons (.v _) (.cons (.v _) (.cons (.v _) .nil))))) (.cons (.agg (.cons (.v _) (.cons (.v _) (.cons (.v _) (.cons (.v _) .nil))))) .nil)), ?_⟩, ?_⟩) | (with_reducible refine ex_of (α := Nat × Int) (i + 1, (i : Nat)) ⟨⟨?_, hj2⟩, ?_⟩ ?_) | (with_reducible first | exact fun h => h | refine ExE.row (by with_unfolding_all rfl) ?_ | refine And.intro ?_ ?_) | ((with_reducible intro hq); first | exact bne1 hq (by with_reducible assumption) | exact bne1 (by with_reducible assumption) hq | ((simp only [*, BB, cond_true, cond_false, reduceCtorEq] at hq); done) | (revert hq; with_reducible intro _)) | (with_reducible first | exact True.intro | rfl | refine EntLe.row ?_ | exact LeN.ro rfl | exact LeN.rptr | assumption) | ((with_reducible first | refine WkX.chk ?_ | refine Wk.chk ?_ | refine LeL.chk ?_ | refine LeF.chk ?_ | refine Run.mk ?_); (conv => whnf)) | ((with_reducible show LeO _ _); first | refine LeO.ro ?_ | refine LeO.roCap ?_ | refine LeO.nil ?_ (fun _ => rfl)) | ((with_reducible show LeR _ _ _); first | refine LeR.own rfl rfl rfl ?_ | refine LeR.view rfl rfl rfl ?_ ?_ | refine LeR.ro ?_ | refine LeR.roCap ?_ | refine LeR.nil ?_ (fun _ => rfl)) | ((with_reducible first | show drawOK _ _ = true | show lateOK _ _ = true | show drawOK2 _ _ = true | show drawOK3 _ _ = true); kernel_rfl))
          all_goals (try simp only [hxx, hxw] at *)
          all_goals first
            | omega
            | rfl
            | (apply Fits.i64 <;> omega)
            | (show l.length - (i + 1) < l.length - i; omega)
            | (simp only [Bool.not_eq_true']; assumption)
            | (rw [hs2]; done)
            | (rw [hs2, ← setA_1 (by assumption) _]; done)
            | (rw [hs2, ← setA_2 (by assumption) _]; done)
            | (rw [hs2, ← setA_3 (by assumption) _]; done)
            | (rw [hs2, ← setA_4 (by assumption) _]; done)
            | (rw [hs2, ← setA_5 (by assumption) (by assumption) (by assumption) (by assumption) _]; done)
            | (exfalso; simp only [beq_iff_eq, beq_eq_false_iff_ne, ne_eq] at *; omega)
            | (exfalso; simp_all; done)
            | trace_state

        have k6 : decide (j < 0) = false := decide_eq_false (by omega)
        cases hw : withinB x (l.getD j.toNat zS) with
        | true =>
          rw [hj.yes (.inr hw)] at hst
          have hs2 : (refF k (l.take (i + 1))).1 = setA (refF k (l.take i)).1 x := by rw [hst]
          have hj2 : InAt l (i : Nat) (refF k (l.take (i + 1))).2 := by rw [hst]; exact .inr ⟨by omega, by omega, by rw [e1, hx]⟩
          have k7 : withinB (l.getD ((i : Int)).toNat C_spn.d) (l.getD j.toNat C_spn.d) = true := by rw [hxx, hxw]; exact hw
          have k8 : (decide (j < 0) || withinB (l.getD ((i : Int)).toNat C_spn.d) (l.getD j.toNat C_spn.d)) = true := by rw [k6, k7]; rfl
          repeat' (first | (with_reducible refine ⟨(l.getD ((i : Int)).toNat C_spn.d, l.getD j.toNat C_spn.d), ⟨(.cons (.agg (.cons (.v _) (.cons (.v _) (.cons (.v _) (.cons (.v _) .nil))))) (.cons (.agg (.cons (.v _) (.cons (.v _) (.cons (.v _) (.cons (.v _) .nil))))) .nil)), ?_⟩, ?_⟩) | (with_reducible refine ex_of (α := Nat × Int) (i + 1, (i : Nat)) ⟨⟨?_, hj2⟩, ?_⟩ ?_) | (with_reducible first | exact fun h => h | refine ExE.row (by with_unfolding_all rfl) ?_ | refine And.intro ?_ ?_) | ((with_reducible intro hq); first | exact bne1 hq (by with_reducible assumption) | exact bne1 (by with_reducible assumption) hq | ((simp only [*, BB, cond_true, cond_false, reduceCtorEq] at hq); done) | (revert hq; with_reducible intro _)) | (with_reducible first | exact True.intro | rfl | refine EntLe.row ?_ | exact LeN.ro rfl | exact LeN.rptr | assumption) | ((with_reducible first | refine WkX.chk ?_ | refine Wk.chk ?_ | refine LeL.chk ?_ | refine LeF.chk ?_ | refine Run.mk ?_); (conv => whnf)) | ((with_reducible show LeO _ _); first | refine LeO.ro ?_ | refine LeO.roCap ?_ | refine LeO.nil ?_ (fun _ => rfl)) | ((with_reducible show LeR _ _ _); first | refine LeR.own rfl rfl rfl ?_ | refine LeR.view rfl rfl rfl ?_ ?_ | refine LeR.ro ?_ | refine LeR.roCap ?_ | refine LeR.nil ?_ (fun _ => rfl)) | ((with_reducible first | show drawOK _ _ = true | show lateOK _ _ = true | show drawOK2 _ _ = true | show drawOK3 _ _ = true); kernel_rfl))
          all_goals (try simp only [hxx, hxw] at *)
          all_goals first
            | omega
            | rfl
            | (apply Fits.i64 <;> omega)
            | (show l.length - (i + 1) < l.length - i; omega)
            | (simp only [Bool.not_eq_true']; assumption)
            | (rw [hs2]; done)
            | (rw [hs2, ← setA_1 (by assumption) _]; done)
            | (rw [hs2, ← setA_2 (by assumption) _]; done)
            | (rw [hs2, ← setA_3 (by assumption) _]; done)
            | (rw [hs2, ← setA_4 (by assumption) _]; done)
            | (rw [hs2, ← setA_5 (by assumption) (by assumption) (by assumption) (by assumption) _]; done)
            | (exfalso; simp only [beq_iff_eq, beq_eq_false_iff_ne, ne_eq] at *; omega)
            | (exfalso; simp_all; done)
            | trace_state

        | false =>
          rw [hj.no (by omega) hw] at hst
          have hs2 : (refF k (l.take (i + 1))).1 = (refF k (l.take i)).1 := by rw [hst]
          have hj2 : InAt l j (refF k (l.take (i + 1))).2 := by rw [hst]; exact hj
          have k7 : withinB (l.getD ((i : Int)).toNat C_spn.d) (l.getD j.toNat C_spn.d) = false := by rw [hxx, hxw]; exact hw
          have k8 : (decide (j < 0) || withinB (l.getD ((i : Int)).toNat C_spn.d) (l.getD j.toNat C_spn.d)) = false := by rw [k6, k7]; rfl
          repeat' (first | (with_reducible refine ⟨(l.getD ((i : Int)).toNat C_spn.d, l.getD j.toNat C_spn.d), ⟨(.cons (.agg (.cons (.v _) (.cons (.v _) (.cons (.v _) (.cons (.v _) .nil))))) (.cons (.agg (.cons (.v _) (.cons (.v _) (.cons (.v _) (.cons (.v _) .nil))))) .nil)), ?_⟩, ?_⟩) | (with_reducible refine ex_of (α := Nat × Int) (i + 1, j) ⟨⟨?_, hj2⟩, ?_⟩ ?_) | (with_reducible first | exact fun h => h | refine ExE.row (by with_unfolding_all rfl) ?_ | refine And.intro ?_ ?_) | ((with_reducible intro hq); first | exact bne1 hq (by with_reducible assumption) | exact bne1 (by with_reducible assumption) hq | ((simp only [*, BB, cond_true, cond_false, reduceCtorEq] at hq); done) | (revert hq; with_reducible intro _)) | (with_reducible first | exact True.intro | rfl | refine EntLe.row ?_ | exact LeN.ro rfl | exact LeN.rptr | assumption) | ((with_reducible first | refine WkX.chk ?_ | refine Wk.chk ?_ | refine LeL.chk ?_ | refine LeF.chk ?_ | refine Run.mk ?_); (conv => whnf)) | ((with_reducible show LeO _ _); first | refine LeO.ro ?_ | refine LeO.roCap ?_ | refine LeO.nil ?_ (fun _ => rfl)) | ((with_reducible show LeR _ _ _); first | refine LeR.own rfl rfl rfl ?_ | refine LeR.view rfl rfl rfl ?_ ?_ | refine LeR.ro ?_ | refine LeR.roCap ?_ | refine LeR.nil ?_ (fun _ => rfl)) | ((with_reducible first | show drawOK _ _ = true | show lateOK _ _ = true | show drawOK2 _ _ = true | show drawOK3 _ _ = true); kernel_rfl))
          all_goals (try simp only [hxx, hxw] at *)
          all_goals first
            | omega
            | rfl
            | (apply Fits.i64 <;> omega)
            | (show l.length - (i + 1) < l.length - i; omega)
            | (simp only [Bool.not_eq_true']; assumption)
            | (rw [hs2]; done)
            | (rw [hs2, ← setA_1 (by assumption) _]; done)
            | (rw [hs2, ← setA_2 (by assumption) _]; done)
            | (rw [hs2, ← setA_3 (by assumption) _]; done)
            | (rw [hs2, ← setA_4 (by assumption) _]; done)
            | (rw [hs2, ← setA_5 (by assumption) (by assumption) (by assumption) (by assumption) _]; done)
            | (exfalso; simp only [beq_iff_eq, beq_eq_false_iff_ne, ne_eq] at *; omega)
            | (exfalso; simp_all; done)
            | trace_state

  have hlt : decide ((i : Int) < (l.length : Int)) = false := decide_eq_false (by omega)
  have hii : i = l.length := by omega
  subst hii
  have htk : l.take l.length = l := List.take_length
  repeat' (first | (with_reducible first | exact fun h => h | refine ExE.row (by with_unfolding_all rfl) ?_ | refine And.intro ?_ ?_) | ((with_reducible intro hq); first | exact bne1 hq (by with_reducible assumption) | exact bne1 (by with_reducible assumption) hq | ((simp only [*, BB, cond_true, cond_false, reduceCtorEq] at hq); done) | (revert hq; with_reducible intro _)) | (with_reducible first | exact True.intro | rfl | refine EntLe.row ?_ | exact LeN.ro rfl | exact LeN.rptr | assumption) | ((with_reducible first | refine WkX.chk ?_ | refine Wk.chk ?_ | refine LeL.chk ?_ | refine LeF.chk ?_ | refine Run.mk ?_); (conv => whnf)) | ((with_reducible show LeO _ _); first | refine LeO.ro ?_ | refine LeO.roCap ?_ | refine LeO.nil ?_ (fun _ => rfl)) | ((with_reducible show LeR _ _ _); first | refine LeR.own rfl rfl rfl ?_ | refine LeR.view rfl rfl rfl ?_ ?_ | refine LeR.ro ?_ | refine LeR.roCap ?_ | refine LeR.nil ?_ (fun _ => rfl)) | ((with_reducible first | show drawOK _ _ = true | show lateOK _ _ = true | show drawOK2 _ _ = true | show drawOK3 _ _ = true); kernel_rfl))
  all_goals first
    | rfl
    | (rw [htk]; done)
    | trace_state
end Go.SX.Try
/- Contracts of the document's runs, All, Runs, Look; style's Runs, Look. -/
namespace Go.SX.Try
open Go.Proofs Go.Proofs.Try Go.SX.Plain
set_option maxRecDepth 100000
set_option maxHeartbeats 0
set_option linter.unusedSimpArgs false
theorem q_rall7 : fact 37 f37 := ⟨by kernel_rfl, rfl, by kernel_rfl⟩
theorem q_rRuns7 : fact 34 f34 := ⟨by kernel_rfl, rfl, by kernel_rfl⟩
theorem q_rLook7 : fact 32 f32 := ⟨by kernel_rfl, rfl, by kernel_rfl⟩
theorem q_sLook : fact 31 f31 := ⟨by kernel_rfl, rfl, by kernel_rfl⟩
theorem con_rruns7 : Con prog 76 (fun l : List Atr => [lkR l]) (fun l => rnO (runsL l)) (fun l => l.length ≤ 1000000) := by
  refine Con.of (by kernel_rfl) T_ok D_rn_ok .nil 5 [] q_rruns.1 q_rruns.2.1 q_rruns.2.2 (fun _ => rfl) fun l hl => ?_
  have hl : l.length ≤ 1000000 := hl
  have hd : C_rn.d = zRn := rfl
  have hda : C_att.d = zA := rfl
  repeat' (first | (with_reducible first | exact fun h => h | refine ExE.row (by with_unfolding_all rfl) ?_ | refine And.intro ?_ ?_) | ((with_reducible intro hq); first | exact bne1 hq (by with_reducible assumption) | exact bne1 (by with_reducible assumption) hq | ((simp only [*, BB, cond_true, cond_false, reduceCtorEq] at hq); done) | (revert hq; with_reducible intro _)) | (with_reducible first | exact True.intro | rfl | refine EntLe.row ?_ | exact LeN.ro rfl | exact LeN.rptr | assumption) | ((with_reducible first | refine WkX.chk ?_ | refine Wk.chk ?_ | refine LeL.chk ?_ | refine LeF.chk ?_ | refine Run.mk ?_); (conv => whnf)) | ((with_reducible show LeO _ _); first | refine LeO.ro ?_ | refine LeO.roCap ?_ | refine LeO.nil ?_ (fun _ => rfl)) | ((with_reducible show LeR _ _ _); first | refine LeR.own rfl rfl rfl ?_ | refine LeR.view rfl rfl rfl ?_ ?_ | refine LeR.ro ?_ | refine LeR.roCap ?_ | refine LeR.nil ?_ (fun _ => rfl)) | ((with_reducible first | show drawOK _ _ = true | show lateOK _ _ = true | show drawOK2 _ _ = true | show drawOK3 _ _ = true); kernel_rfl))
  refine loopI Nat [] (fun i => [(4, .v (.int .i64 (i : Nat))), (3, .own 1)]) (fun i => [(1, .row C_rn (runsTo l i) 76 none)]) (fun i => i ≤ l.length) (fun i => l.length - i) 0 (Nat.zero_le _) (Wk.chk ?_) fun i hi => ?_
  · ((conv => whnf); repeat' (first | (with_reducible first | exact fun h => h | refine ExE.row (by with_unfolding_all rfl) ?_ | refine And.intro ?_ ?_) | ((with_reducible intro hq); first | exact bne1 hq (by with_reducible assumption) | exact bne1 (by with_reducible assumption) hq | ((simp only [*, BB, cond_true, cond_false, reduceCtorEq] at hq); done) | (revert hq; with_reducible intro _)) | (with_reducible first | exact True.intro | rfl | refine EntLe.row ?_ | exact LeN.ro rfl | exact LeN.rptr | assumption) | ((with_reducible first | refine WkX.chk ?_ | refine Wk.chk ?_ | refine LeL.chk ?_ | refine LeF.chk ?_ | refine Run.mk ?_); (conv => whnf)) | ((with_reducible show LeO _ _); first | refine LeO.ro ?_ | refine LeO.roCap ?_ | refine LeO.nil ?_ (fun _ => rfl)) | ((with_reducible show LeR _ _ _); first | refine LeR.own rfl rfl rfl ?_ | refine LeR.view rfl rfl rfl ?_ ?_ | refine LeR.ro ?_ | refine LeR.roCap ?_ | refine LeR.nil ?_ (fun _ => rfl)) | ((with_reducible first | show drawOK _ _ = true | show lateOK _ _ = true | show drawOK2 _ _ = true | show drawOK3 _ _ = true); kernel_rfl)))
    all_goals rfl
  have hi : i ≤ l.length := hi
  have e1 : ((i : Int)).toNat = i := Int.toNat_natCast _
  have hrl := runsTo_len l i
  by_cases hil : i < l.length
  · have hlt : decide ((i : Int) < (l.length : Int)) = true := decide_eq_true (by omega)
    have e2 : (((runsTo l i).length : Int) - 1).toNat = (runsTo l i).length - 1 := by omega
    by_cases h0 : 0 < (runsTo l i).length
    · have k0 : decide ((0 : Int) ≤ ((runsTo l i).length : Int) - 1) = true := decide_eq_true (by omega)
      have kc : (decide ((0 : Int) ≤ ((runsTo l i).length : Int) - 1) && (((runsTo l i).getD (((runsTo l i).length : Int) - 1).toNat C_rn.d).at'.bold == (l.getD ((i : Int)).toNat C_att.d).bold && (((runsTo l i).getD (((runsTo l i).length : Int) - 1).toNat C_rn.d).at'.italic == (l.getD ((i : Int)).toNat C_att.d).italic && (((runsTo l i).getD (((runsTo l i).length : Int) - 1).toNat C_rn.d).at'.under == (l.getD ((i : Int)).toNat C_att.d).under && (((runsTo l i).getD (((runsTo l i).length : Int) - 1).toNat C_rn.d).at'.strike == (l.getD ((i : Int)).toNat C_att.d).strike && ((runsTo l i).getD (((runsTo l i).length : Int) - 1).toNat C_rn.d).at'.colour == (l.getD ((i : Int)).toNat C_att.d).colour))))) = decide (((runsTo l i).getD ((runsTo l i).length - 1) zRn).at' = l.getD i zA) := by
        rw [k0, e1, e2, hd, hda]
        exact atEqB_eq _ _
      by_cases he : ((runsTo l i).getD ((runsTo l i).length - 1) zRn).at' = l.getD i zA
      · rw [decide_eq_true he] at kc
        have hst := rn_same h0 he
        repeat' (first | (with_reducible refine ex_of (α := Nat) (i + 1) ⟨?_, ?_⟩ ?_) | (with_reducible first | exact fun h => h | refine ExE.row (by with_unfolding_all rfl) ?_ | refine And.intro ?_ ?_) | ((with_reducible intro hq); first | exact bne1 hq (by with_reducible assumption) | exact bne1 (by with_reducible assumption) hq | ((simp only [*, BB, cond_true, cond_false, reduceCtorEq] at hq); done) | (revert hq; with_reducible intro _)) | (with_reducible first | exact True.intro | rfl | refine EntLe.row ?_ | exact LeN.ro rfl | exact LeN.rptr | assumption) | ((with_reducible first | refine WkX.chk ?_ | refine Wk.chk ?_ | refine LeL.chk ?_ | refine LeF.chk ?_ | refine Run.mk ?_); (conv => whnf)) | ((with_reducible show LeO _ _); first | refine LeO.ro ?_ | refine LeO.roCap ?_ | refine LeO.nil ?_ (fun _ => rfl)) | ((with_reducible show LeR _ _ _); first | refine LeR.own rfl rfl rfl ?_ | refine LeR.view rfl rfl rfl ?_ ?_ | refine LeR.ro ?_ | refine LeR.roCap ?_ | refine LeR.nil ?_ (fun _ => rfl)) | ((with_reducible first | show drawOK _ _ = true | show lateOK _ _ = true | show drawOK2 _ _ = true | show drawOK3 _ _ = true); kernel_rfl))
        all_goals first
        | omega
        | rfl
        | (apply Fits.i64 <;> omega)
        | (show l.length - (i + 1) < l.length - i; omega)
        | exact hst
        | (refine Eq.trans ?_ hst; rfl)
        | (refine Eq.trans ?_ hst; rw [e2]; rfl)
        | (show ((runsTo l i).length + 1) * 32 ≤ 140737488355328; omega)
        | (exfalso; simp_all; done)
        | trace_state

      · rw [decide_eq_false he] at kc
        have hst := rn_more (l := l) (i := i) (fun h => he h.2)
        repeat' (first | (with_reducible refine ex_of (α := Nat) (i + 1) ⟨?_, ?_⟩ ?_) | (with_reducible first | exact fun h => h | refine ExE.row (by with_unfolding_all rfl) ?_ | refine And.intro ?_ ?_) | ((with_reducible intro hq); first | exact bne1 hq (by with_reducible assumption) | exact bne1 (by with_reducible assumption) hq | ((simp only [*, BB, cond_true, cond_false, reduceCtorEq] at hq); done) | (revert hq; with_reducible intro _)) | (with_reducible first | exact True.intro | rfl | refine EntLe.row ?_ | exact LeN.ro rfl | exact LeN.rptr | assumption) | ((with_reducible first | refine WkX.chk ?_ | refine Wk.chk ?_ | refine LeL.chk ?_ | refine LeF.chk ?_ | refine Run.mk ?_); (conv => whnf)) | ((with_reducible show LeO _ _); first | refine LeO.ro ?_ | refine LeO.roCap ?_ | refine LeO.nil ?_ (fun _ => rfl)) | ((with_reducible show LeR _ _ _); first | refine LeR.own rfl rfl rfl ?_ | refine LeR.view rfl rfl rfl ?_ ?_ | refine LeR.ro ?_ | refine LeR.roCap ?_ | refine LeR.nil ?_ (fun _ => rfl)) | ((with_reducible first | show drawOK _ _ = true | show lateOK _ _ = true | show drawOK2 _ _ = true | show drawOK3 _ _ = true); kernel_rfl))
        all_goals first
        | omega
        | rfl
        | (apply Fits.i64 <;> omega)
        | (show l.length - (i + 1) < l.length - i; omega)
        | exact hst
        | (refine Eq.trans ?_ hst; rfl)
        | (refine Eq.trans ?_ hst; rw [e2]; rfl)
        | (show ((runsTo l i).length + 1) * 32 ≤ 140737488355328; omega)
        | (exfalso; simp_all; done)
        | trace_state

    · have k0 : decide ((0 : Int) ≤ ((runsTo l i).length : Int) - 1) = false := decide_eq_false (by omega)
      have hst := rn_more (l := l) (i := i) (fun h => h0 h.1)
      repeat' (first | (with_reducible refine ex_of (α := Nat) (i + 1) ⟨?_, ?_⟩ ?_) | (with_reducible first | exact fun h => h | refine ExE.row (by with_unfolding_all rfl) ?_ | refine And.intro ?_ ?_) | ((with_reducible intro hq); first | exact bne1 hq (by with_reducible assumption) | exact bne1 (by with_reducible assumption) hq | ((simp only [*, BB, cond_true, cond_false, reduceCtorEq] at hq); done) | (revert hq; with_reducible intro _)) | (with_reducible first | exact True.intro | rfl | refine EntLe.row ?_ | exact LeN.ro rfl | exact LeN.rptr | assumption) | ((with_reducible first | refine WkX.chk ?_ | refine Wk.chk ?_ | refine LeL.chk ?_ | refine LeF.chk ?_ | refine Run.mk ?_); (conv => whnf)) | ((with_reducible show LeO _ _); first | refine LeO.ro ?_ | refine LeO.roCap ?_ | refine LeO.nil ?_ (fun _ => rfl)) | ((with_reducible show LeR _ _ _); first | refine LeR.own rfl rfl rfl ?_ | refine LeR.view rfl rfl rfl ?_ ?_ | refine LeR.ro ?_ | refine LeR.roCap ?_ | refine LeR.nil ?_ (fun _ => rfl)) | ((with_reducible first | show drawOK _ _ = true | show lateOK _ _ = true | show drawOK2 _ _ = true | show drawOK3 _ _ = true); kernel_rfl))
      all_goals first
      | omega
      | rfl
      | (apply Fits.i64 <;> omega)
      | (show l.length - (i + 1) < l.length - i; omega)
      | exact hst
      | (refine Eq.trans ?_ hst; rfl)
      | (refine Eq.trans ?_ hst; rw [e2]; rfl)
      | (show ((runsTo l i).length + 1) * 32 ≤ 140737488355328; omega)
      | trace_state

  have hlt : decide ((i : Int) < (l.length : Int)) = false := decide_eq_false (by omega)
  have hii : i = l.length := by omega
  subst hii
  repeat' (first | (with_reducible first | exact fun h => h | refine ExE.row (by with_unfolding_all rfl) ?_ | refine And.intro ?_ ?_) | ((with_reducible intro hq); first | exact bne1 hq (by with_reducible assumption) | exact bne1 (by with_reducible assumption) hq | ((simp only [*, BB, cond_true, cond_false, reduceCtorEq] at hq); done) | (revert hq; with_reducible intro _)) | (with_reducible first | exact True.intro | rfl | refine EntLe.row ?_ | exact LeN.ro rfl | exact LeN.rptr | assumption) | ((with_reducible first | refine WkX.chk ?_ | refine Wk.chk ?_ | refine LeL.chk ?_ | refine LeF.chk ?_ | refine Run.mk ?_); (conv => whnf)) | ((with_reducible show LeO _ _); first | refine LeO.ro ?_ | refine LeO.roCap ?_ | refine LeO.nil ?_ (fun _ => rfl)) | ((with_reducible show LeR _ _ _); first | refine LeR.own rfl rfl rfl ?_ | refine LeR.view rfl rfl rfl ?_ ?_ | refine LeR.ro ?_ | refine LeR.roCap ?_ | refine LeR.nil ?_ (fun _ => rfl)) | ((with_reducible first | show drawOK _ _ = true | show lateOK _ _ = true | show drawOK2 _ _ = true | show drawOK3 _ _ = true); kernel_rfl))
  all_goals first
    | rfl
    | trace_state
theorem con_rall7 : Con prog 37 (fun ((s, l) : ByteArray × List Spn) => [txAV s l]) (fun (s, l) => lkO (looksL (sgN s) l)) (fun (s, l) => OkT s l) := by
  refine Con.of (by kernel_rfl) T_ok D_att_ok (.con con_rcount (.con con_rlooks .nil)) 5 [] q_rall7.1 q_rall7.2.1 q_rall7.2.2 (fun _ => rfl) fun i hi => ?_
  obtain ⟨s, l⟩ := i
  have hok : OkT s l := hi
  obtain ⟨hs, hl, hsp⟩ := id hok
  have hn := sgN_le s
  have heq := looksL_eq hsp
  repeat' (first | (with_reducible refine ⟨_, ⟨(.cons (.v _) .nil), ?_⟩, ?_⟩) | (with_reducible first | exact fun h => h | refine ExE.row (by with_unfolding_all rfl) ?_ | refine And.intro ?_ ?_) | ((with_reducible intro hq); first | exact bne1 hq (by with_reducible assumption) | exact bne1 (by with_reducible assumption) hq | ((simp only [*, BB, cond_true, cond_false, reduceCtorEq] at hq); done) | (revert hq; with_reducible intro _)) | (with_reducible first | exact True.intro | rfl | refine EntLe.row ?_ | exact LeN.ro rfl | exact LeN.rptr | assumption) | ((with_reducible first | refine WkX.chk ?_ | refine Wk.chk ?_ | refine LeL.chk ?_ | refine LeF.chk ?_ | refine Run.mk ?_); (conv => whnf)) | ((with_reducible show LeO _ _); first | refine LeO.ro ?_ | refine LeO.roCap ?_ | refine LeO.nil ?_ (fun _ => rfl)) | ((with_reducible show LeR _ _ _); first | refine LeR.own rfl rfl rfl ?_ | refine LeR.view rfl rfl rfl ?_ ?_ | refine LeR.ro ?_ | refine LeR.roCap ?_ | refine LeR.nil ?_ (fun _ => rfl)) | ((with_reducible first | show drawOK _ _ = true | show lateOK _ _ = true | show drawOK2 _ _ = true | show drawOK3 _ _ = true); kernel_rfl))
  · show s.size ≤ 1000000; omega
  refine loopI Nat [] (fun i => [(5, .v (.int .i64 (i : Nat))), (4, .own 2)]) (fun i => [(2, .row C_att ((List.range i).map fun k => (refF k l).1) 45 none)]) (fun i => i ≤ sgN s) (fun i => sgN s - i) 0 (Nat.zero_le _) (Wk.chk ?_) fun i hi => ?_
  · ((conv => whnf); repeat' (first | (with_reducible first | exact fun h => h | refine ExE.row (by with_unfolding_all rfl) ?_ | refine And.intro ?_ ?_) | ((with_reducible intro hq); first | exact bne1 hq (by with_reducible assumption) | exact bne1 (by with_reducible assumption) hq | ((simp only [*, BB, cond_true, cond_false, reduceCtorEq] at hq); done) | (revert hq; with_reducible intro _)) | (with_reducible first | exact True.intro | rfl | refine EntLe.row ?_ | exact LeN.ro rfl | exact LeN.rptr | assumption) | ((with_reducible first | refine WkX.chk ?_ | refine Wk.chk ?_ | refine LeL.chk ?_ | refine LeF.chk ?_ | refine Run.mk ?_); (conv => whnf)) | ((with_reducible show LeO _ _); first | refine LeO.ro ?_ | refine LeO.roCap ?_ | refine LeO.nil ?_ (fun _ => rfl)) | ((with_reducible show LeR _ _ _); first | refine LeR.own rfl rfl rfl ?_ | refine LeR.view rfl rfl rfl ?_ ?_ | refine LeR.ro ?_ | refine LeR.roCap ?_ | refine LeR.nil ?_ (fun _ => rfl)) | ((with_reducible first | show drawOK _ _ = true | show lateOK _ _ = true | show drawOK2 _ _ = true | show drawOK3 _ _ = true); kernel_rfl)))
    all_goals first
      | rfl
      | trace_state
  have hi : i ≤ sgN s := hi
  by_cases hil : i < sgN s
  · have hlt : decide ((i : Int) < (sgN s : Int)) = true := decide_eq_true (by omega)
    repeat' (first | (with_reducible refine ⟨(s, l, i), ⟨(.cons (.agg (.cons (.v _) (.cons (.lent _ _ _ _ _ _) .nil))) (.cons (.v _) .nil)), ?_⟩, ?_⟩) | (with_reducible refine ex_of (α := Nat) (i + 1) ⟨?_, ?_⟩ ?_) | (with_reducible first | exact fun h => h | refine ExE.row (by with_unfolding_all rfl) ?_ | refine And.intro ?_ ?_) | ((with_reducible intro hq); first | exact bne1 hq (by with_reducible assumption) | exact bne1 (by with_reducible assumption) hq | ((simp only [*, BB, cond_true, cond_false, reduceCtorEq] at hq); done) | (revert hq; with_reducible intro _)) | (with_reducible first | exact True.intro | rfl | refine EntLe.row ?_ | exact LeN.ro rfl | exact LeN.rptr | assumption) | ((with_reducible first | refine WkX.chk ?_ | refine Wk.chk ?_ | refine LeL.chk ?_ | refine LeF.chk ?_ | refine Run.mk ?_); (conv => whnf)) | ((with_reducible show LeO _ _); first | refine LeO.ro ?_ | refine LeO.roCap ?_ | refine LeO.nil ?_ (fun _ => rfl)) | ((with_reducible show LeR _ _ _); first | refine LeR.own rfl rfl rfl ?_ | refine LeR.view rfl rfl rfl ?_ ?_ | refine LeR.ro ?_ | refine LeR.roCap ?_ | refine LeR.nil ?_ (fun _ => rfl)) | ((with_reducible first | show drawOK _ _ = true | show lateOK _ _ = true | show drawOK2 _ _ = true | show drawOK3 _ _ = true); kernel_rfl))
    all_goals first
      | omega
      | rfl
      | exact hok
      | (apply Fits.i64 <;> omega)
      | (show sgN s - (i + 1) < sgN s - i; omega)
      | (show (((List.range i).map fun k => (refF k l).1).length + 1) * 16 ≤ 140737488355328; simp; omega)
      | (rw [List.range_succ, List.map_append]; rfl)
      | trace_state
  have hlt : decide ((i : Int) < (sgN s : Int)) = false := decide_eq_false (by omega)
  have hii : i = sgN s := by omega
  subst hii
  repeat' (first | (with_reducible first | exact fun h => h | refine ExE.row (by with_unfolding_all rfl) ?_ | refine And.intro ?_ ?_) | ((with_reducible intro hq); first | exact bne1 hq (by with_reducible assumption) | exact bne1 (by with_reducible assumption) hq | ((simp only [*, BB, cond_true, cond_false, reduceCtorEq] at hq); done) | (revert hq; with_reducible intro _)) | (with_reducible first | exact True.intro | rfl | refine EntLe.row ?_ | exact LeN.ro rfl | exact LeN.rptr | assumption) | ((with_reducible first | refine WkX.chk ?_ | refine Wk.chk ?_ | refine LeL.chk ?_ | refine LeF.chk ?_ | refine Run.mk ?_); (conv => whnf)) | ((with_reducible show LeO _ _); first | refine LeO.ro ?_ | refine LeO.roCap ?_ | refine LeO.nil ?_ (fun _ => rfl)) | ((with_reducible show LeR _ _ _); first | refine LeR.own rfl rfl rfl ?_ | refine LeR.view rfl rfl rfl ?_ ?_ | refine LeR.ro ?_ | refine LeR.roCap ?_ | refine LeR.nil ?_ (fun _ => rfl)) | ((with_reducible first | show drawOK _ _ = true | show lateOK _ _ = true | show drawOK2 _ _ = true | show drawOK3 _ _ = true); kernel_rfl))
  all_goals first
    | exact heq.symm
    | trace_state
def runsA (s : ByteArray) (l : List Spn) : List Rn := if chkN s.size l (sgN s : Nat) = 0 then runsL (looksL (sgN s) l) else []
theorem con_sRuns : Con prog 33 (fun ((s, l) : ByteArray × List Spn) => [txAV s l]) (fun (s, l) => .tup [rnO (runsA s l), .v (.int .i64 (chkN s.size l (sgN s : Nat)))]) (fun _ => True) := by
  refine Con.of (by kernel_rfl) T_ok CdsOK.nil (.con con_scheck (.con con_slooks (.con con_sruns .nil))) 5 [] q_sRuns.1 q_sRuns.2.1 q_sRuns.2.2 (fun _ => rfl) fun i hi => ?_
  obtain ⟨s, l⟩ := i
  by_cases hc : chkN s.size l (sgN s : Nat) = 0
  · have k1 : (chkN s.size l (sgN s : Nat) != 0) = false := by rw [hc]; rfl
    have hok := OkT.of hc
    have hr : runsA s l = runsL (looksL (sgN s) l) := if_pos hc
    have hlen := looksL_len hok.spans
    have hn := sgN_le s
    have hs := hok.size
    repeat' (first | (with_reducible refine ⟨(s, l), ⟨(.cons (.agg (.cons (.v _) (.cons (.lent _ _ _ _ _ _) .nil))) .nil), ?_⟩, ?_⟩) | (with_reducible refine ⟨_, ⟨(.cons (.lent _ _ _ _ _ _) .nil), ?_⟩, ?_⟩) | (with_reducible first | exact fun h => h | refine ExE.row (by with_unfolding_all rfl) ?_ | refine And.intro ?_ ?_) | ((with_reducible intro hq); first | exact bne1 hq (by with_reducible assumption) | exact bne1 (by with_reducible assumption) hq | ((simp only [*, BB, cond_true, cond_false, reduceCtorEq] at hq); done) | (revert hq; with_reducible intro _)) | (with_reducible first | exact True.intro | rfl | refine EntLe.row ?_ | exact LeN.ro rfl | exact LeN.rptr | assumption) | ((with_reducible first | refine WkX.chk ?_ | refine Wk.chk ?_ | refine LeL.chk ?_ | refine LeF.chk ?_ | refine Run.mk ?_); (conv => whnf)) | ((with_reducible show LeO _ _); first | refine LeO.ro ?_ | refine LeO.roCap ?_ | refine LeO.nil ?_ (fun _ => rfl)) | ((with_reducible show LeR _ _ _); first | refine LeR.own rfl rfl rfl ?_ | refine LeR.view rfl rfl rfl ?_ ?_ | refine LeR.ro ?_ | refine LeR.roCap ?_ | refine LeR.nil ?_ (fun _ => rfl)) | ((with_reducible first | show drawOK _ _ = true | show lateOK _ _ = true | show drawOK2 _ _ = true | show drawOK3 _ _ = true); kernel_rfl))
    all_goals first
      | exact hok
      | exact hr.symm
      | exact hc.symm
      | (dsimp only; omega)
      | trace_state
  · have k1 : (chkN s.size l (sgN s : Nat) != 0) = true := by simpa using hc
    have hr : runsA s l = [] := if_neg hc
    repeat' (first | (with_reducible refine ⟨(s, l), ⟨(.cons (.agg (.cons (.v _) (.cons (.lent _ _ _ _ _ _) .nil))) .nil), ?_⟩, ?_⟩) | (with_reducible refine ⟨_, ⟨(.cons (.lent _ _ _ _ _ _) .nil), ?_⟩, ?_⟩) | (with_reducible first | exact fun h => h | refine ExE.row (by with_unfolding_all rfl) ?_ | refine And.intro ?_ ?_) | ((with_reducible intro hq); first | exact bne1 hq (by with_reducible assumption) | exact bne1 (by with_reducible assumption) hq | ((simp only [*, BB, cond_true, cond_false, reduceCtorEq] at hq); done) | (revert hq; with_reducible intro _)) | (with_reducible first | exact True.intro | rfl | refine EntLe.row ?_ | exact LeN.ro rfl | exact LeN.rptr | assumption) | ((with_reducible first | refine WkX.chk ?_ | refine Wk.chk ?_ | refine LeL.chk ?_ | refine LeF.chk ?_ | refine Run.mk ?_); (conv => whnf)) | ((with_reducible show LeO _ _); first | refine LeO.ro ?_ | refine LeO.roCap ?_ | refine LeO.nil ?_ (fun _ => rfl)) | ((with_reducible show LeR _ _ _); first | refine LeR.own rfl rfl rfl ?_ | refine LeR.view rfl rfl rfl ?_ ?_ | refine LeR.ro ?_ | refine LeR.roCap ?_ | refine LeR.nil ?_ (fun _ => rfl)) | ((with_reducible first | show drawOK _ _ = true | show lateOK _ _ = true | show drawOK2 _ _ = true | show drawOK3 _ _ = true); kernel_rfl))
    all_goals first
      | exact hr.symm
      | trace_state
theorem con_rRuns7 : Con prog 34 (fun ((s, l) : ByteArray × List Spn) => [txAV s l]) (fun (s, l) => .tup [rnO (runsA s l), .v (.int .i64 (chkN s.size l (sgN s : Nat)))]) (fun _ => True) := by
  refine Con.of (by kernel_rfl) T_ok CdsOK.nil (.con con_rcheck7 (.con con_rall7 (.con con_rruns7 .nil))) 5 [] q_rRuns7.1 q_rRuns7.2.1 q_rRuns7.2.2 (fun _ => rfl) fun i hi => ?_
  obtain ⟨s, l⟩ := i
  by_cases hc : chkN s.size l (sgN s : Nat) = 0
  · have k1 : (chkN s.size l (sgN s : Nat) != 0) = false := by rw [hc]; rfl
    have hok := OkT.of hc
    have hr : runsA s l = runsL (looksL (sgN s) l) := if_pos hc
    have hlen := looksL_len hok.spans
    have hn := sgN_le s
    have hs := hok.size
    repeat' (first | (with_reducible refine ⟨(s, l), ⟨(.cons (.agg (.cons (.v _) (.cons (.lent _ _ _ _ _ _) .nil))) .nil), ?_⟩, ?_⟩) | (with_reducible refine ⟨_, ⟨(.cons (.lent _ _ _ _ _ _) .nil), ?_⟩, ?_⟩) | (with_reducible first | exact fun h => h | refine ExE.row (by with_unfolding_all rfl) ?_ | refine And.intro ?_ ?_) | ((with_reducible intro hq); first | exact bne1 hq (by with_reducible assumption) | exact bne1 (by with_reducible assumption) hq | ((simp only [*, BB, cond_true, cond_false, reduceCtorEq] at hq); done) | (revert hq; with_reducible intro _)) | (with_reducible first | exact True.intro | rfl | refine EntLe.row ?_ | exact LeN.ro rfl | exact LeN.rptr | assumption) | ((with_reducible first | refine WkX.chk ?_ | refine Wk.chk ?_ | refine LeL.chk ?_ | refine LeF.chk ?_ | refine Run.mk ?_); (conv => whnf)) | ((with_reducible show LeO _ _); first | refine LeO.ro ?_ | refine LeO.roCap ?_ | refine LeO.nil ?_ (fun _ => rfl)) | ((with_reducible show LeR _ _ _); first | refine LeR.own rfl rfl rfl ?_ | refine LeR.view rfl rfl rfl ?_ ?_ | refine LeR.ro ?_ | refine LeR.roCap ?_ | refine LeR.nil ?_ (fun _ => rfl)) | ((with_reducible first | show drawOK _ _ = true | show lateOK _ _ = true | show drawOK2 _ _ = true | show drawOK3 _ _ = true); kernel_rfl))
    all_goals first
      | exact hok
      | exact hr.symm
      | exact hc.symm
      | (dsimp only; omega)
      | trace_state
  · have k1 : (chkN s.size l (sgN s : Nat) != 0) = true := by simpa using hc
    have hr : runsA s l = [] := if_neg hc
    repeat' (first | (with_reducible refine ⟨(s, l), ⟨(.cons (.agg (.cons (.v _) (.cons (.lent _ _ _ _ _ _) .nil))) .nil), ?_⟩, ?_⟩) | (with_reducible refine ⟨_, ⟨(.cons (.lent _ _ _ _ _ _) .nil), ?_⟩, ?_⟩) | (with_reducible first | exact fun h => h | refine ExE.row (by with_unfolding_all rfl) ?_ | refine And.intro ?_ ?_) | ((with_reducible intro hq); first | exact bne1 hq (by with_reducible assumption) | exact bne1 (by with_reducible assumption) hq | ((simp only [*, BB, cond_true, cond_false, reduceCtorEq] at hq); done) | (revert hq; with_reducible intro _)) | (with_reducible first | exact True.intro | rfl | refine EntLe.row ?_ | exact LeN.ro rfl | exact LeN.rptr | assumption) | ((with_reducible first | refine WkX.chk ?_ | refine Wk.chk ?_ | refine LeL.chk ?_ | refine LeF.chk ?_ | refine Run.mk ?_); (conv => whnf)) | ((with_reducible show LeO _ _); first | refine LeO.ro ?_ | refine LeO.roCap ?_ | refine LeO.nil ?_ (fun _ => rfl)) | ((with_reducible show LeR _ _ _); first | refine LeR.own rfl rfl rfl ?_ | refine LeR.view rfl rfl rfl ?_ ?_ | refine LeR.ro ?_ | refine LeR.roCap ?_ | refine LeR.nil ?_ (fun _ => rfl)) | ((with_reducible first | show drawOK _ _ = true | show lateOK _ _ = true | show drawOK2 _ _ = true | show drawOK3 _ _ = true); kernel_rfl))
    all_goals first
      | exact hr.symm
      | trace_state
end Go.SX.Try
/- Signs of two texts behind one another: where they melt; how long signs are. No program here. -/
namespace Go.SX.Plain
theorem app_size (a b : ByteArray) : (a ++ b).size = a.size + b.size := ByteArray.size_append
theorem app_extract_l (a b : ByteArray) (p : Nat) : (a ++ b).extract p a.size = a.extract p a.size := by
  apply ByteArray.ext
  rw [ByteArray.data_extract, ByteArray.data_extract, ByteArray.data_append]
  apply Array.ext'
  simp [Array.toList_extract]
theorem app_extract_r (a b : ByteArray) (q : Nat) : (a ++ b).extract (a.size + q) (a ++ b).size = b.extract q b.size := by
  apply ByteArray.ext
  rw [ByteArray.data_extract, ByteArray.data_extract, ByteArray.data_append, app_size]
  apply Array.ext'
  have : a.data.size = a.size := rfl
  simp [Array.toList_extract]
/-- A sign of both that ends within the first is a sign of the first. -/
theorem dec_l {a b : ByteArray} {p : Nat} (hp : p < a.size) (hw : p + (Utf8.decode (a ++ b) p).2 ≤ a.size) : Utf8.decode (a ++ b) p = Utf8.decode a p := by
  have h1 := decode_extract (s := a ++ b) (p := p) (e := a.size) hp (by rw [app_size]; omega) hw
  have h2 := decode_extract (s := a) (p := p) (e := a.size) hp (Nat.le_refl _) (width_le hp)
  rw [app_extract_l] at h1
  rw [← h1, h2]
theorem dec_r {a b : ByteArray} {q : Nat} (hq : q < b.size) : Utf8.decode (a ++ b) (a.size + q) = Utf8.decode b q := by
  have hlt : a.size + q < (a ++ b).size := by rw [app_size]; omega
  have h1 := decode_extract (s := a ++ b) (p := a.size + q) (e := (a ++ b).size) hlt (Nat.le_refl _) (width_le hlt)
  have h2 := decode_extract (s := b) (p := q) (e := b.size) hq (Nat.le_refl _) (width_le hq)
  rw [app_extract_r] at h1
  rw [← h1, h2]
def overB (a b : ByteArray) (p : Nat) : Bool := decide (p < a.size) && decide (a.size < p + (Utf8.decode (a ++ b) p).2)
/-- Does a sign of both lie over the seam? -/
def meltFrom (a b : ByteArray) (pos : Nat) : Bool := (signsFrom (a ++ b) pos).any fun p => overB a b p.1
def meltB (a b : ByteArray) : Bool := meltFrom a b 0
theorem melt_step {a b : ByteArray} {pos : Nat} (h : pos < (a ++ b).size) : meltFrom a b pos = (overB a b pos || meltFrom a b (pos + (Utf8.decode (a ++ b) pos).2)) := by
  unfold meltFrom
  rw [signsFrom_step h, List.any_cons]
theorem melt_end {a b : ByteArray} {pos : Nat} (h : ¬ pos < (a ++ b).size) : meltFrom a b pos = false := by
  unfold meltFrom
  rw [signsFrom_end h]
  rfl
def shf (n : Nat) (x : Sgn) : Sgn := ⟨x.at + n, x.len, x.rune, x.bad⟩
def sgnsF (s : ByteArray) (pos : Nat) : List Sgn := (signsFrom s pos).map fun p => sgnAt s p.1
theorem sgnsF_step {s : ByteArray} {pos : Nat} (h : pos < s.size) : sgnsF s pos = sgnAt s pos :: sgnsF s (pos + (Utf8.decode s pos).2) := by
  unfold sgnsF
  rw [signsFrom_step h, List.map_cons]
theorem sgnsF_end {s : ByteArray} {pos : Nat} (h : ¬ pos < s.size) : sgnsF s pos = [] := by
  unfold sgnsF
  rw [signsFrom_end h]
  rfl
theorem sgnsF_r (a b : ByteArray) : ∀ (k q : Nat), b.size - q ≤ k → sgnsF (a ++ b) (a.size + q) = (sgnsF b q).map (shf a.size)
  | 0, q, h => by rw [sgnsF_end (by rw [app_size]; omega), sgnsF_end (by omega)]; rfl
  | k + 1, q, h => by
    by_cases hq : q < b.size
    · have hd := dec_r (a := a) hq
      have hw := width_pos b q
      rw [sgnsF_step (by rw [app_size]; omega), sgnsF_step hq, List.map_cons, hd, Nat.add_assoc, sgnsF_r a b k _ (by omega)]
      congr 1
      simp only [sgnAt, shf, hd, Sgn.mk.injEq, and_true]
      omega
    · rw [sgnsF_end (by rw [app_size]; omega), sgnsF_end hq]; rfl
theorem sgnsF_l (a b : ByteArray) : ∀ (k pos : Nat), a.size - pos ≤ k → pos ≤ a.size → meltFrom a b pos = false → sgnsF (a ++ b) pos = sgnsF a pos ++ (sgnsF b 0).map (shf a.size)
  | 0, pos, h, hp, _ => by
    obtain rfl : pos = a.size := by omega
    rw [sgnsF_end (s := a) (by omega), List.nil_append]
    exact sgnsF_r a b b.size 0 (by omega)
  | k + 1, pos, h, hp, hm => by
    by_cases hlt : pos < a.size
    · rw [melt_step (by rw [app_size]; omega), Bool.or_eq_false_iff] at hm
      obtain ⟨h1, h2⟩ := hm
      have hw := width_pos (a ++ b) pos
      have hle : pos + (Utf8.decode (a ++ b) pos).2 ≤ a.size := by
        unfold overB at h1
        rw [decide_eq_true hlt, Bool.true_and, decide_eq_false_iff_not] at h1
        omega
      have hd := dec_l hlt hle
      rw [sgnsF_step (by rw [app_size]; omega), sgnsF_step hlt, List.cons_append]
      rw [sgnsF_l a b k _ (by omega) hle h2, hd]
      congr 1
      simp only [sgnAt, hd]
    · obtain rfl : pos = a.size := by omega
      rw [sgnsF_end (s := a) (by omega), List.nil_append]
      exact sgnsF_r a b b.size 0 (by omega)
theorem sgnsF_at {s : ByteArray} : ∀ (k pos : Nat), s.size - pos ≤ k → ∀ x ∈ sgnsF s pos, ∃ p, p < s.size ∧ x = sgnAt s p
  | 0, pos, h, x, hx => by rw [sgnsF_end (by omega)] at hx; cases hx
  | k + 1, pos, h, x, hx => by
    by_cases hp : pos < s.size
    · rw [sgnsF_step hp] at hx
      rcases List.mem_cons.1 hx with rfl | hx
      · exact ⟨pos, hp, rfl⟩
      · have := width_pos s pos
        exact sgnsF_at k _ (by omega) x hx
    · rw [sgnsF_end hp] at hx; cases hx
theorem melt_mem {a b : ByteArray} : ∀ (k pos : Nat), (a ++ b).size - pos ≤ k → meltFrom a b pos = true → ∃ p, sgnAt (a ++ b) p ∈ sgnsF (a ++ b) pos ∧ overB a b p = true
  | 0, pos, h, hm => by rw [melt_end (by omega)] at hm; cases hm
  | k + 1, pos, h, hm => by
    by_cases hp : pos < (a ++ b).size
    · rw [melt_step hp, Bool.or_eq_true] at hm
      rw [sgnsF_step hp]
      rcases hm with h1 | h1
      · exact ⟨pos, List.mem_cons_self .., h1⟩
      · have := width_pos (a ++ b) pos
        obtain ⟨p, h2, h3⟩ := melt_mem k _ (by omega) h1
        exact ⟨p, List.mem_cons_of_mem _ h2, h3⟩
    · rw [melt_end hp] at hm; cases hm
/-- Two texts melt where the signs of both are not theirs. -/
theorem melt_iff (a b : ByteArray) : meltB a b = false ↔ sgns (a ++ b) = sgns a ++ (sgns b).map (shf a.size) := by
  constructor
  · exact fun h => sgnsF_l a b a.size 0 (by omega) (by omega) h
  · intro h
    cases hm : meltB a b with
    | false => rfl
    | true =>
      exfalso
      obtain ⟨p, h1, h2⟩ := melt_mem (a ++ b).size 0 (by omega) hm
      have h1 : sgnAt (a ++ b) p ∈ sgns (a ++ b) := h1
      unfold overB at h2
      rw [Bool.and_eq_true, decide_eq_true_eq, decide_eq_true_eq] at h2
      rw [h] at h1
      rcases List.mem_append.1 h1 with h3 | h3
      · obtain ⟨q, h4, h5⟩ := sgnsF_at (s := a) a.size 0 (by omega) _ h3
        have hat : ((p : Nat) : Int) = q := congrArg Sgn.at h5
        have hlen : (((Utf8.decode (a ++ b) p).2 : Nat) : Int) = (Utf8.decode a q).2 := congrArg Sgn.len h5
        have := width_le h4
        omega
      · obtain ⟨x, hx, hx2⟩ := List.mem_map.1 h3
        obtain ⟨q, h4, rfl⟩ := sgnsF_at (s := b) b.size 0 (by omega) _ hx
        have hat : ((q : Nat) : Int) + a.size = p := congrArg Sgn.at hx2
        omega
/-- How many bytes a rune takes. -/
def runeLenI (r : Int) : Int := if r < 0 then -1 else if r ≤ 127 then 1 else if r ≤ 2047 then 2 else if 55296 ≤ r ∧ r ≤ 57343 then -1 else if r ≤ 65535 then 3 else if r ≤ 1114111 then 4 else -1
theorem dec_len (s : ByteArray) (i : Nat) : Utf8.decode s i = (65533, 1) ∨ (runeLenI ((Utf8.decode s i).1 : Nat) = ((Utf8.decode s i).2 : Nat) ∧ (((Utf8.decode s i).1 : Nat) : Int) ≤ 1114111) := by
  rcases longI_cases (bt s i) with h | h | h
  · exact .inl (dec_0 h)
  · right
    have hb := bt_bd s i
    have h0 : bt s i < 128 := by
      unfold longI at h
      repeat' split at h
      all_goals omega
    rw [dec_1 h]
    simp only
    rw [Int.toNat_of_nonneg hb.1]
    unfold runeLenI
    refine ⟨?_, by omega⟩
    rw [if_neg (by omega), if_pos (by omega)]
    rfl
  · by_cases h2 : i + 1 < s.size ∧ secondB (bt s i) (bt s (i + 1)) = true
    · obtain ⟨a1, a2, a3, a4, a5, a6⟩ := second_yes h2.2
      rcases h with h | h | h
      · right
        have h0 : 194 ≤ bt s i ∧ bt s i ≤ 223 := by
          unfold longI at h
          repeat' split at h
          all_goals omega
        obtain ⟨hd, b1, b2⟩ := dec_2 h h2.1 h2.2
        rw [hd]
        simp only
        rw [Int.toNat_of_nonneg b1]
        unfold runeLenI
        refine ⟨?_, by omega⟩
        rw [if_neg (by omega), if_neg (by omega), if_pos (by omega)]
        rfl
      · by_cases m2 : moreB s (i + 2) = true
        · right
          have h0 : 224 ≤ bt s i ∧ bt s i ≤ 239 := by
            unfold longI at h
            repeat' split at h
            all_goals omega
          obtain ⟨c1, c2, c3⟩ := moreB_yes m2
          obtain ⟨hd, b1, b2⟩ := dec_3 h h2.1 h2.2 m2
          rw [hd]
          simp only
          rw [Int.toNat_of_nonneg b1]
          unfold runeLenI
          refine ⟨?_, by omega⟩
          rw [if_neg (by omega), if_neg (by omega), if_neg (by omega), if_neg (by omega), if_pos (by omega)]
          rfl
        · exact .inl (more_no2 (by omega) (by simpa using m2))
      · by_cases m2 : moreB s (i + 2) = true
        · by_cases m3 : moreB s (i + 3) = true
          · right
            have h0 : 240 ≤ bt s i ∧ bt s i ≤ 244 := by
              unfold longI at h
              repeat' split at h
              all_goals omega
            obtain ⟨c1, c2, c3⟩ := moreB_yes m2
            obtain ⟨d1, d2, d3⟩ := moreB_yes m3
            obtain ⟨hd, b1, b2⟩ := dec_4 h h2.1 h2.2 m2 m3
            rw [hd]
            simp only
            rw [Int.toNat_of_nonneg b1]
            unfold runeLenI
            refine ⟨?_, by omega⟩
            rw [if_neg (by omega), if_neg (by omega), if_neg (by omega), if_neg (by omega), if_neg (by omega), if_pos (by omega)]
            rfl
          · exact .inl (more_no3 (by omega) (by simpa using m3))
        · exact .inl (more_no2 (by omega) (by simpa using m2))
    · exact .inl (second_no2 (by omega) h2)
theorem rune_max (s : ByteArray) (i : Nat) : (((Utf8.decode s i).1 : Nat) : Int) ≤ 1114111 := by
  rcases dec_len s i with h | h
  · rw [h]; decide
  · exact h.2
/-- Of a sign whose rune is not U+FFFD. -/
theorem dec_good {s : ByteArray} {i : Nat} (h : ¬ ((Utf8.decode s i).1 : Int) = 65533) : runeLenI ((Utf8.decode s i).1 : Nat) = ((Utf8.decode s i).2 : Nat) := by
  rcases dec_len s i with h1 | h1
  · rw [h1] at h; exact absurd rfl h
  · exact h1.1
/-- Of a sign whose rune is U+FFFD: three bytes, or one. -/
theorem dec_bad {s : ByteArray} {i : Nat} (h : ((Utf8.decode s i).1 : Int) = 65533) : (Utf8.decode s i).2 = 1 ∨ (Utf8.decode s i).2 = 3 := by
  rcases dec_len s i with h1 | h1
  · rw [h1]; exact .inl rfl
  · right
    have := h1.1
    rw [h] at this
    have h2 : runeLenI 65533 = 3 := by decide
    omega
end Go.SX.Plain
