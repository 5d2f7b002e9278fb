/- A verified symbolic executor for Go code in the model, contracts and plain laws that the proofs lean on, part 4 of 7. -/
import Derived.Test.YtjmmlngeijdknaaBX3
set_option linter.unusedVariables false
set_option linter.unusedSimpArgs false
/- How a text is broken, told plainly: the way the program goes about it. No program here. -/
namespace Go.SX.Plain
structure Bst where
  bad : Int
  places : Int
  next : Int
  ok : Bool
abbrev zB : Bst := ⟨0, 0, 0, false⟩
def before (b o : Bst) : Bool := if o.ok = false then true else if b.bad ≠ o.bad then decide (b.bad < o.bad) else decide (b.places < o.places)
def checkN (n : Nat) (width : Int) : Int := if width < 2 ∨ 200 < width then 1 else if 4096 < n then 3 else 0
/-- The cells up to the last part that is no blank; of all. -/
def scan (l : List Part) (frm : Nat) : Nat → Int × Int
  | 0 => (0, 0)
  | n + 1 => if (l.getD (frm + n) dPart).fin = true then scan l frm n
    else (if (l.getD (frm + n) dPart).blank = true then (scan l frm n).1 else (scan l frm n).2 + (l.getD (frm + n) dPart).c.cells, (scan l frm n).2 + (l.getD (frm + n) dPart).c.cells)
def Small (l : List Part) : Prop := ∀ p ∈ l, 0 ≤ p.c.cells ∧ p.c.cells ≤ 2
theorem Small.at {l : List Part} (h : Small l) (i : Nat) : 0 ≤ (l.getD i dPart).c.cells ∧ (l.getD i dPart).c.cells ≤ 2 := by
  by_cases hi : i < l.length
  · rw [List.getD_eq_getElem?_getD, List.getElem?_eq_getElem hi]; exact h _ (List.getElem_mem hi)
  · rw [List.getD_eq_getElem?_getD, List.getElem?_eq_none (by omega)]; simp
theorem scan_bd {l : List Part} (h : Small l) (frm : Nat) : ∀ n, 0 ≤ (scan l frm n).1 ∧ (scan l frm n).1 ≤ (scan l frm n).2 ∧ (scan l frm n).2 ≤ 2 * n
  | 0 => by simp [scan]
  | n + 1 => by
    obtain ⟨h1, h2, h3⟩ := scan_bd h frm n
    obtain ⟨h4, h5⟩ := h.at (frm + n)
    unfold scan
    split
    · exact ⟨h1, h2, by omega⟩
    · simp only
      split <;> exact ⟨by omega, by omega, by omega⟩
def posn (P : List Nat) (k : Nat) : Nat := if k = 0 then 0 else P.getD (k - 1) 0
def fullTo (l : List Part) (P : List Nat) (k e : Nat) : Int := (scan l (posn P k) (e - posn P k)).1
def cand (l : List Part) (P : List Nat) (width : Int) (ws : List Bst) (k n : Nat) : Bst :=
  ⟨(width - fullTo l P k (P.getD n 0)) * (width - fullTo l P k (P.getD n 0)) + (ws.getD (n + 1) zB).bad + (if kindAt l (P.getD n 0) = 3 then 1048576 else 0), (ws.getD (n + 1) zB).places + 1, n, true⟩
def better (w acc : Bst) : Bst := if before w acc = true then w else acc
def endly (l : List Part) (P : List Nat) (width : Int) (k : Nat) (acc : Bst) : Bst :=
  if fullTo l P k l.length ≤ width then better ⟨(width - fullTo l P k l.length) * (width - fullTo l P k l.length), 0, -1, true⟩ acc else acc
/-- The best one from place k - 1 on, told from place n on. -/
def inn (l : List Part) (P : List Nat) (width : Int) (ws : List Bst) (k : Nat) : Nat → Nat → Bst → Bst
  | 0, _, acc => endly l P width k acc
  | f + 1, n, acc =>
    if n < P.length then
      if fullTo l P k (P.getD n 0) ≤ width then
        if (ws.getD (n + 1) zB).ok = true then
          if kindAt l (P.getD n 0) = 1 then better (cand l P width ws k n) acc else inn l P width ws k f (n + 1) (better (cand l P width ws k n) acc)
        else if kindAt l (P.getD n 0) = 1 then acc else inn l P width ws k f (n + 1) acc
      else acc
    else endly l P width k acc
def inner (l : List Part) (P : List Nat) (width : Int) (ws : List Bst) (k n : Nat) (acc : Bst) : Bst := inn l P width ws k (P.length - n) n acc
theorem inner_step {l : List Part} {P : List Nat} {width : Int} {ws : List Bst} {k n : Nat} {acc : Bst} (h : n < P.length) : inner l P width ws k n acc =
      if fullTo l P k (P.getD n 0) ≤ width then
        if (ws.getD (n + 1) zB).ok = true then
          if kindAt l (P.getD n 0) = 1 then better (cand l P width ws k n) acc else inner l P width ws k (n + 1) (better (cand l P width ws k n) acc)
        else if kindAt l (P.getD n 0) = 1 then acc else inner l P width ws k (n + 1) acc
      else acc := by
  unfold inner
  rw [show P.length - n = (P.length - (n + 1)) + 1 by omega]
  simp only [inn]
  rw [if_pos h]
theorem inner_end {l : List Part} {P : List Nat} {width : Int} {ws : List Bst} {k n : Nat} {acc : Bst} (h : ¬ n < P.length) : inner l P width ws k n acc = endly l P width k acc := by
  unfold inner
  rw [show P.length - n = 0 by omega]
  rfl
/-- The table, its last c entries reckoned. -/
def tab (l : List Part) (P : List Nat) (width : Int) : Nat → List Bst
  | 0 => List.replicate (P.length + 1) zB
  | c + 1 => (tab l P width c).set (P.length - c) (inner l P width (tab l P width c) (P.length - c) (P.length - c) zB)
theorem tab_len (l : List Part) (P : List Nat) (width : Int) : ∀ c, (tab l P width c).length = P.length + 1
  | 0 => by simp [tab]
  | c + 1 => by simp [tab, tab_len l P width c]
/-- What is known of an entry. -/
structure Gd (N : Nat) (ws : List Bst) (j : Nat) (b : Bst) : Prop where
  b0 : 0 ≤ b.bad
  b1 : b.bad ≤ ((N + 1 - j : Nat) : Int) * 2000000
  p0 : 0 ≤ b.places
  p1 : b.places ≤ ((N + 1 - j : Nat) : Int)
  nx : b.ok = true → b.next = -1 ∨ ∃ n : Nat, b.next = n ∧ j ≤ n ∧ n < N ∧ (ws.getD (n + 1) zB).ok = true
theorem Gd.zero (N : Nat) (ws : List Bst) (j : Nat) : Gd N ws j zB := ⟨by simp, by simp only; omega, by simp, by simp only; omega, fun h => by cases h⟩
theorem sq_bd {x y : Int} (h0 : 0 ≤ x) (h1 : x ≤ y) : 0 ≤ x * x ∧ x * x ≤ y * y := ⟨Int.mul_nonneg h0 h0, Int.mul_le_mul h1 h1 h0 (by omega)⟩
theorem fullTo_bd {l : List Part} (h : Small l) (P : List Nat) (k e : Nat) : 0 ≤ fullTo l P k e := (scan_bd h _ _).1
theorem Gd.cand {l : List Part} {P : List Nat} {width : Int} {ws : List Bst} {k n : Nat} (hs : Small l) (hw : width ≤ 200) (hf : fullTo l P k (P.getD n 0) ≤ width) (hk : k ≤ n) (hn : n < P.length)
    (ho : Gd P.length ws (n + 1) (ws.getD (n + 1) zB)) (hok : (ws.getD (n + 1) zB).ok = true) : Gd P.length ws k (cand l P width ws k n) := by
  have h0 := fullTo_bd hs P k (P.getD n 0)
  have hq := sq_bd (x := width - fullTo l P k (P.getD n 0)) (y := 200) (by omega) (by omega)
  obtain ⟨b0, b1, p0, p1, _⟩ := ho
  unfold Plain.cand
  refine ⟨?_, ?_, ?_, ?_, fun _ => .inr ⟨n, rfl, hk, hn, hok⟩⟩
  · simp only; split <;> omega
  · simp only
    have : ((P.length + 1 - k : Nat) : Int) ≥ ((P.length + 1 - (n + 1) : Nat) : Int) + 1 := by omega
    split <;> omega
  · simp only; omega
  · simp only; omega
theorem Gd.better {N : Nat} {ws : List Bst} {j : Nat} {a b : Bst} (ha : Gd N ws j a) (hb : Gd N ws j b) : Gd N ws j (better a b) := by
  unfold Plain.better; split <;> assumption
theorem Gd.endly {l : List Part} {P : List Nat} {width : Int} {ws : List Bst} {k : Nat} {acc : Bst} (hs : Small l) (hw : width ≤ 200) (hk : k ≤ P.length) (ha : Gd P.length ws k acc) : Gd P.length ws k (endly l P width k acc) := by
  unfold Plain.endly
  split
  · rename_i hf
    have h0 := fullTo_bd hs P k l.length
    have hq := sq_bd (x := width - fullTo l P k l.length) (y := 200) (by omega) (by omega)
    exact Gd.better ⟨hq.1, by simp only; omega, by simp, by simp only; omega, fun _ => .inl rfl⟩ ha
  · exact ha
theorem Gd.inn {l : List Part} {P : List Nat} {width : Int} {ws : List Bst} {k : Nat} (hs : Small l) (hw : width ≤ 200) (hk : k ≤ P.length) (hws : ∀ j, k < j → Gd P.length ws j (ws.getD j zB)) : ∀ (f n : Nat) {acc : Bst}, k ≤ n → Gd P.length ws k acc →
    Gd P.length ws k (inn l P width ws k f n acc)
  | 0, n, acc, _, ha => Gd.endly hs hw hk ha
  | f + 1, n, acc, hn, ha => by
    simp only [Plain.inn]
    split
    · rename_i hlt
      split
      · rename_i hf
        split
        · rename_i hok
          have hc := Gd.better (Gd.cand hs hw hf hn hlt (hws (n + 1) (by omega)) hok) ha
          split
          · exact hc
          · exact Gd.inn hs hw hk hws f (n + 1) (by omega) hc
        · split
          · exact ha
          · exact Gd.inn hs hw hk hws f (n + 1) (by omega) ha
      · exact ha
    · exact Gd.endly hs hw hk ha
/-- Entries further on are as they were. -/
theorem getD_set_ne {α : Type} (l : List α) (i j : Nat) (x d : α) (h : i ≠ j) : (l.set i x).getD j d = l.getD j d := by
  simp [List.getElem?_set_ne h]
theorem getD_set_eq {α : Type} (l : List α) (i : Nat) (x d : α) (h : i < l.length) : (l.set i x).getD i d = x := by
  simp [h]
theorem Gd.set {N : Nat} {ws : List Bst} {j i : Nat} {b x : Bst} (h : Gd N ws j b) (hi : i ≤ j) : Gd N (ws.set i x) j b :=
  ⟨h.b0, h.b1, h.p0, h.p1, fun hok => (h.nx hok).imp (fun h => h) fun ⟨n, h1, h2, h3, h4⟩ => ⟨n, h1, h2, h3, by rw [getD_set_ne _ _ _ _ _ (by omega)]; exact h4⟩⟩
theorem tab_gd {l : List Part} {P : List Nat} {width : Int} (hs : Small l) (hw : width ≤ 200) : ∀ c j, c ≤ P.length + 1 → P.length + 1 ≤ c + j → Gd P.length (tab l P width c) j ((tab l P width c).getD j zB)
  | 0, j, _, h => by
    have : (tab l P width 0).getD j zB = zB := by simp only [tab, List.getD_eq_getElem?_getD, List.getElem?_replicate]; split <;> rfl
    rw [this]; exact Gd.zero _ _ _
  | c + 1, j, hc, h => by
    have hlen := tab_len l P width c
    by_cases hj : j = P.length - c
    · subst hj
      have e : (tab l P width (c + 1)).getD (P.length - c) zB = inner l P width (tab l P width c) (P.length - c) (P.length - c) zB := by
        simp only [tab]
        exact getD_set_eq _ _ _ _ (by omega)
      rw [e]
      exact (Gd.inn hs hw (by omega) (fun j hj => tab_gd hs hw c j (by omega) (by omega)) _ _ (Nat.le_refl _) (Gd.zero _ _ _)).set (Nat.le_refl _)
    · have e : (tab l P width (c + 1)).getD j zB = (tab l P width c).getD j zB := by
        simp only [tab]
        exact getD_set_ne _ _ _ _ _ (by omega)
      rw [e]
      exact (tab_gd hs hw c j (by omega) (by omega)).set (by omega)

theorem plcs_mem {l : List Part} {k i : Nat} : i ∈ plcs l k ↔ i < k ∧ 0 < i ∧ kindAt l i ≠ 0 := by simp [plcs]
theorem plcs_sorted (l : List Part) (k : Nat) : (plcs l k).Pairwise (· < ·) := List.Pairwise.filter _ List.pairwise_lt_range
theorem sorted_lt {P : List Nat} (h : P.Pairwise (· < ·)) {i j : Nat} (hij : i < j) (hj : j < P.length) : P.getD i 0 < P.getD j 0 := by
  have := List.pairwise_iff_getElem.1 h i j (by omega) hj hij
  simpa [List.getD_eq_getElem?_getD, hj, show i < P.length by omega] using this
theorem getD_mem {P : List Nat} {i : Nat} (h : i < P.length) : P.getD i 0 ∈ P := by
  simp [List.getD_eq_getElem?_getD, h]
/-- Between two places there is none. -/
theorem gap {l : List Part} {k i : Nat} (hk : k ≤ (plcs l (l.length + 1)).length) (h1 : posn (plcs l (l.length + 1)) k < i) (h2 : k < (plcs l (l.length + 1)).length → i < (plcs l (l.length + 1)).getD k 0) (hi : i ≤ l.length) : kindAt l i = 0 := by
  have hs := plcs_sorted l (l.length + 1)
  have hm := @plcs_mem l (l.length + 1) i
  revert h1 h2 hm hs hk
  generalize plcs l (l.length + 1) = P
  intro hk h1 h2 hs hm
  refine Classical.byContradiction fun hc => ?_
  obtain ⟨m, hm1, hm2⟩ := List.getElem_of_mem (hm.2 ⟨by omega, by omega, hc⟩)
  have hm3 : P.getD m 0 = i := by simp [List.getD_eq_getElem?_getD, hm1, hm2]
  by_cases hmk : m < k
  · have : P.getD m 0 ≤ posn P k := by
      unfold posn
      rw [if_neg (by omega)]
      by_cases he : m = k - 1
      · rw [he]; exact Nat.le_refl _
      · exact Nat.le_of_lt (sorted_lt hs (by omega) (by omega))
    omega
  · have : P.getD k 0 ≤ P.getD m 0 := by
      by_cases he : m = k
      · rw [he]; exact Nat.le_refl _
      · exact Nat.le_of_lt (sorted_lt hs (by omega) hm1)
    have := h2 (by omega)
    omega
theorem kind0 {l : List Part} {i : Nat} (h : kindAt l i = 0) (hi : i < l.length) : (l.getD i dPart).fin = true ∨ (l.getD i dPart).blank = true := by
  unfold kindAt at h
  split at h
  · cases h
  · rw [if_neg (by omega)] at h
    split at h
    · rename_i h1; simpa using h1
    · split at h
      · cases h
      · split at h
        · cases h
        · split at h <;> cases h
theorem scan_gap {l : List Part} (hs : Small l) {frm e : Nat} (he : e ≤ l.length) (h : ∀ i, frm < i → i < e → kindAt l i = 0) : ∀ n, frm + n ≤ e → (scan l frm n).1 ≤ 2
  | 0, _ => by simp [scan]
  | 1, _ => by have := scan_bd hs frm 1; omega
  | n + 2, hn => by
    have ih := scan_gap hs he h (n + 1) (by omega)
    have hk := kind0 (h (frm + (n + 1)) (by omega) (by omega)) (by omega)
    unfold scan
    rcases hk with hk | hk
    · rw [if_pos hk]; exact ih
    · split
      · exact ih
      · simp only
        first
          | exact ih
          | (rw [if_pos hk]; exact ih)
theorem plcs_le {l : List Part} {k i : Nat} (h : i < (plcs l k).length) : (plcs l k).getD i 0 < k ∧ 0 < (plcs l k).getD i 0 ∧ kindAt l ((plcs l k).getD i 0) ≠ 0 := plcs_mem.1 (getD_mem h)
theorem posn_le {l : List Part} {k : Nat} (h : k ≤ (plcs l (l.length + 1)).length) : posn (plcs l (l.length + 1)) k ≤ l.length := by
  unfold posn
  split
  · omega
  · have := plcs_le (l := l) (k := l.length + 1) (i := k - 1) (by omega); omega
theorem posn_lt {l : List Part} {k : Nat} (h : k < (plcs l (l.length + 1)).length) : posn (plcs l (l.length + 1)) k < (plcs l (l.length + 1)).getD k 0 := by
  unfold posn
  split
  · rename_i h0; subst h0; exact (plcs_le h).2.1
  · exact sorted_lt (plcs_sorted _ _) (by omega) h
theorem posn_succ (P : List Nat) (k : Nat) : posn P (k + 1) = P.getD k 0 := by simp [posn]
theorem full_place {l : List Part} (hs : Small l) {k : Nat} (hk : k < (plcs l (l.length + 1)).length) : fullTo l (plcs l (l.length + 1)) k ((plcs l (l.length + 1)).getD k 0) ≤ 2 := by
  have h1 := plcs_le hk
  have h2 := posn_lt hk
  exact scan_gap (e := (plcs l (l.length + 1)).getD k 0) hs (by omega) (fun i hi hj => gap (Nat.le_of_lt hk) hi (fun _ => hj) (by omega)) _ (by omega)
theorem full_end {l : List Part} (hs : Small l) : fullTo l (plcs l (l.length + 1)) (plcs l (l.length + 1)).length l.length ≤ 2 := by
  have := posn_le (l := l) (Nat.le_refl _)
  exact scan_gap (e := l.length) hs (Nat.le_refl _) (fun i hi hj => gap (Nat.le_refl _) hi (fun h => by omega) (by omega)) _ (by omega)
theorem better_ok {w acc : Bst} (hw : w.ok = true) : (better w acc).ok = true := by
  unfold better
  split
  · exact hw
  · rename_i h
    unfold before at h
    split at h
    · exact absurd rfl h
    · simp_all
theorem endly_ok {l : List Part} {P : List Nat} {width : Int} {k : Nat} {acc : Bst} (h : acc.ok = true ∨ fullTo l P k l.length ≤ width) : (endly l P width k acc).ok = true := by
  unfold endly
  split
  · exact better_ok rfl
  · rename_i h1; exact h.resolve_right h1
theorem inn_ok {l : List Part} {P : List Nat} {width : Int} {ws : List Bst} {k : Nat} : ∀ (f n : Nat) {acc : Bst}, acc.ok = true → (inn l P width ws k f n acc).ok = true
  | 0, n, acc, h => endly_ok (.inl h)
  | f + 1, n, acc, h => by
    have hb := better_ok (w := cand l P width ws k n) (acc := acc) rfl
    simp only [inn]
    split
    · split
      · split
        · split
          · exact hb
          · exact inn_ok f (n + 1) hb
        · split
          · exact h
          · exact inn_ok f (n + 1) h
      · exact h
    · exact endly_ok (.inl h)
theorem tab_ok {l : List Part} {width : Int} (hs : Small l) (hw : 2 ≤ width) : ∀ c j, c ≤ (plcs l (l.length + 1)).length + 1 → (plcs l (l.length + 1)).length + 1 ≤ c + j → j ≤ (plcs l (l.length + 1)).length → ((tab l (plcs l (l.length + 1)) width c).getD j zB).ok = true
  | 0, j, _, h, hj => by omega
  | c + 1, j, hc, h, hjl => by
    have hlen := tab_len l (plcs l (l.length + 1)) width c
    by_cases hj : j = (plcs l (l.length + 1)).length - c
    · have e : (tab l (plcs l (l.length + 1)) width (c + 1)).getD j zB = inner l (plcs l (l.length + 1)) width (tab l (plcs l (l.length + 1)) width c) j j zB := by
        simp only [tab, ← hj]
        exact getD_set_eq _ _ _ _ (by omega)
      rw [e]
      by_cases hlt : j < (plcs l (l.length + 1)).length
      · rw [inner_step hlt, if_pos (Int.le_trans (full_place hs hlt) hw), if_pos (tab_ok hs hw c (j + 1) (by omega) (by omega) (by omega))]
        have hb := better_ok (w := cand l (plcs l (l.length + 1)) width (tab l (plcs l (l.length + 1)) width c) j j) (acc := zB) rfl
        split
        · exact hb
        · exact inn_ok _ _ hb
      · rw [inner_end hlt]
        have : j = (plcs l (l.length + 1)).length := by omega
        subst this
        exact endly_ok (.inr (Int.le_trans (full_end hs) hw))
    · have e : (tab l (plcs l (l.length + 1)) width (c + 1)).getD j zB = (tab l (plcs l (l.length + 1)) width c).getD j zB := by
        simp only [tab]
        exact getD_set_ne _ _ _ _ _ (by omega)
      rw [e]
      exact tab_ok hs hw c j (by omega) (by omega) hjl
/-- The way: from a number among the places on; -1: the end. -/
def wayGo (ws : List Bst) : Nat → Int → List Nat
  | 0, _ => []
  | f + 1, n => if 0 ≤ n then n.toNat :: wayGo ws f (ws.getD (n + 1).toNat zB).next else []
/-- How far the end is. -/
def far (N : Nat) (n : Int) : Nat := if 0 ≤ n then N - n.toNat else 0
def wayOf (N : Nat) (ws : List Bst) (n : Int) : List Nat := wayGo ws (far N n) n
structure Nx (N : Nat) (ws : List Bst) (n : Int) : Prop where
  out : n = -1 ∨ ∃ m : Nat, n = m ∧ m < N ∧ (ws.getD (m + 1) zB).ok = true
theorem wayGo_fuel {N : Nat} {ws : List Bst} (hg : ∀ j, Gd N ws j (ws.getD j zB)) : ∀ (f f' : Nat) (n : Int), Nx N ws n → far N n ≤ f → far N n ≤ f' → wayGo ws f n = wayGo ws f' n
  | 0, 0, _, _, _, _ => rfl
  | 0, f' + 1, n, hn, h, _ => by
    simp only [wayGo]
    rcases hn.out with rfl | ⟨m, rfl, hm, _⟩
    · simp
    · unfold far at h; rw [if_pos (by omega)] at h; omega
  | f + 1, 0, n, hn, _, h => by
    simp only [wayGo]
    rcases hn.out with rfl | ⟨m, rfl, hm, _⟩
    · simp
    · unfold far at h; rw [if_pos (by omega)] at h; omega
  | f + 1, f' + 1, n, hn, h, h' => by
    simp only [wayGo]
    split
    · rcases hn.out with rfl | ⟨m, rfl, hm, hok⟩
      · omega
      · have e : ((m : Int) + 1).toNat = m + 1 := by omega
        rw [e]
        have hx := (hg (m + 1)).nx hok
        have hx2 : Nx N ws (ws.getD (m + 1) zB).next := ⟨hx.imp (fun h => h) fun ⟨n, h1, h2, h3, h4⟩ => ⟨n, h1, h3, h4⟩⟩
        have hfar : far N (ws.getD (m + 1) zB).next + 1 ≤ far N (m : Int) := by
          have e1 : far N (m : Int) = N - m := by unfold far; rw [if_pos (by omega)]; omega
          rw [e1]
          rcases hx with hx | ⟨n, h1, h2, h3, _⟩
          · rw [hx]; unfold far; simp; omega
          · rw [h1]; unfold far; rw [if_pos (by omega)]; omega
        rw [wayGo_fuel hg f f' _ hx2 (by omega) (by omega)]
    · rfl
theorem Nx.next {N : Nat} {ws : List Bst} {m : Nat} (hg : ∀ j, Gd N ws j (ws.getD j zB)) (hok : (ws.getD (m + 1) zB).ok = true) (hm : m < N) : Nx N ws (ws.getD (m + 1) zB).next ∧ far N (ws.getD (m + 1) zB).next < far N (m : Int) := by
  have hx := (hg (m + 1)).nx hok
  refine ⟨⟨hx.imp (fun h => h) fun ⟨n, h1, h2, h3, h4⟩ => ⟨n, h1, h3, h4⟩⟩, ?_⟩
  have e1 : far N (m : Int) = N - m := by unfold far; rw [if_pos (by omega)]; omega
  rw [e1]
  rcases hx with hx | ⟨n, h1, h2, h3, _⟩
  · rw [hx]; unfold far; simp; omega
  · rw [h1]; unfold far; rw [if_pos (by omega)]; omega
theorem wayOf_step {N : Nat} {ws : List Bst} {m : Nat} (hg : ∀ j, Gd N ws j (ws.getD j zB)) (hok : (ws.getD (m + 1) zB).ok = true) (hm : m < N) : wayOf N ws (m : Int) = m :: wayOf N ws (ws.getD (m + 1) zB).next := by
  obtain ⟨h1, h2⟩ := Nx.next hg hok hm
  unfold wayOf
  obtain ⟨f, hf⟩ : ∃ f, far N (m : Int) = f + 1 := ⟨far N (m : Int) - 1, by omega⟩
  rw [hf]
  have e : ((m : Int) + 1).toNat = m + 1 := by omega
  simp only [wayGo, e]
  rw [if_pos (by omega), wayGo_fuel hg f (far N (ws.getD (m + 1) zB).next) _ h1 (by omega) (Nat.le_refl _)]
  simp
theorem wayOf_end (N : Nat) (ws : List Bst) {n : Int} (h : n < 0) : wayOf N ws n = [] := by
  unfold wayOf far
  rw [if_neg (by omega)]
  rfl
/-- The table of a text; its way; Wrap's answer. -/
def tabOf (l : List Part) (width : Int) : List Bst := tab l (plcs l (l.length + 1)) width ((plcs l (l.length + 1)).length + 1)
def wayL (l : List Part) (width : Int) : List Nat := wayOf (plcs l (l.length + 1)).length (tabOf l width) ((tabOf l width).getD 0 zB).next
def wrapOut (l : List Part) (width : Int) : List (Int × Int) := (wayL l width).map fun n => (outL l (l.length + 1)).getD n (0, 0)
theorem tabOf_gd {l : List Part} {width : Int} (hs : Small l) (hw : width ≤ 200) (j : Nat) : Gd (plcs l (l.length + 1)).length (tabOf l width) j ((tabOf l width).getD j zB) := tab_gd hs hw _ j (Nat.le_refl _) (by omega)
theorem tabOf_ok {l : List Part} {width : Int} (hs : Small l) (hw : 2 ≤ width) {j : Nat} (hj : j ≤ (plcs l (l.length + 1)).length) : ((tabOf l width).getD j zB).ok = true := tab_ok hs hw _ j (Nat.le_refl _) (by omega) hj
end Go.SX.Plain
/- Contracts of wrap's check, before. -/
namespace Go.SX.Try
open Go.Proofs Go.Proofs.Try Go.SX.Plain
set_option maxRecDepth 100000
set_option maxHeartbeats 0
set_option linter.unusedSimpArgs false
theorem q_before : fact 43 f43 := ⟨by kernel_rfl, rfl, by kernel_rfl⟩
theorem q_check : fact 39 f39 := ⟨by kernel_rfl, rfl, by kernel_rfl⟩
abbrev bAV (b : Bst) : List AV := [.v (.int .i64 b.bad), .v (.int .i64 b.places), .v (.int .i64 b.next), .sb b.ok]
theorem con_before : Con prog 43 (fun ((a, b) : Bst × Bst) => [.agg (bAV a), .agg (bAV b)]) (fun (a, b) => .sb (before a b)) (fun _ => True) := by
  refine Con.of (by kernel_rfl) T_ok CdsOK.nil .nil 2 [] q_before.1 q_before.2.1 q_before.2.2 (fun _ => rfl) fun i _ => ?_
  obtain ⟨⟨a1, a2, a3, a4⟩, ⟨b1, b2, b3, b4⟩⟩ := i
  repeat' (first | (with_reducible exact fun h => h) | (with_reducible refine ExE.row (by with_unfolding_all rfl) ?_) | (with_reducible refine And.intro ?_ ?_) | ((with_reducible intro hq); first | (exact bne1 hq (by with_reducible assumption)) | (exact bne1 (by with_reducible assumption) hq) | ((simp only [*, Bool.and_true, Bool.true_and, Bool.and_false, Bool.false_and, Bool.or_true, Bool.true_or, Bool.or_false, Bool.false_or, Bool.not_true, Bool.not_false, Bool.true_eq_false, Bool.false_eq_true, cond_true, cond_false, Bool.cond_self, reduceCtorEq] at hq); done) | (revert hq; with_reducible intro _)) | (with_reducible exact True.intro) | (with_reducible rfl) | ((with_reducible refine WkX.chk ?_); (conv => whnf)) | ((with_reducible refine Wk.chk ?_); (conv => whnf)) | (with_reducible refine EntLe.row ?_) | (with_reducible exact LeN.ro rfl) | (with_reducible exact LeN.rptr) | ((with_reducible refine LeL.chk ?_); (conv => whnf)) | ((with_reducible show LeO _ _); (first | (refine LeO.ro ?_) | (refine LeO.roCap ?_) | (refine LeO.nil ?_ (fun _ => rfl)))) | ((with_reducible show LeR _ _ _); (first | (refine LeR.own rfl rfl rfl ?_) | (refine LeR.view rfl rfl rfl ?_ ?_) | (refine LeR.ro ?_) | (refine LeR.roCap ?_) | (refine LeR.nil ?_ (fun _ => rfl)))) | ((with_reducible refine LeF.chk ?_); (conv => whnf)) | (with_reducible assumption) | ((with_reducible refine Run.mk ?_); (conv => whnf)) | ((with_reducible show drawOK _ _ = true); kernel_rfl) | ((with_reducible show drawOK2 _ _ = true); kernel_rfl) | ((with_reducible show drawOK3 _ _ = true); kernel_rfl))
  all_goals simp_all [before]
theorem con_check : Con prog 39 (fun ((s, w) : ByteArray × Int) => [.v (.string s), .v (.int .i64 w)]) (fun (s, w) => .v (.int .i64 (checkN s.size w))) (fun _ => True) := by
  refine Con.of (by kernel_rfl) T_ok CdsOK.nil .nil 2 [] q_check.1 q_check.2.1 q_check.2.2 (fun _ => rfl) fun i _ => ?_
  obtain ⟨s, w⟩ := i
  repeat' (first | (with_reducible exact fun h => h) | (with_reducible refine ExE.row (by with_unfolding_all rfl) ?_) | (with_reducible refine And.intro ?_ ?_) | ((with_reducible intro hq); first | (exact bne1 hq (by with_reducible assumption)) | (exact bne1 (by with_reducible assumption) hq) | ((simp only [*, Bool.and_true, Bool.true_and, Bool.and_false, Bool.false_and, Bool.or_true, Bool.true_or, Bool.or_false, Bool.false_or, Bool.not_true, Bool.not_false, Bool.true_eq_false, Bool.false_eq_true, cond_true, cond_false, Bool.cond_self, reduceCtorEq] at hq); done) | (revert hq; with_reducible intro _)) | (with_reducible exact True.intro) | (with_reducible rfl) | ((with_reducible refine WkX.chk ?_); (conv => whnf)) | ((with_reducible refine Wk.chk ?_); (conv => whnf)) | (with_reducible refine EntLe.row ?_) | (with_reducible exact LeN.ro rfl) | (with_reducible exact LeN.rptr) | ((with_reducible refine LeL.chk ?_); (conv => whnf)) | ((with_reducible show LeO _ _); (first | (refine LeO.ro ?_) | (refine LeO.roCap ?_) | (refine LeO.nil ?_ (fun _ => rfl)))) | ((with_reducible show LeR _ _ _); (first | (refine LeR.own rfl rfl rfl ?_) | (refine LeR.view rfl rfl rfl ?_ ?_) | (refine LeR.ro ?_) | (refine LeR.roCap ?_) | (refine LeR.nil ?_ (fun _ => rfl)))) | ((with_reducible refine LeF.chk ?_); (conv => whnf)) | (with_reducible assumption) | ((with_reducible refine Run.mk ?_); (conv => whnf)) | ((with_reducible show drawOK _ _ = true); kernel_rfl) | ((with_reducible show drawOK2 _ _ = true); kernel_rfl) | ((with_reducible show drawOK3 _ _ = true); kernel_rfl))
  all_goals simp only [Bool.or_eq_true, Bool.or_eq_false_iff, decide_eq_true_eq, decide_eq_false_iff_not, Bool.not_eq_true'] at *
  all_goals first
    | assumption
    | (unfold checkN; repeat' split) <;> omega
end Go.SX.Try
/- What is known of a text's parts, plainly. No program here. -/
namespace Go.SX.Plain
theorem signOut_len (b : Bool) (g : Grp) (r : Int) : (signOut b g r).length ≤ if b = true then 1 else 0 := by
  unfold signOut
  split
  · rename_i h; simp [h.1]
  · simp
theorem restGo_len (s : ByteArray) : ∀ (k pos : Nat) (a w : Int) (b : Bool) (g : Grp), s.size - pos ≤ k → (restGo s k pos a w b g).length ≤ (s.size - pos) + (if 0 < pos then 1 else 0) + (if b = true then 1 else 0)
  | 0, pos, a, w, b, g, h => by
    have := signOut_len b g w
    simp only [restGo]
    split
    · simp
    · simp only [List.length_append, List.length_cons, List.length_nil]
      rw [if_pos (show 0 < pos by omega)]
      omega
  | k + 1, pos, a, w, b, g, h => by
    have ho := signOut_len b g w
    have hw := width_pos s pos
    simp only [restGo]
    split
    · split
      · rename_i h1 h2
        have ih := restGo_len s k (pos + (Utf8.decode s pos).2) pos (Utf8.decode s pos).1 true (signGrp b g a w pos) (by omega)
        rw [if_pos (by omega), if_pos rfl] at ih
        simp only [List.length_append]
        omega
      · rename_i h1 h2
        have ih := restGo_len s k (pos + (Utf8.decode s pos).2) pos (Utf8.decode s pos).1 b g (by omega)
        rw [if_pos (by omega)] at ih
        omega
    · split
      · simp
      · simp only [List.length_append, List.length_cons, List.length_nil]
        rw [if_pos (show 0 < pos by omega)]
        omega
theorem parts_len (s : ByteArray) : (parts s).length ≤ s.size := by
  have := restGo_len s s.size 0 0 0 false Grp.zero (by omega)
  simp only [parts, clusters, rest, List.length_map]
  simpa using this
def Sm (c : Clu) : Prop := 0 ≤ c.cells ∧ c.cells ≤ 2
theorem widthI_bd (r : Int) : 0 ≤ widthI r ∧ widthI r ≤ 2 := by
  unfold widthI
  split
  · simp
  · split <;> simp
theorem addG_sm {g : Grp} (h : Sm g.c) (r n : Int) : Sm (addG g r n).c := by
  have := widthI_bd r
  unfold addG
  split
  · exact this
  · split
    · exact ⟨by simp, by simp⟩
    · exact h
theorem preG_sm {b : Bool} {g : Grp} (h : Sm g.c) (a w : Int) : Sm (preG b g a w).c := by
  unfold preG
  split
  · exact ⟨by simp, by simp⟩
  · exact h
theorem signOut_sm {b : Bool} {g : Grp} (h : Sm g.c) (w : Int) : ∀ c ∈ signOut b g w, Sm c := by
  unfold signOut
  split
  · intro c hc; simp at hc; subst hc; exact h
  · intro c hc; cases hc
theorem restGo_sm (s : ByteArray) : ∀ (k pos : Nat) (a w : Int) (b : Bool) (g : Grp), Sm g.c → ∀ c ∈ restGo s k pos a w b g, Sm c
  | 0, pos, a, w, b, g, h => by
    simp only [restGo]
    split
    · intro c hc; cases hc
    · intro c hc
      rcases List.mem_append.1 hc with h1 | h1
      · exact signOut_sm h w c h1
      · simp at h1; subst h1; rw [signGrp_eq]; exact addG_sm (preG_sm h _ _) _ _
  | k + 1, pos, a, w, b, g, h => by
    have hs : Sm (signGrp b g a w pos).c := by rw [signGrp_eq]; exact addG_sm (preG_sm h _ _) _ _
    simp only [restGo]
    split
    · split
      · intro c hc
        rcases List.mem_append.1 hc with h1 | h1
        · exact signOut_sm h w c h1
        · exact restGo_sm s k _ _ _ _ _ hs c h1
      · exact restGo_sm s k _ _ _ _ _ h
    · split
      · intro c hc; cases hc
      · intro c hc
        rcases List.mem_append.1 hc with h1 | h1
        · exact signOut_sm h w c h1
        · simp at h1; subst h1; rw [signGrp_eq]; exact addG_sm (preG_sm h _ _) _ _
theorem parts_small (s : ByteArray) : Small (parts s) := by
  intro p hp
  simp only [parts, clusters, rest] at hp
  obtain ⟨c, hc, rfl⟩ := List.mem_map.1 hp
  exact restGo_sm s _ _ _ _ _ Grp.zero ⟨by simp [Grp.zero], by simp [Grp.zero]⟩ c hc
theorem atL_getD (l : List Part) (k i : Nat) : (atL l k).getD i 0 = ((plcs l k).getD i 0 : Nat) := by
  simp only [atL, List.getD_eq_getElem?_getD, List.getElem?_map]
  cases (plcs l k)[i]? <;> simp
theorem outL_getD {l : List Part} {k i : Nat} (h : i < (plcs l k).length) : (outL l k).getD i (0, 0) = ((l.getD ((plcs l k).getD i 0 - 1) dPart).c.to, kindAt l ((plcs l k).getD i 0)) := by
  simp [outL, List.getD_eq_getElem?_getD, h]
theorem atL_length (l : List Part) (k : Nat) : (atL l k).length = (plcs l k).length := by simp [atL]
theorem outL_length (l : List Part) (k : Nat) : (outL l k).length = (plcs l k).length := by simp [outL]
theorem tab_zero (l : List Part) (P : List Nat) (width : Int) : ∀ c j, j + c < P.length + 1 → (tab l P width c).getD j zB = zB
  | 0, j, _ => by
    simp only [tab, List.getD_eq_getElem?_getD, List.getElem?_replicate]; split <;> rfl
  | c + 1, j, h => by
    simp only [tab]
    rw [getD_set_ne _ _ _ _ _ (by omega)]
    exact tab_zero l P width c j (by omega)
theorem tab_set0 (l : List Part) (P : List Nat) (width : Int) {c k : Nat} (h : k + c < P.length + 1) : (tab l P width c).set k zB = tab l P width c := by
  have h1 := tab_zero l P width c k h
  have hl := tab_len l P width c
  apply List.ext_getElem
  · simp
  · intro i h2 h3
    by_cases hi : k = i
    · subst hi
      rw [List.getElem_set_self]
      have : (tab l P width c)[k]? = some (tab l P width c)[k] := List.getElem?_eq_getElem h3
      rw [List.getD_eq_getElem?_getD, this] at h1
      exact h1.symm
    · rw [List.getElem_set_ne hi]
theorem scan_fin {l : List Part} {frm j : Nat} (h : frm ≤ j) (hf : (l.getD j dPart).fin = true) : scan l frm (j + 1 - frm) = scan l frm (j - frm) := by
  rw [show j + 1 - frm = (j - frm) + 1 by omega]
  simp only [scan]
  rw [show frm + (j - frm) = j by omega, if_pos hf]
theorem scan_blank {l : List Part} {frm j : Nat} (h : frm ≤ j) (hf : (l.getD j dPart).fin = false) (hb : (l.getD j dPart).blank = true) : scan l frm (j + 1 - frm) = ((scan l frm (j - frm)).1, (scan l frm (j - frm)).2 + (l.getD j dPart).c.cells) := by
  rw [show j + 1 - frm = (j - frm) + 1 by omega]
  simp only [scan]
  rw [show frm + (j - frm) = j by omega, if_neg (by rw [hf]; exact Bool.false_ne_true), if_pos hb]
theorem scan_ink {l : List Part} {frm j : Nat} (h : frm ≤ j) (hf : (l.getD j dPart).fin = false) (hb : (l.getD j dPart).blank = false) : scan l frm (j + 1 - frm) = ((scan l frm (j - frm)).2 + (l.getD j dPart).c.cells, (scan l frm (j - frm)).2 + (l.getD j dPart).c.cells) := by
  rw [show j + 1 - frm = (j - frm) + 1 by omega]
  simp only [scan]
  rw [show frm + (j - frm) = j by omega, if_neg (by rw [hf]; exact Bool.false_ne_true), if_neg (by rw [hb]; exact Bool.false_ne_true)]
theorem posn_mono {l : List Part} {k n : Nat} (h : k ≤ n) (hn : n ≤ (plcs l (l.length + 1)).length) : posn (plcs l (l.length + 1)) k ≤ posn (plcs l (l.length + 1)) n := by
  have hs := plcs_sorted l (l.length + 1)
  unfold posn
  split
  · omega
  · rw [if_neg (by omega)]
    by_cases he : k = n
    · rw [he]; exact Nat.le_refl _
    · exact Nat.le_of_lt (sorted_lt hs (by omega) (by omega))
theorem fullTo_eq (l : List Part) (P : List Nat) (k e : Nat) : (scan l (posn P k) (e - posn P k)).1 = fullTo l P k e := rfl
section
variable {l : List Part} {P : List Nat} {width : Int} {ws : List Bst} {k n : Nat} {acc : Bst}
theorem inner_full (h : n < P.length) (hf : ¬ fullTo l P k (P.getD n 0) ≤ width) : inner l P width ws k n acc = acc := by
  rw [inner_step h, if_neg hf]
theorem inner_no_hard (h : n < P.length) (hf : fullTo l P k (P.getD n 0) ≤ width) (hok : (ws.getD (n + 1) zB).ok = false) (hk : kindAt l (P.getD n 0) = 1) : inner l P width ws k n acc = acc := by
  rw [inner_step h, if_pos hf, if_neg (by rw [hok]; exact Bool.false_ne_true), if_pos hk]
theorem inner_no (h : n < P.length) (hf : fullTo l P k (P.getD n 0) ≤ width) (hok : (ws.getD (n + 1) zB).ok = false) (hk : ¬ kindAt l (P.getD n 0) = 1) : inner l P width ws k n acc = inner l P width ws k (n + 1) acc := by
  rw [inner_step h, if_pos hf, if_neg (by rw [hok]; exact Bool.false_ne_true), if_neg hk]
theorem inner_hard (h : n < P.length) (hf : fullTo l P k (P.getD n 0) ≤ width) (hok : (ws.getD (n + 1) zB).ok = true) (hk : kindAt l (P.getD n 0) = 1) : inner l P width ws k n acc = better (cand l P width ws k n) acc := by
  rw [inner_step h, if_pos hf, if_pos hok, if_pos hk]
theorem inner_on (h : n < P.length) (hf : fullTo l P k (P.getD n 0) ≤ width) (hok : (ws.getD (n + 1) zB).ok = true) (hk : ¬ kindAt l (P.getD n 0) = 1) : inner l P width ws k n acc = inner l P width ws k (n + 1) (better (cand l P width ws k n) acc) := by
  rw [inner_step h, if_pos hf, if_pos hok, if_neg hk]
theorem better_1 {w acc : Bst} (h : before w acc = true) : better w acc = w := by unfold better; rw [if_pos h]
theorem better_0 {w acc : Bst} (h : before w acc = false) : better w acc = acc := by unfold better; rw [if_neg (by rw [h]; exact Bool.false_ne_true)]
theorem cand_cut (h : kindAt l (P.getD n 0) = 3) : cand l P width ws k n = ⟨(width - fullTo l P k (P.getD n 0)) * (width - fullTo l P k (P.getD n 0)) + (ws.getD (n + 1) zB).bad + 1048576, (ws.getD (n + 1) zB).places + 1, n, true⟩ := by
  unfold cand; rw [if_pos h]
theorem cand_not (h : ¬ kindAt l (P.getD n 0) = 3) : cand l P width ws k n = ⟨(width - fullTo l P k (P.getD n 0)) * (width - fullTo l P k (P.getD n 0)) + (ws.getD (n + 1) zB).bad, (ws.getD (n + 1) zB).places + 1, n, true⟩ := by
  unfold cand; rw [if_neg h, Int.add_zero]
/-- What acc becomes at a place at which the line fits. -/
def nextAcc (l : List Part) (P : List Nat) (width : Int) (ws : List Bst) (k n : Nat) (acc : Bst) : Bst := if (ws.getD (n + 1) zB).ok = true then better (cand l P width ws k n) acc else acc
theorem nextAcc_no (hok : (ws.getD (n + 1) zB).ok = false) : nextAcc l P width ws k n acc = acc := by unfold nextAcc; rw [if_neg (by rw [hok]; exact Bool.false_ne_true)]
theorem nextAcc_yes (hok : (ws.getD (n + 1) zB).ok = true) : nextAcc l P width ws k n acc = better (cand l P width ws k n) acc := by unfold nextAcc; rw [if_pos hok]
theorem inner_next (h : n < P.length) (hf : fullTo l P k (P.getD n 0) ≤ width) (hk : ¬ kindAt l (P.getD n 0) = 1) : inner l P width ws k n acc = inner l P width ws k (n + 1) (nextAcc l P width ws k n acc) := by
  cases hok : (ws.getD (n + 1) zB).ok with
  | true => rw [nextAcc_yes hok, inner_on h hf hok hk]
  | false => rw [nextAcc_no hok, inner_no h hf hok hk]
theorem inner_stop (h : n < P.length) (hf : fullTo l P k (P.getD n 0) ≤ width) (hk : kindAt l (P.getD n 0) = 1) : inner l P width ws k n acc = nextAcc l P width ws k n acc := by
  cases hok : (ws.getD (n + 1) zB).ok with
  | true => rw [nextAcc_yes hok, inner_hard h hf hok hk]
  | false => rw [nextAcc_no hok, inner_no_hard h hf hok hk]
theorem Gd.next (hs : Small l) (hw : width ≤ 200) (hk : k ≤ n) (hn : n < P.length) (hf : fullTo l P k (P.getD n 0) ≤ width) (ho : Gd P.length ws (n + 1) (ws.getD (n + 1) zB)) (ha : Gd P.length ws k acc) : Gd P.length ws k (nextAcc l P width ws k n acc) := by
  unfold nextAcc
  split
  · rename_i hok
    exact Gd.better (Gd.cand hs hw hf hk hn ho hok) ha
  · exact ha
theorem endly_no (h : ¬ fullTo l P k l.length ≤ width) : endly l P width k acc = acc := by unfold endly; rw [if_neg h]
theorem endly_yes (h : fullTo l P k l.length ≤ width) : endly l P width k acc = better ⟨(width - fullTo l P k l.length) * (width - fullTo l P k l.length), 0, -1, true⟩ acc := by unfold endly; rw [if_pos h]
theorem tab_succ {c : Nat} (hk : k = P.length - c) : tab l P width (c + 1) = (tab l P width c).set k (inner l P width (tab l P width c) k k zB) := by subst hk; rfl
end
theorem wayGo_len (ws : List Bst) : ∀ (f : Nat) (n : Int), (wayGo ws f n).length ≤ f
  | 0, _ => by simp [wayGo]
  | f + 1, n => by
    simp only [wayGo]
    split
    · have := wayGo_len ws f (ws.getD (n + 1).toNat zB).next
      simp only [List.length_cons]; omega
    · simp
theorem wrapOut_len (l : List Part) (width : Int) : (wrapOut l width).length ≤ (plcs l (l.length + 1)).length := by
  simp only [wrapOut, wayL, wayOf, List.length_map]
  refine Nat.le_trans (wayGo_len _ _ _) ?_
  unfold far
  split <;> omega
end Go.SX.Plain
/- The document's signs (chapter 1), plainly: one sign out of bytes. No program here. -/
namespace Go.SX.Plain
/-- Byte i of a text. -/
def bt (s : ByteArray) (i : Nat) : Int := (bytesL s).getD i 0
theorem bt_nat (s : ByteArray) (i : Nat) : bt s i = ((s.get! i).toNat : Int) := by
  unfold bt
  rw [bytesL_get]
  congr 2
  cases s with
  | mk d =>
    show d.toList.getD i 0 = d[i]!
    simp [List.getD_eq_getElem?_getD, getElem!_def]
    cases d[i]? <;> rfl
theorem bt_bd (s : ByteArray) (i : Nat) : 0 ≤ bt s i ∧ bt s i ≤ 255 := by
  rw [bt_nat]
  have := (s.get! i).toNat_lt
  omega
def longI (c : Int) : Int := if c < 128 then 1 else if 194 ≤ c ∧ c ≤ 223 then 2 else if 224 ≤ c ∧ c ≤ 239 then 3 else if 240 ≤ c ∧ c ≤ 244 then 4 else 0
def secondB (c d : Int) : Bool :=
  if c = 224 then decide (160 ≤ d) && decide (d ≤ 191)
  else if c = 237 then decide (128 ≤ d) && decide (d ≤ 159)
  else if c = 240 then decide (144 ≤ d) && decide (d ≤ 191)
  else if c = 244 then decide (128 ≤ d) && decide (d ≤ 143)
  else decide (128 ≤ d) && decide (d ≤ 191)
def moreB (s : ByteArray) (i : Nat) : Bool := decide (i < s.size) && (decide (128 ≤ bt s i) && decide (bt s i ≤ 191))
structure Sgn where
  «at» : Int
  len : Int
  rune : Int
  bad : Bool
def sgnAt (s : ByteArray) (i : Nat) : Sgn := ⟨i, (Utf8.decode s i).2, (Utf8.decode s i).1, decide (Utf8.decode s i = (65533, 1))⟩
section
variable {s : ByteArray} {i : Nat}
theorem dec_1 (h : longI (bt s i) = 1) : Utf8.decode s i = ((bt s i).toNat, 1) := by
  have hb := bt_bd s i
  have h0 : bt s i < 128 := by
    unfold longI at h
    repeat' split at h
    all_goals omega
  rw [bt_nat] at h0 ⊢
  unfold Utf8.decode
  simp only [Nat.add_zero]
  rw [if_pos (by omega)]
  simp
theorem dec_0 (h : longI (bt s i) = 0) : Utf8.decode s i = (65533, 1) := by
  have hb := bt_bd s i
  have h0 : 128 ≤ bt s i ∧ (bt s i < 194 ∨ 244 < bt s i) := by
    unfold longI at h
    repeat' split at h
    all_goals omega
  rw [bt_nat] at h0
  unfold Utf8.decode Utf8.runeError Utf8.valid
  simp only [Nat.add_zero]
  rw [if_neg (by omega)]
  simp only [Bool.and_eq_true, decide_eq_true_eq, beq_iff_eq, Bool.or_eq_true]
  repeat' split
  all_goals first
    | rfl
    | (exfalso; omega)
theorem second_no (hn : 2 ≤ longI (bt s i)) (h : ¬ i + 1 < s.size ∨ secondB (bt s i) (bt s (i + 1)) = false) : Utf8.decode s i = (65533, 1) := by
  have h0 : 194 ≤ bt s i ∧ bt s i ≤ 244 := by
    unfold longI at hn
    repeat' split at hn
    all_goals omega
  have hs : ¬ i + 1 < s.size ∨ (bt s i = 224 → bt s (i + 1) < 160 ∨ 191 < bt s (i + 1)) ∧ (bt s i = 237 → bt s (i + 1) < 128 ∨ 159 < bt s (i + 1)) ∧ (bt s i = 240 → bt s (i + 1) < 144 ∨ 191 < bt s (i + 1)) ∧ (bt s i = 244 → bt s (i + 1) < 128 ∨ 143 < bt s (i + 1)) ∧
      (bt s i ≠ 224 → bt s i ≠ 237 → bt s i ≠ 240 → bt s i ≠ 244 → bt s (i + 1) < 128 ∨ 191 < bt s (i + 1)) := by
    refine h.imp (fun h => h) fun h => ?_
    unfold secondB at h
    repeat' split at h
    all_goals
      simp only [Bool.and_eq_false_iff, decide_eq_false_iff_not] at h
      refine ⟨?_, ?_, ?_, ?_, ?_⟩ <;> intros <;> omega
  clear h hn
  have hb1 := bt_bd s (i + 1)
  simp only [bt_nat] at h0 hs hb1
  unfold Utf8.decode Utf8.runeError Utf8.valid
  simp only [Nat.add_zero]
  rw [if_neg (by omega)]
  simp only [Bool.and_eq_true, decide_eq_true_eq, beq_iff_eq, Bool.or_eq_true]
  repeat' split
  all_goals first
    | rfl
    | (exfalso; omega)
theorem second_yes (h : secondB (bt s i) (bt s (i + 1)) = true) : 128 ≤ bt s (i + 1) ∧ bt s (i + 1) ≤ 191 ∧ (bt s i = 224 → 160 ≤ bt s (i + 1)) ∧ (bt s i = 237 → bt s (i + 1) ≤ 159) ∧ (bt s i = 240 → 144 ≤ bt s (i + 1)) ∧ (bt s i = 244 → bt s (i + 1) ≤ 143) := by
  unfold secondB at h
  repeat' split at h
  all_goals
    simp only [Bool.and_eq_true, decide_eq_true_eq] at h
    refine ⟨?_, ?_, ?_, ?_, ?_, ?_⟩ <;> intros <;> omega
theorem more_no2 (hn : 3 ≤ longI (bt s i)) (h : moreB s (i + 2) = false) : Utf8.decode s i = (65533, 1) := by
  have h0 : 224 ≤ bt s i ∧ bt s i ≤ 244 := by
    unfold longI at hn
    repeat' split at hn
    all_goals omega
  have hs : ¬ i + 2 < s.size ∨ bt s (i + 2) < 128 ∨ 191 < bt s (i + 2) := by
    unfold moreB at h
    simp only [Bool.and_eq_false_iff, decide_eq_false_iff_not] at h
    omega
  clear h hn
  simp only [bt_nat] at h0 hs
  unfold Utf8.decode Utf8.runeError Utf8.valid
  simp only [Nat.add_zero]
  rw [if_neg (by omega)]
  simp only [Bool.and_eq_true, decide_eq_true_eq, beq_iff_eq, Bool.or_eq_true]
  repeat' split
  all_goals first
    | rfl
    | (exfalso; omega)
theorem more_no3 (hn : 4 ≤ longI (bt s i)) (h : moreB s (i + 3) = false) : Utf8.decode s i = (65533, 1) := by
  have h0 : 240 ≤ bt s i ∧ bt s i ≤ 244 := by
    unfold longI at hn
    repeat' split at hn
    all_goals omega
  have hs : ¬ i + 3 < s.size ∨ bt s (i + 3) < 128 ∨ 191 < bt s (i + 3) := by
    unfold moreB at h
    simp only [Bool.and_eq_false_iff, decide_eq_false_iff_not] at h
    omega
  clear h hn
  simp only [bt_nat] at h0 hs
  unfold Utf8.decode Utf8.runeError Utf8.valid
  simp only [Nat.add_zero]
  rw [if_neg (by omega)]
  simp only [Bool.and_eq_true, decide_eq_true_eq, beq_iff_eq, Bool.or_eq_true]
  repeat' split
  all_goals first
    | rfl
    | (exfalso; omega)
theorem moreB_yes {k : Nat} (h : moreB s k = true) : k < s.size ∧ 128 ≤ bt s k ∧ bt s k ≤ 191 := by
  unfold moreB at h
  simpa [and_assoc] using h
theorem pair_eq {a b n m : Nat} (h : a = b) (h2 : n = m) : (a, n) = (b, m) := by rw [h, h2]
theorem dec_2 (hn : longI (bt s i) = 2) (h1 : i + 1 < s.size) (h2 : secondB (bt s i) (bt s (i + 1)) = true) : Utf8.decode s i = ((bt s (i + 1) - 128 + 64 * (bt s i - 192)).toNat, 2) ∧ 0 ≤ bt s (i + 1) - 128 + 64 * (bt s i - 192) ∧ bt s (i + 1) - 128 + 64 * (bt s i - 192) ≤ 1114111 := by
  have h0 : 194 ≤ bt s i ∧ bt s i ≤ 223 := by
    unfold longI at hn
    repeat' split at hn
    all_goals omega
  obtain ⟨a1, a2, _⟩ := second_yes h2
  refine ⟨?_, by omega, by omega⟩
  clear hn h2
  simp only [bt_nat] at *
  unfold Utf8.decode Utf8.runeError Utf8.valid
  simp only [Nat.add_zero]
  rw [if_neg (by omega)]
  simp only [Bool.and_eq_true, decide_eq_true_eq, beq_iff_eq, Bool.or_eq_true]
  rw [if_pos (by omega), if_pos (by omega)]
  refine pair_eq ?_ rfl
  omega
theorem dec_3 (hn : longI (bt s i) = 3) (h1 : i + 1 < s.size) (h2 : secondB (bt s i) (bt s (i + 1)) = true) (h3 : moreB s (i + 2) = true) :
    Utf8.decode s i = ((64 * (bt s (i + 1) - 128) + (bt s (i + 2) - 128) + 4096 * (bt s i - 224)).toNat, 3) ∧ 0 ≤ 64 * (bt s (i + 1) - 128) + (bt s (i + 2) - 128) + 4096 * (bt s i - 224) ∧ 64 * (bt s (i + 1) - 128) + (bt s (i + 2) - 128) + 4096 * (bt s i - 224) ≤ 1114111 := by
  have h0 : 224 ≤ bt s i ∧ bt s i ≤ 239 := by
    unfold longI at hn
    repeat' split at hn
    all_goals omega
  obtain ⟨a1, a2, a3, a4, _, _⟩ := second_yes h2
  obtain ⟨b1, b2, b3⟩ := moreB_yes h3
  refine ⟨?_, by omega, by omega⟩
  clear hn h2 h3
  simp only [bt_nat] at *
  unfold Utf8.decode Utf8.runeError Utf8.valid
  simp only [Nat.add_zero]
  rw [if_neg (by omega)]
  simp only [Bool.and_eq_true, decide_eq_true_eq, beq_iff_eq, Bool.or_eq_true]
  rw [if_neg (by omega), if_pos (by omega), if_pos (by omega)]
  refine pair_eq ?_ rfl
  omega
theorem dec_4 (hn : longI (bt s i) = 4) (h1 : i + 1 < s.size) (h2 : secondB (bt s i) (bt s (i + 1)) = true) (h3 : moreB s (i + 2) = true) (h4 : moreB s (i + 3) = true) :
    Utf8.decode s i = ((64 * (64 * (bt s (i + 1) - 128) + (bt s (i + 2) - 128)) + (bt s (i + 3) - 128) + 262144 * (bt s i - 240)).toNat, 4) ∧ 0 ≤ 64 * (64 * (bt s (i + 1) - 128) + (bt s (i + 2) - 128)) + (bt s (i + 3) - 128) + 262144 * (bt s i - 240) ∧
      64 * (64 * (bt s (i + 1) - 128) + (bt s (i + 2) - 128)) + (bt s (i + 3) - 128) + 262144 * (bt s i - 240) ≤ 1114111 := by
  have h0 : 240 ≤ bt s i ∧ bt s i ≤ 244 := by
    unfold longI at hn
    repeat' split at hn
    all_goals omega
  obtain ⟨a1, a2, _, _, a5, a6⟩ := second_yes h2
  obtain ⟨b1, b2, b3⟩ := moreB_yes h3
  obtain ⟨c1, c2, c3⟩ := moreB_yes h4
  refine ⟨?_, by omega, by omega⟩
  clear hn h2 h3 h4
  simp only [bt_nat] at *
  unfold Utf8.decode Utf8.runeError Utf8.valid
  simp only [Nat.add_zero]
  rw [if_neg (by omega)]
  simp only [Bool.and_eq_true, decide_eq_true_eq, beq_iff_eq, Bool.or_eq_true]
  rw [if_neg (by omega), if_neg (by omega), if_pos (by omega), if_pos (by omega)]
  refine pair_eq ?_ rfl
  omega
end
theorem longI_cases (c : Int) : longI c = 0 ∨ longI c = 1 ∨ longI c = 2 ∨ longI c = 3 ∨ longI c = 4 := by
  unfold longI
  repeat' split
  all_goals simp
/-- The rune so far, its bytes up to k gone over. -/
def restR (s : ByteArray) (i : Nat) : Nat → Int
  | 0 => 0
  | 1 => 0
  | 2 => bt s (i + 1) - 128
  | k + 1 => 64 * restR s i k + (bt s (i + k) - 128)
theorem sgn_bad {s : ByteArray} {i : Nat} (h : Utf8.decode s i = (65533, 1)) : 1 = (sgnAt s i).len ∧ 65533 = (sgnAt s i).rune ∧ true = (sgnAt s i).bad := by
  simp [sgnAt, h]
theorem sgn_1 {s : ByteArray} {i : Nat} (hn : longI (bt s i) = 1) : 1 = (sgnAt s i).len ∧ bt s i = (sgnAt s i).rune ∧ false = (sgnAt s i).bad := by
  have h := dec_1 hn
  have hb := bt_bd s i
  have h0 : bt s i < 128 := by
    unfold longI at hn
    repeat' split at hn
    all_goals omega
  simp only [sgnAt, h, Prod.mk.injEq, and_true]
  refine ⟨rfl, by omega, ?_⟩
  symm
  simp only [decide_eq_false_iff_not]
  omega
theorem sgn_n {s : ByteArray} {i : Nat} {x : Int} {n : Nat} (h : Utf8.decode s i = (x.toNat, n)) (h0 : 0 ≤ x) (hn : 2 ≤ n) : (n : Int) = (sgnAt s i).len ∧ x = (sgnAt s i).rune ∧ false = (sgnAt s i).bad := by
  simp only [sgnAt, h, Prod.mk.injEq]
  refine ⟨trivial, by omega, ?_⟩
  symm
  simp only [decide_eq_false_iff_not]
  omega
theorem second_no' {s : ByteArray} {i : Nat} (hn : ¬ longI (bt s i) = 0) (hn1 : ¬ longI (bt s i) = 1) (h : (s.size : Int) ≤ i + 1 ∨ secondB (bt s i) (bt s (i + 1)) = false) : Utf8.decode s i = (65533, 1) :=
  second_no (by have := longI_cases (bt s i); omega) (h.imp (fun h => by omega) fun h => h)
theorem restR_succ {s : ByteArray} {i k : Nat} (h : 2 ≤ k) : restR s i (k + 1) = 64 * restR s i k + (bt s (i + k) - 128) := by
  obtain ⟨j, rfl⟩ : ∃ j, k = j + 2 := ⟨k - 2, by omega⟩
  rfl
end Go.SX.Plain
/- Contracts of the document's chapter 1: long, second, rest, more, one. -/
namespace Go.SX.Try
open Go.Proofs Go.Proofs.Try Go.SX.Plain
set_option maxRecDepth 100000
set_option maxHeartbeats 0
set_option linter.unusedSimpArgs false
theorem q_long : fact 133 f133 := ⟨by kernel_rfl, rfl, by kernel_rfl⟩
theorem q_second : fact 134 f134 := ⟨by kernel_rfl, rfl, by kernel_rfl⟩
theorem q_rest : fact 135 f135 := ⟨by kernel_rfl, rfl, by kernel_rfl⟩
theorem q_more : fact 136 f136 := ⟨by kernel_rfl, rfl, by kernel_rfl⟩
theorem q_rone : fact 123 f123 := ⟨by kernel_rfl, rfl, by kernel_rfl⟩
theorem con_long : Con prog 133 (fun c : Int => [.v (.int .u8 c)]) (fun c => .v (.int .i64 (longI c))) (fun _ => True) := by
  refine Con.of (by kernel_rfl) T_ok CdsOK.nil .nil 1 [] q_long.1 q_long.2.1 q_long.2.2 (fun _ => rfl) fun c _ => ?_
  repeat' (first | (with_reducible exact fun h => h) | (with_reducible refine ExE.row (by with_unfolding_all rfl) ?_) | (with_reducible refine And.intro ?_ ?_) | ((with_reducible intro hq); first | (exact bne1 hq (by with_reducible assumption)) | (exact bne1 (by with_reducible assumption) hq) | ((simp only [*, Bool.and_true, Bool.true_and, Bool.and_false, Bool.false_and, Bool.or_true, Bool.true_or, Bool.or_false, Bool.false_or, Bool.not_true, Bool.not_false, Bool.true_eq_false, Bool.false_eq_true, cond_true, cond_false, Bool.cond_self, reduceCtorEq] at hq); done) | (revert hq; with_reducible intro _)) | (with_reducible exact True.intro) | (with_reducible rfl) | ((with_reducible refine WkX.chk ?_); (conv => whnf)) | ((with_reducible refine Wk.chk ?_); (conv => whnf)) | (with_reducible refine EntLe.row ?_) | (with_reducible exact LeN.ro rfl) | (with_reducible exact LeN.rptr) | ((with_reducible refine LeL.chk ?_); (conv => whnf)) | ((with_reducible show LeO _ _); (first | (refine LeO.ro ?_) | (refine LeO.roCap ?_) | (refine LeO.nil ?_ (fun _ => rfl)))) | ((with_reducible show LeR _ _ _); (first | (refine LeR.own rfl rfl rfl ?_) | (refine LeR.view rfl rfl rfl ?_ ?_) | (refine LeR.ro ?_) | (refine LeR.roCap ?_) | (refine LeR.nil ?_ (fun _ => rfl)))) | ((with_reducible refine LeF.chk ?_); (conv => whnf)) | (with_reducible assumption) | ((with_reducible refine Run.mk ?_); (conv => whnf)) | ((with_reducible show drawOK _ _ = true); kernel_rfl) | ((with_reducible show drawOK2 _ _ = true); kernel_rfl) | ((with_reducible show drawOK3 _ _ = true); kernel_rfl))
  all_goals simp only [Bool.and_eq_true, Bool.and_eq_false_iff, decide_eq_true_eq, decide_eq_false_iff_not] at *
  all_goals first
    | omega
    | (unfold longI; repeat' split) <;> omega
theorem con_second : Con prog 134 (fun ((c, d) : Int × Int) => [.v (.int .u8 c), .v (.int .u8 d)]) (fun (c, d) => .sb (secondB c d)) (fun _ => True) := by
  refine Con.of (by kernel_rfl) T_ok CdsOK.nil .nil 1 [] q_second.1 q_second.2.1 q_second.2.2 (fun _ => rfl) fun i _ => ?_
  obtain ⟨c, d⟩ := i
  repeat' (first | (with_reducible exact fun h => h) | (with_reducible refine ExE.row (by with_unfolding_all rfl) ?_) | (with_reducible refine And.intro ?_ ?_) | ((with_reducible intro hq); first | (exact bne1 hq (by with_reducible assumption)) | (exact bne1 (by with_reducible assumption) hq) | ((simp only [*, Bool.and_true, Bool.true_and, Bool.and_false, Bool.false_and, Bool.or_true, Bool.true_or, Bool.or_false, Bool.false_or, Bool.not_true, Bool.not_false, Bool.true_eq_false, Bool.false_eq_true, cond_true, cond_false, Bool.cond_self, reduceCtorEq] at hq); done) | (revert hq; with_reducible intro _)) | (with_reducible exact True.intro) | (with_reducible rfl) | ((with_reducible refine WkX.chk ?_); (conv => whnf)) | ((with_reducible refine Wk.chk ?_); (conv => whnf)) | (with_reducible refine EntLe.row ?_) | (with_reducible exact LeN.ro rfl) | (with_reducible exact LeN.rptr) | ((with_reducible refine LeL.chk ?_); (conv => whnf)) | ((with_reducible show LeO _ _); (first | (refine LeO.ro ?_) | (refine LeO.roCap ?_) | (refine LeO.nil ?_ (fun _ => rfl)))) | ((with_reducible show LeR _ _ _); (first | (refine LeR.own rfl rfl rfl ?_) | (refine LeR.view rfl rfl rfl ?_ ?_) | (refine LeR.ro ?_) | (refine LeR.roCap ?_) | (refine LeR.nil ?_ (fun _ => rfl)))) | ((with_reducible refine LeF.chk ?_); (conv => whnf)) | (with_reducible assumption) | ((with_reducible refine Run.mk ?_); (conv => whnf)) | ((with_reducible show drawOK _ _ = true); kernel_rfl) | ((with_reducible show drawOK2 _ _ = true); kernel_rfl) | ((with_reducible show drawOK3 _ _ = true); kernel_rfl))
  all_goals first
    | (simp only [beq_iff_eq, beq_eq_false_iff_ne, ne_eq] at *; unfold secondB; simp_all; done)
theorem con_rest : Con prog 135 (fun ((s, i) : ByteArray × Int) => [.ro 1 C_byte.enc C_byte.d (bytesL s) none, .v (.int .i64 i)]) (fun (s, i) => .v (.int .i64 (bt s i.toNat - 128))) (fun (s, i) => 0 ≤ i ∧ i < s.size) := by
  refine Con.of (by kernel_rfl) T_ok CdsOK.nil .nil 1 [] q_rest.1 q_rest.2.1 q_rest.2.2 (fun _ => rfl) fun i hi => ?_
  obtain ⟨s, i⟩ := i
  obtain ⟨hi0, hi⟩ : 0 ≤ i ∧ i < s.size := hi
  have hb := bt_bd s i.toNat
  have e1 : (bytesL s).getD i.toNat C_byte.d = bt s i.toNat := rfl
  repeat' (first | (with_reducible exact fun h => h) | (with_reducible refine ExE.row (by with_unfolding_all rfl) ?_) | (with_reducible refine And.intro ?_ ?_) | ((with_reducible intro hq); first | (exact bne1 hq (by with_reducible assumption)) | (exact bne1 (by with_reducible assumption) hq) | ((simp only [*, Bool.and_true, Bool.true_and, Bool.and_false, Bool.false_and, Bool.or_true, Bool.true_or, Bool.or_false, Bool.false_or, Bool.not_true, Bool.not_false, Bool.true_eq_false, Bool.false_eq_true, cond_true, cond_false, Bool.cond_self, reduceCtorEq] at hq); done) | (revert hq; with_reducible intro _)) | (with_reducible exact True.intro) | (with_reducible rfl) | ((with_reducible refine WkX.chk ?_); (conv => whnf)) | ((with_reducible refine Wk.chk ?_); (conv => whnf)) | (with_reducible refine EntLe.row ?_) | (with_reducible exact LeN.ro rfl) | (with_reducible exact LeN.rptr) | ((with_reducible refine LeL.chk ?_); (conv => whnf)) | ((with_reducible show LeO _ _); (first | (refine LeO.ro ?_) | (refine LeO.roCap ?_) | (refine LeO.nil ?_ (fun _ => rfl)))) | ((with_reducible show LeR _ _ _); (first | (refine LeR.own rfl rfl rfl ?_) | (refine LeR.view rfl rfl rfl ?_ ?_) | (refine LeR.ro ?_) | (refine LeR.roCap ?_) | (refine LeR.nil ?_ (fun _ => rfl)))) | ((with_reducible refine LeF.chk ?_); (conv => whnf)) | (with_reducible assumption) | ((with_reducible refine Run.mk ?_); (conv => whnf)) | ((with_reducible show drawOK _ _ = true); kernel_rfl) | ((with_reducible show drawOK2 _ _ = true); kernel_rfl) | ((with_reducible show drawOK3 _ _ = true); kernel_rfl))
  all_goals (try simp only [e1, bytesL_len])
  all_goals first
    | omega
    | (refine Fits.i64 ?_ ?_ <;> omega)
theorem con_more : Con prog 136 (fun ((s, i) : ByteArray × Int) => [.ro 1 C_byte.enc C_byte.d (bytesL s) none, .v (.int .i64 i)]) (fun (s, i) => .sb (moreB s i.toNat)) (fun (s, i) => 0 ≤ i) := by
  refine Con.of (by kernel_rfl) T_ok CdsOK.nil .nil 1 [] q_more.1 q_more.2.1 q_more.2.2 (fun _ => rfl) fun i hi => ?_
  obtain ⟨s, i⟩ := i
  have hi : 0 ≤ i := hi
  have hb := bt_bd s i.toNat
  have e1 : (bytesL s).getD i.toNat C_byte.d = bt s i.toNat := rfl
  repeat' (first | (with_reducible exact fun h => h) | (with_reducible refine ExE.row (by with_unfolding_all rfl) ?_) | (with_reducible refine And.intro ?_ ?_) | ((with_reducible intro hq); first | (exact bne1 hq (by with_reducible assumption)) | (exact bne1 (by with_reducible assumption) hq) | ((simp only [*, Bool.and_true, Bool.true_and, Bool.and_false, Bool.false_and, Bool.or_true, Bool.true_or, Bool.or_false, Bool.false_or, Bool.not_true, Bool.not_false, Bool.true_eq_false, Bool.false_eq_true, cond_true, cond_false, Bool.cond_self, reduceCtorEq] at hq); done) | (revert hq; with_reducible intro _)) | (with_reducible exact True.intro) | (with_reducible rfl) | ((with_reducible refine WkX.chk ?_); (conv => whnf)) | ((with_reducible refine Wk.chk ?_); (conv => whnf)) | (with_reducible refine EntLe.row ?_) | (with_reducible exact LeN.ro rfl) | (with_reducible exact LeN.rptr) | ((with_reducible refine LeL.chk ?_); (conv => whnf)) | ((with_reducible show LeO _ _); (first | (refine LeO.ro ?_) | (refine LeO.roCap ?_) | (refine LeO.nil ?_ (fun _ => rfl)))) | ((with_reducible show LeR _ _ _); (first | (refine LeR.own rfl rfl rfl ?_) | (refine LeR.view rfl rfl rfl ?_ ?_) | (refine LeR.ro ?_) | (refine LeR.roCap ?_) | (refine LeR.nil ?_ (fun _ => rfl)))) | ((with_reducible refine LeF.chk ?_); (conv => whnf)) | (with_reducible assumption) | ((with_reducible refine Run.mk ?_); (conv => whnf)) | ((with_reducible show drawOK _ _ = true); kernel_rfl) | ((with_reducible show drawOK2 _ _ = true); kernel_rfl) | ((with_reducible show drawOK3 _ _ = true); kernel_rfl))
  all_goals (try simp only [e1, bytesL_len] at *)
  all_goals first
    | omega
    | (simp only [decide_eq_true_eq, Bool.and_eq_true] at *; omega)
    | (unfold moreB; rw [Bool.eq_iff_iff]; simp only [decide_eq_true_eq, Bool.and_eq_true]; omega)
abbrev sgAV (x : Sgn) : List AV := [.v (.int .i64 x.at), .v (.int .i64 x.len), .v (.int .i64 x.rune), .sb x.bad]
theorem con_rone : Con prog 123 (fun ((s, i) : ByteArray × Nat) => [.ro 1 C_byte.enc C_byte.d (bytesL s) none, .v (.int .i64 (i : Int))]) (fun (s, i) => .agg (sgAV (sgnAt s i))) (fun (s, i) => i < s.size ∧ s.size ≤ 140737488355328) := by
  refine Con.of (by kernel_rfl) T_ok CdsOK.nil (.con con_long (.con con_second (.con con_rest (.con con_more .nil)))) 3 [] q_rone.1 q_rone.2.1 q_rone.2.2 (fun _ => rfl) fun i hi => ?_
  obtain ⟨s, i⟩ := i
  obtain ⟨hi, hz⟩ : i < s.size ∧ s.size ≤ 140737488355328 := hi
  have hb := bt_bd s i
  have e0 : ((i : Int)).toNat = i := Int.toNat_natCast _
  have e1 : (bytesL s).getD i C_byte.d = bt s i := rfl
  have e2 : ((i : Int) + 1).toNat = i + 1 := by omega
  have e3 : (bytesL s).getD (i + 1) C_byte.d = bt s (i + 1) := rfl
  have hb1 := bt_bd s (i + 1)
  have hb2 := bt_bd s (i + 2)
  have hb3 := bt_bd s (i + 3)
  have hl := longI_cases (bt s i)
  repeat' (first | (with_reducible refine ⟨_, ⟨(.cons (.v _) .nil), ?_⟩, ?_⟩) | (with_reducible refine ⟨(_, _), ⟨(.cons (.v _) (.cons (.v _) .nil)), ?_⟩, ?_⟩) | (with_reducible refine ⟨(_, _), ⟨(.cons (.ro _ _ _ _ _) (.cons (.v _) .nil)), ?_⟩, ?_⟩) | (with_reducible exact fun h => h) | (with_reducible refine ExE.row (by with_unfolding_all rfl) ?_) | (with_reducible refine And.intro ?_ ?_) | ((with_reducible intro hq); first | (exact bne1 hq (by with_reducible assumption)) | (exact bne1 (by with_reducible assumption) hq) | ((simp only [*, Bool.and_true, Bool.true_and, Bool.and_false, Bool.false_and, Bool.or_true, Bool.true_or, Bool.or_false, Bool.false_or, Bool.not_true, Bool.not_false, Bool.true_eq_false, Bool.false_eq_true, cond_true, cond_false, Bool.cond_self, reduceCtorEq] at hq); done) | (revert hq; with_reducible intro _)) | (with_reducible exact True.intro) | (with_reducible rfl) | ((with_reducible refine WkX.chk ?_); (conv => whnf)) | ((with_reducible refine Wk.chk ?_); (conv => whnf)) | (with_reducible refine EntLe.row ?_) | (with_reducible exact LeN.ro rfl) | (with_reducible exact LeN.rptr) | ((with_reducible refine LeL.chk ?_); (conv => whnf)) | ((with_reducible show LeO _ _); (first | (refine LeO.ro ?_) | (refine LeO.roCap ?_) | (refine LeO.nil ?_ (fun _ => rfl)))) | ((with_reducible show LeR _ _ _); (first | (refine LeR.own rfl rfl rfl ?_) | (refine LeR.view rfl rfl rfl ?_ ?_) | (refine LeR.ro ?_) | (refine LeR.roCap ?_) | (refine LeR.nil ?_ (fun _ => rfl)))) | ((with_reducible refine LeF.chk ?_); (conv => whnf)) | (with_reducible assumption) | ((with_reducible refine Run.mk ?_); (conv => whnf)) | ((with_reducible show drawOK _ _ = true); kernel_rfl) | ((with_reducible show drawOK2 _ _ = true); kernel_rfl) | ((with_reducible show drawOK3 _ _ = true); kernel_rfl))
  all_goals (try simp only [e0, e1, e2, e3, bytesL_len, beq_iff_eq, beq_eq_false_iff_ne, ne_eq, decide_eq_true_eq, decide_eq_false_iff_not, Bool.or_eq_true, Bool.or_eq_false_iff, Bool.not_eq_true', Bool.not_eq_false', Bool.cond_eq_true_distrib] at *)
  all_goals first
    | omega
    | (refine Fits.i64 ?_ ?_ <;> omega)
    | rfl
    | exact (sgn_bad (dec_0 (by assumption))).1
    | exact (sgn_bad (dec_0 (by assumption))).2.1
    | exact (sgn_bad (dec_0 (by assumption))).2.2
    | exact (sgn_1 (by assumption)).1
    | exact (sgn_1 (by assumption)).2.1
    | exact (sgn_1 (by assumption)).2.2
    | exact (sgn_bad (second_no' (by assumption) (by assumption) (by assumption))).1
    | exact (sgn_bad (second_no' (by assumption) (by assumption) (by assumption))).2.1
    | exact (sgn_bad (second_no' (by assumption) (by assumption) (by assumption))).2.2
    | exact (sgn_bad (second_no' (by assumption) (by assumption) (.inl (by omega)))).1
    | exact (sgn_bad (second_no' (by assumption) (by assumption) (.inl (by omega)))).2.1
    | exact (sgn_bad (second_no' (by assumption) (by assumption) (.inl (by omega)))).2.2
    | (exfalso; simp_all; done)
    | skip
  rename_i hn0 hn1 h1 h2
  obtain ⟨h1, h2⟩ := h2
  refine loopI Nat [] (fun k => [(8, .v (.int .i64 (k : Int))), (7, .v (.int .i64 (restR s i k)))]) (fun _ => []) (fun k => 2 ≤ k ∧ (k : Int) ≤ longI (bt s i) ∧ (3 ≤ k → moreB s (i + 2) = true) ∧ (4 ≤ k → moreB s (i + 3) = true)) (fun k => 4 - k) 2 ⟨by omega, by omega, by omega, by omega⟩ (Wk.chk ?_) fun k hk => ?_
  · ((conv => whnf); repeat' (first | (with_reducible exact fun h => h) | (with_reducible refine ExE.row (by with_unfolding_all rfl) ?_) | (with_reducible refine And.intro ?_ ?_) | ((with_reducible intro hq); first | (exact bne1 hq (by with_reducible assumption)) | (exact bne1 (by with_reducible assumption) hq) | ((simp only [*, Bool.and_true, Bool.true_and, Bool.and_false, Bool.false_and, Bool.or_true, Bool.true_or, Bool.or_false, Bool.false_or, Bool.not_true, Bool.not_false, Bool.true_eq_false, Bool.false_eq_true, cond_true, cond_false, Bool.cond_self, reduceCtorEq] at hq); done) | (revert hq; with_reducible intro _)) | (with_reducible exact True.intro) | (with_reducible rfl) | ((with_reducible refine WkX.chk ?_); (conv => whnf)) | ((with_reducible refine Wk.chk ?_); (conv => whnf)) | (with_reducible refine EntLe.row ?_) | (with_reducible exact LeN.ro rfl) | (with_reducible exact LeN.rptr) | ((with_reducible refine LeL.chk ?_); (conv => whnf)) | ((with_reducible show LeO _ _); (first | (refine LeO.ro ?_) | (refine LeO.roCap ?_) | (refine LeO.nil ?_ (fun _ => rfl)))) | ((with_reducible show LeR _ _ _); (first | (refine LeR.own rfl rfl rfl ?_) | (refine LeR.view rfl rfl rfl ?_ ?_) | (refine LeR.ro ?_) | (refine LeR.roCap ?_) | (refine LeR.nil ?_ (fun _ => rfl)))) | ((with_reducible refine LeF.chk ?_); (conv => whnf)) | (with_reducible assumption) | ((with_reducible refine Run.mk ?_); (conv => whnf)) | ((with_reducible show drawOK _ _ = true); kernel_rfl) | ((with_reducible show drawOK2 _ _ = true); kernel_rfl) | ((with_reducible show drawOK3 _ _ = true); kernel_rfl)))
    all_goals rfl
  obtain ⟨k1, k2, k3, k4⟩ := hk
  obtain rfl | rfl | rfl : k = 2 ∨ k = 3 ∨ k = 4 := by omega
  all_goals
    have r2 : restR s i 2 = bt s (i + 1) - 128 := rfl
    have r3 : restR s i 3 = 64 * (bt s (i + 1) - 128) + (bt s (i + 2) - 128) := rfl
    have r4 : restR s i 4 = 64 * (64 * (bt s (i + 1) - 128) + (bt s (i + 2) - 128)) + (bt s (i + 3) - 128) := rfl
    have c2 : ((2 : Nat) : Int) = 2 := rfl
    have c3 : ((3 : Nat) : Int) = 3 := rfl
    have c4 : ((4 : Nat) : Int) = 4 := rfl
    have e2 : ((i : Int) + 2).toNat = i + 2 := by omega
    have e3 : ((i : Int) + 3).toNat = i + 3 := by omega
    have e0 : ((i : Int)).toNat = i := Int.toNat_natCast _
    have e1 : (bytesL s).getD i C_byte.d = bt s i := rfl
  · repeat' (first | (with_reducible refine ex_of 3 ⟨⟨?_, ?_, ?_, ?_⟩, ?_⟩ ?_) | (with_reducible refine ⟨(_, _), ⟨(.cons (.ro _ _ _ _ _) (.cons (.v _) .nil)), ?_⟩, ?_⟩) | (with_reducible exact fun h => h) | (with_reducible refine ExE.row (by with_unfolding_all rfl) ?_) | (with_reducible refine And.intro ?_ ?_) | ((with_reducible intro hq); first | (exact bne1 hq (by with_reducible assumption)) | (exact bne1 (by with_reducible assumption) hq) | ((simp only [*, Bool.and_true, Bool.true_and, Bool.and_false, Bool.false_and, Bool.or_true, Bool.true_or, Bool.or_false, Bool.false_or, Bool.not_true, Bool.not_false, Bool.true_eq_false, Bool.false_eq_true, cond_true, cond_false, Bool.cond_self, reduceCtorEq] at hq); done) | (revert hq; with_reducible intro _)) | (with_reducible exact True.intro) | (with_reducible rfl) | ((with_reducible refine WkX.chk ?_); (conv => whnf)) | ((with_reducible refine Wk.chk ?_); (conv => whnf)) | (with_reducible refine EntLe.row ?_) | (with_reducible exact LeN.ro rfl) | (with_reducible exact LeN.rptr) | ((with_reducible refine LeL.chk ?_); (conv => whnf)) | ((with_reducible show LeO _ _); (first | (refine LeO.ro ?_) | (refine LeO.roCap ?_) | (refine LeO.nil ?_ (fun _ => rfl)))) | ((with_reducible show LeR _ _ _); (first | (refine LeR.own rfl rfl rfl ?_) | (refine LeR.view rfl rfl rfl ?_ ?_) | (refine LeR.ro ?_) | (refine LeR.roCap ?_) | (refine LeR.nil ?_ (fun _ => rfl)))) | ((with_reducible refine LeF.chk ?_); (conv => whnf)) | (with_reducible assumption) | ((with_reducible refine Run.mk ?_); (conv => whnf)) | ((with_reducible show drawOK _ _ = true); kernel_rfl) | ((with_reducible show drawOK2 _ _ = true); kernel_rfl) | ((with_reducible show drawOK3 _ _ = true); kernel_rfl))
    all_goals (try simp only [r2, r3, r4, c2, c3, c4, e0, e1, e2, e3, bytesL_len, beq_iff_eq, beq_eq_false_iff_ne, ne_eq, decide_eq_true_eq, decide_eq_false_iff_not, Bool.not_eq_true', Bool.not_eq_false'] at *)
    all_goals first
      | omega
      | (refine Fits.i64 ?_ ?_ <;> omega)
      | assumption
      | exact (moreB_yes (by assumption)).1
      | (have := (moreB_yes (by assumption)).1; omega)
      | rfl
      | exact (sgn_bad (more_no2 (by omega) (by assumption))).1
      | exact (sgn_bad (more_no2 (by omega) (by assumption))).2.1
      | exact (sgn_bad (more_no2 (by omega) (by assumption))).2.2
      | (have hn : longI (bt s i) = 2 := by omega
         have d := dec_2 hn (by omega) h2
         have q := sgn_n d.1 d.2.1 (by omega)
         first
         | (rw [hn]; exact q.1)
         | exact q.2.1
         | exact q.2.2)
  · have m2 : moreB s (i + 2) = true := k3 (by omega)
    repeat' (first | (with_reducible refine ex_of 4 ⟨⟨?_, ?_, ?_, ?_⟩, ?_⟩ ?_) | (with_reducible refine ⟨(_, _), ⟨(.cons (.ro _ _ _ _ _) (.cons (.v _) .nil)), ?_⟩, ?_⟩) | (with_reducible exact fun h => h) | (with_reducible refine ExE.row (by with_unfolding_all rfl) ?_) | (with_reducible refine And.intro ?_ ?_) | ((with_reducible intro hq); first | (exact bne1 hq (by with_reducible assumption)) | (exact bne1 (by with_reducible assumption) hq) | ((simp only [*, Bool.and_true, Bool.true_and, Bool.and_false, Bool.false_and, Bool.or_true, Bool.true_or, Bool.or_false, Bool.false_or, Bool.not_true, Bool.not_false, Bool.true_eq_false, Bool.false_eq_true, cond_true, cond_false, Bool.cond_self, reduceCtorEq] at hq); done) | (revert hq; with_reducible intro _)) | (with_reducible exact True.intro) | (with_reducible rfl) | ((with_reducible refine WkX.chk ?_); (conv => whnf)) | ((with_reducible refine Wk.chk ?_); (conv => whnf)) | (with_reducible refine EntLe.row ?_) | (with_reducible exact LeN.ro rfl) | (with_reducible exact LeN.rptr) | ((with_reducible refine LeL.chk ?_); (conv => whnf)) | ((with_reducible show LeO _ _); (first | (refine LeO.ro ?_) | (refine LeO.roCap ?_) | (refine LeO.nil ?_ (fun _ => rfl)))) | ((with_reducible show LeR _ _ _); (first | (refine LeR.own rfl rfl rfl ?_) | (refine LeR.view rfl rfl rfl ?_ ?_) | (refine LeR.ro ?_) | (refine LeR.roCap ?_) | (refine LeR.nil ?_ (fun _ => rfl)))) | ((with_reducible refine LeF.chk ?_); (conv => whnf)) | (with_reducible assumption) | ((with_reducible refine Run.mk ?_); (conv => whnf)) | ((with_reducible show drawOK _ _ = true); kernel_rfl) | ((with_reducible show drawOK2 _ _ = true); kernel_rfl) | ((with_reducible show drawOK3 _ _ = true); kernel_rfl))
    all_goals (try simp only [r2, r3, r4, c2, c3, c4, e0, e1, e2, e3, bytesL_len, beq_iff_eq, beq_eq_false_iff_ne, ne_eq, decide_eq_true_eq, decide_eq_false_iff_not, Bool.not_eq_true', Bool.not_eq_false'] at *)
    all_goals first
      | omega
      | (refine Fits.i64 ?_ ?_ <;> omega)
      | assumption
      | exact (moreB_yes (by assumption)).1
      | (have := (moreB_yes (k := i + 3) (by assumption)).1; omega)
      | rfl
      | exact (sgn_bad (more_no3 (by omega) (by assumption))).1
      | exact (sgn_bad (more_no3 (by omega) (by assumption))).2.1
      | exact (sgn_bad (more_no3 (by omega) (by assumption))).2.2
      | (have hn : longI (bt s i) = 3 := by omega
         have d := dec_3 hn (by omega) h2 m2
         have q := sgn_n d.1 d.2.1 (by omega)
         first
         | (rw [hn]; exact q.1)
         | exact q.2.1
         | exact q.2.2)
  · have m2 : moreB s (i + 2) = true := k3 (by omega)
    have m3 : moreB s (i + 3) = true := k4 (by omega)
    have hn : longI (bt s i) = 4 := by omega
    repeat' (first | (with_reducible refine ex_of 4 ⟨⟨?_, ?_, ?_, ?_⟩, ?_⟩ ?_) | (with_reducible refine ⟨(_, _), ⟨(.cons (.ro _ _ _ _ _) (.cons (.v _) .nil)), ?_⟩, ?_⟩) | (with_reducible exact fun h => h) | (with_reducible refine ExE.row (by with_unfolding_all rfl) ?_) | (with_reducible refine And.intro ?_ ?_) | ((with_reducible intro hq); first | (exact bne1 hq (by with_reducible assumption)) | (exact bne1 (by with_reducible assumption) hq) | ((simp only [*, Bool.and_true, Bool.true_and, Bool.and_false, Bool.false_and, Bool.or_true, Bool.true_or, Bool.or_false, Bool.false_or, Bool.not_true, Bool.not_false, Bool.true_eq_false, Bool.false_eq_true, cond_true, cond_false, Bool.cond_self, reduceCtorEq] at hq); done) | (revert hq; with_reducible intro _)) | (with_reducible exact True.intro) | (with_reducible rfl) | ((with_reducible refine WkX.chk ?_); (conv => whnf)) | ((with_reducible refine Wk.chk ?_); (conv => whnf)) | (with_reducible refine EntLe.row ?_) | (with_reducible exact LeN.ro rfl) | (with_reducible exact LeN.rptr) | ((with_reducible refine LeL.chk ?_); (conv => whnf)) | ((with_reducible show LeO _ _); (first | (refine LeO.ro ?_) | (refine LeO.roCap ?_) | (refine LeO.nil ?_ (fun _ => rfl)))) | ((with_reducible show LeR _ _ _); (first | (refine LeR.own rfl rfl rfl ?_) | (refine LeR.view rfl rfl rfl ?_ ?_) | (refine LeR.ro ?_) | (refine LeR.roCap ?_) | (refine LeR.nil ?_ (fun _ => rfl)))) | ((with_reducible refine LeF.chk ?_); (conv => whnf)) | (with_reducible assumption) | ((with_reducible refine Run.mk ?_); (conv => whnf)) | ((with_reducible show drawOK _ _ = true); kernel_rfl) | ((with_reducible show drawOK2 _ _ = true); kernel_rfl) | ((with_reducible show drawOK3 _ _ = true); kernel_rfl))
    all_goals (try simp only [r2, r3, r4, c2, c3, c4, e0, e1, e2, e3, bytesL_len, beq_iff_eq, beq_eq_false_iff_ne, ne_eq, decide_eq_true_eq, decide_eq_false_iff_not, Bool.not_eq_true', Bool.not_eq_false'] at *)
    all_goals first
      | omega
      | (refine Fits.i64 ?_ ?_ <;> omega)
      | assumption
      | rfl
      | (have d := dec_4 hn (by omega) h2 m2 m3
         have q := sgn_n d.1 d.2.1 (by omega)
         first
         | (rw [hn]; exact q.1)
         | exact q.2.1
         | exact q.2.2)
      | (exfalso; omega)
end Go.SX.Try
/- Plain lemmas on lists. -/
namespace Go.SX.Plain
theorem take_map {α β : Type} (f : α → β) (l : List α) (d : α) {i : Nat} (h : i < l.length) : (l.map f).take i ++ [f (l.getD i d)] = (l.map f).take (i + 1) := by
  have h2 : i < (l.map f).length := by simpa using h
  rw [List.take_succ_eq_append_getElem h2]
  simp [List.getD_eq_getElem?_getD, h]
theorem take_one {α : Type} (l : List α) (d : α) {i : Nat} (h : i < l.length) : l.take i ++ [l.getD i d] = l.take (i + 1) := by
  rw [List.take_succ_eq_append_getElem h]
  simp [List.getD_eq_getElem?_getD, h]
theorem take_all {α : Type} (l : List α) {i : Nat} (h : l.length ≤ i) : l.take i = l := List.take_of_length_le h
theorem take_map_all {α β : Type} (f : α → β) (l : List α) {i : Nat} (h : l.length ≤ i) : (l.map f).take i = l.map f := List.take_of_length_le (by simpa using h)
theorem drop_any {α : Type} (p : α → Bool) (l : List α) (d : α) {i : Nat} (h : i < l.length) : (l.drop i).any p = (p (l.getD i d) || (l.drop (i + 1)).any p) := by
  rw [List.drop_eq_getElem_cons h, List.any_cons]
  simp [List.getD_eq_getElem?_getD, h]
theorem drop_any_end {α : Type} (p : α → Bool) (l : List α) {i : Nat} (h : ¬ i < l.length) : (l.drop i).any p = false := by
  rw [List.drop_of_length_le (by omega)]; rfl
theorem drop_all {α : Type} (p : α → Bool) (l : List α) (d : α) {i : Nat} (h : i < l.length) : (l.drop i).all p = (p (l.getD i d) && (l.drop (i + 1)).all p) := by
  rw [List.drop_eq_getElem_cons h, List.all_cons]
  simp [List.getD_eq_getElem?_getD, h]
theorem drop_all_end {α : Type} (p : α → Bool) (l : List α) {i : Nat} (h : ¬ i < l.length) : (l.drop i).all p = true := by
  rw [List.drop_of_length_le (by omega)]; rfl
theorem getD_map {α β : Type} (f : α → β) (l : List α) (d : α) (i : Nat) : (l.map f).getD i (f d) = f (l.getD i d) := by
  simp only [List.getD_eq_getElem?_getD, List.getElem?_map]
  cases l[i]? <;> rfl
end Go.SX.Plain
/- Contracts of the document's chapter 1: Signs, Runes. -/
namespace Go.SX.Plain
def sgns (s : ByteArray) : List Sgn := (signsFrom s 0).map fun p => sgnAt s p.1
def runes (s : ByteArray) : List Int := (sgns s).map (·.rune)
theorem signsGo_len (s : ByteArray) : ∀ (k pos : Nat), s.size - pos ≤ k → (signsGo s k pos).length ≤ s.size - pos
  | 0, _, _ => by simp [signsGo]
  | k + 1, pos, h => by
    simp only [signsGo]
    split
    · have := width_pos s pos
      have ih := signsGo_len s k (pos + (Utf8.decode s pos).2) (by omega)
      simp only [List.length_cons]; omega
    · simp
theorem sgns_len (s : ByteArray) : (sgns s).length ≤ s.size := by
  simp only [sgns, signsFrom, List.length_map]
  exact signsGo_len s _ _ (by omega)
end Go.SX.Plain
namespace Go.SX.Try
open Go.Proofs Go.Proofs.Try Go.SX.Plain
set_option maxRecDepth 100000
set_option maxHeartbeats 0
set_option linter.unusedSimpArgs false
theorem q_rsigns : fact 97 f97 := ⟨by kernel_rfl, rfl, by kernel_rfl⟩
theorem q_rrunes : fact 76 f76 := ⟨by kernel_rfl, rfl, by kernel_rfl⟩
def C_sgn : Cdc Sgn where
  size := 4
  enc := sgAV
  dec l := match l with
    | [.v (.int _ a), .v (.int _ b), .v (.int _ c), d] => ⟨a, b, c, bOf d⟩
    | _ => ⟨0, 0, 0, false⟩
  d := ⟨0, 0, 0, false⟩
def D_sgn : Cds := [(161, ⟨Sgn, C_sgn⟩), (3, ⟨Int, C_int⟩)]
theorem D_sgn_ok : CdsOK T D_sgn := .cons ⟨fun _ => rfl, by decide, _, rfl, rfl, by decide⟩ (.cons ⟨fun _ => rfl, by decide, _, rfl, rfl, by decide⟩ .nil)
theorem con_rsigns : Con prog 97 (fun s : ByteArray => [.v (.string s)]) (fun s => .ro 4 C_sgn.enc C_sgn.d (sgns s) none) (fun s => s.size ≤ 1000000) := by
  refine Con.of (by kernel_rfl) T_ok D_sgn_ok (.con con_rone .nil) 3 [] q_rsigns.1 q_rsigns.2.1 q_rsigns.2.2 (fun _ => rfl) fun s hs => ?_
  repeat' (first | (with_reducible exact fun h => h) | (with_reducible refine ExE.row (by with_unfolding_all rfl) ?_) | (with_reducible refine And.intro ?_ ?_) | ((with_reducible intro hq); first | (exact bne1 hq (by with_reducible assumption)) | (exact bne1 (by with_reducible assumption) hq) | ((simp only [*, Bool.and_true, Bool.true_and, Bool.and_false, Bool.false_and, Bool.or_true, Bool.true_or, Bool.or_false, Bool.false_or, Bool.not_true, Bool.not_false, Bool.true_eq_false, Bool.false_eq_true, cond_true, cond_false, Bool.cond_self, reduceCtorEq] at hq); done) | (revert hq; with_reducible intro _)) | (with_reducible exact True.intro) | (with_reducible rfl) | ((with_reducible refine WkX.chk ?_); (conv => whnf)) | ((with_reducible refine Wk.chk ?_); (conv => whnf)) | (with_reducible refine EntLe.row ?_) | (with_reducible exact LeN.ro rfl) | (with_reducible exact LeN.rptr) | ((with_reducible refine LeL.chk ?_); (conv => whnf)) | ((with_reducible show LeO _ _); (first | (refine LeO.ro ?_) | (refine LeO.roCap ?_) | (refine LeO.nil ?_ (fun _ => rfl)))) | ((with_reducible show LeR _ _ _); (first | (refine LeR.own rfl rfl rfl ?_) | (refine LeR.view rfl rfl rfl ?_ ?_) | (refine LeR.ro ?_) | (refine LeR.roCap ?_) | (refine LeR.nil ?_ (fun _ => rfl)))) | ((with_reducible refine LeF.chk ?_); (conv => whnf)) | (with_reducible assumption) | ((with_reducible refine Run.mk ?_); (conv => whnf)) | ((with_reducible show drawOK _ _ = true); kernel_rfl) | ((with_reducible show drawOK2 _ _ = true); kernel_rfl) | ((with_reducible show drawOK3 _ _ = true); kernel_rfl))
  refine loopI (Nat × List Sgn) [] (fun | (pos, _) => [(5, .v (.int .i64 (pos : Int))), (4, .own 1)]) (fun | (_, o) => [(1, .row C_sgn o 161 none)])
    (fun | (pos, o) => pos ≤ s.size ∧ o.length ≤ pos ∧ o ++ (signsFrom s pos).map (fun p => sgnAt s p.1) = sgns s) (fun | (pos, _) => s.size - pos) (0, []) ⟨Nat.zero_le _, Nat.le_refl _, rfl⟩ (Wk.chk ?_) fun i hi => ?_
  · ((conv => whnf); repeat' (first | (with_reducible exact fun h => h) | (with_reducible refine ExE.row (by with_unfolding_all rfl) ?_) | (with_reducible refine And.intro ?_ ?_) | ((with_reducible intro hq); first | (exact bne1 hq (by with_reducible assumption)) | (exact bne1 (by with_reducible assumption) hq) | ((simp only [*, Bool.and_true, Bool.true_and, Bool.and_false, Bool.false_and, Bool.or_true, Bool.true_or, Bool.or_false, Bool.false_or, Bool.not_true, Bool.not_false, Bool.true_eq_false, Bool.false_eq_true, cond_true, cond_false, Bool.cond_self, reduceCtorEq] at hq); done) | (revert hq; with_reducible intro _)) | (with_reducible exact True.intro) | (with_reducible rfl) | ((with_reducible refine WkX.chk ?_); (conv => whnf)) | ((with_reducible refine Wk.chk ?_); (conv => whnf)) | (with_reducible refine EntLe.row ?_) | (with_reducible exact LeN.ro rfl) | (with_reducible exact LeN.rptr) | ((with_reducible refine LeL.chk ?_); (conv => whnf)) | ((with_reducible show LeO _ _); (first | (refine LeO.ro ?_) | (refine LeO.roCap ?_) | (refine LeO.nil ?_ (fun _ => rfl)))) | ((with_reducible show LeR _ _ _); (first | (refine LeR.own rfl rfl rfl ?_) | (refine LeR.view rfl rfl rfl ?_ ?_) | (refine LeR.ro ?_) | (refine LeR.roCap ?_) | (refine LeR.nil ?_ (fun _ => rfl)))) | ((with_reducible refine LeF.chk ?_); (conv => whnf)) | (with_reducible assumption) | ((with_reducible refine Run.mk ?_); (conv => whnf)) | ((with_reducible show drawOK _ _ = true); kernel_rfl) | ((with_reducible show drawOK2 _ _ = true); kernel_rfl) | ((with_reducible show drawOK3 _ _ = true); kernel_rfl)))
    all_goals rfl
  obtain ⟨pos, o⟩ := i
  obtain ⟨h1, h2, h3⟩ := hi
  have hw := width_pos s pos
  repeat' (first | (with_reducible refine ⟨(_, _), ⟨(.cons (.ro _ _ _ _ _) (.cons (.v _) .nil)), ?_⟩, ?_⟩) | (with_reducible refine ex_of (α := Nat × List Sgn) (pos + (Utf8.decode s pos).2, o ++ [sgnAt s pos]) ⟨⟨?_, ?_, ?_⟩, ?_⟩ ?_) | (with_reducible exact fun h => h) | (with_reducible refine ExE.row (by with_unfolding_all rfl) ?_) | (with_reducible refine And.intro ?_ ?_) | ((with_reducible intro hq); first | (exact bne1 hq (by with_reducible assumption)) | (exact bne1 (by with_reducible assumption) hq) | ((simp only [*, Bool.and_true, Bool.true_and, Bool.and_false, Bool.false_and, Bool.or_true, Bool.true_or, Bool.or_false, Bool.false_or, Bool.not_true, Bool.not_false, Bool.true_eq_false, Bool.false_eq_true, cond_true, cond_false, Bool.cond_self, reduceCtorEq] at hq); done) | (revert hq; with_reducible intro _)) | (with_reducible exact True.intro) | (with_reducible rfl) | ((with_reducible refine WkX.chk ?_); (conv => whnf)) | ((with_reducible refine Wk.chk ?_); (conv => whnf)) | (with_reducible refine EntLe.row ?_) | (with_reducible exact LeN.ro rfl) | (with_reducible exact LeN.rptr) | ((with_reducible refine LeL.chk ?_); (conv => whnf)) | ((with_reducible show LeO _ _); (first | (refine LeO.ro ?_) | (refine LeO.roCap ?_) | (refine LeO.nil ?_ (fun _ => rfl)))) | ((with_reducible show LeR _ _ _); (first | (refine LeR.own rfl rfl rfl ?_) | (refine LeR.view rfl rfl rfl ?_ ?_) | (refine LeR.ro ?_) | (refine LeR.roCap ?_) | (refine LeR.nil ?_ (fun _ => rfl)))) | ((with_reducible refine LeF.chk ?_); (conv => whnf)) | (with_reducible assumption) | ((with_reducible refine Run.mk ?_); (conv => whnf)) | ((with_reducible show drawOK _ _ = true); kernel_rfl) | ((with_reducible show drawOK2 _ _ = true); kernel_rfl) | ((with_reducible show drawOK3 _ _ = true); kernel_rfl))
  all_goals (try simp only [bytesL_len, decide_eq_true_eq, decide_eq_false_iff_not] at *)
  all_goals first
    | omega
    | rfl
    | (have hlt : pos < s.size := by omega
       have hwl := width_le hlt
       have hlen : (sgnAt s pos).len = ((Utf8.decode s pos).2 : Int) := rfl
       first
       | omega
       | (refine Fits.i64 ?_ ?_ <;> omega)
       | (simp only [List.length_append, List.length_cons, List.length_nil]; omega)
       | (rw [List.append_assoc]; rw [signsFrom_step hlt] at h3; exact h3))
    | (rw [signsFrom_end (by omega)] at h3; simpa using h3)
theorem con_rrunes : Con prog 76 (fun s : ByteArray => [.v (.string s)]) (fun s => .ro 1 C_int.enc C_int.d (runes s) none) (fun s => s.size ≤ 1000000) := by
  refine Con.of (by kernel_rfl) T_ok D_sgn_ok (.con con_rsigns .nil) 3 [] q_rrunes.1 q_rrunes.2.1 q_rrunes.2.2 (fun _ => rfl) fun s hs => ?_
  have hl := sgns_len s
  repeat' (first | (with_reducible refine ⟨_, ⟨(.cons (.v _) .nil), ?_⟩, ?_⟩) | (with_reducible exact fun h => h) | (with_reducible refine ExE.row (by with_unfolding_all rfl) ?_) | (with_reducible refine And.intro ?_ ?_) | ((with_reducible intro hq); first | (exact bne1 hq (by with_reducible assumption)) | (exact bne1 (by with_reducible assumption) hq) | ((simp only [*, Bool.and_true, Bool.true_and, Bool.and_false, Bool.false_and, Bool.or_true, Bool.true_or, Bool.or_false, Bool.false_or, Bool.not_true, Bool.not_false, Bool.true_eq_false, Bool.false_eq_true, cond_true, cond_false, Bool.cond_self, reduceCtorEq] at hq); done) | (revert hq; with_reducible intro _)) | (with_reducible exact True.intro) | (with_reducible rfl) | ((with_reducible refine WkX.chk ?_); (conv => whnf)) | ((with_reducible refine Wk.chk ?_); (conv => whnf)) | (with_reducible refine EntLe.row ?_) | (with_reducible exact LeN.ro rfl) | (with_reducible exact LeN.rptr) | ((with_reducible refine LeL.chk ?_); (conv => whnf)) | ((with_reducible show LeO _ _); (first | (refine LeO.ro ?_) | (refine LeO.roCap ?_) | (refine LeO.nil ?_ (fun _ => rfl)))) | ((with_reducible show LeR _ _ _); (first | (refine LeR.own rfl rfl rfl ?_) | (refine LeR.view rfl rfl rfl ?_ ?_) | (refine LeR.ro ?_) | (refine LeR.roCap ?_) | (refine LeR.nil ?_ (fun _ => rfl)))) | ((with_reducible refine LeF.chk ?_); (conv => whnf)) | (with_reducible assumption) | ((with_reducible refine Run.mk ?_); (conv => whnf)) | ((with_reducible show drawOK _ _ = true); kernel_rfl) | ((with_reducible show drawOK2 _ _ = true); kernel_rfl) | ((with_reducible show drawOK3 _ _ = true); kernel_rfl))
  refine loopI Nat [] (fun i => [(5, .v (.int .i64 (i : Int))), (4, .own 1)]) (fun i => [(1, .row C_int ((runes s).take i) 3 none)])
    (fun i => i ≤ (sgns s).length) (fun i => (sgns s).length - i) 0 (Nat.zero_le _) (Wk.chk ?_) fun i hi => ?_
  · ((conv => whnf); repeat' (first | (with_reducible exact fun h => h) | (with_reducible refine ExE.row (by with_unfolding_all rfl) ?_) | (with_reducible refine And.intro ?_ ?_) | ((with_reducible intro hq); first | (exact bne1 hq (by with_reducible assumption)) | (exact bne1 (by with_reducible assumption) hq) | ((simp only [*, Bool.and_true, Bool.true_and, Bool.and_false, Bool.false_and, Bool.or_true, Bool.true_or, Bool.or_false, Bool.false_or, Bool.not_true, Bool.not_false, Bool.true_eq_false, Bool.false_eq_true, cond_true, cond_false, Bool.cond_self, reduceCtorEq] at hq); done) | (revert hq; with_reducible intro _)) | (with_reducible exact True.intro) | (with_reducible rfl) | ((with_reducible refine WkX.chk ?_); (conv => whnf)) | ((with_reducible refine Wk.chk ?_); (conv => whnf)) | (with_reducible refine EntLe.row ?_) | (with_reducible exact LeN.ro rfl) | (with_reducible exact LeN.rptr) | ((with_reducible refine LeL.chk ?_); (conv => whnf)) | ((with_reducible show LeO _ _); (first | (refine LeO.ro ?_) | (refine LeO.roCap ?_) | (refine LeO.nil ?_ (fun _ => rfl)))) | ((with_reducible show LeR _ _ _); (first | (refine LeR.own rfl rfl rfl ?_) | (refine LeR.view rfl rfl rfl ?_ ?_) | (refine LeR.ro ?_) | (refine LeR.roCap ?_) | (refine LeR.nil ?_ (fun _ => rfl)))) | ((with_reducible refine LeF.chk ?_); (conv => whnf)) | (with_reducible assumption) | ((with_reducible refine Run.mk ?_); (conv => whnf)) | ((with_reducible show drawOK _ _ = true); kernel_rfl) | ((with_reducible show drawOK2 _ _ = true); kernel_rfl) | ((with_reducible show drawOK3 _ _ = true); kernel_rfl)))
    all_goals rfl
  have e0 : ((i : Int)).toNat = i := Int.toNat_natCast _
  have hrl : (runes s).length = (sgns s).length := by simp [runes]
  have htl : (List.take i (runes s)).length ≤ i := List.length_take_le _ _
  repeat' (first | (with_reducible refine ex_of (i + 1) ⟨?_, ?_⟩ ?_) | (with_reducible exact fun h => h) | (with_reducible refine ExE.row (by with_unfolding_all rfl) ?_) | (with_reducible refine And.intro ?_ ?_) | ((with_reducible intro hq); first | (exact bne1 hq (by with_reducible assumption)) | (exact bne1 (by with_reducible assumption) hq) | ((simp only [*, Bool.and_true, Bool.true_and, Bool.and_false, Bool.false_and, Bool.or_true, Bool.true_or, Bool.or_false, Bool.false_or, Bool.not_true, Bool.not_false, Bool.true_eq_false, Bool.false_eq_true, cond_true, cond_false, Bool.cond_self, reduceCtorEq] at hq); done) | (revert hq; with_reducible intro _)) | (with_reducible exact True.intro) | (with_reducible rfl) | ((with_reducible refine WkX.chk ?_); (conv => whnf)) | ((with_reducible refine Wk.chk ?_); (conv => whnf)) | (with_reducible refine EntLe.row ?_) | (with_reducible exact LeN.ro rfl) | (with_reducible exact LeN.rptr) | ((with_reducible refine LeL.chk ?_); (conv => whnf)) | ((with_reducible show LeO _ _); (first | (refine LeO.ro ?_) | (refine LeO.roCap ?_) | (refine LeO.nil ?_ (fun _ => rfl)))) | ((with_reducible show LeR _ _ _); (first | (refine LeR.own rfl rfl rfl ?_) | (refine LeR.view rfl rfl rfl ?_ ?_) | (refine LeR.ro ?_) | (refine LeR.roCap ?_) | (refine LeR.nil ?_ (fun _ => rfl)))) | ((with_reducible refine LeF.chk ?_); (conv => whnf)) | (with_reducible assumption) | ((with_reducible refine Run.mk ?_); (conv => whnf)) | ((with_reducible show drawOK _ _ = true); kernel_rfl) | ((with_reducible show drawOK2 _ _ = true); kernel_rfl) | ((with_reducible show drawOK3 _ _ = true); kernel_rfl))
  all_goals (try simp only [e0, decide_eq_true_eq, decide_eq_false_iff_not] at *)
  all_goals first
    | omega
    | rfl
    | (refine Fits.i64 ?_ ?_ <;> omega)
    | (simp only [List.length_cons, List.length_nil]; omega)
    | exact take_map _ _ _ (by omega)
    | exact take_all _ (by omega)
end Go.SX.Try
/- Clusters as the document finds them, and that the program finds the same. No program here. -/
namespace Go.SX.Plain
/-- A text's runes; where each stands, and the text's length behind them. -/
def rl (s : ByteArray) : List Int := (signsFrom s 0).map fun p => (p.2 : Int)
def al (s : ByteArray) : List Int := (signsFrom s 0).map (fun p => (p.1 : Int)) ++ [(s.size : Int)]
def joinsB (l : List Int) (f k : Nat) : Bool :=
  if (widthI (l.getD k 0) == 0 && !controlB (l.getD k 0) && !controlB (l.getD f 0)) = true then true
  else if (widthI (l.getD k 0) == 2 && l.getD (k - 1) 0 == 8205 && widthI (l.getD f 0) == 2) = true then true
  else flagB (l.getD k 0) && decide (k = f + 1) && flagB (l.getD f 0)
def arrowB (r : Int) : Bool := decide (0x2190 ≤ r) && decide (r ≤ 0x2BFF)
/-- Is FE0F among the runes from one up to another? -/
def variant (l : List Int) (f : Nat) : Nat → Bool
  | 0 => false
  | k + 1 => variant l f k || (decide (f < k) && l.getD k 0 == 65039)
def cellsR (l : List Int) (f t : Nat) : Int :=
  if 1 < t - f ∧ flagB (l.getD f 0) = true ∧ flagB (l.getD (f + 1) 0) = true then 2
  else if arrowB (l.getD f 0) = true ∧ variant l f t = true then 2
  else widthI (l.getD f 0)
def gAt (l a : List Int) (f t : Nat) : Grp := ⟨⟨a.getD f 0, a.getD t 0 - a.getD f 0, f, t, cellsR l f t⟩, l.getD f 0, l.getD (t - 1) 0, arrowB (l.getD f 0)⟩
def remGo (l a : List Int) : Nat → Nat → Nat → List Clu
  | 0, f, t => [(gAt l a f t).c]
  | k + 1, f, t => if t < l.length then (if joinsB l f t = true then remGo l a k f (t + 1) else (gAt l a f t).c :: remGo l a k t (t + 1)) else [(gAt l a f t).c]
/-- The clusters from the one on that began at f, its runes up to t gone over. -/
def rem (l a : List Int) (f t : Nat) : List Clu := remGo l a (l.length - t) f t
theorem rem_join {l a : List Int} {f t : Nat} (h : t < l.length) (hj : joinsB l f t = true) : rem l a f t = rem l a f (t + 1) := by
  unfold rem
  rw [show l.length - t = (l.length - (t + 1)) + 1 by omega]
  simp only [remGo]
  rw [if_pos h, if_pos hj]
theorem rem_part {l a : List Int} {f t : Nat} (h : t < l.length) (hj : joinsB l f t = false) : rem l a f t = (gAt l a f t).c :: rem l a t (t + 1) := by
  unfold rem
  rw [show l.length - t = (l.length - (t + 1)) + 1 by omega]
  simp only [remGo]
  rw [if_pos h, if_neg (by rw [hj]; exact Bool.false_ne_true)]
theorem rem_end {l a : List Int} {f t : Nat} (h : ¬ t < l.length) : rem l a f t = [(gAt l a f t).c] := by
  unfold rem
  rw [show l.length - t = 0 by omega]
  rfl
theorem flag_width {r : Int} (h : flagB r = true) : widthI r = 1 ∧ controlB r = false := by
  unfold flagB at h
  have h := of_decide_eq_true h
  unfold flagP at h
  have h1 : nothingB r = false := by
    unfold nothingB
    refine decide_eq_false ?_
    unfold nothingP
    omega
  have h2 : wideB r = false := by
    unfold wideB
    refine decide_eq_false ?_
    unfold wideP
    omega
  refine ⟨by unfold widthI; rw [h1, h2]; rfl, ?_⟩
  unfold controlB
  refine decide_eq_false ?_
  unfold controlP
  omega
theorem flag_arrow {r : Int} (h : flagB r = true) : arrowB r = false := by
  unfold flagB at h
  have h := of_decide_eq_true h
  unfold flagP at h
  unfold arrowB
  simp only [Bool.and_eq_false_iff, decide_eq_false_iff_not]
  omega
theorem takes_joins (l a : List Int) {f t : Nat} (h : f < t) : takesB (gAt l a f t) (l.getD t 0) = joinsB l f t := by
  unfold takesB joinsB gAt
  simp only
  generalize l.getD t 0 = r
  generalize l.getD f 0 = x
  generalize l.getD (t - 1) 0 = z
  by_cases h0 : widthI r = 0 ∧ controlB r = false
  · have hf : flagB r = false := by
      cases hc : flagB r with
      | false => rfl
      | true => have := (flag_width hc).1; omega
    rw [if_pos h0, h0.1, h0.2, hf]
    cases controlB x <;> simp
  · rw [if_neg h0, if_neg (show ¬ (widthI r == 0 && !controlB r && !controlB x) = true by
      intro hc
      simp only [Bool.and_eq_true, beq_iff_eq, Bool.not_eq_true'] at hc
      exact h0 hc.1)]
    cases hc : flagB r with
    | true =>
      have := (flag_width hc).1
      rw [if_pos rfl, if_neg (show ¬ (widthI r == 2 && z == 8205 && widthI x == 2) = true by rw [this]; simp)]
      rw [Bool.eq_iff_iff]
      simp only [Bool.and_eq_true, decide_eq_true_eq, true_and]
      constructor
      · rintro ⟨h1, h2⟩; exact ⟨by omega, h1⟩
      · rintro ⟨h1, h2⟩; exact ⟨h2, by omega⟩
    | false =>
      rw [if_neg Bool.false_ne_true, Bool.eq_iff_iff]
      simp
theorem joins_flag {l : List Int} {f t : Nat} (hj : joinsB l f t = true) (hf : flagB (l.getD t 0) = true) : t = f + 1 ∧ flagB (l.getD f 0) = true := by
  have h1 := flag_width hf
  unfold joinsB at hj
  rw [if_neg (by rw [h1.1]; simp), if_neg (by rw [h1.1]; simp)] at hj
  simp only [Bool.and_eq_true, decide_eq_true_eq] at hj
  exact ⟨hj.1.2, hj.2⟩
theorem variant_one (l : List Int) (f : Nat) : ∀ k, k ≤ f + 1 → variant l f k = false
  | 0, _ => rfl
  | k + 1, h => by
    simp only [variant]
    rw [variant_one l f k (by omega)]
    simp only [Bool.false_or, Bool.and_eq_false_iff, decide_eq_false_iff_not]
    exact .inl (by omega)
theorem add_one (l a : List Int) (f : Nat) : addG ⟨⟨a.getD f 0, 0, f, f, 0⟩, 0, 0, false⟩ (l.getD f 0) (a.getD (f + 1) 0 - a.getD f 0) = gAt l a f (f + 1) := by
  unfold addG gAt
  rw [if_pos rfl]
  have hc : cellsR l f (f + 1) = widthI (l.getD f 0) := by
    unfold cellsR
    rw [if_neg (by omega), if_neg (by rw [variant_one l f _ (Nat.le_refl _)]; simp)]
  rw [hc]
  simp only [arrowB, Int.zero_add, Nat.add_sub_cancel]
  rfl
theorem cellsR_np {l : List Int} {f : Nat} (h : ¬ (flagB (l.getD f 0) = true ∧ flagB (l.getD (f + 1) 0) = true)) (t : Nat) : cellsR l f t = if arrowB (l.getD f 0) = true ∧ variant l f t = true then 2 else widthI (l.getD f 0) := by
  unfold cellsR
  rw [if_neg (fun h2 => h h2.2)]
theorem add_more (l a : List Int) {f t : Nat} (h : f < t) (hj : joinsB l f t = true) : addG (gAt l a f t) (l.getD t 0) (a.getD (t + 1) 0 - a.getD t 0) = gAt l a f (t + 1) := by
  have hne : ¬ ((t : Int) = f) := by omega
  have hcells : cellsR l f (t + 1) = if flagB (l.getD t 0) = true ∨ (arrowB (l.getD f 0) = true ∧ l.getD t 0 = 0xFE0F) then 2 else cellsR l f t := by
    by_cases hf : flagB (l.getD t 0) = true
    · obtain ⟨rfl, hff⟩ := joins_flag hj hf
      rw [if_pos (.inl hf)]
      unfold cellsR
      rw [if_pos ⟨by omega, hff, hf⟩]
    · by_cases hp : flagB (l.getD f 0) = true ∧ flagB (l.getD (f + 1) 0) = true
      · have ht : t ≠ f + 1 := fun e => hf (e ▸ hp.2)
        have hna := flag_arrow hp.1
        rw [if_neg (by rintro (h1 | h1); exact hf h1; rw [hna] at h1; exact absurd h1.1 Bool.false_ne_true)]
        unfold cellsR
        rw [if_pos ⟨by omega, hp⟩, if_pos ⟨by omega, hp⟩]
      · rw [cellsR_np hp, cellsR_np hp]
        by_cases ha : arrowB (l.getD f 0) = true
        · by_cases hv : l.getD t 0 = 0xFE0F
          · have hvar : variant l f (t + 1) = true := by
              simp only [variant, hv]
              simp [h]
            have h1 : arrowB (l.getD f 0) = true ∧ variant l f (t + 1) = true := ⟨ha, hvar⟩
            have h2 : flagB (l.getD t 0) = true ∨ (arrowB (l.getD f 0) = true ∧ l.getD t 0 = 0xFE0F) := .inr ⟨ha, hv⟩
            rw [if_pos h1, if_pos h2]
          · have h2 : ¬ (flagB (l.getD t 0) = true ∨ (arrowB (l.getD f 0) = true ∧ l.getD t 0 = 0xFE0F)) := fun h => h.elim hf fun h => hv h.2
            have : variant l f (t + 1) = variant l f t := by
              simp only [variant]
              have : (l.getD t 0 == 65039) = false := by simpa using hv
              rw [this]; simp
            rw [this, if_neg h2]
        · have h1 : ¬ (arrowB (l.getD f 0) = true ∧ variant l f (t + 1) = true) := fun h => ha h.1
          have h2 : ¬ (flagB (l.getD t 0) = true ∨ (arrowB (l.getD f 0) = true ∧ l.getD t 0 = 0xFE0F)) := fun h => h.elim hf fun h => ha h.1
          have h3 : ¬ (arrowB (l.getD f 0) = true ∧ variant l f t = true) := fun h => ha h.1
          rw [if_neg h1, if_neg h2, if_neg h3]
  unfold addG
  rw [if_neg (by simp only [gAt]; exact hne)]
  have hs : (if flagB (l.getD t 0) = true ∨ ((gAt l a f t).arrow = true ∧ l.getD t 0 = 0xFE0F) then (2 : Int) else (gAt l a f t).c.cells) = cellsR l f (t + 1) := hcells.symm
  have hlen : a.getD t 0 - a.getD f 0 + (a.getD (t + 1) 0 - a.getD t 0) = a.getD (t + 1) 0 - a.getD f 0 := by omega
  split
  · rename_i hc
    rw [if_pos hc] at hs
    simp only [gAt] at hs ⊢
    rw [← hs]
    simp only [hlen, Nat.add_sub_cancel]
    rfl
  · rename_i hc
    rw [if_neg hc] at hs
    simp only [gAt] at hs ⊢
    rw [hs]
    simp only [hlen, Nat.add_sub_cancel]
    rfl

/-- The signs gone over, one by one. -/
def nextPos (s : ByteArray) : List (Nat × Nat) → Nat
  | [] => s.size
  | p :: _ => p.1
def procL (s : ByteArray) : List (Nat × Nat) → Bool → Grp → List Clu
  | [], b, g => if b = true then [g.c] else []
  | (p, r) :: t, b, g => signOut b g r ++ procL s t true (signGrp b g p r (nextPos s t))
theorem rest_proc (s : ByteArray) : ∀ (k pos : Nat) (a w : Nat) (b : Bool) (g : Grp), s.size - pos ≤ k → 0 < pos → pos ≤ s.size → rest s pos a w b g = procL s ((a, w) :: signsFrom s pos) b g
  | k, pos, a, w, b, g, hk, h0, hp => by
    by_cases h : pos < s.size
    · obtain ⟨k', rfl⟩ : ∃ k', k = k' + 1 := ⟨k - 1, by omega⟩
      have hw := width_pos s pos
      have hl := width_le h
      rw [rest_step h, if_pos h0, signsFrom_step h, rest_proc s k' _ _ _ _ _ (by omega) (by omega) hl]
      rfl
    · rw [rest_end h, if_neg (by omega), signsFrom_end h]
      rfl
theorem clusters_proc (s : ByteArray) : clusters s = procL s (signsFrom s 0) false Grp.zero := by
  unfold clusters
  by_cases h : 0 < s.size
  · have hl := width_le h
    have hw := width_pos s 0
    rw [rest_step h, if_neg (Nat.lt_irrefl _), signsFrom_step h]
    have := rest_proc s s.size (0 + (Utf8.decode s 0).2) 0 (Utf8.decode s 0).1 false Grp.zero (by omega) (by omega) hl
    exact this
  · rw [rest_end h, if_pos (by omega), signsFrom_end h]
    rfl
theorem rl_len (s : ByteArray) : (rl s).length = (signsFrom s 0).length := by simp [rl]
theorem al_len (s : ByteArray) : (al s).length = (signsFrom s 0).length + 1 := by simp [al]
theorem rl_get (s : ByteArray) {i : Nat} (h : i < (signsFrom s 0).length) : (rl s).getD i 0 = ((signsFrom s 0)[i]).2 := by
  simp [rl, List.getD_eq_getElem?_getD, h]
theorem al_get (s : ByteArray) {i : Nat} (h : i < (signsFrom s 0).length) : (al s).getD i 0 = ((signsFrom s 0)[i]).1 := by
  simp [al, List.getD_eq_getElem?_getD, List.getElem?_append, h]
theorem al_next (s : ByteArray) {i : Nat} (h : i ≤ (signsFrom s 0).length) : (al s).getD i 0 = nextPos s ((signsFrom s 0).drop i) := by
  by_cases hi : i < (signsFrom s 0).length
  · rw [al_get s hi, List.drop_eq_getElem_cons hi]; rfl
  · have : i = (signsFrom s 0).length := by omega
    rw [List.drop_of_length_le (by omega)]
    simp [al, List.getD_eq_getElem?_getD, this, nextPos]
theorem proc_rem (s : ByteArray) : ∀ (k f t : Nat), (signsFrom s 0).length - t ≤ k → f < t → t ≤ (signsFrom s 0).length → procL s ((signsFrom s 0).drop t) true (gAt (rl s) (al s) f t) = rem (rl s) (al s) f t
  | k, f, t, hk, hf, ht => by
    by_cases h : t < (signsFrom s 0).length
    · obtain ⟨k', rfl⟩ : ∃ k', k = k' + 1 := ⟨k - 1, by omega⟩
      have hr := rl_get s h
      have ha := al_get s h
      have hn := al_next s (i := t + 1) h
      rw [List.drop_eq_getElem_cons h]
      obtain ⟨hd, hd2⟩ : ∃ q, q = (signsFrom s 0)[t] := ⟨_, rfl⟩
      rw [← hd2] at hr ha ⊢
      obtain ⟨p, r⟩ := hd
      simp only at hr ha
      simp only [procL]
      rw [← hr, ← ha, ← hn]
      have htj := takes_joins (rl s) (al s) hf (t := t)
      cases hj : joinsB (rl s) f t with
      | true =>
        have ho : signOut true (gAt (rl s) (al s) f t) ((rl s).getD t 0) = [] := by unfold signOut; rw [htj, hj]; simp
        have hg : signGrp true (gAt (rl s) (al s) f t) ((al s).getD t 0) ((rl s).getD t 0) ((al s).getD (t + 1) 0) = gAt (rl s) (al s) f (t + 1) := by
          unfold signGrp
          rw [if_neg (by rw [htj, hj]; simp)]
          exact add_more _ _ hf hj
        rw [ho, hg, List.nil_append, rem_join (by rw [rl_len]; exact h) hj]
        exact proc_rem s k' f (t + 1) (by omega) (by omega) h
      | false =>
        have ho : signOut true (gAt (rl s) (al s) f t) ((rl s).getD t 0) = [(gAt (rl s) (al s) f t).c] := by unfold signOut; rw [htj, hj]; simp
        have hg : signGrp true (gAt (rl s) (al s) f t) ((al s).getD t 0) ((rl s).getD t 0) ((al s).getD (t + 1) 0) = gAt (rl s) (al s) t (t + 1) := by
          unfold signGrp
          rw [if_pos (by rw [htj, hj]; simp)]
          exact add_one _ _ t
        rw [ho, hg, rem_part (by rw [rl_len]; exact h) hj]
        rw [proc_rem s k' t (t + 1) (by omega) (by omega) h]
        rfl
    · rw [List.drop_of_length_le (by omega), rem_end (by rw [rl_len]; exact h)]
      rfl
theorem clusters_rem (s : ByteArray) : clusters s = if 0 < (signsFrom s 0).length then rem (rl s) (al s) 0 1 else [] := by
  rw [clusters_proc]
  by_cases h : 0 < (signsFrom s 0).length
  · rw [if_pos h, ← proc_rem s _ 0 1 (Nat.le_refl _) (by omega) h]
    have hr := rl_get s h
    have ha := al_get s h
    have hn := al_next s (i := 1) h
    have hd0 : (signsFrom s 0) = (signsFrom s 0)[0] :: (signsFrom s 0).drop 1 := by
      have := List.drop_eq_getElem_cons h
      simpa using this
    have h00 : ((signsFrom s 0)[0]).1 = 0 := by
      have hz : 0 < s.size := by
        rcases Nat.lt_or_ge 0 s.size with h1 | h1
        · exact h1
        · rw [signsFrom_end (by omega)] at h; simp at h
      have := signsFrom_step hz
      simp only [this]
      rfl
    obtain ⟨q, hq⟩ : ∃ q, q = (signsFrom s 0)[0] := ⟨_, rfl⟩
    rw [← hq] at hr ha hd0 h00
    rw [hd0]
    obtain ⟨p, r⟩ := q
    simp only at hr ha h00
    simp only [procL]
    have ho : signOut false Grp.zero (r : Int) = [] := rfl
    rw [ho, List.nil_append, ← hr, ← ha, List.drop_succ_cons, List.drop_zero, ← hn]
    have : signGrp false Grp.zero ((al s).getD 0 0) ((rl s).getD 0 0) ((al s).getD 1 0) = gAt (rl s) (al s) 0 1 := by
      unfold signGrp
      rw [if_neg (by simp)]
      have := add_one (rl s) (al s) 0
      rw [show (al s).getD 0 0 = 0 by rw [ha, h00]; rfl] at this ⊢
      exact this
    rw [this]
  · rw [if_neg h]
    have : signsFrom s 0 = [] := List.eq_nil_of_length_eq_zero (by omega)
    rw [this]
    rfl
theorem signsFrom_len (s : ByteArray) : (signsFrom s 0).length ≤ s.size := by
  have key : ∀ (k pos : Nat), s.size - pos ≤ k → (signsGo s k pos).length ≤ s.size - pos := by
    intro k
    induction k with
    | zero => intro pos _; simp [signsGo]
    | succ k ih =>
      intro pos h
      simp only [signsGo]
      split
      · have := width_pos s pos
        have ih := ih (pos + (Utf8.decode s pos).2) (by omega)
        simp only [List.length_cons]; omega
      · simp
  unfold signsFrom
  exact key _ _ (by omega)
theorem variant_yes {l : List Int} {f i : Nat} (hi : f < i) (hv : l.getD i 0 = 65039) : ∀ t, i < t → variant l f t = true
  | 0, h => by omega
  | t + 1, h => by
    simp only [variant]
    by_cases he : i = t
    · subst he; simp only [hv, hi]; simp
    · rw [variant_yes hi hv t (by omega)]; rfl
theorem variant_no {l : List Int} {f i : Nat} (h : variant l f i = false) (hv : ¬ l.getD i 0 = 65039) : variant l f (i + 1) = false := by
  simp only [variant, h]
  have : (l.getD i 0 == 65039) = false := by simpa using hv
  rw [this]; simp
theorem cellsR_pair {l : List Int} {f t : Nat} (h : f + 1 < t) (h1 : flagB (l.getD f 0) = true) (h2 : flagB (l.getD (f + 1) 0) = true) : cellsR l f t = 2 := by
  unfold cellsR; rw [if_pos ⟨by omega, h1, h2⟩]
theorem cellsR_arrow {l : List Int} {f t : Nat} (h : f + 1 < t → flagB (l.getD f 0) = true → flagB (l.getD (f + 1) 0) = false) : cellsR l f t = if arrowB (l.getD f 0) = true ∧ variant l f t = true then 2 else widthI (l.getD f 0) := by
  unfold cellsR
  rw [if_neg]
  rintro ⟨h1, h2, h3⟩
  rw [h (by omega) h2] at h3
  cases h3
theorem rem_len (l a : List Int) : ∀ (k f t : Nat), (remGo l a k f t).length ≤ k + 1
  | 0, _, _ => by simp [remGo]
  | k + 1, f, t => by
    simp only [remGo]
    split
    · split
      · have := rem_len l a k f (t + 1); omega
      · have := rem_len l a k t (t + 1); simp only [List.length_cons]; omega
    · simp
/-- What is still told when the next cluster begins at f. -/
def remAt (l a : List Int) (f : Nat) : List Clu := if f < l.length then rem l a f (f + 1) else []
theorem signsGo_lt (s : ByteArray) : ∀ (k pos : Nat), ∀ p ∈ signsGo s k pos, p.1 < s.size
  | 0, _, p, h => by simp [signsGo] at h
  | k + 1, pos, p, h => by
    simp only [signsGo] at h
    split at h
    · rcases List.mem_cons.1 h with rfl | h
      · assumption
      · exact signsGo_lt s k _ p h
    · cases h
theorem al_bd (s : ByteArray) (i : Nat) : 0 ≤ (al s).getD i 0 ∧ (al s).getD i 0 ≤ s.size := by
  by_cases h : i < (signsFrom s 0).length
  · rw [al_get s h]
    have := signsGo_lt s _ _ _ (List.getElem_mem h)
    omega
  · by_cases h2 : i = (signsFrom s 0).length
    · rw [al_next s (by omega), List.drop_of_length_le (by omega)]
      simp [nextPos]
    · have : (al s).getD i 0 = 0 := by
        rw [List.getD_eq_getElem?_getD, List.getElem?_eq_none (by rw [al_len]; omega)]; rfl
      omega
end Go.SX.Plain
/- Contracts of the document's chapter 2. -/
namespace Go.SX.Try
open Go.Proofs Go.Proofs.Try Go.SX.Plain
set_option maxRecDepth 100000
set_option maxHeartbeats 0
set_option linter.unusedSimpArgs false
theorem q_rnone : fact 137 f137 := ⟨by kernel_rfl, rfl, by kernel_rfl⟩
theorem q_rwide : fact 138 f138 := ⟨by kernel_rfl, rfl, by kernel_rfl⟩
theorem q_rwidth : fact 124 f124 := ⟨by kernel_rfl, rfl, by kernel_rfl⟩
theorem q_rcontrol : fact 125 f125 := ⟨by kernel_rfl, rfl, by kernel_rfl⟩
theorem q_rletter : fact 126 f126 := ⟨by kernel_rfl, rfl, by kernel_rfl⟩
theorem q_rcsigns : fact 98 f98 := ⟨by kernel_rfl, rfl, by kernel_rfl⟩
theorem q_rjoins : fact 99 f99 := ⟨by kernel_rfl, rfl, by kernel_rfl⟩
theorem q_rcells : fact 100 f100 := ⟨by kernel_rfl, rfl, by kernel_rfl⟩
theorem q_rclusters : fact 77 f77 := ⟨by kernel_rfl, rfl, by kernel_rfl⟩
theorem con_rnone : Con prog 137 (fun r : Int => [.v (.int .i32 r)]) (fun r => .sb (nothingB r)) (fun _ => True) := by
  refine Con.of (by kernel_rfl) T_ok CdsOK.nil GamOK.nil 1 [] q_rnone.1 q_rnone.2.1 q_rnone.2.2 (fun _ => rfl) fun r _ => ?_
  repeat' (first | (with_reducible exact fun h => h) | (with_reducible refine ExE.row (by with_unfolding_all rfl) ?_) | (with_reducible refine And.intro ?_ ?_) | ((with_reducible intro hq); first | (exact bne1 hq (by with_reducible assumption)) | (exact bne1 (by with_reducible assumption) hq) | ((simp only [*, Bool.and_true, Bool.true_and, Bool.and_false, Bool.false_and, Bool.or_true, Bool.true_or, Bool.or_false, Bool.false_or, Bool.not_true, Bool.not_false, Bool.true_eq_false, Bool.false_eq_true, cond_true, cond_false, Bool.cond_self, reduceCtorEq] at hq); done) | (revert hq; with_reducible intro _)) | (with_reducible exact True.intro) | (with_reducible rfl) | ((with_reducible refine WkX.chk ?_); (conv => whnf)) | ((with_reducible refine Wk.chk ?_); (conv => whnf)) | (with_reducible refine EntLe.row ?_) | (with_reducible exact LeN.ro rfl) | (with_reducible exact LeN.rptr) | ((with_reducible refine LeL.chk ?_); (conv => whnf)) | ((with_reducible show LeO _ _); (first | (refine LeO.ro ?_) | (refine LeO.roCap ?_) | (refine LeO.nil ?_ (fun _ => rfl)))) | ((with_reducible show LeR _ _ _); (first | (refine LeR.own rfl rfl rfl ?_) | (refine LeR.view rfl rfl rfl ?_ ?_) | (refine LeR.ro ?_) | (refine LeR.roCap ?_) | (refine LeR.nil ?_ (fun _ => rfl)))) | ((with_reducible refine LeF.chk ?_); (conv => whnf)) | (with_reducible assumption) | ((with_reducible refine Run.mk ?_); (conv => whnf)) | ((with_reducible show drawOK _ _ = true); kernel_rfl) | ((with_reducible show drawOK2 _ _ = true); kernel_rfl) | ((with_reducible show drawOK3 _ _ = true); kernel_rfl))
  all_goals rw [Bool.eq_iff_iff]
  all_goals simp only [nothingB, true_iff, false_iff, Bool.or_eq_true, Bool.and_eq_true, decide_eq_true_eq, decide_eq_false_iff_not, Bool.and_eq_false_iff, beq_iff_eq, beq_eq_false_iff_ne, eq_self, iff_true, Bool.false_eq_true, Bool.or_eq_false_iff] at *
  all_goals unfold nothingP
  all_goals omega
theorem con_rwide : Con prog 138 (fun r : Int => [.v (.int .i32 r)]) (fun r => .sb (wideB r)) (fun _ => True) := by
  refine Con.of (by kernel_rfl) T_ok CdsOK.nil GamOK.nil 1 [] q_rwide.1 q_rwide.2.1 q_rwide.2.2 (fun _ => rfl) fun r _ => ?_
  repeat' (first | (with_reducible exact fun h => h) | (with_reducible refine ExE.row (by with_unfolding_all rfl) ?_) | (with_reducible refine And.intro ?_ ?_) | ((with_reducible intro hq); first | (exact bne1 hq (by with_reducible assumption)) | (exact bne1 (by with_reducible assumption) hq) | ((simp only [*, Bool.and_true, Bool.true_and, Bool.and_false, Bool.false_and, Bool.or_true, Bool.true_or, Bool.or_false, Bool.false_or, Bool.not_true, Bool.not_false, Bool.true_eq_false, Bool.false_eq_true, cond_true, cond_false, Bool.cond_self, reduceCtorEq] at hq); done) | (revert hq; with_reducible intro _)) | (with_reducible exact True.intro) | (with_reducible rfl) | ((with_reducible refine WkX.chk ?_); (conv => whnf)) | ((with_reducible refine Wk.chk ?_); (conv => whnf)) | (with_reducible refine EntLe.row ?_) | (with_reducible exact LeN.ro rfl) | (with_reducible exact LeN.rptr) | ((with_reducible refine LeL.chk ?_); (conv => whnf)) | ((with_reducible show LeO _ _); (first | (refine LeO.ro ?_) | (refine LeO.roCap ?_) | (refine LeO.nil ?_ (fun _ => rfl)))) | ((with_reducible show LeR _ _ _); (first | (refine LeR.own rfl rfl rfl ?_) | (refine LeR.view rfl rfl rfl ?_ ?_) | (refine LeR.ro ?_) | (refine LeR.roCap ?_) | (refine LeR.nil ?_ (fun _ => rfl)))) | ((with_reducible refine LeF.chk ?_); (conv => whnf)) | (with_reducible assumption) | ((with_reducible refine Run.mk ?_); (conv => whnf)) | ((with_reducible show drawOK _ _ = true); kernel_rfl) | ((with_reducible show drawOK2 _ _ = true); kernel_rfl) | ((with_reducible show drawOK3 _ _ = true); kernel_rfl))
  all_goals rw [Bool.eq_iff_iff]
  all_goals simp only [wideB, true_iff, false_iff, Bool.or_eq_true, Bool.and_eq_true, decide_eq_true_eq, decide_eq_false_iff_not, Bool.and_eq_false_iff, beq_iff_eq, beq_eq_false_iff_ne, eq_self, iff_true, Bool.false_eq_true, Bool.or_eq_false_iff] at *
  all_goals unfold wideP
  all_goals omega
theorem con_rwidth : Con prog 124 (fun r : Int => [.v (.int .i32 r)]) (fun r => .v (.int .i64 (widthI r))) (fun _ => True) := by
  refine Con.of (by kernel_rfl) T_ok CdsOK.nil (.con con_rnone (.con con_rwide GamOK.nil)) 2 [] q_rwidth.1 q_rwidth.2.1 q_rwidth.2.2 (fun _ => rfl) fun r _ => ?_
  repeat' (first | (with_reducible refine ⟨_, ⟨.cons (.v _) .nil, trivial⟩, ?_⟩) | (with_reducible exact fun h => h) | (with_reducible refine ExE.row (by with_unfolding_all rfl) ?_) | (with_reducible refine And.intro ?_ ?_) | ((with_reducible intro hq); first | (exact bne1 hq (by with_reducible assumption)) | (exact bne1 (by with_reducible assumption) hq) | ((simp only [*, Bool.and_true, Bool.true_and, Bool.and_false, Bool.false_and, Bool.or_true, Bool.true_or, Bool.or_false, Bool.false_or, Bool.not_true, Bool.not_false, Bool.true_eq_false, Bool.false_eq_true, cond_true, cond_false, Bool.cond_self, reduceCtorEq] at hq); done) | (revert hq; with_reducible intro _)) | (with_reducible exact True.intro) | (with_reducible rfl) | ((with_reducible refine WkX.chk ?_); (conv => whnf)) | ((with_reducible refine Wk.chk ?_); (conv => whnf)) | (with_reducible refine EntLe.row ?_) | (with_reducible exact LeN.ro rfl) | (with_reducible exact LeN.rptr) | ((with_reducible refine LeL.chk ?_); (conv => whnf)) | ((with_reducible show LeO _ _); (first | (refine LeO.ro ?_) | (refine LeO.roCap ?_) | (refine LeO.nil ?_ (fun _ => rfl)))) | ((with_reducible show LeR _ _ _); (first | (refine LeR.own rfl rfl rfl ?_) | (refine LeR.view rfl rfl rfl ?_ ?_) | (refine LeR.ro ?_) | (refine LeR.roCap ?_) | (refine LeR.nil ?_ (fun _ => rfl)))) | ((with_reducible refine LeF.chk ?_); (conv => whnf)) | (with_reducible assumption) | ((with_reducible refine Run.mk ?_); (conv => whnf)) | ((with_reducible show drawOK _ _ = true); kernel_rfl) | ((with_reducible show drawOK2 _ _ = true); kernel_rfl) | ((with_reducible show drawOK3 _ _ = true); kernel_rfl))
  all_goals simp_all [widthI]
theorem con_rcontrol : Con prog 125 (fun r : Int => [.v (.int .i32 r)]) (fun r => .sb (controlB r)) (fun _ => True) := by
  refine Con.of (by kernel_rfl) T_ok CdsOK.nil GamOK.nil 1 [] q_rcontrol.1 q_rcontrol.2.1 q_rcontrol.2.2 (fun _ => rfl) fun r _ => ?_
  repeat' (first | (with_reducible exact fun h => h) | (with_reducible refine ExE.row (by with_unfolding_all rfl) ?_) | (with_reducible refine And.intro ?_ ?_) | ((with_reducible intro hq); first | (exact bne1 hq (by with_reducible assumption)) | (exact bne1 (by with_reducible assumption) hq) | ((simp only [*, Bool.and_true, Bool.true_and, Bool.and_false, Bool.false_and, Bool.or_true, Bool.true_or, Bool.or_false, Bool.false_or, Bool.not_true, Bool.not_false, Bool.true_eq_false, Bool.false_eq_true, cond_true, cond_false, Bool.cond_self, reduceCtorEq] at hq); done) | (revert hq; with_reducible intro _)) | (with_reducible exact True.intro) | (with_reducible rfl) | ((with_reducible refine WkX.chk ?_); (conv => whnf)) | ((with_reducible refine Wk.chk ?_); (conv => whnf)) | (with_reducible refine EntLe.row ?_) | (with_reducible exact LeN.ro rfl) | (with_reducible exact LeN.rptr) | ((with_reducible refine LeL.chk ?_); (conv => whnf)) | ((with_reducible show LeO _ _); (first | (refine LeO.ro ?_) | (refine LeO.roCap ?_) | (refine LeO.nil ?_ (fun _ => rfl)))) | ((with_reducible show LeR _ _ _); (first | (refine LeR.own rfl rfl rfl ?_) | (refine LeR.view rfl rfl rfl ?_ ?_) | (refine LeR.ro ?_) | (refine LeR.roCap ?_) | (refine LeR.nil ?_ (fun _ => rfl)))) | ((with_reducible refine LeF.chk ?_); (conv => whnf)) | (with_reducible assumption) | ((with_reducible refine Run.mk ?_); (conv => whnf)) | ((with_reducible show drawOK _ _ = true); kernel_rfl) | ((with_reducible show drawOK2 _ _ = true); kernel_rfl) | ((with_reducible show drawOK3 _ _ = true); kernel_rfl))
  all_goals (try unfold controlB)
  all_goals (rw [Bool.eq_iff_iff])
  all_goals simp only [ true_iff, false_iff, Bool.or_eq_true, Bool.and_eq_true, decide_eq_true_eq, decide_eq_false_iff_not, Bool.and_eq_false_iff, beq_iff_eq, beq_eq_false_iff_ne, eq_self, iff_true, Bool.false_eq_true, Bool.or_eq_false_iff, Bool.not_eq_true'] at *
  all_goals (try unfold controlP)
  all_goals omega
theorem con_rletter : Con prog 126 (fun r : Int => [.v (.int .i32 r)]) (fun r => .sb (flagB r)) (fun _ => True) := by
  refine Con.of (by kernel_rfl) T_ok CdsOK.nil GamOK.nil 1 [] q_rletter.1 q_rletter.2.1 q_rletter.2.2 (fun _ => rfl) fun r _ => ?_
  repeat' (first | (with_reducible exact fun h => h) | (with_reducible refine ExE.row (by with_unfolding_all rfl) ?_) | (with_reducible refine And.intro ?_ ?_) | ((with_reducible intro hq); first | (exact bne1 hq (by with_reducible assumption)) | (exact bne1 (by with_reducible assumption) hq) | ((simp only [*, Bool.and_true, Bool.true_and, Bool.and_false, Bool.false_and, Bool.or_true, Bool.true_or, Bool.or_false, Bool.false_or, Bool.not_true, Bool.not_false, Bool.true_eq_false, Bool.false_eq_true, cond_true, cond_false, Bool.cond_self, reduceCtorEq] at hq); done) | (revert hq; with_reducible intro _)) | (with_reducible exact True.intro) | (with_reducible rfl) | ((with_reducible refine WkX.chk ?_); (conv => whnf)) | ((with_reducible refine Wk.chk ?_); (conv => whnf)) | (with_reducible refine EntLe.row ?_) | (with_reducible exact LeN.ro rfl) | (with_reducible exact LeN.rptr) | ((with_reducible refine LeL.chk ?_); (conv => whnf)) | ((with_reducible show LeO _ _); (first | (refine LeO.ro ?_) | (refine LeO.roCap ?_) | (refine LeO.nil ?_ (fun _ => rfl)))) | ((with_reducible show LeR _ _ _); (first | (refine LeR.own rfl rfl rfl ?_) | (refine LeR.view rfl rfl rfl ?_ ?_) | (refine LeR.ro ?_) | (refine LeR.roCap ?_) | (refine LeR.nil ?_ (fun _ => rfl)))) | ((with_reducible refine LeF.chk ?_); (conv => whnf)) | (with_reducible assumption) | ((with_reducible refine Run.mk ?_); (conv => whnf)) | ((with_reducible show drawOK _ _ = true); kernel_rfl) | ((with_reducible show drawOK2 _ _ = true); kernel_rfl) | ((with_reducible show drawOK3 _ _ = true); kernel_rfl))
  all_goals rw [Bool.eq_iff_iff]
  all_goals simp only [flagB, true_iff, false_iff, Bool.or_eq_true, Bool.and_eq_true, decide_eq_true_eq, decide_eq_false_iff_not, Bool.and_eq_false_iff, beq_iff_eq, beq_eq_false_iff_ne, eq_self, iff_true, Bool.false_eq_true] at *
  all_goals unfold flagP
  all_goals omega
def C_i32 : Cdc Int where
  size := 1
  enc p := [.v (.int .i32 p)]
  dec l := match l with
    | [.v (.int _ a)] => a
    | _ => 0
  d := 0
def D_csg : Cds := [(21, ⟨Int, C_i32⟩), (3, ⟨Int, C_int⟩)]
theorem D_csg_ok : CdsOK T D_csg := .cons ⟨fun _ => rfl, by decide, _, rfl, rfl, by decide⟩ (.cons ⟨fun _ => rfl, by decide, _, rfl, rfl, by decide⟩ .nil)
def C_clu : Cdc Clu where
  size := 5
  enc p := [.v (.int .i64 p.at), .v (.int .i64 p.len), .v (.int .i64 p.frm), .v (.int .i64 p.to), .v (.int .i64 p.cells)]
  dec l := match l with
    | [.v (.int _ a), .v (.int _ b), .v (.int _ c), .v (.int _ d), .v (.int _ e)] => ⟨a, b, c, d, e⟩
    | _ => ⟨0, 0, 0, 0, 0⟩
  d := ⟨0, 0, 0, 0, 0⟩
def D_clu : Cds := [(131, ⟨Clu, C_clu⟩)]
theorem D_clu_ok : CdsOK T D_clu := .cons ⟨fun _ => rfl, by decide, _, rfl, rfl, by decide⟩ .nil
theorem con_rcsigns : Con prog 98 (fun s : ByteArray => [.v (.string s)]) (fun s => .tup [.ro 1 C_i32.enc C_i32.d (rl s) none, .ro 1 C_int.enc C_int.d (al s) none]) (fun s => s.size ≤ 1000000) := by
  refine Con.of (by kernel_rfl) T_ok D_csg_ok .nil 2 [] q_rcsigns.1 q_rcsigns.2.1 q_rcsigns.2.2 (fun _ => rfl) fun s hs => ?_
  repeat' (first | (with_reducible exact fun h => h) | (with_reducible refine ExE.row (by with_unfolding_all rfl) ?_) | (with_reducible refine And.intro ?_ ?_) | ((with_reducible intro hq); first | (exact bne1 hq (by with_reducible assumption)) | (exact bne1 (by with_reducible assumption) hq) | ((simp only [*, Bool.and_true, Bool.true_and, Bool.and_false, Bool.false_and, Bool.or_true, Bool.true_or, Bool.or_false, Bool.false_or, Bool.not_true, Bool.not_false, Bool.true_eq_false, Bool.false_eq_true, cond_true, cond_false, Bool.cond_self, reduceCtorEq] at hq); done) | (revert hq; with_reducible intro _)) | (with_reducible exact True.intro) | (with_reducible rfl) | ((with_reducible refine WkX.chk ?_); (conv => whnf)) | ((with_reducible refine Wk.chk ?_); (conv => whnf)) | (with_reducible refine EntLe.row ?_) | (with_reducible exact LeN.ro rfl) | (with_reducible exact LeN.rptr) | ((with_reducible refine LeL.chk ?_); (conv => whnf)) | ((with_reducible show LeO _ _); (first | (refine LeO.ro ?_) | (refine LeO.roCap ?_) | (refine LeO.nil ?_ (fun _ => rfl)))) | ((with_reducible show LeR _ _ _); (first | (refine LeR.own rfl rfl rfl ?_) | (refine LeR.view rfl rfl rfl ?_ ?_) | (refine LeR.ro ?_) | (refine LeR.roCap ?_) | (refine LeR.nil ?_ (fun _ => rfl)))) | ((with_reducible refine LeF.chk ?_); (conv => whnf)) | (with_reducible assumption) | ((with_reducible refine Run.mk ?_); (conv => whnf)) | ((with_reducible show drawOK _ _ = true); kernel_rfl) | ((with_reducible show drawOK2 _ _ = true); kernel_rfl) | ((with_reducible show drawOK3 _ _ = true); kernel_rfl))
  have hl := signsFrom_len s
  refine loopI (Nat × List Int × List Int) [] (fun _ => [(4, .own 2), (5, .own 3)]) (fun | (pos, l, a) => [(4, .iter s pos), (3, .row C_int a 3 none), (2, .row C_i32 l 21 none)])
    (fun | (pos, l, a) => pos ≤ s.size ∧ l.length ≤ pos ∧ a.length ≤ pos ∧ l ++ (signsFrom s pos).map (fun p => (p.2 : Int)) = rl s ∧ a ++ ((signsFrom s pos).map (fun p => (p.1 : Int)) ++ [(s.size : Int)]) = al s) (fun | (pos, _) => s.size - pos) (0, [], []) ⟨Nat.zero_le _, Nat.le_refl _, Nat.le_refl _, rfl, rfl⟩ (Wk.chk ?_) fun i hi => ?_
  · ((conv => whnf); repeat' (first | (with_reducible exact fun h => h) | (with_reducible refine ExE.row (by with_unfolding_all rfl) ?_) | (with_reducible refine And.intro ?_ ?_) | ((with_reducible intro hq); first | (exact bne1 hq (by with_reducible assumption)) | (exact bne1 (by with_reducible assumption) hq) | ((simp only [*, Bool.and_true, Bool.true_and, Bool.and_false, Bool.false_and, Bool.or_true, Bool.true_or, Bool.or_false, Bool.false_or, Bool.not_true, Bool.not_false, Bool.true_eq_false, Bool.false_eq_true, cond_true, cond_false, Bool.cond_self, reduceCtorEq] at hq); done) | (revert hq; with_reducible intro _)) | (with_reducible exact True.intro) | (with_reducible rfl) | ((with_reducible refine WkX.chk ?_); (conv => whnf)) | ((with_reducible refine Wk.chk ?_); (conv => whnf)) | (with_reducible refine EntLe.row ?_) | (with_reducible exact LeN.ro rfl) | (with_reducible exact LeN.rptr) | ((with_reducible refine LeL.chk ?_); (conv => whnf)) | ((with_reducible show LeO _ _); (first | (refine LeO.ro ?_) | (refine LeO.roCap ?_) | (refine LeO.nil ?_ (fun _ => rfl)))) | ((with_reducible show LeR _ _ _); (first | (refine LeR.own rfl rfl rfl ?_) | (refine LeR.view rfl rfl rfl ?_ ?_) | (refine LeR.ro ?_) | (refine LeR.roCap ?_) | (refine LeR.nil ?_ (fun _ => rfl)))) | ((with_reducible refine LeF.chk ?_); (conv => whnf)) | (with_reducible assumption) | ((with_reducible refine Run.mk ?_); (conv => whnf)) | ((with_reducible show drawOK _ _ = true); kernel_rfl) | ((with_reducible show drawOK2 _ _ = true); kernel_rfl) | ((with_reducible show drawOK3 _ _ = true); kernel_rfl)))
    all_goals rfl
  obtain ⟨pos, l, a⟩ := i
  obtain ⟨h0, h1, h2, h3, h4⟩ := hi
  repeat' (first | (with_reducible refine ex_of (α := Nat × List Int × List Int) (pos + (Utf8.decode s pos).2, l ++ [((Utf8.decode s pos).1 : Int)], a ++ [(pos : Int)]) ⟨⟨?_, ?_, ?_, ?_, ?_⟩, ?_⟩ ?_) | (with_reducible exact fun h => h) | (with_reducible refine ExE.row (by with_unfolding_all rfl) ?_) | (with_reducible refine And.intro ?_ ?_) | ((with_reducible intro hq); first | (exact bne1 hq (by with_reducible assumption)) | (exact bne1 (by with_reducible assumption) hq) | ((simp only [*, Bool.and_true, Bool.true_and, Bool.and_false, Bool.false_and, Bool.or_true, Bool.true_or, Bool.or_false, Bool.false_or, Bool.not_true, Bool.not_false, Bool.true_eq_false, Bool.false_eq_true, cond_true, cond_false, Bool.cond_self, reduceCtorEq] at hq); done) | (revert hq; with_reducible intro _)) | (with_reducible exact True.intro) | (with_reducible rfl) | ((with_reducible refine WkX.chk ?_); (conv => whnf)) | ((with_reducible refine Wk.chk ?_); (conv => whnf)) | (with_reducible refine EntLe.row ?_) | (with_reducible exact LeN.ro rfl) | (with_reducible exact LeN.rptr) | ((with_reducible refine LeL.chk ?_); (conv => whnf)) | ((with_reducible show LeO _ _); (first | (refine LeO.ro ?_) | (refine LeO.roCap ?_) | (refine LeO.nil ?_ (fun _ => rfl)))) | ((with_reducible show LeR _ _ _); (first | (refine LeR.own rfl rfl rfl ?_) | (refine LeR.view rfl rfl rfl ?_ ?_) | (refine LeR.ro ?_) | (refine LeR.roCap ?_) | (refine LeR.nil ?_ (fun _ => rfl)))) | ((with_reducible refine LeF.chk ?_); (conv => whnf)) | (with_reducible assumption) | ((with_reducible refine Run.mk ?_); (conv => whnf)) | ((with_reducible show drawOK _ _ = true); kernel_rfl) | ((with_reducible show drawOK2 _ _ = true); kernel_rfl) | ((with_reducible show drawOK3 _ _ = true); kernel_rfl))
  all_goals first
    | rfl
    | (have hw := width_pos s pos
       have hwl := width_le (s := s) (pos := pos) (by assumption)
       first
       | omega
       | (simp only [List.length_append, List.length_cons, List.length_nil]; omega)
       | (rw [signsFrom_step (by assumption)] at h3; rw [List.append_assoc]; exact h3)
       | (rw [signsFrom_step (by assumption)] at h4; rw [List.append_assoc]; exact h4)
       | (dsimp only; omega))
    | (simp only [List.length_cons, List.length_nil]; omega)
    | (rw [signsFrom_end (by assumption)] at h3; simpa using h3)
    | (rw [signsFrom_end (by assumption)] at h4; simpa [C_int] using h4)
theorem con_rjoins : Con prog 99 (fun ((l, f, k) : List Int × Int × Int) => [.ro 1 C_i32.enc C_i32.d l none, .v (.int .i64 f), .v (.int .i64 k)]) (fun (l, f, k) => .sb (joinsB l f.toNat k.toNat)) (fun (l, f, k) => 0 ≤ f ∧ f < k ∧ k < l.length ∧ l.length ≤ 1000000) := by
  refine Con.of (by kernel_rfl) T_ok D_csg_ok (.con con_rwidth (.con con_rcontrol (.con con_rletter .nil))) 3 [] q_rjoins.1 q_rjoins.2.1 q_rjoins.2.2 (fun _ => rfl) fun i hi => ?_
  obtain ⟨l, f, k⟩ := i
  obtain ⟨h1, h2, h3, h4⟩ : 0 ≤ f ∧ f < k ∧ k < l.length ∧ l.length ≤ 1000000 := hi
  obtain ⟨f, rfl⟩ := Int.eq_ofNat_of_zero_le h1
  obtain ⟨k, rfl⟩ := Int.eq_ofNat_of_zero_le (show 0 ≤ k by omega)
  have e1 : ((f : Int)).toNat = f := Int.toNat_natCast _
  have e2 : ((k : Int)).toNat = k := Int.toNat_natCast _
  have e3 : ((k : Int) - 1).toNat = k - 1 := by omega
  have e4 : C_i32.d = 0 := rfl
  have e5 : ((k : Int) == (f : Int) + 1) = decide (k = f + 1) := by rw [Bool.eq_iff_iff]; simp; omega
  repeat' (first | (with_reducible refine ⟨_, ⟨(.cons (.v _) .nil), ?_⟩, ?_⟩) | (with_reducible exact fun h => h) | (with_reducible refine ExE.row (by with_unfolding_all rfl) ?_) | (with_reducible refine And.intro ?_ ?_) | ((with_reducible intro hq); first | (exact bne1 hq (by with_reducible assumption)) | (exact bne1 (by with_reducible assumption) hq) | ((simp only [*, Bool.and_true, Bool.true_and, Bool.and_false, Bool.false_and, Bool.or_true, Bool.true_or, Bool.or_false, Bool.false_or, Bool.not_true, Bool.not_false, Bool.true_eq_false, Bool.false_eq_true, cond_true, cond_false, Bool.cond_self, reduceCtorEq] at hq); done) | (revert hq; with_reducible intro _)) | (with_reducible exact True.intro) | (with_reducible rfl) | ((with_reducible refine WkX.chk ?_); (conv => whnf)) | ((with_reducible refine Wk.chk ?_); (conv => whnf)) | (with_reducible refine EntLe.row ?_) | (with_reducible exact LeN.ro rfl) | (with_reducible exact LeN.rptr) | ((with_reducible refine LeL.chk ?_); (conv => whnf)) | ((with_reducible show LeO _ _); (first | (refine LeO.ro ?_) | (refine LeO.roCap ?_) | (refine LeO.nil ?_ (fun _ => rfl)))) | ((with_reducible show LeR _ _ _); (first | (refine LeR.own rfl rfl rfl ?_) | (refine LeR.view rfl rfl rfl ?_ ?_) | (refine LeR.ro ?_) | (refine LeR.roCap ?_) | (refine LeR.nil ?_ (fun _ => rfl)))) | ((with_reducible refine LeF.chk ?_); (conv => whnf)) | (with_reducible assumption) | ((with_reducible refine Run.mk ?_); (conv => whnf)) | ((with_reducible show drawOK _ _ = true); kernel_rfl) | ((with_reducible show drawOK2 _ _ = true); kernel_rfl) | ((with_reducible show drawOK3 _ _ = true); kernel_rfl))
  all_goals (try simp only [e1, e2, e3, e4, e5] at *)
  all_goals first
    | omega
    | (refine Fits.i64 ?_ ?_ <;> omega)
    | (unfold joinsB; simp_all; done)
theorem con_rcells : Con prog 100 (fun ((l, f, k) : List Int × Int × Int) => [.ro 1 C_i32.enc C_i32.d l none, .v (.int .i64 f), .v (.int .i64 k)]) (fun (l, f, k) => .v (.int .i64 (cellsR l f.toNat k.toNat))) (fun (l, f, k) => 0 ≤ f ∧ f < k ∧ k ≤ l.length ∧ l.length ≤ 1000000) := by
  refine Con.of (by kernel_rfl) T_ok D_csg_ok (.con con_rwidth (.con con_rletter .nil)) 3 [3] q_rcells.1 q_rcells.2.1 q_rcells.2.2 (fun _ => rfl) fun i hi => ?_
  obtain ⟨l, f, k⟩ := i
  obtain ⟨h1, h2, h3, h4⟩ : 0 ≤ f ∧ f < k ∧ k ≤ l.length ∧ l.length ≤ 1000000 := hi
  obtain ⟨f, rfl⟩ := Int.eq_ofNat_of_zero_le h1
  obtain ⟨k, rfl⟩ := Int.eq_ofNat_of_zero_le (show 0 ≤ k by omega)
  have e1 : ((f : Int)).toNat = f := Int.toNat_natCast _
  have e2 : ((k : Int)).toNat = k := Int.toNat_natCast _
  have e3 : ((f : Int) + 1).toNat = f + 1 := by omega
  have e4 : C_i32.d = 0 := rfl
  repeat' (first | (with_reducible exact fun h => h) | (with_reducible refine ExE.row (by with_unfolding_all rfl) ?_) | (with_reducible refine And.intro ?_ ?_) | ((with_reducible intro hq); first | (exact bne1 hq (by with_reducible assumption)) | (exact bne1 (by with_reducible assumption) hq) | ((simp only [*, Bool.and_true, Bool.true_and, Bool.and_false, Bool.false_and, Bool.or_true, Bool.true_or, Bool.or_false, Bool.false_or, Bool.not_true, Bool.not_false, Bool.true_eq_false, Bool.false_eq_true, cond_true, cond_false, Bool.cond_self, reduceCtorEq] at hq); done) | (revert hq; with_reducible intro _)) | (with_reducible exact True.intro) | (with_reducible rfl) | ((with_reducible refine WkX.chk ?_); (conv => whnf)) | ((with_reducible refine Wk.chk ?_); (conv => whnf)) | (with_reducible refine EntLe.row ?_) | (with_reducible exact LeN.ro rfl) | (with_reducible exact LeN.rptr) | ((with_reducible refine LeL.chk ?_); (conv => whnf)) | ((with_reducible show LeO _ _); (first | (refine LeO.ro ?_) | (refine LeO.roCap ?_) | (refine LeO.nil ?_ (fun _ => rfl)))) | ((with_reducible show LeR _ _ _); (first | (refine LeR.own rfl rfl rfl ?_) | (refine LeR.view rfl rfl rfl ?_ ?_) | (refine LeR.ro ?_) | (refine LeR.roCap ?_) | (refine LeR.nil ?_ (fun _ => rfl)))) | ((with_reducible refine LeF.chk ?_); (conv => whnf)) | (with_reducible assumption) | ((with_reducible refine Run.mk ?_); (conv => whnf)) | ((with_reducible show drawOK _ _ = true); kernel_rfl) | ((with_reducible show drawOK2 _ _ = true); kernel_rfl) | ((with_reducible show drawOK3 _ _ = true); kernel_rfl))
  refine joinI Unit [] (fun _ => []) (fun _ => []) (fun _ => f + 1 < k → flagB (l.getD f 0) = true → flagB (l.getD (f + 1) 0) = false) ?_ fun _ hP => ?_
  · repeat' (first | (with_reducible refine ⟨_, ⟨(.cons (.v _) .nil), ?_⟩, ?_⟩) | (with_reducible refine ex_of () ?_ ?_) | (with_reducible exact fun h => h) | (with_reducible refine ExE.row (by with_unfolding_all rfl) ?_) | (with_reducible refine And.intro ?_ ?_) | ((with_reducible intro hq); first | (exact bne1 hq (by with_reducible assumption)) | (exact bne1 (by with_reducible assumption) hq) | ((simp only [*, Bool.and_true, Bool.true_and, Bool.and_false, Bool.false_and, Bool.or_true, Bool.true_or, Bool.or_false, Bool.false_or, Bool.not_true, Bool.not_false, Bool.true_eq_false, Bool.false_eq_true, cond_true, cond_false, Bool.cond_self, reduceCtorEq] at hq); done) | (revert hq; with_reducible intro _)) | (with_reducible exact True.intro) | (with_reducible rfl) | ((with_reducible refine WkX.chk ?_); (conv => whnf)) | ((with_reducible refine Wk.chk ?_); (conv => whnf)) | (with_reducible refine EntLe.row ?_) | (with_reducible exact LeN.ro rfl) | (with_reducible exact LeN.rptr) | ((with_reducible refine LeL.chk ?_); (conv => whnf)) | ((with_reducible show LeO _ _); (first | (refine LeO.ro ?_) | (refine LeO.roCap ?_) | (refine LeO.nil ?_ (fun _ => rfl)))) | ((with_reducible show LeR _ _ _); (first | (refine LeR.own rfl rfl rfl ?_) | (refine LeR.view rfl rfl rfl ?_ ?_) | (refine LeR.ro ?_) | (refine LeR.roCap ?_) | (refine LeR.nil ?_ (fun _ => rfl)))) | ((with_reducible refine LeF.chk ?_); (conv => whnf)) | (with_reducible assumption) | ((with_reducible refine Run.mk ?_); (conv => whnf)) | ((with_reducible show drawOK _ _ = true); kernel_rfl) | ((with_reducible show drawOK2 _ _ = true); kernel_rfl) | ((with_reducible show drawOK3 _ _ = true); kernel_rfl))
    all_goals (try simp only [e1, e2, e3, e4, decide_eq_true_eq, decide_eq_false_iff_not, Bool.and_eq_true, Bool.and_eq_false_iff] at *)
    all_goals first
      | omega
      | (refine Fits.i64 ?_ ?_ <;> omega)
      | (rw [cellsR_pair (by omega) (by simp_all) (by simp_all)]; done)
      | (intro q1 q2; simp_all; done)
      | simp_all
      | (rename_i q0 _ _ h9; rcases h9 with (h9 | h9) | h9 <;> first | omega | simp_all)
      | (rename_i q0 _ h9; rcases h9 with h9 | h9 <;> first | omega | simp_all)
      | (intro q1 q2; exfalso; omega)
  · have hc := cellsR_arrow hP
    repeat' (first | (with_reducible refine ⟨_, ⟨(.cons (.v _) .nil), ?_⟩, ?_⟩) | (with_reducible exact fun h => h) | (with_reducible refine ExE.row (by with_unfolding_all rfl) ?_) | (with_reducible refine And.intro ?_ ?_) | ((with_reducible intro hq); first | (exact bne1 hq (by with_reducible assumption)) | (exact bne1 (by with_reducible assumption) hq) | ((simp only [*, Bool.and_true, Bool.true_and, Bool.and_false, Bool.false_and, Bool.or_true, Bool.true_or, Bool.or_false, Bool.false_or, Bool.not_true, Bool.not_false, Bool.true_eq_false, Bool.false_eq_true, cond_true, cond_false, Bool.cond_self, reduceCtorEq] at hq); done) | (revert hq; with_reducible intro _)) | (with_reducible exact True.intro) | (with_reducible rfl) | ((with_reducible refine WkX.chk ?_); (conv => whnf)) | ((with_reducible refine Wk.chk ?_); (conv => whnf)) | (with_reducible refine EntLe.row ?_) | (with_reducible exact LeN.ro rfl) | (with_reducible exact LeN.rptr) | ((with_reducible refine LeL.chk ?_); (conv => whnf)) | ((with_reducible show LeO _ _); (first | (refine LeO.ro ?_) | (refine LeO.roCap ?_) | (refine LeO.nil ?_ (fun _ => rfl)))) | ((with_reducible show LeR _ _ _); (first | (refine LeR.own rfl rfl rfl ?_) | (refine LeR.view rfl rfl rfl ?_ ?_) | (refine LeR.ro ?_) | (refine LeR.roCap ?_) | (refine LeR.nil ?_ (fun _ => rfl)))) | ((with_reducible refine LeF.chk ?_); (conv => whnf)) | (with_reducible assumption) | ((with_reducible refine Run.mk ?_); (conv => whnf)) | ((with_reducible show drawOK _ _ = true); kernel_rfl) | ((with_reducible show drawOK2 _ _ = true); kernel_rfl) | ((with_reducible show drawOK3 _ _ = true); kernel_rfl))
    all_goals (try simp only [e1, e2, e3, e4, decide_eq_true_eq, decide_eq_false_iff_not] at *)
    all_goals first
      | omega
      | (refine Fits.i64 ?_ ?_ <;> omega)
      | skip
    · rename_i ha
      have ha : arrowB (l.getD f 0) = true := ha
      refine loopI Nat [] (fun i => [(7, .v (.int .i64 (i : Int)))]) (fun _ => []) (fun i => f < i ∧ i ≤ k ∧ variant l f i = false) (fun i => k - i) (f + 1) ⟨by omega, by omega, variant_one l f _ (Nat.le_refl _)⟩ (Wk.chk ?_) fun i hi => ?_
      · ((conv => whnf); repeat' (first | (with_reducible exact fun h => h) | (with_reducible refine ExE.row (by with_unfolding_all rfl) ?_) | (with_reducible refine And.intro ?_ ?_) | ((with_reducible intro hq); first | (exact bne1 hq (by with_reducible assumption)) | (exact bne1 (by with_reducible assumption) hq) | ((simp only [*, Bool.and_true, Bool.true_and, Bool.and_false, Bool.false_and, Bool.or_true, Bool.true_or, Bool.or_false, Bool.false_or, Bool.not_true, Bool.not_false, Bool.true_eq_false, Bool.false_eq_true, cond_true, cond_false, Bool.cond_self, reduceCtorEq] at hq); done) | (revert hq; with_reducible intro _)) | (with_reducible exact True.intro) | (with_reducible rfl) | ((with_reducible refine WkX.chk ?_); (conv => whnf)) | ((with_reducible refine Wk.chk ?_); (conv => whnf)) | (with_reducible refine EntLe.row ?_) | (with_reducible exact LeN.ro rfl) | (with_reducible exact LeN.rptr) | ((with_reducible refine LeL.chk ?_); (conv => whnf)) | ((with_reducible show LeO _ _); (first | (refine LeO.ro ?_) | (refine LeO.roCap ?_) | (refine LeO.nil ?_ (fun _ => rfl)))) | ((with_reducible show LeR _ _ _); (first | (refine LeR.own rfl rfl rfl ?_) | (refine LeR.view rfl rfl rfl ?_ ?_) | (refine LeR.ro ?_) | (refine LeR.roCap ?_) | (refine LeR.nil ?_ (fun _ => rfl)))) | ((with_reducible refine LeF.chk ?_); (conv => whnf)) | (with_reducible assumption) | ((with_reducible refine Run.mk ?_); (conv => whnf)) | ((with_reducible show drawOK _ _ = true); kernel_rfl) | ((with_reducible show drawOK2 _ _ = true); kernel_rfl) | ((with_reducible show drawOK3 _ _ = true); kernel_rfl)))
        all_goals rfl
      obtain ⟨i1, i2, i3⟩ := hi
      have e5 : ((i : Int)).toNat = i := Int.toNat_natCast _
      repeat' (first | (with_reducible refine ⟨_, ⟨(.cons (.v _) .nil), ?_⟩, ?_⟩) | (with_reducible refine ex_of (i + 1) ⟨⟨?_, ?_, ?_⟩, ?_⟩ ?_) | (with_reducible exact fun h => h) | (with_reducible refine ExE.row (by with_unfolding_all rfl) ?_) | (with_reducible refine And.intro ?_ ?_) | ((with_reducible intro hq); first | (exact bne1 hq (by with_reducible assumption)) | (exact bne1 (by with_reducible assumption) hq) | ((simp only [*, Bool.and_true, Bool.true_and, Bool.and_false, Bool.false_and, Bool.or_true, Bool.true_or, Bool.or_false, Bool.false_or, Bool.not_true, Bool.not_false, Bool.true_eq_false, Bool.false_eq_true, cond_true, cond_false, Bool.cond_self, reduceCtorEq] at hq); done) | (revert hq; with_reducible intro _)) | (with_reducible exact True.intro) | (with_reducible rfl) | ((with_reducible refine WkX.chk ?_); (conv => whnf)) | ((with_reducible refine Wk.chk ?_); (conv => whnf)) | (with_reducible refine EntLe.row ?_) | (with_reducible exact LeN.ro rfl) | (with_reducible exact LeN.rptr) | ((with_reducible refine LeL.chk ?_); (conv => whnf)) | ((with_reducible show LeO _ _); (first | (refine LeO.ro ?_) | (refine LeO.roCap ?_) | (refine LeO.nil ?_ (fun _ => rfl)))) | ((with_reducible show LeR _ _ _); (first | (refine LeR.own rfl rfl rfl ?_) | (refine LeR.view rfl rfl rfl ?_ ?_) | (refine LeR.ro ?_) | (refine LeR.roCap ?_) | (refine LeR.nil ?_ (fun _ => rfl)))) | ((with_reducible refine LeF.chk ?_); (conv => whnf)) | (with_reducible assumption) | ((with_reducible refine Run.mk ?_); (conv => whnf)) | ((with_reducible show drawOK _ _ = true); kernel_rfl) | ((with_reducible show drawOK2 _ _ = true); kernel_rfl) | ((with_reducible show drawOK3 _ _ = true); kernel_rfl))
      all_goals (try simp only [e1, e2, e3, e4, e5, decide_eq_true_eq, decide_eq_false_iff_not, beq_iff_eq, beq_eq_false_iff_ne, ne_eq] at *)
      all_goals first
        | omega
        | (refine Fits.i64 ?_ ?_ <;> omega)
        | (rw [hc, if_pos ⟨ha, variant_yes i1 (by assumption) k (by omega)⟩]; done)
        | exact variant_no i3 (by assumption)
        | (have : i = k := by omega
           subst this
           rw [hc, if_neg (by rw [i3]; simp), Int.toNat_natCast])
    · rename_i ha
      have ha : arrowB (l.getD f 0) = false := ha
      rw [hc, if_neg (by rw [ha]; simp)]
theorem con_rclusters : Con prog 77 (fun s : ByteArray => [.v (.string s)]) (fun s => .ro 5 C_clu.enc C_clu.d (clusters s) none) (fun s => s.size ≤ 1000000) := by
  refine Con.of (by kernel_rfl) T_ok D_clu_ok (.con con_rcsigns (.con con_rjoins (.con con_rcells .nil))) 3 [] q_rclusters.1 q_rclusters.2.1 q_rclusters.2.2 (fun _ => rfl) fun s hs => ?_
  repeat' (first | (with_reducible refine ⟨_, ⟨(.cons (.v _) .nil), ?_⟩, ?_⟩) | (with_reducible exact fun h => h) | (with_reducible refine ExE.row (by with_unfolding_all rfl) ?_) | (with_reducible refine And.intro ?_ ?_) | ((with_reducible intro hq); first | (exact bne1 hq (by with_reducible assumption)) | (exact bne1 (by with_reducible assumption) hq) | ((simp only [*, Bool.and_true, Bool.true_and, Bool.and_false, Bool.false_and, Bool.or_true, Bool.true_or, Bool.or_false, Bool.false_or, Bool.not_true, Bool.not_false, Bool.true_eq_false, Bool.false_eq_true, cond_true, cond_false, Bool.cond_self, reduceCtorEq] at hq); done) | (revert hq; with_reducible intro _)) | (with_reducible exact True.intro) | (with_reducible rfl) | ((with_reducible refine WkX.chk ?_); (conv => whnf)) | ((with_reducible refine Wk.chk ?_); (conv => whnf)) | (with_reducible refine EntLe.row ?_) | (with_reducible exact LeN.ro rfl) | (with_reducible exact LeN.rptr) | ((with_reducible refine LeL.chk ?_); (conv => whnf)) | ((with_reducible show LeO _ _); (first | (refine LeO.ro ?_) | (refine LeO.roCap ?_) | (refine LeO.nil ?_ (fun _ => rfl)))) | ((with_reducible show LeR _ _ _); (first | (refine LeR.own rfl rfl rfl ?_) | (refine LeR.view rfl rfl rfl ?_ ?_) | (refine LeR.ro ?_) | (refine LeR.roCap ?_) | (refine LeR.nil ?_ (fun _ => rfl)))) | ((with_reducible refine LeF.chk ?_); (conv => whnf)) | (with_reducible assumption) | ((with_reducible refine Run.mk ?_); (conv => whnf)) | ((with_reducible show drawOK _ _ = true); kernel_rfl) | ((with_reducible show drawOK2 _ _ = true); kernel_rfl) | ((with_reducible show drawOK3 _ _ = true); kernel_rfl))
  have hl := signsFrom_len s
  have hrl := rl_len s
  have hal := al_len s
  refine loopI (Nat × List Clu) [] (fun | (f, _) => [(6, .v (.int .i64 (f : Int))), (5, .own 1)]) (fun | (_, o) => [(1, .row C_clu o 131 none)])
    (fun | (f, o) => f ≤ (rl s).length ∧ o.length ≤ f ∧ o ++ remAt (rl s) (al s) f = clusters s) (fun | (f, _) => (rl s).length - f) (0, []) ⟨Nat.zero_le _, Nat.le_refl _, ?_⟩ (Wk.chk ?_) fun i hi => ?_
  · rw [clusters_rem, ← hrl]; rfl
  · ((conv => whnf); repeat' (first | (with_reducible exact fun h => h) | (with_reducible refine ExE.row (by with_unfolding_all rfl) ?_) | (with_reducible refine And.intro ?_ ?_) | ((with_reducible intro hq); first | (exact bne1 hq (by with_reducible assumption)) | (exact bne1 (by with_reducible assumption) hq) | ((simp only [*, Bool.and_true, Bool.true_and, Bool.and_false, Bool.false_and, Bool.or_true, Bool.true_or, Bool.or_false, Bool.false_or, Bool.not_true, Bool.not_false, Bool.true_eq_false, Bool.false_eq_true, cond_true, cond_false, Bool.cond_self, reduceCtorEq] at hq); done) | (revert hq; with_reducible intro _)) | (with_reducible exact True.intro) | (with_reducible rfl) | ((with_reducible refine WkX.chk ?_); (conv => whnf)) | ((with_reducible refine Wk.chk ?_); (conv => whnf)) | (with_reducible refine EntLe.row ?_) | (with_reducible exact LeN.ro rfl) | (with_reducible exact LeN.rptr) | ((with_reducible refine LeL.chk ?_); (conv => whnf)) | ((with_reducible show LeO _ _); (first | (refine LeO.ro ?_) | (refine LeO.roCap ?_) | (refine LeO.nil ?_ (fun _ => rfl)))) | ((with_reducible show LeR _ _ _); (first | (refine LeR.own rfl rfl rfl ?_) | (refine LeR.view rfl rfl rfl ?_ ?_) | (refine LeR.ro ?_) | (refine LeR.roCap ?_) | (refine LeR.nil ?_ (fun _ => rfl)))) | ((with_reducible refine LeF.chk ?_); (conv => whnf)) | (with_reducible assumption) | ((with_reducible refine Run.mk ?_); (conv => whnf)) | ((with_reducible show drawOK _ _ = true); kernel_rfl) | ((with_reducible show drawOK2 _ _ = true); kernel_rfl) | ((with_reducible show drawOK3 _ _ = true); kernel_rfl)))
    all_goals rfl
  obtain ⟨f, o⟩ := i
  obtain ⟨h1, h2, h3⟩ := hi
  have e1 : ((f : Int)).toNat = f := Int.toNat_natCast _
  have e4 : C_i32.d = 0 := rfl
  have e5 : C_int.d = 0 := rfl
  repeat' (first | (with_reducible exact fun h => h) | (with_reducible refine ExE.row (by with_unfolding_all rfl) ?_) | (with_reducible refine And.intro ?_ ?_) | ((with_reducible intro hq); first | (exact bne1 hq (by with_reducible assumption)) | (exact bne1 (by with_reducible assumption) hq) | ((simp only [*, Bool.and_true, Bool.true_and, Bool.and_false, Bool.false_and, Bool.or_true, Bool.true_or, Bool.or_false, Bool.false_or, Bool.not_true, Bool.not_false, Bool.true_eq_false, Bool.false_eq_true, cond_true, cond_false, Bool.cond_self, reduceCtorEq] at hq); done) | (revert hq; with_reducible intro _)) | (with_reducible exact True.intro) | (with_reducible rfl) | ((with_reducible refine WkX.chk ?_); (conv => whnf)) | ((with_reducible refine Wk.chk ?_); (conv => whnf)) | (with_reducible refine EntLe.row ?_) | (with_reducible exact LeN.ro rfl) | (with_reducible exact LeN.rptr) | ((with_reducible refine LeL.chk ?_); (conv => whnf)) | ((with_reducible show LeO _ _); (first | (refine LeO.ro ?_) | (refine LeO.roCap ?_) | (refine LeO.nil ?_ (fun _ => rfl)))) | ((with_reducible show LeR _ _ _); (first | (refine LeR.own rfl rfl rfl ?_) | (refine LeR.view rfl rfl rfl ?_ ?_) | (refine LeR.ro ?_) | (refine LeR.roCap ?_) | (refine LeR.nil ?_ (fun _ => rfl)))) | ((with_reducible refine LeF.chk ?_); (conv => whnf)) | (with_reducible assumption) | ((with_reducible refine Run.mk ?_); (conv => whnf)) | ((with_reducible show drawOK _ _ = true); kernel_rfl) | ((with_reducible show drawOK2 _ _ = true); kernel_rfl) | ((with_reducible show drawOK3 _ _ = true); kernel_rfl))
  · rename_i hlt
    simp only [decide_eq_true_eq] at hlt
    refine Fits.i64 ?_ ?_ <;> omega
  · rename_i hlt
    simp only [decide_eq_true_eq] at hlt
    unfold remAt at h3
    rw [if_pos (by omega)] at h3
    refine loopI (Nat × Unit) [] (fun | (t, _) => [(7, .v (.int .i64 (t : Int)))]) (fun _ => []) (fun | (t, _) => f < t ∧ t ≤ (rl s).length ∧ o ++ rem (rl s) (al s) f t = clusters s) (fun | (t, _) => (rl s).length - t) (f + 1, ()) ⟨by omega, by omega, h3⟩ (Wk.chk ?_) fun t ht => ?_
    · ((conv => whnf); repeat' (first | (with_reducible exact fun h => h) | (with_reducible refine ExE.row (by with_unfolding_all rfl) ?_) | (with_reducible refine And.intro ?_ ?_) | ((with_reducible intro hq); first | (exact bne1 hq (by with_reducible assumption)) | (exact bne1 (by with_reducible assumption) hq) | ((simp only [*, Bool.and_true, Bool.true_and, Bool.and_false, Bool.false_and, Bool.or_true, Bool.true_or, Bool.or_false, Bool.false_or, Bool.not_true, Bool.not_false, Bool.true_eq_false, Bool.false_eq_true, cond_true, cond_false, Bool.cond_self, reduceCtorEq] at hq); done) | (revert hq; with_reducible intro _)) | (with_reducible exact True.intro) | (with_reducible rfl) | ((with_reducible refine WkX.chk ?_); (conv => whnf)) | ((with_reducible refine Wk.chk ?_); (conv => whnf)) | (with_reducible refine EntLe.row ?_) | (with_reducible exact LeN.ro rfl) | (with_reducible exact LeN.rptr) | ((with_reducible refine LeL.chk ?_); (conv => whnf)) | ((with_reducible show LeO _ _); (first | (refine LeO.ro ?_) | (refine LeO.roCap ?_) | (refine LeO.nil ?_ (fun _ => rfl)))) | ((with_reducible show LeR _ _ _); (first | (refine LeR.own rfl rfl rfl ?_) | (refine LeR.view rfl rfl rfl ?_ ?_) | (refine LeR.ro ?_) | (refine LeR.roCap ?_) | (refine LeR.nil ?_ (fun _ => rfl)))) | ((with_reducible refine LeF.chk ?_); (conv => whnf)) | (with_reducible assumption) | ((with_reducible refine Run.mk ?_); (conv => whnf)) | ((with_reducible show drawOK _ _ = true); kernel_rfl) | ((with_reducible show drawOK2 _ _ = true); kernel_rfl) | ((with_reducible show drawOK3 _ _ = true); kernel_rfl)))
      all_goals rfl
    obtain ⟨t, _⟩ := t
    obtain ⟨t1, t2, t3⟩ := ht
    have e2 : ((t : Int)).toNat = t := Int.toNat_natCast _
    have ab1 := al_bd s t
    have ab2 := al_bd s f
    repeat' (first | (with_reducible refine ⟨_, ⟨(.cons (.v _) .nil), ?_⟩, ?_⟩) | (with_reducible refine ⟨(_, _, _), ⟨(.cons (.ro _ _ _ _ _) (.cons (.v _) (.cons (.v _) .nil))), ?_⟩, ?_⟩) | (with_reducible refine ex_of (α := Nat × Unit) (t + 1, ()) ⟨⟨?_, ?_, ?_⟩, ?_⟩ ?_) | (with_reducible refine ex_of (α := Nat × List Clu) (t, o ++ [(gAt (rl s) (al s) f t).c]) ⟨⟨?_, ?_, ?_⟩, ?_⟩ ?_) | (with_reducible exact fun h => h) | (with_reducible refine ExE.row (by with_unfolding_all rfl) ?_) | (with_reducible refine And.intro ?_ ?_) | ((with_reducible intro hq); first | (exact bne1 hq (by with_reducible assumption)) | (exact bne1 (by with_reducible assumption) hq) | ((simp only [*, Bool.and_true, Bool.true_and, Bool.and_false, Bool.false_and, Bool.or_true, Bool.true_or, Bool.or_false, Bool.false_or, Bool.not_true, Bool.not_false, Bool.true_eq_false, Bool.false_eq_true, cond_true, cond_false, Bool.cond_self, reduceCtorEq] at hq); done) | (revert hq; with_reducible intro _)) | (with_reducible exact True.intro) | (with_reducible rfl) | ((with_reducible refine WkX.chk ?_); (conv => whnf)) | ((with_reducible refine Wk.chk ?_); (conv => whnf)) | (with_reducible refine EntLe.row ?_) | (with_reducible exact LeN.ro rfl) | (with_reducible exact LeN.rptr) | ((with_reducible refine LeL.chk ?_); (conv => whnf)) | ((with_reducible show LeO _ _); (first | (refine LeO.ro ?_) | (refine LeO.roCap ?_) | (refine LeO.nil ?_ (fun _ => rfl)))) | ((with_reducible show LeR _ _ _); (first | (refine LeR.own rfl rfl rfl ?_) | (refine LeR.view rfl rfl rfl ?_ ?_) | (refine LeR.ro ?_) | (refine LeR.roCap ?_) | (refine LeR.nil ?_ (fun _ => rfl)))) | ((with_reducible refine LeF.chk ?_); (conv => whnf)) | (with_reducible assumption) | ((with_reducible refine Run.mk ?_); (conv => whnf)) | ((with_reducible show drawOK _ _ = true); kernel_rfl) | ((with_reducible show drawOK2 _ _ = true); kernel_rfl) | ((with_reducible show drawOK3 _ _ = true); kernel_rfl))
    all_goals (try simp only [e1, e2, e4, e5, decide_eq_true_eq, decide_eq_false_iff_not, beq_iff_eq, beq_eq_false_iff_ne, ne_eq] at *)
    all_goals first
      | omega
      | rfl
      | (rw [← rem_join (by omega) (by simp_all)]; exact t3)
      | (unfold remAt
         rw [List.append_assoc, ← t3]
         congr 1
         first
         | (have hj : joinsB (rl s) f t = false := by
              have h9 : (decide ((t : Int) < ((rl s).length : Int)) && joinsB (rl s) f t) = false := by assumption
              rwa [decide_eq_true (by omega), Bool.true_and] at h9
            rw [if_pos (by omega), rem_part (by omega) hj]; rfl)
         | (rw [if_neg (by omega), rem_end (by omega)]; rfl))
      | (refine Fits.i64 ?_ ?_ <;> omega)
      | (simp only [List.length_append, List.length_cons, List.length_nil]; omega)
  · rename_i hlt
    simp only [decide_eq_false_iff_not] at hlt
    unfold remAt at h3
    rw [if_neg (by omega)] at h3
    simpa using h3
end Go.SX.Try
/- The document's pieces (chapter 10), plainly. No program here. -/
namespace Go.SX.Plain
structure Pc where
  r : Int
  frm : Int
  to : Int
  cells : Int
abbrev dPc : Pc := ⟨0, 0, 0, 0⟩
def amongB (r : Int) (l : List Int) : Bool := l.any fun x => x == r
def endsP (x : Pc) : Bool := x.r == 10
def blankP (x : Pc) : Bool := amongB x.r [9, 32, 5760, 8287, 12288] || (decide (8192 ≤ x.r) && decide (x.r ≤ 8202) && !(x.r == 8199))
def wideP' (x : Pc) : Bool := x.cells == 2 && !blankP x
def dashP (x : Pc) : Bool := amongB x.r [45, 8208, 8210, 8211, 8212]
def openingP (x : Pc) : Bool := amongB x.r [40, 91, 123, 12296, 12298, 12300, 12302, 12304, 12308, 65288, 65339, 65371]
def closingP (x : Pc) : Bool := amongB x.r [33, 41, 44, 46, 58, 59, 63, 93, 125, 12289, 12290, 12297, 12299, 12301, 12303, 12305, 12309, 12540, 65281, 65289, 65292, 65294, 65306, 65307, 65311, 65341, 65373]
def pcOf (p : Part) : Pc := ⟨p.first, p.c.frm, p.c.to, p.c.cells⟩
def pcs (s : ByteArray) : List Pc := (parts s).map pcOf
/-- A part tells of itself what its rune tells. -/
structure Told (p : Part) : Prop where
  fin : p.fin = endsP (pcOf p)
  blank : p.blank = blankP (pcOf p)
  wide : p.wide = wideP' (pcOf p)
  dash : p.dash = dashP (pcOf p)
  opening : p.opening = openingP (pcOf p)
  closing : p.closing = closingP (pcOf p)
theorem oneB_list (r : Int) (l : ByteArray) (m : List Int) (h : (signsFrom l 0).map (fun p => (p.2 : Int)) = m) : oneB r l = amongB r m := by
  unfold oneB amongB
  rw [← h, List.any_map]
  rfl
set_option maxRecDepth 100000 in
theorem one_blanks (r : Int) : oneB r blanks = amongB r [9, 32, 5760, 8287, 12288] := oneB_list r blanks _ (by decide)
set_option maxRecDepth 100000 in
theorem one_dashes (r : Int) : oneB r dashes = amongB r [45, 8208, 8210, 8211, 8212] := oneB_list r dashes _ (by decide)
set_option maxRecDepth 100000 in
theorem one_openings (r : Int) : oneB r openings = amongB r [40, 91, 123, 12296, 12298, 12300, 12302, 12304, 12308, 65288, 65339, 65371] := oneB_list r openings _ (by decide)
set_option maxRecDepth 100000 in
theorem one_closings (r : Int) : oneB r closings = amongB r [33, 41, 44, 46, 58, 59, 63, 93, 125, 12289, 12290, 12297, 12299, 12301, 12303, 12305, 12309, 12540, 65281, 65289, 65292, 65294, 65306, 65307, 65311, 65341, 65373] := oneB_list r closings _ (by decide)
theorem blankB_eq (c : Clu) (r : Int) : blankB r = blankP ⟨r, c.frm, c.to, c.cells⟩ := by
  unfold blankB blankP
  rw [one_blanks, Bool.eq_iff_iff]
  simp only [Bool.or_eq_true, Bool.and_eq_true, decide_eq_true_eq, Bool.not_eq_true', beq_eq_false_iff_ne, ne_eq]
  constructor
  · rintro ((h | h) | h)
    · exact .inl h
    · exact .inr ⟨by omega, by omega⟩
    · exact .inr ⟨by omega, by omega⟩
  · rintro (h | h)
    · exact .inl (.inl h)
    · by_cases h2 : r ≤ 8198
      · exact .inl (.inr ⟨h.1.1, h2⟩)
      · exact .inr ⟨by omega, h.1.2⟩
theorem told_of (c : Clu) (r : Int) : Told (partOfR c r) :=
  ⟨rfl, blankB_eq c r, by simp only [partOfR, wideP', pcOf]; rw [blankB_eq c r], one_dashes r, one_openings r, one_closings r⟩
theorem parts_told (s : ByteArray) : ∀ p ∈ parts s, Told p := by
  intro p hp
  simp only [parts] at hp
  obtain ⟨c, _, rfl⟩ := List.mem_map.1 hp
  exact told_of _ _
def kindP (l : List Pc) (i : Nat) : Int :=
  if endsP (l.getD (i - 1) dPc) = true then 1
  else if i = l.length then 0
  else if (endsP (l.getD i dPc) || blankP (l.getD i dPc)) = true then 0
  else if blankP (l.getD (i - 1) dPc) = true then 2
  else if (dashP (l.getD (i - 1) dPc) && decide ((1 : Int) < (i : Int)) && !blankP (l.getD (i - 2) dPc) && !endsP (l.getD (i - 2) dPc) && !dashP (l.getD (i - 2) dPc)) = true then 2
  else if ((wideP' (l.getD (i - 1) dPc) || wideP' (l.getD i dPc)) && !openingP (l.getD (i - 1) dPc) && !closingP (l.getD i dPc)) = true then 2
  else 3
theorem told_at {l : List Part} (h : ∀ p ∈ l, Told p) {i : Nat} (hi : i < l.length) : Told (l.getD i dPart) := by
  rw [List.getD_eq_getElem?_getD, List.getElem?_eq_getElem hi]; exact h _ (List.getElem_mem hi)
theorem pc_at (l : List Part) (i : Nat) : (l.map pcOf).getD i dPc = pcOf (l.getD i dPart) := getD_map pcOf l dPart i
theorem kindP_eq {l : List Part} (h : ∀ p ∈ l, Told p) {i : Nat} (h0 : 0 < i) (hi : i ≤ l.length) : kindP (l.map pcOf) i = kindAt l i := by
  have t1 := told_at h (i := i - 1) (by omega)
  have t2 := told_at h (i := i - 2) (by omega)
  unfold kindP kindAt
  simp only [pc_at, List.length_map]
  rw [t1.fin, t1.blank, t1.dash, t1.wide, t1.opening, t2.blank, t2.fin, t2.dash]
  by_cases he : i = l.length
  · rw [if_pos he, if_pos he]
  · have t3 := told_at h (i := i) (by omega)
    rw [t3.fin, t3.blank, t3.wide, t3.closing]
/-- The kinds of all places, told up to i. -/
def kindsTo (l : List Pc) : Nat → List Int
  | 0 => List.replicate (l.length + 1) 0
  | 1 => List.replicate (l.length + 1) 0
  | i + 1 => (kindsTo l i).set i (kindP l i)
def kindsP (l : List Pc) : List Int := kindsTo l (l.length + 1)
theorem kindsTo_len (l : List Pc) : ∀ i, (kindsTo l i).length = l.length + 1
  | 0 => by simp [kindsTo]
  | 1 => by simp [kindsTo]
  | i + 2 => by simp [kindsTo, kindsTo_len l (i + 1)]
theorem kindsTo_succ {l : List Pc} {i : Nat} (h : 1 ≤ i) : kindsTo l (i + 1) = (kindsTo l i).set i (kindP l i) := by
  obtain ⟨j, rfl⟩ : ∃ j, i = j + 1 := ⟨i - 1, by omega⟩
  rfl
theorem kindsTo_get (l : List Pc) : ∀ (i j : Nat), i ≤ l.length + 1 → (kindsTo l i).getD j 0 = if 0 < j ∧ j < i then kindP l j else 0
  | 0, j, _ => by
    rw [if_neg (by omega)]
    simp only [kindsTo, List.getD_eq_getElem?_getD, List.getElem?_replicate]; split <;> rfl
  | 1, j, _ => by
    rw [if_neg (by omega)]
    simp only [kindsTo, List.getD_eq_getElem?_getD, List.getElem?_replicate]; split <;> rfl
  | i + 2, j, h => by
    simp only [kindsTo]
    have hl := kindsTo_len l (i + 1)
    by_cases hj : j = i + 1
    · subst hj
      rw [getD_set_eq _ _ _ _ (by omega), if_pos (by omega)]
    · rw [getD_set_ne _ _ _ _ _ (by omega), kindsTo_get l (i + 1) j (by omega)]
      by_cases hc : 0 < j ∧ j < i + 1
      · rw [if_pos hc, if_pos (by omega)]
      · rw [if_neg hc, if_neg (by omega)]
theorem kindsP_get {l : List Pc} {i : Nat} (h : 0 < i) (hi : i ≤ l.length) : (kindsP l).getD i 0 = kindP l i := by
  unfold kindsP
  rw [kindsTo_get l _ i (Nat.le_refl _), if_pos (by omega)]
theorem kindsP_len (l : List Pc) : (kindsP l).length = l.length + 1 := kindsTo_len l _
def placeP (l : List Pc) (i : Nat) : Int := if i = l.length then (l.getD (i - 1) dPc).to else (l.getD i dPc).frm
end Go.SX.Plain
/- Of each cluster: the rune that its text begins with stands in the text's runes. No program here. -/
namespace Go.SX.Plain
theorem bt_extract {s : ByteArray} {p e k : Nat} (h : p + k < e) (he : e ≤ s.size) : bt (s.extract p e) k = bt s (p + k) := by
  unfold bt
  rw [bytesL_get, bytesL_get]
  congr 2
  rw [ByteArray.data_extract]
  have h1 : p + k < s.data.size := by have : s.data.size = s.size := rfl; omega
  have h2 : k < (s.data.extract p e).size := by simp; omega
  simp [List.getD_eq_getElem?_getD, h1]
  rw [List.getElem?_take, if_pos (by omega), List.getElem?_drop]
  simp [h1]
theorem size_extract' {s : ByteArray} {p e : Nat} (he : e ≤ s.size) : (s.extract p e).size = e - p := by
  simp [ByteArray.size_extract]; omega
theorem second_no2 {s : ByteArray} {i : Nat} (hn : 2 ≤ longI (bt s i)) (h : ¬ (i + 1 < s.size ∧ secondB (bt s i) (bt s (i + 1)) = true)) : Utf8.decode s i = (65533, 1) := by
  refine second_no hn ?_
  by_cases h1 : i + 1 < s.size
  · right
    cases h2 : secondB (bt s i) (bt s (i + 1)) with
    | false => rfl
    | true => exact absurd ⟨h1, h2⟩ h
  · exact .inl h1
/-- A sign is the same in a part that holds it. -/
theorem decode_extract {s : ByteArray} {p e : Nat} (hpe : p < e) (he : e ≤ s.size) (hw : p + (Utf8.decode s p).2 ≤ e) : Utf8.decode (s.extract p e) 0 = Utf8.decode s p := by
  have hsz := size_extract' (p := p) he
  have b0 : bt (s.extract p e) 0 = bt s p := by rw [bt_extract (by omega) he]; rfl
  have bk : ∀ k, p + k < e → bt (s.extract p e) k = bt s (p + k) := fun k h => bt_extract h he
  have mk : ∀ k, p + k < e → moreB (s.extract p e) (0 + k) = moreB s (p + k) := fun k h => by
    unfold moreB
    rw [Nat.zero_add, bk k h, hsz, decide_eq_true (show k < e - p by omega), decide_eq_true (show p + k < s.size by omega)]
  have mno : ∀ k, ¬ p + k < e → moreB (s.extract p e) (0 + k) = false := fun k h => by
    unfold moreB
    rw [Nat.zero_add, hsz, decide_eq_false (show ¬ k < e - p by omega)]; rfl
  rcases longI_cases (bt s p) with h | h | h
  · rw [dec_0 h, dec_0 (by rw [b0]; exact h)]
  · rw [dec_1 h, dec_1 (by rw [b0]; exact h), b0]
  · by_cases h2 : p + 1 < s.size ∧ secondB (bt s p) (bt s (p + 1)) = true
    · by_cases hp1 : p + 1 < e
      · have hx2 : 0 + 1 < (s.extract p e).size ∧ secondB (bt (s.extract p e) 0) (bt (s.extract p e) (0 + 1)) = true := by
          rw [b0, bk (0 + 1) (by omega), hsz]; exact ⟨by omega, h2.2⟩
        rcases h with h | h | h
        · rw [(dec_2 h h2.1 h2.2).1, (dec_2 (by rw [b0]; exact h) hx2.1 hx2.2).1, b0, bk (0 + 1) (by omega)]
        · by_cases m2 : moreB s (p + 2) = true
          · have hd := (dec_3 h h2.1 h2.2 m2).1
            rw [hd] at hw
            simp only at hw
            rw [hd, (dec_3 (by rw [b0]; exact h) hx2.1 hx2.2 (by rw [mk 2 (by omega)]; exact m2)).1, b0, bk (0 + 1) (by omega), bk (0 + 2) (by omega)]
          · have m2 : moreB s (p + 2) = false := by simpa using m2
            rw [more_no2 (by omega) m2, more_no2 (by rw [b0]; omega)]
            by_cases hp2 : p + 2 < e
            · rw [mk 2 hp2]; exact m2
            · exact mno 2 hp2
        · by_cases m2 : moreB s (p + 2) = true
          · by_cases m3 : moreB s (p + 3) = true
            · have hd := (dec_4 h h2.1 h2.2 m2 m3).1
              rw [hd] at hw
              simp only at hw
              rw [hd, (dec_4 (by rw [b0]; exact h) hx2.1 hx2.2 (by rw [mk 2 (by omega)]; exact m2) (by rw [mk 3 (by omega)]; exact m3)).1, b0, bk (0 + 1) (by omega), bk (0 + 2) (by omega), bk (0 + 3) (by omega)]
            · have m3 : moreB s (p + 3) = false := by simpa using m3
              rw [more_no3 (by omega) m3, more_no3 (by rw [b0]; omega)]
              by_cases hp3 : p + 3 < e
              · rw [mk 3 hp3]; exact m3
              · exact mno 3 hp3
          · have m2 : moreB s (p + 2) = false := by simpa using m2
            rw [more_no2 (by omega) m2, more_no2 (by rw [b0]; omega)]
            by_cases hp2 : p + 2 < e
            · rw [mk 2 hp2]; exact m2
            · exact mno 2 hp2
      · have h4 : p + 1 = e := by omega
        rw [second_no2 (s := s.extract p e) (i := 0) (by rw [b0]; omega) (by rw [hsz]; rintro ⟨h5, _⟩; omega)]
        rcases h with h | h | h
        · rw [(dec_2 h h2.1 h2.2).1] at hw; simp only at hw; omega
        · by_cases m2 : moreB s (p + 2) = true
          · rw [(dec_3 h h2.1 h2.2 m2).1] at hw; simp only at hw; omega
          · exact (more_no2 (by omega) (by simpa using m2)).symm
        · by_cases m2 : moreB s (p + 2) = true
          · by_cases m3 : moreB s (p + 3) = true
            · rw [(dec_4 h h2.1 h2.2 m2 m3).1] at hw; simp only at hw; omega
            · exact (more_no3 (by omega) (by simpa using m3)).symm
          · exact (more_no2 (by omega) (by simpa using m2)).symm
    · rw [second_no2 (by omega) h2, second_no2 (by rw [b0]; omega)]
      rw [b0, hsz]
      rintro ⟨h3, h4⟩
      rw [bk (0 + 1) (by omega)] at h4
      exact h2 ⟨by omega, h4⟩
/-- The runes, out of the signs. -/
def runes' (s : ByteArray) : List Int := ((signsFrom s 0).map fun p => sgnAt s p.1).map (·.rune)
/-- The signs hang together. -/
theorem signsGo_chain (s : ByteArray) : ∀ (k pos : Nat), s.size - pos ≤ k → ∀ i (h : i < (signsGo s k pos).length), ((signsGo s k pos)[i]).1 < s.size ∧ ((signsGo s k pos)[i]).2 = (Utf8.decode s ((signsGo s k pos)[i]).1).1 ∧
    nextPos s ((signsGo s k pos).drop (i + 1)) = ((signsGo s k pos)[i]).1 + (Utf8.decode s ((signsGo s k pos)[i]).1).2
  | 0, pos, _, i, h => by simp [signsGo] at h
  | k + 1, pos, hk, i, h => by
    by_cases hp : pos < s.size
    · have hw := width_pos s pos
      have hwl := width_le hp
      have e : signsGo s (k + 1) pos = (pos, (Utf8.decode s pos).1) :: signsGo s k (pos + (Utf8.decode s pos).2) := by simp only [signsGo]; rw [if_pos hp]
      cases i with
      | zero =>
        simp only [e, List.getElem_cons_zero, List.drop_succ_cons, List.drop_zero]
        refine ⟨hp, trivial, ?_⟩
        by_cases hp2 : pos + (Utf8.decode s pos).2 < s.size
        · obtain ⟨k', rfl⟩ : ∃ k', k = k' + 1 := ⟨k - 1, by omega⟩
          simp only [signsGo]
          rw [if_pos hp2]; rfl
        · have : signsGo s k (pos + (Utf8.decode s pos).2) = [] := by
            cases k with
            | zero => rfl
            | succ k => simp only [signsGo]; rw [if_neg hp2]
          rw [this]
          simp only [nextPos]
          omega
      | succ i =>
        simp only [e, List.getElem_cons_succ, List.drop_succ_cons]
        exact signsGo_chain s k _ (by omega) i (by rw [e] at h; simpa using h)
    · simp only [signsGo, if_neg hp] at h
      simp at h
theorem rl_dec (s : ByteArray) {i : Nat} (h : i < (rl s).length) : ∃ p : Nat, (al s).getD i 0 = p ∧ p < s.size ∧ (rl s).getD i 0 = ((Utf8.decode s p).1 : Int) ∧ (al s).getD (i + 1) 0 = ((p + (Utf8.decode s p).2 : Nat) : Int) := by
  rw [rl_len] at h
  obtain ⟨h1, h2, h3⟩ := signsGo_chain s _ _ (by omega) i h
  refine ⟨((signsFrom s 0)[i]).1, al_get s h, h1, ?_, ?_⟩
  · rw [rl_get s h]; exact congrArg Int.ofNat h2
  · rw [al_next s h]
    exact congrArg Int.ofNat h3
theorem al_mono (s : ByteArray) : ∀ {j i : Nat}, i ≤ j → j ≤ (rl s).length → (al s).getD i 0 ≤ (al s).getD j 0
  | 0, i, h, _ => by rw [show i = 0 by omega]; exact Int.le_refl _
  | j + 1, i, h, hj => by
    by_cases he : i = j + 1
    · rw [he]; exact Int.le_refl _
    · obtain ⟨p, h1, h2, h3, h4⟩ := rl_dec s (i := j) (by omega)
      have := al_mono s (i := i) (j := j) (by omega) (by omega)
      rw [h4]; omega
/-- What a cluster is. -/
structure ClOK (s : ByteArray) (c : Clu) : Prop where
  ex : ∃ f t : Nat, f < t ∧ t ≤ (rl s).length ∧ c = (gAt (rl s) (al s) f t).c
theorem remGo_ok (s : ByteArray) : ∀ (k f t : Nat), (rl s).length - t ≤ k → f < t → t ≤ (rl s).length → ∀ c ∈ remGo (rl s) (al s) k f t, ClOK s c
  | 0, f, t, _, h1, h2, c, hc => by
    simp only [remGo] at hc
    rw [List.mem_singleton.1 hc]
    exact ⟨f, t, h1, h2, rfl⟩
  | k + 1, f, t, hk, h1, h2, c, hc => by
    simp only [remGo] at hc
    split at hc
    · split at hc
      · exact remGo_ok s k f (t + 1) (by omega) (by omega) (by omega) c hc
      · rcases List.mem_cons.1 hc with rfl | hc
        · exact ⟨f, t, h1, h2, rfl⟩
        · exact remGo_ok s k t (t + 1) (by omega) (by omega) (by omega) c hc
    · rw [List.mem_singleton.1 hc]
      exact ⟨f, t, h1, h2, rfl⟩
theorem clusters_ok (s : ByteArray) : ∀ c ∈ clusters s, ClOK s c := by
  intro c hc
  rw [clusters_rem] at hc
  split at hc
  · rename_i h
    exact remGo_ok s _ 0 1 (Nat.le_refl _) (by omega) (by rw [rl_len]; exact h) c hc
  · cases hc
theorem ClOK.first {s : ByteArray} {c : Clu} (h : ClOK s c) : 0 ≤ c.frm ∧ c.frm < (rl s).length ∧ (rl s).getD c.frm.toNat 0 = firstOf s c ∧ c.frm < c.to ∧ c.to ≤ (rl s).length ∧ 0 ≤ c.at ∧ 0 < c.len ∧ c.at + c.len ≤ s.size := by
  obtain ⟨f, t, h1, h2, rfl⟩ := h.ex
  obtain ⟨p, q1, q2, q3, q4⟩ := rl_dec s (i := f) (by omega)
  have hm := al_mono s (i := f + 1) (j := t) (by omega) h2
  have hb := al_bd s t
  have hw := width_pos s p
  rw [q4] at hm
  have e1 : (gAt (rl s) (al s) f t).c.frm = (f : Int) := rfl
  have e2 : (gAt (rl s) (al s) f t).c.to = (t : Int) := rfl
  have e3 : (gAt (rl s) (al s) f t).c.at = (p : Int) := q1
  have e4 : (gAt (rl s) (al s) f t).c.len = (al s).getD t 0 - p := by rw [← q1]; rfl
  rw [e1, e2, e3, e4]
  refine ⟨by omega, by omega, ?_, by omega, by omega, by omega, by omega, by omega⟩
  unfold firstOf
  rw [e3, e4]
  obtain ⟨e, he⟩ : ∃ e : Nat, (al s).getD t 0 = e := ⟨((al s).getD t 0).toNat, by omega⟩
  rw [he] at hm hb ⊢
  have h3 : ((p : Int)).toNat = p := Int.toNat_natCast _
  have h4 : ((p : Int) + ((e : Int) - p)).toNat = e := by omega
  rw [h3, h4, size_extract' (by omega), if_pos (by omega), decode_extract (by omega) (by omega) (by omega), Int.toNat_natCast, q3]
theorem runes_rl (s : ByteArray) : runes' s = rl s := by
  unfold runes' rl
  rw [List.map_map]
  apply List.ext_getElem
  · simp
  · intro i h1 h2
    simp only [List.getElem_map, Function.comp_apply]
    have h : i < (signsFrom s 0).length := by simpa using h1
    have := (signsGo_chain s _ _ (by omega) i h).2.1
    exact (congrArg Int.ofNat this).symm
theorem getD_mem' {α : Type} (l : List α) (d : α) {i : Nat} (h : i < l.length) : l.getD i d ∈ l := by
  simp [List.getD_eq_getElem?_getD, h]
theorem clusters_len (s : ByteArray) : (clusters s).length ≤ s.size := by
  have := parts_len s
  simpa [parts] using this
end Go.SX.Plain
/- Contracts of the document's chapter 10: runes among some, pieces, kinds, places. -/
namespace Go.SX.Try
open Go.Proofs Go.Proofs.Try Go.SX.Plain
set_option maxRecDepth 100000
set_option maxHeartbeats 0
set_option linter.unusedSimpArgs false
theorem q_among : fact 106 f106 := ⟨by kernel_rfl, rfl, by kernel_rfl⟩
theorem q_ends : fact 80 f80 := ⟨by kernel_rfl, rfl, by kernel_rfl⟩
theorem q_rblank : fact 81 f81 := ⟨by kernel_rfl, rfl, by kernel_rfl⟩
theorem q_pwide : fact 102 f102 := ⟨by kernel_rfl, rfl, by kernel_rfl⟩
theorem q_dash : fact 101 f101 := ⟨by kernel_rfl, rfl, by kernel_rfl⟩
theorem q_opening : fact 103 f103 := ⟨by kernel_rfl, rfl, by kernel_rfl⟩
theorem q_closing : fact 104 f104 := ⟨by kernel_rfl, rfl, by kernel_rfl⟩
theorem q_kind : fact 78 f78 := ⟨by kernel_rfl, rfl, by kernel_rfl⟩
theorem q_kinds : fact 46 f46 := ⟨by kernel_rfl, rfl, by kernel_rfl⟩
theorem q_place : fact 48 f48 := ⟨by kernel_rfl, rfl, by kernel_rfl⟩
theorem q_pieces : fact 45 f45 := ⟨by kernel_rfl, rfl, by kernel_rfl⟩
theorem q_rcheck : fact 44 f44 := ⟨by kernel_rfl, rfl, by kernel_rfl⟩
abbrev pcAV (x : Pc) : List AV := [.v (.int .i64 x.r), .v (.int .i64 x.frm), .v (.int .i64 x.to), .v (.int .i64 x.cells)]
def C_pc : Cdc Pc where
  size := 4
  enc := pcAV
  dec l := match l with
    | [.v (.int _ a), .v (.int _ b), .v (.int _ c), .v (.int _ d)] => ⟨a, b, c, d⟩
    | _ => ⟨0, 0, 0, 0⟩
  d := ⟨0, 0, 0, 0⟩
def C_intL : Cdc Int := { C_int with lit := true }
def D_pc : Cds := [(103, ⟨Pc, C_pc⟩), (3, ⟨Int, C_intL⟩)]
theorem D_pc_ok : CdsOK T D_pc := .cons ⟨fun _ => rfl, by decide, _, rfl, rfl, by decide⟩ (.cons ⟨fun _ => rfl, by decide, _, rfl, rfl, by decide⟩ .nil)
theorem con_among : Con prog 106 (fun ((r, l) : Int × List Int) => [.v (.int .i64 r), .ro 1 C_int.enc C_int.d l none]) (fun (r, l) => .sb (amongB r l)) (fun (_, l) => l.length ≤ 1000000) := by
  refine Con.of (by kernel_rfl) T_ok D_pc_ok .nil 2 [] q_among.1 q_among.2.1 q_among.2.2 (fun _ => rfl) fun i hi => ?_
  obtain ⟨r, l⟩ := i
  have hi : l.length ≤ 1000000 := hi
  repeat' (first | (with_reducible exact fun h => h) | (with_reducible refine ExE.row (by with_unfolding_all rfl) ?_) | (with_reducible refine And.intro ?_ ?_) | ((with_reducible intro hq); first | (exact bne1 hq (by with_reducible assumption)) | (exact bne1 (by with_reducible assumption) hq) | ((simp only [*, Bool.and_true, Bool.true_and, Bool.and_false, Bool.false_and, Bool.or_true, Bool.true_or, Bool.or_false, Bool.false_or, Bool.not_true, Bool.not_false, Bool.true_eq_false, Bool.false_eq_true, cond_true, cond_false, Bool.cond_self, reduceCtorEq] at hq); done) | (revert hq; with_reducible intro _)) | (with_reducible exact True.intro) | (with_reducible rfl) | ((with_reducible refine WkX.chk ?_); (conv => whnf)) | ((with_reducible refine Wk.chk ?_); (conv => whnf)) | (with_reducible refine EntLe.row ?_) | (with_reducible exact LeN.ro rfl) | (with_reducible exact LeN.rptr) | ((with_reducible refine LeL.chk ?_); (conv => whnf)) | ((with_reducible show LeO _ _); (first | (refine LeO.ro ?_) | (refine LeO.roCap ?_) | (refine LeO.nil ?_ (fun _ => rfl)))) | ((with_reducible show LeR _ _ _); (first | (refine LeR.own rfl rfl rfl ?_) | (refine LeR.view rfl rfl rfl ?_ ?_) | (refine LeR.ro ?_) | (refine LeR.roCap ?_) | (refine LeR.nil ?_ (fun _ => rfl)))) | ((with_reducible refine LeF.chk ?_); (conv => whnf)) | (with_reducible assumption) | ((with_reducible refine Run.mk ?_); (conv => whnf)) | ((with_reducible show drawOK _ _ = true); kernel_rfl) | ((with_reducible show drawOK2 _ _ = true); kernel_rfl) | ((with_reducible show drawOK3 _ _ = true); kernel_rfl))
  refine loopI Nat [] (fun i => [(5, .v (.int .i64 (i : Int)))]) (fun _ => []) (fun i => i ≤ l.length ∧ amongB r l = (l.drop i).any fun x => x == r) (fun i => l.length - i) 0 ⟨Nat.zero_le _, rfl⟩ (Wk.chk ?_) fun i hi2 => ?_
  · ((conv => whnf); repeat' (first | (with_reducible exact fun h => h) | (with_reducible refine ExE.row (by with_unfolding_all rfl) ?_) | (with_reducible refine And.intro ?_ ?_) | ((with_reducible intro hq); first | (exact bne1 hq (by with_reducible assumption)) | (exact bne1 (by with_reducible assumption) hq) | ((simp only [*, Bool.and_true, Bool.true_and, Bool.and_false, Bool.false_and, Bool.or_true, Bool.true_or, Bool.or_false, Bool.false_or, Bool.not_true, Bool.not_false, Bool.true_eq_false, Bool.false_eq_true, cond_true, cond_false, Bool.cond_self, reduceCtorEq] at hq); done) | (revert hq; with_reducible intro _)) | (with_reducible exact True.intro) | (with_reducible rfl) | ((with_reducible refine WkX.chk ?_); (conv => whnf)) | ((with_reducible refine Wk.chk ?_); (conv => whnf)) | (with_reducible refine EntLe.row ?_) | (with_reducible exact LeN.ro rfl) | (with_reducible exact LeN.rptr) | ((with_reducible refine LeL.chk ?_); (conv => whnf)) | ((with_reducible show LeO _ _); (first | (refine LeO.ro ?_) | (refine LeO.roCap ?_) | (refine LeO.nil ?_ (fun _ => rfl)))) | ((with_reducible show LeR _ _ _); (first | (refine LeR.own rfl rfl rfl ?_) | (refine LeR.view rfl rfl rfl ?_ ?_) | (refine LeR.ro ?_) | (refine LeR.roCap ?_) | (refine LeR.nil ?_ (fun _ => rfl)))) | ((with_reducible refine LeF.chk ?_); (conv => whnf)) | (with_reducible assumption) | ((with_reducible refine Run.mk ?_); (conv => whnf)) | ((with_reducible show drawOK _ _ = true); kernel_rfl) | ((with_reducible show drawOK2 _ _ = true); kernel_rfl) | ((with_reducible show drawOK3 _ _ = true); kernel_rfl)))
    all_goals rfl
  obtain ⟨h1, h2⟩ := hi2
  have e1 : ((i : Int)).toNat = i := Int.toNat_natCast _
  have e2 : C_int.d = 0 := rfl
  repeat' (first | (with_reducible refine ex_of (i + 1) ⟨⟨?_, ?_⟩, ?_⟩ ?_) | (with_reducible exact fun h => h) | (with_reducible refine ExE.row (by with_unfolding_all rfl) ?_) | (with_reducible refine And.intro ?_ ?_) | ((with_reducible intro hq); first | (exact bne1 hq (by with_reducible assumption)) | (exact bne1 (by with_reducible assumption) hq) | ((simp only [*, Bool.and_true, Bool.true_and, Bool.and_false, Bool.false_and, Bool.or_true, Bool.true_or, Bool.or_false, Bool.false_or, Bool.not_true, Bool.not_false, Bool.true_eq_false, Bool.false_eq_true, cond_true, cond_false, Bool.cond_self, reduceCtorEq] at hq); done) | (revert hq; with_reducible intro _)) | (with_reducible exact True.intro) | (with_reducible rfl) | ((with_reducible refine WkX.chk ?_); (conv => whnf)) | ((with_reducible refine Wk.chk ?_); (conv => whnf)) | (with_reducible refine EntLe.row ?_) | (with_reducible exact LeN.ro rfl) | (with_reducible exact LeN.rptr) | ((with_reducible refine LeL.chk ?_); (conv => whnf)) | ((with_reducible show LeO _ _); (first | (refine LeO.ro ?_) | (refine LeO.roCap ?_) | (refine LeO.nil ?_ (fun _ => rfl)))) | ((with_reducible show LeR _ _ _); (first | (refine LeR.own rfl rfl rfl ?_) | (refine LeR.view rfl rfl rfl ?_ ?_) | (refine LeR.ro ?_) | (refine LeR.roCap ?_) | (refine LeR.nil ?_ (fun _ => rfl)))) | ((with_reducible refine LeF.chk ?_); (conv => whnf)) | (with_reducible assumption) | ((with_reducible refine Run.mk ?_); (conv => whnf)) | ((with_reducible show drawOK _ _ = true); kernel_rfl) | ((with_reducible show drawOK2 _ _ = true); kernel_rfl) | ((with_reducible show drawOK3 _ _ = true); kernel_rfl))
  all_goals (try simp only [e1, e2, decide_eq_true_eq, decide_eq_false_iff_not] at *)
  all_goals first
    | omega
    | (refine Fits.i64 ?_ ?_ <;> omega)
    | (have hb : (l.getD i 0 == r) = true := by assumption
       rw [h2, drop_any _ _ 0 (by omega), hb]; rfl)
    | (have hb : (l.getD i 0 == r) = false := by assumption
       rw [h2, drop_any _ _ 0 (by omega), hb]; rfl)
    | (rw [h2, drop_any_end _ _ (by omega)])
theorem con_ends : Con prog 80 (fun x : Pc => [.agg (pcAV x)]) (fun x => .sb (endsP x)) (fun _ => True) := by
  refine Con.of (by kernel_rfl) T_ok D_pc_ok .nil 2 [] q_ends.1 q_ends.2.1 q_ends.2.2 (fun _ => rfl) fun i _ => ?_
  repeat' (first | (with_reducible exact fun h => h) | (with_reducible refine ExE.row (by with_unfolding_all rfl) ?_) | (with_reducible refine And.intro ?_ ?_) | ((with_reducible intro hq); first | (exact bne1 hq (by with_reducible assumption)) | (exact bne1 (by with_reducible assumption) hq) | ((simp only [*, Bool.and_true, Bool.true_and, Bool.and_false, Bool.false_and, Bool.or_true, Bool.true_or, Bool.or_false, Bool.false_or, Bool.not_true, Bool.not_false, Bool.true_eq_false, Bool.false_eq_true, cond_true, cond_false, Bool.cond_self, reduceCtorEq] at hq); done) | (revert hq; with_reducible intro _)) | (with_reducible exact True.intro) | (with_reducible rfl) | ((with_reducible refine WkX.chk ?_); (conv => whnf)) | ((with_reducible refine Wk.chk ?_); (conv => whnf)) | (with_reducible refine EntLe.row ?_) | (with_reducible exact LeN.ro rfl) | (with_reducible exact LeN.rptr) | ((with_reducible refine LeL.chk ?_); (conv => whnf)) | ((with_reducible show LeO _ _); (first | (refine LeO.ro ?_) | (refine LeO.roCap ?_) | (refine LeO.nil ?_ (fun _ => rfl)))) | ((with_reducible show LeR _ _ _); (first | (refine LeR.own rfl rfl rfl ?_) | (refine LeR.view rfl rfl rfl ?_ ?_) | (refine LeR.ro ?_) | (refine LeR.roCap ?_) | (refine LeR.nil ?_ (fun _ => rfl)))) | ((with_reducible refine LeF.chk ?_); (conv => whnf)) | (with_reducible assumption) | ((with_reducible refine Run.mk ?_); (conv => whnf)) | ((with_reducible show drawOK _ _ = true); kernel_rfl) | ((with_reducible show drawOK2 _ _ = true); kernel_rfl) | ((with_reducible show drawOK3 _ _ = true); kernel_rfl))
  all_goals rfl
theorem con_rblank : Con prog 81 (fun x : Pc => [.agg (pcAV x)]) (fun x => .sb (blankP x)) (fun _ => True) := by
  refine Con.of (by kernel_rfl) T_ok D_pc_ok (.con con_among .nil) 2 [] q_rblank.1 q_rblank.2.1 q_rblank.2.2 (fun _ => rfl) fun x _ => ?_
  repeat' (first | (with_reducible refine ⟨(_, _), ⟨(.cons (.v _) (.cons (.ro _ _ _ _ _) .nil)), ?_⟩, ?_⟩) | (with_reducible exact fun h => h) | (with_reducible refine ExE.row (by with_unfolding_all rfl) ?_) | (with_reducible refine And.intro ?_ ?_) | ((with_reducible intro hq); first | (exact bne1 hq (by with_reducible assumption)) | (exact bne1 (by with_reducible assumption) hq) | ((simp only [*, Bool.and_true, Bool.true_and, Bool.and_false, Bool.false_and, Bool.or_true, Bool.true_or, Bool.or_false, Bool.false_or, Bool.not_true, Bool.not_false, Bool.true_eq_false, Bool.false_eq_true, cond_true, cond_false, Bool.cond_self, reduceCtorEq] at hq); done) | (revert hq; with_reducible intro _)) | (with_reducible exact True.intro) | (with_reducible rfl) | ((with_reducible refine WkX.chk ?_); (conv => whnf)) | ((with_reducible refine Wk.chk ?_); (conv => whnf)) | (with_reducible refine EntLe.row ?_) | (with_reducible exact LeN.ro rfl) | (with_reducible exact LeN.rptr) | ((with_reducible refine LeL.chk ?_); (conv => whnf)) | ((with_reducible show LeO _ _); (first | (refine LeO.ro ?_) | (refine LeO.roCap ?_) | (refine LeO.nil ?_ (fun _ => rfl)))) | ((with_reducible show LeR _ _ _); (first | (refine LeR.own rfl rfl rfl ?_) | (refine LeR.view rfl rfl rfl ?_ ?_) | (refine LeR.ro ?_) | (refine LeR.roCap ?_) | (refine LeR.nil ?_ (fun _ => rfl)))) | ((with_reducible refine LeF.chk ?_); (conv => whnf)) | (with_reducible assumption) | ((with_reducible refine Run.mk ?_); (conv => whnf)) | ((with_reducible show drawOK _ _ = true); kernel_rfl) | ((with_reducible show drawOK2 _ _ = true); kernel_rfl) | ((with_reducible show drawOK3 _ _ = true); kernel_rfl))
  all_goals first
    | rfl
    | (dsimp only [List.length_cons, List.length_nil]; omega)
    | (simp_all; done)
theorem con_dash : Con prog 101 (fun x : Pc => [.agg (pcAV x)]) (fun x => .sb (dashP x)) (fun _ => True) := by
  refine Con.of (by kernel_rfl) T_ok D_pc_ok (.con con_among .nil) 2 [] q_dash.1 q_dash.2.1 q_dash.2.2 (fun _ => rfl) fun x _ => ?_
  repeat' (first | (with_reducible refine ⟨(_, _), ⟨(.cons (.v _) (.cons (.ro _ _ _ _ _) .nil)), ?_⟩, ?_⟩) | (with_reducible exact fun h => h) | (with_reducible refine ExE.row (by with_unfolding_all rfl) ?_) | (with_reducible refine And.intro ?_ ?_) | ((with_reducible intro hq); first | (exact bne1 hq (by with_reducible assumption)) | (exact bne1 (by with_reducible assumption) hq) | ((simp only [*, Bool.and_true, Bool.true_and, Bool.and_false, Bool.false_and, Bool.or_true, Bool.true_or, Bool.or_false, Bool.false_or, Bool.not_true, Bool.not_false, Bool.true_eq_false, Bool.false_eq_true, cond_true, cond_false, Bool.cond_self, reduceCtorEq] at hq); done) | (revert hq; with_reducible intro _)) | (with_reducible exact True.intro) | (with_reducible rfl) | ((with_reducible refine WkX.chk ?_); (conv => whnf)) | ((with_reducible refine Wk.chk ?_); (conv => whnf)) | (with_reducible refine EntLe.row ?_) | (with_reducible exact LeN.ro rfl) | (with_reducible exact LeN.rptr) | ((with_reducible refine LeL.chk ?_); (conv => whnf)) | ((with_reducible show LeO _ _); (first | (refine LeO.ro ?_) | (refine LeO.roCap ?_) | (refine LeO.nil ?_ (fun _ => rfl)))) | ((with_reducible show LeR _ _ _); (first | (refine LeR.own rfl rfl rfl ?_) | (refine LeR.view rfl rfl rfl ?_ ?_) | (refine LeR.ro ?_) | (refine LeR.roCap ?_) | (refine LeR.nil ?_ (fun _ => rfl)))) | ((with_reducible refine LeF.chk ?_); (conv => whnf)) | (with_reducible assumption) | ((with_reducible refine Run.mk ?_); (conv => whnf)) | ((with_reducible show drawOK _ _ = true); kernel_rfl) | ((with_reducible show drawOK2 _ _ = true); kernel_rfl) | ((with_reducible show drawOK3 _ _ = true); kernel_rfl))
  all_goals first
    | rfl
    | (dsimp only [List.length_cons, List.length_nil]; omega)
theorem con_opening : Con prog 103 (fun x : Pc => [.agg (pcAV x)]) (fun x => .sb (openingP x)) (fun _ => True) := by
  refine Con.of (by kernel_rfl) T_ok D_pc_ok (.con con_among .nil) 2 [] q_opening.1 q_opening.2.1 q_opening.2.2 (fun _ => rfl) fun x _ => ?_
  repeat' (first | (with_reducible refine ⟨(_, _), ⟨(.cons (.v _) (.cons (.ro _ _ _ _ _) .nil)), ?_⟩, ?_⟩) | (with_reducible exact fun h => h) | (with_reducible refine ExE.row (by with_unfolding_all rfl) ?_) | (with_reducible refine And.intro ?_ ?_) | ((with_reducible intro hq); first | (exact bne1 hq (by with_reducible assumption)) | (exact bne1 (by with_reducible assumption) hq) | ((simp only [*, Bool.and_true, Bool.true_and, Bool.and_false, Bool.false_and, Bool.or_true, Bool.true_or, Bool.or_false, Bool.false_or, Bool.not_true, Bool.not_false, Bool.true_eq_false, Bool.false_eq_true, cond_true, cond_false, Bool.cond_self, reduceCtorEq] at hq); done) | (revert hq; with_reducible intro _)) | (with_reducible exact True.intro) | (with_reducible rfl) | ((with_reducible refine WkX.chk ?_); (conv => whnf)) | ((with_reducible refine Wk.chk ?_); (conv => whnf)) | (with_reducible refine EntLe.row ?_) | (with_reducible exact LeN.ro rfl) | (with_reducible exact LeN.rptr) | ((with_reducible refine LeL.chk ?_); (conv => whnf)) | ((with_reducible show LeO _ _); (first | (refine LeO.ro ?_) | (refine LeO.roCap ?_) | (refine LeO.nil ?_ (fun _ => rfl)))) | ((with_reducible show LeR _ _ _); (first | (refine LeR.own rfl rfl rfl ?_) | (refine LeR.view rfl rfl rfl ?_ ?_) | (refine LeR.ro ?_) | (refine LeR.roCap ?_) | (refine LeR.nil ?_ (fun _ => rfl)))) | ((with_reducible refine LeF.chk ?_); (conv => whnf)) | (with_reducible assumption) | ((with_reducible refine Run.mk ?_); (conv => whnf)) | ((with_reducible show drawOK _ _ = true); kernel_rfl) | ((with_reducible show drawOK2 _ _ = true); kernel_rfl) | ((with_reducible show drawOK3 _ _ = true); kernel_rfl))
  all_goals first
    | rfl
    | (dsimp only [List.length_cons, List.length_nil]; omega)
theorem con_closing : Con prog 104 (fun x : Pc => [.agg (pcAV x)]) (fun x => .sb (closingP x)) (fun _ => True) := by
  refine Con.of (by kernel_rfl) T_ok D_pc_ok (.con con_among .nil) 2 [] q_closing.1 q_closing.2.1 q_closing.2.2 (fun _ => rfl) fun x _ => ?_
  repeat' (first | (with_reducible refine ⟨(_, _), ⟨(.cons (.v _) (.cons (.ro _ _ _ _ _) .nil)), ?_⟩, ?_⟩) | (with_reducible exact fun h => h) | (with_reducible refine ExE.row (by with_unfolding_all rfl) ?_) | (with_reducible refine And.intro ?_ ?_) | ((with_reducible intro hq); first | (exact bne1 hq (by with_reducible assumption)) | (exact bne1 (by with_reducible assumption) hq) | ((simp only [*, Bool.and_true, Bool.true_and, Bool.and_false, Bool.false_and, Bool.or_true, Bool.true_or, Bool.or_false, Bool.false_or, Bool.not_true, Bool.not_false, Bool.true_eq_false, Bool.false_eq_true, cond_true, cond_false, Bool.cond_self, reduceCtorEq] at hq); done) | (revert hq; with_reducible intro _)) | (with_reducible exact True.intro) | (with_reducible rfl) | ((with_reducible refine WkX.chk ?_); (conv => whnf)) | ((with_reducible refine Wk.chk ?_); (conv => whnf)) | (with_reducible refine EntLe.row ?_) | (with_reducible exact LeN.ro rfl) | (with_reducible exact LeN.rptr) | ((with_reducible refine LeL.chk ?_); (conv => whnf)) | ((with_reducible show LeO _ _); (first | (refine LeO.ro ?_) | (refine LeO.roCap ?_) | (refine LeO.nil ?_ (fun _ => rfl)))) | ((with_reducible show LeR _ _ _); (first | (refine LeR.own rfl rfl rfl ?_) | (refine LeR.view rfl rfl rfl ?_ ?_) | (refine LeR.ro ?_) | (refine LeR.roCap ?_) | (refine LeR.nil ?_ (fun _ => rfl)))) | ((with_reducible refine LeF.chk ?_); (conv => whnf)) | (with_reducible assumption) | ((with_reducible refine Run.mk ?_); (conv => whnf)) | ((with_reducible show drawOK _ _ = true); kernel_rfl) | ((with_reducible show drawOK2 _ _ = true); kernel_rfl) | ((with_reducible show drawOK3 _ _ = true); kernel_rfl))
  all_goals first
    | rfl
    | (dsimp only [List.length_cons, List.length_nil]; omega)
theorem con_pwide : Con prog 102 (fun x : Pc => [.agg (pcAV x)]) (fun x => .sb (wideP' x)) (fun _ => True) := by
  refine Con.of (by kernel_rfl) T_ok D_pc_ok (.con con_rblank .nil) 2 [] q_pwide.1 q_pwide.2.1 q_pwide.2.2 (fun _ => rfl) fun x _ => ?_
  repeat' (first | (with_reducible refine ⟨⟨_, _, _, _⟩, ⟨(.cons (.agg (.cons (.v _) (.cons (.v _) (.cons (.v _) (.cons (.v _) .nil))))) .nil), ?_⟩, ?_⟩) | (with_reducible exact fun h => h) | (with_reducible refine ExE.row (by with_unfolding_all rfl) ?_) | (with_reducible refine And.intro ?_ ?_) | ((with_reducible intro hq); first | (exact bne1 hq (by with_reducible assumption)) | (exact bne1 (by with_reducible assumption) hq) | ((simp only [*, Bool.and_true, Bool.true_and, Bool.and_false, Bool.false_and, Bool.or_true, Bool.true_or, Bool.or_false, Bool.false_or, Bool.not_true, Bool.not_false, Bool.true_eq_false, Bool.false_eq_true, cond_true, cond_false, Bool.cond_self, reduceCtorEq] at hq); done) | (revert hq; with_reducible intro _)) | (with_reducible exact True.intro) | (with_reducible rfl) | ((with_reducible refine WkX.chk ?_); (conv => whnf)) | ((with_reducible refine Wk.chk ?_); (conv => whnf)) | (with_reducible refine EntLe.row ?_) | (with_reducible exact LeN.ro rfl) | (with_reducible exact LeN.rptr) | ((with_reducible refine LeL.chk ?_); (conv => whnf)) | ((with_reducible show LeO _ _); (first | (refine LeO.ro ?_) | (refine LeO.roCap ?_) | (refine LeO.nil ?_ (fun _ => rfl)))) | ((with_reducible show LeR _ _ _); (first | (refine LeR.own rfl rfl rfl ?_) | (refine LeR.view rfl rfl rfl ?_ ?_) | (refine LeR.ro ?_) | (refine LeR.roCap ?_) | (refine LeR.nil ?_ (fun _ => rfl)))) | ((with_reducible refine LeF.chk ?_); (conv => whnf)) | (with_reducible assumption) | ((with_reducible refine Run.mk ?_); (conv => whnf)) | ((with_reducible show drawOK _ _ = true); kernel_rfl) | ((with_reducible show drawOK2 _ _ = true); kernel_rfl) | ((with_reducible show drawOK3 _ _ = true); kernel_rfl))
  all_goals first
    | rfl
    | (unfold wideP'; simp_all; done)
theorem con_rcheck : Con prog 44 (fun ((s, w) : ByteArray × Int) => [.v (.string s), .v (.int .i64 w)]) (fun (s, w) => .v (.int .i64 (checkN s.size w))) (fun _ => True) := by
  refine Con.of (by kernel_rfl) T_ok CdsOK.nil .nil 2 [] q_rcheck.1 q_rcheck.2.1 q_rcheck.2.2 (fun _ => rfl) fun i _ => ?_
  obtain ⟨s, w⟩ := i
  repeat' (first | (with_reducible exact fun h => h) | (with_reducible refine ExE.row (by with_unfolding_all rfl) ?_) | (with_reducible refine And.intro ?_ ?_) | ((with_reducible intro hq); first | (exact bne1 hq (by with_reducible assumption)) | (exact bne1 (by with_reducible assumption) hq) | ((simp only [*, Bool.and_true, Bool.true_and, Bool.and_false, Bool.false_and, Bool.or_true, Bool.true_or, Bool.or_false, Bool.false_or, Bool.not_true, Bool.not_false, Bool.true_eq_false, Bool.false_eq_true, cond_true, cond_false, Bool.cond_self, reduceCtorEq] at hq); done) | (revert hq; with_reducible intro _)) | (with_reducible exact True.intro) | (with_reducible rfl) | ((with_reducible refine WkX.chk ?_); (conv => whnf)) | ((with_reducible refine Wk.chk ?_); (conv => whnf)) | (with_reducible refine EntLe.row ?_) | (with_reducible exact LeN.ro rfl) | (with_reducible exact LeN.rptr) | ((with_reducible refine LeL.chk ?_); (conv => whnf)) | ((with_reducible show LeO _ _); (first | (refine LeO.ro ?_) | (refine LeO.roCap ?_) | (refine LeO.nil ?_ (fun _ => rfl)))) | ((with_reducible show LeR _ _ _); (first | (refine LeR.own rfl rfl rfl ?_) | (refine LeR.view rfl rfl rfl ?_ ?_) | (refine LeR.ro ?_) | (refine LeR.roCap ?_) | (refine LeR.nil ?_ (fun _ => rfl)))) | ((with_reducible refine LeF.chk ?_); (conv => whnf)) | (with_reducible assumption) | ((with_reducible refine Run.mk ?_); (conv => whnf)) | ((with_reducible show drawOK _ _ = true); kernel_rfl) | ((with_reducible show drawOK2 _ _ = true); kernel_rfl) | ((with_reducible show drawOK3 _ _ = true); kernel_rfl))
  all_goals simp only [Bool.or_eq_true, Bool.or_eq_false_iff, decide_eq_true_eq, decide_eq_false_iff_not, Bool.not_eq_true'] at *
  all_goals first
    | assumption
    | (unfold checkN; repeat' split) <;> omega
theorem pc_eta (x : Pc) : (⟨x.r, x.frm, x.to, x.cells⟩ : Pc) = x := rfl
theorem con_kind : Con prog 78 (fun ((l, i) : List Pc × Int) => [.ro 4 C_pc.enc C_pc.d l none, .v (.int .i64 i)]) (fun (l, i) => .v (.int .i64 (kindP l i.toNat))) (fun (l, i) => 0 < i ∧ i ≤ l.length ∧ l.length ≤ 1000000) := by
  refine Con.of (by kernel_rfl) T_ok D_pc_ok (.con con_ends (.con con_rblank (.con con_pwide (.con con_dash (.con con_opening (.con con_closing .nil)))))) 3 [4, 6] q_kind.1 q_kind.2.1 q_kind.2.2 (fun _ => rfl) fun i hi => ?_
  obtain ⟨l, i⟩ := i
  obtain ⟨h1, h2, h3⟩ : 0 < i ∧ i ≤ l.length ∧ l.length ≤ 1000000 := hi
  obtain ⟨i, rfl⟩ := Int.eq_ofNat_of_zero_le (show 0 ≤ i by omega)
  have e1 : ((i : Int)).toNat = i := Int.toNat_natCast _
  have e2 : ((i : Int) - 1).toNat = i - 1 := by omega
  have e3 : ((i : Int) - 2).toNat = i - 2 := by omega
  have e4 : C_pc.d = dPc := rfl
  repeat' (first | (with_reducible refine ⟨⟨_, _, _, _⟩, ⟨(.cons (.agg (.cons (.v _) (.cons (.v _) (.cons (.v _) (.cons (.v _) .nil))))) .nil), ?_⟩, ?_⟩) | (with_reducible exact fun h => h) | (with_reducible refine ExE.row (by with_unfolding_all rfl) ?_) | (with_reducible refine And.intro ?_ ?_) | ((with_reducible intro hq); first | (exact bne1 hq (by with_reducible assumption)) | (exact bne1 (by with_reducible assumption) hq) | ((simp only [*, Bool.and_true, Bool.true_and, Bool.and_false, Bool.false_and, Bool.or_true, Bool.true_or, Bool.or_false, Bool.false_or, Bool.not_true, Bool.not_false, Bool.true_eq_false, Bool.false_eq_true, cond_true, cond_false, Bool.cond_self, reduceCtorEq] at hq); done) | (revert hq; with_reducible intro _)) | (with_reducible exact True.intro) | (with_reducible rfl) | ((with_reducible refine WkX.chk ?_); (conv => whnf)) | ((with_reducible refine Wk.chk ?_); (conv => whnf)) | (with_reducible refine EntLe.row ?_) | (with_reducible exact LeN.ro rfl) | (with_reducible exact LeN.rptr) | ((with_reducible refine LeL.chk ?_); (conv => whnf)) | ((with_reducible show LeO _ _); (first | (refine LeO.ro ?_) | (refine LeO.roCap ?_) | (refine LeO.nil ?_ (fun _ => rfl)))) | ((with_reducible show LeR _ _ _); (first | (refine LeR.own rfl rfl rfl ?_) | (refine LeR.view rfl rfl rfl ?_ ?_) | (refine LeR.ro ?_) | (refine LeR.roCap ?_) | (refine LeR.nil ?_ (fun _ => rfl)))) | ((with_reducible refine LeF.chk ?_); (conv => whnf)) | (with_reducible assumption) | ((with_reducible refine Run.mk ?_); (conv => whnf)) | ((with_reducible show drawOK _ _ = true); kernel_rfl) | ((with_reducible show drawOK2 _ _ = true); kernel_rfl) | ((with_reducible show drawOK3 _ _ = true); kernel_rfl))
  · refine Fits.i64 ?_ ?_ <;> omega
  · omega
  · omega
  simp only [e1, e2, e3, e4]
  refine joinI Unit [] (fun _ => []) (fun _ => []) (fun _ => endsP (l.getD (i - 1) dPc) = false) ?_ fun _ hA => ?_
  · repeat' (first | (with_reducible refine ⟨⟨_, _, _, _⟩, ⟨(.cons (.agg (.cons (.v _) (.cons (.v _) (.cons (.v _) (.cons (.v _) .nil))))) .nil), ?_⟩, ?_⟩) | (with_reducible refine ex_of () ?_ ?_) | (with_reducible exact fun h => h) | (with_reducible refine ExE.row (by with_unfolding_all rfl) ?_) | (with_reducible refine And.intro ?_ ?_) | ((with_reducible intro hq); first | (exact bne1 hq (by with_reducible assumption)) | (exact bne1 (by with_reducible assumption) hq) | ((simp only [*, Bool.and_true, Bool.true_and, Bool.and_false, Bool.false_and, Bool.or_true, Bool.true_or, Bool.or_false, Bool.false_or, Bool.not_true, Bool.not_false, Bool.true_eq_false, Bool.false_eq_true, cond_true, cond_false, Bool.cond_self, reduceCtorEq] at hq); done) | (revert hq; with_reducible intro _)) | (with_reducible exact True.intro) | (with_reducible rfl) | ((with_reducible refine WkX.chk ?_); (conv => whnf)) | ((with_reducible refine Wk.chk ?_); (conv => whnf)) | (with_reducible refine EntLe.row ?_) | (with_reducible exact LeN.ro rfl) | (with_reducible exact LeN.rptr) | ((with_reducible refine LeL.chk ?_); (conv => whnf)) | ((with_reducible show LeO _ _); (first | (refine LeO.ro ?_) | (refine LeO.roCap ?_) | (refine LeO.nil ?_ (fun _ => rfl)))) | ((with_reducible show LeR _ _ _); (first | (refine LeR.own rfl rfl rfl ?_) | (refine LeR.view rfl rfl rfl ?_ ?_) | (refine LeR.ro ?_) | (refine LeR.roCap ?_) | (refine LeR.nil ?_ (fun _ => rfl)))) | ((with_reducible refine LeF.chk ?_); (conv => whnf)) | (with_reducible assumption) | ((with_reducible refine Run.mk ?_); (conv => whnf)) | ((with_reducible show drawOK _ _ = true); kernel_rfl) | ((with_reducible show drawOK2 _ _ = true); kernel_rfl) | ((with_reducible show drawOK3 _ _ = true); kernel_rfl))
    all_goals first
      | assumption
      | (unfold kindP; simp_all; done)
  · repeat' (first | (with_reducible exact fun h => h) | (with_reducible refine ExE.row (by with_unfolding_all rfl) ?_) | (with_reducible refine And.intro ?_ ?_) | ((with_reducible intro hq); first | (exact bne1 hq (by with_reducible assumption)) | (exact bne1 (by with_reducible assumption) hq) | ((simp only [*, Bool.and_true, Bool.true_and, Bool.and_false, Bool.false_and, Bool.or_true, Bool.true_or, Bool.or_false, Bool.false_or, Bool.not_true, Bool.not_false, Bool.true_eq_false, Bool.false_eq_true, cond_true, cond_false, Bool.cond_self, reduceCtorEq] at hq); done) | (revert hq; with_reducible intro _)) | (with_reducible exact True.intro) | (with_reducible rfl) | ((with_reducible refine WkX.chk ?_); (conv => whnf)) | ((with_reducible refine Wk.chk ?_); (conv => whnf)) | (with_reducible refine EntLe.row ?_) | (with_reducible exact LeN.ro rfl) | (with_reducible exact LeN.rptr) | ((with_reducible refine LeL.chk ?_); (conv => whnf)) | ((with_reducible show LeO _ _); (first | (refine LeO.ro ?_) | (refine LeO.roCap ?_) | (refine LeO.nil ?_ (fun _ => rfl)))) | ((with_reducible show LeR _ _ _); (first | (refine LeR.own rfl rfl rfl ?_) | (refine LeR.view rfl rfl rfl ?_ ?_) | (refine LeR.ro ?_) | (refine LeR.roCap ?_) | (refine LeR.nil ?_ (fun _ => rfl)))) | ((with_reducible refine LeF.chk ?_); (conv => whnf)) | (with_reducible assumption) | ((with_reducible refine Run.mk ?_); (conv => whnf)) | ((with_reducible show drawOK _ _ = true); kernel_rfl) | ((with_reducible show drawOK2 _ _ = true); kernel_rfl) | ((with_reducible show drawOK3 _ _ = true); kernel_rfl))
    refine joinI Unit [] (fun _ => []) (fun _ => []) (fun _ => i < l.length ∧ (endsP (l.getD i dPc) || blankP (l.getD i dPc)) = false) ?_ fun _ hB => ?_
    · have e5 : ((i : Int) == (List.length l : Int)) = decide (i = l.length) := by rw [Bool.eq_iff_iff]; simp; omega
      repeat' (first | (with_reducible refine ⟨⟨_, _, _, _⟩, ⟨(.cons (.agg (.cons (.v _) (.cons (.v _) (.cons (.v _) (.cons (.v _) .nil))))) .nil), ?_⟩, ?_⟩) | (with_reducible refine ex_of () ⟨?_, ?_⟩ ?_) | (with_reducible exact fun h => h) | (with_reducible refine ExE.row (by with_unfolding_all rfl) ?_) | (with_reducible refine And.intro ?_ ?_) | ((with_reducible intro hq); first | (exact bne1 hq (by with_reducible assumption)) | (exact bne1 (by with_reducible assumption) hq) | ((simp only [*, Bool.and_true, Bool.true_and, Bool.and_false, Bool.false_and, Bool.or_true, Bool.true_or, Bool.or_false, Bool.false_or, Bool.not_true, Bool.not_false, Bool.true_eq_false, Bool.false_eq_true, cond_true, cond_false, Bool.cond_self, reduceCtorEq] at hq); done) | (revert hq; with_reducible intro _)) | (with_reducible exact True.intro) | (with_reducible rfl) | ((with_reducible refine WkX.chk ?_); (conv => whnf)) | ((with_reducible refine Wk.chk ?_); (conv => whnf)) | (with_reducible refine EntLe.row ?_) | (with_reducible exact LeN.ro rfl) | (with_reducible exact LeN.rptr) | ((with_reducible refine LeL.chk ?_); (conv => whnf)) | ((with_reducible show LeO _ _); (first | (refine LeO.ro ?_) | (refine LeO.roCap ?_) | (refine LeO.nil ?_ (fun _ => rfl)))) | ((with_reducible show LeR _ _ _); (first | (refine LeR.own rfl rfl rfl ?_) | (refine LeR.view rfl rfl rfl ?_ ?_) | (refine LeR.ro ?_) | (refine LeR.roCap ?_) | (refine LeR.nil ?_ (fun _ => rfl)))) | ((with_reducible refine LeF.chk ?_); (conv => whnf)) | (with_reducible assumption) | ((with_reducible refine Run.mk ?_); (conv => whnf)) | ((with_reducible show drawOK _ _ = true); kernel_rfl) | ((with_reducible show drawOK2 _ _ = true); kernel_rfl) | ((with_reducible show drawOK3 _ _ = true); kernel_rfl))
      all_goals (try simp only [e1, e2, e3, e4, e5] at *)
      all_goals first
        | omega
        | (simp only [decide_eq_true_eq, decide_eq_false_iff_not, Bool.not_eq_true', Bool.or_eq_false_iff, Bool.and_eq_true] at *; omega)
        | (unfold kindP; simp_all; done)
        | (simp_all; done)
    · obtain ⟨hB1, hB2⟩ := hB
      repeat' (first | (with_reducible refine ⟨⟨_, _, _, _⟩, ⟨(.cons (.agg (.cons (.v _) (.cons (.v _) (.cons (.v _) (.cons (.v _) .nil))))) .nil), ?_⟩, ?_⟩) | (with_reducible exact fun h => h) | (with_reducible refine ExE.row (by with_unfolding_all rfl) ?_) | (with_reducible refine And.intro ?_ ?_) | ((with_reducible intro hq); first | (exact bne1 hq (by with_reducible assumption)) | (exact bne1 (by with_reducible assumption) hq) | ((simp only [*, Bool.and_true, Bool.true_and, Bool.and_false, Bool.false_and, Bool.or_true, Bool.true_or, Bool.or_false, Bool.false_or, Bool.not_true, Bool.not_false, Bool.true_eq_false, Bool.false_eq_true, cond_true, cond_false, Bool.cond_self, reduceCtorEq] at hq); done) | (revert hq; with_reducible intro _)) | (with_reducible exact True.intro) | (with_reducible rfl) | ((with_reducible refine WkX.chk ?_); (conv => whnf)) | ((with_reducible refine Wk.chk ?_); (conv => whnf)) | (with_reducible refine EntLe.row ?_) | (with_reducible exact LeN.ro rfl) | (with_reducible exact LeN.rptr) | ((with_reducible refine LeL.chk ?_); (conv => whnf)) | ((with_reducible show LeO _ _); (first | (refine LeO.ro ?_) | (refine LeO.roCap ?_) | (refine LeO.nil ?_ (fun _ => rfl)))) | ((with_reducible show LeR _ _ _); (first | (refine LeR.own rfl rfl rfl ?_) | (refine LeR.view rfl rfl rfl ?_ ?_) | (refine LeR.ro ?_) | (refine LeR.roCap ?_) | (refine LeR.nil ?_ (fun _ => rfl)))) | ((with_reducible refine LeF.chk ?_); (conv => whnf)) | (with_reducible assumption) | ((with_reducible refine Run.mk ?_); (conv => whnf)) | ((with_reducible show drawOK _ _ = true); kernel_rfl) | ((with_reducible show drawOK2 _ _ = true); kernel_rfl) | ((with_reducible show drawOK3 _ _ = true); kernel_rfl))
      all_goals (try simp only [e1, e2, e3, e4, pc_eta] at *)
      all_goals first
        | omega
        | (refine Fits.i64 ?_ ?_ <;> omega)
        | (simp only [decide_eq_true_eq, decide_eq_false_iff_not, Bool.not_eq_true', Bool.or_eq_false_iff, Bool.and_eq_true] at *; omega)
        | (unfold kindP; rw [hA, hB2, if_neg Bool.false_ne_true, if_neg (by omega), if_neg Bool.false_ne_true]; simp_all; done)
        | (simp_all; done)
        | (unfold kindP; rw [hA, hB2, if_neg Bool.false_ne_true, if_neg (by omega), if_neg Bool.false_ne_true]; cases hd : dashP (l.getD (i - 1) dPc) <;> by_cases hi2 : (1 : Int) < (i : Int) <;> simp_all <;> (intros; omega))
theorem con_kinds : Con prog 46 (fun l : List Pc => [.ro 4 C_pc.enc C_pc.d l none]) (fun l => .ro 1 C_int.enc C_int.d (kindsP l) none) (fun l => l.length ≤ 1000000) := by
  refine Con.of (by kernel_rfl) T_ok D_pc_ok (.con con_kind .nil) 3 [] q_kinds.1 q_kinds.2.1 q_kinds.2.2 (fun _ => rfl) fun l hl => ?_
  repeat' (first | (with_reducible exact fun h => h) | (with_reducible refine ExE.row (by with_unfolding_all rfl) ?_) | (with_reducible refine And.intro ?_ ?_) | ((with_reducible intro hq); first | (exact bne1 hq (by with_reducible assumption)) | (exact bne1 (by with_reducible assumption) hq) | ((simp only [*, Bool.and_true, Bool.true_and, Bool.and_false, Bool.false_and, Bool.or_true, Bool.true_or, Bool.or_false, Bool.false_or, Bool.not_true, Bool.not_false, Bool.true_eq_false, Bool.false_eq_true, cond_true, cond_false, Bool.cond_self, reduceCtorEq] at hq); done) | (revert hq; with_reducible intro _)) | (with_reducible exact True.intro) | (with_reducible rfl) | ((with_reducible refine WkX.chk ?_); (conv => whnf)) | ((with_reducible refine Wk.chk ?_); (conv => whnf)) | (with_reducible refine EntLe.row ?_) | (with_reducible exact LeN.ro rfl) | (with_reducible exact LeN.rptr) | ((with_reducible refine LeL.chk ?_); (conv => whnf)) | ((with_reducible show LeO _ _); (first | (refine LeO.ro ?_) | (refine LeO.roCap ?_) | (refine LeO.nil ?_ (fun _ => rfl)))) | ((with_reducible show LeR _ _ _); (first | (refine LeR.own rfl rfl rfl ?_) | (refine LeR.view rfl rfl rfl ?_ ?_) | (refine LeR.ro ?_) | (refine LeR.roCap ?_) | (refine LeR.nil ?_ (fun _ => rfl)))) | ((with_reducible refine LeF.chk ?_); (conv => whnf)) | (with_reducible assumption) | ((with_reducible refine Run.mk ?_); (conv => whnf)) | ((with_reducible show drawOK _ _ = true); kernel_rfl) | ((with_reducible show drawOK2 _ _ = true); kernel_rfl) | ((with_reducible show drawOK3 _ _ = true); kernel_rfl))
  · refine Fits.i64 ?_ ?_ <;> omega
  · omega
  · omega
  · dsimp only; omega
  · rfl
  refine loopI Nat [] (fun i => [(4, .v (.int .i64 (i : Int)))]) (fun i => [(1, .row C_intL (kindsTo l i) 3 none)]) (fun i => 1 ≤ i ∧ i ≤ l.length + 1) (fun i => l.length + 1 - i) 1 ⟨by omega, by omega⟩ (Wk.chk ?_) fun i hi => ?_
  · ((conv => whnf); repeat' (first | (with_reducible exact fun h => h) | (with_reducible refine ExE.row (by with_unfolding_all rfl) ?_) | (with_reducible refine And.intro ?_ ?_) | ((with_reducible intro hq); first | (exact bne1 hq (by with_reducible assumption)) | (exact bne1 (by with_reducible assumption) hq) | ((simp only [*, Bool.and_true, Bool.true_and, Bool.and_false, Bool.false_and, Bool.or_true, Bool.true_or, Bool.or_false, Bool.false_or, Bool.not_true, Bool.not_false, Bool.true_eq_false, Bool.false_eq_true, cond_true, cond_false, Bool.cond_self, reduceCtorEq] at hq); done) | (revert hq; with_reducible intro _)) | (with_reducible exact True.intro) | (with_reducible rfl) | ((with_reducible refine WkX.chk ?_); (conv => whnf)) | ((with_reducible refine Wk.chk ?_); (conv => whnf)) | (with_reducible refine EntLe.row ?_) | (with_reducible exact LeN.ro rfl) | (with_reducible exact LeN.rptr) | ((with_reducible refine LeL.chk ?_); (conv => whnf)) | ((with_reducible show LeO _ _); (first | (refine LeO.ro ?_) | (refine LeO.roCap ?_) | (refine LeO.nil ?_ (fun _ => rfl)))) | ((with_reducible show LeR _ _ _); (first | (refine LeR.own rfl rfl rfl ?_) | (refine LeR.view rfl rfl rfl ?_ ?_) | (refine LeR.ro ?_) | (refine LeR.roCap ?_) | (refine LeR.nil ?_ (fun _ => rfl)))) | ((with_reducible refine LeF.chk ?_); (conv => whnf)) | (with_reducible assumption) | ((with_reducible refine Run.mk ?_); (conv => whnf)) | ((with_reducible show drawOK _ _ = true); kernel_rfl) | ((with_reducible show drawOK2 _ _ = true); kernel_rfl) | ((with_reducible show drawOK3 _ _ = true); kernel_rfl)))
    · rfl
    · simp only [kindsTo]; congr 1
  obtain ⟨h1, h2⟩ := hi
  have e1 : ((i : Int)).toNat = i := Int.toNat_natCast _
  have hlen := kindsTo_len l i
  repeat' (first | (with_reducible refine ⟨(_, _), ⟨(.cons (.ro _ _ _ _ _) (.cons (.v _) .nil)), ?_⟩, ?_⟩) | (with_reducible refine ex_of (i + 1) ⟨⟨?_, ?_⟩, ?_⟩ ?_) | (with_reducible exact fun h => h) | (with_reducible refine ExE.row (by with_unfolding_all rfl) ?_) | (with_reducible refine And.intro ?_ ?_) | ((with_reducible intro hq); first | (exact bne1 hq (by with_reducible assumption)) | (exact bne1 (by with_reducible assumption) hq) | ((simp only [*, Bool.and_true, Bool.true_and, Bool.and_false, Bool.false_and, Bool.or_true, Bool.true_or, Bool.or_false, Bool.false_or, Bool.not_true, Bool.not_false, Bool.true_eq_false, Bool.false_eq_true, cond_true, cond_false, Bool.cond_self, reduceCtorEq] at hq); done) | (revert hq; with_reducible intro _)) | (with_reducible exact True.intro) | (with_reducible rfl) | ((with_reducible refine WkX.chk ?_); (conv => whnf)) | ((with_reducible refine Wk.chk ?_); (conv => whnf)) | (with_reducible refine EntLe.row ?_) | (with_reducible exact LeN.ro rfl) | (with_reducible exact LeN.rptr) | ((with_reducible refine LeL.chk ?_); (conv => whnf)) | ((with_reducible show LeO _ _); (first | (refine LeO.ro ?_) | (refine LeO.roCap ?_) | (refine LeO.nil ?_ (fun _ => rfl)))) | ((with_reducible show LeR _ _ _); (first | (refine LeR.own rfl rfl rfl ?_) | (refine LeR.view rfl rfl rfl ?_ ?_) | (refine LeR.ro ?_) | (refine LeR.roCap ?_) | (refine LeR.nil ?_ (fun _ => rfl)))) | ((with_reducible refine LeF.chk ?_); (conv => whnf)) | (with_reducible assumption) | ((with_reducible refine Run.mk ?_); (conv => whnf)) | ((with_reducible show drawOK _ _ = true); kernel_rfl) | ((with_reducible show drawOK2 _ _ = true); kernel_rfl) | ((with_reducible show drawOK3 _ _ = true); kernel_rfl))
  all_goals (try simp only [e1, decide_eq_true_eq, decide_eq_false_iff_not] at *)
  all_goals first
    | omega
    | (refine Fits.i64 ?_ ?_ <;> omega)
    | rfl
    | (rw [kindsTo_succ h1]; rfl)
    | (have : i = l.length + 1 := by omega
       subst this; rfl)
theorem con_place : Con prog 48 (fun ((l, i) : List Pc × Int) => [.ro 4 C_pc.enc C_pc.d l none, .v (.int .i64 i)]) (fun (l, i) => .v (.int .i64 (placeP l i.toNat))) (fun (l, i) => 0 ≤ i ∧ i ≤ l.length ∧ 0 < l.length ∧ l.length ≤ 1000000) := by
  refine Con.of (by kernel_rfl) T_ok D_pc_ok .nil 3 [] q_place.1 q_place.2.1 q_place.2.2 (fun _ => rfl) fun i hi => ?_
  obtain ⟨l, i⟩ := i
  obtain ⟨h1, h2, h0, h3⟩ : 0 ≤ i ∧ i ≤ l.length ∧ 0 < l.length ∧ l.length ≤ 1000000 := hi
  obtain ⟨i, rfl⟩ := Int.eq_ofNat_of_zero_le h1
  have e1 : ((i : Int)).toNat = i := Int.toNat_natCast _
  have e2 : ((i : Int) - 1).toNat = i - 1 := by omega
  have e4 : C_pc.d = dPc := rfl
  repeat' (first | (with_reducible exact fun h => h) | (with_reducible refine ExE.row (by with_unfolding_all rfl) ?_) | (with_reducible refine And.intro ?_ ?_) | ((with_reducible intro hq); first | (exact bne1 hq (by with_reducible assumption)) | (exact bne1 (by with_reducible assumption) hq) | ((simp only [*, Bool.and_true, Bool.true_and, Bool.and_false, Bool.false_and, Bool.or_true, Bool.true_or, Bool.or_false, Bool.false_or, Bool.not_true, Bool.not_false, Bool.true_eq_false, Bool.false_eq_true, cond_true, cond_false, Bool.cond_self, reduceCtorEq] at hq); done) | (revert hq; with_reducible intro _)) | (with_reducible exact True.intro) | (with_reducible rfl) | ((with_reducible refine WkX.chk ?_); (conv => whnf)) | ((with_reducible refine Wk.chk ?_); (conv => whnf)) | (with_reducible refine EntLe.row ?_) | (with_reducible exact LeN.ro rfl) | (with_reducible exact LeN.rptr) | ((with_reducible refine LeL.chk ?_); (conv => whnf)) | ((with_reducible show LeO _ _); (first | (refine LeO.ro ?_) | (refine LeO.roCap ?_) | (refine LeO.nil ?_ (fun _ => rfl)))) | ((with_reducible show LeR _ _ _); (first | (refine LeR.own rfl rfl rfl ?_) | (refine LeR.view rfl rfl rfl ?_ ?_) | (refine LeR.ro ?_) | (refine LeR.roCap ?_) | (refine LeR.nil ?_ (fun _ => rfl)))) | ((with_reducible refine LeF.chk ?_); (conv => whnf)) | (with_reducible assumption) | ((with_reducible refine Run.mk ?_); (conv => whnf)) | ((with_reducible show drawOK _ _ = true); kernel_rfl) | ((with_reducible show drawOK2 _ _ = true); kernel_rfl) | ((with_reducible show drawOK3 _ _ = true); kernel_rfl))
  all_goals (try simp only [e1, e2, e4, beq_iff_eq, beq_eq_false_iff_ne, ne_eq] at *)
  all_goals first
    | omega
    | (refine Fits.i64 ?_ ?_ <;> omega)
    | (unfold placeP; rw [if_pos (by omega)])
    | (unfold placeP; rw [if_neg (by omega)])
theorem con_pieces : Con prog 45 (fun s : ByteArray => [.v (.string s)]) (fun s => .ro 4 C_pc.enc C_pc.d (pcs s) none) (fun s => s.size ≤ 1000000) := by
  refine Con.of (by kernel_rfl) T_ok D_pc_ok (.con con_rrunes (.con con_rclusters .nil)) 3 [] q_pieces.1 q_pieces.2.1 q_pieces.2.2 (fun _ => rfl) fun s hs => ?_
  repeat' (first | (with_reducible refine ⟨_, ⟨(.cons (.v _) .nil), ?_⟩, ?_⟩) | (with_reducible exact fun h => h) | (with_reducible refine ExE.row (by with_unfolding_all rfl) ?_) | (with_reducible refine And.intro ?_ ?_) | ((with_reducible intro hq); first | (exact bne1 hq (by with_reducible assumption)) | (exact bne1 (by with_reducible assumption) hq) | ((simp only [*, Bool.and_true, Bool.true_and, Bool.and_false, Bool.false_and, Bool.or_true, Bool.true_or, Bool.or_false, Bool.false_or, Bool.not_true, Bool.not_false, Bool.true_eq_false, Bool.false_eq_true, cond_true, cond_false, Bool.cond_self, reduceCtorEq] at hq); done) | (revert hq; with_reducible intro _)) | (with_reducible exact True.intro) | (with_reducible rfl) | ((with_reducible refine WkX.chk ?_); (conv => whnf)) | ((with_reducible refine Wk.chk ?_); (conv => whnf)) | (with_reducible refine EntLe.row ?_) | (with_reducible exact LeN.ro rfl) | (with_reducible exact LeN.rptr) | ((with_reducible refine LeL.chk ?_); (conv => whnf)) | ((with_reducible show LeO _ _); (first | (refine LeO.ro ?_) | (refine LeO.roCap ?_) | (refine LeO.nil ?_ (fun _ => rfl)))) | ((with_reducible show LeR _ _ _); (first | (refine LeR.own rfl rfl rfl ?_) | (refine LeR.view rfl rfl rfl ?_ ?_) | (refine LeR.ro ?_) | (refine LeR.roCap ?_) | (refine LeR.nil ?_ (fun _ => rfl)))) | ((with_reducible refine LeF.chk ?_); (conv => whnf)) | (with_reducible assumption) | ((with_reducible refine Run.mk ?_); (conv => whnf)) | ((with_reducible show drawOK _ _ = true); kernel_rfl) | ((with_reducible show drawOK2 _ _ = true); kernel_rfl) | ((with_reducible show drawOK3 _ _ = true); kernel_rfl))
  refine loopI Nat [] (fun i => [(6, .v (.int .i64 (i : Int))), (5, .own 1)]) (fun i => [(1, .row C_pc ((pcs s).take i) 103 none)]) (fun i => i ≤ (clusters s).length) (fun i => (clusters s).length - i) 0 (Nat.zero_le _) (Wk.chk ?_) fun i hi => ?_
  · ((conv => whnf); repeat' (first | (with_reducible exact fun h => h) | (with_reducible refine ExE.row (by with_unfolding_all rfl) ?_) | (with_reducible refine And.intro ?_ ?_) | ((with_reducible intro hq); first | (exact bne1 hq (by with_reducible assumption)) | (exact bne1 (by with_reducible assumption) hq) | ((simp only [*, Bool.and_true, Bool.true_and, Bool.and_false, Bool.false_and, Bool.or_true, Bool.true_or, Bool.or_false, Bool.false_or, Bool.not_true, Bool.not_false, Bool.true_eq_false, Bool.false_eq_true, cond_true, cond_false, Bool.cond_self, reduceCtorEq] at hq); done) | (revert hq; with_reducible intro _)) | (with_reducible exact True.intro) | (with_reducible rfl) | ((with_reducible refine WkX.chk ?_); (conv => whnf)) | ((with_reducible refine Wk.chk ?_); (conv => whnf)) | (with_reducible refine EntLe.row ?_) | (with_reducible exact LeN.ro rfl) | (with_reducible exact LeN.rptr) | ((with_reducible refine LeL.chk ?_); (conv => whnf)) | ((with_reducible show LeO _ _); (first | (refine LeO.ro ?_) | (refine LeO.roCap ?_) | (refine LeO.nil ?_ (fun _ => rfl)))) | ((with_reducible show LeR _ _ _); (first | (refine LeR.own rfl rfl rfl ?_) | (refine LeR.view rfl rfl rfl ?_ ?_) | (refine LeR.ro ?_) | (refine LeR.roCap ?_) | (refine LeR.nil ?_ (fun _ => rfl)))) | ((with_reducible refine LeF.chk ?_); (conv => whnf)) | (with_reducible assumption) | ((with_reducible refine Run.mk ?_); (conv => whnf)) | ((with_reducible show drawOK _ _ = true); kernel_rfl) | ((with_reducible show drawOK2 _ _ = true); kernel_rfl) | ((with_reducible show drawOK3 _ _ = true); kernel_rfl)))
    all_goals rfl
  have e1 : ((i : Int)).toNat = i := Int.toNat_natCast _
  have e2 : C_clu.d = ⟨0, 0, 0, 0, 0⟩ := rfl
  have e3 : pcs s = (clusters s).map fun c => pcOf (partOf s c) := by simp only [pcs, Plain.parts, List.map_map]; rfl
  have e4 : (runes s).length = (rl s).length := congrArg List.length (runes_rl s)
  have hcl := clusters_len s
  have htk : (List.take i (pcs s)).length ≤ i := List.length_take_le _ _
  repeat' (first | (with_reducible refine ex_of (i + 1) ⟨?_, ?_⟩ ?_) | (with_reducible exact fun h => h) | (with_reducible refine ExE.row (by with_unfolding_all rfl) ?_) | (with_reducible refine And.intro ?_ ?_) | ((with_reducible intro hq); first | (exact bne1 hq (by with_reducible assumption)) | (exact bne1 (by with_reducible assumption) hq) | ((simp only [*, Bool.and_true, Bool.true_and, Bool.and_false, Bool.false_and, Bool.or_true, Bool.true_or, Bool.or_false, Bool.false_or, Bool.not_true, Bool.not_false, Bool.true_eq_false, Bool.false_eq_true, cond_true, cond_false, Bool.cond_self, reduceCtorEq] at hq); done) | (revert hq; with_reducible intro _)) | (with_reducible exact True.intro) | (with_reducible rfl) | ((with_reducible refine WkX.chk ?_); (conv => whnf)) | ((with_reducible refine Wk.chk ?_); (conv => whnf)) | (with_reducible refine EntLe.row ?_) | (with_reducible exact LeN.ro rfl) | (with_reducible exact LeN.rptr) | ((with_reducible refine LeL.chk ?_); (conv => whnf)) | ((with_reducible show LeO _ _); (first | (refine LeO.ro ?_) | (refine LeO.roCap ?_) | (refine LeO.nil ?_ (fun _ => rfl)))) | ((with_reducible show LeR _ _ _); (first | (refine LeR.own rfl rfl rfl ?_) | (refine LeR.view rfl rfl rfl ?_ ?_) | (refine LeR.ro ?_) | (refine LeR.roCap ?_) | (refine LeR.nil ?_ (fun _ => rfl)))) | ((with_reducible refine LeF.chk ?_); (conv => whnf)) | (with_reducible assumption) | ((with_reducible refine Run.mk ?_); (conv => whnf)) | ((with_reducible show drawOK _ _ = true); kernel_rfl) | ((with_reducible show drawOK2 _ _ = true); kernel_rfl) | ((with_reducible show drawOK3 _ _ = true); kernel_rfl))
  all_goals (try simp only [e1, e2, decide_eq_true_eq, decide_eq_false_iff_not] at *)
  all_goals first
    | omega
    | (refine Fits.i64 ?_ ?_ <;> omega)
    | rfl
    | (simp only [List.length_cons, List.length_nil]; omega)
    | (have hm := (clusters_ok s _ (getD_mem' (clusters s) ⟨0, 0, 0, 0, 0⟩ (i := i) (by omega))).first
       first
       | omega
       | (rw [e3]
          refine Eq.trans ?_ (take_map (fun c => pcOf (partOf s c)) (clusters s) ⟨0, 0, 0, 0, 0⟩ (by omega))
          congr 2
          show (⟨_, _, _, _⟩ : Pc) = ⟨_, _, _, _⟩
          congr 1
          exact (congrArg (fun l => List.getD l _ 0) (runes_rl s)).trans hm.2.2.1))
    | (rw [e3]; exact take_map_all _ _ (by omega))
end Go.SX.Try
/- The document's table, plainly. No program here. -/
namespace Go.SX.Plain
structure Rb where
  bad : Int
  count : Int
  next : Int
abbrev zR : Rb := ⟨0, 0, 0⟩
def rbOf (b : Bst) : Rb := ⟨b.bad, b.places, b.next⟩
def wAt (l : List Part) (f t : Nat) : Int := (scan l f (t - f)).1
def lessB (a b : Rb) : Bool := if a.bad ≠ b.bad then decide (a.bad < b.bad) else decide (a.count < b.count)
def lastB (l : List Part) (f t : Nat) : Bool := decide (t = l.length) && (decide (l.length = f) || !(l.getD (l.length - 1) dPart).fin)
section
variable (l : List Part) (width : Int) (ct : List Rb) (f : Nat)
def rcand (t : Nat) : Bst :=
  ⟨(width - wAt l f t) * (width - wAt l f t) + (ct.getD t zR).bad + (if kindAt l t = 3 then 1048576 else 0), 1 + (ct.getD t zR).count, t, true⟩
def rend (t : Nat) : Bst := ⟨(width - wAt l f t) * (width - wAt l f t), 0, 0, true⟩
def racc1 (t : Nat) (acc : Bst) : Bst := if f < t ∧ 0 < kindAt l t then better (rcand l width ct f t) acc else acc
def racc2 (t : Nat) (acc : Bst) : Bst := if lastB l f t = true then better (rend l width f t) (racc1 l width ct f t acc) else racc1 l width ct f t acc
/-- The best one from a cluster on, told from another one on. -/
def rinn : Nat → Nat → Bst → Bst
  | 0, _, acc => acc
  | k + 1, t, acc => if t ≤ l.length then (if wAt l f t ≤ width then (if f < t ∧ kindAt l t = 1 then racc2 l width ct f t acc else rinn k (t + 1) (racc2 l width ct f t acc)) else acc) else acc
def rinner (t : Nat) (acc : Bst) : Bst := rinn l width ct f (l.length + 1 - t) t acc
end
section
variable {l : List Part} {width : Int} {ct : List Rb} {f t : Nat} {acc : Bst}
theorem rinner_end (h : ¬ t ≤ l.length) : rinner l width ct f t acc = acc := by
  unfold rinner
  rw [show l.length + 1 - t = 0 by omega]
  rfl
theorem rinner_step (h : t ≤ l.length) : rinner l width ct f t acc = (if wAt l f t ≤ width then (if f < t ∧ kindAt l t = 1 then racc2 l width ct f t acc else rinner l width ct f (t + 1) (racc2 l width ct f t acc)) else acc) := by
  unfold rinner
  rw [show l.length + 1 - t = (l.length + 1 - (t + 1)) + 1 by omega]
  simp only [rinn]
  rw [if_pos h]
theorem rinner_full (h : t ≤ l.length) (hw : ¬ wAt l f t ≤ width) : rinner l width ct f t acc = acc := by rw [rinner_step h, if_neg hw]
theorem rinner_stop (h : t ≤ l.length) (hw : wAt l f t ≤ width) (hk : f < t ∧ kindAt l t = 1) : rinner l width ct f t acc = racc2 l width ct f t acc := by rw [rinner_step h, if_pos hw, if_pos hk]
theorem rinner_on (h : t ≤ l.length) (hw : wAt l f t ≤ width) (hk : ¬ (f < t ∧ kindAt l t = 1)) : rinner l width ct f t acc = rinner l width ct f (t + 1) (racc2 l width ct f t acc) := by rw [rinner_step h, if_pos hw, if_neg hk]
theorem before_less {w acc : Bst} : before w acc = (!acc.ok || lessB (rbOf w) (rbOf acc)) := by
  unfold before lessB rbOf
  cases acc.ok <;> simp
end
/-- The table, its last c entries reckoned. -/
def rt (l : List Part) (width : Int) : Nat → List Rb
  | 0 => List.replicate (l.length + 1) zR
  | c + 1 => (rt l width c).set (l.length - c) (rbOf (rinner l width (rt l width c) (l.length - c) (l.length - c) zB))
def rtab (l : List Part) (width : Int) : List Rb := rt l width (l.length + 1)
theorem rt_len (l : List Part) (width : Int) : ∀ c, (rt l width c).length = l.length + 1
  | 0 => by simp [rt]
  | c + 1 => by simp [rt, rt_len l width c]
theorem rt_succ {l : List Part} {width : Int} {c f : Nat} (h : f = l.length - c) : rt l width (c + 1) = (rt l width c).set f (rbOf (rinner l width (rt l width c) f f zB)) := by subst h; rfl
structure GdR (n j : Nat) (b : Rb) : Prop where
  b0 : 0 ≤ b.bad
  b1 : b.bad ≤ ((n + 1 - j : Nat) : Int) * 2000000
  p0 : 0 ≤ b.count
  p1 : b.count ≤ ((n + 1 - j : Nat) : Int)
  n0 : b.next = 0 ∨ ∃ m : Nat, b.next = m ∧ j < m ∧ m ≤ n
theorem GdR.zero (n j : Nat) : GdR n j zR := ⟨by simp, by simp only; omega, by simp, by simp only; omega, .inl rfl⟩
theorem wAt_bd {l : List Part} (h : Small l) (f t : Nat) : 0 ≤ wAt l f t := (scan_bd h _ _).1
theorem GdR.cand {l : List Part} {width : Int} {ct : List Rb} {f t : Nat} (hs : Small l) (hw : width ≤ 200) (hf : wAt l f t ≤ width) (hk : f < t) (hn : t ≤ l.length) (ho : GdR l.length t (ct.getD t zR)) : GdR l.length f (rbOf (rcand l width ct f t)) := by
  have h0 := wAt_bd hs f t
  have hq := sq_bd (x := width - wAt l f t) (y := 200) (by omega) (by omega)
  obtain ⟨b0, b1, p0, p1, _⟩ := ho
  unfold rbOf rcand
  refine ⟨?_, ?_, ?_, ?_, .inr ⟨t, rfl, hk, hn⟩⟩
  · simp only; split <;> omega
  · simp only
    have : ((l.length + 1 - f : Nat) : Int) ≥ ((l.length + 1 - t : Nat) : Int) + 1 := by omega
    split <;> omega
  · simp only; omega
  · simp only; omega
theorem GdR.fin {l : List Part} {width : Int} {f t : Nat} (hs : Small l) (hw : width ≤ 200) (hf : wAt l f t ≤ width) (hk : f ≤ l.length) : GdR l.length f (rbOf (rend l width f t)) := by
  have h0 := wAt_bd hs f t
  have hq := sq_bd (x := width - wAt l f t) (y := 200) (by omega) (by omega)
  unfold rbOf rend
  exact ⟨hq.1, by simp only; omega, by simp, by simp only; omega, .inl rfl⟩
theorem GdR.better {n f : Nat} {a b : Bst} (ha : GdR n f (rbOf a)) (hb : GdR n f (rbOf b)) : GdR n f (rbOf (better a b)) := by
  unfold Plain.better; split <;> assumption
theorem GdR.acc1 {l : List Part} {width : Int} {ct : List Rb} {f t : Nat} {acc : Bst} (hs : Small l) (hw : width ≤ 200) (hf : wAt l f t ≤ width) (hn : t ≤ l.length) (ho : f < t → GdR l.length t (ct.getD t zR)) (ha : GdR l.length f (rbOf acc)) : GdR l.length f (rbOf (racc1 l width ct f t acc)) := by
  unfold racc1
  split
  · rename_i h; exact GdR.better (GdR.cand hs hw hf h.1 hn (ho h.1)) ha
  · exact ha
theorem GdR.acc2 {l : List Part} {width : Int} {ct : List Rb} {f t : Nat} {acc : Bst} (hs : Small l) (hw : width ≤ 200) (hf : wAt l f t ≤ width) (hk : f ≤ l.length) (hn : t ≤ l.length) (ho : f < t → GdR l.length t (ct.getD t zR)) (ha : GdR l.length f (rbOf acc)) : GdR l.length f (rbOf (racc2 l width ct f t acc)) := by
  unfold racc2
  split
  · exact GdR.better (GdR.fin hs hw hf hk) (GdR.acc1 hs hw hf hn ho ha)
  · exact GdR.acc1 hs hw hf hn ho ha
theorem GdR.inn {l : List Part} {width : Int} {ct : List Rb} {f : Nat} (hs : Small l) (hw : width ≤ 200) (hk : f ≤ l.length) (ho : ∀ t, f < t → GdR l.length t (ct.getD t zR)) : ∀ (k t : Nat) {acc : Bst}, GdR l.length f (rbOf acc) → GdR l.length f (rbOf (rinn l width ct f k t acc))
  | 0, _, _, ha => ha
  | k + 1, t, acc, ha => by
    simp only [rinn]
    split
    · rename_i ht
      split
      · rename_i hf
        have h2 := GdR.acc2 hs hw hf hk ht (fun h => ho t h) ha
        split
        · exact h2
        · exact GdR.inn hs hw hk ho k (t + 1) h2
      · exact ha
    · exact ha
theorem rt_gd {l : List Part} {width : Int} (hs : Small l) (hw : width ≤ 200) : ∀ c j, c ≤ l.length + 1 → l.length + 1 ≤ c + j → GdR l.length j ((rt l width c).getD j zR)
  | 0, j, _, h => by
    have : (rt l width 0).getD j zR = zR := by simp only [rt, List.getD_eq_getElem?_getD, List.getElem?_replicate]; split <;> rfl
    rw [this]; exact GdR.zero _ _
  | c + 1, j, hc, h => by
    have hlen := rt_len l width c
    simp only [rt]
    by_cases hj : j = l.length - c
    · subst hj
      rw [getD_set_eq _ _ _ _ (by omega)]
      exact GdR.inn hs hw (by omega) (fun t ht => rt_gd hs hw c t (by omega) (by omega)) _ _ (GdR.zero _ _)
    · rw [getD_set_ne _ _ _ _ _ (by omega)]
      exact rt_gd hs hw c j (by omega) (by omega)
theorem rt_zero (l : List Part) (width : Int) : ∀ c j, j + c < l.length + 1 → (rt l width c).getD j zR = zR
  | 0, j, _ => by
    simp only [rt, List.getD_eq_getElem?_getD, List.getElem?_replicate]; split <;> rfl
  | c + 1, j, h => by
    simp only [rt]
    rw [getD_set_ne _ _ _ _ _ (by omega)]
    exact rt_zero l width c j (by omega)
theorem rt_set0 (l : List Part) (width : Int) {c k : Nat} (h : k + c < l.length + 1) : (rt l width c).set k zR = rt l width c := by
  have h1 := rt_zero l width c k h
  have hl := rt_len l width c
  apply List.ext_getElem
  · simp
  · intro i h2 h3
    by_cases hi : k = i
    · subst hi
      rw [List.getElem_set_self]
      have : (rt l width c)[k]? = some (rt l width c)[k] := List.getElem?_eq_getElem h3
      rw [List.getD_eq_getElem?_getD, this] at h1
      exact h1.symm
    · rw [List.getElem_set_ne hi]
theorem kindAt_cases (l : List Part) (i : Nat) : kindAt l i = 0 ∨ kindAt l i = 1 ∨ kindAt l i = 2 ∨ kindAt l i = 3 := by
  unfold kindAt
  repeat' split
  all_goals simp
theorem natBeq (a b : Nat) : ((a : Int) == (b : Int)) = decide (a = b) := by rw [Bool.eq_iff_iff]; simp; omega
theorem lastB_1 {l : List Part} (hT : ∀ p ∈ l, Told p) {f t : Nat} (hf : f ≤ l.length) : (decide (t = l.length) && (decide (l.length = f) || !endsP (pcOf (l.getD (l.length - 1) dPart)))) = lastB l f t := by
  unfold lastB
  by_cases h : l.length = 0
  · have : l.length = f := by omega
    rw [decide_eq_true this]
    simp
  · rw [(told_at hT (i := l.length - 1) (by omega)).fin]
theorem lastB_2 {l : List Part} {f t : Nat} (h : (decide (t = l.length) && !decide (l.length = f)) = false) : (decide (t = l.length) && bif decide (l.length = f) then true else false) = lastB l f t := by
  unfold lastB
  cases h1 : decide (t = l.length) <;> cases h2 : decide (l.length = f) <;> simp_all
section
variable {l : List Part} {width : Int} {ct : List Rb} {f t : Nat} {acc : Bst}
theorem racc1_no (h : ¬ (f < t ∧ 0 < kindAt l t)) : racc1 l width ct f t acc = acc := by unfold racc1; rw [if_neg h]
theorem racc1_yes (h : f < t ∧ 0 < kindAt l t) (hb : (!acc.ok || lessB (rbOf (rcand l width ct f t)) (rbOf acc)) = true) : racc1 l width ct f t acc = rcand l width ct f t := by
  unfold racc1; rw [if_pos h]; unfold better; rw [if_pos (by rw [before_less]; exact hb)]
theorem racc1_keep (h : f < t ∧ 0 < kindAt l t) (hb : (!acc.ok || lessB (rbOf (rcand l width ct f t)) (rbOf acc)) = false) : racc1 l width ct f t acc = acc := by
  unfold racc1; rw [if_pos h]; unfold better; rw [if_neg (by rw [before_less, hb]; exact Bool.false_ne_true)]
theorem racc2_no (h : lastB l f t = false) : racc2 l width ct f t acc = racc1 l width ct f t acc := by unfold racc2; rw [if_neg (by rw [h]; exact Bool.false_ne_true)]
theorem racc2_yes (h : lastB l f t = true) (hb : (!(racc1 l width ct f t acc).ok || lessB (rbOf (rend l width f t)) (rbOf (racc1 l width ct f t acc))) = true) : racc2 l width ct f t acc = rend l width f t := by
  unfold racc2; rw [if_pos h]; unfold better; rw [if_pos (by rw [before_less]; exact hb)]
theorem racc2_keep (h : lastB l f t = true) (hb : (!(racc1 l width ct f t acc).ok || lessB (rbOf (rend l width f t)) (rbOf (racc1 l width ct f t acc))) = false) : racc2 l width ct f t acc = racc1 l width ct f t acc := by
  unfold racc2; rw [if_pos h]; unfold better; rw [if_neg (by rw [before_less, hb]; exact Bool.false_ne_true)]
theorem rcand_cut (h : kindAt l t = 3) : rcand l width ct f t = ⟨(width - wAt l f t) * (width - wAt l f t) + (ct.getD t zR).bad + 1048576, 1 + (ct.getD t zR).count, t, true⟩ := by unfold rcand; rw [if_pos h]
theorem rcand_not (h : ¬ kindAt l t = 3) : rcand l width ct f t = ⟨(width - wAt l f t) * (width - wAt l f t) + (ct.getD t zR).bad, 1 + (ct.getD t zR).count, t, true⟩ := by unfold rcand; rw [if_neg h, Int.add_zero]
end
section
variable {l : List Part} {width : Int} {ct : List Rb} {f t : Nat} {acc a : Bst}
theorem racc2_no' (ha : a = racc1 l width ct f t acc) (h : lastB l f t = false) : racc2 l width ct f t acc = a := by rw [racc2_no h, ha]
theorem racc2_yes' (ha : a = racc1 l width ct f t acc) (h : lastB l f t = true) (hb : (!a.ok || lessB ⟨(width - wAt l f t) * (width - wAt l f t), 0, 0⟩ (rbOf a)) = true) : racc2 l width ct f t acc = ⟨(width - wAt l f t) * (width - wAt l f t), 0, 0, true⟩ := by
  subst ha; exact racc2_yes h hb
theorem racc2_yes0 (ha : a = racc1 l width ct f t acc) (h : lastB l f t = true) (hb : a.ok = false) : racc2 l width ct f t acc = ⟨(width - wAt l f t) * (width - wAt l f t), 0, 0, true⟩ := racc2_yes' ha h (by rw [hb]; rfl)
theorem racc2_keep' (ha : a = racc1 l width ct f t acc) (h : lastB l f t = true) (hb : (!a.ok || lessB ⟨(width - wAt l f t) * (width - wAt l f t), 0, 0⟩ (rbOf a)) = false) : racc2 l width ct f t acc = a := by
  subst ha; exact racc2_keep h hb
end
end Go.SX.Plain
