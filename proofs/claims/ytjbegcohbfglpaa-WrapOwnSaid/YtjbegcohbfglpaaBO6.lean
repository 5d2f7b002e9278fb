/- A verified symbolic executor for Go code in the model, contracts and plain laws that the proofs lean on, BO6. -/
import Derived.Test.YtjbegcohbfglpaaBO5
set_option linter.unusedVariables false
set_option linter.unusedSimpArgs false
/- Contract of wrap's places. -/
namespace Go.SX.Try
open Go.Proofs Go.Proofs.Try Go.SX.Plain
set_option maxRecDepth 100000
set_option maxHeartbeats 0
set_option linter.unusedSimpArgs false
def C_brk : Cdc (Int × Int) where
  size := 2
  enc p := [.v (.int .i64 p.1), .v (.int .i64 p.2)]
  dec l := match l with
    | [.v (.int _ a), .v (.int _ b)] => (a, b)
    | _ => (0, 0)
  d := (0, 0)
def D_plc : Cds := [(3, ⟨Int, C_int⟩), (36, ⟨Int × Int, C_brk⟩), (69, ⟨Part, C_part⟩)]
theorem D_plc_ok : CdsOK T D_plc := .cons ⟨fun _ => rfl, by decide, _, rfl, rfl, by decide⟩ (.cons ⟨fun _ => rfl, by decide, _, rfl, rfl, by decide⟩ (.cons ⟨fun _ => rfl, by decide, _, rfl, rfl, by decide⟩ .nil))
theorem q_places : fact 25 f25 := ⟨by kernel_rfl, rfl, by kernel_rfl⟩
theorem q_places1 : fact 47 f47 := ⟨by kernel_rfl, rfl, by kernel_rfl⟩
theorem conx_places : ConX prog 25 (fun l : List Part => [.ro 12 C_part.enc C_part.d l none]) (fun l n => .tup [.ro 1 C_int.enc C_int.d (atL l (l.length + 1)) none, .own n]) C_brk (fun l => outL l (l.length + 1)) 36 (fun l => l.length ≤ 2000000) := by
  refine ConX.of (by kernel_rfl) T_ok D_plc_ok (.inl (J := []) q_places1.1 q_places1.2.1 q_places1.2.2 .nil) 4 [4] q_places.1 q_places.2.1 q_places.2.2 (fun _ => rfl) fun l hl => ?_
  repeat' (first | ((with_reducible show IsX _ _ _ _ _ _); first | (refine IsX.mk (by with_unfolding_all exact rfl) ?_ (RX.tupL (.cons (.fro ?_) (.cons (.own rfl) .nil)))) | (refine IsX.nil (fun _ => rfl) (by decide) ?_ (RX.tupL (.cons (.fro ?_) (.cons (.nil rfl) .nil))))) | (with_reducible first | exact fun h => h | refine ExE.row (by with_unfolding_all rfl) ?_ | refine And.intro ?_ ?_) | ((with_reducible intro hq); first | exact bne1 hq (by with_reducible assumption) | exact bne1 (by with_reducible assumption) hq | ((simp only [*, BB, cond_true, cond_false, reduceCtorEq] at hq); done) | (revert hq; with_reducible intro _)) | (with_reducible first | exact True.intro | rfl | refine EntLe.row ?_ | exact LeN.ro rfl | exact LeN.rptr | assumption) | ((with_reducible first | refine WkX.chk ?_ | refine Wk.chk ?_ | refine LeL.chk ?_ | refine LeF.chk ?_ | refine Run.mk ?_); (conv => whnf)) | ((with_reducible show LeO _ _); first | refine LeO.ro ?_ | refine LeO.roCap ?_ | refine LeO.nil ?_ (fun _ => rfl)) | ((with_reducible show LeR _ _ _); first | refine LeR.own rfl rfl rfl ?_ | refine LeR.view rfl rfl rfl ?_ ?_ | refine LeR.ro ?_ | refine LeR.roCap ?_ | refine LeR.nil ?_ (fun _ => rfl)) | ((with_reducible first | show drawOK _ _ = true | show lateOK _ _ = true | show drawOK2 _ _ = true | show drawOK3 _ _ = true); kernel_rfl))
  refine loopI Nat [] (fun i => [(5, .v (.int .i64 i))]) (fun i => [(1, .row C_int (atL l i) 3 none), (3, .row C_brk (outL l i) 36 none)])
    (fun i => 1 ≤ i ∧ (i ≤ l.length ∨ i = 1)) (fun i => l.length + 1 - i) 1 ⟨Nat.le_refl _, .inr rfl⟩ (Wk.chk ?_) fun i hi => ?_
  · ((conv => whnf); repeat' (first | (with_reducible first | exact fun h => h | refine ExE.row (by with_unfolding_all rfl) ?_ | refine And.intro ?_ ?_) | ((with_reducible intro hq); first | exact bne1 hq (by with_reducible assumption) | exact bne1 (by with_reducible assumption) hq | ((simp only [*, BB, cond_true, cond_false, reduceCtorEq] at hq); done) | (revert hq; with_reducible intro _)) | (with_reducible first | exact True.intro | rfl | refine EntLe.row ?_ | exact LeN.ro rfl | exact LeN.rptr | assumption) | ((with_reducible first | refine WkX.chk ?_ | refine Wk.chk ?_ | refine LeL.chk ?_ | refine LeF.chk ?_ | refine Run.mk ?_); (conv => whnf)) | ((with_reducible show LeO _ _); first | refine LeO.ro ?_ | refine LeO.roCap ?_ | refine LeO.nil ?_ (fun _ => rfl)) | ((with_reducible show LeR _ _ _); first | refine LeR.own rfl rfl rfl ?_ | refine LeR.view rfl rfl rfl ?_ ?_ | refine LeR.ro ?_ | refine LeR.roCap ?_ | refine LeR.nil ?_ (fun _ => rfl)) | ((with_reducible first | show drawOK _ _ = true | show lateOK _ _ = true | show drawOK2 _ _ = true | show drawOK3 _ _ = true); kernel_rfl)))
    all_goals rfl
  obtain ⟨hi1, hi2⟩ := hi
  have ha := atL_len l i
  have ho := outL_len l i
  repeat' (first | ((with_reducible show IsX _ _ _ _ _ _); first | (refine IsX.mk (by with_unfolding_all exact rfl) ?_ (RX.tupL (.cons (.fro ?_) (.cons (.own rfl) .nil)))) | (refine IsX.nil (fun _ => rfl) (by decide) ?_ (RX.tupL (.cons (.fro ?_) (.cons (.nil rfl) .nil))))) | (with_reducible first | exact fun h => h | refine ExE.row (by with_unfolding_all rfl) ?_ | refine And.intro ?_ ?_) | ((with_reducible intro hq); first | exact bne1 hq (by with_reducible assumption) | exact bne1 (by with_reducible assumption) hq | ((simp only [*, BB, cond_true, cond_false, reduceCtorEq] at hq); done) | (revert hq; with_reducible intro _)) | (with_reducible first | exact True.intro | rfl | refine EntLe.row ?_ | exact LeN.ro rfl | exact LeN.rptr | assumption) | ((with_reducible first | refine WkX.chk ?_ | refine Wk.chk ?_ | refine LeL.chk ?_ | refine LeF.chk ?_ | refine Run.mk ?_); (conv => whnf)) | ((with_reducible show LeO _ _); first | refine LeO.ro ?_ | refine LeO.roCap ?_ | refine LeO.nil ?_ (fun _ => rfl)) | ((with_reducible show LeR _ _ _); first | refine LeR.own rfl rfl rfl ?_ | refine LeR.view rfl rfl rfl ?_ ?_ | refine LeR.ro ?_ | refine LeR.roCap ?_ | refine LeR.nil ?_ (fun _ => rfl)) | ((with_reducible first | show drawOK _ _ = true | show lateOK _ _ = true | show drawOK2 _ _ = true | show drawOK3 _ _ = true); kernel_rfl))
  · have hin : i < l.length := by simp_all
    have e1 : ((i : Int) - 1).toNat = i - 1 := by omega
    have e2 : ((i : Int)).toNat = i := by omega
    have e3 : ((i : Int) - 2).toNat = i - 2 := by omega
    have ed : C_part.d = dPart := rfl
    have hne : ¬ i = l.length := by omega
    refine joinI (List Int × List (Int × Int)) [] (fun _ => []) (fun | (a, o) => [(1, .row C_int a 3 none), (3, .row C_brk o 36 none)]) (fun j => j = (atL l (i + 1), outL l (i + 1))) ?_ fun j hj => ?_
    · repeat' (first | ((with_reducible show IsX _ _ _ _ _ _); first | (refine IsX.mk (by with_unfolding_all exact rfl) ?_ (RX.tupL (.cons (.fro ?_) (.cons (.own rfl) .nil)))) | (refine IsX.nil (fun _ => rfl) (by decide) ?_ (RX.tupL (.cons (.fro ?_) (.cons (.nil rfl) .nil))))) | (with_reducible first | refine ex_eq ?_ | exact fun h => h | refine ExE.row (by with_unfolding_all rfl) ?_ | refine And.intro ?_ ?_) | ((with_reducible intro hq); first | exact bne1 hq (by with_reducible assumption) | exact bne1 (by with_reducible assumption) hq | ((simp only [*, BB, cond_true, cond_false, reduceCtorEq] at hq); done) | (revert hq; with_reducible intro _)) | (with_reducible first | exact True.intro | rfl | refine EntLe.row ?_ | exact LeN.ro rfl | exact LeN.rptr | assumption) | ((with_reducible first | refine WkX.chk ?_ | refine Wk.chk ?_ | refine LeL.chk ?_ | refine LeF.chk ?_ | refine Run.mk ?_); (conv => whnf)) | ((with_reducible show LeO _ _); first | refine LeO.ro ?_ | refine LeO.roCap ?_ | refine LeO.nil ?_ (fun _ => rfl)) | ((with_reducible show LeR _ _ _); first | refine LeR.own rfl rfl rfl ?_ | refine LeR.view rfl rfl rfl ?_ ?_ | refine LeR.ro ?_ | refine LeR.roCap ?_ | refine LeR.nil ?_ (fun _ => rfl)) | ((with_reducible first | show drawOK _ _ = true | show lateOK _ _ = true | show drawOK2 _ _ = true | show drawOK3 _ _ = true); kernel_rfl))
      all_goals (try simp only [e1, e2, e3, ed, decide_eq_true_eq, decide_eq_false_iff_not] at *)
      all_goals first
        | omega
        | (refine Fits.i64 ?_ ?_ <;> omega)
        | (exfalso; omega)
        | (simp only [List.length_cons, List.length_nil]; omega)
        | ((with_reducible show (_ : Bool) = true); (first | (simp_all only [Bool.and_eq_true, and_self]; done) | (simp only [*, Bool.not_false, Bool.not_true, Bool.and_true, Bool.true_and]; done)))
        | (simp only [Bool.and_eq_true, decide_eq_true_eq] at *; omega)
        | (dsimp only [C_int]; done)
        | (dsimp only [C_brk, zeroAV]; done)
        | (rw [atL_no (by simp [kindAt, *, -List.getD_eq_getElem?_getD])]; done)
        | (rw [outL_no (by simp [kindAt, *, -List.getD_eq_getElem?_getD])]; done)
        | (rw [atL_yes (by omega) (by simp [kindAt, *, -List.getD_eq_getElem?_getD])]; dsimp only [C_int]; done)
        | (rw [outL_yes (by omega) (by simp [kindAt, *, -List.getD_eq_getElem?_getD])]; simp [kindAt, *, C_brk, zeroAV, -List.getD_eq_getElem?_getD]; done)
    · subst hj
      have hI : (1 ≤ i + 1 ∧ (i + 1 ≤ l.length ∨ i + 1 = 1)) ∧ l.length + 1 - (i + 1) < l.length + 1 - i := ⟨⟨by omega, by omega⟩, by omega⟩
      repeat' (first | ((with_reducible show IsX _ _ _ _ _ _); first | (refine IsX.mk (by with_unfolding_all exact rfl) ?_ (RX.tupL (.cons (.fro ?_) (.cons (.own rfl) .nil)))) | (refine IsX.nil (fun _ => rfl) (by decide) ?_ (RX.tupL (.cons (.fro ?_) (.cons (.nil rfl) .nil))))) | (with_reducible first | refine ex_of (i + 1) hI ?_ | exact fun h => h | refine ExE.row (by with_unfolding_all rfl) ?_ | refine And.intro ?_ ?_) | ((with_reducible intro hq); first | exact bne1 hq (by with_reducible assumption) | exact bne1 (by with_reducible assumption) hq | ((simp only [*, BB, cond_true, cond_false, reduceCtorEq] at hq); done) | (revert hq; with_reducible intro _)) | (with_reducible first | exact True.intro | rfl | refine EntLe.row ?_ | exact LeN.ro rfl | exact LeN.rptr | assumption) | ((with_reducible first | refine WkX.chk ?_ | refine Wk.chk ?_ | refine LeL.chk ?_ | refine LeF.chk ?_ | refine Run.mk ?_); (conv => whnf)) | ((with_reducible show LeO _ _); first | refine LeO.ro ?_ | refine LeO.roCap ?_ | refine LeO.nil ?_ (fun _ => rfl)) | ((with_reducible show LeR _ _ _); first | refine LeR.own rfl rfl rfl ?_ | refine LeR.view rfl rfl rfl ?_ ?_ | refine LeR.ro ?_ | refine LeR.roCap ?_ | refine LeR.nil ?_ (fun _ => rfl)) | ((with_reducible first | show drawOK _ _ = true | show lateOK _ _ = true | show drawOK2 _ _ = true | show drawOK3 _ _ = true); kernel_rfl))
      all_goals first
        | omega
        | (refine Fits.i64 ?_ ?_ <;> omega)
        | rfl
  all_goals
    have hge : l.length ≤ i := by
      have h : decide ((i : Int) < (l.length : Int)) = false := by assumption
      simp only [decide_eq_false_iff_not] at h
      omega
    have e1 : ((l.length : Int) - 1).toNat = l.length - 1 := by omega
    have ed : C_part.d = dPart := rfl
    have h0 : l.length = 0 → atL l (l.length + 1) = [] ∧ outL l (l.length + 1) = [] ∧ i = 1 := fun h => by rw [h]; exact ⟨rfl, rfl, by omega⟩
    have h1 : 0 < l.length → i = l.length := fun h => by omega
  all_goals (try simp only [e1, ed] at *)
  all_goals first
    | omega
    | (refine Fits.i64 ?_ ?_ <;> omega)
    | (exfalso; simp_all; omega)
    | (simp only [List.length_cons, List.length_nil]; omega)
    | ((with_reducible show (_ : Bool) = true); (first | (simp_all only [Bool.and_eq_true, and_self]; done) | (simp only [*, Bool.not_false, Bool.not_true, Bool.and_true, Bool.true_and]; done)))
    | (dsimp only [C_int]; done)
    | (dsimp only [C_brk, zeroAV]; done)
    | (exfalso; have h : decide (0 < (l.length : Int)) = true := by assumption
       simp only [decide_eq_true_eq] at h; have h2 : decide (0 < (l.length : Int)) = false := by assumption
       simp only [decide_eq_false_iff_not] at h2; omega)
    | (have h : decide (0 < (l.length : Int)) = true := by assumption
       simp only [decide_eq_true_eq] at h
       first
        | omega
        | (have h2 := h1 (by omega); subst h2
           first
            | (rw [atL_yes (by omega) (by simp_all [kindAt, -List.getD_eq_getElem?_getD])]; dsimp only [C_int]; done)
            | (rw [outL_yes (by omega) (by simp_all [kindAt, -List.getD_eq_getElem?_getD])]; simp_all [kindAt, C_brk, zeroAV, -List.getD_eq_getElem?_getD]; done)))
    | (exfalso
       have h : decide (0 < (l.length : Int)) = false := by assumption
       have h2 : (decide (0 < (l.length : Int)) && (l.getD (l.length - 1) dPart).fin) = true := by assumption
       rw [h] at h2; cases h2)
    | (have h2 : (decide (0 < (l.length : Int)) && (l.getD (l.length - 1) dPart).fin) = false := by assumption
       rcases Nat.eq_zero_or_pos l.length with hz | hz
       · obtain ⟨q1, q2, q3⟩ := h0 hz
         subst q3
         first
          | (rw [q1]; rfl)
          | (rw [q2]; rfl)
       · have q1 := h1 hz
         have h3 : (l.getD (l.length - 1) dPart).fin = false := by
           simp only [Bool.and_eq_false_iff, decide_eq_false_iff_not] at h2
           rcases h2 with h2 | h2
           · omega
           · exact h2
         subst q1
         first
          | rw [atL_no (by simp only [kindAt, h3]; simp)]
          | rw [outL_no (by simp only [kindAt, h3]; simp)])
theorem con_places : Con prog 25 (fun l : List Part => [.ro 12 C_part.enc C_part.d l none]) (fun l => .tup [.ro 1 C_int.enc C_int.d (atL l (l.length + 1)) none, .ro 2 C_brk.enc C_brk.d (outL l (l.length + 1)) none]) (fun l => l.length ≤ 2000000) :=
  conx_places.con fun l => by
    refine LeF.chk ?_
    (conv => whnf)
    repeat' (first | (with_reducible first | exact fun h => h | refine ExE.row (by with_unfolding_all rfl) ?_ | refine And.intro ?_ ?_) | ((with_reducible intro hq); first | exact bne1 hq (by with_reducible assumption) | exact bne1 (by with_reducible assumption) hq | ((simp only [*, BB, cond_true, cond_false, reduceCtorEq] at hq); done) | (revert hq; with_reducible intro _)) | (with_reducible first | exact True.intro | rfl | refine EntLe.row ?_ | exact LeN.ro rfl | exact LeN.rptr | assumption) | ((with_reducible first | refine WkX.chk ?_ | refine Wk.chk ?_ | refine LeL.chk ?_ | refine LeF.chk ?_ | refine Run.mk ?_); (conv => whnf)) | ((with_reducible show LeO _ _); first | refine LeO.ro ?_ | refine LeO.roCap ?_ | refine LeO.nil ?_ (fun _ => rfl)) | ((with_reducible show LeR _ _ _); first | refine LeR.own rfl rfl rfl ?_ | refine LeR.view rfl rfl rfl ?_ ?_ | refine LeR.ro ?_ | refine LeR.roCap ?_ | refine LeR.nil ?_ (fun _ => rfl)) | ((with_reducible first | show drawOK _ _ = true | show lateOK _ _ = true | show drawOK2 _ _ = true | show drawOK3 _ _ = true); kernel_rfl))
end Go.SX.Try
/- How a text is broken, told plainly: the way the program goes about it. No program here. -/
namespace Go.SX.Plain
structure Bst where
  bad : Int
  places : Int
  next : Int
  ok : Bool
abbrev zB : Bst := ⟨0, 0, 0, false⟩
def before (b o : Bst) : Bool := if o.ok = false then true else if b.bad ≠ o.bad then decide (b.bad < o.bad) else decide (b.places < o.places)
def checkN (n : Nat) (width : Int) : Int := if width < 2 ∨ 200 < width then 1 else if 4096 < n then 3 else 0
def scan (l : List Part) (frm : Nat) : Nat → Int × Int
  | 0 => (0, 0)
  | n + 1 => if (l.getD (frm + n) dPart).fin = true then scan l frm n
    else (if (l.getD (frm + n) dPart).blank = true then (scan l frm n).1 else (scan l frm n).2 + (l.getD (frm + n) dPart).c.cells, (scan l frm n).2 + (l.getD (frm + n) dPart).c.cells)
def Small (l : List Part) : Prop := ∀ p ∈ l, 0 ≤ p.c.cells ∧ p.c.cells ≤ 2
theorem Small.at {l : List Part} (h : Small l) (i : Nat) : 0 ≤ (l.getD i dPart).c.cells ∧ (l.getD i dPart).c.cells ≤ 2 := by
  by_cases hi : i < l.length
  · rw [List.getD_eq_getElem?_getD, List.getElem?_eq_getElem hi]; exact h _ (List.getElem_mem hi)
  · rw [List.getD_eq_getElem?_getD, List.getElem?_eq_none (by omega)]; simp
theorem scan_bd {l : List Part} (h : Small l) (frm : Nat) : ∀ n, 0 ≤ (scan l frm n).1 ∧ (scan l frm n).1 ≤ (scan l frm n).2 ∧ (scan l frm n).2 ≤ 2 * n
  | 0 => by simp [scan]
  | n + 1 => by
    obtain ⟨h1, h2, h3⟩ := scan_bd h frm n
    obtain ⟨h4, h5⟩ := h.at (frm + n)
    unfold scan
    split
    · exact ⟨h1, h2, by omega⟩
    · simp only
      split <;> exact ⟨by omega, by omega, by omega⟩
def posn (P : List Nat) (k : Nat) : Nat := if k = 0 then 0 else P.getD (k - 1) 0
def fullTo (l : List Part) (P : List Nat) (k e : Nat) : Int := (scan l (posn P k) (e - posn P k)).1
def cand (l : List Part) (P : List Nat) (width : Int) (ws : List Bst) (k n : Nat) : Bst :=
  ⟨(width - fullTo l P k (P.getD n 0)) * (width - fullTo l P k (P.getD n 0)) + (ws.getD (n + 1) zB).bad + (if kindAt l (P.getD n 0) = 3 then 1048576 else 0), (ws.getD (n + 1) zB).places + 1, n, true⟩
def better (w acc : Bst) : Bst := if before w acc = true then w else acc
def endly (l : List Part) (P : List Nat) (width : Int) (k : Nat) (acc : Bst) : Bst :=
  if fullTo l P k l.length ≤ width then better ⟨(width - fullTo l P k l.length) * (width - fullTo l P k l.length), 0, -1, true⟩ acc else acc
def inn (l : List Part) (P : List Nat) (width : Int) (ws : List Bst) (k : Nat) : Nat → Nat → Bst → Bst
  | 0, _, acc => endly l P width k acc
  | f + 1, n, acc =>
    if n < P.length then
      if fullTo l P k (P.getD n 0) ≤ width then
        if (ws.getD (n + 1) zB).ok = true then
          if kindAt l (P.getD n 0) = 1 then better (cand l P width ws k n) acc else inn l P width ws k f (n + 1) (better (cand l P width ws k n) acc)
        else if kindAt l (P.getD n 0) = 1 then acc else inn l P width ws k f (n + 1) acc
      else acc
    else endly l P width k acc
def inner (l : List Part) (P : List Nat) (width : Int) (ws : List Bst) (k n : Nat) (acc : Bst) : Bst := inn l P width ws k (P.length - n) n acc
theorem inner_step {l : List Part} {P : List Nat} {width : Int} {ws : List Bst} {k n : Nat} {acc : Bst} (h : n < P.length) : inner l P width ws k n acc =
      if fullTo l P k (P.getD n 0) ≤ width then
        if (ws.getD (n + 1) zB).ok = true then
          if kindAt l (P.getD n 0) = 1 then better (cand l P width ws k n) acc else inner l P width ws k (n + 1) (better (cand l P width ws k n) acc)
        else if kindAt l (P.getD n 0) = 1 then acc else inner l P width ws k (n + 1) acc
      else acc := by
  unfold inner
  rw [show P.length - n = (P.length - (n + 1)) + 1 by omega]
  simp only [inn]
  rw [if_pos h]
theorem inner_end {l : List Part} {P : List Nat} {width : Int} {ws : List Bst} {k n : Nat} {acc : Bst} (h : ¬ n < P.length) : inner l P width ws k n acc = endly l P width k acc := by
  unfold inner
  rw [show P.length - n = 0 by omega]
  rfl
def tab (l : List Part) (P : List Nat) (width : Int) : Nat → List Bst
  | 0 => List.replicate (P.length + 1) zB
  | c + 1 => (tab l P width c).set (P.length - c) (inner l P width (tab l P width c) (P.length - c) (P.length - c) zB)
theorem tab_len (l : List Part) (P : List Nat) (width : Int) : ∀ c, (tab l P width c).length = P.length + 1
  | 0 => by simp [tab]
  | c + 1 => by simp [tab, tab_len l P width c]
structure Gd (N : Nat) (ws : List Bst) (j : Nat) (b : Bst) : Prop where
  b0 : 0 ≤ b.bad
  b1 : b.bad ≤ ((N + 1 - j : Nat) : Int) * 2000000
  p0 : 0 ≤ b.places
  p1 : b.places ≤ ((N + 1 - j : Nat) : Int)
  nx : b.ok = true → b.next = -1 ∨ ∃ n : Nat, b.next = n ∧ j ≤ n ∧ n < N ∧ (ws.getD (n + 1) zB).ok = true
theorem Gd.zero (N : Nat) (ws : List Bst) (j : Nat) : Gd N ws j zB := ⟨by simp, by simp only; omega, by simp, by simp only; omega, fun h => by cases h⟩
theorem sq_bd {x y : Int} (h0 : 0 ≤ x) (h1 : x ≤ y) : 0 ≤ x * x ∧ x * x ≤ y * y := ⟨Int.mul_nonneg h0 h0, Int.mul_le_mul h1 h1 h0 (by omega)⟩
theorem fullTo_bd {l : List Part} (h : Small l) (P : List Nat) (k e : Nat) : 0 ≤ fullTo l P k e := (scan_bd h _ _).1
theorem Gd.cand {l : List Part} {P : List Nat} {width : Int} {ws : List Bst} {k n : Nat} (hs : Small l) (hw : width ≤ 200) (hf : fullTo l P k (P.getD n 0) ≤ width) (hk : k ≤ n) (hn : n < P.length)
    (ho : Gd P.length ws (n + 1) (ws.getD (n + 1) zB)) (hok : (ws.getD (n + 1) zB).ok = true) : Gd P.length ws k (cand l P width ws k n) := by
  have h0 := fullTo_bd hs P k (P.getD n 0)
  have hq := sq_bd (x := width - fullTo l P k (P.getD n 0)) (y := 200) (by omega) (by omega)
  obtain ⟨b0, b1, p0, p1, _⟩ := ho
  unfold Plain.cand
  refine ⟨?_, ?_, ?_, ?_, fun _ => .inr ⟨n, rfl, hk, hn, hok⟩⟩
  · simp only; split <;> omega
  · simp only
    have : ((P.length + 1 - k : Nat) : Int) ≥ ((P.length + 1 - (n + 1) : Nat) : Int) + 1 := by omega
    split <;> omega
  · simp only; omega
  · simp only; omega
theorem Gd.better {N : Nat} {ws : List Bst} {j : Nat} {a b : Bst} (ha : Gd N ws j a) (hb : Gd N ws j b) : Gd N ws j (better a b) := by
  unfold Plain.better; split <;> assumption
theorem Gd.endly {l : List Part} {P : List Nat} {width : Int} {ws : List Bst} {k : Nat} {acc : Bst} (hs : Small l) (hw : width ≤ 200) (hk : k ≤ P.length) (ha : Gd P.length ws k acc) : Gd P.length ws k (endly l P width k acc) := by
  unfold Plain.endly
  split
  · rename_i hf
    have h0 := fullTo_bd hs P k l.length
    have hq := sq_bd (x := width - fullTo l P k l.length) (y := 200) (by omega) (by omega)
    exact Gd.better ⟨hq.1, by simp only; omega, by simp, by simp only; omega, fun _ => .inl rfl⟩ ha
  · exact ha
theorem Gd.inn {l : List Part} {P : List Nat} {width : Int} {ws : List Bst} {k : Nat} (hs : Small l) (hw : width ≤ 200) (hk : k ≤ P.length) (hws : ∀ j, k < j → Gd P.length ws j (ws.getD j zB)) : ∀ (f n : Nat) {acc : Bst}, k ≤ n → Gd P.length ws k acc →
    Gd P.length ws k (inn l P width ws k f n acc)
  | 0, n, acc, _, ha => Gd.endly hs hw hk ha
  | f + 1, n, acc, hn, ha => by
    simp only [Plain.inn]
    split
    · rename_i hlt
      split
      · rename_i hf
        split
        · rename_i hok
          have hc := Gd.better (Gd.cand hs hw hf hn hlt (hws (n + 1) (by omega)) hok) ha
          split
          · exact hc
          · exact Gd.inn hs hw hk hws f (n + 1) (by omega) hc
        · split
          · exact ha
          · exact Gd.inn hs hw hk hws f (n + 1) (by omega) ha
      · exact ha
    · exact Gd.endly hs hw hk ha
theorem getD_set_ne {α : Type} (l : List α) (i j : Nat) (x d : α) (h : i ≠ j) : (l.set i x).getD j d = l.getD j d := by
  simp [List.getElem?_set_ne h]
theorem getD_set_eq {α : Type} (l : List α) (i : Nat) (x d : α) (h : i < l.length) : (l.set i x).getD i d = x := by
  simp [h]
theorem Gd.set {N : Nat} {ws : List Bst} {j i : Nat} {b x : Bst} (h : Gd N ws j b) (hi : i ≤ j) : Gd N (ws.set i x) j b :=
  ⟨h.b0, h.b1, h.p0, h.p1, fun hok => (h.nx hok).imp (fun h => h) fun ⟨n, h1, h2, h3, h4⟩ => ⟨n, h1, h2, h3, by rw [getD_set_ne _ _ _ _ _ (by omega)]; exact h4⟩⟩
theorem tab_gd {l : List Part} {P : List Nat} {width : Int} (hs : Small l) (hw : width ≤ 200) : ∀ c j, c ≤ P.length + 1 → P.length + 1 ≤ c + j → Gd P.length (tab l P width c) j ((tab l P width c).getD j zB)
  | 0, j, _, h => by
    have : (tab l P width 0).getD j zB = zB := by simp only [tab, List.getD_eq_getElem?_getD, List.getElem?_replicate]; split <;> rfl
    rw [this]; exact Gd.zero _ _ _
  | c + 1, j, hc, h => by
    have hlen := tab_len l P width c
    by_cases hj : j = P.length - c
    · subst hj
      have e : (tab l P width (c + 1)).getD (P.length - c) zB = inner l P width (tab l P width c) (P.length - c) (P.length - c) zB := by
        simp only [tab]
        exact getD_set_eq _ _ _ _ (by omega)
      rw [e]
      exact (Gd.inn hs hw (by omega) (fun j hj => tab_gd hs hw c j (by omega) (by omega)) _ _ (Nat.le_refl _) (Gd.zero _ _ _)).set (Nat.le_refl _)
    · have e : (tab l P width (c + 1)).getD j zB = (tab l P width c).getD j zB := by
        simp only [tab]
        exact getD_set_ne _ _ _ _ _ (by omega)
      rw [e]
      exact (tab_gd hs hw c j (by omega) (by omega)).set (by omega)

theorem plcs_mem {l : List Part} {k i : Nat} : i ∈ plcs l k ↔ i < k ∧ 0 < i ∧ kindAt l i ≠ 0 := by simp [plcs]
theorem plcs_sorted (l : List Part) (k : Nat) : (plcs l k).Pairwise (· < ·) := List.Pairwise.filter _ List.pairwise_lt_range
theorem sorted_lt {P : List Nat} (h : P.Pairwise (· < ·)) {i j : Nat} (hij : i < j) (hj : j < P.length) : P.getD i 0 < P.getD j 0 := by
  have := List.pairwise_iff_getElem.1 h i j (by omega) hj hij
  simpa [List.getD_eq_getElem?_getD, hj, show i < P.length by omega] using this
theorem getD_mem {P : List Nat} {i : Nat} (h : i < P.length) : P.getD i 0 ∈ P := by
  simp [List.getD_eq_getElem?_getD, h]
theorem gap {l : List Part} {k i : Nat} (hk : k ≤ (plcs l (l.length + 1)).length) (h1 : posn (plcs l (l.length + 1)) k < i) (h2 : k < (plcs l (l.length + 1)).length → i < (plcs l (l.length + 1)).getD k 0) (hi : i ≤ l.length) : kindAt l i = 0 := by
  have hs := plcs_sorted l (l.length + 1)
  have hm := @plcs_mem l (l.length + 1) i
  revert h1 h2 hm hs hk
  generalize plcs l (l.length + 1) = P
  intro hk h1 h2 hs hm
  refine Classical.byContradiction fun hc => ?_
  obtain ⟨m, hm1, hm2⟩ := List.getElem_of_mem (hm.2 ⟨by omega, by omega, hc⟩)
  have hm3 : P.getD m 0 = i := by simp [List.getD_eq_getElem?_getD, hm1, hm2]
  by_cases hmk : m < k
  · have : P.getD m 0 ≤ posn P k := by
      unfold posn
      rw [if_neg (by omega)]
      by_cases he : m = k - 1
      · rw [he]; exact Nat.le_refl _
      · exact Nat.le_of_lt (sorted_lt hs (by omega) (by omega))
    omega
  · have : P.getD k 0 ≤ P.getD m 0 := by
      by_cases he : m = k
      · rw [he]; exact Nat.le_refl _
      · exact Nat.le_of_lt (sorted_lt hs (by omega) hm1)
    have := h2 (by omega)
    omega
theorem kind0 {l : List Part} {i : Nat} (h : kindAt l i = 0) (hi : i < l.length) : (l.getD i dPart).fin = true ∨ (l.getD i dPart).blank = true := by
  unfold kindAt at h
  split at h
  · cases h
  · rw [if_neg (by omega)] at h
    split at h
    · rename_i h1; simpa using h1
    · split at h
      · cases h
      · split at h
        · cases h
        · split at h <;> cases h
theorem scan_gap {l : List Part} (hs : Small l) {frm e : Nat} (he : e ≤ l.length) (h : ∀ i, frm < i → i < e → kindAt l i = 0) : ∀ n, frm + n ≤ e → (scan l frm n).1 ≤ 2
  | 0, _ => by simp [scan]
  | 1, _ => by have := scan_bd hs frm 1; omega
  | n + 2, hn => by
    have ih := scan_gap hs he h (n + 1) (by omega)
    have hk := kind0 (h (frm + (n + 1)) (by omega) (by omega)) (by omega)
    unfold scan
    rcases hk with hk | hk
    · rw [if_pos hk]; exact ih
    · split
      · exact ih
      · simp only
        first
          | exact ih
          | (rw [if_pos hk]; exact ih)
theorem plcs_le {l : List Part} {k i : Nat} (h : i < (plcs l k).length) : (plcs l k).getD i 0 < k ∧ 0 < (plcs l k).getD i 0 ∧ kindAt l ((plcs l k).getD i 0) ≠ 0 := plcs_mem.1 (getD_mem h)
theorem posn_le {l : List Part} {k : Nat} (h : k ≤ (plcs l (l.length + 1)).length) : posn (plcs l (l.length + 1)) k ≤ l.length := by
  unfold posn
  split
  · omega
  · have := plcs_le (l := l) (k := l.length + 1) (i := k - 1) (by omega); omega
theorem posn_lt {l : List Part} {k : Nat} (h : k < (plcs l (l.length + 1)).length) : posn (plcs l (l.length + 1)) k < (plcs l (l.length + 1)).getD k 0 := by
  unfold posn
  split
  · rename_i h0; subst h0; exact (plcs_le h).2.1
  · exact sorted_lt (plcs_sorted _ _) (by omega) h
theorem posn_succ (P : List Nat) (k : Nat) : posn P (k + 1) = P.getD k 0 := by simp [posn]
theorem full_place {l : List Part} (hs : Small l) {k : Nat} (hk : k < (plcs l (l.length + 1)).length) : fullTo l (plcs l (l.length + 1)) k ((plcs l (l.length + 1)).getD k 0) ≤ 2 := by
  have h1 := plcs_le hk
  have h2 := posn_lt hk
  exact scan_gap (e := (plcs l (l.length + 1)).getD k 0) hs (by omega) (fun i hi hj => gap (Nat.le_of_lt hk) hi (fun _ => hj) (by omega)) _ (by omega)
theorem full_end {l : List Part} (hs : Small l) : fullTo l (plcs l (l.length + 1)) (plcs l (l.length + 1)).length l.length ≤ 2 := by
  have := posn_le (l := l) (Nat.le_refl _)
  exact scan_gap (e := l.length) hs (Nat.le_refl _) (fun i hi hj => gap (Nat.le_refl _) hi (fun h => by omega) (by omega)) _ (by omega)
theorem better_ok {w acc : Bst} (hw : w.ok = true) : (better w acc).ok = true := by
  unfold better
  split
  · exact hw
  · rename_i h
    unfold before at h
    split at h
    · exact absurd rfl h
    · simp_all
theorem endly_ok {l : List Part} {P : List Nat} {width : Int} {k : Nat} {acc : Bst} (h : acc.ok = true ∨ fullTo l P k l.length ≤ width) : (endly l P width k acc).ok = true := by
  unfold endly
  split
  · exact better_ok rfl
  · rename_i h1; exact h.resolve_right h1
theorem inn_ok {l : List Part} {P : List Nat} {width : Int} {ws : List Bst} {k : Nat} : ∀ (f n : Nat) {acc : Bst}, acc.ok = true → (inn l P width ws k f n acc).ok = true
  | 0, n, acc, h => endly_ok (.inl h)
  | f + 1, n, acc, h => by
    have hb := better_ok (w := cand l P width ws k n) (acc := acc) rfl
    simp only [inn]
    split
    · split
      · split
        · split
          · exact hb
          · exact inn_ok f (n + 1) hb
        · split
          · exact h
          · exact inn_ok f (n + 1) h
      · exact h
    · exact endly_ok (.inl h)
theorem tab_ok {l : List Part} {width : Int} (hs : Small l) (hw : 2 ≤ width) : ∀ c j, c ≤ (plcs l (l.length + 1)).length + 1 → (plcs l (l.length + 1)).length + 1 ≤ c + j → j ≤ (plcs l (l.length + 1)).length → ((tab l (plcs l (l.length + 1)) width c).getD j zB).ok = true
  | 0, j, _, h, hj => by omega
  | c + 1, j, hc, h, hjl => by
    have hlen := tab_len l (plcs l (l.length + 1)) width c
    by_cases hj : j = (plcs l (l.length + 1)).length - c
    · have e : (tab l (plcs l (l.length + 1)) width (c + 1)).getD j zB = inner l (plcs l (l.length + 1)) width (tab l (plcs l (l.length + 1)) width c) j j zB := by
        simp only [tab, ← hj]
        exact getD_set_eq _ _ _ _ (by omega)
      rw [e]
      by_cases hlt : j < (plcs l (l.length + 1)).length
      · rw [inner_step hlt, if_pos (Int.le_trans (full_place hs hlt) hw), if_pos (tab_ok hs hw c (j + 1) (by omega) (by omega) (by omega))]
        have hb := better_ok (w := cand l (plcs l (l.length + 1)) width (tab l (plcs l (l.length + 1)) width c) j j) (acc := zB) rfl
        split
        · exact hb
        · exact inn_ok _ _ hb
      · rw [inner_end hlt]
        have : j = (plcs l (l.length + 1)).length := by omega
        subst this
        exact endly_ok (.inr (Int.le_trans (full_end hs) hw))
    · have e : (tab l (plcs l (l.length + 1)) width (c + 1)).getD j zB = (tab l (plcs l (l.length + 1)) width c).getD j zB := by
        simp only [tab]
        exact getD_set_ne _ _ _ _ _ (by omega)
      rw [e]
      exact tab_ok hs hw c j (by omega) (by omega) hjl
def wayGo (ws : List Bst) : Nat → Int → List Nat
  | 0, _ => []
  | f + 1, n => if 0 ≤ n then n.toNat :: wayGo ws f (ws.getD (n + 1).toNat zB).next else []
def far (N : Nat) (n : Int) : Nat := if 0 ≤ n then N - n.toNat else 0
def wayOf (N : Nat) (ws : List Bst) (n : Int) : List Nat := wayGo ws (far N n) n
structure Nx (N : Nat) (ws : List Bst) (n : Int) : Prop where
  out : n = -1 ∨ ∃ m : Nat, n = m ∧ m < N ∧ (ws.getD (m + 1) zB).ok = true
theorem wayGo_fuel {N : Nat} {ws : List Bst} (hg : ∀ j, Gd N ws j (ws.getD j zB)) : ∀ (f f' : Nat) (n : Int), Nx N ws n → far N n ≤ f → far N n ≤ f' → wayGo ws f n = wayGo ws f' n
  | 0, 0, _, _, _, _ => rfl
  | 0, f' + 1, n, hn, h, _ => by
    simp only [wayGo]
    rcases hn.out with rfl | ⟨m, rfl, hm, _⟩
    · simp
    · unfold far at h; rw [if_pos (by omega)] at h; omega
  | f + 1, 0, n, hn, _, h => by
    simp only [wayGo]
    rcases hn.out with rfl | ⟨m, rfl, hm, _⟩
    · simp
    · unfold far at h; rw [if_pos (by omega)] at h; omega
  | f + 1, f' + 1, n, hn, h, h' => by
    simp only [wayGo]
    split
    · rcases hn.out with rfl | ⟨m, rfl, hm, hok⟩
      · omega
      · have e : ((m : Int) + 1).toNat = m + 1 := by omega
        rw [e]
        have hx := (hg (m + 1)).nx hok
        have hx2 : Nx N ws (ws.getD (m + 1) zB).next := ⟨hx.imp (fun h => h) fun ⟨n, h1, h2, h3, h4⟩ => ⟨n, h1, h3, h4⟩⟩
        have hfar : far N (ws.getD (m + 1) zB).next + 1 ≤ far N (m : Int) := by
          have e1 : far N (m : Int) = N - m := by unfold far; rw [if_pos (by omega)]; omega
          rw [e1]
          rcases hx with hx | ⟨n, h1, h2, h3, _⟩
          · rw [hx]; unfold far; simp; omega
          · rw [h1]; unfold far; rw [if_pos (by omega)]; omega
        rw [wayGo_fuel hg f f' _ hx2 (by omega) (by omega)]
    · rfl
theorem Nx.next {N : Nat} {ws : List Bst} {m : Nat} (hg : ∀ j, Gd N ws j (ws.getD j zB)) (hok : (ws.getD (m + 1) zB).ok = true) (hm : m < N) : Nx N ws (ws.getD (m + 1) zB).next ∧ far N (ws.getD (m + 1) zB).next < far N (m : Int) := by
  have hx := (hg (m + 1)).nx hok
  refine ⟨⟨hx.imp (fun h => h) fun ⟨n, h1, h2, h3, h4⟩ => ⟨n, h1, h3, h4⟩⟩, ?_⟩
  have e1 : far N (m : Int) = N - m := by unfold far; rw [if_pos (by omega)]; omega
  rw [e1]
  rcases hx with hx | ⟨n, h1, h2, h3, _⟩
  · rw [hx]; unfold far; simp; omega
  · rw [h1]; unfold far; rw [if_pos (by omega)]; omega
theorem wayOf_step {N : Nat} {ws : List Bst} {m : Nat} (hg : ∀ j, Gd N ws j (ws.getD j zB)) (hok : (ws.getD (m + 1) zB).ok = true) (hm : m < N) : wayOf N ws (m : Int) = m :: wayOf N ws (ws.getD (m + 1) zB).next := by
  obtain ⟨h1, h2⟩ := Nx.next hg hok hm
  unfold wayOf
  obtain ⟨f, hf⟩ : ∃ f, far N (m : Int) = f + 1 := ⟨far N (m : Int) - 1, by omega⟩
  rw [hf]
  have e : ((m : Int) + 1).toNat = m + 1 := by omega
  simp only [wayGo, e]
  rw [if_pos (by omega), wayGo_fuel hg f (far N (ws.getD (m + 1) zB).next) _ h1 (by omega) (Nat.le_refl _)]
  simp
theorem wayOf_end (N : Nat) (ws : List Bst) {n : Int} (h : n < 0) : wayOf N ws n = [] := by
  unfold wayOf far
  rw [if_neg (by omega)]
  rfl
def tabOf (l : List Part) (width : Int) : List Bst := tab l (plcs l (l.length + 1)) width ((plcs l (l.length + 1)).length + 1)
def wayL (l : List Part) (width : Int) : List Nat := wayOf (plcs l (l.length + 1)).length (tabOf l width) ((tabOf l width).getD 0 zB).next
def wrapOut (l : List Part) (width : Int) : List (Int × Int) := (wayL l width).map fun n => (outL l (l.length + 1)).getD n (0, 0)
theorem tabOf_gd {l : List Part} {width : Int} (hs : Small l) (hw : width ≤ 200) (j : Nat) : Gd (plcs l (l.length + 1)).length (tabOf l width) j ((tabOf l width).getD j zB) := tab_gd hs hw _ j (Nat.le_refl _) (by omega)
theorem tabOf_ok {l : List Part} {width : Int} (hs : Small l) (hw : 2 ≤ width) {j : Nat} (hj : j ≤ (plcs l (l.length + 1)).length) : ((tabOf l width).getD j zB).ok = true := tab_ok hs hw _ j (Nat.le_refl _) (by omega) hj
end Go.SX.Plain
/- Contracts of wrap's check, before. -/
namespace Go.SX.Try
open Go.Proofs Go.Proofs.Try Go.SX.Plain
set_option maxRecDepth 100000
set_option maxHeartbeats 0
set_option linter.unusedSimpArgs false
theorem q_before : fact 41 f41 := ⟨by kernel_rfl, rfl, by kernel_rfl⟩
theorem q_check : fact 29 f29 := ⟨by kernel_rfl, rfl, by kernel_rfl⟩
abbrev bAV (b : Bst) : List AV := [.v (.int .i64 b.bad), .v (.int .i64 b.places), .v (.int .i64 b.next), .sb b.ok]
theorem con_before : Con prog 41 (fun ((a, b) : Bst × Bst) => [.agg (bAV a), .agg (bAV b)]) (fun (a, b) => .sb (before a b)) (fun _ => True) := by
  refine Con.of (by kernel_rfl) T_ok CdsOK.nil .nil 2 [] q_before.1 q_before.2.1 q_before.2.2 (fun _ => rfl) fun i _ => ?_
  obtain ⟨⟨a1, a2, a3, a4⟩, ⟨b1, b2, b3, b4⟩⟩ := i
  repeat' (first | (with_reducible first | exact fun h => h | refine ExE.row (by with_unfolding_all rfl) ?_ | refine And.intro ?_ ?_) | ((with_reducible intro hq); first | exact bne1 hq (by with_reducible assumption) | exact bne1 (by with_reducible assumption) hq | ((simp only [*, BB, cond_true, cond_false, reduceCtorEq] at hq); done) | (revert hq; with_reducible intro _)) | (with_reducible first | exact True.intro | rfl | refine EntLe.row ?_ | exact LeN.ro rfl | exact LeN.rptr | assumption) | ((with_reducible first | refine WkX.chk ?_ | refine Wk.chk ?_ | refine LeL.chk ?_ | refine LeF.chk ?_ | refine Run.mk ?_); (conv => whnf)) | ((with_reducible show LeO _ _); first | refine LeO.ro ?_ | refine LeO.roCap ?_ | refine LeO.nil ?_ (fun _ => rfl)) | ((with_reducible show LeR _ _ _); first | refine LeR.own rfl rfl rfl ?_ | refine LeR.view rfl rfl rfl ?_ ?_ | refine LeR.ro ?_ | refine LeR.roCap ?_ | refine LeR.nil ?_ (fun _ => rfl)) | ((with_reducible first | show drawOK _ _ = true | show lateOK _ _ = true | show drawOK2 _ _ = true | show drawOK3 _ _ = true); kernel_rfl))
  all_goals simp_all [before]
theorem con_check : Con prog 29 (fun ((s, w) : ByteArray × Int) => [.v (.string s), .v (.int .i64 w)]) (fun (s, w) => .v (.int .i64 (checkN s.size w))) (fun _ => True) := by
  refine Con.of (by kernel_rfl) T_ok CdsOK.nil .nil 2 [] q_check.1 q_check.2.1 q_check.2.2 (fun _ => rfl) fun i _ => ?_
  obtain ⟨s, w⟩ := i
  repeat' (first | (with_reducible first | exact fun h => h | refine ExE.row (by with_unfolding_all rfl) ?_ | refine And.intro ?_ ?_) | ((with_reducible intro hq); first | exact bne1 hq (by with_reducible assumption) | exact bne1 (by with_reducible assumption) hq | ((simp only [*, BB, cond_true, cond_false, reduceCtorEq] at hq); done) | (revert hq; with_reducible intro _)) | (with_reducible first | exact True.intro | rfl | refine EntLe.row ?_ | exact LeN.ro rfl | exact LeN.rptr | assumption) | ((with_reducible first | refine WkX.chk ?_ | refine Wk.chk ?_ | refine LeL.chk ?_ | refine LeF.chk ?_ | refine Run.mk ?_); (conv => whnf)) | ((with_reducible show LeO _ _); first | refine LeO.ro ?_ | refine LeO.roCap ?_ | refine LeO.nil ?_ (fun _ => rfl)) | ((with_reducible show LeR _ _ _); first | refine LeR.own rfl rfl rfl ?_ | refine LeR.view rfl rfl rfl ?_ ?_ | refine LeR.ro ?_ | refine LeR.roCap ?_ | refine LeR.nil ?_ (fun _ => rfl)) | ((with_reducible first | show drawOK _ _ = true | show lateOK _ _ = true | show drawOK2 _ _ = true | show drawOK3 _ _ = true); kernel_rfl))
  all_goals simp only [Bool.or_eq_true, Bool.or_eq_false_iff, decide_eq_true_eq, decide_eq_false_iff_not, Bool.not_eq_true'] at *
  all_goals first
    | assumption
    | (unfold checkN; repeat' split) <;> omega
end Go.SX.Try
/- What is known of a text's parts, plainly. No program here. -/
namespace Go.SX.Plain
theorem signOut_len (b : Bool) (g : Grp) (r : Int) : (signOut b g r).length ≤ if b = true then 1 else 0 := by
  unfold signOut
  split
  · rename_i h; simp [h.1]
  · simp
theorem restGo_len (s : ByteArray) : ∀ (k pos : Nat) (a w : Int) (b : Bool) (g : Grp), s.size - pos ≤ k → (restGo s k pos a w b g).length ≤ (s.size - pos) + (if 0 < pos then 1 else 0) + (if b = true then 1 else 0)
  | 0, pos, a, w, b, g, h => by
    have := signOut_len b g w
    simp only [restGo]
    split
    · simp
    · simp only [List.length_append, List.length_cons, List.length_nil]
      rw [if_pos (show 0 < pos by omega)]
      omega
  | k + 1, pos, a, w, b, g, h => by
    have ho := signOut_len b g w
    have hw := width_pos s pos
    simp only [restGo]
    split
    · split
      · rename_i h1 h2
        have ih := restGo_len s k (pos + (Utf8.decode s pos).2) pos (Utf8.decode s pos).1 true (signGrp b g a w pos) (by omega)
        rw [if_pos (by omega), if_pos rfl] at ih
        simp only [List.length_append]
        omega
      · rename_i h1 h2
        have ih := restGo_len s k (pos + (Utf8.decode s pos).2) pos (Utf8.decode s pos).1 b g (by omega)
        rw [if_pos (by omega)] at ih
        omega
    · split
      · simp
      · simp only [List.length_append, List.length_cons, List.length_nil]
        rw [if_pos (show 0 < pos by omega)]
        omega
theorem parts_len (s : ByteArray) : (parts s).length ≤ s.size := by
  have := restGo_len s s.size 0 0 0 false Grp.zero (by omega)
  simp only [parts, clusters, rest, List.length_map]
  simpa using this
def Sm (c : Clu) : Prop := 0 ≤ c.cells ∧ c.cells ≤ 2
theorem widthI_bd (r : Int) : 0 ≤ widthI r ∧ widthI r ≤ 2 := by
  unfold widthI
  split
  · simp
  · split <;> simp
theorem addG_sm {g : Grp} (h : Sm g.c) (r n : Int) : Sm (addG g r n).c := by
  have := widthI_bd r
  unfold addG
  split
  · exact this
  · split
    · exact ⟨by simp, by simp⟩
    · exact h
theorem preG_sm {b : Bool} {g : Grp} (h : Sm g.c) (a w : Int) : Sm (preG b g a w).c := by
  unfold preG
  split
  · exact ⟨by simp, by simp⟩
  · exact h
theorem signOut_sm {b : Bool} {g : Grp} (h : Sm g.c) (w : Int) : ∀ c ∈ signOut b g w, Sm c := by
  unfold signOut
  split
  · intro c hc; simp at hc; subst hc; exact h
  · intro c hc; cases hc
theorem restGo_sm (s : ByteArray) : ∀ (k pos : Nat) (a w : Int) (b : Bool) (g : Grp), Sm g.c → ∀ c ∈ restGo s k pos a w b g, Sm c
  | 0, pos, a, w, b, g, h => by
    simp only [restGo]
    split
    · intro c hc; cases hc
    · intro c hc
      rcases List.mem_append.1 hc with h1 | h1
      · exact signOut_sm h w c h1
      · simp at h1; subst h1; rw [signGrp_eq]; exact addG_sm (preG_sm h _ _) _ _
  | k + 1, pos, a, w, b, g, h => by
    have hs : Sm (signGrp b g a w pos).c := by rw [signGrp_eq]; exact addG_sm (preG_sm h _ _) _ _
    simp only [restGo]
    split
    · split
      · intro c hc
        rcases List.mem_append.1 hc with h1 | h1
        · exact signOut_sm h w c h1
        · exact restGo_sm s k _ _ _ _ _ hs c h1
      · exact restGo_sm s k _ _ _ _ _ h
    · split
      · intro c hc; cases hc
      · intro c hc
        rcases List.mem_append.1 hc with h1 | h1
        · exact signOut_sm h w c h1
        · simp at h1; subst h1; rw [signGrp_eq]; exact addG_sm (preG_sm h _ _) _ _
theorem parts_small (s : ByteArray) : Small (parts s) := by
  intro p hp
  simp only [parts, clusters, rest] at hp
  obtain ⟨c, hc, rfl⟩ := List.mem_map.1 hp
  exact restGo_sm s _ _ _ _ _ Grp.zero ⟨by simp [Grp.zero], by simp [Grp.zero]⟩ c hc
theorem atL_getD (l : List Part) (k i : Nat) : (atL l k).getD i 0 = ((plcs l k).getD i 0 : Nat) := by
  simp only [atL, List.getD_eq_getElem?_getD, List.getElem?_map]
  cases (plcs l k)[i]? <;> simp
theorem outL_getD {l : List Part} {k i : Nat} (h : i < (plcs l k).length) : (outL l k).getD i (0, 0) = ((l.getD ((plcs l k).getD i 0 - 1) dPart).c.to, kindAt l ((plcs l k).getD i 0)) := by
  simp [outL, List.getD_eq_getElem?_getD, h]
theorem atL_length (l : List Part) (k : Nat) : (atL l k).length = (plcs l k).length := by simp [atL]
theorem outL_length (l : List Part) (k : Nat) : (outL l k).length = (plcs l k).length := by simp [outL]
theorem tab_zero (l : List Part) (P : List Nat) (width : Int) : ∀ c j, j + c < P.length + 1 → (tab l P width c).getD j zB = zB
  | 0, j, _ => by
    simp only [tab, List.getD_eq_getElem?_getD, List.getElem?_replicate]; split <;> rfl
  | c + 1, j, h => by
    simp only [tab]
    rw [getD_set_ne _ _ _ _ _ (by omega)]
    exact tab_zero l P width c j (by omega)
theorem tab_set0 (l : List Part) (P : List Nat) (width : Int) {c k : Nat} (h : k + c < P.length + 1) : (tab l P width c).set k zB = tab l P width c := by
  have h1 := tab_zero l P width c k h
  have hl := tab_len l P width c
  apply List.ext_getElem
  · simp
  · intro i h2 h3
    by_cases hi : k = i
    · subst hi
      rw [List.getElem_set_self]
      have : (tab l P width c)[k]? = some (tab l P width c)[k] := List.getElem?_eq_getElem h3
      rw [List.getD_eq_getElem?_getD, this] at h1
      exact h1.symm
    · rw [List.getElem_set_ne hi]
theorem scan_fin {l : List Part} {frm j : Nat} (h : frm ≤ j) (hf : (l.getD j dPart).fin = true) : scan l frm (j + 1 - frm) = scan l frm (j - frm) := by
  rw [show j + 1 - frm = (j - frm) + 1 by omega]
  simp only [scan]
  rw [show frm + (j - frm) = j by omega, if_pos hf]
theorem scan_blank {l : List Part} {frm j : Nat} (h : frm ≤ j) (hf : (l.getD j dPart).fin = false) (hb : (l.getD j dPart).blank = true) : scan l frm (j + 1 - frm) = ((scan l frm (j - frm)).1, (scan l frm (j - frm)).2 + (l.getD j dPart).c.cells) := by
  rw [show j + 1 - frm = (j - frm) + 1 by omega]
  simp only [scan]
  rw [show frm + (j - frm) = j by omega, if_neg (by rw [hf]; exact Bool.false_ne_true), if_pos hb]
theorem scan_ink {l : List Part} {frm j : Nat} (h : frm ≤ j) (hf : (l.getD j dPart).fin = false) (hb : (l.getD j dPart).blank = false) : scan l frm (j + 1 - frm) = ((scan l frm (j - frm)).2 + (l.getD j dPart).c.cells, (scan l frm (j - frm)).2 + (l.getD j dPart).c.cells) := by
  rw [show j + 1 - frm = (j - frm) + 1 by omega]
  simp only [scan]
  rw [show frm + (j - frm) = j by omega, if_neg (by rw [hf]; exact Bool.false_ne_true), if_neg (by rw [hb]; exact Bool.false_ne_true)]
theorem posn_mono {l : List Part} {k n : Nat} (h : k ≤ n) (hn : n ≤ (plcs l (l.length + 1)).length) : posn (plcs l (l.length + 1)) k ≤ posn (plcs l (l.length + 1)) n := by
  have hs := plcs_sorted l (l.length + 1)
  unfold posn
  split
  · omega
  · rw [if_neg (by omega)]
    by_cases he : k = n
    · rw [he]; exact Nat.le_refl _
    · exact Nat.le_of_lt (sorted_lt hs (by omega) (by omega))
theorem fullTo_eq (l : List Part) (P : List Nat) (k e : Nat) : (scan l (posn P k) (e - posn P k)).1 = fullTo l P k e := rfl
section
variable {l : List Part} {P : List Nat} {width : Int} {ws : List Bst} {k n : Nat} {acc : Bst}
theorem inner_full (h : n < P.length) (hf : ¬ fullTo l P k (P.getD n 0) ≤ width) : inner l P width ws k n acc = acc := by
  rw [inner_step h, if_neg hf]
theorem inner_no_hard (h : n < P.length) (hf : fullTo l P k (P.getD n 0) ≤ width) (hok : (ws.getD (n + 1) zB).ok = false) (hk : kindAt l (P.getD n 0) = 1) : inner l P width ws k n acc = acc := by
  rw [inner_step h, if_pos hf, if_neg (by rw [hok]; exact Bool.false_ne_true), if_pos hk]
theorem inner_no (h : n < P.length) (hf : fullTo l P k (P.getD n 0) ≤ width) (hok : (ws.getD (n + 1) zB).ok = false) (hk : ¬ kindAt l (P.getD n 0) = 1) : inner l P width ws k n acc = inner l P width ws k (n + 1) acc := by
  rw [inner_step h, if_pos hf, if_neg (by rw [hok]; exact Bool.false_ne_true), if_neg hk]
theorem inner_hard (h : n < P.length) (hf : fullTo l P k (P.getD n 0) ≤ width) (hok : (ws.getD (n + 1) zB).ok = true) (hk : kindAt l (P.getD n 0) = 1) : inner l P width ws k n acc = better (cand l P width ws k n) acc := by
  rw [inner_step h, if_pos hf, if_pos hok, if_pos hk]
theorem inner_on (h : n < P.length) (hf : fullTo l P k (P.getD n 0) ≤ width) (hok : (ws.getD (n + 1) zB).ok = true) (hk : ¬ kindAt l (P.getD n 0) = 1) : inner l P width ws k n acc = inner l P width ws k (n + 1) (better (cand l P width ws k n) acc) := by
  rw [inner_step h, if_pos hf, if_pos hok, if_neg hk]
theorem better_1 {w acc : Bst} (h : before w acc = true) : better w acc = w := by unfold better; rw [if_pos h]
theorem better_0 {w acc : Bst} (h : before w acc = false) : better w acc = acc := by unfold better; rw [if_neg (by rw [h]; exact Bool.false_ne_true)]
theorem cand_cut (h : kindAt l (P.getD n 0) = 3) : cand l P width ws k n = ⟨(width - fullTo l P k (P.getD n 0)) * (width - fullTo l P k (P.getD n 0)) + (ws.getD (n + 1) zB).bad + 1048576, (ws.getD (n + 1) zB).places + 1, n, true⟩ := by
  unfold cand; rw [if_pos h]
theorem cand_not (h : ¬ kindAt l (P.getD n 0) = 3) : cand l P width ws k n = ⟨(width - fullTo l P k (P.getD n 0)) * (width - fullTo l P k (P.getD n 0)) + (ws.getD (n + 1) zB).bad, (ws.getD (n + 1) zB).places + 1, n, true⟩ := by
  unfold cand; rw [if_neg h, Int.add_zero]
def nextAcc (l : List Part) (P : List Nat) (width : Int) (ws : List Bst) (k n : Nat) (acc : Bst) : Bst := if (ws.getD (n + 1) zB).ok = true then better (cand l P width ws k n) acc else acc
theorem nextAcc_no (hok : (ws.getD (n + 1) zB).ok = false) : nextAcc l P width ws k n acc = acc := by unfold nextAcc; rw [if_neg (by rw [hok]; exact Bool.false_ne_true)]
theorem nextAcc_yes (hok : (ws.getD (n + 1) zB).ok = true) : nextAcc l P width ws k n acc = better (cand l P width ws k n) acc := by unfold nextAcc; rw [if_pos hok]
theorem inner_next (h : n < P.length) (hf : fullTo l P k (P.getD n 0) ≤ width) (hk : ¬ kindAt l (P.getD n 0) = 1) : inner l P width ws k n acc = inner l P width ws k (n + 1) (nextAcc l P width ws k n acc) := by
  cases hok : (ws.getD (n + 1) zB).ok with
  | true => rw [nextAcc_yes hok, inner_on h hf hok hk]
  | false => rw [nextAcc_no hok, inner_no h hf hok hk]
theorem inner_stop (h : n < P.length) (hf : fullTo l P k (P.getD n 0) ≤ width) (hk : kindAt l (P.getD n 0) = 1) : inner l P width ws k n acc = nextAcc l P width ws k n acc := by
  cases hok : (ws.getD (n + 1) zB).ok with
  | true => rw [nextAcc_yes hok, inner_hard h hf hok hk]
  | false => rw [nextAcc_no hok, inner_no_hard h hf hok hk]
theorem Gd.next (hs : Small l) (hw : width ≤ 200) (hk : k ≤ n) (hn : n < P.length) (hf : fullTo l P k (P.getD n 0) ≤ width) (ho : Gd P.length ws (n + 1) (ws.getD (n + 1) zB)) (ha : Gd P.length ws k acc) : Gd P.length ws k (nextAcc l P width ws k n acc) := by
  unfold nextAcc
  split
  · rename_i hok
    exact Gd.better (Gd.cand hs hw hf hk hn ho hok) ha
  · exact ha
theorem endly_no (h : ¬ fullTo l P k l.length ≤ width) : endly l P width k acc = acc := by unfold endly; rw [if_neg h]
theorem endly_yes (h : fullTo l P k l.length ≤ width) : endly l P width k acc = better ⟨(width - fullTo l P k l.length) * (width - fullTo l P k l.length), 0, -1, true⟩ acc := by unfold endly; rw [if_pos h]
theorem tab_succ {c : Nat} (hk : k = P.length - c) : tab l P width (c + 1) = (tab l P width c).set k (inner l P width (tab l P width c) k k zB) := by subst hk; rfl
end
theorem wayGo_len (ws : List Bst) : ∀ (f : Nat) (n : Int), (wayGo ws f n).length ≤ f
  | 0, _ => by simp [wayGo]
  | f + 1, n => by
    simp only [wayGo]
    split
    · have := wayGo_len ws f (ws.getD (n + 1).toNat zB).next
      simp only [List.length_cons]; omega
    · simp
theorem wrapOut_len (l : List Part) (width : Int) : (wrapOut l width).length ≤ (plcs l (l.length + 1)).length := by
  simp only [wrapOut, wayL, wayOf, List.length_map]
  refine Nat.le_trans (wayGo_len _ _ _) ?_
  unfold far
  split <;> omega
end Go.SX.Plain
/- Contract of wrap's Wrap. -/
namespace Go.SX.Try
open Go.Proofs Go.Proofs.Try Go.SX.Plain
set_option maxRecDepth 100000
set_option maxHeartbeats 0
set_option linter.unusedSimpArgs false
def C_bst : Cdc Bst where
  size := 4
  enc := bAV
  dec l := match l with
    | [.v (.int _ a), .v (.int _ b), .v (.int _ c), d] => ⟨a, b, c, bOf d⟩
    | _ => ⟨0, 0, 0, false⟩
  d := ⟨0, 0, 0, false⟩
def D_wrp : Cds := [(36, ⟨Int × Int, C_brk⟩), (88, ⟨Bst, C_bst⟩)]
theorem D_wrp_ok : CdsOK T D_wrp := .cons ⟨fun _ => rfl, by decide, _, rfl, rfl, by decide⟩ (.cons ⟨fun _ => rfl, by decide, _, rfl, rfl, by decide⟩ .nil)
theorem q_wrap : fact 17 f17 := ⟨by kernel_rfl, rfl, by kernel_rfl⟩
theorem q_look : fact 40 f40 := ⟨by kernel_rfl, rfl, by kernel_rfl⟩
def wrapL (s : ByteArray) (width : Int) : List (Int × Int) := if checkN s.size width = 0 then wrapOut (parts s) width else []
def wrapB (s : ByteArray) (width : Int) : Int := if checkN s.size width = 0 then ((tabOf (parts s) width).getD 0 zB).bad else 0
theorem conx_wrap : ConX prog 17 (fun ((s, width) : ByteArray × Int) => [.v (.string s), .v (.int .i64 width)]) (fun (s, width) n => .tup [.own n, .v (.int .i64 (wrapB s width)), .v (.int .i64 (checkN s.size width))]) C_brk (fun (s, width) => wrapL s width) 36 (fun _ => True) := by
  refine ConX.of (by kernel_rfl) T_ok D_wrp_ok (.inl (J := []) q_look.1 q_look.2.1 q_look.2.2 (.con con_before (.con con_check (.con con_parts (.con con_places .nil))))) 6 [13] q_wrap.1 q_wrap.2.1 q_wrap.2.2 (fun _ => rfl) fun i hi => ?_
  obtain ⟨s, width⟩ := i
  have hpl := parts_len s
  have hps := parts_small s
  repeat' (first | ((with_reducible show IsX _ _ _ _ _ _); first | (refine IsX.mk (by with_unfolding_all exact rfl) ?_ (RX.tupL (.cons (.own rfl) (.cons (.fro ?_) (.cons (.fro ?_) .nil))))) | (refine IsX.nil (fun _ => rfl) (by decide) ?_ (RX.tupL (.cons (.nil rfl) (.cons (.fro ?_) (.cons (.fro ?_) .nil)))))) | (with_reducible first | refine ⟨_, ⟨(.cons (.v _) .nil), ?_⟩, ?_⟩ | refine ⟨(_, _), ⟨(.cons (.v _) (.cons (.v _) .nil)), ?_⟩, ?_⟩ | refine ⟨_, ⟨(.cons (.ro _ _ _ _ _) .nil), ?_⟩, ?_⟩ | exact fun h => h | refine ExE.row (by with_unfolding_all rfl) ?_ | refine And.intro ?_ ?_) | ((with_reducible intro hq); first | exact bne1 hq (by with_reducible assumption) | exact bne1 (by with_reducible assumption) hq | ((simp only [*, BB, cond_true, cond_false, reduceCtorEq] at hq); done) | (revert hq; with_reducible intro _)) | (with_reducible first | exact True.intro | rfl | refine EntLe.row ?_ | exact LeN.ro rfl | exact LeN.rptr | assumption) | ((with_reducible first | refine WkX.chk ?_ | refine Wk.chk ?_ | refine LeL.chk ?_ | refine LeF.chk ?_ | refine Run.mk ?_); (conv => whnf)) | ((with_reducible show LeO _ _); first | refine LeO.ro ?_ | refine LeO.roCap ?_ | refine LeO.nil ?_ (fun _ => rfl)) | ((with_reducible show LeR _ _ _); first | refine LeR.own rfl rfl rfl ?_ | refine LeR.view rfl rfl rfl ?_ ?_ | refine LeR.ro ?_ | refine LeR.roCap ?_ | refine LeR.nil ?_ (fun _ => rfl)) | ((with_reducible first | show drawOK _ _ = true | show lateOK _ _ = true | show drawOK2 _ _ = true | show drawOK3 _ _ = true); kernel_rfl))
  · simp_all [wrapL]
  · simp_all [wrapB]
  all_goals
    have hck : checkN s.size width = 0 := by simp_all
    have hw1 : 2 ≤ width ∧ width ≤ 200 ∧ s.size ≤ 4096 := by
      unfold checkN at hck
      split at hck
      · cases hck
      · split at hck
        · cases hck
        · omega
    obtain ⟨hw1, hw2, hsz⟩ := hw1
  · dsimp only; omega
  · dsimp only; omega
  all_goals
    have hN : (plcs (parts s) ((parts s).length + 1)).length ≤ (parts s).length + 1 := plcs_len _ _
  · rw [atL_length]; refine Fits.i64 ?_ ?_ <;> omega
  · rw [atL_length]; omega
  · rw [atL_length]; omega
  · rw [atL_length]; dsimp only; omega
  · rfl
  · rfl
  · rfl
  · rfl
  have hL : wrapL s width = wrapOut (parts s) width := by unfold wrapL; rw [if_pos hck]
  have hB : wrapB s width = ((tabOf (parts s) width).getD 0 zB).bad := by unfold wrapB; rw [if_pos hck]
  clear hi
  revert hpl hps hN hL hB
  generalize parts s = l
  intro hpl hps hN hL hB
  refine loopI Nat [] (fun c => [(12, .v (.int .i64 (((plcs l (l.length + 1)).length : Int) - (c : Int))))]) (fun c => [(3, .row C_bst (tab l (plcs l (l.length + 1)) width c) 88 none)]) (fun c => c ≤ (plcs l (l.length + 1)).length + 1) (fun c => (plcs l (l.length + 1)).length + 1 - c) 0 (Nat.zero_le _) (Wk.chk ?_) fun c hc => ?_
  · ((conv => whnf); repeat' (first | ((with_reducible show IsX _ _ _ _ _ _); first | (refine IsX.mk (by with_unfolding_all exact rfl) ?_ (RX.tupL (.cons (.own rfl) (.cons (.fro ?_) (.cons (.fro ?_) .nil))))) | (refine IsX.nil (fun _ => rfl) (by decide) ?_ (RX.tupL (.cons (.nil rfl) (.cons (.fro ?_) (.cons (.fro ?_) .nil)))))) | ((with_reducible show EntLe _ _ _); refine EntLe.row ?_) | (with_reducible first | exact fun h => h | refine ExE.row (by with_unfolding_all rfl) ?_ | refine And.intro ?_ ?_) | ((with_reducible intro hq); first | exact bne1 hq (by with_reducible assumption) | exact bne1 (by with_reducible assumption) hq | ((simp only [*, BB, cond_true, cond_false, reduceCtorEq] at hq); done) | (revert hq; with_reducible intro _)) | (with_reducible first | exact True.intro | rfl | refine EntLe.row ?_ | exact LeN.ro rfl | exact LeN.rptr | assumption) | ((with_reducible first | refine WkX.chk ?_ | refine Wk.chk ?_ | refine LeL.chk ?_ | refine LeF.chk ?_ | refine Run.mk ?_); (conv => whnf)) | ((with_reducible show LeO _ _); first | refine LeO.ro ?_ | refine LeO.roCap ?_ | refine LeO.nil ?_ (fun _ => rfl)) | ((with_reducible show LeR _ _ _); first | refine LeR.own rfl rfl rfl ?_ | refine LeR.view rfl rfl rfl ?_ ?_ | refine LeR.ro ?_ | refine LeR.roCap ?_ | refine LeR.nil ?_ (fun _ => rfl)) | ((with_reducible first | show drawOK _ _ = true | show lateOK _ _ = true | show drawOK2 _ _ = true | show drawOK3 _ _ = true); kernel_rfl)))
    · rw [atL_length]; simp
    · rw [atL_length]; simp only [tab]; congr 1
  repeat' (first | ((with_reducible show IsX _ _ _ _ _ _); first | (refine IsX.mk (by with_unfolding_all exact rfl) ?_ (RX.tupL (.cons (.own rfl) (.cons (.fro ?_) (.cons (.fro ?_) .nil))))) | (refine IsX.nil (fun _ => rfl) (by decide) ?_ (RX.tupL (.cons (.nil rfl) (.cons (.fro ?_) (.cons (.fro ?_) .nil)))))) | (with_reducible first | refine ⟨_, ⟨(.cons (.v _) .nil), ?_⟩, ?_⟩ | refine ⟨(_, _), ⟨(.cons (.v _) (.cons (.v _) .nil)), ?_⟩, ?_⟩ | refine ⟨_, ⟨(.cons (.ro _ _ _ _ _) .nil), ?_⟩, ?_⟩ | exact fun h => h | refine ExE.row (by with_unfolding_all rfl) ?_ | refine And.intro ?_ ?_) | ((with_reducible intro hq); first | exact bne1 hq (by with_reducible assumption) | exact bne1 (by with_reducible assumption) hq | ((simp only [*, BB, cond_true, cond_false, reduceCtorEq] at hq); done) | (revert hq; with_reducible intro _)) | (with_reducible first | exact True.intro | rfl | refine EntLe.row ?_ | exact LeN.ro rfl | exact LeN.rptr | assumption) | ((with_reducible first | refine WkX.chk ?_ | refine Wk.chk ?_ | refine LeL.chk ?_ | refine LeF.chk ?_ | refine Run.mk ?_); (conv => whnf)) | ((with_reducible show LeO _ _); first | refine LeO.ro ?_ | refine LeO.roCap ?_ | refine LeO.nil ?_ (fun _ => rfl)) | ((with_reducible show LeR _ _ _); first | refine LeR.own rfl rfl rfl ?_ | refine LeR.view rfl rfl rfl ?_ ?_ | refine LeR.ro ?_ | refine LeR.roCap ?_ | refine LeR.nil ?_ (fun _ => rfl)) | ((with_reducible first | show drawOK _ _ = true | show lateOK _ _ = true | show drawOK2 _ _ = true | show drawOK3 _ _ = true); kernel_rfl))
  · have hc1 : c ≤ (plcs l (l.length + 1)).length := by
      have h : decide (0 ≤ ((plcs l (l.length + 1)).length : Int) - (c : Int)) = true := by assumption
      simp only [decide_eq_true_eq] at h; omega
    obtain ⟨k, hk⟩ : ∃ k, k = (plcs l (l.length + 1)).length - c := ⟨_, rfl⟩
    have hkc : ((plcs l (l.length + 1)).length : Int) - (c : Int) = (k : Int) := by omega
    rw [hkc]
    refine joinI Unit [] (fun _ => [(13, .v (.int .i64 (posn (plcs l (l.length + 1)) k : Nat)))]) (fun _ => []) (fun _ => True) ?_ fun _ _ => ?_
    · repeat' (first | ((with_reducible show IsX _ _ _ _ _ _); first | (refine IsX.mk (by with_unfolding_all exact rfl) ?_ (RX.tupL (.cons (.own rfl) (.cons (.fro ?_) (.cons (.fro ?_) .nil))))) | (refine IsX.nil (fun _ => rfl) (by decide) ?_ (RX.tupL (.cons (.nil rfl) (.cons (.fro ?_) (.cons (.fro ?_) .nil)))))) | (with_reducible first | refine ex_of () trivial ?_ | exact fun h => h | refine ExE.row (by with_unfolding_all rfl) ?_ | refine And.intro ?_ ?_) | ((with_reducible intro hq); first | exact bne1 hq (by with_reducible assumption) | exact bne1 (by with_reducible assumption) hq | ((simp only [*, BB, cond_true, cond_false, reduceCtorEq] at hq); done) | (revert hq; with_reducible intro _)) | (with_reducible first | exact True.intro | rfl | refine EntLe.row ?_ | exact LeN.ro rfl | exact LeN.rptr | assumption) | ((with_reducible first | refine WkX.chk ?_ | refine Wk.chk ?_ | refine LeL.chk ?_ | refine LeF.chk ?_ | refine Run.mk ?_); (conv => whnf)) | ((with_reducible show LeO _ _); first | refine LeO.ro ?_ | refine LeO.roCap ?_ | refine LeO.nil ?_ (fun _ => rfl)) | ((with_reducible show LeR _ _ _); first | refine LeR.own rfl rfl rfl ?_ | refine LeR.view rfl rfl rfl ?_ ?_ | refine LeR.ro ?_ | refine LeR.roCap ?_ | refine LeR.nil ?_ (fun _ => rfl)) | ((with_reducible first | show drawOK _ _ = true | show lateOK _ _ = true | show drawOK2 _ _ = true | show drawOK3 _ _ = true); kernel_rfl))
      all_goals (simp only [decide_eq_true_eq, decide_eq_false_iff_not] at *)
      · refine Fits.i64 ?_ ?_ <;> omega
      · omega
      · rw [atL_length]; omega
      · rw [show ((k : Int) - 1).toNat = k - 1 by omega]
        refine (atL_getD _ _ _).trans ?_
        unfold posn; rw [if_neg (by omega)]
      · unfold posn; rw [if_pos (by omega)]; rfl
    · repeat' (first | ((with_reducible show IsX _ _ _ _ _ _); first | (refine IsX.mk (by with_unfolding_all exact rfl) ?_ (RX.tupL (.cons (.own rfl) (.cons (.fro ?_) (.cons (.fro ?_) .nil))))) | (refine IsX.nil (fun _ => rfl) (by decide) ?_ (RX.tupL (.cons (.nil rfl) (.cons (.fro ?_) (.cons (.fro ?_) .nil)))))) | (with_reducible first | exact fun h => h | refine ExE.row (by with_unfolding_all rfl) ?_ | refine And.intro ?_ ?_) | ((with_reducible intro hq); first | exact bne1 hq (by with_reducible assumption) | exact bne1 (by with_reducible assumption) hq | ((simp only [*, BB, cond_true, cond_false, reduceCtorEq] at hq); done) | (revert hq; with_reducible intro _)) | (with_reducible first | exact True.intro | rfl | refine EntLe.row ?_ | exact LeN.ro rfl | exact LeN.rptr | assumption) | ((with_reducible first | refine WkX.chk ?_ | refine Wk.chk ?_ | refine LeL.chk ?_ | refine LeF.chk ?_ | refine Run.mk ?_); (conv => whnf)) | ((with_reducible show LeO _ _); first | refine LeO.ro ?_ | refine LeO.roCap ?_ | refine LeO.nil ?_ (fun _ => rfl)) | ((with_reducible show LeR _ _ _); first | refine LeR.own rfl rfl rfl ?_ | refine LeR.view rfl rfl rfl ?_ ?_ | refine LeR.ro ?_ | refine LeR.roCap ?_ | refine LeR.nil ?_ (fun _ => rfl)) | ((with_reducible first | show drawOK _ _ = true | show lateOK _ _ = true | show drawOK2 _ _ = true | show drawOK3 _ _ = true); kernel_rfl))
      have htl := tab_len l (plcs l (l.length + 1)) width c
      refine loopI (Nat × Bst) [] (fun | (n, acc) => [(19, .v (.int .i64 (n : Int))), (18, .v (.bool false))])
        (fun | (n, acc) => [(6, .box [.v (.int .i64 (posn (plcs l (l.length + 1)) n : Nat))] 3), (5, .box [.v (.int .i64 (scan l (posn (plcs l (l.length + 1)) k) (posn (plcs l (l.length + 1)) n - posn (plcs l (l.length + 1)) k)).2)] 3),
          (4, .box [.v (.int .i64 (scan l (posn (plcs l (l.length + 1)) k) (posn (plcs l (l.length + 1)) n - posn (plcs l (l.length + 1)) k)).1)] 3), (3, .row C_bst ((tab l (plcs l (l.length + 1)) width c).set k acc) 88 none)])
        (fun | (n, acc) => k ≤ n ∧ n ≤ (plcs l (l.length + 1)).length ∧ Gd (plcs l (l.length + 1)).length (tab l (plcs l (l.length + 1)) width c) k acc ∧ inner l (plcs l (l.length + 1)) width (tab l (plcs l (l.length + 1)) width c) k n acc = inner l (plcs l (l.length + 1)) width (tab l (plcs l (l.length + 1)) width c) k k zB)
        (fun | (n, _) => (plcs l (l.length + 1)).length - n) (k, zB) ⟨Nat.le_refl _, by omega, Gd.zero _ _ _, rfl⟩ (Wk.chk ?_) fun i hi => ?_
      · ((conv => whnf); repeat' (first | (with_reducible first | exact fun h => h | refine ExE.row (by with_unfolding_all rfl) ?_ | refine And.intro ?_ ?_) | ((with_reducible intro hq); first | exact bne1 hq (by with_reducible assumption) | exact bne1 (by with_reducible assumption) hq | ((simp only [*, BB, cond_true, cond_false, reduceCtorEq] at hq); done) | (revert hq; with_reducible intro _)) | (with_reducible first | exact True.intro | rfl | refine EntLe.row ?_ | exact LeN.ro rfl | exact LeN.rptr | assumption) | ((with_reducible first | refine WkX.chk ?_ | refine Wk.chk ?_ | refine LeL.chk ?_ | refine LeF.chk ?_ | refine Run.mk ?_); (conv => whnf)) | ((with_reducible show LeO _ _); first | refine LeO.ro ?_ | refine LeO.roCap ?_ | refine LeO.nil ?_ (fun _ => rfl)) | ((with_reducible show LeR _ _ _); first | refine LeR.own rfl rfl rfl ?_ | refine LeR.view rfl rfl rfl ?_ ?_ | refine LeR.ro ?_ | refine LeR.roCap ?_ | refine LeR.nil ?_ (fun _ => rfl)) | ((with_reducible first | show drawOK _ _ = true | show lateOK _ _ = true | show drawOK2 _ _ = true | show drawOK3 _ _ = true); kernel_rfl)))
        all_goals first
          | rfl
          | (rw [Nat.sub_self]; rfl)
          | exact (tab_set0 _ _ _ (by omega)).symm
      obtain ⟨n, acc⟩ := i
      obtain ⟨hi1, hi2, hi3, hi4⟩ := hi
      have hmono := posn_mono (l := l) hi1 hi2
      repeat' (first | ((with_reducible show IsX _ _ _ _ _ _); first | (refine IsX.mk (by with_unfolding_all exact rfl) ?_ (RX.tupL (.cons (.own rfl) (.cons (.fro ?_) (.cons (.fro ?_) .nil))))) | (refine IsX.nil (fun _ => rfl) (by decide) ?_ (RX.tupL (.cons (.nil rfl) (.cons (.fro ?_) (.cons (.fro ?_) .nil)))))) | (with_reducible first | exact fun h => h | refine ExE.row (by with_unfolding_all rfl) ?_ | refine And.intro ?_ ?_) | ((with_reducible intro hq); first | exact bne1 hq (by with_reducible assumption) | exact bne1 (by with_reducible assumption) hq | ((simp only [*, BB, cond_true, cond_false, reduceCtorEq] at hq); done) | (revert hq; with_reducible intro _)) | (with_reducible first | exact True.intro | rfl | refine EntLe.row ?_ | exact LeN.ro rfl | exact LeN.rptr | assumption) | ((with_reducible first | refine WkX.chk ?_ | refine Wk.chk ?_ | refine LeL.chk ?_ | refine LeF.chk ?_ | refine Run.mk ?_); (conv => whnf)) | ((with_reducible show LeO _ _); first | refine LeO.ro ?_ | refine LeO.roCap ?_ | refine LeO.nil ?_ (fun _ => rfl)) | ((with_reducible show LeR _ _ _); first | refine LeR.own rfl rfl rfl ?_ | refine LeR.view rfl rfl rfl ?_ ?_ | refine LeR.ro ?_ | refine LeR.roCap ?_ | refine LeR.nil ?_ (fun _ => rfl)) | ((with_reducible first | show drawOK _ _ = true | show lateOK _ _ = true | show drawOK2 _ _ = true | show drawOK3 _ _ = true); kernel_rfl))
      · omega
      · exact of_decide_eq_true (by assumption)
      · have hn : n < (plcs l (l.length + 1)).length := by
          have h : decide ((n : Int) < ((atL l (l.length + 1)).length : Int)) = true := by assumption
          rw [atL_length] at h; simp only [decide_eq_true_eq] at h; omega
        have hPn := plcs_le hn
        have hlt := posn_lt hn
        have hgd := tab_gd (P := plcs l (l.length + 1)) hps hw2 c (n + 1) (by omega) (by omega)
        refine loopI (Nat × Unit) [] (fun _ => []) (fun | (j, _) => [(6, .box [.v (.int .i64 (j : Int))] 3), (5, .box [.v (.int .i64 (scan l (posn (plcs l (l.length + 1)) k) (j - posn (plcs l (l.length + 1)) k)).2)] 3),
          (4, .box [.v (.int .i64 (scan l (posn (plcs l (l.length + 1)) k) (j - posn (plcs l (l.length + 1)) k)).1)] 3)]) (fun | (j, _) => posn (plcs l (l.length + 1)) n ≤ j ∧ j ≤ (plcs l (l.length + 1)).getD n 0) (fun | (j, _) => (plcs l (l.length + 1)).getD n 0 - j) (posn (plcs l (l.length + 1)) n, ()) ⟨Nat.le_refl _, Nat.le_of_lt hlt⟩ (Wk.chk ?_) fun j hj => ?_
        · ((conv => whnf); repeat' (first | (with_reducible first | exact fun h => h | refine ExE.row (by with_unfolding_all rfl) ?_ | refine And.intro ?_ ?_) | ((with_reducible intro hq); first | exact bne1 hq (by with_reducible assumption) | exact bne1 (by with_reducible assumption) hq | ((simp only [*, BB, cond_true, cond_false, reduceCtorEq] at hq); done) | (revert hq; with_reducible intro _)) | (with_reducible first | exact True.intro | rfl | refine EntLe.row ?_ | exact LeN.ro rfl | exact LeN.rptr | assumption) | ((with_reducible first | refine WkX.chk ?_ | refine Wk.chk ?_ | refine LeL.chk ?_ | refine LeF.chk ?_ | refine Run.mk ?_); (conv => whnf)) | ((with_reducible show LeO _ _); first | refine LeO.ro ?_ | refine LeO.roCap ?_ | refine LeO.nil ?_ (fun _ => rfl)) | ((with_reducible show LeR _ _ _); first | refine LeR.own rfl rfl rfl ?_ | refine LeR.view rfl rfl rfl ?_ ?_ | refine LeR.ro ?_ | refine LeR.roCap ?_ | refine LeR.nil ?_ (fun _ => rfl)) | ((with_reducible first | show drawOK _ _ = true | show lateOK _ _ = true | show drawOK2 _ _ = true | show drawOK3 _ _ = true); kernel_rfl)))
        obtain ⟨j, _⟩ := j
        obtain ⟨hj1, hj2⟩ := hj
        have hsb := scan_bd hps (posn (plcs l (l.length + 1)) k) (j - posn (plcs l (l.length + 1)) k)
        have hcb := hps.at j
        have g1 := hgd.b0
        have g2 : ((tab l (plcs l (l.length + 1)) width c).getD (n + 1) zB).bad ≤ 9000000000 := by have := hgd.b1; omega
        have g3 := hgd.p0
        have g4 : ((tab l (plcs l (l.length + 1)) width c).getD (n + 1) zB).places ≤ 5000 := by have := hgd.p1; omega
        have e1 : ((j : Int)).toNat = j := Int.toNat_natCast _
        have e2 : ((n : Int)).toNat = n := Int.toNat_natCast _
        have e3 : ((n : Int) + 1).toNat = n + 1 := by omega
        have e4 : C_bst.d = zB := rfl
        have e5 : C_part.d = dPart := rfl
        have e6 : (atL l (l.length + 1)).getD n C_int.d = ((plcs l (l.length + 1)).getD n 0 : Nat) := atL_getD _ _ _
        have e7 : (outL l (l.length + 1)).getD n C_brk.d = ((l.getD ((plcs l (l.length + 1)).getD n 0 - 1) dPart).c.to, kindAt l ((plcs l (l.length + 1)).getD n 0)) := outL_getD hn
        have e8 : ((tab l (plcs l (l.length + 1)) width c).set k acc).getD (n + 1) zB = (tab l (plcs l (l.length + 1)) width c).getD (n + 1) zB := Go.SX.Plain.getD_set_ne _ _ _ _ _ (by omega)
        have e9 : ((tab l (plcs l (l.length + 1)) width c).set k acc).getD k zB = acc := Go.SX.Plain.getD_set_eq _ _ _ _ (by omega)
        have e10 : ((k : Int)).toNat = k := Int.toNat_natCast _
        repeat' (first | ((with_reducible show IsX _ _ _ _ _ _); first | (refine IsX.mk (by with_unfolding_all exact rfl) ?_ (RX.tupL (.cons (.own rfl) (.cons (.fro ?_) (.cons (.fro ?_) .nil))))) | (refine IsX.nil (fun _ => rfl) (by decide) ?_ (RX.tupL (.cons (.nil rfl) (.cons (.fro ?_) (.cons (.fro ?_) .nil)))))) | (with_reducible first | refine ex_of (α := Nat × Unit) (j + 1, ()) ⟨⟨?_, ?_⟩, ?_⟩ ?_ | refine ex_of (α := Nat × Bst) (n + 1, nextAcc l (plcs l (l.length + 1)) width (tab l (plcs l (l.length + 1)) width c) k n acc) ⟨⟨?_, ?_, ?_, ?_⟩, ?_⟩ ?_ | refine ex_of (α := Nat) (c + 1) ⟨?_, ?_⟩ ?_ | refine ⟨(⟨_, _, _, _⟩, ⟨_, _, _, _⟩), ⟨(.cons (.agg (.cons (.v _) (.cons (.v _) (.cons (.v _) (.cons (.vb _) .nil))))) (.cons (.agg (.cons (.v _) (.cons (.v _) (.cons (.v _) (.cons (.sb _) .nil))))) .nil)), ?_⟩, ?_⟩ | exact fun h => h | refine ExE.row (by with_unfolding_all rfl) ?_ | refine And.intro ?_ ?_) | ((with_reducible intro hq); first | exact bne1 hq (by with_reducible assumption) | exact bne1 (by with_reducible assumption) hq | ((simp only [*, BB, cond_true, cond_false, reduceCtorEq] at hq); done) | (revert hq; with_reducible intro _)) | (with_reducible first | exact True.intro | rfl | refine EntLe.row ?_ | exact LeN.ro rfl | exact LeN.rptr | assumption) | ((with_reducible first | refine WkX.chk ?_ | refine Wk.chk ?_ | refine LeL.chk ?_ | refine LeF.chk ?_ | refine Run.mk ?_); (conv => whnf)) | ((with_reducible show LeO _ _); first | refine LeO.ro ?_ | refine LeO.roCap ?_ | refine LeO.nil ?_ (fun _ => rfl)) | ((with_reducible show LeR _ _ _); first | refine LeR.own rfl rfl rfl ?_ | refine LeR.view rfl rfl rfl ?_ ?_ | refine LeR.ro ?_ | refine LeR.roCap ?_ | refine LeR.nil ?_ (fun _ => rfl)) | ((with_reducible first | show drawOK _ _ = true | show lateOK _ _ = true | show drawOK2 _ _ = true | show drawOK3 _ _ = true); kernel_rfl))
        all_goals (try simp only [e1, e2, e3, e4, e5, e6, e7, e8, e9, e10, decide_eq_true_eq, decide_eq_false_iff_not, Bool.not_eq_true', Bool.not_eq_false', beq_iff_eq, beq_eq_false_iff_ne, ne_eq, List.length_set, htl, atL_length, outL_length] at *)
        all_goals first
          | omega
          | (refine Fits.i64 ?_ ?_ <;> omega)
          | rfl
          | (rw [scan_fin (by omega) (by assumption)]; done)
          | (rw [scan_blank (by omega) (by assumption) (by assumption)]; done)
          | (rw [scan_ink (by omega) (by assumption) (by assumption)]; done)
          | (have hje : j = (plcs l (l.length + 1)).getD n 0 := by omega
             subst hje
             first
             | (rw [posn_succ]; done)
             | (simp only [fullTo_eq] at *; fail_if_success done; skip
                first
                | omega
                | rfl
                | (have hsq := sq_bd (x := width - fullTo l (plcs l (l.length + 1)) k ((plcs l (l.length + 1)).getD n 0)) (y := 200) (by omega) (by omega)
                   refine Fits.i64 ?_ ?_ <;> omega)
                | (rw [tab_succ hk, ← hi4, inner_full hn (by assumption)]; done)
                | exact Gd.next hps hw2 hi1 hn (by assumption) hgd hi3
                | (rw [← inner_next hn (by assumption) (by assumption)]; exact hi4)
                | (try rw [tab_succ hk, ← hi4, inner_stop hn (by assumption) (by assumption)]
                   first
                   | (rw [nextAcc_no (by assumption)]; done)
                   | (rw [nextAcc_yes (by assumption), better_1 (by rw [cand_cut (by assumption)]; assumption), cand_cut (by assumption), List.set_set]; rfl)
                   | (rw [nextAcc_yes (by assumption), better_1 (by rw [cand_not (by assumption)]; assumption), cand_not (by assumption), List.set_set]; rfl)
                   | (rw [nextAcc_yes (by assumption), better_0 (by rw [cand_cut (by assumption)]; assumption)]; done)
                   | (rw [nextAcc_yes (by assumption), better_0 (by rw [cand_not (by assumption)]; assumption)]; done))))
      · have hn : n = (plcs l (l.length + 1)).length := by
          have h : decide ((n : Int) < ((atL l (l.length + 1)).length : Int)) = false := by assumption
          rw [atL_length] at h; simp only [decide_eq_false_iff_not] at h; omega
        have hple := posn_le (l := l) (k := n) (by omega)
        refine loopI (Nat × Unit) [] (fun _ => []) (fun | (j, _) => [(6, .box [.v (.int .i64 (j : Int))] 3), (5, .box [.v (.int .i64 (scan l (posn (plcs l (l.length + 1)) k) (j - posn (plcs l (l.length + 1)) k)).2)] 3),
          (4, .box [.v (.int .i64 (scan l (posn (plcs l (l.length + 1)) k) (j - posn (plcs l (l.length + 1)) k)).1)] 3)]) (fun | (j, _) => posn (plcs l (l.length + 1)) n ≤ j ∧ j ≤ l.length) (fun | (j, _) => l.length - j) (posn (plcs l (l.length + 1)) n, ()) ⟨Nat.le_refl _, hple⟩ (Wk.chk ?_) fun j hj => ?_
        · ((conv => whnf); repeat' (first | (with_reducible first | exact fun h => h | refine ExE.row (by with_unfolding_all rfl) ?_ | refine And.intro ?_ ?_) | ((with_reducible intro hq); first | exact bne1 hq (by with_reducible assumption) | exact bne1 (by with_reducible assumption) hq | ((simp only [*, BB, cond_true, cond_false, reduceCtorEq] at hq); done) | (revert hq; with_reducible intro _)) | (with_reducible first | exact True.intro | rfl | refine EntLe.row ?_ | exact LeN.ro rfl | exact LeN.rptr | assumption) | ((with_reducible first | refine WkX.chk ?_ | refine Wk.chk ?_ | refine LeL.chk ?_ | refine LeF.chk ?_ | refine Run.mk ?_); (conv => whnf)) | ((with_reducible show LeO _ _); first | refine LeO.ro ?_ | refine LeO.roCap ?_ | refine LeO.nil ?_ (fun _ => rfl)) | ((with_reducible show LeR _ _ _); first | refine LeR.own rfl rfl rfl ?_ | refine LeR.view rfl rfl rfl ?_ ?_ | refine LeR.ro ?_ | refine LeR.roCap ?_ | refine LeR.nil ?_ (fun _ => rfl)) | ((with_reducible first | show drawOK _ _ = true | show lateOK _ _ = true | show drawOK2 _ _ = true | show drawOK3 _ _ = true); kernel_rfl)))
        obtain ⟨j, _⟩ := j
        obtain ⟨hj1, hj2⟩ := hj
        have hsb := scan_bd hps (posn (plcs l (l.length + 1)) k) (j - posn (plcs l (l.length + 1)) k)
        have hcb := hps.at j
        have e1 : ((j : Int)).toNat = j := Int.toNat_natCast _
        have e4 : C_bst.d = zB := rfl
        have e5 : C_part.d = dPart := rfl
        have e9 : ((tab l (plcs l (l.length + 1)) width c).set k acc).getD k zB = acc := Go.SX.Plain.getD_set_eq _ _ _ _ (by omega)
        have e10 : ((k : Int)).toNat = k := Int.toNat_natCast _
        repeat' (first | ((with_reducible show IsX _ _ _ _ _ _); first | (refine IsX.mk (by with_unfolding_all exact rfl) ?_ (RX.tupL (.cons (.own rfl) (.cons (.fro ?_) (.cons (.fro ?_) .nil))))) | (refine IsX.nil (fun _ => rfl) (by decide) ?_ (RX.tupL (.cons (.nil rfl) (.cons (.fro ?_) (.cons (.fro ?_) .nil)))))) | (with_reducible first | refine ex_of (α := Nat × Unit) (j + 1, ()) ⟨⟨?_, ?_⟩, ?_⟩ ?_ | refine ex_of (α := Nat) (c + 1) ⟨?_, ?_⟩ ?_ | refine ⟨(⟨_, _, _, _⟩, ⟨_, _, _, _⟩), ⟨(.cons (.agg (.cons (.v _) (.cons (.v _) (.cons (.v _) (.cons (.vb _) .nil))))) (.cons (.agg (.cons (.v _) (.cons (.v _) (.cons (.v _) (.cons (.sb _) .nil))))) .nil)), ?_⟩, ?_⟩ | exact fun h => h | refine ExE.row (by with_unfolding_all rfl) ?_ | refine And.intro ?_ ?_) | ((with_reducible intro hq); first | exact bne1 hq (by with_reducible assumption) | exact bne1 (by with_reducible assumption) hq | ((simp only [*, BB, cond_true, cond_false, reduceCtorEq] at hq); done) | (revert hq; with_reducible intro _)) | (with_reducible first | exact True.intro | rfl | refine EntLe.row ?_ | exact LeN.ro rfl | exact LeN.rptr | assumption) | ((with_reducible first | refine WkX.chk ?_ | refine Wk.chk ?_ | refine LeL.chk ?_ | refine LeF.chk ?_ | refine Run.mk ?_); (conv => whnf)) | ((with_reducible show LeO _ _); first | refine LeO.ro ?_ | refine LeO.roCap ?_ | refine LeO.nil ?_ (fun _ => rfl)) | ((with_reducible show LeR _ _ _); first | refine LeR.own rfl rfl rfl ?_ | refine LeR.view rfl rfl rfl ?_ ?_ | refine LeR.ro ?_ | refine LeR.roCap ?_ | refine LeR.nil ?_ (fun _ => rfl)) | ((with_reducible first | show drawOK _ _ = true | show lateOK _ _ = true | show drawOK2 _ _ = true | show drawOK3 _ _ = true); kernel_rfl))
        all_goals (try simp only [e1, e4, e5, e9, e10, decide_eq_true_eq, decide_eq_false_iff_not, Bool.not_eq_true', Bool.not_eq_false', beq_iff_eq, beq_eq_false_iff_ne, ne_eq, List.length_set, htl, atL_length, outL_length] at *)
        all_goals first
          | omega
          | (refine Fits.i64 ?_ ?_ <;> omega)
          | rfl
          | (rw [scan_fin (by omega) (by assumption)]; done)
          | (rw [scan_blank (by omega) (by assumption) (by assumption)]; done)
          | (rw [scan_ink (by omega) (by assumption) (by assumption)]; done)
          | (have hje : j = l.length := by omega
             subst hje
             simp only [fullTo_eq] at *
             first
             | omega
             | (have hsq := sq_bd (x := width - fullTo l (plcs l (l.length + 1)) k l.length) (y := 200) (by omega) (by omega)
                refine Fits.i64 ?_ ?_ <;> omega)
             | (rw [tab_succ hk, ← hi4, inner_end (by omega)]
                first
                | (rw [endly_no (by assumption)]; done)
                | (rw [endly_yes (by assumption), better_1 (by assumption), List.set_set]; rfl)
                | (rw [endly_yes (by assumption), better_0 (by assumption)]; done)))
  all_goals
    have hcN : c = (plcs l (l.length + 1)).length + 1 := by
      have h : decide (0 ≤ ((plcs l (l.length + 1)).length : Int) - (c : Int)) = false := by assumption
      simp only [decide_eq_false_iff_not] at h; omega
    subst hcN
    have htl := tab_len l (plcs l (l.length + 1)) width ((plcs l (l.length + 1)).length + 1)
  · omega
  · rw [htl]; omega
  · rw [htl]; dsimp only [Int.toNat]; omega
  have hg := fun j => tabOf_gd (l := l) (width := width) hps hw2 j
  have hok0 := tabOf_ok (l := l) (width := width) hps hw1 (j := 0) (Nat.zero_le _)
  have hwl := wrapOut_len l width
  refine loopI (Int × List (Int × Int)) [] (fun | (x, _) => [(25, .v (.int .i64 x)), (24, .own 4)]) (fun | (_, o) => [(4, .row C_brk o 36 none)])
    (fun | (x, o) => Nx (plcs l (l.length + 1)).length (tabOf l width) x ∧ o ++ (wayOf (plcs l (l.length + 1)).length (tabOf l width) x).map (fun n => (outL l (l.length + 1)).getD n (0, 0)) = wrapOut l width) (fun | (x, _) => far (plcs l (l.length + 1)).length x)
    (((tabOf l width).getD 0 zB).next, []) ⟨⟨((hg 0).nx hok0).imp (fun h => h) fun ⟨n, h1, _, h3, h4⟩ => ⟨n, h1, h3, h4⟩⟩, rfl⟩ (Wk.chk ?_) fun i hi => ?_
  · ((conv => whnf); repeat' (first | (with_reducible first | exact fun h => h | refine ExE.row (by with_unfolding_all rfl) ?_ | refine And.intro ?_ ?_) | ((with_reducible intro hq); first | exact bne1 hq (by with_reducible assumption) | exact bne1 (by with_reducible assumption) hq | ((simp only [*, BB, cond_true, cond_false, reduceCtorEq] at hq); done) | (revert hq; with_reducible intro _)) | (with_reducible first | exact True.intro | rfl | refine EntLe.row ?_ | exact LeN.ro rfl | exact LeN.rptr | assumption) | ((with_reducible first | refine WkX.chk ?_ | refine Wk.chk ?_ | refine LeL.chk ?_ | refine LeF.chk ?_ | refine Run.mk ?_); (conv => whnf)) | ((with_reducible show LeO _ _); first | refine LeO.ro ?_ | refine LeO.roCap ?_ | refine LeO.nil ?_ (fun _ => rfl)) | ((with_reducible show LeR _ _ _); first | refine LeR.own rfl rfl rfl ?_ | refine LeR.view rfl rfl rfl ?_ ?_ | refine LeR.ro ?_ | refine LeR.roCap ?_ | refine LeR.nil ?_ (fun _ => rfl)) | ((with_reducible first | show drawOK _ _ = true | show lateOK _ _ = true | show drawOK2 _ _ = true | show drawOK3 _ _ = true); kernel_rfl)))
    all_goals rfl
  obtain ⟨x, o⟩ := i
  obtain ⟨hx, ho⟩ := hi
  rcases hx.out with hx1 | ⟨m, hx1, hx2, hx3⟩
  · subst hx1
    rw [wayOf_end _ _ (by omega)] at ho
    simp only [List.map_nil, List.append_nil] at ho
    repeat' (first | ((with_reducible show IsX _ _ _ _ _ _); first | (refine IsX.mk (by with_unfolding_all exact rfl) ?_ (RX.tupL (.cons (.own rfl) (.cons (.fro ?_) (.cons (.fro ?_) .nil))))) | (refine IsX.nil (fun _ => rfl) (by decide) ?_ (RX.tupL (.cons (.nil rfl) (.cons (.fro ?_) (.cons (.fro ?_) .nil)))))) | (with_reducible first | exact fun h => h | refine ExE.row (by with_unfolding_all rfl) ?_ | refine And.intro ?_ ?_) | ((with_reducible intro hq); first | exact bne1 hq (by with_reducible assumption) | exact bne1 (by with_reducible assumption) hq | ((simp only [*, BB, cond_true, cond_false, reduceCtorEq] at hq); done) | (revert hq; with_reducible intro _)) | (with_reducible first | exact True.intro | rfl | refine EntLe.row ?_ | exact LeN.ro rfl | exact LeN.rptr | assumption) | ((with_reducible first | refine WkX.chk ?_ | refine Wk.chk ?_ | refine LeL.chk ?_ | refine LeF.chk ?_ | refine Run.mk ?_); (conv => whnf)) | ((with_reducible show LeO _ _); first | refine LeO.ro ?_ | refine LeO.roCap ?_ | refine LeO.nil ?_ (fun _ => rfl)) | ((with_reducible show LeR _ _ _); first | refine LeR.own rfl rfl rfl ?_ | refine LeR.view rfl rfl rfl ?_ ?_ | refine LeR.ro ?_ | refine LeR.roCap ?_ | refine LeR.nil ?_ (fun _ => rfl)) | ((with_reducible first | show drawOK _ _ = true | show lateOK _ _ = true | show drawOK2 _ _ = true | show drawOK3 _ _ = true); kernel_rfl))
    all_goals first
      | omega
      | (exfalso; have h : decide ((0 : Int) ≤ -1) = true := by assumption
         exact absurd h (by decide))
      | (rw [htl]; omega)
      | (rw [htl]; dsimp only [Int.toNat]; omega)
      | (rw [hL]; exact ho)
      | exact ho.trans hL.symm
      | (rw [hB]; rfl)
      | exact hck.symm
  · subst hx1
    obtain ⟨hn1, hn2⟩ := Nx.next hg hx3 hx2
    rw [wayOf_step hg hx3 hx2, List.map_cons, List.append_cons] at ho
    have hol : o.length + 1 ≤ (plcs l (l.length + 1)).length := by rw [← ho] at hwl; simp at hwl; omega
    repeat' (first | ((with_reducible show IsX _ _ _ _ _ _); first | (refine IsX.mk (by with_unfolding_all exact rfl) ?_ (RX.tupL (.cons (.own rfl) (.cons (.fro ?_) (.cons (.fro ?_) .nil))))) | (refine IsX.nil (fun _ => rfl) (by decide) ?_ (RX.tupL (.cons (.nil rfl) (.cons (.fro ?_) (.cons (.fro ?_) .nil)))))) | (with_reducible first | refine ex_of (α := Int × List (Int × Int)) (_, _) ⟨⟨hn1, ho⟩, hn2⟩ ?_ | exact fun h => h | refine ExE.row (by with_unfolding_all rfl) ?_ | refine And.intro ?_ ?_) | ((with_reducible intro hq); first | exact bne1 hq (by with_reducible assumption) | exact bne1 (by with_reducible assumption) hq | ((simp only [*, BB, cond_true, cond_false, reduceCtorEq] at hq); done) | (revert hq; with_reducible intro _)) | (with_reducible first | exact True.intro | rfl | refine EntLe.row ?_ | exact LeN.ro rfl | exact LeN.rptr | assumption) | ((with_reducible first | refine WkX.chk ?_ | refine Wk.chk ?_ | refine LeL.chk ?_ | refine LeF.chk ?_ | refine Run.mk ?_); (conv => whnf)) | ((with_reducible show LeO _ _); first | refine LeO.ro ?_ | refine LeO.roCap ?_ | refine LeO.nil ?_ (fun _ => rfl)) | ((with_reducible show LeR _ _ _); first | refine LeR.own rfl rfl rfl ?_ | refine LeR.view rfl rfl rfl ?_ ?_ | refine LeR.ro ?_ | refine LeR.roCap ?_ | refine LeR.nil ?_ (fun _ => rfl)) | ((with_reducible first | show drawOK _ _ = true | show lateOK _ _ = true | show drawOK2 _ _ = true | show drawOK3 _ _ = true); kernel_rfl))
    all_goals first
      | omega
      | (exfalso; have h : decide ((0 : Int) ≤ (m : Int)) = false := by assumption
         simp at h; done)
      | rfl
      | (rw [outL_length]; omega)
      | (rw [htl]; omega)
      | (refine Fits.i64 ?_ ?_ <;> omega)
      | (simp only [List.length_cons, List.length_nil]; omega)
theorem con_wrap : Con prog 17 (fun ((s, width) : ByteArray × Int) => [.v (.string s), .v (.int .i64 width)]) (fun (s, width) => .tup [.ro 2 C_brk.enc C_brk.d (wrapL s width) none, .v (.int .i64 (wrapB s width)), .v (.int .i64 (checkN s.size width))]) (fun _ => True) :=
  conx_wrap.con fun (s, width) => by
    refine LeF.chk ?_
    (conv => whnf)
    repeat' (first | (with_reducible first | exact fun h => h | refine ExE.row (by with_unfolding_all rfl) ?_ | refine And.intro ?_ ?_) | ((with_reducible intro hq); first | exact bne1 hq (by with_reducible assumption) | exact bne1 (by with_reducible assumption) hq | ((simp only [*, BB, cond_true, cond_false, reduceCtorEq] at hq); done) | (revert hq; with_reducible intro _)) | (with_reducible first | exact True.intro | rfl | refine EntLe.row ?_ | exact LeN.ro rfl | exact LeN.rptr | assumption) | ((with_reducible first | refine WkX.chk ?_ | refine Wk.chk ?_ | refine LeL.chk ?_ | refine LeF.chk ?_ | refine Run.mk ?_); (conv => whnf)) | ((with_reducible show LeO _ _); first | refine LeO.ro ?_ | refine LeO.roCap ?_ | refine LeO.nil ?_ (fun _ => rfl)) | ((with_reducible show LeR _ _ _); first | refine LeR.own rfl rfl rfl ?_ | refine LeR.view rfl rfl rfl ?_ ?_ | refine LeR.ro ?_ | refine LeR.roCap ?_ | refine LeR.nil ?_ (fun _ => rfl)) | ((with_reducible first | show drawOK _ _ = true | show lateOK _ _ = true | show drawOK2 _ _ = true | show drawOK3 _ _ = true); kernel_rfl))
end Go.SX.Try
/- The lines of a way, told plainly. No program here. -/
namespace Go.SX.Plain
def brkAt (l : List Part) (p : Nat) : Int × Int := ((l.getD (p - 1) dPart).c.to, kindAt l p)
def lnL (l : List Part) : List Nat → List (Int × Int) → Nat → Option (List (List Part) × Bool)
  | [], way, frm => some ([l.drop frm], way.isEmpty)
  | p :: P, way, frm =>
    if way.head? = some (brkAt l p) then (lnL l P way.tail p).map fun x => ((l.drop frm).take (p - frm) :: x.1, x.2)
    else if kindAt l p = 1 then none else lnL l P way frm
def lnW (l : List Part) (way : List (Int × Int)) : Option (List (List Part) × Bool) := lnL l (plcs l (l.length + 1)) way 0
def linesL (s : ByteArray) (way : List (Int × Int)) : List (List Part) := ((lnW (parts s) way).map (·.1)).getD []
def linesB (s : ByteArray) (way : List (Int × Int)) : Bool := ((lnW (parts s) way).map (·.2)).getD false
section
variable {l : List Part} {P : List Nat} {way : List (Int × Int)} {k n frm : Nat}
theorem drop_cons_getD {α : Type} {P : List α} {k : Nat} (d : α) (h : k < P.length) : P.drop k = P.getD k d :: P.drop (k + 1) := by
  rw [List.drop_eq_getElem_cons h]
  simp [List.getD_eq_getElem?_getD, h]
theorem head_drop {x : Int × Int} : (way.drop n).head? = some x ↔ n < way.length ∧ way.getD n (0, 0) = x := by
  rw [List.head?_drop]
  constructor
  · intro h
    obtain ⟨h1, h2⟩ := List.getElem?_eq_some_iff.1 h
    exact ⟨h1, by simp [List.getD_eq_getElem?_getD, h1, h2]⟩
  · rintro ⟨h1, h2⟩
    rw [← h2]
    simp [List.getD_eq_getElem?_getD, h1]
theorem lnL_yes (hk : k < P.length) (hn : n < way.length) (he : way.getD n (0, 0) = brkAt l (P.getD k 0)) :
    lnL l (P.drop k) (way.drop n) frm = (lnL l (P.drop (k + 1)) (way.drop (n + 1)) (P.getD k 0)).map fun x => ((l.drop frm).take (P.getD k 0 - frm) :: x.1, x.2) := by
  rw [drop_cons_getD 0 hk, lnL, if_pos (head_drop.2 ⟨hn, he⟩), List.tail_drop]
theorem lnL_hard (hk : k < P.length) (hno : ¬ (n < way.length ∧ way.getD n (0, 0) = brkAt l (P.getD k 0))) (h1 : kindAt l (P.getD k 0) = 1) : lnL l (P.drop k) (way.drop n) frm = none := by
  rw [drop_cons_getD 0 hk, lnL, if_neg (fun h => hno (head_drop.1 h)), if_pos h1]
theorem lnL_on (hk : k < P.length) (hno : ¬ (n < way.length ∧ way.getD n (0, 0) = brkAt l (P.getD k 0))) (h1 : ¬ kindAt l (P.getD k 0) = 1) : lnL l (P.drop k) (way.drop n) frm = lnL l (P.drop (k + 1)) (way.drop n) frm := by
  rw [drop_cons_getD 0 hk, lnL, if_neg (fun h => hno (head_drop.1 h)), if_neg h1]
theorem lnL_end (hk : ¬ k < P.length) (hn : n ≤ way.length) : lnL l (P.drop k) (way.drop n) frm = some ([l.drop frm], decide (n = way.length)) := by
  rw [List.drop_eq_nil_of_le (by omega), lnL]
  congr 2
  rw [Bool.eq_iff_iff, List.isEmpty_iff, decide_eq_true_iff, List.drop_eq_nil_iff]
  omega
end
def trimGo (l : List Part) : Nat → Nat
  | 0 => 0
  | n + 1 => if (l.getD n dPart).blank = true then trimGo l n else n + 1
def trimN (l : List Part) : Nat := trimGo l (if 0 < l.length ∧ (l.getD (l.length - 1) dPart).fin = true then l.length - 1 else l.length)
def trimL (l : List Part) : List Part := l.take (trimN l)
theorem trimGo_le (l : List Part) : ∀ n, trimGo l n ≤ n
  | 0 => Nat.le_refl _
  | n + 1 => by
    simp only [trimGo]
    split
    · have := trimGo_le l n; omega
    · omega
def sumC (l : List Part) (k : Nat) : Int := ((l.take k).map fun p => p.c.cells).sum
def cellsL (l : List Part) : Int := sumC (trimL l) (trimL l).length
theorem Small.take {l : List Part} (h : Small l) (n : Nat) : Small (l.take n) := fun p hp => h p (List.mem_of_mem_take hp)
theorem Small.drop {l : List Part} (h : Small l) (n : Nat) : Small (l.drop n) := fun p hp => h p (List.mem_of_mem_drop hp)
theorem trimN_le (l : List Part) : trimN l ≤ l.length := by
  unfold trimN
  split
  · have := trimGo_le l (l.length - 1)
    omega
  · exact trimGo_le l l.length
theorem trimL_len (l : List Part) : (trimL l).length = trimN l := by
  unfold trimL
  have := trimN_le l
  simp; omega
end Go.SX.Plain
/- Contracts of wrap's lines, trimmed, cells. -/
namespace Go.SX.Try
open Go.Proofs Go.Proofs.Try Go.SX.Plain
set_option maxRecDepth 100000
set_option maxHeartbeats 0
set_option linter.unusedSimpArgs false
theorem q_lines : fact 27 f27 := ⟨by kernel_rfl, rfl, by kernel_rfl⟩
theorem q_trimmed : fact 28 f28 := ⟨by kernel_rfl, rfl, by kernel_rfl⟩
def C_parts : Cdc (List Part) where
  size := 1
  enc l := [.ro 12 C_part.enc C_part.d l none]
  dec _ := []
  d := []
  sl := true
def D_lin : Cds := [(60, ⟨List Part, C_parts⟩)]
theorem D_lin_ok : CdsOK T D_lin := .cons ⟨fun _ => rfl, by decide, _, rfl, rfl, by decide⟩ .nil
theorem con_lines : Con prog 27 (fun ((s, way) : ByteArray × List (Int × Int)) => [.v (.string s), .ro 2 C_brk.enc C_brk.d way none true])
    (fun (s, way) => .tup [.ro 1 C_parts.enc C_parts.d (linesL s way) none, .sb (linesB s way)]) (fun (s, _) => s.size ≤ 100000) := by
  refine Con.of (by kernel_rfl) T_ok D_lin_ok (.con con_parts (.con con_places .nil)) 3 [] q_lines.1 q_lines.2.1 q_lines.2.2 (fun _ => rfl) fun i hi => ?_
  obtain ⟨s, way⟩ := i
  have hsz : s.size ≤ 100000 := hi
  have hpl := parts_len s
  repeat' (first | (with_reducible first | refine ⟨_, ⟨(.cons (.v _) .nil), ?_⟩, ?_⟩ | refine ⟨_, ⟨(.cons (.ro _ _ _ _ _) .nil), ?_⟩, ?_⟩ | exact fun h => h | refine ExE.row (by with_unfolding_all rfl) ?_ | refine And.intro ?_ ?_) | ((with_reducible intro hq); first | exact bne1 hq (by with_reducible assumption) | exact bne1 (by with_reducible assumption) hq | ((simp only [*, BB, cond_true, cond_false, reduceCtorEq] at hq); done) | (revert hq; with_reducible intro _)) | (with_reducible first | exact True.intro | rfl | refine EntLe.row ?_ | exact LeN.ro rfl | exact LeN.rptr | assumption) | ((with_reducible first | refine WkX.chk ?_ | refine Wk.chk ?_ | refine LeL.chk ?_ | refine LeF.chk ?_ | refine Run.mk ?_); (conv => whnf)) | ((with_reducible show LeO _ _); first | refine LeO.ro ?_ | refine LeO.roCap ?_ | refine LeO.nil ?_ (fun _ => rfl)) | ((with_reducible show LeR _ _ _); first | refine LeR.own rfl rfl rfl ?_ | refine LeR.view rfl rfl rfl ?_ ?_ | refine LeR.ro ?_ | refine LeR.roCap ?_ | refine LeR.nil ?_ (fun _ => rfl)) | ((with_reducible first | show drawOK _ _ = true | show lateOK _ _ = true | show drawOK2 _ _ = true | show drawOK3 _ _ = true); kernel_rfl))
  any_goals (dsimp only; omega)
  have hLL : linesL s way = ((lnW (Plain.parts s) way).map (·.1)).getD [] := rfl
  have hLB : linesB s way = ((lnW (Plain.parts s) way).map (·.2)).getD false := rfl
  revert hpl hLL hLB
  generalize Plain.parts s = l
  intro hpl hLL hLB
  have hW : lnW l way = lnL l (plcs l (l.length + 1)) way 0 := rfl
  have hat : (atL l (l.length + 1)).length = (plcs l (l.length + 1)).length := atL_length _ _
  have hout : (outL l (l.length + 1)).length = (plcs l (l.length + 1)).length := outL_length _ _
  have hpn := plcs_len l (l.length + 1)
  have hat2 : ∀ i, (atL l (l.length + 1)).getD i 0 = ((plcs l (l.length + 1)).getD i 0 : Nat) := fun i => atL_getD _ _ i
  have hout2 : ∀ i, i < (plcs l (l.length + 1)).length → (outL l (l.length + 1)).getD i (0, 0) = brkAt l ((plcs l (l.length + 1)).getD i 0) := fun i hi => outL_getD hi
  have hple : ∀ i, i < (plcs l (l.length + 1)).length → (plcs l (l.length + 1)).getD i 0 < l.length + 1 := fun i hi => (plcs_le hi).1
  have hso : ∀ i j, i < j → j < (plcs l (l.length + 1)).length → (plcs l (l.length + 1)).getD i 0 < (plcs l (l.length + 1)).getD j 0 := fun i j h1 h2 => sorted_lt (plcs_sorted _ _) h1 h2
  revert hW hat hout hpn hat2 hout2 hple hso
  generalize plcs l (l.length + 1) = P
  generalize atL l (l.length + 1) = AT
  generalize outL l (l.length + 1) = OUT
  intro hW hat hout hpn hat2 hout2 hple hso
  have e1 : C_brk.d = (0, 0) := rfl
  have e2 : C_int.d = 0 := rfl
  refine loopI (Int × List (List Part) × Int × Int) [] (fun | (k, o, frm, n) => [(23, .v (.int .i64 k)), (9, .own 1), (10, .v (.int .i64 frm)), (11, .v (.int .i64 n))]) (fun | (_, o, _, _) => [(1, .row C_parts o 60 none)])
    (fun | (k, o, frm, n) => (0 ≤ k ∧ k ≤ P.length ∧ 0 ≤ n ∧ n ≤ way.length ∧ n ≤ k ∧ (o.length : Int) = n ∧ 0 ≤ frm ∧ frm ≤ l.length ∧ ∀ j, k.toNat ≤ j → j < P.length → frm ≤ P.getD j 0) ∧ (lnL l (P.drop k.toNat) (way.drop n.toNat) frm.toNat).map (fun x => (o ++ x.1, x.2)) = lnW l way)
    (fun | (k, _, _, _) => (P.length - k).toNat) (0, [], 0, 0) ⟨⟨by omega, by omega, by omega, by omega, by omega, rfl, by omega, by omega, fun _ _ _ => by omega⟩, by rw [hW]; simp⟩ (Wk.chk ?_) fun i hi => ?_
  · ((conv => whnf); repeat' (first | (with_reducible first | exact fun h => h | refine ExE.row (by with_unfolding_all rfl) ?_ | refine And.intro ?_ ?_) | ((with_reducible intro hq); first | exact bne1 hq (by with_reducible assumption) | exact bne1 (by with_reducible assumption) hq | ((simp only [*, BB, cond_true, cond_false, reduceCtorEq] at hq); done) | (revert hq; with_reducible intro _)) | (with_reducible first | exact True.intro | rfl | refine EntLe.row ?_ | exact LeN.ro rfl | exact LeN.rptr | assumption) | ((with_reducible first | refine WkX.chk ?_ | refine Wk.chk ?_ | refine LeL.chk ?_ | refine LeF.chk ?_ | refine Run.mk ?_); (conv => whnf)) | ((with_reducible show LeO _ _); first | refine LeO.ro ?_ | refine LeO.roCap ?_ | refine LeO.nil ?_ (fun _ => rfl)) | ((with_reducible show LeR _ _ _); first | refine LeR.own rfl rfl rfl ?_ | refine LeR.view rfl rfl rfl ?_ ?_ | refine LeR.ro ?_ | refine LeR.roCap ?_ | refine LeR.nil ?_ (fun _ => rfl)) | ((with_reducible first | show drawOK _ _ = true | show lateOK _ _ = true | show drawOK2 _ _ = true | show drawOK3 _ _ = true); kernel_rfl)))
    all_goals rfl
  obtain ⟨k, o, frm, n⟩ := i
  obtain ⟨⟨hk0, hk, hn0, hn, hnk, ho, hf0, hf, hfj⟩, hI⟩ := hi
  obtain ⟨k, rfl⟩ := Int.eq_ofNat_of_zero_le hk0
  obtain ⟨n, rfl⟩ := Int.eq_ofNat_of_zero_le hn0
  obtain ⟨frm, rfl⟩ := Int.eq_ofNat_of_zero_le hf0
  have e3 : ((k : Int)).toNat = k := Int.toNat_natCast _
  have e4 : ((n : Int)).toNat = n := Int.toNat_natCast _
  have e5 : ((frm : Int)).toNat = frm := Int.toNat_natCast _
  have e6 : ((k : Int) + 1).toNat = k + 1 := by omega
  have e7 : ((n : Int) + 1).toNat = n + 1 := by omega
  have e8 : ((P.getD k 0 : Nat) : Int).toNat = P.getD k 0 := Int.toNat_natCast _
  simp only [e3, e4, e5] at hI hfj
  have hPk := hple k
  have hAk := hat2 k
  have hOk := hout2 k
  have hfk := hfj k (Nat.le_refl _)
  have hfn : k < P.length → ∀ j, k + 1 ≤ j → j < P.length → P.getD k 0 < P.getD j 0 := fun _ j h1 h2 => hso k j (by omega) h2
  have sy : k < P.length → n < way.length → way.getD n (0, 0) = brkAt l (P.getD k 0) → (lnL l (P.drop (k + 1)) (way.drop (n + 1)) (P.getD k 0)).map (fun x => ((o ++ [(l.drop frm).take (P.getD k 0 - frm)]) ++ x.1, x.2)) = lnW l way := fun h1 h2 h3 => by
    rw [lnL_yes h1 h2 h3] at hI
    rw [← hI, Option.map_map]
    congr 1
    funext x
    simp
  have sn : k < P.length → ¬ (n < way.length ∧ way.getD n (0, 0) = brkAt l (P.getD k 0)) → ¬ (brkAt l (P.getD k 0)).2 = 1 → (lnL l (P.drop (k + 1)) (way.drop n) frm).map (fun x => (o ++ x.1, x.2)) = lnW l way := fun h1 h2 h3 => by
    rw [lnL_on h1 h2 h3] at hI
    exact hI
  have sh : k < P.length → ¬ (n < way.length ∧ way.getD n (0, 0) = brkAt l (P.getD k 0)) → (brkAt l (P.getD k 0)).2 = 1 → lnW l way = none := fun h1 h2 h3 => by
    rw [lnL_hard h1 h2 h3] at hI
    rw [← hI]
    rfl
  have se : ¬ k < P.length → lnW l way = some (o ++ [l.drop frm], decide (n = way.length)) := fun h1 => by
    rw [lnL_end h1 (by omega)] at hI
    exact hI.symm
  have hno : ∀ {b : Int × Int}, (decide ((n : Int) < (way.length : Int)) && ((way.getD n (0, 0)).1 == b.1 && (way.getD n (0, 0)).2 == b.2)) = false → ¬ (n < way.length ∧ way.getD n (0, 0) = b) := fun h => by
    rintro ⟨h1, h2⟩
    rw [h2] at h
    simp at h
    omega
  have hyes : ∀ {b : Int × Int}, (decide ((n : Int) < (way.length : Int)) && ((way.getD n (0, 0)).1 == b.1 && (way.getD n (0, 0)).2 == b.2)) = true → n < way.length ∧ way.getD n (0, 0) = b := fun h => by
    simp only [Bool.and_eq_true, decide_eq_true_eq, beq_iff_eq] at h
    exact ⟨by omega, Prod.ext h.2.1 h.2.2⟩
  by_cases hkP : k < P.length
  case neg =>
    have hx := se hkP
    rw [hx] at hLL hLB
    repeat' (first | (with_reducible first | refine ex_of (α := Int × List (List Part) × Int × Int) ((k : Int) + 1, o, (frm : Int), (n : Int)) ⟨⟨⟨?_, ?_, ?_, ?_, ?_, ?_, ?_, ?_, ?_⟩, ?_⟩, ?_⟩ ?_ | exact fun h => h | refine ExE.row (by with_unfolding_all rfl) ?_ | refine And.intro ?_ ?_) | ((with_reducible intro hq); first | exact bne1 hq (by with_reducible assumption) | exact bne1 (by with_reducible assumption) hq | ((simp only [*, BB, cond_true, cond_false, reduceCtorEq] at hq); done) | (revert hq; with_reducible intro _)) | (with_reducible first | exact True.intro | rfl | refine EntLe.row ?_ | exact LeN.ro rfl | exact LeN.rptr | assumption) | ((with_reducible first | refine WkX.chk ?_ | refine Wk.chk ?_ | refine LeL.chk ?_ | refine LeF.chk ?_ | refine Run.mk ?_); (conv => whnf)) | ((with_reducible show LeO _ _); first | refine LeO.ro ?_ | refine LeO.roCap ?_ | refine LeO.nil ?_ (fun _ => rfl)) | ((with_reducible show LeR _ _ _); first | refine LeR.own rfl rfl rfl ?_ | refine LeR.view rfl rfl rfl ?_ ?_ | refine LeR.ro ?_ | refine LeR.roCap ?_ | refine LeR.nil ?_ (fun _ => rfl)) | ((with_reducible first | show drawOK _ _ = true | show lateOK _ _ = true | show drawOK2 _ _ = true | show drawOK3 _ _ = true); kernel_rfl))
    all_goals first
      | (exfalso; simp only [decide_eq_true_eq] at *; omega)
      | (simp only [decide_eq_false_iff_not, e5] at *; omega)
      | (simp only [List.length_cons, List.length_nil, e5] at *; omega)
      | (rw [hLL, e5]; rfl)
      | (rw [hLB]; rw [Bool.eq_iff_iff]; simp; omega)
      | trace_state
  have hOk' := hOk hkP
  by_cases hc : n < way.length ∧ way.getD n (0, 0) = brkAt l (P.getD k 0)
  · have hy := sy hkP hc.1 hc.2
    have hn1 := hc.1
    repeat' (first | (with_reducible first | refine ex_of (α := Int × List (List Part) × Int × Int) ((k : Int) + 1, o ++ [(l.drop frm).take (P.getD k 0 - frm)], ((P.getD k 0 : Nat) : Int), (n : Int) + 1) ⟨⟨⟨?_, ?_, ?_, ?_, ?_, ?_, ?_, ?_, ?_⟩, ?_⟩, ?_⟩ ?_ | exact fun h => h | refine ExE.row (by with_unfolding_all rfl) ?_ | refine And.intro ?_ ?_) | ((with_reducible intro hq); first | exact bne1 hq (by with_reducible assumption) | exact bne1 (by with_reducible assumption) hq | ((simp only [*, BB, cond_true, cond_false, reduceCtorEq] at hq); done) | (revert hq; with_reducible intro _)) | (with_reducible first | exact True.intro | rfl | refine EntLe.row ?_ | exact LeN.ro rfl | exact LeN.rptr | assumption) | ((with_reducible first | refine WkX.chk ?_ | refine Wk.chk ?_ | refine LeL.chk ?_ | refine LeF.chk ?_ | refine Run.mk ?_); (conv => whnf)) | ((with_reducible show LeO _ _); first | refine LeO.ro ?_ | refine LeO.roCap ?_ | refine LeO.nil ?_ (fun _ => rfl)) | ((with_reducible show LeR _ _ _); first | refine LeR.own rfl rfl rfl ?_ | refine LeR.view rfl rfl rfl ?_ ?_ | refine LeR.ro ?_ | refine LeR.roCap ?_ | refine LeR.nil ?_ (fun _ => rfl)) | ((with_reducible first | show drawOK _ _ = true | show lateOK _ _ = true | show drawOK2 _ _ = true | show drawOK3 _ _ = true); kernel_rfl))
    all_goals first
      | (exfalso; simp only [e1, e3, e4, hOk'] at *; exact hno (by assumption) hc)
      | (simp only [e1, e2, e3, e4, e5, e6, e7, e8, hAk, decide_eq_true_eq, decide_eq_false_iff_not, List.length_append, List.length_cons, List.length_nil] at *; first | omega | (apply Fits.i64 <;> omega) | rfl | exact hy | (have := hfn hkP _ (by assumption) (by assumption); omega))
      | (simp only [e2, e3, e5, e8, hAk]; done)
      | trace_state
  · have hz := hyes (b := brkAt l (P.getD k 0))
    have hs : ((brkAt l (P.getD k 0)).2 == 1) = false → _ := fun h => sn hkP hc (by simpa using h)
    repeat' (first | (with_reducible first | refine ex_of (α := Int × List (List Part) × Int × Int) ((k : Int) + 1, o, (frm : Int), (n : Int)) ⟨⟨⟨?_, ?_, ?_, ?_, ?_, ?_, ?_, ?_, ?_⟩, ?_⟩, ?_⟩ ?_ | exact fun h => h | refine ExE.row (by with_unfolding_all rfl) ?_ | refine And.intro ?_ ?_) | ((with_reducible intro hq); first | exact bne1 hq (by with_reducible assumption) | exact bne1 (by with_reducible assumption) hq | ((simp only [*, BB, cond_true, cond_false, reduceCtorEq] at hq); done) | (revert hq; with_reducible intro _)) | (with_reducible first | exact True.intro | rfl | refine EntLe.row ?_ | exact LeN.ro rfl | exact LeN.rptr | assumption) | ((with_reducible first | refine WkX.chk ?_ | refine Wk.chk ?_ | refine LeL.chk ?_ | refine LeF.chk ?_ | refine Run.mk ?_); (conv => whnf)) | ((with_reducible show LeO _ _); first | refine LeO.ro ?_ | refine LeO.roCap ?_ | refine LeO.nil ?_ (fun _ => rfl)) | ((with_reducible show LeR _ _ _); first | refine LeR.own rfl rfl rfl ?_ | refine LeR.view rfl rfl rfl ?_ ?_ | refine LeR.ro ?_ | refine LeR.roCap ?_ | refine LeR.nil ?_ (fun _ => rfl)) | ((with_reducible first | show drawOK _ _ = true | show lateOK _ _ = true | show drawOK2 _ _ = true | show drawOK3 _ _ = true); kernel_rfl))
    all_goals first
      | (exfalso; simp only [e1, e3, e4, hOk'] at *; exact hc (hz (by assumption)))
      | (rw [hLL, sh hkP hc (by simp only [e1, e3, hOk', beq_iff_eq] at *; assumption)]; rfl)
      | (rw [hLB, sh hkP hc (by simp only [e1, e3, hOk', beq_iff_eq] at *; assumption)]; rfl)
      | (simp only [e1, e2, e3, e4, e5, e6, e7, e8, hAk, decide_eq_true_eq, decide_eq_false_iff_not, List.length_append, List.length_cons, List.length_nil] at *; first | omega | (apply Fits.i64 <;> omega) | rfl | (exact hfj _ (by omega) (by assumption)))
      | (simp only [e1, e3, e4, e5, e6, hOk'] at *; exact hs (by assumption))
      | trace_state
end Go.SX.Try
/- Contracts of wrap's trimmed, cells. -/
namespace Go.SX.Try
open Go.Proofs Go.Proofs.Try Go.SX.Plain
set_option maxRecDepth 100000
set_option maxHeartbeats 0
set_option linter.unusedSimpArgs false
theorem con_trimmed : Con prog 28 (fun l : List Part => [.ro 12 C_part.enc C_part.d l none]) (fun l => .ro 12 C_part.enc C_part.d (trimL l) none) (fun l => l.length ≤ 100000) := by
  refine Con.of (by kernel_rfl) T_ok CdsOK.nil .nil 3 [] q_trimmed.1 q_trimmed.2.1 q_trimmed.2.2 (fun _ => rfl) fun l hi => ?_
  have hl : l.length ≤ 100000 := hi
  have hd : C_part.d = dPart := rfl
  have e0 : ((l.length : Int) - 1).toNat = l.length - 1 := by omega
  have hpos : (decide (0 < (l.length : Int)) && (l.getD (l.length - 1) dPart).fin) = true → 0 < l.length ∧ (l.getD (l.length - 1) dPart).fin = true := fun h => by
    simp only [Bool.and_eq_true, decide_eq_true_eq] at h
    exact ⟨by omega, h.2⟩
  have hneg : (decide (0 < (l.length : Int)) && (l.getD (l.length - 1) dPart).fin) = false → ¬ (0 < l.length ∧ (l.getD (l.length - 1) dPart).fin = true) := fun h => by
    rintro ⟨h1, h2⟩
    rw [h2] at h
    simp only [Bool.and_true, decide_eq_false_iff_not] at h
    omega
  have step : ∀ n : Nat, trimGo l (n + 1) = if (l.getD n dPart).blank = true then trimGo l n else n + 1 := fun n => rfl
  repeat' (first | (with_reducible first | exact fun h => h | refine ExE.row (by with_unfolding_all rfl) ?_ | refine And.intro ?_ ?_) | ((with_reducible intro hq); first | exact bne1 hq (by with_reducible assumption) | exact bne1 (by with_reducible assumption) hq | ((simp only [*, BB, cond_true, cond_false, reduceCtorEq] at hq); done) | (revert hq; with_reducible intro _)) | (with_reducible first | exact True.intro | rfl | refine EntLe.row ?_ | exact LeN.ro rfl | exact LeN.rptr | assumption) | ((with_reducible first | refine WkX.chk ?_ | refine Wk.chk ?_ | refine LeL.chk ?_ | refine LeF.chk ?_ | refine Run.mk ?_); (conv => whnf)) | ((with_reducible show LeO _ _); first | refine LeO.ro ?_ | refine LeO.roCap ?_ | refine LeO.nil ?_ (fun _ => rfl)) | ((with_reducible show LeR _ _ _); first | refine LeR.own rfl rfl rfl ?_ | refine LeR.view rfl rfl rfl ?_ ?_ | refine LeR.ro ?_ | refine LeR.roCap ?_ | refine LeR.nil ?_ (fun _ => rfl)) | ((with_reducible first | show drawOK _ _ = true | show lateOK _ _ = true | show drawOK2 _ _ = true | show drawOK3 _ _ = true); kernel_rfl))
  any_goals (first | omega | (simp only [decide_eq_true_eq, Bool.and_eq_true] at *; first | omega | (apply Fits.i64 <;> omega)))
  · have hq : (decide (0 < (l.length : Int)) && (l.getD ((l.length : Int) - 1).toNat C_part.d).fin) = true := by assumption
    rw [e0, hd] at hq
    refine loopI Int [] (fun n => [(3, .v (.int .i64 n))]) (fun _ => []) (fun n => (0 ≤ n ∧ n ≤ l.length) ∧ trimGo l n.toNat = trimN l) (fun n => n.toNat) ((l.length : Int) - 1) ⟨⟨by have := (hpos hq).1; omega, by omega⟩, by unfold trimN; rw [if_pos (hpos hq), e0]⟩ (Wk.chk ?_) fun n hn => ?_
    · ((conv => whnf); repeat' (first | (with_reducible first | exact fun h => h | refine ExE.row (by with_unfolding_all rfl) ?_ | refine And.intro ?_ ?_) | ((with_reducible intro hq); first | exact bne1 hq (by with_reducible assumption) | exact bne1 (by with_reducible assumption) hq | ((simp only [*, BB, cond_true, cond_false, reduceCtorEq] at hq); done) | (revert hq; with_reducible intro _)) | (with_reducible first | exact True.intro | rfl | refine EntLe.row ?_ | exact LeN.ro rfl | exact LeN.rptr | assumption) | ((with_reducible first | refine WkX.chk ?_ | refine Wk.chk ?_ | refine LeL.chk ?_ | refine LeF.chk ?_ | refine Run.mk ?_); (conv => whnf)) | ((with_reducible show LeO _ _); first | refine LeO.ro ?_ | refine LeO.roCap ?_ | refine LeO.nil ?_ (fun _ => rfl)) | ((with_reducible show LeR _ _ _); first | refine LeR.own rfl rfl rfl ?_ | refine LeR.view rfl rfl rfl ?_ ?_ | refine LeR.ro ?_ | refine LeR.roCap ?_ | refine LeR.nil ?_ (fun _ => rfl)) | ((with_reducible first | show drawOK _ _ = true | show lateOK _ _ = true | show drawOK2 _ _ = true | show drawOK3 _ _ = true); kernel_rfl)))
      all_goals rfl
    obtain ⟨⟨h1, h2⟩, h3⟩ := hn
    obtain ⟨n, rfl⟩ := Int.eq_ofNat_of_zero_le h1
    have e1 : ((n : Int) - 1).toNat = n - 1 := by omega
    have e2 : ((n : Int)).toNat = n := Int.toNat_natCast _
    have e3 : (0 : Int).toNat = 0 := rfl
    rw [e2] at h3
    have stepY : 0 < n → (l.getD (n - 1) dPart).blank = true → trimGo l (n - 1) = trimN l := fun h hb => by
      obtain ⟨m, rfl⟩ : ∃ m, n = m + 1 := ⟨n - 1, by omega⟩
      rw [step, if_pos (by simpa using hb)] at h3
      simpa using h3
    have stepN : 0 < n → ¬ (l.getD (n - 1) dPart).blank = true → n = trimN l := fun h hb => by
      obtain ⟨m, rfl⟩ : ∃ m, n = m + 1 := ⟨n - 1, by omega⟩
      rw [step, if_neg (by simpa using hb)] at h3
      exact h3
    have step0 : ¬ 0 < n → n = trimN l := fun h => by
      obtain rfl : n = 0 := by omega
      exact h3
    have stepE : (decide (0 < (n : Int)) && (l.getD (n - 1) dPart).blank) = false → n = trimN l := fun h => by
      by_cases h0 : 0 < n
      · exact stepN h0 (by intro hb; rw [hb] at h; simp at h; omega)
      · exact step0 h0
    repeat' (first | (with_reducible first | refine ex_of (α := Int) ((n : Int) - 1) ⟨⟨⟨?_, ?_⟩, ?_⟩, ?_⟩ ?_ | exact fun h => h | refine ExE.row (by with_unfolding_all rfl) ?_ | refine And.intro ?_ ?_) | ((with_reducible intro hq); first | exact bne1 hq (by with_reducible assumption) | exact bne1 (by with_reducible assumption) hq | ((simp only [*, BB, cond_true, cond_false, reduceCtorEq] at hq); done) | (revert hq; with_reducible intro _)) | (with_reducible first | exact True.intro | rfl | refine EntLe.row ?_ | exact LeN.ro rfl | exact LeN.rptr | assumption) | ((with_reducible first | refine WkX.chk ?_ | refine Wk.chk ?_ | refine LeL.chk ?_ | refine LeF.chk ?_ | refine Run.mk ?_); (conv => whnf)) | ((with_reducible show LeO _ _); first | refine LeO.ro ?_ | refine LeO.roCap ?_ | refine LeO.nil ?_ (fun _ => rfl)) | ((with_reducible show LeR _ _ _); first | refine LeR.own rfl rfl rfl ?_ | refine LeR.view rfl rfl rfl ?_ ?_ | refine LeR.ro ?_ | refine LeR.roCap ?_ | refine LeR.nil ?_ (fun _ => rfl)) | ((with_reducible first | show drawOK _ _ = true | show lateOK _ _ = true | show drawOK2 _ _ = true | show drawOK3 _ _ = true); kernel_rfl))
    all_goals first
      | omega
      | (simp only [decide_eq_true_eq, Bool.and_eq_true, e1, hd] at *; first | omega | (apply Fits.i64 <;> omega) | (exact stepY (by omega) (by simp_all)) )
      | (have hx := stepE (by simp only [e1, hd] at *; assumption); unfold trimL; rw [← hx]; simp [e2, e3]; done)
      | trace_state
  · have hq : (decide (0 < (l.length : Int)) && (l.getD ((l.length : Int) - 1).toNat C_part.d).fin) = false := by assumption
    rw [e0, hd] at hq
    refine loopI Int [] (fun n => [(3, .v (.int .i64 n))]) (fun _ => []) (fun n => (0 ≤ n ∧ n ≤ l.length) ∧ trimGo l n.toNat = trimN l) (fun n => n.toNat) ((l.length : Int)) ⟨⟨by omega, by omega⟩, by unfold trimN; rw [if_neg (hneg hq), Int.toNat_natCast]⟩ (Wk.chk ?_) fun n hn => ?_
    · ((conv => whnf); repeat' (first | (with_reducible first | exact fun h => h | refine ExE.row (by with_unfolding_all rfl) ?_ | refine And.intro ?_ ?_) | ((with_reducible intro hq); first | exact bne1 hq (by with_reducible assumption) | exact bne1 (by with_reducible assumption) hq | ((simp only [*, BB, cond_true, cond_false, reduceCtorEq] at hq); done) | (revert hq; with_reducible intro _)) | (with_reducible first | exact True.intro | rfl | refine EntLe.row ?_ | exact LeN.ro rfl | exact LeN.rptr | assumption) | ((with_reducible first | refine WkX.chk ?_ | refine Wk.chk ?_ | refine LeL.chk ?_ | refine LeF.chk ?_ | refine Run.mk ?_); (conv => whnf)) | ((with_reducible show LeO _ _); first | refine LeO.ro ?_ | refine LeO.roCap ?_ | refine LeO.nil ?_ (fun _ => rfl)) | ((with_reducible show LeR _ _ _); first | refine LeR.own rfl rfl rfl ?_ | refine LeR.view rfl rfl rfl ?_ ?_ | refine LeR.ro ?_ | refine LeR.roCap ?_ | refine LeR.nil ?_ (fun _ => rfl)) | ((with_reducible first | show drawOK _ _ = true | show lateOK _ _ = true | show drawOK2 _ _ = true | show drawOK3 _ _ = true); kernel_rfl)))
      all_goals rfl
    obtain ⟨⟨h1, h2⟩, h3⟩ := hn
    obtain ⟨n, rfl⟩ := Int.eq_ofNat_of_zero_le h1
    have e1 : ((n : Int) - 1).toNat = n - 1 := by omega
    have e2 : ((n : Int)).toNat = n := Int.toNat_natCast _
    have e3 : (0 : Int).toNat = 0 := rfl
    rw [e2] at h3
    have stepY : 0 < n → (l.getD (n - 1) dPart).blank = true → trimGo l (n - 1) = trimN l := fun h hb => by
      obtain ⟨m, rfl⟩ : ∃ m, n = m + 1 := ⟨n - 1, by omega⟩
      rw [step, if_pos (by simpa using hb)] at h3
      simpa using h3
    have stepN : 0 < n → ¬ (l.getD (n - 1) dPart).blank = true → n = trimN l := fun h hb => by
      obtain ⟨m, rfl⟩ : ∃ m, n = m + 1 := ⟨n - 1, by omega⟩
      rw [step, if_neg (by simpa using hb)] at h3
      exact h3
    have step0 : ¬ 0 < n → n = trimN l := fun h => by
      obtain rfl : n = 0 := by omega
      exact h3
    have stepE : (decide (0 < (n : Int)) && (l.getD (n - 1) dPart).blank) = false → n = trimN l := fun h => by
      by_cases h0 : 0 < n
      · exact stepN h0 (by intro hb; rw [hb] at h; simp at h; omega)
      · exact step0 h0
    repeat' (first | (with_reducible first | refine ex_of (α := Int) ((n : Int) - 1) ⟨⟨⟨?_, ?_⟩, ?_⟩, ?_⟩ ?_ | exact fun h => h | refine ExE.row (by with_unfolding_all rfl) ?_ | refine And.intro ?_ ?_) | ((with_reducible intro hq); first | exact bne1 hq (by with_reducible assumption) | exact bne1 (by with_reducible assumption) hq | ((simp only [*, BB, cond_true, cond_false, reduceCtorEq] at hq); done) | (revert hq; with_reducible intro _)) | (with_reducible first | exact True.intro | rfl | refine EntLe.row ?_ | exact LeN.ro rfl | exact LeN.rptr | assumption) | ((with_reducible first | refine WkX.chk ?_ | refine Wk.chk ?_ | refine LeL.chk ?_ | refine LeF.chk ?_ | refine Run.mk ?_); (conv => whnf)) | ((with_reducible show LeO _ _); first | refine LeO.ro ?_ | refine LeO.roCap ?_ | refine LeO.nil ?_ (fun _ => rfl)) | ((with_reducible show LeR _ _ _); first | refine LeR.own rfl rfl rfl ?_ | refine LeR.view rfl rfl rfl ?_ ?_ | refine LeR.ro ?_ | refine LeR.roCap ?_ | refine LeR.nil ?_ (fun _ => rfl)) | ((with_reducible first | show drawOK _ _ = true | show lateOK _ _ = true | show drawOK2 _ _ = true | show drawOK3 _ _ = true); kernel_rfl))
    all_goals first
      | omega
      | (simp only [decide_eq_true_eq, Bool.and_eq_true, e1, hd] at *; first | omega | (apply Fits.i64 <;> omega) | (exact stepY (by omega) (by simp_all)) )
      | (have hx := stepE (by simp only [e1, hd] at *; assumption); unfold trimL; rw [← hx]; simp [e2, e3]; done)
      | trace_state
end Go.SX.Try
/- A verified symbolic executor for Go code in the model: the order of what is remembered does not matter; a row takes another one's name. -/
namespace Go.SX
open Go.RowKit
def insM (p : Nat × Ent) : Mem → Mem
  | [] => [p]
  | q :: r => match Nat.ble q.1 p.1 with
    | true => p :: q :: r
    | false => q :: insM p r
def ordMem : Mem → Mem
  | [] => []
  | p :: r => insM p (ordMem r)
theorem insM_perm (p : Nat × Ent) : ∀ m : Mem, (p :: m).Perm (insM p m)
  | [] => List.Perm.refl _
  | q :: r => by
    simp only [insM]
    cases Nat.ble q.1 p.1 with
    | true => exact List.Perm.refl _
    | false => exact (List.Perm.swap q p r).trans (List.Perm.cons q (insM_perm p r))
theorem ordMem_perm : ∀ m : Mem, m.Perm (ordMem m)
  | [] => List.Perm.refl _
  | p :: r => (List.Perm.cons p (ordMem_perm r)).trans (insM_perm p _)
def ordS (A : Sta) : Sta := match A with
  | ⟨fr, stk, m, nx⟩ => ⟨fr, stk, ordMem m, nx⟩
theorem Wk.ord (A : Sta) : Wk A (ordS A) := ⟨fun base w0 E gs tm w hnx hS => by
  obtain ⟨fr, stk, m, nx⟩ := A
  exact ⟨E, hnx, hS.perm (ordMem_perm m)⟩⟩
theorem ex_moveO {α : Type} {P : α → Prop} {A : Sta} {S : α → Sta} (a : α) (i j : Nat) (hij : Nat.beq i j = false) {β β' : Type} {C : Cdc β} {l : List β} {t : Nat} {cap : Option Nat} {C' : Cdc β'} {l' : List β'} {t' : Nat} {cap' : Option Nat} (hi : getE A.m i = some (.row C' l' t' cap')) (hj : getE A.m j = some (.row C l t cap)) (h : P a) (h2 : Wk (ordS (moveS i j A)) (S a)) : ∃ j, P j ∧ Wk A (S j) :=
  ⟨a, h, ((Wk.move hij hi hj).trans (Wk.ord _)).trans h2⟩
end Go.SX
/- The document's pieces (chapter 10), plainly. No program here. -/
namespace Go.SX.Plain
structure Pc where
  r : Int
  frm : Int
  to : Int
  cells : Int
abbrev dPc : Pc := ⟨0, 0, 0, 0⟩
def amongB (r : Int) (l : List Int) : Bool := l.any fun x => x == r
def endsP (x : Pc) : Bool := x.r == 10
def blankP (x : Pc) : Bool := amongB x.r [9, 32, 5760, 8287, 12288] || (decide (8192 ≤ x.r) && decide (x.r ≤ 8202) && !(x.r == 8199))
def wideP' (x : Pc) : Bool := x.cells == 2 && !blankP x
def dashP (x : Pc) : Bool := amongB x.r [45, 8208, 8210, 8211, 8212]
def openingP (x : Pc) : Bool := amongB x.r [40, 91, 123, 12296, 12298, 12300, 12302, 12304, 12308, 65288, 65339, 65371]
def closingP (x : Pc) : Bool := amongB x.r [33, 41, 44, 46, 58, 59, 63, 93, 125, 12289, 12290, 12297, 12299, 12301, 12303, 12305, 12309, 12540, 65281, 65289, 65292, 65294, 65306, 65307, 65311, 65341, 65373]
def pcOf (p : Part) : Pc := ⟨p.first, p.c.frm, p.c.to, p.c.cells⟩
def pcs (s : ByteArray) : List Pc := (parts s).map pcOf
structure Told (p : Part) : Prop where
  fin : p.fin = endsP (pcOf p)
  blank : p.blank = blankP (pcOf p)
  wide : p.wide = wideP' (pcOf p)
  dash : p.dash = dashP (pcOf p)
  opening : p.opening = openingP (pcOf p)
  closing : p.closing = closingP (pcOf p)
set_option maxRecDepth 100000 in
set_option maxRecDepth 100000 in
set_option maxRecDepth 100000 in
set_option maxRecDepth 100000 in
def kindP (l : List Pc) (i : Nat) : Int :=
  if endsP (l.getD (i - 1) dPc) = true then 1
  else if i = l.length then 0
  else if (endsP (l.getD i dPc) || blankP (l.getD i dPc)) = true then 0
  else if blankP (l.getD (i - 1) dPc) = true then 2
  else if (dashP (l.getD (i - 1) dPc) && decide ((1 : Int) < (i : Int)) && !blankP (l.getD (i - 2) dPc) && !endsP (l.getD (i - 2) dPc) && !dashP (l.getD (i - 2) dPc)) = true then 2
  else if ((wideP' (l.getD (i - 1) dPc) || wideP' (l.getD i dPc)) && !openingP (l.getD (i - 1) dPc) && !closingP (l.getD i dPc)) = true then 2
  else 3
def kindsTo (l : List Pc) : Nat → List Int
  | 0 => List.replicate (l.length + 1) 0
  | 1 => List.replicate (l.length + 1) 0
  | i + 1 => (kindsTo l i).set i (kindP l i)
def kindsP (l : List Pc) : List Int := kindsTo l (l.length + 1)
def placeP (l : List Pc) (i : Nat) : Int := if i = l.length then (l.getD (i - 1) dPc).to else (l.getD i dPc).frm
end Go.SX.Plain
/- Of each cluster: the rune that its text begins with stands in the text's runes. No program here. -/
namespace Go.SX.Plain
structure ClOK (s : ByteArray) (c : Clu) : Prop where
  ex : ∃ f t : Nat, f < t ∧ t ≤ (rl s).length ∧ c = (gAt (rl s) (al s) f t).c
theorem remGo_ok (s : ByteArray) : ∀ (k f t : Nat), (rl s).length - t ≤ k → f < t → t ≤ (rl s).length → ∀ c ∈ remGo (rl s) (al s) k f t, ClOK s c
  | 0, f, t, _, h1, h2, c, hc => by
    simp only [remGo] at hc
    rw [List.mem_singleton.1 hc]
    exact ⟨f, t, h1, h2, rfl⟩
  | k + 1, f, t, hk, h1, h2, c, hc => by
    simp only [remGo] at hc
    split at hc
    · split at hc
      · exact remGo_ok s k f (t + 1) (by omega) (by omega) (by omega) c hc
      · rcases List.mem_cons.1 hc with rfl | hc
        · exact ⟨f, t, h1, h2, rfl⟩
        · exact remGo_ok s k t (t + 1) (by omega) (by omega) (by omega) c hc
    · rw [List.mem_singleton.1 hc]
      exact ⟨f, t, h1, h2, rfl⟩
theorem clusters_ok (s : ByteArray) : ∀ c ∈ clusters s, ClOK s c := by
  intro c hc
  rw [clusters_rem] at hc
  split at hc
  · rename_i h
    exact remGo_ok s _ 0 1 (Nat.le_refl _) (by omega) (by rw [rl_len]; exact h) c hc
  · cases hc
theorem ClOK.first {s : ByteArray} {c : Clu} (h : ClOK s c) : 0 ≤ c.frm ∧ c.frm < (rl s).length ∧ (rl s).getD c.frm.toNat 0 = firstOf s c ∧ c.frm < c.to ∧ c.to ≤ (rl s).length ∧ 0 ≤ c.at ∧ 0 < c.len ∧ c.at + c.len ≤ s.size := by
  obtain ⟨f, t, h1, h2, rfl⟩ := h.ex
  obtain ⟨p, q1, q2, q3, q4⟩ := rl_dec s (i := f) (by omega)
  have hm := al_mono s (i := f + 1) (j := t) (by omega) h2
  have hb := al_bd s t
  have hw := width_pos s p
  rw [q4] at hm
  have e1 : (gAt (rl s) (al s) f t).c.frm = (f : Int) := rfl
  have e2 : (gAt (rl s) (al s) f t).c.to = (t : Int) := rfl
  have e3 : (gAt (rl s) (al s) f t).c.at = (p : Int) := q1
  have e4 : (gAt (rl s) (al s) f t).c.len = (al s).getD t 0 - p := by rw [← q1]; rfl
  rw [e1, e2, e3, e4]
  refine ⟨by omega, by omega, ?_, by omega, by omega, by omega, by omega, by omega⟩
  unfold firstOf
  rw [e3, e4]
  obtain ⟨e, he⟩ : ∃ e : Nat, (al s).getD t 0 = e := ⟨((al s).getD t 0).toNat, by omega⟩
  rw [he] at hm hb ⊢
  have h3 : ((p : Int)).toNat = p := Int.toNat_natCast _
  have h4 : ((p : Int) + ((e : Int) - p)).toNat = e := by omega
  rw [h3, h4, size_extract' (by omega), if_pos (by omega), decode_extract (by omega) (by omega) (by omega), Int.toNat_natCast, q3]
end Go.SX.Plain
/- The document's table, plainly. No program here. -/
namespace Go.SX.Plain
structure Rb where
  bad : Int
  count : Int
  next : Int
abbrev zR : Rb := ⟨0, 0, 0⟩
def rbOf (b : Bst) : Rb := ⟨b.bad, b.places, b.next⟩
def wAt (l : List Part) (f t : Nat) : Int := (scan l f (t - f)).1
def lessB (a b : Rb) : Bool := if a.bad ≠ b.bad then decide (a.bad < b.bad) else decide (a.count < b.count)
def lastB (l : List Part) (f t : Nat) : Bool := decide (t = l.length) && (decide (l.length = f) || !(l.getD (l.length - 1) dPart).fin)
section
variable (l : List Part) (width : Int) (ct : List Rb) (f : Nat)
def rcand (t : Nat) : Bst :=
  ⟨(width - wAt l f t) * (width - wAt l f t) + (ct.getD t zR).bad + (if kindAt l t = 3 then 1048576 else 0), 1 + (ct.getD t zR).count, t, true⟩
def rend (t : Nat) : Bst := ⟨(width - wAt l f t) * (width - wAt l f t), 0, 0, true⟩
def racc1 (t : Nat) (acc : Bst) : Bst := if f < t ∧ 0 < kindAt l t then better (rcand l width ct f t) acc else acc
def racc2 (t : Nat) (acc : Bst) : Bst := if lastB l f t = true then better (rend l width f t) (racc1 l width ct f t acc) else racc1 l width ct f t acc
def rinn : Nat → Nat → Bst → Bst
  | 0, _, acc => acc
  | k + 1, t, acc => if t ≤ l.length then (if wAt l f t ≤ width then (if f < t ∧ kindAt l t = 1 then racc2 l width ct f t acc else rinn k (t + 1) (racc2 l width ct f t acc)) else acc) else acc
def rinner (t : Nat) (acc : Bst) : Bst := rinn l width ct f (l.length + 1 - t) t acc
end
section
variable {l : List Part} {width : Int} {ct : List Rb} {f t : Nat} {acc : Bst}
theorem rinner_end (h : ¬ t ≤ l.length) : rinner l width ct f t acc = acc := by
  unfold rinner
  rw [show l.length + 1 - t = 0 by omega]
  rfl
theorem rinner_step (h : t ≤ l.length) : rinner l width ct f t acc = (if wAt l f t ≤ width then (if f < t ∧ kindAt l t = 1 then racc2 l width ct f t acc else rinner l width ct f (t + 1) (racc2 l width ct f t acc)) else acc) := by
  unfold rinner
  rw [show l.length + 1 - t = (l.length + 1 - (t + 1)) + 1 by omega]
  simp only [rinn]
  rw [if_pos h]
theorem rinner_full (h : t ≤ l.length) (hw : ¬ wAt l f t ≤ width) : rinner l width ct f t acc = acc := by rw [rinner_step h, if_neg hw]
theorem rinner_stop (h : t ≤ l.length) (hw : wAt l f t ≤ width) (hk : f < t ∧ kindAt l t = 1) : rinner l width ct f t acc = racc2 l width ct f t acc := by rw [rinner_step h, if_pos hw, if_pos hk]
theorem rinner_on (h : t ≤ l.length) (hw : wAt l f t ≤ width) (hk : ¬ (f < t ∧ kindAt l t = 1)) : rinner l width ct f t acc = rinner l width ct f (t + 1) (racc2 l width ct f t acc) := by rw [rinner_step h, if_pos hw, if_neg hk]
end
def rt (l : List Part) (width : Int) : Nat → List Rb
  | 0 => List.replicate (l.length + 1) zR
  | c + 1 => (rt l width c).set (l.length - c) (rbOf (rinner l width (rt l width c) (l.length - c) (l.length - c) zB))
def rtab (l : List Part) (width : Int) : List Rb := rt l width (l.length + 1)
theorem rt_len (l : List Part) (width : Int) : ∀ c, (rt l width c).length = l.length + 1
  | 0 => by simp [rt]
  | c + 1 => by simp [rt, rt_len l width c]
theorem rt_succ {l : List Part} {width : Int} {c f : Nat} (h : f = l.length - c) : rt l width (c + 1) = (rt l width c).set f (rbOf (rinner l width (rt l width c) f f zB)) := by subst h; rfl
structure GdR (n j : Nat) (b : Rb) : Prop where
  b0 : 0 ≤ b.bad
  b1 : b.bad ≤ ((n + 1 - j : Nat) : Int) * 2000000
  p0 : 0 ≤ b.count
  p1 : b.count ≤ ((n + 1 - j : Nat) : Int)
  n0 : b.next = 0 ∨ ∃ m : Nat, b.next = m ∧ j < m ∧ m ≤ n
theorem GdR.zero (n j : Nat) : GdR n j zR := ⟨by simp, by simp only; omega, by simp, by simp only; omega, .inl rfl⟩
theorem wAt_bd {l : List Part} (h : Small l) (f t : Nat) : 0 ≤ wAt l f t := (scan_bd h _ _).1
theorem GdR.cand {l : List Part} {width : Int} {ct : List Rb} {f t : Nat} (hs : Small l) (hw : width ≤ 200) (hf : wAt l f t ≤ width) (hk : f < t) (hn : t ≤ l.length) (ho : GdR l.length t (ct.getD t zR)) : GdR l.length f (rbOf (rcand l width ct f t)) := by
  have h0 := wAt_bd hs f t
  have hq := sq_bd (x := width - wAt l f t) (y := 200) (by omega) (by omega)
  obtain ⟨b0, b1, p0, p1, _⟩ := ho
  unfold rbOf rcand
  refine ⟨?_, ?_, ?_, ?_, .inr ⟨t, rfl, hk, hn⟩⟩
  · simp only; split <;> omega
  · simp only
    have : ((l.length + 1 - f : Nat) : Int) ≥ ((l.length + 1 - t : Nat) : Int) + 1 := by omega
    split <;> omega
  · simp only; omega
  · simp only; omega
theorem GdR.fin {l : List Part} {width : Int} {f t : Nat} (hs : Small l) (hw : width ≤ 200) (hf : wAt l f t ≤ width) (hk : f ≤ l.length) : GdR l.length f (rbOf (rend l width f t)) := by
  have h0 := wAt_bd hs f t
  have hq := sq_bd (x := width - wAt l f t) (y := 200) (by omega) (by omega)
  unfold rbOf rend
  exact ⟨hq.1, by simp only; omega, by simp, by simp only; omega, .inl rfl⟩
theorem GdR.better {n f : Nat} {a b : Bst} (ha : GdR n f (rbOf a)) (hb : GdR n f (rbOf b)) : GdR n f (rbOf (better a b)) := by
  unfold Plain.better; split <;> assumption
theorem GdR.acc1 {l : List Part} {width : Int} {ct : List Rb} {f t : Nat} {acc : Bst} (hs : Small l) (hw : width ≤ 200) (hf : wAt l f t ≤ width) (hn : t ≤ l.length) (ho : f < t → GdR l.length t (ct.getD t zR)) (ha : GdR l.length f (rbOf acc)) : GdR l.length f (rbOf (racc1 l width ct f t acc)) := by
  unfold racc1
  split
  · rename_i h; exact GdR.better (GdR.cand hs hw hf h.1 hn (ho h.1)) ha
  · exact ha
theorem GdR.acc2 {l : List Part} {width : Int} {ct : List Rb} {f t : Nat} {acc : Bst} (hs : Small l) (hw : width ≤ 200) (hf : wAt l f t ≤ width) (hk : f ≤ l.length) (hn : t ≤ l.length) (ho : f < t → GdR l.length t (ct.getD t zR)) (ha : GdR l.length f (rbOf acc)) : GdR l.length f (rbOf (racc2 l width ct f t acc)) := by
  unfold racc2
  split
  · exact GdR.better (GdR.fin hs hw hf hk) (GdR.acc1 hs hw hf hn ho ha)
  · exact GdR.acc1 hs hw hf hn ho ha
theorem GdR.inn {l : List Part} {width : Int} {ct : List Rb} {f : Nat} (hs : Small l) (hw : width ≤ 200) (hk : f ≤ l.length) (ho : ∀ t, f < t → GdR l.length t (ct.getD t zR)) : ∀ (k t : Nat) {acc : Bst}, GdR l.length f (rbOf acc) → GdR l.length f (rbOf (rinn l width ct f k t acc))
  | 0, _, _, ha => ha
  | k + 1, t, acc, ha => by
    simp only [rinn]
    split
    · rename_i ht
      split
      · rename_i hf
        have h2 := GdR.acc2 hs hw hf hk ht (fun h => ho t h) ha
        split
        · exact h2
        · exact GdR.inn hs hw hk ho k (t + 1) h2
      · exact ha
    · exact ha
theorem rt_gd {l : List Part} {width : Int} (hs : Small l) (hw : width ≤ 200) : ∀ c j, c ≤ l.length + 1 → l.length + 1 ≤ c + j → GdR l.length j ((rt l width c).getD j zR)
  | 0, j, _, h => by
    have : (rt l width 0).getD j zR = zR := by simp only [rt, List.getD_eq_getElem?_getD, List.getElem?_replicate]; split <;> rfl
    rw [this]; exact GdR.zero _ _
  | c + 1, j, hc, h => by
    have hlen := rt_len l width c
    simp only [rt]
    by_cases hj : j = l.length - c
    · subst hj
      rw [getD_set_eq _ _ _ _ (by omega)]
      exact GdR.inn hs hw (by omega) (fun t ht => rt_gd hs hw c t (by omega) (by omega)) _ _ (GdR.zero _ _)
    · rw [getD_set_ne _ _ _ _ _ (by omega)]
      exact rt_gd hs hw c j (by omega) (by omega)
theorem kindAt_cases (l : List Part) (i : Nat) : kindAt l i = 0 ∨ kindAt l i = 1 ∨ kindAt l i = 2 ∨ kindAt l i = 3 := by
  unfold kindAt
  repeat' split
  all_goals simp
theorem natBeq (a b : Nat) : ((a : Int) == (b : Int)) = decide (a = b) := by rw [Bool.eq_iff_iff]; simp; omega
section
variable {l : List Part} {width : Int} {ct : List Rb} {f t : Nat} {acc : Bst}
theorem racc1_no (h : ¬ (f < t ∧ 0 < kindAt l t)) : racc1 l width ct f t acc = acc := by unfold racc1; rw [if_neg h]
theorem racc2_no (h : lastB l f t = false) : racc2 l width ct f t acc = racc1 l width ct f t acc := by unfold racc2; rw [if_neg (by rw [h]; exact Bool.false_ne_true)]
end
section
variable {l : List Part} {width : Int} {ct : List Rb} {f t : Nat} {acc a : Bst}
end
end Go.SX.Plain
/- The program's table and the document's say the same. No program here. -/
namespace Go.SX.Plain
/-! ### Each entry out of the whole table -/
theorem inn_congr {l : List Part} {P : List Nat} {width : Int} {ws ws' : List Bst} {k : Nat} (h : ∀ j, k < j → ws.getD j zB = ws'.getD j zB) : ∀ (f n : Nat) (acc : Bst), k ≤ n → inn l P width ws k f n acc = inn l P width ws' k f n acc
  | 0, _, _, _ => rfl
  | f + 1, n, acc, hn => by
    have e := h (n + 1) (by omega)
    have ec : cand l P width ws k n = cand l P width ws' k n := by unfold cand; rw [e]
    simp only [inn, e, ec]
    rw [inn_congr h f (n + 1) _ (by omega), inn_congr h f (n + 1) _ (by omega)]
theorem tab_later (l : List Part) (P : List Nat) (width : Int) {c : Nat} : ∀ (d j : Nat), P.length + 1 ≤ c + j → c + d ≤ P.length + 1 → (tab l P width (c + d)).getD j zB = (tab l P width c).getD j zB
  | 0, _, _, _ => rfl
  | d + 1, j, h, hd => by
    rw [← Nat.add_assoc]
    simp only [tab]
    rw [getD_set_ne _ _ _ _ _ (by omega)]
    exact tab_later l P width d j h (by omega)
theorem tab_entry {l : List Part} {width : Int} {k : Nat} (hk : k ≤ (plcs l (l.length + 1)).length) : (tabOf l width).getD k zB = inner l (plcs l (l.length + 1)) width (tabOf l width) k k zB := by
  unfold tabOf
  generalize plcs l (l.length + 1) = P at hk
  have hl := tab_len l P width (P.length - k)
  have e : P.length + 1 = (P.length - k + 1) + k := by omega
  have h1 : (tab l P width (P.length + 1)).getD k zB = (tab l P width (P.length - k + 1)).getD k zB := by
    have := tab_later l P width (c := P.length - k + 1) k k (by omega) (by omega)
    rw [← e] at this; exact this
  rw [h1, tab_succ (c := P.length - k) (k := k) (by omega), getD_set_eq _ _ _ _ (by omega)]
  unfold inner
  refine inn_congr (fun j hj => ?_) _ _ _ (Nat.le_refl _)
  have e2 : P.length + 1 = (P.length - k) + (k + 1) := by omega
  have := tab_later l P width (c := P.length - k) (k + 1) j (by omega) (by omega)
  rw [← e2] at this; exact this.symm
theorem rinn_congr {l : List Part} {width : Int} {ct ct' : List Rb} {f : Nat} (h : ∀ j, f < j → ct.getD j zR = ct'.getD j zR) : ∀ (k t : Nat) (acc : Bst), rinn l width ct f k t acc = rinn l width ct' f k t acc
  | 0, _, _ => rfl
  | k + 1, t, acc => by
    have e1 : racc1 l width ct f t acc = racc1 l width ct' f t acc := by
      unfold racc1
      split
      · rename_i hc
        have : rcand l width ct f t = rcand l width ct' f t := by unfold rcand; rw [h t hc.1]
        rw [this]
      · rfl
    have e2 : racc2 l width ct f t acc = racc2 l width ct' f t acc := by unfold racc2; rw [e1]
    simp only [rinn, e2]
    rw [rinn_congr h k (t + 1)]
theorem rt_later (l : List Part) (width : Int) {c : Nat} : ∀ (d j : Nat), l.length + 1 ≤ c + j → c + d ≤ l.length + 1 → (rt l width (c + d)).getD j zR = (rt l width c).getD j zR
  | 0, _, _, _ => rfl
  | d + 1, j, h, hd => by
    rw [← Nat.add_assoc]
    simp only [rt]
    rw [getD_set_ne _ _ _ _ _ (by omega)]
    exact rt_later l width d j h (by omega)
theorem rt_entry {l : List Part} {width : Int} {f : Nat} (hf : f ≤ l.length) : (rtab l width).getD f zR = rbOf (rinner l width (rtab l width) f f zB) := by
  unfold rtab
  have hl := rt_len l width (l.length - f)
  have e : l.length + 1 = (l.length - f + 1) + f := by omega
  have h1 : (rt l width (l.length + 1)).getD f zR = (rt l width (l.length - f + 1)).getD f zR := by
    have := rt_later l width (c := l.length - f + 1) f f (by omega) (by omega)
    rw [← e] at this; exact this
  rw [h1, rt_succ (c := l.length - f) (f := f) (by omega), getD_set_eq _ _ _ _ (by omega)]
  unfold rinner
  rw [rinn_congr (fun j hj => ?_)]
  have e2 : l.length + 1 = (l.length - f) + (f + 1) := by omega
  have := rt_later l width (c := l.length - f) (f + 1) j (by omega) (by omega)
  rw [← e2] at this; exact this.symm

/-! ### Alike -/
def NxA (P : List Nat) (x y : Int) : Prop := (x = -1 ∧ y = 0) ∨ ∃ m : Nat, x = m ∧ m < P.length ∧ y = (P.getD m 0 : Nat)
structure EqA (P : List Nat) (a b : Bst) : Prop where
  bad : a.bad = b.bad
  places : a.places = b.places
  ok : a.ok = b.ok
  next : a.ok = true → NxA P a.next b.next
theorem EqA.better {P : List Nat} {a b x y : Bst} (h : EqA P a b) (h' : EqA P x y) : EqA P (better a x) (better b y) := by
  have e : before a x = before b y := by unfold before; rw [h.bad, h.places, h'.ok, h'.bad, h'.places]
  unfold Plain.better
  rw [e]
  split <;> assumption
theorem scan_mono {l : List Part} (h : Small l) (f : Nat) : ∀ (d n : Nat), (scan l f n).1 ≤ (scan l f (n + d)).1
  | 0, n => Int.le_refl _
  | d + 1, n => by
    have h1 := scan_mono h f d n
    have hb := scan_bd h f (n + d)
    have hc := h.at (f + (n + d))
    rw [← Nat.add_assoc]
    refine Int.le_trans h1 ?_
    simp only [scan]
    split
    · exact Int.le_refl _
    · simp only
      split
      · exact Int.le_refl _
      · omega
theorem wAt_mono {l : List Part} (h : Small l) {f t e : Nat} (h1 : t ≤ e) : wAt l f t ≤ wAt l f e := by
  unfold wAt
  by_cases hf : f ≤ t
  · have := scan_mono h f (e - t) (t - f)
    rwa [show t - f + (e - t) = e - f by omega] at this
  · rw [show t - f = 0 by omega]
    have := scan_mono h f (e - f) 0
    rwa [Nat.zero_add] at this
theorem rinner_skip {l : List Part} (hS : Small l) {width : Int} {ct : List Rb} {f e : Nat} (he : e ≤ l.length) : ∀ (d t : Nat) (acc : Bst), t + d = e → (∀ i, t ≤ i → i < e → f < i ∧ kindAt l i = 0) → rinner l width ct f t acc = rinner l width ct f e acc
  | 0, t, acc, hd, _ => by rw [show t = e by omega]
  | d + 1, t, acc, hd, h => by
    obtain ⟨h1, h2⟩ := h t (Nat.le_refl _) (by omega)
    by_cases hw : wAt l f t ≤ width
    · have hl : lastB l f t = false := by
        unfold lastB
        rw [decide_eq_false (by omega)]; rfl
      have ha : racc2 l width ct f t acc = acc := by rw [racc2_no hl, racc1_no (by omega)]
      rw [rinner_on (by omega) hw (by omega), ha]
      exact rinner_skip hS he d (t + 1) acc (by omega) fun i hi hj => h i (by omega) hj
    · rw [rinner_full (by omega) hw]
      have hm := wAt_mono hS (f := f) (show t ≤ e by omega)
      rw [rinner_full he (by omega)]
theorem kind_len (l : List Part) : kindAt l l.length = 0 ∨ kindAt l l.length = 1 := by
  unfold kindAt
  split
  · exact .inr rfl
  · rw [if_pos rfl]; exact .inl rfl
theorem kind_fin {l : List Part} : kindAt l l.length = 1 ↔ (l.getD (l.length - 1) dPart).fin = true := by
  unfold kindAt
  constructor
  · intro h
    split at h
    · assumption
    · rw [if_pos rfl] at h; cases h
  · intro h; rw [if_pos h]
section
variable {l : List Part} {width : Int}
def Later (l : List Part) (width : Int) (k : Nat) : Prop := ∀ j, k < j → j ≤ (plcs l (l.length + 1)).length →
  ((tabOf l width).getD j zB).bad = ((rtab l width).getD (posn (plcs l (l.length + 1)) j) zR).bad ∧ ((tabOf l width).getD j zB).places = ((rtab l width).getD (posn (plcs l (l.length + 1)) j) zR).count
theorem loop_eq (hS : Small l) (hw1 : 2 ≤ width) {k : Nat} (hL : Later l width k) : ∀ (d n : Nat) (acc acc' : Bst), (plcs l (l.length + 1)).length = n + d → k ≤ n → posn (plcs l (l.length + 1)) n < l.length → EqA (plcs l (l.length + 1)) acc acc' →
    EqA (plcs l (l.length + 1)) (inner l (plcs l (l.length + 1)) width (tabOf l width) k n acc) (rinner l width (rtab l width) (posn (plcs l (l.length + 1)) k) (posn (plcs l (l.length + 1)) n + 1) acc')
  | 0, n, acc, acc', hd, hk, hc, ha => by
    have hn : n = (plcs l (l.length + 1)).length := by omega
    have hmono := posn_mono (l := l) hk (by omega)
    have hk0 : kindAt l l.length = 0 := gap (k := n) (by omega) hc (fun h => by omega) (Nat.le_refl _)
    have hnf : (l.getD (l.length - 1) dPart).fin = false := by
      cases hf : (l.getD (l.length - 1) dPart).fin with
      | false => rfl
      | true => rw [kind_fin.2 hf] at hk0; cases hk0
    rw [inner_end (by omega), rinner_skip hS (Nat.le_refl _) (l.length - (posn (plcs l (l.length + 1)) n + 1)) _ _ (by omega) fun i hi hj => ⟨by omega, gap (k := n) (by omega) (by omega) (fun h => by omega) (by omega)⟩]
    have hl : lastB l (posn (plcs l (l.length + 1)) k) l.length = true := by
      unfold lastB; rw [hnf]; simp
    by_cases hw : fullTo l (plcs l (l.length + 1)) k l.length ≤ width
    · have hw' : wAt l (posn (plcs l (l.length + 1)) k) l.length ≤ width := hw
      rw [endly_yes hw, rinner_on (Nat.le_refl _) hw' (by omega), rinner_end (by omega)]
      unfold racc2
      rw [if_pos hl, racc1_no (by omega)]
      refine EqA.better ⟨rfl, rfl, rfl, fun _ => .inl ⟨rfl, rfl⟩⟩ ha
    · have hw' : ¬ wAt l (posn (plcs l (l.length + 1)) k) l.length ≤ width := hw
      rw [endly_no hw, rinner_full (Nat.le_refl _) hw']
      exact ha
  | d + 1, n, acc, acc', hd, hk, hc, ha => by
    have hn : n < (plcs l (l.length + 1)).length := by omega
    have hmono := posn_mono (l := l) hk (by omega)
    have hlt := posn_lt hn
    obtain ⟨p1, p2, p3⟩ := plcs_le hn
    have hsucc := posn_succ (plcs l (l.length + 1)) n
    rw [rinner_skip hS (e := (plcs l (l.length + 1)).getD n 0) (by omega) ((plcs l (l.length + 1)).getD n 0 - (posn (plcs l (l.length + 1)) n + 1)) _ _ (by omega) fun i hi hj => ⟨by omega, gap (k := n) (by omega) (by omega) (fun h => hj) (by omega)⟩]
    obtain ⟨hb, hp⟩ := hL (n + 1) (by omega) (by omega)
    rw [hsucc] at hb hp
    have hok := tabOf_ok (l := l) (width := width) hS hw1 (j := n + 1) (by omega)
    generalize hE : (plcs l (l.length + 1)).getD n 0 = e at *
    have hkc := kindAt_cases l e
    have hlast : lastB l (posn (plcs l (l.length + 1)) k) e = false := by
      unfold lastB
      by_cases h : e = l.length
      · subst h
        have h1 := (kind_len l).resolve_left p3
        have hne : ¬ l.length = posn (plcs l (l.length + 1)) k := by omega
        rw [kind_fin.1 h1, decide_eq_false hne]
        simp
      · rw [decide_eq_false h]; rfl
    by_cases hw : fullTo l (plcs l (l.length + 1)) k e ≤ width
    · have hw' : wAt l (posn (plcs l (l.length + 1)) k) e ≤ width := hw
      have hcand : EqA (plcs l (l.length + 1)) (cand l (plcs l (l.length + 1)) width (tabOf l width) k n) (rcand l width (rtab l width) (posn (plcs l (l.length + 1)) k) e) := by
        refine ⟨?_, ?_, rfl, fun _ => .inr ⟨n, rfl, hn, by rw [hE]; rfl⟩⟩
        · simp only [cand, rcand, hE, hb]; rfl
        · simp only [cand, rcand, hp]; omega
      have hacc := EqA.better hcand ha
      have hr2 : racc2 l width (rtab l width) (posn (plcs l (l.length + 1)) k) e acc' = better (rcand l width (rtab l width) (posn (plcs l (l.length + 1)) k) e) acc' := by
        rw [racc2_no hlast]
        unfold racc1
        rw [if_pos ⟨by omega, by omega⟩]
      by_cases h1 : kindAt l e = 1
      · rw [inner_hard hn (by rw [hE]; exact hw) hok (by rw [hE]; exact h1), rinner_stop (by omega) hw' ⟨by omega, h1⟩, hr2]
        exact hacc
      · rw [inner_on hn (by rw [hE]; exact hw) hok (by rw [hE]; exact h1), rinner_on (by omega) hw' (fun h => h1 h.2), hr2]
        have hne : e ≠ l.length := fun h => by
          subst h; rcases kind_len l with h2 | h2 <;> contradiction
        have := loop_eq hS hw1 hL d (n + 1) _ _ (by omega) (by omega) (by rw [hsucc]; omega) hacc
        rw [hsucc] at this
        exact this
    · have hw' : ¬ wAt l (posn (plcs l (l.length + 1)) k) e ≤ width := hw
      rw [inner_full hn (by rw [hE]; exact hw), rinner_full (by omega) hw']
      exact ha
theorem entry_eq (hS : Small l) (hw1 : 2 ≤ width) {k : Nat} (hk : k ≤ (plcs l (l.length + 1)).length) (hL : Later l width k) :
    EqA (plcs l (l.length + 1)) ((tabOf l width).getD k zB) (rinner l width (rtab l width) (posn (plcs l (l.length + 1)) k) (posn (plcs l (l.length + 1)) k) zB) := by
  rw [tab_entry hk]
  have hle := posn_le hk
  have hw0 : wAt l (posn (plcs l (l.length + 1)) k) (posn (plcs l (l.length + 1)) k) = 0 := by unfold wAt; rw [Nat.sub_self]; rfl
  rw [rinner_on hle (by rw [hw0]; omega) (by omega)]
  have hr1 : racc1 l width (rtab l width) (posn (plcs l (l.length + 1)) k) (posn (plcs l (l.length + 1)) k) zB = zB := racc1_no (by omega)
  by_cases h : posn (plcs l (l.length + 1)) k = l.length
  · have hN : ¬ k < (plcs l (l.length + 1)).length := fun hlt => by
      have := posn_lt hlt
      have := (plcs_le hlt).1
      omega
    have hl : lastB l (posn (plcs l (l.length + 1)) k) (posn (plcs l (l.length + 1)) k) = true := by
      unfold lastB; rw [decide_eq_true h, decide_eq_true h.symm]; rfl
    have hf : fullTo l (plcs l (l.length + 1)) k l.length = 0 := by unfold fullTo; rw [h, Nat.sub_self]; rfl
    rw [inner_end hN, rinner_end (by omega), endly_yes (by rw [hf]; omega)]
    unfold racc2
    rw [if_pos hl, hr1]
    refine EqA.better ⟨?_, rfl, rfl, fun _ => .inl ⟨rfl, rfl⟩⟩ ⟨rfl, rfl, rfl, fun h => by cases h⟩
    simp only [rend, hf, hw0]
  · have hl : lastB l (posn (plcs l (l.length + 1)) k) (posn (plcs l (l.length + 1)) k) = false := by
      unfold lastB; rw [decide_eq_false h]; rfl
    rw [racc2_no hl, hr1]
    exact loop_eq hS hw1 hL ((plcs l (l.length + 1)).length - k) k zB zB (by omega) (Nat.le_refl _) (by omega) ⟨rfl, rfl, rfl, fun h => by cases h⟩
theorem later (hS : Small l) (hw1 : 2 ≤ width) : ∀ (d k : Nat), k + d = (plcs l (l.length + 1)).length → Later l width k
  | 0, k, h => fun j h1 h2 => by omega
  | d + 1, k, h => fun j h1 h2 => by
    have ih := later hS hw1 d (k + 1) (by omega)
    by_cases hj : j = k + 1
    · subst hj
      have he := entry_eq hS hw1 (k := k + 1) (by omega) ih
      rw [rt_entry (posn_le (by omega))]
      exact ⟨he.bad, he.places⟩
    · exact ih j (by omega) h2
theorem both_eq (hS : Small l) (hw1 : 2 ≤ width) {k : Nat} (hk : k ≤ (plcs l (l.length + 1)).length) :
    ((tabOf l width).getD k zB).bad = ((rtab l width).getD (posn (plcs l (l.length + 1)) k) zR).bad ∧ ((tabOf l width).getD k zB).places = ((rtab l width).getD (posn (plcs l (l.length + 1)) k) zR).count ∧ NxA (plcs l (l.length + 1)) ((tabOf l width).getD k zB).next ((rtab l width).getD (posn (plcs l (l.length + 1)) k) zR).next := by
  have he := entry_eq hS hw1 hk (later hS hw1 ((plcs l (l.length + 1)).length - k) k (by omega))
  rw [rt_entry (posn_le hk)]
  exact ⟨he.bad, he.places, he.next (tabOf_ok hS hw1 hk)⟩
end
end Go.SX.Plain
/- The program's way and the document's are the same; the places. No program here. -/
namespace Go.SX.Plain
def rwGo (ct : List Rb) : Nat → Int → List Int
  | 0, _ => []
  | k + 1, x => if 0 < x then x :: rwGo ct k (ct.getD x.toNat zR).next else []
def rfar (n : Nat) (x : Int) : Nat := if 0 < x then n + 1 - x.toNat else 0
def rway (n : Nat) (ct : List Rb) (x : Int) : List Int := rwGo ct (rfar n x) x
structure RNx (n : Nat) (x : Int) : Prop where
  out : x = 0 ∨ ∃ m : Nat, x = m ∧ 0 < m ∧ m ≤ n
theorem RNx.next {n : Nat} {ct : List Rb} {m : Nat} (hg : ∀ j, GdR n j (ct.getD j zR)) (h0 : 0 < m) (hm : m ≤ n) : RNx n (ct.getD m zR).next ∧ rfar n (ct.getD m zR).next < rfar n (m : Int) := by
  have hx := (hg m).n0
  have e1 : rfar n (m : Int) = n + 1 - m := by unfold rfar; rw [if_pos (by omega)]; omega
  rw [e1]
  rcases hx with hx | ⟨q, h1, h2, h3⟩
  · rw [hx]; exact ⟨⟨.inl rfl⟩, by unfold rfar; simp; omega⟩
  · rw [h1]; exact ⟨⟨.inr ⟨q, rfl, by omega, h3⟩⟩, by unfold rfar; rw [if_pos (by omega)]; omega⟩
theorem rwGo_fuel {n : Nat} {ct : List Rb} (hg : ∀ j, GdR n j (ct.getD j zR)) : ∀ (k k' : Nat) (x : Int), RNx n x → rfar n x ≤ k → rfar n x ≤ k' → rwGo ct k x = rwGo ct k' x
  | 0, 0, _, _, _, _ => rfl
  | 0, k' + 1, x, hx, h, _ => by
    simp only [rwGo]
    rcases hx.out with rfl | ⟨m, rfl, h1, h2⟩
    · simp
    · unfold rfar at h; rw [if_pos (by omega)] at h; omega
  | k + 1, 0, x, hx, _, h => by
    simp only [rwGo]
    rcases hx.out with rfl | ⟨m, rfl, h1, h2⟩
    · simp
    · unfold rfar at h; rw [if_pos (by omega)] at h; omega
  | k + 1, k' + 1, x, hx, h, h' => by
    simp only [rwGo]
    split
    · rcases hx.out with rfl | ⟨m, rfl, h1, h2⟩
      · omega
      · rw [Int.toNat_natCast]
        obtain ⟨q1, q2⟩ := RNx.next hg h1 h2
        rw [rwGo_fuel hg k k' _ q1 (by omega) (by omega)]
    · rfl
theorem rway_step {n : Nat} {ct : List Rb} {m : Nat} (hg : ∀ j, GdR n j (ct.getD j zR)) (h0 : 0 < m) (hm : m ≤ n) : rway n ct (m : Int) = (m : Int) :: rway n ct (ct.getD m zR).next := by
  obtain ⟨q1, q2⟩ := RNx.next hg h0 hm
  unfold rway
  obtain ⟨k, hk⟩ : ∃ k, rfar n (m : Int) = k + 1 := ⟨rfar n (m : Int) - 1, by omega⟩
  rw [hk]
  simp only [rwGo, Int.toNat_natCast]
  rw [if_pos (by omega), rwGo_fuel hg k _ _ q1 (by omega) (Nat.le_refl _)]
theorem rway_end (n : Nat) (ct : List Rb) {x : Int} (h : ¬ 0 < x) : rway n ct x = [] := by
  unfold rway rfar; rw [if_neg h]; rfl
def rwayL (l : List Part) (width : Int) : List Int := rway l.length (rtab l width) ((rtab l width).getD 0 zR).next
theorem rtab_gd {l : List Part} {width : Int} (hs : Small l) (hw : width ≤ 200) (j : Nat) : GdR l.length j ((rtab l width).getD j zR) := rt_gd hs hw _ j (Nat.le_refl _) (by omega)
def rwrapOut (l : List Part) (width : Int) : List (Int × Int) := (rwayL l width).map fun x => (placeP (l.map pcOf) x.toNat, (kindsP (l.map pcOf)).getD x.toNat 0)
def rwrapL (s : ByteArray) (width : Int) : List (Int × Int) := if checkN s.size width = 0 then rwrapOut (parts s) width else []
def rwrapB (s : ByteArray) (width : Int) : Int := if checkN s.size width = 0 then ((rtab (parts s) width).getD 0 zR).bad else 0
def routTo (l : List Pc) (i : Nat) : List (Int × Int) := ((List.range i).filter fun i => decide (0 < i) && decide (0 < (kindsP l).getD i 0)).map fun i => (placeP l i, (kindsP l).getD i 0)
section
variable {l : List Part} {width : Int}
theorem way_eq (hS : Small l) (hw1 : 2 ≤ width) (hw2 : width ≤ 200) : ∀ (d : Nat) (x y : Int), far (plcs l (l.length + 1)).length x ≤ d → NxA (plcs l (l.length + 1)) x y → Nx (plcs l (l.length + 1)).length (tabOf l width) x →
    rway l.length (rtab l width) y = (wayOf (plcs l (l.length + 1)).length (tabOf l width) x).map fun m => (((plcs l (l.length + 1)).getD m 0 : Nat) : Int)
  | d, x, y, hd, hxy, hx => by
    rcases hxy with ⟨rfl, rfl⟩ | ⟨m, rfl, hm, rfl⟩
    · rw [wayOf_end _ _ (by omega), rway_end _ _ (by omega)]; rfl
    · obtain ⟨d', rfl⟩ : ∃ d', d = d' + 1 := by
        refine ⟨d - 1, ?_⟩
        unfold far at hd
        rw [if_pos (by omega)] at hd
        omega
      have hg := fun j => tabOf_gd (l := l) (width := width) hS hw2 j
      have hrg := fun j => rtab_gd (l := l) (width := width) hS hw2 j
      have hok := tabOf_ok (l := l) (width := width) hS hw1 (j := m + 1) (by omega)
      obtain ⟨h1, h2⟩ := Nx.next hg hok hm
      obtain ⟨p1, p2, p3⟩ := plcs_le hm
      have hb := (both_eq (width := width) hS hw1 (k := m + 1) (by omega)).2.2
      rw [posn_succ] at hb
      rw [wayOf_step hg hok hm, rway_step hrg p2 (by omega), List.map_cons, way_eq hS hw1 hw2 d' _ _ (by omega) hb h1]
theorem rwayL_eq (hS : Small l) (hw1 : 2 ≤ width) (hw2 : width ≤ 200) : rwayL l width = (wayL l width).map fun m => (((plcs l (l.length + 1)).getD m 0 : Nat) : Int) := by
  have hok := tabOf_ok (l := l) (width := width) hS hw1 (j := 0) (Nat.zero_le _)
  have hb := (both_eq (width := width) hS hw1 (k := 0) (Nat.zero_le _)).2.2
  have h0 : posn (plcs l (l.length + 1)) 0 = 0 := rfl
  rw [h0] at hb
  exact way_eq hS hw1 hw2 _ _ _ (Nat.le_refl _) hb ⟨((tabOf_gd hS hw2 0).nx hok).imp (fun h => h) fun ⟨n, h1, _, h3, h4⟩ => ⟨n, h1, h3, h4⟩⟩
end
inductive Chn : Int → List Clu → Prop
  | nil {x : Int} : Chn x []
  | cons {x : Int} {c : Clu} {l : List Clu} (hx : c.frm = x) (h : Chn c.to l) : Chn x (c :: l)
theorem remGo_chn (l a : List Int) : ∀ (k f t : Nat), Chn (f : Int) (remGo l a k f t)
  | 0, f, t => Chn.cons (c := (gAt l a f t).c) rfl .nil
  | k + 1, f, t => by
    simp only [remGo]
    split
    · split
      · exact remGo_chn l a k f (t + 1)
      · exact Chn.cons (c := (gAt l a f t).c) rfl (remGo_chn l a k t (t + 1))
    · exact Chn.cons (c := (gAt l a f t).c) rfl .nil
theorem Chn.at {x : Int} {l : List Clu} (h : Chn x l) (d : Clu) : ∀ i, i + 1 < l.length → (l.getD (i + 1) d).frm = (l.getD i d).to := by
  induction h with
  | nil => intro i hi; simp at hi
  | @cons x c l hx h ih =>
    intro i hi
    cases i with
    | zero =>
      cases h with
      | nil => simp at hi
      | cons hx2 _ => exact hx2
    | succ i => exact ih i (by simpa using hi)
theorem clusters_chn (s : ByteArray) : Chn 0 (clusters s) := by
  rw [clusters_rem]
  split
  · exact remGo_chn _ _ _ 0 1
  · exact .nil
theorem parts_chn (s : ByteArray) {i : Nat} (h0 : 0 < i) (hi : i < (parts s).length) : ((parts s).getD i dPart).c.frm = ((parts s).getD (i - 1) dPart).c.to := by
  have hlen : (parts s).length = (clusters s).length := by simp [parts]
  have e : ∀ j, j < (clusters s).length → ((parts s).getD j dPart).c = (clusters s).getD j ⟨0, 0, 0, 0, 0⟩ := fun j hj => by
    simp [parts, List.getD_eq_getElem?_getD, hj]; rfl
  rw [e i (by omega), e (i - 1) (by omega)]
  have := (clusters_chn s).at ⟨0, 0, 0, 0, 0⟩ (i - 1) (by omega)
  rwa [show i - 1 + 1 = i by omega] at this
end Go.SX.Plain
/- The badness of a way, told plainly. No program here. -/
namespace Go.SX.Plain
theorem lnL_way (l : List Part) : ∀ (P : List Nat) (way : List (Int × Int)) (frm : Nat) (x : List (List Part) × Bool), lnL l P way frm = some x → x.2 = true → way.length ≤ P.length ∧ x.1.length = way.length + 1
  | [], way, frm, x, h, hx => by
    simp only [lnL, Option.some.injEq] at h
    subst h
    simp only [List.isEmpty_iff] at hx
    subst hx
    simp
  | p :: P, way, frm, x, h, hx => by
    simp only [lnL] at h
    split at h
    · rename_i hh
      obtain ⟨y, hy, rfl⟩ := Option.map_eq_some_iff.1 h
      obtain ⟨h1, h2⟩ := lnL_way l P _ _ y hy hx
      cases way with
      | nil => simp at hh
      | cons a way =>
        simp only [List.tail_cons] at h1 h2
        simp only [List.length_cons]
        omega
    · split at h
      · cases h
      · obtain ⟨h1, h2⟩ := lnL_way l P _ _ x h hx
        simp only [List.length_cons]
        omega
theorem lnL_sub (l : List Part) : ∀ (P : List Nat) (way : List (Int × Int)) (frm : Nat) (x : List (List Part) × Bool), lnL l P way frm = some x → ∀ y ∈ x.1, ∃ a b, y = (l.drop a).take b
  | [], way, frm, x, h, y, hy => by
    simp only [lnL, Option.some.injEq] at h
    subst h
    simp only [List.mem_singleton] at hy
    subst hy
    exact ⟨frm, (l.drop frm).length, by rw [List.take_length]⟩
  | p :: P, way, frm, x, h, y, hy => by
    simp only [lnL] at h
    split at h
    · obtain ⟨z, hz, rfl⟩ := Option.map_eq_some_iff.1 h
      rcases List.mem_cons.1 hy with rfl | hy
      · exact ⟨_, _, rfl⟩
      · exact lnL_sub l P _ _ z hz y hy
    · split at h
      · cases h
      · exact lnL_sub l P _ _ x h y hy
theorem linesL_sub (s : ByteArray) (way : List (Int × Int)) : ∀ y ∈ linesL s way, ∃ a b, y = ((parts s).drop a).take b := by
  intro y hy
  unfold linesL at hy
  cases h : lnW (parts s) way with
  | none => rw [h] at hy; simp at hy
  | some x =>
    rw [h] at hy
    exact lnL_sub _ _ _ _ x h y (by simpa using hy)
theorem linesL_small (s : ByteArray) (way : List (Int × Int)) : ∀ y ∈ linesL s way, Small y ∧ y.length ≤ s.size := by
  intro y hy
  obtain ⟨a, b, rfl⟩ := linesL_sub s way y hy
  refine ⟨((parts_small s).drop a).take b, ?_⟩
  have := parts_len s
  simp only [List.length_take, List.length_drop]
  omega
theorem linesB_way {s : ByteArray} {way : List (Int × Int)} (h : linesB s way = true) : way.length ≤ s.size + 1 ∧ (linesL s way).length = way.length + 1 := by
  unfold linesB at h
  unfold linesL
  cases hx : lnW (parts s) way with
  | none => rw [hx] at h; cases h
  | some x =>
    rw [hx] at h
    obtain ⟨h1, h2⟩ := lnL_way _ _ _ _ x hx h
    have h3 := plcs_len (parts s) ((parts s).length + 1)
    have h4 := parts_len s
    exact ⟨by omega, h2⟩
theorem getD_memL {α : Type} {l : List α} {k : Nat} (d : α) (h : k < l.length) : l.getD k d ∈ l := by
  simp [List.getD_eq_getElem?_getD, h]
def sqS (L : List (List Part)) (width : Int) (k : Nat) : Int := ((L.take k).map fun x => (width - cellsL x) * (width - cellsL x)).sum
def cutS (way : List (Int × Int)) (k : Nat) : Int := ((way.take k).map fun b => if b.2 = 3 then 1048576 else 0).sum
def fitAll (L : List (List Part)) (width : Int) : Bool := L.all fun x => decide (cellsL x ≤ width)
def badE (s : ByteArray) (width : Int) (way : List (Int × Int)) : Int := if checkN s.size width ≠ 0 then checkN s.size width else if linesB s way = false then 1 else if fitAll (linesL s way) width = true then 0 else 35
def badN (s : ByteArray) (width : Int) (way : List (Int × Int)) : Int := if badE s width way = 0 then sqS (linesL s way) width (linesL s way).length + cutS way way.length else 0
end Go.SX.Plain
/- The document's reading of a way, and the lines that it makes. No program here. -/
namespace Go.SX.Plain
def rdL (l : List Part) : List Nat → List (Int × Int) → Option (List Nat × Bool)
  | [], way => some ([], way.isEmpty)
  | p :: P, way =>
    if kindAt l p ≠ 0 ∧ way.head? = some (brkAt l p) then (rdL l P way.tail).map fun x => (p :: x.1, x.2)
    else if kindAt l p = 1 then none else rdL l P way
def segs (l : List Part) : List Nat → Nat → List (List Part)
  | [], frm => [l.drop frm]
  | p :: P, frm => (l.drop frm).take (p - frm) :: segs l P p
def upTo (l : List Part) : List Nat := (List.range (l.length + 1)).filter fun i => decide (0 < i)
def rdW (l : List Part) (way : List (Int × Int)) : Option (List Nat × Bool) := rdL l (upTo l) way
section
variable {l : List Part} {i k n : Nat} {way : List (Int × Int)}
end
end Go.SX.Plain
/- A line out of a text's parts. No program here. -/
namespace Go.SX.Plain
def segOf (l : List Part) (frm to : Nat) : List Part := (l.drop frm).take (to - frm)
theorem segOf_len {l : List Part} {frm to : Nat} (h : to ≤ l.length) : (segOf l frm to).length = to - frm := by
  unfold segOf
  simp only [List.length_take, List.length_drop]
  omega
end Go.SX.Plain
/- No way that fits is better than what the table tells. No program here. -/
namespace Go.SX.Plain
section
variable (l : List Part) (width : Int)
def wBad : Nat → List Nat → Int
  | k, [] => (width - fullTo l (plcs l (l.length + 1)) k l.length) * (width - fullTo l (plcs l (l.length + 1)) k l.length)
  | k, n :: Q => (width - fullTo l (plcs l (l.length + 1)) k ((plcs l (l.length + 1)).getD n 0)) * (width - fullTo l (plcs l (l.length + 1)) k ((plcs l (l.length + 1)).getD n 0)) + wBad (n + 1) Q + (if kindAt l ((plcs l (l.length + 1)).getD n 0) = 3 then 1048576 else 0)
def wFit : Nat → List Nat → Prop
  | k, [] => fullTo l (plcs l (l.length + 1)) k l.length ≤ width
  | k, n :: Q => fullTo l (plcs l (l.length + 1)) k ((plcs l (l.length + 1)).getD n 0) ≤ width ∧ wFit (n + 1) Q
def noHard (k n : Nat) : Prop := ∀ j, k ≤ j → j < n → kindAt l ((plcs l (l.length + 1)).getD j 0) ≠ 1
def wOk : Nat → List Nat → Prop
  | k, [] => k ≤ (plcs l (l.length + 1)).length ∧ noHard l k (plcs l (l.length + 1)).length
  | k, n :: Q => k ≤ n ∧ n < (plcs l (l.length + 1)).length ∧ noHard l k n ∧ wOk (n + 1) Q
end
def nxN (N : Nat) (b : Bst) : Int := if b.next = -1 then N else b.next
structure Le3 (N : Nat) (a b : Bst) : Prop where
  out : a.bad < b.bad ∨ (a.bad = b.bad ∧ (a.places < b.places ∨ (a.places = b.places ∧ nxN N a ≤ nxN N b)))
theorem Le3.refl (N : Nat) (a : Bst) : Le3 N a a := ⟨.inr ⟨rfl, .inr ⟨rfl, Int.le_refl _⟩⟩⟩
theorem Le3.trans {N : Nat} {a b c : Bst} (h : Le3 N a b) (h' : Le3 N b c) : Le3 N a c := by
  obtain ⟨h⟩ := h
  obtain ⟨h'⟩ := h'
  exact ⟨by omega⟩
theorem better_le {N : Nat} {w acc : Bst} (h : acc.ok = true → nxN N acc < nxN N w) : Le3 N (better w acc) w ∧ (acc.ok = true → Le3 N (better w acc) acc) ∧ (acc.ok = true ∨ better w acc = w) ∧ nxN N (better w acc) ≤ nxN N w := by
  unfold better
  by_cases hb : before w acc = true
  · rw [if_pos hb]
    refine ⟨Le3.refl _ _, fun ho => ?_, .inr rfl, Int.le_refl _⟩
    unfold before at hb
    rw [if_neg (by rw [ho]; decide)] at hb
    have := h ho
    split at hb
    · simp only [decide_eq_true_eq] at hb
      exact ⟨.inl hb⟩
    · simp only [decide_eq_true_eq] at hb
      exact ⟨.inr ⟨by omega, .inl hb⟩⟩
  · rw [if_neg hb]
    have ho : acc.ok = true := by
      unfold before at hb
      split at hb
      · exact absurd rfl hb
      · rename_i h2
        simpa using h2
    have h2 := h ho
    refine ⟨?_, fun _ => Le3.refl _ _, .inl ho, by omega⟩
    unfold before at hb
    rw [if_neg (by rw [ho]; decide)] at hb
    split at hb
    · simp only [decide_eq_true_eq] at hb
      exact ⟨.inl (by omega)⟩
    · simp only [decide_eq_true_eq] at hb
      exact ⟨.inr ⟨by omega, by omega⟩⟩
section
variable {l : List Part} {width : Int} {ws : List Bst}
abbrev endc (l : List Part) (width : Int) (k : Nat) : Bst := ⟨(width - fullTo l (plcs l (l.length + 1)) k l.length) * (width - fullTo l (plcs l (l.length + 1)) k l.length), 0, -1, true⟩
theorem fullTo_mono (hS : Small l) {k t e : Nat} (h : t ≤ e) : fullTo l (plcs l (l.length + 1)) k t ≤ fullTo l (plcs l (l.length + 1)) k e := wAt_mono (f := posn (plcs l (l.length + 1)) k) hS h
theorem nx_cand {k n : Nat} : nxN (plcs l (l.length + 1)).length (cand l (plcs l (l.length + 1)) width ws k n) = n := by
  unfold nxN cand
  rw [if_neg (by simp only; omega)]
theorem nx_endc {k : Nat} : nxN (plcs l (l.length + 1)).length (endc l width k) = (plcs l (l.length + 1)).length := by
  unfold nxN
  rw [if_pos rfl]
theorem inn_min (hS : Small l) {k : Nat} (hok : ∀ j, k < j → j ≤ (plcs l (l.length + 1)).length → (ws.getD j zB).ok = true) : ∀ (d n : Nat) (acc : Bst), n + d = (plcs l (l.length + 1)).length → k ≤ n → (acc.ok = true → nxN (plcs l (l.length + 1)).length acc < n) →
    (acc.ok = true → Le3 (plcs l (l.length + 1)).length (inner l (plcs l (l.length + 1)) width ws k n acc) acc) ∧
    (∀ m, n ≤ m → m < (plcs l (l.length + 1)).length → noHard l n m → fullTo l (plcs l (l.length + 1)) k ((plcs l (l.length + 1)).getD m 0) ≤ width → Le3 (plcs l (l.length + 1)).length (inner l (plcs l (l.length + 1)) width ws k n acc) (cand l (plcs l (l.length + 1)) width ws k m)) ∧
    (noHard l n (plcs l (l.length + 1)).length → fullTo l (plcs l (l.length + 1)) k l.length ≤ width → Le3 (plcs l (l.length + 1)).length (inner l (plcs l (l.length + 1)) width ws k n acc) (endc l width k))
  | 0, n, acc, hd, hk, hacc => by
    have hn : n = (plcs l (l.length + 1)).length := by omega
    rw [inner_end (by omega)]
    by_cases hf : fullTo l (plcs l (l.length + 1)) k l.length ≤ width
    · rw [endly_yes hf]
      have hb := better_le (N := (plcs l (l.length + 1)).length) (w := endc l width k) (acc := acc) fun h => by rw [nx_endc]; have := hacc h; omega
      exact ⟨hb.2.1, fun m h1 h2 => by omega, fun _ _ => hb.1⟩
    · rw [endly_no hf]
      exact ⟨fun _ => Le3.refl _ _, fun m h1 h2 => by omega, fun _ h => absurd h hf⟩
  | d + 1, n, acc, hd, hk, hacc => by
    have hn : n < (plcs l (l.length + 1)).length := by omega
    have hple : (plcs l (l.length + 1)).getD n 0 ≤ l.length := Nat.le_of_lt_succ (plcs_le hn).1
    have hpm : ∀ m, n ≤ m → m < (plcs l (l.length + 1)).length → (plcs l (l.length + 1)).getD n 0 ≤ (plcs l (l.length + 1)).getD m 0 := fun m h1 h2 => by
      by_cases he : n = m
      · rw [he]; exact Nat.le_refl _
      · exact Nat.le_of_lt (sorted_lt (plcs_sorted _ _) (by omega) h2)
    by_cases hf : fullTo l (plcs l (l.length + 1)) k ((plcs l (l.length + 1)).getD n 0) ≤ width
    · have ho := hok (n + 1) (by omega) (by omega)
      have hb := better_le (N := (plcs l (l.length + 1)).length) (w := cand l (plcs l (l.length + 1)) width ws k n) (acc := acc) fun h => by rw [nx_cand]; exact hacc h
      by_cases hk1 : kindAt l ((plcs l (l.length + 1)).getD n 0) = 1
      · rw [inner_hard hn hf ho hk1]
        refine ⟨hb.2.1, fun m h1 h2 h3 h4 => ?_, fun h3 _ => absurd hk1 (h3 n (Nat.le_refl _) hn)⟩
        by_cases he : n = m
        · subst he; exact hb.1
        · exact absurd hk1 (h3 n (Nat.le_refl _) (by omega))
      · rw [inner_on hn hf ho hk1]
        obtain ⟨i1, i2, i3⟩ := inn_min hS hok d (n + 1) (better (cand l (plcs l (l.length + 1)) width ws k n) acc) (by omega) (by omega) fun _ => by have := hb.2.2.2; rw [nx_cand] at this; omega
        have hbo := better_ok (w := cand l (plcs l (l.length + 1)) width ws k n) (acc := acc) rfl
        refine ⟨fun h => (i1 hbo).trans (hb.2.1 h), fun m h1 h2 h3 h4 => ?_, fun h3 h4 => i3 (fun j h5 h6 => h3 j (by omega) h6) h4⟩
        by_cases he : n = m
        · subst he; exact (i1 hbo).trans hb.1
        · exact i2 m (by omega) h2 (fun j h5 h6 => h3 j (by omega) h6) h4
    · rw [inner_full hn hf]
      exact ⟨fun _ => Le3.refl _ _, fun m h1 h2 h3 h4 => absurd (Int.le_trans (fullTo_mono hS (hpm m h1 h2)) h4) hf, fun _ h4 => absurd (Int.le_trans (fullTo_mono hS hple) h4) hf⟩
structure Att (l : List Part) (width : Int) (ws : List Bst) (k : Nat) (b : Bst) : Prop where
  out : (b = endc l width k ∧ noHard l k (plcs l (l.length + 1)).length ∧ fullTo l (plcs l (l.length + 1)) k l.length ≤ width) ∨
    ∃ m, b = cand l (plcs l (l.length + 1)) width ws k m ∧ k ≤ m ∧ m < (plcs l (l.length + 1)).length ∧ noHard l k m ∧ fullTo l (plcs l (l.length + 1)) k ((plcs l (l.length + 1)).getD m 0) ≤ width
theorem better_or (w acc : Bst) : better w acc = w ∨ better w acc = acc := by
  unfold better
  split
  · exact .inl rfl
  · exact .inr rfl
theorem inn_att {k : Nat} (hok : ∀ j, k < j → j ≤ (plcs l (l.length + 1)).length → (ws.getD j zB).ok = true) : ∀ (d n : Nat) (acc : Bst), n + d = (plcs l (l.length + 1)).length → k ≤ n → noHard l k n → (acc.ok = true → Att l width ws k acc) →
    ((inner l (plcs l (l.length + 1)) width ws k n acc).ok = true → Att l width ws k (inner l (plcs l (l.length + 1)) width ws k n acc))
  | 0, n, acc, hd, hk, hh, hacc => by
    rw [inner_end (by omega)]
    by_cases hf : fullTo l (plcs l (l.length + 1)) k l.length ≤ width
    · rw [endly_yes hf]
      intro ho
      rcases better_or (endc l width k) acc with h | h
      · have hh2 : noHard l k (plcs l (l.length + 1)).length := by rw [show (plcs l (l.length + 1)).length = n by omega]; exact hh
        exact ⟨.inl ⟨h, hh2, hf⟩⟩
      · rw [show better ⟨(width - fullTo l (plcs l (l.length + 1)) k l.length) * (width - fullTo l (plcs l (l.length + 1)) k l.length), 0, -1, true⟩ acc = acc from h] at ho ⊢
        exact hacc ho
    · rw [endly_no hf]
      exact hacc
  | d + 1, n, acc, hd, hk, hh, hacc => by
    have hn : n < (plcs l (l.length + 1)).length := by omega
    by_cases hf : fullTo l (plcs l (l.length + 1)) k ((plcs l (l.length + 1)).getD n 0) ≤ width
    · have ho := hok (n + 1) (by omega) (by omega)
      have hb : (better (cand l (plcs l (l.length + 1)) width ws k n) acc).ok = true → Att l width ws k (better (cand l (plcs l (l.length + 1)) width ws k n) acc) := fun ho2 => by
        rcases better_or (cand l (plcs l (l.length + 1)) width ws k n) acc with h | h
        · rw [h]
          exact ⟨.inr ⟨n, rfl, hk, hn, hh, hf⟩⟩
        · rw [h] at ho2 ⊢
          exact hacc ho2
      by_cases hk1 : kindAt l ((plcs l (l.length + 1)).getD n 0) = 1
      · rw [inner_hard hn hf ho hk1]
        exact hb
      · rw [inner_on hn hf ho hk1]
        refine inn_att hok d (n + 1) _ (by omega) (by omega) (fun j h1 h2 => ?_) hb
        by_cases he : j = n
        · subst he; exact hk1
        · exact hh j h1 (by omega)
    · rw [inner_full hn hf]
      exact hacc
end
section
variable {l : List Part} {width : Int}
abbrev En (l : List Part) (width : Int) (k : Nat) : Bst := (tabOf l width).getD k zB
theorem en_ok (hS : Small l) (hw1 : 2 ≤ width) {k : Nat} (hk : k ≤ (plcs l (l.length + 1)).length) : (En l width k).ok = true := tabOf_ok hS hw1 hk
theorem en_att (hS : Small l) (hw1 : 2 ≤ width) {k : Nat} (hk : k ≤ (plcs l (l.length + 1)).length) : Att l width (tabOf l width) k (En l width k) := by
  have h := tab_entry (l := l) (width := width) hk
  have ho := en_ok hS hw1 hk
  unfold En at ho ⊢
  rw [h] at ho ⊢
  exact inn_att (fun j _ h2 => en_ok hS hw1 h2) ((plcs l (l.length + 1)).length - k) k zB (by omega) (Nat.le_refl _) (fun j h1 h2 => by omega) (fun h => by cases h) ho
theorem en_min (hS : Small l) (hw1 : 2 ≤ width) {k : Nat} (hk : k ≤ (plcs l (l.length + 1)).length) :
    (∀ m, k ≤ m → m < (plcs l (l.length + 1)).length → noHard l k m → fullTo l (plcs l (l.length + 1)) k ((plcs l (l.length + 1)).getD m 0) ≤ width → Le3 (plcs l (l.length + 1)).length (En l width k) (cand l (plcs l (l.length + 1)) width (tabOf l width) k m)) ∧
    (noHard l k (plcs l (l.length + 1)).length → fullTo l (plcs l (l.length + 1)) k l.length ≤ width → Le3 (plcs l (l.length + 1)).length (En l width k) (endc l width k)) := by
  have h := tab_entry (l := l) (width := width) hk
  unfold En
  rw [h]
  exact (inn_min hS (fun j _ h2 => en_ok hS hw1 h2) ((plcs l (l.length + 1)).length - k) k zB (by omega) (Nat.le_refl _) (fun h => by cases h)).2
def wB (l : List Part) (width : Int) (k : Nat) (Q : List Nat) : Bst := ⟨wBad l width k Q, Q.length, match Q with | [] => -1 | n :: _ => n, true⟩
theorem opt (hS : Small l) (hw1 : 2 ≤ width) : ∀ (Q : List Nat) (k : Nat), wOk l k Q → wFit l width k Q → Le3 (plcs l (l.length + 1)).length (En l width k) (wB l width k Q)
  | [], k, ho, hf => (en_min hS hw1 ho.1).2 ho.2 hf
  | n :: Q, k, ho, hf => by
    obtain ⟨h1, h2, h3, h4⟩ := ho
    have ih := (opt hS hw1 Q (n + 1) h4 hf.2).out
    refine ((en_min hS hw1 (by omega)).1 n h1 h2 h3 hf.1).trans ?_
    constructor
    unfold cand wB wBad nxN
    unfold wB En at ih
    simp only [List.length_cons, if_neg (show ¬ ((n : Int) = -1) by omega)] at ih ⊢
    omega
def wF (l : List Part) (width : Int) (k : Nat) : List Nat := wayOf (plcs l (l.length + 1)).length (tabOf l width) (En l width k).next
theorem wF_step (hS : Small l) (hw1 : 2 ≤ width) (hw2 : width ≤ 200) {k : Nat} (hk : k ≤ (plcs l (l.length + 1)).length) :
    (wF l width k = [] ∧ En l width k = endc l width k ∧ noHard l k (plcs l (l.length + 1)).length ∧ fullTo l (plcs l (l.length + 1)) k l.length ≤ width) ∨
    ∃ m, wF l width k = m :: wF l width (m + 1) ∧ En l width k = cand l (plcs l (l.length + 1)) width (tabOf l width) k m ∧ k ≤ m ∧ m < (plcs l (l.length + 1)).length ∧ noHard l k m ∧ fullTo l (plcs l (l.length + 1)) k ((plcs l (l.length + 1)).getD m 0) ≤ width := by
  rcases (en_att hS hw1 hk).out with ⟨h1, h2, h3⟩ | ⟨m, h1, h2, h3, h4, h5⟩
  · refine .inl ⟨?_, h1, h2, h3⟩
    unfold wF
    rw [h1]
    exact wayOf_end _ _ (by simp only; omega)
  · refine .inr ⟨m, ?_, h1, h2, h3, h4, h5⟩
    unfold wF
    rw [h1]
    exact wayOf_step (fun j => tabOf_gd hS hw2 j) (en_ok hS hw1 (by omega)) h3
theorem wF_ok (hS : Small l) (hw1 : 2 ≤ width) (hw2 : width ≤ 200) : ∀ (_d k : Nat), k + _d = (plcs l (l.length + 1)).length → wOk l k (wF l width k) ∧ wFit l width k (wF l width k) ∧ wBad l width k (wF l width k) = (En l width k).bad ∧ ((wF l width k).length : Int) = (En l width k).places
  | 0, k, hd => by
    rcases wF_step hS hw1 hw2 (show k ≤ (plcs l (l.length + 1)).length by omega) with ⟨h1, h2, h3, h4⟩ | ⟨m, h1, h2, h3, h4, _⟩
    · rw [h1, h2]
      exact ⟨⟨by omega, h3⟩, h4, rfl, rfl⟩
    · omega
  | d + 1, k, hd => by
    rcases wF_step hS hw1 hw2 (show k ≤ (plcs l (l.length + 1)).length by omega) with ⟨h1, h2, h3, h4⟩ | ⟨m, h1, h2, h3, h4, h5, h6⟩
    · rw [h1, h2]
      exact ⟨⟨by omega, h3⟩, h4, rfl, rfl⟩
    · obtain ⟨i1, i2, i3, i4⟩ := wF_ok hS hw1 hw2 ((plcs l (l.length + 1)).length - (m + 1)) (m + 1) (by omega)
      rw [h1, h2]
      refine ⟨⟨h3, h4, h5, i1⟩, ⟨h6, i2⟩, ?_, ?_⟩
      · unfold wBad cand
        rw [i3]
      · unfold cand
        simp only [List.length_cons]
        rw [← i4]
        omega
  termination_by d k => (plcs l (l.length + 1)).length - k
theorem first (hS : Small l) (hw1 : 2 ≤ width) (hw2 : width ≤ 200) : ∀ (Q : List Nat) (k : Nat), wOk l k Q → wFit l width k Q → wBad l width k Q = (En l width k).bad → (Q.length : Int) = (En l width k).places →
    ∀ i, i < Q.length → (∀ j, j < i → Q.getD j 0 = (wF l width k).getD j 0) → Q.getD i 0 ≠ (wF l width k).getD i 0 → (wF l width k).getD i 0 < Q.getD i 0
  | [], k, _, _, _, _, i, hi, _, _ => by simp at hi
  | n :: Q, k, ho, hf, hb, hl, i, hi, he, hne => by
    have hop := (opt hS hw1 (n :: Q) k ho hf).out
    obtain ⟨h1, h2, h3, h4⟩ := ho
    have hnx : nxN (plcs l (l.length + 1)).length (En l width k) ≤ n := by
      have : nxN (plcs l (l.length + 1)).length (wB l width k (n :: Q)) = n := by
        unfold nxN wB
        rw [if_neg (by simp only; omega)]
      rw [this] at hop
      unfold wB at hop
      simp only at hop
      omega
    rcases wF_step hS hw1 hw2 (show k ≤ (plcs l (l.length + 1)).length by omega) with ⟨q1, q2, q3, q4⟩ | ⟨m, q1, q2, q3, q4, q5, q6⟩
    · rw [q2, nx_endc] at hnx
      omega
    · rw [q2, nx_cand] at hnx
      rw [q1] at he hne ⊢
      cases i with
      | zero =>
        simp only [List.getD_cons_zero] at hne ⊢
        omega
      | succ i =>
        have hnm := he 0 (by omega)
        simp only [List.getD_cons_zero] at hnm
        subst hnm
        simp only [List.getD_cons_succ] at hne ⊢
        refine first hS hw1 hw2 Q (n + 1) h4 hf.2 ?_ ?_ i (by simpa using hi) (fun j hj => by have := he (j + 1) (by omega); simpa only [List.getD_cons_succ] using this) hne
        · rw [q2] at hb
          unfold wBad cand at hb
          simp only at hb
          show _ = ((tabOf l width).getD (n + 1) zB).bad
          omega
        · rw [q2] at hl
          unfold cand at hl
          simp only [List.length_cons] at hl
          show _ = ((tabOf l width).getD (n + 1) zB).places
          omega
end
end Go.SX.Plain
/- A way's lines, and what they cost. No program here. -/
namespace Go.SX.Plain
section
variable {l : List Part} {f e : Nat}
theorem fin_hard {i : Nat} (h : (l.getD i dPart).fin = true) : kindAt l (i + 1) = 1 := by
  unfold kindAt
  rw [Nat.add_sub_cancel, if_pos h]
end
structure MonoTo (l : List Part) : Prop where
  out : ∀ i j, i < j → j < l.length → (l.getD i dPart).c.to < (l.getD j dPart).c.to
theorem parts_mono (s : ByteArray) : MonoTo (parts s) := by
  have hcl : ∀ i, i < (parts s).length → ((parts s).getD i dPart).c.frm < ((parts s).getD i dPart).c.to := fun i hi => by
    have hlen : (parts s).length = (clusters s).length := by simp [parts]
    have e : ((parts s).getD i dPart).c = (clusters s)[i]'(by omega) := by
      simp [parts, List.getD_eq_getElem?_getD, show i < (clusters s).length by omega]; rfl
    rw [e]
    exact (clusters_ok s _ (List.getElem_mem _)).first.2.2.2.1
  have step : ∀ i, i + 1 < (parts s).length → ((parts s).getD i dPart).c.to < ((parts s).getD (i + 1) dPart).c.to := fun i hi => by
    have h1 := parts_chn s (i := i + 1) (by omega) hi
    have h2 := hcl (i + 1) hi
    rw [Nat.add_sub_cancel] at h1
    omega
  refine ⟨fun i j hij hj => ?_⟩
  induction j with
  | zero => omega
  | succ j ih =>
    have := step j hj
    by_cases h : i = j
    · subst h; exact this
    · have := ih (by omega) (by omega)
      omega
section
variable {l : List Part} {width : Int}
abbrev brk (l : List Part) (n : Nat) : Int × Int := brkAt l ((plcs l (l.length + 1)).getD n 0)
theorem brk_lt (hM : MonoTo l) {k m : Nat} (h : k < m) (hm : m < (plcs l (l.length + 1)).length) : (brk l k).1 < (brk l m).1 := by
  have h1 := plcs_le (l := l) (k := l.length + 1) (i := k) (by omega)
  have h2 := plcs_le (l := l) (k := l.length + 1) (i := m) hm
  have h3 := sorted_lt (plcs_sorted l (l.length + 1)) h hm
  exact hM.out _ _ (by omega) (by omega)
theorem lnL_of (hM : MonoTo l) : ∀ (d k : Nat) (Q : List Nat) (frm : Nat), k + d = (plcs l (l.length + 1)).length → wOk l k Q →
    lnL l ((plcs l (l.length + 1)).drop k) (Q.map (brk l)) frm = some (segs l (Q.map fun n => (plcs l (l.length + 1)).getD n 0) frm, true)
  | 0, k, [], frm, hd, ho => by
    rw [List.drop_eq_nil_of_le (by omega)]
    rfl
  | 0, k, n :: Q, frm, hd, ho => by
    have := ho.1
    have := ho.2.1
    omega
  | d + 1, k, [], frm, hd, ho => by
    rw [drop_cons_getD 0 (by omega), lnL, if_neg (by simp), if_neg (ho.2 k (Nat.le_refl _) (by omega))]
    exact lnL_of hM d (k + 1) [] frm (by omega) ⟨by omega, fun j h1 h2 => ho.2 j (by omega) h2⟩
  | d + 1, k, m :: Q, frm, hd, ho => by
    obtain ⟨h1, h2, h3, h4⟩ := ho
    rw [drop_cons_getD 0 (by omega), lnL]
    by_cases hm : k = m
    · subst hm
      rw [if_pos (show (List.map (brk l) (k :: Q)).head? = some (brkAt l ((plcs l (l.length + 1)).getD k 0)) from rfl), List.map_cons, List.tail_cons, lnL_of hM d (k + 1) Q _ (by omega) h4]
      rfl
    · have hne := brk_lt hM (k := k) (m := m) (by omega) h2
      rw [if_neg (by
        simp only [List.map_cons, List.head?_cons, Option.some.injEq]
        intro hc
        have : (brk l m).1 = (brk l k).1 := by rw [hc]
        omega), if_neg (h3 k (Nat.le_refl _) (by omega))]
      exact lnL_of hM d (k + 1) (m :: Q) frm (by omega) ⟨by omega, h2, fun j h5 h6 => h3 j (by omega) h6, h4⟩
theorem lnW_of (hM : MonoTo l) {Q : List Nat} (ho : wOk l 0 Q) : lnW l (Q.map (brk l)) = some (segs l (Q.map fun n => (plcs l (l.length + 1)).getD n 0) 0, true) := by
  unfold lnW
  exact lnL_of hM (plcs l (l.length + 1)).length 0 Q 0 (by omega) ho
theorem segs_len (l : List Part) : ∀ (P : List Nat) (frm : Nat), (segs l P frm).length = P.length + 1
  | [], _ => rfl
  | p :: P, frm => by simp [segs, segs_len l P p]
theorem wOk_lt : ∀ (Q : List Nat) (k : Nat), wOk l k Q → ∀ n ∈ Q, n < (plcs l (l.length + 1)).length
  | [], _, _, n, h => by cases h
  | m :: Q, k, ho, n, h => by
    rcases List.mem_cons.1 h with rfl | h
    · exact ho.2.1
    · exact wOk_lt Q _ ho.2.2.2 n h
end
section
variable {s : ByteArray} {width : Int}
theorem lines_of {Q : List Nat} (ho : wOk (parts s) 0 Q) : linesL s (Q.map (brk (parts s))) = segs (parts s) (Q.map fun n => (plcs (parts s) ((parts s).length + 1)).getD n 0) 0 ∧ linesB s (Q.map (brk (parts s))) = true := by
  have h := lnW_of (parts_mono s) ho
  unfold linesL linesB
  rw [h]
  exact ⟨rfl, rfl⟩
theorem wrapOut_of (hw1 : 2 ≤ width) (hw2 : width ≤ 200) : wrapOut (parts s) width = (wF (parts s) width 0).map (brk (parts s)) := by
  have h := (wF_ok (parts_small s) hw1 hw2 (plcs (parts s) ((parts s).length + 1)).length 0 (by omega)).1
  have h2 := wOk_lt _ _ h
  unfold wrapOut
  refine List.map_congr_left fun n hn => ?_
  exact outL_getD (h2 n hn)
end
end Go.SX.Plain
/- The document's reading of a way, line by line. No program here. -/
namespace Go.SX.Plain
def frO (R : List Nat) (i : Nat) : Nat := if i = 0 then 0 else R.getD (i - 1) 0
def toO (l : List Part) (R : List Nat) (i : Nat) : Nat := if i < R.length then R.getD i 0 else l.length
theorem segs_get (l : List Part) : ∀ (R : List Nat) (frm i : Nat), i ≤ R.length → (segs l R frm).getD i [] = segOf l (if i = 0 then frm else R.getD (i - 1) 0) (toO l R i)
  | [], frm, i, h => by
    obtain rfl : i = 0 := by simpa using h
    simp only [segs, toO, segOf, List.length_nil, Nat.lt_irrefl, if_false, if_true]
    rw [List.take_of_length_le (by simp)]
    rfl
  | p :: R, frm, 0, h => by
    simp [segs, toO, segOf]
  | p :: R, frm, i + 1, h => by
    have ih := segs_get l R p i (by simpa using h)
    simp only [segs, List.getD_cons_succ]
    rw [ih]
    have h1 : toO l (p :: R) (i + 1) = toO l R i := by
      unfold toO
      simp only [List.length_cons, List.getD_cons_succ]
      by_cases hi : i < R.length
      · rw [if_pos hi, if_pos (by omega)]
      · rw [if_neg hi, if_neg (by omega)]
    rw [h1, if_neg (show ¬ i + 1 = 0 by omega), Nat.add_sub_cancel]
    congr 1
    cases i with
    | zero => rfl
    | succ i => simp
structure ReadR (s : ByteArray) (way : List (Int × Int)) (R : List Nat) : Prop where
  rd : rdW (parts s) way = some (R, true)
  lines : linesL s way = segs (parts s) R 0
  len : R.length = way.length
  frm : ∀ i, i ≤ R.length → frO R i ≤ toO (parts s) R i
  to : ∀ i, toO (parts s) R i ≤ (parts s).length
  get : ∀ i, i ≤ R.length → (linesL s way).getD i [] = segOf (parts s) (frO R i) (toO (parts s) R i)
end Go.SX.Plain
/- The texts of a way's lines. No program here. -/
namespace Go.SX.Plain
def textL (s : ByteArray) (y : List Part) : ByteArray := if (trimL y).length = 0 then ByteArray.empty else s.extract ((trimL y).getD 0 dPart).c.at.toNat (((trimL y).getD ((trimL y).length - 1) dPart).c.at + ((trimL y).getD ((trimL y).length - 1) dPart).c.len).toNat
def linesE (s : ByteArray) (way : List (Int × Int)) : Int := if 4096 < s.size then 3 else if linesB s way = false then 1 else 0
def linesT (s : ByteArray) (way : List (Int × Int)) : List ByteArray := if linesE s way = 0 then (linesL s way).map (textL s) else []
theorem part_cl (s : ByteArray) {i : Nat} (h : i < (parts s).length) : ∃ f t : Nat, f < t ∧ t ≤ sgN s ∧ ((parts s).getD i dPart).c.frm = f ∧ ((parts s).getD i dPart).c.to = t ∧ ((parts s).getD i dPart).c.at = (posS s f : Nat) ∧ ((parts s).getD i dPart).c.at + ((parts s).getD i dPart).c.len = (posS s t : Nat) := by
  have hlen : (parts s).length = (clusters s).length := by simp [parts]
  have e : ((parts s).getD i dPart).c = (clusters s)[i]'(by omega) := by
    simp [parts, List.getD_eq_getElem?_getD, show i < (clusters s).length by omega]; rfl
  obtain ⟨f, t, h1, h2, h3⟩ := (clusters_ok s _ (List.getElem_mem (show i < (clusters s).length by omega))).ex
  rw [e, h3]
  refine ⟨f, t, h1, h2, rfl, rfl, ?_, ?_⟩
  · exact al_pos s f
  · show (al s).getD f 0 + ((al s).getD t 0 - (al s).getD f 0) = _
    rw [← al_pos s t]
    omega
theorem part_ord (s : ByteArray) {i j : Nat} (h : i ≤ j) (hj : j < (parts s).length) : ((parts s).getD i dPart).c.frm < ((parts s).getD j dPart).c.to ∧ 0 ≤ ((parts s).getD i dPart).c.at ∧ ((parts s).getD i dPart).c.at ≤ ((parts s).getD j dPart).c.at + ((parts s).getD j dPart).c.len ∧ ((parts s).getD j dPart).c.at + ((parts s).getD j dPart).c.len ≤ s.size := by
  obtain ⟨f, t, a1, a2, a3, a4, a5, a6⟩ := part_cl s (i := i) (by omega)
  obtain ⟨f', t', b1, b2, b3, b4, b5, b6⟩ := part_cl s (i := j) hj
  have htt : t ≤ t' := by
    by_cases he : i = j
    · subst he; omega
    · have := (parts_mono s).out i j (by omega) hj
      omega
  have hp := posS_mono s (i := f) (j := t') (by omega) b2
  have hq := posS_le s t'
  exact ⟨by omega, by omega, by omega, by omega⟩
theorem trim_get {l y : List Part} {a b : Nat} (hy : y = (l.drop a).take b) {k : Nat} (hk : k < (trimL y).length) : (trimL y).getD k dPart = l.getD (a + k) dPart ∧ a + k < l.length := by
  have h1 : k < trimN y := by rw [← trimL_len]; exact hk
  have h2 := trimN_le y
  have h3 : y.length = min b (l.length - a) := by rw [hy]; simp
  refine ⟨?_, by omega⟩
  unfold trimL
  subst hy
  simp only [List.getD_eq_getElem?_getD, List.getElem?_take, List.getElem?_drop]
  rw [if_pos h1, if_pos (by omega)]
theorem linesT_len (s : ByteArray) (way : List (Int × Int)) : (linesT s way).length ≤ 5000 := by
  unfold linesT
  split
  · rename_i h
    unfold linesE at h
    split at h
    · cases h
    · rename_i h1
      split at h
      · cases h
      · rename_i h2
        have := linesB_way (s := s) (way := way) (by simpa using h2)
        rw [List.length_map]
        omega
  · simp
end Go.SX.Plain
/- No way is better: said of breaks. No program here. -/
namespace Go.SX.Plain
section
variable {l : List Part} {width : Int}
theorem map_getD (f : Nat → Int × Int) (Q : List Nat) {i : Nat} (h : i < Q.length) : (Q.map f).getD i (0, 0) = f (Q.getD i 0) := by
  simp [List.getD_eq_getElem?_getD, h]
theorem getD_memN {Q : List Nat} {i : Nat} (h : i < Q.length) : Q.getD i 0 ∈ Q := by
  simp [List.getD_eq_getElem?_getD, h]
structure NoLess (s : ByteArray) (width : Int) (other : List (Int × Int)) : Prop where
  cases : (badE s width other = 35 ∧ badN s width other = 0) ∨ badE s width other = 0
  least : badE s width other = 0 → ((tabOf (parts s) width).getD 0 zB).bad ≤ badN s width other
  few : badE s width other = 0 → badN s width other = ((tabOf (parts s) width).getD 0 zB).bad → (wrapOut (parts s) width).length ≤ other.length
  first : badE s width other = 0 → badN s width other = ((tabOf (parts s) width).getD 0 zB).bad → other.length = (wrapOut (parts s) width).length → ∀ i, i < (wrapOut (parts s) width).length →
    (∀ j, j < i → other.getD j (0, 0) = (wrapOut (parts s) width).getD j (0, 0)) → other.getD i (0, 0) ≠ (wrapOut (parts s) width).getD i (0, 0) → ((wrapOut (parts s) width).getD i (0, 0)).1 < (other.getD i (0, 0)).1
end
end Go.SX.Plain
/- Plain law: a styled text, broken. -/
namespace Go.SX.Plain
set_option linter.unusedSimpArgs false
def wayP (l : List Part) (width : Int) : List Nat := (wayL l width).map fun m => (plcs l (l.length + 1)).getD m 0
def plA (l : List Part) (i : Nat) : Int := if i = 0 then 0 else (l.getD (i - 1) dPart).c.to
theorem wOk_hard {l : List Part} : ∀ (Q : List Nat) (k : Nat), wOk l k Q → ∀ j, k ≤ j → j < (plcs l (l.length + 1)).length → kindAt l ((plcs l (l.length + 1)).getD j 0) = 1 → j ∈ Q
  | [], k, h, j, h1, h2, h3 => absurd h3 (h.2 j h1 h2)
  | n :: Q, k, h, j, h1, h2, h3 => by
    obtain ⟨a1, a2, a3, a4⟩ := h
    rcases Nat.lt_trichotomy j n with h4 | h4 | h4
    · exact absurd h3 (a3 j h1 h4)
    · subst h4; exact List.mem_cons_self
    · exact List.mem_cons_of_mem _ (wOk_hard Q (n + 1) a4 j h4 h2 h3)
theorem wOk_sorted {l : List Part} : ∀ (Q : List Nat) (k : Nat), wOk l k Q → Q.Pairwise (· < ·) ∧ ∀ n ∈ Q, k ≤ n
  | [], k, h => ⟨.nil, fun n hn => by cases hn⟩
  | n :: Q, k, h => by
    obtain ⟨a1, a2, a3, a4⟩ := h
    obtain ⟨b1, b2⟩ := wOk_sorted Q (n + 1) a4
    refine ⟨List.pairwise_cons.2 ⟨fun m hm => by have := b2 m hm; omega, b1⟩, fun m hm => ?_⟩
    rcases List.mem_cons.1 hm with rfl | hm
    · exact a1
    · have := b2 m hm
      omega
theorem remGo_end (l a : List Int) : ∀ (k f t : Nat), t ≤ l.length → l.length - t ≤ k → ∃ c, (remGo l a k f t).getLast? = some c ∧ c.to = l.length
  | 0, f, t, h1, h2 => ⟨(gAt l a f t).c, rfl, by show (t : Int) = _; omega⟩
  | k + 1, f, t, h1, h2 => by
    simp only [remGo]
    split
    · split
      · exact remGo_end l a k f (t + 1) (by omega) (by omega)
      · obtain ⟨c, hc, ht⟩ := remGo_end l a k t (t + 1) (by omega) (by omega)
        refine ⟨c, ?_, ht⟩
        rw [List.getLast?_cons, hc]
        rfl
    · exact ⟨(gAt l a f t).c, rfl, by show (t : Int) = _; omega⟩
section
variable {s : ByteArray}
theorem parts_c {j : Nat} (hj : j < (parts s).length) : ((parts s).getD j dPart).c = (clusters s).getD j ⟨0, 0, 0, 0, 0⟩ := by
  have hlen : (parts s).length = (clusters s).length := by simp [parts]
  have hj2 : j < (clusters s).length := by omega
  simp [parts, List.getD_eq_getElem?_getD, hj2]
  rfl
theorem plA_end : plA (parts s) (parts s).length = (sgN s : Nat) := by
  have hlen : (parts s).length = (clusters s).length := by simp [parts]
  have hrl : sgN s = (signsFrom s 0).length := rl_len s
  have hcr := clusters_rem s
  by_cases h0 : 0 < (signsFrom s 0).length
  · rw [if_pos h0] at hcr
    obtain ⟨c, hc, ht⟩ := remGo_end (rl s) (al s) ((rl s).length - 1) 0 1 (by have := rl_len s; omega) (Nat.le_refl _)
    have hr : rem (rl s) (al s) 0 1 = remGo (rl s) (al s) ((rl s).length - 1) 0 1 := rfl
    rw [hr] at hcr
    rw [← hcr] at hc
    have hpos : 0 < (clusters s).length := by
      rcases Nat.eq_zero_or_pos (clusters s).length with h | h
      · rw [List.eq_nil_of_length_eq_zero h] at hc; cases hc
      · exact h
    unfold plA
    rw [if_neg (by omega), parts_c (by omega), hlen]
    rw [List.getLast?_eq_getElem?] at hc
    rw [List.getD_eq_getElem?_getD, hc]
    show c.to = _
    rw [ht]
    rfl
  · rw [if_neg h0] at hcr
    have : (parts s).length = 0 := by rw [hlen, hcr]; rfl
    unfold plA
    rw [if_pos this]
    omega
theorem plA_frm {i : Nat} (hi : i < (parts s).length) : ((parts s).getD i dPart).c.frm = plA (parts s) i := by
  unfold plA
  by_cases h : i = 0
  · subst h
    rw [if_pos rfl, parts_c hi]
    have hc := clusters_chn s
    have hlen : (parts s).length = (clusters s).length := by simp [parts]
    cases hcl : clusters s with
    | nil =>
      have : (parts s).length = 0 := by rw [hlen, hcl]; rfl
      omega
    | cons c r =>
      rw [hcl] at hc
      cases hc with
      | cons hx _ => exact hx
  · rw [if_neg h]
    exact parts_chn s (by omega) hi
theorem plA_lt {i j : Nat} (h : i < j) (hj : j ≤ (parts s).length) : plA (parts s) i < plA (parts s) j := by
  unfold plA
  rw [if_neg (show ¬ j = 0 by omega)]
  by_cases h0 : i = 0
  · rw [if_pos h0]
    obtain ⟨f, t, a1, a2, a3, a4, a5, a6⟩ := part_cl s (i := j - 1) (by omega)
    omega
  · rw [if_neg h0]
    exact (parts_mono s).out (i - 1) (j - 1) (by omega) (by omega)
theorem plA_inj {i j : Nat} (hi : i ≤ (parts s).length) (hj : j ≤ (parts s).length) (h : plA (parts s) i = plA (parts s) j) : i = j := by
  rcases Nat.lt_trichotomy i j with h1 | h1 | h1
  · have := plA_lt h1 hj; omega
  · exact h1
  · have := plA_lt h1 hi; omega
end
structure WayF (s : ByteArray) (width : Int) (W : List Nat) : Prop where
  len : W.length = (wrapOut (parts s) width).length
  brk : ∀ i, i < W.length → (wrapOut (parts s) width).getD i (0, 0) = (plA (parts s) (W.getD i 0), kindAt (parts s) (W.getD i 0))
  pos : ∀ i, i < W.length → 0 < W.getD i 0 ∧ W.getD i 0 ≤ (parts s).length
  rway : rwayL (parts s) width = W.map fun (p : Nat) => (p : Int)
  lines : linesL s (wrapOut (parts s) width) = segs (parts s) W 0
  frto : ∀ i, i ≤ W.length → frO W i ≤ toO (parts s) W i ∧ toO (parts s) W i ≤ (parts s).length
  fin : 0 < (parts s).length → ((parts s).getD ((parts s).length - 1) dPart).fin = true → frO W W.length = (parts s).length
theorem wayF {s : ByteArray} {width : Int} (hw1 : 2 ≤ width) (hw2 : width ≤ 200) : WayF s width (wayP (parts s) width) := by
  have hS := parts_small s
  have hok : wOk (parts s) 0 (wayL (parts s) width) := (wF_ok hS hw1 hw2 (plcs (parts s) ((parts s).length + 1)).length 0 (by omega)).1
  have hlt := wOk_lt _ _ hok
  have hout : wrapOut (parts s) width = (wayL (parts s) width).map (brk (parts s)) := wrapOut_of hw1 hw2
  have hWl : (wayP (parts s) width).length = (wayL (parts s) width).length := List.length_map _
  have hget : ∀ i, i < (wayL (parts s) width).length → (wayP (parts s) width).getD i 0 = (plcs (parts s) ((parts s).length + 1)).getD ((wayL (parts s) width).getD i 0) 0 := fun i hi => by
    unfold wayP
    simp [List.getD_eq_getElem?_getD, hi]
  have hpw : (wayP (parts s) width).Pairwise (· < ·) := by
    unfold wayP
    rw [List.pairwise_map]
    refine (wOk_sorted _ _ hok).1.imp_of_mem fun {a b} ha hb hab => ?_
    exact sorted_lt (plcs_sorted _ _) hab (hlt b hb)
  have hpos : ∀ i, i < (wayP (parts s) width).length → 0 < (wayP (parts s) width).getD i 0 ∧ (wayP (parts s) width).getD i 0 ≤ (parts s).length := fun i hi => by
    rw [hget i (by omega)]
    have := plcs_le (hlt _ (getD_memN (Q := wayL (parts s) width) (i := i) (by omega)))
    omega
  refine ⟨by rw [hWl, hout, List.length_map], fun i hi => ?_, hpos, by rw [rwayL_eq hS hw1 hw2]; unfold wayP; rw [List.map_map]; rfl, ?_, fun i hi => ⟨?_, ?_⟩, fun h0 hf => ?_⟩
  · rw [hout, map_getD _ _ (by omega), hget i (by omega)]
    have hp := hpos i hi
    rw [hget i (by omega)] at hp
    show brkAt (parts s) _ = _
    unfold brkAt plA
    rw [if_neg (by omega)]
  · rw [hout]
    exact (lines_of hok).1
  · unfold frO toO
    by_cases h0 : i = 0
    · rw [if_pos h0]; exact Nat.zero_le _
    · rw [if_neg h0]
      by_cases h2 : i < (wayP (parts s) width).length
      · rw [if_pos h2]
        exact Nat.le_of_lt (sorted_lt hpw (by omega) h2)
      · rw [if_neg h2]
        exact (hpos (i - 1) (by omega)).2
  · unfold toO
    split
    · exact (hpos _ (by assumption)).2
    · exact Nat.le_refl _
  · have hk := fin_hard hf
    rw [show (parts s).length - 1 + 1 = (parts s).length by omega] at hk
    have hmem : (parts s).length ∈ plcs (parts s) ((parts s).length + 1) := plcs_mem.2 ⟨by omega, h0, by rw [hk]; decide⟩
    obtain ⟨j, hj, hje⟩ := List.mem_iff_getElem.1 hmem
    have hjd : (plcs (parts s) ((parts s).length + 1)).getD j 0 = (parts s).length := by
      simp [List.getD_eq_getElem?_getD, hj, hje]
    have hjq := wOk_hard _ _ hok j (Nat.zero_le _) hj (by rw [hjd]; exact hk)
    obtain ⟨i, hi, hie⟩ := List.mem_iff_getElem.1 hjq
    have hid : (wayP (parts s) width).getD i 0 = (parts s).length := by
      rw [hget i hi]
      have : (wayL (parts s) width).getD i 0 = j := by simp [List.getD_eq_getElem?_getD, hi, hie]
      rw [this, hjd]
    unfold frO
    rw [if_neg (by omega)]
    by_cases hl : i = (wayP (parts s) width).length - 1
    · rw [← hl, hid]
    · have h1 := sorted_lt hpw (show i < (wayP (parts s) width).length - 1 by omega) (by omega)
      have h2 := (hpos ((wayP (parts s) width).length - 1) (by omega)).2
      rw [hid] at h1
      omega
def edF (l : List Part) (W : List Nat) (i : Nat) : Nat := frO W i + trimN (segOf l (frO W i) (toO l W i))
def edT (l : List Part) (W : List Nat) (i : Nat) : Nat := if frO W i < toO l W i ∧ (l.getD (toO l W i - 1) dPart).fin = true then toO l W i - 1 else toO l W i
def edM (l : List Part) (W : List Nat) (i : Nat) : Bool := decide (i < W.length) && decide (kindAt l (W.getD i 0) ≠ 1)
def edK (l : List Part) (W : List Nat) (i : Nat) : Bool := decide (edF l W i = edT l W i) && !edM l W i
def nlB : ByteArray := { data := #[10] }
def edW (l : List Part) (W : List Nat) (i : Nat) : ByteArray := if edM l W i = true then nlB else ByteArray.empty
def txGo (l : List Part) (W : List Nat) : Nat → ByteArray → List Spn → ByteArray × List Spn × Int
  | 0, S, L => (S, L, 0)
  | i + 1, S, L => if edK l W i = true then txGo l W i S L
    else if splE S L (plA l (edF l W i)) (plA l (edT l W i)) (edW l W i) [] ≠ 0 then (ByteArray.empty, [], splE S L (plA l (edF l W i)) (plA l (edT l W i)) (edW l W i) [])
    else txGo l W i (splT S L (plA l (edF l W i)) (plA l (edT l W i)) (edW l W i) []) (splL S L (plA l (edF l W i)) (plA l (edT l W i)) (edW l W i) [])
def txR (s : ByteArray) (l : List Spn) (width : Int) : ByteArray × List Spn × Int :=
  if chkN s.size l (sgN s : Nat) ≠ 0 then (ByteArray.empty, [], chkN s.size l (sgN s : Nat))
  else if checkN s.size width ≠ 0 then (ByteArray.empty, [], checkN s.size width)
  else txGo (parts s) (wayP (parts s) width) ((wayP (parts s) width).length + 1) s l
section
variable {l : List Part} {W : List Nat} {i : Nat} {S : ByteArray} {L : List Spn}
theorem txGo_skip (h : edK l W i = true) : txGo l W (i + 1) S L = txGo l W i S L := by
  simp only [txGo]; rw [if_pos h]
theorem txGo_err (h : edK l W i = false) (h2 : splE S L (plA l (edF l W i)) (plA l (edT l W i)) (edW l W i) [] ≠ 0) : txGo l W (i + 1) S L = (ByteArray.empty, [], splE S L (plA l (edF l W i)) (plA l (edT l W i)) (edW l W i) []) := by
  simp only [txGo]; rw [if_neg (by rw [h]; decide), if_pos h2]
theorem txGo_go (h : edK l W i = false) (h2 : splE S L (plA l (edF l W i)) (plA l (edT l W i)) (edW l W i) [] = 0) : txGo l W (i + 1) S L = txGo l W i (splT S L (plA l (edF l W i)) (plA l (edT l W i)) (edW l W i) []) (splL S L (plA l (edF l W i)) (plA l (edT l W i)) (edW l W i) []) := by
  simp only [txGo]; rw [if_neg (by rw [h]; decide), if_neg (fun hh => hh h2)]
theorem edF_le (hft : frO W i ≤ toO l W i) (hto : toO l W i ≤ l.length) : frO W i ≤ edF l W i ∧ edF l W i ≤ toO l W i := by
  unfold edF
  have h1 := trimN_le (segOf l (frO W i) (toO l W i))
  rw [segOf_len hto] at h1
  omega
theorem edT_le (hft : frO W i ≤ toO l W i) : frO W i ≤ edT l W i ∧ edT l W i ≤ toO l W i := by
  unfold edT
  split <;> omega
end
end Go.SX.Plain
/- Plain law: what a round of the breaking of a styled text sees. -/
namespace Go.SX.Plain
set_option linter.unusedSimpArgs false
def signP (l : List Pc) (i : Nat) : Int := if l.length = 0 then 0 else placeP l i
section
variable {s : ByteArray} {width : Int} {W : List Nat} {i : Nat}
theorem wf_seg (h : WayF s width W) (hi : i ≤ W.length) : (linesL s (wrapOut (parts s) width)).getD i [] = segOf (parts s) (frO W i) (toO (parts s) W i) := by
  rw [h.lines, segs_get _ _ _ _ hi]
  rfl
theorem wf_seglen (h : WayF s width W) (hi : i ≤ W.length) : (segOf (parts s) (frO W i) (toO (parts s) W i)).length = toO (parts s) W i - frO W i := segOf_len (h.frto i hi).2
theorem wf_at (h : WayF s width W) (hi : i ≤ W.length) {k : Nat} (hk : k < toO (parts s) W i - frO W i) : (segOf (parts s) (frO W i) (toO (parts s) W i)).getD k dPart = (parts s).getD (frO W i + k) dPart := by
  unfold segOf
  simp only [List.getD_eq_getElem?_getD, List.getElem?_take, List.getElem?_drop]
  rw [if_pos hk]
theorem wf_to (h : WayF s width W) (hi : i ≤ W.length) : plA (parts s) (toO (parts s) W i) = if i < W.length then ((wrapOut (parts s) width).getD i (0, 0)).1 else (sgN s : Nat) := by
  unfold toO
  split
  · rename_i h1
    rw [h.brk i h1]
  · exact plA_end
theorem wf_kind (h : WayF s width W) : edM (parts s) W i = (decide (i < W.length) && !(((wrapOut (parts s) width).getD i (0, 0)).2 == 1)) := by
  unfold edM
  by_cases h1 : i < W.length
  · rw [h.brk i h1]
    congr 1
    by_cases h2 : kindAt (parts s) (W.getD i 0) = 1
    · rw [decide_eq_false (fun hh => hh h2), h2]; rfl
    · rw [decide_eq_true h2, beq_eq_false_iff_ne.2 h2]; rfl
  · rw [decide_eq_false h1]; rfl
theorem edW_size : decide (edW (parts s) W i = { data := #[] }) = !edM (parts s) W i := by
  unfold edW
  cases edM (parts s) W i with
  | true => rw [if_pos rfl]; exact decide_eq_false (fun h => by have := congrArg ByteArray.size h; revert this; decide)
  | false => rw [if_neg (by decide)]; exact decide_eq_true rfl
theorem edK_eq (h : WayF s width W) (hi : i ≤ W.length) : edK (parts s) W i = (plA (parts s) (edF (parts s) W i) == plA (parts s) (edT (parts s) W i) && !edM (parts s) W i) := by
  have h3 := h.frto i hi
  have h4 := edF_le (l := parts s) (W := W) (i := i) h3.1 h3.2
  have h5 := edT_le (l := parts s) (W := W) (i := i) h3.1
  unfold edK
  by_cases he : edF (parts s) W i = edT (parts s) W i
  · rw [decide_eq_true he, he, beq_self_eq_true]
  · rw [decide_eq_false he]
    have : (plA (parts s) (edF (parts s) W i) == plA (parts s) (edT (parts s) W i)) = false := by
      rw [beq_eq_false_iff_ne]
      exact fun e => he (plA_inj (by omega) (by omega) e)
    rw [this]
theorem wf_fin (h : WayF s width W) (hi : i ≤ W.length) (hlt : frO W i < toO (parts s) W i) (hf : ((parts s).getD (toO (parts s) W i - 1) dPart).fin = true) : ((parts s).getD (toO (parts s) W i - 1) dPart).c.frm = plA (parts s) (edT (parts s) W i) := by
  have h3 := h.frto i hi
  unfold edT
  rw [if_pos ⟨hlt, hf⟩]
  exact plA_frm (by omega)
theorem wf_nofin (hf : ¬ (frO W i < toO (parts s) W i ∧ ((parts s).getD (toO (parts s) W i - 1) dPart).fin = true)) : plA (parts s) (edT (parts s) W i) = plA (parts s) (toO (parts s) W i) := by
  unfold edT
  rw [if_neg hf]
theorem wf_nil (h : WayF s width W) (hi : i ≤ W.length) (hlt : ¬ frO W i < toO (parts s) W i) : edF (parts s) W i = edT (parts s) W i := by
  have h3 := h.frto i hi
  have h4 := edF_le (l := parts s) (W := W) (i := i) h3.1 h3.2
  have h5 := edT_le (l := parts s) (W := W) (i := i) h3.1
  omega
theorem wf_from0 (h : WayF s width W) (hi : i ≤ W.length) (hlt : frO W i < toO (parts s) W i) (h0 : trimN (segOf (parts s) (frO W i) (toO (parts s) W i)) = 0) : ((segOf (parts s) (frO W i) (toO (parts s) W i)).getD 0 dPart).c.frm = plA (parts s) (edF (parts s) W i) := by
  have h3 := h.frto i hi
  rw [wf_at h hi (by omega), Nat.add_zero]
  unfold edF
  rw [h0, Nat.add_zero]
  exact plA_frm (by omega)
theorem wf_from1 (h : WayF s width W) (hi : i ≤ W.length) (h0 : 0 < trimN (segOf (parts s) (frO W i) (toO (parts s) W i))) : ((trimL (segOf (parts s) (frO W i) (toO (parts s) W i))).getD ((trimL (segOf (parts s) (frO W i) (toO (parts s) W i))).length - 1) dPart).c.to = plA (parts s) (edF (parts s) W i) := by
  have h3 := h.frto i hi
  have h1 := trimN_le (segOf (parts s) (frO W i) (toO (parts s) W i))
  rw [segOf_len h3.2] at h1
  rw [trimL_len]
  rw [(trim_get (l := parts s) (y := segOf (parts s) (frO W i) (toO (parts s) W i)) (a := frO W i) (b := toO (parts s) W i - frO W i) rfl (k := trimN (segOf (parts s) (frO W i) (toO (parts s) W i)) - 1) (by rw [trimL_len]; omega)).1]
  unfold edF plA
  rw [if_neg (by omega), show frO W i + (trimN (segOf (parts s) (frO W i) (toO (parts s) W i)) - 1) = frO W i + trimN (segOf (parts s) (frO W i) (toO (parts s) W i)) - 1 by omega]
theorem txGo_len (l : List Part) (W : List Nat) {B : Nat} (hB : 256 ≤ B) : ∀ (i : Nat) (S : ByteArray) (L : List Spn), L.length ≤ B → (txGo l W i S L).2.1.length ≤ B
  | 0, S, L, h => h
  | i + 1, S, L, h => by
    simp only [txGo]
    split
    · exact txGo_len l W hB i S L h
    · split
      · exact Nat.zero_le _
      · exact txGo_len l W hB i _ _ (Nat.le_trans (splL_len _ _ _ _ _ _) hB)
theorem txR_len (s : ByteArray) (l : List Spn) (width : Int) : (txR s l width).2.1.length ≤ l.length + 256 := by
  unfold txR
  split
  · exact Nat.zero_le _
  · split
    · exact Nat.zero_le _
    · exact txGo_len _ _ (by omega) _ _ _ (by omega)
end
end Go.SX.Plain
