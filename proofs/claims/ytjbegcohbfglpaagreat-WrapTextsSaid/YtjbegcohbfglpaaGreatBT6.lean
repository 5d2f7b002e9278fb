/- A verified symbolic executor for Go code in the model, contracts and plain laws that the proofs lean on, BT6. -/
import Derived.Test.YtjbegcohbfglpaaGreatBT5
set_option linter.unusedVariables false
set_option linter.unusedSimpArgs false
/- Contract of wrap's Wrap. -/
namespace Go.SX.Tryz
open Go.Proofs Go.Proofs.Tryz Go.SX.Plain
set_option maxRecDepth 100000
set_option maxHeartbeats 0
set_option linter.unusedSimpArgs false
def C_bst : Cdc Bst where
  size := 4
  enc := bAV
  dec l := match l with
    | [.v (.int _ a), .v (.int _ b), .v (.int _ c), d] => ⟨a, b, c, bOf d⟩
    | _ => ⟨0, 0, 0, false⟩
  d := ⟨0, 0, 0, false⟩
def D_wrp : Cds := [(49, ⟨Int × Int, C_brk⟩), (79, ⟨Bst, C_bst⟩)]
theorem D_wrp_ok : CdsOK T D_wrp := .cons ⟨fun _ => rfl, by decide, _, rfl, rfl, by decide⟩ (.cons ⟨fun _ => rfl, by decide, _, rfl, rfl, by decide⟩ .nil)
theorem q_wrap : fact 10 f10 := ⟨by kernel_rfl, rfl, by kernel_rfl⟩
theorem q_look : fact 30 f30 := ⟨by kernel_rfl, rfl, by kernel_rfl⟩
def wrapL (s : ByteArray) (width : Int) : List (Int × Int) := if checkN s.size width = 0 then wrapOut (parts s) width else []
def wrapB (s : ByteArray) (width : Int) : Int := if checkN s.size width = 0 then ((tabOf (parts s) width).getD 0 zB).bad else 0
theorem con_wrap : Con prog 10 (fun ((s, width) : ByteArray × Int) => [.v (.string s), .v (.int .i64 width)]) (fun (s, width) => .tup [.ro 2 C_brk.enc C_brk.d (wrapL s width) none, .v (.int .i64 (wrapB s width)), .v (.int .i64 (checkN s.size width))]) (fun _ => True) := by
  refine Con.of (by kernel_rfl) T_ok D_wrp_ok (.inl (J := []) q_look.1 q_look.2.1 q_look.2.2 (.con con_before (.con con_check (.con con_parts (.con con_places .nil))))) 6 [13] q_wrap.1 q_wrap.2.1 q_wrap.2.2 (fun _ => rfl) fun i hi => ?_
  obtain ⟨s, width⟩ := i
  have hpl := parts_len s
  have hps := parts_small s
  repeat' (first | (with_reducible first | refine ⟨_, ⟨(.cons (.v _) .nil), ?_⟩, ?_⟩ | refine ⟨(_, _), ⟨(.cons (.v _) (.cons (.v _) .nil)), ?_⟩, ?_⟩ | refine ⟨_, ⟨(.cons (.ro _ _ _ _ _) .nil), ?_⟩, ?_⟩ | refine And.intro ?_ ?_ | intro _ | exact True.intro | rfl) | ((with_reducible first | refine LeL.chk ?_ | refine LeF.chk ?_ | refine Run.mk ?_); (conv => whnf)) | ((with_reducible show LeR _ _ _); refine LeR.own rfl rfl rfl ?_))
  · simp_all [wrapL]
  · simp_all [wrapB]
  all_goals
    have hck : checkN s.size width = 0 := by simp_all
    have hw1 : 2 ≤ width ∧ width ≤ 200 ∧ s.size ≤ 4096 := by
      unfold checkN at hck
      split at hck
      · cases hck
      · split at hck
        · cases hck
        · omega
    obtain ⟨hw1, hw2, hsz⟩ := hw1
  · dsimp only; omega
  · dsimp only; omega
  all_goals
    have hN : (plcs (parts s) ((parts s).length + 1)).length ≤ (parts s).length + 1 := plcs_len _ _
  · rw [atL_length]; refine Fits.i64 ?_ ?_ <;> omega
  · rw [atL_length]; omega
  · rw [atL_length]; omega
  · rw [atL_length]; dsimp only; omega
  · rfl
  · rfl
  · rfl
  · rfl
  have hL : wrapL s width = wrapOut (parts s) width := by unfold wrapL; rw [if_pos hck]
  have hB : wrapB s width = ((tabOf (parts s) width).getD 0 zB).bad := by unfold wrapB; rw [if_pos hck]
  clear hi
  revert hpl hps hN hL hB
  generalize parts s = l
  intro hpl hps hN hL hB
  refine loopI Nat [] (fun c => [(12, .v (.int .i64 (((plcs l (l.length + 1)).length : Int) - (c : Int))))]) (fun c => [(3, .row C_bst (tab l (plcs l (l.length + 1)) width c) 79 none)]) (fun c => c ≤ (plcs l (l.length + 1)).length + 1) (fun c => (plcs l (l.length + 1)).length + 1 - c) 0 (Nat.zero_le _) (Wk.chk ?_) fun c hc => ?_
  · ((conv => whnf); repeat' (first | ((with_reducible show EntLe _ _ _); refine EntLe.row ?_) | (with_reducible first | refine And.intro ?_ ?_ | exact True.intro | rfl | exact LeN.ro rfl) | ((with_reducible refine Run.mk ?_); (conv => whnf))))
    · rw [atL_length]; simp
    · rw [atL_length]; simp only [tab]; congr 1
  repeat' (first | (with_reducible first | refine And.intro ?_ ?_ | intro _) | ((with_reducible refine Run.mk ?_); (conv => whnf)))
  · have hc1 : c ≤ (plcs l (l.length + 1)).length := by
      have h : decide (0 ≤ ((plcs l (l.length + 1)).length : Int) - (c : Int)) = true := by assumption
      simp only [decide_eq_true_eq] at h; omega
    obtain ⟨k, hk⟩ : ∃ k, k = (plcs l (l.length + 1)).length - c := ⟨_, rfl⟩
    have hkc : ((plcs l (l.length + 1)).length : Int) - (c : Int) = (k : Int) := by omega
    rw [hkc]
    refine joinI Unit [] (fun _ => [(13, .v (.int .i64 (posn (plcs l (l.length + 1)) k : Nat)))]) (fun _ => []) (fun _ => True) ?_ fun _ _ => ?_
    · repeat' (first | (with_reducible first | refine ex_of () trivial ?_ | refine And.intro ?_ ?_ | intro _ | exact True.intro | rfl | refine EntLe.row ?_ | exact LeN.ro rfl) | ((with_reducible first | refine Wk.chk ?_ | refine Run.mk ?_); (conv => whnf)))
      all_goals (simp only [decide_eq_true_eq, decide_eq_false_iff_not] at *)
      · refine Fits.i64 ?_ ?_ <;> omega
      · omega
      · rw [atL_length]; omega
      · rw [show ((k : Int) - 1).toNat = k - 1 by omega]
        refine (atL_getD _ _ _).trans ?_
        unfold posn; rw [if_neg (by omega)]
      · unfold posn; rw [if_pos (by omega)]; rfl
    · repeat' ((with_reducible refine Run.mk ?_); (conv => whnf))
      have htl := tab_len l (plcs l (l.length + 1)) width c
      refine loopI (Nat × Bst) [] (fun | (n, acc) => [(19, .v (.int .i64 (n : Int))), (18, .v (.bool false))])
        (fun | (n, acc) => [(6, .box [.v (.int .i64 (posn (plcs l (l.length + 1)) n : Nat))] 3), (5, .box [.v (.int .i64 (scan l (posn (plcs l (l.length + 1)) k) (posn (plcs l (l.length + 1)) n - posn (plcs l (l.length + 1)) k)).2)] 3),
          (4, .box [.v (.int .i64 (scan l (posn (plcs l (l.length + 1)) k) (posn (plcs l (l.length + 1)) n - posn (plcs l (l.length + 1)) k)).1)] 3), (3, .row C_bst ((tab l (plcs l (l.length + 1)) width c).set k acc) 79 none)])
        (fun | (n, acc) => k ≤ n ∧ n ≤ (plcs l (l.length + 1)).length ∧ Gd (plcs l (l.length + 1)).length (tab l (plcs l (l.length + 1)) width c) k acc ∧ inner l (plcs l (l.length + 1)) width (tab l (plcs l (l.length + 1)) width c) k n acc = inner l (plcs l (l.length + 1)) width (tab l (plcs l (l.length + 1)) width c) k k zB)
        (fun | (n, _) => (plcs l (l.length + 1)).length - n) (k, zB) ⟨Nat.le_refl _, by omega, Gd.zero _ _ _, rfl⟩ (Wk.chk ?_) fun i hi => ?_
      · ((conv => whnf); repeat' (first | (with_reducible first | refine And.intro ?_ ?_ | exact True.intro | rfl | refine EntLe.row ?_ | exact LeN.ro rfl) | ((with_reducible refine Run.mk ?_); (conv => whnf))))
        all_goals first
          | (rw [Nat.sub_self]; rfl)
          | exact (tab_set0 _ _ _ (by omega)).symm
      obtain ⟨n, acc⟩ := i
      obtain ⟨hi1, hi2, hi3, hi4⟩ := hi
      have hmono := posn_mono (l := l) hi1 hi2
      repeat' (first | (with_reducible first | refine And.intro ?_ ?_ | intro _) | ((with_reducible refine Run.mk ?_); (conv => whnf)))
      · omega
      · exact of_decide_eq_true (by assumption)
      · have hn : n < (plcs l (l.length + 1)).length := by
          have h : decide ((n : Int) < ((atL l (l.length + 1)).length : Int)) = true := by assumption
          rw [atL_length] at h; simp only [decide_eq_true_eq] at h; omega
        have hPn := plcs_le hn
        have hlt := posn_lt hn
        have hgd := tab_gd (P := plcs l (l.length + 1)) hps hw2 c (n + 1) (by omega) (by omega)
        refine loopI (Nat × Unit) [] (fun _ => []) (fun | (j, _) => [(6, .box [.v (.int .i64 (j : Int))] 3), (5, .box [.v (.int .i64 (scan l (posn (plcs l (l.length + 1)) k) (j - posn (plcs l (l.length + 1)) k)).2)] 3),
          (4, .box [.v (.int .i64 (scan l (posn (plcs l (l.length + 1)) k) (j - posn (plcs l (l.length + 1)) k)).1)] 3)]) (fun | (j, _) => posn (plcs l (l.length + 1)) n ≤ j ∧ j ≤ (plcs l (l.length + 1)).getD n 0) (fun | (j, _) => (plcs l (l.length + 1)).getD n 0 - j) (posn (plcs l (l.length + 1)) n, ()) ⟨Nat.le_refl _, Nat.le_of_lt hlt⟩ (Wk.chk ?_) fun j hj => ?_
        · ((conv => whnf); repeat' (first | (with_reducible first | refine And.intro ?_ ?_ | exact True.intro | rfl | refine EntLe.row ?_ | exact LeN.ro rfl | exact LeN.rptr) | ((with_reducible refine Run.mk ?_); (conv => whnf))))
        obtain ⟨j, _⟩ := j
        obtain ⟨hj1, hj2⟩ := hj
        have hsb := scan_bd hps (posn (plcs l (l.length + 1)) k) (j - posn (plcs l (l.length + 1)) k)
        have hcb := hps.at j
        have g1 := hgd.b0
        have g2 : ((tab l (plcs l (l.length + 1)) width c).getD (n + 1) zB).bad ≤ 9000000000 := by have := hgd.b1; omega
        have g3 := hgd.p0
        have g4 : ((tab l (plcs l (l.length + 1)) width c).getD (n + 1) zB).places ≤ 5000 := by have := hgd.p1; omega
        have e1 : ((j : Int)).toNat = j := Int.toNat_natCast _
        have e2 : ((n : Int)).toNat = n := Int.toNat_natCast _
        have e3 : ((n : Int) + 1).toNat = n + 1 := by omega
        have e4 : C_bst.d = zB := rfl
        have e5 : C_part.d = dPart := rfl
        have e6 : (atL l (l.length + 1)).getD n C_int.d = ((plcs l (l.length + 1)).getD n 0 : Nat) := atL_getD _ _ _
        have e7 : (outL l (l.length + 1)).getD n C_brk.d = ((l.getD ((plcs l (l.length + 1)).getD n 0 - 1) dPart).c.to, kindAt l ((plcs l (l.length + 1)).getD n 0)) := outL_getD hn
        have e8 : ((tab l (plcs l (l.length + 1)) width c).set k acc).getD (n + 1) zB = (tab l (plcs l (l.length + 1)) width c).getD (n + 1) zB := Go.SX.Plain.getD_set_ne _ _ _ _ _ (by omega)
        have e9 : ((tab l (plcs l (l.length + 1)) width c).set k acc).getD k zB = acc := Go.SX.Plain.getD_set_eq _ _ _ _ (by omega)
        have e10 : ((k : Int)).toNat = k := Int.toNat_natCast _
        repeat' (first | (with_reducible first | refine ex_of (α := Nat × Unit) (j + 1, ()) ⟨⟨?_, ?_⟩, ?_⟩ ?_ | refine ex_of (α := Nat × Bst) (n + 1, nextAcc l (plcs l (l.length + 1)) width (tab l (plcs l (l.length + 1)) width c) k n acc) ⟨⟨?_, ?_, ?_, ?_⟩, ?_⟩ ?_ | refine ex_of (α := Nat) (c + 1) ⟨?_, ?_⟩ ?_ | refine ⟨(⟨_, _, _, _⟩, ⟨_, _, _, _⟩), ⟨(.cons (.agg (.cons (.v _) (.cons (.v _) (.cons (.v _) (.cons (.vb _) .nil))))) (.cons (.agg (.cons (.v _) (.cons (.v _) (.cons (.v _) (.cons (.sb _) .nil))))) .nil)), ?_⟩, ?_⟩ | refine And.intro ?_ ?_ | intro _ | exact True.intro | rfl | refine EntLe.row ?_ | exact LeN.ro rfl | exact LeN.rptr) | ((with_reducible first | refine Wk.chk ?_ | refine LeL.chk ?_ | refine Run.mk ?_); (conv => whnf)) | ((with_reducible show drawOK _ _ = true); kernel_rfl))
        all_goals (try simp only [e1, e2, e3, e4, e5, e6, e7, e8, e9, e10, decide_eq_true_eq, decide_eq_false_iff_not, Bool.not_eq_true', Bool.not_eq_false', beq_iff_eq, beq_eq_false_iff_ne, ne_eq, List.length_set, htl, atL_length, outL_length] at *)
        all_goals first
          | omega
          | (refine Fits.i64 ?_ ?_ <;> omega)
          | rfl
          | (rw [scan_fin (by omega) (by assumption)]; done)
          | (rw [scan_blank (by omega) (by assumption) (by assumption)]; done)
          | (rw [scan_ink (by omega) (by assumption) (by assumption)]; done)
          | (have hje : j = (plcs l (l.length + 1)).getD n 0 := by omega
             subst hje
             first
             | (rw [posn_succ]; done)
             | (simp only [fullTo_eq] at *; fail_if_success done; skip
                first
                | omega
                | rfl
                | (have hsq := sq_bd (x := width - fullTo l (plcs l (l.length + 1)) k ((plcs l (l.length + 1)).getD n 0)) (y := 200) (by omega) (by omega)
                   refine Fits.i64 ?_ ?_ <;> omega)
                | (rw [tab_succ hk, ← hi4, inner_full hn (by assumption)]; done)
                | exact Gd.next hps hw2 hi1 hn (by assumption) hgd hi3
                | (rw [← inner_next hn (by assumption) (by assumption)]; exact hi4)
                | (try rw [tab_succ hk, ← hi4, inner_stop hn (by assumption) (by assumption)]
                   first
                   | (rw [nextAcc_no (by assumption)]; done)
                   | (rw [nextAcc_yes (by assumption), better_1 (by rw [cand_cut (by assumption)]; assumption), cand_cut (by assumption), List.set_set]; rfl)
                   | (rw [nextAcc_yes (by assumption), better_1 (by rw [cand_not (by assumption)]; assumption), cand_not (by assumption), List.set_set]; rfl)
                   | (rw [nextAcc_yes (by assumption), better_0 (by rw [cand_cut (by assumption)]; assumption)]; done)
                   | (rw [nextAcc_yes (by assumption), better_0 (by rw [cand_not (by assumption)]; assumption)]; done))))
      · have hn : n = (plcs l (l.length + 1)).length := by
          have h : decide ((n : Int) < ((atL l (l.length + 1)).length : Int)) = false := by assumption
          rw [atL_length] at h; simp only [decide_eq_false_iff_not] at h; omega
        have hple := posn_le (l := l) (k := n) (by omega)
        refine loopI (Nat × Unit) [] (fun _ => []) (fun | (j, _) => [(6, .box [.v (.int .i64 (j : Int))] 3), (5, .box [.v (.int .i64 (scan l (posn (plcs l (l.length + 1)) k) (j - posn (plcs l (l.length + 1)) k)).2)] 3),
          (4, .box [.v (.int .i64 (scan l (posn (plcs l (l.length + 1)) k) (j - posn (plcs l (l.length + 1)) k)).1)] 3)]) (fun | (j, _) => posn (plcs l (l.length + 1)) n ≤ j ∧ j ≤ l.length) (fun | (j, _) => l.length - j) (posn (plcs l (l.length + 1)) n, ()) ⟨Nat.le_refl _, hple⟩ (Wk.chk ?_) fun j hj => ?_
        · ((conv => whnf); repeat' (first | (with_reducible first | refine And.intro ?_ ?_ | exact True.intro | rfl | refine EntLe.row ?_ | exact LeN.ro rfl) | ((with_reducible refine Run.mk ?_); (conv => whnf))))
        obtain ⟨j, _⟩ := j
        obtain ⟨hj1, hj2⟩ := hj
        have hsb := scan_bd hps (posn (plcs l (l.length + 1)) k) (j - posn (plcs l (l.length + 1)) k)
        have hcb := hps.at j
        have e1 : ((j : Int)).toNat = j := Int.toNat_natCast _
        have e4 : C_bst.d = zB := rfl
        have e5 : C_part.d = dPart := rfl
        have e9 : ((tab l (plcs l (l.length + 1)) width c).set k acc).getD k zB = acc := Go.SX.Plain.getD_set_eq _ _ _ _ (by omega)
        have e10 : ((k : Int)).toNat = k := Int.toNat_natCast _
        repeat' (first | (with_reducible first | refine ex_of (α := Nat × Unit) (j + 1, ()) ⟨⟨?_, ?_⟩, ?_⟩ ?_ | refine ex_of (α := Nat) (c + 1) ⟨?_, ?_⟩ ?_ | refine ⟨(⟨_, _, _, _⟩, ⟨_, _, _, _⟩), ⟨(.cons (.agg (.cons (.v _) (.cons (.v _) (.cons (.v _) (.cons (.vb _) .nil))))) (.cons (.agg (.cons (.v _) (.cons (.v _) (.cons (.v _) (.cons (.sb _) .nil))))) .nil)), ?_⟩, ?_⟩ | refine And.intro ?_ ?_ | intro _ | exact True.intro | rfl | refine EntLe.row ?_ | exact LeN.ro rfl) | ((with_reducible first | refine Wk.chk ?_ | refine LeL.chk ?_ | refine Run.mk ?_); (conv => whnf)) | ((with_reducible show drawOK _ _ = true); kernel_rfl))
        all_goals (try simp only [e1, e4, e5, e9, e10, decide_eq_true_eq, decide_eq_false_iff_not, Bool.not_eq_true', Bool.not_eq_false', beq_iff_eq, beq_eq_false_iff_ne, ne_eq, List.length_set, htl, atL_length, outL_length] at *)
        all_goals first
          | omega
          | (refine Fits.i64 ?_ ?_ <;> omega)
          | rfl
          | (rw [scan_fin (by omega) (by assumption)]; done)
          | (rw [scan_blank (by omega) (by assumption) (by assumption)]; done)
          | (rw [scan_ink (by omega) (by assumption) (by assumption)]; done)
          | (have hje : j = l.length := by omega
             subst hje
             simp only [fullTo_eq] at *
             first
             | omega
             | (have hsq := sq_bd (x := width - fullTo l (plcs l (l.length + 1)) k l.length) (y := 200) (by omega) (by omega)
                refine Fits.i64 ?_ ?_ <;> omega)
             | (rw [tab_succ hk, ← hi4, inner_end (by omega)]
                first
                | (rw [endly_no (by assumption)]; done)
                | (rw [endly_yes (by assumption), better_1 (by assumption), List.set_set]; rfl)
                | (rw [endly_yes (by assumption), better_0 (by assumption)]; done)))
  all_goals
    have hcN : c = (plcs l (l.length + 1)).length + 1 := by
      have h : decide (0 ≤ ((plcs l (l.length + 1)).length : Int) - (c : Int)) = false := by assumption
      simp only [decide_eq_false_iff_not] at h; omega
    subst hcN
    have htl := tab_len l (plcs l (l.length + 1)) width ((plcs l (l.length + 1)).length + 1)
  · omega
  · rw [htl]; omega
  · rw [htl]; dsimp only [Int.toNat]; omega
  have hg := fun j => tabOf_gd (l := l) (width := width) hps hw2 j
  have hok0 := tabOf_ok (l := l) (width := width) hps hw1 (j := 0) (Nat.zero_le _)
  have hwl := wrapOut_len l width
  refine loopI (Int × List (Int × Int)) [] (fun | (x, _) => [(25, .v (.int .i64 x)), (24, .own 4)]) (fun | (_, o) => [(4, .row C_brk o 49 none)])
    (fun | (x, o) => Nx (plcs l (l.length + 1)).length (tabOf l width) x ∧ o ++ (wayOf (plcs l (l.length + 1)).length (tabOf l width) x).map (fun n => (outL l (l.length + 1)).getD n (0, 0)) = wrapOut l width) (fun | (x, _) => far (plcs l (l.length + 1)).length x)
    (((tabOf l width).getD 0 zB).next, []) ⟨⟨((hg 0).nx hok0).imp (fun h => h) fun ⟨n, h1, _, h3, h4⟩ => ⟨n, h1, h3, h4⟩⟩, rfl⟩ (Wk.chk ?_) fun i hi => ?_
  · ((conv => whnf); repeat' (first | (with_reducible first | refine And.intro ?_ ?_ | exact True.intro | rfl | refine EntLe.row ?_ | exact LeN.ro rfl) | ((with_reducible refine Run.mk ?_); (conv => whnf))))
    all_goals rfl
  obtain ⟨x, o⟩ := i
  obtain ⟨hx, ho⟩ := hi
  rcases hx.out with hx1 | ⟨m, hx1, hx2, hx3⟩
  · subst hx1
    rw [wayOf_end _ _ (by omega)] at ho
    simp only [List.map_nil, List.append_nil] at ho
    repeat' (first | (with_reducible first | refine And.intro ?_ ?_ | intro _ | exact True.intro | rfl) | ((with_reducible first | refine LeL.chk ?_ | refine LeF.chk ?_ | refine Run.mk ?_); (conv => whnf)) | ((with_reducible show LeR _ _ _); refine LeR.own rfl rfl rfl ?_) | ((with_reducible show drawOK _ _ = true); kernel_rfl))
    all_goals first
      | omega
      | (exfalso; have h : decide ((0 : Int) ≤ -1) = true := by assumption
         exact absurd h (by decide))
      | (rw [hL]; exact ho)
      | (rw [hB]; rfl)
  · subst hx1
    obtain ⟨hn1, hn2⟩ := Nx.next hg hx3 hx2
    rw [wayOf_step hg hx3 hx2, List.map_cons, List.append_cons] at ho
    have hol : o.length + 1 ≤ (plcs l (l.length + 1)).length := by rw [← ho] at hwl; simp at hwl; omega
    repeat' (first | (with_reducible first | refine ex_of (α := Int × List (Int × Int)) (_, _) ⟨⟨hn1, ho⟩, hn2⟩ ?_ | refine And.intro ?_ ?_ | intro _ | exact True.intro | rfl | refine EntLe.row ?_ | exact LeN.ro rfl) | ((with_reducible first | refine Wk.chk ?_ | refine LeL.chk ?_ | refine LeF.chk ?_ | refine Run.mk ?_); (conv => whnf)) | ((with_reducible show LeR _ _ _); refine LeR.own rfl rfl rfl ?_) | ((with_reducible show drawOK _ _ = true); kernel_rfl))
    all_goals first
      | omega
      | (exfalso; have h : decide ((0 : Int) ≤ (m : Int)) = false := by assumption
         simp at h; done)
      | rfl
      | (rw [outL_length]; omega)
      | (refine Fits.i64 ?_ ?_ <;> omega)
      | (simp only [List.length_cons, List.length_nil]; omega)
end Go.SX.Tryz
/- The lines of a way, told plainly. No program here. -/
namespace Go.SX.Plain
def brkAt (l : List Part) (p : Nat) : Int × Int := ((l.getD (p - 1) dPart).c.to, kindAt l p)
def lnL (l : List Part) : List Nat → List (Int × Int) → Nat → Option (List (List Part) × Bool)
  | [], way, frm => some ([l.drop frm], way.isEmpty)
  | p :: P, way, frm =>
    if way.head? = some (brkAt l p) then (lnL l P way.tail p).map fun x => ((l.drop frm).take (p - frm) :: x.1, x.2)
    else if kindAt l p = 1 then none else lnL l P way frm
def lnW (l : List Part) (way : List (Int × Int)) : Option (List (List Part) × Bool) := lnL l (plcs l (l.length + 1)) way 0
def linesL (s : ByteArray) (way : List (Int × Int)) : List (List Part) := ((lnW (parts s) way).map (·.1)).getD []
def linesB (s : ByteArray) (way : List (Int × Int)) : Bool := ((lnW (parts s) way).map (·.2)).getD false
section
variable {l : List Part} {P : List Nat} {way : List (Int × Int)} {k n frm : Nat}
theorem drop_cons_getD {α : Type} {P : List α} {k : Nat} (d : α) (h : k < P.length) : P.drop k = P.getD k d :: P.drop (k + 1) := by
  rw [List.drop_eq_getElem_cons h]
  simp [List.getD_eq_getElem?_getD, h]
theorem head_drop {x : Int × Int} : (way.drop n).head? = some x ↔ n < way.length ∧ way.getD n (0, 0) = x := by
  rw [List.head?_drop]
  constructor
  · intro h
    obtain ⟨h1, h2⟩ := List.getElem?_eq_some_iff.1 h
    exact ⟨h1, by simp [List.getD_eq_getElem?_getD, h1, h2]⟩
  · rintro ⟨h1, h2⟩
    rw [← h2]
    simp [List.getD_eq_getElem?_getD, h1]
theorem lnL_yes (hk : k < P.length) (hn : n < way.length) (he : way.getD n (0, 0) = brkAt l (P.getD k 0)) :
    lnL l (P.drop k) (way.drop n) frm = (lnL l (P.drop (k + 1)) (way.drop (n + 1)) (P.getD k 0)).map fun x => ((l.drop frm).take (P.getD k 0 - frm) :: x.1, x.2) := by
  rw [drop_cons_getD 0 hk, lnL, if_pos (head_drop.2 ⟨hn, he⟩), List.tail_drop]
theorem lnL_hard (hk : k < P.length) (hno : ¬ (n < way.length ∧ way.getD n (0, 0) = brkAt l (P.getD k 0))) (h1 : kindAt l (P.getD k 0) = 1) : lnL l (P.drop k) (way.drop n) frm = none := by
  rw [drop_cons_getD 0 hk, lnL, if_neg (fun h => hno (head_drop.1 h)), if_pos h1]
theorem lnL_on (hk : k < P.length) (hno : ¬ (n < way.length ∧ way.getD n (0, 0) = brkAt l (P.getD k 0))) (h1 : ¬ kindAt l (P.getD k 0) = 1) : lnL l (P.drop k) (way.drop n) frm = lnL l (P.drop (k + 1)) (way.drop n) frm := by
  rw [drop_cons_getD 0 hk, lnL, if_neg (fun h => hno (head_drop.1 h)), if_neg h1]
theorem lnL_end (hk : ¬ k < P.length) (hn : n ≤ way.length) : lnL l (P.drop k) (way.drop n) frm = some ([l.drop frm], decide (n = way.length)) := by
  rw [List.drop_eq_nil_of_le (by omega), lnL]
  congr 2
  rw [Bool.eq_iff_iff, List.isEmpty_iff, decide_eq_true_iff, List.drop_eq_nil_iff]
  omega
end
def trimGo (l : List Part) : Nat → Nat
  | 0 => 0
  | n + 1 => if (l.getD n dPart).blank = true then trimGo l n else n + 1
def trimN (l : List Part) : Nat := trimGo l (if 0 < l.length ∧ (l.getD (l.length - 1) dPart).fin = true then l.length - 1 else l.length)
def trimL (l : List Part) : List Part := l.take (trimN l)
theorem trimGo_le (l : List Part) : ∀ n, trimGo l n ≤ n
  | 0 => Nat.le_refl _
  | n + 1 => by
    simp only [trimGo]
    split
    · have := trimGo_le l n; omega
    · omega
def sumC (l : List Part) (k : Nat) : Int := ((l.take k).map fun p => p.c.cells).sum
def cellsL (l : List Part) : Int := sumC (trimL l) (trimL l).length
theorem sumC_succ {l : List Part} {k : Nat} (h : k < l.length) : sumC l (k + 1) = sumC l k + (l.getD k dPart).c.cells := by
  unfold sumC
  rw [List.take_succ_eq_append_getElem h, List.map_append, List.sum_append]
  simp [List.getD_eq_getElem?_getD, h]
theorem sumC_bd {l : List Part} (hs : Small l) : ∀ k, 0 ≤ sumC l k ∧ sumC l k ≤ 2 * k
  | 0 => ⟨Int.le_refl _, Int.le_refl _⟩
  | k + 1 => by
    have ih := sumC_bd hs k
    by_cases h : k < l.length
    · rw [sumC_succ h]
      have := hs.at k
      omega
    · have : sumC l (k + 1) = sumC l k := by
        unfold sumC
        rw [List.take_of_length_le (by omega), List.take_of_length_le (by omega)]
      omega
theorem Small.take {l : List Part} (h : Small l) (n : Nat) : Small (l.take n) := fun p hp => h p (List.mem_of_mem_take hp)
theorem Small.drop {l : List Part} (h : Small l) (n : Nat) : Small (l.drop n) := fun p hp => h p (List.mem_of_mem_drop hp)
theorem trimN_le (l : List Part) : trimN l ≤ l.length := by
  unfold trimN
  split
  · have := trimGo_le l (l.length - 1)
    omega
  · exact trimGo_le l l.length
theorem trimL_len (l : List Part) : (trimL l).length = trimN l := by
  unfold trimL
  have := trimN_le l
  simp; omega
end Go.SX.Plain
/- Contracts of wrap's lines, trimmed, cells. -/
namespace Go.SX.Tryz
open Go.Proofs Go.Proofs.Tryz Go.SX.Plain
set_option maxRecDepth 100000
set_option maxHeartbeats 0
set_option linter.unusedSimpArgs false
theorem q_lines : fact 13 f13 := ⟨by kernel_rfl, rfl, by kernel_rfl⟩
theorem q_trimmed : fact 15 f15 := ⟨by kernel_rfl, rfl, by kernel_rfl⟩
def C_parts : Cdc (List Part) where
  size := 1
  enc l := [.ro 12 C_part.enc C_part.d l none]
  dec _ := []
  d := []
  sl := true
def D_lin : Cds := [(48, ⟨List Part, C_parts⟩)]
theorem D_lin_ok : CdsOK T D_lin := .cons ⟨fun _ => rfl, by decide, _, rfl, rfl, by decide⟩ .nil
theorem con_lines : Con prog 13 (fun ((s, way) : ByteArray × List (Int × Int)) => [.v (.string s), .ro 2 C_brk.enc C_brk.d way none true])
    (fun (s, way) => .tup [.ro 1 C_parts.enc C_parts.d (linesL s way) none, .sb (linesB s way)]) (fun (s, _) => s.size ≤ 100000) := by
  refine Con.of (by kernel_rfl) T_ok D_lin_ok (.con con_parts (.con con_places .nil)) 3 [] q_lines.1 q_lines.2.1 q_lines.2.2 (fun _ => rfl) fun i hi => ?_
  obtain ⟨s, way⟩ := i
  have hsz : s.size ≤ 100000 := hi
  have hpl := parts_len s
  repeat' (first | (with_reducible first | refine ⟨_, ⟨(.cons (.v _) .nil), ?_⟩, ?_⟩ | refine ⟨_, ⟨(.cons (.ro _ _ _ _ _) .nil), ?_⟩, ?_⟩) | ((with_reducible refine Run.mk ?_); (conv => whnf)))
  any_goals (dsimp only; omega)
  have hLL : linesL s way = ((lnW (Plain.parts s) way).map (·.1)).getD [] := rfl
  have hLB : linesB s way = ((lnW (Plain.parts s) way).map (·.2)).getD false := rfl
  revert hpl hLL hLB
  generalize Plain.parts s = l
  intro hpl hLL hLB
  have hW : lnW l way = lnL l (plcs l (l.length + 1)) way 0 := rfl
  have hat : (atL l (l.length + 1)).length = (plcs l (l.length + 1)).length := atL_length _ _
  have hout : (outL l (l.length + 1)).length = (plcs l (l.length + 1)).length := outL_length _ _
  have hpn := plcs_len l (l.length + 1)
  have hat2 : ∀ i, (atL l (l.length + 1)).getD i 0 = ((plcs l (l.length + 1)).getD i 0 : Nat) := fun i => atL_getD _ _ i
  have hout2 : ∀ i, i < (plcs l (l.length + 1)).length → (outL l (l.length + 1)).getD i (0, 0) = brkAt l ((plcs l (l.length + 1)).getD i 0) := fun i hi => outL_getD hi
  have hple : ∀ i, i < (plcs l (l.length + 1)).length → (plcs l (l.length + 1)).getD i 0 < l.length + 1 := fun i hi => (plcs_le hi).1
  have hso : ∀ i j, i < j → j < (plcs l (l.length + 1)).length → (plcs l (l.length + 1)).getD i 0 < (plcs l (l.length + 1)).getD j 0 := fun i j h1 h2 => sorted_lt (plcs_sorted _ _) h1 h2
  revert hW hat hout hpn hat2 hout2 hple hso
  generalize plcs l (l.length + 1) = P
  generalize atL l (l.length + 1) = AT
  generalize outL l (l.length + 1) = OUT
  intro hW hat hout hpn hat2 hout2 hple hso
  have e1 : C_brk.d = (0, 0) := rfl
  have e2 : C_int.d = 0 := rfl
  refine loopI (Int × List (List Part) × Int × Int) [] (fun | (k, o, frm, n) => [(23, .v (.int .i64 k)), (9, .own 1), (10, .v (.int .i64 frm)), (11, .v (.int .i64 n))]) (fun | (_, o, _, _) => [(1, .row C_parts o 48 none)])
    (fun | (k, o, frm, n) => (0 ≤ k ∧ k ≤ P.length ∧ 0 ≤ n ∧ n ≤ way.length ∧ n ≤ k ∧ (o.length : Int) = n ∧ 0 ≤ frm ∧ frm ≤ l.length ∧ ∀ j, k.toNat ≤ j → j < P.length → frm ≤ P.getD j 0) ∧ (lnL l (P.drop k.toNat) (way.drop n.toNat) frm.toNat).map (fun x => (o ++ x.1, x.2)) = lnW l way)
    (fun | (k, _, _, _) => (P.length - k).toNat) (0, [], 0, 0) ⟨⟨by omega, by omega, by omega, by omega, by omega, rfl, by omega, by omega, fun _ _ _ => by omega⟩, by rw [hW]; simp⟩ (Wk.chk ?_) fun i hi => ?_
  · ((conv => whnf); repeat' (first | (with_reducible first | refine And.intro ?_ ?_ | exact True.intro | rfl | refine EntLe.row ?_ | exact LeN.ro rfl) | ((with_reducible refine Run.mk ?_); (conv => whnf))))
    all_goals rfl
  obtain ⟨k, o, frm, n⟩ := i
  obtain ⟨⟨hk0, hk, hn0, hn, hnk, ho, hf0, hf, hfj⟩, hI⟩ := hi
  obtain ⟨k, rfl⟩ := Int.eq_ofNat_of_zero_le hk0
  obtain ⟨n, rfl⟩ := Int.eq_ofNat_of_zero_le hn0
  obtain ⟨frm, rfl⟩ := Int.eq_ofNat_of_zero_le hf0
  have e3 : ((k : Int)).toNat = k := Int.toNat_natCast _
  have e4 : ((n : Int)).toNat = n := Int.toNat_natCast _
  have e5 : ((frm : Int)).toNat = frm := Int.toNat_natCast _
  have e6 : ((k : Int) + 1).toNat = k + 1 := by omega
  have e7 : ((n : Int) + 1).toNat = n + 1 := by omega
  have e8 : ((P.getD k 0 : Nat) : Int).toNat = P.getD k 0 := Int.toNat_natCast _
  simp only [e3, e4, e5] at hI hfj
  have hPk := hple k
  have hAk := hat2 k
  have hOk := hout2 k
  have hfk := hfj k (Nat.le_refl _)
  have hfn : k < P.length → ∀ j, k + 1 ≤ j → j < P.length → P.getD k 0 < P.getD j 0 := fun _ j h1 h2 => hso k j (by omega) h2
  have sy : k < P.length → n < way.length → way.getD n (0, 0) = brkAt l (P.getD k 0) → (lnL l (P.drop (k + 1)) (way.drop (n + 1)) (P.getD k 0)).map (fun x => ((o ++ [(l.drop frm).take (P.getD k 0 - frm)]) ++ x.1, x.2)) = lnW l way := fun h1 h2 h3 => by
    rw [lnL_yes h1 h2 h3] at hI
    rw [← hI, Option.map_map]
    congr 1
    funext x
    simp
  have sn : k < P.length → ¬ (n < way.length ∧ way.getD n (0, 0) = brkAt l (P.getD k 0)) → ¬ (brkAt l (P.getD k 0)).2 = 1 → (lnL l (P.drop (k + 1)) (way.drop n) frm).map (fun x => (o ++ x.1, x.2)) = lnW l way := fun h1 h2 h3 => by
    rw [lnL_on h1 h2 h3] at hI
    exact hI
  have sh : k < P.length → ¬ (n < way.length ∧ way.getD n (0, 0) = brkAt l (P.getD k 0)) → (brkAt l (P.getD k 0)).2 = 1 → lnW l way = none := fun h1 h2 h3 => by
    rw [lnL_hard h1 h2 h3] at hI
    rw [← hI]
    rfl
  have se : ¬ k < P.length → lnW l way = some (o ++ [l.drop frm], decide (n = way.length)) := fun h1 => by
    rw [lnL_end h1 (by omega)] at hI
    exact hI.symm
  have hno : ∀ {b : Int × Int}, (decide ((n : Int) < (way.length : Int)) && ((way.getD n (0, 0)).1 == b.1 && (way.getD n (0, 0)).2 == b.2)) = false → ¬ (n < way.length ∧ way.getD n (0, 0) = b) := fun h => by
    rintro ⟨h1, h2⟩
    rw [h2] at h
    simp at h
    omega
  have hyes : ∀ {b : Int × Int}, (decide ((n : Int) < (way.length : Int)) && ((way.getD n (0, 0)).1 == b.1 && (way.getD n (0, 0)).2 == b.2)) = true → n < way.length ∧ way.getD n (0, 0) = b := fun h => by
    simp only [Bool.and_eq_true, decide_eq_true_eq, beq_iff_eq] at h
    exact ⟨by omega, Prod.ext h.2.1 h.2.2⟩
  by_cases hkP : k < P.length
  case neg =>
    have hx := se hkP
    rw [hx] at hLL hLB
    repeat' (first | (with_reducible first | refine ex_of (α := Int × List (List Part) × Int × Int) ((k : Int) + 1, o, (frm : Int), (n : Int)) ⟨⟨⟨?_, ?_, ?_, ?_, ?_, ?_, ?_, ?_, ?_⟩, ?_⟩, ?_⟩ ?_ | exact fun h => h | refine ExE.row (by with_unfolding_all rfl) ?_ | refine And.intro ?_ ?_ | intro _ | exact True.intro | rfl | refine EntLe.row ?_ | exact LeN.ro rfl | assumption) | ((with_reducible first | refine Wk.chk ?_ | refine LeF.chk ?_ | refine Run.mk ?_); (conv => whnf)) | ((with_reducible show LeR _ _ _); refine LeR.own rfl rfl rfl ?_) | ((with_reducible show drawOK _ _ = true); kernel_rfl))
    all_goals first
      | (exfalso; simp only [decide_eq_true_eq] at *; omega)
      | (simp only [List.length_cons, List.length_nil, e5] at *; omega)
      | (rw [hLL, e5]; rfl)
      | (rw [hLB]; rw [Bool.eq_iff_iff]; simp; omega)
  have hOk' := hOk hkP
  by_cases hc : n < way.length ∧ way.getD n (0, 0) = brkAt l (P.getD k 0)
  · have hy := sy hkP hc.1 hc.2
    have hn1 := hc.1
    repeat' (first | (with_reducible first | refine ex_of (α := Int × List (List Part) × Int × Int) ((k : Int) + 1, o ++ [(l.drop frm).take (P.getD k 0 - frm)], ((P.getD k 0 : Nat) : Int), (n : Int) + 1) ⟨⟨⟨?_, ?_, ?_, ?_, ?_, ?_, ?_, ?_, ?_⟩, ?_⟩, ?_⟩ ?_ | exact fun h => h | refine ExE.row (by with_unfolding_all rfl) ?_ | refine And.intro ?_ ?_ | intro _ | exact True.intro | rfl | refine EntLe.row ?_ | exact LeN.ro rfl | assumption) | ((with_reducible first | refine Wk.chk ?_ | refine LeF.chk ?_ | refine Run.mk ?_); (conv => whnf)) | ((with_reducible show LeR _ _ _); refine LeR.own rfl rfl rfl ?_) | ((with_reducible show drawOK _ _ = true); kernel_rfl))
    all_goals first
      | (exfalso; simp only [e1, e3, e4, hOk'] at *; exact hno (by assumption) hc)
      | (simp only [e1, e2, e3, e4, e5, e6, e7, e8, hAk, decide_eq_true_eq, decide_eq_false_iff_not, List.length_append, List.length_cons, List.length_nil] at *; first | omega | (apply Fits.i64 <;> omega) | rfl | exact hy | (have := hfn hkP _ (by assumption) (by assumption); omega))
      | (simp only [e2, e3, e5, e8, hAk]; done)
  · have hz := hyes (b := brkAt l (P.getD k 0))
    have hs : ((brkAt l (P.getD k 0)).2 == 1) = false → _ := fun h => sn hkP hc (by simpa using h)
    repeat' (first | (with_reducible first | refine ex_of (α := Int × List (List Part) × Int × Int) ((k : Int) + 1, o, (frm : Int), (n : Int)) ⟨⟨⟨?_, ?_, ?_, ?_, ?_, ?_, ?_, ?_, ?_⟩, ?_⟩, ?_⟩ ?_ | exact fun h => h | refine ExE.row (by with_unfolding_all rfl) ?_ | refine And.intro ?_ ?_ | intro _ | exact True.intro | rfl | refine EntLe.row ?_ | exact LeN.ro rfl | assumption) | ((with_reducible first | refine Wk.chk ?_ | refine LeF.chk ?_ | refine Run.mk ?_); (conv => whnf)) | ((with_reducible show LeR _ _ _); refine LeR.own rfl rfl rfl ?_) | ((with_reducible show drawOK _ _ = true); kernel_rfl))
    all_goals first
      | (exfalso; simp only [e1, e3, e4, hOk'] at *; exact hc (hz (by assumption)))
      | (rw [hLL, sh hkP hc (by simp only [e1, e3, hOk', beq_iff_eq] at *; assumption)]; rfl)
      | (rw [hLB, sh hkP hc (by simp only [e1, e3, hOk', beq_iff_eq] at *; assumption)]; rfl)
      | (simp only [e1, e2, e3, e4, e5, e6, e7, e8, hAk, decide_eq_true_eq, decide_eq_false_iff_not, List.length_append, List.length_cons, List.length_nil] at *; first | omega | (apply Fits.i64 <;> omega) | rfl | (exact hfj _ (by omega) (by assumption)))
      | (simp only [e1, e3, e4, e5, e6, hOk'] at *; exact hs (by assumption))
end Go.SX.Tryz
/- Contracts of wrap's trimmed, cells. -/
namespace Go.SX.Tryz
open Go.Proofs Go.Proofs.Tryz Go.SX.Plain
set_option maxRecDepth 100000
set_option maxHeartbeats 0
set_option linter.unusedSimpArgs false
theorem con_trimmed : Con prog 15 (fun l : List Part => [.ro 12 C_part.enc C_part.d l none]) (fun l => .ro 12 C_part.enc C_part.d (trimL l) none) (fun l => l.length ≤ 100000) := by
  refine Con.of (by kernel_rfl) T_ok CdsOK.nil .nil 3 [] q_trimmed.1 q_trimmed.2.1 q_trimmed.2.2 (fun _ => rfl) fun l hi => ?_
  have hl : l.length ≤ 100000 := hi
  have hd : C_part.d = dPart := rfl
  have e0 : ((l.length : Int) - 1).toNat = l.length - 1 := by omega
  have hpos : (decide (0 < (l.length : Int)) && (l.getD (l.length - 1) dPart).fin) = true → 0 < l.length ∧ (l.getD (l.length - 1) dPart).fin = true := fun h => by
    simp only [Bool.and_eq_true, decide_eq_true_eq] at h
    exact ⟨by omega, h.2⟩
  have hneg : (decide (0 < (l.length : Int)) && (l.getD (l.length - 1) dPart).fin) = false → ¬ (0 < l.length ∧ (l.getD (l.length - 1) dPart).fin = true) := fun h => by
    rintro ⟨h1, h2⟩
    rw [h2] at h
    simp only [Bool.and_true, decide_eq_false_iff_not] at h
    omega
  have step : ∀ n : Nat, trimGo l (n + 1) = if (l.getD n dPart).blank = true then trimGo l n else n + 1 := fun n => rfl
  repeat' (first | (with_reducible first | exact fun h => h | refine And.intro ?_ ?_ | intro _ | assumption) | ((with_reducible refine Run.mk ?_); (conv => whnf)))
  any_goals (first | omega | (simp only [decide_eq_true_eq, Bool.and_eq_true] at *; first | omega | (apply Fits.i64 <;> omega)))
  · have hq : (decide (0 < (l.length : Int)) && (l.getD ((l.length : Int) - 1).toNat C_part.d).fin) = true := by assumption
    rw [e0, hd] at hq
    refine loopI Int [] (fun n => [(3, .v (.int .i64 n))]) (fun _ => []) (fun n => (0 ≤ n ∧ n ≤ l.length) ∧ trimGo l n.toNat = trimN l) (fun n => n.toNat) ((l.length : Int) - 1) ⟨⟨by have := (hpos hq).1; omega, by omega⟩, by unfold trimN; rw [if_pos (hpos hq), e0]⟩ (Wk.chk ?_) fun n hn => ?_
    · ((conv => whnf); repeat' (first | (with_reducible first | refine And.intro ?_ ?_ | exact True.intro | rfl | exact LeN.ro rfl) | ((with_reducible refine Run.mk ?_); (conv => whnf))))
      all_goals rfl
    obtain ⟨⟨h1, h2⟩, h3⟩ := hn
    obtain ⟨n, rfl⟩ := Int.eq_ofNat_of_zero_le h1
    have e1 : ((n : Int) - 1).toNat = n - 1 := by omega
    have e2 : ((n : Int)).toNat = n := Int.toNat_natCast _
    have e3 : (0 : Int).toNat = 0 := rfl
    rw [e2] at h3
    have stepY : 0 < n → (l.getD (n - 1) dPart).blank = true → trimGo l (n - 1) = trimN l := fun h hb => by
      obtain ⟨m, rfl⟩ : ∃ m, n = m + 1 := ⟨n - 1, by omega⟩
      rw [step, if_pos (by simpa using hb)] at h3
      simpa using h3
    have stepN : 0 < n → ¬ (l.getD (n - 1) dPart).blank = true → n = trimN l := fun h hb => by
      obtain ⟨m, rfl⟩ : ∃ m, n = m + 1 := ⟨n - 1, by omega⟩
      rw [step, if_neg (by simpa using hb)] at h3
      exact h3
    have step0 : ¬ 0 < n → n = trimN l := fun h => by
      obtain rfl : n = 0 := by omega
      exact h3
    have stepE : (decide (0 < (n : Int)) && (l.getD (n - 1) dPart).blank) = false → n = trimN l := fun h => by
      by_cases h0 : 0 < n
      · exact stepN h0 (by intro hb; rw [hb] at h; simp at h; omega)
      · exact step0 h0
    repeat' (first | (with_reducible first | refine ex_of (α := Int) ((n : Int) - 1) ⟨⟨⟨?_, ?_⟩, ?_⟩, ?_⟩ ?_ | exact fun h => h | refine And.intro ?_ ?_ | intro _ | exact True.intro | rfl | exact LeN.ro rfl | assumption) | ((with_reducible first | refine Wk.chk ?_ | refine LeF.chk ?_ | refine Run.mk ?_); (conv => whnf)) | ((with_reducible show LeR _ _ _); refine LeR.roCap ?_))
    all_goals first
      | omega
      | (simp only [decide_eq_true_eq, Bool.and_eq_true, e1, hd] at *; first | omega | (apply Fits.i64 <;> omega) | (exact stepY (by omega) (by simp_all)) )
      | (have hx := stepE (by simp only [e1, hd] at *; assumption); unfold trimL; rw [← hx]; simp [e2, e3]; done)
  · have hq : (decide (0 < (l.length : Int)) && (l.getD ((l.length : Int) - 1).toNat C_part.d).fin) = false := by assumption
    rw [e0, hd] at hq
    refine loopI Int [] (fun n => [(3, .v (.int .i64 n))]) (fun _ => []) (fun n => (0 ≤ n ∧ n ≤ l.length) ∧ trimGo l n.toNat = trimN l) (fun n => n.toNat) ((l.length : Int)) ⟨⟨by omega, by omega⟩, by unfold trimN; rw [if_neg (hneg hq), Int.toNat_natCast]⟩ (Wk.chk ?_) fun n hn => ?_
    · ((conv => whnf); repeat' (first | (with_reducible first | refine And.intro ?_ ?_ | exact True.intro | rfl | exact LeN.ro rfl) | ((with_reducible refine Run.mk ?_); (conv => whnf))))
      all_goals rfl
    obtain ⟨⟨h1, h2⟩, h3⟩ := hn
    obtain ⟨n, rfl⟩ := Int.eq_ofNat_of_zero_le h1
    have e1 : ((n : Int) - 1).toNat = n - 1 := by omega
    have e2 : ((n : Int)).toNat = n := Int.toNat_natCast _
    have e3 : (0 : Int).toNat = 0 := rfl
    rw [e2] at h3
    have stepY : 0 < n → (l.getD (n - 1) dPart).blank = true → trimGo l (n - 1) = trimN l := fun h hb => by
      obtain ⟨m, rfl⟩ : ∃ m, n = m + 1 := ⟨n - 1, by omega⟩
      rw [step, if_pos (by simpa using hb)] at h3
      simpa using h3
    have stepN : 0 < n → ¬ (l.getD (n - 1) dPart).blank = true → n = trimN l := fun h hb => by
      obtain ⟨m, rfl⟩ : ∃ m, n = m + 1 := ⟨n - 1, by omega⟩
      rw [step, if_neg (by simpa using hb)] at h3
      exact h3
    have step0 : ¬ 0 < n → n = trimN l := fun h => by
      obtain rfl : n = 0 := by omega
      exact h3
    have stepE : (decide (0 < (n : Int)) && (l.getD (n - 1) dPart).blank) = false → n = trimN l := fun h => by
      by_cases h0 : 0 < n
      · exact stepN h0 (by intro hb; rw [hb] at h; simp at h; omega)
      · exact step0 h0
    repeat' (first | (with_reducible first | refine ex_of (α := Int) ((n : Int) - 1) ⟨⟨⟨?_, ?_⟩, ?_⟩, ?_⟩ ?_ | exact fun h => h | refine And.intro ?_ ?_ | intro _ | exact True.intro | rfl | exact LeN.ro rfl | assumption) | ((with_reducible first | refine Wk.chk ?_ | refine LeF.chk ?_ | refine Run.mk ?_); (conv => whnf)) | ((with_reducible show LeR _ _ _); refine LeR.roCap ?_))
    all_goals first
      | omega
      | (simp only [decide_eq_true_eq, Bool.and_eq_true, e1, hd] at *; first | omega | (apply Fits.i64 <;> omega) | (exact stepY (by omega) (by simp_all)) )
      | (have hx := stepE (by simp only [e1, hd] at *; assumption); unfold trimL; rw [← hx]; simp [e2, e3]; done)
end Go.SX.Tryz
/- A verified symbolic executor for Go code in the model: an own row that nobody writes any more; what was lent is told as lent. -/
namespace Go.SX
open Go.RowKit
section
variable {base : Nat} {w0 : Start} {w : World} {E : Env} {stk : List Fr} {gs : List (Array Value)} {m : Mem}
theorem delE_ne {n : Nat} : ∀ {m : Mem}, (m.map (·.1)).Nodup → ∀ {id : Nat} {x : Ent}, (id, x) ∈ delE n m → id ≠ n
  | [], _, _, _, h => by cases h
  | (k, y) :: r, hn, id, x, h => by
    simp only [delE] at h
    rw [List.map_cons, List.nodup_cons] at hn
    cases hb : Nat.beq k n with
    | true =>
      simp only [hb] at h
      obtain rfl := Nat.eq_of_beq_eq_true hb
      exact fun e => hn.1 (by rw [← e]; exact List.mem_map_of_mem (f := (·.1)) h)
    | false =>
      simp only [hb] at h
      rcases List.mem_cons.1 h with heq | hm
      · cases heq
        exact fun e => by subst e; simp at hb
      · exact delE_ne hn.2 hm
theorem SatM.freeze (h : SatM base w0 E stk gs m w) {n : Nat} {α : Type} {C : Cdc α} {l : List α} {t : Nat} {cap : Option Nat} (d : α) (hm : (n, Ent.row C l t cap) ∈ m) (he : getE m n = some (.row C l t cap)) :
    SatM base w0 { E with imm := fun b => E.imm b ∨ blk (E.h n) = some b } (stk.map (subF n (.ro C.size C.enc d l none))) gs (subM n (.ro C.size C.enc d l none) (delE n m)) w := by
  obtain ⟨hid, hent, hblk⟩ := h.ents _ _ hm
  have hsl : ∃ A k c, E.h n = .slice A k c := by
    obtain ⟨_, _, ⟨xs, ho, _⟩, _⟩ := hent
    rcases ho.2 with ⟨hv, _⟩ | ⟨g, c, cur, hv, _⟩
    · exact ⟨_, _, _, hv⟩
    · exact ⟨_, _, _, hv⟩
  have hz : Rel w { E with imm := fun b => E.imm b ∨ blk (E.h n) = some b } (.ro C.size C.enc d l none) (E.h n) := by
    obtain ⟨hs, h0, ⟨xs, hown, hrl⟩, hcap⟩ := hent
    have h2 : ∀ {v : Value}, Rel w E (.view n C.size 0 l.length) v → Rel w { E with imm := fun b => E.imm b ∨ blk (E.h n) = some b } (.ro C.size C.enc d ((l.drop 0).take l.length) none) v :=
      fun hr => view_rel h he rfl rfl (by simp) hr (z := false) (fun g hg => .inl (.inr hg)) (fun _ h => .inl h)
    rw [List.drop_zero, List.take_length] at h2
    rcases hown.2 with ⟨hv, hn0⟩ | ⟨g, cc, cur, hv, hbg, hg, hnc, hcm, hcs, htake⟩
    · rw [hv] at h2 ⊢
      rw [hn0] at h2
      exact h2 (by simpa using Rel.view (w := w) (size := C.size) (lo := 0) (n := 0) hid hv (Nat.le_refl _) (fun h => by omega))
    · rw [hv] at h2 ⊢
      exact h2 (by simpa using Rel.view (w := w) (size := C.size) (lo := 0) (n := l.length) (A' := some ⟨g, 0, none⟩) hid hv (by omega) (fun _ => by simp [Addr.add]))
  have g : Turns n E { E with imm := fun b => E.imm b ∨ blk (E.h n) = some b } w w := by
    refine ⟨fun _ _ _ => rfl, fun b hb => ?_, fun _ h => h, fun _ h => .inl h, fun _ h => h, fun _ _ => rfl⟩
    obtain ⟨A, k, c, hs⟩ := hsl
    rw [hs] at hb
    cases hb
  have hmem : ∀ {id : Nat} {e : Ent}, (id, e) ∈ subM n (.ro C.size C.enc d l none) (delE n m) → ∃ y, (id, y) ∈ m ∧ e = y.sub n (.ro C.size C.enc d l none) ∧ id ≠ n := fun he' => by
    obtain ⟨y, hy, rfl⟩ := mem_subM he'
    exact ⟨y, (delE_sub n m).subset hy, rfl, delE_ne h.nodup hy⟩
  refine ⟨h.below, h.hb, fun b hb => ?_, ⟨fun b hb => .inl (h.keep.1 b hb), fun b hb => ?_, h.keep.2.2⟩, h.same, fun id e he' => ?_, ?_, by rw [List.length_map]; exact h.len, fun k h1 h2 => ?_⟩
  · rcases hb with hb | hb
    · exact h.imm b hb
    · exact (hblk b hb).2.2
  · rcases hb with hb | hb
    · exact h.keep.2.1 b hb
    · exact .inr (hblk b hb).1
  · obtain ⟨y, hy, rfl, hne⟩ := hmem he'
    obtain ⟨a1, a2, a3⟩ := h.ents _ _ hy
    refine ⟨a1, a2.sub g (fun _ => hz) a1 hne fun _ _ => rfl, fun b hb => ?_⟩
    obtain ⟨b1, b2, b3⟩ := a3 b hb
    exact ⟨b1, fun hc => hc.elim b2 fun hc => h.apart hm hy (Ne.symm hne) hc hb, b3⟩
  · rw [disj_names, subM_names]
    exact (disj_names.1 h.disj).sublist ((delE_sub n m).map _)
  · have hk : k < stk.length := by rw [List.length_map] at h1; exact h1
    rw [List.getElem_map]
    exact (h.stk k hk h2).sub g fun _ => hz
end
def freS (A : Sta) (n : Nat) {α : Type} (C : Cdc α) (d : α) (l : List α) : Sta := match A with
  | ⟨fr, stk, m, nx⟩ => ⟨subF n (.ro C.size C.enc d l none) fr, stk.map (subF n (.ro C.size C.enc d l none)), subM n (.ro C.size C.enc d l none) (delE n m), nx⟩
theorem Wk.freeze {A : Sta} {n : Nat} {α : Type} {C : Cdc α} {l : List α} {t : Nat} {cap : Option Nat} (d : α) (he : getE A.m n = some (.row C l t cap)) : Wk A (freS A n C d l) := ⟨fun base w0 E gs tm w hnx hS => by
  obtain ⟨fr, stk, m, nx⟩ := A
  exact ⟨{ E with imm := fun b => E.imm b ∨ blk (E.h n) = some b }, hnx, hS.freeze d (mem_of_getE he) he⟩⟩
theorem loopZ {A : Sta} {ds : List Nat} {G : (ι : Type) → (ι → Sta) → (ι → Prop) → (ι → Nat) → ι → Prop} (n : Nat) {α : Type} {C : Cdc α} {l : List α} {t : Nat} {cap : Option Nat} (d : α) (he : getE A.m n = some (.row C l t cap))
    (ι : Type) (xs : List Nat) (F : ι → Fr) (M : ι → Mem) (I : ι → Prop) (μ : ι → Nat) (i0 : ι) (h0 : I i0) (hw : Wk (freS A n C d l) (genS (freS A n C d l) (xs ++ ds) (F i0) (M i0)))
    (hr : ∀ i, I i → Run (G ι (fun i => genS (freS A n C d l) (xs ++ ds) (F i) (M i)) I μ i)) : ∃ (ι : Type) (S : ι → Sta) (I : ι → Prop) (μ : ι → Nat), Base A ds ∧ (∃ i, I i ∧ Wk A (S i)) ∧ ∀ i, I i → Run (G ι S I μ i) :=
  ⟨ι, _, I, μ, ⟨⟩, ⟨i0, h0, (Wk.freeze d he).trans hw⟩, hr⟩
theorem LeN.zt {n : Nat} {α : Type} {s : Nat} {en : α → List AV} {d : α} {l l' : List α} {z : Bool} (h : l = l') : LeN n (.ro s en d l none z) (.ro s en d l' none true) := ⟨fun w E v hr => by
  subst h
  cases hr with
  | roNil _ _ _ _ A c hs hc => exact .roNil _ _ _ _ _ _ hs hc
  | ro y hs hcap hlc him hc hr =>
    refine .ro y hs hcap hlc ?_ hc fun j h1 k h2 => (hr j h1 k h2).mono ?_
    · exact him.or
    · cases z with
      | true => exact ⟨fun _ h => False.elim h, fun _ h => False.elim h, fun _ h => h, fun _ h => h, fun _ _ => rfl⟩
      | false => exact ⟨fun _ h => False.elim h, fun _ h => False.elim h, fun _ h => h, fun _ h => False.elim h, fun _ _ => rfl⟩⟩
end Go.SX
/- The document's pieces (chapter 10), plainly. No program here. -/
namespace Go.SX.Plain
structure Pc where
  r : Int
  frm : Int
  to : Int
  cells : Int
abbrev dPc : Pc := ⟨0, 0, 0, 0⟩
def amongB (r : Int) (l : List Int) : Bool := l.any fun x => x == r
def endsP (x : Pc) : Bool := x.r == 10
def blankP (x : Pc) : Bool := amongB x.r [9, 32, 5760, 8287, 12288] || (decide (8192 ≤ x.r) && decide (x.r ≤ 8202) && !(x.r == 8199))
def wideP' (x : Pc) : Bool := x.cells == 2 && !blankP x
def dashP (x : Pc) : Bool := amongB x.r [45, 8208, 8210, 8211, 8212]
def openingP (x : Pc) : Bool := amongB x.r [40, 91, 123, 12296, 12298, 12300, 12302, 12304, 12308, 65288, 65339, 65371]
def closingP (x : Pc) : Bool := amongB x.r [33, 41, 44, 46, 58, 59, 63, 93, 125, 12289, 12290, 12297, 12299, 12301, 12303, 12305, 12309, 12540, 65281, 65289, 65292, 65294, 65306, 65307, 65311, 65341, 65373]
def pcOf (p : Part) : Pc := ⟨p.first, p.c.frm, p.c.to, p.c.cells⟩
def pcs (s : ByteArray) : List Pc := (parts s).map pcOf
structure Told (p : Part) : Prop where
  fin : p.fin = endsP (pcOf p)
  blank : p.blank = blankP (pcOf p)
  wide : p.wide = wideP' (pcOf p)
  dash : p.dash = dashP (pcOf p)
  opening : p.opening = openingP (pcOf p)
  closing : p.closing = closingP (pcOf p)
theorem oneB_list (r : Int) (l : ByteArray) (m : List Int) (h : (signsFrom l 0).map (fun p => (p.2 : Int)) = m) : oneB r l = amongB r m := by
  unfold oneB amongB
  rw [← h, List.any_map]
  rfl
set_option maxRecDepth 100000 in
theorem one_blanks (r : Int) : oneB r blanks = amongB r [9, 32, 5760, 8287, 12288] := oneB_list r blanks _ (by decide)
set_option maxRecDepth 100000 in
theorem one_dashes (r : Int) : oneB r dashes = amongB r [45, 8208, 8210, 8211, 8212] := oneB_list r dashes _ (by decide)
set_option maxRecDepth 100000 in
theorem one_openings (r : Int) : oneB r openings = amongB r [40, 91, 123, 12296, 12298, 12300, 12302, 12304, 12308, 65288, 65339, 65371] := oneB_list r openings _ (by decide)
set_option maxRecDepth 100000 in
theorem one_closings (r : Int) : oneB r closings = amongB r [33, 41, 44, 46, 58, 59, 63, 93, 125, 12289, 12290, 12297, 12299, 12301, 12303, 12305, 12309, 12540, 65281, 65289, 65292, 65294, 65306, 65307, 65311, 65341, 65373] := oneB_list r closings _ (by decide)
theorem blankB_eq (c : Clu) (r : Int) : blankB r = blankP ⟨r, c.frm, c.to, c.cells⟩ := by
  unfold blankB blankP
  rw [one_blanks, Bool.eq_iff_iff]
  simp only [Bool.or_eq_true, Bool.and_eq_true, decide_eq_true_eq, Bool.not_eq_true', beq_eq_false_iff_ne, ne_eq]
  constructor
  · rintro ((h | h) | h)
    · exact .inl h
    · exact .inr ⟨by omega, by omega⟩
    · exact .inr ⟨by omega, by omega⟩
  · rintro (h | h)
    · exact .inl (.inl h)
    · by_cases h2 : r ≤ 8198
      · exact .inl (.inr ⟨h.1.1, h2⟩)
      · exact .inr ⟨by omega, h.1.2⟩
theorem told_of (c : Clu) (r : Int) : Told (partOfR c r) :=
  ⟨rfl, blankB_eq c r, by simp only [partOfR, wideP', pcOf]; rw [blankB_eq c r], one_dashes r, one_openings r, one_closings r⟩
theorem parts_told (s : ByteArray) : ∀ p ∈ parts s, Told p := by
  intro p hp
  simp only [parts] at hp
  obtain ⟨c, _, rfl⟩ := List.mem_map.1 hp
  exact told_of _ _
def kindP (l : List Pc) (i : Nat) : Int :=
  if endsP (l.getD (i - 1) dPc) = true then 1
  else if i = l.length then 0
  else if (endsP (l.getD i dPc) || blankP (l.getD i dPc)) = true then 0
  else if blankP (l.getD (i - 1) dPc) = true then 2
  else if (dashP (l.getD (i - 1) dPc) && decide ((1 : Int) < (i : Int)) && !blankP (l.getD (i - 2) dPc) && !endsP (l.getD (i - 2) dPc) && !dashP (l.getD (i - 2) dPc)) = true then 2
  else if ((wideP' (l.getD (i - 1) dPc) || wideP' (l.getD i dPc)) && !openingP (l.getD (i - 1) dPc) && !closingP (l.getD i dPc)) = true then 2
  else 3
theorem told_at {l : List Part} (h : ∀ p ∈ l, Told p) {i : Nat} (hi : i < l.length) : Told (l.getD i dPart) := by
  rw [List.getD_eq_getElem?_getD, List.getElem?_eq_getElem hi]; exact h _ (List.getElem_mem hi)
theorem pc_at (l : List Part) (i : Nat) : (l.map pcOf).getD i dPc = pcOf (l.getD i dPart) := getD_map pcOf l dPart i
theorem kindP_eq {l : List Part} (h : ∀ p ∈ l, Told p) {i : Nat} (h0 : 0 < i) (hi : i ≤ l.length) : kindP (l.map pcOf) i = kindAt l i := by
  have t1 := told_at h (i := i - 1) (by omega)
  have t2 := told_at h (i := i - 2) (by omega)
  unfold kindP kindAt
  simp only [pc_at, List.length_map]
  rw [t1.fin, t1.blank, t1.dash, t1.wide, t1.opening, t2.blank, t2.fin, t2.dash]
  by_cases he : i = l.length
  · rw [if_pos he, if_pos he]
  · have t3 := told_at h (i := i) (by omega)
    rw [t3.fin, t3.blank, t3.wide, t3.closing]
def kindsTo (l : List Pc) : Nat → List Int
  | 0 => List.replicate (l.length + 1) 0
  | 1 => List.replicate (l.length + 1) 0
  | i + 1 => (kindsTo l i).set i (kindP l i)
def kindsP (l : List Pc) : List Int := kindsTo l (l.length + 1)
theorem kindsTo_len (l : List Pc) : ∀ i, (kindsTo l i).length = l.length + 1
  | 0 => by simp [kindsTo]
  | 1 => by simp [kindsTo]
  | i + 2 => by simp [kindsTo, kindsTo_len l (i + 1)]
theorem kindsTo_succ {l : List Pc} {i : Nat} (h : 1 ≤ i) : kindsTo l (i + 1) = (kindsTo l i).set i (kindP l i) := by
  obtain ⟨j, rfl⟩ : ∃ j, i = j + 1 := ⟨i - 1, by omega⟩
  rfl
theorem kindsTo_get (l : List Pc) : ∀ (i j : Nat), i ≤ l.length + 1 → (kindsTo l i).getD j 0 = if 0 < j ∧ j < i then kindP l j else 0
  | 0, j, _ => by
    rw [if_neg (by omega)]
    simp only [kindsTo, List.getD_eq_getElem?_getD, List.getElem?_replicate]; split <;> rfl
  | 1, j, _ => by
    rw [if_neg (by omega)]
    simp only [kindsTo, List.getD_eq_getElem?_getD, List.getElem?_replicate]; split <;> rfl
  | i + 2, j, h => by
    simp only [kindsTo]
    have hl := kindsTo_len l (i + 1)
    by_cases hj : j = i + 1
    · subst hj
      rw [getD_set_eq _ _ _ _ (by omega), if_pos (by omega)]
    · rw [getD_set_ne _ _ _ _ _ (by omega), kindsTo_get l (i + 1) j (by omega)]
      by_cases hc : 0 < j ∧ j < i + 1
      · rw [if_pos hc, if_pos (by omega)]
      · rw [if_neg hc, if_neg (by omega)]
theorem kindsP_get {l : List Pc} {i : Nat} (h : 0 < i) (hi : i ≤ l.length) : (kindsP l).getD i 0 = kindP l i := by
  unfold kindsP
  rw [kindsTo_get l _ i (Nat.le_refl _), if_pos (by omega)]
theorem kindsP_len (l : List Pc) : (kindsP l).length = l.length + 1 := kindsTo_len l _
def placeP (l : List Pc) (i : Nat) : Int := if i = l.length then (l.getD (i - 1) dPc).to else (l.getD i dPc).frm
end Go.SX.Plain
/- Of each cluster: the rune that its text begins with stands in the text's runes. No program here. -/
namespace Go.SX.Plain
structure ClOK (s : ByteArray) (c : Clu) : Prop where
  ex : ∃ f t : Nat, f < t ∧ t ≤ (rl s).length ∧ c = (gAt (rl s) (al s) f t).c
theorem remGo_ok (s : ByteArray) : ∀ (k f t : Nat), (rl s).length - t ≤ k → f < t → t ≤ (rl s).length → ∀ c ∈ remGo (rl s) (al s) k f t, ClOK s c
  | 0, f, t, _, h1, h2, c, hc => by
    simp only [remGo] at hc
    rw [List.mem_singleton.1 hc]
    exact ⟨f, t, h1, h2, rfl⟩
  | k + 1, f, t, hk, h1, h2, c, hc => by
    simp only [remGo] at hc
    split at hc
    · split at hc
      · exact remGo_ok s k f (t + 1) (by omega) (by omega) (by omega) c hc
      · rcases List.mem_cons.1 hc with rfl | hc
        · exact ⟨f, t, h1, h2, rfl⟩
        · exact remGo_ok s k t (t + 1) (by omega) (by omega) (by omega) c hc
    · rw [List.mem_singleton.1 hc]
      exact ⟨f, t, h1, h2, rfl⟩
theorem clusters_ok (s : ByteArray) : ∀ c ∈ clusters s, ClOK s c := by
  intro c hc
  rw [clusters_rem] at hc
  split at hc
  · rename_i h
    exact remGo_ok s _ 0 1 (Nat.le_refl _) (by omega) (by rw [rl_len]; exact h) c hc
  · cases hc
theorem ClOK.first {s : ByteArray} {c : Clu} (h : ClOK s c) : 0 ≤ c.frm ∧ c.frm < (rl s).length ∧ (rl s).getD c.frm.toNat 0 = firstOf s c ∧ c.frm < c.to ∧ c.to ≤ (rl s).length ∧ 0 ≤ c.at ∧ 0 < c.len ∧ c.at + c.len ≤ s.size := by
  obtain ⟨f, t, h1, h2, rfl⟩ := h.ex
  obtain ⟨p, q1, q2, q3, q4⟩ := rl_dec s (i := f) (by omega)
  have hm := al_mono s (i := f + 1) (j := t) (by omega) h2
  have hb := al_bd s t
  have hw := width_pos s p
  rw [q4] at hm
  have e1 : (gAt (rl s) (al s) f t).c.frm = (f : Int) := rfl
  have e2 : (gAt (rl s) (al s) f t).c.to = (t : Int) := rfl
  have e3 : (gAt (rl s) (al s) f t).c.at = (p : Int) := q1
  have e4 : (gAt (rl s) (al s) f t).c.len = (al s).getD t 0 - p := by rw [← q1]; rfl
  rw [e1, e2, e3, e4]
  refine ⟨by omega, by omega, ?_, by omega, by omega, by omega, by omega, by omega⟩
  unfold firstOf
  rw [e3, e4]
  obtain ⟨e, he⟩ : ∃ e : Nat, (al s).getD t 0 = e := ⟨((al s).getD t 0).toNat, by omega⟩
  rw [he] at hm hb ⊢
  have h3 : ((p : Int)).toNat = p := Int.toNat_natCast _
  have h4 : ((p : Int) + ((e : Int) - p)).toNat = e := by omega
  rw [h3, h4, size_extract' (by omega), if_pos (by omega), decode_extract (by omega) (by omega) (by omega), Int.toNat_natCast, q3]
theorem runes_rl (s : ByteArray) : runes' s = rl s := by
  unfold runes' rl
  rw [List.map_map]
  apply List.ext_getElem
  · simp
  · intro i h1 h2
    simp only [List.getElem_map, Function.comp_apply]
    have h : i < (signsFrom s 0).length := by simpa using h1
    have := (signsGo_chain s _ _ (by omega) i h).2.1
    exact (congrArg Int.ofNat this).symm
theorem getD_mem' {α : Type} (l : List α) (d : α) {i : Nat} (h : i < l.length) : l.getD i d ∈ l := by
  simp [List.getD_eq_getElem?_getD, h]
theorem clusters_len (s : ByteArray) : (clusters s).length ≤ s.size := by
  have := parts_len s
  simpa [parts] using this
end Go.SX.Plain
/- The document's table, plainly. No program here. -/
namespace Go.SX.Plain
structure Rb where
  bad : Int
  count : Int
  next : Int
abbrev zR : Rb := ⟨0, 0, 0⟩
def rbOf (b : Bst) : Rb := ⟨b.bad, b.places, b.next⟩
def wAt (l : List Part) (f t : Nat) : Int := (scan l f (t - f)).1
def lessB (a b : Rb) : Bool := if a.bad ≠ b.bad then decide (a.bad < b.bad) else decide (a.count < b.count)
def lastB (l : List Part) (f t : Nat) : Bool := decide (t = l.length) && (decide (l.length = f) || !(l.getD (l.length - 1) dPart).fin)
section
variable (l : List Part) (width : Int) (ct : List Rb) (f : Nat)
def rcand (t : Nat) : Bst :=
  ⟨(width - wAt l f t) * (width - wAt l f t) + (ct.getD t zR).bad + (if kindAt l t = 3 then 1048576 else 0), 1 + (ct.getD t zR).count, t, true⟩
def rend (t : Nat) : Bst := ⟨(width - wAt l f t) * (width - wAt l f t), 0, 0, true⟩
def racc1 (t : Nat) (acc : Bst) : Bst := if f < t ∧ 0 < kindAt l t then better (rcand l width ct f t) acc else acc
def racc2 (t : Nat) (acc : Bst) : Bst := if lastB l f t = true then better (rend l width f t) (racc1 l width ct f t acc) else racc1 l width ct f t acc
def rinn : Nat → Nat → Bst → Bst
  | 0, _, acc => acc
  | k + 1, t, acc => if t ≤ l.length then (if wAt l f t ≤ width then (if f < t ∧ kindAt l t = 1 then racc2 l width ct f t acc else rinn k (t + 1) (racc2 l width ct f t acc)) else acc) else acc
def rinner (t : Nat) (acc : Bst) : Bst := rinn l width ct f (l.length + 1 - t) t acc
end
section
variable {l : List Part} {width : Int} {ct : List Rb} {f t : Nat} {acc : Bst}
theorem rinner_end (h : ¬ t ≤ l.length) : rinner l width ct f t acc = acc := by
  unfold rinner
  rw [show l.length + 1 - t = 0 by omega]
  rfl
theorem rinner_step (h : t ≤ l.length) : rinner l width ct f t acc = (if wAt l f t ≤ width then (if f < t ∧ kindAt l t = 1 then racc2 l width ct f t acc else rinner l width ct f (t + 1) (racc2 l width ct f t acc)) else acc) := by
  unfold rinner
  rw [show l.length + 1 - t = (l.length + 1 - (t + 1)) + 1 by omega]
  simp only [rinn]
  rw [if_pos h]
theorem rinner_full (h : t ≤ l.length) (hw : ¬ wAt l f t ≤ width) : rinner l width ct f t acc = acc := by rw [rinner_step h, if_neg hw]
theorem rinner_stop (h : t ≤ l.length) (hw : wAt l f t ≤ width) (hk : f < t ∧ kindAt l t = 1) : rinner l width ct f t acc = racc2 l width ct f t acc := by rw [rinner_step h, if_pos hw, if_pos hk]
theorem rinner_on (h : t ≤ l.length) (hw : wAt l f t ≤ width) (hk : ¬ (f < t ∧ kindAt l t = 1)) : rinner l width ct f t acc = rinner l width ct f (t + 1) (racc2 l width ct f t acc) := by rw [rinner_step h, if_pos hw, if_neg hk]
theorem before_less {w acc : Bst} : before w acc = (!acc.ok || lessB (rbOf w) (rbOf acc)) := by
  unfold before lessB rbOf
  cases acc.ok <;> simp
end
def rt (l : List Part) (width : Int) : Nat → List Rb
  | 0 => List.replicate (l.length + 1) zR
  | c + 1 => (rt l width c).set (l.length - c) (rbOf (rinner l width (rt l width c) (l.length - c) (l.length - c) zB))
def rtab (l : List Part) (width : Int) : List Rb := rt l width (l.length + 1)
theorem rt_len (l : List Part) (width : Int) : ∀ c, (rt l width c).length = l.length + 1
  | 0 => by simp [rt]
  | c + 1 => by simp [rt, rt_len l width c]
theorem rt_succ {l : List Part} {width : Int} {c f : Nat} (h : f = l.length - c) : rt l width (c + 1) = (rt l width c).set f (rbOf (rinner l width (rt l width c) f f zB)) := by subst h; rfl
structure GdR (n j : Nat) (b : Rb) : Prop where
  b0 : 0 ≤ b.bad
  b1 : b.bad ≤ ((n + 1 - j : Nat) : Int) * 2000000
  p0 : 0 ≤ b.count
  p1 : b.count ≤ ((n + 1 - j : Nat) : Int)
  n0 : b.next = 0 ∨ ∃ m : Nat, b.next = m ∧ j < m ∧ m ≤ n
theorem GdR.zero (n j : Nat) : GdR n j zR := ⟨by simp, by simp only; omega, by simp, by simp only; omega, .inl rfl⟩
theorem wAt_bd {l : List Part} (h : Small l) (f t : Nat) : 0 ≤ wAt l f t := (scan_bd h _ _).1
theorem GdR.cand {l : List Part} {width : Int} {ct : List Rb} {f t : Nat} (hs : Small l) (hw : width ≤ 200) (hf : wAt l f t ≤ width) (hk : f < t) (hn : t ≤ l.length) (ho : GdR l.length t (ct.getD t zR)) : GdR l.length f (rbOf (rcand l width ct f t)) := by
  have h0 := wAt_bd hs f t
  have hq := sq_bd (x := width - wAt l f t) (y := 200) (by omega) (by omega)
  obtain ⟨b0, b1, p0, p1, _⟩ := ho
  unfold rbOf rcand
  refine ⟨?_, ?_, ?_, ?_, .inr ⟨t, rfl, hk, hn⟩⟩
  · simp only; split <;> omega
  · simp only
    have : ((l.length + 1 - f : Nat) : Int) ≥ ((l.length + 1 - t : Nat) : Int) + 1 := by omega
    split <;> omega
  · simp only; omega
  · simp only; omega
theorem GdR.fin {l : List Part} {width : Int} {f t : Nat} (hs : Small l) (hw : width ≤ 200) (hf : wAt l f t ≤ width) (hk : f ≤ l.length) : GdR l.length f (rbOf (rend l width f t)) := by
  have h0 := wAt_bd hs f t
  have hq := sq_bd (x := width - wAt l f t) (y := 200) (by omega) (by omega)
  unfold rbOf rend
  exact ⟨hq.1, by simp only; omega, by simp, by simp only; omega, .inl rfl⟩
theorem GdR.better {n f : Nat} {a b : Bst} (ha : GdR n f (rbOf a)) (hb : GdR n f (rbOf b)) : GdR n f (rbOf (better a b)) := by
  unfold Plain.better; split <;> assumption
theorem GdR.acc1 {l : List Part} {width : Int} {ct : List Rb} {f t : Nat} {acc : Bst} (hs : Small l) (hw : width ≤ 200) (hf : wAt l f t ≤ width) (hn : t ≤ l.length) (ho : f < t → GdR l.length t (ct.getD t zR)) (ha : GdR l.length f (rbOf acc)) : GdR l.length f (rbOf (racc1 l width ct f t acc)) := by
  unfold racc1
  split
  · rename_i h; exact GdR.better (GdR.cand hs hw hf h.1 hn (ho h.1)) ha
  · exact ha
theorem GdR.acc2 {l : List Part} {width : Int} {ct : List Rb} {f t : Nat} {acc : Bst} (hs : Small l) (hw : width ≤ 200) (hf : wAt l f t ≤ width) (hk : f ≤ l.length) (hn : t ≤ l.length) (ho : f < t → GdR l.length t (ct.getD t zR)) (ha : GdR l.length f (rbOf acc)) : GdR l.length f (rbOf (racc2 l width ct f t acc)) := by
  unfold racc2
  split
  · exact GdR.better (GdR.fin hs hw hf hk) (GdR.acc1 hs hw hf hn ho ha)
  · exact GdR.acc1 hs hw hf hn ho ha
theorem GdR.inn {l : List Part} {width : Int} {ct : List Rb} {f : Nat} (hs : Small l) (hw : width ≤ 200) (hk : f ≤ l.length) (ho : ∀ t, f < t → GdR l.length t (ct.getD t zR)) : ∀ (k t : Nat) {acc : Bst}, GdR l.length f (rbOf acc) → GdR l.length f (rbOf (rinn l width ct f k t acc))
  | 0, _, _, ha => ha
  | k + 1, t, acc, ha => by
    simp only [rinn]
    split
    · rename_i ht
      split
      · rename_i hf
        have h2 := GdR.acc2 hs hw hf hk ht (fun h => ho t h) ha
        split
        · exact h2
        · exact GdR.inn hs hw hk ho k (t + 1) h2
      · exact ha
    · exact ha
theorem rt_gd {l : List Part} {width : Int} (hs : Small l) (hw : width ≤ 200) : ∀ c j, c ≤ l.length + 1 → l.length + 1 ≤ c + j → GdR l.length j ((rt l width c).getD j zR)
  | 0, j, _, h => by
    have : (rt l width 0).getD j zR = zR := by simp only [rt, List.getD_eq_getElem?_getD, List.getElem?_replicate]; split <;> rfl
    rw [this]; exact GdR.zero _ _
  | c + 1, j, hc, h => by
    have hlen := rt_len l width c
    simp only [rt]
    by_cases hj : j = l.length - c
    · subst hj
      rw [getD_set_eq _ _ _ _ (by omega)]
      exact GdR.inn hs hw (by omega) (fun t ht => rt_gd hs hw c t (by omega) (by omega)) _ _ (GdR.zero _ _)
    · rw [getD_set_ne _ _ _ _ _ (by omega)]
      exact rt_gd hs hw c j (by omega) (by omega)
theorem rt_zero (l : List Part) (width : Int) : ∀ c j, j + c < l.length + 1 → (rt l width c).getD j zR = zR
  | 0, j, _ => by
    simp only [rt, List.getD_eq_getElem?_getD, List.getElem?_replicate]; split <;> rfl
  | c + 1, j, h => by
    simp only [rt]
    rw [getD_set_ne _ _ _ _ _ (by omega)]
    exact rt_zero l width c j (by omega)
theorem rt_set0 (l : List Part) (width : Int) {c k : Nat} (h : k + c < l.length + 1) : (rt l width c).set k zR = rt l width c := by
  have h1 := rt_zero l width c k h
  have hl := rt_len l width c
  apply List.ext_getElem
  · simp
  · intro i h2 h3
    by_cases hi : k = i
    · subst hi
      rw [List.getElem_set_self]
      have : (rt l width c)[k]? = some (rt l width c)[k] := List.getElem?_eq_getElem h3
      rw [List.getD_eq_getElem?_getD, this] at h1
      exact h1.symm
    · rw [List.getElem_set_ne hi]
theorem kindAt_cases (l : List Part) (i : Nat) : kindAt l i = 0 ∨ kindAt l i = 1 ∨ kindAt l i = 2 ∨ kindAt l i = 3 := by
  unfold kindAt
  repeat' split
  all_goals simp
theorem natBeq (a b : Nat) : ((a : Int) == (b : Int)) = decide (a = b) := by rw [Bool.eq_iff_iff]; simp; omega
theorem lastB_1 {l : List Part} (hT : ∀ p ∈ l, Told p) {f t : Nat} (hf : f ≤ l.length) : (decide (t = l.length) && (decide (l.length = f) || !endsP (pcOf (l.getD (l.length - 1) dPart)))) = lastB l f t := by
  unfold lastB
  by_cases h : l.length = 0
  · have : l.length = f := by omega
    rw [decide_eq_true this]
    simp
  · rw [(told_at hT (i := l.length - 1) (by omega)).fin]
theorem lastB_2 {l : List Part} {f t : Nat} (h : (decide (t = l.length) && !decide (l.length = f)) = false) : (decide (t = l.length) && bif decide (l.length = f) then true else false) = lastB l f t := by
  unfold lastB
  cases h1 : decide (t = l.length) <;> cases h2 : decide (l.length = f) <;> simp_all
section
variable {l : List Part} {width : Int} {ct : List Rb} {f t : Nat} {acc : Bst}
theorem racc1_no (h : ¬ (f < t ∧ 0 < kindAt l t)) : racc1 l width ct f t acc = acc := by unfold racc1; rw [if_neg h]
theorem racc1_yes (h : f < t ∧ 0 < kindAt l t) (hb : (!acc.ok || lessB (rbOf (rcand l width ct f t)) (rbOf acc)) = true) : racc1 l width ct f t acc = rcand l width ct f t := by
  unfold racc1; rw [if_pos h]; unfold better; rw [if_pos (by rw [before_less]; exact hb)]
theorem racc1_keep (h : f < t ∧ 0 < kindAt l t) (hb : (!acc.ok || lessB (rbOf (rcand l width ct f t)) (rbOf acc)) = false) : racc1 l width ct f t acc = acc := by
  unfold racc1; rw [if_pos h]; unfold better; rw [if_neg (by rw [before_less, hb]; exact Bool.false_ne_true)]
theorem racc2_no (h : lastB l f t = false) : racc2 l width ct f t acc = racc1 l width ct f t acc := by unfold racc2; rw [if_neg (by rw [h]; exact Bool.false_ne_true)]
theorem racc2_yes (h : lastB l f t = true) (hb : (!(racc1 l width ct f t acc).ok || lessB (rbOf (rend l width f t)) (rbOf (racc1 l width ct f t acc))) = true) : racc2 l width ct f t acc = rend l width f t := by
  unfold racc2; rw [if_pos h]; unfold better; rw [if_pos (by rw [before_less]; exact hb)]
theorem racc2_keep (h : lastB l f t = true) (hb : (!(racc1 l width ct f t acc).ok || lessB (rbOf (rend l width f t)) (rbOf (racc1 l width ct f t acc))) = false) : racc2 l width ct f t acc = racc1 l width ct f t acc := by
  unfold racc2; rw [if_pos h]; unfold better; rw [if_neg (by rw [before_less, hb]; exact Bool.false_ne_true)]
theorem rcand_cut (h : kindAt l t = 3) : rcand l width ct f t = ⟨(width - wAt l f t) * (width - wAt l f t) + (ct.getD t zR).bad + 1048576, 1 + (ct.getD t zR).count, t, true⟩ := by unfold rcand; rw [if_pos h]
theorem rcand_not (h : ¬ kindAt l t = 3) : rcand l width ct f t = ⟨(width - wAt l f t) * (width - wAt l f t) + (ct.getD t zR).bad, 1 + (ct.getD t zR).count, t, true⟩ := by unfold rcand; rw [if_neg h, Int.add_zero]
end
section
variable {l : List Part} {width : Int} {ct : List Rb} {f t : Nat} {acc a : Bst}
theorem racc2_no' (ha : a = racc1 l width ct f t acc) (h : lastB l f t = false) : racc2 l width ct f t acc = a := by rw [racc2_no h, ha]
theorem racc2_yes' (ha : a = racc1 l width ct f t acc) (h : lastB l f t = true) (hb : (!a.ok || lessB ⟨(width - wAt l f t) * (width - wAt l f t), 0, 0⟩ (rbOf a)) = true) : racc2 l width ct f t acc = ⟨(width - wAt l f t) * (width - wAt l f t), 0, 0, true⟩ := by
  subst ha; exact racc2_yes h hb
theorem racc2_yes0 (ha : a = racc1 l width ct f t acc) (h : lastB l f t = true) (hb : a.ok = false) : racc2 l width ct f t acc = ⟨(width - wAt l f t) * (width - wAt l f t), 0, 0, true⟩ := racc2_yes' ha h (by rw [hb]; rfl)
theorem racc2_keep' (ha : a = racc1 l width ct f t acc) (h : lastB l f t = true) (hb : (!a.ok || lessB ⟨(width - wAt l f t) * (width - wAt l f t), 0, 0⟩ (rbOf a)) = false) : racc2 l width ct f t acc = a := by
  subst ha; exact racc2_keep h hb
end
end Go.SX.Plain
/- The program's table and the document's say the same. No program here. -/
namespace Go.SX.Plain
/-! ### Each entry out of the whole table -/
theorem inn_congr {l : List Part} {P : List Nat} {width : Int} {ws ws' : List Bst} {k : Nat} (h : ∀ j, k < j → ws.getD j zB = ws'.getD j zB) : ∀ (f n : Nat) (acc : Bst), k ≤ n → inn l P width ws k f n acc = inn l P width ws' k f n acc
  | 0, _, _, _ => rfl
  | f + 1, n, acc, hn => by
    have e := h (n + 1) (by omega)
    have ec : cand l P width ws k n = cand l P width ws' k n := by unfold cand; rw [e]
    simp only [inn, e, ec]
    rw [inn_congr h f (n + 1) _ (by omega), inn_congr h f (n + 1) _ (by omega)]
theorem tab_later (l : List Part) (P : List Nat) (width : Int) {c : Nat} : ∀ (d j : Nat), P.length + 1 ≤ c + j → c + d ≤ P.length + 1 → (tab l P width (c + d)).getD j zB = (tab l P width c).getD j zB
  | 0, _, _, _ => rfl
  | d + 1, j, h, hd => by
    rw [← Nat.add_assoc]
    simp only [tab]
    rw [getD_set_ne _ _ _ _ _ (by omega)]
    exact tab_later l P width d j h (by omega)
theorem tab_entry {l : List Part} {width : Int} {k : Nat} (hk : k ≤ (plcs l (l.length + 1)).length) : (tabOf l width).getD k zB = inner l (plcs l (l.length + 1)) width (tabOf l width) k k zB := by
  unfold tabOf
  generalize plcs l (l.length + 1) = P at hk
  have hl := tab_len l P width (P.length - k)
  have e : P.length + 1 = (P.length - k + 1) + k := by omega
  have h1 : (tab l P width (P.length + 1)).getD k zB = (tab l P width (P.length - k + 1)).getD k zB := by
    have := tab_later l P width (c := P.length - k + 1) k k (by omega) (by omega)
    rw [← e] at this; exact this
  rw [h1, tab_succ (c := P.length - k) (k := k) (by omega), getD_set_eq _ _ _ _ (by omega)]
  unfold inner
  refine inn_congr (fun j hj => ?_) _ _ _ (Nat.le_refl _)
  have e2 : P.length + 1 = (P.length - k) + (k + 1) := by omega
  have := tab_later l P width (c := P.length - k) (k + 1) j (by omega) (by omega)
  rw [← e2] at this; exact this.symm
theorem rinn_congr {l : List Part} {width : Int} {ct ct' : List Rb} {f : Nat} (h : ∀ j, f < j → ct.getD j zR = ct'.getD j zR) : ∀ (k t : Nat) (acc : Bst), rinn l width ct f k t acc = rinn l width ct' f k t acc
  | 0, _, _ => rfl
  | k + 1, t, acc => by
    have e1 : racc1 l width ct f t acc = racc1 l width ct' f t acc := by
      unfold racc1
      split
      · rename_i hc
        have : rcand l width ct f t = rcand l width ct' f t := by unfold rcand; rw [h t hc.1]
        rw [this]
      · rfl
    have e2 : racc2 l width ct f t acc = racc2 l width ct' f t acc := by unfold racc2; rw [e1]
    simp only [rinn, e2]
    rw [rinn_congr h k (t + 1)]
theorem rt_later (l : List Part) (width : Int) {c : Nat} : ∀ (d j : Nat), l.length + 1 ≤ c + j → c + d ≤ l.length + 1 → (rt l width (c + d)).getD j zR = (rt l width c).getD j zR
  | 0, _, _, _ => rfl
  | d + 1, j, h, hd => by
    rw [← Nat.add_assoc]
    simp only [rt]
    rw [getD_set_ne _ _ _ _ _ (by omega)]
    exact rt_later l width d j h (by omega)
theorem rt_entry {l : List Part} {width : Int} {f : Nat} (hf : f ≤ l.length) : (rtab l width).getD f zR = rbOf (rinner l width (rtab l width) f f zB) := by
  unfold rtab
  have hl := rt_len l width (l.length - f)
  have e : l.length + 1 = (l.length - f + 1) + f := by omega
  have h1 : (rt l width (l.length + 1)).getD f zR = (rt l width (l.length - f + 1)).getD f zR := by
    have := rt_later l width (c := l.length - f + 1) f f (by omega) (by omega)
    rw [← e] at this; exact this
  rw [h1, rt_succ (c := l.length - f) (f := f) (by omega), getD_set_eq _ _ _ _ (by omega)]
  unfold rinner
  rw [rinn_congr (fun j hj => ?_)]
  have e2 : l.length + 1 = (l.length - f) + (f + 1) := by omega
  have := rt_later l width (c := l.length - f) (f + 1) j (by omega) (by omega)
  rw [← e2] at this; exact this.symm

/-! ### Alike -/
def NxA (P : List Nat) (x y : Int) : Prop := (x = -1 ∧ y = 0) ∨ ∃ m : Nat, x = m ∧ m < P.length ∧ y = (P.getD m 0 : Nat)
structure EqA (P : List Nat) (a b : Bst) : Prop where
  bad : a.bad = b.bad
  places : a.places = b.places
  ok : a.ok = b.ok
  next : a.ok = true → NxA P a.next b.next
theorem EqA.better {P : List Nat} {a b x y : Bst} (h : EqA P a b) (h' : EqA P x y) : EqA P (better a x) (better b y) := by
  have e : before a x = before b y := by unfold before; rw [h.bad, h.places, h'.ok, h'.bad, h'.places]
  unfold Plain.better
  rw [e]
  split <;> assumption
theorem scan_mono {l : List Part} (h : Small l) (f : Nat) : ∀ (d n : Nat), (scan l f n).1 ≤ (scan l f (n + d)).1
  | 0, n => Int.le_refl _
  | d + 1, n => by
    have h1 := scan_mono h f d n
    have hb := scan_bd h f (n + d)
    have hc := h.at (f + (n + d))
    rw [← Nat.add_assoc]
    refine Int.le_trans h1 ?_
    simp only [scan]
    split
    · exact Int.le_refl _
    · simp only
      split
      · exact Int.le_refl _
      · omega
theorem wAt_mono {l : List Part} (h : Small l) {f t e : Nat} (h1 : t ≤ e) : wAt l f t ≤ wAt l f e := by
  unfold wAt
  by_cases hf : f ≤ t
  · have := scan_mono h f (e - t) (t - f)
    rwa [show t - f + (e - t) = e - f by omega] at this
  · rw [show t - f = 0 by omega]
    have := scan_mono h f (e - f) 0
    rwa [Nat.zero_add] at this
theorem rinner_skip {l : List Part} (hS : Small l) {width : Int} {ct : List Rb} {f e : Nat} (he : e ≤ l.length) : ∀ (d t : Nat) (acc : Bst), t + d = e → (∀ i, t ≤ i → i < e → f < i ∧ kindAt l i = 0) → rinner l width ct f t acc = rinner l width ct f e acc
  | 0, t, acc, hd, _ => by rw [show t = e by omega]
  | d + 1, t, acc, hd, h => by
    obtain ⟨h1, h2⟩ := h t (Nat.le_refl _) (by omega)
    by_cases hw : wAt l f t ≤ width
    · have hl : lastB l f t = false := by
        unfold lastB
        rw [decide_eq_false (by omega)]; rfl
      have ha : racc2 l width ct f t acc = acc := by rw [racc2_no hl, racc1_no (by omega)]
      rw [rinner_on (by omega) hw (by omega), ha]
      exact rinner_skip hS he d (t + 1) acc (by omega) fun i hi hj => h i (by omega) hj
    · rw [rinner_full (by omega) hw]
      have hm := wAt_mono hS (f := f) (show t ≤ e by omega)
      rw [rinner_full he (by omega)]
theorem kind_len (l : List Part) : kindAt l l.length = 0 ∨ kindAt l l.length = 1 := by
  unfold kindAt
  split
  · exact .inr rfl
  · rw [if_pos rfl]; exact .inl rfl
theorem kind_fin {l : List Part} : kindAt l l.length = 1 ↔ (l.getD (l.length - 1) dPart).fin = true := by
  unfold kindAt
  constructor
  · intro h
    split at h
    · assumption
    · rw [if_pos rfl] at h; cases h
  · intro h; rw [if_pos h]
section
variable {l : List Part} {width : Int}
def Later (l : List Part) (width : Int) (k : Nat) : Prop := ∀ j, k < j → j ≤ (plcs l (l.length + 1)).length →
  ((tabOf l width).getD j zB).bad = ((rtab l width).getD (posn (plcs l (l.length + 1)) j) zR).bad ∧ ((tabOf l width).getD j zB).places = ((rtab l width).getD (posn (plcs l (l.length + 1)) j) zR).count
theorem loop_eq (hS : Small l) (hw1 : 2 ≤ width) {k : Nat} (hL : Later l width k) : ∀ (d n : Nat) (acc acc' : Bst), (plcs l (l.length + 1)).length = n + d → k ≤ n → posn (plcs l (l.length + 1)) n < l.length → EqA (plcs l (l.length + 1)) acc acc' →
    EqA (plcs l (l.length + 1)) (inner l (plcs l (l.length + 1)) width (tabOf l width) k n acc) (rinner l width (rtab l width) (posn (plcs l (l.length + 1)) k) (posn (plcs l (l.length + 1)) n + 1) acc')
  | 0, n, acc, acc', hd, hk, hc, ha => by
    have hn : n = (plcs l (l.length + 1)).length := by omega
    have hmono := posn_mono (l := l) hk (by omega)
    have hk0 : kindAt l l.length = 0 := gap (k := n) (by omega) hc (fun h => by omega) (Nat.le_refl _)
    have hnf : (l.getD (l.length - 1) dPart).fin = false := by
      cases hf : (l.getD (l.length - 1) dPart).fin with
      | false => rfl
      | true => rw [kind_fin.2 hf] at hk0; cases hk0
    rw [inner_end (by omega), rinner_skip hS (Nat.le_refl _) (l.length - (posn (plcs l (l.length + 1)) n + 1)) _ _ (by omega) fun i hi hj => ⟨by omega, gap (k := n) (by omega) (by omega) (fun h => by omega) (by omega)⟩]
    have hl : lastB l (posn (plcs l (l.length + 1)) k) l.length = true := by
      unfold lastB; rw [hnf]; simp
    by_cases hw : fullTo l (plcs l (l.length + 1)) k l.length ≤ width
    · have hw' : wAt l (posn (plcs l (l.length + 1)) k) l.length ≤ width := hw
      rw [endly_yes hw, rinner_on (Nat.le_refl _) hw' (by omega), rinner_end (by omega)]
      unfold racc2
      rw [if_pos hl, racc1_no (by omega)]
      refine EqA.better ⟨rfl, rfl, rfl, fun _ => .inl ⟨rfl, rfl⟩⟩ ha
    · have hw' : ¬ wAt l (posn (plcs l (l.length + 1)) k) l.length ≤ width := hw
      rw [endly_no hw, rinner_full (Nat.le_refl _) hw']
      exact ha
  | d + 1, n, acc, acc', hd, hk, hc, ha => by
    have hn : n < (plcs l (l.length + 1)).length := by omega
    have hmono := posn_mono (l := l) hk (by omega)
    have hlt := posn_lt hn
    obtain ⟨p1, p2, p3⟩ := plcs_le hn
    have hsucc := posn_succ (plcs l (l.length + 1)) n
    rw [rinner_skip hS (e := (plcs l (l.length + 1)).getD n 0) (by omega) ((plcs l (l.length + 1)).getD n 0 - (posn (plcs l (l.length + 1)) n + 1)) _ _ (by omega) fun i hi hj => ⟨by omega, gap (k := n) (by omega) (by omega) (fun h => hj) (by omega)⟩]
    obtain ⟨hb, hp⟩ := hL (n + 1) (by omega) (by omega)
    rw [hsucc] at hb hp
    have hok := tabOf_ok (l := l) (width := width) hS hw1 (j := n + 1) (by omega)
    generalize hE : (plcs l (l.length + 1)).getD n 0 = e at *
    have hkc := kindAt_cases l e
    have hlast : lastB l (posn (plcs l (l.length + 1)) k) e = false := by
      unfold lastB
      by_cases h : e = l.length
      · subst h
        have h1 := (kind_len l).resolve_left p3
        have hne : ¬ l.length = posn (plcs l (l.length + 1)) k := by omega
        rw [kind_fin.1 h1, decide_eq_false hne]
        simp
      · rw [decide_eq_false h]; rfl
    by_cases hw : fullTo l (plcs l (l.length + 1)) k e ≤ width
    · have hw' : wAt l (posn (plcs l (l.length + 1)) k) e ≤ width := hw
      have hcand : EqA (plcs l (l.length + 1)) (cand l (plcs l (l.length + 1)) width (tabOf l width) k n) (rcand l width (rtab l width) (posn (plcs l (l.length + 1)) k) e) := by
        refine ⟨?_, ?_, rfl, fun _ => .inr ⟨n, rfl, hn, by rw [hE]; rfl⟩⟩
        · simp only [cand, rcand, hE, hb]; rfl
        · simp only [cand, rcand, hp]; omega
      have hacc := EqA.better hcand ha
      have hr2 : racc2 l width (rtab l width) (posn (plcs l (l.length + 1)) k) e acc' = better (rcand l width (rtab l width) (posn (plcs l (l.length + 1)) k) e) acc' := by
        rw [racc2_no hlast]
        unfold racc1
        rw [if_pos ⟨by omega, by omega⟩]
      by_cases h1 : kindAt l e = 1
      · rw [inner_hard hn (by rw [hE]; exact hw) hok (by rw [hE]; exact h1), rinner_stop (by omega) hw' ⟨by omega, h1⟩, hr2]
        exact hacc
      · rw [inner_on hn (by rw [hE]; exact hw) hok (by rw [hE]; exact h1), rinner_on (by omega) hw' (fun h => h1 h.2), hr2]
        have hne : e ≠ l.length := fun h => by
          subst h; rcases kind_len l with h2 | h2 <;> contradiction
        have := loop_eq hS hw1 hL d (n + 1) _ _ (by omega) (by omega) (by rw [hsucc]; omega) hacc
        rw [hsucc] at this
        exact this
    · have hw' : ¬ wAt l (posn (plcs l (l.length + 1)) k) e ≤ width := hw
      rw [inner_full hn (by rw [hE]; exact hw), rinner_full (by omega) hw']
      exact ha
theorem entry_eq (hS : Small l) (hw1 : 2 ≤ width) {k : Nat} (hk : k ≤ (plcs l (l.length + 1)).length) (hL : Later l width k) :
    EqA (plcs l (l.length + 1)) ((tabOf l width).getD k zB) (rinner l width (rtab l width) (posn (plcs l (l.length + 1)) k) (posn (plcs l (l.length + 1)) k) zB) := by
  rw [tab_entry hk]
  have hle := posn_le hk
  have hw0 : wAt l (posn (plcs l (l.length + 1)) k) (posn (plcs l (l.length + 1)) k) = 0 := by unfold wAt; rw [Nat.sub_self]; rfl
  rw [rinner_on hle (by rw [hw0]; omega) (by omega)]
  have hr1 : racc1 l width (rtab l width) (posn (plcs l (l.length + 1)) k) (posn (plcs l (l.length + 1)) k) zB = zB := racc1_no (by omega)
  by_cases h : posn (plcs l (l.length + 1)) k = l.length
  · have hN : ¬ k < (plcs l (l.length + 1)).length := fun hlt => by
      have := posn_lt hlt
      have := (plcs_le hlt).1
      omega
    have hl : lastB l (posn (plcs l (l.length + 1)) k) (posn (plcs l (l.length + 1)) k) = true := by
      unfold lastB; rw [decide_eq_true h, decide_eq_true h.symm]; rfl
    have hf : fullTo l (plcs l (l.length + 1)) k l.length = 0 := by unfold fullTo; rw [h, Nat.sub_self]; rfl
    rw [inner_end hN, rinner_end (by omega), endly_yes (by rw [hf]; omega)]
    unfold racc2
    rw [if_pos hl, hr1]
    refine EqA.better ⟨?_, rfl, rfl, fun _ => .inl ⟨rfl, rfl⟩⟩ ⟨rfl, rfl, rfl, fun h => by cases h⟩
    simp only [rend, hf, hw0]
  · have hl : lastB l (posn (plcs l (l.length + 1)) k) (posn (plcs l (l.length + 1)) k) = false := by
      unfold lastB; rw [decide_eq_false h]; rfl
    rw [racc2_no hl, hr1]
    exact loop_eq hS hw1 hL ((plcs l (l.length + 1)).length - k) k zB zB (by omega) (Nat.le_refl _) (by omega) ⟨rfl, rfl, rfl, fun h => by cases h⟩
theorem later (hS : Small l) (hw1 : 2 ≤ width) : ∀ (d k : Nat), k + d = (plcs l (l.length + 1)).length → Later l width k
  | 0, k, h => fun j h1 h2 => by omega
  | d + 1, k, h => fun j h1 h2 => by
    have ih := later hS hw1 d (k + 1) (by omega)
    by_cases hj : j = k + 1
    · subst hj
      have he := entry_eq hS hw1 (k := k + 1) (by omega) ih
      rw [rt_entry (posn_le (by omega))]
      exact ⟨he.bad, he.places⟩
    · exact ih j (by omega) h2
theorem both_eq (hS : Small l) (hw1 : 2 ≤ width) {k : Nat} (hk : k ≤ (plcs l (l.length + 1)).length) :
    ((tabOf l width).getD k zB).bad = ((rtab l width).getD (posn (plcs l (l.length + 1)) k) zR).bad ∧ ((tabOf l width).getD k zB).places = ((rtab l width).getD (posn (plcs l (l.length + 1)) k) zR).count ∧ NxA (plcs l (l.length + 1)) ((tabOf l width).getD k zB).next ((rtab l width).getD (posn (plcs l (l.length + 1)) k) zR).next := by
  have he := entry_eq hS hw1 hk (later hS hw1 ((plcs l (l.length + 1)).length - k) k (by omega))
  rw [rt_entry (posn_le hk)]
  exact ⟨he.bad, he.places, he.next (tabOf_ok hS hw1 hk)⟩
end
end Go.SX.Plain
/- The program's way and the document's are the same; the places. No program here. -/
namespace Go.SX.Plain
def rwGo (ct : List Rb) : Nat → Int → List Int
  | 0, _ => []
  | k + 1, x => if 0 < x then x :: rwGo ct k (ct.getD x.toNat zR).next else []
def rfar (n : Nat) (x : Int) : Nat := if 0 < x then n + 1 - x.toNat else 0
def rway (n : Nat) (ct : List Rb) (x : Int) : List Int := rwGo ct (rfar n x) x
structure RNx (n : Nat) (x : Int) : Prop where
  out : x = 0 ∨ ∃ m : Nat, x = m ∧ 0 < m ∧ m ≤ n
theorem RNx.next {n : Nat} {ct : List Rb} {m : Nat} (hg : ∀ j, GdR n j (ct.getD j zR)) (h0 : 0 < m) (hm : m ≤ n) : RNx n (ct.getD m zR).next ∧ rfar n (ct.getD m zR).next < rfar n (m : Int) := by
  have hx := (hg m).n0
  have e1 : rfar n (m : Int) = n + 1 - m := by unfold rfar; rw [if_pos (by omega)]; omega
  rw [e1]
  rcases hx with hx | ⟨q, h1, h2, h3⟩
  · rw [hx]; exact ⟨⟨.inl rfl⟩, by unfold rfar; simp; omega⟩
  · rw [h1]; exact ⟨⟨.inr ⟨q, rfl, by omega, h3⟩⟩, by unfold rfar; rw [if_pos (by omega)]; omega⟩
theorem rwGo_fuel {n : Nat} {ct : List Rb} (hg : ∀ j, GdR n j (ct.getD j zR)) : ∀ (k k' : Nat) (x : Int), RNx n x → rfar n x ≤ k → rfar n x ≤ k' → rwGo ct k x = rwGo ct k' x
  | 0, 0, _, _, _, _ => rfl
  | 0, k' + 1, x, hx, h, _ => by
    simp only [rwGo]
    rcases hx.out with rfl | ⟨m, rfl, h1, h2⟩
    · simp
    · unfold rfar at h; rw [if_pos (by omega)] at h; omega
  | k + 1, 0, x, hx, _, h => by
    simp only [rwGo]
    rcases hx.out with rfl | ⟨m, rfl, h1, h2⟩
    · simp
    · unfold rfar at h; rw [if_pos (by omega)] at h; omega
  | k + 1, k' + 1, x, hx, h, h' => by
    simp only [rwGo]
    split
    · rcases hx.out with rfl | ⟨m, rfl, h1, h2⟩
      · omega
      · rw [Int.toNat_natCast]
        obtain ⟨q1, q2⟩ := RNx.next hg h1 h2
        rw [rwGo_fuel hg k k' _ q1 (by omega) (by omega)]
    · rfl
theorem rway_step {n : Nat} {ct : List Rb} {m : Nat} (hg : ∀ j, GdR n j (ct.getD j zR)) (h0 : 0 < m) (hm : m ≤ n) : rway n ct (m : Int) = (m : Int) :: rway n ct (ct.getD m zR).next := by
  obtain ⟨q1, q2⟩ := RNx.next hg h0 hm
  unfold rway
  obtain ⟨k, hk⟩ : ∃ k, rfar n (m : Int) = k + 1 := ⟨rfar n (m : Int) - 1, by omega⟩
  rw [hk]
  simp only [rwGo, Int.toNat_natCast]
  rw [if_pos (by omega), rwGo_fuel hg k _ _ q1 (by omega) (Nat.le_refl _)]
theorem rway_end (n : Nat) (ct : List Rb) {x : Int} (h : ¬ 0 < x) : rway n ct x = [] := by
  unfold rway rfar; rw [if_neg h]; rfl
theorem rwGo_len (ct : List Rb) : ∀ (k : Nat) (x : Int), (rwGo ct k x).length ≤ k
  | 0, _ => by simp [rwGo]
  | k + 1, x => by
    simp only [rwGo]
    split
    · have := rwGo_len ct k (ct.getD x.toNat zR).next
      simp only [List.length_cons]; omega
    · simp
def rwayL (l : List Part) (width : Int) : List Int := rway l.length (rtab l width) ((rtab l width).getD 0 zR).next
theorem rtab_gd {l : List Part} {width : Int} (hs : Small l) (hw : width ≤ 200) (j : Nat) : GdR l.length j ((rtab l width).getD j zR) := rt_gd hs hw _ j (Nat.le_refl _) (by omega)
theorem rnx0 {l : List Part} {width : Int} (hs : Small l) (hw : width ≤ 200) : RNx l.length ((rtab l width).getD 0 zR).next :=
  ⟨(rtab_gd hs hw 0).n0.imp (fun h => h) fun ⟨m, h1, h2, h3⟩ => ⟨m, h1, h2, h3⟩⟩
theorem rwayL_len (l : List Part) (width : Int) : (rwayL l width).length ≤ l.length + 1 := by
  unfold rwayL rway
  refine Nat.le_trans (rwGo_len _ _ _) ?_
  unfold rfar; split <;> omega
def rwrapOut (l : List Part) (width : Int) : List (Int × Int) := (rwayL l width).map fun x => (placeP (l.map pcOf) x.toNat, (kindsP (l.map pcOf)).getD x.toNat 0)
def rwrapL (s : ByteArray) (width : Int) : List (Int × Int) := if checkN s.size width = 0 then rwrapOut (parts s) width else []
def rwrapB (s : ByteArray) (width : Int) : Int := if checkN s.size width = 0 then ((rtab (parts s) width).getD 0 zR).bad else 0
def routTo (l : List Pc) (i : Nat) : List (Int × Int) := ((List.range i).filter fun i => decide (0 < i) && decide (0 < (kindsP l).getD i 0)).map fun i => (placeP l i, (kindsP l).getD i 0)
section
variable {l : List Part} {width : Int}
theorem way_eq (hS : Small l) (hw1 : 2 ≤ width) (hw2 : width ≤ 200) : ∀ (d : Nat) (x y : Int), far (plcs l (l.length + 1)).length x ≤ d → NxA (plcs l (l.length + 1)) x y → Nx (plcs l (l.length + 1)).length (tabOf l width) x →
    rway l.length (rtab l width) y = (wayOf (plcs l (l.length + 1)).length (tabOf l width) x).map fun m => (((plcs l (l.length + 1)).getD m 0 : Nat) : Int)
  | d, x, y, hd, hxy, hx => by
    rcases hxy with ⟨rfl, rfl⟩ | ⟨m, rfl, hm, rfl⟩
    · rw [wayOf_end _ _ (by omega), rway_end _ _ (by omega)]; rfl
    · obtain ⟨d', rfl⟩ : ∃ d', d = d' + 1 := by
        refine ⟨d - 1, ?_⟩
        unfold far at hd
        rw [if_pos (by omega)] at hd
        omega
      have hg := fun j => tabOf_gd (l := l) (width := width) hS hw2 j
      have hrg := fun j => rtab_gd (l := l) (width := width) hS hw2 j
      have hok := tabOf_ok (l := l) (width := width) hS hw1 (j := m + 1) (by omega)
      obtain ⟨h1, h2⟩ := Nx.next hg hok hm
      obtain ⟨p1, p2, p3⟩ := plcs_le hm
      have hb := (both_eq (width := width) hS hw1 (k := m + 1) (by omega)).2.2
      rw [posn_succ] at hb
      rw [wayOf_step hg hok hm, rway_step hrg p2 (by omega), List.map_cons, way_eq hS hw1 hw2 d' _ _ (by omega) hb h1]
theorem rwayL_eq (hS : Small l) (hw1 : 2 ≤ width) (hw2 : width ≤ 200) : rwayL l width = (wayL l width).map fun m => (((plcs l (l.length + 1)).getD m 0 : Nat) : Int) := by
  have hok := tabOf_ok (l := l) (width := width) hS hw1 (j := 0) (Nat.zero_le _)
  have hb := (both_eq (width := width) hS hw1 (k := 0) (Nat.zero_le _)).2.2
  have h0 : posn (plcs l (l.length + 1)) 0 = 0 := rfl
  rw [h0] at hb
  exact way_eq hS hw1 hw2 _ _ _ (Nat.le_refl _) hb ⟨((tabOf_gd hS hw2 0).nx hok).imp (fun h => h) fun ⟨n, h1, _, h3, h4⟩ => ⟨n, h1, h3, h4⟩⟩
end
inductive Chn : Int → List Clu → Prop
  | nil {x : Int} : Chn x []
  | cons {x : Int} {c : Clu} {l : List Clu} (hx : c.frm = x) (h : Chn c.to l) : Chn x (c :: l)
theorem remGo_chn (l a : List Int) : ∀ (k f t : Nat), Chn (f : Int) (remGo l a k f t)
  | 0, f, t => Chn.cons (c := (gAt l a f t).c) rfl .nil
  | k + 1, f, t => by
    simp only [remGo]
    split
    · split
      · exact remGo_chn l a k f (t + 1)
      · exact Chn.cons (c := (gAt l a f t).c) rfl (remGo_chn l a k t (t + 1))
    · exact Chn.cons (c := (gAt l a f t).c) rfl .nil
theorem Chn.at {x : Int} {l : List Clu} (h : Chn x l) (d : Clu) : ∀ i, i + 1 < l.length → (l.getD (i + 1) d).frm = (l.getD i d).to := by
  induction h with
  | nil => intro i hi; simp at hi
  | @cons x c l hx h ih =>
    intro i hi
    cases i with
    | zero =>
      cases h with
      | nil => simp at hi
      | cons hx2 _ => exact hx2
    | succ i => exact ih i (by simpa using hi)
theorem clusters_chn (s : ByteArray) : Chn 0 (clusters s) := by
  rw [clusters_rem]
  split
  · exact remGo_chn _ _ _ 0 1
  · exact .nil
theorem parts_chn (s : ByteArray) {i : Nat} (h0 : 0 < i) (hi : i < (parts s).length) : ((parts s).getD i dPart).c.frm = ((parts s).getD (i - 1) dPart).c.to := by
  have hlen : (parts s).length = (clusters s).length := by simp [parts]
  have e : ∀ j, j < (clusters s).length → ((parts s).getD j dPart).c = (clusters s).getD j ⟨0, 0, 0, 0, 0⟩ := fun j hj => by
    simp [parts, List.getD_eq_getElem?_getD, hj]; rfl
  rw [e i (by omega), e (i - 1) (by omega)]
  have := (clusters_chn s).at ⟨0, 0, 0, 0, 0⟩ (i - 1) (by omega)
  rwa [show i - 1 + 1 = i by omega] at this
theorem place_eq (s : ByteArray) {i : Nat} (h0 : 0 < i) (hi : i ≤ (parts s).length) : placeP ((parts s).map pcOf) i = ((parts s).getD (i - 1) dPart).c.to := by
  unfold placeP
  rw [List.length_map]
  by_cases h : i = (parts s).length
  · rw [if_pos h, pc_at]; rfl
  · rw [if_neg h, pc_at]
    exact parts_chn s h0 (by omega)
theorem kinds_eq {l : List Part} (hT : ∀ p ∈ l, Told p) {i : Nat} (h0 : 0 < i) (hi : i ≤ l.length) : (kindsP (l.map pcOf)).getD i 0 = kindAt l i := by
  rw [kindsP_get h0 (by simpa using hi)]
  exact kindP_eq hT h0 hi
end Go.SX.Plain
/- The badness of a way, told plainly. No program here. -/
namespace Go.SX.Plain
theorem getD_memL {α : Type} {l : List α} {k : Nat} (d : α) (h : k < l.length) : l.getD k d ∈ l := by
  simp [List.getD_eq_getElem?_getD, h]
def sqS (L : List (List Part)) (width : Int) (k : Nat) : Int := ((L.take k).map fun x => (width - cellsL x) * (width - cellsL x)).sum
def cutS (way : List (Int × Int)) (k : Nat) : Int := ((way.take k).map fun b => if b.2 = 3 then 1048576 else 0).sum
def fitAll (L : List (List Part)) (width : Int) : Bool := L.all fun x => decide (cellsL x ≤ width)
def badE (s : ByteArray) (width : Int) (way : List (Int × Int)) : Int := if checkN s.size width ≠ 0 then checkN s.size width else if linesB s way = false then 1 else if fitAll (linesL s way) width = true then 0 else 35
def badN (s : ByteArray) (width : Int) (way : List (Int × Int)) : Int := if badE s width way = 0 then sqS (linesL s way) width (linesL s way).length + cutS way way.length else 0
end Go.SX.Plain
/- The document's reading of a way, and the lines that it makes. No program here. -/
namespace Go.SX.Plain
def rdL (l : List Part) : List Nat → List (Int × Int) → Option (List Nat × Bool)
  | [], way => some ([], way.isEmpty)
  | p :: P, way =>
    if kindAt l p ≠ 0 ∧ way.head? = some (brkAt l p) then (rdL l P way.tail).map fun x => (p :: x.1, x.2)
    else if kindAt l p = 1 then none else rdL l P way
def segs (l : List Part) : List Nat → Nat → List (List Part)
  | [], frm => [l.drop frm]
  | p :: P, frm => (l.drop frm).take (p - frm) :: segs l P p
def upTo (l : List Part) : List Nat := (List.range (l.length + 1)).filter fun i => decide (0 < i)
def rdW (l : List Part) (way : List (Int × Int)) : Option (List Nat × Bool) := rdL l (upTo l) way
section
variable {l : List Part} {i k n : Nat} {way : List (Int × Int)}
end
end Go.SX.Plain
/- A line out of a text's parts. No program here. -/
namespace Go.SX.Plain
def segOf (l : List Part) (frm to : Nat) : List Part := (l.drop frm).take (to - frm)
theorem segOf_len {l : List Part} {frm to : Nat} (h : to ≤ l.length) : (segOf l frm to).length = to - frm := by
  unfold segOf
  simp only [List.length_take, List.length_drop]
  omega
theorem segOf_get {l : List Part} {frm to j : Nat} (h : j < to - frm) : (segOf l frm to).getD j dPart = l.getD (frm + j) dPart := by
  unfold segOf
  simp only [List.getD_eq_getElem?_getD, List.getElem?_take, List.getElem?_drop, if_pos h]
theorem trim_start {l : List Part} {frm to : Nat} (hft : frm ≤ to) (hto : to ≤ l.length) : trimN (segOf l frm to) = trimGo (segOf l frm to) (if frm < to ∧ (l.getD (to - 1) dPart).fin = true then to - 1 - frm else to - frm) := by
  unfold trimN
  rw [segOf_len hto]
  by_cases h : frm < to
  · rw [segOf_get (by omega), show frm + (to - frm - 1) = to - 1 by omega]
    by_cases hf : (l.getD (to - 1) dPart).fin = true
    · rw [if_pos ⟨by omega, hf⟩, if_pos ⟨h, hf⟩, show to - frm - 1 = to - 1 - frm by omega]
    · rw [if_neg (fun hc => hf hc.2), if_neg (fun hc => hf hc.2)]
  · rw [if_neg (fun hc => h (by omega)), if_neg (fun hc => h hc.1)]
theorem trim_step {l : List Part} {frm to t : Nat} (h : frm < t) (ht : t ≤ to) : trimGo (segOf l frm to) (t - frm) = if (l.getD (t - 1) dPart).blank = true then trimGo (segOf l frm to) (t - 1 - frm) else t - frm := by
  obtain ⟨m, hm⟩ : ∃ m, t - frm = m + 1 := ⟨t - frm - 1, by omega⟩
  rw [hm, trimGo, segOf_get (by omega), show frm + m = t - 1 by omega, show t - 1 - frm = m by omega]
end Go.SX.Plain
/- No way that fits is better than what the table tells. No program here. -/
namespace Go.SX.Plain
section
variable (l : List Part) (width : Int)
def wBad : Nat → List Nat → Int
  | k, [] => (width - fullTo l (plcs l (l.length + 1)) k l.length) * (width - fullTo l (plcs l (l.length + 1)) k l.length)
  | k, n :: Q => (width - fullTo l (plcs l (l.length + 1)) k ((plcs l (l.length + 1)).getD n 0)) * (width - fullTo l (plcs l (l.length + 1)) k ((plcs l (l.length + 1)).getD n 0)) + wBad (n + 1) Q + (if kindAt l ((plcs l (l.length + 1)).getD n 0) = 3 then 1048576 else 0)
def wFit : Nat → List Nat → Prop
  | k, [] => fullTo l (plcs l (l.length + 1)) k l.length ≤ width
  | k, n :: Q => fullTo l (plcs l (l.length + 1)) k ((plcs l (l.length + 1)).getD n 0) ≤ width ∧ wFit (n + 1) Q
def noHard (k n : Nat) : Prop := ∀ j, k ≤ j → j < n → kindAt l ((plcs l (l.length + 1)).getD j 0) ≠ 1
def wOk : Nat → List Nat → Prop
  | k, [] => k ≤ (plcs l (l.length + 1)).length ∧ noHard l k (plcs l (l.length + 1)).length
  | k, n :: Q => k ≤ n ∧ n < (plcs l (l.length + 1)).length ∧ noHard l k n ∧ wOk (n + 1) Q
end
def nxN (N : Nat) (b : Bst) : Int := if b.next = -1 then N else b.next
structure Le3 (N : Nat) (a b : Bst) : Prop where
  out : a.bad < b.bad ∨ (a.bad = b.bad ∧ (a.places < b.places ∨ (a.places = b.places ∧ nxN N a ≤ nxN N b)))
theorem Le3.refl (N : Nat) (a : Bst) : Le3 N a a := ⟨.inr ⟨rfl, .inr ⟨rfl, Int.le_refl _⟩⟩⟩
theorem Le3.trans {N : Nat} {a b c : Bst} (h : Le3 N a b) (h' : Le3 N b c) : Le3 N a c := by
  obtain ⟨h⟩ := h
  obtain ⟨h'⟩ := h'
  exact ⟨by omega⟩
theorem better_le {N : Nat} {w acc : Bst} (h : acc.ok = true → nxN N acc < nxN N w) : Le3 N (better w acc) w ∧ (acc.ok = true → Le3 N (better w acc) acc) ∧ (acc.ok = true ∨ better w acc = w) ∧ nxN N (better w acc) ≤ nxN N w := by
  unfold better
  by_cases hb : before w acc = true
  · rw [if_pos hb]
    refine ⟨Le3.refl _ _, fun ho => ?_, .inr rfl, Int.le_refl _⟩
    unfold before at hb
    rw [if_neg (by rw [ho]; decide)] at hb
    have := h ho
    split at hb
    · simp only [decide_eq_true_eq] at hb
      exact ⟨.inl hb⟩
    · simp only [decide_eq_true_eq] at hb
      exact ⟨.inr ⟨by omega, .inl hb⟩⟩
  · rw [if_neg hb]
    have ho : acc.ok = true := by
      unfold before at hb
      split at hb
      · exact absurd rfl hb
      · rename_i h2
        simpa using h2
    have h2 := h ho
    refine ⟨?_, fun _ => Le3.refl _ _, .inl ho, by omega⟩
    unfold before at hb
    rw [if_neg (by rw [ho]; decide)] at hb
    split at hb
    · simp only [decide_eq_true_eq] at hb
      exact ⟨.inl (by omega)⟩
    · simp only [decide_eq_true_eq] at hb
      exact ⟨.inr ⟨by omega, by omega⟩⟩
section
variable {l : List Part} {width : Int} {ws : List Bst}
abbrev endc (l : List Part) (width : Int) (k : Nat) : Bst := ⟨(width - fullTo l (plcs l (l.length + 1)) k l.length) * (width - fullTo l (plcs l (l.length + 1)) k l.length), 0, -1, true⟩
theorem fullTo_mono (hS : Small l) {k t e : Nat} (h : t ≤ e) : fullTo l (plcs l (l.length + 1)) k t ≤ fullTo l (plcs l (l.length + 1)) k e := wAt_mono (f := posn (plcs l (l.length + 1)) k) hS h
theorem nx_cand {k n : Nat} : nxN (plcs l (l.length + 1)).length (cand l (plcs l (l.length + 1)) width ws k n) = n := by
  unfold nxN cand
  rw [if_neg (by simp only; omega)]
theorem nx_endc {k : Nat} : nxN (plcs l (l.length + 1)).length (endc l width k) = (plcs l (l.length + 1)).length := by
  unfold nxN
  rw [if_pos rfl]
theorem inn_min (hS : Small l) {k : Nat} (hok : ∀ j, k < j → j ≤ (plcs l (l.length + 1)).length → (ws.getD j zB).ok = true) : ∀ (d n : Nat) (acc : Bst), n + d = (plcs l (l.length + 1)).length → k ≤ n → (acc.ok = true → nxN (plcs l (l.length + 1)).length acc < n) →
    (acc.ok = true → Le3 (plcs l (l.length + 1)).length (inner l (plcs l (l.length + 1)) width ws k n acc) acc) ∧
    (∀ m, n ≤ m → m < (plcs l (l.length + 1)).length → noHard l n m → fullTo l (plcs l (l.length + 1)) k ((plcs l (l.length + 1)).getD m 0) ≤ width → Le3 (plcs l (l.length + 1)).length (inner l (plcs l (l.length + 1)) width ws k n acc) (cand l (plcs l (l.length + 1)) width ws k m)) ∧
    (noHard l n (plcs l (l.length + 1)).length → fullTo l (plcs l (l.length + 1)) k l.length ≤ width → Le3 (plcs l (l.length + 1)).length (inner l (plcs l (l.length + 1)) width ws k n acc) (endc l width k))
  | 0, n, acc, hd, hk, hacc => by
    have hn : n = (plcs l (l.length + 1)).length := by omega
    rw [inner_end (by omega)]
    by_cases hf : fullTo l (plcs l (l.length + 1)) k l.length ≤ width
    · rw [endly_yes hf]
      have hb := better_le (N := (plcs l (l.length + 1)).length) (w := endc l width k) (acc := acc) fun h => by rw [nx_endc]; have := hacc h; omega
      exact ⟨hb.2.1, fun m h1 h2 => by omega, fun _ _ => hb.1⟩
    · rw [endly_no hf]
      exact ⟨fun _ => Le3.refl _ _, fun m h1 h2 => by omega, fun _ h => absurd h hf⟩
  | d + 1, n, acc, hd, hk, hacc => by
    have hn : n < (plcs l (l.length + 1)).length := by omega
    have hple : (plcs l (l.length + 1)).getD n 0 ≤ l.length := Nat.le_of_lt_succ (plcs_le hn).1
    have hpm : ∀ m, n ≤ m → m < (plcs l (l.length + 1)).length → (plcs l (l.length + 1)).getD n 0 ≤ (plcs l (l.length + 1)).getD m 0 := fun m h1 h2 => by
      by_cases he : n = m
      · rw [he]; exact Nat.le_refl _
      · exact Nat.le_of_lt (sorted_lt (plcs_sorted _ _) (by omega) h2)
    by_cases hf : fullTo l (plcs l (l.length + 1)) k ((plcs l (l.length + 1)).getD n 0) ≤ width
    · have ho := hok (n + 1) (by omega) (by omega)
      have hb := better_le (N := (plcs l (l.length + 1)).length) (w := cand l (plcs l (l.length + 1)) width ws k n) (acc := acc) fun h => by rw [nx_cand]; exact hacc h
      by_cases hk1 : kindAt l ((plcs l (l.length + 1)).getD n 0) = 1
      · rw [inner_hard hn hf ho hk1]
        refine ⟨hb.2.1, fun m h1 h2 h3 h4 => ?_, fun h3 _ => absurd hk1 (h3 n (Nat.le_refl _) hn)⟩
        by_cases he : n = m
        · subst he; exact hb.1
        · exact absurd hk1 (h3 n (Nat.le_refl _) (by omega))
      · rw [inner_on hn hf ho hk1]
        obtain ⟨i1, i2, i3⟩ := inn_min hS hok d (n + 1) (better (cand l (plcs l (l.length + 1)) width ws k n) acc) (by omega) (by omega) fun _ => by have := hb.2.2.2; rw [nx_cand] at this; omega
        have hbo := better_ok (w := cand l (plcs l (l.length + 1)) width ws k n) (acc := acc) rfl
        refine ⟨fun h => (i1 hbo).trans (hb.2.1 h), fun m h1 h2 h3 h4 => ?_, fun h3 h4 => i3 (fun j h5 h6 => h3 j (by omega) h6) h4⟩
        by_cases he : n = m
        · subst he; exact (i1 hbo).trans hb.1
        · exact i2 m (by omega) h2 (fun j h5 h6 => h3 j (by omega) h6) h4
    · rw [inner_full hn hf]
      exact ⟨fun _ => Le3.refl _ _, fun m h1 h2 h3 h4 => absurd (Int.le_trans (fullTo_mono hS (hpm m h1 h2)) h4) hf, fun _ h4 => absurd (Int.le_trans (fullTo_mono hS hple) h4) hf⟩
structure Att (l : List Part) (width : Int) (ws : List Bst) (k : Nat) (b : Bst) : Prop where
  out : (b = endc l width k ∧ noHard l k (plcs l (l.length + 1)).length ∧ fullTo l (plcs l (l.length + 1)) k l.length ≤ width) ∨
    ∃ m, b = cand l (plcs l (l.length + 1)) width ws k m ∧ k ≤ m ∧ m < (plcs l (l.length + 1)).length ∧ noHard l k m ∧ fullTo l (plcs l (l.length + 1)) k ((plcs l (l.length + 1)).getD m 0) ≤ width
theorem better_or (w acc : Bst) : better w acc = w ∨ better w acc = acc := by
  unfold better
  split
  · exact .inl rfl
  · exact .inr rfl
theorem inn_att {k : Nat} (hok : ∀ j, k < j → j ≤ (plcs l (l.length + 1)).length → (ws.getD j zB).ok = true) : ∀ (d n : Nat) (acc : Bst), n + d = (plcs l (l.length + 1)).length → k ≤ n → noHard l k n → (acc.ok = true → Att l width ws k acc) →
    ((inner l (plcs l (l.length + 1)) width ws k n acc).ok = true → Att l width ws k (inner l (plcs l (l.length + 1)) width ws k n acc))
  | 0, n, acc, hd, hk, hh, hacc => by
    rw [inner_end (by omega)]
    by_cases hf : fullTo l (plcs l (l.length + 1)) k l.length ≤ width
    · rw [endly_yes hf]
      intro ho
      rcases better_or (endc l width k) acc with h | h
      · have hh2 : noHard l k (plcs l (l.length + 1)).length := by rw [show (plcs l (l.length + 1)).length = n by omega]; exact hh
        exact ⟨.inl ⟨h, hh2, hf⟩⟩
      · rw [show better ⟨(width - fullTo l (plcs l (l.length + 1)) k l.length) * (width - fullTo l (plcs l (l.length + 1)) k l.length), 0, -1, true⟩ acc = acc from h] at ho ⊢
        exact hacc ho
    · rw [endly_no hf]
      exact hacc
  | d + 1, n, acc, hd, hk, hh, hacc => by
    have hn : n < (plcs l (l.length + 1)).length := by omega
    by_cases hf : fullTo l (plcs l (l.length + 1)) k ((plcs l (l.length + 1)).getD n 0) ≤ width
    · have ho := hok (n + 1) (by omega) (by omega)
      have hb : (better (cand l (plcs l (l.length + 1)) width ws k n) acc).ok = true → Att l width ws k (better (cand l (plcs l (l.length + 1)) width ws k n) acc) := fun ho2 => by
        rcases better_or (cand l (plcs l (l.length + 1)) width ws k n) acc with h | h
        · rw [h]
          exact ⟨.inr ⟨n, rfl, hk, hn, hh, hf⟩⟩
        · rw [h] at ho2 ⊢
          exact hacc ho2
      by_cases hk1 : kindAt l ((plcs l (l.length + 1)).getD n 0) = 1
      · rw [inner_hard hn hf ho hk1]
        exact hb
      · rw [inner_on hn hf ho hk1]
        refine inn_att hok d (n + 1) _ (by omega) (by omega) (fun j h1 h2 => ?_) hb
        by_cases he : j = n
        · subst he; exact hk1
        · exact hh j h1 (by omega)
    · rw [inner_full hn hf]
      exact hacc
end
section
variable {l : List Part} {width : Int}
abbrev En (l : List Part) (width : Int) (k : Nat) : Bst := (tabOf l width).getD k zB
theorem en_ok (hS : Small l) (hw1 : 2 ≤ width) {k : Nat} (hk : k ≤ (plcs l (l.length + 1)).length) : (En l width k).ok = true := tabOf_ok hS hw1 hk
theorem en_att (hS : Small l) (hw1 : 2 ≤ width) {k : Nat} (hk : k ≤ (plcs l (l.length + 1)).length) : Att l width (tabOf l width) k (En l width k) := by
  have h := tab_entry (l := l) (width := width) hk
  have ho := en_ok hS hw1 hk
  unfold En at ho ⊢
  rw [h] at ho ⊢
  exact inn_att (fun j _ h2 => en_ok hS hw1 h2) ((plcs l (l.length + 1)).length - k) k zB (by omega) (Nat.le_refl _) (fun j h1 h2 => by omega) (fun h => by cases h) ho
theorem en_min (hS : Small l) (hw1 : 2 ≤ width) {k : Nat} (hk : k ≤ (plcs l (l.length + 1)).length) :
    (∀ m, k ≤ m → m < (plcs l (l.length + 1)).length → noHard l k m → fullTo l (plcs l (l.length + 1)) k ((plcs l (l.length + 1)).getD m 0) ≤ width → Le3 (plcs l (l.length + 1)).length (En l width k) (cand l (plcs l (l.length + 1)) width (tabOf l width) k m)) ∧
    (noHard l k (plcs l (l.length + 1)).length → fullTo l (plcs l (l.length + 1)) k l.length ≤ width → Le3 (plcs l (l.length + 1)).length (En l width k) (endc l width k)) := by
  have h := tab_entry (l := l) (width := width) hk
  unfold En
  rw [h]
  exact (inn_min hS (fun j _ h2 => en_ok hS hw1 h2) ((plcs l (l.length + 1)).length - k) k zB (by omega) (Nat.le_refl _) (fun h => by cases h)).2
def wB (l : List Part) (width : Int) (k : Nat) (Q : List Nat) : Bst := ⟨wBad l width k Q, Q.length, match Q with | [] => -1 | n :: _ => n, true⟩
theorem opt (hS : Small l) (hw1 : 2 ≤ width) : ∀ (Q : List Nat) (k : Nat), wOk l k Q → wFit l width k Q → Le3 (plcs l (l.length + 1)).length (En l width k) (wB l width k Q)
  | [], k, ho, hf => (en_min hS hw1 ho.1).2 ho.2 hf
  | n :: Q, k, ho, hf => by
    obtain ⟨h1, h2, h3, h4⟩ := ho
    have ih := (opt hS hw1 Q (n + 1) h4 hf.2).out
    refine ((en_min hS hw1 (by omega)).1 n h1 h2 h3 hf.1).trans ?_
    constructor
    unfold cand wB wBad nxN
    unfold wB En at ih
    simp only [List.length_cons, if_neg (show ¬ ((n : Int) = -1) by omega)] at ih ⊢
    omega
def wF (l : List Part) (width : Int) (k : Nat) : List Nat := wayOf (plcs l (l.length + 1)).length (tabOf l width) (En l width k).next
theorem wF_step (hS : Small l) (hw1 : 2 ≤ width) (hw2 : width ≤ 200) {k : Nat} (hk : k ≤ (plcs l (l.length + 1)).length) :
    (wF l width k = [] ∧ En l width k = endc l width k ∧ noHard l k (plcs l (l.length + 1)).length ∧ fullTo l (plcs l (l.length + 1)) k l.length ≤ width) ∨
    ∃ m, wF l width k = m :: wF l width (m + 1) ∧ En l width k = cand l (plcs l (l.length + 1)) width (tabOf l width) k m ∧ k ≤ m ∧ m < (plcs l (l.length + 1)).length ∧ noHard l k m ∧ fullTo l (plcs l (l.length + 1)) k ((plcs l (l.length + 1)).getD m 0) ≤ width := by
  rcases (en_att hS hw1 hk).out with ⟨h1, h2, h3⟩ | ⟨m, h1, h2, h3, h4, h5⟩
  · refine .inl ⟨?_, h1, h2, h3⟩
    unfold wF
    rw [h1]
    exact wayOf_end _ _ (by simp only; omega)
  · refine .inr ⟨m, ?_, h1, h2, h3, h4, h5⟩
    unfold wF
    rw [h1]
    exact wayOf_step (fun j => tabOf_gd hS hw2 j) (en_ok hS hw1 (by omega)) h3
theorem wF_ok (hS : Small l) (hw1 : 2 ≤ width) (hw2 : width ≤ 200) : ∀ (_d k : Nat), k + _d = (plcs l (l.length + 1)).length → wOk l k (wF l width k) ∧ wFit l width k (wF l width k) ∧ wBad l width k (wF l width k) = (En l width k).bad ∧ ((wF l width k).length : Int) = (En l width k).places
  | 0, k, hd => by
    rcases wF_step hS hw1 hw2 (show k ≤ (plcs l (l.length + 1)).length by omega) with ⟨h1, h2, h3, h4⟩ | ⟨m, h1, h2, h3, h4, _⟩
    · rw [h1, h2]
      exact ⟨⟨by omega, h3⟩, h4, rfl, rfl⟩
    · omega
  | d + 1, k, hd => by
    rcases wF_step hS hw1 hw2 (show k ≤ (plcs l (l.length + 1)).length by omega) with ⟨h1, h2, h3, h4⟩ | ⟨m, h1, h2, h3, h4, h5, h6⟩
    · rw [h1, h2]
      exact ⟨⟨by omega, h3⟩, h4, rfl, rfl⟩
    · obtain ⟨i1, i2, i3, i4⟩ := wF_ok hS hw1 hw2 ((plcs l (l.length + 1)).length - (m + 1)) (m + 1) (by omega)
      rw [h1, h2]
      refine ⟨⟨h3, h4, h5, i1⟩, ⟨h6, i2⟩, ?_, ?_⟩
      · unfold wBad cand
        rw [i3]
      · unfold cand
        simp only [List.length_cons]
        rw [← i4]
        omega
  termination_by d k => (plcs l (l.length + 1)).length - k
theorem first (hS : Small l) (hw1 : 2 ≤ width) (hw2 : width ≤ 200) : ∀ (Q : List Nat) (k : Nat), wOk l k Q → wFit l width k Q → wBad l width k Q = (En l width k).bad → (Q.length : Int) = (En l width k).places →
    ∀ i, i < Q.length → (∀ j, j < i → Q.getD j 0 = (wF l width k).getD j 0) → Q.getD i 0 ≠ (wF l width k).getD i 0 → (wF l width k).getD i 0 < Q.getD i 0
  | [], k, _, _, _, _, i, hi, _, _ => by simp at hi
  | n :: Q, k, ho, hf, hb, hl, i, hi, he, hne => by
    have hop := (opt hS hw1 (n :: Q) k ho hf).out
    obtain ⟨h1, h2, h3, h4⟩ := ho
    have hnx : nxN (plcs l (l.length + 1)).length (En l width k) ≤ n := by
      have : nxN (plcs l (l.length + 1)).length (wB l width k (n :: Q)) = n := by
        unfold nxN wB
        rw [if_neg (by simp only; omega)]
      rw [this] at hop
      unfold wB at hop
      simp only at hop
      omega
    rcases wF_step hS hw1 hw2 (show k ≤ (plcs l (l.length + 1)).length by omega) with ⟨q1, q2, q3, q4⟩ | ⟨m, q1, q2, q3, q4, q5, q6⟩
    · rw [q2, nx_endc] at hnx
      omega
    · rw [q2, nx_cand] at hnx
      rw [q1] at he hne ⊢
      cases i with
      | zero =>
        simp only [List.getD_cons_zero] at hne ⊢
        omega
      | succ i =>
        have hnm := he 0 (by omega)
        simp only [List.getD_cons_zero] at hnm
        subst hnm
        simp only [List.getD_cons_succ] at hne ⊢
        refine first hS hw1 hw2 Q (n + 1) h4 hf.2 ?_ ?_ i (by simpa using hi) (fun j hj => by have := he (j + 1) (by omega); simpa only [List.getD_cons_succ] using this) hne
        · rw [q2] at hb
          unfold wBad cand at hb
          simp only at hb
          show _ = ((tabOf l width).getD (n + 1) zB).bad
          omega
        · rw [q2] at hl
          unfold cand at hl
          simp only [List.length_cons] at hl
          show _ = ((tabOf l width).getD (n + 1) zB).places
          omega
end
end Go.SX.Plain
/- A way's lines, and what they cost. No program here. -/
namespace Go.SX.Plain
section
variable {l : List Part} {f e : Nat}
theorem sumC_take (l : List Part) {n : Nat} (_h : n ≤ l.length) : sumC (l.take n) (l.take n).length = sumC l n := by
  unfold sumC
  rw [List.take_length]
theorem cellsL_trim (l : List Part) : cellsL l = sumC l (trimN l) := by
  unfold cellsL trimL
  exact sumC_take l (trimN_le l)
theorem fin_hard {i : Nat} (h : (l.getD i dPart).fin = true) : kindAt l (i + 1) = 1 := by
  unfold kindAt
  rw [Nat.add_sub_cancel, if_pos h]
end
structure MonoTo (l : List Part) : Prop where
  out : ∀ i j, i < j → j < l.length → (l.getD i dPart).c.to < (l.getD j dPart).c.to
theorem parts_mono (s : ByteArray) : MonoTo (parts s) := by
  have hcl : ∀ i, i < (parts s).length → ((parts s).getD i dPart).c.frm < ((parts s).getD i dPart).c.to := fun i hi => by
    have hlen : (parts s).length = (clusters s).length := by simp [parts]
    have e : ((parts s).getD i dPart).c = (clusters s)[i]'(by omega) := by
      simp [parts, List.getD_eq_getElem?_getD, show i < (clusters s).length by omega]; rfl
    rw [e]
    exact (clusters_ok s _ (List.getElem_mem _)).first.2.2.2.1
  have step : ∀ i, i + 1 < (parts s).length → ((parts s).getD i dPart).c.to < ((parts s).getD (i + 1) dPart).c.to := fun i hi => by
    have h1 := parts_chn s (i := i + 1) (by omega) hi
    have h2 := hcl (i + 1) hi
    rw [Nat.add_sub_cancel] at h1
    omega
  refine ⟨fun i j hij hj => ?_⟩
  induction j with
  | zero => omega
  | succ j ih =>
    have := step j hj
    by_cases h : i = j
    · subst h; exact this
    · have := ih (by omega) (by omega)
      omega
section
variable {l : List Part} {width : Int}
abbrev brk (l : List Part) (n : Nat) : Int × Int := brkAt l ((plcs l (l.length + 1)).getD n 0)
theorem brk_lt (hM : MonoTo l) {k m : Nat} (h : k < m) (hm : m < (plcs l (l.length + 1)).length) : (brk l k).1 < (brk l m).1 := by
  have h1 := plcs_le (l := l) (k := l.length + 1) (i := k) (by omega)
  have h2 := plcs_le (l := l) (k := l.length + 1) (i := m) hm
  have h3 := sorted_lt (plcs_sorted l (l.length + 1)) h hm
  exact hM.out _ _ (by omega) (by omega)
theorem lnL_of (hM : MonoTo l) : ∀ (d k : Nat) (Q : List Nat) (frm : Nat), k + d = (plcs l (l.length + 1)).length → wOk l k Q →
    lnL l ((plcs l (l.length + 1)).drop k) (Q.map (brk l)) frm = some (segs l (Q.map fun n => (plcs l (l.length + 1)).getD n 0) frm, true)
  | 0, k, [], frm, hd, ho => by
    rw [List.drop_eq_nil_of_le (by omega)]
    rfl
  | 0, k, n :: Q, frm, hd, ho => by
    have := ho.1
    have := ho.2.1
    omega
  | d + 1, k, [], frm, hd, ho => by
    rw [drop_cons_getD 0 (by omega), lnL, if_neg (by simp), if_neg (ho.2 k (Nat.le_refl _) (by omega))]
    exact lnL_of hM d (k + 1) [] frm (by omega) ⟨by omega, fun j h1 h2 => ho.2 j (by omega) h2⟩
  | d + 1, k, m :: Q, frm, hd, ho => by
    obtain ⟨h1, h2, h3, h4⟩ := ho
    rw [drop_cons_getD 0 (by omega), lnL]
    by_cases hm : k = m
    · subst hm
      rw [if_pos (show (List.map (brk l) (k :: Q)).head? = some (brkAt l ((plcs l (l.length + 1)).getD k 0)) from rfl), List.map_cons, List.tail_cons, lnL_of hM d (k + 1) Q _ (by omega) h4]
      rfl
    · have hne := brk_lt hM (k := k) (m := m) (by omega) h2
      rw [if_neg (by
        simp only [List.map_cons, List.head?_cons, Option.some.injEq]
        intro hc
        have : (brk l m).1 = (brk l k).1 := by rw [hc]
        omega), if_neg (h3 k (Nat.le_refl _) (by omega))]
      exact lnL_of hM d (k + 1) (m :: Q) frm (by omega) ⟨by omega, h2, fun j h5 h6 => h3 j (by omega) h6, h4⟩
theorem lnW_of (hM : MonoTo l) {Q : List Nat} (ho : wOk l 0 Q) : lnW l (Q.map (brk l)) = some (segs l (Q.map fun n => (plcs l (l.length + 1)).getD n 0) 0, true) := by
  unfold lnW
  exact lnL_of hM (plcs l (l.length + 1)).length 0 Q 0 (by omega) ho
theorem segs_len (l : List Part) : ∀ (P : List Nat) (frm : Nat), (segs l P frm).length = P.length + 1
  | [], _ => rfl
  | p :: P, frm => by simp [segs, segs_len l P p]
theorem wOk_lt : ∀ (Q : List Nat) (k : Nat), wOk l k Q → ∀ n ∈ Q, n < (plcs l (l.length + 1)).length
  | [], _, _, n, h => by cases h
  | m :: Q, k, ho, n, h => by
    rcases List.mem_cons.1 h with rfl | h
    · exact ho.2.1
    · exact wOk_lt Q _ ho.2.2.2 n h
end
section
variable {s : ByteArray} {width : Int}
theorem lines_of {Q : List Nat} (ho : wOk (parts s) 0 Q) : linesL s (Q.map (brk (parts s))) = segs (parts s) (Q.map fun n => (plcs (parts s) ((parts s).length + 1)).getD n 0) 0 ∧ linesB s (Q.map (brk (parts s))) = true := by
  have h := lnW_of (parts_mono s) ho
  unfold linesL linesB
  rw [h]
  exact ⟨rfl, rfl⟩
theorem wrapOut_of (hw1 : 2 ≤ width) (hw2 : width ≤ 200) : wrapOut (parts s) width = (wF (parts s) width 0).map (brk (parts s)) := by
  have h := (wF_ok (parts_small s) hw1 hw2 (plcs (parts s) ((parts s).length + 1)).length 0 (by omega)).1
  have h2 := wOk_lt _ _ h
  unfold wrapOut
  refine List.map_congr_left fun n hn => ?_
  exact outL_getD (h2 n hn)
end
end Go.SX.Plain
/- The document's reading of a way, line by line. No program here. -/
namespace Go.SX.Plain
def frO (R : List Nat) (i : Nat) : Nat := if i = 0 then 0 else R.getD (i - 1) 0
def toO (l : List Part) (R : List Nat) (i : Nat) : Nat := if i < R.length then R.getD i 0 else l.length
theorem segs_get (l : List Part) : ∀ (R : List Nat) (frm i : Nat), i ≤ R.length → (segs l R frm).getD i [] = segOf l (if i = 0 then frm else R.getD (i - 1) 0) (toO l R i)
  | [], frm, i, h => by
    obtain rfl : i = 0 := by simpa using h
    simp only [segs, toO, segOf, List.length_nil, Nat.lt_irrefl, if_false, if_true]
    rw [List.take_of_length_le (by simp)]
    rfl
  | p :: R, frm, 0, h => by
    simp [segs, toO, segOf]
  | p :: R, frm, i + 1, h => by
    have ih := segs_get l R p i (by simpa using h)
    simp only [segs, List.getD_cons_succ]
    rw [ih]
    have h1 : toO l (p :: R) (i + 1) = toO l R i := by
      unfold toO
      simp only [List.length_cons, List.getD_cons_succ]
      by_cases hi : i < R.length
      · rw [if_pos hi, if_pos (by omega)]
      · rw [if_neg hi, if_neg (by omega)]
    rw [h1, if_neg (show ¬ i + 1 = 0 by omega), Nat.add_sub_cancel]
    congr 1
    cases i with
    | zero => rfl
    | succ i => simp
structure ReadR (s : ByteArray) (way : List (Int × Int)) (R : List Nat) : Prop where
  rd : rdW (parts s) way = some (R, true)
  lines : linesL s way = segs (parts s) R 0
  len : R.length = way.length
  frm : ∀ i, i ≤ R.length → frO R i ≤ toO (parts s) R i
  to : ∀ i, toO (parts s) R i ≤ (parts s).length
  get : ∀ i, i ≤ R.length → (linesL s way).getD i [] = segOf (parts s) (frO R i) (toO (parts s) R i)
end Go.SX.Plain
/- The texts of a way's lines. No program here. -/
namespace Go.SX.Plain
def textL (s : ByteArray) (y : List Part) : ByteArray := if (trimL y).length = 0 then ByteArray.empty else s.extract ((trimL y).getD 0 dPart).c.at.toNat (((trimL y).getD ((trimL y).length - 1) dPart).c.at + ((trimL y).getD ((trimL y).length - 1) dPart).c.len).toNat
def linesE (s : ByteArray) (way : List (Int × Int)) : Int := if 4096 < s.size then 3 else if linesB s way = false then 1 else 0
def linesT (s : ByteArray) (way : List (Int × Int)) : List ByteArray := if linesE s way = 0 then (linesL s way).map (textL s) else []
theorem part_cl (s : ByteArray) {i : Nat} (h : i < (parts s).length) : ∃ f t : Nat, f < t ∧ t ≤ sgN s ∧ ((parts s).getD i dPart).c.frm = f ∧ ((parts s).getD i dPart).c.to = t ∧ ((parts s).getD i dPart).c.at = (posS s f : Nat) ∧ ((parts s).getD i dPart).c.at + ((parts s).getD i dPart).c.len = (posS s t : Nat) := by
  have hlen : (parts s).length = (clusters s).length := by simp [parts]
  have e : ((parts s).getD i dPart).c = (clusters s)[i]'(by omega) := by
    simp [parts, List.getD_eq_getElem?_getD, show i < (clusters s).length by omega]; rfl
  obtain ⟨f, t, h1, h2, h3⟩ := (clusters_ok s _ (List.getElem_mem (show i < (clusters s).length by omega))).ex
  rw [e, h3]
  refine ⟨f, t, h1, h2, rfl, rfl, ?_, ?_⟩
  · exact al_pos s f
  · show (al s).getD f 0 + ((al s).getD t 0 - (al s).getD f 0) = _
    rw [← al_pos s t]
    omega
theorem trim_get {l y : List Part} {a b : Nat} (hy : y = (l.drop a).take b) {k : Nat} (hk : k < (trimL y).length) : (trimL y).getD k dPart = l.getD (a + k) dPart ∧ a + k < l.length := by
  have h1 : k < trimN y := by rw [← trimL_len]; exact hk
  have h2 := trimN_le y
  have h3 : y.length = min b (l.length - a) := by rw [hy]; simp
  refine ⟨?_, by omega⟩
  unfold trimL
  subst hy
  simp only [List.getD_eq_getElem?_getD, List.getElem?_take, List.getElem?_drop]
  rw [if_pos h1, if_pos (by omega)]
end Go.SX.Plain
/- No way is better: said of breaks. No program here. -/
namespace Go.SX.Plain
section
variable {l : List Part} {width : Int}
theorem map_getD (f : Nat → Int × Int) (Q : List Nat) {i : Nat} (h : i < Q.length) : (Q.map f).getD i (0, 0) = f (Q.getD i 0) := by
  simp [List.getD_eq_getElem?_getD, h]
theorem getD_memN {Q : List Nat} {i : Nat} (h : i < Q.length) : Q.getD i 0 ∈ Q := by
  simp [List.getD_eq_getElem?_getD, h]
structure NoLess (s : ByteArray) (width : Int) (other : List (Int × Int)) : Prop where
  cases : (badE s width other = 35 ∧ badN s width other = 0) ∨ badE s width other = 0
  least : badE s width other = 0 → ((tabOf (parts s) width).getD 0 zB).bad ≤ badN s width other
  few : badE s width other = 0 → badN s width other = ((tabOf (parts s) width).getD 0 zB).bad → (wrapOut (parts s) width).length ≤ other.length
  first : badE s width other = 0 → badN s width other = ((tabOf (parts s) width).getD 0 zB).bad → other.length = (wrapOut (parts s) width).length → ∀ i, i < (wrapOut (parts s) width).length →
    (∀ j, j < i → other.getD j (0, 0) = (wrapOut (parts s) width).getD j (0, 0)) → other.getD i (0, 0) ≠ (wrapOut (parts s) width).getD i (0, 0) → ((wrapOut (parts s) width).getD i (0, 0)).1 < (other.getD i (0, 0)).1
end
end Go.SX.Plain
/- Plain law: a styled text, broken. -/
namespace Go.SX.Plain
set_option linter.unusedSimpArgs false
def wayP (l : List Part) (width : Int) : List Nat := (wayL l width).map fun m => (plcs l (l.length + 1)).getD m 0
def plA (l : List Part) (i : Nat) : Int := if i = 0 then 0 else (l.getD (i - 1) dPart).c.to
theorem wOk_hard {l : List Part} : ∀ (Q : List Nat) (k : Nat), wOk l k Q → ∀ j, k ≤ j → j < (plcs l (l.length + 1)).length → kindAt l ((plcs l (l.length + 1)).getD j 0) = 1 → j ∈ Q
  | [], k, h, j, h1, h2, h3 => absurd h3 (h.2 j h1 h2)
  | n :: Q, k, h, j, h1, h2, h3 => by
    obtain ⟨a1, a2, a3, a4⟩ := h
    rcases Nat.lt_trichotomy j n with h4 | h4 | h4
    · exact absurd h3 (a3 j h1 h4)
    · subst h4; exact List.mem_cons_self
    · exact List.mem_cons_of_mem _ (wOk_hard Q (n + 1) a4 j h4 h2 h3)
theorem wOk_sorted {l : List Part} : ∀ (Q : List Nat) (k : Nat), wOk l k Q → Q.Pairwise (· < ·) ∧ ∀ n ∈ Q, k ≤ n
  | [], k, h => ⟨.nil, fun n hn => by cases hn⟩
  | n :: Q, k, h => by
    obtain ⟨a1, a2, a3, a4⟩ := h
    obtain ⟨b1, b2⟩ := wOk_sorted Q (n + 1) a4
    refine ⟨List.pairwise_cons.2 ⟨fun m hm => by have := b2 m hm; omega, b1⟩, fun m hm => ?_⟩
    rcases List.mem_cons.1 hm with rfl | hm
    · exact a1
    · have := b2 m hm
      omega
theorem remGo_end (l a : List Int) : ∀ (k f t : Nat), t ≤ l.length → l.length - t ≤ k → ∃ c, (remGo l a k f t).getLast? = some c ∧ c.to = l.length
  | 0, f, t, h1, h2 => ⟨(gAt l a f t).c, rfl, by show (t : Int) = _; omega⟩
  | k + 1, f, t, h1, h2 => by
    simp only [remGo]
    split
    · split
      · exact remGo_end l a k f (t + 1) (by omega) (by omega)
      · obtain ⟨c, hc, ht⟩ := remGo_end l a k t (t + 1) (by omega) (by omega)
        refine ⟨c, ?_, ht⟩
        rw [List.getLast?_cons, hc]
        rfl
    · exact ⟨(gAt l a f t).c, rfl, by show (t : Int) = _; omega⟩
section
variable {s : ByteArray}
theorem parts_c {j : Nat} (hj : j < (parts s).length) : ((parts s).getD j dPart).c = (clusters s).getD j ⟨0, 0, 0, 0, 0⟩ := by
  have hlen : (parts s).length = (clusters s).length := by simp [parts]
  have hj2 : j < (clusters s).length := by omega
  simp [parts, List.getD_eq_getElem?_getD, hj2]
  rfl
theorem plA_end : plA (parts s) (parts s).length = (sgN s : Nat) := by
  have hlen : (parts s).length = (clusters s).length := by simp [parts]
  have hrl : sgN s = (signsFrom s 0).length := rl_len s
  have hcr := clusters_rem s
  by_cases h0 : 0 < (signsFrom s 0).length
  · rw [if_pos h0] at hcr
    obtain ⟨c, hc, ht⟩ := remGo_end (rl s) (al s) ((rl s).length - 1) 0 1 (by have := rl_len s; omega) (Nat.le_refl _)
    have hr : rem (rl s) (al s) 0 1 = remGo (rl s) (al s) ((rl s).length - 1) 0 1 := rfl
    rw [hr] at hcr
    rw [← hcr] at hc
    have hpos : 0 < (clusters s).length := by
      rcases Nat.eq_zero_or_pos (clusters s).length with h | h
      · rw [List.eq_nil_of_length_eq_zero h] at hc; cases hc
      · exact h
    unfold plA
    rw [if_neg (by omega), parts_c (by omega), hlen]
    rw [List.getLast?_eq_getElem?] at hc
    rw [List.getD_eq_getElem?_getD, hc]
    show c.to = _
    rw [ht]
    rfl
  · rw [if_neg h0] at hcr
    have : (parts s).length = 0 := by rw [hlen, hcr]; rfl
    unfold plA
    rw [if_pos this]
    omega
theorem plA_frm {i : Nat} (hi : i < (parts s).length) : ((parts s).getD i dPart).c.frm = plA (parts s) i := by
  unfold plA
  by_cases h : i = 0
  · subst h
    rw [if_pos rfl, parts_c hi]
    have hc := clusters_chn s
    have hlen : (parts s).length = (clusters s).length := by simp [parts]
    cases hcl : clusters s with
    | nil =>
      have : (parts s).length = 0 := by rw [hlen, hcl]; rfl
      omega
    | cons c r =>
      rw [hcl] at hc
      cases hc with
      | cons hx _ => exact hx
  · rw [if_neg h]
    exact parts_chn s (by omega) hi
theorem plA_lt {i j : Nat} (h : i < j) (hj : j ≤ (parts s).length) : plA (parts s) i < plA (parts s) j := by
  unfold plA
  rw [if_neg (show ¬ j = 0 by omega)]
  by_cases h0 : i = 0
  · rw [if_pos h0]
    obtain ⟨f, t, a1, a2, a3, a4, a5, a6⟩ := part_cl s (i := j - 1) (by omega)
    omega
  · rw [if_neg h0]
    exact (parts_mono s).out (i - 1) (j - 1) (by omega) (by omega)
theorem plA_inj {i j : Nat} (hi : i ≤ (parts s).length) (hj : j ≤ (parts s).length) (h : plA (parts s) i = plA (parts s) j) : i = j := by
  rcases Nat.lt_trichotomy i j with h1 | h1 | h1
  · have := plA_lt h1 hj; omega
  · exact h1
  · have := plA_lt h1 hi; omega
theorem place_plA {i : Nat} (h0 : 0 < (parts s).length) (hi : i ≤ (parts s).length) : placeP ((parts s).map pcOf) i = plA (parts s) i := by
  by_cases h : i = 0
  · subst h
    unfold placeP
    rw [if_neg (by rw [List.length_map]; omega), pc_at]
    exact plA_frm h0
  · rw [place_eq s (by omega) hi]
    unfold plA
    rw [if_neg h]
end
structure WayF (s : ByteArray) (width : Int) (W : List Nat) : Prop where
  len : W.length = (wrapOut (parts s) width).length
  brk : ∀ i, i < W.length → (wrapOut (parts s) width).getD i (0, 0) = (plA (parts s) (W.getD i 0), kindAt (parts s) (W.getD i 0))
  pos : ∀ i, i < W.length → 0 < W.getD i 0 ∧ W.getD i 0 ≤ (parts s).length
  rway : rwayL (parts s) width = W.map fun (p : Nat) => (p : Int)
  lines : linesL s (wrapOut (parts s) width) = segs (parts s) W 0
  frto : ∀ i, i ≤ W.length → frO W i ≤ toO (parts s) W i ∧ toO (parts s) W i ≤ (parts s).length
  fin : 0 < (parts s).length → ((parts s).getD ((parts s).length - 1) dPart).fin = true → frO W W.length = (parts s).length
theorem wayF {s : ByteArray} {width : Int} (hw1 : 2 ≤ width) (hw2 : width ≤ 200) : WayF s width (wayP (parts s) width) := by
  have hS := parts_small s
  have hok : wOk (parts s) 0 (wayL (parts s) width) := (wF_ok hS hw1 hw2 (plcs (parts s) ((parts s).length + 1)).length 0 (by omega)).1
  have hlt := wOk_lt _ _ hok
  have hout : wrapOut (parts s) width = (wayL (parts s) width).map (brk (parts s)) := wrapOut_of hw1 hw2
  have hWl : (wayP (parts s) width).length = (wayL (parts s) width).length := List.length_map _
  have hget : ∀ i, i < (wayL (parts s) width).length → (wayP (parts s) width).getD i 0 = (plcs (parts s) ((parts s).length + 1)).getD ((wayL (parts s) width).getD i 0) 0 := fun i hi => by
    unfold wayP
    simp [List.getD_eq_getElem?_getD, hi]
  have hpw : (wayP (parts s) width).Pairwise (· < ·) := by
    unfold wayP
    rw [List.pairwise_map]
    refine (wOk_sorted _ _ hok).1.imp_of_mem fun {a b} ha hb hab => ?_
    exact sorted_lt (plcs_sorted _ _) hab (hlt b hb)
  have hpos : ∀ i, i < (wayP (parts s) width).length → 0 < (wayP (parts s) width).getD i 0 ∧ (wayP (parts s) width).getD i 0 ≤ (parts s).length := fun i hi => by
    rw [hget i (by omega)]
    have := plcs_le (hlt _ (getD_memN (Q := wayL (parts s) width) (i := i) (by omega)))
    omega
  refine ⟨by rw [hWl, hout, List.length_map], fun i hi => ?_, hpos, by rw [rwayL_eq hS hw1 hw2]; unfold wayP; rw [List.map_map]; rfl, ?_, fun i hi => ⟨?_, ?_⟩, fun h0 hf => ?_⟩
  · rw [hout, map_getD _ _ (by omega), hget i (by omega)]
    have hp := hpos i hi
    rw [hget i (by omega)] at hp
    show brkAt (parts s) _ = _
    unfold brkAt plA
    rw [if_neg (by omega)]
  · rw [hout]
    exact (lines_of hok).1
  · unfold frO toO
    by_cases h0 : i = 0
    · rw [if_pos h0]; exact Nat.zero_le _
    · rw [if_neg h0]
      by_cases h2 : i < (wayP (parts s) width).length
      · rw [if_pos h2]
        exact Nat.le_of_lt (sorted_lt hpw (by omega) h2)
      · rw [if_neg h2]
        exact (hpos (i - 1) (by omega)).2
  · unfold toO
    split
    · exact (hpos _ (by assumption)).2
    · exact Nat.le_refl _
  · have hk := fin_hard hf
    rw [show (parts s).length - 1 + 1 = (parts s).length by omega] at hk
    have hmem : (parts s).length ∈ plcs (parts s) ((parts s).length + 1) := plcs_mem.2 ⟨by omega, h0, by rw [hk]; decide⟩
    obtain ⟨j, hj, hje⟩ := List.mem_iff_getElem.1 hmem
    have hjd : (plcs (parts s) ((parts s).length + 1)).getD j 0 = (parts s).length := by
      simp [List.getD_eq_getElem?_getD, hj, hje]
    have hjq := wOk_hard _ _ hok j (Nat.zero_le _) hj (by rw [hjd]; exact hk)
    obtain ⟨i, hi, hie⟩ := List.mem_iff_getElem.1 hjq
    have hid : (wayP (parts s) width).getD i 0 = (parts s).length := by
      rw [hget i hi]
      have : (wayL (parts s) width).getD i 0 = j := by simp [List.getD_eq_getElem?_getD, hi, hie]
      rw [this, hjd]
    unfold frO
    rw [if_neg (by omega)]
    by_cases hl : i = (wayP (parts s) width).length - 1
    · rw [← hl, hid]
    · have h1 := sorted_lt hpw (show i < (wayP (parts s) width).length - 1 by omega) (by omega)
      have h2 := (hpos ((wayP (parts s) width).length - 1) (by omega)).2
      rw [hid] at h1
      omega
def edF (l : List Part) (W : List Nat) (i : Nat) : Nat := frO W i + trimN (segOf l (frO W i) (toO l W i))
def edT (l : List Part) (W : List Nat) (i : Nat) : Nat := if frO W i < toO l W i ∧ (l.getD (toO l W i - 1) dPart).fin = true then toO l W i - 1 else toO l W i
def edM (l : List Part) (W : List Nat) (i : Nat) : Bool := decide (i < W.length) && decide (kindAt l (W.getD i 0) ≠ 1)
def edK (l : List Part) (W : List Nat) (i : Nat) : Bool := decide (edF l W i = edT l W i) && !edM l W i
def nlB : ByteArray := { data := #[10] }
def edW (l : List Part) (W : List Nat) (i : Nat) : ByteArray := if edM l W i = true then nlB else ByteArray.empty
def txGo (l : List Part) (W : List Nat) : Nat → ByteArray → List Spn → ByteArray × List Spn × Int
  | 0, S, L => (S, L, 0)
  | i + 1, S, L => if edK l W i = true then txGo l W i S L
    else if splE S L (plA l (edF l W i)) (plA l (edT l W i)) (edW l W i) [] ≠ 0 then (ByteArray.empty, [], splE S L (plA l (edF l W i)) (plA l (edT l W i)) (edW l W i) [])
    else txGo l W i (splT S L (plA l (edF l W i)) (plA l (edT l W i)) (edW l W i) []) (splL S L (plA l (edF l W i)) (plA l (edT l W i)) (edW l W i) [])
def txR (s : ByteArray) (l : List Spn) (width : Int) : ByteArray × List Spn × Int :=
  if chkN s.size l (sgN s : Nat) ≠ 0 then (ByteArray.empty, [], chkN s.size l (sgN s : Nat))
  else if checkN s.size width ≠ 0 then (ByteArray.empty, [], checkN s.size width)
  else txGo (parts s) (wayP (parts s) width) ((wayP (parts s) width).length + 1) s l
section
variable {l : List Part} {W : List Nat} {i : Nat} {S : ByteArray} {L : List Spn}
theorem txGo_skip (h : edK l W i = true) : txGo l W (i + 1) S L = txGo l W i S L := by
  simp only [txGo]; rw [if_pos h]
theorem txGo_err (h : edK l W i = false) (h2 : splE S L (plA l (edF l W i)) (plA l (edT l W i)) (edW l W i) [] ≠ 0) : txGo l W (i + 1) S L = (ByteArray.empty, [], splE S L (plA l (edF l W i)) (plA l (edT l W i)) (edW l W i) []) := by
  simp only [txGo]; rw [if_neg (by rw [h]; decide), if_pos h2]
theorem txGo_go (h : edK l W i = false) (h2 : splE S L (plA l (edF l W i)) (plA l (edT l W i)) (edW l W i) [] = 0) : txGo l W (i + 1) S L = txGo l W i (splT S L (plA l (edF l W i)) (plA l (edT l W i)) (edW l W i) []) (splL S L (plA l (edF l W i)) (plA l (edT l W i)) (edW l W i) []) := by
  simp only [txGo]; rw [if_neg (by rw [h]; decide), if_neg (fun hh => hh h2)]
theorem edF_le (hft : frO W i ≤ toO l W i) (hto : toO l W i ≤ l.length) : frO W i ≤ edF l W i ∧ edF l W i ≤ toO l W i := by
  unfold edF
  have h1 := trimN_le (segOf l (frO W i) (toO l W i))
  rw [segOf_len hto] at h1
  omega
theorem edT_le (hft : frO W i ≤ toO l W i) : frO W i ≤ edT l W i ∧ edT l W i ≤ toO l W i := by
  unfold edT
  split <;> omega
end
theorem ed_last {s : ByteArray} {width : Int} {W : List Nat} (h : WayF s width W) (h0 : 0 < (parts s).length) (hf : ((parts s).getD ((parts s).length - 1) dPart).fin = true) : edK (parts s) W W.length = true := by
  have h1 := h.fin h0 hf
  have h2 : toO (parts s) W W.length = (parts s).length := by unfold toO; rw [if_neg (Nat.lt_irrefl _)]
  have h3 := h.frto W.length (Nat.le_refl _)
  have h4 := edF_le (l := parts s) (W := W) (i := W.length) h3.1 h3.2
  have h5 := edT_le (l := parts s) (W := W) (i := W.length) h3.1
  unfold edK edM
  rw [decide_eq_true (by omega : edF (parts s) W W.length = edT (parts s) W W.length), decide_eq_false (Nat.lt_irrefl _)]
  rfl
end Go.SX.Plain
/- Plain law: what a round of the breaking of a styled text sees. -/
namespace Go.SX.Plain
set_option linter.unusedSimpArgs false
def signP (l : List Pc) (i : Nat) : Int := if l.length = 0 then 0 else placeP l i
section
variable {s : ByteArray} {width : Int} {W : List Nat} {i : Nat}
theorem signP_plA {i : Nat} (hi : i ≤ (parts s).length) : signP ((parts s).map pcOf) i = plA (parts s) i := by
  unfold signP
  by_cases h : (parts s).length = 0
  · rw [if_pos (by rw [List.length_map]; exact h)]
    have : i = 0 := by omega
    subst this
    rfl
  · rw [if_neg (by rw [List.length_map]; exact h)]
    exact place_plA (by omega) hi
theorem wf_seg (h : WayF s width W) (hi : i ≤ W.length) : (linesL s (wrapOut (parts s) width)).getD i [] = segOf (parts s) (frO W i) (toO (parts s) W i) := by
  rw [h.lines, segs_get _ _ _ _ hi]
  rfl
theorem wf_seglen (h : WayF s width W) (hi : i ≤ W.length) : (segOf (parts s) (frO W i) (toO (parts s) W i)).length = toO (parts s) W i - frO W i := segOf_len (h.frto i hi).2
theorem wf_at (h : WayF s width W) (hi : i ≤ W.length) {k : Nat} (hk : k < toO (parts s) W i - frO W i) : (segOf (parts s) (frO W i) (toO (parts s) W i)).getD k dPart = (parts s).getD (frO W i + k) dPart := by
  unfold segOf
  simp only [List.getD_eq_getElem?_getD, List.getElem?_take, List.getElem?_drop]
  rw [if_pos hk]
theorem wf_to (h : WayF s width W) (hi : i ≤ W.length) : plA (parts s) (toO (parts s) W i) = if i < W.length then ((wrapOut (parts s) width).getD i (0, 0)).1 else (sgN s : Nat) := by
  unfold toO
  split
  · rename_i h1
    rw [h.brk i h1]
  · exact plA_end
theorem wf_kind (h : WayF s width W) : edM (parts s) W i = (decide (i < W.length) && !(((wrapOut (parts s) width).getD i (0, 0)).2 == 1)) := by
  unfold edM
  by_cases h1 : i < W.length
  · rw [h.brk i h1]
    congr 1
    by_cases h2 : kindAt (parts s) (W.getD i 0) = 1
    · rw [decide_eq_false (fun hh => hh h2), h2]; rfl
    · rw [decide_eq_true h2, beq_eq_false_iff_ne.2 h2]; rfl
  · rw [decide_eq_false h1]; rfl
theorem edW_size : decide (edW (parts s) W i = { data := #[] }) = !edM (parts s) W i := by
  unfold edW
  cases edM (parts s) W i with
  | true => rw [if_pos rfl]; exact decide_eq_false (fun h => by have := congrArg ByteArray.size h; revert this; decide)
  | false => rw [if_neg (by decide)]; exact decide_eq_true rfl
theorem edK_eq (h : WayF s width W) (hi : i ≤ W.length) : edK (parts s) W i = (plA (parts s) (edF (parts s) W i) == plA (parts s) (edT (parts s) W i) && !edM (parts s) W i) := by
  have h3 := h.frto i hi
  have h4 := edF_le (l := parts s) (W := W) (i := i) h3.1 h3.2
  have h5 := edT_le (l := parts s) (W := W) (i := i) h3.1
  unfold edK
  by_cases he : edF (parts s) W i = edT (parts s) W i
  · rw [decide_eq_true he, he, beq_self_eq_true]
  · rw [decide_eq_false he]
    have : (plA (parts s) (edF (parts s) W i) == plA (parts s) (edT (parts s) W i)) = false := by
      rw [beq_eq_false_iff_ne]
      exact fun e => he (plA_inj (by omega) (by omega) e)
    rw [this]
theorem wf_fin (h : WayF s width W) (hi : i ≤ W.length) (hlt : frO W i < toO (parts s) W i) (hf : ((parts s).getD (toO (parts s) W i - 1) dPart).fin = true) : ((parts s).getD (toO (parts s) W i - 1) dPart).c.frm = plA (parts s) (edT (parts s) W i) := by
  have h3 := h.frto i hi
  unfold edT
  rw [if_pos ⟨hlt, hf⟩]
  exact plA_frm (by omega)
theorem wf_nofin (hf : ¬ (frO W i < toO (parts s) W i ∧ ((parts s).getD (toO (parts s) W i - 1) dPart).fin = true)) : plA (parts s) (edT (parts s) W i) = plA (parts s) (toO (parts s) W i) := by
  unfold edT
  rw [if_neg hf]
theorem wf_nil (h : WayF s width W) (hi : i ≤ W.length) (hlt : ¬ frO W i < toO (parts s) W i) : edF (parts s) W i = edT (parts s) W i := by
  have h3 := h.frto i hi
  have h4 := edF_le (l := parts s) (W := W) (i := i) h3.1 h3.2
  have h5 := edT_le (l := parts s) (W := W) (i := i) h3.1
  omega
theorem wf_from0 (h : WayF s width W) (hi : i ≤ W.length) (hlt : frO W i < toO (parts s) W i) (h0 : trimN (segOf (parts s) (frO W i) (toO (parts s) W i)) = 0) : ((segOf (parts s) (frO W i) (toO (parts s) W i)).getD 0 dPart).c.frm = plA (parts s) (edF (parts s) W i) := by
  have h3 := h.frto i hi
  rw [wf_at h hi (by omega), Nat.add_zero]
  unfold edF
  rw [h0, Nat.add_zero]
  exact plA_frm (by omega)
theorem wf_from1 (h : WayF s width W) (hi : i ≤ W.length) (h0 : 0 < trimN (segOf (parts s) (frO W i) (toO (parts s) W i))) : ((trimL (segOf (parts s) (frO W i) (toO (parts s) W i))).getD ((trimL (segOf (parts s) (frO W i) (toO (parts s) W i))).length - 1) dPart).c.to = plA (parts s) (edF (parts s) W i) := by
  have h3 := h.frto i hi
  have h1 := trimN_le (segOf (parts s) (frO W i) (toO (parts s) W i))
  rw [segOf_len h3.2] at h1
  rw [trimL_len]
  rw [(trim_get (l := parts s) (y := segOf (parts s) (frO W i) (toO (parts s) W i)) (a := frO W i) (b := toO (parts s) W i - frO W i) rfl (k := trimN (segOf (parts s) (frO W i) (toO (parts s) W i)) - 1) (by rw [trimL_len]; omega)).1]
  unfold edF plA
  rw [if_neg (by omega), show frO W i + (trimN (segOf (parts s) (frO W i) (toO (parts s) W i)) - 1) = frO W i + trimN (segOf (parts s) (frO W i) (toO (parts s) W i)) - 1 by omega]
theorem txGo_len (l : List Part) (W : List Nat) {B : Nat} (hB : 256 ≤ B) : ∀ (i : Nat) (S : ByteArray) (L : List Spn), L.length ≤ B → (txGo l W i S L).2.1.length ≤ B
  | 0, S, L, h => h
  | i + 1, S, L, h => by
    simp only [txGo]
    split
    · exact txGo_len l W hB i S L h
    · split
      · exact Nat.zero_le _
      · exact txGo_len l W hB i _ _ (Nat.le_trans (splL_len _ _ _ _ _ _) hB)
theorem txR_len (s : ByteArray) (l : List Spn) (width : Int) : (txR s l width).2.1.length ≤ l.length + 256 := by
  unfold txR
  split
  · exact Nat.zero_le _
  · split
    · exact Nat.zero_le _
    · exact txGo_len _ _ (by omega) _ _ _ (by omega)
end
end Go.SX.Plain
/- Contract of wrap's Text. -/
namespace Go.SX.Tryz
open Go.Proofs Go.Proofs.Tryz Go.SX.Plain
set_option maxRecDepth 100000
set_option maxHeartbeats 0
set_option linter.unusedSimpArgs false
theorem q_wtext : fact 6 f6 := ⟨by kernel_rfl, rfl, by kernel_rfl⟩
theorem con_wtext : Con prog 6 (fun ((s, l, w) : ByteArray × List Spn × Int) => [txAV s l, .v (.int .i64 w)]) (fun (s, l, w) => .tup [txO (txR s l w).1 (txR s l w).2.1, .v (.int .i64 (txR s l w).2.2)]) (fun _ => True) := by
  refine Con.of (by kernel_rfl) T_ok D_spn_ok (.con con_scheck (.con con_wrap (.con con_lines (.con con_ucount (.con con_trimmed (.con con_ssplice .nil)))))) 3 [17, 20, 27, 30] q_wtext.1 q_wtext.2.1 q_wtext.2.2 (fun _ => rfl) fun i _ => ?_
  obtain ⟨s, l, width⟩ := i
  by_cases h1 : chkN s.size l (sgN s : Nat) = 0
  case neg =>
    have hR : txR s l width = (ByteArray.empty, [], chkN s.size l (sgN s : Nat)) := by unfold txR; rw [if_pos h1]
    have k1 : (chkN s.size l (sgN s : Nat) != 0) = true := by simpa using h1
    repeat' (first | (with_reducible first | refine ⟨(s, l), ⟨(.cons (.agg (.cons (.v _) (.cons (.lent _ _ _ _ _ _) .nil))) .nil), ?_⟩, ?_⟩ | refine And.intro ?_ ?_) | ((with_reducible intro hq); first | exact bne1 (by with_reducible assumption) hq | (revert hq; with_reducible intro _)) | (with_reducible exact True.intro) | ((with_reducible first | refine LeF.chk ?_ | refine Run.mk ?_); (conv => whnf)) | ((with_reducible show LeR _ _ _); refine LeR.nil ?_ (fun _ => rfl)))
    all_goals (rw [hR]; first | done | rfl)
  have k1 : (chkN s.size l (sgN s : Nat) != 0) = false := by rw [h1]; rfl
  have ok1 := OkT.of h1
  have hs := ok1.size
  have hl := ok1.len
  have hn := sgN_le s
  by_cases h2 : checkN s.size width = 0
  case neg =>
    have hR : txR s l width = (ByteArray.empty, [], checkN s.size width) := by unfold txR; rw [if_neg (fun h => h h1), if_pos h2]
    have k2 : (checkN s.size width != 0) = true := by simpa using h2
    repeat' (first | (with_reducible first | refine ⟨(s, l), ⟨(.cons (.agg (.cons (.v _) (.cons (.lent _ _ _ _ _ _) .nil))) .nil), ?_⟩, ?_⟩ | refine ⟨(s, width), ⟨(.cons (.v _) (.cons (.v _) .nil)), ?_⟩, ?_⟩ | refine And.intro ?_ ?_) | ((with_reducible intro hq); first | exact bne1 hq (by with_reducible assumption) | exact bne1 (by with_reducible assumption) hq | (revert hq; with_reducible intro _)) | (with_reducible exact True.intro) | ((with_reducible first | refine LeF.chk ?_ | refine Run.mk ?_); (conv => whnf)) | ((with_reducible show LeR _ _ _); refine LeR.nil ?_ (fun _ => rfl)))
    all_goals (rw [hR]; first | done | rfl)
  have k2 : (checkN s.size width != 0) = false := by rw [h2]; rfl
  have hw : 2 ≤ width ∧ width ≤ 200 := by
    unfold checkN at h2
    split at h2
    · cases h2
    · omega
  have hwl : wrapL s width = wrapOut (parts s) width := if_pos h2
  have WF := wayF (s := s) hw.1 hw.2
  have hR : txR s l width = txGo (parts s) (wayP (parts s) width) ((wayP (parts s) width).length + 1) s l := by unfold txR; rw [if_neg (fun h => h h1), if_neg (fun h => h h2)]
  generalize hW : wayP (parts s) width = W at WF hR
  have hll : (linesL s (wrapL s width)).length = W.length + 1 := by rw [hwl, WF.lines, segs_len]
  have hwn : (wrapL s width).length = W.length := by rw [hwl, WF.len]
  have hlo := wrapOut_len (Plain.parts s) width
  have hlp := plcs_len (Plain.parts s) ((Plain.parts s).length + 1)
  have hpl := parts_len s
  have hd : C_spn.d = zS := rfl
  have hd2 : C_parts.d = [] := rfl
  have hd3 : C_brk.d = (0, 0) := rfl
  have hWl : W.length ≤ 4100 := by rw [WF.len]; omega
  repeat' (first | (with_reducible first | refine ⟨(s, l), ⟨(.cons (.agg (.cons (.v _) (.cons (.lent _ _ _ _ _ _) .nil))) .nil), ?_⟩, ?_⟩ | refine ⟨(s, width), ⟨(.cons (.v _) (.cons (.v _) .nil)), ?_⟩, ?_⟩ | refine ⟨(_, _), ⟨(.cons (.v _) (.cons (.lent _ _ _ _ _ _) .nil)), ?_⟩, ?_⟩ | refine ⟨_, ⟨(.cons (.v _) .nil), ?_⟩, ?_⟩ | refine ex_of (α := List Spn) l ⟨rfl, rfl, fun _ => rfl⟩ ?_ | refine And.intro ?_ ?_) | ((with_reducible intro hq); first | exact bne1 hq (by with_reducible assumption) | (revert hq; with_reducible intro _)) | (with_reducible exact True.intro) | ((with_reducible refine Run.mk ?_); (conv => whnf)) | ((with_reducible show drawOK _ _ = true); kernel_rfl))
  all_goals (try first | omega | (apply Fits.i64 <;> omega) | (dsimp only; omega))
  refine loopZ (C := C_spn) (l := l) (t := 42) (cap := none) 2 C_spn.d ?_ (Int × ByteArray × List Spn) [] (fun (i, S, L) => [(14, .v (.int .i64 i))]) (fun (i, S, L) => [(3, .box [.v (.string S), .ro 4 C_spn.enc C_spn.d L none] 24)]) (fun (i, S, L) => (-1 ≤ i ∧ i ≤ W.length) ∧ txGo (Plain.parts s) W (i + 1).toNat S L = txR s l width) (fun (i, S, L) => (i + 1).toNat) ((W.length : Int), s, l) ⟨⟨by omega, by omega⟩, by rw [hR]; congr 1⟩ (Wk.chk ?_) fun i hi => ?_
  · with_unfolding_all exact rfl
  · ((conv => whnf); repeat' (first | (with_reducible first | refine And.intro ?_ ?_ | exact True.intro | rfl | exact LeN.ro rfl) | ((with_reducible refine Run.mk ?_); (conv => whnf))))
    all_goals first
      | (rw [hll]; omega)
      | exact LeN.ro rfl
  obtain ⟨i, S, L⟩ := i
  obtain ⟨⟨hi0, hi1⟩, hi2⟩ := hi
  by_cases hneg : i = -1
  · subst hneg
    have hng : decide (0 ≤ (-1 : Int)) = false := rfl
    repeat' (first | (with_reducible refine And.intro ?_ ?_) | ((with_reducible intro hq); first | exact bne1 hq (by with_reducible assumption) | (revert hq; with_reducible intro _)) | (with_reducible exact True.intro) | ((with_reducible first | refine LeF.chk ?_ | refine Run.mk ?_); (conv => whnf)) | ((with_reducible show LeR _ _ _); refine LeR.ro ?_))
    all_goals (rw [← hi2]; rfl)
  obtain ⟨k, rfl⟩ := Int.eq_ofNat_of_zero_le (a := i) (by omega)
  have hk : k ≤ W.length := by omega
  have e1 : ((k : Int)).toNat = k := Int.toNat_natCast _
  rw [show (((k : Int)) + 1).toNat = k + 1 by omega] at hi2
  have hng : decide (0 ≤ (k : Int)) = true := decide_eq_true (by omega)
  have hft := WF.frto k hk
  have hseg : (linesL s (wrapL s width)).getD ((k : Int)).toNat C_parts.d = segOf (Plain.parts s) (frO W k) (toO (Plain.parts s) W k) := by rw [e1, hwl]; exact wf_seg WF hk
  have hsl := wf_seglen WF hk
  have htv := wf_to WF hk
  have hkd := wf_kind (i := k) WF
  have hK := edK_eq WF hk
  have hWs := edW_size (s := s) (W := W) (i := k)
  repeat' (first | (with_reducible refine And.intro ?_ ?_) | ((with_reducible intro hq); first | exact bne1 (by with_reducible assumption) hq | (revert hq; with_reducible intro _)) | ((with_reducible refine Run.mk ?_); (conv => whnf)))
  all_goals (try omega)
  obtain ⟨Y, hY⟩ : ∃ Y, Y = segOf (Plain.parts s) (frO W k) (toO (Plain.parts s) W k) := ⟨_, rfl⟩
  rw [← hY] at hseg hsl
  refine joinI Unit [15] (fun _ => [(15, .ro 12 C_part.enc C_part.d Y none), (16, .v (.int .i64 (plA (Plain.parts s) (toO (Plain.parts s) W k))))]) (fun _ => []) (fun _ => True) ?_ fun _ _ => ?_
  · by_cases hkW : k < W.length
    · have kb : decide ((k : Int) < ((wrapL s width).length : Int)) = true := decide_eq_true (by omega)
      rw [if_pos hkW] at htv
      repeat' (first | (with_reducible first | refine ex_of () trivial ?_ | refine And.intro ?_ ?_) | ((with_reducible intro hq); first | exact bne1 (by with_reducible assumption) hq | (revert hq; with_reducible intro _)) | (with_reducible first | exact True.intro | rfl | exact LeN.ro rfl | exact LeN.rptr) | ((with_reducible first | refine Wk.chk ?_ | refine Run.mk ?_); (conv => whnf)))
      all_goals first
        | omega
        | exact LeN.ro hseg
        | (rw [htv, hwl, e1]; first | done | rfl)
    · have kb : decide ((k : Int) < ((wrapL s width).length : Int)) = false := decide_eq_false (by omega)
      rw [if_neg hkW] at htv
      repeat' (first | (with_reducible first | refine ex_of () trivial ?_ | refine And.intro ?_ ?_) | ((with_reducible intro hq); first | exact bne1 hq (by with_reducible assumption) | (revert hq; with_reducible intro _)) | (with_reducible first | exact True.intro | rfl | exact LeN.ro rfl | exact LeN.rptr) | ((with_reducible first | refine Wk.chk ?_ | refine Run.mk ?_); (conv => whnf)))
      all_goals first
        | omega
        | exact LeN.ro hseg
  have hYb : Y.length ≤ 5000 := by omega
  have hlast : frO W k < toO (Plain.parts s) W k → Y.getD ((Y.length : Int) - 1).toNat C_part.d = (Plain.parts s).getD (toO (Plain.parts s) W k - 1) dPart := fun h => by
    rw [show ((Y.length : Int) - 1).toNat = toO (Plain.parts s) W k - frO W k - 1 by omega, hY]
    exact (wf_at WF hk (by omega)).trans (by congr 1; omega)
  have hyl : (decide (0 < (Y.length : Int)) = true → frO W k < toO (Plain.parts s) W k) ∧ (decide (0 < (Y.length : Int)) = false → ¬ frO W k < toO (Plain.parts s) W k) := by
    constructor
    · intro h; have := of_decide_eq_true h; omega
    · intro h; have := of_decide_eq_false h; omega
  repeat' ((with_reducible refine Run.mk ?_); (conv => whnf))
  refine joinI Unit [] (fun _ => [(16, .v (.int .i64 (plA (Plain.parts s) (edT (Plain.parts s) W k))))]) (fun _ => []) (fun _ => True) ?_ fun _ _ => ?_
  · have hff : (decide (0 < (Y.length : Int)) && (Y.getD ((Y.length : Int) - 1).toNat C_part.d).fin) = false → plA (Plain.parts s) (toO (Plain.parts s) W k) = plA (Plain.parts s) (edT (Plain.parts s) W k) := fun h => by
      refine (wf_nofin fun hh => ?_).symm
      rw [hlast hh.1, hh.2, decide_eq_true (by omega)] at h
      cases h
    have hft2 : (decide (0 < (Y.length : Int)) && (Y.getD ((Y.length : Int) - 1).toNat C_part.d).fin) = true → 0 < Y.length ∧ (Y.getD ((Y.length : Int) - 1).toNat C_part.d).c.frm = plA (Plain.parts s) (edT (Plain.parts s) W k) := fun h => by
      rw [Bool.and_eq_true] at h
      have h1 := hyl.1 h.1
      refine ⟨by omega, ?_⟩
      rw [hlast h1] at h ⊢
      exact wf_fin WF hk h1 h.2
    repeat' (first | (with_reducible first | refine ex_of () trivial ?_ | exact fun h => h | refine And.intro ?_ ?_ | intro _ | exact True.intro | rfl | exact LeN.ro rfl | exact LeN.rptr | assumption) | ((with_reducible first | refine Wk.chk ?_ | refine Run.mk ?_); (conv => whnf)))
    all_goals first
      | omega
      | (have h3 := (hft2 (by assumption)).1; first | omega | (apply Fits.i64 <;> omega))
      | (have h3 := of_decide_eq_true (show decide (0 < (Y.length : Int)) = true by assumption); omega)
      | exact (hft2 (by assumption)).2
      | exact hff (by assumption)
      | (apply Fits.i64 <;> omega)
  repeat' ((with_reducible refine Run.mk ?_); (conv => whnf))
  refine joinI Unit [] (fun _ => [(18, .v (.int .i64 (plA (Plain.parts s) (edF (Plain.parts s) W k))))]) (fun _ => []) (fun _ => True) ?_ fun _ _ => ?_
  · have hnil : decide (0 < (Y.length : Int)) = false → plA (Plain.parts s) (edT (Plain.parts s) W k) = plA (Plain.parts s) (edF (Plain.parts s) W k) := fun h => by rw [wf_nil WF hk (hyl.2 h)]
    have htl := trimL_len Y
    have htn := trimN_le Y
    repeat' (first | (with_reducible first | refine ⟨_, ⟨(.cons (.ro _ _ _ _ _) .nil), ?_⟩, ?_⟩ | refine ex_of () trivial ?_ | refine And.intro ?_ ?_ | intro _ | exact True.intro | rfl | exact LeN.ro rfl | exact LeN.rptr) | ((with_reducible first | refine Wk.chk ?_ | refine Run.mk ?_); (conv => whnf)))
    all_goals first
      | omega
      | (apply Fits.i64 <;> omega)
      | (have h3 := of_decide_eq_true (show decide (0 < (Y.length : Int)) = true by assumption); omega)
      | (have h3 := of_decide_eq_true (show decide (0 < ((trimL Y).length : Int)) = true by assumption); omega)
      | exact hnil (by assumption)
      | (have h1 := hyl.1 (by assumption); have h2 : decide (0 < ((trimL Y).length : Int)) = false := by assumption
         have h2 := of_decide_eq_false h2; subst hY; exact wf_from0 WF hk h1 (by omega))
      | (have h2 : decide (0 < ((trimL Y).length : Int)) = true := by assumption
         have h2 := of_decide_eq_true h2
         rw [show (((trimL Y).length : Int) - 1).toNat = (trimL Y).length - 1 by omega]; subst hY; exact wf_from1 WF hk (by omega))
  repeat' ((with_reducible refine Run.mk ?_); (conv => whnf))
  refine joinI Unit [] (fun _ => []) (fun _ => [(4, .box [.v (.string (edW (Plain.parts s) W k)), .v (.slice none 0 0)] 24)]) (fun _ => True) ?_ fun _ _ => ?_
  · have hm : edW (Plain.parts s) W k = if edM (Plain.parts s) W k = true then nlB else ByteArray.empty := rfl
    have hkd2 : edM (Plain.parts s) W k = (decide ((k : Int) < ((wrapL s width).length : Int)) && ((wrapL s width).getD ((k : Int)).toNat C_brk.d).2 != 1) := by
      rw [hkd, hwl, e1, hd3, ← hwl]
      congr 1
      exact decide_eq_decide.2 (by omega)
    by_cases hM : edM (Plain.parts s) W k = true
    · rw [if_pos hM] at hm
      rw [hkd2] at hM
      have hlt := of_decide_eq_true (Bool.and_eq_true_iff.1 hM).1
      rw [hm]
      repeat' (first | (with_reducible first | refine ex_of () trivial ?_ | exact fun h => h | refine And.intro ?_ ?_) | ((with_reducible intro hq); first | exact bne1 (by with_reducible assumption) hq | (revert hq; with_reducible intro _)) | (with_reducible first | exact True.intro | rfl | exact LeN.ro rfl | exact LeN.rptr | assumption) | ((with_reducible first | refine Wk.chk ?_ | refine Run.mk ?_); (conv => whnf)))
      all_goals first
        | omega
        | rfl
    · rw [if_neg hM] at hm
      have hM := Bool.eq_false_iff.2 hM
      rw [hkd2] at hM
      have hlt : decide ((k : Int) < ((wrapL s width).length : Int)) = true → (k : Int) < ((wrapL s width).length : Int) := of_decide_eq_true
      rw [hm]
      repeat' (first | (with_reducible first | refine ex_of () trivial ?_ | exact fun h => h | refine And.intro ?_ ?_) | ((with_reducible intro hq); first | exact bne1 hq (by with_reducible assumption) | (revert hq; with_reducible intro _)) | (with_reducible first | exact True.intro | rfl | exact LeN.ro rfl | exact LeN.rptr | assumption) | ((with_reducible first | refine Wk.chk ?_ | refine Run.mk ?_); (conv => whnf)))
      all_goals first
        | omega
        | exact hlt (by assumption)
        | rfl
  by_cases hKK : edK (Plain.parts s) W k = true
  · have hK2 : (plA (Plain.parts s) (edF (Plain.parts s) W k) == plA (Plain.parts s) (edT (Plain.parts s) W k) && decide (edW (Plain.parts s) W k = { data := #[] })) = true := by rw [hWs, ← hK]; exact hKK
    rw [txGo_skip hKK] at hi2
    repeat' (first | (with_reducible first | refine ex_of (α := Int × ByteArray × List Spn) ((k : Int) - 1, S, L) ⟨⟨⟨?_, ?_⟩, ?_⟩, ?_⟩ ?_ | exact fun h => h | refine And.intro ?_ ?_) | ((with_reducible intro hq); first | exact bne1 (by with_reducible assumption) hq | (revert hq; with_reducible intro _)) | (with_reducible first | exact True.intro | rfl | exact LeN.ro rfl) | ((with_reducible first | refine Wk.chk ?_ | refine Run.mk ?_); (conv => whnf)))
    all_goals first
      | omega
      | (apply Fits.i64 <;> omega)
      | (rw [show (k : Int) - 1 + 1 = (k : Int) by omega, e1]; exact hi2)
      | (dsimp only; omega)
  have hKK := Bool.eq_false_iff.2 hKK
  have hK2 : (plA (Plain.parts s) (edF (Plain.parts s) W k) == plA (Plain.parts s) (edT (Plain.parts s) W k) && decide (edW (Plain.parts s) W k = { data := #[] })) = false := by rw [hWs, ← hK]; exact hKK
  by_cases hE : splE S L (plA (Plain.parts s) (edF (Plain.parts s) W k)) (plA (Plain.parts s) (edT (Plain.parts s) W k)) (edW (Plain.parts s) W k) [] = 0
  · have hE2 : (splE S L (plA (Plain.parts s) (edF (Plain.parts s) W k)) (plA (Plain.parts s) (edT (Plain.parts s) W k)) (edW (Plain.parts s) W k) [] != 0) = false := by rw [hE]; rfl
    rw [txGo_go hKK hE] at hi2
    repeat' (first | (with_reducible first | refine ⟨(_, _, _, _, _, _), ⟨(.cons (.agg (.cons (.v _) (.cons (.lent _ _ _ _ _ _) .nil))) (.cons (.v _) (.cons (.v _) (.cons (.agg (.cons (.v _) (.cons (.nil _ _ _ (fun _ => rfl)) .nil))) .nil)))), ?_⟩, ?_⟩ | refine ex_of (α := Int × ByteArray × List Spn) ((k : Int) - 1, splT S L (plA (Plain.parts s) (edF (Plain.parts s) W k)) (plA (Plain.parts s) (edT (Plain.parts s) W k)) (edW (Plain.parts s) W k) [], splL S L (plA (Plain.parts s) (edF (Plain.parts s) W k)) (plA (Plain.parts s) (edT (Plain.parts s) W k)) (edW (Plain.parts s) W k) []) ⟨⟨⟨?_, ?_⟩, ?_⟩, ?_⟩ ?_ | exact fun h => h | refine And.intro ?_ ?_) | ((with_reducible intro hq); first | exact bne1 hq (by with_reducible assumption) | (revert hq; with_reducible intro _)) | (with_reducible first | exact True.intro | rfl | exact LeN.ro rfl) | ((with_reducible first | refine Wk.chk ?_ | refine Run.mk ?_); (conv => whnf)))
    all_goals first
      | omega
      | (apply Fits.i64 <;> omega)
      | (rw [show (k : Int) - 1 + 1 = (k : Int) by omega, e1]; exact hi2)
      | (dsimp only; omega)
  · have hE2 : (splE S L (plA (Plain.parts s) (edF (Plain.parts s) W k)) (plA (Plain.parts s) (edT (Plain.parts s) W k)) (edW (Plain.parts s) W k) [] != 0) = true := by simpa using hE
    rw [txGo_err hKK hE] at hi2
    repeat' (first | (with_reducible first | refine ⟨(_, _, _, _, _, _), ⟨(.cons (.agg (.cons (.v _) (.cons (.lent _ _ _ _ _ _) .nil))) (.cons (.v _) (.cons (.v _) (.cons (.agg (.cons (.v _) (.cons (.nil _ _ _ (fun _ => rfl)) .nil))) .nil)))), ?_⟩, ?_⟩ | exact fun h => h | refine And.intro ?_ ?_) | ((with_reducible intro hq); first | exact bne1 hq (by with_reducible assumption) | exact bne1 (by with_reducible assumption) hq | (revert hq; with_reducible intro _)) | (with_reducible exact True.intro) | ((with_reducible first | refine LeF.chk ?_ | refine Run.mk ?_); (conv => whnf)) | ((with_reducible show LeR _ _ _); refine LeR.nil ?_ (fun _ => rfl)))
    all_goals (rw [← hi2]; first | done | rfl)
end Go.SX.Tryz
/- Contract of the document's chapter 1: Runes. -/
namespace Go.SX.Tryz
open Go.Proofs Go.Proofs.Tryz Go.SX.Plain
set_option maxRecDepth 100000
set_option maxHeartbeats 0
set_option linter.unusedSimpArgs false
theorem q_rrunes : fact 43 f43 := ⟨by kernel_rfl, rfl, by kernel_rfl⟩
theorem con_rrunes : Con prog 43 (fun s : ByteArray => [.v (.string s)]) (fun s => .ro 1 C_int.enc C_int.d (runes s) none) (fun s => s.size ≤ 1100000) := by
  refine Con.of (by kernel_rfl) T_ok D_sgn_ok (.con con_rsigns .nil) 3 [] q_rrunes.1 q_rrunes.2.1 q_rrunes.2.2 (fun _ => rfl) fun s hs => ?_
  have hl := sgns_len s
  repeat' (first | (with_reducible first | refine ⟨_, ⟨(.cons (.v _) .nil), ?_⟩, ?_⟩ | assumption) | ((with_reducible refine Run.mk ?_); (conv => whnf)))
  refine loopI Nat [] (fun i => [(5, .v (.int .i64 (i : Int))), (4, .own 1)]) (fun i => [(1, .row C_int ((runes s).take i) 3 none)])
    (fun i => i ≤ (sgns s).length) (fun i => (sgns s).length - i) 0 (Nat.zero_le _) (Wk.chk ?_) fun i hi => ?_
  · ((conv => whnf); repeat' (first | (with_reducible first | refine And.intro ?_ ?_ | exact True.intro | rfl | refine EntLe.row ?_ | exact LeN.ro rfl) | ((with_reducible refine Run.mk ?_); (conv => whnf))))
    all_goals rfl
  have e0 : ((i : Int)).toNat = i := Int.toNat_natCast _
  have hrl : (runes s).length = (sgns s).length := by simp [runes]
  have htl : (List.take i (runes s)).length ≤ i := List.length_take_le _ _
  repeat' (first | (with_reducible first | refine ex_of (i + 1) ⟨?_, ?_⟩ ?_ | refine And.intro ?_ ?_ | intro _ | exact True.intro | rfl | refine EntLe.row ?_ | exact LeN.ro rfl) | ((with_reducible first | refine Wk.chk ?_ | refine LeL.chk ?_ | refine LeF.chk ?_ | refine Run.mk ?_); (conv => whnf)) | ((with_reducible show LeR _ _ _); refine LeR.own rfl rfl rfl ?_))
  all_goals (try simp only [e0, decide_eq_true_eq, decide_eq_false_iff_not] at *)
  all_goals first
    | omega
    | rfl
    | (refine Fits.i64 ?_ ?_ <;> omega)
    | (simp only [List.length_cons, List.length_nil]; omega)
    | exact take_map _ _ _ (by omega)
    | exact take_all _ (by omega)
end Go.SX.Tryz
/- Contracts of the document's chapter 2. -/
namespace Go.SX.Tryz
open Go.Proofs Go.Proofs.Tryz Go.SX.Plain
set_option maxRecDepth 100000
set_option maxHeartbeats 0
set_option linter.unusedSimpArgs false
theorem q_rnone : fact 107 f107 := ⟨by kernel_rfl, rfl, by kernel_rfl⟩
theorem q_rwide : fact 108 f108 := ⟨by kernel_rfl, rfl, by kernel_rfl⟩
theorem q_rwidth : fact 91 f91 := ⟨by kernel_rfl, rfl, by kernel_rfl⟩
theorem q_rcontrol : fact 92 f92 := ⟨by kernel_rfl, rfl, by kernel_rfl⟩
theorem q_rletter : fact 93 f93 := ⟨by kernel_rfl, rfl, by kernel_rfl⟩
theorem q_rcsigns : fact 71 f71 := ⟨by kernel_rfl, rfl, by kernel_rfl⟩
theorem q_rjoins : fact 72 f72 := ⟨by kernel_rfl, rfl, by kernel_rfl⟩
theorem q_rcells : fact 73 f73 := ⟨by kernel_rfl, rfl, by kernel_rfl⟩
theorem q_rclusters : fact 44 f44 := ⟨by kernel_rfl, rfl, by kernel_rfl⟩
theorem con_rnone : Con prog 107 (fun r : Int => [.v (.int .i32 r)]) (fun r => .sb (nothingB r)) (fun _ => True) := by
  refine Con.of (by kernel_rfl) T_ok CdsOK.nil GamOK.nil 1 [] q_rnone.1 q_rnone.2.1 q_rnone.2.2 (fun _ => rfl) fun r _ => ?_
  repeat' (first | (with_reducible first | exact fun h => h | refine And.intro ?_ ?_ | intro _ | exact True.intro) | ((with_reducible first | refine LeF.chk ?_ | refine Run.mk ?_); (conv => whnf)))
  all_goals rw [Bool.eq_iff_iff]
  all_goals simp only [nothingB, true_iff, false_iff, Bool.or_eq_true, Bool.and_eq_true, decide_eq_true_eq, decide_eq_false_iff_not, Bool.and_eq_false_iff, beq_iff_eq, beq_eq_false_iff_ne, eq_self, iff_true, Bool.false_eq_true, Bool.or_eq_false_iff] at *
  all_goals unfold nothingP
  all_goals omega
theorem con_rwide : Con prog 108 (fun r : Int => [.v (.int .i32 r)]) (fun r => .sb (wideB r)) (fun _ => True) := by
  refine Con.of (by kernel_rfl) T_ok CdsOK.nil GamOK.nil 1 [] q_rwide.1 q_rwide.2.1 q_rwide.2.2 (fun _ => rfl) fun r _ => ?_
  repeat' (first | (with_reducible first | exact fun h => h | refine And.intro ?_ ?_ | intro _ | exact True.intro) | ((with_reducible first | refine LeF.chk ?_ | refine Run.mk ?_); (conv => whnf)))
  all_goals rw [Bool.eq_iff_iff]
  all_goals simp only [wideB, true_iff, false_iff, Bool.or_eq_true, Bool.and_eq_true, decide_eq_true_eq, decide_eq_false_iff_not, Bool.and_eq_false_iff, beq_iff_eq, beq_eq_false_iff_ne, eq_self, iff_true, Bool.false_eq_true, Bool.or_eq_false_iff] at *
  all_goals unfold wideP
  all_goals omega
theorem con_rwidth : Con prog 91 (fun r : Int => [.v (.int .i32 r)]) (fun r => .v (.int .i64 (widthI r))) (fun _ => True) := by
  refine Con.of (by kernel_rfl) T_ok CdsOK.nil (.con con_rnone (.con con_rwide GamOK.nil)) 2 [] q_rwidth.1 q_rwidth.2.1 q_rwidth.2.2 (fun _ => rfl) fun r _ => ?_
  repeat' (first | (with_reducible first | refine ⟨_, ⟨.cons (.v _) .nil, trivial⟩, ?_⟩ | refine And.intro ?_ ?_ | intro _ | exact True.intro) | ((with_reducible first | refine LeF.chk ?_ | refine Run.mk ?_); (conv => whnf)))
  all_goals simp_all [widthI]
theorem con_rcontrol : Con prog 92 (fun r : Int => [.v (.int .i32 r)]) (fun r => .sb (controlB r)) (fun _ => True) := by
  refine Con.of (by kernel_rfl) T_ok CdsOK.nil GamOK.nil 1 [] q_rcontrol.1 q_rcontrol.2.1 q_rcontrol.2.2 (fun _ => rfl) fun r _ => ?_
  repeat' (first | (with_reducible first | exact fun h => h | refine And.intro ?_ ?_ | intro _ | exact True.intro | assumption) | ((with_reducible first | refine LeF.chk ?_ | refine Run.mk ?_); (conv => whnf)))
  all_goals (try unfold controlB)
  all_goals (rw [Bool.eq_iff_iff])
  all_goals simp only [ true_iff, false_iff, Bool.or_eq_true, Bool.and_eq_true, decide_eq_true_eq, decide_eq_false_iff_not, Bool.and_eq_false_iff, beq_iff_eq, beq_eq_false_iff_ne, eq_self, iff_true, Bool.false_eq_true, Bool.or_eq_false_iff, Bool.not_eq_true'] at *
  all_goals (try unfold controlP)
  all_goals omega
theorem con_rletter : Con prog 93 (fun r : Int => [.v (.int .i32 r)]) (fun r => .sb (flagB r)) (fun _ => True) := by
  refine Con.of (by kernel_rfl) T_ok CdsOK.nil GamOK.nil 1 [] q_rletter.1 q_rletter.2.1 q_rletter.2.2 (fun _ => rfl) fun r _ => ?_
  repeat' (first | (with_reducible first | exact fun h => h | refine And.intro ?_ ?_ | exact True.intro) | ((with_reducible first | refine LeF.chk ?_ | refine Run.mk ?_); (conv => whnf)))
  all_goals rw [Bool.eq_iff_iff]
  all_goals simp only [flagB, true_iff, false_iff, Bool.or_eq_true, Bool.and_eq_true, decide_eq_true_eq, decide_eq_false_iff_not, Bool.and_eq_false_iff, beq_iff_eq, beq_eq_false_iff_ne, eq_self, iff_true, Bool.false_eq_true] at *
  all_goals unfold flagP
  all_goals omega
def C_i32 : Cdc Int where
  size := 1
  enc p := [.v (.int .i32 p)]
  dec l := match l with
    | [.v (.int _ a)] => a
    | _ => 0
  d := 0
def D_csg : Cds := [(21, ⟨Int, C_i32⟩), (3, ⟨Int, C_int⟩)]
theorem D_csg_ok : CdsOK T D_csg := .cons ⟨fun _ => rfl, by decide, _, rfl, rfl, by decide⟩ (.cons ⟨fun _ => rfl, by decide, _, rfl, rfl, by decide⟩ .nil)
def C_clu : Cdc Clu where
  size := 5
  enc p := [.v (.int .i64 p.at), .v (.int .i64 p.len), .v (.int .i64 p.frm), .v (.int .i64 p.to), .v (.int .i64 p.cells)]
  dec l := match l with
    | [.v (.int _ a), .v (.int _ b), .v (.int _ c), .v (.int _ d), .v (.int _ e)] => ⟨a, b, c, d, e⟩
    | _ => ⟨0, 0, 0, 0, 0⟩
  d := ⟨0, 0, 0, 0, 0⟩
def D_clu : Cds := [(95, ⟨Clu, C_clu⟩)]
theorem D_clu_ok : CdsOK T D_clu := .cons ⟨fun _ => rfl, by decide, _, rfl, rfl, by decide⟩ .nil
theorem con_rcsigns : Con prog 71 (fun s : ByteArray => [.v (.string s)]) (fun s => .tup [.ro 1 C_i32.enc C_i32.d (rl s) none, .ro 1 C_int.enc C_int.d (al s) none]) (fun s => s.size ≤ 1100000) := by
  refine Con.of (by kernel_rfl) T_ok D_csg_ok .nil 2 [] q_rcsigns.1 q_rcsigns.2.1 q_rcsigns.2.2 (fun _ => rfl) fun s hs => ?_
  repeat' ((with_reducible refine Run.mk ?_); (conv => whnf))
  have hl := signsFrom_len s
  refine loopI (Nat × List Int × List Int) [] (fun _ => [(4, .own 2), (5, .own 3)]) (fun | (pos, l, a) => [(4, .iter s pos), (3, .row C_int a 3 none), (2, .row C_i32 l 21 none)])
    (fun | (pos, l, a) => pos ≤ s.size ∧ l.length ≤ pos ∧ a.length ≤ pos ∧ l ++ (signsFrom s pos).map (fun p => (p.2 : Int)) = rl s ∧ a ++ ((signsFrom s pos).map (fun p => (p.1 : Int)) ++ [(s.size : Int)]) = al s) (fun | (pos, _) => s.size - pos) (0, [], []) ⟨Nat.zero_le _, Nat.le_refl _, Nat.le_refl _, rfl, rfl⟩ (Wk.chk ?_) fun i hi => ?_
  · ((conv => whnf); repeat' (first | (with_reducible first | refine And.intro ?_ ?_ | exact True.intro | rfl | refine EntLe.row ?_) | ((with_reducible refine Run.mk ?_); (conv => whnf))))
    all_goals rfl
  obtain ⟨pos, l, a⟩ := i
  obtain ⟨h0, h1, h2, h3, h4⟩ := hi
  repeat' (first | (with_reducible first | refine ex_of (α := Nat × List Int × List Int) (pos + (Utf8.decode s pos).2, l ++ [((Utf8.decode s pos).1 : Int)], a ++ [(pos : Int)]) ⟨⟨?_, ?_, ?_, ?_, ?_⟩, ?_⟩ ?_ | refine And.intro ?_ ?_ | intro _ | exact True.intro | rfl | refine EntLe.row ?_) | ((with_reducible first | refine Wk.chk ?_ | refine LeL.chk ?_ | refine LeF.chk ?_ | refine Run.mk ?_); (conv => whnf)) | ((with_reducible show LeR _ _ _); refine LeR.own rfl rfl rfl ?_))
  all_goals first
    | rfl
    | (have hw := width_pos s pos
       have hwl := width_le (s := s) (pos := pos) (by assumption)
       first
       | omega
       | (simp only [List.length_append, List.length_cons, List.length_nil]; omega)
       | (rw [signsFrom_step (by assumption)] at h3; rw [List.append_assoc]; exact h3)
       | (rw [signsFrom_step (by assumption)] at h4; rw [List.append_assoc]; exact h4)
       | (dsimp only; omega))
    | (simp only [List.length_cons, List.length_nil]; omega)
    | (rw [signsFrom_end (by assumption)] at h3; simpa using h3)
    | (rw [signsFrom_end (by assumption)] at h4; simpa [C_int] using h4)
theorem con_rjoins : Con prog 72 (fun ((l, f, k) : List Int × Int × Int) => [.ro 1 C_i32.enc C_i32.d l none, .v (.int .i64 f), .v (.int .i64 k)]) (fun (l, f, k) => .sb (joinsB l f.toNat k.toNat)) (fun (l, f, k) => 0 ≤ f ∧ f < k ∧ k < l.length ∧ l.length ≤ 1100000) := by
  refine Con.of (by kernel_rfl) T_ok D_csg_ok (.con con_rwidth (.con con_rcontrol (.con con_rletter .nil))) 3 [] q_rjoins.1 q_rjoins.2.1 q_rjoins.2.2 (fun _ => rfl) fun i hi => ?_
  obtain ⟨l, f, k⟩ := i
  obtain ⟨h1, h2, h3, h4⟩ : 0 ≤ f ∧ f < k ∧ k < l.length ∧ l.length ≤ 1100000 := hi
  obtain ⟨f, rfl⟩ := Int.eq_ofNat_of_zero_le h1
  obtain ⟨k, rfl⟩ := Int.eq_ofNat_of_zero_le (show 0 ≤ k by omega)
  have e1 : ((f : Int)).toNat = f := Int.toNat_natCast _
  have e2 : ((k : Int)).toNat = k := Int.toNat_natCast _
  have e3 : ((k : Int) - 1).toNat = k - 1 := by omega
  have e4 : C_i32.d = 0 := rfl
  have e5 : ((k : Int) == (f : Int) + 1) = decide (k = f + 1) := by rw [Bool.eq_iff_iff]; simp; omega
  repeat' (first | (with_reducible first | refine ⟨_, ⟨(.cons (.v _) .nil), ?_⟩, ?_⟩ | exact fun h => h | refine And.intro ?_ ?_) | ((with_reducible intro hq); first | exact bne1 hq (by with_reducible assumption) | ((simp only [*, BB, cond_true, cond_false, reduceCtorEq] at hq); done) | (revert hq; with_reducible intro _)) | (with_reducible first | exact True.intro | assumption) | ((with_reducible first | refine LeF.chk ?_ | refine Run.mk ?_); (conv => whnf)))
  all_goals (try simp only [e1, e2, e3, e4, e5] at *)
  all_goals first
    | omega
    | (refine Fits.i64 ?_ ?_ <;> omega)
    | (unfold joinsB; simp_all; done)
theorem con_rcells : Con prog 73 (fun ((l, f, k) : List Int × Int × Int) => [.ro 1 C_i32.enc C_i32.d l none, .v (.int .i64 f), .v (.int .i64 k)]) (fun (l, f, k) => .v (.int .i64 (cellsR l f.toNat k.toNat))) (fun (l, f, k) => 0 ≤ f ∧ f < k ∧ k ≤ l.length ∧ l.length ≤ 1100000) := by
  refine Con.of (by kernel_rfl) T_ok D_csg_ok (.con con_rwidth (.con con_rletter .nil)) 3 [3] q_rcells.1 q_rcells.2.1 q_rcells.2.2 (fun _ => rfl) fun i hi => ?_
  obtain ⟨l, f, k⟩ := i
  obtain ⟨h1, h2, h3, h4⟩ : 0 ≤ f ∧ f < k ∧ k ≤ l.length ∧ l.length ≤ 1100000 := hi
  obtain ⟨f, rfl⟩ := Int.eq_ofNat_of_zero_le h1
  obtain ⟨k, rfl⟩ := Int.eq_ofNat_of_zero_le (show 0 ≤ k by omega)
  have e1 : ((f : Int)).toNat = f := Int.toNat_natCast _
  have e2 : ((k : Int)).toNat = k := Int.toNat_natCast _
  have e3 : ((f : Int) + 1).toNat = f + 1 := by omega
  have e4 : C_i32.d = 0 := rfl
  repeat' ((with_reducible refine Run.mk ?_); (conv => whnf))
  refine joinI Unit [] (fun _ => []) (fun _ => []) (fun _ => f + 1 < k → flagB (l.getD f 0) = true → flagB (l.getD (f + 1) 0) = false) ?_ fun _ hP => ?_
  · repeat' (first | (with_reducible first | refine ⟨_, ⟨(.cons (.v _) .nil), ?_⟩, ?_⟩ | refine ex_of () ?_ ?_ | exact fun h => h | refine And.intro ?_ ?_ | intro _ | exact True.intro | rfl | exact LeN.ro rfl | assumption) | ((with_reducible first | refine Wk.chk ?_ | refine LeF.chk ?_ | refine Run.mk ?_); (conv => whnf)))
    all_goals (try simp only [e1, e2, e3, e4, decide_eq_true_eq, decide_eq_false_iff_not, Bool.and_eq_true, Bool.and_eq_false_iff] at *)
    all_goals first
      | omega
      | (refine Fits.i64 ?_ ?_ <;> omega)
      | (rw [cellsR_pair (by omega) (by simp_all) (by simp_all)]; done)
      | simp_all
  · have hc := cellsR_arrow hP
    repeat' (first | (with_reducible first | refine ⟨_, ⟨(.cons (.v _) .nil), ?_⟩, ?_⟩ | exact fun h => h | refine And.intro ?_ ?_ | intro _ | exact True.intro | assumption) | ((with_reducible first | refine LeF.chk ?_ | refine Run.mk ?_); (conv => whnf)))
    all_goals (try simp only [e1, e2, e3, e4, decide_eq_true_eq, decide_eq_false_iff_not] at *)
    all_goals first
      | omega
      | (refine Fits.i64 ?_ ?_ <;> omega)
      | skip
    · rename_i ha
      have ha : arrowB (l.getD f 0) = true := ha
      refine loopI Nat [] (fun i => [(7, .v (.int .i64 (i : Int)))]) (fun _ => []) (fun i => f < i ∧ i ≤ k ∧ variant l f i = false) (fun i => k - i) (f + 1) ⟨by omega, by omega, variant_one l f _ (Nat.le_refl _)⟩ (Wk.chk ?_) fun i hi => ?_
      · ((conv => whnf); repeat' (first | (with_reducible first | refine And.intro ?_ ?_ | exact True.intro | rfl | exact LeN.ro rfl | exact LeN.rptr) | ((with_reducible refine Run.mk ?_); (conv => whnf))))
        all_goals rfl
      obtain ⟨i1, i2, i3⟩ := hi
      have e5 : ((i : Int)).toNat = i := Int.toNat_natCast _
      repeat' (first | (with_reducible first | refine ⟨_, ⟨(.cons (.v _) .nil), ?_⟩, ?_⟩ | refine ex_of (i + 1) ⟨⟨?_, ?_, ?_⟩, ?_⟩ ?_ | refine And.intro ?_ ?_ | intro _ | exact True.intro | rfl | exact LeN.ro rfl | exact LeN.rptr | assumption) | ((with_reducible first | refine Wk.chk ?_ | refine LeF.chk ?_ | refine Run.mk ?_); (conv => whnf)))
      all_goals (try simp only [e1, e2, e3, e4, e5, decide_eq_true_eq, decide_eq_false_iff_not, beq_iff_eq, beq_eq_false_iff_ne, ne_eq] at *)
      all_goals first
        | omega
        | (refine Fits.i64 ?_ ?_ <;> omega)
        | (rw [hc, if_pos ⟨ha, variant_yes i1 (by assumption) k (by omega)⟩]; done)
        | exact variant_no i3 (by assumption)
        | (have : i = k := by omega
           subst this
           rw [hc, if_neg (by rw [i3]; simp), Int.toNat_natCast])
    · rename_i ha
      have ha : arrowB (l.getD f 0) = false := ha
      rw [hc, if_neg (by rw [ha]; simp)]
theorem con_rclusters : Con prog 44 (fun s : ByteArray => [.v (.string s)]) (fun s => .ro 5 C_clu.enc C_clu.d (clusters s) none) (fun s => s.size ≤ 1100000) := by
  refine Con.of (by kernel_rfl) T_ok D_clu_ok (.con con_rcsigns (.con con_rjoins (.con con_rcells .nil))) 3 [] q_rclusters.1 q_rclusters.2.1 q_rclusters.2.2 (fun _ => rfl) fun s hs => ?_
  repeat' (first | (with_reducible first | refine ⟨_, ⟨(.cons (.v _) .nil), ?_⟩, ?_⟩ | assumption) | ((with_reducible refine Run.mk ?_); (conv => whnf)))
  have hl := signsFrom_len s
  have hrl := rl_len s
  have hal := al_len s
  refine loopI (Nat × List Clu) [] (fun | (f, _) => [(6, .v (.int .i64 (f : Int))), (5, .own 1)]) (fun | (_, o) => [(1, .row C_clu o 95 none)])
    (fun | (f, o) => f ≤ (rl s).length ∧ o.length ≤ f ∧ o ++ remAt (rl s) (al s) f = clusters s) (fun | (f, _) => (rl s).length - f) (0, []) ⟨Nat.zero_le _, Nat.le_refl _, ?_⟩ (Wk.chk ?_) fun i hi => ?_
  · rw [clusters_rem, ← hrl]; rfl
  · ((conv => whnf); repeat' (first | (with_reducible first | refine And.intro ?_ ?_ | exact True.intro | rfl | refine EntLe.row ?_ | exact LeN.ro rfl) | ((with_reducible refine Run.mk ?_); (conv => whnf))))
    all_goals rfl
  obtain ⟨f, o⟩ := i
  obtain ⟨h1, h2, h3⟩ := hi
  have e1 : ((f : Int)).toNat = f := Int.toNat_natCast _
  have e4 : C_i32.d = 0 := rfl
  have e5 : C_int.d = 0 := rfl
  repeat' (first | (with_reducible first | refine And.intro ?_ ?_ | intro _ | exact True.intro) | ((with_reducible first | refine LeF.chk ?_ | refine Run.mk ?_); (conv => whnf)) | ((with_reducible show LeR _ _ _); refine LeR.own rfl rfl rfl ?_))
  · rename_i hlt
    simp only [decide_eq_true_eq] at hlt
    refine Fits.i64 ?_ ?_ <;> omega
  · rename_i hlt
    simp only [decide_eq_true_eq] at hlt
    unfold remAt at h3
    rw [if_pos (by omega)] at h3
    refine loopI (Nat × Unit) [] (fun | (t, _) => [(7, .v (.int .i64 (t : Int)))]) (fun _ => []) (fun | (t, _) => f < t ∧ t ≤ (rl s).length ∧ o ++ rem (rl s) (al s) f t = clusters s) (fun | (t, _) => (rl s).length - t) (f + 1, ()) ⟨by omega, by omega, h3⟩ (Wk.chk ?_) fun t ht => ?_
    · ((conv => whnf); repeat' (first | (with_reducible first | refine And.intro ?_ ?_ | exact True.intro | rfl | refine EntLe.row ?_ | exact LeN.ro rfl) | ((with_reducible refine Run.mk ?_); (conv => whnf))))
      all_goals rfl
    obtain ⟨t, _⟩ := t
    obtain ⟨t1, t2, t3⟩ := ht
    have e2 : ((t : Int)).toNat = t := Int.toNat_natCast _
    have ab1 := al_bd s t
    have ab2 := al_bd s f
    repeat' (first | (with_reducible first | refine ⟨(_, _, _), ⟨(.cons (.ro _ _ _ _ _) (.cons (.v _) (.cons (.v _) .nil))), ?_⟩, ?_⟩ | refine ex_of (α := Nat × Unit) (t + 1, ()) ⟨⟨?_, ?_, ?_⟩, ?_⟩ ?_ | refine ex_of (α := Nat × List Clu) (t, o ++ [(gAt (rl s) (al s) f t).c]) ⟨⟨?_, ?_, ?_⟩, ?_⟩ ?_ | refine And.intro ?_ ?_ | intro _ | exact True.intro | rfl | refine EntLe.row ?_ | exact LeN.ro rfl | assumption) | ((with_reducible first | refine Wk.chk ?_ | refine LeL.chk ?_ | refine Run.mk ?_); (conv => whnf)) | ((with_reducible show drawOK _ _ = true); kernel_rfl))
    all_goals (try simp only [e1, e2, e4, e5, decide_eq_true_eq, decide_eq_false_iff_not, beq_iff_eq, beq_eq_false_iff_ne, ne_eq] at *)
    all_goals first
      | omega
      | rfl
      | (rw [← rem_join (by omega) (by simp_all)]; exact t3)
      | (unfold remAt
         rw [List.append_assoc, ← t3]
         congr 1
         first
         | (have hj : joinsB (rl s) f t = false := by
              have h9 : (decide ((t : Int) < ((rl s).length : Int)) && joinsB (rl s) f t) = false := by assumption
              rwa [decide_eq_true (by omega), Bool.true_and] at h9
            rw [if_pos (by omega), rem_part (by omega) hj]; rfl)
         | (rw [if_neg (by omega), rem_end (by omega)]; rfl))
      | (refine Fits.i64 ?_ ?_ <;> omega)
      | (simp only [List.length_append, List.length_cons, List.length_nil]; omega)
  · rename_i hlt
    simp only [decide_eq_false_iff_not] at hlt
    unfold remAt at h3
    rw [if_neg (by omega)] at h3
    simpa using h3
end Go.SX.Tryz
/- Contracts of the document's chapter 10: runes among some, pieces, kinds, places. -/
namespace Go.SX.Tryz
open Go.Proofs Go.Proofs.Tryz Go.SX.Plain
set_option maxRecDepth 100000
set_option maxHeartbeats 0
set_option linter.unusedSimpArgs false
theorem q_among : fact 79 f79 := ⟨by kernel_rfl, rfl, by kernel_rfl⟩
theorem q_ends : fact 22 f22 := ⟨by kernel_rfl, rfl, by kernel_rfl⟩
theorem q_rblank : fact 47 f47 := ⟨by kernel_rfl, rfl, by kernel_rfl⟩
theorem q_pwide : fact 75 f75 := ⟨by kernel_rfl, rfl, by kernel_rfl⟩
theorem q_dash : fact 74 f74 := ⟨by kernel_rfl, rfl, by kernel_rfl⟩
theorem q_opening : fact 76 f76 := ⟨by kernel_rfl, rfl, by kernel_rfl⟩
theorem q_closing : fact 77 f77 := ⟨by kernel_rfl, rfl, by kernel_rfl⟩
theorem q_kind : fact 45 f45 := ⟨by kernel_rfl, rfl, by kernel_rfl⟩
theorem q_kinds : fact 20 f20 := ⟨by kernel_rfl, rfl, by kernel_rfl⟩
theorem q_place : fact 48 f48 := ⟨by kernel_rfl, rfl, by kernel_rfl⟩
theorem q_pieces : fact 19 f19 := ⟨by kernel_rfl, rfl, by kernel_rfl⟩
theorem q_rcheck : fact 18 f18 := ⟨by kernel_rfl, rfl, by kernel_rfl⟩
abbrev pcAV (x : Pc) : List AV := [.v (.int .i64 x.r), .v (.int .i64 x.frm), .v (.int .i64 x.to), .v (.int .i64 x.cells)]
def C_pc : Cdc Pc where
  size := 4
  enc := pcAV
  dec l := match l with
    | [.v (.int _ a), .v (.int _ b), .v (.int _ c), .v (.int _ d)] => ⟨a, b, c, d⟩
    | _ => ⟨0, 0, 0, 0⟩
  d := ⟨0, 0, 0, 0⟩
def C_intL : Cdc Int := { C_int with lit := true }
def D_pc : Cds := [(66, ⟨Pc, C_pc⟩), (3, ⟨Int, C_intL⟩)]
theorem D_pc_ok : CdsOK T D_pc := .cons ⟨fun _ => rfl, by decide, _, rfl, rfl, by decide⟩ (.cons ⟨fun _ => rfl, by decide, _, rfl, rfl, by decide⟩ .nil)
theorem con_among : Con prog 79 (fun ((r, l) : Int × List Int) => [.v (.int .i64 r), .ro 1 C_int.enc C_int.d l none]) (fun (r, l) => .sb (amongB r l)) (fun (_, l) => l.length ≤ 1100000) := by
  refine Con.of (by kernel_rfl) T_ok D_pc_ok .nil 2 [] q_among.1 q_among.2.1 q_among.2.2 (fun _ => rfl) fun i hi => ?_
  obtain ⟨r, l⟩ := i
  have hi : l.length ≤ 1100000 := hi
  repeat' ((with_reducible refine Run.mk ?_); (conv => whnf))
  refine loopI Nat [] (fun i => [(5, .v (.int .i64 (i : Int)))]) (fun _ => []) (fun i => i ≤ l.length ∧ amongB r l = (l.drop i).any fun x => x == r) (fun i => l.length - i) 0 ⟨Nat.zero_le _, rfl⟩ (Wk.chk ?_) fun i hi2 => ?_
  · ((conv => whnf); repeat' (first | (with_reducible first | refine And.intro ?_ ?_ | exact True.intro | rfl | exact LeN.ro rfl) | ((with_reducible refine Run.mk ?_); (conv => whnf))))
    all_goals rfl
  obtain ⟨h1, h2⟩ := hi2
  have e1 : ((i : Int)).toNat = i := Int.toNat_natCast _
  have e2 : C_int.d = 0 := rfl
  repeat' (first | (with_reducible first | refine ex_of (i + 1) ⟨⟨?_, ?_⟩, ?_⟩ ?_ | refine And.intro ?_ ?_ | intro _ | exact True.intro | rfl | exact LeN.ro rfl) | ((with_reducible first | refine Wk.chk ?_ | refine LeF.chk ?_ | refine Run.mk ?_); (conv => whnf)))
  all_goals (try simp only [e1, e2, decide_eq_true_eq, decide_eq_false_iff_not] at *)
  all_goals first
    | omega
    | (refine Fits.i64 ?_ ?_ <;> omega)
    | (have hb : (l.getD i 0 == r) = true := by assumption
       rw [h2, drop_any _ _ 0 (by omega), hb]; rfl)
    | (have hb : (l.getD i 0 == r) = false := by assumption
       rw [h2, drop_any _ _ 0 (by omega), hb]; rfl)
    | (rw [h2, drop_any_end _ _ (by omega)])
theorem con_ends : Con prog 22 (fun x : Pc => [.agg (pcAV x)]) (fun x => .sb (endsP x)) (fun _ => True) := by
  refine Con.of (by kernel_rfl) T_ok D_pc_ok .nil 2 [] q_ends.1 q_ends.2.1 q_ends.2.2 (fun _ => rfl) fun i _ => ?_
  repeat' (first | (with_reducible first | refine And.intro ?_ ?_ | exact True.intro) | ((with_reducible first | refine LeF.chk ?_ | refine Run.mk ?_); (conv => whnf)))
  all_goals rfl
theorem con_rblank : Con prog 47 (fun x : Pc => [.agg (pcAV x)]) (fun x => .sb (blankP x)) (fun _ => True) := by
  refine Con.of (by kernel_rfl) T_ok D_pc_ok (.con con_among .nil) 2 [] q_rblank.1 q_rblank.2.1 q_rblank.2.2 (fun _ => rfl) fun x _ => ?_
  repeat' (first | (with_reducible first | refine ⟨(_, _), ⟨(.cons (.v _) (.cons (.ro _ _ _ _ _) .nil)), ?_⟩, ?_⟩ | exact fun h => h | refine And.intro ?_ ?_ | intro _ | exact True.intro | assumption) | ((with_reducible first | refine LeL.chk ?_ | refine LeF.chk ?_ | refine Run.mk ?_); (conv => whnf)))
  all_goals first
    | rfl
    | (dsimp only [List.length_cons, List.length_nil]; omega)
    | (simp_all; done)
theorem con_dash : Con prog 74 (fun x : Pc => [.agg (pcAV x)]) (fun x => .sb (dashP x)) (fun _ => True) := by
  refine Con.of (by kernel_rfl) T_ok D_pc_ok (.con con_among .nil) 2 [] q_dash.1 q_dash.2.1 q_dash.2.2 (fun _ => rfl) fun x _ => ?_
  repeat' (first | (with_reducible first | refine ⟨(_, _), ⟨(.cons (.v _) (.cons (.ro _ _ _ _ _) .nil)), ?_⟩, ?_⟩ | refine And.intro ?_ ?_ | exact True.intro) | ((with_reducible first | refine LeL.chk ?_ | refine LeF.chk ?_ | refine Run.mk ?_); (conv => whnf)))
  all_goals first
    | rfl
    | (dsimp only [List.length_cons, List.length_nil]; omega)
theorem con_opening : Con prog 76 (fun x : Pc => [.agg (pcAV x)]) (fun x => .sb (openingP x)) (fun _ => True) := by
  refine Con.of (by kernel_rfl) T_ok D_pc_ok (.con con_among .nil) 2 [] q_opening.1 q_opening.2.1 q_opening.2.2 (fun _ => rfl) fun x _ => ?_
  repeat' (first | (with_reducible first | refine ⟨(_, _), ⟨(.cons (.v _) (.cons (.ro _ _ _ _ _) .nil)), ?_⟩, ?_⟩ | refine And.intro ?_ ?_ | exact True.intro) | ((with_reducible first | refine LeL.chk ?_ | refine LeF.chk ?_ | refine Run.mk ?_); (conv => whnf)))
  all_goals first
    | rfl
    | (dsimp only [List.length_cons, List.length_nil]; omega)
theorem con_closing : Con prog 77 (fun x : Pc => [.agg (pcAV x)]) (fun x => .sb (closingP x)) (fun _ => True) := by
  refine Con.of (by kernel_rfl) T_ok D_pc_ok (.con con_among .nil) 2 [] q_closing.1 q_closing.2.1 q_closing.2.2 (fun _ => rfl) fun x _ => ?_
  repeat' (first | (with_reducible first | refine ⟨(_, _), ⟨(.cons (.v _) (.cons (.ro _ _ _ _ _) .nil)), ?_⟩, ?_⟩ | refine And.intro ?_ ?_ | exact True.intro) | ((with_reducible first | refine LeL.chk ?_ | refine LeF.chk ?_ | refine Run.mk ?_); (conv => whnf)))
  all_goals first
    | rfl
    | (dsimp only [List.length_cons, List.length_nil]; omega)
theorem con_pwide : Con prog 75 (fun x : Pc => [.agg (pcAV x)]) (fun x => .sb (wideP' x)) (fun _ => True) := by
  refine Con.of (by kernel_rfl) T_ok D_pc_ok (.con con_rblank .nil) 2 [] q_pwide.1 q_pwide.2.1 q_pwide.2.2 (fun _ => rfl) fun x _ => ?_
  repeat' (first | (with_reducible first | refine ⟨⟨_, _, _, _⟩, ⟨(.cons (.agg (.cons (.v _) (.cons (.v _) (.cons (.v _) (.cons (.v _) .nil))))) .nil), ?_⟩, ?_⟩ | exact fun h => h | refine And.intro ?_ ?_) | ((with_reducible intro hq); first | exact bne1 hq (by with_reducible assumption) | (revert hq; with_reducible intro _)) | (with_reducible first | exact True.intro | assumption) | ((with_reducible first | refine LeF.chk ?_ | refine Run.mk ?_); (conv => whnf)))
  all_goals first
    | rfl
    | (unfold wideP'; simp_all; done)
theorem con_rcheck : Con prog 18 (fun ((s, w) : ByteArray × Int) => [.v (.string s), .v (.int .i64 w)]) (fun (s, w) => .v (.int .i64 (checkN s.size w))) (fun _ => True) := by
  refine Con.of (by kernel_rfl) T_ok CdsOK.nil .nil 2 [] q_rcheck.1 q_rcheck.2.1 q_rcheck.2.2 (fun _ => rfl) fun i _ => ?_
  obtain ⟨s, w⟩ := i
  repeat' (first | (with_reducible first | exact fun h => h | refine And.intro ?_ ?_ | intro _ | exact True.intro) | ((with_reducible first | refine LeF.chk ?_ | refine Run.mk ?_); (conv => whnf)))
  all_goals simp only [Bool.or_eq_true, Bool.or_eq_false_iff, decide_eq_true_eq, decide_eq_false_iff_not, Bool.not_eq_true'] at *
  all_goals first
    | assumption
    | (unfold checkN; repeat' split) <;> omega
theorem pc_eta (x : Pc) : (⟨x.r, x.frm, x.to, x.cells⟩ : Pc) = x := rfl
theorem con_kind : Con prog 45 (fun ((l, i) : List Pc × Int) => [.ro 4 C_pc.enc C_pc.d l none, .v (.int .i64 i)]) (fun (l, i) => .v (.int .i64 (kindP l i.toNat))) (fun (l, i) => 0 < i ∧ i ≤ l.length ∧ l.length ≤ 1100000) := by
  refine Con.of (by kernel_rfl) T_ok D_pc_ok (.con con_ends (.con con_rblank (.con con_pwide (.con con_dash (.con con_opening (.con con_closing .nil)))))) 3 [4, 6] q_kind.1 q_kind.2.1 q_kind.2.2 (fun _ => rfl) fun i hi => ?_
  obtain ⟨l, i⟩ := i
  obtain ⟨h1, h2, h3⟩ : 0 < i ∧ i ≤ l.length ∧ l.length ≤ 1100000 := hi
  obtain ⟨i, rfl⟩ := Int.eq_ofNat_of_zero_le (show 0 ≤ i by omega)
  have e1 : ((i : Int)).toNat = i := Int.toNat_natCast _
  have e2 : ((i : Int) - 1).toNat = i - 1 := by omega
  have e3 : ((i : Int) - 2).toNat = i - 2 := by omega
  have e4 : C_pc.d = dPc := rfl
  repeat' (first | (with_reducible refine And.intro ?_ ?_) | ((with_reducible refine Run.mk ?_); (conv => whnf)))
  · refine Fits.i64 ?_ ?_ <;> omega
  · omega
  · omega
  simp only [e1, e2, e3, e4]
  refine joinI Unit [] (fun _ => []) (fun _ => []) (fun _ => endsP (l.getD (i - 1) dPc) = false) ?_ fun _ hA => ?_
  · repeat' (first | (with_reducible first | refine ⟨⟨_, _, _, _⟩, ⟨(.cons (.agg (.cons (.v _) (.cons (.v _) (.cons (.v _) (.cons (.v _) .nil))))) .nil), ?_⟩, ?_⟩ | refine ex_of () ?_ ?_ | refine And.intro ?_ ?_ | intro _ | exact True.intro | rfl | exact LeN.ro rfl | exact LeN.rptr | assumption) | ((with_reducible first | refine Wk.chk ?_ | refine LeF.chk ?_ | refine Run.mk ?_); (conv => whnf)))
    all_goals (unfold kindP; simp_all; done)
  · repeat' ((with_reducible refine Run.mk ?_); (conv => whnf))
    refine joinI Unit [] (fun _ => []) (fun _ => []) (fun _ => i < l.length ∧ (endsP (l.getD i dPc) || blankP (l.getD i dPc)) = false) ?_ fun _ hB => ?_
    · have e5 : ((i : Int) == (List.length l : Int)) = decide (i = l.length) := by rw [Bool.eq_iff_iff]; simp; omega
      repeat' (first | (with_reducible first | refine ⟨⟨_, _, _, _⟩, ⟨(.cons (.agg (.cons (.v _) (.cons (.v _) (.cons (.v _) (.cons (.v _) .nil))))) .nil), ?_⟩, ?_⟩ | refine ex_of () ⟨?_, ?_⟩ ?_ | exact fun h => h | refine And.intro ?_ ?_ | intro _ | exact True.intro | rfl | exact LeN.ro rfl | exact LeN.rptr | assumption) | ((with_reducible first | refine Wk.chk ?_ | refine LeF.chk ?_ | refine Run.mk ?_); (conv => whnf)))
      all_goals (try simp only [e1, e2, e3, e4, e5] at *)
      all_goals first
        | omega
        | (simp only [decide_eq_true_eq, decide_eq_false_iff_not, Bool.not_eq_true', Bool.or_eq_false_iff, Bool.and_eq_true] at *; omega)
        | (unfold kindP; simp_all; done)
        | (simp_all; done)
    · obtain ⟨hB1, hB2⟩ := hB
      repeat' (first | (with_reducible first | refine ⟨⟨_, _, _, _⟩, ⟨(.cons (.agg (.cons (.v _) (.cons (.v _) (.cons (.v _) (.cons (.v _) .nil))))) .nil), ?_⟩, ?_⟩ | exact fun h => h | refine And.intro ?_ ?_) | ((with_reducible intro hq); first | exact bne1 hq (by with_reducible assumption) | ((simp only [*, BB, cond_true, cond_false, reduceCtorEq] at hq); done) | (revert hq; with_reducible intro _)) | (with_reducible first | exact True.intro | assumption) | ((with_reducible first | refine LeF.chk ?_ | refine Run.mk ?_); (conv => whnf)))
      all_goals (try simp only [e1, e2, e3, e4, pc_eta] at *)
      all_goals first
        | omega
        | (refine Fits.i64 ?_ ?_ <;> omega)
        | (simp only [decide_eq_true_eq, decide_eq_false_iff_not, Bool.not_eq_true', Bool.or_eq_false_iff, Bool.and_eq_true] at *; omega)
        | (unfold kindP; rw [hA, hB2, if_neg Bool.false_ne_true, if_neg (by omega), if_neg Bool.false_ne_true]; simp_all; done)
        | (simp_all; done)
        | (unfold kindP; rw [hA, hB2, if_neg Bool.false_ne_true, if_neg (by omega), if_neg Bool.false_ne_true]; cases hd : dashP (l.getD (i - 1) dPc) <;> by_cases hi2 : (1 : Int) < (i : Int) <;> simp_all <;> (intros; omega))
theorem con_kinds : Con prog 20 (fun l : List Pc => [.ro 4 C_pc.enc C_pc.d l none]) (fun l => .ro 1 C_int.enc C_int.d (kindsP l) none) (fun l => l.length ≤ 1100000) := by
  refine Con.of (by kernel_rfl) T_ok D_pc_ok (.con con_kind .nil) 3 [] q_kinds.1 q_kinds.2.1 q_kinds.2.2 (fun _ => rfl) fun l hl => ?_
  repeat' (first | (with_reducible first | refine And.intro ?_ ?_ | exact True.intro) | ((with_reducible first | refine LeL.chk ?_ | refine Run.mk ?_); (conv => whnf)))
  · refine Fits.i64 ?_ ?_ <;> omega
  · omega
  · omega
  · dsimp only; omega
  · rfl
  refine loopI Nat [] (fun i => [(4, .v (.int .i64 (i : Int)))]) (fun i => [(1, .row C_intL (kindsTo l i) 3 none)]) (fun i => 1 ≤ i ∧ i ≤ l.length + 1) (fun i => l.length + 1 - i) 1 ⟨by omega, by omega⟩ (Wk.chk ?_) fun i hi => ?_
  · ((conv => whnf); repeat' (first | ((with_reducible show EntLe _ _ _); refine EntLe.row ?_) | (with_reducible first | refine And.intro ?_ ?_ | exact True.intro | rfl | exact LeN.ro rfl) | ((with_reducible refine Run.mk ?_); (conv => whnf))))
    · rfl
    · simp only [kindsTo]; congr 1
  obtain ⟨h1, h2⟩ := hi
  have e1 : ((i : Int)).toNat = i := Int.toNat_natCast _
  have hlen := kindsTo_len l i
  repeat' (first | (with_reducible first | refine ⟨(_, _), ⟨(.cons (.ro _ _ _ _ _) (.cons (.v _) .nil)), ?_⟩, ?_⟩ | refine ex_of (i + 1) ⟨⟨?_, ?_⟩, ?_⟩ ?_ | refine And.intro ?_ ?_ | intro _ | exact True.intro | rfl | refine EntLe.row ?_ | exact LeN.ro rfl | assumption) | ((with_reducible first | refine Wk.chk ?_ | refine LeL.chk ?_ | refine LeF.chk ?_ | refine Run.mk ?_); (conv => whnf)) | ((with_reducible show LeR _ _ _); refine LeR.own rfl rfl rfl ?_))
  all_goals (try simp only [e1, decide_eq_true_eq, decide_eq_false_iff_not] at *)
  all_goals first
    | omega
    | (refine Fits.i64 ?_ ?_ <;> omega)
    | rfl
    | (rw [kindsTo_succ h1]; rfl)
    | (have : i = l.length + 1 := by omega
       subst this; rfl)
theorem con_place : Con prog 48 (fun ((l, i) : List Pc × Int) => [.ro 4 C_pc.enc C_pc.d l none, .v (.int .i64 i)]) (fun (l, i) => .v (.int .i64 (placeP l i.toNat))) (fun (l, i) => 0 ≤ i ∧ i ≤ l.length ∧ 0 < l.length ∧ l.length ≤ 1100000) := by
  refine Con.of (by kernel_rfl) T_ok D_pc_ok .nil 3 [] q_place.1 q_place.2.1 q_place.2.2 (fun _ => rfl) fun i hi => ?_
  obtain ⟨l, i⟩ := i
  obtain ⟨h1, h2, h0, h3⟩ : 0 ≤ i ∧ i ≤ l.length ∧ 0 < l.length ∧ l.length ≤ 1100000 := hi
  obtain ⟨i, rfl⟩ := Int.eq_ofNat_of_zero_le h1
  have e1 : ((i : Int)).toNat = i := Int.toNat_natCast _
  have e2 : ((i : Int) - 1).toNat = i - 1 := by omega
  have e4 : C_pc.d = dPc := rfl
  repeat' (first | (with_reducible first | refine And.intro ?_ ?_ | intro _ | exact True.intro | assumption) | ((with_reducible first | refine LeF.chk ?_ | refine Run.mk ?_); (conv => whnf)))
  all_goals (try simp only [e1, e2, e4, beq_iff_eq, beq_eq_false_iff_ne, ne_eq] at *)
  all_goals first
    | omega
    | (refine Fits.i64 ?_ ?_ <;> omega)
    | (unfold placeP; rw [if_pos (by omega)])
    | (unfold placeP; rw [if_neg (by omega)])
theorem con_pieces : Con prog 19 (fun s : ByteArray => [.v (.string s)]) (fun s => .ro 4 C_pc.enc C_pc.d (pcs s) none) (fun s => s.size ≤ 1100000) := by
  refine Con.of (by kernel_rfl) T_ok D_pc_ok (.con con_rrunes (.con con_rclusters .nil)) 3 [] q_pieces.1 q_pieces.2.1 q_pieces.2.2 (fun _ => rfl) fun s hs => ?_
  repeat' (first | (with_reducible first | refine ⟨_, ⟨(.cons (.v _) .nil), ?_⟩, ?_⟩ | assumption) | ((with_reducible refine Run.mk ?_); (conv => whnf)))
  refine loopI Nat [] (fun i => [(6, .v (.int .i64 (i : Int))), (5, .own 1)]) (fun i => [(1, .row C_pc ((pcs s).take i) 66 none)]) (fun i => i ≤ (clusters s).length) (fun i => (clusters s).length - i) 0 (Nat.zero_le _) (Wk.chk ?_) fun i hi => ?_
  · ((conv => whnf); repeat' (first | (with_reducible first | refine And.intro ?_ ?_ | exact True.intro | rfl | refine EntLe.row ?_ | exact LeN.ro rfl) | ((with_reducible refine Run.mk ?_); (conv => whnf))))
    all_goals rfl
  have e1 : ((i : Int)).toNat = i := Int.toNat_natCast _
  have e2 : C_clu.d = ⟨0, 0, 0, 0, 0⟩ := rfl
  have e3 : pcs s = (clusters s).map fun c => pcOf (partOf s c) := by simp only [pcs, Plain.parts, List.map_map]; rfl
  have e4 : (runes s).length = (rl s).length := congrArg List.length (runes_rl s)
  have hcl := clusters_len s
  have htk : (List.take i (pcs s)).length ≤ i := List.length_take_le _ _
  repeat' (first | (with_reducible first | refine ex_of (i + 1) ⟨?_, ?_⟩ ?_ | refine And.intro ?_ ?_ | intro _ | exact True.intro | rfl | refine EntLe.row ?_ | exact LeN.ro rfl) | ((with_reducible first | refine Wk.chk ?_ | refine LeL.chk ?_ | refine LeF.chk ?_ | refine Run.mk ?_); (conv => whnf)) | ((with_reducible show LeR _ _ _); refine LeR.own rfl rfl rfl ?_) | ((with_reducible show drawOK _ _ = true); kernel_rfl))
  all_goals (try simp only [e1, e2, decide_eq_true_eq, decide_eq_false_iff_not] at *)
  all_goals first
    | omega
    | (refine Fits.i64 ?_ ?_ <;> omega)
    | rfl
    | (simp only [List.length_cons, List.length_nil]; omega)
    | (have hm := (clusters_ok s _ (getD_mem' (clusters s) ⟨0, 0, 0, 0, 0⟩ (i := i) (by omega))).first
       first
       | omega
       | (rw [e3]
          refine Eq.trans ?_ (take_map (fun c => pcOf (partOf s c)) (clusters s) ⟨0, 0, 0, 0, 0⟩ (by omega))
          congr 2
          show (⟨_, _, _, _⟩ : Pc) = ⟨_, _, _, _⟩
          congr 1
          exact (congrArg (fun l => List.getD l _ 0) (runes_rl s)).trans hm.2.2.1))
    | (rw [e3]; exact take_map_all _ _ (by omega))
end Go.SX.Tryz
/- Contract of the document's table. -/
namespace Go.SX.Tryz
open Go.Proofs Go.Proofs.Tryz Go.SX.Plain
set_option maxRecDepth 100000
set_option maxHeartbeats 0
set_option linter.unusedSimpArgs false
theorem q_less : fact 78 f78 := ⟨by kernel_rfl, rfl, by kernel_rfl⟩
theorem q_table : fact 46 f46 := ⟨by kernel_rfl, rfl, by kernel_rfl⟩
abbrev rbAV (x : Rb) : List AV := [.v (.int .i64 x.bad), .v (.int .i64 x.count), .v (.int .i64 x.next)]
def C_rb : Cdc Rb where
  size := 3
  enc := rbAV
  dec l := match l with
    | [.v (.int _ a), .v (.int _ b), .v (.int _ c)] => ⟨a, b, c⟩
    | _ => ⟨0, 0, 0⟩
  d := ⟨0, 0, 0⟩
def D_tb : Cds := [(99, ⟨Rb, C_rb⟩)]
theorem D_tb_ok : CdsOK T D_tb := .cons ⟨fun _ => rfl, by decide, _, rfl, rfl, by decide⟩ .nil
theorem con_less : Con prog 78 (fun ((a, b) : Rb × Rb) => [.agg (rbAV a), .agg (rbAV b)]) (fun (a, b) => .sb (lessB a b)) (fun _ => True) := by
  refine Con.of (by kernel_rfl) T_ok CdsOK.nil .nil 2 [] q_less.1 q_less.2.1 q_less.2.2 (fun _ => rfl) fun i _ => ?_
  obtain ⟨⟨a1, a2, a3⟩, ⟨b1, b2, b3⟩⟩ := i
  repeat' (first | (with_reducible first | refine And.intro ?_ ?_ | intro _ | exact True.intro) | ((with_reducible first | refine LeF.chk ?_ | refine Run.mk ?_); (conv => whnf)))
  all_goals simp_all [lessB]
structure OkL (l : List Part) : Prop where
  told : ∀ p ∈ l, Plain.Told p
  small : Small l
  len : l.length ≤ 5000
theorem con_table : Con prog 46 (fun ((l, width) : List Part × Int) => [.ro 4 C_pc.enc C_pc.d (l.map pcOf) none, .v (.int .i64 width)]) (fun (l, width) => .ro 3 C_rb.enc C_rb.d (rtab l width) none) (fun (l, width) => OkL l ∧ 2 ≤ width ∧ width ≤ 200) := by
  refine Con.of (by kernel_rfl) T_ok D_tb_ok (.con con_kinds (.con con_ends (.con con_rblank (.con con_less .nil)))) 3 [21, 24, 31, 36] q_table.1 q_table.2.1 q_table.2.2 (fun _ => rfl) fun i hi => ?_
  obtain ⟨l, width⟩ := i
  obtain ⟨⟨hT, hS, hlen⟩, hw1, hw2⟩ : OkL l ∧ 2 ≤ width ∧ width ≤ 200 := hi
  have hml : (l.map pcOf).length = l.length := by simp
  repeat' (first | (with_reducible first | refine ⟨_, ⟨(.cons (.ro _ _ _ _ _) .nil), ?_⟩, ?_⟩ | refine And.intro ?_ ?_ | exact True.intro) | ((with_reducible first | refine LeL.chk ?_ | refine Run.mk ?_); (conv => whnf)))
  · dsimp only; omega
  · rw [hml]; refine Fits.i64 ?_ ?_ <;> omega
  · rw [hml]; omega
  · omega
  · rw [hml]; dsimp only; omega
  · rfl
  · rfl
  · rfl
  refine loopI (Nat × Int) [6] (fun (c, x) => [(8, .v (.int .i64 x)), (6, .v (.int .i64 (l.length : Int)))]) (fun (c, _) => [(1, .row C_rb (rt l width c) 99 none)]) (fun (c, x) => c ≤ l.length + 1 ∧ x = (l.length : Int) - (c : Int)) (fun (c, _) => l.length + 1 - c) (0, (l.length : Int)) ⟨Nat.zero_le _, by omega⟩ (Wk.chk ?_) fun c hc => ?_
  · ((conv => whnf); repeat' (first | ((with_reducible show EntLe _ _ _); refine EntLe.row ?_) | (with_reducible first | refine And.intro ?_ ?_ | exact True.intro | rfl | exact LeN.ro rfl) | ((with_reducible refine Run.mk ?_); (conv => whnf))))
    all_goals first
      | (simp only [hml]; done)
      | (simp only [rt, hml]; congr 1; done)
  obtain ⟨c, fI⟩ := c
  obtain ⟨hc, hfI⟩ := hc
  have hrl := rt_len l width c
  by_cases hneg : fI < 0
  · have hng : decide (0 ≤ fI) = false := decide_eq_false (by omega)
    have hcN : c = l.length + 1 := by omega
    subst hcN
    repeat' (first | (with_reducible refine And.intro ?_ ?_) | ((with_reducible intro hq); first | exact bne1 hq (by with_reducible assumption) | (revert hq; with_reducible intro _)) | (with_reducible exact True.intro) | ((with_reducible first | refine LeF.chk ?_ | refine Run.mk ?_); (conv => whnf)) | ((with_reducible show LeR _ _ _); refine LeR.own rfl rfl rfl ?_))
    all_goals rfl
  obtain ⟨f, rfl⟩ := Int.eq_ofNat_of_zero_le (a := fI) (by omega)
  have hng : decide (0 ≤ (f : Int)) = true := decide_eq_true (by omega)
  have hc1 : c ≤ l.length := by omega
  have hf : f = l.length - c := by omega
  have hfl : f ≤ l.length := by omega
  repeat' (first | (with_reducible refine And.intro ?_ ?_) | ((with_reducible intro hq); first | exact bne1 (by with_reducible assumption) hq | (revert hq; with_reducible intro _)) | ((with_reducible refine Run.mk ?_); (conv => whnf)))
  · skip
    have hgd := fun t (ht : f < t) => rt_gd (width := width) hS hw2 c t (by omega) (by omega)
    refine loopI (Nat × Bst) [] (fun | (t, acc) => [(12, .v (.int .i64 (t : Int))), (9, .sb acc.ok), (10, .v (.int .i64 (scan l f (t - 1 - f)).2)), (11, .v (.int .i64 ((scan l f (t - 1 - f)).2 - (scan l f (t - 1 - f)).1)))])
      (fun | (_, acc) => [(1, .row C_rb ((rt l width c).set f (rbOf acc)) 99 none)])
      (fun | (t, acc) => f ≤ t ∧ t ≤ l.length + 1 ∧ GdR l.length f (rbOf acc) ∧ rinner l width (rt l width c) f t acc = rinner l width (rt l width c) f f zB) (fun | (t, _) => l.length + 1 - t) (f, zB) ⟨Nat.le_refl _, by omega, GdR.zero _ _, rfl⟩ (Wk.chk ?_) fun i hi => ?_
    · ((conv => whnf); repeat' (first | (with_reducible first | refine And.intro ?_ ?_ | exact True.intro | rfl | refine EntLe.row ?_ | exact LeN.ro rfl) | ((with_reducible refine Run.mk ?_); (conv => whnf))))
      · rw [show f - 1 - f = 0 by omega]; rfl
      · rw [show f - 1 - f = 0 by omega]; rfl
      · exact (rt_set0 _ _ (by omega)).symm
    obtain ⟨t, acc⟩ := i
    obtain ⟨hi1, hi2, hi3, hi4⟩ := hi
    have e4 : C_pc.d = dPc := rfl
    have e5 : C_rb.d = zR := rfl
    have e6 : C_int.d = 0 := rfl
    have e1 : ((t : Int)).toNat = t := Int.toNat_natCast _
    have e2 : ((t : Int) - 1).toNat = t - 1 := by omega
    have e3 : ((f : Int)).toNat = f := Int.toNat_natCast _
    have e7 : ((l.length : Int) - 1).toNat = l.length - 1 := by omega
    repeat' (first | (with_reducible first | refine And.intro ?_ ?_ | intro _ | rfl) | ((with_reducible refine Run.mk ?_); (conv => whnf)))
    · have ht : t ≤ l.length := by
        have h : decide ((t : Int) ≤ (l.length : Int)) = true := by assumption
        simp only [decide_eq_true_eq] at h; omega
      refine joinI Unit [] (fun _ => [(10, .v (.int .i64 (scan l f (t - f)).2)), (11, .v (.int .i64 ((scan l f (t - f)).2 - wAt l f t)))]) (fun _ => []) (fun _ => True) ?_ fun _ _ => ?_
      · have hx : f < t → 0 < t := by omega
        have hsb := scan_bd hS f (t - 1 - f)
        have hcb : 0 ≤ (pcOf (l.getD (t - 1) dPart)).cells ∧ (pcOf (l.getD (t - 1) dPart)).cells ≤ 2 := hS.at (t - 1)
        have htl := fun (h : f < t) => told_at hT (i := t - 1) (by omega)
        have hw' : wAt l f t = (scan l f (t - f)).1 := rfl
        have s1 : f < t → endsP (pcOf (l.getD (t - 1) dPart)) = true → scan l f (t - f) = scan l f (t - 1 - f) := fun h h1 => by
          rw [show t - f = t - 1 + 1 - f by omega]; exact scan_fin (by omega) (by rw [(htl h).fin]; exact h1)
        have s2 : f < t → endsP (pcOf (l.getD (t - 1) dPart)) = false → blankP (pcOf (l.getD (t - 1) dPart)) = true → scan l f (t - f) = ((scan l f (t - 1 - f)).1, (scan l f (t - 1 - f)).2 + (pcOf (l.getD (t - 1) dPart)).cells) := fun h h1 h2 => by
          rw [show t - f = t - 1 + 1 - f by omega]; exact scan_blank (by omega) (by rw [(htl h).fin]; exact h1) (by rw [(htl h).blank]; exact h2)
        have s3 : f < t → endsP (pcOf (l.getD (t - 1) dPart)) = false → blankP (pcOf (l.getD (t - 1) dPart)) = false → scan l f (t - f) = ((scan l f (t - 1 - f)).2 + (pcOf (l.getD (t - 1) dPart)).cells, (scan l f (t - 1 - f)).2 + (pcOf (l.getD (t - 1) dPart)).cells) := fun h h1 h2 => by
          rw [show t - f = t - 1 + 1 - f by omega]; exact scan_ink (by omega) (by rw [(htl h).fin]; exact h1) (by rw [(htl h).blank]; exact h2)
        clear htl
        repeat' (first | (with_reducible first | refine ⟨⟨_, _, _, _⟩, ⟨(.cons (.agg (.cons (.v _) (.cons (.v _) (.cons (.v _) (.cons (.v _) .nil))))) .nil), ?_⟩, ?_⟩ | refine ex_of () trivial ?_ | refine And.intro ?_ ?_ | intro _ | exact True.intro | rfl | refine EntLe.row ?_ | exact LeN.ro rfl) | ((with_reducible first | refine Wk.chk ?_ | refine Run.mk ?_); (conv => whnf)))
        all_goals (try simp only [e1, e2, e3, e4, pc_eta, pc_at, hw', decide_eq_true_eq, decide_eq_false_iff_not] at *)
        all_goals first
          | omega
          | (refine Fits.i64 ?_ ?_ <;> omega)
          | (rw [s1 (by omega) (by assumption)]; done)
          | (rw [s1 (by omega) (by assumption)]; omega)
          | (rw [s2 (by omega) (by assumption) (by assumption)]; done)
          | (rw [s2 (by omega) (by assumption) (by assumption)]; dsimp only; omega)
          | (rw [s3 (by omega) (by assumption) (by assumption)]; done)
          | (rw [s3 (by omega) (by assumption) (by assumption)]; dsimp only; omega)
          | (rw [show t - 1 - f = t - f by omega])
      have hwb := wAt_bd hS f t
      have hsb := scan_bd hS f (t - f)
      have hwu : wAt l f t ≤ 10000 := by unfold wAt; omega
      have e8 : (scan l f (t - f)).2 - ((scan l f (t - f)).2 - wAt l f t) = wAt l f t := by omega
      repeat' (first | (with_reducible first | refine ex_of (α := Nat × Int) (c + 1, (f : Int) - 1) ⟨⟨?_, ?_⟩, ?_⟩ ?_ | refine And.intro ?_ ?_ | intro _ | exact True.intro | rfl | refine EntLe.row ?_ | exact LeN.ro rfl) | ((with_reducible first | refine Wk.chk ?_ | refine Run.mk ?_); (conv => whnf)))
      all_goals (try simp only [e1, e2, e3, e4, e5, e6, e7, e8, pc_eta, pc_at, decide_eq_true_eq, decide_eq_false_iff_not] at *)
      all_goals first
        | omega
        | (refine Fits.i64 ?_ ?_ <;> omega)
        | (rw [rt_succ hf, ← hi4, rinner_full ht (by omega)]; done)
        | skip
      have e4 : C_pc.d = dPc := rfl
      have e5 : C_rb.d = zR := rfl
      have e6 : C_int.d = 0 := rfl
      have e1 : ((t : Int)).toNat = t := Int.toNat_natCast _
      have e3 : ((f : Int)).toNat = f := Int.toNat_natCast _
      have e7 : ((l.length : Int) - 1).toNat = l.length - 1 := by omega
      refine joinI Unit [] (fun _ => [(15, .sb (lastB l f t))]) (fun _ => []) (fun _ => True) ?_ fun _ _ => ?_
      · repeat' (first | (with_reducible first | refine ⟨⟨_, _, _, _⟩, ⟨(.cons (.agg (.cons (.v _) (.cons (.v _) (.cons (.v _) (.cons (.v _) .nil))))) .nil), ?_⟩, ?_⟩ | refine ex_of () trivial ?_ | exact fun h => h | refine And.intro ?_ ?_) | ((with_reducible intro hq); first | exact bne1 hq (by with_reducible assumption) | (revert hq; with_reducible intro _)) | (with_reducible first | exact True.intro | rfl | refine EntLe.row ?_ | exact LeN.ro rfl | assumption) | ((with_reducible first | refine Wk.chk ?_ | refine Run.mk ?_); (conv => whnf)))
        all_goals (try simp only [e7, pc_eta, pc_at, natBeq] at *)
        all_goals first
          | (simp only [Bool.and_eq_true, decide_eq_true_eq, Bool.not_eq_true', decide_eq_false_iff_not] at *
             refine Fits.i64 ?_ ?_ <;> omega)
          | (simp only [Bool.and_eq_true, decide_eq_true_eq, Bool.not_eq_true', decide_eq_false_iff_not] at *
             omega)
          | (simp only [Bool.and_eq_true, decide_eq_true_eq, Bool.not_eq_true', decide_eq_false_iff_not, List.length_map] at *
             omega)
          | exact lastB_1 hT hfl
          | exact lastB_2 (by assumption)
      have hw : wAt l f t ≤ width := by omega
      have hsq := sq_bd (x := width - wAt l f t) (y := 200) (by omega) (by omega)
      have hkl := kindsP_len (l.map pcOf)
      rw [hml] at hkl
      have e8 : ((rt l width c).set f (rbOf acc)).getD f zR = rbOf acc := Go.SX.Plain.getD_set_eq _ _ _ _ (by omega)
      have hs1 : ((rt l width c).set f (rbOf acc)).length = l.length + 1 := by rw [List.length_set, hrl]
      by_cases hft : f < t
      · have e9 : ((rt l width c).set f (rbOf acc)).getD t zR = (rt l width c).getD t zR := Go.SX.Plain.getD_set_ne _ _ _ _ _ (by omega)
        have e10 : (kindsP (l.map pcOf)).getD t 0 = kindAt l t := by
          rw [kindsP_get (by omega) (by omega)]; exact kindP_eq hT (by omega) ht
        have g1 := (hgd t hft).b0
        have g2 : ((rt l width c).getD t zR).bad ≤ 10100000000 := by have := (hgd t hft).b1; omega
        have g3 := (hgd t hft).p0
        have g4 : ((rt l width c).getD t zR).count ≤ 5050 := by have := (hgd t hft).p1; omega
        repeat' ((with_reducible refine Run.mk ?_); (conv => whnf))
        refine joinI Bst [] (fun a => [(9, .sb a.ok)]) (fun a => [(1, .row C_rb ((rt l width c).set f (rbOf a)) 99 none)]) (fun a => a = racc1 l width (rt l width c) f t acc) ?_ fun a ha => ?_
        · repeat' (first | (with_reducible first | refine ex_eq ?_ | refine ⟨(⟨_, _, _⟩, ⟨_, _, _⟩), ⟨(.cons (.agg (.cons (.v _) (.cons (.v _) (.cons (.v _) .nil)))) (.cons (.agg (.cons (.v _) (.cons (.v _) (.cons (.v _) .nil)))) .nil)), ?_⟩, ?_⟩ | exact fun h => h | refine And.intro ?_ ?_ | intro _ | exact True.intro | rfl | refine EntLe.row ?_ | exact LeN.ro rfl | assumption) | ((with_reducible first | refine Wk.chk ?_ | refine LeL.chk ?_ | refine Run.mk ?_); (conv => whnf)) | ((with_reducible show drawOK _ _ = true); kernel_rfl))
          all_goals (try simp only [e1, e3, e5, e8, e9, e10, hs1, hkl, decide_eq_true_eq, decide_eq_false_iff_not, Bool.and_eq_true, Bool.and_eq_false_iff, beq_iff_eq, beq_eq_false_iff_ne, ne_eq, Bool.not_not] at *)
          all_goals first
            | omega
            | (refine Fits.i64 ?_ ?_ <;> omega)
            | rfl
            | (simp_all; done)
            | (rw [racc1_yes ⟨by omega, by omega⟩ (by rw [rcand_cut (by assumption)]; assumption)]; first | (rw [rcand_cut (by assumption), List.set_set]; rfl) | rfl)
            | (rw [racc1_yes ⟨by omega, by omega⟩ (by rw [rcand_not (by assumption)]; assumption)]; first | (rw [rcand_not (by assumption), List.set_set]; rfl) | rfl)
            | (rw [racc1_yes ⟨by omega, by omega⟩ (by rw [show acc.ok = false by assumption]; rfl)]; first | (rw [rcand_cut (by assumption), List.set_set]; rfl) | (rw [rcand_not (by assumption), List.set_set]; rfl) | rfl)
            | (rw [racc1_keep ⟨by omega, by omega⟩ (by rw [rcand_cut (by assumption)]; assumption)]; done)
            | (rw [racc1_keep ⟨by omega, by omega⟩ (by rw [rcand_not (by assumption)]; assumption)]; done)
            | (rw [racc1_no (by omega)]; done)
        clear e8 hs1
        repeat' ((with_reducible refine Run.mk ?_); (conv => whnf))
        refine joinI Bst [] (fun a => [(9, .sb a.ok)]) (fun a => [(1, .row C_rb ((rt l width c).set f (rbOf a)) 99 none)]) (fun a => a = racc2 l width (rt l width c) f t acc) ?_ fun a2 ha2 => ?_
        · have e8 : ((rt l width c).set f (rbOf a)).getD f zR = rbOf a := Go.SX.Plain.getD_set_eq _ _ _ _ (by omega)
          have hs1 : ((rt l width c).set f (rbOf a)).length = l.length + 1 := by rw [List.length_set, hrl]
          repeat' (first | (with_reducible first | refine ex_eq ?_ | refine ⟨(⟨_, _, _⟩, ⟨_, _, _⟩), ⟨(.cons (.agg (.cons (.v _) (.cons (.v _) (.cons (.v _) .nil)))) (.cons (.agg (.cons (.v _) (.cons (.v _) (.cons (.v _) .nil)))) .nil)), ?_⟩, ?_⟩ | refine And.intro ?_ ?_ | intro _ | exact True.intro | rfl | refine EntLe.row ?_ | exact LeN.ro rfl | assumption) | ((with_reducible first | refine Wk.chk ?_ | refine LeL.chk ?_ | refine Run.mk ?_); (conv => whnf)) | ((with_reducible show drawOK _ _ = true); kernel_rfl))
          all_goals (try simp only [e1, e3, e5, e8, hs1, Bool.not_not] at *)
          all_goals first
            | omega
            | (refine Fits.i64 ?_ ?_ <;> omega)
            | rfl
            | (simp_all; done)
            | (rw [racc2_yes' ha (by assumption) (by assumption)]; done)
            | (rw [racc2_yes' ha (by assumption) (by assumption)]; rw [List.set_set]; rfl)
            | (rw [racc2_yes0 ha (by assumption) (by assumption)]; done)
            | (rw [racc2_yes0 ha (by assumption) (by assumption)]; rw [List.set_set]; rfl)
            | (rw [racc2_keep' ha (by assumption) (by assumption)]; done)
            | (rw [racc2_no' ha (by assumption)]; done)
        have hga := GdR.acc2 hS hw2 hw hfl ht (hgd t) hi3
        repeat' (first | (with_reducible first | refine ex_of (α := Nat × Int) (c + 1, (f : Int) - 1) ⟨⟨?_, ?_⟩, ?_⟩ ?_ | refine ex_of (α := Nat × Bst) (t + 1, a2) ⟨⟨?_, ?_, ?_, ?_⟩, ?_⟩ ?_ | exact fun h => h | refine And.intro ?_ ?_ | intro _ | exact True.intro | rfl | refine EntLe.row ?_ | exact LeN.ro rfl | assumption) | ((with_reducible first | refine Wk.chk ?_ | refine Run.mk ?_); (conv => whnf)))
        all_goals (try simp only [e1, e10, hkl, decide_eq_true_eq, decide_eq_false_iff_not, Bool.and_eq_true, Bool.and_eq_false_iff, beq_iff_eq, beq_eq_false_iff_ne, ne_eq] at *)
        all_goals first
          | omega
          | (refine Fits.i64 ?_ ?_ <;> omega)
          | (rw [rt_succ hf, ← hi4, rinner_stop ht hw ⟨by omega, by omega⟩, ← ha2]; done)
          | (rw [ha2]; exact hga)
          | (rw [ha2, ← rinner_on ht hw (by omega)]; exact hi4)
          | rfl
      · repeat' ((with_reducible refine Run.mk ?_); (conv => whnf))
        refine joinI Bst [] (fun a => [(9, .sb a.ok)]) (fun a => [(1, .row C_rb ((rt l width c).set f (rbOf a)) 99 none)]) (fun a => a = racc1 l width (rt l width c) f t acc) ?_ fun a ha => ?_
        · have hnd : decide ((f : Int) < (t : Int)) = false := decide_eq_false (by omega)
          repeat' (first | (with_reducible first | refine ex_eq ?_ | refine ⟨(⟨_, _, _⟩, ⟨_, _, _⟩), ⟨(.cons (.agg (.cons (.v _) (.cons (.v _) (.cons (.v _) .nil)))) (.cons (.agg (.cons (.v _) (.cons (.v _) (.cons (.v _) .nil)))) .nil)), ?_⟩, ?_⟩ | exact fun h => h | refine And.intro ?_ ?_) | ((with_reducible intro hq); first | exact bne1 hq (by with_reducible assumption) | (revert hq; with_reducible intro _)) | (with_reducible first | exact True.intro | rfl | refine EntLe.row ?_ | exact LeN.ro rfl | assumption) | ((with_reducible first | refine Wk.chk ?_ | refine LeL.chk ?_ | refine Run.mk ?_); (conv => whnf)) | ((with_reducible show drawOK _ _ = true); kernel_rfl))
          all_goals first
            | (rw [racc1_no (by omega)]; done)
            | (exfalso; have h9 : (decide ((f : Int) < (t : Int)) && decide (0 < (kindsP (l.map pcOf)).getD ((t : Int)).toNat 0)) = true := by assumption
               rw [hnd, Bool.false_and] at h9; cases h9)
        clear e8 hs1
        have hnd : decide ((f : Int) < (t : Int)) = false := decide_eq_false (by omega)
        repeat' ((with_reducible refine Run.mk ?_); (conv => whnf))
        refine joinI Bst [] (fun a => [(9, .sb a.ok)]) (fun a => [(1, .row C_rb ((rt l width c).set f (rbOf a)) 99 none)]) (fun a => a = racc2 l width (rt l width c) f t acc) ?_ fun a2 ha2 => ?_
        · have e8 : ((rt l width c).set f (rbOf a)).getD f zR = rbOf a := Go.SX.Plain.getD_set_eq _ _ _ _ (by omega)
          have hs1 : ((rt l width c).set f (rbOf a)).length = l.length + 1 := by rw [List.length_set, hrl]
          repeat' (first | (with_reducible first | refine ex_eq ?_ | refine ⟨(⟨_, _, _⟩, ⟨_, _, _⟩), ⟨(.cons (.agg (.cons (.v _) (.cons (.v _) (.cons (.v _) .nil)))) (.cons (.agg (.cons (.v _) (.cons (.v _) (.cons (.v _) .nil)))) .nil)), ?_⟩, ?_⟩ | refine And.intro ?_ ?_ | intro _ | exact True.intro | rfl | refine EntLe.row ?_ | exact LeN.ro rfl | assumption) | ((with_reducible first | refine Wk.chk ?_ | refine LeL.chk ?_ | refine Run.mk ?_); (conv => whnf)) | ((with_reducible show drawOK _ _ = true); kernel_rfl))
          all_goals (try simp only [e1, e3, e5, e8, hs1, Bool.not_not] at *)
          all_goals first
            | omega
            | (refine Fits.i64 ?_ ?_ <;> omega)
            | rfl
            | (simp_all; done)
            | (rw [racc2_yes' ha (by assumption) (by assumption)]; done)
            | (rw [racc2_yes' ha (by assumption) (by assumption)]; rw [List.set_set]; rfl)
            | (rw [racc2_yes0 ha (by assumption) (by assumption)]; done)
            | (rw [racc2_yes0 ha (by assumption) (by assumption)]; rw [List.set_set]; rfl)
            | (rw [racc2_keep' ha (by assumption) (by assumption)]; done)
            | (rw [racc2_no' ha (by assumption)]; done)
        have hga := GdR.acc2 hS hw2 hw hfl ht (hgd t) hi3
        repeat' (first | (with_reducible first | refine ex_of (α := Nat × Int) (c + 1, (f : Int) - 1) ⟨⟨?_, ?_⟩, ?_⟩ ?_ | refine ex_of (α := Nat × Bst) (t + 1, a2) ⟨⟨?_, ?_, ?_, ?_⟩, ?_⟩ ?_ | exact fun h => h | refine And.intro ?_ ?_) | ((with_reducible intro hq); first | exact bne1 hq (by with_reducible assumption) | (revert hq; with_reducible intro _)) | (with_reducible first | exact True.intro | rfl | refine EntLe.row ?_ | exact LeN.ro rfl) | ((with_reducible first | refine Wk.chk ?_ | refine Run.mk ?_); (conv => whnf)))
        all_goals (try simp only [e1, hkl, decide_eq_true_eq, decide_eq_false_iff_not, Bool.and_eq_true, Bool.and_eq_false_iff, beq_iff_eq, beq_eq_false_iff_ne, ne_eq] at *)
        all_goals first
          | omega
          | (refine Fits.i64 ?_ ?_ <;> omega)
          | (rw [ha2]; exact hga)
          | (rw [ha2, ← rinner_on ht hw (by omega)]; exact hi4)
          | rfl
    · refine Fits.i64 ?_ ?_ <;> omega
    · have hnt : ¬ t ≤ l.length := by
        have h : decide ((t : Int) ≤ (l.length : Int)) = false := by assumption
        simp only [decide_eq_false_iff_not] at h; omega
      repeat' (first | (with_reducible first | refine ex_of (α := Nat × Int) (c + 1, (f : Int) - 1) ⟨⟨?_, ?_⟩, ?_⟩ ?_ | refine And.intro ?_ ?_ | exact True.intro | rfl | refine EntLe.row ?_ | exact LeN.ro rfl) | ((with_reducible first | refine Wk.chk ?_ | refine Run.mk ?_); (conv => whnf)))
      all_goals first
        | omega
        | (rw [rt_succ hf, ← hi4, rinner_end hnt]; done)
        | (dsimp only; omega)
end Go.SX.Tryz
/- Contracts of the document's way, Wrap, Places; of the program's Places; of the law's Same, head. -/
namespace Go.SX.Tryz
open Go.Proofs Go.Proofs.Tryz Go.SX.Plain
set_option maxRecDepth 100000
set_option maxHeartbeats 0
set_option linter.unusedSimpArgs false
theorem q_way : fact 21 f21 := ⟨by kernel_rfl, rfl, by kernel_rfl⟩
def D_way : Cds := [(3, ⟨Int, C_int⟩), (39, ⟨Int × Int, C_brk⟩)]
theorem D_way_ok : CdsOK T D_way := .cons ⟨fun _ => rfl, by decide, _, rfl, rfl, by decide⟩ (.cons ⟨fun _ => rfl, by decide, _, rfl, rfl, by decide⟩ .nil)
theorem con_way : Con prog 21 (fun ((l, width) : List Part × Int) => [.ro 4 C_pc.enc C_pc.d (l.map pcOf) none, .v (.int .i64 width)]) (fun (l, width) => .tup [.ro 1 C_int.enc C_int.d (rwayL l width) none, .v (.int .i64 ((rtab l width).getD 0 zR).bad)]) (fun (l, width) => OkL l ∧ 2 ≤ width ∧ width ≤ 200) := by
  refine Con.of (by kernel_rfl) T_ok D_way_ok (.con con_table .nil) 3 [] q_way.1 q_way.2.1 q_way.2.2 (fun _ => rfl) fun i hi => ?_
  obtain ⟨l, width⟩ := i
  have hi2 := hi
  obtain ⟨⟨hT, hS, hlen⟩, hw1, hw2⟩ : OkL l ∧ 2 ≤ width ∧ width ≤ 200 := hi
  have hrl : (rtab l width).length = l.length + 1 := rt_len _ _ _
  repeat' (first | (with_reducible first | refine ⟨(_, _), ⟨(.cons (.ro _ _ _ _ _) (.cons (.v _) .nil)), ?_⟩, ?_⟩ | refine And.intro ?_ ?_ | assumption) | ((with_reducible refine Run.mk ?_); (conv => whnf)))
  · exact hi2.1
  · omega
  · rw [hrl]; omega
  have hg := fun j => rtab_gd (l := l) (width := width) hS hw2 j
  have hwl := rwayL_len l width
  have e5 : C_rb.d = zR := rfl
  refine loopI (Int × List Int) [] (fun | (x, _) => [(8, .v (.int .i64 x)), (7, .own 1)]) (fun | (_, o) => [(1, .row C_int o 3 none)])
    (fun | (x, o) => RNx l.length x ∧ o ++ rway l.length (rtab l width) x = rwayL l width) (fun | (x, _) => rfar l.length x) (((rtab l width).getD 0 zR).next, []) ⟨rnx0 hS hw2, rfl⟩ (Wk.chk ?_) fun i hi => ?_
  · ((conv => whnf); repeat' (first | (with_reducible first | refine And.intro ?_ ?_ | exact True.intro | rfl | refine EntLe.row ?_ | exact LeN.ro rfl | exact LeN.rptr) | ((with_reducible refine Run.mk ?_); (conv => whnf))))
    all_goals rfl
  obtain ⟨x, o⟩ := i
  obtain ⟨hx, ho⟩ := hi
  rcases hx.out with hx1 | ⟨m, hx1, hx2, hx3⟩
  · subst hx1
    rw [rway_end _ _ (by omega), List.append_nil] at ho
    repeat' (first | (with_reducible first | refine And.intro ?_ ?_ | intro _ | exact True.intro | rfl | assumption) | ((with_reducible first | refine LeL.chk ?_ | refine LeF.chk ?_ | refine Run.mk ?_); (conv => whnf)) | ((with_reducible show LeR _ _ _); refine LeR.own rfl rfl rfl ?_) | ((with_reducible show drawOK _ _ = true); kernel_rfl))
    all_goals first
      | omega
      | (exfalso; have h : decide ((0 : Int) < 0) = true := by assumption
         exact absurd h (by decide))
      | rfl
  · subst hx1
    obtain ⟨hn1, hn2⟩ := RNx.next hg hx2 hx3
    rw [rway_step hg hx2 hx3, List.append_cons] at ho
    have hol : o.length + 1 ≤ l.length + 1 := by rw [← ho] at hwl; simp at hwl; omega
    have e1 : ((m : Int)).toNat = m := Int.toNat_natCast _
    repeat' (first | (with_reducible first | refine ex_of (α := Int × List Int) (_, _) ⟨⟨hn1, ho⟩, hn2⟩ ?_ | refine And.intro ?_ ?_ | intro _ | exact True.intro | rfl | refine EntLe.row ?_ | exact LeN.ro rfl | exact LeN.rptr) | ((with_reducible first | refine Wk.chk ?_ | refine LeL.chk ?_ | refine LeF.chk ?_ | refine Run.mk ?_); (conv => whnf)) | ((with_reducible show LeR _ _ _); refine LeR.own rfl rfl rfl ?_) | ((with_reducible show drawOK _ _ = true); kernel_rfl))
    all_goals first
      | omega
      | (exfalso; have h : decide ((0 : Int) < (m : Int)) = false := by assumption
         simp at h; omega)
      | rfl
      | (simp only [List.length_cons, List.length_nil]; omega)
theorem q_same : fact 11 f11 := ⟨by kernel_rfl, rfl, by kernel_rfl⟩
theorem q_head : fact 4 f4 := ⟨by kernel_rfl, rfl, by kernel_rfl⟩
def sameB (a b : List (Int × Int)) : Bool := decide (a = b)
theorem con_same : Con prog 11 (fun ((a, b) : List (Int × Int) × List (Int × Int)) => [.ro 2 C_brk.enc C_brk.d a none true, .ro 2 C_brk.enc C_brk.d b none true]) (fun (a, b) => .sb (decide (a = b))) (fun (a, b) => a.length ≤ 1100000) := by
  refine Con.of (by kernel_rfl) T_ok D_way_ok .nil 3 [] q_same.1 q_same.2.1 q_same.2.2 (fun _ => rfl) fun i hi => ?_
  obtain ⟨a, b⟩ := i
  have hi : a.length ≤ 1100000 := hi
  have e0 : ((a.length : Int) != (b.length : Int)) = !decide (a.length = b.length) := by rw [bne, natBeq]
  repeat' (first | (with_reducible first | refine And.intro ?_ ?_ | intro _ | exact True.intro) | ((with_reducible first | refine LeF.chk ?_ | refine Run.mk ?_); (conv => whnf)))
  · rename_i h
    rw [e0] at h
    symm
    refine decide_eq_false ?_
    rintro rfl
    simp at h
  rename_i h
  rw [e0] at h
  have hab : a.length = b.length := by simpa using h
  refine loopI Nat [] (fun i => [(5, .v (.int .i64 (i : Int)))]) (fun _ => []) (fun i => i ≤ a.length ∧ a.take i = b.take i) (fun i => a.length - i) 0 ⟨Nat.zero_le _, rfl⟩ (Wk.chk ?_) fun i hi => ?_
  · ((conv => whnf); repeat' (first | (with_reducible first | refine And.intro ?_ ?_ | exact True.intro | rfl | exact LeN.ro rfl) | ((with_reducible refine Run.mk ?_); (conv => whnf))))
    all_goals rfl
  obtain ⟨h1, h2⟩ := hi
  have e1 : ((i : Int)).toNat = i := Int.toNat_natCast _
  have e2 : C_brk.d = (0, 0) := rfl
  repeat' (first | (with_reducible first | refine ex_of (i + 1) ⟨⟨?_, ?_⟩, ?_⟩ ?_ | exact fun h => h | refine And.intro ?_ ?_ | intro _ | exact True.intro | rfl | exact LeN.ro rfl | assumption) | ((with_reducible first | refine Wk.chk ?_ | refine LeF.chk ?_ | refine Run.mk ?_); (conv => whnf)) | ((with_reducible show drawOK _ _ = true); kernel_rfl))
  all_goals (try simp only [e1, e2, decide_eq_true_eq, decide_eq_false_iff_not] at *)
  all_goals first
    | omega
    | (refine Fits.i64 ?_ ?_ <;> omega)
    | (symm
       refine decide_eq_false ?_
       rintro rfl
       simp at *; done)
    | (simp_all; done)
    | (rw [← take_one a (0, 0) (by omega), ← take_one b (0, 0) (by omega), h2]
       have q : (a.getD i (0, 0)) = (b.getD i (0, 0)) := by
         refine Prod.ext ?_ ?_ <;> simp_all
       rw [q])
    | (symm
       refine decide_eq_true ?_
       rw [take_all a (by omega), take_all b (by omega)] at h2
       exact h2)
end Go.SX.Tryz
/- Contracts of the document's read, line. -/
namespace Go.SX.Tryz
open Go.Proofs Go.Proofs.Tryz Go.SX.Plain
set_option maxRecDepth 100000
set_option maxHeartbeats 0
set_option linter.unusedSimpArgs false
def D_rd : Cds := [(3, ⟨Int, C_int⟩)]
def castL (l : List Nat) : List Int := l.map fun (i : Nat) => (i : Int)
def readL (s : ByteArray) (way : List (Int × Int)) : List Int := ((rdW (Plain.parts s) way).map fun x => castL x.1).getD []
end Go.SX.Tryz
