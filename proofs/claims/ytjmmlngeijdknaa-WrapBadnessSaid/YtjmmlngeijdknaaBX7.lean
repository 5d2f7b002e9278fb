/- A verified symbolic executor for Go code in the model, contracts and plain laws that the proofs lean on, part 7 of 7. -/
import Derived.Test.YtjmmlngeijdknaaBX6
set_option linter.unusedVariables false
set_option linter.unusedSimpArgs false
/- Contracts of the laws WrapLeast, WrapPlaces: true, whatever the input. -/
namespace Go.SX.Try
open Go.Proofs Go.Proofs.Try Go.SX.Plain
set_option maxRecDepth 100000
set_option maxHeartbeats 0
set_option linter.unusedSimpArgs false
theorem q_wrapLeast : fact 3 f3 := ⟨by kernel_rfl, rfl, by kernel_rfl⟩
theorem q_wrapPlaces : fact 4 f4 := ⟨by kernel_rfl, rfl, by kernel_rfl⟩
theorem wrapL_eq (s : ByteArray) (width : Int) : wrapL s width = rwrapL s width := by
  unfold wrapL rwrapL
  split
  · rename_i h
    obtain ⟨_, h1, h2, _⟩ := okParts h
    exact wrap_eq h1 h2
  · rfl
theorem wrapB_eq (s : ByteArray) (width : Int) : wrapB s width = rwrapB s width := by
  unfold wrapB rwrapB
  split
  · rename_i h
    obtain ⟨_, h1, h2, _⟩ := okParts h
    exact bad_eq (parts_small s) h1
  · rfl
theorem wrapL_len (s : ByteArray) (width : Int) : (wrapL s width).length ≤ 5000 := by
  unfold wrapL
  split
  · rename_i h
    obtain ⟨_, _, _, h3⟩ := okParts h
    have h4 := wrapOut_len (Plain.parts s) width
    have h5 := plcs_len (Plain.parts s) ((Plain.parts s).length + 1)
    have h6 := parts_len s
    omega
  · simp
theorem con_wrapLeast : Con prog 3 (fun ((s, width) : ByteArray × Int) => [.v (.string s), .v (.int .i64 width)]) (fun _ => .v (.bool true)) (fun _ => True) := by
  refine Con.of (by kernel_rfl) T_ok D_law_ok (.con con_wrap (.con con_rwrap (.con con_same (.con con_head .nil)))) 3 [] q_wrapLeast.1 q_wrapLeast.2.1 q_wrapLeast.2.2 (fun _ => rfl) fun i _ => ?_
  obtain ⟨s, width⟩ := i
  have h1 := wrapL_eq s width
  have h2 := wrapB_eq s width
  have h3 := wrapL_len s width
  repeat' (first | (with_reducible refine ⟨(_, _), ⟨(.cons (.v _) (.cons (.v _) .nil)), ?_⟩, ?_⟩) | (with_reducible refine ⟨(_, _), ⟨(.cons (.lent _ _ _ _ _ _) (.cons (.lent _ _ _ _ _ _) .nil)), ?_⟩, ?_⟩) | (with_reducible refine ⟨(), ⟨.nil, ?_⟩, ?_⟩) | (with_reducible exact fun h => h) | (with_reducible refine ExE.row (by with_unfolding_all rfl) ?_) | (with_reducible refine And.intro ?_ ?_) | ((with_reducible intro hq); first | (exact bne1 hq (by with_reducible assumption)) | (exact bne1 (by with_reducible assumption) hq) | ((simp only [*, Bool.and_true, Bool.true_and, Bool.and_false, Bool.false_and, Bool.or_true, Bool.true_or, Bool.or_false, Bool.false_or, Bool.not_true, Bool.not_false, Bool.true_eq_false, Bool.false_eq_true, cond_true, cond_false, Bool.cond_self, reduceCtorEq] at hq); done) | (revert hq; with_reducible intro _)) | (with_reducible exact True.intro) | (with_reducible rfl) | ((with_reducible refine WkX.chk ?_); (conv => whnf)) | ((with_reducible refine Wk.chk ?_); (conv => whnf)) | (with_reducible refine EntLe.row ?_) | (with_reducible exact LeN.ro rfl) | (with_reducible exact LeN.rptr) | ((with_reducible refine LeL.chk ?_); (conv => whnf)) | ((with_reducible show LeO _ _); (first | (refine LeO.ro ?_) | (refine LeO.roCap ?_) | (refine LeO.nil ?_ (fun _ => rfl)))) | ((with_reducible show LeR _ _ _); (first | (refine LeR.own rfl rfl rfl ?_) | (refine LeR.view rfl rfl rfl ?_ ?_) | (refine LeR.ro ?_) | (refine LeR.roCap ?_) | (refine LeR.nil ?_ (fun _ => rfl)))) | ((with_reducible refine LeF.chk ?_); (conv => whnf)) | (with_reducible assumption) | ((with_reducible refine Run.mk ?_); (conv => whnf)) | ((with_reducible show drawOK _ _ = true); kernel_rfl) | ((with_reducible show drawOK2 _ _ = true); kernel_rfl) | ((with_reducible show drawOK3 _ _ = true); kernel_rfl))
  all_goals first
    | omega
    | (simp_all; done)
theorem con_wrapPlaces : Con prog 4 (fun s : ByteArray => [.v (.string s)]) (fun _ => .v (.bool true)) (fun _ => True) := by
  refine Con.of (by kernel_rfl) T_ok D_law_ok (.con con_wplaces (.con con_rplaces (.con con_same (.con con_head .nil)))) 3 [] q_wrapPlaces.1 q_wrapPlaces.2.1 q_wrapPlaces.2.2 (fun _ => rfl) fun s _ => ?_
  have h1 := places_eq s
  have h3 := outL_len (Plain.parts s) ((Plain.parts s).length + 1)
  have h4 := parts_len s
  repeat' (first | (with_reducible refine ⟨_, ⟨(.cons (.v _) .nil), ?_⟩, ?_⟩) | (with_reducible refine ⟨(_, _), ⟨(.cons (.lent _ _ _ _ _ _) (.cons (.lent _ _ _ _ _ _) .nil)), ?_⟩, ?_⟩) | (with_reducible refine ⟨(), ⟨.nil, ?_⟩, ?_⟩) | (with_reducible exact fun h => h) | (with_reducible refine ExE.row (by with_unfolding_all rfl) ?_) | (with_reducible refine And.intro ?_ ?_) | ((with_reducible intro hq); first | (exact bne1 hq (by with_reducible assumption)) | (exact bne1 (by with_reducible assumption) hq) | ((simp only [*, Bool.and_true, Bool.true_and, Bool.and_false, Bool.false_and, Bool.or_true, Bool.true_or, Bool.or_false, Bool.false_or, Bool.not_true, Bool.not_false, Bool.true_eq_false, Bool.false_eq_true, cond_true, cond_false, Bool.cond_self, reduceCtorEq] at hq); done) | (revert hq; with_reducible intro _)) | (with_reducible exact True.intro) | (with_reducible rfl) | ((with_reducible refine WkX.chk ?_); (conv => whnf)) | ((with_reducible refine Wk.chk ?_); (conv => whnf)) | (with_reducible refine EntLe.row ?_) | (with_reducible exact LeN.ro rfl) | (with_reducible exact LeN.rptr) | ((with_reducible refine LeL.chk ?_); (conv => whnf)) | ((with_reducible show LeO _ _); (first | (refine LeO.ro ?_) | (refine LeO.roCap ?_) | (refine LeO.nil ?_ (fun _ => rfl)))) | ((with_reducible show LeR _ _ _); (first | (refine LeR.own rfl rfl rfl ?_) | (refine LeR.view rfl rfl rfl ?_ ?_) | (refine LeR.ro ?_) | (refine LeR.roCap ?_) | (refine LeR.nil ?_ (fun _ => rfl)))) | ((with_reducible refine LeF.chk ?_); (conv => whnf)) | (with_reducible assumption) | ((with_reducible refine Run.mk ?_); (conv => whnf)) | ((with_reducible show drawOK _ _ = true); kernel_rfl) | ((with_reducible show drawOK2 _ _ = true); kernel_rfl) | ((with_reducible show drawOK3 _ _ = true); kernel_rfl))
  all_goals first
    | (simp only [Bool.not_eq_true', decide_eq_false_iff_not] at *; (try dsimp only); omega)
    | (simp_all; done)
end Go.SX.Try
/- No way is better: said of breaks. No program here. -/
namespace Go.SX.Plain
section
variable {l : List Part} {width : Int}
theorem brk_inj (hM : MonoTo l) {a b : Nat} (ha : a < (plcs l (l.length + 1)).length) (hb : b < (plcs l (l.length + 1)).length) (h : brk l a = brk l b) : a = b := by
  rcases Nat.lt_trichotomy a b with h1 | h1 | h1
  · have := brk_lt hM h1 hb
    rw [h] at this
    omega
  · exact h1
  · have := brk_lt hM h1 ha
    rw [h] at this
    omega
theorem map_getD (f : Nat → Int × Int) (Q : List Nat) {i : Nat} (h : i < Q.length) : (Q.map f).getD i (0, 0) = f (Q.getD i 0) := by
  simp [List.getD_eq_getElem?_getD, h]
theorem getD_memN {Q : List Nat} {i : Nat} (h : i < Q.length) : Q.getD i 0 ∈ Q := by
  simp [List.getD_eq_getElem?_getD, h]
structure NoLess (s : ByteArray) (width : Int) (other : List (Int × Int)) : Prop where
  cases : (badE s width other = 35 ∧ badN s width other = 0) ∨ badE s width other = 0
  least : badE s width other = 0 → ((tabOf (parts s) width).getD 0 zB).bad ≤ badN s width other
  few : badE s width other = 0 → badN s width other = ((tabOf (parts s) width).getD 0 zB).bad → (wrapOut (parts s) width).length ≤ other.length
  first : badE s width other = 0 → badN s width other = ((tabOf (parts s) width).getD 0 zB).bad → other.length = (wrapOut (parts s) width).length → ∀ i, i < (wrapOut (parts s) width).length →
    (∀ j, j < i → other.getD j (0, 0) = (wrapOut (parts s) width).getD j (0, 0)) → other.getD i (0, 0) ≠ (wrapOut (parts s) width).getD i (0, 0) → ((wrapOut (parts s) width).getD i (0, 0)).1 < (other.getD i (0, 0)).1
theorem own_way {s : ByteArray} (hc : checkN s.size width = 0) (hw1 : 2 ≤ width) (hw2 : width ≤ 200) : badE s width (wrapOut (parts s) width) = 0 ∧ badN s width (wrapOut (parts s) width) = ((tabOf (parts s) width).getD 0 zB).bad := by
  obtain ⟨h1, h2, h3, h4⟩ := wF_ok (l := parts s) (width := width) (parts_small s) hw1 hw2 _ 0 (Nat.zero_add _)
  rw [wrapOut_of hw1 hw2]
  obtain ⟨h5, h6⟩ := (badE_of hc h1).1 h2
  exact ⟨h5, h6.trans h3⟩
theorem noLess {s : ByteArray} (hc : checkN s.size width = 0) (hw1 : 2 ≤ width) (hw2 : width ≤ 200) {Q : List Nat} (ho : wOk (parts s) 0 Q) : NoLess s width (Q.map (brk (parts s))) := by
  have hS := parts_small s
  have hM := parts_mono s
  obtain ⟨w1, w2, w3, w4⟩ := wF_ok (l := parts s) (width := width) hS hw1 hw2 _ 0 (Nat.zero_add _)
  have hwo := wrapOut_of (s := s) (width := width) hw1 hw2
  have hwl := wOk_lt _ _ w1
  have hql := wOk_lt _ _ ho
  by_cases hf : wFit (parts s) width 0 Q
  · obtain ⟨h1, h2⟩ := (badE_of hc ho).1 hf
    have hop := (opt hS hw1 Q 0 ho hf).out
    have hlen : (wrapOut (parts s) width).length = (wF (parts s) width 0).length := by rw [hwo, List.length_map]
    refine ⟨.inr h1, fun _ => ?_, fun _ hb => ?_, fun _ hb hl i hi he hne => ?_⟩
    · rw [h2]
      unfold wB En at hop
      simp only at hop
      omega
    · rw [h2] at hb
      rw [hlen, List.length_map]
      unfold wB En at hop
      unfold En at w4
      simp only at hop
      omega
    · rw [h2] at hb
      rw [hwo] at he hne hi hl ⊢
      rw [List.length_map] at hi
      rw [List.length_map, List.length_map] at hl
      rw [map_getD _ _ hi, map_getD _ _ (by omega)] at hne ⊢
      have hf1 := first hS hw1 hw2 Q 0 ho hf hb (by omega) i (by omega) (fun j hj => by
        have := he j hj
        rw [map_getD _ _ (by omega), map_getD _ _ (by omega)] at this
        exact brk_inj hM (hql _ (getD_memN (by omega))) (hwl _ (getD_memN (by omega))) this) (fun h => hne (by rw [h]))
      exact brk_lt hM hf1 (hql _ (getD_memN (by omega)))
  · obtain ⟨h1, h2⟩ := (badE_of hc ho).2 hf
    refine ⟨.inl ⟨h1, h2⟩, fun h => ?_, fun h => ?_, fun h => ?_⟩ <;> (rw [h1] at h; cases h)
/-- A choice out of all places, hard ones among them. -/
theorem choice {s : ByteArray} (g : Nat → Bool) (hg : ∀ j, j < (plcs (parts s) ((parts s).length + 1)).length → kindAt (parts s) ((plcs (parts s) ((parts s).length + 1)).getD j 0) = 1 → g j = true) :
    wOk (parts s) 0 ((List.range (plcs (parts s) ((parts s).length + 1)).length).filter g) ∧
    ((List.range (plcs (parts s) ((parts s).length + 1)).length).filter g).map (fun i => (outL (parts s) ((parts s).length + 1)).getD i (0, 0)) = ((List.range (plcs (parts s) ((parts s).length + 1)).length).filter g).map (brk (parts s)) := by
  constructor
  · rw [List.range_eq_range']
    exact wOk_filter g hg _ 0 (Nat.zero_add _)
  · refine List.map_congr_left fun i hi => ?_
    have := List.mem_range.1 (List.mem_filter.1 hi).1
    exact outL_getD this
end
end Go.SX.Plain
/- Contract of the law WrapNoLess: true, whatever the input. -/
namespace Go.SX.Try
open Go.Proofs Go.Proofs.Try Go.SX.Plain
set_option maxRecDepth 100000
set_option maxHeartbeats 0
set_option linter.unusedSimpArgs false
theorem q_lawNoLess : fact 7 f7 := ⟨by kernel_rfl, rfl, by kernel_rfl⟩
theorem chosen_way (s : ByteArray) (picks : List Int) : ∃ Q, wOk (Plain.parts s) 0 Q ∧ chosenTo (outL (Plain.parts s) ((Plain.parts s).length + 1)) picks (outL (Plain.parts s) ((Plain.parts s).length + 1)).length = Q.map (brk (Plain.parts s)) := by
  obtain ⟨h1, h2⟩ := choice (s := s) (pickB (outL (Plain.parts s) ((Plain.parts s).length + 1)) picks) fun j hj hk => by
    unfold pickB
    rw [outL_getD hj, hk]
    rfl
  refine ⟨_, h1, ?_⟩
  rw [← h2]
  unfold chosenTo
  rw [outL_length]
theorem con_wrapNoLess : Con prog 7 (fun ((s, width, picks) : ByteArray × Int × List Int) => [.v (.string s), .v (.int .i64 width), .ro 1 C_int.enc C_int.d picks none true]) (fun _ => .v (.bool true)) (fun _ => True) := by
  refine Con.of (by kernel_rfl) T_ok D_law_ok (.con con_within (.con con_head (.con con_wrap (.con con_badness (.con con_wplaces (.con con_chosen .nil)))))) 3 [] q_lawNoLess.1 q_lawNoLess.2.1 q_lawNoLess.2.2 (fun _ => rfl) fun i _ => ?_
  obtain ⟨s, width, picks⟩ := i
  have hw0 := Int.emod_nonneg width (show (199 : Int) ≠ 0 by decide)
  have hw3 := Int.emod_lt_of_pos width (show (0 : Int) < 199 by decide)
  by_cases hsz : 4096 < s.size
  · have ht : decide ((4096 : Int) < (s.size : Int)) = true := decide_eq_true (by omega)
    repeat' (first | (with_reducible refine ⟨(_, _), ⟨(.cons (.v _) (.cons (.v _) .nil)), ?_⟩, ?_⟩) | (with_reducible refine ⟨(), ⟨.nil, ?_⟩, ?_⟩) | (with_reducible exact fun h => h) | (with_reducible refine ExE.row (by with_unfolding_all rfl) ?_) | (with_reducible refine And.intro ?_ ?_) | ((with_reducible intro hq); first | (exact bne1 hq (by with_reducible assumption)) | (exact bne1 (by with_reducible assumption) hq) | ((simp only [*, Bool.and_true, Bool.true_and, Bool.and_false, Bool.false_and, Bool.or_true, Bool.true_or, Bool.or_false, Bool.false_or, Bool.not_true, Bool.not_false, Bool.true_eq_false, Bool.false_eq_true, cond_true, cond_false, Bool.cond_self, reduceCtorEq] at hq); done) | (revert hq; with_reducible intro _)) | (with_reducible exact True.intro) | (with_reducible rfl) | ((with_reducible refine WkX.chk ?_); (conv => whnf)) | ((with_reducible refine Wk.chk ?_); (conv => whnf)) | (with_reducible refine EntLe.row ?_) | (with_reducible exact LeN.ro rfl) | (with_reducible exact LeN.rptr) | ((with_reducible refine LeL.chk ?_); (conv => whnf)) | ((with_reducible show LeO _ _); (first | (refine LeO.ro ?_) | (refine LeO.roCap ?_) | (refine LeO.nil ?_ (fun _ => rfl)))) | ((with_reducible show LeR _ _ _); (first | (refine LeR.own rfl rfl rfl ?_) | (refine LeR.view rfl rfl rfl ?_ ?_) | (refine LeR.ro ?_) | (refine LeR.roCap ?_) | (refine LeR.nil ?_ (fun _ => rfl)))) | ((with_reducible refine LeF.chk ?_); (conv => whnf)) | (with_reducible assumption) | ((with_reducible refine Run.mk ?_); (conv => whnf)) | ((with_reducible show drawOK _ _ = true); kernel_rfl) | ((with_reducible show drawOK2 _ _ = true); kernel_rfl) | ((with_reducible show drawOK3 _ _ = true); kernel_rfl))
    all_goals first
      | omega
      | (dsimp only; omega)
      | (apply Fits.i64 <;> omega)
      | rfl
      | trace_state
  have ht : decide ((4096 : Int) < (s.size : Int)) = false := decide_eq_false (by omega)
  have hck : checkN s.size (2 + width % 199) = 0 := by unfold checkN; rw [if_neg (by omega), if_neg (by omega)]
  have hL : wrapL s (2 + width % 199) = wrapOut (Plain.parts s) (2 + width % 199) := by unfold wrapL; rw [if_pos hck]
  have hB : wrapB s (2 + width % 199) = ((tabOf (Plain.parts s) (2 + width % 199)).getD 0 zB).bad := by unfold wrapB; rw [if_pos hck]
  obtain ⟨o1, o2⟩ := own_way (s := s) (width := 2 + width % 199) hck (by omega) (by omega)
  rw [← hL] at o1 o2
  rw [← hB] at o2
  obtain ⟨Q, hQ, hch⟩ := chosen_way s picks
  have hno := noLess (s := s) (width := 2 + width % 199) hck (by omega) (by omega) hQ
  rw [← hch] at hno
  obtain ⟨n1, n2, n3, n4⟩ := hno
  rw [← hL] at n3 n4
  rw [← hB] at n2 n3 n4
  have hpl := parts_len s
  have hout : (outL (Plain.parts s) ((Plain.parts s).length + 1)).length ≤ (Plain.parts s).length + 1 := outL_len _ _
  revert n1 n2 n3 n4
  generalize hOT : chosenTo (outL (Plain.parts s) ((Plain.parts s).length + 1)) picks (outL (Plain.parts s) ((Plain.parts s).length + 1)).length = OT
  intro n1 n2 n3 n4
  repeat' (first | (with_reducible refine ⟨(_, _), ⟨(.cons (.v _) (.cons (.v _) .nil)), ?_⟩, ?_⟩) | (with_reducible refine ⟨(_, _, _), ⟨(.cons (.v _) (.cons (.v _) (.cons (.lent _ _ _ _ _ _) .nil))), ?_⟩, ?_⟩) | (with_reducible refine ⟨_, ⟨(.cons (.v _) .nil), ?_⟩, ?_⟩) | (with_reducible refine ⟨(_, picks), ⟨(.cons (.lent _ _ _ _ _ _) (.cons (.lent _ _ _ _ _ _) .nil)), ?_⟩, ?_⟩) | (with_reducible refine ⟨(), ⟨.nil, ?_⟩, ?_⟩) | (with_reducible exact fun h => h) | (with_reducible refine ExE.row (by with_unfolding_all rfl) ?_) | (with_reducible refine And.intro ?_ ?_) | ((with_reducible intro hq); first | (exact bne1 hq (by with_reducible assumption)) | (exact bne1 (by with_reducible assumption) hq) | ((simp only [*, Bool.and_true, Bool.true_and, Bool.and_false, Bool.false_and, Bool.or_true, Bool.true_or, Bool.or_false, Bool.false_or, Bool.not_true, Bool.not_false, Bool.true_eq_false, Bool.false_eq_true, cond_true, cond_false, Bool.cond_self, reduceCtorEq] at hq); done) | (revert hq; with_reducible intro _)) | (with_reducible exact True.intro) | (with_reducible rfl) | ((with_reducible refine WkX.chk ?_); (conv => whnf)) | ((with_reducible refine Wk.chk ?_); (conv => whnf)) | (with_reducible refine EntLe.row ?_) | (with_reducible exact LeN.ro rfl) | (with_reducible exact LeN.rptr) | ((with_reducible refine LeL.chk ?_); (conv => whnf)) | ((with_reducible show LeO _ _); (first | (refine LeO.ro ?_) | (refine LeO.roCap ?_) | (refine LeO.nil ?_ (fun _ => rfl)))) | ((with_reducible show LeR _ _ _); (first | (refine LeR.own rfl rfl rfl ?_) | (refine LeR.view rfl rfl rfl ?_ ?_) | (refine LeR.ro ?_) | (refine LeR.roCap ?_) | (refine LeR.nil ?_ (fun _ => rfl)))) | ((with_reducible refine LeF.chk ?_); (conv => whnf)) | (with_reducible assumption) | ((with_reducible refine Run.mk ?_); (conv => whnf)) | ((with_reducible show drawOK _ _ = true); kernel_rfl) | ((with_reducible show drawOK2 _ _ = true); kernel_rfl) | ((with_reducible show drawOK3 _ _ = true); kernel_rfl))
  all_goals (try simp only [hOT] at *)
  any_goals (first
    | omega
    | (dsimp only; omega)
    | (apply Fits.i64 <;> omega)
    | (clear n2 n3 n4; simp_all; done)
    | (clear n2 n3 n4; exfalso; rcases n1 with n1 | n1 <;> simp_all; done)
    | (clear n2 n3 n4; rcases n1 with n1 | n1 <;> simp_all; done)
    | (exfalso; simp only [Bool.or_eq_true, Bool.and_eq_true, decide_eq_true_eq, beq_iff_eq, beq_eq_false_iff_ne, ne_eq] at *; omega))
  have hE0 : badE s (2 + width % 199) OT = 0 := by
    rcases n1 with n1 | n1
    · exfalso; simp_all
    · exact n1
  have hwl := wrapL_len s (2 + width % 199)
  generalize wrapL s (2 + width % 199) = W at *
  generalize wrapB s (2 + width % 199) = B at *
  generalize badN s (2 + width % 199) OT = M at *
  generalize badE s (2 + width % 199) OT = EO at *
  have hd : C_brk.d = (0, 0) := rfl
  refine loopI Nat [] (fun i => [(15, .v (.int .i64 (i : Nat)))]) (fun _ => []) (fun i => i ≤ W.length ∧ ∀ j, j < i → OT.getD j (0, 0) = W.getD j (0, 0)) (fun i => W.length - i) 0 ⟨Nat.zero_le _, fun j hj => by omega⟩ (Wk.chk ?_) fun i hi => ?_
  · ((conv => whnf); repeat' (first | (with_reducible exact fun h => h) | (with_reducible refine ExE.row (by with_unfolding_all rfl) ?_) | (with_reducible refine And.intro ?_ ?_) | ((with_reducible intro hq); first | (exact bne1 hq (by with_reducible assumption)) | (exact bne1 (by with_reducible assumption) hq) | ((simp only [*, Bool.and_true, Bool.true_and, Bool.and_false, Bool.false_and, Bool.or_true, Bool.true_or, Bool.or_false, Bool.false_or, Bool.not_true, Bool.not_false, Bool.true_eq_false, Bool.false_eq_true, cond_true, cond_false, Bool.cond_self, reduceCtorEq] at hq); done) | (revert hq; with_reducible intro _)) | (with_reducible exact True.intro) | (with_reducible rfl) | ((with_reducible refine WkX.chk ?_); (conv => whnf)) | ((with_reducible refine Wk.chk ?_); (conv => whnf)) | (with_reducible refine EntLe.row ?_) | (with_reducible exact LeN.ro rfl) | (with_reducible exact LeN.rptr) | ((with_reducible refine LeL.chk ?_); (conv => whnf)) | ((with_reducible show LeO _ _); (first | (refine LeO.ro ?_) | (refine LeO.roCap ?_) | (refine LeO.nil ?_ (fun _ => rfl)))) | ((with_reducible show LeR _ _ _); (first | (refine LeR.own rfl rfl rfl ?_) | (refine LeR.view rfl rfl rfl ?_ ?_) | (refine LeR.ro ?_) | (refine LeR.roCap ?_) | (refine LeR.nil ?_ (fun _ => rfl)))) | ((with_reducible refine LeF.chk ?_); (conv => whnf)) | (with_reducible assumption) | ((with_reducible refine Run.mk ?_); (conv => whnf)) | ((with_reducible show drawOK _ _ = true); kernel_rfl) | ((with_reducible show drawOK2 _ _ = true); kernel_rfl) | ((with_reducible show drawOK3 _ _ = true); kernel_rfl)))
    all_goals rfl
  obtain ⟨hi1, hi2⟩ := hi
  have e1 : ((i : Int)).toNat = i := Int.toNat_natCast _
  by_cases hgo : M = B ∧ OT.length = W.length ∧ i < W.length
  · obtain ⟨g1, g2, g3⟩ := hgo
    have c1 : (M == B) = true := by simpa using g1
    have c2 : ((OT.length : Int) == (W.length : Int)) = true := by rw [g2]; simp
    have c3 : decide ((i : Int) < (W.length : Int)) = true := decide_eq_true (by omega)
    have hfst := n4 hE0 g1 g2 i g3 hi2
    have hne : (!((OT.getD i (0, 0)).1 == (W.getD i (0, 0)).1 && (OT.getD i (0, 0)).2 == (W.getD i (0, 0)).2)) = true → OT.getD i (0, 0) ≠ W.getD i (0, 0) := fun h he => by
      rw [he] at h
      simp at h
    have heq : (!((OT.getD i (0, 0)).1 == (W.getD i (0, 0)).1 && (OT.getD i (0, 0)).2 == (W.getD i (0, 0)).2)) = false → OT.getD i (0, 0) = W.getD i (0, 0) := fun h => by
      rw [Bool.not_eq_false', Bool.and_eq_true, beq_iff_eq, beq_iff_eq] at h
      exact Prod.ext h.1 h.2
    have hnx : OT.getD i (0, 0) = W.getD i (0, 0) → ∀ j, j < i + 1 → OT.getD j (0, 0) = W.getD j (0, 0) := fun h j hj => by
      by_cases hje : j = i
      · rw [hje]; exact h
      · exact hi2 j (by omega)
    clear n4
    repeat' (first | (with_reducible refine ⟨(), ⟨.nil, ?_⟩, ?_⟩) | (with_reducible refine ex_of (α := Nat) (i + 1) ⟨⟨?_, ?_⟩, ?_⟩ ?_) | (with_reducible exact fun h => h) | (with_reducible refine ExE.row (by with_unfolding_all rfl) ?_) | (with_reducible refine And.intro ?_ ?_) | ((with_reducible intro hq); first | (exact bne1 hq (by with_reducible assumption)) | (exact bne1 (by with_reducible assumption) hq) | ((simp only [*, Bool.and_true, Bool.true_and, Bool.and_false, Bool.false_and, Bool.or_true, Bool.true_or, Bool.or_false, Bool.false_or, Bool.not_true, Bool.not_false, Bool.true_eq_false, Bool.false_eq_true, cond_true, cond_false, Bool.cond_self, reduceCtorEq] at hq); done) | (revert hq; with_reducible intro _)) | (with_reducible exact True.intro) | (with_reducible rfl) | ((with_reducible refine WkX.chk ?_); (conv => whnf)) | ((with_reducible refine Wk.chk ?_); (conv => whnf)) | (with_reducible refine EntLe.row ?_) | (with_reducible exact LeN.ro rfl) | (with_reducible exact LeN.rptr) | ((with_reducible refine LeL.chk ?_); (conv => whnf)) | ((with_reducible show LeO _ _); (first | (refine LeO.ro ?_) | (refine LeO.roCap ?_) | (refine LeO.nil ?_ (fun _ => rfl)))) | ((with_reducible show LeR _ _ _); (first | (refine LeR.own rfl rfl rfl ?_) | (refine LeR.view rfl rfl rfl ?_ ?_) | (refine LeR.ro ?_) | (refine LeR.roCap ?_) | (refine LeR.nil ?_ (fun _ => rfl)))) | ((with_reducible refine LeF.chk ?_); (conv => whnf)) | (with_reducible assumption) | ((with_reducible refine Run.mk ?_); (conv => whnf)) | ((with_reducible show drawOK _ _ = true); kernel_rfl) | ((with_reducible show drawOK2 _ _ = true); kernel_rfl) | ((with_reducible show drawOK3 _ _ = true); kernel_rfl))
    all_goals (try simp only [e1, hd] at *)
    all_goals first
      | omega
      | (apply Fits.i64 <;> omega)
      | (exfalso; exact hcf (by assumption))
      | (have hx := hfst (hne (by assumption)); rw [decide_eq_true hx]; rfl)
      | (have hx := hfst (hne (by assumption)); exact (Bool.false_ne_true ((show decide ((W.getD i (0, 0)).1 < (OT.getD i (0, 0)).1) = false by assumption).symm.trans (decide_eq_true hx))).elim)
      | exact hnx (heq (by assumption)) _ (by assumption)
      | (dsimp only; omega)
      | trace_state
  · have hcf : (M == B && (OT.length : Int) == (W.length : Int) && decide ((i : Int) < (W.length : Int))) = true → False := fun h => by
      simp only [Bool.and_eq_true, beq_iff_eq, decide_eq_true_eq] at h
      exact hgo ⟨h.1.1, by omega, by omega⟩
    repeat' (first | (with_reducible refine ⟨(), ⟨.nil, ?_⟩, ?_⟩) | (with_reducible refine ex_of (α := Nat) (i + 1) ⟨⟨?_, ?_⟩, ?_⟩ ?_) | (with_reducible exact fun h => h) | (with_reducible refine ExE.row (by with_unfolding_all rfl) ?_) | (with_reducible refine And.intro ?_ ?_) | ((with_reducible intro hq); first | (exact bne1 hq (by with_reducible assumption)) | (exact bne1 (by with_reducible assumption) hq) | ((simp only [*, Bool.and_true, Bool.true_and, Bool.and_false, Bool.false_and, Bool.or_true, Bool.true_or, Bool.or_false, Bool.false_or, Bool.not_true, Bool.not_false, Bool.true_eq_false, Bool.false_eq_true, cond_true, cond_false, Bool.cond_self, reduceCtorEq] at hq); done) | (revert hq; with_reducible intro _)) | (with_reducible exact True.intro) | (with_reducible rfl) | ((with_reducible refine WkX.chk ?_); (conv => whnf)) | ((with_reducible refine Wk.chk ?_); (conv => whnf)) | (with_reducible refine EntLe.row ?_) | (with_reducible exact LeN.ro rfl) | (with_reducible exact LeN.rptr) | ((with_reducible refine LeL.chk ?_); (conv => whnf)) | ((with_reducible show LeO _ _); (first | (refine LeO.ro ?_) | (refine LeO.roCap ?_) | (refine LeO.nil ?_ (fun _ => rfl)))) | ((with_reducible show LeR _ _ _); (first | (refine LeR.own rfl rfl rfl ?_) | (refine LeR.view rfl rfl rfl ?_ ?_) | (refine LeR.ro ?_) | (refine LeR.roCap ?_) | (refine LeR.nil ?_ (fun _ => rfl)))) | ((with_reducible refine LeF.chk ?_); (conv => whnf)) | (with_reducible assumption) | ((with_reducible refine Run.mk ?_); (conv => whnf)) | ((with_reducible show drawOK _ _ = true); kernel_rfl) | ((with_reducible show drawOK2 _ _ = true); kernel_rfl) | ((with_reducible show drawOK3 _ _ = true); kernel_rfl))
    all_goals (try simp only [e1, hd] at *)
    all_goals first
      | omega
      | (apply Fits.i64 <;> omega)
      | (exfalso; exact hcf (by assumption))
      | (have hx := hfst (hne (by assumption)); rw [decide_eq_true hx]; rfl)
      | (have hx := hfst (hne (by assumption)); exact (Bool.false_ne_true ((show decide ((W.getD i (0, 0)).1 < (OT.getD i (0, 0)).1) = false by assumption).symm.trans (decide_eq_true hx))).elim)
      | exact hnx (heq (by assumption)) _ (by assumption)
      | (dsimp only; omega)
      | trace_state
end Go.SX.Try
/- Every way of a text with few places, told by the bits of a number. No program here. -/
namespace Go.SX.Plain
def hardB (pl : List (Int × Int)) (i : Nat) : Bool := decide ((pl.getD i (0, 0)).2 = 1)
/-- How many places ahead of this one are not hard. -/
def freeN (pl : List (Int × Int)) : Nat → Nat
  | 0 => 0
  | i + 1 => if hardB pl i = true then freeN pl i else freeN pl i + 1
def bitI (way : Int) (k : Nat) : Bool := (way / 2 ^ k).tmod 2 == 1
def allB (pl : List (Int × Int)) (way : Int) (i : Nat) : Bool := hardB pl i || bitI way (freeN pl i)
def othTo (pl : List (Int × Int)) (way : Int) (k : Nat) : List (Int × Int) := ((List.range k).filter (allB pl way)).map fun i => pl.getD i (0, 0)
section
variable {pl : List (Int × Int)} {way : Int} {k : Nat}
theorem othTo_yes (h : allB pl way k = true) : othTo pl way (k + 1) = othTo pl way k ++ [pl.getD k (0, 0)] := by
  unfold othTo
  rw [List.range_succ, List.filter_append, List.filter_cons_of_pos h, List.filter_nil, List.map_append]
  rfl
theorem othTo_no (h : allB pl way k = false) : othTo pl way (k + 1) = othTo pl way k := by
  unfold othTo
  rw [List.range_succ, List.filter_append, List.filter_cons_of_neg (by rw [h]; decide), List.filter_nil, List.append_nil]
theorem othTo_len (pl : List (Int × Int)) (way : Int) (k : Nat) : (othTo pl way k).length ≤ k := by
  unfold othTo
  rw [List.length_map]
  exact Nat.le_trans (List.length_filter_le _ _) (by simp)
theorem freeN_le (pl : List (Int × Int)) : ∀ k, freeN pl k ≤ k
  | 0 => Nat.le_refl _
  | k + 1 => by
    have := freeN_le pl k
    unfold freeN
    split <;> omega
theorem freeN_mono (pl : List (Int × Int)) {i j : Nat} (h : i ≤ j) : freeN pl i ≤ freeN pl j := by
  induction j with
  | zero => rw [show i = 0 by omega]; exact Nat.le_refl _
  | succ j ih =>
    by_cases he : i = j + 1
    · rw [he]; exact Nat.le_refl _
    · have := ih (by omega)
      have h2 : freeN pl j ≤ freeN pl (j + 1) := by
        rw [freeN]
        split <;> omega
      omega
theorem freeN_lt {i j : Nat} (h : i < j) (hf : hardB pl i = false) : freeN pl i < freeN pl j := by
  have h1 : freeN pl (i + 1) = freeN pl i + 1 := by rw [freeN, if_neg (by rw [hf]; decide)]
  have := freeN_mono pl (i := i + 1) (j := j) h
  omega
theorem bitI_nat (w k : Nat) : bitI (w : Int) k = w.testBit k := by
  unfold bitI
  rw [Nat.testBit_eq_decide_div_mod_eq]
  have e : ((w : Int) / (2 : Int) ^ k) = ((w / 2 ^ k : Nat) : Int) := by
    rw [Int.natCast_ediv]
    simp
  rw [e, show (((w / 2 ^ k : Nat) : Int).tmod 2) = ((w / 2 ^ k % 2 : Nat) : Int) from rfl]
  rw [Bool.eq_iff_iff]
  simp only [beq_iff_eq, decide_eq_true_eq]
  omega
theorem some_way (S : Nat → Bool) (pl : List (Int × Int)) : ∀ i, ∃ w : Nat, w < 2 ^ freeN pl i ∧ ∀ j, j < i → hardB pl j = false → bitI (w : Int) (freeN pl j) = S j
  | 0 => ⟨0, by simp [freeN], fun j h => by omega⟩
  | i + 1 => by
    obtain ⟨w, h1, h2⟩ := some_way S pl i
    cases hh : hardB pl i with
    | true =>
      refine ⟨w, by rw [freeN, if_pos hh]; exact h1, fun j hj hf => ?_⟩
      by_cases he : j = i
      · subst he; rw [hh] at hf; cases hf
      · exact h2 j (by omega) hf
    | false =>
      have hfn : freeN pl (i + 1) = freeN pl i + 1 := by rw [freeN, if_neg (by rw [hh]; decide)]
      cases hs : S i with
      | false =>
        refine ⟨w, by rw [hfn, Nat.pow_succ]; omega, fun j hj hf => ?_⟩
        by_cases he : j = i
        · subst he
          rw [bitI_nat, hs]
          exact Nat.testBit_lt_two_pow h1
        · exact h2 j (by omega) hf
      | true =>
        refine ⟨2 ^ freeN pl i + w, by rw [hfn, Nat.pow_succ]; omega, fun j hj hf => ?_⟩
        rw [bitI_nat]
        by_cases he : j = i
        · subst he
          rw [Nat.testBit_two_pow_add_eq, Nat.testBit_lt_two_pow h1, hs]
          rfl
        · rw [Nat.testBit_two_pow_add_gt (freeN_lt (by omega) hf), ← bitI_nat]
          exact h2 j (by omega) hf
end
section
variable {l : List Part}
theorem wOk_ge : ∀ (Q : List Nat) (k : Nat), wOk l k Q → ∀ n ∈ Q, k ≤ n
  | [], _, _, n, h => by cases h
  | m :: Q, k, ho, n, h => by
    rcases List.mem_cons.1 h with rfl | h
    · exact ho.1
    · have := wOk_ge Q _ ho.2.2.2 n h
      have := ho.1
      omega
theorem wOk_hard : ∀ (Q : List Nat) (k : Nat), wOk l k Q → ∀ j, k ≤ j → j < (plcs l (l.length + 1)).length → kindAt l ((plcs l (l.length + 1)).getD j 0) = 1 → j ∈ Q
  | [], k, ho, j, h1, h2, h3 => absurd h3 (ho.2 j h1 h2)
  | m :: Q, k, ho, j, h1, h2, h3 => by
    obtain ⟨a1, a2, a3, a4⟩ := ho
    rcases Nat.lt_trichotomy j m with h | h | h
    · exact absurd h3 (a3 j h1 h)
    · rw [h]; exact List.mem_cons_self
    · exact List.mem_cons_of_mem _ (wOk_hard Q _ a4 j h h2 h3)
theorem wOk_self : ∀ (d k : Nat) (Q : List Nat), k + d = (plcs l (l.length + 1)).length → wOk l k Q → (List.range' k d).filter (fun i => decide (i ∈ Q)) = Q
  | 0, k, [], hd, ho => rfl
  | 0, k, n :: Q, hd, ho => by
    have := ho.1
    have := ho.2.1
    omega
  | d + 1, k, [], hd, ho => by simp
  | d + 1, k, m :: Q, hd, ho => by
    rw [List.range'_succ]
    by_cases hm : k = m
    · subst hm
      rw [List.filter_cons_of_pos (by simp)]
      have ih := wOk_self d (k + 1) Q (by omega) ho.2.2.2
      refine congrArg (k :: ·) (Eq.trans (List.filter_congr fun i hi => ?_) ih)
      have := (List.mem_range'_1.1 hi).1
      rw [decide_eq_decide, List.mem_cons]
      constructor
      · rintro (h | h)
        · omega
        · exact h
      · exact .inr
    · have hk := ho.1
      have hno : k ∉ m :: Q := fun h => by
        rcases List.mem_cons.1 h with h | h
        · exact hm h
        · have := wOk_ge Q _ ho.2.2.2 k h
          omega
      rw [List.filter_cons_of_neg (by simpa using hno)]
      exact wOk_self d (k + 1) (m :: Q) (by omega) ⟨by omega, ho.2.1, fun j h1 h2 => ho.2.2.1 j (by omega) h2, ho.2.2.2⟩
end
theorem hardB_out {s : ByteArray} {j : Nat} (hj : j < (plcs (parts s) ((parts s).length + 1)).length) : hardB (outL (parts s) ((parts s).length + 1)) j = decide (kindAt (parts s) ((plcs (parts s) ((parts s).length + 1)).getD j 0) = 1) := by
  unfold hardB
  rw [outL_getD hj]
theorem all_way (s : ByteArray) (way : Int) : ∃ Q, wOk (parts s) 0 Q ∧ othTo (outL (parts s) ((parts s).length + 1)) way (outL (parts s) ((parts s).length + 1)).length = Q.map (brk (parts s)) := by
  obtain ⟨h1, h2⟩ := choice (s := s) (allB (outL (parts s) ((parts s).length + 1)) way) fun j hj hk => by
    unfold allB
    rw [hardB_out hj, hk]
    rfl
  refine ⟨_, h1, ?_⟩
  rw [← h2]
  unfold othTo
  rw [outL_length]
/-- The table's way is among them. -/
theorem met_way {s : ByteArray} {width : Int} (hw1 : 2 ≤ width) (hw2 : width ≤ 200) : ∃ w : Nat, w < 2 ^ freeN (outL (parts s) ((parts s).length + 1)) (outL (parts s) ((parts s).length + 1)).length ∧
    othTo (outL (parts s) ((parts s).length + 1)) w (outL (parts s) ((parts s).length + 1)).length = wrapOut (parts s) width := by
  obtain ⟨w1, _, _, _⟩ := wF_ok (l := parts s) (width := width) (parts_small s) hw1 hw2 _ 0 (Nat.zero_add _)
  obtain ⟨w, h1, h2⟩ := some_way (fun i => decide (i ∈ wF (parts s) width 0)) (outL (parts s) ((parts s).length + 1)) (outL (parts s) ((parts s).length + 1)).length
  refine ⟨w, h1, ?_⟩
  have hs := wOk_self _ 0 _ (Nat.zero_add _) w1
  have hall : (List.range (plcs (parts s) ((parts s).length + 1)).length).filter (allB (outL (parts s) ((parts s).length + 1)) w) = wF (parts s) width 0 := by
    refine Eq.trans ?_ hs
    rw [← List.range_eq_range']
    refine List.filter_congr fun i hi => ?_
    have hi := List.mem_range.1 hi
    unfold allB
    cases hh : hardB (outL (parts s) ((parts s).length + 1)) i with
    | true =>
      rw [hardB_out hi] at hh
      have := wOk_hard _ 0 w1 i (Nat.zero_le _) hi (of_decide_eq_true hh)
      simp [this]
    | false =>
      rw [h2 i (by rw [outL_length]; exact hi) hh]
      rfl
  rw [wrapOut_of hw1 hw2]
  unfold othTo
  rw [outL_length, hall]
  refine List.map_congr_left fun i hi => ?_
  exact outL_getD (wOk_lt _ _ w1 i hi)
end Go.SX.Plain
/- Contract of the law WrapAll: true, if the text has no more than 2000000 bytes. -/
namespace Go.SX.Try
open Go.Proofs Go.Proofs.Try Go.SX.Plain
set_option maxRecDepth 100000
set_option maxHeartbeats 0
set_option linter.unusedSimpArgs false
theorem q_lawAll : fact 8 f8 := ⟨by kernel_rfl, rfl, by kernel_rfl⟩
theorem con_wrapAll : Con prog 8 (fun ((s, width) : ByteArray × Int) => [.v (.string s), .v (.int .i64 width)]) (fun _ => .v (.bool true)) (fun (s, _) => s.size ≤ 2000000) := by
  refine Con.of (by kernel_rfl) T_ok D_law_ok (.con con_within (.con con_head (.con con_wrap (.con con_badness (.con con_wplaces .nil))))) 3 [] q_lawAll.1 q_lawAll.2.1 q_lawAll.2.2 (fun _ => rfl) fun i hi => ?_
  obtain ⟨s, width⟩ := i
  have hs : s.size ≤ 2000000 := hi
  have hw0 := Int.emod_nonneg width (show (199 : Int) ≠ 0 by decide)
  have hw3 := Int.emod_lt_of_pos width (show (0 : Int) < 199 by decide)
  have hpl := parts_len s
  have hout : (outL (Plain.parts s) ((Plain.parts s).length + 1)).length ≤ (Plain.parts s).length + 1 := outL_len _ _
  have hmet := met_way (s := s) (width := 2 + width % 199) (by omega) (by omega)
  have hall := all_way s
  repeat' (first | (with_reducible refine ⟨(_, _), ⟨(.cons (.v _) (.cons (.v _) .nil)), ?_⟩, ?_⟩) | (with_reducible refine ⟨_, ⟨(.cons (.v _) .nil), ?_⟩, ?_⟩) | (with_reducible exact fun h => h) | (with_reducible refine ExE.row (by with_unfolding_all rfl) ?_) | (with_reducible refine And.intro ?_ ?_) | ((with_reducible intro hq); first | (exact bne1 hq (by with_reducible assumption)) | (exact bne1 (by with_reducible assumption) hq) | ((simp only [*, Bool.and_true, Bool.true_and, Bool.and_false, Bool.false_and, Bool.or_true, Bool.true_or, Bool.or_false, Bool.false_or, Bool.not_true, Bool.not_false, Bool.true_eq_false, Bool.false_eq_true, cond_true, cond_false, Bool.cond_self, reduceCtorEq] at hq); done) | (revert hq; with_reducible intro _)) | (with_reducible exact True.intro) | (with_reducible rfl) | ((with_reducible refine WkX.chk ?_); (conv => whnf)) | ((with_reducible refine Wk.chk ?_); (conv => whnf)) | (with_reducible refine EntLe.row ?_) | (with_reducible exact LeN.ro rfl) | (with_reducible exact LeN.rptr) | ((with_reducible refine LeL.chk ?_); (conv => whnf)) | ((with_reducible show LeO _ _); (first | (refine LeO.ro ?_) | (refine LeO.roCap ?_) | (refine LeO.nil ?_ (fun _ => rfl)))) | ((with_reducible show LeR _ _ _); (first | (refine LeR.own rfl rfl rfl ?_) | (refine LeR.view rfl rfl rfl ?_ ?_) | (refine LeR.ro ?_) | (refine LeR.roCap ?_) | (refine LeR.nil ?_ (fun _ => rfl)))) | ((with_reducible refine LeF.chk ?_); (conv => whnf)) | (with_reducible assumption) | ((with_reducible refine Run.mk ?_); (conv => whnf)) | ((with_reducible show drawOK _ _ = true); kernel_rfl) | ((with_reducible show drawOK2 _ _ = true); kernel_rfl) | ((with_reducible show drawOK3 _ _ = true); kernel_rfl))
  any_goals (first | omega | (dsimp only; omega) | (apply Fits.i64 <;> omega))
  generalize outL (Plain.parts s) ((Plain.parts s).length + 1) = pl at *
  have hfl := freeN_le pl
  have hd : C_brk.d = (0, 0) := rfl
  refine loopI Nat [] (fun i => [(7, .v (.int .i64 (i : Nat))), (6, .v (.int .i64 (freeN pl i : Nat)))]) (fun _ => []) (fun i => i ≤ pl.length) (fun i => pl.length - i) 0 (Nat.zero_le _) (Wk.chk ?_) fun i hi => ?_
  · ((conv => whnf); repeat' (first | (with_reducible exact fun h => h) | (with_reducible refine ExE.row (by with_unfolding_all rfl) ?_) | (with_reducible refine And.intro ?_ ?_) | ((with_reducible intro hq); first | (exact bne1 hq (by with_reducible assumption)) | (exact bne1 (by with_reducible assumption) hq) | ((simp only [*, Bool.and_true, Bool.true_and, Bool.and_false, Bool.false_and, Bool.or_true, Bool.true_or, Bool.or_false, Bool.false_or, Bool.not_true, Bool.not_false, Bool.true_eq_false, Bool.false_eq_true, cond_true, cond_false, Bool.cond_self, reduceCtorEq] at hq); done) | (revert hq; with_reducible intro _)) | (with_reducible exact True.intro) | (with_reducible rfl) | ((with_reducible refine WkX.chk ?_); (conv => whnf)) | ((with_reducible refine Wk.chk ?_); (conv => whnf)) | (with_reducible refine EntLe.row ?_) | (with_reducible exact LeN.ro rfl) | (with_reducible exact LeN.rptr) | ((with_reducible refine LeL.chk ?_); (conv => whnf)) | ((with_reducible show LeO _ _); (first | (refine LeO.ro ?_) | (refine LeO.roCap ?_) | (refine LeO.nil ?_ (fun _ => rfl)))) | ((with_reducible show LeR _ _ _); (first | (refine LeR.own rfl rfl rfl ?_) | (refine LeR.view rfl rfl rfl ?_ ?_) | (refine LeR.ro ?_) | (refine LeR.roCap ?_) | (refine LeR.nil ?_ (fun _ => rfl)))) | ((with_reducible refine LeF.chk ?_); (conv => whnf)) | (with_reducible assumption) | ((with_reducible refine Run.mk ?_); (conv => whnf)) | ((with_reducible show drawOK _ _ = true); kernel_rfl) | ((with_reducible show drawOK2 _ _ = true); kernel_rfl) | ((with_reducible show drawOK3 _ _ = true); kernel_rfl)))
    all_goals rfl
  have e1 : ((i : Int)).toNat = i := Int.toNat_natCast _
  have hfi := hfl i
  have hs1 : ((pl.getD ((i : Int)).toNat C_brk.d).2 != 1) = true → freeN pl (i + 1) = freeN pl i + 1 := fun h => by
    rw [e1, hd] at h
    rw [freeN, if_neg (by unfold hardB; simpa using h)]
  have hs0 : ((pl.getD ((i : Int)).toNat C_brk.d).2 != 1) = false → freeN pl (i + 1) = freeN pl i := fun h => by
    rw [e1, hd] at h
    rw [freeN, if_pos (by unfold hardB; simpa using h)]
  by_cases hil : i < pl.length
  · have hlt : decide ((i : Int) < (pl.length : Int)) = true := decide_eq_true (by omega)
    repeat' (first | (with_reducible refine ex_of (α := Nat) (i + 1) ⟨?_, ?_⟩ ?_) | (with_reducible exact fun h => h) | (with_reducible refine ExE.row (by with_unfolding_all rfl) ?_) | (with_reducible refine And.intro ?_ ?_) | ((with_reducible intro hq); first | (exact bne1 hq (by with_reducible assumption)) | (exact bne1 (by with_reducible assumption) hq) | ((simp only [*, Bool.and_true, Bool.true_and, Bool.and_false, Bool.false_and, Bool.or_true, Bool.true_or, Bool.or_false, Bool.false_or, Bool.not_true, Bool.not_false, Bool.true_eq_false, Bool.false_eq_true, cond_true, cond_false, Bool.cond_self, reduceCtorEq] at hq); done) | (revert hq; with_reducible intro _)) | (with_reducible exact True.intro) | (with_reducible rfl) | ((with_reducible refine WkX.chk ?_); (conv => whnf)) | ((with_reducible refine Wk.chk ?_); (conv => whnf)) | (with_reducible refine EntLe.row ?_) | (with_reducible exact LeN.ro rfl) | (with_reducible exact LeN.rptr) | ((with_reducible refine LeL.chk ?_); (conv => whnf)) | ((with_reducible show LeO _ _); (first | (refine LeO.ro ?_) | (refine LeO.roCap ?_) | (refine LeO.nil ?_ (fun _ => rfl)))) | ((with_reducible show LeR _ _ _); (first | (refine LeR.own rfl rfl rfl ?_) | (refine LeR.view rfl rfl rfl ?_ ?_) | (refine LeR.ro ?_) | (refine LeR.roCap ?_) | (refine LeR.nil ?_ (fun _ => rfl)))) | ((with_reducible refine LeF.chk ?_); (conv => whnf)) | (with_reducible assumption) | ((with_reducible refine Run.mk ?_); (conv => whnf)) | ((with_reducible show drawOK _ _ = true); kernel_rfl) | ((with_reducible show drawOK2 _ _ = true); kernel_rfl) | ((with_reducible show drawOK3 _ _ = true); kernel_rfl))
    all_goals first
      | omega
      | (apply Fits.i64 <;> omega)
      | (dsimp only; omega)
      | (rw [hs1 (by assumption)]; omega)
      | (rw [hs0 (by assumption)]; done)
      | trace_state
  have hlt : decide ((i : Int) < (pl.length : Int)) = false := decide_eq_false (by omega)
  obtain rfl : i = pl.length := by
    have : i ≤ pl.length := hi
    omega
  clear hs1 hs0
  by_cases hbig : 9 < freeN pl pl.length ∨ 200 < s.size
  · have hb : ∀ b, b = (decide ((9 : Int) < ((freeN pl pl.length : Nat) : Int)) || decide ((200 : Int) < (s.size : Int))) → b = true := fun b h => by
      rw [h, Bool.or_eq_true, decide_eq_true_eq, decide_eq_true_eq]
      omega
    repeat' (first | (with_reducible refine ⟨(_, _), ⟨(.cons (.v _) (.cons (.v _) .nil)), ?_⟩, ?_⟩) | (with_reducible refine ⟨(), ⟨.nil, ?_⟩, ?_⟩) | (with_reducible exact fun h => h) | (with_reducible refine ExE.row (by with_unfolding_all rfl) ?_) | (with_reducible refine And.intro ?_ ?_) | ((with_reducible intro hq); first | (exact bne1 hq (by with_reducible assumption)) | (exact bne1 (by with_reducible assumption) hq) | ((simp only [*, Bool.and_true, Bool.true_and, Bool.and_false, Bool.false_and, Bool.or_true, Bool.true_or, Bool.or_false, Bool.false_or, Bool.not_true, Bool.not_false, Bool.true_eq_false, Bool.false_eq_true, cond_true, cond_false, Bool.cond_self, reduceCtorEq] at hq); done) | (revert hq; with_reducible intro _)) | (with_reducible exact True.intro) | (with_reducible rfl) | ((with_reducible refine WkX.chk ?_); (conv => whnf)) | ((with_reducible refine Wk.chk ?_); (conv => whnf)) | (with_reducible refine EntLe.row ?_) | (with_reducible exact LeN.ro rfl) | (with_reducible exact LeN.rptr) | ((with_reducible refine LeL.chk ?_); (conv => whnf)) | ((with_reducible show LeO _ _); (first | (refine LeO.ro ?_) | (refine LeO.roCap ?_) | (refine LeO.nil ?_ (fun _ => rfl)))) | ((with_reducible show LeR _ _ _); (first | (refine LeR.own rfl rfl rfl ?_) | (refine LeR.view rfl rfl rfl ?_ ?_) | (refine LeR.ro ?_) | (refine LeR.roCap ?_) | (refine LeR.nil ?_ (fun _ => rfl)))) | ((with_reducible refine LeF.chk ?_); (conv => whnf)) | (with_reducible assumption) | ((with_reducible refine Run.mk ?_); (conv => whnf)) | ((with_reducible show drawOK _ _ = true); kernel_rfl) | ((with_reducible show drawOK2 _ _ = true); kernel_rfl) | ((with_reducible show drawOK3 _ _ = true); kernel_rfl))
    all_goals first
      | (exfalso; have hx := hb _ rfl; simp_all; done)
      | (simp_all; done)
      | trace_state
  have hb : (decide ((9 : Int) < ((freeN pl pl.length : Nat) : Int)) || decide ((200 : Int) < (s.size : Int))) = false := by
    rw [decide_eq_false (by omega), decide_eq_false (by omega)]
    rfl
  have hck : checkN s.size (2 + width % 199) = 0 := by unfold checkN; rw [if_neg (by omega), if_neg (by omega)]
  have hnz : (checkN s.size (2 + width % 199) != 0) = false := by rw [hck]; rfl
  have hL : wrapL s (2 + width % 199) = wrapOut (Plain.parts s) (2 + width % 199) := by unfold wrapL; rw [if_pos hck]
  have hB : wrapB s (2 + width % 199) = ((tabOf (Plain.parts s) (2 + width % 199)).getD 0 zB).bad := by unfold wrapB; rw [if_pos hck]
  obtain ⟨o1, o2⟩ := own_way (s := s) (width := 2 + width % 199) hck (by omega) (by omega)
  have hno : ∀ way : Int, NoLess s (2 + width % 199) (othTo pl way pl.length) := fun way => by
    obtain ⟨Q, h1, h2⟩ := hall way
    rw [h2]
    exact noLess hck (by omega) (by omega) h1
  obtain ⟨wst, hm1, hm2⟩ := hmet
  rw [← hm2] at o1 o2 hL
  have hn1 : ∀ way, _ := fun way => (hno way).cases
  have hn2 : ∀ way, _ := fun way => (hno way).least
  have hn3 : ∀ way, _ := fun way => (hno way).few
  rw [← hm2] at hn3
  rw [← hB] at hn2 hn3 o2
  have hwl := wrapL_len s (2 + width % 199)
  have hwlen := congrArg List.length hL
  clear hno hall hm2 hL hB
  have hpow : (2 : Nat) ^ freeN pl pl.length ≤ 512 := Nat.pow_le_pow_right (n := 2) (by decide) (show freeN pl pl.length ≤ 9 by omega)
  have hpi : (1 : Int) * 2 ^ (((freeN pl pl.length : Nat) : Int)).toNat = ((2 ^ freeN pl pl.length : Nat) : Int) := by rw [Int.toNat_natCast, Int.one_mul]; simp
  generalize hF : (2 : Nat) ^ freeN pl pl.length = FF at *
  repeat' (first | (with_reducible refine ⟨(_, _), ⟨(.cons (.v _) (.cons (.v _) .nil)), ?_⟩, ?_⟩) | (with_reducible refine ⟨(), ⟨.nil, ?_⟩, ?_⟩) | (with_reducible exact fun h => h) | (with_reducible refine ExE.row (by with_unfolding_all rfl) ?_) | (with_reducible refine And.intro ?_ ?_) | ((with_reducible intro hq); first | (exact bne1 hq (by with_reducible assumption)) | (exact bne1 (by with_reducible assumption) hq) | ((simp only [*, Bool.and_true, Bool.true_and, Bool.and_false, Bool.false_and, Bool.or_true, Bool.true_or, Bool.or_false, Bool.false_or, Bool.not_true, Bool.not_false, Bool.true_eq_false, Bool.false_eq_true, cond_true, cond_false, Bool.cond_self, reduceCtorEq] at hq); done) | (revert hq; with_reducible intro _)) | (with_reducible exact True.intro) | (with_reducible rfl) | ((with_reducible refine WkX.chk ?_); (conv => whnf)) | ((with_reducible refine Wk.chk ?_); (conv => whnf)) | (with_reducible refine EntLe.row ?_) | (with_reducible exact LeN.ro rfl) | (with_reducible exact LeN.rptr) | ((with_reducible refine LeL.chk ?_); (conv => whnf)) | ((with_reducible show LeO _ _); (first | (refine LeO.ro ?_) | (refine LeO.roCap ?_) | (refine LeO.nil ?_ (fun _ => rfl)))) | ((with_reducible show LeR _ _ _); (first | (refine LeR.own rfl rfl rfl ?_) | (refine LeR.view rfl rfl rfl ?_ ?_) | (refine LeR.ro ?_) | (refine LeR.roCap ?_) | (refine LeR.nil ?_ (fun _ => rfl)))) | ((with_reducible refine LeF.chk ?_); (conv => whnf)) | (with_reducible assumption) | ((with_reducible refine Run.mk ?_); (conv => whnf)) | ((with_reducible show drawOK _ _ = true); kernel_rfl) | ((with_reducible show drawOK2 _ _ = true); kernel_rfl) | ((with_reducible show drawOK3 _ _ = true); kernel_rfl))
  any_goals (first | (simp only [Bool.not_eq_true', decide_eq_false_iff_not]; omega))
  refine loopI (Nat × Bool) [] (fun | (w, b) => [(12, .v (.int .i64 (w : Nat))), (11, .sb b)]) (fun _ => []) (fun | (w, b) => w ≤ FF ∧ (wst < w → b = true)) (fun | (w, _) => FF - w) (0, false) ⟨Nat.zero_le _, fun h => by omega⟩ (Wk.chk ?_) fun x hx => ?_
  · ((conv => whnf); repeat' (first | (with_reducible exact fun h => h) | (with_reducible refine ExE.row (by with_unfolding_all rfl) ?_) | (with_reducible refine And.intro ?_ ?_) | ((with_reducible intro hq); first | (exact bne1 hq (by with_reducible assumption)) | (exact bne1 (by with_reducible assumption) hq) | ((simp only [*, Bool.and_true, Bool.true_and, Bool.and_false, Bool.false_and, Bool.or_true, Bool.true_or, Bool.or_false, Bool.false_or, Bool.not_true, Bool.not_false, Bool.true_eq_false, Bool.false_eq_true, cond_true, cond_false, Bool.cond_self, reduceCtorEq] at hq); done) | (revert hq; with_reducible intro _)) | (with_reducible exact True.intro) | (with_reducible rfl) | ((with_reducible refine WkX.chk ?_); (conv => whnf)) | ((with_reducible refine Wk.chk ?_); (conv => whnf)) | (with_reducible refine EntLe.row ?_) | (with_reducible exact LeN.ro rfl) | (with_reducible exact LeN.rptr) | ((with_reducible refine LeL.chk ?_); (conv => whnf)) | ((with_reducible show LeO _ _); (first | (refine LeO.ro ?_) | (refine LeO.roCap ?_) | (refine LeO.nil ?_ (fun _ => rfl)))) | ((with_reducible show LeR _ _ _); (first | (refine LeR.own rfl rfl rfl ?_) | (refine LeR.view rfl rfl rfl ?_ ?_) | (refine LeR.ro ?_) | (refine LeR.roCap ?_) | (refine LeR.nil ?_ (fun _ => rfl)))) | ((with_reducible refine LeF.chk ?_); (conv => whnf)) | (with_reducible assumption) | ((with_reducible refine Run.mk ?_); (conv => whnf)) | ((with_reducible show drawOK _ _ = true); kernel_rfl) | ((with_reducible show drawOK2 _ _ = true); kernel_rfl) | ((with_reducible show drawOK3 _ _ = true); kernel_rfl)))
    all_goals rfl
  obtain ⟨w, b⟩ := x
  obtain ⟨hw1, hw2⟩ := hx
  by_cases hwf : w < FF
  · have hlt : decide ((w : Int) < (1 : Int) * 2 ^ (((freeN pl pl.length : Nat) : Int)).toNat) = true := decide_eq_true (by rw [hpi]; omega)
    repeat' (first | (with_reducible exact fun h => h) | (with_reducible refine ExE.row (by with_unfolding_all rfl) ?_) | (with_reducible refine And.intro ?_ ?_) | ((with_reducible intro hq); first | (exact bne1 hq (by with_reducible assumption)) | (exact bne1 (by with_reducible assumption) hq) | ((simp only [*, Bool.and_true, Bool.true_and, Bool.and_false, Bool.false_and, Bool.or_true, Bool.true_or, Bool.or_false, Bool.false_or, Bool.not_true, Bool.not_false, Bool.true_eq_false, Bool.false_eq_true, cond_true, cond_false, Bool.cond_self, reduceCtorEq] at hq); done) | (revert hq; with_reducible intro _)) | (with_reducible exact True.intro) | (with_reducible rfl) | ((with_reducible refine WkX.chk ?_); (conv => whnf)) | ((with_reducible refine Wk.chk ?_); (conv => whnf)) | (with_reducible refine EntLe.row ?_) | (with_reducible exact LeN.ro rfl) | (with_reducible exact LeN.rptr) | ((with_reducible refine LeL.chk ?_); (conv => whnf)) | ((with_reducible show LeO _ _); (first | (refine LeO.ro ?_) | (refine LeO.roCap ?_) | (refine LeO.nil ?_ (fun _ => rfl)))) | ((with_reducible show LeR _ _ _); (first | (refine LeR.own rfl rfl rfl ?_) | (refine LeR.view rfl rfl rfl ?_ ?_) | (refine LeR.ro ?_) | (refine LeR.roCap ?_) | (refine LeR.nil ?_ (fun _ => rfl)))) | ((with_reducible refine LeF.chk ?_); (conv => whnf)) | (with_reducible assumption) | ((with_reducible refine Run.mk ?_); (conv => whnf)) | ((with_reducible show drawOK _ _ = true); kernel_rfl) | ((with_reducible show drawOK2 _ _ = true); kernel_rfl) | ((with_reducible show drawOK3 _ _ = true); kernel_rfl))
    any_goals (first | omega | (rw [hpi]; apply Fits.i64 <;> omega) | (show ((freeN pl pl.length : Nat) : Int) ≤ 64; omega))
    refine loopI Nat [] (fun i => [(15, .v (.int .i64 (i : Nat))), (14, .v (.int .i64 (freeN pl i : Nat))), (13, .own 0)]) (fun i => [(0, .row C_brk (othTo pl (w : Int) i) 54 none)]) (fun i => i ≤ pl.length) (fun i => pl.length - i) 0 (Nat.zero_le _) (Wk.chk ?_) fun i hi => ?_
    · ((conv => whnf); repeat' (first | (with_reducible exact fun h => h) | (with_reducible refine ExE.row (by with_unfolding_all rfl) ?_) | (with_reducible refine And.intro ?_ ?_) | ((with_reducible intro hq); first | (exact bne1 hq (by with_reducible assumption)) | (exact bne1 (by with_reducible assumption) hq) | ((simp only [*, Bool.and_true, Bool.true_and, Bool.and_false, Bool.false_and, Bool.or_true, Bool.true_or, Bool.or_false, Bool.false_or, Bool.not_true, Bool.not_false, Bool.true_eq_false, Bool.false_eq_true, cond_true, cond_false, Bool.cond_self, reduceCtorEq] at hq); done) | (revert hq; with_reducible intro _)) | (with_reducible exact True.intro) | (with_reducible rfl) | ((with_reducible refine WkX.chk ?_); (conv => whnf)) | ((with_reducible refine Wk.chk ?_); (conv => whnf)) | (with_reducible refine EntLe.row ?_) | (with_reducible exact LeN.ro rfl) | (with_reducible exact LeN.rptr) | ((with_reducible refine LeL.chk ?_); (conv => whnf)) | ((with_reducible show LeO _ _); (first | (refine LeO.ro ?_) | (refine LeO.roCap ?_) | (refine LeO.nil ?_ (fun _ => rfl)))) | ((with_reducible show LeR _ _ _); (first | (refine LeR.own rfl rfl rfl ?_) | (refine LeR.view rfl rfl rfl ?_ ?_) | (refine LeR.ro ?_) | (refine LeR.roCap ?_) | (refine LeR.nil ?_ (fun _ => rfl)))) | ((with_reducible refine LeF.chk ?_); (conv => whnf)) | (with_reducible assumption) | ((with_reducible refine Run.mk ?_); (conv => whnf)) | ((with_reducible show drawOK _ _ = true); kernel_rfl) | ((with_reducible show drawOK2 _ _ = true); kernel_rfl) | ((with_reducible show drawOK3 _ _ = true); kernel_rfl)))
      all_goals rfl
    have hi2 : i ≤ pl.length := hi
    have e2 : ((i : Int)).toNat = i := Int.toNat_natCast _
    have e3 : (((freeN pl i : Nat) : Int)).toNat = freeN pl i := Int.toNat_natCast _
    have hfi2 := hfl i
    have hfm := freeN_mono pl hi2
    have hol := othTo_len pl (w : Int) i
    by_cases hil2 : i < pl.length
    · have hlt2 : decide ((i : Int) < (pl.length : Int)) = true := decide_eq_true (by omega)
      have hbb : (((w : Int) / 2 ^ (((freeN pl i : Nat) : Int)).toNat).tmod 2 == 1) = bitI (w : Int) (freeN pl i) := by rw [e3]; rfl
      have hhd : ((pl.getD ((i : Int)).toNat C_brk.d).2 == 1) = hardB pl i := by
        rw [e2, hd]
        unfold hardB
        rw [Bool.eq_iff_iff]
        simp
      cases hh : hardB pl i with
      | true =>
        rw [hh] at hhd
        have hf : freeN pl (i + 1) = freeN pl i := by rw [freeN, if_pos hh]
        have ha := othTo_yes (pl := pl) (way := (w : Int)) (k := i) (by unfold allB; rw [hh]; rfl)
        have kl1 : (!((pl.getD ((i : Int)).toNat C_brk.d).2 == 1)) = true → False := fun h => by rw [hhd] at h; cases h
        have kl2 := kl1
        repeat' (first | (with_reducible refine ex_of (α := Nat) (i + 1) ⟨?_, ?_⟩ ?_) | (with_reducible exact fun h => h) | (with_reducible refine ExE.row (by with_unfolding_all rfl) ?_) | (with_reducible refine And.intro ?_ ?_) | ((with_reducible intro hq); first | (exact bne1 hq (by with_reducible assumption)) | (exact bne1 (by with_reducible assumption) hq) | ((simp only [*, Bool.and_true, Bool.true_and, Bool.and_false, Bool.false_and, Bool.or_true, Bool.true_or, Bool.or_false, Bool.false_or, Bool.not_true, Bool.not_false, Bool.true_eq_false, Bool.false_eq_true, cond_true, cond_false, Bool.cond_self, reduceCtorEq] at hq); done) | (revert hq; with_reducible intro _)) | (with_reducible exact True.intro) | (with_reducible rfl) | ((with_reducible refine WkX.chk ?_); (conv => whnf)) | ((with_reducible refine Wk.chk ?_); (conv => whnf)) | (with_reducible refine EntLe.row ?_) | (with_reducible exact LeN.ro rfl) | (with_reducible exact LeN.rptr) | ((with_reducible refine LeL.chk ?_); (conv => whnf)) | ((with_reducible show LeO _ _); (first | (refine LeO.ro ?_) | (refine LeO.roCap ?_) | (refine LeO.nil ?_ (fun _ => rfl)))) | ((with_reducible show LeR _ _ _); (first | (refine LeR.own rfl rfl rfl ?_) | (refine LeR.view rfl rfl rfl ?_ ?_) | (refine LeR.ro ?_) | (refine LeR.roCap ?_) | (refine LeR.nil ?_ (fun _ => rfl)))) | ((with_reducible refine LeF.chk ?_); (conv => whnf)) | (with_reducible assumption) | ((with_reducible refine Run.mk ?_); (conv => whnf)) | ((with_reducible show drawOK _ _ = true); kernel_rfl) | ((with_reducible show drawOK2 _ _ = true); kernel_rfl) | ((with_reducible show drawOK3 _ _ = true); kernel_rfl))
        all_goals first
          | exact (kl1 (by assumption)).elim
          | exact (kl2 (by assumption)).elim
          | omega
          | rfl
          | (apply Fits.i64 <;> omega)
          | (dsimp only; omega)
          | (show ((freeN pl i : Nat) : Int) ≤ 64; omega)
          | (simp only [List.length_cons, List.length_nil]; omega)
          | (rw [hf]; omega)
          | (rw [hf]; done)
          | (rw [ha, e2]; rfl)
          | (rw [ha]; done)
          | trace_state
      | false =>
        rw [hh] at hhd
        have hf : freeN pl (i + 1) = freeN pl i + 1 := by rw [freeN, if_neg (by rw [hh]; decide)]
        cases hbt : bitI (w : Int) (freeN pl i) with
        | true =>
          rw [hbt] at hbb
          have ha := othTo_yes (pl := pl) (way := (w : Int)) (k := i) (by unfold allB; rw [hbt, Bool.or_true])
          have kl1 : (!((pl.getD ((i : Int)).toNat C_brk.d).2 == 1)) = false → False := fun h => by rw [hhd] at h; cases h
          have kl2 : (((w : Int) / 2 ^ (((freeN pl i : Nat) : Int)).toNat).tmod 2 == 1) = false → False := fun h => by rw [hbb] at h; cases h
          repeat' (first | (with_reducible refine ex_of (α := Nat) (i + 1) ⟨?_, ?_⟩ ?_) | (with_reducible exact fun h => h) | (with_reducible refine ExE.row (by with_unfolding_all rfl) ?_) | (with_reducible refine And.intro ?_ ?_) | ((with_reducible intro hq); first | (exact bne1 hq (by with_reducible assumption)) | (exact bne1 (by with_reducible assumption) hq) | ((simp only [*, Bool.and_true, Bool.true_and, Bool.and_false, Bool.false_and, Bool.or_true, Bool.true_or, Bool.or_false, Bool.false_or, Bool.not_true, Bool.not_false, Bool.true_eq_false, Bool.false_eq_true, cond_true, cond_false, Bool.cond_self, reduceCtorEq] at hq); done) | (revert hq; with_reducible intro _)) | (with_reducible exact True.intro) | (with_reducible rfl) | ((with_reducible refine WkX.chk ?_); (conv => whnf)) | ((with_reducible refine Wk.chk ?_); (conv => whnf)) | (with_reducible refine EntLe.row ?_) | (with_reducible exact LeN.ro rfl) | (with_reducible exact LeN.rptr) | ((with_reducible refine LeL.chk ?_); (conv => whnf)) | ((with_reducible show LeO _ _); (first | (refine LeO.ro ?_) | (refine LeO.roCap ?_) | (refine LeO.nil ?_ (fun _ => rfl)))) | ((with_reducible show LeR _ _ _); (first | (refine LeR.own rfl rfl rfl ?_) | (refine LeR.view rfl rfl rfl ?_ ?_) | (refine LeR.ro ?_) | (refine LeR.roCap ?_) | (refine LeR.nil ?_ (fun _ => rfl)))) | ((with_reducible refine LeF.chk ?_); (conv => whnf)) | (with_reducible assumption) | ((with_reducible refine Run.mk ?_); (conv => whnf)) | ((with_reducible show drawOK _ _ = true); kernel_rfl) | ((with_reducible show drawOK2 _ _ = true); kernel_rfl) | ((with_reducible show drawOK3 _ _ = true); kernel_rfl))
          all_goals first
            | exact (kl1 (by assumption)).elim
            | exact (kl2 (by assumption)).elim
            | omega
            | rfl
            | (apply Fits.i64 <;> omega)
            | (dsimp only; omega)
            | (show ((freeN pl i : Nat) : Int) ≤ 64; omega)
            | (simp only [List.length_cons, List.length_nil]; omega)
            | (rw [hf]; omega)
            | (rw [hf]; done)
            | (rw [ha, e2]; rfl)
            | (rw [ha]; done)
            | trace_state
        | false =>
          rw [hbt] at hbb
          have ha := othTo_no (pl := pl) (way := (w : Int)) (k := i) (by unfold allB; rw [hbt, hh]; rfl)
          have kl1 : (!((pl.getD ((i : Int)).toNat C_brk.d).2 == 1)) = false → False := fun h => by rw [hhd] at h; cases h
          have kl2 : (((w : Int) / 2 ^ (((freeN pl i : Nat) : Int)).toNat).tmod 2 == 1) = true → False := fun h => by rw [hbb] at h; cases h
          repeat' (first | (with_reducible refine ex_of (α := Nat) (i + 1) ⟨?_, ?_⟩ ?_) | (with_reducible exact fun h => h) | (with_reducible refine ExE.row (by with_unfolding_all rfl) ?_) | (with_reducible refine And.intro ?_ ?_) | ((with_reducible intro hq); first | (exact bne1 hq (by with_reducible assumption)) | (exact bne1 (by with_reducible assumption) hq) | ((simp only [*, Bool.and_true, Bool.true_and, Bool.and_false, Bool.false_and, Bool.or_true, Bool.true_or, Bool.or_false, Bool.false_or, Bool.not_true, Bool.not_false, Bool.true_eq_false, Bool.false_eq_true, cond_true, cond_false, Bool.cond_self, reduceCtorEq] at hq); done) | (revert hq; with_reducible intro _)) | (with_reducible exact True.intro) | (with_reducible rfl) | ((with_reducible refine WkX.chk ?_); (conv => whnf)) | ((with_reducible refine Wk.chk ?_); (conv => whnf)) | (with_reducible refine EntLe.row ?_) | (with_reducible exact LeN.ro rfl) | (with_reducible exact LeN.rptr) | ((with_reducible refine LeL.chk ?_); (conv => whnf)) | ((with_reducible show LeO _ _); (first | (refine LeO.ro ?_) | (refine LeO.roCap ?_) | (refine LeO.nil ?_ (fun _ => rfl)))) | ((with_reducible show LeR _ _ _); (first | (refine LeR.own rfl rfl rfl ?_) | (refine LeR.view rfl rfl rfl ?_ ?_) | (refine LeR.ro ?_) | (refine LeR.roCap ?_) | (refine LeR.nil ?_ (fun _ => rfl)))) | ((with_reducible refine LeF.chk ?_); (conv => whnf)) | (with_reducible assumption) | ((with_reducible refine Run.mk ?_); (conv => whnf)) | ((with_reducible show drawOK _ _ = true); kernel_rfl) | ((with_reducible show drawOK2 _ _ = true); kernel_rfl) | ((with_reducible show drawOK3 _ _ = true); kernel_rfl))
          all_goals first
            | exact (kl1 (by assumption)).elim
            | exact (kl2 (by assumption)).elim
            | omega
            | rfl
            | (apply Fits.i64 <;> omega)
            | (dsimp only; omega)
            | (show ((freeN pl i : Nat) : Int) ≤ 64; omega)
            | (simp only [List.length_cons, List.length_nil]; omega)
            | (rw [hf]; omega)
            | (rw [hf]; done)
            | (rw [ha, e2]; rfl)
            | (rw [ha]; done)
            | trace_state
    · have hlt2 : decide ((i : Int) < (pl.length : Int)) = false := decide_eq_false (by omega)
      obtain rfl : i = pl.length := by omega
      have hol2 := othTo_len pl (wst : Int) pl.length
      have hn1w := hn1 (w : Int)
      have hn2w := hn2 (w : Int)
      have hn3w := hn3 (w : Int)
      have hws : w = wst → badE s (2 + width % 199) (othTo pl (w : Int) pl.length) = 0 ∧ badN s (2 + width % 199) (othTo pl (w : Int) pl.length) = wrapB s (2 + width % 199) ∧ (othTo pl (w : Int) pl.length).length = (wrapL s (2 + width % 199)).length := fun h => by
        subst h
        exact ⟨o1, o2, hwlen.symm⟩
      rw [← hwlen] at hn3w
      clear hn1 hn2 hn3 o1 o2 hwlen hpi hol2
      have tail : ∀ {nb : Bool}, (wst < w → nb = true) → (w = wst → nb = true) → w + 1 ≤ FF ∧ (wst < w + 1 → nb = true) := fun h1 h2 => ⟨by omega, fun h => by
        by_cases he : w = wst
        · exact h2 he
        · exact h1 (by omega)⟩
      by_cases hE : badE s (2 + width % 199) (othTo pl (w : Int) pl.length) = 0
      · have k1 : (badE s (2 + width % 199) (othTo pl (w : Int) pl.length) != 0) = false := by rw [hE]; rfl
        have k2 : ∀ x, x = (decide (badN s (2 + width % 199) (othTo pl (w : Int) pl.length) < wrapB s (2 + width % 199)) || badN s (2 + width % 199) (othTo pl (w : Int) pl.length) == wrapB s (2 + width % 199) && decide (((othTo pl (w : Int) pl.length).length : Int) < ((wrapL s (2 + width % 199)).length : Int))) → x = true → False := fun x h hx => by
          rw [h, Bool.or_eq_true, Bool.and_eq_true, decide_eq_true_eq, decide_eq_true_eq, beq_iff_eq] at hx
          have h2 := hn2w hE
          rcases hx with hx | ⟨hx1, hx2⟩
          · omega
          · have := hn3w hE hx1
            omega
        have k3 := tail (nb := (b || (badN s (2 + width % 199) (othTo pl (w : Int) pl.length) == wrapB s (2 + width % 199) && ((othTo pl (w : Int) pl.length).length : Int) == ((wrapL s (2 + width % 199)).length : Int)))) (fun h => by rw [hw2 h]; rfl) (fun h => by
          obtain ⟨_, q1, q2⟩ := hws h
          rw [q1, q2]
          simp)
        repeat' (first | (with_reducible refine ⟨(_, _, _), ⟨(.cons (.v _) (.cons (.v _) (.cons (.own (by with_unfolding_all exact rfl) (by with_unfolding_all exact rfl) (by with_unfolding_all exact rfl)) .nil))), ?_⟩, ?_⟩) | (with_reducible refine ex_of (α := Nat × Bool) (w + 1, (b || (badN s (2 + width % 199) (othTo pl (w : Int) pl.length) == wrapB s (2 + width % 199) && ((othTo pl (w : Int) pl.length).length : Int) == ((wrapL s (2 + width % 199)).length : Int)))) ⟨⟨k3.1, k3.2⟩, ?_⟩ ?_) | (with_reducible exact fun h => h) | (with_reducible refine ExE.row (by with_unfolding_all rfl) ?_) | (with_reducible refine And.intro ?_ ?_) | ((with_reducible intro hq); first | (exact bne1 hq (by with_reducible assumption)) | (exact bne1 (by with_reducible assumption) hq) | ((simp only [*, Bool.and_true, Bool.true_and, Bool.and_false, Bool.false_and, Bool.or_true, Bool.true_or, Bool.or_false, Bool.false_or, Bool.not_true, Bool.not_false, Bool.true_eq_false, Bool.false_eq_true, cond_true, cond_false, Bool.cond_self, reduceCtorEq] at hq); done) | (revert hq; with_reducible intro _)) | (with_reducible exact True.intro) | (with_reducible rfl) | ((with_reducible refine WkX.chk ?_); (conv => whnf)) | ((with_reducible refine Wk.chk ?_); (conv => whnf)) | (with_reducible refine EntLe.row ?_) | (with_reducible exact LeN.ro rfl) | (with_reducible exact LeN.rptr) | ((with_reducible refine LeL.chk ?_); (conv => whnf)) | ((with_reducible show LeO _ _); (first | (refine LeO.ro ?_) | (refine LeO.roCap ?_) | (refine LeO.nil ?_ (fun _ => rfl)))) | ((with_reducible show LeR _ _ _); (first | (refine LeR.own rfl rfl rfl ?_) | (refine LeR.view rfl rfl rfl ?_ ?_) | (refine LeR.ro ?_) | (refine LeR.roCap ?_) | (refine LeR.nil ?_ (fun _ => rfl)))) | ((with_reducible refine LeF.chk ?_); (conv => whnf)) | (with_reducible assumption) | ((with_reducible refine Run.mk ?_); (conv => whnf)) | ((with_reducible show drawOK _ _ = true); kernel_rfl) | ((with_reducible show drawOK2 _ _ = true); kernel_rfl) | ((with_reducible show drawOK3 _ _ = true); kernel_rfl))
        all_goals first
          | omega
          | (apply Fits.i64 <;> omega)
          | exact (k2 _ rfl (by assumption)).elim
          | rfl
          | (dsimp only; omega)
          | (clear hn1w hn2w hn3w hws tail k2 k3; simp_all; done)
          | trace_state
      · have k1 : (badE s (2 + width % 199) (othTo pl (w : Int) pl.length) != 0) = true := by simpa using hE
        have k2 : (badE s (2 + width % 199) (othTo pl (w : Int) pl.length) != 35) = false := by
          rcases hn1w with h | h
          · rw [h.1]; rfl
          · exact absurd h hE
        have k3 := tail (nb := b) hw2 (fun h => absurd (hws h).1 hE)
        repeat' (first | (with_reducible refine ⟨(_, _, _), ⟨(.cons (.v _) (.cons (.v _) (.cons (.own (by with_unfolding_all exact rfl) (by with_unfolding_all exact rfl) (by with_unfolding_all exact rfl)) .nil))), ?_⟩, ?_⟩) | (with_reducible refine ex_of (α := Nat × Bool) (w + 1, b) ⟨⟨k3.1, k3.2⟩, ?_⟩ ?_) | (with_reducible exact fun h => h) | (with_reducible refine ExE.row (by with_unfolding_all rfl) ?_) | (with_reducible refine And.intro ?_ ?_) | ((with_reducible intro hq); first | (exact bne1 hq (by with_reducible assumption)) | (exact bne1 (by with_reducible assumption) hq) | ((simp only [*, Bool.and_true, Bool.true_and, Bool.and_false, Bool.false_and, Bool.or_true, Bool.true_or, Bool.or_false, Bool.false_or, Bool.not_true, Bool.not_false, Bool.true_eq_false, Bool.false_eq_true, cond_true, cond_false, Bool.cond_self, reduceCtorEq] at hq); done) | (revert hq; with_reducible intro _)) | (with_reducible exact True.intro) | (with_reducible rfl) | ((with_reducible refine WkX.chk ?_); (conv => whnf)) | ((with_reducible refine Wk.chk ?_); (conv => whnf)) | (with_reducible refine EntLe.row ?_) | (with_reducible exact LeN.ro rfl) | (with_reducible exact LeN.rptr) | ((with_reducible refine LeL.chk ?_); (conv => whnf)) | ((with_reducible show LeO _ _); (first | (refine LeO.ro ?_) | (refine LeO.roCap ?_) | (refine LeO.nil ?_ (fun _ => rfl)))) | ((with_reducible show LeR _ _ _); (first | (refine LeR.own rfl rfl rfl ?_) | (refine LeR.view rfl rfl rfl ?_ ?_) | (refine LeR.ro ?_) | (refine LeR.roCap ?_) | (refine LeR.nil ?_ (fun _ => rfl)))) | ((with_reducible refine LeF.chk ?_); (conv => whnf)) | (with_reducible assumption) | ((with_reducible refine Run.mk ?_); (conv => whnf)) | ((with_reducible show drawOK _ _ = true); kernel_rfl) | ((with_reducible show drawOK2 _ _ = true); kernel_rfl) | ((with_reducible show drawOK3 _ _ = true); kernel_rfl))
        all_goals first
          | omega
          | (apply Fits.i64 <;> omega)
          | rfl
          | (dsimp only; omega)
          | trace_state
  · have hlt : decide ((w : Int) < (1 : Int) * 2 ^ (((freeN pl pl.length : Nat) : Int)).toNat) = false := decide_eq_false (by rw [hpi]; omega)
    have hbt := hw2 (by omega)
    subst hbt
    repeat' (first | (with_reducible refine ⟨(), ⟨.nil, ?_⟩, ?_⟩) | (with_reducible exact fun h => h) | (with_reducible refine ExE.row (by with_unfolding_all rfl) ?_) | (with_reducible refine And.intro ?_ ?_) | ((with_reducible intro hq); first | (exact bne1 hq (by with_reducible assumption)) | (exact bne1 (by with_reducible assumption) hq) | ((simp only [*, Bool.and_true, Bool.true_and, Bool.and_false, Bool.false_and, Bool.or_true, Bool.true_or, Bool.or_false, Bool.false_or, Bool.not_true, Bool.not_false, Bool.true_eq_false, Bool.false_eq_true, cond_true, cond_false, Bool.cond_self, reduceCtorEq] at hq); done) | (revert hq; with_reducible intro _)) | (with_reducible exact True.intro) | (with_reducible rfl) | ((with_reducible refine WkX.chk ?_); (conv => whnf)) | ((with_reducible refine Wk.chk ?_); (conv => whnf)) | (with_reducible refine EntLe.row ?_) | (with_reducible exact LeN.ro rfl) | (with_reducible exact LeN.rptr) | ((with_reducible refine LeL.chk ?_); (conv => whnf)) | ((with_reducible show LeO _ _); (first | (refine LeO.ro ?_) | (refine LeO.roCap ?_) | (refine LeO.nil ?_ (fun _ => rfl)))) | ((with_reducible show LeR _ _ _); (first | (refine LeR.own rfl rfl rfl ?_) | (refine LeR.view rfl rfl rfl ?_ ?_) | (refine LeR.ro ?_) | (refine LeR.roCap ?_) | (refine LeR.nil ?_ (fun _ => rfl)))) | ((with_reducible refine LeF.chk ?_); (conv => whnf)) | (with_reducible assumption) | ((with_reducible refine Run.mk ?_); (conv => whnf)) | ((with_reducible show drawOK _ _ = true); kernel_rfl) | ((with_reducible show drawOK2 _ _ = true); kernel_rfl) | ((with_reducible show drawOK3 _ _ = true); kernel_rfl))
    any_goals (first | omega | rfl | (rw [hpi]; apply Fits.i64 <;> omega) | (show ((freeN pl pl.length : Nat) : Int) ≤ 64; omega))
end Go.SX.Try
