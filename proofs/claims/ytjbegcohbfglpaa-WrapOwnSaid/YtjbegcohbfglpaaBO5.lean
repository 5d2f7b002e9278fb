/- A verified symbolic executor for Go code in the model, contracts and plain laws that the proofs lean on, BO5. -/
import Derived.Test.YtjbegcohbfglpaaBO4
set_option linter.unusedVariables false
set_option linter.unusedSimpArgs false
/- Contracts: utf.Count; style's right, within, crosses, Check. -/
namespace Go.SX.Try
open Go.Proofs Go.Proofs.Try Go.SX.Plain
set_option maxRecDepth 100000
set_option maxHeartbeats 0
set_option linter.unusedSimpArgs false
theorem q_ucount : fact 12 f12 := ⟨by kernel_rfl, rfl, by kernel_rfl⟩
theorem q_sright : fact 36 f36 := ⟨by kernel_rfl, rfl, by kernel_rfl⟩
theorem q_swithin : fact 56 f56 := ⟨by kernel_rfl, rfl, by kernel_rfl⟩
theorem q_scrosses : fact 39 f39 := ⟨by kernel_rfl, rfl, by kernel_rfl⟩
theorem q_scheck : fact 16 f16 := ⟨by kernel_rfl, rfl, by kernel_rfl⟩
theorem q_scheck1 : fact 38 f38 := ⟨by kernel_rfl, rfl, by kernel_rfl⟩
theorem q_contains : fact 37 f37 := ⟨by kernel_rfl, rfl, by kernel_rfl⟩
theorem q_indexF : fact 55 f55 := ⟨by kernel_rfl, rfl, by kernel_rfl⟩
theorem con_ucount : Con prog 12 (fun s : ByteArray => [.v (.string s)]) (fun s => .v (.int .i64 (sgN s : Nat))) (fun s => s.size ≤ 1100000) := by
  refine Con.of (by kernel_rfl) T_ok CdsOK.nil .nil 3 [] q_ucount.1 q_ucount.2.1 q_ucount.2.2 (fun _ => rfl) fun s hs => ?_
  have hs : s.size ≤ 1100000 := hs
  have hn := sgN_le s
  repeat' ((with_reducible refine Run.mk ?_); (conv => whnf))
  refine loopI Nat [] (fun i => [(3, .v (.int .i64 (i : Nat)))]) (fun i => [(0, .iter s (posS s i))]) (fun i => i ≤ sgN s) (fun i => sgN s - i) 0 (Nat.zero_le _) (Wk.chk ?_) fun i hi => ?_
  · ((conv => whnf); repeat' (first | (with_reducible first | refine And.intro ?_ ?_ | exact True.intro | rfl) | ((with_reducible refine Run.mk ?_); (conv => whnf))))
    all_goals first
      | rfl
      | (rw [posS_zero]; done)
  have hi : i ≤ sgN s := hi
  have hat := fun h => (sgns_at s (i := i) h).2
  have hend := posS_end s
  repeat' (first | (with_reducible first | refine ex_of (α := Nat) (i + 1) ⟨?_, ?_⟩ ?_ | refine And.intro ?_ ?_ | intro _ | exact True.intro | rfl) | ((with_reducible first | refine Wk.chk ?_ | refine LeF.chk ?_ | refine Run.mk ?_); (conv => whnf)))
  all_goals first
    | omega
    | (apply Fits.i64 <;> omega)
    | (have hlt : i < sgN s := by
         rcases Nat.lt_or_ge i (sgN s) with h | h
         · exact h
         · obtain rfl : i = sgN s := by omega
           omega
       have := hat hlt
       first
       | omega
       | (show sgN s - (i + 1) < sgN s - i; omega)
       | (rw [this.2]; done))
    | (have : ¬ i < sgN s := fun h => by have := hat h; omega
       obtain rfl : i = sgN s := by omega
       rfl)
theorem con_swithin : Con prog 56 (fun ((x, y) : Spn × Spn) => [.agg (spAV x), .agg (spAV y)]) (fun (x, y) => .sb (withinB x y)) (fun _ => True) := by
  refine Con.of (by kernel_rfl) T_ok CdsOK.nil .nil 3 [] q_swithin.1 q_swithin.2.1 q_swithin.2.2 (fun _ => rfl) fun i hi => ?_
  obtain ⟨x, y⟩ := i
  repeat' (first | (with_reducible first | exact fun h => h | refine And.intro ?_ ?_ | intro _ | exact True.intro | assumption) | ((with_reducible first | refine LeF.chk ?_ | refine Run.mk ?_); (conv => whnf)))
  all_goals rfl
theorem con_scrosses : Con prog 39 (fun ((x, y) : Spn × Spn) => [.agg (spAV x), .agg (spAV y)]) (fun (x, y) => .sb (crossB x y)) (fun _ => True) := by
  refine Con.of (by kernel_rfl) T_ok CdsOK.nil (.con con_swithin .nil) 3 [] q_scrosses.1 q_scrosses.2.1 q_scrosses.2.2 (fun _ => rfl) fun i hi => ?_
  obtain ⟨x, y⟩ := i
  repeat' (first | (with_reducible first | refine ⟨(_, _), ⟨(.cons (.agg (.cons (.v _) (.cons (.v _) (.cons (.v _) (.cons (.v _) .nil))))) (.cons (.agg (.cons (.v _) (.cons (.v _) (.cons (.v _) (.cons (.v _) .nil))))) .nil)), ?_⟩, ?_⟩ | exact fun h => h | refine And.intro ?_ ?_) | ((with_reducible intro hq); first | exact bne1 hq (by with_reducible assumption) | ((simp only [*, BB, cond_true, cond_false, reduceCtorEq] at hq); done) | (revert hq; with_reducible intro _)) | (with_reducible first | exact True.intro | assumption) | ((with_reducible first | refine LeF.chk ?_ | refine Run.mk ?_); (conv => whnf)))
  all_goals first
    | rfl
    | (unfold crossB; simp_all; done)
    | (unfold crossB; cases hc : (decide (x.frm < y.to) && decide (y.frm < x.to)) <;> simp_all; done)
theorem con_sright : Con prog 36 (fun ((x, n) : Spn × Int) => [.agg (spAV x), .v (.int .i64 n)]) (fun (x, n) => .sb (rightB x n)) (fun _ => True) := by
  refine Con.of (by kernel_rfl) T_ok CdsOK.nil .nil 3 [] q_sright.1 q_sright.2.1 q_sright.2.2 (fun _ => rfl) fun i hi => ?_
  obtain ⟨x, n⟩ := i
  repeat' (first | (with_reducible first | exact fun h => h | refine And.intro ?_ ?_ | intro _ | exact True.intro | assumption) | ((with_reducible first | refine LeF.chk ?_ | refine Run.mk ?_); (conv => whnf)))
  all_goals first
    | (simp_all; done)
    | (unfold rightB; simp_all; done)
    | skip
  all_goals (unfold rightB)
  all_goals first
    | (split <;> simp_all <;> omega)
    | (simp only [Bool.or_eq_true, Bool.or_eq_false_iff, decide_eq_true_eq, decide_eq_false_iff_not, beq_iff_eq, beq_eq_false_iff_ne, ne_eq, Bool.and_eq_true, Bool.and_eq_false_iff] at *
       rw [Bool.eq_iff_iff]
       simp only [Bool.and_eq_true, decide_eq_true_eq]
       split <;> simp_all <;> omega)
theorem con_scheck : Con prog 16 (fun ((s, l) : ByteArray × List Spn) => [txAV s l]) (fun (s, l) => .v (.int .i64 (chkN s.size l (sgN s : Nat)))) (fun _ => True) := by
  refine Con.of (by kernel_rfl) T_ok CdsOK.nil (.con con_ucount (.con con_sright (.con con_scrosses (.inl (J := []) q_scheck1.1 q_scheck1.2.1 q_scheck1.2.2 (.inl (J := []) q_contains.1 q_contains.2.1 q_contains.2.2 (.inl (J := []) q_indexF.1 q_indexF.2.1 q_indexF.2.2 .nil)))))) 9 [] q_scheck.1 q_scheck.2.1 q_scheck.2.2 (fun _ => rfl) fun i hi => ?_
  obtain ⟨s, l⟩ := i
  by_cases hs : s.size ≤ 4096
  · have k1 : decide ((4096 : Int) < (s.size : Int)) = false := decide_eq_false (by omega)
    by_cases hl : l.length ≤ 256
    · have k2 : decide ((256 : Int) < (l.length : Int)) = false := decide_eq_false (by omega)
      have hn := sgN_le s
      repeat' (first | (with_reducible first | refine ⟨_, ⟨(.cons (.v _) .nil), ?_⟩, ?_⟩ | refine And.intro ?_ ?_) | ((with_reducible intro hq); first | exact bne1 hq (by with_reducible assumption) | (revert hq; with_reducible intro _)) | ((with_reducible refine Run.mk ?_); (conv => whnf)))
      · show s.size ≤ 1100000; omega
      have hd : C_spn.d = zS := rfl
      have hz : Hid (chkN s.size l (sgN s : Nat) = if spansB l (sgN s : Nat) = true then 0 else 23) := ⟨by unfold chkN; rw [if_neg (by omega), if_neg (by omega)]⟩
      refine loopI Nat [] (fun i => [(22, .v (.int .i64 (i : Nat)))]) (fun _ => []) (fun i => i ≤ l.length ∧ okTo l (sgN s : Nat) i = true) (fun i => l.length - i) 0 ⟨Nat.zero_le _, rfl⟩ (Wk.chk ?_) fun i hi => ?_
      · ((conv => whnf); repeat' (first | (with_reducible first | refine And.intro ?_ ?_ | exact True.intro | rfl | exact LeN.ro rfl) | ((with_reducible refine Run.mk ?_); (conv => whnf))))
        all_goals rfl
      obtain ⟨hi1, hi2⟩ := hi
      have e1 : ((i : Int)).toNat = i := Int.toNat_natCast _
      by_cases hil : i < l.length
      · have hlt : decide ((i : Int) < (l.length : Int)) = true := decide_eq_true (by omega)
        have hbad : Hid (rightB (l.getD i zS) (sgN s : Nat) = false ∨ aloneTo l (l.getD i zS) i = false → chkN s.size l (sgN s : Nat) = 23) := ⟨fun h => by
          have : okTo l (sgN s : Nat) (i + 1) = false := by
            rw [okTo]
            rcases h with h | h <;> rw [h] <;> simp
          rw [hz.out, if_neg (by unfold spansB; rw [okTo_false (by omega) this]; decide)]⟩
        cases hr : rightB (l.getD i zS) (sgN s : Nat) with
        | false =>
          have hr' : rightB (l.getD ((i : Int)).toNat C_spn.d) (sgN s : Nat) = false := by rw [e1, hd]; exact hr
          repeat' (first | (with_reducible first | refine ⟨(l.getD ((i : Int)).toNat C_spn.d, _), ⟨(.cons (.agg (.cons (.v _) (.cons (.v _) (.cons (.v _) (.cons (.v _) .nil))))) (.cons (.v _) .nil)), ?_⟩, ?_⟩ | exact fun h => h | refine And.intro ?_ ?_) | ((with_reducible intro hq); first | exact bne1 (by with_reducible assumption) hq | ((simp only [*, BB, cond_true, cond_false, reduceCtorEq] at hq); done) | (revert hq; with_reducible intro _)) | (with_reducible exact True.intro) | ((with_reducible first | refine LeF.chk ?_ | refine Run.mk ?_); (conv => whnf)))
          all_goals first
            | omega
            | exact (hbad.out (.inl hr)).symm
            | (rw [hr']; rfl)
        | true =>
          have hr' : rightB (l.getD ((i : Int)).toNat C_spn.d) (sgN s : Nat) = true := by rw [e1, hd]; exact hr
          repeat' (first | (with_reducible first | refine ⟨(l.getD ((i : Int)).toNat C_spn.d, _), ⟨(.cons (.agg (.cons (.v _) (.cons (.v _) (.cons (.v _) (.cons (.v _) .nil))))) (.cons (.v _) .nil)), ?_⟩, ?_⟩ | exact fun h => h | refine And.intro ?_ ?_) | ((with_reducible intro hq); first | exact bne1 (by with_reducible assumption) hq | ((simp only [*, BB, cond_true, cond_false, reduceCtorEq] at hq); done) | (revert hq; with_reducible intro _)) | (with_reducible first | exact True.intro | assumption) | ((with_reducible refine Run.mk ?_); (conv => whnf)))
          any_goals omega
          have htl : (l.take ((i : Int)).toNat).length = i := by rw [e1, List.length_take]; omega
          refine loopI Nat [] (fun j => [(8, .v (.int .i64 (j : Nat)))]) (fun _ => []) (fun j => j ≤ i ∧ aloneTo l (l.getD i zS) j = true) (fun j => i - j) 0 ⟨Nat.zero_le _, by unfold aloneTo; simp⟩ (Wk.chk ?_) fun j hj => ?_
          · ((conv => whnf); repeat' (first | (with_reducible first | refine And.intro ?_ ?_ | exact True.intro | rfl | exact LeN.ro rfl | exact LeN.rptr) | ((with_reducible refine Run.mk ?_); (conv => whnf))))
            all_goals rfl
          obtain ⟨hj1, hj2⟩ := hj
          have e2 : ((j : Int)).toNat = j := Int.toNat_natCast _
          by_cases hji : j < i
          · have hlt : decide ((j : Int) < ((l.take ((i : Int)).toNat).length : Int)) = true := decide_eq_true (by omega)
            have hg : (l.take ((i : Int)).toNat).getD ((j : Int)).toNat C_spn.d = l.getD j zS := by
              rw [e1, e2, hd]
              simp [List.getD_eq_getElem?_getD, List.getElem?_take, hji]
            have hsucc := aloneTo_succ (l := l) (x := l.getD i zS) (k := j) (by omega)
            have hcc := Bool.eq_false_or_eq_true (crossB (l.getD i zS) (l.getD j zS))
            rcases hcc with hc | hc
            ·
              have hc' : crossB (l.getD ((i : Int)).toNat C_spn.d) ((l.take ((i : Int)).toNat).getD ((j : Int)).toNat C_spn.d) = true := by rw [hg, e1, hd]; exact hc
              have hb : aloneTo l (l.getD i zS) i = false := aloneTo_false (i := j + 1) (by omega) (by rw [hsucc, hc]; simp)
              have hge : decide ((0 : Int) ≤ (j : Int)) = true := decide_eq_true (by omega)
              repeat' (first | (with_reducible first | refine ⟨(l.getD ((i : Int)).toNat C_spn.d, (l.take ((i : Int)).toNat).getD ((j : Int)).toNat C_spn.d), ⟨(.cons (.agg (.cons (.v _) (.cons (.v _) (.cons (.v _) (.cons (.v _) .nil))))) (.cons (.agg (.cons (.v _) (.cons (.v _) (.cons (.v _) (.cons (.v _) .nil))))) .nil)), ?_⟩, ?_⟩ | refine And.intro ?_ ?_) | ((with_reducible intro hq); first | exact bne1 (by with_reducible assumption) hq | ((simp only [*, BB, cond_true, cond_false, reduceCtorEq] at hq); done) | (revert hq; with_reducible intro _)) | (with_reducible exact True.intro) | ((with_reducible first | refine LeF.chk ?_ | refine Run.mk ?_); (conv => whnf)))
              all_goals first
                | omega
                | exact (hbad.out (.inr hb)).symm
            ·
              have hc' : crossB (l.getD ((i : Int)).toNat C_spn.d) ((l.take ((i : Int)).toNat).getD ((j : Int)).toNat C_spn.d) = false := by rw [hg, e1, hd]; exact hc
              have hsucc : aloneTo l (l.getD i zS) (j + 1) = true := by rw [hsucc, hj2, hc]; rfl
              repeat' (first | (with_reducible first | refine ⟨(l.getD ((i : Int)).toNat C_spn.d, (l.take ((i : Int)).toNat).getD ((j : Int)).toNat C_spn.d), ⟨(.cons (.agg (.cons (.v _) (.cons (.v _) (.cons (.v _) (.cons (.v _) .nil))))) (.cons (.agg (.cons (.v _) (.cons (.v _) (.cons (.v _) (.cons (.v _) .nil))))) .nil)), ?_⟩, ?_⟩ | refine ex_of (α := Nat) (j + 1) ⟨⟨?_, hsucc⟩, ?_⟩ ?_ | refine And.intro ?_ ?_) | ((with_reducible intro hq); first | exact bne1 hq (by with_reducible assumption) | exact bne1 (by with_reducible assumption) hq | (revert hq; with_reducible intro _)) | (with_reducible first | exact True.intro | rfl | exact LeN.ro rfl | exact LeN.rptr) | ((with_reducible first | refine Wk.chk ?_ | refine Run.mk ?_); (conv => whnf)))
              all_goals first
                | omega
                | (apply Fits.i64 <;> omega)
                | (show i - (j + 1) < i - j; omega)
          have hlt : decide ((j : Int) < ((l.take ((i : Int)).toNat).length : Int)) = false := decide_eq_false (by omega)
          have hjj : j = i := by omega
          subst hjj
          have hok : okTo l (sgN s : Nat) (j + 1) = true := by rw [okTo, hi2, hr, hj2]; rfl
          repeat' (first | (with_reducible first | refine ex_of (α := Nat) (j + 1) ⟨⟨?_, hok⟩, ?_⟩ ?_ | refine And.intro ?_ ?_) | ((with_reducible intro hq); first | exact bne1 hq (by with_reducible assumption) | (revert hq; with_reducible intro _)) | (with_reducible first | exact True.intro | rfl | exact LeN.ro rfl) | ((with_reducible first | refine Wk.chk ?_ | refine LeF.chk ?_ | refine Run.mk ?_); (conv => whnf)))
          all_goals first
            | omega
            | (apply Fits.i64 <;> omega)
            | (show l.length - (j + 1) < l.length - j; omega)
            | (exfalso; simp_all; done)
      have hlt : decide ((i : Int) < (l.length : Int)) = false := decide_eq_false (by omega)
      obtain rfl : i = l.length := by omega
      repeat' (first | (with_reducible refine And.intro ?_ ?_) | ((with_reducible intro hq); first | exact bne1 hq (by with_reducible assumption) | (revert hq; with_reducible intro _)) | (with_reducible exact True.intro) | ((with_reducible first | refine LeF.chk ?_ | refine Run.mk ?_); (conv => whnf)))
      all_goals (rw [hz.out, if_pos (show spansB l (sgN s : Nat) = true from hi2)]; done)
    · have k2 : decide ((256 : Int) < (l.length : Int)) = true := decide_eq_true (by omega)
      repeat' (first | (with_reducible refine And.intro ?_ ?_) | ((with_reducible intro hq); first | exact bne1 hq (by with_reducible assumption) | exact bne1 (by with_reducible assumption) hq | (revert hq; with_reducible intro _)) | (with_reducible exact True.intro) | ((with_reducible first | refine LeF.chk ?_ | refine Run.mk ?_); (conv => whnf)))
      all_goals (unfold chkN; rw [if_neg (by omega), if_pos (by omega)]; done)
  · have k1 : decide ((4096 : Int) < (s.size : Int)) = true := decide_eq_true (by omega)
    repeat' (first | (with_reducible refine And.intro ?_ ?_) | ((with_reducible intro hq); first | exact bne1 (by with_reducible assumption) hq | (revert hq; with_reducible intro _)) | (with_reducible exact True.intro) | ((with_reducible first | refine LeF.chk ?_ | refine Run.mk ?_); (conv => whnf)))
    all_goals (unfold chkN; rw [if_pos (by omega)]; done)
end Go.SX.Try
/- Contracts of the document's chapter 7: fits, within, cross, Check. -/
namespace Go.SX.Try
open Go.Proofs Go.Proofs.Try Go.SX.Plain
set_option maxRecDepth 100000
set_option maxHeartbeats 0
set_option linter.unusedSimpArgs false
abbrev txO (s : ByteArray) (l : List Spn) : AV := .agg [.v (.string s), spO l]
end Go.SX.Try
/- What a right text is. -/
namespace Go.SX.Try
open Go.Proofs Go.Proofs.Try Go.SX.Plain
set_option maxRecDepth 100000
set_option maxHeartbeats 0
set_option linter.unusedSimpArgs false
structure OkT (s : ByteArray) (l : List Spn) : Prop where
  size : s.size ≤ 4096
  len : l.length ≤ 256
  spans : spansB l (sgN s : Nat) = true
theorem OkT.of {s : ByteArray} {l : List Spn} (h : chkN s.size l (sgN s : Nat) = 0) : OkT s l := by
  unfold chkN at h
  split at h
  · cases h
  · split at h
    · cases h
    · split at h
      · rename_i h1 h2 h3
        exact ⟨by omega, by omega, h3⟩
      · cases h
end Go.SX.Try
/- Signs of two texts behind one another: where they melt; how long signs are. No program here. -/
namespace Go.SX.Plain
theorem app_size (a b : ByteArray) : (a ++ b).size = a.size + b.size := ByteArray.size_append
def overB (a b : ByteArray) (p : Nat) : Bool := decide (p < a.size) && decide (a.size < p + (Utf8.decode (a ++ b) p).2)
def meltFrom (a b : ByteArray) (pos : Nat) : Bool := (signsFrom (a ++ b) pos).any fun p => overB a b p.1
def meltB (a b : ByteArray) : Bool := meltFrom a b 0
theorem melt_step {a b : ByteArray} {pos : Nat} (h : pos < (a ++ b).size) : meltFrom a b pos = (overB a b pos || meltFrom a b (pos + (Utf8.decode (a ++ b) pos).2)) := by
  unfold meltFrom
  rw [signsFrom_step h, List.any_cons]
theorem melt_end {a b : ByteArray} {pos : Nat} (h : ¬ pos < (a ++ b).size) : meltFrom a b pos = false := by
  unfold meltFrom
  rw [signsFrom_end h]
  rfl
def shf (n : Nat) (x : Sgn) : Sgn := ⟨x.at + n, x.len, x.rune, x.bad⟩
def sgnsF (s : ByteArray) (pos : Nat) : List Sgn := (signsFrom s pos).map fun p => sgnAt s p.1
def runeLenI (r : Int) : Int := if r < 0 then -1 else if r ≤ 127 then 1 else if r ≤ 2047 then 2 else if 55296 ≤ r ∧ r ≤ 57343 then -1 else if r ≤ 65535 then 3 else if r ≤ 1114111 then 4 else -1
theorem dec_len (s : ByteArray) (i : Nat) : Utf8.decode s i = (65533, 1) ∨ (runeLenI ((Utf8.decode s i).1 : Nat) = ((Utf8.decode s i).2 : Nat) ∧ (((Utf8.decode s i).1 : Nat) : Int) ≤ 1114111) := by
  rcases longI_cases (bt s i) with h | h | h
  · exact .inl (dec_0 h)
  · right
    have hb := bt_bd s i
    have h0 : bt s i < 128 := by
      unfold longI at h
      repeat' split at h
      all_goals omega
    rw [dec_1 h]
    simp only
    rw [Int.toNat_of_nonneg hb.1]
    unfold runeLenI
    refine ⟨?_, by omega⟩
    rw [if_neg (by omega), if_pos (by omega)]
    rfl
  · by_cases h2 : i + 1 < s.size ∧ secondB (bt s i) (bt s (i + 1)) = true
    · obtain ⟨a1, a2, a3, a4, a5, a6⟩ := second_yes h2.2
      rcases h with h | h | h
      · right
        have h0 : 194 ≤ bt s i ∧ bt s i ≤ 223 := by
          unfold longI at h
          repeat' split at h
          all_goals omega
        obtain ⟨hd, b1, b2⟩ := dec_2 h h2.1 h2.2
        rw [hd]
        simp only
        rw [Int.toNat_of_nonneg b1]
        unfold runeLenI
        refine ⟨?_, by omega⟩
        rw [if_neg (by omega), if_neg (by omega), if_pos (by omega)]
        rfl
      · by_cases m2 : moreB s (i + 2) = true
        · right
          have h0 : 224 ≤ bt s i ∧ bt s i ≤ 239 := by
            unfold longI at h
            repeat' split at h
            all_goals omega
          obtain ⟨c1, c2, c3⟩ := moreB_yes m2
          obtain ⟨hd, b1, b2⟩ := dec_3 h h2.1 h2.2 m2
          rw [hd]
          simp only
          rw [Int.toNat_of_nonneg b1]
          unfold runeLenI
          refine ⟨?_, by omega⟩
          rw [if_neg (by omega), if_neg (by omega), if_neg (by omega), if_neg (by omega), if_pos (by omega)]
          rfl
        · exact .inl (more_no2 (by omega) (by simpa using m2))
      · by_cases m2 : moreB s (i + 2) = true
        · by_cases m3 : moreB s (i + 3) = true
          · right
            have h0 : 240 ≤ bt s i ∧ bt s i ≤ 244 := by
              unfold longI at h
              repeat' split at h
              all_goals omega
            obtain ⟨c1, c2, c3⟩ := moreB_yes m2
            obtain ⟨d1, d2, d3⟩ := moreB_yes m3
            obtain ⟨hd, b1, b2⟩ := dec_4 h h2.1 h2.2 m2 m3
            rw [hd]
            simp only
            rw [Int.toNat_of_nonneg b1]
            unfold runeLenI
            refine ⟨?_, by omega⟩
            rw [if_neg (by omega), if_neg (by omega), if_neg (by omega), if_neg (by omega), if_neg (by omega), if_pos (by omega)]
            rfl
          · exact .inl (more_no3 (by omega) (by simpa using m3))
        · exact .inl (more_no2 (by omega) (by simpa using m2))
    · exact .inl (second_no2 (by omega) h2)
theorem rune_max (s : ByteArray) (i : Nat) : (((Utf8.decode s i).1 : Nat) : Int) ≤ 1114111 := by
  rcases dec_len s i with h | h
  · rw [h]; decide
  · exact h.2
theorem dec_good {s : ByteArray} {i : Nat} (h : ¬ ((Utf8.decode s i).1 : Int) = 65533) : runeLenI ((Utf8.decode s i).1 : Nat) = ((Utf8.decode s i).2 : Nat) := by
  rcases dec_len s i with h1 | h1
  · rw [h1] at h; exact absurd rfl h
  · exact h1.1
theorem dec_bad {s : ByteArray} {i : Nat} (h : ((Utf8.decode s i).1 : Int) = 65533) : (Utf8.decode s i).2 = 1 ∨ (Utf8.decode s i).2 = 3 := by
  rcases dec_len s i with h1 | h1
  · rw [h1]; exact .inl rfl
  · right
    have := h1.1
    rw [h] at this
    have h2 : runeLenI 65533 = 3 := by decide
    omega
end Go.SX.Plain
/- Whether three bytes are those of U+FFFD. No program here. -/
namespace Go.SX.Plain
abbrev badL : ByteArray := { data := #[239, 191, 189] }
theorem bt_ext {a b : ByteArray} (h : a.size = b.size) (hb : ∀ i, i < a.size → bt a i = bt b i) : a = b := by
  apply ByteArray.ext
  apply Array.ext
  · exact h
  · intro i h1 h2
    have := hb i h1
    unfold bt at this
    rw [bytesL_get, bytesL_get] at this
    have e1 : a.data.toList.getD i 0 = a.data[i] := by
      simp only [List.getD_eq_getElem?_getD, Array.getElem?_toList]
      rw [getElem?_pos a.data i h1]
      rfl
    have e2 : b.data.toList.getD i 0 = b.data[i] := by
      simp only [List.getD_eq_getElem?_getD, Array.getElem?_toList]
      rw [getElem?_pos b.data i h2]
      rfl
    rw [e1, e2] at this
    exact UInt8.toNat_inj.1 (by omega)
theorem dec_fffd {s : ByteArray} {i : Nat} (h : Utf8.decode s i = (65533, 3)) : bt s i = 239 ∧ bt s (i + 1) = 191 ∧ bt s (i + 2) = 189 := by
  have hne : ∀ {n : Nat}, n ≠ 3 → ∀ {r : Nat}, Utf8.decode s i = (r, n) → False := fun hn r h2 => by
    rw [h] at h2
    exact hn (congrArg Prod.snd h2).symm
  rcases longI_cases (bt s i) with c | c | c
  · exact (hne (by decide) (dec_0 c)).elim
  · exact (hne (by decide) (dec_1 c)).elim
  · by_cases h2 : i + 1 < s.size ∧ secondB (bt s i) (bt s (i + 1)) = true
    · obtain ⟨a1, a2, a3, a4, a5, a6⟩ := second_yes h2.2
      rcases c with c | c | c
      · exact (hne (by decide) (dec_2 c h2.1 h2.2).1).elim
      · by_cases m2 : moreB s (i + 2) = true
        · have h0 : 224 ≤ bt s i ∧ bt s i ≤ 239 := by
            unfold longI at c
            repeat' split at c
            all_goals omega
          obtain ⟨c1, c2, c3⟩ := moreB_yes m2
          obtain ⟨hd, b1, b2⟩ := dec_3 c h2.1 h2.2 m2
          rw [h] at hd
          have := congrArg Prod.fst hd
          simp only at this
          omega
        · exact (hne (by decide) (more_no2 (by omega) (by simpa using m2))).elim
      · by_cases m2 : moreB s (i + 2) = true
        · by_cases m3 : moreB s (i + 3) = true
          · exact (hne (by decide) (dec_4 c h2.1 h2.2 m2 m3).1).elim
          · exact (hne (by decide) (more_no3 (by omega) (by simpa using m3))).elim
        · exact (hne (by decide) (more_no2 (by omega) (by simpa using m2))).elim
    · exact (hne (by decide) (second_no2 (by omega) h2)).elim
theorem pref_iff {s : ByteArray} {pos : Nat} (hp : pos < s.size) (hr : (((Utf8.decode s pos).1 : Nat) : Int) = 65533) :
    (decide ((3 : Int) ≤ ((s.extract pos s.size).size : Int)) && decide ((s.extract pos s.size).extract 0 3 = badL)) = decide ((Utf8.decode s pos).2 = 3) := by
  have ht := decode_extract (s := s) (p := pos) (e := s.size) hp (Nat.le_refl _) (width_le hp)
  have hsz := size_extract' (s := s) (p := pos) (e := s.size) (Nat.le_refl _)
  obtain ⟨t, hte⟩ : ∃ t, t = s.extract pos s.size := ⟨_, rfl⟩
  rw [← hte] at ht hsz ⊢
  rw [← ht] at hr ⊢
  have hwl := width_le (s := t) (pos := 0) (by omega)
  rcases dec_bad hr with h1 | h1
  · rw [h1, Bool.eq_iff_iff]
    simp only [Bool.and_eq_true, decide_eq_true_eq]
    constructor
    · rintro ⟨h2, h3⟩
      have hd := decode_extract (s := t) (p := 0) (e := 3) (by omega) (by omega) (by omega)
      rw [h3] at hd
      have hb : Utf8.decode badL 0 = (65533, 3) := by decide
      rw [hb] at hd
      rw [← hd] at h1
      cases h1
    · intro h
      omega
  · rw [h1, Bool.eq_iff_iff]
    simp only [Bool.and_eq_true, decide_eq_true_eq, iff_true]
    have h3 : 3 ≤ t.size := by omega
    refine ⟨by omega, ?_⟩
    have hd : Utf8.decode t 0 = (65533, 3) := Prod.ext (by simp only; omega) h1
    obtain ⟨c0, c1, c2⟩ := dec_fffd hd
    refine bt_ext (by rw [size_extract' h3]; rfl) fun i hi => ?_
    rw [size_extract' h3] at hi
    rw [bt_extract (by omega) h3, Nat.zero_add]
    obtain rfl | rfl | rfl : i = 0 ∨ i = 1 ∨ i = 2 := by omega
    · rw [c0]; rfl
    · rw [c1]; rfl
    · rw [c2]; rfl
end Go.SX.Plain
namespace Go.SX.Plain
abbrev dSg : Sgn := ⟨0, 0, 0, false⟩
def sgEqB (x y : Sgn) : Bool := x.at == y.at && (x.len == y.len && (x.rune == y.rune && x.bad == y.bad))
def both (a b : ByteArray) : List Sgn := sgns a ++ (sgns b).map (shf a.size)
theorem getD_ext {α : Type} {d : α} {l r : List α} (hl : l.length = r.length) (h : ∀ i, i < l.length → l.getD i d = r.getD i d) : l = r := by
  refine List.ext_getElem hl fun i h1 h2 => ?_
  have := h i h1
  simpa [List.getD_eq_getElem?_getD, h1, h2] using this
end Go.SX.Plain
/- Contracts of utf's Place, Cut (by signs), Melts. -/
namespace Go.SX.Try
open Go.Proofs Go.Proofs.Try Go.SX.Plain
set_option maxRecDepth 100000
set_option maxHeartbeats 0
set_option linter.unusedSimpArgs false
theorem q_usigns : fact 49 f49 := ⟨by kernel_rfl, rfl, by kernel_rfl⟩
theorem q_usigns1 : fact 61 f61 := ⟨by kernel_rfl, rfl, by kernel_rfl⟩
theorem q_runeLen : fact 62 f62 := ⟨by kernel_rfl, rfl, by kernel_rfl⟩
theorem q_hasPrefix : fact 63 f63 := ⟨by kernel_rfl, rfl, by kernel_rfl⟩
theorem q_hasPrefixI : fact 74 f74 := ⟨by kernel_rfl, rfl, by kernel_rfl⟩
theorem q_uplace : fact 32 f32 := ⟨by kernel_rfl, rfl, by kernel_rfl⟩
theorem q_uknown : fact 31 f31 := ⟨by kernel_rfl, rfl, by kernel_rfl⟩
theorem q_upairs : fact 50 f50 := ⟨by kernel_rfl, rfl, by kernel_rfl⟩
theorem q_ucut : fact 13 f13 := ⟨by kernel_rfl, rfl, by kernel_rfl⟩
theorem q_umelts : fact 57 f57 := ⟨by kernel_rfl, rfl, by kernel_rfl⟩
theorem con_runeLen : Con prog 62 (fun r : Int => [.v (.int .i32 r)]) (fun r => .v (.int .i64 (runeLenI r))) (fun _ => True) := by
  refine Con.of (by kernel_rfl) T_ok CdsOK.nil .nil 3 [] q_runeLen.1 q_runeLen.2.1 q_runeLen.2.2 (fun _ => rfl) fun r _ => ?_
  repeat' (first | (with_reducible first | exact fun h => h | refine ExE.row (by with_unfolding_all rfl) ?_ | refine And.intro ?_ ?_) | ((with_reducible intro hq); first | exact bne1 hq (by with_reducible assumption) | exact bne1 (by with_reducible assumption) hq | ((simp only [*, BB, cond_true, cond_false, reduceCtorEq] at hq); done) | (revert hq; with_reducible intro _)) | (with_reducible first | exact True.intro | rfl | refine EntLe.row ?_ | exact LeN.ro rfl | exact LeN.rptr | assumption) | ((with_reducible first | refine WkX.chk ?_ | refine Wk.chk ?_ | refine LeL.chk ?_ | refine LeF.chk ?_ | refine Run.mk ?_); (conv => whnf)) | ((with_reducible show LeO _ _); first | refine LeO.ro ?_ | refine LeO.roCap ?_ | refine LeO.nil ?_ (fun _ => rfl)) | ((with_reducible show LeR _ _ _); first | refine LeR.own rfl rfl rfl ?_ | refine LeR.view rfl rfl rfl ?_ ?_ | refine LeR.ro ?_ | refine LeR.roCap ?_ | refine LeR.nil ?_ (fun _ => rfl)) | ((with_reducible first | show drawOK _ _ = true | show lateOK _ _ = true | show drawOK2 _ _ = true | show drawOK3 _ _ = true); kernel_rfl))
  all_goals (unfold runeLenI; simp only [Bool.and_eq_true, Bool.and_eq_false_iff, decide_eq_true_eq, decide_eq_false_iff_not] at *; (repeat' split) <;> omega)
theorem con_hasPrefix : Con prog 63 (fun ((s, p) : ByteArray × ByteArray) => [.v (.string s), .v (.string p)]) (fun (s, p) => .sb (decide ((p.size : Int) ≤ (s.size : Int)) && decide (s.extract 0 ((p.size : Nat) : Int).toNat = p))) (fun _ => True) := by
  refine Con.of (by kernel_rfl) T_ok CdsOK.nil (.inl (J := []) q_hasPrefixI.1 q_hasPrefixI.2.1 q_hasPrefixI.2.2 .nil) 5 [] q_hasPrefix.1 q_hasPrefix.2.1 q_hasPrefix.2.2 (fun _ => rfl) fun i _ => ?_
  obtain ⟨s, p⟩ := i
  repeat' (first | (with_reducible first | exact fun h => h | refine ExE.row (by with_unfolding_all rfl) ?_ | refine And.intro ?_ ?_) | ((with_reducible intro hq); first | exact bne1 hq (by with_reducible assumption) | exact bne1 (by with_reducible assumption) hq | ((simp only [*, BB, cond_true, cond_false, reduceCtorEq] at hq); done) | (revert hq; with_reducible intro _)) | (with_reducible first | exact True.intro | rfl | refine EntLe.row ?_ | exact LeN.ro rfl | exact LeN.rptr | assumption) | ((with_reducible first | refine WkX.chk ?_ | refine Wk.chk ?_ | refine LeL.chk ?_ | refine LeF.chk ?_ | refine Run.mk ?_); (conv => whnf)) | ((with_reducible show LeO _ _); first | refine LeO.ro ?_ | refine LeO.roCap ?_ | refine LeO.nil ?_ (fun _ => rfl)) | ((with_reducible show LeR _ _ _); first | refine LeR.own rfl rfl rfl ?_ | refine LeR.view rfl rfl rfl ?_ ?_ | refine LeR.ro ?_ | refine LeR.roCap ?_ | refine LeR.nil ?_ (fun _ => rfl)) | ((with_reducible first | show drawOK _ _ = true | show lateOK _ _ = true | show drawOK2 _ _ = true | show drawOK3 _ _ = true); kernel_rfl))
  all_goals first
    | omega
    | rfl
    | (simp only [decide_eq_true_eq] at *; omega)
    | (exfalso; simp_all; done)
    | (simp only [*, Bool.false_and]; done)
    | trace_state
theorem con_uknown : Con prog 31 (fun u : Int => [.v (.int .i64 u)]) (fun _ => .v (.bool true)) (fun u => u = 1 ∨ u = 2 ∨ u = 3) := by
  refine Con.of (by kernel_rfl) T_ok CdsOK.nil .nil 3 [] q_uknown.1 q_uknown.2.1 q_uknown.2.2 (fun _ => rfl) fun u hu => ?_
  have hu : u = 1 ∨ u = 2 ∨ u = 3 := hu
  rcases hu with rfl | rfl | rfl
  all_goals
    repeat' (first | (with_reducible first | exact fun h => h | refine ExE.row (by with_unfolding_all rfl) ?_ | refine And.intro ?_ ?_) | ((with_reducible intro hq); first | exact bne1 hq (by with_reducible assumption) | exact bne1 (by with_reducible assumption) hq | ((simp only [*, BB, cond_true, cond_false, reduceCtorEq] at hq); done) | (revert hq; with_reducible intro _)) | (with_reducible first | exact True.intro | rfl | refine EntLe.row ?_ | exact LeN.ro rfl | exact LeN.rptr | assumption) | ((with_reducible first | refine WkX.chk ?_ | refine Wk.chk ?_ | refine LeL.chk ?_ | refine LeF.chk ?_ | refine Run.mk ?_); (conv => whnf)) | ((with_reducible show LeO _ _); first | refine LeO.ro ?_ | refine LeO.roCap ?_ | refine LeO.nil ?_ (fun _ => rfl)) | ((with_reducible show LeR _ _ _); first | refine LeR.own rfl rfl rfl ?_ | refine LeR.view rfl rfl rfl ?_ ?_ | refine LeR.ro ?_ | refine LeR.roCap ?_ | refine LeR.nil ?_ (fun _ => rfl)) | ((with_reducible first | show drawOK _ _ = true | show lateOK _ _ = true | show drawOK2 _ _ = true | show drawOK3 _ _ = true); kernel_rfl))
    all_goals first
      | rfl
      | (exfalso; simp_all; done)
      | (simp_all; done)
      | trace_state
def pairsI (r : Int) : Int := if 65536 ≤ r then 2 else 1
theorem pairs_bd (r : Int) : 1 ≤ pairsI r ∧ pairsI r ≤ 2 := by unfold pairsI; split <;> omega
theorem con_upairs : Con prog 50 (fun r : Int => [.v (.int .i32 r)]) (fun r => .v (.int .i64 (pairsI r))) (fun _ => True) := by
  refine Con.of (by kernel_rfl) T_ok CdsOK.nil .nil 3 [] q_upairs.1 q_upairs.2.1 q_upairs.2.2 (fun _ => rfl) fun r _ => ?_
  repeat' (first | (with_reducible first | exact fun h => h | refine ExE.row (by with_unfolding_all rfl) ?_ | refine And.intro ?_ ?_) | ((with_reducible intro hq); first | exact bne1 hq (by with_reducible assumption) | exact bne1 (by with_reducible assumption) hq | ((simp only [*, BB, cond_true, cond_false, reduceCtorEq] at hq); done) | (revert hq; with_reducible intro _)) | (with_reducible first | exact True.intro | rfl | refine EntLe.row ?_ | exact LeN.ro rfl | exact LeN.rptr | assumption) | ((with_reducible first | refine WkX.chk ?_ | refine Wk.chk ?_ | refine LeL.chk ?_ | refine LeF.chk ?_ | refine Run.mk ?_); (conv => whnf)) | ((with_reducible show LeO _ _); first | refine LeO.ro ?_ | refine LeO.roCap ?_ | refine LeO.nil ?_ (fun _ => rfl)) | ((with_reducible show LeR _ _ _); first | refine LeR.own rfl rfl rfl ?_ | refine LeR.view rfl rfl rfl ?_ ?_ | refine LeR.ro ?_ | refine LeR.roCap ?_ | refine LeR.nil ?_ (fun _ => rfl)) | ((with_reducible first | show drawOK _ _ = true | show lateOK _ _ = true | show drawOK2 _ _ = true | show drawOK3 _ _ = true); kernel_rfl))
  all_goals (simp only [decide_eq_true_eq, decide_eq_false_iff_not] at *)
  all_goals first
    | (unfold pairsI; rw [if_pos (by omega)]; done)
    | (unfold pairsI; rw [if_neg (by omega)]; done)
theorem con_uplace : Con prog 32 (fun ((s, a) : ByteArray × Int) => [.v (.string s), .v (.int .i64 a), .v (.int .i64 2), .v (.int .i64 1)]) (fun (s, a) => .tup [.v (.int .i64 (plN s a)), .v (.int .i64 (plE s a))]) (fun (s, _) => s.size ≤ 1100000) := by
  refine Con.of (by kernel_rfl) T_ok CdsOK.nil (.con con_runeLen (.con con_hasPrefix (.inl (J := []) q_usigns.1 q_usigns.2.1 q_usigns.2.2 (.inl (J := [8]) q_usigns1.1 q_usigns1.2.1 q_usigns1.2.2 (.con con_uknown (.con con_upairs .nil)))))) 9 [] q_uplace.1 q_uplace.2.1 q_uplace.2.2 (fun _ => rfl) fun i hs => ?_
  obtain ⟨s, a⟩ := i
  have hs : s.size ≤ 1100000 := hs
  by_cases ha : a < 0
  · have ht : decide (a < 0) = true := decide_eq_true ha
    repeat' (first | (with_reducible first | refine ⟨_, ⟨(.cons (.v _) .nil), ?_⟩, ?_⟩ | exact fun h => h | refine ExE.row (by with_unfolding_all rfl) ?_ | refine And.intro ?_ ?_) | ((with_reducible intro hq); first | exact bne1 hq (by with_reducible assumption) | exact bne1 (by with_reducible assumption) hq | ((simp only [*, BB, cond_true, cond_false, reduceCtorEq] at hq); done) | (revert hq; with_reducible intro _)) | (with_reducible first | exact True.intro | rfl | refine EntLe.row ?_ | exact LeN.ro rfl | exact LeN.rptr | assumption) | ((with_reducible first | refine WkX.chk ?_ | refine Wk.chk ?_ | refine LeL.chk ?_ | refine LeF.chk ?_ | refine Run.mk ?_); (conv => whnf)) | ((with_reducible show LeO _ _); first | refine LeO.ro ?_ | refine LeO.roCap ?_ | refine LeO.nil ?_ (fun _ => rfl)) | ((with_reducible show LeR _ _ _); first | refine LeR.own rfl rfl rfl ?_ | refine LeR.view rfl rfl rfl ?_ ?_ | refine LeR.ro ?_ | refine LeR.roCap ?_ | refine LeR.nil ?_ (fun _ => rfl)) | ((with_reducible first | show drawOK _ _ = true | show lateOK _ _ = true | show drawOK2 _ _ = true | show drawOK3 _ _ = true); kernel_rfl))
    all_goals first
      | (dsimp only; omega)
      | (unfold plN; rw [if_neg (by omega)]; done)
      | (unfold plE; rw [if_neg (by omega)]; done)
      | trace_state
  · have ht : decide (a < 0) = false := decide_eq_false ha
    have hn := sgN_le s
    have hend := posS_end s
    repeat' (first | (with_reducible first | refine ⟨_, ⟨(.cons (.v _) .nil), ?_⟩, ?_⟩ | exact fun h => h | refine ExE.row (by with_unfolding_all rfl) ?_ | refine And.intro ?_ ?_) | ((with_reducible intro hq); first | exact bne1 hq (by with_reducible assumption) | exact bne1 (by with_reducible assumption) hq | ((simp only [*, BB, cond_true, cond_false, reduceCtorEq] at hq); done) | (revert hq; with_reducible intro _)) | (with_reducible first | exact True.intro | rfl | refine EntLe.row ?_ | exact LeN.ro rfl | exact LeN.rptr | assumption) | ((with_reducible first | refine WkX.chk ?_ | refine Wk.chk ?_ | refine LeL.chk ?_ | refine LeF.chk ?_ | refine Run.mk ?_); (conv => whnf)) | ((with_reducible show LeO _ _); first | refine LeO.ro ?_ | refine LeO.roCap ?_ | refine LeO.nil ?_ (fun _ => rfl)) | ((with_reducible show LeR _ _ _); first | refine LeR.own rfl rfl rfl ?_ | refine LeR.view rfl rfl rfl ?_ ?_ | refine LeR.ro ?_ | refine LeR.roCap ?_ | refine LeR.nil ?_ (fun _ => rfl)) | ((with_reducible first | show drawOK _ _ = true | show lateOK _ _ = true | show drawOK2 _ _ = true | show drawOK3 _ _ = true); kernel_rfl))
    all_goals (try (dsimp only; omega))
    refine loopI (Nat × Int) [] (fun _ => []) (fun | (i, p) => [(6, .iter s (posS s i)), (2, .box [.v (.int .i64 0), .v (.int .i64 (posS s i : Nat)), .v (.int .i64 (i : Nat)), .v (.int .i64 p)] 99)]) (fun | (i, p) => i ≤ sgN s ∧ (i : Int) ≤ a ∧ 0 ≤ p ∧ p ≤ 2 * (i : Int)) (fun | (i, _) => sgN s - i) (0, 0) ⟨Nat.zero_le _, by omega, Int.le_refl _, by omega⟩ (Wk.chk ?_) fun x hx => ?_
    · ((conv => whnf); repeat' (first | (with_reducible first | exact fun h => h | refine ExE.row (by with_unfolding_all rfl) ?_ | refine And.intro ?_ ?_) | ((with_reducible intro hq); first | exact bne1 hq (by with_reducible assumption) | exact bne1 (by with_reducible assumption) hq | ((simp only [*, BB, cond_true, cond_false, reduceCtorEq] at hq); done) | (revert hq; with_reducible intro _)) | (with_reducible first | exact True.intro | rfl | refine EntLe.row ?_ | exact LeN.ro rfl | exact LeN.rptr | assumption) | ((with_reducible first | refine WkX.chk ?_ | refine Wk.chk ?_ | refine LeL.chk ?_ | refine LeF.chk ?_ | refine Run.mk ?_); (conv => whnf)) | ((with_reducible show LeO _ _); first | refine LeO.ro ?_ | refine LeO.roCap ?_ | refine LeO.nil ?_ (fun _ => rfl)) | ((with_reducible show LeR _ _ _); first | refine LeR.own rfl rfl rfl ?_ | refine LeR.view rfl rfl rfl ?_ ?_ | refine LeR.ro ?_ | refine LeR.roCap ?_ | refine LeR.nil ?_ (fun _ => rfl)) | ((with_reducible first | show drawOK _ _ = true | show lateOK _ _ = true | show drawOK2 _ _ = true | show drawOK3 _ _ = true); kernel_rfl)))
      all_goals first
        | rfl
        | (rw [posS_zero]; done)
        | (rw [posS_zero]; rfl)
        | trace_state
    obtain ⟨i, p⟩ := x
    obtain ⟨hi1, hi2, hi3, hi4⟩ : i ≤ sgN s ∧ (i : Int) ≤ a ∧ 0 ≤ p ∧ p ≤ 2 * (i : Int) := hx
    have hpl := posS_le s i
    by_cases hil : i < sgN s
    · have hat := sgns_at s hil
      obtain ⟨_, hlt, hnx⟩ := hat
      have hw := width_pos s (posS s i)
      have hwl := width_le hlt
      have hmax := rune_max s (posS s i)
      have e1 : ((posS s i : Nat) : Int).toNat = posS s i := Int.toNat_natCast _
      repeat' (first | (with_reducible first | exact fun h => h | refine ExE.row (by with_unfolding_all rfl) ?_ | refine And.intro ?_ ?_) | ((with_reducible intro hq); first | exact bne1 hq (by with_reducible assumption) | exact bne1 (by with_reducible assumption) hq | ((simp only [*, BB, cond_true, cond_false, reduceCtorEq] at hq); done) | (revert hq; with_reducible intro _)) | (with_reducible first | exact True.intro | rfl | refine EntLe.row ?_ | exact LeN.ro rfl | exact LeN.rptr | assumption) | ((with_reducible first | refine WkX.chk ?_ | refine Wk.chk ?_ | refine LeL.chk ?_ | refine LeF.chk ?_ | refine Run.mk ?_); (conv => whnf)) | ((with_reducible show LeO _ _); first | refine LeO.ro ?_ | refine LeO.roCap ?_ | refine LeO.nil ?_ (fun _ => rfl)) | ((with_reducible show LeR _ _ _); first | refine LeR.own rfl rfl rfl ?_ | refine LeR.view rfl rfl rfl ?_ ?_ | refine LeR.ro ?_ | refine LeR.roCap ?_ | refine LeR.nil ?_ (fun _ => rfl)) | ((with_reducible first | show drawOK _ _ = true | show lateOK _ _ = true | show drawOK2 _ _ = true | show drawOK3 _ _ = true); kernel_rfl))
      any_goals omega
      refine joinI Unit [] (fun _ => [(5, .v (.int .i64 ((Utf8.decode s (posS s i)).2 : Nat)))]) (fun _ => []) (fun _ => True) ?_ fun _ _ => ?_
      · by_cases hr : (((Utf8.decode s (posS s i)).1 : Nat) : Int) = 65533
        · have k1 : ((((Utf8.decode s (posS s i)).1 : Nat) : Int) != 65533) = false := by rw [hr]; rfl
          have hpf : (decide ((badL.size : Int) ≤ ((s.extract ((posS s i : Nat) : Int).toNat s.size).size : Int)) && decide ((s.extract ((posS s i : Nat) : Int).toNat s.size).extract 0 ((badL.size : Nat) : Int).toNat = badL)) = decide ((Utf8.decode s (posS s i)).2 = 3) := by
            rw [e1]
            exact pref_iff hlt hr
          have h13 := dec_bad hr
          rcases h13 with h13 | h13
          · have hpf := hpf.trans (show decide ((Utf8.decode s (posS s i)).2 = 3) = false from by rw [h13]; rfl)
            repeat' (first | (with_reducible first | refine ⟨(_, badL), ⟨(.cons (.v _) (.cons (.v _) .nil)), ?_⟩, ?_⟩ | refine ex_of () trivial ?_ | exact fun h => h | refine ExE.row (by with_unfolding_all rfl) ?_ | refine And.intro ?_ ?_) | ((with_reducible intro hq); first | exact bne1 hq (by with_reducible assumption) | exact bne1 (by with_reducible assumption) hq | ((simp only [*, BB, cond_true, cond_false, reduceCtorEq] at hq); done) | (revert hq; with_reducible intro _)) | (with_reducible first | exact True.intro | rfl | refine EntLe.row ?_ | exact LeN.ro rfl | exact LeN.rptr | assumption) | ((with_reducible first | refine WkX.chk ?_ | refine Wk.chk ?_ | refine LeL.chk ?_ | refine LeF.chk ?_ | refine Run.mk ?_); (conv => whnf)) | ((with_reducible show LeO _ _); first | refine LeO.ro ?_ | refine LeO.roCap ?_ | refine LeO.nil ?_ (fun _ => rfl)) | ((with_reducible show LeR _ _ _); first | refine LeR.own rfl rfl rfl ?_ | refine LeR.view rfl rfl rfl ?_ ?_ | refine LeR.ro ?_ | refine LeR.roCap ?_ | refine LeR.nil ?_ (fun _ => rfl)) | ((with_reducible first | show drawOK _ _ = true | show lateOK _ _ = true | show drawOK2 _ _ = true | show drawOK3 _ _ = true); kernel_rfl))
            all_goals first
              | omega
              | (rw [h13]; rfl)
              | trace_state
          · have hpf := hpf.trans (show decide ((Utf8.decode s (posS s i)).2 = 3) = true from by rw [h13]; rfl)
            repeat' (first | (with_reducible first | refine ⟨(_, badL), ⟨(.cons (.v _) (.cons (.v _) .nil)), ?_⟩, ?_⟩ | refine ex_of () trivial ?_ | exact fun h => h | refine ExE.row (by with_unfolding_all rfl) ?_ | refine And.intro ?_ ?_) | ((with_reducible intro hq); first | exact bne1 hq (by with_reducible assumption) | exact bne1 (by with_reducible assumption) hq | ((simp only [*, BB, cond_true, cond_false, reduceCtorEq] at hq); done) | (revert hq; with_reducible intro _)) | (with_reducible first | exact True.intro | rfl | refine EntLe.row ?_ | exact LeN.ro rfl | exact LeN.rptr | assumption) | ((with_reducible first | refine WkX.chk ?_ | refine Wk.chk ?_ | refine LeL.chk ?_ | refine LeF.chk ?_ | refine Run.mk ?_); (conv => whnf)) | ((with_reducible show LeO _ _); first | refine LeO.ro ?_ | refine LeO.roCap ?_ | refine LeO.nil ?_ (fun _ => rfl)) | ((with_reducible show LeR _ _ _); first | refine LeR.own rfl rfl rfl ?_ | refine LeR.view rfl rfl rfl ?_ ?_ | refine LeR.ro ?_ | refine LeR.roCap ?_ | refine LeR.nil ?_ (fun _ => rfl)) | ((with_reducible first | show drawOK _ _ = true | show lateOK _ _ = true | show drawOK2 _ _ = true | show drawOK3 _ _ = true); kernel_rfl))
            all_goals first
              | omega
              | (rw [h13]; rfl)
              | trace_state
        · have k1 : ((((Utf8.decode s (posS s i)).1 : Nat) : Int) != 65533) = true := by simpa using hr
          have hg := dec_good hr
          repeat' (first | (with_reducible first | refine ⟨(((Utf8.decode s (posS s i)).1 : Nat) : Int), ⟨(.cons (.v _) .nil), ?_⟩, ?_⟩ | refine ex_of () trivial ?_ | exact fun h => h | refine ExE.row (by with_unfolding_all rfl) ?_ | refine And.intro ?_ ?_) | ((with_reducible intro hq); first | exact bne1 hq (by with_reducible assumption) | exact bne1 (by with_reducible assumption) hq | ((simp only [*, BB, cond_true, cond_false, reduceCtorEq] at hq); done) | (revert hq; with_reducible intro _)) | (with_reducible first | exact True.intro | rfl | refine EntLe.row ?_ | exact LeN.ro rfl | exact LeN.rptr | assumption) | ((with_reducible first | refine WkX.chk ?_ | refine Wk.chk ?_ | refine LeL.chk ?_ | refine LeF.chk ?_ | refine Run.mk ?_); (conv => whnf)) | ((with_reducible show LeO _ _); first | refine LeO.ro ?_ | refine LeO.roCap ?_ | refine LeO.nil ?_ (fun _ => rfl)) | ((with_reducible show LeR _ _ _); first | refine LeR.own rfl rfl rfl ?_ | refine LeR.view rfl rfl rfl ?_ ?_ | refine LeR.ro ?_ | refine LeR.roCap ?_ | refine LeR.nil ?_ (fun _ => rfl)) | ((with_reducible first | show drawOK _ _ = true | show lateOK _ _ = true | show drawOK2 _ _ = true | show drawOK3 _ _ = true); kernel_rfl))
          all_goals first
            | omega
            | exact hg
            | trace_state
      by_cases hia : (i : Int) = a
      · have k2 : decide (a ≤ (i : Int)) = true := decide_eq_true (by omega)
        have k3 : ((i : Int) == a) = true := by rw [beq_iff_eq]; exact hia
        repeat' (first | (with_reducible first | exact fun h => h | refine ExE.row (by with_unfolding_all rfl) ?_ | refine And.intro ?_ ?_) | ((with_reducible intro hq); first | exact bne1 hq (by with_reducible assumption) | exact bne1 (by with_reducible assumption) hq | ((simp only [*, BB, cond_true, cond_false, reduceCtorEq] at hq); done) | (revert hq; with_reducible intro _)) | (with_reducible first | exact True.intro | rfl | refine EntLe.row ?_ | exact LeN.ro rfl | exact LeN.rptr | assumption) | ((with_reducible first | refine WkX.chk ?_ | refine Wk.chk ?_ | refine LeL.chk ?_ | refine LeF.chk ?_ | refine Run.mk ?_); (conv => whnf)) | ((with_reducible show LeO _ _); first | refine LeO.ro ?_ | refine LeO.roCap ?_ | refine LeO.nil ?_ (fun _ => rfl)) | ((with_reducible show LeR _ _ _); first | refine LeR.own rfl rfl rfl ?_ | refine LeR.view rfl rfl rfl ?_ ?_ | refine LeR.ro ?_ | refine LeR.roCap ?_ | refine LeR.nil ?_ (fun _ => rfl)) | ((with_reducible first | show drawOK _ _ = true | show lateOK _ _ = true | show drawOK2 _ _ = true | show drawOK3 _ _ = true); kernel_rfl))
        all_goals first
          | omega
          | (unfold plN; rw [if_pos ⟨by omega, by omega⟩, show a.toNat = i by omega]; done)
          | (unfold plE; rw [if_pos ⟨by omega, by omega⟩]; done)
          | (simp only [Bool.not_eq_true']; assumption)
          | trace_state
      · have k2 : decide (a ≤ (i : Int)) = false := decide_eq_false (by omega)
        have hpb := pairs_bd (((Utf8.decode s (posS s i)).1 : Nat) : Int)
        repeat' (first | (with_reducible first | refine ⟨(((Utf8.decode s (posS s i)).1 : Nat) : Int), ⟨(.cons (.v _) .nil), ?_⟩, ?_⟩ | refine ex_of (α := Nat × Int) (i + 1, p + pairsI (((Utf8.decode s (posS s i)).1 : Nat) : Int)) ⟨⟨?_, ?_, ?_, ?_⟩, ?_⟩ ?_ | exact fun h => h | refine ExE.row (by with_unfolding_all rfl) ?_ | refine And.intro ?_ ?_) | ((with_reducible intro hq); first | exact bne1 hq (by with_reducible assumption) | exact bne1 (by with_reducible assumption) hq | ((simp only [*, BB, cond_true, cond_false, reduceCtorEq] at hq); done) | (revert hq; with_reducible intro _)) | (with_reducible first | exact True.intro | rfl | refine EntLe.row ?_ | exact LeN.ro rfl | exact LeN.rptr | assumption) | ((with_reducible first | refine WkX.chk ?_ | refine Wk.chk ?_ | refine LeL.chk ?_ | refine LeF.chk ?_ | refine Run.mk ?_); (conv => whnf)) | ((with_reducible show LeO _ _); first | refine LeO.ro ?_ | refine LeO.roCap ?_ | refine LeO.nil ?_ (fun _ => rfl)) | ((with_reducible show LeR _ _ _); first | refine LeR.own rfl rfl rfl ?_ | refine LeR.view rfl rfl rfl ?_ ?_ | refine LeR.ro ?_ | refine LeR.roCap ?_ | refine LeR.nil ?_ (fun _ => rfl)) | ((with_reducible first | show drawOK _ _ = true | show lateOK _ _ = true | show drawOK2 _ _ = true | show drawOK3 _ _ = true); kernel_rfl))
        all_goals first
          | omega
          | (apply Fits.i64 <;> omega)
          | (show sgN s - (i + 1) < sgN s - i; omega)
          | (rw [hnx]; done)
          | trace_state
    · have hii : i = sgN s := by omega
      subst hii
      have hlt : ¬ posS s (sgN s) < s.size := by omega
      by_cases hia : ((sgN s : Nat) : Int) = a
      · have k3 : (((sgN s : Nat) : Int) == a) = true := by rw [beq_iff_eq]; exact hia
        repeat' (first | (with_reducible first | exact fun h => h | refine ExE.row (by with_unfolding_all rfl) ?_ | refine And.intro ?_ ?_) | ((with_reducible intro hq); first | exact bne1 hq (by with_reducible assumption) | exact bne1 (by with_reducible assumption) hq | ((simp only [*, BB, cond_true, cond_false, reduceCtorEq] at hq); done) | (revert hq; with_reducible intro _)) | (with_reducible first | exact True.intro | rfl | refine EntLe.row ?_ | exact LeN.ro rfl | exact LeN.rptr | assumption) | ((with_reducible first | refine WkX.chk ?_ | refine Wk.chk ?_ | refine LeL.chk ?_ | refine LeF.chk ?_ | refine Run.mk ?_); (conv => whnf)) | ((with_reducible show LeO _ _); first | refine LeO.ro ?_ | refine LeO.roCap ?_ | refine LeO.nil ?_ (fun _ => rfl)) | ((with_reducible show LeR _ _ _); first | refine LeR.own rfl rfl rfl ?_ | refine LeR.view rfl rfl rfl ?_ ?_ | refine LeR.ro ?_ | refine LeR.roCap ?_ | refine LeR.nil ?_ (fun _ => rfl)) | ((with_reducible first | show drawOK _ _ = true | show lateOK _ _ = true | show drawOK2 _ _ = true | show drawOK3 _ _ = true); kernel_rfl))
        all_goals first
          | omega
          | (exfalso; omega)
          | (unfold plN; rw [if_pos ⟨by omega, by omega⟩, show a.toNat = sgN s by omega]; done)
          | (unfold plE; rw [if_pos ⟨by omega, by omega⟩]; done)
          | trace_state
      · have k3 : (((sgN s : Nat) : Int) == a) = false := by rw [beq_eq_false_iff_ne]; exact hia
        have k4 : decide (a < ((sgN s : Nat) : Int)) = false := decide_eq_false (by omega)
        repeat' (first | (with_reducible first | exact fun h => h | refine ExE.row (by with_unfolding_all rfl) ?_ | refine And.intro ?_ ?_) | ((with_reducible intro hq); first | exact bne1 hq (by with_reducible assumption) | exact bne1 (by with_reducible assumption) hq | ((simp only [*, BB, cond_true, cond_false, reduceCtorEq] at hq); done) | (revert hq; with_reducible intro _)) | (with_reducible first | exact True.intro | rfl | refine EntLe.row ?_ | exact LeN.ro rfl | exact LeN.rptr | assumption) | ((with_reducible first | refine WkX.chk ?_ | refine Wk.chk ?_ | refine LeL.chk ?_ | refine LeF.chk ?_ | refine Run.mk ?_); (conv => whnf)) | ((with_reducible show LeO _ _); first | refine LeO.ro ?_ | refine LeO.roCap ?_ | refine LeO.nil ?_ (fun _ => rfl)) | ((with_reducible show LeR _ _ _); first | refine LeR.own rfl rfl rfl ?_ | refine LeR.view rfl rfl rfl ?_ ?_ | refine LeR.ro ?_ | refine LeR.roCap ?_ | refine LeR.nil ?_ (fun _ => rfl)) | ((with_reducible first | show drawOK _ _ = true | show lateOK _ _ = true | show drawOK2 _ _ = true | show drawOK3 _ _ = true); kernel_rfl))
        all_goals first
          | omega
          | (exfalso; omega)
          | (unfold plN; rw [if_neg (by omega)]; done)
          | (unfold plE; rw [if_neg (by omega)]; done)
          | trace_state
end Go.SX.Try
/- Contracts of utf's Cut (by signs), Melts. -/
namespace Go.SX.Try
open Go.Proofs Go.Proofs.Try Go.SX.Plain
set_option maxRecDepth 100000
set_option maxHeartbeats 0
set_option linter.unusedSimpArgs false
theorem con_ucut : Con prog 13 (fun ((s, f, t) : ByteArray × Int × Int) => [.v (.string s), .v (.int .i64 2), .v (.int .i64 f), .v (.int .i64 t)]) (fun (s, f, t) => .tup [.v (.string (cutT s f t)), .v (.int .i64 (cutE s f t))]) (fun (s, _, _) => s.size ≤ 1100000) := by
  refine Con.of (by kernel_rfl) T_ok CdsOK.nil (.con con_uplace (.con con_uknown .nil)) 5 [] q_ucut.1 q_ucut.2.1 q_ucut.2.2 (fun _ => rfl) fun i hs => ?_
  obtain ⟨s, f, t⟩ := i
  have hs : s.size ≤ 1100000 := hs
  have hn := sgN_le s
  have h01 : ∀ x, plE s x = 0 ∨ plE s x = 1 := fun x => by unfold plE; split <;> simp
  by_cases hc : 0 ≤ f ∧ f ≤ t ∧ t ≤ sgN s
  · have hE : cutE s f t = 0 := by unfold cutE; rw [if_pos hc]
    have hT : cutT s f t = s.extract (posS s f.toNat) (posS s t.toNat) := by unfold cutT; rw [if_pos hc]
    have p1 : plE s f = 0 := by unfold plE; rw [if_pos ⟨by omega, by omega⟩]
    have p2 : plE s t = 0 := by unfold plE; rw [if_pos ⟨by omega, by omega⟩]
    have p3 : plN s f = (posS s f.toNat : Nat) := by unfold plN; rw [if_pos ⟨by omega, by omega⟩]
    have p4 : plN s t = (posS s t.toNat : Nat) := by unfold plN; rw [if_pos ⟨by omega, by omega⟩]
    have p5 := posS_mono s (i := f.toNat) (j := t.toNat) (by omega) (by omega)
    have p6 := posS_le s t.toNat
    have b1 : (plE s f != 0) = false := by rw [p1]; rfl
    have b2 : (plE s t != 0) = false := by rw [p2]; rfl
    have b3 : (plE s f == 1) = false := by rw [p1]; rfl
    have b4 : (plE s t == 1) = false := by rw [p2]; rfl
    have b5 : decide (t < f) = false := decide_eq_false (by omega)
    repeat' (first | (with_reducible first | refine ⟨_, ⟨(.cons (.v _) .nil), ?_⟩, ?_⟩ | refine ⟨(_, _), ⟨(.cons (.v _) (.cons (.v _) (.cons (.v _) (.cons (.v _) .nil)))), ?_⟩, ?_⟩ | exact fun h => h | refine ExE.row (by with_unfolding_all rfl) ?_ | refine And.intro ?_ ?_) | ((with_reducible intro hq); first | exact bne1 hq (by with_reducible assumption) | exact bne1 (by with_reducible assumption) hq | ((simp only [*, BB, cond_true, cond_false, reduceCtorEq] at hq); done) | (revert hq; with_reducible intro _)) | (with_reducible first | exact True.intro | rfl | refine EntLe.row ?_ | exact LeN.ro rfl | exact LeN.rptr | assumption) | ((with_reducible first | refine WkX.chk ?_ | refine Wk.chk ?_ | refine LeL.chk ?_ | refine LeF.chk ?_ | refine Run.mk ?_); (conv => whnf)) | ((with_reducible show LeO _ _); first | refine LeO.ro ?_ | refine LeO.roCap ?_ | refine LeO.nil ?_ (fun _ => rfl)) | ((with_reducible show LeR _ _ _); first | refine LeR.own rfl rfl rfl ?_ | refine LeR.view rfl rfl rfl ?_ ?_ | refine LeR.ro ?_ | refine LeR.roCap ?_ | refine LeR.nil ?_ (fun _ => rfl)) | ((with_reducible first | show drawOK _ _ = true | show lateOK _ _ = true | show drawOK2 _ _ = true | show drawOK3 _ _ = true); kernel_rfl))
    all_goals (try simp only [p1, p2, p3, p4] at *)
    all_goals first
      | omega
      | (dsimp only; omega)
      | (rw [hT]; rfl)
      | (rw [hT]; simp only [Int.toNat_natCast]; done)
      | exact hE.symm
      | (simp; done)
      | trace_state
  · have hE : cutE s f t = 1 := by unfold cutE; rw [if_neg hc]
    have hT : cutT s f t = ByteArray.empty := by unfold cutT; rw [if_neg hc]
    have hbad : (plE s f == 1) = true ∨ ((plE s f == 1) = false ∧ (plE s t == 1) = true) ∨ ((plE s f == 1) = false ∧ (plE s t == 1) = false ∧ decide (t < f) = true) := by
      rcases h01 f with q1 | q1
      · rcases h01 t with q2 | q2
        · refine .inr (.inr ⟨by rw [q1]; rfl, by rw [q2]; rfl, decide_eq_true ?_⟩)
          have r1 : 0 ≤ f ∧ f ≤ sgN s := by
            unfold plE at q1; split at q1
            · assumption
            · cases q1
          have r2 : 0 ≤ t ∧ t ≤ sgN s := by
            unfold plE at q2; split at q2
            · assumption
            · cases q2
          omega
        · exact .inr (.inl ⟨by rw [q1]; rfl, by rw [q2]; rfl⟩)
      · exact .inl (by rw [q1]; rfl)
    clear h01
    rcases hbad with b1 | ⟨b1, b2⟩ | ⟨b1, b2, b3⟩
    all_goals
      repeat' (first | (with_reducible first | refine ⟨_, ⟨(.cons (.v _) .nil), ?_⟩, ?_⟩ | refine ⟨(_, _), ⟨(.cons (.v _) (.cons (.v _) (.cons (.v _) (.cons (.v _) .nil)))), ?_⟩, ?_⟩ | exact fun h => h | refine ExE.row (by with_unfolding_all rfl) ?_ | refine And.intro ?_ ?_) | ((with_reducible intro hq); first | exact bne1 hq (by with_reducible assumption) | exact bne1 (by with_reducible assumption) hq | ((simp only [*, BB, cond_true, cond_false, reduceCtorEq] at hq); done) | (revert hq; with_reducible intro _)) | (with_reducible first | exact True.intro | rfl | refine EntLe.row ?_ | exact LeN.ro rfl | exact LeN.rptr | assumption) | ((with_reducible first | refine WkX.chk ?_ | refine Wk.chk ?_ | refine LeL.chk ?_ | refine LeF.chk ?_ | refine Run.mk ?_); (conv => whnf)) | ((with_reducible show LeO _ _); first | refine LeO.ro ?_ | refine LeO.roCap ?_ | refine LeO.nil ?_ (fun _ => rfl)) | ((with_reducible show LeR _ _ _); first | refine LeR.own rfl rfl rfl ?_ | refine LeR.view rfl rfl rfl ?_ ?_ | refine LeR.ro ?_ | refine LeR.roCap ?_ | refine LeR.nil ?_ (fun _ => rfl)) | ((with_reducible first | show drawOK _ _ = true | show lateOK _ _ = true | show drawOK2 _ _ = true | show drawOK3 _ _ = true); kernel_rfl))
      all_goals first
        | exact hT.symm
        | exact hE.symm
        | (dsimp only; omega)
        | trace_state
theorem con_umelts : Con prog 57 (fun ((a, b) : ByteArray × ByteArray) => [.v (.string a), .v (.string b)]) (fun (a, b) => .sb (meltB a b)) (fun (a, b) => (a ++ b).size ≤ 1100000) := by
  refine Con.of (by kernel_rfl) T_ok CdsOK.nil (.con con_runeLen (.con con_hasPrefix (.inl (J := []) q_usigns.1 q_usigns.2.1 q_usigns.2.2 (.inl (J := [8]) q_usigns1.1 q_usigns1.2.1 q_usigns1.2.2 .nil)))) 9 [] q_umelts.1 q_umelts.2.1 q_umelts.2.2 (fun _ => rfl) fun i hs => ?_
  obtain ⟨a, b⟩ := i
  have hs : (a ++ b).size ≤ 1100000 := hs
  have hsz := app_size a b
  repeat' (first | (with_reducible first | exact fun h => h | refine ExE.row (by with_unfolding_all rfl) ?_ | refine And.intro ?_ ?_) | ((with_reducible intro hq); first | exact bne1 hq (by with_reducible assumption) | exact bne1 (by with_reducible assumption) hq | ((simp only [*, BB, cond_true, cond_false, reduceCtorEq] at hq); done) | (revert hq; with_reducible intro _)) | (with_reducible first | exact True.intro | rfl | refine EntLe.row ?_ | exact LeN.ro rfl | exact LeN.rptr | assumption) | ((with_reducible first | refine WkX.chk ?_ | refine Wk.chk ?_ | refine LeL.chk ?_ | refine LeF.chk ?_ | refine Run.mk ?_); (conv => whnf)) | ((with_reducible show LeO _ _); first | refine LeO.ro ?_ | refine LeO.roCap ?_ | refine LeO.nil ?_ (fun _ => rfl)) | ((with_reducible show LeR _ _ _); first | refine LeR.own rfl rfl rfl ?_ | refine LeR.view rfl rfl rfl ?_ ?_ | refine LeR.ro ?_ | refine LeR.roCap ?_ | refine LeR.nil ?_ (fun _ => rfl)) | ((with_reducible first | show drawOK _ _ = true | show lateOK _ _ = true | show drawOK2 _ _ = true | show drawOK3 _ _ = true); kernel_rfl))
  · omega
  refine loopI Nat [] (fun _ => []) (fun pos => [(5, .iter (a ++ b) pos)]) (fun pos => pos ≤ (a ++ b).size ∧ meltFrom a b pos = meltB a b) (fun pos => (a ++ b).size - pos) 0 ⟨Nat.zero_le _, rfl⟩ (Wk.chk ?_) fun pos hx => ?_
  · ((conv => whnf); repeat' (first | (with_reducible first | exact fun h => h | refine ExE.row (by with_unfolding_all rfl) ?_ | refine And.intro ?_ ?_) | ((with_reducible intro hq); first | exact bne1 hq (by with_reducible assumption) | exact bne1 (by with_reducible assumption) hq | ((simp only [*, BB, cond_true, cond_false, reduceCtorEq] at hq); done) | (revert hq; with_reducible intro _)) | (with_reducible first | exact True.intro | rfl | refine EntLe.row ?_ | exact LeN.ro rfl | exact LeN.rptr | assumption) | ((with_reducible first | refine WkX.chk ?_ | refine Wk.chk ?_ | refine LeL.chk ?_ | refine LeF.chk ?_ | refine Run.mk ?_); (conv => whnf)) | ((with_reducible show LeO _ _); first | refine LeO.ro ?_ | refine LeO.roCap ?_ | refine LeO.nil ?_ (fun _ => rfl)) | ((with_reducible show LeR _ _ _); first | refine LeR.own rfl rfl rfl ?_ | refine LeR.view rfl rfl rfl ?_ ?_ | refine LeR.ro ?_ | refine LeR.roCap ?_ | refine LeR.nil ?_ (fun _ => rfl)) | ((with_reducible first | show drawOK _ _ = true | show lateOK _ _ = true | show drawOK2 _ _ = true | show drawOK3 _ _ = true); kernel_rfl)))
    all_goals first
      | rfl
      | trace_state
  obtain ⟨hp1, hp2⟩ := hx
  by_cases hlt : pos < (a ++ b).size
  · have hw := width_pos (a ++ b) pos
    have hwl := width_le hlt
    have hmax := rune_max (a ++ b) pos
    have hst := melt_step hlt
    have e1 : ((pos : Nat) : Int).toNat = pos := Int.toNat_natCast _
    repeat' (first | (with_reducible first | exact fun h => h | refine ExE.row (by with_unfolding_all rfl) ?_ | refine And.intro ?_ ?_) | ((with_reducible intro hq); first | exact bne1 hq (by with_reducible assumption) | exact bne1 (by with_reducible assumption) hq | ((simp only [*, BB, cond_true, cond_false, reduceCtorEq] at hq); done) | (revert hq; with_reducible intro _)) | (with_reducible first | exact True.intro | rfl | refine EntLe.row ?_ | exact LeN.ro rfl | exact LeN.rptr | assumption) | ((with_reducible first | refine WkX.chk ?_ | refine Wk.chk ?_ | refine LeL.chk ?_ | refine LeF.chk ?_ | refine Run.mk ?_); (conv => whnf)) | ((with_reducible show LeO _ _); first | refine LeO.ro ?_ | refine LeO.roCap ?_ | refine LeO.nil ?_ (fun _ => rfl)) | ((with_reducible show LeR _ _ _); first | refine LeR.own rfl rfl rfl ?_ | refine LeR.view rfl rfl rfl ?_ ?_ | refine LeR.ro ?_ | refine LeR.roCap ?_ | refine LeR.nil ?_ (fun _ => rfl)) | ((with_reducible first | show drawOK _ _ = true | show lateOK _ _ = true | show drawOK2 _ _ = true | show drawOK3 _ _ = true); kernel_rfl))
    any_goals omega
    refine joinI Unit [] (fun _ => [(5, .v (.int .i64 ((Utf8.decode (a ++ b) pos).2 : Nat)))]) (fun _ => []) (fun _ => True) ?_ fun _ _ => ?_
    · by_cases hr : (((Utf8.decode (a ++ b) pos).1 : Nat) : Int) = 65533
      · have k1 : ((((Utf8.decode (a ++ b) pos).1 : Nat) : Int) != 65533) = false := by rw [hr]; rfl
        have hpf : (decide ((badL.size : Int) ≤ (((a ++ b).extract ((pos : Nat) : Int).toNat (a ++ b).size).size : Int)) && decide (((a ++ b).extract ((pos : Nat) : Int).toNat (a ++ b).size).extract 0 ((badL.size : Nat) : Int).toNat = badL)) = decide ((Utf8.decode (a ++ b) pos).2 = 3) := by
          rw [e1]
          exact pref_iff hlt hr
        have h13 := dec_bad hr
        rcases h13 with h13 | h13
        · have hpf := hpf.trans (show decide ((Utf8.decode (a ++ b) pos).2 = 3) = false from by rw [h13]; rfl)
          repeat' (first | (with_reducible first | refine ⟨(_, badL), ⟨(.cons (.v _) (.cons (.v _) .nil)), ?_⟩, ?_⟩ | refine ex_of () trivial ?_ | exact fun h => h | refine ExE.row (by with_unfolding_all rfl) ?_ | refine And.intro ?_ ?_) | ((with_reducible intro hq); first | exact bne1 hq (by with_reducible assumption) | exact bne1 (by with_reducible assumption) hq | ((simp only [*, BB, cond_true, cond_false, reduceCtorEq] at hq); done) | (revert hq; with_reducible intro _)) | (with_reducible first | exact True.intro | rfl | refine EntLe.row ?_ | exact LeN.ro rfl | exact LeN.rptr | assumption) | ((with_reducible first | refine WkX.chk ?_ | refine Wk.chk ?_ | refine LeL.chk ?_ | refine LeF.chk ?_ | refine Run.mk ?_); (conv => whnf)) | ((with_reducible show LeO _ _); first | refine LeO.ro ?_ | refine LeO.roCap ?_ | refine LeO.nil ?_ (fun _ => rfl)) | ((with_reducible show LeR _ _ _); first | refine LeR.own rfl rfl rfl ?_ | refine LeR.view rfl rfl rfl ?_ ?_ | refine LeR.ro ?_ | refine LeR.roCap ?_ | refine LeR.nil ?_ (fun _ => rfl)) | ((with_reducible first | show drawOK _ _ = true | show lateOK _ _ = true | show drawOK2 _ _ = true | show drawOK3 _ _ = true); kernel_rfl))
          all_goals first
            | omega
            | (rw [h13]; rfl)
            | trace_state
        · have hpf := hpf.trans (show decide ((Utf8.decode (a ++ b) pos).2 = 3) = true from by rw [h13]; rfl)
          repeat' (first | (with_reducible first | refine ⟨(_, badL), ⟨(.cons (.v _) (.cons (.v _) .nil)), ?_⟩, ?_⟩ | refine ex_of () trivial ?_ | exact fun h => h | refine ExE.row (by with_unfolding_all rfl) ?_ | refine And.intro ?_ ?_) | ((with_reducible intro hq); first | exact bne1 hq (by with_reducible assumption) | exact bne1 (by with_reducible assumption) hq | ((simp only [*, BB, cond_true, cond_false, reduceCtorEq] at hq); done) | (revert hq; with_reducible intro _)) | (with_reducible first | exact True.intro | rfl | refine EntLe.row ?_ | exact LeN.ro rfl | exact LeN.rptr | assumption) | ((with_reducible first | refine WkX.chk ?_ | refine Wk.chk ?_ | refine LeL.chk ?_ | refine LeF.chk ?_ | refine Run.mk ?_); (conv => whnf)) | ((with_reducible show LeO _ _); first | refine LeO.ro ?_ | refine LeO.roCap ?_ | refine LeO.nil ?_ (fun _ => rfl)) | ((with_reducible show LeR _ _ _); first | refine LeR.own rfl rfl rfl ?_ | refine LeR.view rfl rfl rfl ?_ ?_ | refine LeR.ro ?_ | refine LeR.roCap ?_ | refine LeR.nil ?_ (fun _ => rfl)) | ((with_reducible first | show drawOK _ _ = true | show lateOK _ _ = true | show drawOK2 _ _ = true | show drawOK3 _ _ = true); kernel_rfl))
          all_goals first
            | omega
            | (rw [h13]; rfl)
            | trace_state
      · have k1 : ((((Utf8.decode (a ++ b) pos).1 : Nat) : Int) != 65533) = true := by simpa using hr
        have hg := dec_good hr
        repeat' (first | (with_reducible first | refine ⟨(((Utf8.decode (a ++ b) pos).1 : Nat) : Int), ⟨(.cons (.v _) .nil), ?_⟩, ?_⟩ | refine ex_of () trivial ?_ | exact fun h => h | refine ExE.row (by with_unfolding_all rfl) ?_ | refine And.intro ?_ ?_) | ((with_reducible intro hq); first | exact bne1 hq (by with_reducible assumption) | exact bne1 (by with_reducible assumption) hq | ((simp only [*, BB, cond_true, cond_false, reduceCtorEq] at hq); done) | (revert hq; with_reducible intro _)) | (with_reducible first | exact True.intro | rfl | refine EntLe.row ?_ | exact LeN.ro rfl | exact LeN.rptr | assumption) | ((with_reducible first | refine WkX.chk ?_ | refine Wk.chk ?_ | refine LeL.chk ?_ | refine LeF.chk ?_ | refine Run.mk ?_); (conv => whnf)) | ((with_reducible show LeO _ _); first | refine LeO.ro ?_ | refine LeO.roCap ?_ | refine LeO.nil ?_ (fun _ => rfl)) | ((with_reducible show LeR _ _ _); first | refine LeR.own rfl rfl rfl ?_ | refine LeR.view rfl rfl rfl ?_ ?_ | refine LeR.ro ?_ | refine LeR.roCap ?_ | refine LeR.nil ?_ (fun _ => rfl)) | ((with_reducible first | show drawOK _ _ = true | show lateOK _ _ = true | show drawOK2 _ _ = true | show drawOK3 _ _ = true); kernel_rfl))
        all_goals first
          | omega
          | exact hg
          | trace_state
    cases ho : overB a b pos with
    | true =>
      have k2 : decide (((pos : Nat) : Int) < ((a.size : Nat) : Int)) = true := by
        unfold overB at ho
        rw [Bool.and_eq_true, decide_eq_true_eq, decide_eq_true_eq] at ho
        exact decide_eq_true (by omega)
      have k3 : decide (((a.size : Nat) : Int) < ((pos : Nat) : Int) + (((Utf8.decode (a ++ b) pos).2 : Nat) : Int)) = true := by
        unfold overB at ho
        rw [Bool.and_eq_true, decide_eq_true_eq, decide_eq_true_eq] at ho
        exact decide_eq_true (by omega)
      have hm : meltB a b = true := by rw [← hp2, hst, ho]; rfl
      repeat' (first | (with_reducible first | exact fun h => h | refine ExE.row (by with_unfolding_all rfl) ?_ | refine And.intro ?_ ?_) | ((with_reducible intro hq); first | exact bne1 hq (by with_reducible assumption) | exact bne1 (by with_reducible assumption) hq | ((simp only [*, BB, cond_true, cond_false, reduceCtorEq] at hq); done) | (revert hq; with_reducible intro _)) | (with_reducible first | exact True.intro | rfl | refine EntLe.row ?_ | exact LeN.ro rfl | exact LeN.rptr | assumption) | ((with_reducible first | refine WkX.chk ?_ | refine Wk.chk ?_ | refine LeL.chk ?_ | refine LeF.chk ?_ | refine Run.mk ?_); (conv => whnf)) | ((with_reducible show LeO _ _); first | refine LeO.ro ?_ | refine LeO.roCap ?_ | refine LeO.nil ?_ (fun _ => rfl)) | ((with_reducible show LeR _ _ _); first | refine LeR.own rfl rfl rfl ?_ | refine LeR.view rfl rfl rfl ?_ ?_ | refine LeR.ro ?_ | refine LeR.roCap ?_ | refine LeR.nil ?_ (fun _ => rfl)) | ((with_reducible first | show drawOK _ _ = true | show lateOK _ _ = true | show drawOK2 _ _ = true | show drawOK3 _ _ = true); kernel_rfl))
      all_goals first
        | omega
        | (apply Fits.i64 <;> omega)
        | exact hm.symm
        | trace_state
    | false =>
      have hm : meltFrom a b (pos + (Utf8.decode (a ++ b) pos).2) = meltB a b := by rw [← hp2, hst, ho]; rfl
      have k2 : (decide (((pos : Nat) : Int) < ((a.size : Nat) : Int)) && decide (((a.size : Nat) : Int) < ((pos : Nat) : Int) + (((Utf8.decode (a ++ b) pos).2 : Nat) : Int))) = false := by
        unfold overB at ho
        rw [Bool.and_eq_false_iff, decide_eq_false_iff_not, decide_eq_false_iff_not] at ho
        rw [Bool.and_eq_false_iff, decide_eq_false_iff_not, decide_eq_false_iff_not]
        omega
      repeat' (first | (with_reducible first | refine ex_of (α := Nat) (pos + (Utf8.decode (a ++ b) pos).2) ⟨⟨?_, hm⟩, ?_⟩ ?_ | exact fun h => h | refine ExE.row (by with_unfolding_all rfl) ?_ | refine And.intro ?_ ?_) | ((with_reducible intro hq); first | exact bne1 hq (by with_reducible assumption) | exact bne1 (by with_reducible assumption) hq | ((simp only [*, BB, cond_true, cond_false, reduceCtorEq] at hq); done) | (revert hq; with_reducible intro _)) | (with_reducible first | exact True.intro | rfl | refine EntLe.row ?_ | exact LeN.ro rfl | exact LeN.rptr | assumption) | ((with_reducible first | refine WkX.chk ?_ | refine Wk.chk ?_ | refine LeL.chk ?_ | refine LeF.chk ?_ | refine Run.mk ?_); (conv => whnf)) | ((with_reducible show LeO _ _); first | refine LeO.ro ?_ | refine LeO.roCap ?_ | refine LeO.nil ?_ (fun _ => rfl)) | ((with_reducible show LeR _ _ _); first | refine LeR.own rfl rfl rfl ?_ | refine LeR.view rfl rfl rfl ?_ ?_ | refine LeR.ro ?_ | refine LeR.roCap ?_ | refine LeR.nil ?_ (fun _ => rfl)) | ((with_reducible first | show drawOK _ _ = true | show lateOK _ _ = true | show drawOK2 _ _ = true | show drawOK3 _ _ = true); kernel_rfl))
      all_goals first
        | omega
        | (apply Fits.i64 <;> omega)
        | (show (a ++ b).size - (pos + (Utf8.decode (a ++ b) pos).2) < (a ++ b).size - pos; omega)
        | rfl
        | trace_state
  · have hm : meltB a b = false := by rw [← hp2]; exact melt_end hlt
    repeat' (first | (with_reducible first | exact fun h => h | refine ExE.row (by with_unfolding_all rfl) ?_ | refine And.intro ?_ ?_) | ((with_reducible intro hq); first | exact bne1 hq (by with_reducible assumption) | exact bne1 (by with_reducible assumption) hq | ((simp only [*, BB, cond_true, cond_false, reduceCtorEq] at hq); done) | (revert hq; with_reducible intro _)) | (with_reducible first | exact True.intro | rfl | refine EntLe.row ?_ | exact LeN.ro rfl | exact LeN.rptr | assumption) | ((with_reducible first | refine WkX.chk ?_ | refine Wk.chk ?_ | refine LeL.chk ?_ | refine LeF.chk ?_ | refine Run.mk ?_); (conv => whnf)) | ((with_reducible show LeO _ _); first | refine LeO.ro ?_ | refine LeO.roCap ?_ | refine LeO.nil ?_ (fun _ => rfl)) | ((with_reducible show LeR _ _ _); first | refine LeR.own rfl rfl rfl ?_ | refine LeR.view rfl rfl rfl ?_ ?_ | refine LeR.ro ?_ | refine LeR.roCap ?_ | refine LeR.nil ?_ (fun _ => rfl)) | ((with_reducible first | show drawOK _ _ = true | show lateOK _ _ = true | show drawOK2 _ _ = true | show drawOK3 _ _ = true); kernel_rfl))
    all_goals first
      | omega
      | (exfalso; omega)
      | exact hm.symm
      | trace_state
end Go.SX.Try
/- Contract of the document's Melts. -/
namespace Go.SX.Try
open Go.Proofs Go.Proofs.Try Go.SX.Plain
set_option maxRecDepth 100000
set_option maxHeartbeats 0
set_option linter.unusedSimpArgs false
end Go.SX.Try
/- Chapter 7, told plainly: runs. No program here. -/
namespace Go.SX.Plain
structure Rn where
  frm : Int
  to : Int
  at' : Atr
  deriving DecidableEq
abbrev zRn : Rn := ⟨0, 0, zA⟩
def rnNext (o : List Rn) (i : Nat) (a : Atr) : List Rn :=
  if 0 < o.length ∧ (o.getD (o.length - 1) zRn).at' = a then o.set (o.length - 1) ⟨(o.getD (o.length - 1) zRn).frm, (i : Int) + 1, (o.getD (o.length - 1) zRn).at'⟩ else o ++ [⟨i, (i : Int) + 1, a⟩]
def runsTo (l : List Atr) : Nat → List Rn
  | 0 => []
  | i + 1 => rnNext (runsTo l i) i (l.getD i zA)
def runsL (l : List Atr) : List Rn := runsTo l l.length
end Go.SX.Plain
namespace Go.SX.Plain
def atEqB (x y : Atr) : Bool := x.bold == y.bold && (x.italic == y.italic && (x.under == y.under && (x.strike == y.strike && x.colour == y.colour)))
end Go.SX.Plain
namespace Go.SX.Plain
def InAt (l : List Spn) (j : Int) (o : Option Spn) : Prop := (j = -1 ∧ o = none) ∨ (0 ≤ j ∧ j < l.length ∧ o = some (l.getD j.toNat zS))
theorem InAt.no {l : List Spn} {j : Int} {a : Atr} {o : Option Spn} {x : Spn} (h : InAt l j o) (h0 : ¬ j < 0) (hw : withinB x (l.getD j.toNat zS) = false) : colS a o x = (a, o) := by
  rcases h with ⟨h1, _⟩ | ⟨h1, h2, rfl⟩
  · omega
  · show (if _ then _ else _) = _
    rw [if_neg (by rw [hw]; decide)]
end Go.SX.Plain
/- Chapter 7, told plainly: splices. No program here. -/
namespace Go.SX.Plain
def bgn (f t n x : Int) : Int := if t ≤ x then x + (n - (t - f)) else if f < x then f + n else x
def eds (f t n x : Int) : Int := if x ≤ f then x else if t ≤ x then x + (n - (t - f)) else f
def mvS (f t n : Int) (x : Spn) : Spn := ⟨bgn f t n x.frm, eds f t n x.to, x.kind, x.val⟩
def shS (k : Int) (x : Spn) : Spn := ⟨x.frm + k, x.to + k, x.kind, x.val⟩
def posB (x : Spn) : Bool := decide (x.frm < x.to)
def outTo (g : Spn → Spn) (l : List Spn) (i : Nat) : List Spn := ((l.take i).map g).filter posB
theorem outTo_yes {g : Spn → Spn} {l : List Spn} {i : Nat} (h : i < l.length) (hp : posB (g (l.getD i zS)) = true) : outTo g l (i + 1) = outTo g l i ++ [g (l.getD i zS)] := by
  unfold outTo
  rw [← take_one l zS h, List.map_append, List.filter_append, List.map_singleton, List.filter_cons_of_pos hp]
  rfl
theorem outTo_no {g : Spn → Spn} {l : List Spn} {i : Nat} (h : i < l.length) (hp : posB (g (l.getD i zS)) = false) : outTo g l (i + 1) = outTo g l i := by
  unfold outTo
  rw [← take_one l zS h, List.map_append, List.filter_append, List.map_singleton, List.filter_cons_of_neg (by rw [hp]; decide)]
  simp
theorem outTo_len (g : Spn → Spn) (l : List Spn) (i : Nat) : (outTo g l i).length ≤ l.length := by
  unfold outTo
  refine Nat.le_trans (List.length_filter_le _ _) ?_
  rw [List.length_map, List.length_take]
  omega
def shTo (k : Int) (l : List Spn) (i : Nat) : List Spn := (l.take i).map (shS k)
theorem shTo_step {k : Int} {l : List Spn} {i : Nat} (h : i < l.length) : shTo k l (i + 1) = shTo k l i ++ [shS k (l.getD i zS)] := by
  unfold shTo
  rw [← take_one l zS h, List.map_append]
  rfl
theorem shTo_len {k : Int} {l : List Spn} {i : Nat} (h : i ≤ l.length) : (shTo k l i).length = i := by
  unfold shTo
  rw [List.length_map, List.length_take]
  omega
def frontT (s : ByteArray) (f : Int) : ByteArray := s.extract 0 (posS s f.toNat)
def restT (s : ByteArray) (t : Int) : ByteArray := s.extract (posS s t.toNat) s.size
def newT (s : ByteArray) (f t : Int) (s2 : ByteArray) : ByteArray := frontT s f ++ s2 ++ restT s t
def newL (l : List Spn) (f t : Int) (s2 : ByteArray) (l2 : List Spn) : List Spn := outTo (mvS f t (sgN s2 : Nat)) (isort ltO l) (isort ltO l).length ++ shTo f l2 l2.length
def mayB (f t n : Int) : Bool := decide (0 ≤ f) && decide (f ≤ t) && decide (t ≤ n)
def splE (s : ByteArray) (l : List Spn) (f t : Int) (s2 : ByteArray) (l2 : List Spn) : Int :=
  if chkN s.size l (sgN s : Nat) ≠ 0 then chkN s.size l (sgN s : Nat)
  else if chkN s2.size l2 (sgN s2 : Nat) ≠ 0 then chkN s2.size l2 (sgN s2 : Nat)
  else if mayB f t (sgN s : Nat) = false then 1
  else if 4096 < (newT s f t s2).size then 3
  else if meltB (frontT s f) s2 = true ∨ meltB (frontT s f ++ s2) (restT s t) = true then 22
  else if 256 < (newL l f t s2 l2).length then 2
  else 0
def splT (s : ByteArray) (l : List Spn) (f t : Int) (s2 : ByteArray) (l2 : List Spn) : ByteArray := if splE s l f t s2 l2 = 0 then newT s f t s2 else ByteArray.empty
def splL (s : ByteArray) (l : List Spn) (f t : Int) (s2 : ByteArray) (l2 : List Spn) : List Spn := if splE s l f t s2 l2 = 0 then newL l f t s2 l2 else []
theorem bgn_bd {f t n x : Int} (hf : 0 ≤ f) (hft : f ≤ t) (hn : 0 ≤ n) (hx : 0 ≤ x) : 0 ≤ bgn f t n x ∧ bgn f t n x ≤ x + n + f := by
  unfold bgn
  split
  · omega
  · split <;> omega
theorem eds_bd {f t n x : Int} (hf : 0 ≤ f) (hft : f ≤ t) (hn : 0 ≤ n) (hx : 0 ≤ x) : 0 ≤ eds f t n x ∧ eds f t n x ≤ x + n + f := by
  unfold eds
  split
  · omega
  · split <;> omega
end Go.SX.Plain
namespace Go.SX.Plain
section
variable {s : ByteArray} {l : List Spn} {f t : Int} {s2 : ByteArray} {l2 : List Spn}
theorem splE_1 (h1 : ¬ chkN s.size l (sgN s : Nat) = 0) : splE s l f t s2 l2 = chkN s.size l (sgN s : Nat) := by
  unfold splE; rw [if_pos h1]
theorem splE_2 (h1 : chkN s.size l (sgN s : Nat) = 0) (h2 : ¬ chkN s2.size l2 (sgN s2 : Nat) = 0) : splE s l f t s2 l2 = chkN s2.size l2 (sgN s2 : Nat) := by
  unfold splE; rw [if_neg (fun h => h h1), if_pos h2]
theorem splE_3 (h1 : chkN s.size l (sgN s : Nat) = 0) (h2 : chkN s2.size l2 (sgN s2 : Nat) = 0) (h3 : mayB f t (sgN s : Nat) = false) : splE s l f t s2 l2 = 1 := by
  unfold splE; rw [if_neg (fun h => h h1), if_neg (fun h => h h2), if_pos h3]
theorem splE_4 (h1 : chkN s.size l (sgN s : Nat) = 0) (h2 : chkN s2.size l2 (sgN s2 : Nat) = 0) (h3 : mayB f t (sgN s : Nat) = true) (h4 : 4096 < (newT s f t s2).size) : splE s l f t s2 l2 = 3 := by
  unfold splE; rw [if_neg (fun h => h h1), if_neg (fun h => h h2), if_neg (by rw [h3]; decide), if_pos h4]
theorem splE_5 (h1 : chkN s.size l (sgN s : Nat) = 0) (h2 : chkN s2.size l2 (sgN s2 : Nat) = 0) (h3 : mayB f t (sgN s : Nat) = true) (h4 : ¬ 4096 < (newT s f t s2).size) (h5 : meltB (frontT s f) s2 = true ∨ meltB (frontT s f ++ s2) (restT s t) = true) : splE s l f t s2 l2 = 22 := by
  unfold splE; rw [if_neg (fun h => h h1), if_neg (fun h => h h2), if_neg (by rw [h3]; decide), if_neg h4, if_pos h5]
theorem splE_6 (h1 : chkN s.size l (sgN s : Nat) = 0) (h2 : chkN s2.size l2 (sgN s2 : Nat) = 0) (h3 : mayB f t (sgN s : Nat) = true) (h4 : ¬ 4096 < (newT s f t s2).size) (h5 : meltB (frontT s f) s2 = false) (h6 : meltB (frontT s f ++ s2) (restT s t) = false) (h7 : 256 < (newL l f t s2 l2).length) : splE s l f t s2 l2 = 2 := by
  unfold splE; rw [if_neg (fun h => h h1), if_neg (fun h => h h2), if_neg (by rw [h3]; decide), if_neg h4, if_neg (by rw [h5, h6]; simp), if_pos h7]
theorem splE_7 (h1 : chkN s.size l (sgN s : Nat) = 0) (h2 : chkN s2.size l2 (sgN s2 : Nat) = 0) (h3 : mayB f t (sgN s : Nat) = true) (h4 : ¬ 4096 < (newT s f t s2).size) (h5 : meltB (frontT s f) s2 = false) (h6 : meltB (frontT s f ++ s2) (restT s t) = false) (h7 : ¬ 256 < (newL l f t s2 l2).length) : splE s l f t s2 l2 = 0 := by
  unfold splE; rw [if_neg (fun h => h h1), if_neg (fun h => h h2), if_neg (by rw [h3]; decide), if_neg h4, if_neg (by rw [h5, h6]; simp), if_neg h7]
theorem splT_no (h : ¬ splE s l f t s2 l2 = 0) : splT s l f t s2 l2 = ByteArray.empty := if_neg h
theorem splL_no (h : ¬ splE s l f t s2 l2 = 0) : splL s l f t s2 l2 = [] := if_neg h
theorem splT_yes (h : splE s l f t s2 l2 = 0) : splT s l f t s2 l2 = newT s f t s2 := if_pos h
theorem splL_yes (h : splE s l f t s2 l2 = 0) : splL s l f t s2 l2 = newL l f t s2 l2 := if_pos h
end
end Go.SX.Plain
namespace Go.SX.Plain
theorem splL_len (s : ByteArray) (l : List Spn) (f t : Int) (s2 : ByteArray) (l2 : List Spn) : (splL s l f t s2 l2).length ≤ 256 := by
  unfold splL
  split
  · rename_i h
    by_cases h7 : 256 < (newL l f t s2 l2).length
    · exfalso
      unfold splE at h
      by_cases a1 : chkN s.size l (sgN s : Nat) ≠ 0
      · rw [if_pos a1] at h; exact a1 h
      rw [if_neg a1] at h
      by_cases a2 : chkN s2.size l2 (sgN s2 : Nat) ≠ 0
      · rw [if_pos a2] at h; exact a2 h
      rw [if_neg a2] at h
      by_cases a3 : mayB f t (sgN s : Nat) = false
      · rw [if_pos a3] at h; cases h
      rw [if_neg a3] at h
      by_cases a4 : 4096 < (newT s f t s2).size
      · rw [if_pos a4] at h; cases h
      rw [if_neg a4] at h
      by_cases a5 : meltB (frontT s f) s2 = true ∨ meltB (frontT s f ++ s2) (restT s t) = true
      · rw [if_pos a5] at h; cases h
      rw [if_neg a5, if_pos h7] at h
      cases h
    · omega
  · simp
end Go.SX.Plain
/- A verified symbolic executor for Go code in the model: a nil slice in a box is told as a row that may grow. -/
namespace Go.SX
open Go.RowKit
section
variable {base : Nat} {w0 : Start} {w : World} {E : Env} {stk : List Fr} {gs : List (Array Value)} {m : Mem}
theorem SatM.retell (h : SatM base w0 E stk gs m w) {id b : Nat} {e e' : Ent} (hm : (id, e) ∈ m) (hb : blk (E.h id) = some b) (he : EntR base w E id e') : SatM base w0 E stk gs (setE id e' m) w :=
  h.turn hm hb rfl rfl rfl rfl (fun _ _ => rfl) he
end
def adoptS (A : Sta) (b k : Nat) {α : Type} (C : Cdc α) (e : Nat) (cs : List AV) (t : Nat) : Sta := match A with
  | ⟨fr, stk, m, nx⟩ => ⟨fr, stk, setE b (.box (cs.set k (.own nx)) t) ((nx, .row C [] e none) :: m), nx + 1⟩
theorem Wk.adopt {T : Tys} {A : Sta} {b k : Nat} {α : Type} {C : Cdc α} {e : Nat} (hC : CdOK T e ⟨α, C⟩) {cs : List AV} {t : Nat} (hlt : b < A.nx) (he : getE A.m b = some (.box cs t)) (hk : cs[k]? = some (.v (.slice none 0 0))) :
    Wk A (adoptS A b k C e cs t) := ⟨fun base w0 E gs tm w hnx hS => by
  obtain ⟨fr, stk, m, nx⟩ := A
  obtain ⟨s1, r1⟩ := hS.newNil hnx.fresh hC
  have hne : ¬ nx = b := fun h => by
    have : b < nx := hlt
    omega
  have hm : (b, Ent.box cs t) ∈ (nx, Ent.row C [] e none) :: m := List.mem_cons_of_mem _ (mem_of_getE he)
  obtain ⟨hid, ⟨bb, vs, h1, h2, h3⟩, _⟩ := s1.ents _ _ hm
  refine ⟨_, hnx.add _, s1.retell hm (b := bb) (by rw [h1]; rfl) ⟨bb, vs, h1, h2, ?_⟩⟩
  obtain ⟨hl, hr⟩ := h3
  have hkl : k < cs.length := by
    rcases Nat.lt_or_ge k cs.length with h | h
    · exact h
    · rw [List.getElem?_eq_none h] at hk; cases hk
  have hkv : cs[k] = .v (.slice none 0 0) := by
    rw [List.getElem?_eq_getElem hkl] at hk
    exact Option.some.inj hk
  refine ⟨by rw [List.length_set]; exact hl, fun i h4 h5 => ?_⟩
  rw [List.getElem_set]
  split
  · rename_i hki
    subst hki
    have := hr k hkl h5
    rw [hkv] at this
    rw [this.v_inv]
    exact r1
  · exact hr i (by simpa using h4) h5⟩
theorem loopA {T : Tys} {A : Sta} {ds : List Nat} {G : (ι : Type) → (ι → Sta) → (ι → Prop) → (ι → Nat) → ι → Prop} (b k : Nat) {α : Type} (C : Cdc α) (e : Nat) (hC : CdOK T e ⟨α, C⟩) {cs : List AV} {t : Nat} (hlt : Nat.ble (b + 1) A.nx = true) (he : getE A.m b = some (.box cs t)) (hk : cs[k]? = some (.v (.slice none 0 0)))
    (ι : Type) (xs : List Nat) (F : ι → Fr) (M : ι → Mem) (I : ι → Prop) (μ : ι → Nat) (i0 : ι) (h0 : I i0) (hw : Wk (adoptS A b k C e cs t) (genS (adoptS A b k C e cs t) (xs ++ ds) (F i0) (M i0)))
    (hr : ∀ i, I i → Run (G ι (fun i => genS (adoptS A b k C e cs t) (xs ++ ds) (F i) (M i)) I μ i)) : ∃ (ι : Type) (S : ι → Sta) (I : ι → Prop) (μ : ι → Nat), Base A ds ∧ (∃ i, I i ∧ Wk A (S i)) ∧ ∀ i, I i → Run (G ι S I μ i) :=
  ⟨ι, _, I, μ, ⟨⟩, ⟨i0, h0, (Wk.adopt hC (Nat.le_of_ble_eq_true hlt) he hk).trans hw⟩, hr⟩
end Go.SX
/- A verified symbolic executor for Go code in the model: contracts that hand out an own row, nil also. -/
namespace Go.SX
open Go.RowKit
inductive IsRow (m : Mem) {α : Type} (C : Cdc α) (l : List α) (t : Nat) : AV → Prop
  | own {n : Nat} {l' : List α} {cap : Option Nat} (he : getE m n = some (.row C l' t cap)) (hl : l' = l) : IsRow m C l t (.own n)
  | nil (hs : ∀ x, (C.enc x).length = C.size) (h0 : 0 < C.size) (hl : l = []) : IsRow m C l t (.v (.slice none 0 0))
section
variable {P : Program}
end
end Go.SX
/- A verified symbolic executor for Go code in the model: an own row that nobody writes any more; what was lent is told as lent. -/
namespace Go.SX
open Go.RowKit
section
variable {base : Nat} {w0 : Start} {w : World} {E : Env} {stk : List Fr} {gs : List (Array Value)} {m : Mem}
theorem delE_ne {n : Nat} : ∀ {m : Mem}, (m.map (·.1)).Nodup → ∀ {id : Nat} {x : Ent}, (id, x) ∈ delE n m → id ≠ n
  | [], _, _, _, h => by cases h
  | (k, y) :: r, hn, id, x, h => by
    simp only [delE] at h
    rw [List.map_cons, List.nodup_cons] at hn
    cases hb : Nat.beq k n with
    | true =>
      simp only [hb] at h
      obtain rfl := Nat.eq_of_beq_eq_true hb
      exact fun e => hn.1 (by rw [← e]; exact List.mem_map_of_mem (f := (·.1)) h)
    | false =>
      simp only [hb] at h
      rcases List.mem_cons.1 h with heq | hm
      · cases heq
        exact fun e => by subst e; simp at hb
      · exact delE_ne hn.2 hm
theorem SatM.freezeRel (h : SatM base w0 E stk gs m w) {n : Nat} {α : Type} {C : Cdc α} {l : List α} {t : Nat} {cap : Option Nat} (d : α) (hm : (n, Ent.row C l t cap) ∈ m) (he : getE m n = some (.row C l t cap)) : Rel w { E with imm := fun b => E.imm b ∨ blk (E.h n) = some b } (.ro C.size C.enc d l none) (E.h n) := by
  obtain ⟨hid, hent, hblk⟩ := h.ents _ _ hm
  obtain ⟨hs, h0, ⟨xs, hown, hrl⟩, hcap⟩ := hent
  have h2 : ∀ {v : Value}, Rel w E (.view n C.size 0 l.length) v → Rel w { E with imm := fun b => E.imm b ∨ blk (E.h n) = some b } (.ro C.size C.enc d ((l.drop 0).take l.length) none) v :=
    fun hr => view_rel h he rfl rfl (by simp) hr (z := false) (fun g hg => .inl (.inr hg)) (fun _ h => .inl h)
  rw [List.drop_zero, List.take_length] at h2
  rcases hown.2 with ⟨hv, hn0⟩ | ⟨g, cc, cur, hv, hbg, hg, hnc, hcm, hcs, htake⟩
  · rw [hv] at h2 ⊢
    rw [hn0] at h2
    exact h2 (by simpa using Rel.view (w := w) (size := C.size) (lo := 0) (n := 0) hid hv (Nat.le_refl _) (fun h => by omega))
  · rw [hv] at h2 ⊢
    exact h2 (by simpa using Rel.view (w := w) (size := C.size) (lo := 0) (n := l.length) (A' := some ⟨g, 0, none⟩) hid hv (by omega) (fun _ => by simp [Addr.add]))
theorem SatM.freezeTurns (h : SatM base w0 E stk gs m w) {n : Nat} {α : Type} {C : Cdc α} {l : List α} {t : Nat} {cap : Option Nat} (d : α) (hm : (n, Ent.row C l t cap) ∈ m) : Turns n E { E with imm := fun b => E.imm b ∨ blk (E.h n) = some b } w w := by
  obtain ⟨hid, hent, hblk⟩ := h.ents _ _ hm
  have hsl : ∃ A k c, E.h n = .slice A k c := by
    obtain ⟨_, _, ⟨xs, ho, _⟩, _⟩ := hent
    rcases ho.2 with ⟨hv, _⟩ | ⟨g, c, cur, hv, _⟩
    · exact ⟨_, _, _, hv⟩
    · exact ⟨_, _, _, hv⟩
  refine ⟨fun _ _ _ => rfl, fun b hb => ?_, fun _ h => h, fun _ h => .inl h, fun _ h => h, fun _ _ => rfl⟩
  obtain ⟨A, k, c, hs⟩ := hsl
  rw [hs] at hb
  cases hb
theorem SatM.freeze (h : SatM base w0 E stk gs m w) {n : Nat} {α : Type} {C : Cdc α} {l : List α} {t : Nat} {cap : Option Nat} (d : α) (hm : (n, Ent.row C l t cap) ∈ m) (he : getE m n = some (.row C l t cap)) :
    SatM base w0 { E with imm := fun b => E.imm b ∨ blk (E.h n) = some b } (stk.map (subF n (.ro C.size C.enc d l none))) gs (subM n (.ro C.size C.enc d l none) (delE n m)) w := by
  obtain ⟨hid, hent, hblk⟩ := h.ents _ _ hm
  have hz := h.freezeRel d hm he
  have g := h.freezeTurns d hm
  have hmem : ∀ {id : Nat} {e : Ent}, (id, e) ∈ subM n (.ro C.size C.enc d l none) (delE n m) → ∃ y, (id, y) ∈ m ∧ e = y.sub n (.ro C.size C.enc d l none) ∧ id ≠ n := fun he' => by
    obtain ⟨y, hy, rfl⟩ := mem_subM he'
    exact ⟨y, (delE_sub n m).subset hy, rfl, delE_ne h.nodup hy⟩
  refine ⟨h.below, h.hb, fun b hb => ?_, ⟨fun b hb => .inl (h.keep.1 b hb), fun b hb => ?_, h.keep.2.2⟩, h.same, fun id e he' => ?_, ?_, by rw [List.length_map]; exact h.len, fun k h1 h2 => ?_⟩
  · rcases hb with hb | hb
    · exact h.imm b hb
    · exact (hblk b hb).2.2
  · rcases hb with hb | hb
    · exact h.keep.2.1 b hb
    · exact .inr (hblk b hb).1
  · obtain ⟨y, hy, rfl, hne⟩ := hmem he'
    obtain ⟨a1, a2, a3⟩ := h.ents _ _ hy
    refine ⟨a1, a2.sub g (fun _ => hz) a1 hne fun _ _ => rfl, fun b hb => ?_⟩
    obtain ⟨b1, b2, b3⟩ := a3 b hb
    exact ⟨b1, fun hc => hc.elim b2 fun hc => h.apart hm hy (Ne.symm hne) hc hb, b3⟩
  · rw [disj_names, subM_names]
    exact (disj_names.1 h.disj).sublist ((delE_sub n m).map _)
  · have hk : k < stk.length := by rw [List.length_map] at h1; exact h1
    rw [List.getElem_map]
    exact (h.stk k hk h2).sub g fun _ => hz
end
def freS (A : Sta) (n : Nat) {α : Type} (C : Cdc α) (d : α) (l : List α) : Sta := match A with
  | ⟨fr, stk, m, nx⟩ => ⟨subF n (.ro C.size C.enc d l none) fr, stk.map (subF n (.ro C.size C.enc d l none)), subM n (.ro C.size C.enc d l none) (delE n m), nx⟩
theorem Wk.freeze {A : Sta} {n : Nat} {α : Type} {C : Cdc α} {l : List α} {t : Nat} {cap : Option Nat} (d : α) (he : getE A.m n = some (.row C l t cap)) : Wk A (freS A n C d l) := ⟨fun base w0 E gs tm w hnx hS => by
  obtain ⟨fr, stk, m, nx⟩ := A
  exact ⟨{ E with imm := fun b => E.imm b ∨ blk (E.h n) = some b }, hnx, hS.freeze d (mem_of_getE he) he⟩⟩
end Go.SX
/- A verified symbolic executor for Go code in the model: contracts whose result holds a new row of the caller's own. -/
namespace Go.SX
open Go.RowKit
def delO : Option Nat → Mem → Mem
  | some n, m => delE n m
  | none, m => m
theorem delO_sub (o : Option Nat) (m : Mem) : (delO o m).Sublist m := by
  cases o with
  | none => exact List.Sublist.refl _
  | some n => exact delE_sub n m
inductive RX (m : Mem) (o : Option Nat) : AV → (Nat → AV) → Prop
  | own {id : Nat} (h : o = some id) : RX m o (.own id) (fun n => .own n)
  | nil (h : o = none) : RX m o (.v (.slice none 0 0)) (fun n => .own n)
  | fro {a b : AV} (h : LeF (delO o m) a b) : RX m o a (fun _ => b)
  | agg {l : List AV} {R : Nat → List AV} (hl : ∀ n, l.length = (R n).length) (h : ∀ (i : Nat) (h1 : i < l.length), RX m o l[i] (fun n => (R n)[i]'(by rw [← hl n]; exact h1))) : RX m o (.agg l) (fun n => .agg (R n))
  | tup {l : List AV} {R : Nat → List AV} (hl : ∀ n, l.length = (R n).length) (h : ∀ (i : Nat) (h1 : i < l.length), RX m o l[i] (fun n => (R n)[i]'(by rw [← hl n]; exact h1))) : RX m o (.tup l) (fun n => .tup (R n))
structure RXL (m : Mem) (o : Option Nat) (l : List AV) (R : Nat → List AV) : Prop where
  hl : ∀ n, l.length = (R n).length
  h : ∀ (i : Nat) (h1 : i < l.length), RX m o l[i] (fun n => (R n)[i]'(by rw [← hl n]; exact h1))
theorem RXL.nil {m : Mem} {o : Option Nat} : RXL m o [] (fun _ => []) := ⟨fun _ => rfl, fun i h1 => by simp at h1⟩
theorem RXL.cons {m : Mem} {o : Option Nat} {a : AV} {l : List AV} {r : Nat → AV} {R : Nat → List AV} (h : RX m o a r) (hl : RXL m o l R) : RXL m o (a :: l) (fun n => r n :: R n) :=
  ⟨fun n => by simp [hl.hl n], fun i h1 => by
    cases i with
    | zero => exact h
    | succ i => exact hl.h i (by simpa using h1)⟩
theorem RX.aggL {m : Mem} {o : Option Nat} {l : List AV} {R : Nat → List AV} (h : RXL m o l R) : RX m o (.agg l) (fun n => .agg (R n)) := .agg h.hl h.h
theorem RX.tupL {m : Mem} {o : Option Nat} {l : List AV} {R : Nat → List AV} (h : RXL m o l R) : RX m o (.tup l) (fun n => .tup (R n)) := .tup h.hl h.h
def hOf (E : Env) : Option Nat → Value
  | some n => E.h n
  | none => .slice none 0 0
theorem RX.rel {m : Mem} {o : Option Nat} {a : AV} {r : Nat → AV} (h : RX m o a r) {base : Nat} {w0 : Start} {stk : List Fr} {gs : List (Array Value)} {w : World} {E E' : Env} (hS : SatM base w0 E stk gs m w) {n : Nat} (hn : E'.dom n) (hh : E'.h n = hOf E o) (hi : ∀ b, E.fro (delO o m) b → E'.imm b) : ∀ {v : Value}, Rel w E a v → Rel w E' (r n) v := by
  induction h with
  | own h =>
    subst h
    intro v hr
    cases hr with
    | own h1 h2 => rw [← show E'.h n = E.h _ from hh] at h2 ⊢; exact .own hn h2
  | nil h =>
    subst h
    intro v hr
    cases hr
    have hh : E'.h n = .slice none 0 0 := hh
    have := Rel.own (w := w) (E := E') (id := n) hn ⟨_, _, _, hh⟩
    rwa [hh] at this
  | fro h =>
    intro v hr
    exact (h.out _ _ _ _ _ _ _ (hS.less (delO_sub o m)) hr).mono ⟨fun _ h => False.elim h, fun _ h => False.elim h, hi, fun _ h => False.elim h, fun _ _ => rfl⟩
  | @agg l R hl _ ih =>
    intro v hr
    cases hr with
    | agg hz hx => exact .agg ((hl n).symm.trans hz) fun i h1 h2 => ih i (by rw [hl n]; exact h1) (hx i (by rw [hl n]; exact h1) h2)
  | @tup l R hl _ ih =>
    intro v hr
    cases hr with
    | tup hz hx => exact .tup ((hl n).symm.trans hz) fun i h1 h2 => ih i (by rw [hl n]; exact h1) (hx i (by rw [hl n]; exact h1) h2)
structure ConX (P : Program) (f : Nat) {ι α : Type} (A : ι → List AV) (R : ι → Nat → AV) (C : Cdc α) (L : ι → List α) (t : Nat) (pre : ι → Prop) : Prop where
  bodied : Bodied P f
  calls : ∀ i, pre i → ∀ (w : World) (imm : Nat → Prop) (vs : Array Value), (∀ b, imm b → b < w.heap.size) → RelL w (Env.arg imm w.heap.size) (A i) vs.toList → CallsIn Fence.wide 0 P f vs w fun
    | .returned v, w' => ∃ imm', (∀ b, imm b → imm' b) ∧ (∀ b, imm' b → imm b ∨ w.heap.size ≤ b) ∧ (∀ b, imm' b → b < w'.heap.size) ∧ Below w.heap.size w w' ∧
        ∃ u, OwnV w.heap.size w' imm' C (L i) t u ∧ ∀ (E : Env) (n : Nat), E.dom n → E.h n = u → (∀ b, imm' b → E.imm b) → Rel w' E (R i n) v
    | _, _ => False
def conxS {ι α : Type} (A : ι → List AV) (R : ι → Nat → AV) (C : Cdc α) (L : ι → List α) (t : Nat) (pre : ι → Prop) : List AV → Fr → List Fr → Mem → Nat → KO → Prop := fun args fr stk m nx K => ∃ i, (LeAL m args (A i) ∧ pre i) ∧ Run (force (R i nx) fun x => K x fr stk ((nx, .row C (L i) t none) :: m) (nx + 1))
inductive IsX (m : Mem) {α : Type} (C : Cdc α) (l : List α) (t : Nat) (R : Nat → AV) (x : AV) : Prop
  | mk {n : Nat} {l' : List α} {cap : Option Nat} (he : getE m n = some (.row C l' t cap)) (hl : l' = l) (hx : RX m (some n) x R)
  | nil (hs : ∀ x, (C.enc x).length = C.size) (h0 : 0 < C.size) (hl : l = []) (hx : RX m none x R)
section
variable {P : Program}
theorem ConX.spec {f : Nat} {ι α : Type} {A : ι → List AV} {R : ι → Nat → AV} {C : Cdc α} {L : ι → List α} {t : Nat} {pre : ι → Prop} (h : ConX P f A R C L t pre) : SpecOK P f (conxS A R C L t pre) := by
  rintro args fr stk m nx K ⟨i, ⟨hle, hpre⟩, hk⟩ base w0 E gs w tm vs hnx hS hr
  refine ⟨h.bodied, CallsIn.mono (h.calls i hpre w E.imm vs hS.imm (hle.rel hS hr)) fun e w' he => ?_⟩
  cases e with
  | returned v =>
    obtain ⟨imm', h1, h2, h3, h4, u, h5, h6⟩ := he
    obtain ⟨s1, s2⟩ := hS.newOwn h4 h1 h2 h3 (n := nx) (fun hd => by have := hnx _ hd; omega) h5
    have hk := hk.out
    rw [force_eq] at hk
    exact ⟨R i nx, fr, stk, _, _, nx + 1, hk, fun id hd => by rcases hd with hd | hd; · omega
                                                              · have := hnx _ hd; omega, s1, h6 _ _ (.inl rfl) (Env.add_h _ _ _) fun _ h => h⟩
  | panicked c => exact he.elim
  | outgrown => exact he.elim
theorem ConX.of (hmo : P.follows .mixedOrders = true) {T : Tys} (hT : TysOK P T) {D : Cds} (hD : CdsOK T D) {G : Gam} (hG : GamOK P G) (k : Nat) (J : List Nat) {f : Nat} {fn : Func} {code : Code} (h1 : P.funcs[f]? = some fn) (h2 : fn.body = some code) (h3 : (fn.name == "runtime.NumGoroutine") = false)
    {ι α : Type} {A : ι → List AV} {R : ι → Nat → AV} {C : Cdc α} {L : ι → List α} {t : Nat} {pre : ι → Prop} (hlen : ∀ i, Nat.ble (A i).length fn.ntmps = true)
    (h : ∀ i, pre i → Run (argsK (A i) 0 fun f0 => cwp ⟨T, D, G, (callX T D G k).2, (callX T D G k).1, J, fn.ntmps, none⟩ code [] f0 [[]] [] 0 fun e df f2 s2 m2 nx2 => retK T fn e df f2 s2 m2 nx2 fun x _ _ m _ => IsX m C (L i) t (R i) x)) :
    ConX P f A R C L t pre := by
  obtain ⟨hF, hH⟩ := callX_ok hmo hT hD hG k
  refine ⟨⟨fn, code, h1, h2, h3⟩, fun i hi w imm vs himm hr => ?_⟩
  have hi := (h i hi).out
  rw [argsK_eq] at hi
  have hS : SatM w.heap.size ⟨w, imm⟩ (Env.arg imm w.heap.size) [[]] [#[]] [] w := ⟨Below.refl _ _, Nat.le_refl _, himm, ⟨fun _ h => h, fun _ h => .inl h, fun _ h => h⟩, fun _ _ => rfl, fun id e he => by simp at he, .nil, rfl, fun i h1 h2 => by
    have : i = 0 := by simp at h1; omega
    subst this
    exact fun t => .junk _⟩
  refine CallsIn.mono (inline_ok hmo (c := ⟨T, D, G, (callX T D G k).2, (callX T D G k).1, J, fn.ntmps, none⟩) hG.cons' hT hD (hH none) hF rfl h1 h2 rfl (Nat.le_of_ble_eq_true (hlen i)) hi (fun id hd => False.elim hd) hS hr) fun e w' he => ?_
  cases e with
  | returned v =>
    obtain ⟨x, fr', stk', m', E', nx', hk, hnx', hS', hx⟩ := he
    have hfro : ∀ o b, E'.fro (delO o m') b → imm b ∨ w.heap.size ≤ b := fun o b hb => by
      rcases hb with hb | ⟨id, e, hm, hb⟩
      · exact hS'.keep.2.1 b hb
      · exact .inr ((hS'.ents id e ((delO_sub o m').subset hm)).2.2 b hb).1
    have hfro2 : ∀ o b, E'.fro (delO o m') b → b < w'.heap.size := fun o b hb => by
      rcases hb with hb | ⟨id, e, hm, hb⟩
      · exact hS'.imm b hb
      · exact ((hS'.ents id e ((delO_sub o m').subset hm)).2.2 b hb).2.2
    have gi : ∀ o, Goes E'.bare (Env.of (E'.fro (delO o m'))) w' w' := fun o => ⟨fun _ h => False.elim h, fun _ h => False.elim h, fun _ h => .inl h, fun _ h => False.elim h, fun _ _ => rfl⟩
    rcases hk with ⟨he, hl, hrx⟩ | ⟨hs, h0, hl, hrx⟩
    · rename_i n l' cap
      subst hl
      have hm := mem_of_getE he
      obtain ⟨hid, ⟨hs, h0, ⟨xs, hown, hrl⟩, hcap⟩, hblk⟩ := hS'.ents _ _ hm
      refine ⟨E'.fro (delO (some n) m'), fun b hb => .inl (hS'.keep.1 b hb), hfro _, hfro2 _, hS'.below, E'.h n, ⟨hs, h0, ⟨xs, hown, hrl.mono (gi _)⟩, fun b hb => ⟨(hblk b hb).1, fun hc => ?_, (hblk b hb).2.2⟩⟩, fun E n' hd hh hi => hrx.rel hS' hd hh hi hx⟩
      rcases hc with hc | ⟨id, e, hm2, hc⟩
      · exact (hblk b hb).2.1 hc
      · exact hS'.apart hm ((delE_sub n m').subset hm2) (Ne.symm (delE_ne hS'.nodup hm2)) hb hc
    · exact ⟨E'.fro (delO none m'), fun b hb => .inl (hS'.keep.1 b hb), hfro _, hfro2 _, hS'.below, .slice none 0 0, ⟨hs, h0, ⟨[], ⟨by rw [hl]; simp, .inl ⟨rfl, by rw [hl]; rfl⟩⟩, by rw [hl]; exact RelL.nil _ _⟩, fun b hb => by cases hb⟩, fun E n' hd hh hi => hrx.rel hS' hd hh hi hx⟩
  | panicked c => exact he.elim
  | outgrown => exact he.elim
theorem GamOK.conx {f : Nat} {ι α : Type} {A : ι → List AV} {R : ι → Nat → AV} {C : Cdc α} {L : ι → List α} {t : Nat} {pre : ι → Prop} {l : Gam} (h : ConX P f A R C L t pre) (hl : GamOK P l) : GamOK P ((f, .spec (conxS A R C L t pre)) :: l) := .spec h.spec hl
theorem ConX.cod {f : Nat} {ι α : Type} {A : ι → List AV} {R : ι → Nat → AV} {C C' : Cdc α} {L : ι → List α} {t : Nat} {pre : ι → Prop} (h : ConX P f A R C L t pre) (hs : C'.size = C.size) (he : C'.enc = C.enc) : ConX P f A R C' L t pre := by
  refine ⟨h.bodied, fun i hi w imm vs himm hr => CallsIn.mono (h.calls i hi w imm vs himm hr) fun e w' hw => ?_⟩
  cases e with
  | returned v =>
    obtain ⟨imm', h1, h2, h3, h4, u, ⟨o1, o2, o3, o4⟩, h6⟩ := hw
    exact ⟨imm', h1, h2, h3, h4, u, ⟨by rw [hs, he]; exact o1, by rw [hs]; exact o2, by rw [hs, he]; exact o3, o4⟩, h6⟩
  | panicked c => exact hw.elim
  | outgrown => exact hw.elim
theorem ConX.con {f : Nat} {ι α : Type} {A : ι → List AV} {R : ι → Nat → AV} {R' : ι → AV} {C : Cdc α} {L : ι → List α} {t : Nat} {pre : ι → Prop} (h : ConX P f A R C L t pre) (hR : ∀ i, LeF [] (AV.sub 0 (.ro C.size C.enc C.d (L i) none) (R i 0)) (R' i)) : Con P f A R' pre := by
  refine ⟨h.bodied, fun i hi w imm vs himm hr => CallsIn.mono (h.calls i hi w imm vs himm hr) fun e w' he => ?_⟩
  cases e with
  | returned v =>
    obtain ⟨imm', h1, h2, h3, h4, u, h5, h6⟩ := he
    have hS : SatM w.heap.size ⟨w, imm⟩ (Env.arg imm w.heap.size) [[]] [#[]] [] w := ⟨Below.refl _ _, Nat.le_refl _, himm, ⟨fun _ h => h, fun _ h => .inl h, fun _ h => h⟩, fun _ _ => rfl, fun id e he => by simp at he, .nil, rfl, fun i h1 h2 => by
      have : i = 0 := by simp at h1; omega
      subst this
      exact fun t => .junk _⟩
    obtain ⟨s1, s2⟩ := hS.newOwn h4 h1 h2 h3 (n := 0) (fun hd => hd) h5
    have hv := h6 (Env.add { Env.arg imm w.heap.size with imm := imm' } 0 u) 0 (.inl rfl) (Env.add_h _ _ _) fun _ h => h
    have hm : ((0 : Nat), Ent.row C (L i) t none) ∈ [((0 : Nat), Ent.row C (L i) t none)] := List.mem_cons_self
    have hf := s1.freeze C.d hm rfl
    have hz := s1.freezeRel C.d hm rfl
    have hv2 := hv.sub (s1.freezeTurns C.d hm) fun _ => hz
    have hv3 := (hR i).out _ _ _ _ _ _ _ (hf.less (List.nil_sublist _)) hv2
    refine ⟨_, fun b hb => .inl (.inl (h1 b hb)), fun b hb => ?_, fun b hb => ?_, h4, hv3⟩
    · rcases hb with (hb | hb) | ⟨_, _, hb, _⟩
      · exact h2 b hb
      · rw [Env.add_h] at hb; exact .inr (h5.blk b hb).1
      · cases hb
    · rcases hb with (hb | hb) | ⟨_, _, hb, _⟩
      · exact h3 b hb
      · rw [Env.add_h] at hb; exact (h5.blk b hb).2.2
      · cases hb
  | panicked c => exact he.elim
  | outgrown => exact he.elim
end
end Go.SX
/- Contract of style.Splice. -/
namespace Go.SX.Try
open Go.Proofs Go.Proofs.Try Go.SX.Plain
set_option maxRecDepth 100000
set_option maxHeartbeats 0
set_option linter.unusedSimpArgs false
theorem q_ssplice : fact 42 f42 := ⟨by kernel_rfl, rfl, by kernel_rfl⟩
theorem conx_ssplice : ConX prog 42 (fun ((s, l, f, t, s2, l2) : ByteArray × List Spn × Int × Int × ByteArray × List Spn) => [txAV s l, .v (.int .i64 f), .v (.int .i64 t), txAV s2 l2])
    (fun (s, l, f, t, s2, l2) n => .tup [.agg [.v (.string (splT s l f t s2 l2)), .own n], .v (.int .i64 (splE s l f t s2 l2))]) C_spn (fun (s, l, f, t, s2, l2) => splL s l f t s2 l2) 50 (fun _ => True) := by
  refine ConX.of (by kernel_rfl) T_ok D_spn_ok (.con con_scheck (.con con_ucut (.con con_uplace (.con con_umelts (.con con_ucount (.con con_souter .nil)))))) 3 [13, 29, 32] q_ssplice.1 q_ssplice.2.1 q_ssplice.2.2 (fun _ => rfl) fun i _ => ?_
  obtain ⟨s, l, f, t, s2, l2⟩ := i
  repeat' (first | ((with_reducible show IsX _ _ _ _ _ _); first | (refine IsX.mk (by with_unfolding_all exact rfl) ?_ (RX.tupL (.cons (RX.aggL (.cons (.fro ?_) (.cons (.own rfl) .nil))) (.cons (.fro ?_) .nil)))) | (refine IsX.nil (fun _ => rfl) (by decide) ?_ (RX.tupL (.cons (RX.aggL (.cons (.fro ?_) (.cons (.nil rfl) .nil))) (.cons (.fro ?_) .nil))))) | (with_reducible first | exact fun h => h | refine ExE.row (by with_unfolding_all rfl) ?_ | refine And.intro ?_ ?_) | ((with_reducible intro hq); first | exact bne1 hq (by with_reducible assumption) | exact bne1 (by with_reducible assumption) hq | ((simp only [*, BB, cond_true, cond_false, reduceCtorEq] at hq); done) | (revert hq; with_reducible intro _)) | (with_reducible first | exact True.intro | rfl | refine EntLe.row ?_ | exact LeN.ro rfl | exact LeN.rptr | assumption) | ((with_reducible first | refine WkX.chk ?_ | refine Wk.chk ?_ | refine LeL.chk ?_ | refine LeF.chk ?_ | refine Run.mk ?_); (conv => whnf)) | ((with_reducible show LeO _ _); first | refine LeO.ro ?_ | refine LeO.roCap ?_ | refine LeO.nil ?_ (fun _ => rfl)) | ((with_reducible show LeR _ _ _); first | refine LeR.own rfl rfl rfl ?_ | refine LeR.view rfl rfl rfl ?_ ?_ | refine LeR.ro ?_ | refine LeR.roCap ?_ | refine LeR.nil ?_ (fun _ => rfl)) | ((with_reducible first | show drawOK _ _ = true | show lateOK _ _ = true | show drawOK2 _ _ = true | show drawOK3 _ _ = true); kernel_rfl))
  refine loopI Nat [] (fun i => [(30, .v (.int .i64 (i : Nat)))]) (fun _ => []) (fun i => i ≤ 2 ∧ (1 ≤ i → chkN s.size l (sgN s : Nat) = 0) ∧ (2 ≤ i → chkN s2.size l2 (sgN s2 : Nat) = 0)) (fun i => 2 - i) 0 ⟨by omega, by omega, by omega⟩ (Wk.chk ?_) fun i hx => ?_
  · ((conv => whnf); repeat' (first | (with_reducible first | exact fun h => h | refine ExE.row (by with_unfolding_all rfl) ?_ | refine And.intro ?_ ?_) | ((with_reducible intro hq); first | exact bne1 hq (by with_reducible assumption) | exact bne1 (by with_reducible assumption) hq | ((simp only [*, BB, cond_true, cond_false, reduceCtorEq] at hq); done) | (revert hq; with_reducible intro _)) | (with_reducible first | exact True.intro | rfl | refine EntLe.row ?_ | exact LeN.ro rfl | exact LeN.rptr | assumption) | ((with_reducible first | refine WkX.chk ?_ | refine Wk.chk ?_ | refine LeL.chk ?_ | refine LeF.chk ?_ | refine Run.mk ?_); (conv => whnf)) | ((with_reducible show LeO _ _); first | refine LeO.ro ?_ | refine LeO.roCap ?_ | refine LeO.nil ?_ (fun _ => rfl)) | ((with_reducible show LeR _ _ _); first | refine LeR.own rfl rfl rfl ?_ | refine LeR.view rfl rfl rfl ?_ ?_ | refine LeR.ro ?_ | refine LeR.roCap ?_ | refine LeR.nil ?_ (fun _ => rfl)) | ((with_reducible first | show drawOK _ _ = true | show lateOK _ _ = true | show drawOK2 _ _ = true | show drawOK3 _ _ = true); kernel_rfl)))
    all_goals rfl
  obtain ⟨hi, hc1, hc2⟩ := hx
  obtain rfl | rfl | rfl : i = 0 ∨ i = 1 ∨ i = 2 := by omega
  · have kb : decide (((0 : Nat) : Int) < ((2 : Nat) : Int)) = true := rfl
    by_cases h1 : chkN s.size l (sgN s : Nat) = 0
    · have k1 : (chkN s.size l (sgN s : Nat) != 0) = false := by rw [h1]; rfl
      repeat' (first | ((with_reducible show IsX _ _ _ _ _ _); first | (refine IsX.mk (by with_unfolding_all exact rfl) ?_ (RX.tupL (.cons (RX.aggL (.cons (.fro ?_) (.cons (.own rfl) .nil))) (.cons (.fro ?_) .nil)))) | (refine IsX.nil (fun _ => rfl) (by decide) ?_ (RX.tupL (.cons (RX.aggL (.cons (.fro ?_) (.cons (.nil rfl) .nil))) (.cons (.fro ?_) .nil))))) | (with_reducible first | refine ⟨(s, l), ⟨(.cons (.agg (.cons (.v _) (.cons (.lent _ _ _ _ _ _) .nil))) .nil), ?_⟩, ?_⟩ | refine ex_of (α := Nat) 1 ⟨⟨?_, fun _ => h1, ?_⟩, ?_⟩ ?_ | exact fun h => h | refine ExE.row (by with_unfolding_all rfl) ?_ | refine And.intro ?_ ?_) | ((with_reducible intro hq); first | exact bne1 hq (by with_reducible assumption) | exact bne1 (by with_reducible assumption) hq | ((simp only [*, BB, cond_true, cond_false, reduceCtorEq] at hq); done) | (revert hq; with_reducible intro _)) | (with_reducible first | exact True.intro | rfl | refine EntLe.row ?_ | exact LeN.ro rfl | exact LeN.rptr | assumption) | ((with_reducible first | refine WkX.chk ?_ | refine Wk.chk ?_ | refine LeL.chk ?_ | refine LeF.chk ?_ | refine Run.mk ?_); (conv => whnf)) | ((with_reducible show LeO _ _); first | refine LeO.ro ?_ | refine LeO.roCap ?_ | refine LeO.nil ?_ (fun _ => rfl)) | ((with_reducible show LeR _ _ _); first | refine LeR.own rfl rfl rfl ?_ | refine LeR.view rfl rfl rfl ?_ ?_ | refine LeR.ro ?_ | refine LeR.roCap ?_ | refine LeR.nil ?_ (fun _ => rfl)) | ((with_reducible first | show drawOK _ _ = true | show lateOK _ _ = true | show drawOK2 _ _ = true | show drawOK3 _ _ = true); kernel_rfl))
      all_goals first
        | omega
        | rfl
        | (apply Fits.i64 <;> omega)
        | decide
        | trace_state
    · have k1 : (chkN s.size l (sgN s : Nat) != 0) = true := by simpa using h1
      have hE := splE_1 (f := f) (t := t) (s2 := s2) (l2 := l2) h1
      have hT := splT_no (s := s) (l := l) (f := f) (t := t) (s2 := s2) (l2 := l2) (by rw [hE]; exact h1)
      have hL := splL_no (s := s) (l := l) (f := f) (t := t) (s2 := s2) (l2 := l2) (by rw [hE]; exact h1)
      repeat' (first | ((with_reducible show IsX _ _ _ _ _ _); first | (refine IsX.mk (by with_unfolding_all exact rfl) ?_ (RX.tupL (.cons (RX.aggL (.cons (.fro ?_) (.cons (.own rfl) .nil))) (.cons (.fro ?_) .nil)))) | (refine IsX.nil (fun _ => rfl) (by decide) ?_ (RX.tupL (.cons (RX.aggL (.cons (.fro ?_) (.cons (.nil rfl) .nil))) (.cons (.fro ?_) .nil))))) | (with_reducible first | refine ⟨(s, l), ⟨(.cons (.agg (.cons (.v _) (.cons (.lent _ _ _ _ _ _) .nil))) .nil), ?_⟩, ?_⟩ | exact fun h => h | refine ExE.row (by with_unfolding_all rfl) ?_ | refine And.intro ?_ ?_) | ((with_reducible intro hq); first | exact bne1 hq (by with_reducible assumption) | exact bne1 (by with_reducible assumption) hq | ((simp only [*, BB, cond_true, cond_false, reduceCtorEq] at hq); done) | (revert hq; with_reducible intro _)) | (with_reducible first | exact True.intro | rfl | refine EntLe.row ?_ | exact LeN.ro rfl | exact LeN.rptr | assumption) | ((with_reducible first | refine WkX.chk ?_ | refine Wk.chk ?_ | refine LeL.chk ?_ | refine LeF.chk ?_ | refine Run.mk ?_); (conv => whnf)) | ((with_reducible show LeO _ _); first | refine LeO.ro ?_ | refine LeO.roCap ?_ | refine LeO.nil ?_ (fun _ => rfl)) | ((with_reducible show LeR _ _ _); first | refine LeR.own rfl rfl rfl ?_ | refine LeR.view rfl rfl rfl ?_ ?_ | refine LeR.ro ?_ | refine LeR.roCap ?_ | refine LeR.nil ?_ (fun _ => rfl)) | ((with_reducible first | show drawOK _ _ = true | show lateOK _ _ = true | show drawOK2 _ _ = true | show drawOK3 _ _ = true); kernel_rfl))
      all_goals first
        | exact hE.symm
        | exact hT.symm
        | exact hL.symm
        | decide
        | trace_state
  · have kb : decide (((1 : Nat) : Int) < ((2 : Nat) : Int)) = true := rfl
    have h1 := hc1 (Nat.le_refl _)
    by_cases h2 : chkN s2.size l2 (sgN s2 : Nat) = 0
    · have k1 : (chkN s2.size l2 (sgN s2 : Nat) != 0) = false := by rw [h2]; rfl
      repeat' (first | ((with_reducible show IsX _ _ _ _ _ _); first | (refine IsX.mk (by with_unfolding_all exact rfl) ?_ (RX.tupL (.cons (RX.aggL (.cons (.fro ?_) (.cons (.own rfl) .nil))) (.cons (.fro ?_) .nil)))) | (refine IsX.nil (fun _ => rfl) (by decide) ?_ (RX.tupL (.cons (RX.aggL (.cons (.fro ?_) (.cons (.nil rfl) .nil))) (.cons (.fro ?_) .nil))))) | (with_reducible first | refine ⟨(s2, l2), ⟨(.cons (.agg (.cons (.v _) (.cons (.lent _ _ _ _ _ _) .nil))) .nil), ?_⟩, ?_⟩ | refine ex_of (α := Nat) 2 ⟨⟨?_, fun _ => h1, fun _ => h2⟩, ?_⟩ ?_ | exact fun h => h | refine ExE.row (by with_unfolding_all rfl) ?_ | refine And.intro ?_ ?_) | ((with_reducible intro hq); first | exact bne1 hq (by with_reducible assumption) | exact bne1 (by with_reducible assumption) hq | ((simp only [*, BB, cond_true, cond_false, reduceCtorEq] at hq); done) | (revert hq; with_reducible intro _)) | (with_reducible first | exact True.intro | rfl | refine EntLe.row ?_ | exact LeN.ro rfl | exact LeN.rptr | assumption) | ((with_reducible first | refine WkX.chk ?_ | refine Wk.chk ?_ | refine LeL.chk ?_ | refine LeF.chk ?_ | refine Run.mk ?_); (conv => whnf)) | ((with_reducible show LeO _ _); first | refine LeO.ro ?_ | refine LeO.roCap ?_ | refine LeO.nil ?_ (fun _ => rfl)) | ((with_reducible show LeR _ _ _); first | refine LeR.own rfl rfl rfl ?_ | refine LeR.view rfl rfl rfl ?_ ?_ | refine LeR.ro ?_ | refine LeR.roCap ?_ | refine LeR.nil ?_ (fun _ => rfl)) | ((with_reducible first | show drawOK _ _ = true | show lateOK _ _ = true | show drawOK2 _ _ = true | show drawOK3 _ _ = true); kernel_rfl))
      all_goals first
        | omega
        | rfl
        | (apply Fits.i64 <;> omega)
        | decide
        | trace_state
    · have k1 : (chkN s2.size l2 (sgN s2 : Nat) != 0) = true := by simpa using h2
      have hE := splE_2 (f := f) (t := t) h1 h2
      have hT := splT_no (s := s) (l := l) (f := f) (t := t) (s2 := s2) (l2 := l2) (by rw [hE]; exact h2)
      have hL := splL_no (s := s) (l := l) (f := f) (t := t) (s2 := s2) (l2 := l2) (by rw [hE]; exact h2)
      repeat' (first | ((with_reducible show IsX _ _ _ _ _ _); first | (refine IsX.mk (by with_unfolding_all exact rfl) ?_ (RX.tupL (.cons (RX.aggL (.cons (.fro ?_) (.cons (.own rfl) .nil))) (.cons (.fro ?_) .nil)))) | (refine IsX.nil (fun _ => rfl) (by decide) ?_ (RX.tupL (.cons (RX.aggL (.cons (.fro ?_) (.cons (.nil rfl) .nil))) (.cons (.fro ?_) .nil))))) | (with_reducible first | refine ⟨(s2, l2), ⟨(.cons (.agg (.cons (.v _) (.cons (.lent _ _ _ _ _ _) .nil))) .nil), ?_⟩, ?_⟩ | exact fun h => h | refine ExE.row (by with_unfolding_all rfl) ?_ | refine And.intro ?_ ?_) | ((with_reducible intro hq); first | exact bne1 hq (by with_reducible assumption) | exact bne1 (by with_reducible assumption) hq | ((simp only [*, BB, cond_true, cond_false, reduceCtorEq] at hq); done) | (revert hq; with_reducible intro _)) | (with_reducible first | exact True.intro | rfl | refine EntLe.row ?_ | exact LeN.ro rfl | exact LeN.rptr | assumption) | ((with_reducible first | refine WkX.chk ?_ | refine Wk.chk ?_ | refine LeL.chk ?_ | refine LeF.chk ?_ | refine Run.mk ?_); (conv => whnf)) | ((with_reducible show LeO _ _); first | refine LeO.ro ?_ | refine LeO.roCap ?_ | refine LeO.nil ?_ (fun _ => rfl)) | ((with_reducible show LeR _ _ _); first | refine LeR.own rfl rfl rfl ?_ | refine LeR.view rfl rfl rfl ?_ ?_ | refine LeR.ro ?_ | refine LeR.roCap ?_ | refine LeR.nil ?_ (fun _ => rfl)) | ((with_reducible first | show drawOK _ _ = true | show lateOK _ _ = true | show drawOK2 _ _ = true | show drawOK3 _ _ = true); kernel_rfl))
      all_goals first
        | exact hE.symm
        | exact hT.symm
        | exact hL.symm
        | decide
        | trace_state
  have kb : decide (((2 : Nat) : Int) < ((2 : Nat) : Int)) = false := rfl
  have h1 := hc1 (by omega)
  have h2 := hc2 (by omega)
  clear hc1 hc2
  have ok1 := OkT.of h1
  have ok2 := OkT.of h2
  have hs := ok1.size
  have hs2 := ok2.size
  have hn := sgN_le s
  have hn2 := sgN_le s2
  by_cases hm : 0 ≤ f ∧ f ≤ t ∧ t ≤ sgN s
  case neg =>
    have h3 : mayB f t (sgN s : Nat) = false := by
      unfold mayB
      rw [Bool.eq_false_iff]
      simp only [ne_eq, Bool.and_eq_true, decide_eq_true_eq]
      omega
    have hE := splE_3 h1 h2 h3
    have hT := splT_no (s := s) (l := l) (f := f) (t := t) (s2 := s2) (l2 := l2) (by rw [hE]; decide)
    have hL := splL_no (s := s) (l := l) (f := f) (t := t) (s2 := s2) (l2 := l2) (by rw [hE]; decide)
    have hce : cutE s f t = 1 := by unfold cutE; rw [if_neg hm]
    have k1 : (cutE s f t != 0) = true := by rw [hce]; rfl
    repeat' (first | ((with_reducible show IsX _ _ _ _ _ _); first | (refine IsX.mk (by with_unfolding_all exact rfl) ?_ (RX.tupL (.cons (RX.aggL (.cons (.fro ?_) (.cons (.own rfl) .nil))) (.cons (.fro ?_) .nil)))) | (refine IsX.nil (fun _ => rfl) (by decide) ?_ (RX.tupL (.cons (RX.aggL (.cons (.fro ?_) (.cons (.nil rfl) .nil))) (.cons (.fro ?_) .nil))))) | (with_reducible first | refine ⟨(_, _, _), ⟨(.cons (.v _) (.cons (.v _) (.cons (.v _) (.cons (.v _) .nil)))), ?_⟩, ?_⟩ | exact fun h => h | refine ExE.row (by with_unfolding_all rfl) ?_ | refine And.intro ?_ ?_) | ((with_reducible intro hq); first | exact bne1 hq (by with_reducible assumption) | exact bne1 (by with_reducible assumption) hq | ((simp only [*, BB, cond_true, cond_false, reduceCtorEq] at hq); done) | (revert hq; with_reducible intro _)) | (with_reducible first | exact True.intro | rfl | refine EntLe.row ?_ | exact LeN.ro rfl | exact LeN.rptr | assumption) | ((with_reducible first | refine WkX.chk ?_ | refine Wk.chk ?_ | refine LeL.chk ?_ | refine LeF.chk ?_ | refine Run.mk ?_); (conv => whnf)) | ((with_reducible show LeO _ _); first | refine LeO.ro ?_ | refine LeO.roCap ?_ | refine LeO.nil ?_ (fun _ => rfl)) | ((with_reducible show LeR _ _ _); first | refine LeR.own rfl rfl rfl ?_ | refine LeR.view rfl rfl rfl ?_ ?_ | refine LeR.ro ?_ | refine LeR.roCap ?_ | refine LeR.nil ?_ (fun _ => rfl)) | ((with_reducible first | show drawOK _ _ = true | show lateOK _ _ = true | show drawOK2 _ _ = true | show drawOK3 _ _ = true); kernel_rfl))
    all_goals first
      | (dsimp only; omega)
      | exact hE.symm
      | exact hT.symm
      | exact hL.symm
      | trace_state
  have h3 : mayB f t (sgN s : Nat) = true := by
    unfold mayB
    simp only [Bool.and_eq_true, decide_eq_true_eq]
    omega
  have hce : cutE s f t = 0 := by unfold cutE; rw [if_pos hm]
  have k1 : (cutE s f t != 0) = false := by rw [hce]; rfl
  have hct : cutT s f t = s.extract (posS s f.toNat) (posS s t.toNat) := by unfold cutT; rw [if_pos hm]
  have hpn : plN s f = (posS s f.toNat : Nat) := by unfold plN; rw [if_pos ⟨by omega, by omega⟩]
  have p5 := posS_mono s (i := f.toNat) (j := t.toNat) (by omega) (by omega)
  have p6 := posS_le s t.toNat
  have hcs : (cutT s f t).size = posS s t.toNat - posS s f.toNat := by rw [hct]; exact size_extract' p6
  have hfs : (frontT s f).size = posS s f.toNat := by unfold frontT; rw [size_extract' (by omega)]; omega
  have hrs : (restT s t).size = s.size - posS s t.toNat := by unfold restT; exact size_extract' (Nat.le_refl _)
  have hnsz : (newT s f t s2).size = (frontT s f).size + s2.size + (restT s t).size := by unfold newT; rw [app_size, app_size]
  have hfsz : (frontT s f ++ s2).size = (frontT s f).size + s2.size := app_size _ _
  have e1 : (plN s f + ((cutT s f t).size : Int)).toNat = posS s t.toNat := by rw [hpn, hcs]; omega
  have e2 : (plN s f).toNat = posS s f.toNat := by rw [hpn]; omega
  repeat' (first | ((with_reducible show IsX _ _ _ _ _ _); first | (refine IsX.mk (by with_unfolding_all exact rfl) ?_ (RX.tupL (.cons (RX.aggL (.cons (.fro ?_) (.cons (.own rfl) .nil))) (.cons (.fro ?_) .nil)))) | (refine IsX.nil (fun _ => rfl) (by decide) ?_ (RX.tupL (.cons (RX.aggL (.cons (.fro ?_) (.cons (.nil rfl) .nil))) (.cons (.fro ?_) .nil))))) | (with_reducible first | refine ⟨(_, _, _), ⟨(.cons (.v _) (.cons (.v _) (.cons (.v _) (.cons (.v _) .nil)))), ?_⟩, ?_⟩ | refine ⟨(_, _), ⟨(.cons (.v _) (.cons (.v _) (.cons (.v _) (.cons (.v _) .nil)))), ?_⟩, ?_⟩ | exact fun h => h | refine ExE.row (by with_unfolding_all rfl) ?_ | refine And.intro ?_ ?_) | ((with_reducible intro hq); first | exact bne1 hq (by with_reducible assumption) | exact bne1 (by with_reducible assumption) hq | ((simp only [*, BB, cond_true, cond_false, reduceCtorEq] at hq); done) | (revert hq; with_reducible intro _)) | (with_reducible first | exact True.intro | rfl | refine EntLe.row ?_ | exact LeN.ro rfl | exact LeN.rptr | assumption) | ((with_reducible first | refine WkX.chk ?_ | refine Wk.chk ?_ | refine LeL.chk ?_ | refine LeF.chk ?_ | refine Run.mk ?_); (conv => whnf)) | ((with_reducible show LeO _ _); first | refine LeO.ro ?_ | refine LeO.roCap ?_ | refine LeO.nil ?_ (fun _ => rfl)) | ((with_reducible show LeR _ _ _); first | refine LeR.own rfl rfl rfl ?_ | refine LeR.view rfl rfl rfl ?_ ?_ | refine LeR.ro ?_ | refine LeR.roCap ?_ | refine LeR.nil ?_ (fun _ => rfl)) | ((with_reducible first | show drawOK _ _ = true | show lateOK _ _ = true | show drawOK2 _ _ = true | show drawOK3 _ _ = true); kernel_rfl))
  all_goals (try (dsimp only; omega))
  refine joinI Unit [] (fun _ => [(17, .v (.string (frontT s f))), (18, .v (.string (restT s t)))]) (fun _ => []) (fun _ => True) ?_ fun _ _ => ?_
  · repeat' (first | ((with_reducible show IsX _ _ _ _ _ _); first | (refine IsX.mk (by with_unfolding_all exact rfl) ?_ (RX.tupL (.cons (RX.aggL (.cons (.fro ?_) (.cons (.own rfl) .nil))) (.cons (.fro ?_) .nil)))) | (refine IsX.nil (fun _ => rfl) (by decide) ?_ (RX.tupL (.cons (RX.aggL (.cons (.fro ?_) (.cons (.nil rfl) .nil))) (.cons (.fro ?_) .nil))))) | (with_reducible first | refine ex_of () trivial ?_ | exact fun h => h | refine ExE.row (by with_unfolding_all rfl) ?_ | refine And.intro ?_ ?_) | ((with_reducible intro hq); first | exact bne1 hq (by with_reducible assumption) | exact bne1 (by with_reducible assumption) hq | ((simp only [*, BB, cond_true, cond_false, reduceCtorEq] at hq); done) | (revert hq; with_reducible intro _)) | (with_reducible first | exact True.intro | rfl | refine EntLe.row ?_ | exact LeN.ro rfl | exact LeN.rptr | assumption) | ((with_reducible first | refine WkX.chk ?_ | refine Wk.chk ?_ | refine LeL.chk ?_ | refine LeF.chk ?_ | refine Run.mk ?_); (conv => whnf)) | ((with_reducible show LeO _ _); first | refine LeO.ro ?_ | refine LeO.roCap ?_ | refine LeO.nil ?_ (fun _ => rfl)) | ((with_reducible show LeR _ _ _); first | refine LeR.own rfl rfl rfl ?_ | refine LeR.view rfl rfl rfl ?_ ?_ | refine LeR.ro ?_ | refine LeR.roCap ?_ | refine LeR.nil ?_ (fun _ => rfl)) | ((with_reducible first | show drawOK _ _ = true | show lateOK _ _ = true | show drawOK2 _ _ = true | show drawOK3 _ _ = true); kernel_rfl))
    all_goals first
      | (rw [e2]; rfl)
      | (rw [e1]; rfl)
      | (rw [hpn, hcs]; apply Fits.i64 <;> omega)
      | (rw [hpn, hcs]; omega)
      | (rw [hpn]; omega)
      | trace_state
  have hF : Hid (newT s f t s2 = frontT s f ++ s2 ++ restT s t) := ⟨rfl⟩
  clear e1 e2 hcs hct hpn hce
  by_cases h4 : 4096 < (newT s f t s2).size
  · have hE := splE_4 (l := l) (l2 := l2) h1 h2 h3 h4
    have hT := splT_no (s := s) (l := l) (f := f) (t := t) (s2 := s2) (l2 := l2) (by rw [hE]; decide)
    have hL := splL_no (s := s) (l := l) (f := f) (t := t) (s2 := s2) (l2 := l2) (by rw [hE]; decide)
    have k2 : decide ((4096 : Int) < ((frontT s f).size : Int) + (s2.size : Int) + ((restT s t).size : Int)) = true := decide_eq_true (by omega)
    repeat' (first | ((with_reducible show IsX _ _ _ _ _ _); first | (refine IsX.mk (by with_unfolding_all exact rfl) ?_ (RX.tupL (.cons (RX.aggL (.cons (.fro ?_) (.cons (.own rfl) .nil))) (.cons (.fro ?_) .nil)))) | (refine IsX.nil (fun _ => rfl) (by decide) ?_ (RX.tupL (.cons (RX.aggL (.cons (.fro ?_) (.cons (.nil rfl) .nil))) (.cons (.fro ?_) .nil))))) | (with_reducible first | exact fun h => h | refine ExE.row (by with_unfolding_all rfl) ?_ | refine And.intro ?_ ?_) | ((with_reducible intro hq); first | exact bne1 hq (by with_reducible assumption) | exact bne1 (by with_reducible assumption) hq | ((simp only [*, BB, cond_true, cond_false, reduceCtorEq] at hq); done) | (revert hq; with_reducible intro _)) | (with_reducible first | exact True.intro | rfl | refine EntLe.row ?_ | exact LeN.ro rfl | exact LeN.rptr | assumption) | ((with_reducible first | refine WkX.chk ?_ | refine Wk.chk ?_ | refine LeL.chk ?_ | refine LeF.chk ?_ | refine Run.mk ?_); (conv => whnf)) | ((with_reducible show LeO _ _); first | refine LeO.ro ?_ | refine LeO.roCap ?_ | refine LeO.nil ?_ (fun _ => rfl)) | ((with_reducible show LeR _ _ _); first | refine LeR.own rfl rfl rfl ?_ | refine LeR.view rfl rfl rfl ?_ ?_ | refine LeR.ro ?_ | refine LeR.roCap ?_ | refine LeR.nil ?_ (fun _ => rfl)) | ((with_reducible first | show drawOK _ _ = true | show lateOK _ _ = true | show drawOK2 _ _ = true | show drawOK3 _ _ = true); kernel_rfl))
    all_goals first
      | (apply Fits.i64 <;> omega)
      | exact hE.symm
      | exact hT.symm
      | exact hL.symm
      | trace_state
  have k2 : decide ((4096 : Int) < ((frontT s f).size : Int) + (s2.size : Int) + ((restT s t).size : Int)) = false := decide_eq_false (by omega)
  have hw2 : (frontT s f ++ s2 ++ restT s t).size = (newT s f t s2).size := rfl
  have hfl : (frontT s f).size + s2.size + (restT s t).size ≤ 4096 := by omega
  have hms := Bool.eq_false_or_eq_true (meltB (frontT s f) s2)
  rcases hms with h5 | h5
  · have hE := splE_5 (l := l) (l2 := l2) h1 h2 h3 h4 (.inl h5)
    have hT := splT_no (s := s) (l := l) (f := f) (t := t) (s2 := s2) (l2 := l2) (by rw [hE]; decide)
    have hL := splL_no (s := s) (l := l) (f := f) (t := t) (s2 := s2) (l2 := l2) (by rw [hE]; decide)
    repeat' (first | ((with_reducible show IsX _ _ _ _ _ _); first | (refine IsX.mk (by with_unfolding_all exact rfl) ?_ (RX.tupL (.cons (RX.aggL (.cons (.fro ?_) (.cons (.own rfl) .nil))) (.cons (.fro ?_) .nil)))) | (refine IsX.nil (fun _ => rfl) (by decide) ?_ (RX.tupL (.cons (RX.aggL (.cons (.fro ?_) (.cons (.nil rfl) .nil))) (.cons (.fro ?_) .nil))))) | (with_reducible first | refine ⟨(_, _), ⟨(.cons (.v _) (.cons (.v _) .nil)), ?_⟩, ?_⟩ | exact fun h => h | refine ExE.row (by with_unfolding_all rfl) ?_ | refine And.intro ?_ ?_) | ((with_reducible intro hq); first | exact bne1 hq (by with_reducible assumption) | exact bne1 (by with_reducible assumption) hq | ((simp only [*, BB, cond_true, cond_false, reduceCtorEq] at hq); done) | (revert hq; with_reducible intro _)) | (with_reducible first | exact True.intro | rfl | refine EntLe.row ?_ | exact LeN.ro rfl | exact LeN.rptr | assumption) | ((with_reducible first | refine WkX.chk ?_ | refine Wk.chk ?_ | refine LeL.chk ?_ | refine LeF.chk ?_ | refine Run.mk ?_); (conv => whnf)) | ((with_reducible show LeO _ _); first | refine LeO.ro ?_ | refine LeO.roCap ?_ | refine LeO.nil ?_ (fun _ => rfl)) | ((with_reducible show LeR _ _ _); first | refine LeR.own rfl rfl rfl ?_ | refine LeR.view rfl rfl rfl ?_ ?_ | refine LeR.ro ?_ | refine LeR.roCap ?_ | refine LeR.nil ?_ (fun _ => rfl)) | ((with_reducible first | show drawOK _ _ = true | show lateOK _ _ = true | show drawOK2 _ _ = true | show drawOK3 _ _ = true); kernel_rfl))
    all_goals first
      | omega
      | (apply Fits.i64 <;> omega)
      | (dsimp only; omega)
      | exact hE.symm
      | exact hT.symm
      | exact hL.symm
      | trace_state
  have hms := Bool.eq_false_or_eq_true (meltB (frontT s f ++ s2) (restT s t))
  rcases hms with h6 | h6
  · have hE := splE_5 (l := l) (l2 := l2) h1 h2 h3 h4 (.inr h6)
    have hT := splT_no (s := s) (l := l) (f := f) (t := t) (s2 := s2) (l2 := l2) (by rw [hE]; decide)
    have hL := splL_no (s := s) (l := l) (f := f) (t := t) (s2 := s2) (l2 := l2) (by rw [hE]; decide)
    repeat' (first | ((with_reducible show IsX _ _ _ _ _ _); first | (refine IsX.mk (by with_unfolding_all exact rfl) ?_ (RX.tupL (.cons (RX.aggL (.cons (.fro ?_) (.cons (.own rfl) .nil))) (.cons (.fro ?_) .nil)))) | (refine IsX.nil (fun _ => rfl) (by decide) ?_ (RX.tupL (.cons (RX.aggL (.cons (.fro ?_) (.cons (.nil rfl) .nil))) (.cons (.fro ?_) .nil))))) | (with_reducible first | refine ⟨(_, _), ⟨(.cons (.v _) (.cons (.v _) .nil)), ?_⟩, ?_⟩ | exact fun h => h | refine ExE.row (by with_unfolding_all rfl) ?_ | refine And.intro ?_ ?_) | ((with_reducible intro hq); first | exact bne1 hq (by with_reducible assumption) | exact bne1 (by with_reducible assumption) hq | ((simp only [*, BB, cond_true, cond_false, reduceCtorEq] at hq); done) | (revert hq; with_reducible intro _)) | (with_reducible first | exact True.intro | rfl | refine EntLe.row ?_ | exact LeN.ro rfl | exact LeN.rptr | assumption) | ((with_reducible first | refine WkX.chk ?_ | refine Wk.chk ?_ | refine LeL.chk ?_ | refine LeF.chk ?_ | refine Run.mk ?_); (conv => whnf)) | ((with_reducible show LeO _ _); first | refine LeO.ro ?_ | refine LeO.roCap ?_ | refine LeO.nil ?_ (fun _ => rfl)) | ((with_reducible show LeR _ _ _); first | refine LeR.own rfl rfl rfl ?_ | refine LeR.view rfl rfl rfl ?_ ?_ | refine LeR.ro ?_ | refine LeR.roCap ?_ | refine LeR.nil ?_ (fun _ => rfl)) | ((with_reducible first | show drawOK _ _ = true | show lateOK _ _ = true | show drawOK2 _ _ = true | show drawOK3 _ _ = true); kernel_rfl))
    all_goals first
      | omega
      | (apply Fits.i64 <;> omega)
      | (dsimp only; omega)
      | exact hE.symm
      | exact hT.symm
      | exact hL.symm
      | trace_state
  have hLl : (isort ltO l).length = l.length := isort_len l
  have hl := ok1.len
  have hl2 := ok2.len
  have hd : C_spn.d = zS := rfl
  repeat' (first | ((with_reducible show IsX _ _ _ _ _ _); first | (refine IsX.mk (by with_unfolding_all exact rfl) ?_ (RX.tupL (.cons (RX.aggL (.cons (.fro ?_) (.cons (.own rfl) .nil))) (.cons (.fro ?_) .nil)))) | (refine IsX.nil (fun _ => rfl) (by decide) ?_ (RX.tupL (.cons (RX.aggL (.cons (.fro ?_) (.cons (.nil rfl) .nil))) (.cons (.fro ?_) .nil))))) | (with_reducible first | refine ⟨(_, _), ⟨(.cons (.v _) (.cons (.v _) .nil)), ?_⟩, ?_⟩ | refine ⟨_, ⟨(.cons (.v _) .nil), ?_⟩, ?_⟩ | refine ⟨(s, l), ⟨(.cons (.agg (.cons (.v _) (.cons (.lent _ _ _ _ _ _) .nil))) .nil), ?_⟩, ?_⟩ | exact fun h => h | refine ExE.row (by with_unfolding_all rfl) ?_ | refine And.intro ?_ ?_) | ((with_reducible intro hq); first | exact bne1 hq (by with_reducible assumption) | exact bne1 (by with_reducible assumption) hq | ((simp only [*, BB, cond_true, cond_false, reduceCtorEq] at hq); done) | (revert hq; with_reducible intro _)) | (with_reducible first | exact True.intro | rfl | refine EntLe.row ?_ | exact LeN.ro rfl | exact LeN.rptr | assumption) | ((with_reducible first | refine WkX.chk ?_ | refine Wk.chk ?_ | refine LeL.chk ?_ | refine LeF.chk ?_ | refine Run.mk ?_); (conv => whnf)) | ((with_reducible show LeO _ _); first | refine LeO.ro ?_ | refine LeO.roCap ?_ | refine LeO.nil ?_ (fun _ => rfl)) | ((with_reducible show LeR _ _ _); first | refine LeR.own rfl rfl rfl ?_ | refine LeR.view rfl rfl rfl ?_ ?_ | refine LeR.ro ?_ | refine LeR.roCap ?_ | refine LeR.nil ?_ (fun _ => rfl)) | ((with_reducible first | show drawOK _ _ = true | show lateOK _ _ = true | show drawOK2 _ _ = true | show drawOK3 _ _ = true); kernel_rfl))
  all_goals (try first | omega | (apply Fits.i64 <;> omega) | (dsimp only; omega))
  have hin := (spans_in ok1.spans).isort
  have hin2 := spans_in ok2.spans
  have hg : ∀ x, mvS f t (sgN s2 : Nat) x = mvS f t (sgN s2 : Nat) x := fun _ => rfl
  refine loopA 4 1 C_spn 50 (T := T) ⟨fun _ => rfl, by decide, _, rfl, rfl, by decide⟩ (by rfl) (by with_unfolding_all exact rfl) (by with_unfolding_all exact rfl) Nat [] (fun i => [(112, .v (.int .i64 (i : Nat)))]) (fun i => [(5, .row C_spn (outTo (mvS f t (sgN s2 : Nat)) (isort ltO l) i) 50 none)]) (fun i => i ≤ (isort ltO l).length) (fun i => (isort ltO l).length - i) 0 (Nat.zero_le _) (Wk.chk ?_) fun i hi => ?_
  · ((conv => whnf); repeat' (first | (with_reducible first | exact fun h => h | refine ExE.row (by with_unfolding_all rfl) ?_ | refine And.intro ?_ ?_) | ((with_reducible intro hq); first | exact bne1 hq (by with_reducible assumption) | exact bne1 (by with_reducible assumption) hq | ((simp only [*, BB, cond_true, cond_false, reduceCtorEq] at hq); done) | (revert hq; with_reducible intro _)) | (with_reducible first | exact True.intro | rfl | refine EntLe.row ?_ | exact LeN.ro rfl | exact LeN.rptr | assumption) | ((with_reducible first | refine WkX.chk ?_ | refine Wk.chk ?_ | refine LeL.chk ?_ | refine LeF.chk ?_ | refine Run.mk ?_); (conv => whnf)) | ((with_reducible show LeO _ _); first | refine LeO.ro ?_ | refine LeO.roCap ?_ | refine LeO.nil ?_ (fun _ => rfl)) | ((with_reducible show LeR _ _ _); first | refine LeR.own rfl rfl rfl ?_ | refine LeR.view rfl rfl rfl ?_ ?_ | refine LeR.ro ?_ | refine LeR.roCap ?_ | refine LeR.nil ?_ (fun _ => rfl)) | ((with_reducible first | show drawOK _ _ = true | show lateOK _ _ = true | show drawOK2 _ _ = true | show drawOK3 _ _ = true); kernel_rfl)))
    all_goals first
      | rfl
      | trace_state
  have hi : i ≤ (isort ltO l).length := hi
  have e1 : ((i : Int)).toNat = i := Int.toNat_natCast _
  have hol := outTo_len (mvS f t (sgN s2 : Nat)) (isort ltO l) i
  by_cases hil : i < (isort ltO l).length
  · have hlt : decide ((i : Int) < ((isort ltO l).length : Int)) = true := decide_eq_true (by omega)
    have hxb := hin.at hil
    have hoy := outTo_yes (g := mvS f t (sgN s2 : Nat)) hil
    have hon := outTo_no (g := mvS f t (sgN s2 : Nat)) hil
    have hxe : ∃ x, x = (isort ltO l).getD i zS := ⟨_, rfl⟩
    obtain ⟨x, hx⟩ := hxe
    rw [← hx] at hxb hoy hon
    have hxx : (isort ltO l).getD ((i : Int)).toNat C_spn.d = x := by rw [e1, hd, hx]
    have hbb := bgn_bd (f := f) (t := t) (n := (sgN s2 : Nat)) (x := x.frm) hm.1 hm.2.1 (by omega) hxb.1
    have heb := eds_bd (f := f) (t := t) (n := (sgN s2 : Nat)) (x := x.to) hm.1 hm.2.1 (by omega) (by omega)
    repeat' (first | ((with_reducible show IsX _ _ _ _ _ _); first | (refine IsX.mk (by with_unfolding_all exact rfl) ?_ (RX.tupL (.cons (RX.aggL (.cons (.fro ?_) (.cons (.own rfl) .nil))) (.cons (.fro ?_) .nil)))) | (refine IsX.nil (fun _ => rfl) (by decide) ?_ (RX.tupL (.cons (RX.aggL (.cons (.fro ?_) (.cons (.nil rfl) .nil))) (.cons (.fro ?_) .nil))))) | (with_reducible first | exact fun h => h | refine ExE.row (by with_unfolding_all rfl) ?_ | refine And.intro ?_ ?_) | ((with_reducible intro hq); first | exact bne1 hq (by with_reducible assumption) | exact bne1 (by with_reducible assumption) hq | ((simp only [*, BB, cond_true, cond_false, reduceCtorEq] at hq); done) | (revert hq; with_reducible intro _)) | (with_reducible first | exact True.intro | rfl | refine EntLe.row ?_ | exact LeN.ro rfl | exact LeN.rptr | assumption) | ((with_reducible first | refine WkX.chk ?_ | refine Wk.chk ?_ | refine LeL.chk ?_ | refine LeF.chk ?_ | refine Run.mk ?_); (conv => whnf)) | ((with_reducible show LeO _ _); first | refine LeO.ro ?_ | refine LeO.roCap ?_ | refine LeO.nil ?_ (fun _ => rfl)) | ((with_reducible show LeR _ _ _); first | refine LeR.own rfl rfl rfl ?_ | refine LeR.view rfl rfl rfl ?_ ?_ | refine LeR.ro ?_ | refine LeR.roCap ?_ | refine LeR.nil ?_ (fun _ => rfl)) | ((with_reducible first | show drawOK _ _ = true | show lateOK _ _ = true | show drawOK2 _ _ = true | show drawOK3 _ _ = true); kernel_rfl))
    any_goals omega
    refine joinI Unit [] (fun _ => []) (fun _ => [(6, .box [.v (.int .i64 (bgn f t (sgN s2 : Nat) x.frm)), .v (.int .i64 x.to), .v (.int .i64 x.kind), .v (.int .i64 x.val)] 50)]) (fun _ => True) ?_ fun _ _ => ?_
    · by_cases c1 : t ≤ x.frm
      · have kc : decide (t ≤ ((isort ltO l).getD ((i : Int)).toNat C_spn.d).frm) = true := by rw [hxx]; exact decide_eq_true c1
        have hv : bgn f t (sgN s2 : Nat) x.frm = x.frm + ((sgN s2 : Nat) - (t - f)) := by unfold bgn; rw [if_pos c1]
        repeat' (first | ((with_reducible show IsX _ _ _ _ _ _); first | (refine IsX.mk (by with_unfolding_all exact rfl) ?_ (RX.tupL (.cons (RX.aggL (.cons (.fro ?_) (.cons (.own rfl) .nil))) (.cons (.fro ?_) .nil)))) | (refine IsX.nil (fun _ => rfl) (by decide) ?_ (RX.tupL (.cons (RX.aggL (.cons (.fro ?_) (.cons (.nil rfl) .nil))) (.cons (.fro ?_) .nil))))) | (with_reducible first | refine ex_of () trivial ?_ | exact fun h => h | refine ExE.row (by with_unfolding_all rfl) ?_ | refine And.intro ?_ ?_) | ((with_reducible intro hq); first | exact bne1 hq (by with_reducible assumption) | exact bne1 (by with_reducible assumption) hq | ((simp only [*, BB, cond_true, cond_false, reduceCtorEq] at hq); done) | (revert hq; with_reducible intro _)) | (with_reducible first | exact True.intro | rfl | refine EntLe.row ?_ | exact LeN.ro rfl | exact LeN.rptr | assumption) | ((with_reducible first | refine WkX.chk ?_ | refine Wk.chk ?_ | refine LeL.chk ?_ | refine LeF.chk ?_ | refine Run.mk ?_); (conv => whnf)) | ((with_reducible show LeO _ _); first | refine LeO.ro ?_ | refine LeO.roCap ?_ | refine LeO.nil ?_ (fun _ => rfl)) | ((with_reducible show LeR _ _ _); first | refine LeR.own rfl rfl rfl ?_ | refine LeR.view rfl rfl rfl ?_ ?_ | refine LeR.ro ?_ | refine LeR.roCap ?_ | refine LeR.nil ?_ (fun _ => rfl)) | ((with_reducible first | show drawOK _ _ = true | show lateOK _ _ = true | show drawOK2 _ _ = true | show drawOK3 _ _ = true); kernel_rfl))
        all_goals first
        | omega
        | (rw [hxx]; done)
        | (rw [hxx]; apply Fits.i64 <;> omega)
        | (apply Fits.i64 <;> omega)
        | (rw [hxx]; exact hv.symm)
        | exact hv.symm
        | trace_state

      have kc : decide (t ≤ ((isort ltO l).getD ((i : Int)).toNat C_spn.d).frm) = false := by rw [hxx]; exact decide_eq_false c1
      by_cases c2 : f < x.frm
      · have kd : decide (f < ((isort ltO l).getD ((i : Int)).toNat C_spn.d).frm) = true := by rw [hxx]; exact decide_eq_true c2
        have hv : bgn f t (sgN s2 : Nat) x.frm = f + (sgN s2 : Nat) := by unfold bgn; rw [if_neg c1, if_pos c2]
        repeat' (first | ((with_reducible show IsX _ _ _ _ _ _); first | (refine IsX.mk (by with_unfolding_all exact rfl) ?_ (RX.tupL (.cons (RX.aggL (.cons (.fro ?_) (.cons (.own rfl) .nil))) (.cons (.fro ?_) .nil)))) | (refine IsX.nil (fun _ => rfl) (by decide) ?_ (RX.tupL (.cons (RX.aggL (.cons (.fro ?_) (.cons (.nil rfl) .nil))) (.cons (.fro ?_) .nil))))) | (with_reducible first | refine ex_of () trivial ?_ | exact fun h => h | refine ExE.row (by with_unfolding_all rfl) ?_ | refine And.intro ?_ ?_) | ((with_reducible intro hq); first | exact bne1 hq (by with_reducible assumption) | exact bne1 (by with_reducible assumption) hq | ((simp only [*, BB, cond_true, cond_false, reduceCtorEq] at hq); done) | (revert hq; with_reducible intro _)) | (with_reducible first | exact True.intro | rfl | refine EntLe.row ?_ | exact LeN.ro rfl | exact LeN.rptr | assumption) | ((with_reducible first | refine WkX.chk ?_ | refine Wk.chk ?_ | refine LeL.chk ?_ | refine LeF.chk ?_ | refine Run.mk ?_); (conv => whnf)) | ((with_reducible show LeO _ _); first | refine LeO.ro ?_ | refine LeO.roCap ?_ | refine LeO.nil ?_ (fun _ => rfl)) | ((with_reducible show LeR _ _ _); first | refine LeR.own rfl rfl rfl ?_ | refine LeR.view rfl rfl rfl ?_ ?_ | refine LeR.ro ?_ | refine LeR.roCap ?_ | refine LeR.nil ?_ (fun _ => rfl)) | ((with_reducible first | show drawOK _ _ = true | show lateOK _ _ = true | show drawOK2 _ _ = true | show drawOK3 _ _ = true); kernel_rfl))
        all_goals first
        | omega
        | (rw [hxx]; done)
        | (rw [hxx]; apply Fits.i64 <;> omega)
        | (apply Fits.i64 <;> omega)
        | (rw [hxx]; exact hv.symm)
        | exact hv.symm
        | trace_state

      · have kd : decide (f < ((isort ltO l).getD ((i : Int)).toNat C_spn.d).frm) = false := by rw [hxx]; exact decide_eq_false c2
        have hv : bgn f t (sgN s2 : Nat) x.frm = x.frm := by unfold bgn; rw [if_neg c1, if_neg c2]
        repeat' (first | ((with_reducible show IsX _ _ _ _ _ _); first | (refine IsX.mk (by with_unfolding_all exact rfl) ?_ (RX.tupL (.cons (RX.aggL (.cons (.fro ?_) (.cons (.own rfl) .nil))) (.cons (.fro ?_) .nil)))) | (refine IsX.nil (fun _ => rfl) (by decide) ?_ (RX.tupL (.cons (RX.aggL (.cons (.fro ?_) (.cons (.nil rfl) .nil))) (.cons (.fro ?_) .nil))))) | (with_reducible first | refine ex_of () trivial ?_ | exact fun h => h | refine ExE.row (by with_unfolding_all rfl) ?_ | refine And.intro ?_ ?_) | ((with_reducible intro hq); first | exact bne1 hq (by with_reducible assumption) | exact bne1 (by with_reducible assumption) hq | ((simp only [*, BB, cond_true, cond_false, reduceCtorEq] at hq); done) | (revert hq; with_reducible intro _)) | (with_reducible first | exact True.intro | rfl | refine EntLe.row ?_ | exact LeN.ro rfl | exact LeN.rptr | assumption) | ((with_reducible first | refine WkX.chk ?_ | refine Wk.chk ?_ | refine LeL.chk ?_ | refine LeF.chk ?_ | refine Run.mk ?_); (conv => whnf)) | ((with_reducible show LeO _ _); first | refine LeO.ro ?_ | refine LeO.roCap ?_ | refine LeO.nil ?_ (fun _ => rfl)) | ((with_reducible show LeR _ _ _); first | refine LeR.own rfl rfl rfl ?_ | refine LeR.view rfl rfl rfl ?_ ?_ | refine LeR.ro ?_ | refine LeR.roCap ?_ | refine LeR.nil ?_ (fun _ => rfl)) | ((with_reducible first | show drawOK _ _ = true | show lateOK _ _ = true | show drawOK2 _ _ = true | show drawOK3 _ _ = true); kernel_rfl))
        all_goals first
        | omega
        | (rw [hxx]; done)
        | (rw [hxx]; apply Fits.i64 <;> omega)
        | (apply Fits.i64 <;> omega)
        | (rw [hxx]; exact hv.symm)
        | exact hv.symm
        | trace_state

    repeat' (first | ((with_reducible show IsX _ _ _ _ _ _); first | (refine IsX.mk (by with_unfolding_all exact rfl) ?_ (RX.tupL (.cons (RX.aggL (.cons (.fro ?_) (.cons (.own rfl) .nil))) (.cons (.fro ?_) .nil)))) | (refine IsX.nil (fun _ => rfl) (by decide) ?_ (RX.tupL (.cons (RX.aggL (.cons (.fro ?_) (.cons (.nil rfl) .nil))) (.cons (.fro ?_) .nil))))) | (with_reducible first | exact fun h => h | refine ExE.row (by with_unfolding_all rfl) ?_ | refine And.intro ?_ ?_) | ((with_reducible intro hq); first | exact bne1 hq (by with_reducible assumption) | exact bne1 (by with_reducible assumption) hq | ((simp only [*, BB, cond_true, cond_false, reduceCtorEq] at hq); done) | (revert hq; with_reducible intro _)) | (with_reducible first | exact True.intro | rfl | refine EntLe.row ?_ | exact LeN.ro rfl | exact LeN.rptr | assumption) | ((with_reducible first | refine WkX.chk ?_ | refine Wk.chk ?_ | refine LeL.chk ?_ | refine LeF.chk ?_ | refine Run.mk ?_); (conv => whnf)) | ((with_reducible show LeO _ _); first | refine LeO.ro ?_ | refine LeO.roCap ?_ | refine LeO.nil ?_ (fun _ => rfl)) | ((with_reducible show LeR _ _ _); first | refine LeR.own rfl rfl rfl ?_ | refine LeR.view rfl rfl rfl ?_ ?_ | refine LeR.ro ?_ | refine LeR.roCap ?_ | refine LeR.nil ?_ (fun _ => rfl)) | ((with_reducible first | show drawOK _ _ = true | show lateOK _ _ = true | show drawOK2 _ _ = true | show drawOK3 _ _ = true); kernel_rfl))
    refine joinI Unit [] (fun _ => []) (fun _ => [(6, .box [.v (.int .i64 (bgn f t (sgN s2 : Nat) x.frm)), .v (.int .i64 (eds f t (sgN s2 : Nat) x.to)), .v (.int .i64 x.kind), .v (.int .i64 x.val)] 50)]) (fun _ => True) ?_ fun _ _ => ?_
    · by_cases c1 : x.to ≤ f
      · have kc : decide (x.to ≤ f) = true := decide_eq_true c1
        have hv : eds f t (sgN s2 : Nat) x.to = x.to := by unfold eds; rw [if_pos c1]
        repeat' (first | ((with_reducible show IsX _ _ _ _ _ _); first | (refine IsX.mk (by with_unfolding_all exact rfl) ?_ (RX.tupL (.cons (RX.aggL (.cons (.fro ?_) (.cons (.own rfl) .nil))) (.cons (.fro ?_) .nil)))) | (refine IsX.nil (fun _ => rfl) (by decide) ?_ (RX.tupL (.cons (RX.aggL (.cons (.fro ?_) (.cons (.nil rfl) .nil))) (.cons (.fro ?_) .nil))))) | (with_reducible first | refine ex_of () trivial ?_ | exact fun h => h | refine ExE.row (by with_unfolding_all rfl) ?_ | refine And.intro ?_ ?_) | ((with_reducible intro hq); first | exact bne1 hq (by with_reducible assumption) | exact bne1 (by with_reducible assumption) hq | ((simp only [*, BB, cond_true, cond_false, reduceCtorEq] at hq); done) | (revert hq; with_reducible intro _)) | (with_reducible first | exact True.intro | rfl | refine EntLe.row ?_ | exact LeN.ro rfl | exact LeN.rptr | assumption) | ((with_reducible first | refine WkX.chk ?_ | refine Wk.chk ?_ | refine LeL.chk ?_ | refine LeF.chk ?_ | refine Run.mk ?_); (conv => whnf)) | ((with_reducible show LeO _ _); first | refine LeO.ro ?_ | refine LeO.roCap ?_ | refine LeO.nil ?_ (fun _ => rfl)) | ((with_reducible show LeR _ _ _); first | refine LeR.own rfl rfl rfl ?_ | refine LeR.view rfl rfl rfl ?_ ?_ | refine LeR.ro ?_ | refine LeR.roCap ?_ | refine LeR.nil ?_ (fun _ => rfl)) | ((with_reducible first | show drawOK _ _ = true | show lateOK _ _ = true | show drawOK2 _ _ = true | show drawOK3 _ _ = true); kernel_rfl))
        all_goals first
        | omega
        | (rw [hxx]; done)
        | (rw [hxx]; apply Fits.i64 <;> omega)
        | (apply Fits.i64 <;> omega)
        | (rw [hxx]; exact hv.symm)
        | exact hv.symm
        | trace_state

      have kc : decide (x.to ≤ f) = false := decide_eq_false c1
      by_cases c2 : t ≤ x.to
      · have kd : decide (t ≤ x.to) = true := decide_eq_true c2
        have hv : eds f t (sgN s2 : Nat) x.to = x.to + ((sgN s2 : Nat) - (t - f)) := by unfold eds; rw [if_neg c1, if_pos c2]
        repeat' (first | ((with_reducible show IsX _ _ _ _ _ _); first | (refine IsX.mk (by with_unfolding_all exact rfl) ?_ (RX.tupL (.cons (RX.aggL (.cons (.fro ?_) (.cons (.own rfl) .nil))) (.cons (.fro ?_) .nil)))) | (refine IsX.nil (fun _ => rfl) (by decide) ?_ (RX.tupL (.cons (RX.aggL (.cons (.fro ?_) (.cons (.nil rfl) .nil))) (.cons (.fro ?_) .nil))))) | (with_reducible first | refine ex_of () trivial ?_ | exact fun h => h | refine ExE.row (by with_unfolding_all rfl) ?_ | refine And.intro ?_ ?_) | ((with_reducible intro hq); first | exact bne1 hq (by with_reducible assumption) | exact bne1 (by with_reducible assumption) hq | ((simp only [*, BB, cond_true, cond_false, reduceCtorEq] at hq); done) | (revert hq; with_reducible intro _)) | (with_reducible first | exact True.intro | rfl | refine EntLe.row ?_ | exact LeN.ro rfl | exact LeN.rptr | assumption) | ((with_reducible first | refine WkX.chk ?_ | refine Wk.chk ?_ | refine LeL.chk ?_ | refine LeF.chk ?_ | refine Run.mk ?_); (conv => whnf)) | ((with_reducible show LeO _ _); first | refine LeO.ro ?_ | refine LeO.roCap ?_ | refine LeO.nil ?_ (fun _ => rfl)) | ((with_reducible show LeR _ _ _); first | refine LeR.own rfl rfl rfl ?_ | refine LeR.view rfl rfl rfl ?_ ?_ | refine LeR.ro ?_ | refine LeR.roCap ?_ | refine LeR.nil ?_ (fun _ => rfl)) | ((with_reducible first | show drawOK _ _ = true | show lateOK _ _ = true | show drawOK2 _ _ = true | show drawOK3 _ _ = true); kernel_rfl))
        all_goals first
        | omega
        | (rw [hxx]; done)
        | (rw [hxx]; apply Fits.i64 <;> omega)
        | (apply Fits.i64 <;> omega)
        | (rw [hxx]; exact hv.symm)
        | exact hv.symm
        | trace_state

      · have kd : decide (t ≤ x.to) = false := decide_eq_false c2
        have hv : eds f t (sgN s2 : Nat) x.to = f := by unfold eds; rw [if_neg c1, if_neg c2]
        repeat' (first | ((with_reducible show IsX _ _ _ _ _ _); first | (refine IsX.mk (by with_unfolding_all exact rfl) ?_ (RX.tupL (.cons (RX.aggL (.cons (.fro ?_) (.cons (.own rfl) .nil))) (.cons (.fro ?_) .nil)))) | (refine IsX.nil (fun _ => rfl) (by decide) ?_ (RX.tupL (.cons (RX.aggL (.cons (.fro ?_) (.cons (.nil rfl) .nil))) (.cons (.fro ?_) .nil))))) | (with_reducible first | refine ex_of () trivial ?_ | exact fun h => h | refine ExE.row (by with_unfolding_all rfl) ?_ | refine And.intro ?_ ?_) | ((with_reducible intro hq); first | exact bne1 hq (by with_reducible assumption) | exact bne1 (by with_reducible assumption) hq | ((simp only [*, BB, cond_true, cond_false, reduceCtorEq] at hq); done) | (revert hq; with_reducible intro _)) | (with_reducible first | exact True.intro | rfl | refine EntLe.row ?_ | exact LeN.ro rfl | exact LeN.rptr | assumption) | ((with_reducible first | refine WkX.chk ?_ | refine Wk.chk ?_ | refine LeL.chk ?_ | refine LeF.chk ?_ | refine Run.mk ?_); (conv => whnf)) | ((with_reducible show LeO _ _); first | refine LeO.ro ?_ | refine LeO.roCap ?_ | refine LeO.nil ?_ (fun _ => rfl)) | ((with_reducible show LeR _ _ _); first | refine LeR.own rfl rfl rfl ?_ | refine LeR.view rfl rfl rfl ?_ ?_ | refine LeR.ro ?_ | refine LeR.roCap ?_ | refine LeR.nil ?_ (fun _ => rfl)) | ((with_reducible first | show drawOK _ _ = true | show lateOK _ _ = true | show drawOK2 _ _ = true | show drawOK3 _ _ = true); kernel_rfl))
        all_goals first
        | omega
        | (rw [hxx]; done)
        | (rw [hxx]; apply Fits.i64 <;> omega)
        | (apply Fits.i64 <;> omega)
        | (rw [hxx]; exact hv.symm)
        | exact hv.symm
        | trace_state

    have hpb := Bool.eq_false_or_eq_true (posB (mvS f t (sgN s2 : Nat) x))
    rcases hpb with hpb | hpb
    · have hst := (hoy hpb).symm
      have kc : decide (bgn f t (sgN s2 : Nat) x.frm < eds f t (sgN s2 : Nat) x.to) = true := hpb
      clear hoy hon
      repeat' (first | ((with_reducible show IsX _ _ _ _ _ _); first | (refine IsX.mk (by with_unfolding_all exact rfl) ?_ (RX.tupL (.cons (RX.aggL (.cons (.fro ?_) (.cons (.own rfl) .nil))) (.cons (.fro ?_) .nil)))) | (refine IsX.nil (fun _ => rfl) (by decide) ?_ (RX.tupL (.cons (RX.aggL (.cons (.fro ?_) (.cons (.nil rfl) .nil))) (.cons (.fro ?_) .nil))))) | (with_reducible first | refine ex_of (α := Nat) (i + 1) ⟨?_, ?_⟩ ?_ | exact fun h => h | refine ExE.row (by with_unfolding_all rfl) ?_ | refine And.intro ?_ ?_) | ((with_reducible intro hq); first | exact bne1 hq (by with_reducible assumption) | exact bne1 (by with_reducible assumption) hq | ((simp only [*, BB, cond_true, cond_false, reduceCtorEq] at hq); done) | (revert hq; with_reducible intro _)) | (with_reducible first | exact True.intro | rfl | refine EntLe.row ?_ | exact LeN.ro rfl | exact LeN.rptr | assumption) | ((with_reducible first | refine WkX.chk ?_ | refine Wk.chk ?_ | refine LeL.chk ?_ | refine LeF.chk ?_ | refine Run.mk ?_); (conv => whnf)) | ((with_reducible show LeO _ _); first | refine LeO.ro ?_ | refine LeO.roCap ?_ | refine LeO.nil ?_ (fun _ => rfl)) | ((with_reducible show LeR _ _ _); first | refine LeR.own rfl rfl rfl ?_ | refine LeR.view rfl rfl rfl ?_ ?_ | refine LeR.ro ?_ | refine LeR.roCap ?_ | refine LeR.nil ?_ (fun _ => rfl)) | ((with_reducible first | show drawOK _ _ = true | show lateOK _ _ = true | show drawOK2 _ _ = true | show drawOK3 _ _ = true); kernel_rfl))
      all_goals first
        | omega
        | rfl
        | (apply Fits.i64 <;> omega)
        | (show (isort ltO l).length - (i + 1) < (isort ltO l).length - i; omega)
        | (show ((outTo (mvS f t (sgN s2 : Nat)) (isort ltO l) i).length + 1) * 32 ≤ 140737488355328; omega)
        | exact hst
        | trace_state
    · have hst := (hon hpb).symm
      have kc : decide (bgn f t (sgN s2 : Nat) x.frm < eds f t (sgN s2 : Nat) x.to) = false := hpb
      clear hoy hon
      repeat' (first | ((with_reducible show IsX _ _ _ _ _ _); first | (refine IsX.mk (by with_unfolding_all exact rfl) ?_ (RX.tupL (.cons (RX.aggL (.cons (.fro ?_) (.cons (.own rfl) .nil))) (.cons (.fro ?_) .nil)))) | (refine IsX.nil (fun _ => rfl) (by decide) ?_ (RX.tupL (.cons (RX.aggL (.cons (.fro ?_) (.cons (.nil rfl) .nil))) (.cons (.fro ?_) .nil))))) | (with_reducible first | refine ex_of (α := Nat) (i + 1) ⟨?_, ?_⟩ ?_ | exact fun h => h | refine ExE.row (by with_unfolding_all rfl) ?_ | refine And.intro ?_ ?_) | ((with_reducible intro hq); first | exact bne1 hq (by with_reducible assumption) | exact bne1 (by with_reducible assumption) hq | ((simp only [*, BB, cond_true, cond_false, reduceCtorEq] at hq); done) | (revert hq; with_reducible intro _)) | (with_reducible first | exact True.intro | rfl | refine EntLe.row ?_ | exact LeN.ro rfl | exact LeN.rptr | assumption) | ((with_reducible first | refine WkX.chk ?_ | refine Wk.chk ?_ | refine LeL.chk ?_ | refine LeF.chk ?_ | refine Run.mk ?_); (conv => whnf)) | ((with_reducible show LeO _ _); first | refine LeO.ro ?_ | refine LeO.roCap ?_ | refine LeO.nil ?_ (fun _ => rfl)) | ((with_reducible show LeR _ _ _); first | refine LeR.own rfl rfl rfl ?_ | refine LeR.view rfl rfl rfl ?_ ?_ | refine LeR.ro ?_ | refine LeR.roCap ?_ | refine LeR.nil ?_ (fun _ => rfl)) | ((with_reducible first | show drawOK _ _ = true | show lateOK _ _ = true | show drawOK2 _ _ = true | show drawOK3 _ _ = true); kernel_rfl))
      all_goals first
        | omega
        | rfl
        | (apply Fits.i64 <;> omega)
        | (show (isort ltO l).length - (i + 1) < (isort ltO l).length - i; omega)
        | exact hst
        | trace_state
  have hlt : decide ((i : Int) < ((isort ltO l).length : Int)) = false := decide_eq_false (by omega)
  have hii : i = (isort ltO l).length := by omega
  subst hii
  repeat' (first | ((with_reducible show IsX _ _ _ _ _ _); first | (refine IsX.mk (by with_unfolding_all exact rfl) ?_ (RX.tupL (.cons (RX.aggL (.cons (.fro ?_) (.cons (.own rfl) .nil))) (.cons (.fro ?_) .nil)))) | (refine IsX.nil (fun _ => rfl) (by decide) ?_ (RX.tupL (.cons (RX.aggL (.cons (.fro ?_) (.cons (.nil rfl) .nil))) (.cons (.fro ?_) .nil))))) | (with_reducible first | exact fun h => h | refine ExE.row (by with_unfolding_all rfl) ?_ | refine And.intro ?_ ?_) | ((with_reducible intro hq); first | exact bne1 hq (by with_reducible assumption) | exact bne1 (by with_reducible assumption) hq | ((simp only [*, BB, cond_true, cond_false, reduceCtorEq] at hq); done) | (revert hq; with_reducible intro _)) | (with_reducible first | exact True.intro | rfl | refine EntLe.row ?_ | exact LeN.ro rfl | exact LeN.rptr | assumption) | ((with_reducible first | refine WkX.chk ?_ | refine Wk.chk ?_ | refine LeL.chk ?_ | refine LeF.chk ?_ | refine Run.mk ?_); (conv => whnf)) | ((with_reducible show LeO _ _); first | refine LeO.ro ?_ | refine LeO.roCap ?_ | refine LeO.nil ?_ (fun _ => rfl)) | ((with_reducible show LeR _ _ _); first | refine LeR.own rfl rfl rfl ?_ | refine LeR.view rfl rfl rfl ?_ ?_ | refine LeR.ro ?_ | refine LeR.roCap ?_ | refine LeR.nil ?_ (fun _ => rfl)) | ((with_reducible first | show drawOK _ _ = true | show lateOK _ _ = true | show drawOK2 _ _ = true | show drawOK3 _ _ = true); kernel_rfl))
  refine loopI Nat [] (fun j => [(167, .v (.int .i64 (j : Nat)))]) (fun j => [(5, .row C_spn (outTo (mvS f t (sgN s2 : Nat)) (isort ltO l) (isort ltO l).length ++ shTo f l2 j) 50 none)]) (fun j => j ≤ l2.length) (fun j => l2.length - j) 0 (Nat.zero_le _) (Wk.chk ?_) fun j hj => ?_
  · ((conv => whnf); repeat' (first | (with_reducible first | exact fun h => h | refine ExE.row (by with_unfolding_all rfl) ?_ | refine And.intro ?_ ?_) | ((with_reducible intro hq); first | exact bne1 hq (by with_reducible assumption) | exact bne1 (by with_reducible assumption) hq | ((simp only [*, BB, cond_true, cond_false, reduceCtorEq] at hq); done) | (revert hq; with_reducible intro _)) | (with_reducible first | exact True.intro | rfl | refine EntLe.row ?_ | exact LeN.ro rfl | exact LeN.rptr | assumption) | ((with_reducible first | refine WkX.chk ?_ | refine Wk.chk ?_ | refine LeL.chk ?_ | refine LeF.chk ?_ | refine Run.mk ?_); (conv => whnf)) | ((with_reducible show LeO _ _); first | refine LeO.ro ?_ | refine LeO.roCap ?_ | refine LeO.nil ?_ (fun _ => rfl)) | ((with_reducible show LeR _ _ _); first | refine LeR.own rfl rfl rfl ?_ | refine LeR.view rfl rfl rfl ?_ ?_ | refine LeR.ro ?_ | refine LeR.roCap ?_ | refine LeR.nil ?_ (fun _ => rfl)) | ((with_reducible first | show drawOK _ _ = true | show lateOK _ _ = true | show drawOK2 _ _ = true | show drawOK3 _ _ = true); kernel_rfl)))
    all_goals first
      | rfl
      | (simp [shTo]; done)
      | trace_state
  have hj : j ≤ l2.length := hj
  have e1 : ((j : Int)).toNat = j := Int.toNat_natCast _
  have hsl := shTo_len (k := f) hj
  by_cases hjl : j < l2.length
  · have hlt : decide ((j : Int) < (l2.length : Int)) = true := decide_eq_true (by omega)
    have hxb := hin2.at hjl
    have hst := shTo_step (k := f) hjl
    have hxx : l2.getD ((j : Int)).toNat C_spn.d = l2.getD j zS := by rw [e1, hd]
    have hst2 : outTo (mvS f t (sgN s2 : Nat)) (isort ltO l) (isort ltO l).length ++ shTo f l2 j ++ [shS f (l2.getD j zS)] = outTo (mvS f t (sgN s2 : Nat)) (isort ltO l) (isort ltO l).length ++ shTo f l2 (j + 1) := by rw [hst, List.append_assoc]
    repeat' (first | ((with_reducible show IsX _ _ _ _ _ _); first | (refine IsX.mk (by with_unfolding_all exact rfl) ?_ (RX.tupL (.cons (RX.aggL (.cons (.fro ?_) (.cons (.own rfl) .nil))) (.cons (.fro ?_) .nil)))) | (refine IsX.nil (fun _ => rfl) (by decide) ?_ (RX.tupL (.cons (RX.aggL (.cons (.fro ?_) (.cons (.nil rfl) .nil))) (.cons (.fro ?_) .nil))))) | (with_reducible first | refine ex_of (α := Nat) (j + 1) ⟨?_, ?_⟩ ?_ | exact fun h => h | refine ExE.row (by with_unfolding_all rfl) ?_ | refine And.intro ?_ ?_) | ((with_reducible intro hq); first | exact bne1 hq (by with_reducible assumption) | exact bne1 (by with_reducible assumption) hq | ((simp only [*, BB, cond_true, cond_false, reduceCtorEq] at hq); done) | (revert hq; with_reducible intro _)) | (with_reducible first | exact True.intro | rfl | refine EntLe.row ?_ | exact LeN.ro rfl | exact LeN.rptr | assumption) | ((with_reducible first | refine WkX.chk ?_ | refine Wk.chk ?_ | refine LeL.chk ?_ | refine LeF.chk ?_ | refine Run.mk ?_); (conv => whnf)) | ((with_reducible show LeO _ _); first | refine LeO.ro ?_ | refine LeO.roCap ?_ | refine LeO.nil ?_ (fun _ => rfl)) | ((with_reducible show LeR _ _ _); first | refine LeR.own rfl rfl rfl ?_ | refine LeR.view rfl rfl rfl ?_ ?_ | refine LeR.ro ?_ | refine LeR.roCap ?_ | refine LeR.nil ?_ (fun _ => rfl)) | ((with_reducible first | show drawOK _ _ = true | show lateOK _ _ = true | show drawOK2 _ _ = true | show drawOK3 _ _ = true); kernel_rfl))
    all_goals first
      | omega
      | rfl
      | (apply Fits.i64 <;> omega)
      | (rw [hxx]; apply Fits.i64 <;> omega)
      | (show l2.length - (j + 1) < l2.length - j; omega)
      | (show ((outTo (mvS f t (sgN s2 : Nat)) (isort ltO l) (isort ltO l).length ++ shTo f l2 j).length + 1) * 32 ≤ 140737488355328; rw [List.length_append]; omega)
      | exact hst2
      | trace_state
  have hlt : decide ((j : Int) < (l2.length : Int)) = false := decide_eq_false (by omega)
  have hjj : j = l2.length := by omega
  subst hjj
  have hNL : outTo (mvS f t (sgN s2 : Nat)) (isort ltO l) (isort ltO l).length ++ shTo f l2 l2.length = newL l f t s2 l2 := rfl
  by_cases h7 : 256 < (newL l f t s2 l2).length
  · have hE := splE_6 h1 h2 h3 h4 h5 h6 h7
    have hT := splT_no (s := s) (l := l) (f := f) (t := t) (s2 := s2) (l2 := l2) (by rw [hE]; decide)
    have hL := splL_no (s := s) (l := l) (f := f) (t := t) (s2 := s2) (l2 := l2) (by rw [hE]; decide)
    have kc : decide ((256 : Int) < ((outTo (mvS f t (sgN s2 : Nat)) (isort ltO l) (isort ltO l).length ++ shTo f l2 l2.length).length : Int)) = true := decide_eq_true (by rw [hNL]; omega)
    repeat' (first | ((with_reducible show IsX _ _ _ _ _ _); first | (refine IsX.mk (by with_unfolding_all exact rfl) ?_ (RX.tupL (.cons (RX.aggL (.cons (.fro ?_) (.cons (.own rfl) .nil))) (.cons (.fro ?_) .nil)))) | (refine IsX.nil (fun _ => rfl) (by decide) ?_ (RX.tupL (.cons (RX.aggL (.cons (.fro ?_) (.cons (.nil rfl) .nil))) (.cons (.fro ?_) .nil))))) | (with_reducible first | exact fun h => h | refine ExE.row (by with_unfolding_all rfl) ?_ | refine And.intro ?_ ?_) | ((with_reducible intro hq); first | exact bne1 hq (by with_reducible assumption) | exact bne1 (by with_reducible assumption) hq | ((simp only [*, BB, cond_true, cond_false, reduceCtorEq] at hq); done) | (revert hq; with_reducible intro _)) | (with_reducible first | exact True.intro | rfl | refine EntLe.row ?_ | exact LeN.ro rfl | exact LeN.rptr | assumption) | ((with_reducible first | refine WkX.chk ?_ | refine Wk.chk ?_ | refine LeL.chk ?_ | refine LeF.chk ?_ | refine Run.mk ?_); (conv => whnf)) | ((with_reducible show LeO _ _); first | refine LeO.ro ?_ | refine LeO.roCap ?_ | refine LeO.nil ?_ (fun _ => rfl)) | ((with_reducible show LeR _ _ _); first | refine LeR.own rfl rfl rfl ?_ | refine LeR.view rfl rfl rfl ?_ ?_ | refine LeR.ro ?_ | refine LeR.roCap ?_ | refine LeR.nil ?_ (fun _ => rfl)) | ((with_reducible first | show drawOK _ _ = true | show lateOK _ _ = true | show drawOK2 _ _ = true | show drawOK3 _ _ = true); kernel_rfl))
    all_goals first
      | exact hE.symm
      | exact hT.symm
      | exact hL.symm
      | trace_state
  · have hE := splE_7 h1 h2 h3 h4 h5 h6 h7
    have hT := splT_yes hE
    have hL := splL_yes hE
    have kc : decide ((256 : Int) < ((outTo (mvS f t (sgN s2 : Nat)) (isort ltO l) (isort ltO l).length ++ shTo f l2 l2.length).length : Int)) = false := decide_eq_false (by rw [hNL]; omega)
    repeat' (first | ((with_reducible show IsX _ _ _ _ _ _); first | (refine IsX.mk (by with_unfolding_all exact rfl) ?_ (RX.tupL (.cons (RX.aggL (.cons (.fro ?_) (.cons (.own rfl) .nil))) (.cons (.fro ?_) .nil)))) | (refine IsX.nil (fun _ => rfl) (by decide) ?_ (RX.tupL (.cons (RX.aggL (.cons (.fro ?_) (.cons (.nil rfl) .nil))) (.cons (.fro ?_) .nil))))) | (with_reducible first | exact fun h => h | refine ExE.row (by with_unfolding_all rfl) ?_ | refine And.intro ?_ ?_) | ((with_reducible intro hq); first | exact bne1 hq (by with_reducible assumption) | exact bne1 (by with_reducible assumption) hq | ((simp only [*, BB, cond_true, cond_false, reduceCtorEq] at hq); done) | (revert hq; with_reducible intro _)) | (with_reducible first | exact True.intro | rfl | refine EntLe.row ?_ | exact LeN.ro rfl | exact LeN.rptr | assumption) | ((with_reducible first | refine WkX.chk ?_ | refine Wk.chk ?_ | refine LeL.chk ?_ | refine LeF.chk ?_ | refine Run.mk ?_); (conv => whnf)) | ((with_reducible show LeO _ _); first | refine LeO.ro ?_ | refine LeO.roCap ?_ | refine LeO.nil ?_ (fun _ => rfl)) | ((with_reducible show LeR _ _ _); first | refine LeR.own rfl rfl rfl ?_ | refine LeR.view rfl rfl rfl ?_ ?_ | refine LeR.ro ?_ | refine LeR.roCap ?_ | refine LeR.nil ?_ (fun _ => rfl)) | ((with_reducible first | show drawOK _ _ = true | show lateOK _ _ = true | show drawOK2 _ _ = true | show drawOK3 _ _ = true); kernel_rfl))
    all_goals first
      | exact hE.symm
      | exact hT.symm
      | exact hL.symm
      | trace_state
end Go.SX.Try
/- Laying one element into a row, told by its place. No program here. -/
namespace Go.SX.Plain
section
variable {α : Type} {d : α} {lt : α → α → Bool}
end
end Go.SX.Plain
/- A verified symbolic executor for Go code in the model: a row takes another one's name. -/
namespace Go.SX
open Go.RowKit
def moveE (i j : Nat) (p : Nat × Ent) : Option (Nat × Ent) := match p with
  | (k, e) => match e with
    | .loop _ _ _ _ _ _ _ _ _ => none
    | .defer _ => none
    | .box cs t => match Nat.beq k i with
      | true => none
      | false => some (match Nat.beq k j with | true => i | false => k, .box (AV.subL j (.own i) (AV.subL i .junk cs)) t)
    | .row C l t cap => match Nat.beq k i with
      | true => none
      | false => some (match Nat.beq k j with | true => i | false => k, .row C l t cap)
    | .iter s p => match Nat.beq k i with
      | true => none
      | false => some (match Nat.beq k j with | true => i | false => k, .iter s p)
def moveF (i j : Nat) (fr : Fr) : Fr := subF j (.own i) (subF i .junk fr)
def moveS (i j : Nat) (A : Sta) : Sta := match A with
  | ⟨fr, stk, m, nx⟩ => ⟨moveF i j fr, stk.map (moveF i j), m.filterMap (moveE i j), nx⟩
def Env.move (E : Env) (i j : Nat) : Env := { E with h := fun k => if k = i then E.h j else E.h k }
theorem Env.move_i (E : Env) (i j : Nat) : (E.move i j).h i = E.h j := if_pos rfl
theorem Env.move_ne (E : Env) {i j k : Nat} (h : k ≠ i) : (E.move i j).h k = E.h k := if_neg h
section
variable {base : Nat} {w0 : Start} {w : World} {E : Env} {stk : List Fr} {gs : List (Array Value)} {m : Mem}
theorem rel_move {i j : Nat} (hij : i ≠ j) (hi : ∀ b, E.h i ≠ .pointer (some ⟨b, 0, none⟩)) (hd : E.dom i) (hj : ∃ A n c, E.h j = .slice A n c) {a : AV} {v : Value} (h : Rel w E a v) : Rel w (E.move i j) (AV.sub j (.own i) (AV.sub i .junk a)) v := by
  have t1 : Turns i E (E.move i j) w w := ⟨fun id _ hne => E.move_ne hne, hi, fun _ h => h, fun _ h => h, fun _ h => h, fun _ _ => rfl⟩
  have hjj : (E.move i j).h j = E.h j := E.move_ne (Ne.symm hij)
  have hpj : ∀ b, (E.move i j).h j ≠ .pointer (some ⟨b, 0, none⟩) := fun b hb => by
    obtain ⟨A, n, c, hs⟩ := hj
    rw [hjj, hs] at hb
    cases hb
  have t2 : Turns j (E.move i j) (E.move i j) w w := ⟨fun id _ _ => rfl, hpj, fun _ h => h, fun _ h => h, fun _ h => h, fun _ _ => rfl⟩
  refine Rel.sub t2 (fun _ => ?_) (Rel.sub t1 (fun _ => .junk _) h)
  have := Rel.own (w := w) (E := E.move i j) (id := i) hd (by rw [E.move_i]; exact hj)
  rw [E.move_i] at this
  rw [hjj]
  exact this
theorem moveE_some {i j : Nat} {p q : Nat × Ent} (h : moveE i j p = some q) : p.1 ≠ i ∧ q.1 = (if p.1 = j then i else p.1) ∧
    ((∃ cs t, p.2 = .box cs t ∧ q.2 = .box (AV.subL j (.own i) (AV.subL i .junk cs)) t) ∨ q.2 = p.2 ∧ ((∃ (α : Type) (C : Cdc α) (l : List α) (t : Nat) (cap : Option Nat), p.2 = .row C l t cap) ∨ ∃ s pos, p.2 = .iter s pos)) := by
  obtain ⟨k, e⟩ := p
  have key : ∀ {e' : Ent}, (match Nat.beq k i with | true => none | false => some (match Nat.beq k j with | true => i | false => k, e')) = some q → k ≠ i ∧ q.1 = (if k = j then i else k) ∧ q.2 = e' := by
    intro e' h
    cases hb : Nat.beq k i with
    | true => rw [hb] at h; cases h
    | false =>
      rw [hb] at h
      have := Option.some.inj h
      subst this
      refine ⟨fun e => by subst e; simp at hb, ?_, rfl⟩
      cases hb2 : Nat.beq k j with
      | true => rw [if_pos (Nat.eq_of_beq_eq_true hb2)]
      | false => rw [if_neg (fun e => by subst e; simp at hb2)]
  cases e with
  | box cs t =>
    obtain ⟨a, b, c⟩ := key h
    exact ⟨a, b, .inl ⟨cs, t, rfl, c⟩⟩
  | row C l t cap =>
    obtain ⟨a, b, c⟩ := key h
    exact ⟨a, b, .inr ⟨c, .inl ⟨_, C, l, t, cap, rfl⟩⟩⟩
  | iter s p =>
    obtain ⟨a, b, c⟩ := key h
    exact ⟨a, b, .inr ⟨c, .inr ⟨s, p, rfl⟩⟩⟩
  | defer b => cases h
  | loop _ _ _ _ _ _ _ _ _ => cases h
theorem SatM.move (h : SatM base w0 E stk gs m w) {i j : Nat} (hij : i ≠ j) {α α' : Type} {C : Cdc α} {l : List α} {t : Nat} {cap : Option Nat} {C' : Cdc α'} {l' : List α'} {t' : Nat} {cap' : Option Nat} (hi : (i, Ent.row C' l' t' cap') ∈ m) (hj : (j, Ent.row C l t cap) ∈ m) :
    SatM base w0 (E.move i j) (stk.map (moveF i j)) gs (m.filterMap (moveE i j)) w := by
  have hsl : ∀ {k : Nat} {β : Type} {C : Cdc β} {l : List β} {t : Nat} {cap : Option Nat}, (k, Ent.row C l t cap) ∈ m → ∃ A n c, E.h k = .slice A n c := fun hk => by
    obtain ⟨_, ⟨_, _, ⟨xs, ho, _⟩, _⟩, _⟩ := h.ents _ _ hk
    rcases ho.2 with ⟨hv, _⟩ | ⟨g, c, cur, hv, _⟩
    · exact ⟨_, _, _, hv⟩
    · exact ⟨_, _, _, hv⟩
  have hpi : ∀ b, E.h i ≠ .pointer (some ⟨b, 0, none⟩) := fun b hb => by
    obtain ⟨A, n, c, hs⟩ := hsl hi
    rw [hs] at hb
    cases hb
  have hdi := (h.ents _ _ hi).1
  have hrel : ∀ {a : AV} {v : Value}, Rel w E a v → Rel w (E.move i j) (AV.sub j (.own i) (AV.sub i .junk a)) v := fun hr => rel_move hij hpi hdi (hsl hj) hr
  have hhq : ∀ {p q : Nat × Ent}, moveE i j p = some q → (E.move i j).h q.1 = E.h p.1 := fun {p q} hq => by
    obtain ⟨a, b, _⟩ := moveE_some hq
    rw [b]
    split
    · rename_i e; rw [E.move_i, e]
    · exact E.move_ne a
  refine ⟨h.below, h.hb, h.imm, h.keep, h.same, fun id e he => ?_, ?_, by rw [List.length_map]; exact h.len, fun k h1 h2 => ?_⟩
  · obtain ⟨⟨k, e0⟩, hp, hq⟩ := List.mem_filterMap.1 he
    have hh := hhq hq
    obtain ⟨a, b, c⟩ := moveE_some hq
    obtain ⟨d1, d2, d3⟩ := h.ents _ _ hp
    simp only at hh a b c
    refine ⟨?_, ?_, by rw [hh]; exact d3⟩
    · show E.dom id
      rw [b]
      split
      · exact hdi
      · exact d1
    · rcases c with ⟨cs, ty, rfl, rfl⟩ | ⟨rfl, ⟨β, C2, l2, t2, cap2, rfl⟩ | ⟨s, pos, rfl⟩⟩
      · obtain ⟨bb, vs, f1, f2, f3⟩ := d2
        refine ⟨bb, vs, by rw [hh]; exact f1, f2, ?_⟩
        refine ⟨by rw [AV.subL_length, AV.subL_length]; exact f3.1, fun n g1 g2 => ?_⟩
        have g3 : n < (AV.subL i .junk cs).length := by rw [AV.subL_length] at g1; exact g1
        have g4 : n < cs.length := by rw [AV.subL_length] at g3; exact g3
        rw [AV.subL_get _ _ _ n g1 g3, AV.subL_get _ _ _ n g3 g4]
        exact hrel (f3.2 n g4 g2)
      · obtain ⟨f1, f2, ⟨xs, f3, f4⟩, f5⟩ := d2
        refine ⟨f1, f2, ⟨xs, by rw [hh]; exact f3, f4.mono (Goes.bare (fun _ h => h) fun _ _ => rfl)⟩, by rw [hh]; exact f5⟩
      · obtain ⟨bb, f1, f2⟩ := d2
        exact ⟨bb, by rw [hh]; exact f1, f2⟩
  · refine List.Pairwise.filterMap (moveE i j) ?_ (h.disj.imp_of_mem (S := fun p q => (p.1 ≠ q.1 ∧ ∀ b, blk (E.h p.1) = some b → blk (E.h q.1) ≠ some b)) fun _ _ hr => hr)
    intro p q hr p' hp' q' hq'
    have e1 := hhq hp'
    have e2 := hhq hq'
    obtain ⟨a1, b1, _⟩ := moveE_some hp'
    obtain ⟨a2, b2, _⟩ := moveE_some hq'
    refine ⟨?_, fun b hb => by rw [e1] at hb; rw [e2]; exact hr.2 b hb⟩
    rw [b1, b2]
    have := hr.1
    split <;> split <;> omega
  · have hk : k < stk.length := by rw [List.length_map] at h1; exact h1
    rw [List.getElem_map]
    intro t
    rw [moveF, getS_subF, getS_subF]
    exact hrel (h.stk k hk h2 t)
end
theorem Wk.move {A : Sta} {i j : Nat} (hij : Nat.beq i j = false) {α α' : Type} {C : Cdc α} {l : List α} {t : Nat} {cap : Option Nat} {C' : Cdc α'} {l' : List α'} {t' : Nat} {cap' : Option Nat} (hi : getE A.m i = some (.row C' l' t' cap')) (hj : getE A.m j = some (.row C l t cap)) : Wk A (moveS i j A) :=
  ⟨fun base w0 E gs tm w hnx hS => by
    obtain ⟨fr, stk, m, nx⟩ := A
    exact ⟨E.move i j, hnx, hS.move (fun e => by subst e; simp at hij) (mem_of_getE hi) (mem_of_getE hj)⟩⟩
end Go.SX
/- Contracts of the document's may, part, begins, ends, moved, outer. -/
namespace Go.SX.Try
open Go.Proofs Go.Proofs.Try Go.SX.Plain
set_option maxRecDepth 100000
set_option maxHeartbeats 0
set_option linter.unusedSimpArgs false
abbrev Sm4 (f t n x : Int) : Prop := (0 ≤ f ∧ f ≤ 10000) ∧ (0 ≤ t ∧ t ≤ 10000) ∧ (0 ≤ n ∧ n ≤ 10000) ∧ 0 ≤ x ∧ x ≤ 10000
end Go.SX.Try
/- Contract of the document's Splice. -/
namespace Go.SX.Try
open Go.Proofs Go.Proofs.Try Go.SX.Plain
set_option maxRecDepth 100000
set_option maxHeartbeats 0
set_option linter.unusedSimpArgs false
end Go.SX.Try
/- Contracts of chapter 2's small functions. -/
namespace Go.SX.Try
open Go.Proofs Go.Proofs.Try Go.SX.Plain
set_option linter.unusedSimpArgs false
set_option maxRecDepth 100000
set_option maxHeartbeats 4000000
theorem q_control : fact 65 f65 := ⟨by kernel_rfl, rfl, by kernel_rfl⟩
theorem q_flag : fact 66 f66 := ⟨by kernel_rfl, rfl, by kernel_rfl⟩
theorem q_nothing : fact 75 f75 := ⟨by kernel_rfl, rfl, by kernel_rfl⟩
theorem q_wide : fact 76 f76 := ⟨by kernel_rfl, rfl, by kernel_rfl⟩
theorem q_width : fact 64 f64 := ⟨by kernel_rfl, rfl, by kernel_rfl⟩

theorem con_flag : Con prog 66 (fun r : Int => [.v (.int .i32 r)]) (fun r => .sb (flagB r)) (fun _ => True) := by
  refine Con.of (by kernel_rfl) T_ok CdsOK.nil GamOK.nil 1 [] q_flag.1 q_flag.2.1 q_flag.2.2 (fun _ => rfl) fun r _ => ?_
  repeat' (first | (with_reducible first | exact fun h => h | refine ExE.row (by with_unfolding_all rfl) ?_ | refine And.intro ?_ ?_) | ((with_reducible intro hq); first | exact bne1 hq (by with_reducible assumption) | exact bne1 (by with_reducible assumption) hq | ((simp only [*, BB, cond_true, cond_false, reduceCtorEq] at hq); done) | (revert hq; with_reducible intro _)) | (with_reducible first | exact True.intro | rfl | refine EntLe.row ?_ | exact LeN.ro rfl | exact LeN.rptr | assumption) | ((with_reducible first | refine WkX.chk ?_ | refine Wk.chk ?_ | refine LeL.chk ?_ | refine LeF.chk ?_ | refine Run.mk ?_); (conv => whnf)) | ((with_reducible show LeO _ _); first | refine LeO.ro ?_ | refine LeO.roCap ?_ | refine LeO.nil ?_ (fun _ => rfl)) | ((with_reducible show LeR _ _ _); first | refine LeR.own rfl rfl rfl ?_ | refine LeR.view rfl rfl rfl ?_ ?_ | refine LeR.ro ?_ | refine LeR.roCap ?_ | refine LeR.nil ?_ (fun _ => rfl)) | ((with_reducible first | show drawOK _ _ = true | show lateOK _ _ = true | show drawOK2 _ _ = true | show drawOK3 _ _ = true); kernel_rfl))
  all_goals rw [Bool.eq_iff_iff]
  all_goals simp only [flagB, true_iff, false_iff, Bool.or_eq_true, Bool.and_eq_true, decide_eq_true_eq, decide_eq_false_iff_not, Bool.and_eq_false_iff, beq_iff_eq, beq_eq_false_iff_ne, eq_self, iff_true, Bool.false_eq_true] at *
  all_goals unfold flagP
  all_goals omega

theorem con_control : Con prog 65 (fun r : Int => [.v (.int .i32 r)]) (fun r => .sb (controlB r)) (fun _ => True) := by
  refine Con.of (by kernel_rfl) T_ok CdsOK.nil GamOK.nil 1 [] q_control.1 q_control.2.1 q_control.2.2 (fun _ => rfl) fun r _ => ?_
  repeat' (first | (with_reducible first | exact fun h => h | refine ExE.row (by with_unfolding_all rfl) ?_ | refine And.intro ?_ ?_) | ((with_reducible intro hq); first | exact bne1 hq (by with_reducible assumption) | exact bne1 (by with_reducible assumption) hq | ((simp only [*, BB, cond_true, cond_false, reduceCtorEq] at hq); done) | (revert hq; with_reducible intro _)) | (with_reducible first | exact True.intro | rfl | refine EntLe.row ?_ | exact LeN.ro rfl | exact LeN.rptr | assumption) | ((with_reducible first | refine WkX.chk ?_ | refine Wk.chk ?_ | refine LeL.chk ?_ | refine LeF.chk ?_ | refine Run.mk ?_); (conv => whnf)) | ((with_reducible show LeO _ _); first | refine LeO.ro ?_ | refine LeO.roCap ?_ | refine LeO.nil ?_ (fun _ => rfl)) | ((with_reducible show LeR _ _ _); first | refine LeR.own rfl rfl rfl ?_ | refine LeR.view rfl rfl rfl ?_ ?_ | refine LeR.ro ?_ | refine LeR.roCap ?_ | refine LeR.nil ?_ (fun _ => rfl)) | ((with_reducible first | show drawOK _ _ = true | show lateOK _ _ = true | show drawOK2 _ _ = true | show drawOK3 _ _ = true); kernel_rfl))
  all_goals rw [Bool.eq_iff_iff]
  all_goals simp only [controlB, true_iff, false_iff, Bool.or_eq_true, Bool.and_eq_true, decide_eq_true_eq, decide_eq_false_iff_not, Bool.and_eq_false_iff, beq_iff_eq, beq_eq_false_iff_ne, eq_self, iff_true, Bool.false_eq_true] at *
  all_goals unfold controlP
  all_goals omega

theorem con_wide : Con prog 76 (fun r : Int => [.v (.int .i32 r)]) (fun r => .sb (wideB r)) (fun _ => True) := by
  refine Con.of (by kernel_rfl) T_ok CdsOK.nil GamOK.nil 1 [] q_wide.1 q_wide.2.1 q_wide.2.2 (fun _ => rfl) fun r _ => ?_
  repeat' (first | (with_reducible first | exact fun h => h | refine ExE.row (by with_unfolding_all rfl) ?_ | refine And.intro ?_ ?_) | ((with_reducible intro hq); first | exact bne1 hq (by with_reducible assumption) | exact bne1 (by with_reducible assumption) hq | ((simp only [*, BB, cond_true, cond_false, reduceCtorEq] at hq); done) | (revert hq; with_reducible intro _)) | (with_reducible first | exact True.intro | rfl | refine EntLe.row ?_ | exact LeN.ro rfl | exact LeN.rptr | assumption) | ((with_reducible first | refine WkX.chk ?_ | refine Wk.chk ?_ | refine LeL.chk ?_ | refine LeF.chk ?_ | refine Run.mk ?_); (conv => whnf)) | ((with_reducible show LeO _ _); first | refine LeO.ro ?_ | refine LeO.roCap ?_ | refine LeO.nil ?_ (fun _ => rfl)) | ((with_reducible show LeR _ _ _); first | refine LeR.own rfl rfl rfl ?_ | refine LeR.view rfl rfl rfl ?_ ?_ | refine LeR.ro ?_ | refine LeR.roCap ?_ | refine LeR.nil ?_ (fun _ => rfl)) | ((with_reducible first | show drawOK _ _ = true | show lateOK _ _ = true | show drawOK2 _ _ = true | show drawOK3 _ _ = true); kernel_rfl))
  all_goals rw [Bool.eq_iff_iff]
  all_goals simp only [wideB, true_iff, false_iff, Bool.or_eq_true, Bool.and_eq_true, decide_eq_true_eq, decide_eq_false_iff_not, Bool.and_eq_false_iff, beq_iff_eq, beq_eq_false_iff_ne, eq_self, iff_true, Bool.false_eq_true] at *
  all_goals unfold wideP
  all_goals omega

theorem con_nothing : Con prog 75 (fun r : Int => [.v (.int .i32 r)]) (fun r => .sb (nothingB r)) (fun _ => True) := by
  refine Con.of (by kernel_rfl) T_ok CdsOK.nil GamOK.nil 1 [] q_nothing.1 q_nothing.2.1 q_nothing.2.2 (fun _ => rfl) fun r _ => ?_
  repeat' (first | (with_reducible first | exact fun h => h | refine ExE.row (by with_unfolding_all rfl) ?_ | refine And.intro ?_ ?_) | ((with_reducible intro hq); first | exact bne1 hq (by with_reducible assumption) | exact bne1 (by with_reducible assumption) hq | ((simp only [*, BB, cond_true, cond_false, reduceCtorEq] at hq); done) | (revert hq; with_reducible intro _)) | (with_reducible first | exact True.intro | rfl | refine EntLe.row ?_ | exact LeN.ro rfl | exact LeN.rptr | assumption) | ((with_reducible first | refine WkX.chk ?_ | refine Wk.chk ?_ | refine LeL.chk ?_ | refine LeF.chk ?_ | refine Run.mk ?_); (conv => whnf)) | ((with_reducible show LeO _ _); first | refine LeO.ro ?_ | refine LeO.roCap ?_ | refine LeO.nil ?_ (fun _ => rfl)) | ((with_reducible show LeR _ _ _); first | refine LeR.own rfl rfl rfl ?_ | refine LeR.view rfl rfl rfl ?_ ?_ | refine LeR.ro ?_ | refine LeR.roCap ?_ | refine LeR.nil ?_ (fun _ => rfl)) | ((with_reducible first | show drawOK _ _ = true | show lateOK _ _ = true | show drawOK2 _ _ = true | show drawOK3 _ _ = true); kernel_rfl))
  all_goals rw [Bool.eq_iff_iff]
  all_goals simp only [nothingB, true_iff, false_iff, Bool.or_eq_true, Bool.and_eq_true, decide_eq_true_eq, decide_eq_false_iff_not, Bool.and_eq_false_iff, beq_iff_eq, beq_eq_false_iff_ne, eq_self, iff_true, Bool.false_eq_true] at *
  all_goals unfold nothingP
  all_goals omega

theorem con_width : Con prog 64 (fun r : Int => [.v (.int .i32 r)]) (fun r => .v (.int .i64 (widthI r))) (fun _ => True) := by
  refine Con.of (by kernel_rfl) T_ok CdsOK.nil (.con con_nothing (.con con_wide GamOK.nil)) 2 [] q_width.1 q_width.2.1 q_width.2.2 (fun _ => rfl) fun r _ => ?_
  repeat' (first | (with_reducible first | refine ⟨_, ⟨.cons (.v _) .nil, trivial⟩, ?_⟩ | exact fun h => h | refine ExE.row (by with_unfolding_all rfl) ?_ | refine And.intro ?_ ?_) | ((with_reducible intro hq); first | exact bne1 hq (by with_reducible assumption) | exact bne1 (by with_reducible assumption) hq | ((simp only [*, BB, cond_true, cond_false, reduceCtorEq] at hq); done) | (revert hq; with_reducible intro _)) | (with_reducible first | exact True.intro | rfl | refine EntLe.row ?_ | exact LeN.ro rfl | exact LeN.rptr | assumption) | ((with_reducible first | refine WkX.chk ?_ | refine Wk.chk ?_ | refine LeL.chk ?_ | refine LeF.chk ?_ | refine Run.mk ?_); (conv => whnf)) | ((with_reducible show LeO _ _); first | refine LeO.ro ?_ | refine LeO.roCap ?_ | refine LeO.nil ?_ (fun _ => rfl)) | ((with_reducible show LeR _ _ _); first | refine LeR.own rfl rfl rfl ?_ | refine LeR.view rfl rfl rfl ?_ ?_ | refine LeR.ro ?_ | refine LeR.roCap ?_ | refine LeR.nil ?_ (fun _ => rfl)) | ((with_reducible first | show drawOK _ _ = true | show lateOK _ _ = true | show drawOK2 _ _ = true | show drawOK3 _ _ = true); kernel_rfl))
  all_goals simp_all [widthI]
end Go.SX.Try
/- Contracts of wrap's one. -/
namespace Go.SX.Try
open Go.Proofs Go.Proofs.Try Go.SX.Plain
theorem q_one : fact 48 f48 := ⟨by kernel_rfl, rfl, by kernel_rfl⟩
theorem con_one : Con prog 48 (fun ((r, l) : Int × ByteArray) => [.v (.int .i32 r), .v (.string l)]) (fun (r, l) => .sb (oneB r l)) (fun _ => True) := by
  refine Con.of (by kernel_rfl) T_ok CdsOK.nil GamOK.nil 2 [] q_one.1 q_one.2.1 q_one.2.2 (fun _ => rfl) fun i _ => ?_
  obtain ⟨r, l⟩ := i
  repeat' (first | (with_reducible first | exact fun h => h | refine ExE.row (by with_unfolding_all rfl) ?_ | refine And.intro ?_ ?_) | ((with_reducible intro hq); first | exact bne1 hq (by with_reducible assumption) | exact bne1 (by with_reducible assumption) hq | ((simp only [*, BB, cond_true, cond_false, reduceCtorEq] at hq); done) | (revert hq; with_reducible intro _)) | (with_reducible first | exact True.intro | rfl | refine EntLe.row ?_ | exact LeN.ro rfl | exact LeN.rptr | assumption) | ((with_reducible first | refine WkX.chk ?_ | refine Wk.chk ?_ | refine LeL.chk ?_ | refine LeF.chk ?_ | refine Run.mk ?_); (conv => whnf)) | ((with_reducible show LeO _ _); first | refine LeO.ro ?_ | refine LeO.roCap ?_ | refine LeO.nil ?_ (fun _ => rfl)) | ((with_reducible show LeR _ _ _); first | refine LeR.own rfl rfl rfl ?_ | refine LeR.view rfl rfl rfl ?_ ?_ | refine LeR.ro ?_ | refine LeR.roCap ?_ | refine LeR.nil ?_ (fun _ => rfl)) | ((with_reducible first | show drawOK _ _ = true | show lateOK _ _ = true | show drawOK2 _ _ = true | show drawOK3 _ _ = true); kernel_rfl))
  refine loopI Nat [] (fun _ => []) (fun pos => [(0, .iter l pos)]) (fun pos => oneB r l = (signsFrom l pos).any (fun p => ((p.2 : Int) == r))) (fun pos => l.size - pos) 0 rfl (Wk.chk ?_) fun pos hpos => ?_
  · ((conv => whnf); repeat' (first | (with_reducible first | exact fun h => h | refine ExE.row (by with_unfolding_all rfl) ?_ | refine And.intro ?_ ?_) | ((with_reducible intro hq); first | exact bne1 hq (by with_reducible assumption) | exact bne1 (by with_reducible assumption) hq | ((simp only [*, BB, cond_true, cond_false, reduceCtorEq] at hq); done) | (revert hq; with_reducible intro _)) | (with_reducible first | exact True.intro | rfl | refine EntLe.row ?_ | exact LeN.ro rfl | exact LeN.rptr | assumption) | ((with_reducible first | refine WkX.chk ?_ | refine Wk.chk ?_ | refine LeL.chk ?_ | refine LeF.chk ?_ | refine Run.mk ?_); (conv => whnf)) | ((with_reducible show LeO _ _); first | refine LeO.ro ?_ | refine LeO.roCap ?_ | refine LeO.nil ?_ (fun _ => rfl)) | ((with_reducible show LeR _ _ _); first | refine LeR.own rfl rfl rfl ?_ | refine LeR.view rfl rfl rfl ?_ ?_ | refine LeR.ro ?_ | refine LeR.roCap ?_ | refine LeR.nil ?_ (fun _ => rfl)) | ((with_reducible first | show drawOK _ _ = true | show lateOK _ _ = true | show drawOK2 _ _ = true | show drawOK3 _ _ = true); kernel_rfl)))
  repeat' (first | (with_reducible first | exact fun h => h | refine ExE.row (by with_unfolding_all rfl) ?_ | refine And.intro ?_ ?_) | ((with_reducible intro hq); first | exact bne1 hq (by with_reducible assumption) | exact bne1 (by with_reducible assumption) hq | ((simp only [*, BB, cond_true, cond_false, reduceCtorEq] at hq); done) | (revert hq; with_reducible intro _)) | (with_reducible first | exact True.intro | rfl | refine EntLe.row ?_ | exact LeN.ro rfl | exact LeN.rptr | assumption) | ((with_reducible first | refine WkX.chk ?_ | refine Wk.chk ?_ | refine LeL.chk ?_ | refine LeF.chk ?_ | refine Run.mk ?_); (conv => whnf)) | ((with_reducible show LeO _ _); first | refine LeO.ro ?_ | refine LeO.roCap ?_ | refine LeO.nil ?_ (fun _ => rfl)) | ((with_reducible show LeR _ _ _); first | refine LeR.own rfl rfl rfl ?_ | refine LeR.view rfl rfl rfl ?_ ?_ | refine LeR.ro ?_ | refine LeR.roCap ?_ | refine LeR.nil ?_ (fun _ => rfl)) | ((with_reducible first | show drawOK _ _ = true | show lateOK _ _ = true | show drawOK2 _ _ = true | show drawOK3 _ _ = true); kernel_rfl))
  · rename_i hlt heq
    have heq : ((((Utf8.decode l pos).1 : Nat) : Int) == r) = true := heq
    rw [hpos, signsFrom_step hlt, List.any_cons, heq]
    rfl
  · rename_i hlt heq
    have heq : ((((Utf8.decode l pos).1 : Nat) : Int) == r) = false := heq
    refine ⟨pos + (Utf8.decode l pos).2, ⟨?_, ?_⟩, Wk.chk ?_⟩
    · rw [hpos, signsFrom_step hlt, List.any_cons, heq]
      rfl
    · have := width_pos l pos
      dsimp only
      omega
    · ((conv => whnf); repeat' (first | (with_reducible first | exact fun h => h | refine ExE.row (by with_unfolding_all rfl) ?_ | refine And.intro ?_ ?_) | ((with_reducible intro hq); first | exact bne1 hq (by with_reducible assumption) | exact bne1 (by with_reducible assumption) hq | ((simp only [*, BB, cond_true, cond_false, reduceCtorEq] at hq); done) | (revert hq; with_reducible intro _)) | (with_reducible first | exact True.intro | rfl | refine EntLe.row ?_ | exact LeN.ro rfl | exact LeN.rptr | assumption) | ((with_reducible first | refine WkX.chk ?_ | refine Wk.chk ?_ | refine LeL.chk ?_ | refine LeF.chk ?_ | refine Run.mk ?_); (conv => whnf)) | ((with_reducible show LeO _ _); first | refine LeO.ro ?_ | refine LeO.roCap ?_ | refine LeO.nil ?_ (fun _ => rfl)) | ((with_reducible show LeR _ _ _); first | refine LeR.own rfl rfl rfl ?_ | refine LeR.view rfl rfl rfl ?_ ?_ | refine LeR.ro ?_ | refine LeR.roCap ?_ | refine LeR.nil ?_ (fun _ => rfl)) | ((with_reducible first | show drawOK _ _ = true | show lateOK _ _ = true | show drawOK2 _ _ = true | show drawOK3 _ _ = true); kernel_rfl)))
  · rename_i hlt
    rw [hpos, signsFrom_end hlt]
    rfl
end Go.SX.Try
/- Contract of wrap's parts. -/
namespace Go.SX.Try
open Go.Proofs Go.Proofs.Try Go.SX.Plain
set_option maxRecDepth 100000
set_option maxHeartbeats 0
set_option linter.unusedSimpArgs false
def C_part : Cdc Part where
  size := 12
  enc p := [.v (.int .i64 p.c.at), .v (.int .i64 p.c.len), .v (.int .i64 p.c.frm), .v (.int .i64 p.c.to), .v (.int .i64 p.c.cells), .v (.int .i32 p.first), .sb p.fin, .sb p.blank, .sb p.wide, .sb p.dash, .sb p.opening, .sb p.closing]
  dec l := match l with
    | [.v (.int _ a), .v (.int _ b), .v (.int _ c), .v (.int _ d), .v (.int _ e), .v (.int _ f), g, h, i, j, k, l] => ⟨⟨a, b, c, d, e⟩, f, bOf g, bOf h, bOf i, bOf j, bOf k, bOf l⟩
    | _ => ⟨⟨0, 0, 0, 0, 0⟩, 0, false, false, false, false, false, false⟩
  d := ⟨⟨0, 0, 0, 0, 0⟩, 0, false, false, false, false, false, false⟩
def D_part : Cds := [(69, ⟨Part, C_part⟩)]
theorem D_part_ok : CdsOK T D_part := .cons ⟨fun _ => rfl, by decide, _, rfl, rfl, by decide⟩ .nil
theorem q_parts : fact 26 f26 := ⟨by kernel_rfl, rfl, by kernel_rfl⟩
theorem q_clusters : fact 33 f33 := ⟨by kernel_rfl, rfl, by kernel_rfl⟩
theorem q_clusters1 : fact 51 f51 := ⟨by kernel_rfl, rfl, by kernel_rfl⟩
theorem q_clusters11 : fact 52 f52 := ⟨by kernel_rfl, rfl, by kernel_rfl⟩
theorem q_takes : fact 53 f53 := ⟨by kernel_rfl, rfl, by kernel_rfl⟩
theorem q_add : fact 54 f54 := ⟨by kernel_rfl, rfl, by kernel_rfl⟩
def gAV : Grp → List AV
  | ⟨⟨a, b, c, d, e⟩, f, l, r⟩ => [.v (.int .i64 a), .v (.int .i64 b), .v (.int .i64 c), .v (.int .i64 d), .v (.int .i64 e), .v (.int .i32 f), .v (.int .i32 l), .sb r]
def gAV' (g : Grp) : List AV := [.v (.int .i64 g.c.at), .v (.int .i64 g.c.len), .v (.int .i64 g.c.frm), .v (.int .i64 g.c.to), .v (.int .i64 g.c.cells), .v (.int .i32 g.first), .v (.int .i32 g.last), .sb g.arrow]
def takesS (rest cs : List AV) : AV × List AV := match rest, cs with
  | [.v (.int _ r)], [.v (.int _ a), .v (.int _ b), .v (.int _ c), .v (.int _ d), .v (.int _ e), .v (.int _ f), .v (.int _ l), ar] => (.sb (takesB ⟨⟨a, b, c, d, e⟩, f, l, bOf ar⟩ r), cs)
  | _, _ => (.junk, cs)
def addS (rest cs : List AV) : AV × List AV := match rest, cs with
  | [.v (.int _ r), .v (.int _ n)], [.v (.int _ a), .v (.int _ b), .v (.int _ c), .v (.int _ d), .v (.int _ e), .v (.int _ f), .v (.int _ l), ar] => (.tup [], gAV' (addG ⟨⟨a, b, c, d, e⟩, f, l, bOf ar⟩ r n))
  | _, _ => (.junk, cs)
theorem con_parts : Con prog 26 (fun s : ByteArray => [.v (.string s)]) (fun s => .ro 12 C_part.enc C_part.d (parts s) none) (fun s => s.size ≤ 2000000) := by
  refine Con.of (by kernel_rfl) T_ok D_part_ok (.inl (J := []) q_clusters.1 q_clusters.2.1 q_clusters.2.2 (.inl (J := []) q_clusters1.1 q_clusters1.2.1 q_clusters1.2.2 (.inl (J := [5]) q_clusters11.1 q_clusters11.2.1 q_clusters11.2.2
    (.meth (J := []) takesS q_takes.1 q_takes.2.1 q_takes.2.2 (.meth (J := []) addS q_add.1 q_add.2.1 q_add.2.2
    (.con con_one (.con con_width (.con con_control (.con con_flag .nil))))))))) 9 [] q_parts.1 q_parts.2.1 q_parts.2.2 (fun _ => rfl) fun s hs => ?_
  repeat' (first | (with_reducible first | exact fun h => h | refine ExE.row (by with_unfolding_all rfl) ?_ | refine And.intro ?_ ?_) | ((with_reducible intro hq); first | exact bne1 hq (by with_reducible assumption) | exact bne1 (by with_reducible assumption) hq | ((simp only [*, BB, cond_true, cond_false, reduceCtorEq] at hq); done) | (revert hq; with_reducible intro _)) | (with_reducible first | exact True.intro | rfl | refine EntLe.row ?_ | exact LeN.ro rfl | exact LeN.rptr | assumption) | ((with_reducible first | refine WkX.chk ?_ | refine Wk.chk ?_ | refine LeL.chk ?_ | refine LeF.chk ?_ | refine Run.mk ?_); (conv => whnf)) | ((with_reducible show LeO _ _); first | refine LeO.ro ?_ | refine LeO.roCap ?_ | refine LeO.nil ?_ (fun _ => rfl)) | ((with_reducible show LeR _ _ _); first | refine LeR.own rfl rfl rfl ?_ | refine LeR.view rfl rfl rfl ?_ ?_ | refine LeR.ro ?_ | refine LeR.roCap ?_ | refine LeR.nil ?_ (fun _ => rfl)) | ((with_reducible first | show drawOK _ _ = true | show lateOK _ _ = true | show drawOK2 _ _ = true | show drawOK3 _ _ = true); kernel_rfl))
  refine loopI St40 [] (fun _ => []) (fun | ⟨pos, at', was, begun, g, l⟩ => [(12, .iter s pos), (11, .box [.sb begun] 4), (10, .box [.v (.int .i32 was)] 21), (9, .box [.v (.int .i64 at')] 3), (8, .box (gAV g) 108), (2, .row C_part l 69 none)])
    (Inv40 s) (fun i => s.size - i.pos) ⟨0, 0, 0, false, Grp.zero, []⟩ (Inv40.zero s) (Wk.chk ?_) fun i hi => ?_
  · ((conv => whnf); repeat' (first | (with_reducible first | exact fun h => h | refine ExE.row (by with_unfolding_all rfl) ?_ | refine And.intro ?_ ?_) | ((with_reducible intro hq); first | exact bne1 hq (by with_reducible assumption) | exact bne1 (by with_reducible assumption) hq | ((simp only [*, BB, cond_true, cond_false, reduceCtorEq] at hq); done) | (revert hq; with_reducible intro _)) | (with_reducible first | exact True.intro | rfl | refine EntLe.row ?_ | exact LeN.ro rfl | exact LeN.rptr | assumption) | ((with_reducible first | refine WkX.chk ?_ | refine Wk.chk ?_ | refine LeL.chk ?_ | refine LeF.chk ?_ | refine Run.mk ?_); (conv => whnf)) | ((with_reducible show LeO _ _); first | refine LeO.ro ?_ | refine LeO.roCap ?_ | refine LeO.nil ?_ (fun _ => rfl)) | ((with_reducible show LeR _ _ _); first | refine LeR.own rfl rfl rfl ?_ | refine LeR.view rfl rfl rfl ?_ ?_ | refine LeR.ro ?_ | refine LeR.roCap ?_ | refine LeR.nil ?_ (fun _ => rfl)) | ((with_reducible first | show drawOK _ _ = true | show lateOK _ _ = true | show drawOK2 _ _ = true | show drawOK3 _ _ = true); kernel_rfl)))
    all_goals rfl
  obtain ⟨pos, at', was, begun, ⟨⟨ca, cl, cf, ct, cc⟩, gf, gl, ga⟩, l⟩ := i
  repeat' (first | (with_reducible first | refine ⟨_, ⟨.cons (.v _) .nil, trivial⟩, ?_⟩ | refine ⟨(_, _), ⟨.cons (.v _) (.cons (.v _) .nil), trivial⟩, ?_⟩ | refine loopI Unit [] (fun _ => []) (fun _ => []) (fun _ => True) (fun _ => 0) () trivial ?_ fun _ _ => ?_ | exact fun h => h | refine ExE.row (by with_unfolding_all rfl) ?_ | refine And.intro ?_ ?_) | ((with_reducible intro hq); first | exact bne1 hq (by with_reducible assumption) | exact bne1 (by with_reducible assumption) hq | ((simp only [*, BB, cond_true, cond_false, reduceCtorEq] at hq); done) | (revert hq; with_reducible intro _)) | (with_reducible first | exact True.intro | rfl | refine EntLe.row ?_ | exact LeN.ro rfl | exact LeN.rptr | assumption) | ((with_reducible first | refine WkX.chk ?_ | refine Wk.chk ?_ | refine LeL.chk ?_ | refine LeF.chk ?_ | refine Run.mk ?_); (conv => whnf)) | ((with_reducible show LeO _ _); first | refine LeO.ro ?_ | refine LeO.roCap ?_ | refine LeO.nil ?_ (fun _ => rfl)) | ((with_reducible show LeR _ _ _); first | refine LeR.own rfl rfl rfl ?_ | refine LeR.view rfl rfl rfl ?_ ?_ | refine LeR.ro ?_ | refine LeR.roCap ?_ | refine LeR.nil ?_ (fun _ => rfl)) | ((with_reducible first | show drawOK _ _ = true | show lateOK _ _ = true | show drawOK2 _ _ = true | show drawOK3 _ _ = true); kernel_rfl))
  · have low' : 0 < pos := by simp_all
    have hi' := hi
    obtain ⟨start, low, place, signs, full, told, all, bound⟩ := hi'
    have low := low low'
    dsimp only at low place signs full told bound
    have hJx : ∃ J : Grp × List Part, J = (preG begun ⟨⟨ca, cl, cf, ct, cc⟩, gf, gl, ga⟩ at' was, l ++ (signOut begun ⟨⟨ca, cl, cf, ct, cc⟩, gf, gl, ga⟩ was).map (partOf s)) := ⟨_, rfl⟩
    obtain ⟨J, hJ⟩ := hJx
    refine joinI (Grp × List Part) [] (fun _ => []) (fun | (g, l) => [(8, .box (gAV g) 108), (2, .row C_part l 69 none)]) (fun j => j = J) ?_ fun j hj => ?_
    · have hbb := Bool.eq_false_or_eq_true begun
      rcases hbb with hb | hb
      case inr =>
        subst hb
        have hp : preG false ⟨⟨ca, cl, cf, ct, cc⟩, gf, gl, ga⟩ at' was = ⟨⟨ca, cl, cf, ct, cc⟩, gf, gl, ga⟩ := rfl
        have ho : signOut false ⟨⟨ca, cl, cf, ct, cc⟩, gf, gl, ga⟩ was = [] := rfl
        rw [hp, ho] at hJ; subst hJ
        clear hp ho all hi full start
        repeat' (first | (with_reducible first | refine ex_eq ?_ | refine ⟨_, ⟨.cons (.v _) .nil, trivial⟩, ?_⟩ | refine ⟨(_, _), ⟨.cons (.v _) (.cons (.v _) .nil), trivial⟩, ?_⟩ | refine loopI Unit [] (fun _ => []) (fun _ => []) (fun _ => True) (fun _ => 0) () trivial ?_ fun _ _ => ?_ | exact fun h => h | refine ExE.row (by with_unfolding_all rfl) ?_ | refine And.intro ?_ ?_) | ((with_reducible intro hq); first | exact bne1 hq (by with_reducible assumption) | exact bne1 (by with_reducible assumption) hq | ((simp only [*, BB, cond_true, cond_false, reduceCtorEq] at hq); done) | (revert hq; with_reducible intro _)) | (with_reducible first | exact True.intro | rfl | refine EntLe.row ?_ | exact LeN.ro rfl | exact LeN.rptr | assumption) | ((with_reducible first | refine WkX.chk ?_ | refine Wk.chk ?_ | refine LeL.chk ?_ | refine LeF.chk ?_ | refine Run.mk ?_); (conv => whnf)) | ((with_reducible show LeO _ _); first | refine LeO.ro ?_ | refine LeO.roCap ?_ | refine LeO.nil ?_ (fun _ => rfl)) | ((with_reducible show LeR _ _ _); first | refine LeR.own rfl rfl rfl ?_ | refine LeR.view rfl rfl rfl ?_ ?_ | refine LeR.ro ?_ | refine LeR.roCap ?_ | refine LeR.nil ?_ (fun _ => rfl)) | ((with_reducible first | show drawOK _ _ = true | show lateOK _ _ = true | show drawOK2 _ _ = true | show drawOK3 _ _ = true); kernel_rfl))
        all_goals (simp only [List.map_nil, List.append_nil]; done)
      case inl =>
        subst hb
        have htt := Bool.eq_false_or_eq_true (takesB ⟨⟨ca, cl, cf, ct, cc⟩, gf, gl, ga⟩ was)
        rcases htt with htk | htk
        case inl =>
          have hp : preG true ⟨⟨ca, cl, cf, ct, cc⟩, gf, gl, ga⟩ at' was = ⟨⟨ca, cl, cf, ct, cc⟩, gf, gl, ga⟩ := by simp [preG, htk]
          have ho : signOut true ⟨⟨ca, cl, cf, ct, cc⟩, gf, gl, ga⟩ was = [] := by simp [signOut, htk]
          rw [hp, ho] at hJ; subst hJ
          clear hp ho all hi full start
          repeat' (first | (with_reducible first | refine ex_eq ?_ | refine ⟨_, ⟨.cons (.v _) .nil, trivial⟩, ?_⟩ | refine ⟨(_, _), ⟨.cons (.v _) (.cons (.v _) .nil), trivial⟩, ?_⟩ | refine loopI Unit [] (fun _ => []) (fun _ => []) (fun _ => True) (fun _ => 0) () trivial ?_ fun _ _ => ?_ | exact fun h => h | refine ExE.row (by with_unfolding_all rfl) ?_ | refine And.intro ?_ ?_) | ((with_reducible intro hq); first | exact bne1 hq (by with_reducible assumption) | exact bne1 (by with_reducible assumption) hq | ((simp only [*, BB, cond_true, cond_false, reduceCtorEq] at hq); done) | (revert hq; with_reducible intro _)) | (with_reducible first | exact True.intro | rfl | refine EntLe.row ?_ | exact LeN.ro rfl | exact LeN.rptr | assumption) | ((with_reducible first | refine WkX.chk ?_ | refine Wk.chk ?_ | refine LeL.chk ?_ | refine LeF.chk ?_ | refine Run.mk ?_); (conv => whnf)) | ((with_reducible show LeO _ _); first | refine LeO.ro ?_ | refine LeO.roCap ?_ | refine LeO.nil ?_ (fun _ => rfl)) | ((with_reducible show LeR _ _ _); first | refine LeR.own rfl rfl rfl ?_ | refine LeR.view rfl rfl rfl ?_ ?_ | refine LeR.ro ?_ | refine LeR.roCap ?_ | refine LeR.nil ?_ (fun _ => rfl)) | ((with_reducible first | show drawOK _ _ = true | show lateOK _ _ = true | show drawOK2 _ _ = true | show drawOK3 _ _ = true); kernel_rfl))
          all_goals (try dsimp only [C_part, bOf])
          all_goals first
            | omega
            | (refine Fits.i64 ?_ ?_ <;> omega)
            | (simp only [signAt]; done)
            | (with_reducible exact takes_1 (by assumption))
            | (with_reducible exact takes_2 (by first | exact .inl (by assumption) | exact .inr (by assumption)) (by assumption))
            | (with_reducible exact takes_3 (by first | exact .inl (by assumption) | exact .inr (by assumption)) (by assumption))
            | (with_reducible exact takes_4 (by first | exact .inl (by assumption) | exact .inr (by assumption)) (by assumption) (by assumption))
            | (simp only [List.map_nil, List.append_nil]; done)
            | ((with_reducible show (_ : Bool) = true); (first | (simp_all only [Bool.and_eq_true, and_self]; done) | (simp only [*, Bool.not_false, Bool.not_true, Bool.and_true, Bool.true_and]; done)))
            | (simp only [List.length_cons, List.length_nil]; omega)
            | skip
          all_goals simp only [List.map_cons, List.map_nil, partOf, firstOf, signAt]
          all_goals split
          all_goals first
            | contradiction
            | (simp only [partOfR, blankB, blanks, dashes, openings, closings]; done)
        case inr =>
          have hp : preG true ⟨⟨ca, cl, cf, ct, cc⟩, gf, gl, ga⟩ at' was = ⟨⟨at', 0, ct, ct, 0⟩, 0, 0, false⟩ := by simp [preG, htk]
          have ho : signOut true ⟨⟨ca, cl, cf, ct, cc⟩, gf, gl, ga⟩ was = [⟨ca, cl, cf, ct, cc⟩] := by simp [signOut, htk]
          rw [hp, ho] at hJ; subst hJ
          have full := full rfl
          clear hp ho all hi start
          repeat' (first | (with_reducible first | refine ex_eq ?_ | refine ⟨_, ⟨.cons (.v _) .nil, trivial⟩, ?_⟩ | refine ⟨(_, _), ⟨.cons (.v _) (.cons (.v _) .nil), trivial⟩, ?_⟩ | refine loopI Unit [] (fun _ => []) (fun _ => []) (fun _ => True) (fun _ => 0) () trivial ?_ fun _ _ => ?_ | exact fun h => h | refine ExE.row (by with_unfolding_all rfl) ?_ | refine And.intro ?_ ?_) | ((with_reducible intro hq); first | exact bne1 hq (by with_reducible assumption) | exact bne1 (by with_reducible assumption) hq | ((simp only [*, BB, cond_true, cond_false, reduceCtorEq] at hq); done) | (revert hq; with_reducible intro _)) | (with_reducible first | exact True.intro | rfl | refine EntLe.row ?_ | exact LeN.ro rfl | exact LeN.rptr | assumption) | ((with_reducible first | refine WkX.chk ?_ | refine Wk.chk ?_ | refine LeL.chk ?_ | refine LeF.chk ?_ | refine Run.mk ?_); (conv => whnf)) | ((with_reducible show LeO _ _); first | refine LeO.ro ?_ | refine LeO.roCap ?_ | refine LeO.nil ?_ (fun _ => rfl)) | ((with_reducible show LeR _ _ _); first | refine LeR.own rfl rfl rfl ?_ | refine LeR.view rfl rfl rfl ?_ ?_ | refine LeR.ro ?_ | refine LeR.roCap ?_ | refine LeR.nil ?_ (fun _ => rfl)) | ((with_reducible first | show drawOK _ _ = true | show lateOK _ _ = true | show drawOK2 _ _ = true | show drawOK3 _ _ = true); kernel_rfl))
          all_goals (try dsimp only [C_part, bOf])
          all_goals first
            | omega
            | (refine Fits.i64 ?_ ?_ <;> omega)
            | (simp only [signAt]; done)
            | (with_reducible exact takes_1 (by assumption))
            | (with_reducible exact takes_2 (by first | exact .inl (by assumption) | exact .inr (by assumption)) (by assumption))
            | (with_reducible exact takes_3 (by first | exact .inl (by assumption) | exact .inr (by assumption)) (by assumption))
            | (with_reducible exact takes_4 (by first | exact .inl (by assumption) | exact .inr (by assumption)) (by assumption) (by assumption))
            | (simp only [List.map_nil, List.append_nil]; done)
            | ((with_reducible show (_ : Bool) = true); (first | (simp_all only [Bool.and_eq_true, and_self]; done) | (simp only [*, Bool.not_false, Bool.not_true, Bool.and_true, Bool.true_and]; done)))
            | (simp only [List.length_cons, List.length_nil]; omega)
            | skip
          all_goals simp only [List.map_cons, List.map_nil, partOf, firstOf, signAt]
          all_goals split
          all_goals first
            | contradiction
            | (simp only [partOfR, blankB, blanks, dashes, openings, closings]; done)

    · obtain ⟨g', l'⟩ := j
      have hjj := Prod.mk.inj (hj.trans hJ)
      obtain ⟨hg, hl⟩ := hjj
      clear hJ
      have hzz := hi.pre low' hg
      obtain ⟨p1, p2, p3, p4, p5, p6⟩ := hzz
      clear hj
      have hnext := St40.next_pos (s := s) (i := ⟨pos, at', was, begun, ⟨⟨ca, cl, cf, ct, cc⟩, gf, gl, ga⟩, l⟩) low' hg hl
      have hinv := hi.next (by assumption)
      have hlt := St40.next_lt (s := s) (i := ⟨pos, at', was, begun, ⟨⟨ca, cl, cf, ct, cc⟩, gf, gl, ga⟩, l⟩) (by assumption)
      rw [hnext] at hinv hlt
      clear hnext hg hl start full told all hi
      obtain ⟨⟨ca, cl, cf, ct, cc⟩, gf, gl, ga⟩ := g'
      dsimp only at p1 p2 p3 p4 p5 p6
      have hxx : ∃ g2, addG ⟨⟨ca, cl, cf, ct, cc⟩, gf, gl, ga⟩ was (↑pos - at') = g2 := ⟨_, rfl⟩
      obtain ⟨g2, hg2⟩ := hxx
      rw [hg2] at hinv hlt
      obtain ⟨⟨a2, b2, c2, d2, e2⟩, f2, l2, r2⟩ := g2
      repeat' (first | (with_reducible first | refine ex_of _ ⟨hinv, hlt⟩ ?_ | refine ⟨_, ⟨.cons (.v _) .nil, trivial⟩, ?_⟩ | refine ⟨(_, _), ⟨.cons (.v _) (.cons (.v _) .nil), trivial⟩, ?_⟩ | refine loopI Unit [] (fun _ => []) (fun _ => []) (fun _ => True) (fun _ => 0) () trivial ?_ fun _ _ => ?_ | exact fun h => h | refine ExE.row (by with_unfolding_all rfl) ?_ | refine And.intro ?_ ?_) | ((with_reducible intro hq); first | exact bne1 hq (by with_reducible assumption) | exact bne1 (by with_reducible assumption) hq | ((simp only [*, BB, cond_true, cond_false, reduceCtorEq] at hq); done) | (revert hq; with_reducible intro _)) | (with_reducible first | exact True.intro | rfl | refine EntLe.row ?_ | exact LeN.ro rfl | exact LeN.rptr | assumption) | ((with_reducible first | refine WkX.chk ?_ | refine Wk.chk ?_ | refine LeL.chk ?_ | refine LeF.chk ?_ | refine Run.mk ?_); (conv => whnf)) | ((with_reducible show LeO _ _); first | refine LeO.ro ?_ | refine LeO.roCap ?_ | refine LeO.nil ?_ (fun _ => rfl)) | ((with_reducible show LeR _ _ _); first | refine LeR.own rfl rfl rfl ?_ | refine LeR.view rfl rfl rfl ?_ ?_ | refine LeR.ro ?_ | refine LeR.roCap ?_ | refine LeR.nil ?_ (fun _ => rfl)) | ((with_reducible first | show drawOK _ _ = true | show lateOK _ _ = true | show drawOK2 _ _ = true | show drawOK3 _ _ = true); kernel_rfl))
      all_goals (try clear hinv hlt)
      all_goals (try dsimp only [bOf])
      all_goals first
        | omega
        | (refine Fits.i64 ?_ ?_ <;> omega)
        | (simp only [signAt]; done)
        | (rw [hg2]; done)
        | (rw [add_1 (by assumption)]; done)
        | (rw [add_2 (by assumption) (by assumption)]; done)
        | (rw [add_3 (by assumption) (by assumption)]; done)
        | ((with_reducible show (_ : Bool) = true); (first | (simp_all only [Bool.and_eq_true, and_self]; done) | (simp only [*, Bool.not_false, Bool.not_true, Bool.and_true, Bool.true_and]; done)))
  · have hnext := St40.next_zero (s := s) (i := ⟨pos, at', was, begun, ⟨⟨ca, cl, cf, ct, cc⟩, gf, gl, ga⟩, l⟩) (by simp_all)
    have hinv := hi.next (by assumption)
    have hlt := St40.next_lt (s := s) (i := ⟨pos, at', was, begun, ⟨⟨ca, cl, cf, ct, cc⟩, gf, gl, ga⟩, l⟩) (by assumption)
    rw [hnext] at hinv hlt
    refine ⟨_, ⟨hinv, hlt⟩, ?_⟩
    clear hinv hlt hnext
    repeat' (first | (with_reducible first | exact fun h => h | refine ExE.row (by with_unfolding_all rfl) ?_ | refine And.intro ?_ ?_) | ((with_reducible intro hq); first | exact bne1 hq (by with_reducible assumption) | exact bne1 (by with_reducible assumption) hq | ((simp only [*, BB, cond_true, cond_false, reduceCtorEq] at hq); done) | (revert hq; with_reducible intro _)) | (with_reducible first | exact True.intro | rfl | refine EntLe.row ?_ | exact LeN.ro rfl | exact LeN.rptr | assumption) | ((with_reducible first | refine WkX.chk ?_ | refine Wk.chk ?_ | refine LeL.chk ?_ | refine LeF.chk ?_ | refine Run.mk ?_); (conv => whnf)) | ((with_reducible show LeO _ _); first | refine LeO.ro ?_ | refine LeO.roCap ?_ | refine LeO.nil ?_ (fun _ => rfl)) | ((with_reducible show LeR _ _ _); first | refine LeR.own rfl rfl rfl ?_ | refine LeR.view rfl rfl rfl ?_ ?_ | refine LeR.ro ?_ | refine LeR.roCap ?_ | refine LeR.nil ?_ (fun _ => rfl)) | ((with_reducible first | show drawOK _ _ = true | show lateOK _ _ = true | show drawOK2 _ _ = true | show drawOK3 _ _ = true); kernel_rfl))
    all_goals rfl
  · have hne : s.size ≠ 0 := by
      intro h
      have : s = ⟨#[]⟩ := by
        cases s with | mk d => have : d.size = 0 := h; simp_all
      simp_all
    have hi' := hi
    obtain ⟨start, low, place, signs, full, told, all, bound⟩ := hi'
    dsimp only at low place signs full told bound
    have hnp : ¬ pos < s.size := by assumption
    have low' : 0 < pos := by omega
    have low := low low'
    have hrest := rest_end hnp at' was begun ⟨⟨ca, cl, cf, ct, cc⟩, gf, gl, ga⟩
    rw [if_neg hne, signGrp_eq] at hrest
    dsimp only at all
    rw [hrest] at all
    clear hrest
    have hJx : ∃ J : Grp × List Part, J = (preG begun ⟨⟨ca, cl, cf, ct, cc⟩, gf, gl, ga⟩ at' was, l ++ (signOut begun ⟨⟨ca, cl, cf, ct, cc⟩, gf, gl, ga⟩ was).map (partOf s)) := ⟨_, rfl⟩
    obtain ⟨J, hJ⟩ := hJx
    refine joinI (Grp × List Part) [] (fun _ => []) (fun | (g, l) => [(8, .box (gAV g) 108), (2, .row C_part l 69 none)]) (fun j => j = J) ?_ fun j hj => ?_
    · have hbb := Bool.eq_false_or_eq_true begun
      rcases hbb with hb | hb
      case inr =>
        subst hb
        have hp : preG false ⟨⟨ca, cl, cf, ct, cc⟩, gf, gl, ga⟩ at' was = ⟨⟨ca, cl, cf, ct, cc⟩, gf, gl, ga⟩ := rfl
        have ho : signOut false ⟨⟨ca, cl, cf, ct, cc⟩, gf, gl, ga⟩ was = [] := rfl
        rw [hp, ho] at hJ; subst hJ
        clear hp ho all hi full start
        repeat' (first | (with_reducible first | refine ex_eq ?_ | refine ⟨_, ⟨.cons (.v _) .nil, trivial⟩, ?_⟩ | refine ⟨(_, _), ⟨.cons (.v _) (.cons (.v _) .nil), trivial⟩, ?_⟩ | refine loopI Unit [] (fun _ => []) (fun _ => []) (fun _ => True) (fun _ => 0) () trivial ?_ fun _ _ => ?_ | exact fun h => h | refine ExE.row (by with_unfolding_all rfl) ?_ | refine And.intro ?_ ?_) | ((with_reducible intro hq); first | exact bne1 hq (by with_reducible assumption) | exact bne1 (by with_reducible assumption) hq | ((simp only [*, BB, cond_true, cond_false, reduceCtorEq] at hq); done) | (revert hq; with_reducible intro _)) | (with_reducible first | exact True.intro | rfl | refine EntLe.row ?_ | exact LeN.ro rfl | exact LeN.rptr | assumption) | ((with_reducible first | refine WkX.chk ?_ | refine Wk.chk ?_ | refine LeL.chk ?_ | refine LeF.chk ?_ | refine Run.mk ?_); (conv => whnf)) | ((with_reducible show LeO _ _); first | refine LeO.ro ?_ | refine LeO.roCap ?_ | refine LeO.nil ?_ (fun _ => rfl)) | ((with_reducible show LeR _ _ _); first | refine LeR.own rfl rfl rfl ?_ | refine LeR.view rfl rfl rfl ?_ ?_ | refine LeR.ro ?_ | refine LeR.roCap ?_ | refine LeR.nil ?_ (fun _ => rfl)) | ((with_reducible first | show drawOK _ _ = true | show lateOK _ _ = true | show drawOK2 _ _ = true | show drawOK3 _ _ = true); kernel_rfl))
        all_goals (simp only [List.map_nil, List.append_nil]; done)
      case inl =>
        subst hb
        have htt := Bool.eq_false_or_eq_true (takesB ⟨⟨ca, cl, cf, ct, cc⟩, gf, gl, ga⟩ was)
        rcases htt with htk | htk
        case inl =>
          have hp : preG true ⟨⟨ca, cl, cf, ct, cc⟩, gf, gl, ga⟩ at' was = ⟨⟨ca, cl, cf, ct, cc⟩, gf, gl, ga⟩ := by simp [preG, htk]
          have ho : signOut true ⟨⟨ca, cl, cf, ct, cc⟩, gf, gl, ga⟩ was = [] := by simp [signOut, htk]
          rw [hp, ho] at hJ; subst hJ
          clear hp ho all hi full start
          repeat' (first | (with_reducible first | refine ex_eq ?_ | refine ⟨_, ⟨.cons (.v _) .nil, trivial⟩, ?_⟩ | refine ⟨(_, _), ⟨.cons (.v _) (.cons (.v _) .nil), trivial⟩, ?_⟩ | refine loopI Unit [] (fun _ => []) (fun _ => []) (fun _ => True) (fun _ => 0) () trivial ?_ fun _ _ => ?_ | exact fun h => h | refine ExE.row (by with_unfolding_all rfl) ?_ | refine And.intro ?_ ?_) | ((with_reducible intro hq); first | exact bne1 hq (by with_reducible assumption) | exact bne1 (by with_reducible assumption) hq | ((simp only [*, BB, cond_true, cond_false, reduceCtorEq] at hq); done) | (revert hq; with_reducible intro _)) | (with_reducible first | exact True.intro | rfl | refine EntLe.row ?_ | exact LeN.ro rfl | exact LeN.rptr | assumption) | ((with_reducible first | refine WkX.chk ?_ | refine Wk.chk ?_ | refine LeL.chk ?_ | refine LeF.chk ?_ | refine Run.mk ?_); (conv => whnf)) | ((with_reducible show LeO _ _); first | refine LeO.ro ?_ | refine LeO.roCap ?_ | refine LeO.nil ?_ (fun _ => rfl)) | ((with_reducible show LeR _ _ _); first | refine LeR.own rfl rfl rfl ?_ | refine LeR.view rfl rfl rfl ?_ ?_ | refine LeR.ro ?_ | refine LeR.roCap ?_ | refine LeR.nil ?_ (fun _ => rfl)) | ((with_reducible first | show drawOK _ _ = true | show lateOK _ _ = true | show drawOK2 _ _ = true | show drawOK3 _ _ = true); kernel_rfl))
          all_goals (try dsimp only [C_part, bOf])
          all_goals first
            | omega
            | (refine Fits.i64 ?_ ?_ <;> omega)
            | (simp only [signAt]; done)
            | (with_reducible exact takes_1 (by assumption))
            | (with_reducible exact takes_2 (by first | exact .inl (by assumption) | exact .inr (by assumption)) (by assumption))
            | (with_reducible exact takes_3 (by first | exact .inl (by assumption) | exact .inr (by assumption)) (by assumption))
            | (with_reducible exact takes_4 (by first | exact .inl (by assumption) | exact .inr (by assumption)) (by assumption) (by assumption))
            | (simp only [List.map_nil, List.append_nil]; done)
            | ((with_reducible show (_ : Bool) = true); (first | (simp_all only [Bool.and_eq_true, and_self]; done) | (simp only [*, Bool.not_false, Bool.not_true, Bool.and_true, Bool.true_and]; done)))
            | (simp only [List.length_cons, List.length_nil]; omega)
            | skip
          all_goals simp only [List.map_cons, List.map_nil, partOf, firstOf, signAt]
          all_goals split
          all_goals first
            | contradiction
            | (simp only [partOfR, blankB, blanks, dashes, openings, closings]; done)
        case inr =>
          have hp : preG true ⟨⟨ca, cl, cf, ct, cc⟩, gf, gl, ga⟩ at' was = ⟨⟨at', 0, ct, ct, 0⟩, 0, 0, false⟩ := by simp [preG, htk]
          have ho : signOut true ⟨⟨ca, cl, cf, ct, cc⟩, gf, gl, ga⟩ was = [⟨ca, cl, cf, ct, cc⟩] := by simp [signOut, htk]
          rw [hp, ho] at hJ; subst hJ
          have full := full rfl
          clear hp ho all hi start
          repeat' (first | (with_reducible first | refine ex_eq ?_ | refine ⟨_, ⟨.cons (.v _) .nil, trivial⟩, ?_⟩ | refine ⟨(_, _), ⟨.cons (.v _) (.cons (.v _) .nil), trivial⟩, ?_⟩ | refine loopI Unit [] (fun _ => []) (fun _ => []) (fun _ => True) (fun _ => 0) () trivial ?_ fun _ _ => ?_ | exact fun h => h | refine ExE.row (by with_unfolding_all rfl) ?_ | refine And.intro ?_ ?_) | ((with_reducible intro hq); first | exact bne1 hq (by with_reducible assumption) | exact bne1 (by with_reducible assumption) hq | ((simp only [*, BB, cond_true, cond_false, reduceCtorEq] at hq); done) | (revert hq; with_reducible intro _)) | (with_reducible first | exact True.intro | rfl | refine EntLe.row ?_ | exact LeN.ro rfl | exact LeN.rptr | assumption) | ((with_reducible first | refine WkX.chk ?_ | refine Wk.chk ?_ | refine LeL.chk ?_ | refine LeF.chk ?_ | refine Run.mk ?_); (conv => whnf)) | ((with_reducible show LeO _ _); first | refine LeO.ro ?_ | refine LeO.roCap ?_ | refine LeO.nil ?_ (fun _ => rfl)) | ((with_reducible show LeR _ _ _); first | refine LeR.own rfl rfl rfl ?_ | refine LeR.view rfl rfl rfl ?_ ?_ | refine LeR.ro ?_ | refine LeR.roCap ?_ | refine LeR.nil ?_ (fun _ => rfl)) | ((with_reducible first | show drawOK _ _ = true | show lateOK _ _ = true | show drawOK2 _ _ = true | show drawOK3 _ _ = true); kernel_rfl))
          all_goals (try dsimp only [C_part, bOf])
          all_goals first
            | omega
            | (refine Fits.i64 ?_ ?_ <;> omega)
            | (simp only [signAt]; done)
            | (with_reducible exact takes_1 (by assumption))
            | (with_reducible exact takes_2 (by first | exact .inl (by assumption) | exact .inr (by assumption)) (by assumption))
            | (with_reducible exact takes_3 (by first | exact .inl (by assumption) | exact .inr (by assumption)) (by assumption))
            | (with_reducible exact takes_4 (by first | exact .inl (by assumption) | exact .inr (by assumption)) (by assumption) (by assumption))
            | (simp only [List.map_nil, List.append_nil]; done)
            | ((with_reducible show (_ : Bool) = true); (first | (simp_all only [Bool.and_eq_true, and_self]; done) | (simp only [*, Bool.not_false, Bool.not_true, Bool.and_true, Bool.true_and]; done)))
            | (simp only [List.length_cons, List.length_nil]; omega)
            | skip
          all_goals simp only [List.map_cons, List.map_nil, partOf, firstOf, signAt]
          all_goals split
          all_goals first
            | contradiction
            | (simp only [partOfR, blankB, blanks, dashes, openings, closings]; done)

    · obtain ⟨g', l'⟩ := j
      have hjj := Prod.mk.inj (hj.trans hJ)
      obtain ⟨hg, hl⟩ := hjj
      clear hJ
      have hzz := hi.pre low' hg
      obtain ⟨p1, p2, p3, p4, p5, p6⟩ := hzz
      clear hj
      rw [← hg, List.map_append, ← List.append_assoc, ← hl] at all
      have hlen : (l'.length : Int) ≤ ct := by
        rw [hl]
        unfold signOut
        split
        · have := full (by simp_all)
          simp only [List.length_append, List.length_map, List.length_cons, List.length_nil]; omega
        · simp only [List.length_append, List.length_map, List.length_nil]; omega
      clear hg hl start full told hi
      obtain ⟨⟨ca, cl, cf, ct, cc⟩, gf, gl, ga⟩ := g'
      dsimp only at p1 p2 p3 p4 p5 p6
      have hzz := addG_c ⟨⟨ca, cl, cf, ct, cc⟩, gf, gl, ga⟩ was (↑s.size - at')
      obtain ⟨q1, q2, q3, q4⟩ := hzz
      have hxx : ∃ g2, addG ⟨⟨ca, cl, cf, ct, cc⟩, gf, gl, ga⟩ was (↑s.size - at') = g2 := ⟨_, rfl⟩
      obtain ⟨g2, hA⟩ := hxx
      rw [hA] at all q1 q2 q3 q4
      obtain ⟨⟨a2, b2, c2, d2, e2⟩, f2, l2, r2⟩ := g2
      dsimp only at q1 q2 q3 q4
      subst q1 q2 q3 q4
      have hzz := add_inj hA
      obtain ⟨k1, k2, k3⟩ := hzz
      repeat' (first | (with_reducible first | refine ⟨_, ⟨.cons (.v _) .nil, trivial⟩, ?_⟩ | refine ⟨(_, _), ⟨.cons (.v _) (.cons (.v _) .nil), trivial⟩, ?_⟩ | refine loopI Unit [] (fun _ => []) (fun _ => []) (fun _ => True) (fun _ => 0) () trivial ?_ fun _ _ => ?_ | exact fun h => h | refine ExE.row (by with_unfolding_all rfl) ?_ | refine And.intro ?_ ?_) | ((with_reducible intro hq); first | exact bne1 hq (by with_reducible assumption) | exact bne1 (by with_reducible assumption) hq | ((simp only [*, BB, cond_true, cond_false, reduceCtorEq] at hq); done) | (revert hq; with_reducible intro _)) | (with_reducible first | exact True.intro | rfl | refine EntLe.row ?_ | exact LeN.ro rfl | exact LeN.rptr | assumption) | ((with_reducible first | refine WkX.chk ?_ | refine Wk.chk ?_ | refine LeL.chk ?_ | refine LeF.chk ?_ | refine Run.mk ?_); (conv => whnf)) | ((with_reducible show LeO _ _); first | refine LeO.ro ?_ | refine LeO.roCap ?_ | refine LeO.nil ?_ (fun _ => rfl)) | ((with_reducible show LeR _ _ _); first | refine LeR.own rfl rfl rfl ?_ | refine LeR.view rfl rfl rfl ?_ ?_ | refine LeR.ro ?_ | refine LeR.roCap ?_ | refine LeR.nil ?_ (fun _ => rfl)) | ((with_reducible first | show drawOK _ _ = true | show lateOK _ _ = true | show drawOK2 _ _ = true | show drawOK3 _ _ = true); kernel_rfl))
      all_goals (try dsimp only [C_part, bOf])
      all_goals (try simp only [hA] at *)
      all_goals first
        | omega
        | (refine Fits.i64 ?_ ?_ <;> omega)
        | (simp only [signAt]; done)
        | (with_reducible exact (k1 (by assumption)).1)
        | (with_reducible exact (k1 (by assumption)).2.1)
        | (with_reducible exact (k1 (by assumption)).2.2.1)
        | (with_reducible exact (k1 (by assumption)).2.2.2)
        | (with_reducible exact (k2 (by assumption) (by assumption)).1)
        | (with_reducible exact (k2 (by assumption) (by assumption)).2.1)
        | (with_reducible exact (k2 (by assumption) (by assumption)).2.2.1)
        | (with_reducible exact (k2 (by assumption) (by assumption)).2.2.2)
        | (with_reducible exact (k3 (by assumption) (by assumption)).1)
        | (with_reducible exact (k3 (by assumption) (by assumption)).2.1)
        | (with_reducible exact (k3 (by assumption) (by assumption)).2.2.1)
        | (with_reducible exact (k3 (by assumption) (by assumption)).2.2.2)
        | ((with_reducible show (_ : Bool) = true); (first | (simp_all only [Bool.and_eq_true, and_self]; done) | (simp only [*, Bool.not_false, Bool.not_true, Bool.and_true, Bool.true_and]; done)))
        | (simp only [List.length_cons, List.length_nil]; omega)
        | skip
      all_goals rw [all]
      all_goals simp only [List.map_cons, List.map_nil, partOf, firstOf, signAt]
      all_goals split
      all_goals first
        | contradiction
        | (simp only [partOfR, blankB, blanks, dashes, openings, closings]; done)
  · have : s.size = 0 := by
      have h : (!decide (s = ⟨#[]⟩)) = false := by assumption
      simp only [Bool.not_eq_false', decide_eq_true_eq] at h
      rw [h]; rfl
    have hrest := rest_end (s := s) (pos := pos) (by assumption) at' was begun ⟨⟨ca, cl, cf, ct, cc⟩, gf, gl, ga⟩
    rw [if_pos this] at hrest
    have all := hi.all
    dsimp only at all
    rw [hrest] at all
    rw [all]; simp
end Go.SX.Try
/- Where a text may be parted, told plainly. No program here. -/
namespace Go.SX.Plain
abbrev dPart : Part := ⟨⟨0, 0, 0, 0, 0⟩, 0, false, false, false, false, false, false⟩
def kindAt (l : List Part) (i : Nat) : Int :=
  if (l.getD (i - 1) dPart).fin = true then 1
  else if i = l.length then 0
  else if ((l.getD i dPart).fin || (l.getD i dPart).blank) = true then 0
  else if (l.getD (i - 1) dPart).blank = true then 2
  else if ((l.getD (i - 1) dPart).dash && decide ((1 : Int) < (i : Int)) && !(l.getD (i - 2) dPart).blank && !(l.getD (i - 2) dPart).fin && !(l.getD (i - 2) dPart).dash) = true then 2
  else if (((l.getD (i - 1) dPart).wide || (l.getD i dPart).wide) && !(l.getD (i - 1) dPart).opening && !(l.getD i dPart).closing) = true then 2
  else 3
def plcs (l : List Part) (k : Nat) : List Nat := ((List.range k).filter fun i => decide (0 < i) && decide (kindAt l i ≠ 0))
def atL (l : List Part) (k : Nat) : List Int := (plcs l k).map fun (i : Nat) => (i : Int)
def outL (l : List Part) (k : Nat) : List (Int × Int) := (plcs l k).map fun (i : Nat) => ((l.getD (i - 1) dPart).c.to, kindAt l i)
theorem plcs_no {l : List Part} {k : Nat} (h : kindAt l k = 0) : plcs l (k + 1) = plcs l k := by
  simp [plcs, List.range_succ, List.filter_append, h]
theorem plcs_yes {l : List Part} {k : Nat} (h0 : 0 < k) (h : kindAt l k ≠ 0) : plcs l (k + 1) = plcs l k ++ [k] := by
  simp [plcs, List.range_succ, List.filter_append, h, h0]
theorem atL_no {l : List Part} {k : Nat} (h : kindAt l k = 0) : atL l (k + 1) = atL l k := by unfold atL; rw [plcs_no h]
theorem atL_yes {l : List Part} {k : Nat} (h0 : 0 < k) (h : kindAt l k ≠ 0) : atL l (k + 1) = atL l k ++ [(k : Int)] := by unfold atL; rw [plcs_yes h0 h]; simp
theorem outL_no {l : List Part} {k : Nat} (h : kindAt l k = 0) : outL l (k + 1) = outL l k := by unfold outL; rw [plcs_no h]
theorem outL_yes {l : List Part} {k : Nat} (h0 : 0 < k) (h : kindAt l k ≠ 0) : outL l (k + 1) = outL l k ++ [((l.getD (k - 1) dPart).c.to, kindAt l k)] := by unfold outL; rw [plcs_yes h0 h]; simp
theorem plcs_len (l : List Part) (k : Nat) : (plcs l k).length ≤ k := by
  unfold plcs
  exact Nat.le_trans (List.length_filter_le _ _) (by simp)
theorem atL_len (l : List Part) (k : Nat) : (atL l k).length ≤ k := by unfold atL; simpa using plcs_len l k
theorem outL_len (l : List Part) (k : Nat) : (outL l k).length ≤ k := by unfold outL; simpa using plcs_len l k
end Go.SX.Plain
