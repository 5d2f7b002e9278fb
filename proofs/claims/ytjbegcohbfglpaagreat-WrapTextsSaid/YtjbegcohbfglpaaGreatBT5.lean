/- A verified symbolic executor for Go code in the model, contracts and plain laws that the proofs lean on, BT5. -/
import Derived.Test.YtjbegcohbfglpaaGreatBT4
set_option linter.unusedVariables false
set_option linter.unusedSimpArgs false
/- Contracts of the document's chapter 7: fits, within, cross, Check. -/
namespace Go.SX.Tryz
open Go.Proofs Go.Proofs.Tryz Go.SX.Plain
set_option maxRecDepth 100000
set_option maxHeartbeats 0
set_option linter.unusedSimpArgs false
theorem q_rfits : fact 41 f41 := ⟨by kernel_rfl, rfl, by kernel_rfl⟩
theorem q_rwithin7 : fact 70 f70 := ⟨by kernel_rfl, rfl, by kernel_rfl⟩
theorem q_rcross : fact 42 f42 := ⟨by kernel_rfl, rfl, by kernel_rfl⟩
theorem q_rcheck7 : fact 17 f17 := ⟨by kernel_rfl, rfl, by kernel_rfl⟩
theorem con_rwithin7 : Con prog 70 (fun ((x, y) : Spn × Spn) => [.agg (spAV x), .agg (spAV y)]) (fun (x, y) => .sb (withinB x y)) (fun _ => True) := by
  refine Con.of (by kernel_rfl) T_ok CdsOK.nil .nil 3 [] q_rwithin7.1 q_rwithin7.2.1 q_rwithin7.2.2 (fun _ => rfl) fun i hi => ?_
  obtain ⟨x, y⟩ := i
  repeat' (first | (with_reducible first | exact fun h => h | refine And.intro ?_ ?_ | intro _ | exact True.intro | assumption) | ((with_reducible first | refine LeF.chk ?_ | refine Run.mk ?_); (conv => whnf)))
  all_goals rfl
theorem con_rcross : Con prog 42 (fun ((x, y) : Spn × Spn) => [.agg (spAV x), .agg (spAV y)]) (fun (x, y) => .sb (crossB x y)) (fun _ => True) := by
  refine Con.of (by kernel_rfl) T_ok CdsOK.nil (.con con_rwithin7 .nil) 3 [] q_rcross.1 q_rcross.2.1 q_rcross.2.2 (fun _ => rfl) fun i hi => ?_
  obtain ⟨x, y⟩ := i
  repeat' (first | (with_reducible first | refine ⟨(_, _), ⟨(.cons (.agg (.cons (.v _) (.cons (.v _) (.cons (.v _) (.cons (.v _) .nil))))) (.cons (.agg (.cons (.v _) (.cons (.v _) (.cons (.v _) (.cons (.v _) .nil))))) .nil)), ?_⟩, ?_⟩ | exact fun h => h | refine And.intro ?_ ?_) | ((with_reducible intro hq); first | exact bne1 hq (by with_reducible assumption) | ((simp only [*, BB, cond_true, cond_false, reduceCtorEq] at hq); done) | (revert hq; with_reducible intro _)) | (with_reducible first | exact True.intro | assumption) | ((with_reducible first | refine LeF.chk ?_ | refine Run.mk ?_); (conv => whnf)))
  all_goals first
    | rfl
    | (unfold crossB; simp_all; done)
    | (unfold crossB; cases hc : (decide (x.frm < y.to) && decide (y.frm < x.to)) <;> simp_all; done)
theorem con_rfits : Con prog 41 (fun ((x, n) : Spn × Int) => [.agg (spAV x), .v (.int .i64 n)]) (fun (x, n) => .sb (rightB x n)) (fun _ => True) := by
  refine Con.of (by kernel_rfl) T_ok CdsOK.nil .nil 3 [] q_rfits.1 q_rfits.2.1 q_rfits.2.2 (fun _ => rfl) fun i hi => ?_
  obtain ⟨x, n⟩ := i
  repeat' (first | (with_reducible first | exact fun h => h | refine And.intro ?_ ?_ | intro _ | exact True.intro | assumption) | ((with_reducible first | refine LeF.chk ?_ | refine Run.mk ?_); (conv => whnf)))
  all_goals first
    | (simp_all; done)
    | (unfold rightB; simp_all; done)
    | skip
  all_goals (unfold rightB)
  all_goals first
    | (split <;> simp_all <;> omega)
    | (rw [Bool.eq_iff_iff]; simp only [Bool.and_eq_true, decide_eq_true_eq]; split <;> simp_all <;> omega)
theorem con_rcheck7 : Con prog 17 (fun ((s, l) : ByteArray × List Spn) => [txAV s l]) (fun (s, l) => .v (.int .i64 (chkN s.size l (sgN s : Nat)))) (fun _ => True) := by
  refine Con.of (by kernel_rfl) T_ok CdsOK.nil (.con con_rcount (.con con_rfits (.con con_rcross .nil))) 5 [] q_rcheck7.1 q_rcheck7.2.1 q_rcheck7.2.2 (fun _ => rfl) fun i hi => ?_
  obtain ⟨s, l⟩ := i
  by_cases hs : s.size ≤ 4096
  · have k1 : decide ((4096 : Int) < (s.size : Int)) = false := decide_eq_false (by omega)
    by_cases hl : l.length ≤ 256
    · have k2 : decide ((256 : Int) < (l.length : Int)) = false := decide_eq_false (by omega)
      have hn := sgN_le s
      have hz : Hid (∀ i, i < l.length → (rightB (l.getD i zS) (sgN s : Nat) = false ∨ aloneTo l (l.getD i zS) i = false) → 23 = chkN s.size l (sgN s : Nat)) := ⟨fun i h1 h2 => by
        have hb : spansB l (sgN s : Nat) = false := by
          cases hb : spansB l (sgN s : Nat) with
          | false => rfl
          | true =>
            have := okTo_at h1 hb
            rcases h2 with h2 | h2
            · rw [h2] at this; cases this.1
            · rw [h2] at this; cases this.2
        unfold chkN
        rw [if_neg (by omega), if_neg (by omega), hb]
        rfl⟩
      have hz2 : Hid (spansB l (sgN s : Nat) = true → 0 = chkN s.size l (sgN s : Nat)) := ⟨fun hb => by
        unfold chkN
        rw [if_neg (by omega), if_neg (by omega), if_pos hb]⟩
      have hd : C_spn.d = zS := rfl
      repeat' (first | (with_reducible first | refine ⟨_, ⟨(.cons (.v _) .nil), ?_⟩, ?_⟩ | refine And.intro ?_ ?_) | ((with_reducible intro hq); first | exact bne1 hq (by with_reducible assumption) | (revert hq; with_reducible intro _)) | ((with_reducible refine Run.mk ?_); (conv => whnf)))
      · show s.size ≤ 1100000; omega
      refine loopI Nat [] (fun i => [(4, .v (.int .i64 (i : Nat)))]) (fun _ => []) (fun i => i ≤ l.length ∧ ∀ k, k < i → rightB (l.getD k zS) (sgN s : Nat) = true) (fun i => l.length - i) 0 ⟨Nat.zero_le _, fun k h => absurd h (Nat.not_lt_zero _)⟩ (Wk.chk ?_) fun i hi => ?_
      · ((conv => whnf); repeat' (first | (with_reducible first | refine And.intro ?_ ?_ | exact True.intro | rfl | exact LeN.ro rfl) | ((with_reducible refine Run.mk ?_); (conv => whnf))))
        all_goals rfl
      obtain ⟨hi1, hi2⟩ := hi
      have e1 : ((i : Int)).toNat = i := Int.toNat_natCast _
      by_cases hil : i < l.length
      · have hlt : decide ((i : Int) < (l.length : Int)) = true := decide_eq_true (by omega)
        have hrr := Bool.eq_false_or_eq_true (rightB (l.getD i zS) (sgN s : Nat))
        rcases hrr with hr | hr
        · have hr' : rightB (l.getD ((i : Int)).toNat C_spn.d) (sgN s : Nat) = true := by rw [e1, hd]; exact hr
          have hi3 : ∀ k, k < i + 1 → rightB (l.getD k zS) (sgN s : Nat) = true := fun k hk => by
            by_cases h : k = i
            · rw [h]; exact hr
            · exact hi2 k (by omega)
          repeat' (first | (with_reducible first | refine ⟨(l.getD ((i : Int)).toNat C_spn.d, _), ⟨(.cons (.agg (.cons (.v _) (.cons (.v _) (.cons (.v _) (.cons (.v _) .nil))))) (.cons (.v _) .nil)), ?_⟩, ?_⟩ | refine ex_of (α := Nat) (i + 1) ⟨⟨?_, hi3⟩, ?_⟩ ?_ | refine And.intro ?_ ?_) | ((with_reducible intro hq); first | exact bne1 (by with_reducible assumption) hq | ((simp only [*, BB, cond_true, cond_false, reduceCtorEq] at hq); done) | (revert hq; with_reducible intro _)) | (with_reducible first | exact True.intro | rfl | exact LeN.ro rfl) | ((with_reducible first | refine Wk.chk ?_ | refine Run.mk ?_); (conv => whnf)))
          all_goals first
            | omega
            | (apply Fits.i64 <;> omega)
            | (show l.length - (i + 1) < l.length - i; omega)
        · have hr' : rightB (l.getD ((i : Int)).toNat C_spn.d) (sgN s : Nat) = false := by rw [e1, hd]; exact hr
          repeat' (first | (with_reducible first | refine ⟨(l.getD ((i : Int)).toNat C_spn.d, _), ⟨(.cons (.agg (.cons (.v _) (.cons (.v _) (.cons (.v _) (.cons (.v _) .nil))))) (.cons (.v _) .nil)), ?_⟩, ?_⟩ | refine And.intro ?_ ?_) | ((with_reducible intro hq); first | exact bne1 (by with_reducible assumption) hq | ((simp only [*, BB, cond_true, cond_false, reduceCtorEq] at hq); done) | (revert hq; with_reducible intro _)) | (with_reducible exact True.intro) | ((with_reducible first | refine LeF.chk ?_ | refine Run.mk ?_); (conv => whnf)))
          all_goals first
            | omega
            | exact hz.out i hil (.inl hr)
      have hlt : decide ((i : Int) < (l.length : Int)) = false := decide_eq_false (by omega)
      have hii : i = l.length := by omega
      subst hii
      repeat' (first | (with_reducible refine And.intro ?_ ?_) | ((with_reducible intro hq); first | exact bne1 hq (by with_reducible assumption) | (revert hq; with_reducible intro _)) | ((with_reducible refine Run.mk ?_); (conv => whnf)))
      refine loopI Nat [] (fun i => [(5, .v (.int .i64 (i : Nat)))]) (fun _ => []) (fun i => i ≤ l.length ∧ okTo l (sgN s : Nat) i = true) (fun i => l.length - i) 0 ⟨Nat.zero_le _, rfl⟩ (Wk.chk ?_) fun i hi => ?_
      · ((conv => whnf); repeat' (first | (with_reducible first | refine And.intro ?_ ?_ | exact True.intro | rfl | exact LeN.ro rfl) | ((with_reducible refine Run.mk ?_); (conv => whnf))))
        all_goals rfl
      obtain ⟨hj1, hj2⟩ := hi
      have e1 : ((i : Int)).toNat = i := Int.toNat_natCast _
      by_cases hil : i < l.length
      · have hlt : decide ((i : Int) < (l.length : Int)) = true := decide_eq_true (by omega)
        repeat' (first | (with_reducible refine And.intro ?_ ?_) | ((with_reducible intro hq); first | exact bne1 (by with_reducible assumption) hq | (revert hq; with_reducible intro _)) | ((with_reducible refine Run.mk ?_); (conv => whnf)))
        refine loopI Nat [] (fun j => [(6, .v (.int .i64 (j : Nat)))]) (fun _ => []) (fun j => j ≤ i ∧ aloneTo l (l.getD i zS) j = true) (fun j => i - j) 0 ⟨Nat.zero_le _, by unfold aloneTo; simp⟩ (Wk.chk ?_) fun j hj => ?_
        · ((conv => whnf); repeat' (first | (with_reducible first | refine And.intro ?_ ?_ | exact True.intro | rfl | exact LeN.ro rfl) | ((with_reducible refine Run.mk ?_); (conv => whnf))))
          all_goals rfl
        obtain ⟨hk1, hk2⟩ := hj
        have e2 : ((j : Int)).toNat = j := Int.toNat_natCast _
        by_cases hji : j < i
        · have hlt : decide ((j : Int) < (i : Int)) = true := decide_eq_true (by omega)
          have hsucc := aloneTo_succ (l := l) (x := l.getD i zS) (k := j) (by omega)
          have hcc := Bool.eq_false_or_eq_true (crossB (l.getD i zS) (l.getD j zS))
          rcases hcc with hc | hc
          · have hc' : crossB (l.getD ((i : Int)).toNat C_spn.d) (l.getD ((j : Int)).toNat C_spn.d) = true := by rw [e1, e2, hd]; exact hc
            have hb : aloneTo l (l.getD i zS) i = false := aloneTo_false (i := j + 1) (by omega) (by rw [hsucc, hc]; simp)
            repeat' (first | (with_reducible first | refine ⟨(l.getD ((i : Int)).toNat C_spn.d, l.getD ((j : Int)).toNat C_spn.d), ⟨(.cons (.agg (.cons (.v _) (.cons (.v _) (.cons (.v _) (.cons (.v _) .nil))))) (.cons (.agg (.cons (.v _) (.cons (.v _) (.cons (.v _) (.cons (.v _) .nil))))) .nil)), ?_⟩, ?_⟩ | refine And.intro ?_ ?_) | ((with_reducible intro hq); first | exact bne1 (by with_reducible assumption) hq | (revert hq; with_reducible intro _)) | (with_reducible exact True.intro) | ((with_reducible first | refine LeF.chk ?_ | refine Run.mk ?_); (conv => whnf)) | ((with_reducible show drawOK _ _ = true); kernel_rfl))
            all_goals first
              | omega
              | exact hz.out i hil (.inr hb)
          · have hc' : crossB (l.getD ((i : Int)).toNat C_spn.d) (l.getD ((j : Int)).toNat C_spn.d) = false := by rw [e1, e2, hd]; exact hc
            have hsucc : aloneTo l (l.getD i zS) (j + 1) = true := by rw [hsucc, hk2, hc]; rfl
            repeat' (first | (with_reducible first | refine ⟨(l.getD ((i : Int)).toNat C_spn.d, l.getD ((j : Int)).toNat C_spn.d), ⟨(.cons (.agg (.cons (.v _) (.cons (.v _) (.cons (.v _) (.cons (.v _) .nil))))) (.cons (.agg (.cons (.v _) (.cons (.v _) (.cons (.v _) (.cons (.v _) .nil))))) .nil)), ?_⟩, ?_⟩ | refine ex_of (α := Nat) (j + 1) ⟨⟨?_, hsucc⟩, ?_⟩ ?_ | refine And.intro ?_ ?_) | ((with_reducible intro hq); first | exact bne1 hq (by with_reducible assumption) | exact bne1 (by with_reducible assumption) hq | (revert hq; with_reducible intro _)) | (with_reducible first | exact True.intro | rfl | exact LeN.ro rfl) | ((with_reducible first | refine Wk.chk ?_ | refine Run.mk ?_); (conv => whnf)) | ((with_reducible show drawOK _ _ = true); kernel_rfl))
            all_goals first
              | omega
              | (apply Fits.i64 <;> omega)
              | (show i - (j + 1) < i - j; omega)
        have hlt : decide ((j : Int) < (i : Int)) = false := decide_eq_false (by omega)
        have hji : j = i := by omega
        subst hji
        have hok : okTo l (sgN s : Nat) (j + 1) = true := by rw [okTo, hj2, hi2 j hil, hk2]; rfl
        repeat' (first | (with_reducible first | refine ex_of (α := Nat) (j + 1) ⟨⟨?_, hok⟩, ?_⟩ ?_ | refine And.intro ?_ ?_) | ((with_reducible intro hq); first | exact bne1 hq (by with_reducible assumption) | (revert hq; with_reducible intro _)) | (with_reducible first | exact True.intro | rfl | exact LeN.ro rfl) | ((with_reducible first | refine Wk.chk ?_ | refine Run.mk ?_); (conv => whnf)))
        all_goals first
          | omega
          | (apply Fits.i64 <;> omega)
          | (show l.length - (j + 1) < l.length - j; omega)
      have hlt : decide ((i : Int) < (l.length : Int)) = false := decide_eq_false (by omega)
      have hii : i = l.length := by omega
      subst hii
      repeat' (first | (with_reducible refine And.intro ?_ ?_) | ((with_reducible intro hq); first | exact bne1 hq (by with_reducible assumption) | (revert hq; with_reducible intro _)) | (with_reducible exact True.intro) | ((with_reducible first | refine LeF.chk ?_ | refine Run.mk ?_); (conv => whnf)))
      all_goals exact hz2.out hj2
    · have k2 : decide ((256 : Int) < (l.length : Int)) = true := decide_eq_true (by omega)
      repeat' (first | (with_reducible refine And.intro ?_ ?_) | ((with_reducible intro hq); first | exact bne1 hq (by with_reducible assumption) | exact bne1 (by with_reducible assumption) hq | (revert hq; with_reducible intro _)) | (with_reducible exact True.intro) | ((with_reducible first | refine LeF.chk ?_ | refine Run.mk ?_); (conv => whnf)))
      all_goals (unfold chkN; rw [if_neg (by omega), if_pos (by omega)]; done)
  · have k1 : decide ((4096 : Int) < (s.size : Int)) = true := decide_eq_true (by omega)
    repeat' (first | (with_reducible refine And.intro ?_ ?_) | ((with_reducible intro hq); first | exact bne1 (by with_reducible assumption) hq | (revert hq; with_reducible intro _)) | (with_reducible exact True.intro) | ((with_reducible first | refine LeF.chk ?_ | refine Run.mk ?_); (conv => whnf)))
    all_goals (unfold chkN; rw [if_pos (by omega)]; done)
abbrev txO (s : ByteArray) (l : List Spn) : AV := .agg [.v (.string s), spO l]
end Go.SX.Tryz
/- What a right text is. -/
namespace Go.SX.Tryz
open Go.Proofs Go.Proofs.Tryz Go.SX.Plain
set_option maxRecDepth 100000
set_option maxHeartbeats 0
set_option linter.unusedSimpArgs false
structure OkT (s : ByteArray) (l : List Spn) : Prop where
  size : s.size ≤ 4096
  len : l.length ≤ 256
  spans : spansB l (sgN s : Nat) = true
theorem OkT.of {s : ByteArray} {l : List Spn} (h : chkN s.size l (sgN s : Nat) = 0) : OkT s l := by
  unfold chkN at h
  split at h
  · cases h
  · split at h
    · cases h
    · split at h
      · rename_i h1 h2 h3
        exact ⟨by omega, by omega, h3⟩
      · cases h
end Go.SX.Tryz
/- Signs of two texts behind one another: where they melt; how long signs are. No program here. -/
namespace Go.SX.Plain
theorem app_size (a b : ByteArray) : (a ++ b).size = a.size + b.size := ByteArray.size_append
theorem app_extract_l (a b : ByteArray) (p : Nat) : (a ++ b).extract p a.size = a.extract p a.size := by
  apply ByteArray.ext
  rw [ByteArray.data_extract, ByteArray.data_extract, ByteArray.data_append]
  apply Array.ext'
  simp [Array.toList_extract]
theorem app_extract_r (a b : ByteArray) (q : Nat) : (a ++ b).extract (a.size + q) (a ++ b).size = b.extract q b.size := by
  apply ByteArray.ext
  rw [ByteArray.data_extract, ByteArray.data_extract, ByteArray.data_append, app_size]
  apply Array.ext'
  have : a.data.size = a.size := rfl
  simp [Array.toList_extract]
theorem dec_l {a b : ByteArray} {p : Nat} (hp : p < a.size) (hw : p + (Utf8.decode (a ++ b) p).2 ≤ a.size) : Utf8.decode (a ++ b) p = Utf8.decode a p := by
  have h1 := decode_extract (s := a ++ b) (p := p) (e := a.size) hp (by rw [app_size]; omega) hw
  have h2 := decode_extract (s := a) (p := p) (e := a.size) hp (Nat.le_refl _) (width_le hp)
  rw [app_extract_l] at h1
  rw [← h1, h2]
theorem dec_r {a b : ByteArray} {q : Nat} (hq : q < b.size) : Utf8.decode (a ++ b) (a.size + q) = Utf8.decode b q := by
  have hlt : a.size + q < (a ++ b).size := by rw [app_size]; omega
  have h1 := decode_extract (s := a ++ b) (p := a.size + q) (e := (a ++ b).size) hlt (Nat.le_refl _) (width_le hlt)
  have h2 := decode_extract (s := b) (p := q) (e := b.size) hq (Nat.le_refl _) (width_le hq)
  rw [app_extract_r] at h1
  rw [← h1, h2]
def overB (a b : ByteArray) (p : Nat) : Bool := decide (p < a.size) && decide (a.size < p + (Utf8.decode (a ++ b) p).2)
def meltFrom (a b : ByteArray) (pos : Nat) : Bool := (signsFrom (a ++ b) pos).any fun p => overB a b p.1
def meltB (a b : ByteArray) : Bool := meltFrom a b 0
theorem melt_step {a b : ByteArray} {pos : Nat} (h : pos < (a ++ b).size) : meltFrom a b pos = (overB a b pos || meltFrom a b (pos + (Utf8.decode (a ++ b) pos).2)) := by
  unfold meltFrom
  rw [signsFrom_step h, List.any_cons]
theorem melt_end {a b : ByteArray} {pos : Nat} (h : ¬ pos < (a ++ b).size) : meltFrom a b pos = false := by
  unfold meltFrom
  rw [signsFrom_end h]
  rfl
def shf (n : Nat) (x : Sgn) : Sgn := ⟨x.at + n, x.len, x.rune, x.bad⟩
def sgnsF (s : ByteArray) (pos : Nat) : List Sgn := (signsFrom s pos).map fun p => sgnAt s p.1
theorem sgnsF_step {s : ByteArray} {pos : Nat} (h : pos < s.size) : sgnsF s pos = sgnAt s pos :: sgnsF s (pos + (Utf8.decode s pos).2) := by
  unfold sgnsF
  rw [signsFrom_step h, List.map_cons]
theorem sgnsF_end {s : ByteArray} {pos : Nat} (h : ¬ pos < s.size) : sgnsF s pos = [] := by
  unfold sgnsF
  rw [signsFrom_end h]
  rfl
theorem sgnsF_r (a b : ByteArray) : ∀ (k q : Nat), b.size - q ≤ k → sgnsF (a ++ b) (a.size + q) = (sgnsF b q).map (shf a.size)
  | 0, q, h => by rw [sgnsF_end (by rw [app_size]; omega), sgnsF_end (by omega)]; rfl
  | k + 1, q, h => by
    by_cases hq : q < b.size
    · have hd := dec_r (a := a) hq
      have hw := width_pos b q
      rw [sgnsF_step (by rw [app_size]; omega), sgnsF_step hq, List.map_cons, hd, Nat.add_assoc, sgnsF_r a b k _ (by omega)]
      congr 1
      simp only [sgnAt, shf, hd, Sgn.mk.injEq, and_true]
      omega
    · rw [sgnsF_end (by rw [app_size]; omega), sgnsF_end hq]; rfl
theorem sgnsF_l (a b : ByteArray) : ∀ (k pos : Nat), a.size - pos ≤ k → pos ≤ a.size → meltFrom a b pos = false → sgnsF (a ++ b) pos = sgnsF a pos ++ (sgnsF b 0).map (shf a.size)
  | 0, pos, h, hp, _ => by
    obtain rfl : pos = a.size := by omega
    rw [sgnsF_end (s := a) (by omega), List.nil_append]
    exact sgnsF_r a b b.size 0 (by omega)
  | k + 1, pos, h, hp, hm => by
    by_cases hlt : pos < a.size
    · rw [melt_step (by rw [app_size]; omega), Bool.or_eq_false_iff] at hm
      obtain ⟨h1, h2⟩ := hm
      have hw := width_pos (a ++ b) pos
      have hle : pos + (Utf8.decode (a ++ b) pos).2 ≤ a.size := by
        unfold overB at h1
        rw [decide_eq_true hlt, Bool.true_and, decide_eq_false_iff_not] at h1
        omega
      have hd := dec_l hlt hle
      rw [sgnsF_step (by rw [app_size]; omega), sgnsF_step hlt, List.cons_append]
      rw [sgnsF_l a b k _ (by omega) hle h2, hd]
      congr 1
      simp only [sgnAt, hd]
    · obtain rfl : pos = a.size := by omega
      rw [sgnsF_end (s := a) (by omega), List.nil_append]
      exact sgnsF_r a b b.size 0 (by omega)
theorem sgnsF_at {s : ByteArray} : ∀ (k pos : Nat), s.size - pos ≤ k → ∀ x ∈ sgnsF s pos, ∃ p, p < s.size ∧ x = sgnAt s p
  | 0, pos, h, x, hx => by rw [sgnsF_end (by omega)] at hx; cases hx
  | k + 1, pos, h, x, hx => by
    by_cases hp : pos < s.size
    · rw [sgnsF_step hp] at hx
      rcases List.mem_cons.1 hx with rfl | hx
      · exact ⟨pos, hp, rfl⟩
      · have := width_pos s pos
        exact sgnsF_at k _ (by omega) x hx
    · rw [sgnsF_end hp] at hx; cases hx
theorem melt_mem {a b : ByteArray} : ∀ (k pos : Nat), (a ++ b).size - pos ≤ k → meltFrom a b pos = true → ∃ p, sgnAt (a ++ b) p ∈ sgnsF (a ++ b) pos ∧ overB a b p = true
  | 0, pos, h, hm => by rw [melt_end (by omega)] at hm; cases hm
  | k + 1, pos, h, hm => by
    by_cases hp : pos < (a ++ b).size
    · rw [melt_step hp, Bool.or_eq_true] at hm
      rw [sgnsF_step hp]
      rcases hm with h1 | h1
      · exact ⟨pos, List.mem_cons_self .., h1⟩
      · have := width_pos (a ++ b) pos
        obtain ⟨p, h2, h3⟩ := melt_mem k _ (by omega) h1
        exact ⟨p, List.mem_cons_of_mem _ h2, h3⟩
    · rw [melt_end hp] at hm; cases hm
theorem melt_iff (a b : ByteArray) : meltB a b = false ↔ sgns (a ++ b) = sgns a ++ (sgns b).map (shf a.size) := by
  constructor
  · exact fun h => sgnsF_l a b a.size 0 (by omega) (by omega) h
  · intro h
    cases hm : meltB a b with
    | false => rfl
    | true =>
      exfalso
      obtain ⟨p, h1, h2⟩ := melt_mem (a ++ b).size 0 (by omega) hm
      have h1 : sgnAt (a ++ b) p ∈ sgns (a ++ b) := h1
      unfold overB at h2
      rw [Bool.and_eq_true, decide_eq_true_eq, decide_eq_true_eq] at h2
      rw [h] at h1
      rcases List.mem_append.1 h1 with h3 | h3
      · obtain ⟨q, h4, h5⟩ := sgnsF_at (s := a) a.size 0 (by omega) _ h3
        have hat : ((p : Nat) : Int) = q := congrArg Sgn.at h5
        have hlen : (((Utf8.decode (a ++ b) p).2 : Nat) : Int) = (Utf8.decode a q).2 := congrArg Sgn.len h5
        have := width_le h4
        omega
      · obtain ⟨x, hx, hx2⟩ := List.mem_map.1 h3
        obtain ⟨q, h4, rfl⟩ := sgnsF_at (s := b) b.size 0 (by omega) _ hx
        have hat : ((q : Nat) : Int) + a.size = p := congrArg Sgn.at hx2
        omega
def runeLenI (r : Int) : Int := if r < 0 then -1 else if r ≤ 127 then 1 else if r ≤ 2047 then 2 else if 55296 ≤ r ∧ r ≤ 57343 then -1 else if r ≤ 65535 then 3 else if r ≤ 1114111 then 4 else -1
theorem dec_len (s : ByteArray) (i : Nat) : Utf8.decode s i = (65533, 1) ∨ (runeLenI ((Utf8.decode s i).1 : Nat) = ((Utf8.decode s i).2 : Nat) ∧ (((Utf8.decode s i).1 : Nat) : Int) ≤ 1114111) := by
  rcases longI_cases (bt s i) with h | h | h
  · exact .inl (dec_0 h)
  · right
    have hb := bt_bd s i
    have h0 : bt s i < 128 := by
      unfold longI at h
      repeat' split at h
      all_goals omega
    rw [dec_1 h]
    simp only
    rw [Int.toNat_of_nonneg hb.1]
    unfold runeLenI
    refine ⟨?_, by omega⟩
    rw [if_neg (by omega), if_pos (by omega)]
    rfl
  · by_cases h2 : i + 1 < s.size ∧ secondB (bt s i) (bt s (i + 1)) = true
    · obtain ⟨a1, a2, a3, a4, a5, a6⟩ := second_yes h2.2
      rcases h with h | h | h
      · right
        have h0 : 194 ≤ bt s i ∧ bt s i ≤ 223 := by
          unfold longI at h
          repeat' split at h
          all_goals omega
        obtain ⟨hd, b1, b2⟩ := dec_2 h h2.1 h2.2
        rw [hd]
        simp only
        rw [Int.toNat_of_nonneg b1]
        unfold runeLenI
        refine ⟨?_, by omega⟩
        rw [if_neg (by omega), if_neg (by omega), if_pos (by omega)]
        rfl
      · by_cases m2 : moreB s (i + 2) = true
        · right
          have h0 : 224 ≤ bt s i ∧ bt s i ≤ 239 := by
            unfold longI at h
            repeat' split at h
            all_goals omega
          obtain ⟨c1, c2, c3⟩ := moreB_yes m2
          obtain ⟨hd, b1, b2⟩ := dec_3 h h2.1 h2.2 m2
          rw [hd]
          simp only
          rw [Int.toNat_of_nonneg b1]
          unfold runeLenI
          refine ⟨?_, by omega⟩
          rw [if_neg (by omega), if_neg (by omega), if_neg (by omega), if_neg (by omega), if_pos (by omega)]
          rfl
        · exact .inl (more_no2 (by omega) (by simpa using m2))
      · by_cases m2 : moreB s (i + 2) = true
        · by_cases m3 : moreB s (i + 3) = true
          · right
            have h0 : 240 ≤ bt s i ∧ bt s i ≤ 244 := by
              unfold longI at h
              repeat' split at h
              all_goals omega
            obtain ⟨c1, c2, c3⟩ := moreB_yes m2
            obtain ⟨d1, d2, d3⟩ := moreB_yes m3
            obtain ⟨hd, b1, b2⟩ := dec_4 h h2.1 h2.2 m2 m3
            rw [hd]
            simp only
            rw [Int.toNat_of_nonneg b1]
            unfold runeLenI
            refine ⟨?_, by omega⟩
            rw [if_neg (by omega), if_neg (by omega), if_neg (by omega), if_neg (by omega), if_neg (by omega), if_pos (by omega)]
            rfl
          · exact .inl (more_no3 (by omega) (by simpa using m3))
        · exact .inl (more_no2 (by omega) (by simpa using m2))
    · exact .inl (second_no2 (by omega) h2)
theorem rune_max (s : ByteArray) (i : Nat) : (((Utf8.decode s i).1 : Nat) : Int) ≤ 1114111 := by
  rcases dec_len s i with h | h
  · rw [h]; decide
  · exact h.2
theorem dec_good {s : ByteArray} {i : Nat} (h : ¬ ((Utf8.decode s i).1 : Int) = 65533) : runeLenI ((Utf8.decode s i).1 : Nat) = ((Utf8.decode s i).2 : Nat) := by
  rcases dec_len s i with h1 | h1
  · rw [h1] at h; exact absurd rfl h
  · exact h1.1
theorem dec_bad {s : ByteArray} {i : Nat} (h : ((Utf8.decode s i).1 : Int) = 65533) : (Utf8.decode s i).2 = 1 ∨ (Utf8.decode s i).2 = 3 := by
  rcases dec_len s i with h1 | h1
  · rw [h1]; exact .inl rfl
  · right
    have := h1.1
    rw [h] at this
    have h2 : runeLenI 65533 = 3 := by decide
    omega
end Go.SX.Plain
/- Whether three bytes are those of U+FFFD. No program here. -/
namespace Go.SX.Plain
abbrev badL : ByteArray := { data := #[239, 191, 189] }
theorem bt_ext {a b : ByteArray} (h : a.size = b.size) (hb : ∀ i, i < a.size → bt a i = bt b i) : a = b := by
  apply ByteArray.ext
  apply Array.ext
  · exact h
  · intro i h1 h2
    have := hb i h1
    unfold bt at this
    rw [bytesL_get, bytesL_get] at this
    have e1 : a.data.toList.getD i 0 = a.data[i] := by
      simp only [List.getD_eq_getElem?_getD, Array.getElem?_toList]
      rw [getElem?_pos a.data i h1]
      rfl
    have e2 : b.data.toList.getD i 0 = b.data[i] := by
      simp only [List.getD_eq_getElem?_getD, Array.getElem?_toList]
      rw [getElem?_pos b.data i h2]
      rfl
    rw [e1, e2] at this
    exact UInt8.toNat_inj.1 (by omega)
theorem dec_fffd {s : ByteArray} {i : Nat} (h : Utf8.decode s i = (65533, 3)) : bt s i = 239 ∧ bt s (i + 1) = 191 ∧ bt s (i + 2) = 189 := by
  have hne : ∀ {n : Nat}, n ≠ 3 → ∀ {r : Nat}, Utf8.decode s i = (r, n) → False := fun hn r h2 => by
    rw [h] at h2
    exact hn (congrArg Prod.snd h2).symm
  rcases longI_cases (bt s i) with c | c | c
  · exact (hne (by decide) (dec_0 c)).elim
  · exact (hne (by decide) (dec_1 c)).elim
  · by_cases h2 : i + 1 < s.size ∧ secondB (bt s i) (bt s (i + 1)) = true
    · obtain ⟨a1, a2, a3, a4, a5, a6⟩ := second_yes h2.2
      rcases c with c | c | c
      · exact (hne (by decide) (dec_2 c h2.1 h2.2).1).elim
      · by_cases m2 : moreB s (i + 2) = true
        · have h0 : 224 ≤ bt s i ∧ bt s i ≤ 239 := by
            unfold longI at c
            repeat' split at c
            all_goals omega
          obtain ⟨c1, c2, c3⟩ := moreB_yes m2
          obtain ⟨hd, b1, b2⟩ := dec_3 c h2.1 h2.2 m2
          rw [h] at hd
          have := congrArg Prod.fst hd
          simp only at this
          omega
        · exact (hne (by decide) (more_no2 (by omega) (by simpa using m2))).elim
      · by_cases m2 : moreB s (i + 2) = true
        · by_cases m3 : moreB s (i + 3) = true
          · exact (hne (by decide) (dec_4 c h2.1 h2.2 m2 m3).1).elim
          · exact (hne (by decide) (more_no3 (by omega) (by simpa using m3))).elim
        · exact (hne (by decide) (more_no2 (by omega) (by simpa using m2))).elim
    · exact (hne (by decide) (second_no2 (by omega) h2)).elim
theorem pref_iff {s : ByteArray} {pos : Nat} (hp : pos < s.size) (hr : (((Utf8.decode s pos).1 : Nat) : Int) = 65533) :
    (decide ((3 : Int) ≤ ((s.extract pos s.size).size : Int)) && decide ((s.extract pos s.size).extract 0 3 = badL)) = decide ((Utf8.decode s pos).2 = 3) := by
  have ht := decode_extract (s := s) (p := pos) (e := s.size) hp (Nat.le_refl _) (width_le hp)
  have hsz := size_extract' (s := s) (p := pos) (e := s.size) (Nat.le_refl _)
  obtain ⟨t, hte⟩ : ∃ t, t = s.extract pos s.size := ⟨_, rfl⟩
  rw [← hte] at ht hsz ⊢
  rw [← ht] at hr ⊢
  have hwl := width_le (s := t) (pos := 0) (by omega)
  rcases dec_bad hr with h1 | h1
  · rw [h1, Bool.eq_iff_iff]
    simp only [Bool.and_eq_true, decide_eq_true_eq]
    constructor
    · rintro ⟨h2, h3⟩
      have hd := decode_extract (s := t) (p := 0) (e := 3) (by omega) (by omega) (by omega)
      rw [h3] at hd
      have hb : Utf8.decode badL 0 = (65533, 3) := by decide
      rw [hb] at hd
      rw [← hd] at h1
      cases h1
    · intro h
      omega
  · rw [h1, Bool.eq_iff_iff]
    simp only [Bool.and_eq_true, decide_eq_true_eq, iff_true]
    have h3 : 3 ≤ t.size := by omega
    refine ⟨by omega, ?_⟩
    have hd : Utf8.decode t 0 = (65533, 3) := Prod.ext (by simp only; omega) h1
    obtain ⟨c0, c1, c2⟩ := dec_fffd hd
    refine bt_ext (by rw [size_extract' h3]; rfl) fun i hi => ?_
    rw [size_extract' h3] at hi
    rw [bt_extract (by omega) h3, Nat.zero_add]
    obtain rfl | rfl | rfl : i = 0 ∨ i = 1 ∨ i = 2 := by omega
    · rw [c0]; rfl
    · rw [c1]; rfl
    · rw [c2]; rfl
end Go.SX.Plain
namespace Go.SX.Plain
abbrev dSg : Sgn := ⟨0, 0, 0, false⟩
def sgEqB (x y : Sgn) : Bool := x.at == y.at && (x.len == y.len && (x.rune == y.rune && x.bad == y.bad))
theorem sgEqB_iff (x y : Sgn) : sgEqB x y = true ↔ x = y := by
  obtain ⟨a, b, c, d⟩ := x
  obtain ⟨a', b', c', d'⟩ := y
  simp only [sgEqB, Bool.and_eq_true, beq_iff_eq, Sgn.mk.injEq]
def both (a b : ByteArray) : List Sgn := sgns a ++ (sgns b).map (shf a.size)
theorem both_len (a b : ByteArray) : (both a b).length = sgN a + sgN b := by
  rw [both, List.length_append, List.length_map, sgns_len', sgns_len']
theorem both_l {a b : ByteArray} {i : Nat} (h : i < sgN a) : (both a b).getD i dSg = (sgns a).getD i dSg := by
  rw [both, List.getD_eq_getElem?_getD, List.getElem?_append_left (by rw [sgns_len']; exact h), List.getD_eq_getElem?_getD]
theorem both_r {a b : ByteArray} {i : Nat} (h : sgN a ≤ i) (h2 : i < sgN a + sgN b) : (both a b).getD i dSg = shf a.size ((sgns b).getD (i - sgN a) dSg) := by
  have hb : i - sgN a < (sgns b).length := by rw [sgns_len']; omega
  rw [both, List.getD_eq_getElem?_getD, List.getElem?_append_right (by rw [sgns_len']; exact h), sgns_len', List.getElem?_map, List.getD_eq_getElem?_getD, List.getElem?_eq_getElem hb]
  rfl
theorem getD_ext {α : Type} {d : α} {l r : List α} (hl : l.length = r.length) (h : ∀ i, i < l.length → l.getD i d = r.getD i d) : l = r := by
  refine List.ext_getElem hl fun i h1 h2 => ?_
  have := h i h1
  simpa [List.getD_eq_getElem?_getD, h1, h2] using this
theorem melt_of_len {a b : ByteArray} (h : ¬ sgN (a ++ b) = sgN a + sgN b) : meltB a b = true := by
  cases hm : meltB a b with
  | true => rfl
  | false =>
    have := congrArg List.length ((melt_iff a b).1 hm)
    rw [sgns_len', ← both, both_len] at this
    exact absurd this h
theorem melt_of_ne {a b : ByteArray} {i : Nat} (h : ¬ (sgns (a ++ b)).getD i dSg = (both a b).getD i dSg) : meltB a b = true := by
  cases hm : meltB a b with
  | true => rfl
  | false => exact absurd (congrArg (List.getD · i dSg) ((melt_iff a b).1 hm)) h
theorem melt_of_eq {a b : ByteArray} (hl : sgN (a ++ b) = sgN a + sgN b) (h : ∀ i, i < sgN (a ++ b) → (sgns (a ++ b)).getD i dSg = (both a b).getD i dSg) : meltB a b = false := by
  rw [melt_iff]
  refine getD_ext (d := dSg) ?_ fun i hi => h i (by rw [sgns_len'] at hi; exact hi)
  rw [sgns_len', ← both, both_len, hl]
end Go.SX.Plain
/- Contracts of utf's Place, Cut (by signs), Melts. -/
namespace Go.SX.Tryz
open Go.Proofs Go.Proofs.Tryz Go.SX.Plain
set_option maxRecDepth 100000
set_option maxHeartbeats 0
set_option linter.unusedSimpArgs false
theorem q_usigns : fact 62 f62 := ⟨by kernel_rfl, rfl, by kernel_rfl⟩
theorem q_usigns1 : fact 85 f85 := ⟨by kernel_rfl, rfl, by kernel_rfl⟩
theorem q_runeLen : fact 86 f86 := ⟨by kernel_rfl, rfl, by kernel_rfl⟩
theorem q_hasPrefix : fact 87 f87 := ⟨by kernel_rfl, rfl, by kernel_rfl⟩
theorem q_hasPrefixI : fact 100 f100 := ⟨by kernel_rfl, rfl, by kernel_rfl⟩
theorem q_uplace : fact 37 f37 := ⟨by kernel_rfl, rfl, by kernel_rfl⟩
theorem q_uknown : fact 61 f61 := ⟨by kernel_rfl, rfl, by kernel_rfl⟩
theorem q_upairs : fact 63 f63 := ⟨by kernel_rfl, rfl, by kernel_rfl⟩
theorem q_ucut : fact 36 f36 := ⟨by kernel_rfl, rfl, by kernel_rfl⟩
theorem q_umelts : fact 38 f38 := ⟨by kernel_rfl, rfl, by kernel_rfl⟩
theorem con_runeLen : Con prog 86 (fun r : Int => [.v (.int .i32 r)]) (fun r => .v (.int .i64 (runeLenI r))) (fun _ => True) := by
  refine Con.of (by kernel_rfl) T_ok CdsOK.nil .nil 3 [] q_runeLen.1 q_runeLen.2.1 q_runeLen.2.2 (fun _ => rfl) fun r _ => ?_
  repeat' (first | (with_reducible first | exact fun h => h | refine And.intro ?_ ?_ | intro _ | exact True.intro) | ((with_reducible first | refine LeF.chk ?_ | refine Run.mk ?_); (conv => whnf)))
  all_goals (unfold runeLenI; simp only [Bool.and_eq_true, Bool.and_eq_false_iff, decide_eq_true_eq, decide_eq_false_iff_not] at *; (repeat' split) <;> omega)
theorem con_hasPrefix : Con prog 87 (fun ((s, p) : ByteArray × ByteArray) => [.v (.string s), .v (.string p)]) (fun (s, p) => .sb (decide ((p.size : Int) ≤ (s.size : Int)) && decide (s.extract 0 ((p.size : Nat) : Int).toNat = p))) (fun _ => True) := by
  refine Con.of (by kernel_rfl) T_ok CdsOK.nil (.inl (J := []) q_hasPrefixI.1 q_hasPrefixI.2.1 q_hasPrefixI.2.2 .nil) 5 [] q_hasPrefix.1 q_hasPrefix.2.1 q_hasPrefix.2.2 (fun _ => rfl) fun i _ => ?_
  obtain ⟨s, p⟩ := i
  repeat' (first | (with_reducible first | exact fun h => h | refine And.intro ?_ ?_ | intro _ | exact True.intro | rfl | assumption) | ((with_reducible first | refine LeF.chk ?_ | refine Run.mk ?_); (conv => whnf)))
  all_goals first
    | omega
    | (simp only [decide_eq_true_eq] at *; omega)
theorem con_uknown : Con prog 61 (fun u : Int => [.v (.int .i64 u)]) (fun _ => .v (.bool true)) (fun u => u = 1 ∨ u = 2 ∨ u = 3) := by
  refine Con.of (by kernel_rfl) T_ok CdsOK.nil .nil 3 [] q_uknown.1 q_uknown.2.1 q_uknown.2.2 (fun _ => rfl) fun u hu => ?_
  have hu : u = 1 ∨ u = 2 ∨ u = 3 := hu
  rcases hu with rfl | rfl | rfl
  all_goals
    repeat' (first | (with_reducible first | exact fun h => h | refine And.intro ?_ ?_ | exact True.intro) | ((with_reducible first | refine LeF.chk ?_ | refine Run.mk ?_); (conv => whnf)))
    all_goals rfl
def pairsI (r : Int) : Int := if 65536 ≤ r then 2 else 1
theorem pairs_bd (r : Int) : 1 ≤ pairsI r ∧ pairsI r ≤ 2 := by unfold pairsI; split <;> omega
theorem con_upairs : Con prog 63 (fun r : Int => [.v (.int .i32 r)]) (fun r => .v (.int .i64 (pairsI r))) (fun _ => True) := by
  refine Con.of (by kernel_rfl) T_ok CdsOK.nil .nil 3 [] q_upairs.1 q_upairs.2.1 q_upairs.2.2 (fun _ => rfl) fun r _ => ?_
  repeat' (first | (with_reducible first | refine And.intro ?_ ?_ | intro _ | exact True.intro) | ((with_reducible first | refine LeF.chk ?_ | refine Run.mk ?_); (conv => whnf)))
  all_goals (simp only [decide_eq_true_eq, decide_eq_false_iff_not] at *)
  all_goals first
    | (unfold pairsI; rw [if_pos (by omega)]; done)
    | (unfold pairsI; rw [if_neg (by omega)]; done)
theorem con_uplace : Con prog 37 (fun ((s, a) : ByteArray × Int) => [.v (.string s), .v (.int .i64 a), .v (.int .i64 2), .v (.int .i64 1)]) (fun (s, a) => .tup [.v (.int .i64 (plN s a)), .v (.int .i64 (plE s a))]) (fun (s, _) => s.size ≤ 1100000) := by
  refine Con.of (by kernel_rfl) T_ok CdsOK.nil (.con con_runeLen (.con con_hasPrefix (.inl (J := []) q_usigns.1 q_usigns.2.1 q_usigns.2.2 (.inl (J := [8]) q_usigns1.1 q_usigns1.2.1 q_usigns1.2.2 (.con con_uknown (.con con_upairs .nil)))))) 9 [] q_uplace.1 q_uplace.2.1 q_uplace.2.2 (fun _ => rfl) fun i hs => ?_
  obtain ⟨s, a⟩ := i
  have hs : s.size ≤ 1100000 := hs
  by_cases ha : a < 0
  · have ht : decide (a < 0) = true := decide_eq_true ha
    repeat' (first | (with_reducible first | refine ⟨_, ⟨(.cons (.v _) .nil), ?_⟩, ?_⟩ | refine And.intro ?_ ?_) | ((with_reducible intro hq); first | exact bne1 (by with_reducible assumption) hq | (revert hq; with_reducible intro _)) | (with_reducible exact True.intro) | ((with_reducible first | refine LeF.chk ?_ | refine Run.mk ?_); (conv => whnf)))
    all_goals first
      | (dsimp only; omega)
      | (unfold plN; rw [if_neg (by omega)]; done)
      | (unfold plE; rw [if_neg (by omega)]; done)
  · have ht : decide (a < 0) = false := decide_eq_false ha
    have hn := sgN_le s
    have hend := posS_end s
    repeat' (first | (with_reducible first | refine ⟨_, ⟨(.cons (.v _) .nil), ?_⟩, ?_⟩ | refine And.intro ?_ ?_) | ((with_reducible intro hq); first | exact bne1 hq (by with_reducible assumption) | (revert hq; with_reducible intro _)) | ((with_reducible refine Run.mk ?_); (conv => whnf)))
    all_goals (try (dsimp only; omega))
    refine loopI (Nat × Int) [] (fun _ => []) (fun | (i, p) => [(6, .iter s (posS s i)), (2, .box [.v (.int .i64 0), .v (.int .i64 (posS s i : Nat)), .v (.int .i64 (i : Nat)), .v (.int .i64 p)] 111)]) (fun | (i, p) => i ≤ sgN s ∧ (i : Int) ≤ a ∧ 0 ≤ p ∧ p ≤ 2 * (i : Int)) (fun | (i, _) => sgN s - i) (0, 0) ⟨Nat.zero_le _, by omega, Int.le_refl _, by omega⟩ (Wk.chk ?_) fun x hx => ?_
    · ((conv => whnf); repeat' (first | (with_reducible first | refine And.intro ?_ ?_ | exact True.intro | rfl) | ((with_reducible refine Run.mk ?_); (conv => whnf))))
      all_goals first
        | rfl
        | (rw [posS_zero]; done)
        | (rw [posS_zero]; rfl)
    obtain ⟨i, p⟩ := x
    obtain ⟨hi1, hi2, hi3, hi4⟩ : i ≤ sgN s ∧ (i : Int) ≤ a ∧ 0 ≤ p ∧ p ≤ 2 * (i : Int) := hx
    have hpl := posS_le s i
    by_cases hil : i < sgN s
    · have hat := sgns_at s hil
      obtain ⟨_, hlt, hnx⟩ := hat
      have hw := width_pos s (posS s i)
      have hwl := width_le hlt
      have hmax := rune_max s (posS s i)
      have e1 : ((posS s i : Nat) : Int).toNat = posS s i := Int.toNat_natCast _
      repeat' (first | (with_reducible first | refine And.intro ?_ ?_ | intro _ | exact True.intro | rfl) | ((with_reducible first | refine LeF.chk ?_ | refine Run.mk ?_); (conv => whnf)) | ((with_reducible show drawOK _ _ = true); kernel_rfl))
      any_goals omega
      refine joinI Unit [] (fun _ => [(5, .v (.int .i64 ((Utf8.decode s (posS s i)).2 : Nat)))]) (fun _ => []) (fun _ => True) ?_ fun _ _ => ?_
      · by_cases hr : (((Utf8.decode s (posS s i)).1 : Nat) : Int) = 65533
        · have k1 : ((((Utf8.decode s (posS s i)).1 : Nat) : Int) != 65533) = false := by rw [hr]; rfl
          have hpf : (decide ((badL.size : Int) ≤ ((s.extract ((posS s i : Nat) : Int).toNat s.size).size : Int)) && decide ((s.extract ((posS s i : Nat) : Int).toNat s.size).extract 0 ((badL.size : Nat) : Int).toNat = badL)) = decide ((Utf8.decode s (posS s i)).2 = 3) := by
            rw [e1]
            exact pref_iff hlt hr
          have h13 := dec_bad hr
          rcases h13 with h13 | h13
          · have hpf := hpf.trans (show decide ((Utf8.decode s (posS s i)).2 = 3) = false from by rw [h13]; rfl)
            repeat' (first | (with_reducible first | refine ⟨(_, badL), ⟨(.cons (.v _) (.cons (.v _) .nil)), ?_⟩, ?_⟩ | refine ex_of () trivial ?_ | refine And.intro ?_ ?_) | ((with_reducible intro hq); first | exact bne1 hq (by with_reducible assumption) | (revert hq; with_reducible intro _)) | (with_reducible first | exact True.intro | rfl) | ((with_reducible first | refine Wk.chk ?_ | refine Run.mk ?_); (conv => whnf)))
            all_goals omega
          · have hpf := hpf.trans (show decide ((Utf8.decode s (posS s i)).2 = 3) = true from by rw [h13]; rfl)
            repeat' (first | (with_reducible first | refine ⟨(_, badL), ⟨(.cons (.v _) (.cons (.v _) .nil)), ?_⟩, ?_⟩ | refine ex_of () trivial ?_ | refine And.intro ?_ ?_) | ((with_reducible intro hq); first | exact bne1 hq (by with_reducible assumption) | exact bne1 (by with_reducible assumption) hq | (revert hq; with_reducible intro _)) | (with_reducible first | exact True.intro | rfl) | ((with_reducible first | refine Wk.chk ?_ | refine Run.mk ?_); (conv => whnf)))
            all_goals omega
        · have k1 : ((((Utf8.decode s (posS s i)).1 : Nat) : Int) != 65533) = true := by simpa using hr
          have hg := dec_good hr
          repeat' (first | (with_reducible first | refine ⟨(((Utf8.decode s (posS s i)).1 : Nat) : Int), ⟨(.cons (.v _) .nil), ?_⟩, ?_⟩ | refine ex_of () trivial ?_ | refine And.intro ?_ ?_) | ((with_reducible intro hq); first | exact bne1 (by with_reducible assumption) hq | (revert hq; with_reducible intro _)) | (with_reducible first | exact True.intro | rfl | assumption) | ((with_reducible first | refine Wk.chk ?_ | refine Run.mk ?_); (conv => whnf)))
      by_cases hia : (i : Int) = a
      · have k2 : decide (a ≤ (i : Int)) = true := decide_eq_true (by omega)
        have k3 : ((i : Int) == a) = true := by rw [beq_iff_eq]; exact hia
        repeat' (first | (with_reducible first | exact fun h => h | refine And.intro ?_ ?_) | ((with_reducible intro hq); first | exact bne1 (by with_reducible assumption) hq | (revert hq; with_reducible intro _)) | (with_reducible first | exact True.intro | rfl) | ((with_reducible first | refine LeF.chk ?_ | refine Run.mk ?_); (conv => whnf)) | ((with_reducible show drawOK _ _ = true); kernel_rfl))
        all_goals first
          | omega
          | (unfold plN; rw [if_pos ⟨by omega, by omega⟩, show a.toNat = i by omega]; done)
          | (unfold plE; rw [if_pos ⟨by omega, by omega⟩]; done)
      · have k2 : decide (a ≤ (i : Int)) = false := decide_eq_false (by omega)
        have hpb := pairs_bd (((Utf8.decode s (posS s i)).1 : Nat) : Int)
        repeat' (first | (with_reducible first | refine ⟨(((Utf8.decode s (posS s i)).1 : Nat) : Int), ⟨(.cons (.v _) .nil), ?_⟩, ?_⟩ | refine ex_of (α := Nat × Int) (i + 1, p + pairsI (((Utf8.decode s (posS s i)).1 : Nat) : Int)) ⟨⟨?_, ?_, ?_, ?_⟩, ?_⟩ ?_ | exact fun h => h | refine And.intro ?_ ?_) | ((with_reducible intro hq); first | exact bne1 hq (by with_reducible assumption) | (revert hq; with_reducible intro _)) | (with_reducible first | exact True.intro | rfl) | ((with_reducible first | refine Wk.chk ?_ | refine Run.mk ?_); (conv => whnf)) | ((with_reducible show drawOK _ _ = true); kernel_rfl))
        all_goals first
          | omega
          | (apply Fits.i64 <;> omega)
          | (show sgN s - (i + 1) < sgN s - i; omega)
          | (rw [hnx]; done)
    · have hii : i = sgN s := by omega
      subst hii
      have hlt : ¬ posS s (sgN s) < s.size := by omega
      by_cases hia : ((sgN s : Nat) : Int) = a
      · have k3 : (((sgN s : Nat) : Int) == a) = true := by rw [beq_iff_eq]; exact hia
        repeat' (first | (with_reducible refine And.intro ?_ ?_) | ((with_reducible intro hq); first | exact bne1 (by with_reducible assumption) hq | (revert hq; with_reducible intro _)) | (with_reducible first | exact True.intro | rfl) | ((with_reducible first | refine LeF.chk ?_ | refine Run.mk ?_); (conv => whnf)) | ((with_reducible show drawOK _ _ = true); kernel_rfl))
        all_goals first
          | omega
          | (unfold plN; rw [if_pos ⟨by omega, by omega⟩, show a.toNat = sgN s by omega]; done)
          | (unfold plE; rw [if_pos ⟨by omega, by omega⟩]; done)
      · have k3 : (((sgN s : Nat) : Int) == a) = false := by rw [beq_eq_false_iff_ne]; exact hia
        have k4 : decide (a < ((sgN s : Nat) : Int)) = false := decide_eq_false (by omega)
        repeat' (first | (with_reducible refine And.intro ?_ ?_) | ((with_reducible intro hq); first | exact bne1 hq (by with_reducible assumption) | (revert hq; with_reducible intro _)) | (with_reducible first | exact True.intro | rfl) | ((with_reducible first | refine LeF.chk ?_ | refine Run.mk ?_); (conv => whnf)) | ((with_reducible show drawOK _ _ = true); kernel_rfl))
        all_goals first
          | omega
          | (unfold plN; rw [if_neg (by omega)]; done)
          | (unfold plE; rw [if_neg (by omega)]; done)
end Go.SX.Tryz
/- Contracts of utf's Cut (by signs), Melts. -/
namespace Go.SX.Tryz
open Go.Proofs Go.Proofs.Tryz Go.SX.Plain
set_option maxRecDepth 100000
set_option maxHeartbeats 0
set_option linter.unusedSimpArgs false
theorem con_ucut : Con prog 36 (fun ((s, f, t) : ByteArray × Int × Int) => [.v (.string s), .v (.int .i64 2), .v (.int .i64 f), .v (.int .i64 t)]) (fun (s, f, t) => .tup [.v (.string (cutT s f t)), .v (.int .i64 (cutE s f t))]) (fun (s, _, _) => s.size ≤ 1100000) := by
  refine Con.of (by kernel_rfl) T_ok CdsOK.nil (.con con_uplace (.con con_uknown .nil)) 5 [] q_ucut.1 q_ucut.2.1 q_ucut.2.2 (fun _ => rfl) fun i hs => ?_
  obtain ⟨s, f, t⟩ := i
  have hs : s.size ≤ 1100000 := hs
  have hn := sgN_le s
  have h01 : ∀ x, plE s x = 0 ∨ plE s x = 1 := fun x => by unfold plE; split <;> simp
  by_cases hc : 0 ≤ f ∧ f ≤ t ∧ t ≤ sgN s
  · have hE : cutE s f t = 0 := by unfold cutE; rw [if_pos hc]
    have hT : cutT s f t = s.extract (posS s f.toNat) (posS s t.toNat) := by unfold cutT; rw [if_pos hc]
    have p1 : plE s f = 0 := by unfold plE; rw [if_pos ⟨by omega, by omega⟩]
    have p2 : plE s t = 0 := by unfold plE; rw [if_pos ⟨by omega, by omega⟩]
    have p3 : plN s f = (posS s f.toNat : Nat) := by unfold plN; rw [if_pos ⟨by omega, by omega⟩]
    have p4 : plN s t = (posS s t.toNat : Nat) := by unfold plN; rw [if_pos ⟨by omega, by omega⟩]
    have p5 := posS_mono s (i := f.toNat) (j := t.toNat) (by omega) (by omega)
    have p6 := posS_le s t.toNat
    have b1 : (plE s f != 0) = false := by rw [p1]; rfl
    have b2 : (plE s t != 0) = false := by rw [p2]; rfl
    have b3 : (plE s f == 1) = false := by rw [p1]; rfl
    have b4 : (plE s t == 1) = false := by rw [p2]; rfl
    have b5 : decide (t < f) = false := decide_eq_false (by omega)
    repeat' (first | (with_reducible first | refine ⟨_, ⟨(.cons (.v _) .nil), ?_⟩, ?_⟩ | refine ⟨(_, _), ⟨(.cons (.v _) (.cons (.v _) (.cons (.v _) (.cons (.v _) .nil)))), ?_⟩, ?_⟩ | refine And.intro ?_ ?_) | ((with_reducible intro hq); first | exact bne1 hq (by with_reducible assumption) | (revert hq; with_reducible intro _)) | (with_reducible first | exact True.intro | assumption) | ((with_reducible first | refine LeF.chk ?_ | refine Run.mk ?_); (conv => whnf)))
    all_goals (try simp only [p1, p2, p3, p4] at *)
    all_goals first
      | omega
      | (rw [hT]; rfl)
      | (simp; done)
  · have hE : cutE s f t = 1 := by unfold cutE; rw [if_neg hc]
    have hT : cutT s f t = ByteArray.empty := by unfold cutT; rw [if_neg hc]
    have hbad : (plE s f == 1) = true ∨ ((plE s f == 1) = false ∧ (plE s t == 1) = true) ∨ ((plE s f == 1) = false ∧ (plE s t == 1) = false ∧ decide (t < f) = true) := by
      rcases h01 f with q1 | q1
      · rcases h01 t with q2 | q2
        · refine .inr (.inr ⟨by rw [q1]; rfl, by rw [q2]; rfl, decide_eq_true ?_⟩)
          have r1 : 0 ≤ f ∧ f ≤ sgN s := by
            unfold plE at q1; split at q1
            · assumption
            · cases q1
          have r2 : 0 ≤ t ∧ t ≤ sgN s := by
            unfold plE at q2; split at q2
            · assumption
            · cases q2
          omega
        · exact .inr (.inl ⟨by rw [q1]; rfl, by rw [q2]; rfl⟩)
      · exact .inl (by rw [q1]; rfl)
    clear h01
    rcases hbad with b1 | ⟨b1, b2⟩ | ⟨b1, b2, b3⟩
    all_goals
      repeat' (first | (with_reducible first | refine ⟨_, ⟨(.cons (.v _) .nil), ?_⟩, ?_⟩ | refine ⟨(_, _), ⟨(.cons (.v _) (.cons (.v _) (.cons (.v _) (.cons (.v _) .nil)))), ?_⟩, ?_⟩ | refine And.intro ?_ ?_) | ((with_reducible intro hq); first | exact bne1 hq (by with_reducible assumption) | exact bne1 (by with_reducible assumption) hq | (revert hq; with_reducible intro _)) | (with_reducible first | exact True.intro | assumption) | ((with_reducible first | refine LeF.chk ?_ | refine Run.mk ?_); (conv => whnf)))
      all_goals first
        | exact hT.symm
        | exact hE.symm
        | (dsimp only; omega)
theorem con_umelts : Con prog 38 (fun ((a, b) : ByteArray × ByteArray) => [.v (.string a), .v (.string b)]) (fun (a, b) => .sb (meltB a b)) (fun (a, b) => (a ++ b).size ≤ 1100000) := by
  refine Con.of (by kernel_rfl) T_ok CdsOK.nil (.con con_runeLen (.con con_hasPrefix (.inl (J := []) q_usigns.1 q_usigns.2.1 q_usigns.2.2 (.inl (J := [8]) q_usigns1.1 q_usigns1.2.1 q_usigns1.2.2 .nil)))) 9 [] q_umelts.1 q_umelts.2.1 q_umelts.2.2 (fun _ => rfl) fun i hs => ?_
  obtain ⟨a, b⟩ := i
  have hs : (a ++ b).size ≤ 1100000 := hs
  have hsz := app_size a b
  repeat' (first | (with_reducible first | refine And.intro ?_ ?_ | intro _) | ((with_reducible refine Run.mk ?_); (conv => whnf)))
  · omega
  refine loopI Nat [] (fun _ => []) (fun pos => [(5, .iter (a ++ b) pos)]) (fun pos => pos ≤ (a ++ b).size ∧ meltFrom a b pos = meltB a b) (fun pos => (a ++ b).size - pos) 0 ⟨Nat.zero_le _, rfl⟩ (Wk.chk ?_) fun pos hx => ?_
  · ((conv => whnf); repeat' (first | (with_reducible first | refine And.intro ?_ ?_ | exact True.intro | rfl) | ((with_reducible refine Run.mk ?_); (conv => whnf))))
  obtain ⟨hp1, hp2⟩ := hx
  by_cases hlt : pos < (a ++ b).size
  · have hw := width_pos (a ++ b) pos
    have hwl := width_le hlt
    have hmax := rune_max (a ++ b) pos
    have hst := melt_step hlt
    have e1 : ((pos : Nat) : Int).toNat = pos := Int.toNat_natCast _
    repeat' (first | (with_reducible first | refine And.intro ?_ ?_ | intro _ | exact True.intro | rfl) | ((with_reducible first | refine LeF.chk ?_ | refine Run.mk ?_); (conv => whnf)))
    any_goals omega
    refine joinI Unit [] (fun _ => [(5, .v (.int .i64 ((Utf8.decode (a ++ b) pos).2 : Nat)))]) (fun _ => []) (fun _ => True) ?_ fun _ _ => ?_
    · by_cases hr : (((Utf8.decode (a ++ b) pos).1 : Nat) : Int) = 65533
      · have k1 : ((((Utf8.decode (a ++ b) pos).1 : Nat) : Int) != 65533) = false := by rw [hr]; rfl
        have hpf : (decide ((badL.size : Int) ≤ (((a ++ b).extract ((pos : Nat) : Int).toNat (a ++ b).size).size : Int)) && decide (((a ++ b).extract ((pos : Nat) : Int).toNat (a ++ b).size).extract 0 ((badL.size : Nat) : Int).toNat = badL)) = decide ((Utf8.decode (a ++ b) pos).2 = 3) := by
          rw [e1]
          exact pref_iff hlt hr
        have h13 := dec_bad hr
        rcases h13 with h13 | h13
        · have hpf := hpf.trans (show decide ((Utf8.decode (a ++ b) pos).2 = 3) = false from by rw [h13]; rfl)
          repeat' (first | (with_reducible first | refine ⟨(_, badL), ⟨(.cons (.v _) (.cons (.v _) .nil)), ?_⟩, ?_⟩ | refine ex_of () trivial ?_ | refine And.intro ?_ ?_) | ((with_reducible intro hq); first | exact bne1 hq (by with_reducible assumption) | (revert hq; with_reducible intro _)) | (with_reducible first | exact True.intro | rfl) | ((with_reducible first | refine Wk.chk ?_ | refine Run.mk ?_); (conv => whnf)))
          all_goals omega
        · have hpf := hpf.trans (show decide ((Utf8.decode (a ++ b) pos).2 = 3) = true from by rw [h13]; rfl)
          repeat' (first | (with_reducible first | refine ⟨(_, badL), ⟨(.cons (.v _) (.cons (.v _) .nil)), ?_⟩, ?_⟩ | refine ex_of () trivial ?_ | refine And.intro ?_ ?_) | ((with_reducible intro hq); first | exact bne1 hq (by with_reducible assumption) | exact bne1 (by with_reducible assumption) hq | (revert hq; with_reducible intro _)) | (with_reducible first | exact True.intro | rfl) | ((with_reducible first | refine Wk.chk ?_ | refine Run.mk ?_); (conv => whnf)))
          all_goals omega
      · have k1 : ((((Utf8.decode (a ++ b) pos).1 : Nat) : Int) != 65533) = true := by simpa using hr
        have hg := dec_good hr
        repeat' (first | (with_reducible first | refine ⟨(((Utf8.decode (a ++ b) pos).1 : Nat) : Int), ⟨(.cons (.v _) .nil), ?_⟩, ?_⟩ | refine ex_of () trivial ?_ | refine And.intro ?_ ?_) | ((with_reducible intro hq); first | exact bne1 (by with_reducible assumption) hq | (revert hq; with_reducible intro _)) | (with_reducible first | exact True.intro | rfl | assumption) | ((with_reducible first | refine Wk.chk ?_ | refine Run.mk ?_); (conv => whnf)))
    cases ho : overB a b pos with
    | true =>
      have k2 : decide (((pos : Nat) : Int) < ((a.size : Nat) : Int)) = true := by
        unfold overB at ho
        rw [Bool.and_eq_true, decide_eq_true_eq, decide_eq_true_eq] at ho
        exact decide_eq_true (by omega)
      have k3 : decide (((a.size : Nat) : Int) < ((pos : Nat) : Int) + (((Utf8.decode (a ++ b) pos).2 : Nat) : Int)) = true := by
        unfold overB at ho
        rw [Bool.and_eq_true, decide_eq_true_eq, decide_eq_true_eq] at ho
        exact decide_eq_true (by omega)
      have hm : meltB a b = true := by rw [← hp2, hst, ho]; rfl
      repeat' (first | (with_reducible first | exact fun h => h | refine And.intro ?_ ?_) | ((with_reducible intro hq); first | ((simp only [*, BB, cond_true, cond_false, reduceCtorEq] at hq); done) | (revert hq; with_reducible intro _)) | (with_reducible first | exact True.intro | rfl | assumption) | ((with_reducible first | refine LeF.chk ?_ | refine Run.mk ?_); (conv => whnf)))
      all_goals first
        | (apply Fits.i64 <;> omega)
        | exact hm.symm
    | false =>
      have hm : meltFrom a b (pos + (Utf8.decode (a ++ b) pos).2) = meltB a b := by rw [← hp2, hst, ho]; rfl
      have k2 : (decide (((pos : Nat) : Int) < ((a.size : Nat) : Int)) && decide (((a.size : Nat) : Int) < ((pos : Nat) : Int) + (((Utf8.decode (a ++ b) pos).2 : Nat) : Int))) = false := by
        unfold overB at ho
        rw [Bool.and_eq_false_iff, decide_eq_false_iff_not, decide_eq_false_iff_not] at ho
        rw [Bool.and_eq_false_iff, decide_eq_false_iff_not, decide_eq_false_iff_not]
        omega
      repeat' (first | (with_reducible first | refine ex_of (α := Nat) (pos + (Utf8.decode (a ++ b) pos).2) ⟨⟨?_, hm⟩, ?_⟩ ?_ | exact fun h => h | refine And.intro ?_ ?_) | ((with_reducible intro hq); first | exact bne1 hq (by with_reducible assumption) | (revert hq; with_reducible intro _)) | (with_reducible first | exact True.intro | rfl | assumption) | ((with_reducible first | refine Wk.chk ?_ | refine Run.mk ?_); (conv => whnf)))
      all_goals first
        | (apply Fits.i64 <;> omega)
        | (show (a ++ b).size - (pos + (Utf8.decode (a ++ b) pos).2) < (a ++ b).size - pos; omega)
  · have hm : meltB a b = false := by rw [← hp2]; exact melt_end hlt
    repeat' (first | (with_reducible first | refine And.intro ?_ ?_ | intro _ | exact True.intro | rfl) | ((with_reducible first | refine LeF.chk ?_ | refine Run.mk ?_); (conv => whnf)))
    all_goals first
      | omega
      | exact hm.symm
end Go.SX.Tryz
/- Contract of the document's Melts. -/
namespace Go.SX.Tryz
open Go.Proofs Go.Proofs.Tryz Go.SX.Plain
set_option maxRecDepth 100000
set_option maxHeartbeats 0
set_option linter.unusedSimpArgs false
theorem q_rmelts : fact 51 f51 := ⟨by kernel_rfl, rfl, by kernel_rfl⟩
theorem con_rmelts : Con prog 51 (fun ((a, b) : ByteArray × ByteArray) => [.v (.string a), .v (.string b)]) (fun (a, b) => .sb (meltB a b)) (fun (a, b) => (a ++ b).size ≤ 1100000) := by
  refine Con.of (by kernel_rfl) T_ok CdsOK.nil (.con con_rsigns .nil) 5 [14] q_rmelts.1 q_rmelts.2.1 q_rmelts.2.2 (fun _ => rfl) fun i hs => ?_
  obtain ⟨a, b⟩ := i
  have hs : (a ++ b).size ≤ 1100000 := hs
  have hsz := app_size a b
  have la := sgns_len' a
  have lb := sgns_len' b
  have lc := sgns_len' (a ++ b)
  have na := sgN_le a
  have nb := sgN_le b
  have nc := sgN_le (a ++ b)
  by_cases hl : sgN (a ++ b) = sgN a + sgN b
  · have k1 : ((((sgns (a ++ b)).length : Nat) : Int) != ((sgns a).length : Int) + ((sgns b).length : Int)) = false := by
      rw [bne_eq_false_iff_eq]; omega
    repeat' (first | (with_reducible first | refine ⟨_, ⟨(.cons (.v _) .nil), ?_⟩, ?_⟩ | refine And.intro ?_ ?_) | ((with_reducible intro hq); first | exact bne1 hq (by with_reducible assumption) | (revert hq; with_reducible intro _)) | (with_reducible assumption) | ((with_reducible refine Run.mk ?_); (conv => whnf)))
    all_goals (try first | omega | (apply Fits.i64 <;> omega))
    refine loopI Nat [] (fun i => [(8, .v (.int .i64 (i : Nat)))]) (fun _ => []) (fun i => i ≤ sgN (a ++ b) ∧ ∀ k, k < i → (sgns (a ++ b)).getD k dSg = (both a b).getD k dSg) (fun i => sgN (a ++ b) - i) 0 ⟨Nat.zero_le _, fun k h => absurd h (Nat.not_lt_zero _)⟩ (Wk.chk ?_) fun i hx => ?_
    · ((conv => whnf); repeat' (first | (with_reducible first | refine And.intro ?_ ?_ | exact True.intro | rfl | exact LeN.ro rfl) | ((with_reducible refine Run.mk ?_); (conv => whnf))))
      all_goals rfl
    obtain ⟨hi1, hi2⟩ := hx
    have e1 : ((i : Nat) : Int).toNat = i := Int.toNat_natCast _
    have hd : C_sgn.d = dSg := rfl
    by_cases hil : i < sgN (a ++ b)
    · have hlt : decide (((i : Nat) : Int) < (((sgns (a ++ b)).length : Nat) : Int)) = true := decide_eq_true (by omega)
      repeat' (first | (with_reducible refine And.intro ?_ ?_) | ((with_reducible intro hq); first | exact bne1 (by with_reducible assumption) hq | (revert hq; with_reducible intro _)) | ((with_reducible refine Run.mk ?_); (conv => whnf)))
      refine joinI Unit [] (fun _ => []) (fun _ => [(0, .box (sgAV ((both a b).getD i dSg)) 125)]) (fun _ => True) ?_ fun _ _ => ?_
      · by_cases hia : i < sgN a
        · have k2 : decide (((i : Nat) : Int) < (((sgns a).length : Nat) : Int)) = true := decide_eq_true (by omega)
          have hb := both_l (b := b) hia
          repeat' (first | (with_reducible first | refine ex_of () trivial ?_ | refine And.intro ?_ ?_) | ((with_reducible intro hq); first | exact bne1 (by with_reducible assumption) hq | (revert hq; with_reducible intro _)) | (with_reducible first | exact True.intro | rfl | exact LeN.ro rfl) | ((with_reducible first | refine Wk.chk ?_ | refine Run.mk ?_); (conv => whnf)))
          all_goals first
            | omega
            | (rw [hb]; rfl)
        · have k2 : decide (((i : Nat) : Int) < (((sgns a).length : Nat) : Int)) = false := decide_eq_false (by omega)
          have hb := both_r (a := a) (b := b) (i := i) (by omega) (by omega)
          have hp := posS_le b (i - sgN a)
          have hq := (sgns_at b (i := i - sgN a) (by omega)).1
          have e2 : (((i : Nat) : Int) - (((sgns a).length : Nat) : Int)).toNat = i - sgN a := by omega
          have hat : ((sgns b).getD (i - sgN a) dSg).at = (posS b (i - sgN a) : Nat) := by rw [hq]; rfl
          have hat2 : ((sgns b).getD (((i : Nat) : Int) - (((sgns a).length : Nat) : Int)).toNat C_sgn.d).at = (posS b (i - sgN a) : Nat) := by rw [e2]; exact hat
          repeat' (first | (with_reducible first | refine ex_of () trivial ?_ | refine And.intro ?_ ?_) | ((with_reducible intro hq); first | exact bne1 hq (by with_reducible assumption) | (revert hq; with_reducible intro _)) | (with_reducible first | exact True.intro | rfl | exact LeN.ro rfl) | ((with_reducible first | refine Wk.chk ?_ | refine Run.mk ?_); (conv => whnf)))
          all_goals first
            | omega
            | (apply Fits.i64 <;> omega)
            | (rw [hb, e2]; rfl)
      by_cases he : (sgns (a ++ b)).getD i dSg = (both a b).getD i dSg
      · have k3 : (((sgns (a ++ b)).getD ((i : Nat) : Int).toNat C_sgn.d).at == ((both a b).getD i dSg).at && (((sgns (a ++ b)).getD ((i : Nat) : Int).toNat C_sgn.d).len == ((both a b).getD i dSg).len && (((sgns (a ++ b)).getD ((i : Nat) : Int).toNat C_sgn.d).rune == ((both a b).getD i dSg).rune && ((sgns (a ++ b)).getD ((i : Nat) : Int).toNat C_sgn.d).bad == ((both a b).getD i dSg).bad))) = true := by
          rw [e1]
          exact (sgEqB_iff _ _).2 he
        have k4 : (!(((sgns (a ++ b)).getD ((i : Nat) : Int).toNat C_sgn.d).at == ((both a b).getD i dSg).at && (((sgns (a ++ b)).getD ((i : Nat) : Int).toNat C_sgn.d).len == ((both a b).getD i dSg).len && (((sgns (a ++ b)).getD ((i : Nat) : Int).toNat C_sgn.d).rune == ((both a b).getD i dSg).rune && ((sgns (a ++ b)).getD ((i : Nat) : Int).toNat C_sgn.d).bad == ((both a b).getD i dSg).bad)))) = false := by rw [k3]; rfl
        have hi3 : ∀ k, k < i + 1 → (sgns (a ++ b)).getD k dSg = (both a b).getD k dSg := fun k hk => by
          by_cases h : k = i
          · rw [h]; exact he
          · exact hi2 k (by omega)
        repeat' (first | (with_reducible first | refine ex_of (α := Nat) (i + 1) ⟨⟨?_, hi3⟩, ?_⟩ ?_ | refine And.intro ?_ ?_) | ((with_reducible intro hq); first | exact bne1 hq (by with_reducible assumption) | (revert hq; with_reducible intro _)) | (with_reducible first | exact True.intro | rfl | exact LeN.ro rfl) | ((with_reducible first | refine Wk.chk ?_ | refine Run.mk ?_); (conv => whnf)) | ((with_reducible show drawOK _ _ = true); kernel_rfl))
        all_goals first
          | omega
          | (apply Fits.i64 <;> omega)
          | (show sgN (a ++ b) - (i + 1) < sgN (a ++ b) - i; omega)
      · have k3 : (((sgns (a ++ b)).getD ((i : Nat) : Int).toNat C_sgn.d).at == ((both a b).getD i dSg).at && (((sgns (a ++ b)).getD ((i : Nat) : Int).toNat C_sgn.d).len == ((both a b).getD i dSg).len && (((sgns (a ++ b)).getD ((i : Nat) : Int).toNat C_sgn.d).rune == ((both a b).getD i dSg).rune && ((sgns (a ++ b)).getD ((i : Nat) : Int).toNat C_sgn.d).bad == ((both a b).getD i dSg).bad))) = false := by
          rw [e1, Bool.eq_false_iff]
          exact fun h => he ((sgEqB_iff _ _).1 h)
        have k4 : (!(((sgns (a ++ b)).getD ((i : Nat) : Int).toNat C_sgn.d).at == ((both a b).getD i dSg).at && (((sgns (a ++ b)).getD ((i : Nat) : Int).toNat C_sgn.d).len == ((both a b).getD i dSg).len && (((sgns (a ++ b)).getD ((i : Nat) : Int).toNat C_sgn.d).rune == ((both a b).getD i dSg).rune && ((sgns (a ++ b)).getD ((i : Nat) : Int).toNat C_sgn.d).bad == ((both a b).getD i dSg).bad)))) = true := by rw [k3]; rfl
        have hm := melt_of_ne he
        repeat' (first | (with_reducible refine And.intro ?_ ?_) | ((with_reducible intro hq); first | exact bne1 (by with_reducible assumption) hq | (revert hq; with_reducible intro _)) | (with_reducible exact True.intro) | ((with_reducible first | refine LeF.chk ?_ | refine Run.mk ?_); (conv => whnf)) | ((with_reducible show drawOK _ _ = true); kernel_rfl))
        all_goals first
          | omega
          | exact hm.symm
    · have hlt : decide (((i : Nat) : Int) < (((sgns (a ++ b)).length : Nat) : Int)) = false := decide_eq_false (by omega)
      have hm := melt_of_eq hl fun k hk => hi2 k (by omega)
      repeat' (first | (with_reducible refine And.intro ?_ ?_) | ((with_reducible intro hq); first | exact bne1 hq (by with_reducible assumption) | (revert hq; with_reducible intro _)) | (with_reducible exact True.intro) | ((with_reducible first | refine LeF.chk ?_ | refine Run.mk ?_); (conv => whnf)))
      all_goals exact hm.symm
  · have k1 : ((((sgns (a ++ b)).length : Nat) : Int) != ((sgns a).length : Int) + ((sgns b).length : Int)) = true := by
      rw [bne_iff_ne]; omega
    have hm := melt_of_len hl
    repeat' (first | (with_reducible first | refine ⟨_, ⟨(.cons (.v _) .nil), ?_⟩, ?_⟩ | refine And.intro ?_ ?_) | ((with_reducible intro hq); first | exact bne1 (by with_reducible assumption) hq | (revert hq; with_reducible intro _)) | (with_reducible first | exact True.intro | assumption) | ((with_reducible first | refine LeF.chk ?_ | refine Run.mk ?_); (conv => whnf)))
    all_goals first
      | omega
      | (apply Fits.i64 <;> omega)
      | exact hm.symm
end Go.SX.Tryz
/- Chapter 7, told plainly: runs. No program here. -/
namespace Go.SX.Plain
structure Rn where
  frm : Int
  to : Int
  at' : Atr
  deriving DecidableEq
abbrev zRn : Rn := ⟨0, 0, zA⟩
def rnNext (o : List Rn) (i : Nat) (a : Atr) : List Rn :=
  if 0 < o.length ∧ (o.getD (o.length - 1) zRn).at' = a then o.set (o.length - 1) ⟨(o.getD (o.length - 1) zRn).frm, (i : Int) + 1, (o.getD (o.length - 1) zRn).at'⟩ else o ++ [⟨i, (i : Int) + 1, a⟩]
def runsTo (l : List Atr) : Nat → List Rn
  | 0 => []
  | i + 1 => rnNext (runsTo l i) i (l.getD i zA)
def runsL (l : List Atr) : List Rn := runsTo l l.length
end Go.SX.Plain
namespace Go.SX.Plain
def atEqB (x y : Atr) : Bool := x.bold == y.bold && (x.italic == y.italic && (x.under == y.under && (x.strike == y.strike && x.colour == y.colour)))
end Go.SX.Plain
namespace Go.SX.Plain
def InAt (l : List Spn) (j : Int) (o : Option Spn) : Prop := (j = -1 ∧ o = none) ∨ (0 ≤ j ∧ j < l.length ∧ o = some (l.getD j.toNat zS))
theorem InAt.no {l : List Spn} {j : Int} {a : Atr} {o : Option Spn} {x : Spn} (h : InAt l j o) (h0 : ¬ j < 0) (hw : withinB x (l.getD j.toNat zS) = false) : colS a o x = (a, o) := by
  rcases h with ⟨h1, _⟩ | ⟨h1, h2, rfl⟩
  · omega
  · show (if _ then _ else _) = _
    rw [if_neg (by rw [hw]; decide)]
end Go.SX.Plain
/- Chapter 7, told plainly: splices. No program here. -/
namespace Go.SX.Plain
def bgn (f t n x : Int) : Int := if t ≤ x then x + (n - (t - f)) else if f < x then f + n else x
def eds (f t n x : Int) : Int := if x ≤ f then x else if t ≤ x then x + (n - (t - f)) else f
def mvS (f t n : Int) (x : Spn) : Spn := ⟨bgn f t n x.frm, eds f t n x.to, x.kind, x.val⟩
def shS (k : Int) (x : Spn) : Spn := ⟨x.frm + k, x.to + k, x.kind, x.val⟩
def posB (x : Spn) : Bool := decide (x.frm < x.to)
def outTo (g : Spn → Spn) (l : List Spn) (i : Nat) : List Spn := ((l.take i).map g).filter posB
theorem outTo_yes {g : Spn → Spn} {l : List Spn} {i : Nat} (h : i < l.length) (hp : posB (g (l.getD i zS)) = true) : outTo g l (i + 1) = outTo g l i ++ [g (l.getD i zS)] := by
  unfold outTo
  rw [← take_one l zS h, List.map_append, List.filter_append, List.map_singleton, List.filter_cons_of_pos hp]
  rfl
theorem outTo_no {g : Spn → Spn} {l : List Spn} {i : Nat} (h : i < l.length) (hp : posB (g (l.getD i zS)) = false) : outTo g l (i + 1) = outTo g l i := by
  unfold outTo
  rw [← take_one l zS h, List.map_append, List.filter_append, List.map_singleton, List.filter_cons_of_neg (by rw [hp]; decide)]
  simp
theorem outTo_len (g : Spn → Spn) (l : List Spn) (i : Nat) : (outTo g l i).length ≤ l.length := by
  unfold outTo
  refine Nat.le_trans (List.length_filter_le _ _) ?_
  rw [List.length_map, List.length_take]
  omega
def shTo (k : Int) (l : List Spn) (i : Nat) : List Spn := (l.take i).map (shS k)
theorem shTo_step {k : Int} {l : List Spn} {i : Nat} (h : i < l.length) : shTo k l (i + 1) = shTo k l i ++ [shS k (l.getD i zS)] := by
  unfold shTo
  rw [← take_one l zS h, List.map_append]
  rfl
theorem shTo_len {k : Int} {l : List Spn} {i : Nat} (h : i ≤ l.length) : (shTo k l i).length = i := by
  unfold shTo
  rw [List.length_map, List.length_take]
  omega
def frontT (s : ByteArray) (f : Int) : ByteArray := s.extract 0 (posS s f.toNat)
def restT (s : ByteArray) (t : Int) : ByteArray := s.extract (posS s t.toNat) s.size
def newT (s : ByteArray) (f t : Int) (s2 : ByteArray) : ByteArray := frontT s f ++ s2 ++ restT s t
def newL (l : List Spn) (f t : Int) (s2 : ByteArray) (l2 : List Spn) : List Spn := outTo (mvS f t (sgN s2 : Nat)) (isort ltO l) (isort ltO l).length ++ shTo f l2 l2.length
def mayB (f t n : Int) : Bool := decide (0 ≤ f) && decide (f ≤ t) && decide (t ≤ n)
def splE (s : ByteArray) (l : List Spn) (f t : Int) (s2 : ByteArray) (l2 : List Spn) : Int :=
  if chkN s.size l (sgN s : Nat) ≠ 0 then chkN s.size l (sgN s : Nat)
  else if chkN s2.size l2 (sgN s2 : Nat) ≠ 0 then chkN s2.size l2 (sgN s2 : Nat)
  else if mayB f t (sgN s : Nat) = false then 1
  else if 4096 < (newT s f t s2).size then 3
  else if meltB (frontT s f) s2 = true ∨ meltB (frontT s f ++ s2) (restT s t) = true then 22
  else if 256 < (newL l f t s2 l2).length then 2
  else 0
def splT (s : ByteArray) (l : List Spn) (f t : Int) (s2 : ByteArray) (l2 : List Spn) : ByteArray := if splE s l f t s2 l2 = 0 then newT s f t s2 else ByteArray.empty
def splL (s : ByteArray) (l : List Spn) (f t : Int) (s2 : ByteArray) (l2 : List Spn) : List Spn := if splE s l f t s2 l2 = 0 then newL l f t s2 l2 else []
theorem bgn_bd {f t n x : Int} (hf : 0 ≤ f) (hft : f ≤ t) (hn : 0 ≤ n) (hx : 0 ≤ x) : 0 ≤ bgn f t n x ∧ bgn f t n x ≤ x + n + f := by
  unfold bgn
  split
  · omega
  · split <;> omega
theorem eds_bd {f t n x : Int} (hf : 0 ≤ f) (hft : f ≤ t) (hn : 0 ≤ n) (hx : 0 ≤ x) : 0 ≤ eds f t n x ∧ eds f t n x ≤ x + n + f := by
  unfold eds
  split
  · omega
  · split <;> omega
end Go.SX.Plain
namespace Go.SX.Plain
section
variable {s : ByteArray} {l : List Spn} {f t : Int} {s2 : ByteArray} {l2 : List Spn}
theorem splE_1 (h1 : ¬ chkN s.size l (sgN s : Nat) = 0) : splE s l f t s2 l2 = chkN s.size l (sgN s : Nat) := by
  unfold splE; rw [if_pos h1]
theorem splE_2 (h1 : chkN s.size l (sgN s : Nat) = 0) (h2 : ¬ chkN s2.size l2 (sgN s2 : Nat) = 0) : splE s l f t s2 l2 = chkN s2.size l2 (sgN s2 : Nat) := by
  unfold splE; rw [if_neg (fun h => h h1), if_pos h2]
theorem splE_3 (h1 : chkN s.size l (sgN s : Nat) = 0) (h2 : chkN s2.size l2 (sgN s2 : Nat) = 0) (h3 : mayB f t (sgN s : Nat) = false) : splE s l f t s2 l2 = 1 := by
  unfold splE; rw [if_neg (fun h => h h1), if_neg (fun h => h h2), if_pos h3]
theorem splE_4 (h1 : chkN s.size l (sgN s : Nat) = 0) (h2 : chkN s2.size l2 (sgN s2 : Nat) = 0) (h3 : mayB f t (sgN s : Nat) = true) (h4 : 4096 < (newT s f t s2).size) : splE s l f t s2 l2 = 3 := by
  unfold splE; rw [if_neg (fun h => h h1), if_neg (fun h => h h2), if_neg (by rw [h3]; decide), if_pos h4]
theorem splE_5 (h1 : chkN s.size l (sgN s : Nat) = 0) (h2 : chkN s2.size l2 (sgN s2 : Nat) = 0) (h3 : mayB f t (sgN s : Nat) = true) (h4 : ¬ 4096 < (newT s f t s2).size) (h5 : meltB (frontT s f) s2 = true ∨ meltB (frontT s f ++ s2) (restT s t) = true) : splE s l f t s2 l2 = 22 := by
  unfold splE; rw [if_neg (fun h => h h1), if_neg (fun h => h h2), if_neg (by rw [h3]; decide), if_neg h4, if_pos h5]
theorem splE_6 (h1 : chkN s.size l (sgN s : Nat) = 0) (h2 : chkN s2.size l2 (sgN s2 : Nat) = 0) (h3 : mayB f t (sgN s : Nat) = true) (h4 : ¬ 4096 < (newT s f t s2).size) (h5 : meltB (frontT s f) s2 = false) (h6 : meltB (frontT s f ++ s2) (restT s t) = false) (h7 : 256 < (newL l f t s2 l2).length) : splE s l f t s2 l2 = 2 := by
  unfold splE; rw [if_neg (fun h => h h1), if_neg (fun h => h h2), if_neg (by rw [h3]; decide), if_neg h4, if_neg (by rw [h5, h6]; simp), if_pos h7]
theorem splE_7 (h1 : chkN s.size l (sgN s : Nat) = 0) (h2 : chkN s2.size l2 (sgN s2 : Nat) = 0) (h3 : mayB f t (sgN s : Nat) = true) (h4 : ¬ 4096 < (newT s f t s2).size) (h5 : meltB (frontT s f) s2 = false) (h6 : meltB (frontT s f ++ s2) (restT s t) = false) (h7 : ¬ 256 < (newL l f t s2 l2).length) : splE s l f t s2 l2 = 0 := by
  unfold splE; rw [if_neg (fun h => h h1), if_neg (fun h => h h2), if_neg (by rw [h3]; decide), if_neg h4, if_neg (by rw [h5, h6]; simp), if_neg h7]
theorem splT_no (h : ¬ splE s l f t s2 l2 = 0) : splT s l f t s2 l2 = ByteArray.empty := if_neg h
theorem splL_no (h : ¬ splE s l f t s2 l2 = 0) : splL s l f t s2 l2 = [] := if_neg h
theorem splT_yes (h : splE s l f t s2 l2 = 0) : splT s l f t s2 l2 = newT s f t s2 := if_pos h
theorem splL_yes (h : splE s l f t s2 l2 = 0) : splL s l f t s2 l2 = newL l f t s2 l2 := if_pos h
end
end Go.SX.Plain
namespace Go.SX.Plain
theorem splL_len (s : ByteArray) (l : List Spn) (f t : Int) (s2 : ByteArray) (l2 : List Spn) : (splL s l f t s2 l2).length ≤ 256 := by
  unfold splL
  split
  · rename_i h
    by_cases h7 : 256 < (newL l f t s2 l2).length
    · exfalso
      unfold splE at h
      by_cases a1 : chkN s.size l (sgN s : Nat) ≠ 0
      · rw [if_pos a1] at h; exact a1 h
      rw [if_neg a1] at h
      by_cases a2 : chkN s2.size l2 (sgN s2 : Nat) ≠ 0
      · rw [if_pos a2] at h; exact a2 h
      rw [if_neg a2] at h
      by_cases a3 : mayB f t (sgN s : Nat) = false
      · rw [if_pos a3] at h; cases h
      rw [if_neg a3] at h
      by_cases a4 : 4096 < (newT s f t s2).size
      · rw [if_pos a4] at h; cases h
      rw [if_neg a4] at h
      by_cases a5 : meltB (frontT s f) s2 = true ∨ meltB (frontT s f ++ s2) (restT s t) = true
      · rw [if_pos a5] at h; cases h
      rw [if_neg a5, if_pos h7] at h
      cases h
    · omega
  · simp
end Go.SX.Plain
/- A verified symbolic executor for Go code in the model: a nil slice in a box is told as a row that may grow. -/
namespace Go.SX
open Go.RowKit
section
variable {base : Nat} {w0 : Start} {w : World} {E : Env} {stk : List Fr} {gs : List (Array Value)} {m : Mem}
theorem SatM.retell (h : SatM base w0 E stk gs m w) {id b : Nat} {e e' : Ent} (hm : (id, e) ∈ m) (hb : blk (E.h id) = some b) (he : EntR base w E id e') : SatM base w0 E stk gs (setE id e' m) w :=
  h.turn hm hb rfl rfl rfl rfl (fun _ _ => rfl) he
end
def adoptS (A : Sta) (b k : Nat) {α : Type} (C : Cdc α) (e : Nat) (cs : List AV) (t : Nat) : Sta := match A with
  | ⟨fr, stk, m, nx⟩ => ⟨fr, stk, setE b (.box (cs.set k (.own nx)) t) ((nx, .row C [] e none) :: m), nx + 1⟩
theorem Wk.adopt {T : Tys} {A : Sta} {b k : Nat} {α : Type} {C : Cdc α} {e : Nat} (hC : CdOK T e ⟨α, C⟩) {cs : List AV} {t : Nat} (hlt : b < A.nx) (he : getE A.m b = some (.box cs t)) (hk : cs[k]? = some (.v (.slice none 0 0))) :
    Wk A (adoptS A b k C e cs t) := ⟨fun base w0 E gs tm w hnx hS => by
  obtain ⟨fr, stk, m, nx⟩ := A
  obtain ⟨s1, r1⟩ := hS.newNil hnx.fresh hC
  have hne : ¬ nx = b := fun h => by
    have : b < nx := hlt
    omega
  have hm : (b, Ent.box cs t) ∈ (nx, Ent.row C [] e none) :: m := List.mem_cons_of_mem _ (mem_of_getE he)
  obtain ⟨hid, ⟨bb, vs, h1, h2, h3⟩, _⟩ := s1.ents _ _ hm
  refine ⟨_, hnx.add _, s1.retell hm (b := bb) (by rw [h1]; rfl) ⟨bb, vs, h1, h2, ?_⟩⟩
  obtain ⟨hl, hr⟩ := h3
  have hkl : k < cs.length := by
    rcases Nat.lt_or_ge k cs.length with h | h
    · exact h
    · rw [List.getElem?_eq_none h] at hk; cases hk
  have hkv : cs[k] = .v (.slice none 0 0) := by
    rw [List.getElem?_eq_getElem hkl] at hk
    exact Option.some.inj hk
  refine ⟨by rw [List.length_set]; exact hl, fun i h4 h5 => ?_⟩
  rw [List.getElem_set]
  split
  · rename_i hki
    subst hki
    have := hr k hkl h5
    rw [hkv] at this
    rw [this.v_inv]
    exact r1
  · exact hr i (by simpa using h4) h5⟩
theorem loopA {T : Tys} {A : Sta} {ds : List Nat} {G : (ι : Type) → (ι → Sta) → (ι → Prop) → (ι → Nat) → ι → Prop} (b k : Nat) {α : Type} (C : Cdc α) (e : Nat) (hC : CdOK T e ⟨α, C⟩) {cs : List AV} {t : Nat} (hlt : Nat.ble (b + 1) A.nx = true) (he : getE A.m b = some (.box cs t)) (hk : cs[k]? = some (.v (.slice none 0 0)))
    (ι : Type) (xs : List Nat) (F : ι → Fr) (M : ι → Mem) (I : ι → Prop) (μ : ι → Nat) (i0 : ι) (h0 : I i0) (hw : Wk (adoptS A b k C e cs t) (genS (adoptS A b k C e cs t) (xs ++ ds) (F i0) (M i0)))
    (hr : ∀ i, I i → Run (G ι (fun i => genS (adoptS A b k C e cs t) (xs ++ ds) (F i) (M i)) I μ i)) : ∃ (ι : Type) (S : ι → Sta) (I : ι → Prop) (μ : ι → Nat), Base A ds ∧ (∃ i, I i ∧ Wk A (S i)) ∧ ∀ i, I i → Run (G ι S I μ i) :=
  ⟨ι, _, I, μ, ⟨⟩, ⟨i0, h0, (Wk.adopt hC (Nat.le_of_ble_eq_true hlt) he hk).trans hw⟩, hr⟩
end Go.SX
/- Contract of style.Splice. -/
namespace Go.SX.Tryz
open Go.Proofs Go.Proofs.Tryz Go.SX.Plain
set_option maxRecDepth 100000
set_option maxHeartbeats 0
set_option linter.unusedSimpArgs false
theorem q_ssplice : fact 16 f16 := ⟨by kernel_rfl, rfl, by kernel_rfl⟩
theorem con_ssplice : Con prog 16 (fun ((s, l, f, t, s2, l2) : ByteArray × List Spn × Int × Int × ByteArray × List Spn) => [txAV s l, .v (.int .i64 f), .v (.int .i64 t), txAV s2 l2])
    (fun (s, l, f, t, s2, l2) => .tup [txO (splT s l f t s2 l2) (splL s l f t s2 l2), .v (.int .i64 (splE s l f t s2 l2))]) (fun _ => True) := by
  refine Con.of (by kernel_rfl) T_ok D_spn_ok (.con con_scheck (.con con_ucut (.con con_uplace (.con con_umelts (.con con_ucount (.con con_souter .nil)))))) 3 [13, 29, 32] q_ssplice.1 q_ssplice.2.1 q_ssplice.2.2 (fun _ => rfl) fun i _ => ?_
  obtain ⟨s, l, f, t, s2, l2⟩ := i
  repeat' ((with_reducible refine Run.mk ?_); (conv => whnf))
  refine loopI Nat [] (fun i => [(30, .v (.int .i64 (i : Nat)))]) (fun _ => []) (fun i => i ≤ 2 ∧ (1 ≤ i → chkN s.size l (sgN s : Nat) = 0) ∧ (2 ≤ i → chkN s2.size l2 (sgN s2 : Nat) = 0)) (fun i => 2 - i) 0 ⟨by omega, by omega, by omega⟩ (Wk.chk ?_) fun i hx => ?_
  · ((conv => whnf); repeat' (first | (with_reducible first | refine And.intro ?_ ?_ | exact True.intro | rfl | exact LeN.ro rfl) | ((with_reducible refine Run.mk ?_); (conv => whnf))))
    all_goals rfl
  obtain ⟨hi, hc1, hc2⟩ := hx
  obtain rfl | rfl | rfl : i = 0 ∨ i = 1 ∨ i = 2 := by omega
  · have kb : decide (((0 : Nat) : Int) < ((2 : Nat) : Int)) = true := rfl
    by_cases h1 : chkN s.size l (sgN s : Nat) = 0
    · have k1 : (chkN s.size l (sgN s : Nat) != 0) = false := by rw [h1]; rfl
      repeat' (first | (with_reducible first | refine ⟨(s, l), ⟨(.cons (.agg (.cons (.v _) (.cons (.lent _ _ _ _ _ _) .nil))) .nil), ?_⟩, ?_⟩ | refine ex_of (α := Nat) 1 ⟨⟨?_, fun _ => h1, ?_⟩, ?_⟩ ?_ | refine And.intro ?_ ?_) | ((with_reducible intro hq); first | exact bne1 hq (by with_reducible assumption) | exact bne1 (by with_reducible assumption) hq | (revert hq; with_reducible intro _)) | (with_reducible first | exact True.intro | rfl | exact LeN.ro rfl) | ((with_reducible first | refine Wk.chk ?_ | refine Run.mk ?_); (conv => whnf)))
      all_goals first
        | omega
        | (apply Fits.i64 <;> omega)
        | decide
    · have k1 : (chkN s.size l (sgN s : Nat) != 0) = true := by simpa using h1
      have hE := splE_1 (f := f) (t := t) (s2 := s2) (l2 := l2) h1
      have hT := splT_no (s := s) (l := l) (f := f) (t := t) (s2 := s2) (l2 := l2) (by rw [hE]; exact h1)
      have hL := splL_no (s := s) (l := l) (f := f) (t := t) (s2 := s2) (l2 := l2) (by rw [hE]; exact h1)
      repeat' (first | (with_reducible first | refine ⟨(s, l), ⟨(.cons (.agg (.cons (.v _) (.cons (.lent _ _ _ _ _ _) .nil))) .nil), ?_⟩, ?_⟩ | refine And.intro ?_ ?_) | ((with_reducible intro hq); first | exact bne1 (by with_reducible assumption) hq | (revert hq; with_reducible intro _)) | (with_reducible first | exact True.intro | assumption) | ((with_reducible first | refine LeF.chk ?_ | refine Run.mk ?_); (conv => whnf)) | ((with_reducible show LeR _ _ _); refine LeR.nil ?_ (fun _ => rfl)))
      all_goals first
        | exact hE.symm
        | exact hT.symm
        | decide
  · have kb : decide (((1 : Nat) : Int) < ((2 : Nat) : Int)) = true := rfl
    have h1 := hc1 (Nat.le_refl _)
    by_cases h2 : chkN s2.size l2 (sgN s2 : Nat) = 0
    · have k1 : (chkN s2.size l2 (sgN s2 : Nat) != 0) = false := by rw [h2]; rfl
      repeat' (first | (with_reducible first | refine ⟨(s2, l2), ⟨(.cons (.agg (.cons (.v _) (.cons (.lent _ _ _ _ _ _) .nil))) .nil), ?_⟩, ?_⟩ | refine ex_of (α := Nat) 2 ⟨⟨?_, fun _ => h1, fun _ => h2⟩, ?_⟩ ?_ | refine And.intro ?_ ?_) | ((with_reducible intro hq); first | exact bne1 hq (by with_reducible assumption) | exact bne1 (by with_reducible assumption) hq | (revert hq; with_reducible intro _)) | (with_reducible first | exact True.intro | rfl | exact LeN.ro rfl) | ((with_reducible first | refine Wk.chk ?_ | refine Run.mk ?_); (conv => whnf)))
      all_goals first
        | omega
        | (apply Fits.i64 <;> omega)
        | decide
    · have k1 : (chkN s2.size l2 (sgN s2 : Nat) != 0) = true := by simpa using h2
      have hE := splE_2 (f := f) (t := t) h1 h2
      have hT := splT_no (s := s) (l := l) (f := f) (t := t) (s2 := s2) (l2 := l2) (by rw [hE]; exact h2)
      have hL := splL_no (s := s) (l := l) (f := f) (t := t) (s2 := s2) (l2 := l2) (by rw [hE]; exact h2)
      repeat' (first | (with_reducible first | refine ⟨(s2, l2), ⟨(.cons (.agg (.cons (.v _) (.cons (.lent _ _ _ _ _ _) .nil))) .nil), ?_⟩, ?_⟩ | refine And.intro ?_ ?_) | ((with_reducible intro hq); first | exact bne1 (by with_reducible assumption) hq | (revert hq; with_reducible intro _)) | (with_reducible first | exact True.intro | assumption) | ((with_reducible first | refine LeF.chk ?_ | refine Run.mk ?_); (conv => whnf)) | ((with_reducible show LeR _ _ _); refine LeR.nil ?_ (fun _ => rfl)))
      all_goals first
        | exact hE.symm
        | exact hT.symm
        | decide
  have kb : decide (((2 : Nat) : Int) < ((2 : Nat) : Int)) = false := rfl
  have h1 := hc1 (by omega)
  have h2 := hc2 (by omega)
  clear hc1 hc2
  have ok1 := OkT.of h1
  have ok2 := OkT.of h2
  have hs := ok1.size
  have hs2 := ok2.size
  have hn := sgN_le s
  have hn2 := sgN_le s2
  by_cases hm : 0 ≤ f ∧ f ≤ t ∧ t ≤ sgN s
  case neg =>
    have h3 : mayB f t (sgN s : Nat) = false := by
      unfold mayB
      rw [Bool.eq_false_iff]
      simp only [ne_eq, Bool.and_eq_true, decide_eq_true_eq]
      omega
    have hE := splE_3 h1 h2 h3
    have hT := splT_no (s := s) (l := l) (f := f) (t := t) (s2 := s2) (l2 := l2) (by rw [hE]; decide)
    have hL := splL_no (s := s) (l := l) (f := f) (t := t) (s2 := s2) (l2 := l2) (by rw [hE]; decide)
    have hce : cutE s f t = 1 := by unfold cutE; rw [if_neg hm]
    have k1 : (cutE s f t != 0) = true := by rw [hce]; rfl
    repeat' (first | (with_reducible first | refine ⟨(_, _, _), ⟨(.cons (.v _) (.cons (.v _) (.cons (.v _) (.cons (.v _) .nil)))), ?_⟩, ?_⟩ | refine And.intro ?_ ?_) | ((with_reducible intro hq); first | exact bne1 hq (by with_reducible assumption) | exact bne1 (by with_reducible assumption) hq | (revert hq; with_reducible intro _)) | (with_reducible first | exact True.intro | assumption) | ((with_reducible first | refine LeF.chk ?_ | refine Run.mk ?_); (conv => whnf)) | ((with_reducible show LeR _ _ _); refine LeR.nil ?_ (fun _ => rfl)))
    all_goals first
      | (dsimp only; omega)
      | exact hE.symm
      | exact hT.symm
  have h3 : mayB f t (sgN s : Nat) = true := by
    unfold mayB
    simp only [Bool.and_eq_true, decide_eq_true_eq]
    omega
  have hce : cutE s f t = 0 := by unfold cutE; rw [if_pos hm]
  have k1 : (cutE s f t != 0) = false := by rw [hce]; rfl
  have hct : cutT s f t = s.extract (posS s f.toNat) (posS s t.toNat) := by unfold cutT; rw [if_pos hm]
  have hpn : plN s f = (posS s f.toNat : Nat) := by unfold plN; rw [if_pos ⟨by omega, by omega⟩]
  have p5 := posS_mono s (i := f.toNat) (j := t.toNat) (by omega) (by omega)
  have p6 := posS_le s t.toNat
  have hcs : (cutT s f t).size = posS s t.toNat - posS s f.toNat := by rw [hct]; exact size_extract' p6
  have hfs : (frontT s f).size = posS s f.toNat := by unfold frontT; rw [size_extract' (by omega)]; omega
  have hrs : (restT s t).size = s.size - posS s t.toNat := by unfold restT; exact size_extract' (Nat.le_refl _)
  have hnsz : (newT s f t s2).size = (frontT s f).size + s2.size + (restT s t).size := by unfold newT; rw [app_size, app_size]
  have hfsz : (frontT s f ++ s2).size = (frontT s f).size + s2.size := app_size _ _
  have e1 : (plN s f + ((cutT s f t).size : Int)).toNat = posS s t.toNat := by rw [hpn, hcs]; omega
  have e2 : (plN s f).toNat = posS s f.toNat := by rw [hpn]; omega
  repeat' (first | (with_reducible first | refine ⟨(_, _, _), ⟨(.cons (.v _) (.cons (.v _) (.cons (.v _) (.cons (.v _) .nil)))), ?_⟩, ?_⟩ | refine ⟨(_, _), ⟨(.cons (.v _) (.cons (.v _) (.cons (.v _) (.cons (.v _) .nil)))), ?_⟩, ?_⟩ | refine And.intro ?_ ?_) | ((with_reducible intro hq); first | exact bne1 hq (by with_reducible assumption) | (revert hq; with_reducible intro _)) | ((with_reducible refine Run.mk ?_); (conv => whnf)))
  all_goals (try (dsimp only; omega))
  refine joinI Unit [] (fun _ => [(17, .v (.string (frontT s f))), (18, .v (.string (restT s t)))]) (fun _ => []) (fun _ => True) ?_ fun _ _ => ?_
  · repeat' (first | (with_reducible first | refine ex_of () trivial ?_ | refine And.intro ?_ ?_ | exact True.intro | rfl | exact LeN.ro rfl) | ((with_reducible first | refine Wk.chk ?_ | refine Run.mk ?_); (conv => whnf)) | ((with_reducible show drawOK _ _ = true); kernel_rfl))
    all_goals first
      | (rw [e2]; rfl)
      | (rw [e1]; rfl)
      | (rw [hpn, hcs]; apply Fits.i64 <;> omega)
      | (rw [hpn, hcs]; omega)
      | (rw [hpn]; omega)
  have hF : Hid (newT s f t s2 = frontT s f ++ s2 ++ restT s t) := ⟨rfl⟩
  clear e1 e2 hcs hct hpn hce
  by_cases h4 : 4096 < (newT s f t s2).size
  · have hE := splE_4 (l := l) (l2 := l2) h1 h2 h3 h4
    have hT := splT_no (s := s) (l := l) (f := f) (t := t) (s2 := s2) (l2 := l2) (by rw [hE]; decide)
    have hL := splL_no (s := s) (l := l) (f := f) (t := t) (s2 := s2) (l2 := l2) (by rw [hE]; decide)
    have k2 : decide ((4096 : Int) < ((frontT s f).size : Int) + (s2.size : Int) + ((restT s t).size : Int)) = true := decide_eq_true (by omega)
    repeat' (first | (with_reducible refine And.intro ?_ ?_) | ((with_reducible intro hq); first | exact bne1 (by with_reducible assumption) hq | (revert hq; with_reducible intro _)) | (with_reducible first | exact True.intro | assumption) | ((with_reducible first | refine LeF.chk ?_ | refine Run.mk ?_); (conv => whnf)) | ((with_reducible show LeR _ _ _); refine LeR.nil ?_ (fun _ => rfl)))
    all_goals first
      | (apply Fits.i64 <;> omega)
      | exact hE.symm
      | exact hT.symm
  have k2 : decide ((4096 : Int) < ((frontT s f).size : Int) + (s2.size : Int) + ((restT s t).size : Int)) = false := decide_eq_false (by omega)
  have hw2 : (frontT s f ++ s2 ++ restT s t).size = (newT s f t s2).size := rfl
  have hfl : (frontT s f).size + s2.size + (restT s t).size ≤ 4096 := by omega
  have hms := Bool.eq_false_or_eq_true (meltB (frontT s f) s2)
  rcases hms with h5 | h5
  · have hE := splE_5 (l := l) (l2 := l2) h1 h2 h3 h4 (.inl h5)
    have hT := splT_no (s := s) (l := l) (f := f) (t := t) (s2 := s2) (l2 := l2) (by rw [hE]; decide)
    have hL := splL_no (s := s) (l := l) (f := f) (t := t) (s2 := s2) (l2 := l2) (by rw [hE]; decide)
    repeat' (first | (with_reducible first | refine ⟨(_, _), ⟨(.cons (.v _) (.cons (.v _) .nil)), ?_⟩, ?_⟩ | refine And.intro ?_ ?_) | ((with_reducible intro hq); first | exact bne1 hq (by with_reducible assumption) | exact bne1 (by with_reducible assumption) hq | (revert hq; with_reducible intro _)) | (with_reducible first | exact True.intro | assumption) | ((with_reducible first | refine LeF.chk ?_ | refine Run.mk ?_); (conv => whnf)) | ((with_reducible show LeR _ _ _); refine LeR.nil ?_ (fun _ => rfl)))
    all_goals first
      | omega
      | (apply Fits.i64 <;> omega)
      | exact hT.symm
  have hms := Bool.eq_false_or_eq_true (meltB (frontT s f ++ s2) (restT s t))
  rcases hms with h6 | h6
  · have hE := splE_5 (l := l) (l2 := l2) h1 h2 h3 h4 (.inr h6)
    have hT := splT_no (s := s) (l := l) (f := f) (t := t) (s2 := s2) (l2 := l2) (by rw [hE]; decide)
    have hL := splL_no (s := s) (l := l) (f := f) (t := t) (s2 := s2) (l2 := l2) (by rw [hE]; decide)
    repeat' (first | (with_reducible first | refine ⟨(_, _), ⟨(.cons (.v _) (.cons (.v _) .nil)), ?_⟩, ?_⟩ | refine And.intro ?_ ?_) | ((with_reducible intro hq); first | exact bne1 hq (by with_reducible assumption) | exact bne1 (by with_reducible assumption) hq | (revert hq; with_reducible intro _)) | (with_reducible first | exact True.intro | assumption) | ((with_reducible first | refine LeF.chk ?_ | refine Run.mk ?_); (conv => whnf)) | ((with_reducible show LeR _ _ _); refine LeR.nil ?_ (fun _ => rfl)))
    all_goals first
      | omega
      | (apply Fits.i64 <;> omega)
      | exact hT.symm
  have hLl : (isort ltO l).length = l.length := isort_len l
  have hl := ok1.len
  have hl2 := ok2.len
  have hd : C_spn.d = zS := rfl
  repeat' (first | (with_reducible first | refine ⟨(_, _), ⟨(.cons (.v _) (.cons (.v _) .nil)), ?_⟩, ?_⟩ | refine ⟨_, ⟨(.cons (.v _) .nil), ?_⟩, ?_⟩ | refine ⟨(s, l), ⟨(.cons (.agg (.cons (.v _) (.cons (.lent _ _ _ _ _ _) .nil))) .nil), ?_⟩, ?_⟩ | refine And.intro ?_ ?_) | ((with_reducible intro hq); first | exact bne1 hq (by with_reducible assumption) | (revert hq; with_reducible intro _)) | ((with_reducible refine Run.mk ?_); (conv => whnf)))
  all_goals (try first | omega | (apply Fits.i64 <;> omega))
  have hin := (spans_in ok1.spans).isort
  have hin2 := spans_in ok2.spans
  have hg : ∀ x, mvS f t (sgN s2 : Nat) x = mvS f t (sgN s2 : Nat) x := fun _ => rfl
  refine loopA 4 1 C_spn 42 (T := T) ⟨fun _ => rfl, by decide, _, rfl, rfl, by decide⟩ (by rfl) (by with_unfolding_all exact rfl) (by with_unfolding_all exact rfl) Nat [] (fun i => [(112, .v (.int .i64 (i : Nat)))]) (fun i => [(5, .row C_spn (outTo (mvS f t (sgN s2 : Nat)) (isort ltO l) i) 42 none)]) (fun i => i ≤ (isort ltO l).length) (fun i => (isort ltO l).length - i) 0 (Nat.zero_le _) (Wk.chk ?_) fun i hi => ?_
  · ((conv => whnf); repeat' (first | (with_reducible first | refine And.intro ?_ ?_ | exact True.intro | rfl | refine EntLe.row ?_ | exact LeN.ro rfl) | ((with_reducible refine Run.mk ?_); (conv => whnf))))
    all_goals rfl
  have hi : i ≤ (isort ltO l).length := hi
  have e1 : ((i : Int)).toNat = i := Int.toNat_natCast _
  have hol := outTo_len (mvS f t (sgN s2 : Nat)) (isort ltO l) i
  by_cases hil : i < (isort ltO l).length
  · have hlt : decide ((i : Int) < ((isort ltO l).length : Int)) = true := decide_eq_true (by omega)
    have hxb := hin.at hil
    have hoy := outTo_yes (g := mvS f t (sgN s2 : Nat)) hil
    have hon := outTo_no (g := mvS f t (sgN s2 : Nat)) hil
    have hxe : ∃ x, x = (isort ltO l).getD i zS := ⟨_, rfl⟩
    obtain ⟨x, hx⟩ := hxe
    rw [← hx] at hxb hoy hon
    have hxx : (isort ltO l).getD ((i : Int)).toNat C_spn.d = x := by rw [e1, hd, hx]
    have hbb := bgn_bd (f := f) (t := t) (n := (sgN s2 : Nat)) (x := x.frm) hm.1 hm.2.1 (by omega) hxb.1
    have heb := eds_bd (f := f) (t := t) (n := (sgN s2 : Nat)) (x := x.to) hm.1 hm.2.1 (by omega) (by omega)
    repeat' (first | (with_reducible refine And.intro ?_ ?_) | ((with_reducible intro hq); first | exact bne1 (by with_reducible assumption) hq | (revert hq; with_reducible intro _)) | ((with_reducible refine Run.mk ?_); (conv => whnf)))
    any_goals omega
    refine joinI Unit [] (fun _ => []) (fun _ => [(6, .box [.v (.int .i64 (bgn f t (sgN s2 : Nat) x.frm)), .v (.int .i64 x.to), .v (.int .i64 x.kind), .v (.int .i64 x.val)] 42)]) (fun _ => True) ?_ fun _ _ => ?_
    · by_cases c1 : t ≤ x.frm
      · have kc : decide (t ≤ ((isort ltO l).getD ((i : Int)).toNat C_spn.d).frm) = true := by rw [hxx]; exact decide_eq_true c1
        have hv : bgn f t (sgN s2 : Nat) x.frm = x.frm + ((sgN s2 : Nat) - (t - f)) := by unfold bgn; rw [if_pos c1]
        repeat' (first | (with_reducible first | refine ex_of () trivial ?_ | refine And.intro ?_ ?_) | ((with_reducible intro hq); first | exact bne1 (by with_reducible assumption) hq | (revert hq; with_reducible intro _)) | (with_reducible first | exact True.intro | rfl | refine EntLe.row ?_ | exact LeN.ro rfl | exact LeN.rptr) | ((with_reducible first | refine Wk.chk ?_ | refine Run.mk ?_); (conv => whnf)))
        all_goals first
        | (rw [hxx]; done)
        | (rw [hxx]; apply Fits.i64 <;> omega)
        | (rw [hxx]; exact hv.symm)

      have kc : decide (t ≤ ((isort ltO l).getD ((i : Int)).toNat C_spn.d).frm) = false := by rw [hxx]; exact decide_eq_false c1
      by_cases c2 : f < x.frm
      · have kd : decide (f < ((isort ltO l).getD ((i : Int)).toNat C_spn.d).frm) = true := by rw [hxx]; exact decide_eq_true c2
        have hv : bgn f t (sgN s2 : Nat) x.frm = f + (sgN s2 : Nat) := by unfold bgn; rw [if_neg c1, if_pos c2]
        repeat' (first | (with_reducible first | refine ex_of () trivial ?_ | refine And.intro ?_ ?_) | ((with_reducible intro hq); first | exact bne1 hq (by with_reducible assumption) | exact bne1 (by with_reducible assumption) hq | (revert hq; with_reducible intro _)) | (with_reducible first | exact True.intro | rfl | refine EntLe.row ?_ | exact LeN.ro rfl | exact LeN.rptr) | ((with_reducible first | refine Wk.chk ?_ | refine Run.mk ?_); (conv => whnf)))
        all_goals first
        | omega
        | (rw [hxx]; done)
        | (apply Fits.i64 <;> omega)

      · have kd : decide (f < ((isort ltO l).getD ((i : Int)).toNat C_spn.d).frm) = false := by rw [hxx]; exact decide_eq_false c2
        have hv : bgn f t (sgN s2 : Nat) x.frm = x.frm := by unfold bgn; rw [if_neg c1, if_neg c2]
        repeat' (first | (with_reducible first | refine ex_of () trivial ?_ | refine And.intro ?_ ?_) | ((with_reducible intro hq); first | exact bne1 hq (by with_reducible assumption) | (revert hq; with_reducible intro _)) | (with_reducible first | exact True.intro | rfl | refine EntLe.row ?_ | exact LeN.ro rfl | exact LeN.rptr) | ((with_reducible first | refine Wk.chk ?_ | refine Run.mk ?_); (conv => whnf)))
        all_goals first
        | (rw [hxx]; done)
        | (rw [hxx]; exact hv.symm)

    repeat' ((with_reducible refine Run.mk ?_); (conv => whnf))
    refine joinI Unit [] (fun _ => []) (fun _ => [(6, .box [.v (.int .i64 (bgn f t (sgN s2 : Nat) x.frm)), .v (.int .i64 (eds f t (sgN s2 : Nat) x.to)), .v (.int .i64 x.kind), .v (.int .i64 x.val)] 42)]) (fun _ => True) ?_ fun _ _ => ?_
    · by_cases c1 : x.to ≤ f
      · have kc : decide (x.to ≤ f) = true := decide_eq_true c1
        have hv : eds f t (sgN s2 : Nat) x.to = x.to := by unfold eds; rw [if_pos c1]
        repeat' (first | (with_reducible first | refine ex_of () trivial ?_ | refine And.intro ?_ ?_) | ((with_reducible intro hq); first | exact bne1 (by with_reducible assumption) hq | (revert hq; with_reducible intro _)) | (with_reducible first | exact True.intro | rfl | refine EntLe.row ?_ | exact LeN.ro rfl | exact LeN.rptr) | ((with_reducible first | refine Wk.chk ?_ | refine Run.mk ?_); (conv => whnf)))
        all_goals omega

      have kc : decide (x.to ≤ f) = false := decide_eq_false c1
      by_cases c2 : t ≤ x.to
      · have kd : decide (t ≤ x.to) = true := decide_eq_true c2
        have hv : eds f t (sgN s2 : Nat) x.to = x.to + ((sgN s2 : Nat) - (t - f)) := by unfold eds; rw [if_neg c1, if_pos c2]
        repeat' (first | (with_reducible first | refine ex_of () trivial ?_ | refine And.intro ?_ ?_) | ((with_reducible intro hq); first | exact bne1 hq (by with_reducible assumption) | exact bne1 (by with_reducible assumption) hq | (revert hq; with_reducible intro _)) | (with_reducible first | exact True.intro | rfl | refine EntLe.row ?_ | exact LeN.ro rfl | exact LeN.rptr) | ((with_reducible first | refine Wk.chk ?_ | refine Run.mk ?_); (conv => whnf)))
        all_goals first
        | omega
        | (apply Fits.i64 <;> omega)

      · have kd : decide (t ≤ x.to) = false := decide_eq_false c2
        have hv : eds f t (sgN s2 : Nat) x.to = f := by unfold eds; rw [if_neg c1, if_neg c2]
        repeat' (first | (with_reducible first | refine ex_of () trivial ?_ | refine And.intro ?_ ?_) | ((with_reducible intro hq); first | exact bne1 hq (by with_reducible assumption) | (revert hq; with_reducible intro _)) | (with_reducible first | exact True.intro | rfl | refine EntLe.row ?_ | exact LeN.ro rfl | exact LeN.rptr) | ((with_reducible first | refine Wk.chk ?_ | refine Run.mk ?_); (conv => whnf)))
        all_goals omega

    have hpb := Bool.eq_false_or_eq_true (posB (mvS f t (sgN s2 : Nat) x))
    rcases hpb with hpb | hpb
    · have hst := (hoy hpb).symm
      have kc : decide (bgn f t (sgN s2 : Nat) x.frm < eds f t (sgN s2 : Nat) x.to) = true := hpb
      clear hoy hon
      repeat' (first | (with_reducible first | refine ex_of (α := Nat) (i + 1) ⟨?_, ?_⟩ ?_ | refine And.intro ?_ ?_) | ((with_reducible intro hq); first | exact bne1 (by with_reducible assumption) hq | (revert hq; with_reducible intro _)) | (with_reducible first | exact True.intro | rfl | refine EntLe.row ?_ | exact LeN.ro rfl) | ((with_reducible first | refine Wk.chk ?_ | refine LeL.chk ?_ | refine Run.mk ?_); (conv => whnf)))
      all_goals first
        | omega
        | rfl
        | (apply Fits.i64 <;> omega)
        | (show (isort ltO l).length - (i + 1) < (isort ltO l).length - i; omega)
        | (show ((outTo (mvS f t (sgN s2 : Nat)) (isort ltO l) i).length + 1) * 32 ≤ 140737488355328; omega)
        | exact hst
    · have hst := (hon hpb).symm
      have kc : decide (bgn f t (sgN s2 : Nat) x.frm < eds f t (sgN s2 : Nat) x.to) = false := hpb
      clear hoy hon
      repeat' (first | (with_reducible first | refine ex_of (α := Nat) (i + 1) ⟨?_, ?_⟩ ?_ | refine And.intro ?_ ?_) | ((with_reducible intro hq); first | exact bne1 hq (by with_reducible assumption) | (revert hq; with_reducible intro _)) | (with_reducible first | exact True.intro | rfl | refine EntLe.row ?_ | exact LeN.ro rfl | assumption) | ((with_reducible first | refine Wk.chk ?_ | refine Run.mk ?_); (conv => whnf)))
      all_goals first
        | omega
        | (apply Fits.i64 <;> omega)
        | (show (isort ltO l).length - (i + 1) < (isort ltO l).length - i; omega)
  have hlt : decide ((i : Int) < ((isort ltO l).length : Int)) = false := decide_eq_false (by omega)
  have hii : i = (isort ltO l).length := by omega
  subst hii
  repeat' (first | (with_reducible refine And.intro ?_ ?_) | ((with_reducible intro hq); first | exact bne1 hq (by with_reducible assumption) | (revert hq; with_reducible intro _)) | ((with_reducible refine Run.mk ?_); (conv => whnf)))
  refine loopI Nat [] (fun j => [(167, .v (.int .i64 (j : Nat)))]) (fun j => [(5, .row C_spn (outTo (mvS f t (sgN s2 : Nat)) (isort ltO l) (isort ltO l).length ++ shTo f l2 j) 42 none)]) (fun j => j ≤ l2.length) (fun j => l2.length - j) 0 (Nat.zero_le _) (Wk.chk ?_) fun j hj => ?_
  · ((conv => whnf); repeat' (first | (with_reducible first | refine And.intro ?_ ?_ | exact True.intro | rfl | refine EntLe.row ?_ | exact LeN.ro rfl) | ((with_reducible refine Run.mk ?_); (conv => whnf))))
    all_goals first
      | rfl
      | (simp [shTo]; done)
  have hj : j ≤ l2.length := hj
  have e1 : ((j : Int)).toNat = j := Int.toNat_natCast _
  have hsl := shTo_len (k := f) hj
  by_cases hjl : j < l2.length
  · have hlt : decide ((j : Int) < (l2.length : Int)) = true := decide_eq_true (by omega)
    have hxb := hin2.at hjl
    have hst := shTo_step (k := f) hjl
    have hxx : l2.getD ((j : Int)).toNat C_spn.d = l2.getD j zS := by rw [e1, hd]
    have hst2 : outTo (mvS f t (sgN s2 : Nat)) (isort ltO l) (isort ltO l).length ++ shTo f l2 j ++ [shS f (l2.getD j zS)] = outTo (mvS f t (sgN s2 : Nat)) (isort ltO l) (isort ltO l).length ++ shTo f l2 (j + 1) := by rw [hst, List.append_assoc]
    repeat' (first | (with_reducible first | refine ex_of (α := Nat) (j + 1) ⟨?_, ?_⟩ ?_ | refine And.intro ?_ ?_) | ((with_reducible intro hq); first | exact bne1 (by with_reducible assumption) hq | (revert hq; with_reducible intro _)) | (with_reducible first | exact True.intro | rfl | refine EntLe.row ?_ | exact LeN.ro rfl) | ((with_reducible first | refine Wk.chk ?_ | refine LeL.chk ?_ | refine Run.mk ?_); (conv => whnf)))
    all_goals first
      | omega
      | rfl
      | (apply Fits.i64 <;> omega)
      | (rw [hxx]; apply Fits.i64 <;> omega)
      | (show l2.length - (j + 1) < l2.length - j; omega)
      | (show ((outTo (mvS f t (sgN s2 : Nat)) (isort ltO l) (isort ltO l).length ++ shTo f l2 j).length + 1) * 32 ≤ 140737488355328; rw [List.length_append]; omega)
      | exact hst2
  have hlt : decide ((j : Int) < (l2.length : Int)) = false := decide_eq_false (by omega)
  have hjj : j = l2.length := by omega
  subst hjj
  have hNL : outTo (mvS f t (sgN s2 : Nat)) (isort ltO l) (isort ltO l).length ++ shTo f l2 l2.length = newL l f t s2 l2 := rfl
  by_cases h7 : 256 < (newL l f t s2 l2).length
  · have hE := splE_6 h1 h2 h3 h4 h5 h6 h7
    have hT := splT_no (s := s) (l := l) (f := f) (t := t) (s2 := s2) (l2 := l2) (by rw [hE]; decide)
    have hL := splL_no (s := s) (l := l) (f := f) (t := t) (s2 := s2) (l2 := l2) (by rw [hE]; decide)
    have kc : decide ((256 : Int) < ((outTo (mvS f t (sgN s2 : Nat)) (isort ltO l) (isort ltO l).length ++ shTo f l2 l2.length).length : Int)) = true := decide_eq_true (by rw [hNL]; omega)
    repeat' (first | (with_reducible refine And.intro ?_ ?_) | ((with_reducible intro hq); first | exact bne1 hq (by with_reducible assumption) | exact bne1 (by with_reducible assumption) hq | (revert hq; with_reducible intro _)) | (with_reducible first | exact True.intro | assumption) | ((with_reducible first | refine LeF.chk ?_ | refine Run.mk ?_); (conv => whnf)) | ((with_reducible show LeR _ _ _); refine LeR.nil ?_ (fun _ => rfl)))
    all_goals first
      | exact hE.symm
      | exact hT.symm
  · have hE := splE_7 h1 h2 h3 h4 h5 h6 h7
    have hT := splT_yes hE
    have hL := splL_yes hE
    have kc : decide ((256 : Int) < ((outTo (mvS f t (sgN s2 : Nat)) (isort ltO l) (isort ltO l).length ++ shTo f l2 l2.length).length : Int)) = false := decide_eq_false (by rw [hNL]; omega)
    repeat' (first | (with_reducible refine And.intro ?_ ?_) | ((with_reducible intro hq); first | exact bne1 hq (by with_reducible assumption) | (revert hq; with_reducible intro _)) | (with_reducible exact True.intro) | ((with_reducible first | refine LeF.chk ?_ | refine Run.mk ?_); (conv => whnf)) | ((with_reducible show LeR _ _ _); refine LeR.own rfl rfl rfl ?_))
    all_goals first
      | exact hE.symm
      | exact hT.symm
      | exact hL.symm
end Go.SX.Tryz
/- Laying one element into a row, told by its place. No program here. -/
namespace Go.SX.Plain
section
variable {α : Type} {d : α} {lt : α → α → Bool}
theorem isort_take {l : List α} {i : Nat} (h : i < l.length) : isort lt (l.take (i + 1)) = insR lt (l.getD i d) (isort lt (l.take i)) := by
  unfold isort mrg
  rw [← take_one l d h, List.foldl_append]
  rfl
theorem insR_at {S : List α} {x : α} {k : Nat} (hk : k ≤ S.length) (hq : ∀ j, k ≤ j → j < S.length → lt x (S.getD j d) = true) (hp : k = 0 ∨ lt x (S.getD (k - 1) d) = false) : insR lt x S = S.take k ++ x :: S.drop k := by
  have hq2 : ∀ z ∈ S.drop k, lt x z = true := fun z hz => by
    obtain ⟨j, hj, rfl⟩ := List.getElem_of_mem hz
    rw [List.length_drop] at hj
    have := hq (k + j) (by omega) (by omega)
    rw [List.getElem_drop]
    simpa [List.getD_eq_getElem?_getD, show k + j < S.length by omega] using this
  rcases Nat.eq_zero_or_pos k with rfl | h0
  · rw [List.drop_zero] at hq2
    rw [List.take_zero, List.drop_zero]
    exact insR_all hq2
  · rcases hp with hp | hp
    · omega
    · have e : S = S.take (k - 1) ++ [S.getD (k - 1) d] ++ S.drop k := by
        rw [take_one S d (show k - 1 < S.length by omega), show k - 1 + 1 = k by omega, List.take_append_drop]
      have hl := insR_last (lt := lt) (x := x) (z := S.getD (k - 1) d) (p := S.take (k - 1)) (q := S.drop k) hp hq2
      rw [← e] at hl
      rw [hl, take_one S d (show k - 1 < S.length by omega), show k - 1 + 1 = k by omega]
end
end Go.SX.Plain
/- A verified symbolic executor for Go code in the model: a row takes another one's name. -/
namespace Go.SX
open Go.RowKit
def moveE (i j : Nat) (p : Nat × Ent) : Option (Nat × Ent) := match p with
  | (k, e) => match e with
    | .loop _ _ _ _ _ _ _ _ _ => none
    | .defer _ => none
    | .box cs t => match Nat.beq k i with
      | true => none
      | false => some (match Nat.beq k j with | true => i | false => k, .box (AV.subL j (.own i) (AV.subL i .junk cs)) t)
    | .row C l t cap => match Nat.beq k i with
      | true => none
      | false => some (match Nat.beq k j with | true => i | false => k, .row C l t cap)
    | .iter s p => match Nat.beq k i with
      | true => none
      | false => some (match Nat.beq k j with | true => i | false => k, .iter s p)
def moveF (i j : Nat) (fr : Fr) : Fr := subF j (.own i) (subF i .junk fr)
def moveS (i j : Nat) (A : Sta) : Sta := match A with
  | ⟨fr, stk, m, nx⟩ => ⟨moveF i j fr, stk.map (moveF i j), m.filterMap (moveE i j), nx⟩
def Env.move (E : Env) (i j : Nat) : Env := { E with h := fun k => if k = i then E.h j else E.h k }
theorem Env.move_i (E : Env) (i j : Nat) : (E.move i j).h i = E.h j := if_pos rfl
theorem Env.move_ne (E : Env) {i j k : Nat} (h : k ≠ i) : (E.move i j).h k = E.h k := if_neg h
section
variable {base : Nat} {w0 : Start} {w : World} {E : Env} {stk : List Fr} {gs : List (Array Value)} {m : Mem}
theorem rel_move {i j : Nat} (hij : i ≠ j) (hi : ∀ b, E.h i ≠ .pointer (some ⟨b, 0, none⟩)) (hd : E.dom i) (hj : ∃ A n c, E.h j = .slice A n c) {a : AV} {v : Value} (h : Rel w E a v) : Rel w (E.move i j) (AV.sub j (.own i) (AV.sub i .junk a)) v := by
  have t1 : Turns i E (E.move i j) w w := ⟨fun id _ hne => E.move_ne hne, hi, fun _ h => h, fun _ h => h, fun _ h => h, fun _ _ => rfl⟩
  have hjj : (E.move i j).h j = E.h j := E.move_ne (Ne.symm hij)
  have hpj : ∀ b, (E.move i j).h j ≠ .pointer (some ⟨b, 0, none⟩) := fun b hb => by
    obtain ⟨A, n, c, hs⟩ := hj
    rw [hjj, hs] at hb
    cases hb
  have t2 : Turns j (E.move i j) (E.move i j) w w := ⟨fun id _ _ => rfl, hpj, fun _ h => h, fun _ h => h, fun _ h => h, fun _ _ => rfl⟩
  refine Rel.sub t2 (fun _ => ?_) (Rel.sub t1 (fun _ => .junk _) h)
  have := Rel.own (w := w) (E := E.move i j) (id := i) hd (by rw [E.move_i]; exact hj)
  rw [E.move_i] at this
  rw [hjj]
  exact this
theorem moveE_some {i j : Nat} {p q : Nat × Ent} (h : moveE i j p = some q) : p.1 ≠ i ∧ q.1 = (if p.1 = j then i else p.1) ∧
    ((∃ cs t, p.2 = .box cs t ∧ q.2 = .box (AV.subL j (.own i) (AV.subL i .junk cs)) t) ∨ q.2 = p.2 ∧ ((∃ (α : Type) (C : Cdc α) (l : List α) (t : Nat) (cap : Option Nat), p.2 = .row C l t cap) ∨ ∃ s pos, p.2 = .iter s pos)) := by
  obtain ⟨k, e⟩ := p
  have key : ∀ {e' : Ent}, (match Nat.beq k i with | true => none | false => some (match Nat.beq k j with | true => i | false => k, e')) = some q → k ≠ i ∧ q.1 = (if k = j then i else k) ∧ q.2 = e' := by
    intro e' h
    cases hb : Nat.beq k i with
    | true => rw [hb] at h; cases h
    | false =>
      rw [hb] at h
      have := Option.some.inj h
      subst this
      refine ⟨fun e => by subst e; simp at hb, ?_, rfl⟩
      cases hb2 : Nat.beq k j with
      | true => rw [if_pos (Nat.eq_of_beq_eq_true hb2)]
      | false => rw [if_neg (fun e => by subst e; simp at hb2)]
  cases e with
  | box cs t =>
    obtain ⟨a, b, c⟩ := key h
    exact ⟨a, b, .inl ⟨cs, t, rfl, c⟩⟩
  | row C l t cap =>
    obtain ⟨a, b, c⟩ := key h
    exact ⟨a, b, .inr ⟨c, .inl ⟨_, C, l, t, cap, rfl⟩⟩⟩
  | iter s p =>
    obtain ⟨a, b, c⟩ := key h
    exact ⟨a, b, .inr ⟨c, .inr ⟨s, p, rfl⟩⟩⟩
  | defer b => cases h
  | loop _ _ _ _ _ _ _ _ _ => cases h
theorem SatM.move (h : SatM base w0 E stk gs m w) {i j : Nat} (hij : i ≠ j) {α α' : Type} {C : Cdc α} {l : List α} {t : Nat} {cap : Option Nat} {C' : Cdc α'} {l' : List α'} {t' : Nat} {cap' : Option Nat} (hi : (i, Ent.row C' l' t' cap') ∈ m) (hj : (j, Ent.row C l t cap) ∈ m) :
    SatM base w0 (E.move i j) (stk.map (moveF i j)) gs (m.filterMap (moveE i j)) w := by
  have hsl : ∀ {k : Nat} {β : Type} {C : Cdc β} {l : List β} {t : Nat} {cap : Option Nat}, (k, Ent.row C l t cap) ∈ m → ∃ A n c, E.h k = .slice A n c := fun hk => by
    obtain ⟨_, ⟨_, _, ⟨xs, ho, _⟩, _⟩, _⟩ := h.ents _ _ hk
    rcases ho.2 with ⟨hv, _⟩ | ⟨g, c, cur, hv, _⟩
    · exact ⟨_, _, _, hv⟩
    · exact ⟨_, _, _, hv⟩
  have hpi : ∀ b, E.h i ≠ .pointer (some ⟨b, 0, none⟩) := fun b hb => by
    obtain ⟨A, n, c, hs⟩ := hsl hi
    rw [hs] at hb
    cases hb
  have hdi := (h.ents _ _ hi).1
  have hrel : ∀ {a : AV} {v : Value}, Rel w E a v → Rel w (E.move i j) (AV.sub j (.own i) (AV.sub i .junk a)) v := fun hr => rel_move hij hpi hdi (hsl hj) hr
  have hhq : ∀ {p q : Nat × Ent}, moveE i j p = some q → (E.move i j).h q.1 = E.h p.1 := fun {p q} hq => by
    obtain ⟨a, b, _⟩ := moveE_some hq
    rw [b]
    split
    · rename_i e; rw [E.move_i, e]
    · exact E.move_ne a
  refine ⟨h.below, h.hb, h.imm, h.keep, h.same, fun id e he => ?_, ?_, by rw [List.length_map]; exact h.len, fun k h1 h2 => ?_⟩
  · obtain ⟨⟨k, e0⟩, hp, hq⟩ := List.mem_filterMap.1 he
    have hh := hhq hq
    obtain ⟨a, b, c⟩ := moveE_some hq
    obtain ⟨d1, d2, d3⟩ := h.ents _ _ hp
    simp only at hh a b c
    refine ⟨?_, ?_, by rw [hh]; exact d3⟩
    · show E.dom id
      rw [b]
      split
      · exact hdi
      · exact d1
    · rcases c with ⟨cs, ty, rfl, rfl⟩ | ⟨rfl, ⟨β, C2, l2, t2, cap2, rfl⟩ | ⟨s, pos, rfl⟩⟩
      · obtain ⟨bb, vs, f1, f2, f3⟩ := d2
        refine ⟨bb, vs, by rw [hh]; exact f1, f2, ?_⟩
        refine ⟨by rw [AV.subL_length, AV.subL_length]; exact f3.1, fun n g1 g2 => ?_⟩
        have g3 : n < (AV.subL i .junk cs).length := by rw [AV.subL_length] at g1; exact g1
        have g4 : n < cs.length := by rw [AV.subL_length] at g3; exact g3
        rw [AV.subL_get _ _ _ n g1 g3, AV.subL_get _ _ _ n g3 g4]
        exact hrel (f3.2 n g4 g2)
      · obtain ⟨f1, f2, ⟨xs, f3, f4⟩, f5⟩ := d2
        refine ⟨f1, f2, ⟨xs, by rw [hh]; exact f3, f4.mono (Goes.bare (fun _ h => h) fun _ _ => rfl)⟩, by rw [hh]; exact f5⟩
      · obtain ⟨bb, f1, f2⟩ := d2
        exact ⟨bb, by rw [hh]; exact f1, f2⟩
  · refine List.Pairwise.filterMap (moveE i j) ?_ (h.disj.imp_of_mem (S := fun p q => (p.1 ≠ q.1 ∧ ∀ b, blk (E.h p.1) = some b → blk (E.h q.1) ≠ some b)) fun _ _ hr => hr)
    intro p q hr p' hp' q' hq'
    have e1 := hhq hp'
    have e2 := hhq hq'
    obtain ⟨a1, b1, _⟩ := moveE_some hp'
    obtain ⟨a2, b2, _⟩ := moveE_some hq'
    refine ⟨?_, fun b hb => by rw [e1] at hb; rw [e2]; exact hr.2 b hb⟩
    rw [b1, b2]
    have := hr.1
    split <;> split <;> omega
  · have hk : k < stk.length := by rw [List.length_map] at h1; exact h1
    rw [List.getElem_map]
    intro t
    rw [moveF, getS_subF, getS_subF]
    exact hrel (h.stk k hk h2 t)
end
theorem Wk.move {A : Sta} {i j : Nat} (hij : Nat.beq i j = false) {α α' : Type} {C : Cdc α} {l : List α} {t : Nat} {cap : Option Nat} {C' : Cdc α'} {l' : List α'} {t' : Nat} {cap' : Option Nat} (hi : getE A.m i = some (.row C' l' t' cap')) (hj : getE A.m j = some (.row C l t cap)) : Wk A (moveS i j A) :=
  ⟨fun base w0 E gs tm w hnx hS => by
    obtain ⟨fr, stk, m, nx⟩ := A
    exact ⟨E.move i j, hnx, hS.move (fun e => by subst e; simp at hij) (mem_of_getE hi) (mem_of_getE hj)⟩⟩
theorem ex_move {α : Type} {P : α → Prop} {A : Sta} {S : α → Sta} (a : α) (i j : Nat) (hij : Nat.beq i j = false) {β β' : Type} {C : Cdc β} {l : List β} {t : Nat} {cap : Option Nat} {C' : Cdc β'} {l' : List β'} {t' : Nat} {cap' : Option Nat} (hi : getE A.m i = some (.row C' l' t' cap')) (hj : getE A.m j = some (.row C l t cap)) (h : P a) (h2 : Wk (moveS i j A) (S a)) : ∃ j, P j ∧ Wk A (S j) :=
  ⟨a, h, (Wk.move hij hi hj).trans h2⟩
end Go.SX
/- Contracts of the document's may, part, begins, ends, moved, outer. -/
namespace Go.SX.Tryz
open Go.Proofs Go.Proofs.Tryz Go.SX.Plain
set_option maxRecDepth 100000
set_option maxHeartbeats 0
set_option linter.unusedSimpArgs false
theorem q_rmay : fact 49 f49 := ⟨by kernel_rfl, rfl, by kernel_rfl⟩
theorem q_rpart : fact 50 f50 := ⟨by kernel_rfl, rfl, by kernel_rfl⟩
theorem q_rbegins : fact 53 f53 := ⟨by kernel_rfl, rfl, by kernel_rfl⟩
theorem q_rends7 : fact 54 f54 := ⟨by kernel_rfl, rfl, by kernel_rfl⟩
theorem q_rmoved : fact 55 f55 := ⟨by kernel_rfl, rfl, by kernel_rfl⟩
theorem q_router : fact 52 f52 := ⟨by kernel_rfl, rfl, by kernel_rfl⟩
theorem con_rmay : Con prog 49 (fun ((f, t, n) : Int × Int × Int) => [.v (.int .i64 f), .v (.int .i64 t), .v (.int .i64 n)]) (fun (f, t, n) => .sb (mayB f t n)) (fun _ => True) := by
  refine Con.of (by kernel_rfl) T_ok CdsOK.nil .nil 3 [] q_rmay.1 q_rmay.2.1 q_rmay.2.2 (fun _ => rfl) fun i _ => ?_
  obtain ⟨f, t, n⟩ := i
  repeat' (first | (with_reducible first | exact fun h => h | refine And.intro ?_ ?_ | intro _ | exact True.intro | assumption) | ((with_reducible first | refine LeF.chk ?_ | refine Run.mk ?_); (conv => whnf)))
  all_goals rfl
theorem con_rpart : Con prog 50 (fun ((s, f, t) : ByteArray × Int × Int) => [.v (.string s), .v (.int .i64 f), .v (.int .i64 t)]) (fun (s, f, t) => .v (.string (cutT s f t))) (fun (s, _, _) => s.size ≤ 1100000) := by
  refine Con.of (by kernel_rfl) T_ok CdsOK.nil (.con con_rcut .nil) 3 [] q_rpart.1 q_rpart.2.1 q_rpart.2.2 (fun _ => rfl) fun i hi => ?_
  obtain ⟨s, f, t⟩ := i
  have hi : s.size ≤ 1100000 := hi
  repeat' (first | (with_reducible first | refine ⟨(_, _, _), ⟨(.cons (.v _) (.cons (.v _) (.cons (.v _) (.cons (.v _) .nil)))), ?_⟩, ?_⟩ | refine And.intro ?_ ?_ | exact True.intro | rfl | assumption) | ((with_reducible first | refine LeF.chk ?_ | refine Run.mk ?_); (conv => whnf)))
abbrev Sm4 (f t n x : Int) : Prop := (0 ≤ f ∧ f ≤ 10000) ∧ (0 ≤ t ∧ t ≤ 10000) ∧ (0 ≤ n ∧ n ≤ 10000) ∧ 0 ≤ x ∧ x ≤ 10000
theorem con_rbegins : Con prog 53 (fun ((f, t, n, x) : Int × Int × Int × Int) => [.v (.int .i64 x), .v (.int .i64 f), .v (.int .i64 t), .v (.int .i64 n)]) (fun (f, t, n, x) => .v (.int .i64 (bgn f t n x))) (fun (f, t, n, x) => Sm4 f t n x) := by
  refine Con.of (by kernel_rfl) T_ok CdsOK.nil .nil 3 [] q_rbegins.1 q_rbegins.2.1 q_rbegins.2.2 (fun _ => rfl) fun i hi => ?_
  obtain ⟨f, t, n, x⟩ := i
  obtain ⟨⟨h1, h2⟩, ⟨h3, h4⟩, ⟨h5, h6⟩, h7, h8⟩ : Sm4 f t n x := hi
  repeat' (first | (with_reducible first | refine And.intro ?_ ?_ | intro _ | exact True.intro) | ((with_reducible first | refine LeF.chk ?_ | refine Run.mk ?_); (conv => whnf)))
  all_goals (simp only [decide_eq_true_eq, decide_eq_false_iff_not] at *)
  all_goals first
    | (apply Fits.i64 <;> omega)
    | (unfold bgn; rw [if_pos (by omega)]; omega)
    | (unfold bgn; rw [if_neg (by omega), if_pos (by omega)]; done)
    | (unfold bgn; rw [if_neg (by omega), if_neg (by omega)]; done)
theorem con_rends7 : Con prog 54 (fun ((f, t, n, x) : Int × Int × Int × Int) => [.v (.int .i64 x), .v (.int .i64 f), .v (.int .i64 t), .v (.int .i64 n)]) (fun (f, t, n, x) => .v (.int .i64 (eds f t n x))) (fun (f, t, n, x) => Sm4 f t n x) := by
  refine Con.of (by kernel_rfl) T_ok CdsOK.nil .nil 3 [] q_rends7.1 q_rends7.2.1 q_rends7.2.2 (fun _ => rfl) fun i hi => ?_
  obtain ⟨f, t, n, x⟩ := i
  obtain ⟨⟨h1, h2⟩, ⟨h3, h4⟩, ⟨h5, h6⟩, h7, h8⟩ : Sm4 f t n x := hi
  repeat' (first | (with_reducible first | refine And.intro ?_ ?_ | intro _ | exact True.intro) | ((with_reducible first | refine LeF.chk ?_ | refine Run.mk ?_); (conv => whnf)))
  all_goals (simp only [decide_eq_true_eq, decide_eq_false_iff_not] at *)
  all_goals first
    | (apply Fits.i64 <;> omega)
    | (unfold eds; rw [if_pos (by omega)]; done)
    | (unfold eds; rw [if_neg (by omega), if_pos (by omega)]; omega)
    | (unfold eds; rw [if_neg (by omega), if_neg (by omega)]; done)
theorem con_rmoved : Con prog 55 (fun ((l, k) : List Spn × Int) => [spR l, .v (.int .i64 k)]) (fun (l, k) => spO (shTo k l l.length)) (fun (l, k) => (0 ≤ k ∧ k ≤ 10000) ∧ l.length ≤ 1100000 ∧ InL l 10000) := by
  refine Con.of (by kernel_rfl) T_ok D_spn_ok .nil 3 [] q_rmoved.1 q_rmoved.2.1 q_rmoved.2.2 (fun _ => rfl) fun i hi => ?_
  obtain ⟨l, k⟩ := i
  obtain ⟨⟨h1, h2⟩, h3, hin⟩ : (0 ≤ k ∧ k ≤ 10000) ∧ l.length ≤ 1100000 ∧ InL l 10000 := hi
  have hd : C_spn.d = zS := rfl
  repeat' ((with_reducible refine Run.mk ?_); (conv => whnf))
  refine loopI Nat [] (fun j => [(6, .v (.int .i64 (j : Nat))), (5, .own 1)]) (fun j => [(1, .row C_spn (shTo k l j) 42 none)]) (fun j => j ≤ l.length) (fun j => l.length - j) 0 (Nat.zero_le _) (Wk.chk ?_) fun j hj => ?_
  · ((conv => whnf); repeat' (first | (with_reducible first | refine And.intro ?_ ?_ | exact True.intro | rfl | refine EntLe.row ?_ | exact LeN.ro rfl) | ((with_reducible refine Run.mk ?_); (conv => whnf))))
    all_goals rfl
  have hj : j ≤ l.length := hj
  have e1 : ((j : Int)).toNat = j := Int.toNat_natCast _
  have hsl := shTo_len (k := k) hj
  by_cases hjl : j < l.length
  · have hlt : decide ((j : Int) < (l.length : Int)) = true := decide_eq_true (by omega)
    have hxb := hin.at hjl
    have hst := (shTo_step (k := k) hjl).symm
    have hxx : l.getD ((j : Int)).toNat C_spn.d = l.getD j zS := by rw [e1, hd]
    repeat' (first | (with_reducible first | refine ex_of (α := Nat) (j + 1) ⟨?_, ?_⟩ ?_ | refine And.intro ?_ ?_) | ((with_reducible intro hq); first | exact bne1 (by with_reducible assumption) hq | (revert hq; with_reducible intro _)) | (with_reducible first | exact True.intro | rfl | refine EntLe.row ?_ | exact LeN.ro rfl) | ((with_reducible first | refine Wk.chk ?_ | refine LeL.chk ?_ | refine Run.mk ?_); (conv => whnf)))
    all_goals first
      | omega
      | rfl
      | (apply Fits.i64 <;> omega)
      | (rw [hxx]; apply Fits.i64 <;> omega)
      | (show l.length - (j + 1) < l.length - j; omega)
      | (show ((shTo k l j).length + 1) * 32 ≤ 140737488355328; omega)
      | exact hst
  have hlt : decide ((j : Int) < (l.length : Int)) = false := decide_eq_false (by omega)
  have hjj : j = l.length := by omega
  subst hjj
  repeat' (first | (with_reducible refine And.intro ?_ ?_) | ((with_reducible intro hq); first | exact bne1 hq (by with_reducible assumption) | (revert hq; with_reducible intro _)) | (with_reducible first | exact True.intro | rfl) | ((with_reducible first | refine LeF.chk ?_ | refine Run.mk ?_); (conv => whnf)) | ((with_reducible show LeR _ _ _); refine LeR.own rfl rfl rfl ?_))
theorem con_router : Con prog 52 (fun l : List Spn => [spR l]) (fun l => spO (isort ltO l)) (fun l => l.length ≤ 1100000) := by
  refine Con.of (by kernel_rfl) T_ok D_spn_ok .nil 3 [] q_router.1 q_router.2.1 q_router.2.2 (fun _ => rfl) fun l hl => ?_
  have hl : l.length ≤ 1100000 := hl
  have hd : C_spn.d = zS := rfl
  repeat' ((with_reducible refine Run.mk ?_); (conv => whnf))
  refine loopI Nat [] (fun i => [(4, .v (.int .i64 (i : Nat))), (3, .own 1)]) (fun i => [(1, .row C_spn (isort ltO (l.take i)) 42 none)]) (fun i => i ≤ l.length) (fun i => l.length - i) 0 (Nat.zero_le _) (Wk.chk ?_) fun i hi => ?_
  · ((conv => whnf); repeat' (first | (with_reducible first | refine And.intro ?_ ?_ | exact True.intro | rfl | refine EntLe.row ?_ | exact LeN.ro rfl) | ((with_reducible refine Run.mk ?_); (conv => whnf))))
    all_goals rfl
  have hi : i ≤ l.length := hi
  have e1 : ((i : Int)).toNat = i := Int.toNat_natCast _
  by_cases hil : i < l.length
  · have hlt : decide ((i : Int) < (l.length : Int)) = true := decide_eq_true (by omega)
    have hst := isort_take (lt := ltO) (d := zS) hil
    have hxx : l.getD ((i : Int)).toNat C_spn.d = l.getD i zS := by rw [e1, hd]
    have hSl : (isort ltO (l.take i)).length = i := by rw [isort_len, List.length_take]; omega
    repeat' (first | (with_reducible refine And.intro ?_ ?_) | ((with_reducible intro hq); first | exact bne1 (by with_reducible assumption) hq | (revert hq; with_reducible intro _)) | ((with_reducible refine Run.mk ?_); (conv => whnf)))
    any_goals omega
    refine loopI Nat [] (fun k => [(6, .v (.int .i64 (k : Nat)))]) (fun _ => []) (fun k => k ≤ i ∧ ∀ j, k ≤ j → j < (isort ltO (l.take i)).length → ltO (l.getD i zS) ((isort ltO (l.take i)).getD j zS) = true) (fun k => k) i ⟨Nat.le_refl _, fun j h1 h2 => by omega⟩ (Wk.chk ?_) fun k hk => ?_
    · ((conv => whnf); repeat' (first | (with_reducible first | refine And.intro ?_ ?_ | exact True.intro | rfl | refine EntLe.row ?_ | exact LeN.ro rfl | exact LeN.rptr) | ((with_reducible refine Run.mk ?_); (conv => whnf))))
      all_goals (rw [hSl]; done)
    obtain ⟨hk1, hk2⟩ := hk
    by_cases hk0 : 0 < k
    · have k0 : decide ((0 : Int) < (k : Int)) = true := decide_eq_true (by omega)
      have e2 : ((k : Int) - 1).toNat = k - 1 := by omega
      have hW : (decide ((l.getD ((i : Int)).toNat C_spn.d).frm < ((isort ltO (l.take i)).getD (((k : Int) - 1)).toNat C_spn.d).frm) || ((l.getD ((i : Int)).toNat C_spn.d).frm == ((isort ltO (l.take i)).getD (((k : Int) - 1)).toNat C_spn.d).frm && decide (((isort ltO (l.take i)).getD (((k : Int) - 1)).toNat C_spn.d).to < (l.getD ((i : Int)).toNat C_spn.d).to))) = ltO (l.getD i zS) ((isort ltO (l.take i)).getD (k - 1) zS) := by
        rw [hxx, e2, hd, Bool.eq_iff_iff, ltO_iff]
        simp only [Bool.or_eq_true, Bool.and_eq_true, decide_eq_true_eq, beq_iff_eq]
      cases hc : ltO (l.getD i zS) ((isort ltO (l.take i)).getD (k - 1) zS) with
      | true =>
        rw [hc] at hW
        have kc : (decide ((0 : Int) < (k : Int)) && (decide ((l.getD ((i : Int)).toNat C_spn.d).frm < ((isort ltO (l.take i)).getD (((k : Int) - 1)).toNat C_spn.d).frm) || ((l.getD ((i : Int)).toNat C_spn.d).frm == ((isort ltO (l.take i)).getD (((k : Int) - 1)).toNat C_spn.d).frm && decide (((isort ltO (l.take i)).getD (((k : Int) - 1)).toNat C_spn.d).to < (l.getD ((i : Int)).toNat C_spn.d).to)))) = true := by rw [k0, hW]; rfl
        have hk3 : ∀ j, k - 1 ≤ j → j < (isort ltO (l.take i)).length → ltO (l.getD i zS) ((isort ltO (l.take i)).getD j zS) = true := fun j h1 h2 => by
          by_cases h : j = k - 1
          · rw [h]; exact hc
          · exact hk2 j (by omega) h2
        clear hW
        repeat' (first | (with_reducible first | refine ex_of (α := Nat) (k - 1) ⟨⟨?_, hk3⟩, ?_⟩ ?_ | exact fun h => h | refine And.intro ?_ ?_) | ((with_reducible intro hq); first | exact bne1 (by with_reducible assumption) hq | (revert hq; with_reducible intro _)) | (with_reducible first | exact True.intro | rfl | refine EntLe.row ?_ | exact LeN.ro rfl | exact LeN.rptr | assumption) | ((with_reducible first | refine Wk.chk ?_ | refine Run.mk ?_); (conv => whnf)) | ((with_reducible show drawOK _ _ = true); kernel_rfl))
        all_goals first
          | omega
          | (apply Fits.i64 <;> omega)
          | (show k - 1 < k; omega)
          | (simp only [Bool.and_eq_true, Bool.not_eq_true', decide_eq_true_eq, decide_eq_false_iff_not, beq_iff_eq] at *; omega)
      | false =>
        rw [hc] at hW
        have kc : (decide ((0 : Int) < (k : Int)) && (decide ((l.getD ((i : Int)).toNat C_spn.d).frm < ((isort ltO (l.take i)).getD (((k : Int) - 1)).toNat C_spn.d).frm) || ((l.getD ((i : Int)).toNat C_spn.d).frm == ((isort ltO (l.take i)).getD (((k : Int) - 1)).toNat C_spn.d).frm && decide (((isort ltO (l.take i)).getD (((k : Int) - 1)).toNat C_spn.d).to < (l.getD ((i : Int)).toNat C_spn.d).to)))) = false := by rw [k0, hW]; rfl
        clear hW
        have hins := insR_at (lt := ltO) (d := zS) (x := l.getD i zS) (S := isort ltO (l.take i)) (k := k) (by omega) hk2 (.inr hc)
        have hb1 : (0 + ((k : Int)).toNat).ble (isort ltO (l.take i)).length = true := Nat.ble_eq_true_of_le (by omega)
        have hb2 : (List.take ((k : Int)).toNat (List.drop 0 (isort ltO (l.take i)))).flatMap C_spn.enc = ((isort ltO (l.take i)).take k).flatMap C_spn.enc := rfl
        have hb3 : ((isort ltO (l.take i)).take k).length = ((k : Int)).toNat := by rw [List.length_take]; omega
        have hd1 : (0 + ((k : Int)).toNat + ((isort ltO (l.take i)).length - ((k : Int)).toNat)).ble (isort ltO (l.take i)).length = true := Nat.ble_eq_true_of_le (by omega)
        have hd2 : (List.take ((isort ltO (l.take i)).length - ((k : Int)).toNat) (List.drop (0 + ((k : Int)).toNat) (isort ltO (l.take i)))).flatMap C_spn.enc = ((isort ltO (l.take i)).drop k).flatMap C_spn.enc := by
          rw [show 0 + ((k : Int)).toNat = k by omega, List.take_of_length_le (by rw [List.length_drop]; omega)]
        have hd3 : ((isort ltO (l.take i)).drop k).length = (isort ltO (l.take i)).length - ((k : Int)).toNat := by rw [List.length_drop]; omega
        have hfin : [] ++ (isort ltO (l.take i)).take k ++ [l.getD ((i : Int)).toNat C_spn.d] ++ (isort ltO (l.take i)).drop k = isort ltO (l.take (i + 1)) := by
          rw [hxx, hst, hins, List.nil_append, List.append_assoc]; rfl
        repeat' (first | (with_reducible first | refine ex_of (α := List Spn) ((isort ltO (l.take i)).take k) ⟨hb1, hb2, hb3, fun _ => rfl⟩ ?_ | refine ex_of (α := List Spn) ((isort ltO (l.take i)).drop k) ⟨hd1, hd2, hd3, fun _ => rfl⟩ ?_ | refine ex_move (α := Nat) (i + 1) 1 3 rfl (by with_unfolding_all exact rfl) (by with_unfolding_all exact rfl) ⟨?_, ?_⟩ ?_ | exact fun h => h | refine And.intro ?_ ?_) | ((with_reducible intro hq); first | exact bne1 hq (by with_reducible assumption) | (revert hq; with_reducible intro _)) | (with_reducible first | exact True.intro | rfl | refine EntLe.row ?_ | exact LeN.ro rfl | assumption) | ((with_reducible first | refine Wk.chk ?_ | refine LeL.chk ?_ | refine Run.mk ?_); (conv => whnf)) | ((with_reducible show drawOK _ _ = true); kernel_rfl))
        all_goals first
          | omega
          | (apply Fits.i64 <;> omega)
          | (dsimp only [C_spn]; done)
          | (dsimp only; simp only [List.length_append, List.length_cons, List.length_nil, List.nil_append, hSl, hb3, hd3]; omega)
          | (dsimp only; omega)
          | exact hfin
          | (rw [Bool.and_eq_true]; exact ⟨by assumption, by assumption⟩)
          | (simp only [Bool.and_eq_true, Bool.not_eq_true']; first | exact ⟨by assumption, by assumption⟩ | exact ⟨⟨by assumption, by assumption⟩, by assumption⟩)

    have k0 : decide ((0 : Int) < (k : Int)) = false := decide_eq_false (by omega)
    have hins := insR_at (lt := ltO) (d := zS) (x := l.getD i zS) (S := isort ltO (l.take i)) (k := k) (by omega) hk2 (.inl (by omega))
    have hb1 : (0 + ((k : Int)).toNat).ble (isort ltO (l.take i)).length = true := Nat.ble_eq_true_of_le (by omega)
    have hb2 : (List.take ((k : Int)).toNat (List.drop 0 (isort ltO (l.take i)))).flatMap C_spn.enc = ((isort ltO (l.take i)).take k).flatMap C_spn.enc := rfl
    have hb3 : ((isort ltO (l.take i)).take k).length = ((k : Int)).toNat := by rw [List.length_take]; omega
    have hd1 : (0 + ((k : Int)).toNat + ((isort ltO (l.take i)).length - ((k : Int)).toNat)).ble (isort ltO (l.take i)).length = true := Nat.ble_eq_true_of_le (by omega)
    have hd2 : (List.take ((isort ltO (l.take i)).length - ((k : Int)).toNat) (List.drop (0 + ((k : Int)).toNat) (isort ltO (l.take i)))).flatMap C_spn.enc = ((isort ltO (l.take i)).drop k).flatMap C_spn.enc := by
      rw [show 0 + ((k : Int)).toNat = k by omega, List.take_of_length_le (by rw [List.length_drop]; omega)]
    have hd3 : ((isort ltO (l.take i)).drop k).length = (isort ltO (l.take i)).length - ((k : Int)).toNat := by rw [List.length_drop]; omega
    have hfin : [] ++ (isort ltO (l.take i)).take k ++ [l.getD ((i : Int)).toNat C_spn.d] ++ (isort ltO (l.take i)).drop k = isort ltO (l.take (i + 1)) := by
      rw [hxx, hst, hins, List.nil_append, List.append_assoc]; rfl
    repeat' (first | (with_reducible first | refine ex_of (α := List Spn) ((isort ltO (l.take i)).take k) ⟨hb1, hb2, hb3, fun _ => rfl⟩ ?_ | refine ex_of (α := List Spn) ((isort ltO (l.take i)).drop k) ⟨hd1, hd2, hd3, fun _ => rfl⟩ ?_ | refine ex_move (α := Nat) (i + 1) 1 3 rfl (by with_unfolding_all exact rfl) (by with_unfolding_all exact rfl) ⟨?_, ?_⟩ ?_ | exact fun h => h | refine And.intro ?_ ?_) | ((with_reducible intro hq); first | exact bne1 hq (by with_reducible assumption) | ((simp only [*, BB, cond_true, cond_false, reduceCtorEq] at hq); done) | (revert hq; with_reducible intro _)) | (with_reducible first | exact True.intro | rfl | refine EntLe.row ?_ | exact LeN.ro rfl) | ((with_reducible first | refine Wk.chk ?_ | refine LeL.chk ?_ | refine Run.mk ?_); (conv => whnf)) | ((with_reducible show drawOK _ _ = true); kernel_rfl))
    all_goals first
      | omega
      | (apply Fits.i64 <;> omega)
      | (dsimp only [C_spn]; done)
      | (dsimp only; simp only [List.length_append, List.length_cons, List.length_nil, List.nil_append, hSl, hb3, hd3]; omega)
      | (dsimp only; omega)
      | exact hfin

  have hlt : decide ((i : Int) < (l.length : Int)) = false := decide_eq_false (by omega)
  have hii : i = l.length := by omega
  subst hii
  have htk : l.take l.length = l := List.take_length
  repeat' (first | (with_reducible refine And.intro ?_ ?_) | ((with_reducible intro hq); first | exact bne1 hq (by with_reducible assumption) | (revert hq; with_reducible intro _)) | (with_reducible exact True.intro) | ((with_reducible first | refine LeF.chk ?_ | refine Run.mk ?_); (conv => whnf)) | ((with_reducible show LeR _ _ _); refine LeR.own rfl rfl rfl ?_))
  all_goals (rw [htk]; done)
end Go.SX.Tryz
/- Contract of the document's Splice. -/
namespace Go.SX.Tryz
open Go.Proofs Go.Proofs.Tryz Go.SX.Plain
set_option maxRecDepth 100000
set_option maxHeartbeats 0
set_option linter.unusedSimpArgs false
theorem q_rsplice : fact 25 f25 := ⟨by kernel_rfl, rfl, by kernel_rfl⟩
theorem con_rsplice : Con prog 25 (fun ((s, l, f, t, s2, l2) : ByteArray × List Spn × Int × Int × ByteArray × List Spn) => [txAV s l, .v (.int .i64 f), .v (.int .i64 t), txAV s2 l2])
    (fun (s, l, f, t, s2, l2) => .tup [txO (splT s l f t s2 l2) (splL s l f t s2 l2), .v (.int .i64 (splE s l f t s2 l2))]) (fun _ => True) := by
  refine Con.of (by kernel_rfl) T_ok D_spn_ok (.con con_rcheck7 (.con con_rmay (.con con_rpart (.con con_rmelts (.con con_rcount (.con con_router (.con con_rbegins (.con con_rends7 (.con con_rmoved .nil))))))))) 3 [10] q_rsplice.1 q_rsplice.2.1 q_rsplice.2.2 (fun _ => rfl) fun i _ => ?_
  obtain ⟨s, l, f, t, s2, l2⟩ := i
  by_cases h1 : chkN s.size l (sgN s : Nat) = 0
  case neg =>
    have k0 : (chkN s.size l (sgN s : Nat) == 0) = false := by simpa using h1
    have k1 : (chkN s.size l (sgN s : Nat) != 0) = true := by simpa using h1
    have hE := splE_1 (f := f) (t := t) (s2 := s2) (l2 := l2) h1
    have hT := splT_no (s := s) (l := l) (f := f) (t := t) (s2 := s2) (l2 := l2) (by rw [hE]; exact h1)
    have hL := splL_no (s := s) (l := l) (f := f) (t := t) (s2 := s2) (l2 := l2) (by rw [hE]; exact h1)
    repeat' (first | (with_reducible first | refine ⟨(s, l), ⟨(.cons (.agg (.cons (.v _) (.cons (.lent _ _ _ _ _ _) .nil))) .nil), ?_⟩, ?_⟩ | refine And.intro ?_ ?_) | ((with_reducible intro hq); first | exact bne1 hq (by with_reducible assumption) | exact bne1 (by with_reducible assumption) hq | (revert hq; with_reducible intro _)) | (with_reducible first | exact True.intro | assumption) | ((with_reducible first | refine LeF.chk ?_ | refine Run.mk ?_); (conv => whnf)) | ((with_reducible show LeR _ _ _); refine LeR.nil ?_ (fun _ => rfl)))
    all_goals first
      | exact hE.symm
      | exact hT.symm
  have k0 : (chkN s.size l (sgN s : Nat) == 0) = true := by rw [h1]; rfl
  by_cases h2 : chkN s2.size l2 (sgN s2 : Nat) = 0
  case neg =>
    have k1 : (chkN s2.size l2 (sgN s2 : Nat) != 0) = true := by simpa using h2
    have hE := splE_2 (f := f) (t := t) h1 h2
    have hT := splT_no (s := s) (l := l) (f := f) (t := t) (s2 := s2) (l2 := l2) (by rw [hE]; exact h2)
    have hL := splL_no (s := s) (l := l) (f := f) (t := t) (s2 := s2) (l2 := l2) (by rw [hE]; exact h2)
    have h2' : Hid (¬ chkN s2.size l2 (sgN s2 : Nat) = 0) := ⟨h2⟩
    clear h2
    repeat' (first | (with_reducible first | refine ⟨(s, l), ⟨(.cons (.agg (.cons (.v _) (.cons (.lent _ _ _ _ _ _) .nil))) .nil), ?_⟩, ?_⟩ | refine ⟨(s2, l2), ⟨(.cons (.agg (.cons (.v _) (.cons (.lent _ _ _ _ _ _) .nil))) .nil), ?_⟩, ?_⟩ | refine And.intro ?_ ?_) | ((with_reducible intro hq); first | exact bne1 (by with_reducible assumption) hq | (revert hq; with_reducible intro _)) | (with_reducible first | exact True.intro | assumption) | ((with_reducible first | refine LeF.chk ?_ | refine Run.mk ?_); (conv => whnf)) | ((with_reducible show LeR _ _ _); refine LeR.nil ?_ (fun _ => rfl)))
    all_goals first
      | exact hE.symm
      | exact hT.symm
  have k1 : (chkN s2.size l2 (sgN s2 : Nat) != 0) = false := by rw [h2]; rfl
  have ok1 := OkT.of h1
  have ok2 := OkT.of h2
  have hs := ok1.size
  have hs2 := ok2.size
  have hn := sgN_le s
  have hn2 := sgN_le s2
  have hh1 : Hid (chkN s.size l (sgN s : Nat) = 0) := ⟨h1⟩
  have hh2 : Hid (chkN s2.size l2 (sgN s2 : Nat) = 0) := ⟨h2⟩
  clear h1 h2
  have hmb := Bool.eq_false_or_eq_true (mayB f t (sgN s : Nat))
  rcases hmb with h3 | h3
  case inr =>
    have hE := splE_3 hh1.out hh2.out h3
    have hT := splT_no (s := s) (l := l) (f := f) (t := t) (s2 := s2) (l2 := l2) (by rw [hE]; decide)
    have hL := splL_no (s := s) (l := l) (f := f) (t := t) (s2 := s2) (l2 := l2) (by rw [hE]; decide)
    repeat' (first | (with_reducible first | refine ⟨(s, l), ⟨(.cons (.agg (.cons (.v _) (.cons (.lent _ _ _ _ _ _) .nil))) .nil), ?_⟩, ?_⟩ | refine ⟨(s2, l2), ⟨(.cons (.agg (.cons (.v _) (.cons (.lent _ _ _ _ _ _) .nil))) .nil), ?_⟩, ?_⟩ | refine ⟨_, ⟨(.cons (.v _) .nil), ?_⟩, ?_⟩ | refine ⟨(_, _, _), ⟨(.cons (.v _) (.cons (.v _) (.cons (.v _) .nil))), ?_⟩, ?_⟩ | refine And.intro ?_ ?_) | ((with_reducible intro hq); first | exact bne1 hq (by with_reducible assumption) | exact bne1 (by with_reducible assumption) hq | ((simp only [*, BB, cond_true, cond_false, reduceCtorEq] at hq); done) | (revert hq; with_reducible intro _)) | (with_reducible first | exact True.intro | assumption) | ((with_reducible first | refine LeF.chk ?_ | refine Run.mk ?_); (conv => whnf)) | ((with_reducible show LeR _ _ _); refine LeR.nil ?_ (fun _ => rfl)))
    all_goals first
      | (dsimp only; omega)
      | exact hE.symm
      | exact hT.symm
  have hm : 0 ≤ f ∧ f ≤ t ∧ t ≤ sgN s := by
    unfold mayB at h3
    simp only [Bool.and_eq_true, decide_eq_true_eq] at h3
    omega
  have p5 := posS_mono s (i := f.toNat) (j := t.toNat) (by omega) (by omega)
  have p6 := posS_le s t.toNat
  have hfs : (frontT s f).size = posS s f.toNat := by unfold frontT; rw [size_extract' (by omega)]; omega
  have hrs : (restT s t).size = s.size - posS s t.toNat := by unfold restT; exact size_extract' (Nat.le_refl _)
  have hnsz : (newT s f t s2).size = (frontT s f).size + s2.size + (restT s t).size := by unfold newT; rw [app_size, app_size]
  have hfsz : (frontT s f ++ s2).size = (frontT s f).size + s2.size := app_size _ _
  have hw2 : (frontT s f ++ s2 ++ restT s t).size = (newT s f t s2).size := rfl
  have hc1 : cutT s 0 f = frontT s f := by
    unfold cutT
    rw [if_pos ⟨by omega, by omega, by omega⟩, show (0 : Int).toNat = 0 from rfl, posS_zero]
    rfl
  have hc2 : cutT s t (sgN s : Nat) = restT s t := by
    unfold cutT
    rw [if_pos ⟨by omega, by omega, by omega⟩, Int.toNat_natCast, posS_end]
    rfl
  have hLl : (isort ltO l).length = l.length := isort_len l
  have hl := ok1.len
  have hl2 := ok2.len
  have hd : C_spn.d = zS := rfl
  repeat' (first | (with_reducible first | refine ⟨(s, l), ⟨(.cons (.agg (.cons (.v _) (.cons (.lent _ _ _ _ _ _) .nil))) .nil), ?_⟩, ?_⟩ | refine ⟨(s2, l2), ⟨(.cons (.agg (.cons (.v _) (.cons (.lent _ _ _ _ _ _) .nil))) .nil), ?_⟩, ?_⟩ | refine ⟨_, ⟨(.cons (.v _) .nil), ?_⟩, ?_⟩ | refine ⟨(_, _, _), ⟨(.cons (.v _) (.cons (.v _) (.cons (.v _) .nil))), ?_⟩, ?_⟩ | refine And.intro ?_ ?_) | ((with_reducible intro hq); first | exact bne1 hq (by with_reducible assumption) | exact bne1 (by with_reducible assumption) hq | ((simp only [*, BB, cond_true, cond_false, reduceCtorEq] at hq); done) | (revert hq; with_reducible intro _)) | (with_reducible exact True.intro) | ((with_reducible refine Run.mk ?_); (conv => whnf)))
  all_goals (try omega)
  refine joinI Unit [] (fun _ => [(11, .v (.string (frontT s f))), (12, .v (.string (restT s t)))]) (fun _ => []) (fun _ => True) ?_ fun _ _ => ?_
  · repeat' (first | (with_reducible first | refine ⟨_, ⟨(.cons (.v _) .nil), ?_⟩, ?_⟩ | refine ⟨(_, _, _), ⟨(.cons (.v _) (.cons (.v _) (.cons (.v _) .nil))), ?_⟩, ?_⟩ | refine ex_of () trivial ?_ | refine And.intro ?_ ?_ | exact True.intro | rfl | exact LeN.ro rfl | assumption) | ((with_reducible first | refine Wk.chk ?_ | refine Run.mk ?_); (conv => whnf)) | ((with_reducible show drawOK _ _ = true); kernel_rfl))
    all_goals (dsimp only; omega)
  by_cases h4 : 4096 < (newT s f t s2).size
  · have hE := splE_4 (l := l) (l2 := l2) hh1.out hh2.out h3 h4
    have hT := splT_no (s := s) (l := l) (f := f) (t := t) (s2 := s2) (l2 := l2) (by rw [hE]; decide)
    have hL := splL_no (s := s) (l := l) (f := f) (t := t) (s2 := s2) (l2 := l2) (by rw [hE]; decide)
    have k2 : decide ((4096 : Int) < ((frontT s f ++ s2 ++ restT s t).size : Int)) = true := decide_eq_true (by omega)
    repeat' (first | (with_reducible refine And.intro ?_ ?_) | ((with_reducible intro hq); first | exact bne1 (by with_reducible assumption) hq | (revert hq; with_reducible intro _)) | (with_reducible first | exact True.intro | assumption) | ((with_reducible first | refine LeF.chk ?_ | refine Run.mk ?_); (conv => whnf)) | ((with_reducible show LeR _ _ _); refine LeR.nil ?_ (fun _ => rfl)))
    all_goals first
      | omega
      | exact hT.symm
  have k2 : decide ((4096 : Int) < ((frontT s f ++ s2 ++ restT s t).size : Int)) = false := decide_eq_false (by omega)
  have hfl : (frontT s f).size + s2.size + (restT s t).size ≤ 4096 := by omega
  have hms := Bool.eq_false_or_eq_true (meltB (frontT s f) s2)
  rcases hms with h5 | h5
  · have hE := splE_5 (l := l) (l2 := l2) hh1.out hh2.out h3 h4 (.inl h5)
    have hT := splT_no (s := s) (l := l) (f := f) (t := t) (s2 := s2) (l2 := l2) (by rw [hE]; decide)
    have hL := splL_no (s := s) (l := l) (f := f) (t := t) (s2 := s2) (l2 := l2) (by rw [hE]; decide)
    repeat' (first | (with_reducible first | refine ⟨(_, _), ⟨(.cons (.v _) (.cons (.v _) .nil)), ?_⟩, ?_⟩ | exact fun h => h | refine And.intro ?_ ?_) | ((with_reducible intro hq); first | exact bne1 hq (by with_reducible assumption) | ((simp only [*, BB, cond_true, cond_false, reduceCtorEq] at hq); done) | (revert hq; with_reducible intro _)) | (with_reducible first | exact True.intro | assumption) | ((with_reducible first | refine LeF.chk ?_ | refine Run.mk ?_); (conv => whnf)) | ((with_reducible show LeR _ _ _); refine LeR.nil ?_ (fun _ => rfl)))
    all_goals first
      | omega
      | exact hT.symm
  have hms := Bool.eq_false_or_eq_true (meltB (frontT s f ++ s2) (restT s t))
  rcases hms with h6 | h6
  · have hE := splE_5 (l := l) (l2 := l2) hh1.out hh2.out h3 h4 (.inr h6)
    have hT := splT_no (s := s) (l := l) (f := f) (t := t) (s2 := s2) (l2 := l2) (by rw [hE]; decide)
    have hL := splL_no (s := s) (l := l) (f := f) (t := t) (s2 := s2) (l2 := l2) (by rw [hE]; decide)
    have k6 : (meltB (frontT s f) s2 || meltB (frontT s f ++ s2) (restT s t)) = true := by rw [h5, h6]; rfl
    repeat' (first | (with_reducible first | refine ⟨(_, _), ⟨(.cons (.v _) (.cons (.v _) .nil)), ?_⟩, ?_⟩ | exact fun h => h | refine And.intro ?_ ?_) | ((with_reducible intro hq); first | exact bne1 hq (by with_reducible assumption) | exact bne1 (by with_reducible assumption) hq | ((simp only [*, BB, cond_true, cond_false, reduceCtorEq] at hq); done) | (revert hq; with_reducible intro _)) | (with_reducible first | exact True.intro | assumption) | ((with_reducible first | refine LeF.chk ?_ | refine Run.mk ?_); (conv => whnf)) | ((with_reducible show LeR _ _ _); refine LeR.nil ?_ (fun _ => rfl)))
    all_goals first
      | omega
      | exact hT.symm
  have k6 : (meltB (frontT s f) s2 || meltB (frontT s f ++ s2) (restT s t)) = false := by rw [h5, h6]; rfl
  repeat' (first | (with_reducible first | refine ⟨(_, _), ⟨(.cons (.v _) (.cons (.v _) .nil)), ?_⟩, ?_⟩ | refine ⟨_, ⟨(.cons (.v _) .nil), ?_⟩, ?_⟩ | refine ⟨_, ⟨(.cons (.lent _ _ _ _ _ _) .nil), ?_⟩, ?_⟩ | exact fun h => h | refine And.intro ?_ ?_) | ((with_reducible intro hq); first | exact bne1 hq (by with_reducible assumption) | ((simp only [*, BB, cond_true, cond_false, reduceCtorEq] at hq); done) | (revert hq; with_reducible intro _)) | (with_reducible assumption) | ((with_reducible refine Run.mk ?_); (conv => whnf)))
  all_goals (try omega)
  have hin := (spans_in ok1.spans).isort
  have hin2 := spans_in ok2.spans
  refine loopA 3 1 C_spn 42 (T := T) ⟨fun _ => rfl, by decide, _, rfl, rfl, by decide⟩ (by rfl) (by with_unfolding_all exact rfl) (by with_unfolding_all exact rfl) Nat [] (fun i => [(16, .v (.int .i64 (i : Nat)))]) (fun i => [(4, .row C_spn (outTo (mvS f t (sgN s2 : Nat)) (isort ltO l) i) 42 none)]) (fun i => i ≤ (isort ltO l).length) (fun i => (isort ltO l).length - i) 0 (Nat.zero_le _) (Wk.chk ?_) fun i hi => ?_
  · ((conv => whnf); repeat' (first | (with_reducible first | refine And.intro ?_ ?_ | exact True.intro | rfl | refine EntLe.row ?_ | exact LeN.ro rfl) | ((with_reducible refine Run.mk ?_); (conv => whnf))))
    all_goals rfl
  have hi : i ≤ (isort ltO l).length := hi
  have e1 : ((i : Int)).toNat = i := Int.toNat_natCast _
  have hol := outTo_len (mvS f t (sgN s2 : Nat)) (isort ltO l) i
  by_cases hil : i < (isort ltO l).length
  · have hlt : decide ((i : Int) < ((isort ltO l).length : Int)) = true := decide_eq_true (by omega)
    have hxb := hin.at hil
    have hoy := outTo_yes (g := mvS f t (sgN s2 : Nat)) hil
    have hon := outTo_no (g := mvS f t (sgN s2 : Nat)) hil
    have hxe : ∃ x, x = (isort ltO l).getD i zS := ⟨_, rfl⟩
    obtain ⟨x, hx⟩ := hxe
    rw [← hx] at hxb hoy hon
    have hxx : (isort ltO l).getD ((i : Int)).toNat C_spn.d = x := by rw [e1, hd, hx]
    have hbb := bgn_bd (f := f) (t := t) (n := (sgN s2 : Nat)) (x := x.frm) hm.1 hm.2.1 (by omega) hxb.1
    have heb := eds_bd (f := f) (t := t) (n := (sgN s2 : Nat)) (x := x.to) hm.1 hm.2.1 (by omega) (by omega)
    have hpb := Bool.eq_false_or_eq_true (posB (mvS f t (sgN s2 : Nat) x))
    have hs4 : Sm4 f t (sgN s2 : Nat) x.frm ∧ Sm4 f t (sgN s2 : Nat) x.to := ⟨⟨by omega, by omega, by omega, by omega⟩, by omega, by omega, by omega, by omega⟩
    rcases hpb with hpb | hpb
    · have hst := (hoy hpb).symm
      have kc : decide (bgn f t (sgN s2 : Nat) ((isort ltO l).getD ((i : Int)).toNat C_spn.d).frm < eds f t (sgN s2 : Nat) ((isort ltO l).getD ((i : Int)).toNat C_spn.d).to) = true := by rw [hxx]; exact hpb
      have hst2 : outTo (mvS f t (sgN s2 : Nat)) (isort ltO l) i ++ [mvS f t (sgN s2 : Nat) ((isort ltO l).getD ((i : Int)).toNat C_spn.d)] = outTo (mvS f t (sgN s2 : Nat)) (isort ltO l) (i + 1) := by rw [hxx]; exact hst
      clear hoy hon
      repeat' (first | (with_reducible first | refine ⟨(_, _, _, _), ⟨(.cons (.v _) (.cons (.v _) (.cons (.v _) (.cons (.v _) .nil)))), ?_⟩, ?_⟩ | refine ex_of (α := Nat) (i + 1) ⟨?_, ?_⟩ ?_ | refine And.intro ?_ ?_) | ((with_reducible intro hq); first | exact bne1 (by with_reducible assumption) hq | (revert hq; with_reducible intro _)) | (with_reducible first | exact True.intro | rfl | refine EntLe.row ?_ | exact LeN.ro rfl) | ((with_reducible first | refine Wk.chk ?_ | refine LeL.chk ?_ | refine Run.mk ?_); (conv => whnf)))
      all_goals first
        | omega
        | (apply Fits.i64 <;> omega)
        | (rw [hxx]; omega)
        | (dsimp only [C_spn]; done)
        | (dsimp only; simp only [List.length_append, List.length_cons, List.length_nil]; omega)
        | (dsimp only; omega)
        | exact hst2
    · have hst := (hon hpb).symm
      have kc : decide (bgn f t (sgN s2 : Nat) ((isort ltO l).getD ((i : Int)).toNat C_spn.d).frm < eds f t (sgN s2 : Nat) ((isort ltO l).getD ((i : Int)).toNat C_spn.d).to) = false := by rw [hxx]; exact hpb
      clear hoy hon
      repeat' (first | (with_reducible first | refine ⟨(_, _, _, _), ⟨(.cons (.v _) (.cons (.v _) (.cons (.v _) (.cons (.v _) .nil)))), ?_⟩, ?_⟩ | refine ex_of (α := Nat) (i + 1) ⟨?_, ?_⟩ ?_ | refine And.intro ?_ ?_) | ((with_reducible intro hq); first | exact bne1 hq (by with_reducible assumption) | exact bne1 (by with_reducible assumption) hq | (revert hq; with_reducible intro _)) | (with_reducible first | exact True.intro | rfl | refine EntLe.row ?_ | exact LeN.ro rfl | assumption) | ((with_reducible first | refine Wk.chk ?_ | refine Run.mk ?_); (conv => whnf)))
      all_goals first
        | omega
        | (apply Fits.i64 <;> omega)
        | (rw [hxx]; omega)
        | (dsimp only; omega)
  have hlt : decide ((i : Int) < ((isort ltO l).length : Int)) = false := decide_eq_false (by omega)
  have hii : i = (isort ltO l).length := by omega
  subst hii
  have hsl := shTo_len (k := f) (l := l2) (i := l2.length) (Nat.le_refl _)
  have hin3 : InL l2 10000 := fun x hx => by have := hin2 x hx; omega
  have hNL : outTo (mvS f t (sgN s2 : Nat)) (isort ltO l) (isort ltO l).length ++ shTo f l2 l2.length = newL l f t s2 l2 := rfl
  by_cases h7 : 256 < (newL l f t s2 l2).length
  · have hE := splE_6 hh1.out hh2.out h3 h4 h5 h6 h7
    have hT := splT_no (s := s) (l := l) (f := f) (t := t) (s2 := s2) (l2 := l2) (by rw [hE]; decide)
    have hL := splL_no (s := s) (l := l) (f := f) (t := t) (s2 := s2) (l2 := l2) (by rw [hE]; decide)
    have kc : decide ((256 : Int) < ((outTo (mvS f t (sgN s2 : Nat)) (isort ltO l) (isort ltO l).length ++ shTo f l2 l2.length).length : Int)) = true := decide_eq_true (by rw [hNL]; omega)
    repeat' (first | (with_reducible first | refine ⟨(l2, f), ⟨(.cons (.lent _ _ _ _ _ _) (.cons (.v _) .nil)), ?_⟩, ?_⟩ | refine ex_of (α := List Spn) (shTo f l2 l2.length) ⟨rfl, rfl, fun _ => rfl⟩ ?_ | refine And.intro ?_ ?_) | ((with_reducible intro hq); first | exact bne1 hq (by with_reducible assumption) | exact bne1 (by with_reducible assumption) hq | (revert hq; with_reducible intro _)) | (with_reducible first | exact True.intro | assumption) | ((with_reducible first | refine LeF.chk ?_ | refine Run.mk ?_); (conv => whnf)) | ((with_reducible show LeR _ _ _); refine LeR.nil ?_ (fun _ => rfl)) | ((with_reducible show drawOK _ _ = true); kernel_rfl))
    all_goals first
      | exact hE.symm
      | exact hT.symm
      | omega
      | (dsimp only; simp only [List.length_append, List.length_cons, List.length_nil, hsl]; omega)
  · have hE := splE_7 hh1.out hh2.out h3 h4 h5 h6 h7
    have hT := splT_yes hE
    have hL := splL_yes hE
    have kc : decide ((256 : Int) < ((outTo (mvS f t (sgN s2 : Nat)) (isort ltO l) (isort ltO l).length ++ shTo f l2 l2.length).length : Int)) = false := decide_eq_false (by rw [hNL]; omega)
    repeat' (first | (with_reducible first | refine ⟨(l2, f), ⟨(.cons (.lent _ _ _ _ _ _) (.cons (.v _) .nil)), ?_⟩, ?_⟩ | refine ex_of (α := List Spn) (shTo f l2 l2.length) ⟨rfl, rfl, fun _ => rfl⟩ ?_ | refine And.intro ?_ ?_) | ((with_reducible intro hq); first | exact bne1 hq (by with_reducible assumption) | (revert hq; with_reducible intro _)) | (with_reducible first | exact True.intro | assumption) | ((with_reducible first | refine LeF.chk ?_ | refine Run.mk ?_); (conv => whnf)) | ((with_reducible show LeR _ _ _); refine LeR.own rfl rfl rfl ?_) | ((with_reducible show drawOK _ _ = true); kernel_rfl))
    all_goals first
      | exact hE.symm
      | exact hT.symm
      | exact hL.symm
      | omega
      | (dsimp only; simp only [List.length_append, List.length_cons, List.length_nil, hsl]; omega)
end Go.SX.Tryz
/- Contracts of the laws' SameSpans, SameText. -/
namespace Go.SX.Tryz
open Go.Proofs Go.Proofs.Tryz Go.SX.Plain
set_option maxRecDepth 100000
set_option maxHeartbeats 0
set_option linter.unusedSimpArgs false
theorem q_sameSpans : fact 26 f26 := ⟨by kernel_rfl, rfl, by kernel_rfl⟩
theorem q_sameText : fact 9 f9 := ⟨by kernel_rfl, rfl, by kernel_rfl⟩
def spEqB (x y : Spn) : Bool := x.frm == y.frm && (x.to == y.to && (x.kind == y.kind && x.val == y.val))
theorem spEqB_eq (x y : Spn) : spEqB x y = decide (x = y) := by
  obtain ⟨a, b, c, d⟩ := x
  obtain ⟨a', b', c', d'⟩ := y
  rw [Bool.eq_iff_iff]
  simp only [spEqB, Bool.and_eq_true, beq_iff_eq, decide_eq_true_eq, Spn.mk.injEq]
theorem con_sameSpans : Con prog 26 (fun ((l, r) : List Spn × List Spn) => [spR l, spR r]) (fun (l, r) => .sb (decide (l = r))) (fun (l, _) => l.length ≤ 9000000000000000000) := by
  refine Con.of (by kernel_rfl) T_ok CdsOK.nil .nil 3 [] q_sameSpans.1 q_sameSpans.2.1 q_sameSpans.2.2 (fun _ => rfl) fun i hi => ?_
  obtain ⟨l, r⟩ := i
  have hl9 : l.length ≤ 9000000000000000000 := hi
  have hd : C_spn.d = zS := rfl
  by_cases hl : l.length = r.length
  case neg =>
    have k1 : ((l.length : Int) != (r.length : Int)) = true := by rw [bne_iff_ne]; omega
    have hne : decide (l = r) = false := decide_eq_false fun h => hl (by rw [h])
    repeat' (first | (with_reducible refine And.intro ?_ ?_) | ((with_reducible intro hq); first | exact bne1 (by with_reducible assumption) hq | (revert hq; with_reducible intro _)) | (with_reducible exact True.intro) | ((with_reducible first | refine LeF.chk ?_ | refine Run.mk ?_); (conv => whnf)))
    all_goals exact hne.symm
  have k1 : ((l.length : Int) != (r.length : Int)) = false := by rw [bne_eq_false_iff_eq]; omega
  repeat' (first | (with_reducible refine And.intro ?_ ?_) | ((with_reducible intro hq); first | exact bne1 hq (by with_reducible assumption) | (revert hq; with_reducible intro _)) | ((with_reducible refine Run.mk ?_); (conv => whnf)))
  refine loopI Nat [] (fun i => [(5, .v (.int .i64 (i : Nat)))]) (fun _ => []) (fun i => i ≤ l.length ∧ ∀ k, k < i → l.getD k zS = r.getD k zS) (fun i => l.length - i) 0 ⟨Nat.zero_le _, fun k h => absurd h (Nat.not_lt_zero _)⟩ (Wk.chk ?_) fun i hx => ?_
  · ((conv => whnf); repeat' (first | (with_reducible first | refine And.intro ?_ ?_ | exact True.intro | rfl | exact LeN.ro rfl) | ((with_reducible refine Run.mk ?_); (conv => whnf))))
    all_goals rfl
  obtain ⟨hi1, hi2⟩ := hx
  have e1 : ((i : Nat) : Int).toNat = i := Int.toNat_natCast _
  by_cases hil : i < l.length
  · have hlt : decide ((i : Int) < (l.length : Int)) = true := decide_eq_true (by omega)
    have hW : ((l.getD ((i : Nat) : Int).toNat C_spn.d).frm == (r.getD ((i : Nat) : Int).toNat C_spn.d).frm && ((l.getD ((i : Nat) : Int).toNat C_spn.d).to == (r.getD ((i : Nat) : Int).toNat C_spn.d).to && ((l.getD ((i : Nat) : Int).toNat C_spn.d).kind == (r.getD ((i : Nat) : Int).toNat C_spn.d).kind && (l.getD ((i : Nat) : Int).toNat C_spn.d).val == (r.getD ((i : Nat) : Int).toNat C_spn.d).val))) = decide (l.getD i zS = r.getD i zS) := by
      rw [e1, hd]
      exact spEqB_eq _ _
    by_cases he : l.getD i zS = r.getD i zS
    · rw [decide_eq_true he] at hW
      have k4 : (!((l.getD ((i : Nat) : Int).toNat C_spn.d).frm == (r.getD ((i : Nat) : Int).toNat C_spn.d).frm && ((l.getD ((i : Nat) : Int).toNat C_spn.d).to == (r.getD ((i : Nat) : Int).toNat C_spn.d).to && ((l.getD ((i : Nat) : Int).toNat C_spn.d).kind == (r.getD ((i : Nat) : Int).toNat C_spn.d).kind && (l.getD ((i : Nat) : Int).toNat C_spn.d).val == (r.getD ((i : Nat) : Int).toNat C_spn.d).val)))) = false := by rw [hW]; rfl
      have hi3 : ∀ k, k < i + 1 → l.getD k zS = r.getD k zS := fun k hk => by
        by_cases h : k = i
        · rw [h]; exact he
        · exact hi2 k (by omega)
      clear he hW
      repeat' (first | (with_reducible first | refine ex_of (α := Nat) (i + 1) ⟨⟨?_, hi3⟩, ?_⟩ ?_ | refine And.intro ?_ ?_) | ((with_reducible intro hq); first | exact bne1 hq (by with_reducible assumption) | exact bne1 (by with_reducible assumption) hq | (revert hq; with_reducible intro _)) | (with_reducible first | exact True.intro | rfl | exact LeN.ro rfl) | ((with_reducible first | refine Wk.chk ?_ | refine Run.mk ?_); (conv => whnf)) | ((with_reducible show drawOK _ _ = true); kernel_rfl))
      all_goals first
        | omega
        | (apply Fits.i64 <;> omega)
        | (dsimp only; omega)
    · rw [decide_eq_false he] at hW
      have k4 : (!((l.getD ((i : Nat) : Int).toNat C_spn.d).frm == (r.getD ((i : Nat) : Int).toNat C_spn.d).frm && ((l.getD ((i : Nat) : Int).toNat C_spn.d).to == (r.getD ((i : Nat) : Int).toNat C_spn.d).to && ((l.getD ((i : Nat) : Int).toNat C_spn.d).kind == (r.getD ((i : Nat) : Int).toNat C_spn.d).kind && (l.getD ((i : Nat) : Int).toNat C_spn.d).val == (r.getD ((i : Nat) : Int).toNat C_spn.d).val)))) = true := by rw [hW]; rfl
      have hne : decide (l = r) = false := decide_eq_false fun h => he (by rw [h])
      clear he hW
      repeat' (first | (with_reducible refine And.intro ?_ ?_) | ((with_reducible intro hq); first | exact bne1 (by with_reducible assumption) hq | (revert hq; with_reducible intro _)) | (with_reducible exact True.intro) | ((with_reducible first | refine LeF.chk ?_ | refine Run.mk ?_); (conv => whnf)) | ((with_reducible show drawOK _ _ = true); kernel_rfl))
      all_goals first
        | omega
        | exact hne.symm
  have hlt : decide ((i : Int) < (l.length : Int)) = false := decide_eq_false (by omega)
  have heq : decide (l = r) = true := decide_eq_true (getD_ext (d := zS) hl fun k hk => hi2 k (by omega))
  repeat' (first | (with_reducible refine And.intro ?_ ?_) | ((with_reducible intro hq); first | exact bne1 hq (by with_reducible assumption) | (revert hq; with_reducible intro _)) | (with_reducible exact True.intro) | ((with_reducible first | refine LeF.chk ?_ | refine Run.mk ?_); (conv => whnf)))
  all_goals exact heq.symm
theorem con_sameText : Con prog 9 (fun ((a, l, b, r) : ByteArray × List Spn × ByteArray × List Spn) => [txAV a l, txAV b r]) (fun (a, l, b, r) => .sb (decide (a = b) && decide (l = r))) (fun (_, l, _, _) => l.length ≤ 9000000000000000000) := by
  refine Con.of (by kernel_rfl) T_ok CdsOK.nil (.con con_sameSpans .nil) 3 [] q_sameText.1 q_sameText.2.1 q_sameText.2.2 (fun _ => rfl) fun i hi => ?_
  obtain ⟨a, l, b, r⟩ := i
  have hl9 : l.length ≤ 9000000000000000000 := hi
  repeat' (first | (with_reducible first | refine ⟨(l, r), ⟨(.cons (.lent _ _ _ _ _ _) (.cons (.lent _ _ _ _ _ _) .nil)), ?_⟩, ?_⟩ | exact fun h => h | refine And.intro ?_ ?_ | intro _ | exact True.intro | rfl | assumption) | ((with_reducible first | refine LeF.chk ?_ | refine Run.mk ?_); (conv => whnf)))
  all_goals (simp only [*, Bool.false_and]; done)
end Go.SX.Tryz
/- A row that is written over from the front. No program here. -/
namespace Go.SX.Plain
section
variable {α : Type} {d : α}
def bkTo (x : α) (R : List α) (i : Nat) : List α := List.replicate i x ++ R.drop i
theorem bk_len (x : α) {R : List α} {i : Nat} (h : i ≤ R.length) : (bkTo x R i).length = R.length := by
  unfold bkTo
  rw [List.length_append, List.length_replicate, List.length_drop]
  omega
theorem bk_step (x : α) {R : List α} {i : Nat} (h : i < R.length) : (bkTo x R i).set i x = bkTo x R (i + 1) := by
  unfold bkTo
  rw [List.drop_eq_getElem_cons h, set_mid _ _ _ _ (by simp), List.replicate_succ', List.append_assoc]
  rfl
theorem snoc_take (l : List α) (x : α) : (l ++ [x]).take l.length = l := by simp
theorem snoc_at (l : List α) (x : α) : (l ++ [x]).getD l.length d = x := by simp [List.getD_eq_getElem?_getD]
end
end Go.SX.Plain
/- Texts lent to the laws' calls, and back. -/
namespace Go.SX.Tryz
open Go.Proofs Go.Proofs.Tryz Go.SX.Plain
set_option maxRecDepth 100000
set_option maxHeartbeats 0
set_option linter.unusedSimpArgs false
theorem q_lend : fact 5 f5 := ⟨by kernel_rfl, rfl, by kernel_rfl⟩
theorem q_back : fact 8 f8 := ⟨by kernel_rfl, rfl, by kernel_rfl⟩
abbrev C_spnP : Cdc Spn := { size := C_spn.size, enc := C_spn.enc, dec := C_spn.dec, d := C_spn.d, pl := true }
def D_spnP : Cds := [(42, ⟨Spn, C_spnP⟩)]
theorem D_spnP_ok : CdsOK T D_spnP := .cons ⟨fun _ => rfl, by decide, _, rfl, rfl, by decide⟩ .nil
def mrk : Spn := ⟨-77, 0, 0, 0⟩
def ovr : Spn := ⟨7, 9, 1, 0⟩
theorem le_view {m : Mem} {α : Type} {C : Cdc α} {s n lo u t : Nat} {en : α → List AV} {l l' : List α} {cap : Option Nat} {d : α} (he : getE m n = some (.row C l t cap)) (hC : C.size = s) (hen : C.enc = en) (hlu : lo + u ≤ l.length) (hl : (l.drop lo).take u = l') :
    LeA m (.view n s lo u) (.ro s en d l' none true) := hl ▸ LeA.view he hC hen hlu
end Go.SX.Tryz
/- Contracts of chapter 2's small functions. -/
namespace Go.SX.Tryz
open Go.Proofs Go.Proofs.Tryz Go.SX.Plain
set_option linter.unusedSimpArgs false
set_option maxRecDepth 100000
set_option maxHeartbeats 4000000
theorem q_control : fact 98 f98 := ⟨by kernel_rfl, rfl, by kernel_rfl⟩
theorem q_flag : fact 99 f99 := ⟨by kernel_rfl, rfl, by kernel_rfl⟩
theorem q_nothing : fact 111 f111 := ⟨by kernel_rfl, rfl, by kernel_rfl⟩
theorem q_wide : fact 112 f112 := ⟨by kernel_rfl, rfl, by kernel_rfl⟩
theorem q_width : fact 97 f97 := ⟨by kernel_rfl, rfl, by kernel_rfl⟩

theorem con_flag : Con prog 99 (fun r : Int => [.v (.int .i32 r)]) (fun r => .sb (flagB r)) (fun _ => True) := by
  refine Con.of (by kernel_rfl) T_ok CdsOK.nil GamOK.nil 1 [] q_flag.1 q_flag.2.1 q_flag.2.2 (fun _ => rfl) fun r _ => ?_
  repeat' (first | (with_reducible first | exact fun h => h | refine And.intro ?_ ?_ | exact True.intro) | ((with_reducible first | refine LeF.chk ?_ | refine Run.mk ?_); (conv => whnf)))
  all_goals rw [Bool.eq_iff_iff]
  all_goals simp only [flagB, true_iff, false_iff, Bool.or_eq_true, Bool.and_eq_true, decide_eq_true_eq, decide_eq_false_iff_not, Bool.and_eq_false_iff, beq_iff_eq, beq_eq_false_iff_ne, eq_self, iff_true, Bool.false_eq_true] at *
  all_goals unfold flagP
  all_goals omega

theorem con_control : Con prog 98 (fun r : Int => [.v (.int .i32 r)]) (fun r => .sb (controlB r)) (fun _ => True) := by
  refine Con.of (by kernel_rfl) T_ok CdsOK.nil GamOK.nil 1 [] q_control.1 q_control.2.1 q_control.2.2 (fun _ => rfl) fun r _ => ?_
  repeat' (first | (with_reducible first | exact fun h => h | refine And.intro ?_ ?_ | intro _ | exact True.intro) | ((with_reducible first | refine LeF.chk ?_ | refine Run.mk ?_); (conv => whnf)))
  all_goals rw [Bool.eq_iff_iff]
  all_goals simp only [controlB, true_iff, false_iff, Bool.or_eq_true, Bool.and_eq_true, decide_eq_true_eq, decide_eq_false_iff_not, Bool.and_eq_false_iff, beq_iff_eq, beq_eq_false_iff_ne, eq_self, iff_true, Bool.false_eq_true] at *
  all_goals unfold controlP
  all_goals omega

theorem con_wide : Con prog 112 (fun r : Int => [.v (.int .i32 r)]) (fun r => .sb (wideB r)) (fun _ => True) := by
  refine Con.of (by kernel_rfl) T_ok CdsOK.nil GamOK.nil 1 [] q_wide.1 q_wide.2.1 q_wide.2.2 (fun _ => rfl) fun r _ => ?_
  repeat' (first | (with_reducible first | exact fun h => h | refine And.intro ?_ ?_ | intro _ | exact True.intro) | ((with_reducible first | refine LeF.chk ?_ | refine Run.mk ?_); (conv => whnf)))
  all_goals rw [Bool.eq_iff_iff]
  all_goals simp only [wideB, true_iff, false_iff, Bool.or_eq_true, Bool.and_eq_true, decide_eq_true_eq, decide_eq_false_iff_not, Bool.and_eq_false_iff, beq_iff_eq, beq_eq_false_iff_ne, eq_self, iff_true, Bool.false_eq_true] at *
  all_goals unfold wideP
  all_goals omega

theorem con_nothing : Con prog 111 (fun r : Int => [.v (.int .i32 r)]) (fun r => .sb (nothingB r)) (fun _ => True) := by
  refine Con.of (by kernel_rfl) T_ok CdsOK.nil GamOK.nil 1 [] q_nothing.1 q_nothing.2.1 q_nothing.2.2 (fun _ => rfl) fun r _ => ?_
  repeat' (first | (with_reducible first | exact fun h => h | refine And.intro ?_ ?_ | intro _ | exact True.intro) | ((with_reducible first | refine LeF.chk ?_ | refine Run.mk ?_); (conv => whnf)))
  all_goals rw [Bool.eq_iff_iff]
  all_goals simp only [nothingB, true_iff, false_iff, Bool.or_eq_true, Bool.and_eq_true, decide_eq_true_eq, decide_eq_false_iff_not, Bool.and_eq_false_iff, beq_iff_eq, beq_eq_false_iff_ne, eq_self, iff_true, Bool.false_eq_true] at *
  all_goals unfold nothingP
  all_goals omega

theorem con_width : Con prog 97 (fun r : Int => [.v (.int .i32 r)]) (fun r => .v (.int .i64 (widthI r))) (fun _ => True) := by
  refine Con.of (by kernel_rfl) T_ok CdsOK.nil (.con con_nothing (.con con_wide GamOK.nil)) 2 [] q_width.1 q_width.2.1 q_width.2.2 (fun _ => rfl) fun r _ => ?_
  repeat' (first | (with_reducible first | refine ⟨_, ⟨.cons (.v _) .nil, trivial⟩, ?_⟩ | refine And.intro ?_ ?_ | intro _ | exact True.intro) | ((with_reducible first | refine LeF.chk ?_ | refine Run.mk ?_); (conv => whnf)))
  all_goals simp_all [widthI]
end Go.SX.Tryz
/- Contracts of wrap's one. -/
namespace Go.SX.Tryz
open Go.Proofs Go.Proofs.Tryz Go.SX.Plain
theorem q_one : fact 57 f57 := ⟨by kernel_rfl, rfl, by kernel_rfl⟩
theorem con_one : Con prog 57 (fun ((r, l) : Int × ByteArray) => [.v (.int .i32 r), .v (.string l)]) (fun (r, l) => .sb (oneB r l)) (fun _ => True) := by
  refine Con.of (by kernel_rfl) T_ok CdsOK.nil GamOK.nil 2 [] q_one.1 q_one.2.1 q_one.2.2 (fun _ => rfl) fun i _ => ?_
  obtain ⟨r, l⟩ := i
  repeat' ((with_reducible refine Run.mk ?_); (conv => whnf))
  refine loopI Nat [] (fun _ => []) (fun pos => [(0, .iter l pos)]) (fun pos => oneB r l = (signsFrom l pos).any (fun p => ((p.2 : Int) == r))) (fun pos => l.size - pos) 0 rfl (Wk.chk ?_) fun pos hpos => ?_
  · ((conv => whnf); repeat' (first | (with_reducible first | refine And.intro ?_ ?_ | exact True.intro | rfl) | ((with_reducible refine Run.mk ?_); (conv => whnf))))
  repeat' (first | (with_reducible first | refine And.intro ?_ ?_ | intro _ | exact True.intro | rfl) | ((with_reducible first | refine LeF.chk ?_ | refine Run.mk ?_); (conv => whnf)))
  · rename_i hlt heq
    have heq : ((((Utf8.decode l pos).1 : Nat) : Int) == r) = true := heq
    rw [hpos, signsFrom_step hlt, List.any_cons, heq]
    rfl
  · rename_i hlt heq
    have heq : ((((Utf8.decode l pos).1 : Nat) : Int) == r) = false := heq
    refine ⟨pos + (Utf8.decode l pos).2, ⟨?_, ?_⟩, Wk.chk ?_⟩
    · rw [hpos, signsFrom_step hlt, List.any_cons, heq]
      rfl
    · have := width_pos l pos
      dsimp only
      omega
    · ((conv => whnf); repeat' (first | (with_reducible first | refine And.intro ?_ ?_ | exact True.intro | rfl) | ((with_reducible refine Run.mk ?_); (conv => whnf))))
  · rename_i hlt
    rw [hpos, signsFrom_end hlt]
    rfl
end Go.SX.Tryz
/- Contract of wrap's parts. -/
namespace Go.SX.Tryz
open Go.Proofs Go.Proofs.Tryz Go.SX.Plain
set_option maxRecDepth 100000
set_option maxHeartbeats 0
set_option linter.unusedSimpArgs false
def C_part : Cdc Part where
  size := 12
  enc p := [.v (.int .i64 p.c.at), .v (.int .i64 p.c.len), .v (.int .i64 p.c.frm), .v (.int .i64 p.c.to), .v (.int .i64 p.c.cells), .v (.int .i32 p.first), .sb p.fin, .sb p.blank, .sb p.wide, .sb p.dash, .sb p.opening, .sb p.closing]
  dec l := match l with
    | [.v (.int _ a), .v (.int _ b), .v (.int _ c), .v (.int _ d), .v (.int _ e), .v (.int _ f), g, h, i, j, k, l] => ⟨⟨a, b, c, d, e⟩, f, bOf g, bOf h, bOf i, bOf j, bOf k, bOf l⟩
    | _ => ⟨⟨0, 0, 0, 0, 0⟩, 0, false, false, false, false, false, false⟩
  d := ⟨⟨0, 0, 0, 0, 0⟩, 0, false, false, false, false, false, false⟩
def D_part : Cds := [(53, ⟨Part, C_part⟩)]
theorem D_part_ok : CdsOK T D_part := .cons ⟨fun _ => rfl, by decide, _, rfl, rfl, by decide⟩ .nil
theorem q_parts : fact 28 f28 := ⟨by kernel_rfl, rfl, by kernel_rfl⟩
theorem q_clusters : fact 56 f56 := ⟨by kernel_rfl, rfl, by kernel_rfl⟩
theorem q_clusters1 : fact 81 f81 := ⟨by kernel_rfl, rfl, by kernel_rfl⟩
theorem q_clusters11 : fact 82 f82 := ⟨by kernel_rfl, rfl, by kernel_rfl⟩
theorem q_takes : fact 83 f83 := ⟨by kernel_rfl, rfl, by kernel_rfl⟩
theorem q_add : fact 84 f84 := ⟨by kernel_rfl, rfl, by kernel_rfl⟩
def gAV : Grp → List AV
  | ⟨⟨a, b, c, d, e⟩, f, l, r⟩ => [.v (.int .i64 a), .v (.int .i64 b), .v (.int .i64 c), .v (.int .i64 d), .v (.int .i64 e), .v (.int .i32 f), .v (.int .i32 l), .sb r]
def gAV' (g : Grp) : List AV := [.v (.int .i64 g.c.at), .v (.int .i64 g.c.len), .v (.int .i64 g.c.frm), .v (.int .i64 g.c.to), .v (.int .i64 g.c.cells), .v (.int .i32 g.first), .v (.int .i32 g.last), .sb g.arrow]
def takesS (rest cs : List AV) : AV × List AV := match rest, cs with
  | [.v (.int _ r)], [.v (.int _ a), .v (.int _ b), .v (.int _ c), .v (.int _ d), .v (.int _ e), .v (.int _ f), .v (.int _ l), ar] => (.sb (takesB ⟨⟨a, b, c, d, e⟩, f, l, bOf ar⟩ r), cs)
  | _, _ => (.junk, cs)
def addS (rest cs : List AV) : AV × List AV := match rest, cs with
  | [.v (.int _ r), .v (.int _ n)], [.v (.int _ a), .v (.int _ b), .v (.int _ c), .v (.int _ d), .v (.int _ e), .v (.int _ f), .v (.int _ l), ar] => (.tup [], gAV' (addG ⟨⟨a, b, c, d, e⟩, f, l, bOf ar⟩ r n))
  | _, _ => (.junk, cs)
theorem con_parts : Con prog 28 (fun s : ByteArray => [.v (.string s)]) (fun s => .ro 12 C_part.enc C_part.d (parts s) none) (fun s => s.size ≤ 2000000) := by
  refine Con.of (by kernel_rfl) T_ok D_part_ok (.inl (J := []) q_clusters.1 q_clusters.2.1 q_clusters.2.2 (.inl (J := []) q_clusters1.1 q_clusters1.2.1 q_clusters1.2.2 (.inl (J := [5]) q_clusters11.1 q_clusters11.2.1 q_clusters11.2.2
    (.meth (J := []) takesS q_takes.1 q_takes.2.1 q_takes.2.2 (.meth (J := []) addS q_add.1 q_add.2.1 q_add.2.2
    (.con con_one (.con con_width (.con con_control (.con con_flag .nil))))))))) 9 [] q_parts.1 q_parts.2.1 q_parts.2.2 (fun _ => rfl) fun s hs => ?_
  repeat' (first | (with_reducible intro _) | ((with_reducible refine Run.mk ?_); (conv => whnf)))
  refine loopI St40 [] (fun _ => []) (fun | ⟨pos, at', was, begun, g, l⟩ => [(12, .iter s pos), (11, .box [.sb begun] 4), (10, .box [.v (.int .i32 was)] 21), (9, .box [.v (.int .i64 at')] 3), (8, .box (gAV g) 137), (2, .row C_part l 53 none)])
    (Inv40 s) (fun i => s.size - i.pos) ⟨0, 0, 0, false, Grp.zero, []⟩ (Inv40.zero s) (Wk.chk ?_) fun i hi => ?_
  · ((conv => whnf); repeat' (first | (with_reducible first | refine And.intro ?_ ?_ | exact True.intro | rfl | refine EntLe.row ?_) | ((with_reducible refine Run.mk ?_); (conv => whnf))))
    all_goals rfl
  obtain ⟨pos, at', was, begun, ⟨⟨ca, cl, cf, ct, cc⟩, gf, gl, ga⟩, l⟩ := i
  repeat' (first | (with_reducible first | exact fun h => h | refine And.intro ?_ ?_) | ((with_reducible intro hq); first | exact bne1 hq (by with_reducible assumption) | ((simp only [*, BB, cond_true, cond_false, reduceCtorEq] at hq); done) | (revert hq; with_reducible intro _)) | (with_reducible first | exact True.intro | rfl | assumption) | ((with_reducible first | refine LeF.chk ?_ | refine Run.mk ?_); (conv => whnf)) | ((with_reducible show LeR _ _ _); refine LeR.own rfl rfl rfl ?_))
  · have low' : 0 < pos := by simp_all
    have hi' := hi
    obtain ⟨start, low, place, signs, full, told, all, bound⟩ := hi'
    have low := low low'
    dsimp only at low place signs full told bound
    have hJx : ∃ J : Grp × List Part, J = (preG begun ⟨⟨ca, cl, cf, ct, cc⟩, gf, gl, ga⟩ at' was, l ++ (signOut begun ⟨⟨ca, cl, cf, ct, cc⟩, gf, gl, ga⟩ was).map (partOf s)) := ⟨_, rfl⟩
    obtain ⟨J, hJ⟩ := hJx
    refine joinI (Grp × List Part) [] (fun _ => []) (fun | (g, l) => [(8, .box (gAV g) 137), (2, .row C_part l 53 none)]) (fun j => j = J) ?_ fun j hj => ?_
    · have hbb := Bool.eq_false_or_eq_true begun
      rcases hbb with hb | hb
      case inr =>
        subst hb
        have hp : preG false ⟨⟨ca, cl, cf, ct, cc⟩, gf, gl, ga⟩ at' was = ⟨⟨ca, cl, cf, ct, cc⟩, gf, gl, ga⟩ := rfl
        have ho : signOut false ⟨⟨ca, cl, cf, ct, cc⟩, gf, gl, ga⟩ was = [] := rfl
        rw [hp, ho] at hJ; subst hJ
        clear hp ho all hi full start
        repeat' (first | (with_reducible first | refine ex_eq ?_ | exact fun h => h | refine And.intro ?_ ?_) | ((with_reducible intro hq); first | exact bne1 hq (by with_reducible assumption) | ((simp only [*, BB, cond_true, cond_false, reduceCtorEq] at hq); done) | (revert hq; with_reducible intro _)) | (with_reducible first | exact True.intro | rfl | refine EntLe.row ?_) | ((with_reducible first | refine Wk.chk ?_ | refine Run.mk ?_); (conv => whnf)))
        all_goals (simp only [List.map_nil, List.append_nil]; done)
      case inl =>
        subst hb
        have htt := Bool.eq_false_or_eq_true (takesB ⟨⟨ca, cl, cf, ct, cc⟩, gf, gl, ga⟩ was)
        rcases htt with htk | htk
        case inl =>
          have hp : preG true ⟨⟨ca, cl, cf, ct, cc⟩, gf, gl, ga⟩ at' was = ⟨⟨ca, cl, cf, ct, cc⟩, gf, gl, ga⟩ := by simp [preG, htk]
          have ho : signOut true ⟨⟨ca, cl, cf, ct, cc⟩, gf, gl, ga⟩ was = [] := by simp [signOut, htk]
          rw [hp, ho] at hJ; subst hJ
          clear hp ho all hi full start
          repeat' (first | (with_reducible first | refine ex_eq ?_ | refine ⟨_, ⟨.cons (.v _) .nil, trivial⟩, ?_⟩ | exact fun h => h | refine And.intro ?_ ?_) | ((with_reducible intro hq); first | exact bne1 hq (by with_reducible assumption) | ((simp only [*, BB, cond_true, cond_false, reduceCtorEq] at hq); done) | (revert hq; with_reducible intro _)) | (with_reducible first | exact True.intro | rfl | refine EntLe.row ?_ | assumption) | ((with_reducible first | refine WkX.chk ?_ | refine Wk.chk ?_ | refine Run.mk ?_); (conv => whnf)) | ((with_reducible show drawOK _ _ = true); kernel_rfl))
          all_goals (try dsimp only [C_part, bOf])
          all_goals first
            | (refine Fits.i64 ?_ ?_ <;> omega)
            | (with_reducible exact takes_1 (by assumption))
            | (with_reducible exact takes_2 (by first | exact .inl (by assumption) | exact .inr (by assumption)) (by assumption))
            | (with_reducible exact takes_3 (by first | exact .inl (by assumption) | exact .inr (by assumption)) (by assumption))
            | (with_reducible exact takes_4 (by first | exact .inl (by assumption) | exact .inr (by assumption)) (by assumption) (by assumption))
            | (simp only [List.map_nil, List.append_nil]; done)
          all_goals simp only [List.map_cons, List.map_nil, partOf, firstOf, signAt]
          all_goals split
        case inr =>
          have hp : preG true ⟨⟨ca, cl, cf, ct, cc⟩, gf, gl, ga⟩ at' was = ⟨⟨at', 0, ct, ct, 0⟩, 0, 0, false⟩ := by simp [preG, htk]
          have ho : signOut true ⟨⟨ca, cl, cf, ct, cc⟩, gf, gl, ga⟩ was = [⟨ca, cl, cf, ct, cc⟩] := by simp [signOut, htk]
          rw [hp, ho] at hJ; subst hJ
          have full := full rfl
          clear hp ho all hi start
          repeat' (first | (with_reducible first | refine ex_eq ?_ | refine ⟨_, ⟨.cons (.v _) .nil, trivial⟩, ?_⟩ | refine ⟨(_, _), ⟨.cons (.v _) (.cons (.v _) .nil), trivial⟩, ?_⟩ | refine loopI Unit [] (fun _ => []) (fun _ => []) (fun _ => True) (fun _ => 0) () trivial ?_ fun _ _ => ?_ | exact fun h => h | refine And.intro ?_ ?_) | ((with_reducible intro hq); first | exact bne1 hq (by with_reducible assumption) | ((simp only [*, BB, cond_true, cond_false, reduceCtorEq] at hq); done) | (revert hq; with_reducible intro _)) | (with_reducible first | exact True.intro | rfl | refine EntLe.row ?_ | assumption) | ((with_reducible first | refine WkX.chk ?_ | refine Wk.chk ?_ | refine LeL.chk ?_ | refine Run.mk ?_); (conv => whnf)) | ((with_reducible show drawOK _ _ = true); kernel_rfl))
          all_goals (try dsimp only [C_part, bOf])
          all_goals first
            | omega
            | (refine Fits.i64 ?_ ?_ <;> omega)
            | (with_reducible exact takes_1 (by assumption))
            | (with_reducible exact takes_2 (by first | exact .inl (by assumption) | exact .inr (by assumption)) (by assumption))
            | (with_reducible exact takes_3 (by first | exact .inl (by assumption) | exact .inr (by assumption)) (by assumption))
            | (with_reducible exact takes_4 (by first | exact .inl (by assumption) | exact .inr (by assumption)) (by assumption) (by assumption))
            | ((with_reducible show (_ : Bool) = true); (first | (simp_all only [Bool.and_eq_true, and_self]; done) | (simp only [*, Bool.not_false, Bool.not_true, Bool.and_true, Bool.true_and]; done)))
            | (simp only [List.length_cons, List.length_nil]; omega)
            | skip
          all_goals simp only [List.map_cons, List.map_nil, partOf, firstOf, signAt]
          all_goals split
          all_goals first
            | contradiction
            | (simp only [partOfR, blankB, blanks, dashes, openings, closings]; done)

    · obtain ⟨g', l'⟩ := j
      have hjj := Prod.mk.inj (hj.trans hJ)
      obtain ⟨hg, hl⟩ := hjj
      clear hJ
      have hzz := hi.pre low' hg
      obtain ⟨p1, p2, p3, p4, p5, p6⟩ := hzz
      clear hj
      have hnext := St40.next_pos (s := s) (i := ⟨pos, at', was, begun, ⟨⟨ca, cl, cf, ct, cc⟩, gf, gl, ga⟩, l⟩) low' hg hl
      have hinv := hi.next (by assumption)
      have hlt := St40.next_lt (s := s) (i := ⟨pos, at', was, begun, ⟨⟨ca, cl, cf, ct, cc⟩, gf, gl, ga⟩, l⟩) (by assumption)
      rw [hnext] at hinv hlt
      clear hnext hg hl start full told all hi
      obtain ⟨⟨ca, cl, cf, ct, cc⟩, gf, gl, ga⟩ := g'
      dsimp only at p1 p2 p3 p4 p5 p6
      have hxx : ∃ g2, addG ⟨⟨ca, cl, cf, ct, cc⟩, gf, gl, ga⟩ was (↑pos - at') = g2 := ⟨_, rfl⟩
      obtain ⟨g2, hg2⟩ := hxx
      rw [hg2] at hinv hlt
      obtain ⟨⟨a2, b2, c2, d2, e2⟩, f2, l2, r2⟩ := g2
      repeat' (first | (with_reducible first | refine ex_of _ ⟨hinv, hlt⟩ ?_ | refine ⟨_, ⟨.cons (.v _) .nil, trivial⟩, ?_⟩ | exact fun h => h | refine And.intro ?_ ?_) | ((with_reducible intro hq); first | ((simp only [*, BB, cond_true, cond_false, reduceCtorEq] at hq); done) | (revert hq; with_reducible intro _)) | (with_reducible first | exact True.intro | rfl | refine EntLe.row ?_ | assumption) | ((with_reducible first | refine WkX.chk ?_ | refine Wk.chk ?_ | refine Run.mk ?_); (conv => whnf)) | ((with_reducible show drawOK _ _ = true); kernel_rfl))
      all_goals (try clear hinv hlt)
      all_goals (try dsimp only [bOf])
      all_goals first
        | (refine Fits.i64 ?_ ?_ <;> omega)
        | (rw [hg2]; done)
        | (rw [add_1 (by assumption)]; done)
        | (rw [add_2 (by assumption) (by assumption)]; done)
        | (rw [add_3 (by assumption) (by assumption)]; done)
        | ((with_reducible show (_ : Bool) = true); (first | (simp_all only [Bool.and_eq_true, and_self]; done) | (simp only [*, Bool.not_false, Bool.not_true, Bool.and_true, Bool.true_and]; done)))
  · have hnext := St40.next_zero (s := s) (i := ⟨pos, at', was, begun, ⟨⟨ca, cl, cf, ct, cc⟩, gf, gl, ga⟩, l⟩) (by simp_all)
    have hinv := hi.next (by assumption)
    have hlt := St40.next_lt (s := s) (i := ⟨pos, at', was, begun, ⟨⟨ca, cl, cf, ct, cc⟩, gf, gl, ga⟩, l⟩) (by assumption)
    rw [hnext] at hinv hlt
    refine ⟨_, ⟨hinv, hlt⟩, ?_⟩
    clear hinv hlt hnext
    repeat' (first | (with_reducible first | refine And.intro ?_ ?_ | exact True.intro | rfl | refine EntLe.row ?_) | ((with_reducible first | refine Wk.chk ?_ | refine Run.mk ?_); (conv => whnf)))
    all_goals rfl
  · have hne : s.size ≠ 0 := by
      intro h
      have : s = ⟨#[]⟩ := by
        cases s with | mk d => have : d.size = 0 := h; simp_all
      simp_all
    have hi' := hi
    obtain ⟨start, low, place, signs, full, told, all, bound⟩ := hi'
    dsimp only at low place signs full told bound
    have hnp : ¬ pos < s.size := by assumption
    have low' : 0 < pos := by omega
    have low := low low'
    have hrest := rest_end hnp at' was begun ⟨⟨ca, cl, cf, ct, cc⟩, gf, gl, ga⟩
    rw [if_neg hne, signGrp_eq] at hrest
    dsimp only at all
    rw [hrest] at all
    clear hrest
    have hJx : ∃ J : Grp × List Part, J = (preG begun ⟨⟨ca, cl, cf, ct, cc⟩, gf, gl, ga⟩ at' was, l ++ (signOut begun ⟨⟨ca, cl, cf, ct, cc⟩, gf, gl, ga⟩ was).map (partOf s)) := ⟨_, rfl⟩
    obtain ⟨J, hJ⟩ := hJx
    refine joinI (Grp × List Part) [] (fun _ => []) (fun | (g, l) => [(8, .box (gAV g) 137), (2, .row C_part l 53 none)]) (fun j => j = J) ?_ fun j hj => ?_
    · have hbb := Bool.eq_false_or_eq_true begun
      rcases hbb with hb | hb
      case inr =>
        subst hb
        have hp : preG false ⟨⟨ca, cl, cf, ct, cc⟩, gf, gl, ga⟩ at' was = ⟨⟨ca, cl, cf, ct, cc⟩, gf, gl, ga⟩ := rfl
        have ho : signOut false ⟨⟨ca, cl, cf, ct, cc⟩, gf, gl, ga⟩ was = [] := rfl
        rw [hp, ho] at hJ; subst hJ
        clear hp ho all hi full start
        repeat' (first | (with_reducible first | refine ex_eq ?_ | exact fun h => h | refine And.intro ?_ ?_) | ((with_reducible intro hq); first | exact bne1 hq (by with_reducible assumption) | ((simp only [*, BB, cond_true, cond_false, reduceCtorEq] at hq); done) | (revert hq; with_reducible intro _)) | (with_reducible first | exact True.intro | rfl | refine EntLe.row ?_) | ((with_reducible first | refine Wk.chk ?_ | refine Run.mk ?_); (conv => whnf)))
        all_goals (simp only [List.map_nil, List.append_nil]; done)
      case inl =>
        subst hb
        have htt := Bool.eq_false_or_eq_true (takesB ⟨⟨ca, cl, cf, ct, cc⟩, gf, gl, ga⟩ was)
        rcases htt with htk | htk
        case inl =>
          have hp : preG true ⟨⟨ca, cl, cf, ct, cc⟩, gf, gl, ga⟩ at' was = ⟨⟨ca, cl, cf, ct, cc⟩, gf, gl, ga⟩ := by simp [preG, htk]
          have ho : signOut true ⟨⟨ca, cl, cf, ct, cc⟩, gf, gl, ga⟩ was = [] := by simp [signOut, htk]
          rw [hp, ho] at hJ; subst hJ
          clear hp ho all hi full start
          repeat' (first | (with_reducible first | refine ex_eq ?_ | refine ⟨_, ⟨.cons (.v _) .nil, trivial⟩, ?_⟩ | exact fun h => h | refine And.intro ?_ ?_) | ((with_reducible intro hq); first | exact bne1 hq (by with_reducible assumption) | ((simp only [*, BB, cond_true, cond_false, reduceCtorEq] at hq); done) | (revert hq; with_reducible intro _)) | (with_reducible first | exact True.intro | rfl | refine EntLe.row ?_ | assumption) | ((with_reducible first | refine WkX.chk ?_ | refine Wk.chk ?_ | refine Run.mk ?_); (conv => whnf)) | ((with_reducible show drawOK _ _ = true); kernel_rfl))
          all_goals (try dsimp only [C_part, bOf])
          all_goals first
            | (refine Fits.i64 ?_ ?_ <;> omega)
            | (with_reducible exact takes_1 (by assumption))
            | (with_reducible exact takes_2 (by first | exact .inl (by assumption) | exact .inr (by assumption)) (by assumption))
            | (with_reducible exact takes_3 (by first | exact .inl (by assumption) | exact .inr (by assumption)) (by assumption))
            | (with_reducible exact takes_4 (by first | exact .inl (by assumption) | exact .inr (by assumption)) (by assumption) (by assumption))
            | (simp only [List.map_nil, List.append_nil]; done)
          all_goals simp only [List.map_cons, List.map_nil, partOf, firstOf, signAt]
          all_goals split
        case inr =>
          have hp : preG true ⟨⟨ca, cl, cf, ct, cc⟩, gf, gl, ga⟩ at' was = ⟨⟨at', 0, ct, ct, 0⟩, 0, 0, false⟩ := by simp [preG, htk]
          have ho : signOut true ⟨⟨ca, cl, cf, ct, cc⟩, gf, gl, ga⟩ was = [⟨ca, cl, cf, ct, cc⟩] := by simp [signOut, htk]
          rw [hp, ho] at hJ; subst hJ
          have full := full rfl
          clear hp ho all hi start
          repeat' (first | (with_reducible first | refine ex_eq ?_ | refine ⟨_, ⟨.cons (.v _) .nil, trivial⟩, ?_⟩ | refine ⟨(_, _), ⟨.cons (.v _) (.cons (.v _) .nil), trivial⟩, ?_⟩ | refine loopI Unit [] (fun _ => []) (fun _ => []) (fun _ => True) (fun _ => 0) () trivial ?_ fun _ _ => ?_ | exact fun h => h | refine And.intro ?_ ?_) | ((with_reducible intro hq); first | exact bne1 hq (by with_reducible assumption) | ((simp only [*, BB, cond_true, cond_false, reduceCtorEq] at hq); done) | (revert hq; with_reducible intro _)) | (with_reducible first | exact True.intro | rfl | refine EntLe.row ?_ | assumption) | ((with_reducible first | refine WkX.chk ?_ | refine Wk.chk ?_ | refine LeL.chk ?_ | refine Run.mk ?_); (conv => whnf)) | ((with_reducible show drawOK _ _ = true); kernel_rfl))
          all_goals (try dsimp only [C_part, bOf])
          all_goals first
            | omega
            | (refine Fits.i64 ?_ ?_ <;> omega)
            | (with_reducible exact takes_1 (by assumption))
            | (with_reducible exact takes_2 (by first | exact .inl (by assumption) | exact .inr (by assumption)) (by assumption))
            | (with_reducible exact takes_3 (by first | exact .inl (by assumption) | exact .inr (by assumption)) (by assumption))
            | (with_reducible exact takes_4 (by first | exact .inl (by assumption) | exact .inr (by assumption)) (by assumption) (by assumption))
            | ((with_reducible show (_ : Bool) = true); (first | (simp_all only [Bool.and_eq_true, and_self]; done) | (simp only [*, Bool.not_false, Bool.not_true, Bool.and_true, Bool.true_and]; done)))
            | (simp only [List.length_cons, List.length_nil]; omega)
            | skip
          all_goals simp only [List.map_cons, List.map_nil, partOf, firstOf, signAt]
          all_goals split
          all_goals first
            | contradiction
            | (simp only [partOfR, blankB, blanks, dashes, openings, closings]; done)

    · obtain ⟨g', l'⟩ := j
      have hjj := Prod.mk.inj (hj.trans hJ)
      obtain ⟨hg, hl⟩ := hjj
      clear hJ
      have hzz := hi.pre low' hg
      obtain ⟨p1, p2, p3, p4, p5, p6⟩ := hzz
      clear hj
      rw [← hg, List.map_append, ← List.append_assoc, ← hl] at all
      have hlen : (l'.length : Int) ≤ ct := by
        rw [hl]
        unfold signOut
        split
        · have := full (by simp_all)
          simp only [List.length_append, List.length_map, List.length_cons, List.length_nil]; omega
        · simp only [List.length_append, List.length_map, List.length_nil]; omega
      clear hg hl start full told hi
      obtain ⟨⟨ca, cl, cf, ct, cc⟩, gf, gl, ga⟩ := g'
      dsimp only at p1 p2 p3 p4 p5 p6
      have hzz := addG_c ⟨⟨ca, cl, cf, ct, cc⟩, gf, gl, ga⟩ was (↑s.size - at')
      obtain ⟨q1, q2, q3, q4⟩ := hzz
      have hxx : ∃ g2, addG ⟨⟨ca, cl, cf, ct, cc⟩, gf, gl, ga⟩ was (↑s.size - at') = g2 := ⟨_, rfl⟩
      obtain ⟨g2, hA⟩ := hxx
      rw [hA] at all q1 q2 q3 q4
      obtain ⟨⟨a2, b2, c2, d2, e2⟩, f2, l2, r2⟩ := g2
      dsimp only at q1 q2 q3 q4
      subst q1 q2 q3 q4
      have hzz := add_inj hA
      obtain ⟨k1, k2, k3⟩ := hzz
      repeat' (first | (with_reducible first | refine ⟨_, ⟨.cons (.v _) .nil, trivial⟩, ?_⟩ | refine ⟨(_, _), ⟨.cons (.v _) (.cons (.v _) .nil), trivial⟩, ?_⟩ | refine loopI Unit [] (fun _ => []) (fun _ => []) (fun _ => True) (fun _ => 0) () trivial ?_ fun _ _ => ?_ | exact fun h => h | refine And.intro ?_ ?_) | ((with_reducible intro hq); first | ((simp only [*, BB, cond_true, cond_false, reduceCtorEq] at hq); done) | (revert hq; with_reducible intro _)) | (with_reducible first | exact True.intro | rfl | refine EntLe.row ?_ | assumption) | ((with_reducible first | refine WkX.chk ?_ | refine Wk.chk ?_ | refine LeL.chk ?_ | refine LeF.chk ?_ | refine Run.mk ?_); (conv => whnf)) | ((with_reducible show LeR _ _ _); refine LeR.own rfl rfl rfl ?_) | ((with_reducible show drawOK _ _ = true); kernel_rfl))
      all_goals (try dsimp only [C_part, bOf])
      all_goals (try simp only [hA] at *)
      all_goals first
        | omega
        | (refine Fits.i64 ?_ ?_ <;> omega)
        | (with_reducible exact (k1 (by assumption)).1)
        | (with_reducible exact (k1 (by assumption)).2.1)
        | (with_reducible exact (k1 (by assumption)).2.2.1)
        | (with_reducible exact (k1 (by assumption)).2.2.2)
        | (with_reducible exact (k2 (by assumption) (by assumption)).1)
        | (with_reducible exact (k2 (by assumption) (by assumption)).2.1)
        | (with_reducible exact (k2 (by assumption) (by assumption)).2.2.1)
        | (with_reducible exact (k2 (by assumption) (by assumption)).2.2.2)
        | (with_reducible exact (k3 (by assumption) (by assumption)).1)
        | (with_reducible exact (k3 (by assumption) (by assumption)).2.1)
        | (with_reducible exact (k3 (by assumption) (by assumption)).2.2.1)
        | (with_reducible exact (k3 (by assumption) (by assumption)).2.2.2)
        | ((with_reducible show (_ : Bool) = true); (first | (simp_all only [Bool.and_eq_true, and_self]; done) | (simp only [*, Bool.not_false, Bool.not_true, Bool.and_true, Bool.true_and]; done)))
        | (simp only [List.length_cons, List.length_nil]; omega)
        | skip
      all_goals rw [all]
      all_goals simp only [List.map_cons, List.map_nil, partOf, firstOf, signAt]
      all_goals split
      all_goals first
        | contradiction
        | (simp only [partOfR, blankB, blanks, dashes, openings, closings]; done)
  · have : s.size = 0 := by
      have h : (!decide (s = ⟨#[]⟩)) = false := by assumption
      simp only [Bool.not_eq_false', decide_eq_true_eq] at h
      rw [h]; rfl
    have hrest := rest_end (s := s) (pos := pos) (by assumption) at' was begun ⟨⟨ca, cl, cf, ct, cc⟩, gf, gl, ga⟩
    rw [if_pos this] at hrest
    have all := hi.all
    dsimp only at all
    rw [hrest] at all
    rw [all]; simp
end Go.SX.Tryz
/- Where a text may be parted, told plainly. No program here. -/
namespace Go.SX.Plain
abbrev dPart : Part := ⟨⟨0, 0, 0, 0, 0⟩, 0, false, false, false, false, false, false⟩
def kindAt (l : List Part) (i : Nat) : Int :=
  if (l.getD (i - 1) dPart).fin = true then 1
  else if i = l.length then 0
  else if ((l.getD i dPart).fin || (l.getD i dPart).blank) = true then 0
  else if (l.getD (i - 1) dPart).blank = true then 2
  else if ((l.getD (i - 1) dPart).dash && decide ((1 : Int) < (i : Int)) && !(l.getD (i - 2) dPart).blank && !(l.getD (i - 2) dPart).fin && !(l.getD (i - 2) dPart).dash) = true then 2
  else if (((l.getD (i - 1) dPart).wide || (l.getD i dPart).wide) && !(l.getD (i - 1) dPart).opening && !(l.getD i dPart).closing) = true then 2
  else 3
def plcs (l : List Part) (k : Nat) : List Nat := ((List.range k).filter fun i => decide (0 < i) && decide (kindAt l i ≠ 0))
def atL (l : List Part) (k : Nat) : List Int := (plcs l k).map fun (i : Nat) => (i : Int)
def outL (l : List Part) (k : Nat) : List (Int × Int) := (plcs l k).map fun (i : Nat) => ((l.getD (i - 1) dPart).c.to, kindAt l i)
theorem plcs_no {l : List Part} {k : Nat} (h : kindAt l k = 0) : plcs l (k + 1) = plcs l k := by
  simp [plcs, List.range_succ, List.filter_append, h]
theorem plcs_yes {l : List Part} {k : Nat} (h0 : 0 < k) (h : kindAt l k ≠ 0) : plcs l (k + 1) = plcs l k ++ [k] := by
  simp [plcs, List.range_succ, List.filter_append, h, h0]
theorem atL_no {l : List Part} {k : Nat} (h : kindAt l k = 0) : atL l (k + 1) = atL l k := by unfold atL; rw [plcs_no h]
theorem atL_yes {l : List Part} {k : Nat} (h0 : 0 < k) (h : kindAt l k ≠ 0) : atL l (k + 1) = atL l k ++ [(k : Int)] := by unfold atL; rw [plcs_yes h0 h]; simp
theorem outL_no {l : List Part} {k : Nat} (h : kindAt l k = 0) : outL l (k + 1) = outL l k := by unfold outL; rw [plcs_no h]
theorem outL_yes {l : List Part} {k : Nat} (h0 : 0 < k) (h : kindAt l k ≠ 0) : outL l (k + 1) = outL l k ++ [((l.getD (k - 1) dPart).c.to, kindAt l k)] := by unfold outL; rw [plcs_yes h0 h]; simp
theorem plcs_len (l : List Part) (k : Nat) : (plcs l k).length ≤ k := by
  unfold plcs
  exact Nat.le_trans (List.length_filter_le _ _) (by simp)
theorem atL_len (l : List Part) (k : Nat) : (atL l k).length ≤ k := by unfold atL; simpa using plcs_len l k
theorem outL_len (l : List Part) (k : Nat) : (outL l k).length ≤ k := by unfold outL; simpa using plcs_len l k
end Go.SX.Plain
/- Contract of wrap's places. -/
namespace Go.SX.Tryz
open Go.Proofs Go.Proofs.Tryz Go.SX.Plain
set_option maxRecDepth 100000
set_option maxHeartbeats 0
set_option linter.unusedSimpArgs false
def C_brk : Cdc (Int × Int) where
  size := 2
  enc p := [.v (.int .i64 p.1), .v (.int .i64 p.2)]
  dec l := match l with
    | [.v (.int _ a), .v (.int _ b)] => (a, b)
    | _ => (0, 0)
  d := (0, 0)
def D_plc : Cds := [(3, ⟨Int, C_int⟩), (49, ⟨Int × Int, C_brk⟩), (53, ⟨Part, C_part⟩)]
theorem D_plc_ok : CdsOK T D_plc := .cons ⟨fun _ => rfl, by decide, _, rfl, rfl, by decide⟩ (.cons ⟨fun _ => rfl, by decide, _, rfl, rfl, by decide⟩ (.cons ⟨fun _ => rfl, by decide, _, rfl, rfl, by decide⟩ .nil))
theorem q_places : fact 29 f29 := ⟨by kernel_rfl, rfl, by kernel_rfl⟩
theorem q_places1 : fact 58 f58 := ⟨by kernel_rfl, rfl, by kernel_rfl⟩
theorem con_places : Con prog 29 (fun l : List Part => [.ro 12 C_part.enc C_part.d l none]) (fun l => .tup [.ro 1 C_int.enc C_int.d (atL l (l.length + 1)) none, .ro 2 C_brk.enc C_brk.d (outL l (l.length + 1)) none]) (fun l => l.length ≤ 2000000) := by
  refine Con.of (by kernel_rfl) T_ok D_plc_ok (.inl (J := []) q_places1.1 q_places1.2.1 q_places1.2.2 .nil) 4 [4] q_places.1 q_places.2.1 q_places.2.2 (fun _ => rfl) fun l hl => ?_
  repeat' ((with_reducible refine Run.mk ?_); (conv => whnf))
  refine loopI Nat [] (fun i => [(5, .v (.int .i64 i))]) (fun i => [(1, .row C_int (atL l i) 3 none), (3, .row C_brk (outL l i) 49 none)])
    (fun i => 1 ≤ i ∧ (i ≤ l.length ∨ i = 1)) (fun i => l.length + 1 - i) 1 ⟨Nat.le_refl _, .inr rfl⟩ (Wk.chk ?_) fun i hi => ?_
  · ((conv => whnf); repeat' (first | (with_reducible first | refine And.intro ?_ ?_ | exact True.intro | refine EntLe.row ?_ | exact LeN.ro rfl) | ((with_reducible refine Run.mk ?_); (conv => whnf))))
    all_goals rfl
  obtain ⟨hi1, hi2⟩ := hi
  have ha := atL_len l i
  have ho := outL_len l i
  repeat' (first | (with_reducible first | exact fun h => h | refine And.intro ?_ ?_ | intro _ | exact True.intro | rfl | assumption) | ((with_reducible first | refine LeL.chk ?_ | refine LeF.chk ?_ | refine Run.mk ?_); (conv => whnf)) | ((with_reducible show LeR _ _ _); refine LeR.own rfl rfl rfl ?_) | ((with_reducible show drawOK3 _ _ = true); kernel_rfl))
  · have hin : i < l.length := by simp_all
    have e1 : ((i : Int) - 1).toNat = i - 1 := by omega
    have e2 : ((i : Int)).toNat = i := by omega
    have e3 : ((i : Int) - 2).toNat = i - 2 := by omega
    have ed : C_part.d = dPart := rfl
    have hne : ¬ i = l.length := by omega
    refine joinI (List Int × List (Int × Int)) [] (fun _ => []) (fun | (a, o) => [(1, .row C_int a 3 none), (3, .row C_brk o 49 none)]) (fun j => j = (atL l (i + 1), outL l (i + 1))) ?_ fun j hj => ?_
    · repeat' (first | (with_reducible first | refine ex_eq ?_ | exact fun h => h | refine And.intro ?_ ?_ | intro _ | exact True.intro | rfl | refine EntLe.row ?_ | exact LeN.ro rfl | assumption) | ((with_reducible first | refine Wk.chk ?_ | refine LeL.chk ?_ | refine Run.mk ?_); (conv => whnf)) | ((with_reducible show drawOK3 _ _ = true); kernel_rfl))
      all_goals (try simp only [e1, e2, e3, ed, decide_eq_true_eq, decide_eq_false_iff_not] at *)
      all_goals first
        | omega
        | (refine Fits.i64 ?_ ?_ <;> omega)
        | (simp only [List.length_cons, List.length_nil]; omega)
        | ((with_reducible show (_ : Bool) = true); (first | (simp_all only [Bool.and_eq_true, and_self]; done) | (simp only [*, Bool.not_false, Bool.not_true, Bool.and_true, Bool.true_and]; done)))
        | (simp only [Bool.and_eq_true, decide_eq_true_eq] at *; omega)
        | (dsimp only [C_int]; done)
        | (dsimp only [C_brk, zeroAV]; done)
        | (rw [atL_no (by simp [kindAt, *, -List.getD_eq_getElem?_getD])]; done)
        | (rw [outL_no (by simp [kindAt, *, -List.getD_eq_getElem?_getD])]; done)
        | (rw [atL_yes (by omega) (by simp [kindAt, *, -List.getD_eq_getElem?_getD])]; dsimp only [C_int]; done)
        | (rw [outL_yes (by omega) (by simp [kindAt, *, -List.getD_eq_getElem?_getD])]; simp [kindAt, *, C_brk, zeroAV, -List.getD_eq_getElem?_getD]; done)
    · subst hj
      have hI : (1 ≤ i + 1 ∧ (i + 1 ≤ l.length ∨ i + 1 = 1)) ∧ l.length + 1 - (i + 1) < l.length + 1 - i := ⟨⟨by omega, by omega⟩, by omega⟩
      repeat' (first | (with_reducible first | refine ex_of (i + 1) hI ?_ | refine And.intro ?_ ?_ | exact True.intro | rfl | refine EntLe.row ?_ | exact LeN.ro rfl) | ((with_reducible first | refine Wk.chk ?_ | refine Run.mk ?_); (conv => whnf)))
      all_goals first
        | omega
        | (refine Fits.i64 ?_ ?_ <;> omega)
  all_goals
    have hge : l.length ≤ i := by
      have h : decide ((i : Int) < (l.length : Int)) = false := by assumption
      simp only [decide_eq_false_iff_not] at h
      omega
    have e1 : ((l.length : Int) - 1).toNat = l.length - 1 := by omega
    have ed : C_part.d = dPart := rfl
    have h0 : l.length = 0 → atL l (l.length + 1) = [] ∧ outL l (l.length + 1) = [] ∧ i = 1 := fun h => by rw [h]; exact ⟨rfl, rfl, by omega⟩
    have h1 : 0 < l.length → i = l.length := fun h => by omega
  all_goals (try simp only [e1, ed] at *)
  all_goals first
    | omega
    | (refine Fits.i64 ?_ ?_ <;> omega)
    | (simp only [List.length_cons, List.length_nil]; omega)
    | (dsimp only [C_int]; done)
    | (dsimp only [C_brk, zeroAV]; done)
    | (exfalso; have h : decide (0 < (l.length : Int)) = true := by assumption
       simp only [decide_eq_true_eq] at h; have h2 : decide (0 < (l.length : Int)) = false := by assumption
       simp only [decide_eq_false_iff_not] at h2; omega)
    | (have h : decide (0 < (l.length : Int)) = true := by assumption
       simp only [decide_eq_true_eq] at h
       first
        | omega
        | (have h2 := h1 (by omega); subst h2
           first
            | (rw [atL_yes (by omega) (by simp_all [kindAt, -List.getD_eq_getElem?_getD])]; dsimp only [C_int]; done)
            | (rw [outL_yes (by omega) (by simp_all [kindAt, -List.getD_eq_getElem?_getD])]; simp_all [kindAt, C_brk, zeroAV, -List.getD_eq_getElem?_getD]; done)))
    | (exfalso
       have h : decide (0 < (l.length : Int)) = false := by assumption
       have h2 : (decide (0 < (l.length : Int)) && (l.getD (l.length - 1) dPart).fin) = true := by assumption
       rw [h] at h2; cases h2)
    | (have h2 : (decide (0 < (l.length : Int)) && (l.getD (l.length - 1) dPart).fin) = false := by assumption
       rcases Nat.eq_zero_or_pos l.length with hz | hz
       · obtain ⟨q1, q2, q3⟩ := h0 hz
         subst q3
         first
          | (rw [q1]; rfl)
          | (rw [q2]; rfl)
       · have q1 := h1 hz
         have h3 : (l.getD (l.length - 1) dPart).fin = false := by
           simp only [Bool.and_eq_false_iff, decide_eq_false_iff_not] at h2
           rcases h2 with h2 | h2
           · omega
           · exact h2
         subst q1
         first
          | rw [atL_no (by simp only [kindAt, h3]; simp)]
          | rw [outL_no (by simp only [kindAt, h3]; simp)])
end Go.SX.Tryz
/- How a text is broken, told plainly: the way the program goes about it. No program here. -/
namespace Go.SX.Plain
structure Bst where
  bad : Int
  places : Int
  next : Int
  ok : Bool
abbrev zB : Bst := ⟨0, 0, 0, false⟩
def before (b o : Bst) : Bool := if o.ok = false then true else if b.bad ≠ o.bad then decide (b.bad < o.bad) else decide (b.places < o.places)
def checkN (n : Nat) (width : Int) : Int := if width < 2 ∨ 200 < width then 1 else if 4096 < n then 3 else 0
def scan (l : List Part) (frm : Nat) : Nat → Int × Int
  | 0 => (0, 0)
  | n + 1 => if (l.getD (frm + n) dPart).fin = true then scan l frm n
    else (if (l.getD (frm + n) dPart).blank = true then (scan l frm n).1 else (scan l frm n).2 + (l.getD (frm + n) dPart).c.cells, (scan l frm n).2 + (l.getD (frm + n) dPart).c.cells)
def Small (l : List Part) : Prop := ∀ p ∈ l, 0 ≤ p.c.cells ∧ p.c.cells ≤ 2
theorem Small.at {l : List Part} (h : Small l) (i : Nat) : 0 ≤ (l.getD i dPart).c.cells ∧ (l.getD i dPart).c.cells ≤ 2 := by
  by_cases hi : i < l.length
  · rw [List.getD_eq_getElem?_getD, List.getElem?_eq_getElem hi]; exact h _ (List.getElem_mem hi)
  · rw [List.getD_eq_getElem?_getD, List.getElem?_eq_none (by omega)]; simp
theorem scan_bd {l : List Part} (h : Small l) (frm : Nat) : ∀ n, 0 ≤ (scan l frm n).1 ∧ (scan l frm n).1 ≤ (scan l frm n).2 ∧ (scan l frm n).2 ≤ 2 * n
  | 0 => by simp [scan]
  | n + 1 => by
    obtain ⟨h1, h2, h3⟩ := scan_bd h frm n
    obtain ⟨h4, h5⟩ := h.at (frm + n)
    unfold scan
    split
    · exact ⟨h1, h2, by omega⟩
    · simp only
      split <;> exact ⟨by omega, by omega, by omega⟩
def posn (P : List Nat) (k : Nat) : Nat := if k = 0 then 0 else P.getD (k - 1) 0
def fullTo (l : List Part) (P : List Nat) (k e : Nat) : Int := (scan l (posn P k) (e - posn P k)).1
def cand (l : List Part) (P : List Nat) (width : Int) (ws : List Bst) (k n : Nat) : Bst :=
  ⟨(width - fullTo l P k (P.getD n 0)) * (width - fullTo l P k (P.getD n 0)) + (ws.getD (n + 1) zB).bad + (if kindAt l (P.getD n 0) = 3 then 1048576 else 0), (ws.getD (n + 1) zB).places + 1, n, true⟩
def better (w acc : Bst) : Bst := if before w acc = true then w else acc
def endly (l : List Part) (P : List Nat) (width : Int) (k : Nat) (acc : Bst) : Bst :=
  if fullTo l P k l.length ≤ width then better ⟨(width - fullTo l P k l.length) * (width - fullTo l P k l.length), 0, -1, true⟩ acc else acc
def inn (l : List Part) (P : List Nat) (width : Int) (ws : List Bst) (k : Nat) : Nat → Nat → Bst → Bst
  | 0, _, acc => endly l P width k acc
  | f + 1, n, acc =>
    if n < P.length then
      if fullTo l P k (P.getD n 0) ≤ width then
        if (ws.getD (n + 1) zB).ok = true then
          if kindAt l (P.getD n 0) = 1 then better (cand l P width ws k n) acc else inn l P width ws k f (n + 1) (better (cand l P width ws k n) acc)
        else if kindAt l (P.getD n 0) = 1 then acc else inn l P width ws k f (n + 1) acc
      else acc
    else endly l P width k acc
def inner (l : List Part) (P : List Nat) (width : Int) (ws : List Bst) (k n : Nat) (acc : Bst) : Bst := inn l P width ws k (P.length - n) n acc
theorem inner_step {l : List Part} {P : List Nat} {width : Int} {ws : List Bst} {k n : Nat} {acc : Bst} (h : n < P.length) : inner l P width ws k n acc =
      if fullTo l P k (P.getD n 0) ≤ width then
        if (ws.getD (n + 1) zB).ok = true then
          if kindAt l (P.getD n 0) = 1 then better (cand l P width ws k n) acc else inner l P width ws k (n + 1) (better (cand l P width ws k n) acc)
        else if kindAt l (P.getD n 0) = 1 then acc else inner l P width ws k (n + 1) acc
      else acc := by
  unfold inner
  rw [show P.length - n = (P.length - (n + 1)) + 1 by omega]
  simp only [inn]
  rw [if_pos h]
theorem inner_end {l : List Part} {P : List Nat} {width : Int} {ws : List Bst} {k n : Nat} {acc : Bst} (h : ¬ n < P.length) : inner l P width ws k n acc = endly l P width k acc := by
  unfold inner
  rw [show P.length - n = 0 by omega]
  rfl
def tab (l : List Part) (P : List Nat) (width : Int) : Nat → List Bst
  | 0 => List.replicate (P.length + 1) zB
  | c + 1 => (tab l P width c).set (P.length - c) (inner l P width (tab l P width c) (P.length - c) (P.length - c) zB)
theorem tab_len (l : List Part) (P : List Nat) (width : Int) : ∀ c, (tab l P width c).length = P.length + 1
  | 0 => by simp [tab]
  | c + 1 => by simp [tab, tab_len l P width c]
structure Gd (N : Nat) (ws : List Bst) (j : Nat) (b : Bst) : Prop where
  b0 : 0 ≤ b.bad
  b1 : b.bad ≤ ((N + 1 - j : Nat) : Int) * 2000000
  p0 : 0 ≤ b.places
  p1 : b.places ≤ ((N + 1 - j : Nat) : Int)
  nx : b.ok = true → b.next = -1 ∨ ∃ n : Nat, b.next = n ∧ j ≤ n ∧ n < N ∧ (ws.getD (n + 1) zB).ok = true
theorem Gd.zero (N : Nat) (ws : List Bst) (j : Nat) : Gd N ws j zB := ⟨by simp, by simp only; omega, by simp, by simp only; omega, fun h => by cases h⟩
theorem sq_bd {x y : Int} (h0 : 0 ≤ x) (h1 : x ≤ y) : 0 ≤ x * x ∧ x * x ≤ y * y := ⟨Int.mul_nonneg h0 h0, Int.mul_le_mul h1 h1 h0 (by omega)⟩
theorem fullTo_bd {l : List Part} (h : Small l) (P : List Nat) (k e : Nat) : 0 ≤ fullTo l P k e := (scan_bd h _ _).1
theorem Gd.cand {l : List Part} {P : List Nat} {width : Int} {ws : List Bst} {k n : Nat} (hs : Small l) (hw : width ≤ 200) (hf : fullTo l P k (P.getD n 0) ≤ width) (hk : k ≤ n) (hn : n < P.length)
    (ho : Gd P.length ws (n + 1) (ws.getD (n + 1) zB)) (hok : (ws.getD (n + 1) zB).ok = true) : Gd P.length ws k (cand l P width ws k n) := by
  have h0 := fullTo_bd hs P k (P.getD n 0)
  have hq := sq_bd (x := width - fullTo l P k (P.getD n 0)) (y := 200) (by omega) (by omega)
  obtain ⟨b0, b1, p0, p1, _⟩ := ho
  unfold Plain.cand
  refine ⟨?_, ?_, ?_, ?_, fun _ => .inr ⟨n, rfl, hk, hn, hok⟩⟩
  · simp only; split <;> omega
  · simp only
    have : ((P.length + 1 - k : Nat) : Int) ≥ ((P.length + 1 - (n + 1) : Nat) : Int) + 1 := by omega
    split <;> omega
  · simp only; omega
  · simp only; omega
theorem Gd.better {N : Nat} {ws : List Bst} {j : Nat} {a b : Bst} (ha : Gd N ws j a) (hb : Gd N ws j b) : Gd N ws j (better a b) := by
  unfold Plain.better; split <;> assumption
theorem Gd.endly {l : List Part} {P : List Nat} {width : Int} {ws : List Bst} {k : Nat} {acc : Bst} (hs : Small l) (hw : width ≤ 200) (hk : k ≤ P.length) (ha : Gd P.length ws k acc) : Gd P.length ws k (endly l P width k acc) := by
  unfold Plain.endly
  split
  · rename_i hf
    have h0 := fullTo_bd hs P k l.length
    have hq := sq_bd (x := width - fullTo l P k l.length) (y := 200) (by omega) (by omega)
    exact Gd.better ⟨hq.1, by simp only; omega, by simp, by simp only; omega, fun _ => .inl rfl⟩ ha
  · exact ha
theorem Gd.inn {l : List Part} {P : List Nat} {width : Int} {ws : List Bst} {k : Nat} (hs : Small l) (hw : width ≤ 200) (hk : k ≤ P.length) (hws : ∀ j, k < j → Gd P.length ws j (ws.getD j zB)) : ∀ (f n : Nat) {acc : Bst}, k ≤ n → Gd P.length ws k acc →
    Gd P.length ws k (inn l P width ws k f n acc)
  | 0, n, acc, _, ha => Gd.endly hs hw hk ha
  | f + 1, n, acc, hn, ha => by
    simp only [Plain.inn]
    split
    · rename_i hlt
      split
      · rename_i hf
        split
        · rename_i hok
          have hc := Gd.better (Gd.cand hs hw hf hn hlt (hws (n + 1) (by omega)) hok) ha
          split
          · exact hc
          · exact Gd.inn hs hw hk hws f (n + 1) (by omega) hc
        · split
          · exact ha
          · exact Gd.inn hs hw hk hws f (n + 1) (by omega) ha
      · exact ha
    · exact Gd.endly hs hw hk ha
theorem getD_set_ne {α : Type} (l : List α) (i j : Nat) (x d : α) (h : i ≠ j) : (l.set i x).getD j d = l.getD j d := by
  simp [List.getElem?_set_ne h]
theorem getD_set_eq {α : Type} (l : List α) (i : Nat) (x d : α) (h : i < l.length) : (l.set i x).getD i d = x := by
  simp [h]
theorem Gd.set {N : Nat} {ws : List Bst} {j i : Nat} {b x : Bst} (h : Gd N ws j b) (hi : i ≤ j) : Gd N (ws.set i x) j b :=
  ⟨h.b0, h.b1, h.p0, h.p1, fun hok => (h.nx hok).imp (fun h => h) fun ⟨n, h1, h2, h3, h4⟩ => ⟨n, h1, h2, h3, by rw [getD_set_ne _ _ _ _ _ (by omega)]; exact h4⟩⟩
theorem tab_gd {l : List Part} {P : List Nat} {width : Int} (hs : Small l) (hw : width ≤ 200) : ∀ c j, c ≤ P.length + 1 → P.length + 1 ≤ c + j → Gd P.length (tab l P width c) j ((tab l P width c).getD j zB)
  | 0, j, _, h => by
    have : (tab l P width 0).getD j zB = zB := by simp only [tab, List.getD_eq_getElem?_getD, List.getElem?_replicate]; split <;> rfl
    rw [this]; exact Gd.zero _ _ _
  | c + 1, j, hc, h => by
    have hlen := tab_len l P width c
    by_cases hj : j = P.length - c
    · subst hj
      have e : (tab l P width (c + 1)).getD (P.length - c) zB = inner l P width (tab l P width c) (P.length - c) (P.length - c) zB := by
        simp only [tab]
        exact getD_set_eq _ _ _ _ (by omega)
      rw [e]
      exact (Gd.inn hs hw (by omega) (fun j hj => tab_gd hs hw c j (by omega) (by omega)) _ _ (Nat.le_refl _) (Gd.zero _ _ _)).set (Nat.le_refl _)
    · have e : (tab l P width (c + 1)).getD j zB = (tab l P width c).getD j zB := by
        simp only [tab]
        exact getD_set_ne _ _ _ _ _ (by omega)
      rw [e]
      exact (tab_gd hs hw c j (by omega) (by omega)).set (by omega)

theorem plcs_mem {l : List Part} {k i : Nat} : i ∈ plcs l k ↔ i < k ∧ 0 < i ∧ kindAt l i ≠ 0 := by simp [plcs]
theorem plcs_sorted (l : List Part) (k : Nat) : (plcs l k).Pairwise (· < ·) := List.Pairwise.filter _ List.pairwise_lt_range
theorem sorted_lt {P : List Nat} (h : P.Pairwise (· < ·)) {i j : Nat} (hij : i < j) (hj : j < P.length) : P.getD i 0 < P.getD j 0 := by
  have := List.pairwise_iff_getElem.1 h i j (by omega) hj hij
  simpa [List.getD_eq_getElem?_getD, hj, show i < P.length by omega] using this
theorem getD_mem {P : List Nat} {i : Nat} (h : i < P.length) : P.getD i 0 ∈ P := by
  simp [List.getD_eq_getElem?_getD, h]
theorem gap {l : List Part} {k i : Nat} (hk : k ≤ (plcs l (l.length + 1)).length) (h1 : posn (plcs l (l.length + 1)) k < i) (h2 : k < (plcs l (l.length + 1)).length → i < (plcs l (l.length + 1)).getD k 0) (hi : i ≤ l.length) : kindAt l i = 0 := by
  have hs := plcs_sorted l (l.length + 1)
  have hm := @plcs_mem l (l.length + 1) i
  revert h1 h2 hm hs hk
  generalize plcs l (l.length + 1) = P
  intro hk h1 h2 hs hm
  refine Classical.byContradiction fun hc => ?_
  obtain ⟨m, hm1, hm2⟩ := List.getElem_of_mem (hm.2 ⟨by omega, by omega, hc⟩)
  have hm3 : P.getD m 0 = i := by simp [List.getD_eq_getElem?_getD, hm1, hm2]
  by_cases hmk : m < k
  · have : P.getD m 0 ≤ posn P k := by
      unfold posn
      rw [if_neg (by omega)]
      by_cases he : m = k - 1
      · rw [he]; exact Nat.le_refl _
      · exact Nat.le_of_lt (sorted_lt hs (by omega) (by omega))
    omega
  · have : P.getD k 0 ≤ P.getD m 0 := by
      by_cases he : m = k
      · rw [he]; exact Nat.le_refl _
      · exact Nat.le_of_lt (sorted_lt hs (by omega) hm1)
    have := h2 (by omega)
    omega
theorem kind0 {l : List Part} {i : Nat} (h : kindAt l i = 0) (hi : i < l.length) : (l.getD i dPart).fin = true ∨ (l.getD i dPart).blank = true := by
  unfold kindAt at h
  split at h
  · cases h
  · rw [if_neg (by omega)] at h
    split at h
    · rename_i h1; simpa using h1
    · split at h
      · cases h
      · split at h
        · cases h
        · split at h <;> cases h
theorem scan_gap {l : List Part} (hs : Small l) {frm e : Nat} (he : e ≤ l.length) (h : ∀ i, frm < i → i < e → kindAt l i = 0) : ∀ n, frm + n ≤ e → (scan l frm n).1 ≤ 2
  | 0, _ => by simp [scan]
  | 1, _ => by have := scan_bd hs frm 1; omega
  | n + 2, hn => by
    have ih := scan_gap hs he h (n + 1) (by omega)
    have hk := kind0 (h (frm + (n + 1)) (by omega) (by omega)) (by omega)
    unfold scan
    rcases hk with hk | hk
    · rw [if_pos hk]; exact ih
    · split
      · exact ih
      · simp only
        first
          | exact ih
          | (rw [if_pos hk]; exact ih)
theorem plcs_le {l : List Part} {k i : Nat} (h : i < (plcs l k).length) : (plcs l k).getD i 0 < k ∧ 0 < (plcs l k).getD i 0 ∧ kindAt l ((plcs l k).getD i 0) ≠ 0 := plcs_mem.1 (getD_mem h)
theorem posn_le {l : List Part} {k : Nat} (h : k ≤ (plcs l (l.length + 1)).length) : posn (plcs l (l.length + 1)) k ≤ l.length := by
  unfold posn
  split
  · omega
  · have := plcs_le (l := l) (k := l.length + 1) (i := k - 1) (by omega); omega
theorem posn_lt {l : List Part} {k : Nat} (h : k < (plcs l (l.length + 1)).length) : posn (plcs l (l.length + 1)) k < (plcs l (l.length + 1)).getD k 0 := by
  unfold posn
  split
  · rename_i h0; subst h0; exact (plcs_le h).2.1
  · exact sorted_lt (plcs_sorted _ _) (by omega) h
theorem posn_succ (P : List Nat) (k : Nat) : posn P (k + 1) = P.getD k 0 := by simp [posn]
theorem full_place {l : List Part} (hs : Small l) {k : Nat} (hk : k < (plcs l (l.length + 1)).length) : fullTo l (plcs l (l.length + 1)) k ((plcs l (l.length + 1)).getD k 0) ≤ 2 := by
  have h1 := plcs_le hk
  have h2 := posn_lt hk
  exact scan_gap (e := (plcs l (l.length + 1)).getD k 0) hs (by omega) (fun i hi hj => gap (Nat.le_of_lt hk) hi (fun _ => hj) (by omega)) _ (by omega)
theorem full_end {l : List Part} (hs : Small l) : fullTo l (plcs l (l.length + 1)) (plcs l (l.length + 1)).length l.length ≤ 2 := by
  have := posn_le (l := l) (Nat.le_refl _)
  exact scan_gap (e := l.length) hs (Nat.le_refl _) (fun i hi hj => gap (Nat.le_refl _) hi (fun h => by omega) (by omega)) _ (by omega)
theorem better_ok {w acc : Bst} (hw : w.ok = true) : (better w acc).ok = true := by
  unfold better
  split
  · exact hw
  · rename_i h
    unfold before at h
    split at h
    · exact absurd rfl h
    · simp_all
theorem endly_ok {l : List Part} {P : List Nat} {width : Int} {k : Nat} {acc : Bst} (h : acc.ok = true ∨ fullTo l P k l.length ≤ width) : (endly l P width k acc).ok = true := by
  unfold endly
  split
  · exact better_ok rfl
  · rename_i h1; exact h.resolve_right h1
theorem inn_ok {l : List Part} {P : List Nat} {width : Int} {ws : List Bst} {k : Nat} : ∀ (f n : Nat) {acc : Bst}, acc.ok = true → (inn l P width ws k f n acc).ok = true
  | 0, n, acc, h => endly_ok (.inl h)
  | f + 1, n, acc, h => by
    have hb := better_ok (w := cand l P width ws k n) (acc := acc) rfl
    simp only [inn]
    split
    · split
      · split
        · split
          · exact hb
          · exact inn_ok f (n + 1) hb
        · split
          · exact h
          · exact inn_ok f (n + 1) h
      · exact h
    · exact endly_ok (.inl h)
theorem tab_ok {l : List Part} {width : Int} (hs : Small l) (hw : 2 ≤ width) : ∀ c j, c ≤ (plcs l (l.length + 1)).length + 1 → (plcs l (l.length + 1)).length + 1 ≤ c + j → j ≤ (plcs l (l.length + 1)).length → ((tab l (plcs l (l.length + 1)) width c).getD j zB).ok = true
  | 0, j, _, h, hj => by omega
  | c + 1, j, hc, h, hjl => by
    have hlen := tab_len l (plcs l (l.length + 1)) width c
    by_cases hj : j = (plcs l (l.length + 1)).length - c
    · have e : (tab l (plcs l (l.length + 1)) width (c + 1)).getD j zB = inner l (plcs l (l.length + 1)) width (tab l (plcs l (l.length + 1)) width c) j j zB := by
        simp only [tab, ← hj]
        exact getD_set_eq _ _ _ _ (by omega)
      rw [e]
      by_cases hlt : j < (plcs l (l.length + 1)).length
      · rw [inner_step hlt, if_pos (Int.le_trans (full_place hs hlt) hw), if_pos (tab_ok hs hw c (j + 1) (by omega) (by omega) (by omega))]
        have hb := better_ok (w := cand l (plcs l (l.length + 1)) width (tab l (plcs l (l.length + 1)) width c) j j) (acc := zB) rfl
        split
        · exact hb
        · exact inn_ok _ _ hb
      · rw [inner_end hlt]
        have : j = (plcs l (l.length + 1)).length := by omega
        subst this
        exact endly_ok (.inr (Int.le_trans (full_end hs) hw))
    · have e : (tab l (plcs l (l.length + 1)) width (c + 1)).getD j zB = (tab l (plcs l (l.length + 1)) width c).getD j zB := by
        simp only [tab]
        exact getD_set_ne _ _ _ _ _ (by omega)
      rw [e]
      exact tab_ok hs hw c j (by omega) (by omega) hjl
def wayGo (ws : List Bst) : Nat → Int → List Nat
  | 0, _ => []
  | f + 1, n => if 0 ≤ n then n.toNat :: wayGo ws f (ws.getD (n + 1).toNat zB).next else []
def far (N : Nat) (n : Int) : Nat := if 0 ≤ n then N - n.toNat else 0
def wayOf (N : Nat) (ws : List Bst) (n : Int) : List Nat := wayGo ws (far N n) n
structure Nx (N : Nat) (ws : List Bst) (n : Int) : Prop where
  out : n = -1 ∨ ∃ m : Nat, n = m ∧ m < N ∧ (ws.getD (m + 1) zB).ok = true
theorem wayGo_fuel {N : Nat} {ws : List Bst} (hg : ∀ j, Gd N ws j (ws.getD j zB)) : ∀ (f f' : Nat) (n : Int), Nx N ws n → far N n ≤ f → far N n ≤ f' → wayGo ws f n = wayGo ws f' n
  | 0, 0, _, _, _, _ => rfl
  | 0, f' + 1, n, hn, h, _ => by
    simp only [wayGo]
    rcases hn.out with rfl | ⟨m, rfl, hm, _⟩
    · simp
    · unfold far at h; rw [if_pos (by omega)] at h; omega
  | f + 1, 0, n, hn, _, h => by
    simp only [wayGo]
    rcases hn.out with rfl | ⟨m, rfl, hm, _⟩
    · simp
    · unfold far at h; rw [if_pos (by omega)] at h; omega
  | f + 1, f' + 1, n, hn, h, h' => by
    simp only [wayGo]
    split
    · rcases hn.out with rfl | ⟨m, rfl, hm, hok⟩
      · omega
      · have e : ((m : Int) + 1).toNat = m + 1 := by omega
        rw [e]
        have hx := (hg (m + 1)).nx hok
        have hx2 : Nx N ws (ws.getD (m + 1) zB).next := ⟨hx.imp (fun h => h) fun ⟨n, h1, h2, h3, h4⟩ => ⟨n, h1, h3, h4⟩⟩
        have hfar : far N (ws.getD (m + 1) zB).next + 1 ≤ far N (m : Int) := by
          have e1 : far N (m : Int) = N - m := by unfold far; rw [if_pos (by omega)]; omega
          rw [e1]
          rcases hx with hx | ⟨n, h1, h2, h3, _⟩
          · rw [hx]; unfold far; simp; omega
          · rw [h1]; unfold far; rw [if_pos (by omega)]; omega
        rw [wayGo_fuel hg f f' _ hx2 (by omega) (by omega)]
    · rfl
theorem Nx.next {N : Nat} {ws : List Bst} {m : Nat} (hg : ∀ j, Gd N ws j (ws.getD j zB)) (hok : (ws.getD (m + 1) zB).ok = true) (hm : m < N) : Nx N ws (ws.getD (m + 1) zB).next ∧ far N (ws.getD (m + 1) zB).next < far N (m : Int) := by
  have hx := (hg (m + 1)).nx hok
  refine ⟨⟨hx.imp (fun h => h) fun ⟨n, h1, h2, h3, h4⟩ => ⟨n, h1, h3, h4⟩⟩, ?_⟩
  have e1 : far N (m : Int) = N - m := by unfold far; rw [if_pos (by omega)]; omega
  rw [e1]
  rcases hx with hx | ⟨n, h1, h2, h3, _⟩
  · rw [hx]; unfold far; simp; omega
  · rw [h1]; unfold far; rw [if_pos (by omega)]; omega
theorem wayOf_step {N : Nat} {ws : List Bst} {m : Nat} (hg : ∀ j, Gd N ws j (ws.getD j zB)) (hok : (ws.getD (m + 1) zB).ok = true) (hm : m < N) : wayOf N ws (m : Int) = m :: wayOf N ws (ws.getD (m + 1) zB).next := by
  obtain ⟨h1, h2⟩ := Nx.next hg hok hm
  unfold wayOf
  obtain ⟨f, hf⟩ : ∃ f, far N (m : Int) = f + 1 := ⟨far N (m : Int) - 1, by omega⟩
  rw [hf]
  have e : ((m : Int) + 1).toNat = m + 1 := by omega
  simp only [wayGo, e]
  rw [if_pos (by omega), wayGo_fuel hg f (far N (ws.getD (m + 1) zB).next) _ h1 (by omega) (Nat.le_refl _)]
  simp
theorem wayOf_end (N : Nat) (ws : List Bst) {n : Int} (h : n < 0) : wayOf N ws n = [] := by
  unfold wayOf far
  rw [if_neg (by omega)]
  rfl
def tabOf (l : List Part) (width : Int) : List Bst := tab l (plcs l (l.length + 1)) width ((plcs l (l.length + 1)).length + 1)
def wayL (l : List Part) (width : Int) : List Nat := wayOf (plcs l (l.length + 1)).length (tabOf l width) ((tabOf l width).getD 0 zB).next
def wrapOut (l : List Part) (width : Int) : List (Int × Int) := (wayL l width).map fun n => (outL l (l.length + 1)).getD n (0, 0)
theorem tabOf_gd {l : List Part} {width : Int} (hs : Small l) (hw : width ≤ 200) (j : Nat) : Gd (plcs l (l.length + 1)).length (tabOf l width) j ((tabOf l width).getD j zB) := tab_gd hs hw _ j (Nat.le_refl _) (by omega)
theorem tabOf_ok {l : List Part} {width : Int} (hs : Small l) (hw : 2 ≤ width) {j : Nat} (hj : j ≤ (plcs l (l.length + 1)).length) : ((tabOf l width).getD j zB).ok = true := tab_ok hs hw _ j (Nat.le_refl _) (by omega) hj
end Go.SX.Plain
/- Contracts of wrap's check, before. -/
namespace Go.SX.Tryz
open Go.Proofs Go.Proofs.Tryz Go.SX.Plain
set_option maxRecDepth 100000
set_option maxHeartbeats 0
set_option linter.unusedSimpArgs false
theorem q_before : fact 31 f31 := ⟨by kernel_rfl, rfl, by kernel_rfl⟩
theorem q_check : fact 27 f27 := ⟨by kernel_rfl, rfl, by kernel_rfl⟩
abbrev bAV (b : Bst) : List AV := [.v (.int .i64 b.bad), .v (.int .i64 b.places), .v (.int .i64 b.next), .sb b.ok]
theorem con_before : Con prog 31 (fun ((a, b) : Bst × Bst) => [.agg (bAV a), .agg (bAV b)]) (fun (a, b) => .sb (before a b)) (fun _ => True) := by
  refine Con.of (by kernel_rfl) T_ok CdsOK.nil .nil 2 [] q_before.1 q_before.2.1 q_before.2.2 (fun _ => rfl) fun i _ => ?_
  obtain ⟨⟨a1, a2, a3, a4⟩, ⟨b1, b2, b3, b4⟩⟩ := i
  repeat' (first | (with_reducible first | refine And.intro ?_ ?_ | intro _ | exact True.intro) | ((with_reducible first | refine LeF.chk ?_ | refine Run.mk ?_); (conv => whnf)))
  all_goals simp_all [before]
theorem con_check : Con prog 27 (fun ((s, w) : ByteArray × Int) => [.v (.string s), .v (.int .i64 w)]) (fun (s, w) => .v (.int .i64 (checkN s.size w))) (fun _ => True) := by
  refine Con.of (by kernel_rfl) T_ok CdsOK.nil .nil 2 [] q_check.1 q_check.2.1 q_check.2.2 (fun _ => rfl) fun i _ => ?_
  obtain ⟨s, w⟩ := i
  repeat' (first | (with_reducible first | exact fun h => h | refine And.intro ?_ ?_ | intro _ | exact True.intro) | ((with_reducible first | refine LeF.chk ?_ | refine Run.mk ?_); (conv => whnf)))
  all_goals simp only [Bool.or_eq_true, Bool.or_eq_false_iff, decide_eq_true_eq, decide_eq_false_iff_not, Bool.not_eq_true'] at *
  all_goals first
    | assumption
    | (unfold checkN; repeat' split) <;> omega
end Go.SX.Tryz
/- What is known of a text's parts, plainly. No program here. -/
namespace Go.SX.Plain
theorem signOut_len (b : Bool) (g : Grp) (r : Int) : (signOut b g r).length ≤ if b = true then 1 else 0 := by
  unfold signOut
  split
  · rename_i h; simp [h.1]
  · simp
theorem restGo_len (s : ByteArray) : ∀ (k pos : Nat) (a w : Int) (b : Bool) (g : Grp), s.size - pos ≤ k → (restGo s k pos a w b g).length ≤ (s.size - pos) + (if 0 < pos then 1 else 0) + (if b = true then 1 else 0)
  | 0, pos, a, w, b, g, h => by
    have := signOut_len b g w
    simp only [restGo]
    split
    · simp
    · simp only [List.length_append, List.length_cons, List.length_nil]
      rw [if_pos (show 0 < pos by omega)]
      omega
  | k + 1, pos, a, w, b, g, h => by
    have ho := signOut_len b g w
    have hw := width_pos s pos
    simp only [restGo]
    split
    · split
      · rename_i h1 h2
        have ih := restGo_len s k (pos + (Utf8.decode s pos).2) pos (Utf8.decode s pos).1 true (signGrp b g a w pos) (by omega)
        rw [if_pos (by omega), if_pos rfl] at ih
        simp only [List.length_append]
        omega
      · rename_i h1 h2
        have ih := restGo_len s k (pos + (Utf8.decode s pos).2) pos (Utf8.decode s pos).1 b g (by omega)
        rw [if_pos (by omega)] at ih
        omega
    · split
      · simp
      · simp only [List.length_append, List.length_cons, List.length_nil]
        rw [if_pos (show 0 < pos by omega)]
        omega
theorem parts_len (s : ByteArray) : (parts s).length ≤ s.size := by
  have := restGo_len s s.size 0 0 0 false Grp.zero (by omega)
  simp only [parts, clusters, rest, List.length_map]
  simpa using this
def Sm (c : Clu) : Prop := 0 ≤ c.cells ∧ c.cells ≤ 2
theorem widthI_bd (r : Int) : 0 ≤ widthI r ∧ widthI r ≤ 2 := by
  unfold widthI
  split
  · simp
  · split <;> simp
theorem addG_sm {g : Grp} (h : Sm g.c) (r n : Int) : Sm (addG g r n).c := by
  have := widthI_bd r
  unfold addG
  split
  · exact this
  · split
    · exact ⟨by simp, by simp⟩
    · exact h
theorem preG_sm {b : Bool} {g : Grp} (h : Sm g.c) (a w : Int) : Sm (preG b g a w).c := by
  unfold preG
  split
  · exact ⟨by simp, by simp⟩
  · exact h
theorem signOut_sm {b : Bool} {g : Grp} (h : Sm g.c) (w : Int) : ∀ c ∈ signOut b g w, Sm c := by
  unfold signOut
  split
  · intro c hc; simp at hc; subst hc; exact h
  · intro c hc; cases hc
theorem restGo_sm (s : ByteArray) : ∀ (k pos : Nat) (a w : Int) (b : Bool) (g : Grp), Sm g.c → ∀ c ∈ restGo s k pos a w b g, Sm c
  | 0, pos, a, w, b, g, h => by
    simp only [restGo]
    split
    · intro c hc; cases hc
    · intro c hc
      rcases List.mem_append.1 hc with h1 | h1
      · exact signOut_sm h w c h1
      · simp at h1; subst h1; rw [signGrp_eq]; exact addG_sm (preG_sm h _ _) _ _
  | k + 1, pos, a, w, b, g, h => by
    have hs : Sm (signGrp b g a w pos).c := by rw [signGrp_eq]; exact addG_sm (preG_sm h _ _) _ _
    simp only [restGo]
    split
    · split
      · intro c hc
        rcases List.mem_append.1 hc with h1 | h1
        · exact signOut_sm h w c h1
        · exact restGo_sm s k _ _ _ _ _ hs c h1
      · exact restGo_sm s k _ _ _ _ _ h
    · split
      · intro c hc; cases hc
      · intro c hc
        rcases List.mem_append.1 hc with h1 | h1
        · exact signOut_sm h w c h1
        · simp at h1; subst h1; rw [signGrp_eq]; exact addG_sm (preG_sm h _ _) _ _
theorem parts_small (s : ByteArray) : Small (parts s) := by
  intro p hp
  simp only [parts, clusters, rest] at hp
  obtain ⟨c, hc, rfl⟩ := List.mem_map.1 hp
  exact restGo_sm s _ _ _ _ _ Grp.zero ⟨by simp [Grp.zero], by simp [Grp.zero]⟩ c hc
theorem atL_getD (l : List Part) (k i : Nat) : (atL l k).getD i 0 = ((plcs l k).getD i 0 : Nat) := by
  simp only [atL, List.getD_eq_getElem?_getD, List.getElem?_map]
  cases (plcs l k)[i]? <;> simp
theorem outL_getD {l : List Part} {k i : Nat} (h : i < (plcs l k).length) : (outL l k).getD i (0, 0) = ((l.getD ((plcs l k).getD i 0 - 1) dPart).c.to, kindAt l ((plcs l k).getD i 0)) := by
  simp [outL, List.getD_eq_getElem?_getD, h]
theorem atL_length (l : List Part) (k : Nat) : (atL l k).length = (plcs l k).length := by simp [atL]
theorem outL_length (l : List Part) (k : Nat) : (outL l k).length = (plcs l k).length := by simp [outL]
theorem tab_zero (l : List Part) (P : List Nat) (width : Int) : ∀ c j, j + c < P.length + 1 → (tab l P width c).getD j zB = zB
  | 0, j, _ => by
    simp only [tab, List.getD_eq_getElem?_getD, List.getElem?_replicate]; split <;> rfl
  | c + 1, j, h => by
    simp only [tab]
    rw [getD_set_ne _ _ _ _ _ (by omega)]
    exact tab_zero l P width c j (by omega)
theorem tab_set0 (l : List Part) (P : List Nat) (width : Int) {c k : Nat} (h : k + c < P.length + 1) : (tab l P width c).set k zB = tab l P width c := by
  have h1 := tab_zero l P width c k h
  have hl := tab_len l P width c
  apply List.ext_getElem
  · simp
  · intro i h2 h3
    by_cases hi : k = i
    · subst hi
      rw [List.getElem_set_self]
      have : (tab l P width c)[k]? = some (tab l P width c)[k] := List.getElem?_eq_getElem h3
      rw [List.getD_eq_getElem?_getD, this] at h1
      exact h1.symm
    · rw [List.getElem_set_ne hi]
theorem scan_fin {l : List Part} {frm j : Nat} (h : frm ≤ j) (hf : (l.getD j dPart).fin = true) : scan l frm (j + 1 - frm) = scan l frm (j - frm) := by
  rw [show j + 1 - frm = (j - frm) + 1 by omega]
  simp only [scan]
  rw [show frm + (j - frm) = j by omega, if_pos hf]
theorem scan_blank {l : List Part} {frm j : Nat} (h : frm ≤ j) (hf : (l.getD j dPart).fin = false) (hb : (l.getD j dPart).blank = true) : scan l frm (j + 1 - frm) = ((scan l frm (j - frm)).1, (scan l frm (j - frm)).2 + (l.getD j dPart).c.cells) := by
  rw [show j + 1 - frm = (j - frm) + 1 by omega]
  simp only [scan]
  rw [show frm + (j - frm) = j by omega, if_neg (by rw [hf]; exact Bool.false_ne_true), if_pos hb]
theorem scan_ink {l : List Part} {frm j : Nat} (h : frm ≤ j) (hf : (l.getD j dPart).fin = false) (hb : (l.getD j dPart).blank = false) : scan l frm (j + 1 - frm) = ((scan l frm (j - frm)).2 + (l.getD j dPart).c.cells, (scan l frm (j - frm)).2 + (l.getD j dPart).c.cells) := by
  rw [show j + 1 - frm = (j - frm) + 1 by omega]
  simp only [scan]
  rw [show frm + (j - frm) = j by omega, if_neg (by rw [hf]; exact Bool.false_ne_true), if_neg (by rw [hb]; exact Bool.false_ne_true)]
theorem posn_mono {l : List Part} {k n : Nat} (h : k ≤ n) (hn : n ≤ (plcs l (l.length + 1)).length) : posn (plcs l (l.length + 1)) k ≤ posn (plcs l (l.length + 1)) n := by
  have hs := plcs_sorted l (l.length + 1)
  unfold posn
  split
  · omega
  · rw [if_neg (by omega)]
    by_cases he : k = n
    · rw [he]; exact Nat.le_refl _
    · exact Nat.le_of_lt (sorted_lt hs (by omega) (by omega))
theorem fullTo_eq (l : List Part) (P : List Nat) (k e : Nat) : (scan l (posn P k) (e - posn P k)).1 = fullTo l P k e := rfl
section
variable {l : List Part} {P : List Nat} {width : Int} {ws : List Bst} {k n : Nat} {acc : Bst}
theorem inner_full (h : n < P.length) (hf : ¬ fullTo l P k (P.getD n 0) ≤ width) : inner l P width ws k n acc = acc := by
  rw [inner_step h, if_neg hf]
theorem inner_no_hard (h : n < P.length) (hf : fullTo l P k (P.getD n 0) ≤ width) (hok : (ws.getD (n + 1) zB).ok = false) (hk : kindAt l (P.getD n 0) = 1) : inner l P width ws k n acc = acc := by
  rw [inner_step h, if_pos hf, if_neg (by rw [hok]; exact Bool.false_ne_true), if_pos hk]
theorem inner_no (h : n < P.length) (hf : fullTo l P k (P.getD n 0) ≤ width) (hok : (ws.getD (n + 1) zB).ok = false) (hk : ¬ kindAt l (P.getD n 0) = 1) : inner l P width ws k n acc = inner l P width ws k (n + 1) acc := by
  rw [inner_step h, if_pos hf, if_neg (by rw [hok]; exact Bool.false_ne_true), if_neg hk]
theorem inner_hard (h : n < P.length) (hf : fullTo l P k (P.getD n 0) ≤ width) (hok : (ws.getD (n + 1) zB).ok = true) (hk : kindAt l (P.getD n 0) = 1) : inner l P width ws k n acc = better (cand l P width ws k n) acc := by
  rw [inner_step h, if_pos hf, if_pos hok, if_pos hk]
theorem inner_on (h : n < P.length) (hf : fullTo l P k (P.getD n 0) ≤ width) (hok : (ws.getD (n + 1) zB).ok = true) (hk : ¬ kindAt l (P.getD n 0) = 1) : inner l P width ws k n acc = inner l P width ws k (n + 1) (better (cand l P width ws k n) acc) := by
  rw [inner_step h, if_pos hf, if_pos hok, if_neg hk]
theorem better_1 {w acc : Bst} (h : before w acc = true) : better w acc = w := by unfold better; rw [if_pos h]
theorem better_0 {w acc : Bst} (h : before w acc = false) : better w acc = acc := by unfold better; rw [if_neg (by rw [h]; exact Bool.false_ne_true)]
theorem cand_cut (h : kindAt l (P.getD n 0) = 3) : cand l P width ws k n = ⟨(width - fullTo l P k (P.getD n 0)) * (width - fullTo l P k (P.getD n 0)) + (ws.getD (n + 1) zB).bad + 1048576, (ws.getD (n + 1) zB).places + 1, n, true⟩ := by
  unfold cand; rw [if_pos h]
theorem cand_not (h : ¬ kindAt l (P.getD n 0) = 3) : cand l P width ws k n = ⟨(width - fullTo l P k (P.getD n 0)) * (width - fullTo l P k (P.getD n 0)) + (ws.getD (n + 1) zB).bad, (ws.getD (n + 1) zB).places + 1, n, true⟩ := by
  unfold cand; rw [if_neg h, Int.add_zero]
def nextAcc (l : List Part) (P : List Nat) (width : Int) (ws : List Bst) (k n : Nat) (acc : Bst) : Bst := if (ws.getD (n + 1) zB).ok = true then better (cand l P width ws k n) acc else acc
theorem nextAcc_no (hok : (ws.getD (n + 1) zB).ok = false) : nextAcc l P width ws k n acc = acc := by unfold nextAcc; rw [if_neg (by rw [hok]; exact Bool.false_ne_true)]
theorem nextAcc_yes (hok : (ws.getD (n + 1) zB).ok = true) : nextAcc l P width ws k n acc = better (cand l P width ws k n) acc := by unfold nextAcc; rw [if_pos hok]
theorem inner_next (h : n < P.length) (hf : fullTo l P k (P.getD n 0) ≤ width) (hk : ¬ kindAt l (P.getD n 0) = 1) : inner l P width ws k n acc = inner l P width ws k (n + 1) (nextAcc l P width ws k n acc) := by
  cases hok : (ws.getD (n + 1) zB).ok with
  | true => rw [nextAcc_yes hok, inner_on h hf hok hk]
  | false => rw [nextAcc_no hok, inner_no h hf hok hk]
theorem inner_stop (h : n < P.length) (hf : fullTo l P k (P.getD n 0) ≤ width) (hk : kindAt l (P.getD n 0) = 1) : inner l P width ws k n acc = nextAcc l P width ws k n acc := by
  cases hok : (ws.getD (n + 1) zB).ok with
  | true => rw [nextAcc_yes hok, inner_hard h hf hok hk]
  | false => rw [nextAcc_no hok, inner_no_hard h hf hok hk]
theorem Gd.next (hs : Small l) (hw : width ≤ 200) (hk : k ≤ n) (hn : n < P.length) (hf : fullTo l P k (P.getD n 0) ≤ width) (ho : Gd P.length ws (n + 1) (ws.getD (n + 1) zB)) (ha : Gd P.length ws k acc) : Gd P.length ws k (nextAcc l P width ws k n acc) := by
  unfold nextAcc
  split
  · rename_i hok
    exact Gd.better (Gd.cand hs hw hf hk hn ho hok) ha
  · exact ha
theorem endly_no (h : ¬ fullTo l P k l.length ≤ width) : endly l P width k acc = acc := by unfold endly; rw [if_neg h]
theorem endly_yes (h : fullTo l P k l.length ≤ width) : endly l P width k acc = better ⟨(width - fullTo l P k l.length) * (width - fullTo l P k l.length), 0, -1, true⟩ acc := by unfold endly; rw [if_pos h]
theorem tab_succ {c : Nat} (hk : k = P.length - c) : tab l P width (c + 1) = (tab l P width c).set k (inner l P width (tab l P width c) k k zB) := by subst hk; rfl
end
theorem wayGo_len (ws : List Bst) : ∀ (f : Nat) (n : Int), (wayGo ws f n).length ≤ f
  | 0, _ => by simp [wayGo]
  | f + 1, n => by
    simp only [wayGo]
    split
    · have := wayGo_len ws f (ws.getD (n + 1).toNat zB).next
      simp only [List.length_cons]; omega
    · simp
theorem wrapOut_len (l : List Part) (width : Int) : (wrapOut l width).length ≤ (plcs l (l.length + 1)).length := by
  simp only [wrapOut, wayL, wayOf, List.length_map]
  refine Nat.le_trans (wayGo_len _ _ _) ?_
  unfold far
  split <;> omega
end Go.SX.Plain
