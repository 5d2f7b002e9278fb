/- A verified symbolic executor for Go code in the model, contracts and plain laws that the proofs lean on, BC5. -/
import Derived.Test.YtjbegcohbfglpaaBC4
set_option linter.unusedVariables false
set_option linter.unusedSimpArgs false
/- Chapter 7, told plainly: runs. No program here. -/
namespace Go.SX.Plain
structure Rn where
  frm : Int
  to : Int
  at' : Atr
  deriving DecidableEq
abbrev zRn : Rn := ⟨0, 0, zA⟩
def rnNext (o : List Rn) (i : Nat) (a : Atr) : List Rn :=
  if 0 < o.length ∧ (o.getD (o.length - 1) zRn).at' = a then o.set (o.length - 1) ⟨(o.getD (o.length - 1) zRn).frm, (i : Int) + 1, (o.getD (o.length - 1) zRn).at'⟩ else o ++ [⟨i, (i : Int) + 1, a⟩]
def runsTo (l : List Atr) : Nat → List Rn
  | 0 => []
  | i + 1 => rnNext (runsTo l i) i (l.getD i zA)
def runsL (l : List Atr) : List Rn := runsTo l l.length
end Go.SX.Plain
namespace Go.SX.Plain
def atEqB (x y : Atr) : Bool := x.bold == y.bold && (x.italic == y.italic && (x.under == y.under && (x.strike == y.strike && x.colour == y.colour)))
end Go.SX.Plain
namespace Go.SX.Plain
def InAt (l : List Spn) (j : Int) (o : Option Spn) : Prop := (j = -1 ∧ o = none) ∨ (0 ≤ j ∧ j < l.length ∧ o = some (l.getD j.toNat zS))
theorem InAt.no {l : List Spn} {j : Int} {a : Atr} {o : Option Spn} {x : Spn} (h : InAt l j o) (h0 : ¬ j < 0) (hw : withinB x (l.getD j.toNat zS) = false) : colS a o x = (a, o) := by
  rcases h with ⟨h1, _⟩ | ⟨h1, h2, rfl⟩
  · omega
  · show (if _ then _ else _) = _
    rw [if_neg (by rw [hw]; decide)]
end Go.SX.Plain
/- Signs of two texts behind one another: where they melt; how long signs are. No program here. -/
namespace Go.SX.Plain
def overB (a b : ByteArray) (p : Nat) : Bool := decide (p < a.size) && decide (a.size < p + (Utf8.decode (a ++ b) p).2)
def meltFrom (a b : ByteArray) (pos : Nat) : Bool := (signsFrom (a ++ b) pos).any fun p => overB a b p.1
def meltB (a b : ByteArray) : Bool := meltFrom a b 0
def shf (n : Nat) (x : Sgn) : Sgn := ⟨x.at + n, x.len, x.rune, x.bad⟩
def sgnsF (s : ByteArray) (pos : Nat) : List Sgn := (signsFrom s pos).map fun p => sgnAt s p.1
def runeLenI (r : Int) : Int := if r < 0 then -1 else if r ≤ 127 then 1 else if r ≤ 2047 then 2 else if 55296 ≤ r ∧ r ≤ 57343 then -1 else if r ≤ 65535 then 3 else if r ≤ 1114111 then 4 else -1
theorem dec_len (s : ByteArray) (i : Nat) : Utf8.decode s i = (65533, 1) ∨ (runeLenI ((Utf8.decode s i).1 : Nat) = ((Utf8.decode s i).2 : Nat) ∧ (((Utf8.decode s i).1 : Nat) : Int) ≤ 1114111) := by
  rcases longI_cases (bt s i) with h | h | h
  · exact .inl (dec_0 h)
  · right
    have hb := bt_bd s i
    have h0 : bt s i < 128 := by
      unfold longI at h
      repeat' split at h
      all_goals omega
    rw [dec_1 h]
    simp only
    rw [Int.toNat_of_nonneg hb.1]
    unfold runeLenI
    refine ⟨?_, by omega⟩
    rw [if_neg (by omega), if_pos (by omega)]
    rfl
  · by_cases h2 : i + 1 < s.size ∧ secondB (bt s i) (bt s (i + 1)) = true
    · obtain ⟨a1, a2, a3, a4, a5, a6⟩ := second_yes h2.2
      rcases h with h | h | h
      · right
        have h0 : 194 ≤ bt s i ∧ bt s i ≤ 223 := by
          unfold longI at h
          repeat' split at h
          all_goals omega
        obtain ⟨hd, b1, b2⟩ := dec_2 h h2.1 h2.2
        rw [hd]
        simp only
        rw [Int.toNat_of_nonneg b1]
        unfold runeLenI
        refine ⟨?_, by omega⟩
        rw [if_neg (by omega), if_neg (by omega), if_pos (by omega)]
        rfl
      · by_cases m2 : moreB s (i + 2) = true
        · right
          have h0 : 224 ≤ bt s i ∧ bt s i ≤ 239 := by
            unfold longI at h
            repeat' split at h
            all_goals omega
          obtain ⟨c1, c2, c3⟩ := moreB_yes m2
          obtain ⟨hd, b1, b2⟩ := dec_3 h h2.1 h2.2 m2
          rw [hd]
          simp only
          rw [Int.toNat_of_nonneg b1]
          unfold runeLenI
          refine ⟨?_, by omega⟩
          rw [if_neg (by omega), if_neg (by omega), if_neg (by omega), if_neg (by omega), if_pos (by omega)]
          rfl
        · exact .inl (more_no2 (by omega) (by simpa using m2))
      · by_cases m2 : moreB s (i + 2) = true
        · by_cases m3 : moreB s (i + 3) = true
          · right
            have h0 : 240 ≤ bt s i ∧ bt s i ≤ 244 := by
              unfold longI at h
              repeat' split at h
              all_goals omega
            obtain ⟨c1, c2, c3⟩ := moreB_yes m2
            obtain ⟨d1, d2, d3⟩ := moreB_yes m3
            obtain ⟨hd, b1, b2⟩ := dec_4 h h2.1 h2.2 m2 m3
            rw [hd]
            simp only
            rw [Int.toNat_of_nonneg b1]
            unfold runeLenI
            refine ⟨?_, by omega⟩
            rw [if_neg (by omega), if_neg (by omega), if_neg (by omega), if_neg (by omega), if_neg (by omega), if_pos (by omega)]
            rfl
          · exact .inl (more_no3 (by omega) (by simpa using m3))
        · exact .inl (more_no2 (by omega) (by simpa using m2))
    · exact .inl (second_no2 (by omega) h2)
theorem rune_max (s : ByteArray) (i : Nat) : (((Utf8.decode s i).1 : Nat) : Int) ≤ 1114111 := by
  rcases dec_len s i with h | h
  · rw [h]; decide
  · exact h.2
theorem dec_good {s : ByteArray} {i : Nat} (h : ¬ ((Utf8.decode s i).1 : Int) = 65533) : runeLenI ((Utf8.decode s i).1 : Nat) = ((Utf8.decode s i).2 : Nat) := by
  rcases dec_len s i with h1 | h1
  · rw [h1] at h; exact absurd rfl h
  · exact h1.1
theorem dec_bad {s : ByteArray} {i : Nat} (h : ((Utf8.decode s i).1 : Int) = 65533) : (Utf8.decode s i).2 = 1 ∨ (Utf8.decode s i).2 = 3 := by
  rcases dec_len s i with h1 | h1
  · rw [h1]; exact .inl rfl
  · right
    have := h1.1
    rw [h] at this
    have h2 : runeLenI 65533 = 3 := by decide
    omega
end Go.SX.Plain
/- Whether three bytes are those of U+FFFD. No program here. -/
namespace Go.SX.Plain
abbrev badL : ByteArray := { data := #[239, 191, 189] }
theorem bt_ext {a b : ByteArray} (h : a.size = b.size) (hb : ∀ i, i < a.size → bt a i = bt b i) : a = b := by
  apply ByteArray.ext
  apply Array.ext
  · exact h
  · intro i h1 h2
    have := hb i h1
    unfold bt at this
    rw [bytesL_get, bytesL_get] at this
    have e1 : a.data.toList.getD i 0 = a.data[i] := by
      simp only [List.getD_eq_getElem?_getD, Array.getElem?_toList]
      rw [getElem?_pos a.data i h1]
      rfl
    have e2 : b.data.toList.getD i 0 = b.data[i] := by
      simp only [List.getD_eq_getElem?_getD, Array.getElem?_toList]
      rw [getElem?_pos b.data i h2]
      rfl
    rw [e1, e2] at this
    exact UInt8.toNat_inj.1 (by omega)
theorem dec_fffd {s : ByteArray} {i : Nat} (h : Utf8.decode s i = (65533, 3)) : bt s i = 239 ∧ bt s (i + 1) = 191 ∧ bt s (i + 2) = 189 := by
  have hne : ∀ {n : Nat}, n ≠ 3 → ∀ {r : Nat}, Utf8.decode s i = (r, n) → False := fun hn r h2 => by
    rw [h] at h2
    exact hn (congrArg Prod.snd h2).symm
  rcases longI_cases (bt s i) with c | c | c
  · exact (hne (by decide) (dec_0 c)).elim
  · exact (hne (by decide) (dec_1 c)).elim
  · by_cases h2 : i + 1 < s.size ∧ secondB (bt s i) (bt s (i + 1)) = true
    · obtain ⟨a1, a2, a3, a4, a5, a6⟩ := second_yes h2.2
      rcases c with c | c | c
      · exact (hne (by decide) (dec_2 c h2.1 h2.2).1).elim
      · by_cases m2 : moreB s (i + 2) = true
        · have h0 : 224 ≤ bt s i ∧ bt s i ≤ 239 := by
            unfold longI at c
            repeat' split at c
            all_goals omega
          obtain ⟨c1, c2, c3⟩ := moreB_yes m2
          obtain ⟨hd, b1, b2⟩ := dec_3 c h2.1 h2.2 m2
          rw [h] at hd
          have := congrArg Prod.fst hd
          simp only at this
          omega
        · exact (hne (by decide) (more_no2 (by omega) (by simpa using m2))).elim
      · by_cases m2 : moreB s (i + 2) = true
        · by_cases m3 : moreB s (i + 3) = true
          · exact (hne (by decide) (dec_4 c h2.1 h2.2 m2 m3).1).elim
          · exact (hne (by decide) (more_no3 (by omega) (by simpa using m3))).elim
        · exact (hne (by decide) (more_no2 (by omega) (by simpa using m2))).elim
    · exact (hne (by decide) (second_no2 (by omega) h2)).elim
theorem pref_iff {s : ByteArray} {pos : Nat} (hp : pos < s.size) (hr : (((Utf8.decode s pos).1 : Nat) : Int) = 65533) :
    (decide ((3 : Int) ≤ ((s.extract pos s.size).size : Int)) && decide ((s.extract pos s.size).extract 0 3 = badL)) = decide ((Utf8.decode s pos).2 = 3) := by
  have ht := decode_extract (s := s) (p := pos) (e := s.size) hp (Nat.le_refl _) (width_le hp)
  have hsz := size_extract' (s := s) (p := pos) (e := s.size) (Nat.le_refl _)
  obtain ⟨t, hte⟩ : ∃ t, t = s.extract pos s.size := ⟨_, rfl⟩
  rw [← hte] at ht hsz ⊢
  rw [← ht] at hr ⊢
  have hwl := width_le (s := t) (pos := 0) (by omega)
  rcases dec_bad hr with h1 | h1
  · rw [h1, Bool.eq_iff_iff]
    simp only [Bool.and_eq_true, decide_eq_true_eq]
    constructor
    · rintro ⟨h2, h3⟩
      have hd := decode_extract (s := t) (p := 0) (e := 3) (by omega) (by omega) (by omega)
      rw [h3] at hd
      have hb : Utf8.decode badL 0 = (65533, 3) := by decide
      rw [hb] at hd
      rw [← hd] at h1
      cases h1
    · intro h
      omega
  · rw [h1, Bool.eq_iff_iff]
    simp only [Bool.and_eq_true, decide_eq_true_eq, iff_true]
    have h3 : 3 ≤ t.size := by omega
    refine ⟨by omega, ?_⟩
    have hd : Utf8.decode t 0 = (65533, 3) := Prod.ext (by simp only; omega) h1
    obtain ⟨c0, c1, c2⟩ := dec_fffd hd
    refine bt_ext (by rw [size_extract' h3]; rfl) fun i hi => ?_
    rw [size_extract' h3] at hi
    rw [bt_extract (by omega) h3, Nat.zero_add]
    obtain rfl | rfl | rfl : i = 0 ∨ i = 1 ∨ i = 2 := by omega
    · rw [c0]; rfl
    · rw [c1]; rfl
    · rw [c2]; rfl
end Go.SX.Plain
namespace Go.SX.Plain
abbrev dSg : Sgn := ⟨0, 0, 0, false⟩
def sgEqB (x y : Sgn) : Bool := x.at == y.at && (x.len == y.len && (x.rune == y.rune && x.bad == y.bad))
def both (a b : ByteArray) : List Sgn := sgns a ++ (sgns b).map (shf a.size)
end Go.SX.Plain
/- Chapter 7, told plainly: splices. No program here. -/
namespace Go.SX.Plain
def bgn (f t n x : Int) : Int := if t ≤ x then x + (n - (t - f)) else if f < x then f + n else x
def eds (f t n x : Int) : Int := if x ≤ f then x else if t ≤ x then x + (n - (t - f)) else f
def mvS (f t n : Int) (x : Spn) : Spn := ⟨bgn f t n x.frm, eds f t n x.to, x.kind, x.val⟩
def shS (k : Int) (x : Spn) : Spn := ⟨x.frm + k, x.to + k, x.kind, x.val⟩
def posB (x : Spn) : Bool := decide (x.frm < x.to)
def outTo (g : Spn → Spn) (l : List Spn) (i : Nat) : List Spn := ((l.take i).map g).filter posB
def shTo (k : Int) (l : List Spn) (i : Nat) : List Spn := (l.take i).map (shS k)
def frontT (s : ByteArray) (f : Int) : ByteArray := s.extract 0 (posS s f.toNat)
def restT (s : ByteArray) (t : Int) : ByteArray := s.extract (posS s t.toNat) s.size
def newT (s : ByteArray) (f t : Int) (s2 : ByteArray) : ByteArray := frontT s f ++ s2 ++ restT s t
def newL (l : List Spn) (f t : Int) (s2 : ByteArray) (l2 : List Spn) : List Spn := outTo (mvS f t (sgN s2 : Nat)) (isort ltO l) (isort ltO l).length ++ shTo f l2 l2.length
def mayB (f t n : Int) : Bool := decide (0 ≤ f) && decide (f ≤ t) && decide (t ≤ n)
def splE (s : ByteArray) (l : List Spn) (f t : Int) (s2 : ByteArray) (l2 : List Spn) : Int :=
  if chkN s.size l (sgN s : Nat) ≠ 0 then chkN s.size l (sgN s : Nat)
  else if chkN s2.size l2 (sgN s2 : Nat) ≠ 0 then chkN s2.size l2 (sgN s2 : Nat)
  else if mayB f t (sgN s : Nat) = false then 1
  else if 4096 < (newT s f t s2).size then 3
  else if meltB (frontT s f) s2 = true ∨ meltB (frontT s f ++ s2) (restT s t) = true then 22
  else if 256 < (newL l f t s2 l2).length then 2
  else 0
def splT (s : ByteArray) (l : List Spn) (f t : Int) (s2 : ByteArray) (l2 : List Spn) : ByteArray := if splE s l f t s2 l2 = 0 then newT s f t s2 else ByteArray.empty
def splL (s : ByteArray) (l : List Spn) (f t : Int) (s2 : ByteArray) (l2 : List Spn) : List Spn := if splE s l f t s2 l2 = 0 then newL l f t s2 l2 else []
end Go.SX.Plain
namespace Go.SX.Plain
section
variable {s : ByteArray} {l : List Spn} {f t : Int} {s2 : ByteArray} {l2 : List Spn}
end
end Go.SX.Plain
namespace Go.SX.Plain
end Go.SX.Plain
/- Plain law: a styled text, broken. -/
namespace Go.SX.Plain
set_option linter.unusedSimpArgs false
def wayP (l : List Part) (width : Int) : List Nat := (wayL l width).map fun m => (plcs l (l.length + 1)).getD m 0
def plA (l : List Part) (i : Nat) : Int := if i = 0 then 0 else (l.getD (i - 1) dPart).c.to
theorem wOk_sorted {l : List Part} : ∀ (Q : List Nat) (k : Nat), wOk l k Q → Q.Pairwise (· < ·) ∧ ∀ n ∈ Q, k ≤ n
  | [], k, h => ⟨.nil, fun n hn => by cases hn⟩
  | n :: Q, k, h => by
    obtain ⟨a1, a2, a3, a4⟩ := h
    obtain ⟨b1, b2⟩ := wOk_sorted Q (n + 1) a4
    refine ⟨List.pairwise_cons.2 ⟨fun m hm => by have := b2 m hm; omega, b1⟩, fun m hm => ?_⟩
    rcases List.mem_cons.1 hm with rfl | hm
    · exact a1
    · have := b2 m hm
      omega
theorem remGo_end (l a : List Int) : ∀ (k f t : Nat), t ≤ l.length → l.length - t ≤ k → ∃ c, (remGo l a k f t).getLast? = some c ∧ c.to = l.length
  | 0, f, t, h1, h2 => ⟨(gAt l a f t).c, rfl, by show (t : Int) = _; omega⟩
  | k + 1, f, t, h1, h2 => by
    simp only [remGo]
    split
    · split
      · exact remGo_end l a k f (t + 1) (by omega) (by omega)
      · obtain ⟨c, hc, ht⟩ := remGo_end l a k t (t + 1) (by omega) (by omega)
        refine ⟨c, ?_, ht⟩
        rw [List.getLast?_cons, hc]
        rfl
    · exact ⟨(gAt l a f t).c, rfl, by show (t : Int) = _; omega⟩
section
variable {s : ByteArray}
theorem parts_c {j : Nat} (hj : j < (parts s).length) : ((parts s).getD j dPart).c = (clusters s).getD j ⟨0, 0, 0, 0, 0⟩ := by
  have hlen : (parts s).length = (clusters s).length := by simp [parts]
  have hj2 : j < (clusters s).length := by omega
  simp [parts, List.getD_eq_getElem?_getD, hj2]
  rfl
theorem plA_end : plA (parts s) (parts s).length = (sgN s : Nat) := by
  have hlen : (parts s).length = (clusters s).length := by simp [parts]
  have hrl : sgN s = (signsFrom s 0).length := rl_len s
  have hcr := clusters_rem s
  by_cases h0 : 0 < (signsFrom s 0).length
  · rw [if_pos h0] at hcr
    obtain ⟨c, hc, ht⟩ := remGo_end (rl s) (al s) ((rl s).length - 1) 0 1 (by have := rl_len s; omega) (Nat.le_refl _)
    have hr : rem (rl s) (al s) 0 1 = remGo (rl s) (al s) ((rl s).length - 1) 0 1 := rfl
    rw [hr] at hcr
    rw [← hcr] at hc
    have hpos : 0 < (clusters s).length := by
      rcases Nat.eq_zero_or_pos (clusters s).length with h | h
      · rw [List.eq_nil_of_length_eq_zero h] at hc; cases hc
      · exact h
    unfold plA
    rw [if_neg (by omega), parts_c (by omega), hlen]
    rw [List.getLast?_eq_getElem?] at hc
    rw [List.getD_eq_getElem?_getD, hc]
    show c.to = _
    rw [ht]
    rfl
  · rw [if_neg h0] at hcr
    have : (parts s).length = 0 := by rw [hlen, hcr]; rfl
    unfold plA
    rw [if_pos this]
    omega
theorem plA_frm {i : Nat} (hi : i < (parts s).length) : ((parts s).getD i dPart).c.frm = plA (parts s) i := by
  unfold plA
  by_cases h : i = 0
  · subst h
    rw [if_pos rfl, parts_c hi]
    have hc := clusters_chn s
    have hlen : (parts s).length = (clusters s).length := by simp [parts]
    cases hcl : clusters s with
    | nil =>
      have : (parts s).length = 0 := by rw [hlen, hcl]; rfl
      omega
    | cons c r =>
      rw [hcl] at hc
      cases hc with
      | cons hx _ => exact hx
  · rw [if_neg h]
    exact parts_chn s (by omega) hi
theorem plA_lt {i j : Nat} (h : i < j) (hj : j ≤ (parts s).length) : plA (parts s) i < plA (parts s) j := by
  unfold plA
  rw [if_neg (show ¬ j = 0 by omega)]
  by_cases h0 : i = 0
  · rw [if_pos h0]
    obtain ⟨f, t, a1, a2, a3, a4, a5, a6⟩ := part_cl s (i := j - 1) (by omega)
    omega
  · rw [if_neg h0]
    exact (parts_mono s).out (i - 1) (j - 1) (by omega) (by omega)
theorem plA_bd {i : Nat} (hi : i ≤ (parts s).length) : 0 ≤ plA (parts s) i ∧ plA (parts s) i ≤ (sgN s : Nat) := by
  constructor
  · by_cases h : i = 0
    · subst h; exact Int.le_refl _
    · have := plA_lt (s := s) (i := 0) (j := i) (by omega) hi
      have h0 : plA (parts s) 0 = 0 := rfl
      omega
  · by_cases h : i = (parts s).length
    · rw [h, plA_end]; exact Int.le_refl _
    · have := plA_lt (s := s) (i := i) (j := (parts s).length) (by omega) (Nat.le_refl _)
      rw [plA_end] at this
      omega
end
structure WayF (s : ByteArray) (width : Int) (W : List Nat) : Prop where
  len : W.length = (wrapOut (parts s) width).length
  brk : ∀ i, i < W.length → (wrapOut (parts s) width).getD i (0, 0) = (plA (parts s) (W.getD i 0), kindAt (parts s) (W.getD i 0))
  pos : ∀ i, i < W.length → 0 < W.getD i 0 ∧ W.getD i 0 ≤ (parts s).length
  rway : rwayL (parts s) width = W.map fun (p : Nat) => (p : Int)
  lines : linesL s (wrapOut (parts s) width) = segs (parts s) W 0
  frto : ∀ i, i ≤ W.length → frO W i ≤ toO (parts s) W i ∧ toO (parts s) W i ≤ (parts s).length
  fin : 0 < (parts s).length → ((parts s).getD ((parts s).length - 1) dPart).fin = true → frO W W.length = (parts s).length
def edF (l : List Part) (W : List Nat) (i : Nat) : Nat := frO W i + trimN (segOf l (frO W i) (toO l W i))
def edT (l : List Part) (W : List Nat) (i : Nat) : Nat := if frO W i < toO l W i ∧ (l.getD (toO l W i - 1) dPart).fin = true then toO l W i - 1 else toO l W i
def edM (l : List Part) (W : List Nat) (i : Nat) : Bool := decide (i < W.length) && decide (kindAt l (W.getD i 0) ≠ 1)
def edK (l : List Part) (W : List Nat) (i : Nat) : Bool := decide (edF l W i = edT l W i) && !edM l W i
def nlB : ByteArray := { data := #[10] }
def edW (l : List Part) (W : List Nat) (i : Nat) : ByteArray := if edM l W i = true then nlB else ByteArray.empty
def txGo (l : List Part) (W : List Nat) : Nat → ByteArray → List Spn → ByteArray × List Spn × Int
  | 0, S, L => (S, L, 0)
  | i + 1, S, L => if edK l W i = true then txGo l W i S L
    else if splE S L (plA l (edF l W i)) (plA l (edT l W i)) (edW l W i) [] ≠ 0 then (ByteArray.empty, [], splE S L (plA l (edF l W i)) (plA l (edT l W i)) (edW l W i) [])
    else txGo l W i (splT S L (plA l (edF l W i)) (plA l (edT l W i)) (edW l W i) []) (splL S L (plA l (edF l W i)) (plA l (edT l W i)) (edW l W i) [])
def txR (s : ByteArray) (l : List Spn) (width : Int) : ByteArray × List Spn × Int :=
  if chkN s.size l (sgN s : Nat) ≠ 0 then (ByteArray.empty, [], chkN s.size l (sgN s : Nat))
  else if checkN s.size width ≠ 0 then (ByteArray.empty, [], checkN s.size width)
  else txGo (parts s) (wayP (parts s) width) ((wayP (parts s) width).length + 1) s l
section
variable {l : List Part} {W : List Nat} {i : Nat} {S : ByteArray} {L : List Spn}
end
end Go.SX.Plain
/- Plain law: what a round of the breaking of a styled text sees. -/
namespace Go.SX.Plain
set_option linter.unusedSimpArgs false
def signP (l : List Pc) (i : Nat) : Int := if l.length = 0 then 0 else placeP l i
section
variable {s : ByteArray} {width : Int} {W : List Nat} {i : Nat}
end
end Go.SX.Plain
/- Plain law: the clusters of a part of a text that begins and ends where clusters do are that part's. -/
namespace Go.SX.Plain
set_option linter.unusedSimpArgs false
theorem decode_in {s : ByteArray} {P E q : Nat} (h : P + q < E) (hE : E ≤ s.size) (hw : P + q + (Utf8.decode s (P + q)).2 ≤ E) : Utf8.decode (s.extract P E) q = Utf8.decode s (P + q) := by
  have hsz := size_extract' (s := s) (p := P) hE
  have h1 := decode_extract (s := s.extract P E) (p := q) (e := (s.extract P E).size) (by omega) (Nat.le_refl _) (width_le (by omega))
  have h2 : (s.extract P E).extract q (s.extract P E).size = s.extract (P + q) E := by
    rw [hsz, ByteArray.extract_extract]
    congr 1
    omega
  rw [← h1, h2]
  exact decode_extract h hE hw
theorem sg_next (s : ByteArray) {j : Nat} (h : j < sgN s) : posS s j < s.size ∧ posS s (j + 1) = posS s j + (Utf8.decode s (posS s j)).2 ∧ (rl s).getD j 0 = ((Utf8.decode s (posS s j)).1 : Int) := by
  obtain ⟨p, h1, h2, h3, h4⟩ := rl_dec s h
  have e1 := al_pos s j
  have e2 := al_pos s (j + 1)
  have hp : posS s j = p := by omega
  exact ⟨by omega, by rw [hp]; omega, by rw [hp]; exact h3⟩
theorem sg_in {s : ByteArray} {f t : Nat} (ht : t ≤ sgN s) (k : Nat) : ∀ j, j + k = t → f ≤ j → signsFrom (s.extract (posS s f) (posS s t)) (posS s j - posS s f) = (List.range' j k).map fun i => (posS s i - posS s f, (Utf8.decode s (posS s i)).1) := by
  induction k with
  | zero =>
    intro j hj hf
    obtain rfl : j = t := by omega
    rw [signsFrom_end (by rw [size_extract' (posS_le s j)]; omega)]
    rfl
  | succ k ih =>
    intro j hj hf
    obtain ⟨h1, h2, h3⟩ := sg_next s (j := j) (by omega)
    have hw := width_pos s (posS s j)
    have hm := posS_mono s (i := f) (j := j) hf (by omega)
    have hm2 := posS_mono s (i := j + 1) (j := t) (by omega) ht
    have hE := posS_le s t
    have e : posS s f + (posS s j - posS s f) = posS s j := by omega
    have hlt : posS s j < posS s t := by omega
    have hd : Utf8.decode (s.extract (posS s f) (posS s t)) (posS s j - posS s f) = Utf8.decode s (posS s j) := by
      have hx := decode_in (s := s) (P := posS s f) (E := posS s t) (q := posS s j - posS s f) (by rw [e]; exact hlt) hE (by rw [e, ← h2]; exact hm2)
      rwa [e] at hx
    have hsz := size_extract' (s := s) (p := posS s f) hE
    rw [signsFrom_step (by rw [hsz]; omega), hd, List.range'_succ, List.map_cons]
    have e2 : posS s j - posS s f + (Utf8.decode s (posS s j)).2 = posS s (j + 1) - posS s f := by rw [h2]; omega
    rw [e2, ih (j + 1) (by omega) (by omega)]
section
variable {s : ByteArray} {f t : Nat}
theorem sg_cut (hft : f ≤ t) (ht : t ≤ sgN s) : signsFrom (s.extract (posS s f) (posS s t)) 0 = (List.range' f (t - f)).map fun i => (posS s i - posS s f, (Utf8.decode s (posS s i)).1) := by
  have := sg_in (s := s) (f := f) ht (t - f) f (by omega) (Nat.le_refl _)
  rwa [Nat.sub_self] at this
theorem rl_cut_len (hft : f ≤ t) (ht : t ≤ sgN s) : (rl (s.extract (posS s f) (posS s t))).length = t - f := by
  rw [rl_len, sg_cut hft ht]
  simp
theorem rl_cut (hft : f ≤ t) (ht : t ≤ sgN s) {i : Nat} (hi : i < t - f) : (rl (s.extract (posS s f) (posS s t))).getD i 0 = (rl s).getD (f + i) 0 := by
  unfold rl
  rw [sg_cut hft ht]
  have h3 := (sg_next s (j := f + i) (by omega)).2.2
  unfold rl at h3
  rw [h3]
  simp [List.getD_eq_getElem?_getD, hi]
theorem al_cut (hft : f ≤ t) (ht : t ≤ sgN s) {i : Nat} (hi : i ≤ t - f) : (al (s.extract (posS s f) (posS s t))).getD i 0 = (al s).getD (f + i) 0 - (al s).getD f 0 := by
  have hm := posS_mono s (i := f) (j := f + i) (by omega) (by omega)
  rw [al_pos s, al_pos s]
  unfold al
  rw [sg_cut hft ht]
  by_cases h : i < t - f
  · simp [List.getD_eq_getElem?_getD, h, List.getElem?_append_left]
    omega
  · obtain rfl : i = t - f := by omega
    have hE := posS_le s t
    have : ((List.map (fun (p : Nat × Nat) => (p.1 : Int)) ((List.range' f (t - f)).map fun i => (posS s i - posS s f, (Utf8.decode s (posS s i)).1))) ++ [((s.extract (posS s f) (posS s t)).size : Int)]).getD (t - f) 0 = ((s.extract (posS s f) (posS s t)).size : Int) := by
      rw [List.getD_eq_getElem?_getD, List.getElem?_append_right (by simp)]
      simp
    rw [this, size_extract' hE]
    rw [show f + (t - f) = t by omega] at hm ⊢
    omega
end
/-! ### Clusters -/
structure Part2 (l a l' a' : List Int) (f t : Nat) : Prop where
  ht : t ≤ l.length
  len : l'.length = t - f
  rune : ∀ i, f ≤ i → i < t → l'.getD (i - f) 0 = l.getD i 0
  pos : ∀ i, f ≤ i → i ≤ t → a'.getD (i - f) 0 = a.getD i 0 - a.getD f 0
def sh (P f : Int) (c : Clu) : Clu := ⟨c.at - P, c.len, c.frm - f, c.to - f, c.cells⟩
section
variable {l a l' a' : List Int} {f t : Nat} (H : Part2 l a l' a' f t)
include H
theorem Part2.joins {F k : Nat} (h1 : f ≤ F) (h2 : F < k) (h3 : k < t) : joinsB l' (F - f) (k - f) = joinsB l F k := by
  unfold joinsB
  rw [H.rune k (by omega) h3, H.rune F h1 (by omega), show k - f - 1 = (k - 1) - f by omega, H.rune (k - 1) (by omega) (by omega)]
  rw [show decide (k - f = F - f + 1) = decide (k = F + 1) from decide_eq_decide.2 (by omega)]
omit H in
theorem variant_le (l : List Int) (F : Nat) : ∀ k, k ≤ F + 1 → variant l F k = false
  | 0, _ => rfl
  | k + 1, h => by simp only [variant]; rw [variant_le l F k (by omega), decide_eq_false (by omega)]; rfl
theorem Part2.variant {F : Nat} (h1 : f ≤ F) : ∀ n, F + n ≤ t → Plain.variant l' (F - f) (F + n - f) = Plain.variant l F (F + n)
  | 0, h => by rw [variant_le l F _ (by omega), variant_le l' _ _ (by omega)]
  | n + 1, h => by
    rw [show F + (n + 1) - f = (F + n - f) + 1 by omega, show F + (n + 1) = (F + n) + 1 by omega]
    simp only [Plain.variant]
    rw [Part2.variant h1 n (by omega), H.rune (F + n) (by omega) (by omega), show decide (F - f < F + n - f) = decide (F < F + n) from decide_eq_decide.2 (by omega)]
theorem Part2.cells {F T : Nat} (h1 : f ≤ F) (h2 : F < T) (h3 : T ≤ t) : cellsR l' (F - f) (T - f) = cellsR l F T := by
  unfold cellsR
  have hv : Plain.variant l' (F - f) (T - f) = Plain.variant l F T := by
    have := H.variant h1 (T - F) (by omega)
    rwa [show F + (T - F) = T by omega] at this
  rw [hv, H.rune F h1 (by omega), show T - f - (F - f) = T - F by omega]
  by_cases h : 1 < T - F
  · rw [show F - f + 1 = F + 1 - f by omega, H.rune (F + 1) (by omega) (by omega)]
  · simp only [h, false_and, if_false]
theorem Part2.gAt {F T : Nat} (h1 : f ≤ F) (h2 : F < T) (h3 : T ≤ t) : (Plain.gAt l' a' (F - f) (T - f)).c = sh (a.getD f 0) f (Plain.gAt l a F T).c := by
  unfold Plain.gAt sh
  simp only
  rw [H.cells h1 h2 h3, H.pos F h1 (by omega), H.pos T (by omega) h3]
  congr 1 <;> omega
omit H in
theorem remGo_to (l a : List Int) : ∀ (k F T : Nat), ∀ c ∈ remGo l a k F T, (T : Int) ≤ c.to
  | 0, F, T, c, hc => by simp only [remGo, List.mem_singleton] at hc; subst hc; exact Int.le_refl _
  | k + 1, F, T, c, hc => by
    simp only [remGo] at hc
    split at hc
    · split at hc
      · have := remGo_to l a k F (T + 1) c hc; omega
      · rcases List.mem_cons.1 hc with rfl | hc
        · exact Int.le_refl _
        · have := remGo_to l a k T (T + 1) c hc; omega
    · simp only [List.mem_singleton] at hc; subst hc; exact Int.le_refl _
theorem Part2.rem : ∀ (n F T : Nat) (X Y : List Clu) (c : Clu), l.length - T ≤ n → f ≤ F → F < T → T ≤ t → Plain.rem l a F T = X ++ Y → X.getLast? = some c → c.to = t → Plain.rem l' a' (F - f) (T - f) = X.map (sh (a.getD f 0) f)
  | n, F, T, X, Y, c, hn, h1, h2, h3, he, hl, hc => by
    have hcm : c ∈ Plain.rem l a F T := by rw [he]; exact List.mem_append_left _ (List.mem_of_getLast? hl)
    have ht := H.ht
    by_cases hT : T < l.length
    · cases hj : joinsB l F T with
      | true =>
        rw [rem_join hT hj] at he hcm
        have := remGo_to l a _ F (T + 1) c hcm
        have hTt : T < t := by omega
        rw [rem_join (by rw [H.len]; omega) (by rw [H.joins h1 h2 hTt]; exact hj), show T - f + 1 = T + 1 - f by omega]
        cases n with
        | zero => omega
        | succ n => exact Part2.rem n F (T + 1) X Y c (by omega) h1 (by omega) (by omega) he hl hc
      | false =>
        rw [rem_part hT hj] at he
        cases X with
        | nil => cases hl
        | cons x X =>
          rw [List.cons_append, List.cons.injEq] at he
          obtain ⟨rfl, he⟩ := he
          cases X with
          | nil =>
            simp only [List.getLast?_singleton, Option.some.injEq] at hl
            subst hl
            have hTt : (T : Int) = t := hc
            obtain rfl : T = t := by omega
            rw [rem_end (by rw [H.len]; omega), H.gAt h1 h2 h3]
            rfl
          | cons y X =>
            rw [List.getLast?_cons_cons] at hl
            have hcm2 : c ∈ Plain.rem l a T (T + 1) := by rw [he]; exact List.mem_append_left _ (List.mem_of_getLast? hl)
            have := remGo_to l a _ T (T + 1) c hcm2
            have hTt : T < t := by omega
            rw [rem_part (by rw [H.len]; omega) (by rw [H.joins h1 h2 hTt]; exact hj), H.gAt h1 h2 h3, show T - f + 1 = T + 1 - f by omega]
            cases n with
            | zero => omega
            | succ n => rw [Part2.rem n T (T + 1) (y :: X) Y c (by omega) (by omega) (by omega) (by omega) he hl hc]; rfl
    · rw [rem_end hT] at he
      cases X with
      | nil => cases hl
      | cons x X =>
        rw [List.cons_append, List.cons.injEq] at he
        obtain ⟨rfl, he⟩ := he
        obtain ⟨rfl, rfl⟩ := List.append_eq_nil_iff.1 he.symm
        rw [rem_end (by rw [H.len]; omega), H.gAt h1 h2 h3]
        rfl
omit H in
theorem rem_drop : ∀ (n F T : Nat) (X Z : List Clu) (c : Clu), l.length - T ≤ n → Plain.rem l a F T = X ++ c :: Z → X ≠ [] → ∃ g : Nat, c.frm = g ∧ c :: Z = Plain.rem l a g (g + 1)
  | n, F, T, X, Z, c, hn, he, hX => by
    by_cases hT : T < l.length
    · cases hj : joinsB l F T with
      | true =>
        rw [rem_join hT hj] at he
        cases n with
        | zero => omega
        | succ n => exact rem_drop n F (T + 1) X Z c (by omega) he hX
      | false =>
        rw [rem_part hT hj] at he
        cases X with
        | nil => exact absurd rfl hX
        | cons x X =>
          rw [List.cons_append, List.cons.injEq] at he
          obtain ⟨_, he⟩ := he
          cases X with
          | nil =>
            rw [List.nil_append] at he
            refine ⟨T, ?_, he.symm⟩
            have hh := remGo_chn l a (l.length - (T + 1)) T (T + 1)
            rw [show remGo l a (l.length - (T + 1)) T (T + 1) = c :: Z from he] at hh
            cases hh with
            | cons h _ => exact h
          | cons y X =>
            cases n with
            | zero => omega
            | succ n => exact rem_drop n T (T + 1) (y :: X) Z c (by omega) he (by simp)
    · rw [rem_end hT] at he
      cases X with
      | nil => exact absurd rfl hX
      | cons x X =>
        rw [List.cons_append, List.cons.injEq] at he
        have := congrArg List.length he.2
        simp at this
end
theorem part2 (s : ByteArray) {f t : Nat} (hft : f ≤ t) (ht : t ≤ sgN s) : Part2 (rl s) (al s) (rl (s.extract (posS s f) (posS s t))) (al (s.extract (posS s f) (posS s t))) f t :=
  ⟨ht, rl_cut_len hft ht, fun i h1 h2 => by rw [rl_cut hft ht (by omega), show f + (i - f) = i by omega], fun i h1 h2 => by rw [al_cut hft ht (by omega), show f + (i - f) = i by omega]⟩
theorem cl_plA {s : ByteArray} {i : Nat} (hi : i < (clusters s).length) : ((clusters s)[i]).frm = plA (parts s) i ∧ ((clusters s)[i]).to = plA (parts s) (i + 1) := by
  have hlen : (parts s).length = (clusters s).length := by simp [parts]
  have hc := parts_c (s := s) (j := i) (by omega)
  have hd : (clusters s).getD i ⟨0, 0, 0, 0, 0⟩ = (clusters s)[i] := by simp [List.getD_eq_getElem?_getD, hi]
  rw [hd] at hc
  constructor
  · rw [← hc]; exact plA_frm (by omega)
  · unfold plA
    rw [if_neg (by omega), Nat.add_sub_cancel, hc]
theorem plA_nat {s : ByteArray} {i : Nat} (hi : i ≤ (parts s).length) : ∃ f : Nat, plA (parts s) i = f ∧ f ≤ sgN s := by
  have := plA_bd (s := s) hi
  exact ⟨(plA (parts s) i).toNat, by omega, by omega⟩
theorem clusters_cut (s : ByteArray) {i j : Nat} (hij : i < j) (hj : j ≤ (parts s).length) : clusters (cutT s (plA (parts s) i) (plA (parts s) j)) = (((clusters s).drop i).take (j - i)).map (sh ((posS s (plA (parts s) i).toNat : Nat) : Int) (plA (parts s) i)) := by
  have hlen : (parts s).length = (clusters s).length := by simp [parts]
  obtain ⟨f, hf, hfs⟩ := plA_nat (s := s) (i := i) (by omega)
  obtain ⟨t, ht, hts⟩ := plA_nat (s := s) (i := j) hj
  have hlt := plA_lt (s := s) hij hj
  rw [hf, ht] at hlt ⊢
  have hft : f < t := by omega
  have hcut : cutT s f t = s.extract (posS s f) (posS s t) := by
    unfold cutT
    rw [if_pos ⟨by omega, by omega, by omega⟩]
    rfl
  have H := part2 s (f := f) (t := t) (by omega) hts
  have hpos : 0 < (signsFrom s 0).length := by rw [← rl_len]; show 0 < sgN s; omega
  have hall := clusters_rem s
  rw [if_pos hpos] at hall
  have hdrop : (clusters s).drop i = rem (rl s) (al s) f (f + 1) := by
    by_cases h0 : i = 0
    · subst h0
      have : (f : Int) = 0 := by rw [← hf]; rfl
      obtain rfl : f = 0 := by omega
      rw [List.drop_zero]; exact hall
    · have hi : i < (clusters s).length := by omega
      obtain ⟨g, hg, hr⟩ := rem_drop (l := rl s) (a := al s) ((rl s).length - 1) 0 1 ((clusters s).take i) ((clusters s).drop (i + 1)) (clusters s)[i] (Nat.le_refl _) (by rw [← hall, List.getElem_cons_drop, List.take_append_drop]) (by
        intro h
        have := congrArg List.length h
        rw [List.length_take, List.length_nil] at this
        omega)
      have h2 := (cl_plA hi).1
      rw [hf] at h2
      obtain rfl : g = f := by omega
      rw [← hr, List.getElem_cons_drop]
  rw [hcut, clusters_rem, if_pos (by rw [← rl_len, rl_cut_len (by omega) hts]; omega), Int.toNat_natCast, ← al_pos]
  have hl : (((clusters s).drop i).take (j - i)).getLast? = some ((clusters s)[j - 1]'(by omega)) := by
    rw [List.getLast?_eq_getElem?, List.length_take, List.length_drop, Nat.min_eq_left (by omega), List.getElem?_take, if_pos (by omega), List.getElem?_drop]
    rw [show i + (j - i - 1) = j - 1 by omega]
    exact List.getElem?_eq_getElem _
  have hto : ((clusters s)[j - 1]'(by omega)).to = t := by
    have := (cl_plA (s := s) (i := j - 1) (by omega)).2
    rw [show j - 1 + 1 = j by omega, ht] at this
    exact this
  have := H.rem _ f (f + 1) (((clusters s).drop i).take (j - i)) (((clusters s).drop i).drop (j - i)) _ (Nat.le_refl _) (Nat.le_refl _) (by omega) (by omega) (by rw [List.take_append_drop]; exact hdrop.symm) hl hto
  rw [Nat.sub_self, show f + 1 - f = 1 by omega] at this
  exact this
end Go.SX.Plain
/- Plain law: a line of a way is its part, bare; its cells are the line's. -/
namespace Go.SX.Plain
set_option linter.unusedSimpArgs false
def shP (P f : Int) (p : Part) : Part := { p with c := sh P f p.c }
theorem ext_ext {s : ByteArray} {P E a b : Nat} (h : P + b ≤ E) : (s.extract P E).extract a b = s.extract (P + a) (P + b) := by
  rw [ByteArray.extract_extract]
  congr 1
  omega
theorem partOf_cut {s : ByteArray} {P E f : Nat} {c : Clu} {F T : Nat} (h1 : c.at = (F : Nat)) (h2 : c.at + c.len = (T : Nat)) (hP : P ≤ F) (hE : T ≤ E) (hFT : F ≤ T) : partOf (s.extract P E) (sh P f c) = shP P f (partOf s c) := by
  have hx : (s.extract P E).extract (sh P f c).at.toNat ((sh P f c).at + (sh P f c).len).toNat = s.extract c.at.toNat (c.at + c.len).toNat := by
    have e1 : (sh P f c).at.toNat = F - P := by show (c.at - P).toNat = _; omega
    have e2 : ((sh P f c).at + (sh P f c).len).toNat = T - P := by show (c.at - P + c.len).toNat = _; omega
    rw [e1, e2, ext_ext (by omega), show P + (F - P) = F by omega, show P + (T - P) = T by omega, show c.at.toNat = F by omega, show (c.at + c.len).toNat = T by omega]
  have hf : firstOf (s.extract P E) (sh P f c) = firstOf s c := by unfold firstOf; rw [hx]
  unfold partOf shP
  rw [hf]
  rfl
section
variable {s : ByteArray} {i j : Nat}
theorem cutT_plA (hij : i ≤ j) (hj : j ≤ (parts s).length) : cutT s (plA (parts s) i) (plA (parts s) j) = s.extract (posS s (plA (parts s) i).toNat) (posS s (plA (parts s) j).toNat) := by
  have h1 := plA_bd (s := s) (i := i) (by omega)
  have h2 := plA_bd (s := s) hj
  have h3 : plA (parts s) i ≤ plA (parts s) j := by
    rcases Nat.lt_or_eq_of_le hij with h | h
    · exact Int.le_of_lt (plA_lt h hj)
    · rw [h]; exact Int.le_refl _
  unfold cutT
  rw [if_pos ⟨h1.1, h3, h2.2⟩]
theorem parts_cut (hij : i ≤ j) (hj : j ≤ (parts s).length) : parts (cutT s (plA (parts s) i) (plA (parts s) j)) = (segOf (parts s) i j).map (shP ((posS s (plA (parts s) i).toNat : Nat) : Int) (plA (parts s) i)) := by
  have hlen : (parts s).length = (clusters s).length := by simp [parts]
  rcases Nat.lt_or_eq_of_le hij with h | h
  · unfold parts segOf
    have hcl := clusters_cut s h hj
    unfold parts at hcl
    rw [hcl, ← List.map_drop, ← List.map_take, List.map_map, List.map_map]
    refine List.map_congr_left fun c hc => ?_
    obtain ⟨k, hk, rfl⟩ := List.mem_iff_getElem.1 hc
    have hk2 : k < j - i := by rw [List.length_take] at hk; omega
    rw [List.getElem_take, List.getElem_drop]
    obtain ⟨F, T, a1, a2, a3, a4, a5, a6⟩ := part_cl s (i := i + k) (by omega)
    have hc2 : ((parts s).getD (i + k) dPart).c = (clusters s)[i + k] := by rw [parts_c (by omega)]; simp [List.getD_eq_getElem?_getD, show i + k < (clusters s).length by omega]
    have hcp := cl_plA (s := s) (i := i + k) (by omega)
    rw [hc2] at a3 a4 a5 a6
    obtain ⟨f, hf, hfs⟩ := plA_nat (s := s) (i := i) (by omega)
    obtain ⟨t, ht, hts⟩ := plA_nat (s := s) (i := j) hj
    have hle : plA (parts s) i ≤ plA (parts s) (i + k) := by
      rcases Nat.eq_zero_or_pos k with h0 | h0
      · rw [h0]; exact Int.le_refl _
      · exact Int.le_of_lt (plA_lt (by omega) (by omega))
    have hle2 : plA (parts s) (i + k + 1) ≤ plA (parts s) j := by
      rcases Nat.lt_or_eq_of_le (show i + k + 1 ≤ j by omega) with h0 | h0
      · exact Int.le_of_lt (plA_lt h0 hj)
      · rw [h0]; exact Int.le_refl _
    have hm1 : f ≤ F := by
      have := hcp.1
      omega
    have hm2 : T ≤ t := by
      have := hcp.2
      omega
    have hcut := cutT_plA hij hj
    unfold parts at hcut hf ht
    rw [Function.comp_apply, Function.comp_apply]
    show partOf (cutT s (plA (List.map (partOf s) (clusters s)) i) (plA (List.map (partOf s) (clusters s)) j)) _ = _
    rw [hcut, hf, ht, Int.toNat_natCast, Int.toNat_natCast]
    exact partOf_cut a5 a6 (posS_mono s hm1 (by omega)) (posS_mono s hm2 hts) (posS_mono s (by omega) a2)
  · subst h
    rw [cutT_plA (Nat.le_refl _) hj]
    have he : (s.extract (posS s (plA (parts s) i).toNat) (posS s (plA (parts s) i).toNat)).size = 0 := by rw [size_extract' (posS_le s _)]; omega
    unfold segOf
    rw [Nat.sub_self, List.take_zero, List.map_nil]
    have : clusters (s.extract (posS s (plA (parts s) i).toNat) (posS s (plA (parts s) i).toNat)) = [] := by
      rw [clusters_rem, if_neg]
      rw [signsFrom_end (by omega)]
      simp
    show (clusters _).map _ = []
    rw [this]
    rfl
end
theorem trimGo_map {g : Part → Part} (hb : ∀ p, (g p).blank = p.blank) (l : List Part) : ∀ n, n ≤ l.length → trimGo (l.map g) n = trimGo l n
  | 0, _ => rfl
  | n + 1, h => by
    have e : ((l.map g).getD n dPart).blank = (l.getD n dPart).blank := by simp [List.getD_eq_getElem?_getD, show n < l.length by omega, hb]
    simp only [trimGo]
    rw [e, trimGo_map hb l n (by omega)]
theorem trimN_map {g : Part → Part} (hf : ∀ p, (g p).fin = p.fin) (hb : ∀ p, (g p).blank = p.blank) (l : List Part) : trimN (l.map g) = trimN l := by
  unfold trimN
  rw [List.length_map]
  by_cases h : 0 < l.length
  · have e : ((l.map g).getD (l.length - 1) dPart).fin = (l.getD (l.length - 1) dPart).fin := by simp [List.getD_eq_getElem?_getD, show l.length - 1 < l.length by omega, hf]
    rw [e]
    split
    · exact trimGo_map hb l _ (by omega)
    · exact trimGo_map hb l _ (Nat.le_refl _)
  · rw [if_neg (fun hh => h hh.1), if_neg (fun hh => h hh.1)]
    exact trimGo_map hb l _ (Nat.le_refl _)
def bareT (s : ByteArray) : ByteArray := if trimN (parts s) = (parts s).length then s else s.extract 0 ((parts s).getD (trimN (parts s)) dPart).c.at.toNat
section
variable {s : ByteArray} {f t : Nat}
theorem at_plA {i : Nat} (hi : i < (parts s).length) : ((parts s).getD i dPart).c.at = (posS s (plA (parts s) i).toNat : Nat) ∧ ((parts s).getD i dPart).c.at + ((parts s).getD i dPart).c.len = (posS s (plA (parts s) (i + 1)).toNat : Nat) := by
  obtain ⟨F, T, a1, a2, a3, a4, a5, a6⟩ := part_cl s hi
  have h1 := plA_frm hi
  have h2 : plA (parts s) (i + 1) = ((parts s).getD i dPart).c.to := by unfold plA; rw [if_neg (by omega), Nat.add_sub_cancel]
  rw [← h1, h2, a3, a4, Int.toNat_natCast, Int.toNat_natCast]
  exact ⟨a5, a6⟩
theorem ba_nil {x : ByteArray} (h : x.size = 0) : x = ByteArray.empty := by
  cases x with
  | mk d => rw [show d = #[] from Array.eq_empty_of_size_eq_zero h]; rfl
theorem textL_cut (hft : f ≤ t) (ht : t ≤ (parts s).length) : textL s (segOf (parts s) f t) = cutT s (plA (parts s) f) (plA (parts s) (f + trimN (segOf (parts s) f t))) := by
  have h1 := trimN_le (segOf (parts s) f t)
  rw [segOf_len ht] at h1
  rw [cutT_plA (by omega) (by omega)]
  unfold textL
  rw [trimL_len]
  by_cases h0 : trimN (segOf (parts s) f t) = 0
  · rw [if_pos h0, h0, Nat.add_zero]
    exact (ba_nil (by rw [size_extract' (posS_le s _)]; omega)).symm
  · rw [if_neg h0]
    have hl := trimL_len (segOf (parts s) f t)
    rw [(trim_get (l := parts s) (y := segOf (parts s) f t) (a := f) (b := t - f) rfl (k := 0) (by omega)).1, (trim_get (l := parts s) (y := segOf (parts s) f t) (a := f) (b := t - f) rfl (k := trimN (segOf (parts s) f t) - 1) (by omega)).1, Nat.add_zero]
    rw [(at_plA (s := s) (i := f) (by omega)).1, (at_plA (s := s) (i := f + (trimN (segOf (parts s) f t) - 1)) (by omega)).2, Int.toNat_natCast, Int.toNat_natCast]
    rw [show f + (trimN (segOf (parts s) f t) - 1) + 1 = f + trimN (segOf (parts s) f t) by omega]
theorem trimN_cut (hft : f ≤ t) (ht : t ≤ (parts s).length) : trimN (parts (cutT s (plA (parts s) f) (plA (parts s) t))) = trimN (segOf (parts s) f t) := by
  rw [parts_cut hft ht]
  exact trimN_map (g := shP _ _) (fun _ => rfl) (fun _ => rfl) _
theorem bare_seg (hft : f ≤ t) (ht : t ≤ (parts s).length) : bareT (cutT s (plA (parts s) f) (plA (parts s) t)) = textL s (segOf (parts s) f t) := by
  have h1 := trimN_le (segOf (parts s) f t)
  have hsl := segOf_len (l := parts s) (frm := f) ht
  rw [hsl] at h1
  unfold bareT
  rw [trimN_cut hft ht, textL_cut hft ht, parts_cut hft ht, List.length_map, hsl]
  by_cases h0 : trimN (segOf (parts s) f t) = t - f
  · rw [if_pos h0, h0, show f + (t - f) = t by omega]
  · rw [if_neg h0]
    have hg : ((segOf (parts s) f t).map (shP ((posS s (plA (parts s) f).toNat : Nat) : Int) (plA (parts s) f))).getD (trimN (segOf (parts s) f t)) dPart = shP ((posS s (plA (parts s) f).toNat : Nat) : Int) (plA (parts s) f) ((parts s).getD (f + trimN (segOf (parts s) f t)) dPart) := by
      have e : (segOf (parts s) f t)[trimN (segOf (parts s) f t)]? = (parts s)[f + trimN (segOf (parts s) f t)]? := by
        unfold segOf
        rw [List.getElem?_take, if_pos (by unfold segOf at h0 h1; omega), List.getElem?_drop]
      have e2 : (parts s)[f + trimN (segOf (parts s) f t)]? = some ((parts s)[f + trimN (segOf (parts s) f t)]'(by omega)) := List.getElem?_eq_getElem _
      rw [List.getD_eq_getElem?_getD, List.getElem?_map, e, List.getD_eq_getElem?_getD, e2]
      rfl
    have ha := (at_plA (s := s) (i := f + trimN (segOf (parts s) f t)) (by omega)).1
    have hm := plA_bd (s := s) (i := f + trimN (segOf (parts s) f t)) (by omega)
    have hm0 := plA_bd (s := s) (i := f) (by omega)
    have hle : plA (parts s) f ≤ plA (parts s) (f + trimN (segOf (parts s) f t)) := by
      rcases Nat.eq_zero_or_pos (trimN (segOf (parts s) f t)) with h | h
      · rw [h, Nat.add_zero]; exact Int.le_refl _
      · exact Int.le_of_lt (plA_lt (by omega) (by omega))
    have hle2 : plA (parts s) (f + trimN (segOf (parts s) f t)) ≤ plA (parts s) t := Int.le_of_lt (plA_lt (by omega) ht)
    have hmt := plA_bd (s := s) ht
    have hp1 := posS_mono s (i := (plA (parts s) f).toNat) (j := (plA (parts s) (f + trimN (segOf (parts s) f t))).toNat) (by omega) (by omega)
    have hp2 := posS_mono s (i := (plA (parts s) (f + trimN (segOf (parts s) f t))).toNat) (j := (plA (parts s) t).toNat) (by omega) (by omega)
    rw [hg]
    show (cutT s _ _).extract 0 (((parts s).getD (f + trimN (segOf (parts s) f t)) dPart).c.at - _).toNat = _
    rw [ha, cutT_plA hft ht, cutT_plA (by omega) (by omega)]
    rw [show (((posS s (plA (parts s) (f + trimN (segOf (parts s) f t))).toNat : Nat) : Int) - ((posS s (plA (parts s) f).toNat : Nat) : Int)).toNat = posS s (plA (parts s) (f + trimN (segOf (parts s) f t))).toNat - posS s (plA (parts s) f).toNat by omega]
    rw [ext_ext (by omega), Nat.add_zero]
    congr 1
    omega
def cellsS (s : ByteArray) : Int := sumC (parts s) (parts s).length
theorem cells_map (P F : Int) (l : List Part) (k : Nat) : sumC (l.map (shP P F)) k = sumC l k := by
  unfold sumC
  rw [← List.map_take, List.map_map]
  rfl
theorem cellsS_seg (hft : f ≤ t) (ht : t ≤ (parts s).length) : cellsS (textL s (segOf (parts s) f t)) = cellsL (segOf (parts s) f t) := by
  have h1 := trimN_le (segOf (parts s) f t)
  have hsl := segOf_len (l := parts s) (frm := f) ht
  rw [hsl] at h1
  unfold cellsS
  rw [textL_cut hft ht, parts_cut (by omega) (by omega), List.length_map, cells_map, segOf_len (by omega)]
  unfold cellsL
  rw [trimL_len]
  have e : segOf (parts s) f (f + trimN (segOf (parts s) f t)) = trimL (segOf (parts s) f t) := by
    unfold trimL segOf
    rw [List.take_take]
    congr 1
    unfold segOf at h1
    omega
  rw [e, show f + trimN (segOf (parts s) f t) - f = trimN (segOf (parts s) f t) by omega]
end
end Go.SX.Plain
/- Plain law: how a text is made bare; any way of a text. -/
namespace Go.SX.Plain
set_option linter.unusedSimpArgs false
def bareAt (s : ByteArray) (j : Nat) : Int := if j = (parts s).length then (s.size : Int) else ((parts s).getD j dPart).c.at
def BareI (s : ByteArray) (j : Nat) : Prop := j ≤ (parts s).length ∧ (j < (parts s).length → trimGo (parts s) j = trimN (parts s))
section
variable {s : ByteArray} {j : Nat}
theorem bare_step (h : BareI s (j + 1)) (hs : (j + 1 = (parts s).length ∧ ((parts s).getD j dPart).fin = true) ∨ ((parts s).getD j dPart).blank = true) : BareI s j := by
  obtain ⟨h1, h2⟩ := h
  refine ⟨by omega, fun _ => ?_⟩
  by_cases hm : j + 1 = (parts s).length
  · unfold trimN
    by_cases hf : ((parts s).getD j dPart).fin = true
    · rw [if_pos ⟨by omega, by rw [show (parts s).length - 1 = j by omega]; exact hf⟩, show (parts s).length - 1 = j by omega]
    · have hb := hs.resolve_left fun hh => hf hh.2
      rw [if_neg (by rw [show (parts s).length - 1 = j by omega]; exact fun hh => hf hh.2), ← hm]
      simp only [trimGo]
      rw [if_pos hb]
  · have hb := hs.resolve_left fun hh => hm hh.1
    rw [← h2 (by omega)]
    simp only [trimGo]
    rw [if_pos hb]
theorem ext_all (s : ByteArray) : s.extract 0 ((s.size : Int)).toNat = s := by
  rw [Int.toNat_natCast]
  exact ByteArray.extract_zero_size
theorem bare_stop (h : BareI s (j + 1)) (hf : ¬ (j + 1 = (parts s).length ∧ ((parts s).getD j dPart).fin = true)) (hb : ¬ ((parts s).getD j dPart).blank = true) : s.extract 0 (bareAt s (j + 1)).toNat = bareT s := by
  obtain ⟨h1, h2⟩ := h
  have hg : trimGo (parts s) (j + 1) = j + 1 := by simp only [trimGo]; rw [if_neg hb]
  unfold bareT bareAt
  by_cases hm : j + 1 = (parts s).length
  · have hn : trimN (parts s) = (parts s).length := by
      unfold trimN
      rw [if_neg (by rw [show (parts s).length - 1 = j by omega]; exact fun hh => hf ⟨hm, hh.2⟩), ← hm]
      exact hg
    rw [if_pos hm, if_pos hn]
    exact ext_all s
  · have hn : trimN (parts s) = j + 1 := by rw [← h2 (by omega)]; exact hg
    rw [if_neg hm, hn, if_neg hm]
theorem bare_end (h : BareI s 0) : s.extract 0 (bareAt s 0).toNat = bareT s := by
  obtain ⟨h1, h2⟩ := h
  unfold bareT bareAt
  by_cases hm : 0 = (parts s).length
  · have hn : trimN (parts s) = (parts s).length := by have := trimN_le (parts s); omega
    rw [if_pos hm, if_pos hn]
    exact ext_all s
  · have hn : trimN (parts s) = 0 := by rw [← h2 (by omega)]; rfl
    rw [if_neg hm, hn, if_neg hm]
theorem runes_first (x : ByteArray) : ((signsFrom x 0).map fun p => (p.2 : Int)).getD 0 0 = if 0 < x.size then ((Utf8.decode x 0).1 : Int) else 0 := by
  split
  · rename_i h
    rw [signsFrom_step h]
    rfl
  · rename_i h
    rw [signsFrom_end h]
    rfl
theorem part_first (hj : j < (parts s).length) : ((signsFrom (s.extract ((parts s).getD j dPart).c.at.toNat (((parts s).getD j dPart).c.at + ((parts s).getD j dPart).c.len).toNat) 0).map fun p => (p.2 : Int)).getD 0 0 = ((parts s).getD j dPart).first ∧
    0 < ((signsFrom (s.extract ((parts s).getD j dPart).c.at.toNat (((parts s).getD j dPart).c.at + ((parts s).getD j dPart).c.len).toNat) 0).map fun p => (p.2 : Int)).length := by
  have hlen : (parts s).length = (clusters s).length := by simp [parts]
  obtain ⟨F, T, a1, a2, a3, a4, a5, a6⟩ := part_cl s hj
  have hsz : 0 < (s.extract ((parts s).getD j dPart).c.at.toNat (((parts s).getD j dPart).c.at + ((parts s).getD j dPart).c.len).toNat).size := by
    rw [a6, a5, Int.toNat_natCast, Int.toNat_natCast, size_extract' (posS_le s T)]
    have h1 := sg_next s (j := F) (by omega)
    have h2 := width_pos s (posS s F)
    have h3 := posS_mono s (i := F + 1) (j := T) (by omega) a2
    omega
  constructor
  · rw [runes_first]
    have : ((parts s).getD j dPart).first = firstOf s ((parts s).getD j dPart).c := by
      have e : (parts s).getD j dPart = partOf s ((clusters s)[j]'(by omega)) := by simp [parts, List.getD_eq_getElem?_getD, show j < (clusters s).length by omega]
      rw [e]
      rfl
    rw [this]
    rfl
  · rw [signsFrom_step hsz]
    simp
theorem part_look0 (s : ByteArray) (c : Clu) : (partOf s c).fin = ((partOf s c).first == 10) ∧ (partOf s c).blank = blankB (partOf s c).first := by
  unfold partOf partOfR
  exact ⟨rfl, rfl⟩
theorem part_look (hj : j < (parts s).length) : ((parts s).getD j dPart).fin = (((parts s).getD j dPart).first == 10) ∧ ((parts s).getD j dPart).blank = blankB ((parts s).getD j dPart).first := by
  have hlen : (parts s).length = (clusters s).length := by simp [parts]
  have e : (parts s).getD j dPart = partOf s ((clusters s)[j]'(by omega)) := by simp [parts, List.getD_eq_getElem?_getD, show j < (clusters s).length by omega]
  rw [e]
  exact part_look0 s _
theorem blank_law (r : Int) : (((((r == 9 || r == 32) || r == 5760) || r == 8287) || r == 12288) || ((decide (8192 ≤ r) && decide (r ≤ 8202)) && r != 8199)) = blankB r := by
  unfold blankB
  rw [one_blanks]
  unfold amongB
  rw [Bool.eq_iff_iff]
  simp only [List.any_cons, List.any_nil, Bool.or_eq_true, Bool.and_eq_true, beq_iff_eq, bne_iff_ne, decide_eq_true_eq, Bool.or_false, ne_eq]
  omega
end
theorem bareAt_bd {s : ByteArray} {j : Nat} (h : j ≤ (parts s).length) : 0 ≤ bareAt s j ∧ bareAt s j ≤ s.size := by
  unfold bareAt
  split
  · omega
  · rw [(at_plA (s := s) (i := j) (by omega)).1]
    have := posS_le s (plA (parts s) j).toNat
    omega
theorem bare_cond {s : ByteArray} {k n : Nat} (h : BareI s (k + 1)) (hn : n = (parts s).length) (R : Int) (hR : R = ((parts s).getD k dPart).first) (hk : k < (parts s).length) :
    ((!(decide (k + 1 = (parts s).length) && R == 10 && (k : Int) == (n : Int) - 1) && !blankB R) = false → BareI s k) ∧ ((!(decide (k + 1 = (parts s).length) && R == 10 && (k : Int) == (n : Int) - 1)) = false → BareI s k) ∧
      ((!(decide (k + 1 = (parts s).length) && R == 10 && (k : Int) == (n : Int) - 1) && !blankB R) = true → s.extract 0 (bareAt s (k + 1)).toNat = bareT s) := by
  obtain ⟨hl1, hl2⟩ := part_look (s := s) hk
  rw [← hR] at hl1 hl2
  refine ⟨fun hc => bare_step h ?_, fun hc => bare_step h ?_, fun hc => bare_stop h (fun hh => ?_) fun hh => ?_⟩
  · rw [hl1, hl2]
    simp only [Bool.and_eq_false_iff, Bool.not_eq_false', Bool.and_eq_true, decide_eq_true_eq] at hc
    rcases hc with hc | hc
    · exact .inl hc.1
    · exact .inr hc
  · rw [hl1]
    simp only [Bool.not_eq_false', Bool.and_eq_true, decide_eq_true_eq] at hc
    exact .inl hc.1
  · simp only [Bool.and_eq_true, Bool.not_eq_true', Bool.and_eq_false_iff, decide_eq_false_iff_not] at hc
    rw [hl1] at hh
    rcases hc.1 with (h1 | h1) | h1
    · exact h1 hh.1
    · rw [h1] at hh; cases hh.2
    · rw [beq_eq_false_iff_ne] at h1
      omega
  · simp only [Bool.and_eq_true, Bool.not_eq_true'] at hc
    rw [hl2, hc.2] at hh
    cases hh
theorem Inv40.out {s : ByteArray} {i : St40} (h : Inv40 s i) (hp : 0 < i.pos) : ∃ r, parts s = (i.l ++ (signOut i.begun i.g i.was).map (partOf s)) ++ r := by
  by_cases hlt : i.pos < s.size
  · have hrest := rest_step hlt i.at i.was i.begun i.g
    rw [if_pos hp] at hrest
    exact ⟨_, by rw [h.all, hrest, List.map_append, List.append_assoc]⟩
  · have hb := h.bound
    have hrest := rest_end hlt i.at i.was i.begun i.g
    rw [if_neg (by omega)] at hrest
    exact ⟨_, by rw [h.all, hrest, List.map_append, List.append_assoc]⟩
theorem sum_pre {s : ByteArray} {l r : List Part} (h : parts s = l ++ r) : 0 ≤ sumC l l.length ∧ sumC l l.length ≤ 2 * s.size := by
  have hS : Small l := fun p hp => parts_small s p (by rw [h]; exact List.mem_append_left _ hp)
  have h1 := sumC_bd hS l.length
  have h2 := parts_len s
  have h3 := congrArg List.length h
  rw [List.length_append] at h3
  omega
theorem sum_snoc (l : List Part) (p : Part) : sumC (l ++ [p]) (l ++ [p]).length = sumC l l.length + p.c.cells := by
  unfold sumC
  rw [List.take_length, List.take_length, List.map_append, List.sum_append]
  simp
structure WayG (s : ByteArray) (way : List (Int × Int)) (W : List Nat) : Prop where
  len : W.length = way.length
  brk : ∀ i, i < W.length → way.getD i (0, 0) = (plA (parts s) (W.getD i 0), kindAt (parts s) (W.getD i 0))
  lines : linesL s way = segs (parts s) W 0
  ok : linesB s way = true
  frto : ∀ i, i ≤ W.length → frO W i ≤ toO (parts s) W i ∧ toO (parts s) W i ≤ (parts s).length
theorem wayG {s : ByteArray} {Q : List Nat} (hok : wOk (parts s) 0 Q) : WayG s (Q.map (brk (parts s))) (Q.map fun m => (plcs (parts s) ((parts s).length + 1)).getD m 0) := by
  have hlt := wOk_lt _ _ hok
  have hpw : (Q.map fun m => (plcs (parts s) ((parts s).length + 1)).getD m 0).Pairwise (· < ·) := by
    rw [List.pairwise_map]
    refine (wOk_sorted _ _ hok).1.imp_of_mem fun {a b} ha hb hab => ?_
    exact sorted_lt (plcs_sorted _ _) hab (hlt b hb)
  have hget : ∀ i, i < Q.length → (Q.map fun m => (plcs (parts s) ((parts s).length + 1)).getD m 0).getD i 0 = (plcs (parts s) ((parts s).length + 1)).getD (Q.getD i 0) 0 := fun i hi => by
    simp [List.getD_eq_getElem?_getD, hi]
  have hpos : ∀ i, i < (Q.map fun m => (plcs (parts s) ((parts s).length + 1)).getD m 0).length → 0 < (Q.map fun m => (plcs (parts s) ((parts s).length + 1)).getD m 0).getD i 0 ∧ (Q.map fun m => (plcs (parts s) ((parts s).length + 1)).getD m 0).getD i 0 ≤ (parts s).length := fun i hi => by
    rw [List.length_map] at hi
    rw [hget i hi]
    have := plcs_le (hlt _ (getD_memN (Q := Q) (i := i) hi))
    omega
  refine ⟨by rw [List.length_map, List.length_map], fun i hi => ?_, (lines_of hok).1, (lines_of hok).2, fun i hi => ⟨?_, ?_⟩⟩
  · have hp := hpos i hi
    rw [List.length_map] at hi
    rw [map_getD _ _ hi, hget i hi]
    rw [hget i hi] at hp
    show brkAt (parts s) _ = _
    unfold brkAt plA
    rw [if_neg (by omega)]
  · unfold frO toO
    by_cases h0 : i = 0
    · rw [if_pos h0]; exact Nat.zero_le _
    · rw [if_neg h0]
      by_cases h2 : i < (Q.map fun m => (plcs (parts s) ((parts s).length + 1)).getD m 0).length
      · rw [if_pos h2]
        exact Nat.le_of_lt (sorted_lt hpw (by omega) h2)
      · rw [if_neg h2]
        exact (hpos (i - 1) (by omega)).2
  · unfold toO
    split
    · exact (hpos _ (by assumption)).2
    · exact Nat.le_refl _
section
variable {s : ByteArray} {way : List (Int × Int)} {W : List Nat} {i : Nat}
theorem WayG.seg (h : WayG s way W) (hi : i ≤ W.length) : (linesL s way).getD i [] = segOf (parts s) (frO W i) (toO (parts s) W i) := by
  rw [h.lines, segs_get _ _ _ _ hi]
  rfl
theorem WayG.llen (h : WayG s way W) : (linesL s way).length = W.length + 1 := by rw [h.lines, segs_len]
theorem WayG.to (h : WayG s way W) (hi : i ≤ W.length) : plA (parts s) (toO (parts s) W i) = if i < W.length then (way.getD i (0, 0)).1 else (sgN s : Nat) := by
  unfold toO
  split
  · rename_i h1
    rw [h.brk i h1]
  · exact plA_end
theorem WayG.cells (h : WayG s way W) (hs : s.size ≤ 4096) (hi : i ≤ W.length) : 0 ≤ cellsL ((linesL s way).getD i []) ∧ cellsL ((linesL s way).getD i []) ≤ 8192 := by
  have hps := parts_small s
  have hpl := parts_len s
  rw [h.seg hi]
  have hS : Small (segOf (parts s) (frO W i) (toO (parts s) W i)) := (hps.drop _).take _
  have h1 := sumC_bd (trimL_small hS) (trimL (segOf (parts s) (frO W i) (toO (parts s) W i))).length
  have h2 := trimN_le (segOf (parts s) (frO W i) (toO (parts s) W i))
  have h3 := segOf_len (l := parts s) (frm := frO W i) (h.frto i hi).2
  have h4 := (h.frto i hi).2
  rw [trimL_len] at h1
  unfold cellsL
  rw [trimL_len]
  omega
theorem WayG.next (h : WayG s way W) (hi : i < W.length) : toO (parts s) W i = frO W (i + 1) := by
  unfold toO frO
  rw [if_pos hi, if_neg (by omega), Nat.add_sub_cancel]
end
def fullB (L : List (List Part)) (width : Int) (k : Nat) : Bool := (L.take k).any fun x => decide (width < cellsL x)
theorem fullB_succ {L : List (List Part)} {width : Int} {k : Nat} (h : k < L.length) : fullB L width (k + 1) = (fullB L width k || decide (width < cellsL (L.getD k []))) := by
  unfold fullB
  rw [List.take_succ_eq_append_getElem h, List.any_append]
  simp [List.getD_eq_getElem?_getD, h]
theorem fullB_all (L : List (List Part)) (width : Int) : fullB L width L.length = !fitAll L width := by
  unfold fullB fitAll
  rw [List.take_length, List.any_eq_not_all_not]
  congr 2
  funext x
  rw [Bool.eq_iff_iff]
  simp
theorem sq_le {x : Int} (h1 : -8392 ≤ x) (h2 : x ≤ 8392) : 0 ≤ x * x ∧ x * x ≤ 71000000 := by
  rcases Int.le_total 0 x with h | h
  · exact ⟨Int.mul_nonneg h h, Int.le_trans (Int.mul_le_mul h2 h2 h (by decide)) (by decide)⟩
  · have h3 : 0 ≤ -x := by omega
    have h4 : -x ≤ 8392 := by omega
    rw [show x * x = -x * -x by rw [Int.neg_mul_neg]]
    exact ⟨Int.mul_nonneg h3 h3, Int.le_trans (Int.mul_le_mul h4 h4 h3 (by decide)) (by decide)⟩
theorem sqS_bd2 {L : List (List Part)} {width : Int} (hw1 : 0 ≤ width) (hw : width ≤ 200) (hL : ∀ i, i < L.length → 0 ≤ cellsL (L.getD i []) ∧ cellsL (L.getD i []) ≤ 8192) : ∀ k : Nat, k ≤ L.length → 0 ≤ sqS L width k ∧ sqS L width k ≤ 71000000 * k
  | 0, _ => ⟨Int.le_refl _, Int.le_refl _⟩
  | k + 1, h => by
    have ih := sqS_bd2 hw1 hw hL k (by omega)
    have hc := hL k (by omega)
    have hq := sq_le (x := width - cellsL (L.getD k [])) (by omega) (by omega)
    rw [sqS_succ (by omega)]
    omega
theorem textL_size (s : ByteArray) (y : List Part) : (textL s y).size ≤ s.size := by
  unfold textL
  split
  · exact Nat.zero_le _
  · rw [ByteArray.size_extract]; omega
theorem cutS_end {way : List (Int × Int)} : cutS way (way.length + 1) = cutS way way.length := by
  unfold cutS
  rw [List.take_of_length_le (by omega), List.take_length]
end Go.SX.Plain
/- Contracts of cell.Of, utf.Runes, the laws' blank, bare. -/
namespace Go.SX.Try
open Go.Proofs Go.Proofs.Try Go.SX.Plain
set_option maxRecDepth 100000
set_option maxHeartbeats 0
set_option linter.unusedSimpArgs false
theorem q_cellOf : fact 15 f15 := ⟨by kernel_rfl, rfl, by kernel_rfl⟩
theorem q_uRunes : fact 34 f34 := ⟨by kernel_rfl, rfl, by kernel_rfl⟩
theorem q_blank10 : fact 35 f35 := ⟨by kernel_rfl, rfl, by kernel_rfl⟩
theorem q_bare10 : fact 14 f14 := ⟨by kernel_rfl, rfl, by kernel_rfl⟩
theorem con_uRunes : Con prog 34 (fun s : ByteArray => [.v (.string s)]) (fun s => .ro 1 C_run.enc C_run.d (runesL s) none) (fun s => s.size ≤ 2000000) := by
  refine Con.of (by kernel_rfl) T_ok CdsOK.nil .nil 2 [] q_uRunes.1 q_uRunes.2.1 q_uRunes.2.2 (fun _ => rfl) fun s hs => ?_
  have hs : s.size ≤ 2000000 := hs
  repeat' (first | (with_reducible first | exact fun h => h | refine ExE.row (by with_unfolding_all rfl) ?_ | refine And.intro ?_ ?_) | ((with_reducible intro hq); first | exact bne1 hq (by with_reducible assumption) | exact bne1 (by with_reducible assumption) hq | ((simp only [*, BB, cond_true, cond_false, reduceCtorEq] at hq); done) | (revert hq; with_reducible intro _)) | (with_reducible first | exact True.intro | rfl | refine EntLe.row ?_ | exact LeN.ro rfl | exact LeN.rptr | assumption) | ((with_reducible first | refine WkX.chk ?_ | refine Wk.chk ?_ | refine LeL.chk ?_ | refine LeF.chk ?_ | refine Run.mk ?_); (conv => whnf)) | ((with_reducible show LeO _ _); first | refine LeO.ro ?_ | refine LeO.roCap ?_ | refine LeO.nil ?_ (fun _ => rfl)) | ((with_reducible show LeR _ _ _); first | refine LeR.own rfl rfl rfl ?_ | refine LeR.view rfl rfl rfl ?_ ?_ | refine LeR.ro ?_ | refine LeR.roCap ?_ | refine LeR.nil ?_ (fun _ => rfl)) | ((with_reducible first | show drawOK _ _ = true | show lateOK _ _ = true | show drawOK2 _ _ = true | show drawOK3 _ _ = true); kernel_rfl))
  all_goals first
    | omega
    | trace_state
theorem con_blank10 : Con prog 35 (fun r : Int => [.v (.int .i32 r)]) (fun r => .sb (blankB r)) (fun _ => True) := by
  refine Con.of (by kernel_rfl) T_ok CdsOK.nil .nil 2 [] q_blank10.1 q_blank10.2.1 q_blank10.2.2 (fun _ => rfl) fun r _ => ?_
  have hb := blank_law r
  repeat' (first | (with_reducible first | exact fun h => h | refine ExE.row (by with_unfolding_all rfl) ?_ | refine And.intro ?_ ?_) | ((with_reducible intro hq); first | exact bne1 hq (by with_reducible assumption) | exact bne1 (by with_reducible assumption) hq | ((simp only [*, BB, cond_true, cond_false, reduceCtorEq] at hq); done) | (revert hq; with_reducible intro _)) | (with_reducible first | exact True.intro | rfl | refine EntLe.row ?_ | exact LeN.ro rfl | exact LeN.rptr | assumption) | ((with_reducible first | refine WkX.chk ?_ | refine Wk.chk ?_ | refine LeL.chk ?_ | refine LeF.chk ?_ | refine Run.mk ?_); (conv => whnf)) | ((with_reducible show LeO _ _); first | refine LeO.ro ?_ | refine LeO.roCap ?_ | refine LeO.nil ?_ (fun _ => rfl)) | ((with_reducible show LeR _ _ _); first | refine LeR.own rfl rfl rfl ?_ | refine LeR.view rfl rfl rfl ?_ ?_ | refine LeR.ro ?_ | refine LeR.roCap ?_ | refine LeR.nil ?_ (fun _ => rfl)) | ((with_reducible first | show drawOK _ _ = true | show lateOK _ _ = true | show drawOK2 _ _ = true | show drawOK3 _ _ = true); kernel_rfl))
  all_goals first
    | exact hb
    | ((with_reducible show (_ : Bool) = true); (first | (simp_all only [Bool.and_eq_true, and_self]; done) | (simp only [*, Bool.not_false, Bool.not_true, Bool.and_true, Bool.true_and]; done)))
    | trace_state
theorem con_cellOf : Con prog 15 (fun s : ByteArray => [.v (.string s)]) (fun s => .v (.int .i64 (cellsS s))) (fun s => s.size ≤ 2000000) := by
  refine Con.of (by kernel_rfl) T_ok CdsOK.nil (.inl (J := []) q_clusters.1 q_clusters.2.1 q_clusters.2.2 (.inl (J := []) q_clusters1.1 q_clusters1.2.1 q_clusters1.2.2 (.inl (J := [5]) q_clusters11.1 q_clusters11.2.1 q_clusters11.2.2
    (.meth (J := []) takesS q_takes.1 q_takes.2.1 q_takes.2.2 (.meth (J := []) addS q_add.1 q_add.2.1 q_add.2.2
    (.con con_width (.con con_control (.con con_flag .nil)))))))) 9 [] q_cellOf.1 q_cellOf.2.1 q_cellOf.2.2 (fun _ => rfl) fun s hs => ?_
  repeat' (first | (with_reducible first | exact fun h => h | refine ExE.row (by with_unfolding_all rfl) ?_ | refine And.intro ?_ ?_) | ((with_reducible intro hq); first | exact bne1 hq (by with_reducible assumption) | exact bne1 (by with_reducible assumption) hq | ((simp only [*, BB, cond_true, cond_false, reduceCtorEq] at hq); done) | (revert hq; with_reducible intro _)) | (with_reducible first | exact True.intro | rfl | refine EntLe.row ?_ | exact LeN.ro rfl | exact LeN.rptr | assumption) | ((with_reducible first | refine WkX.chk ?_ | refine Wk.chk ?_ | refine LeL.chk ?_ | refine LeF.chk ?_ | refine Run.mk ?_); (conv => whnf)) | ((with_reducible show LeO _ _); first | refine LeO.ro ?_ | refine LeO.roCap ?_ | refine LeO.nil ?_ (fun _ => rfl)) | ((with_reducible show LeR _ _ _); first | refine LeR.own rfl rfl rfl ?_ | refine LeR.view rfl rfl rfl ?_ ?_ | refine LeR.ro ?_ | refine LeR.roCap ?_ | refine LeR.nil ?_ (fun _ => rfl)) | ((with_reducible first | show drawOK _ _ = true | show lateOK _ _ = true | show drawOK2 _ _ = true | show drawOK3 _ _ = true); kernel_rfl))
  refine loopI St40 [] (fun _ => []) (fun | ⟨pos, at', was, begun, g, l⟩ => [(9, .iter s pos), (8, .box [.sb begun] 4), (7, .box [.v (.int .i32 was)] 21), (6, .box [.v (.int .i64 at')] 3), (5, .box (gAV g) 108), (0, .box [.v (.int .i64 (sumC l l.length))] 3)])
    (Inv40 s) (fun i => s.size - i.pos) ⟨0, 0, 0, false, Grp.zero, []⟩ (Inv40.zero s) (Wk.chk ?_) fun i hi => ?_
  · ((conv => whnf); repeat' (first | (with_reducible first | exact fun h => h | refine ExE.row (by with_unfolding_all rfl) ?_ | refine And.intro ?_ ?_) | ((with_reducible intro hq); first | exact bne1 hq (by with_reducible assumption) | exact bne1 (by with_reducible assumption) hq | ((simp only [*, BB, cond_true, cond_false, reduceCtorEq] at hq); done) | (revert hq; with_reducible intro _)) | (with_reducible first | exact True.intro | rfl | refine EntLe.row ?_ | exact LeN.ro rfl | exact LeN.rptr | assumption) | ((with_reducible first | refine WkX.chk ?_ | refine Wk.chk ?_ | refine LeL.chk ?_ | refine LeF.chk ?_ | refine Run.mk ?_); (conv => whnf)) | ((with_reducible show LeO _ _); first | refine LeO.ro ?_ | refine LeO.roCap ?_ | refine LeO.nil ?_ (fun _ => rfl)) | ((with_reducible show LeR _ _ _); first | refine LeR.own rfl rfl rfl ?_ | refine LeR.view rfl rfl rfl ?_ ?_ | refine LeR.ro ?_ | refine LeR.roCap ?_ | refine LeR.nil ?_ (fun _ => rfl)) | ((with_reducible first | show drawOK _ _ = true | show lateOK _ _ = true | show drawOK2 _ _ = true | show drawOK3 _ _ = true); kernel_rfl)))
    all_goals rfl
  obtain ⟨pos, at', was, begun, ⟨⟨ca, cl, cf, ct, cc⟩, gf, gl, ga⟩, l⟩ := i
  repeat' (first | (with_reducible first | refine ⟨_, ⟨.cons (.v _) .nil, trivial⟩, ?_⟩ | refine ⟨(_, _), ⟨.cons (.v _) (.cons (.v _) .nil), trivial⟩, ?_⟩ | refine loopI Unit [] (fun _ => []) (fun _ => []) (fun _ => True) (fun _ => 0) () trivial ?_ fun _ _ => ?_ | exact fun h => h | refine ExE.row (by with_unfolding_all rfl) ?_ | refine And.intro ?_ ?_) | ((with_reducible intro hq); first | exact bne1 hq (by with_reducible assumption) | exact bne1 (by with_reducible assumption) hq | ((simp only [*, BB, cond_true, cond_false, reduceCtorEq] at hq); done) | (revert hq; with_reducible intro _)) | (with_reducible first | exact True.intro | rfl | refine EntLe.row ?_ | exact LeN.ro rfl | exact LeN.rptr | assumption) | ((with_reducible first | refine WkX.chk ?_ | refine Wk.chk ?_ | refine LeL.chk ?_ | refine LeF.chk ?_ | refine Run.mk ?_); (conv => whnf)) | ((with_reducible show LeO _ _); first | refine LeO.ro ?_ | refine LeO.roCap ?_ | refine LeO.nil ?_ (fun _ => rfl)) | ((with_reducible show LeR _ _ _); first | refine LeR.own rfl rfl rfl ?_ | refine LeR.view rfl rfl rfl ?_ ?_ | refine LeR.ro ?_ | refine LeR.roCap ?_ | refine LeR.nil ?_ (fun _ => rfl)) | ((with_reducible first | show drawOK _ _ = true | show lateOK _ _ = true | show drawOK2 _ _ = true | show drawOK3 _ _ = true); kernel_rfl))
  · have low' : 0 < pos := by simp_all
    have hi' := hi
    obtain ⟨start, low, place, signs, full, told, all, bound⟩ := hi'
    have low := low low'
    dsimp only at low place signs full told bound
    have hpre := sum_pre (s := s) (l := l) hi.all
    have hout := hi.out low'
    have hJx : ∃ J : Grp × List Part, J = (preG begun ⟨⟨ca, cl, cf, ct, cc⟩, gf, gl, ga⟩ at' was, l ++ (signOut begun ⟨⟨ca, cl, cf, ct, cc⟩, gf, gl, ga⟩ was).map (partOf s)) := ⟨_, rfl⟩
    obtain ⟨J, hJ⟩ := hJx
    refine joinI (Grp × List Part) [] (fun _ => []) (fun | (g, l) => [(5, .box (gAV g) 108), (0, .box [.v (.int .i64 (sumC l l.length))] 3)]) (fun j => j = J) ?_ fun j hj => ?_
    · have hbb := Bool.eq_false_or_eq_true begun
      rcases hbb with hb | hb
      case inr =>
        subst hb
        have hp : preG false ⟨⟨ca, cl, cf, ct, cc⟩, gf, gl, ga⟩ at' was = ⟨⟨ca, cl, cf, ct, cc⟩, gf, gl, ga⟩ := rfl
        have ho : signOut false ⟨⟨ca, cl, cf, ct, cc⟩, gf, gl, ga⟩ was = [] := rfl
        rw [hp, ho] at hJ; subst hJ
        clear hp ho all hi full start
        repeat' (first | (with_reducible first | refine ex_eq ?_ | refine ⟨_, ⟨.cons (.v _) .nil, trivial⟩, ?_⟩ | refine ⟨(_, _), ⟨.cons (.v _) (.cons (.v _) .nil), trivial⟩, ?_⟩ | refine loopI Unit [] (fun _ => []) (fun _ => []) (fun _ => True) (fun _ => 0) () trivial ?_ fun _ _ => ?_ | exact fun h => h | refine ExE.row (by with_unfolding_all rfl) ?_ | refine And.intro ?_ ?_) | ((with_reducible intro hq); first | exact bne1 hq (by with_reducible assumption) | exact bne1 (by with_reducible assumption) hq | ((simp only [*, BB, cond_true, cond_false, reduceCtorEq] at hq); done) | (revert hq; with_reducible intro _)) | (with_reducible first | exact True.intro | rfl | refine EntLe.row ?_ | exact LeN.ro rfl | exact LeN.rptr | assumption) | ((with_reducible first | refine WkX.chk ?_ | refine Wk.chk ?_ | refine LeL.chk ?_ | refine LeF.chk ?_ | refine Run.mk ?_); (conv => whnf)) | ((with_reducible show LeO _ _); first | refine LeO.ro ?_ | refine LeO.roCap ?_ | refine LeO.nil ?_ (fun _ => rfl)) | ((with_reducible show LeR _ _ _); first | refine LeR.own rfl rfl rfl ?_ | refine LeR.view rfl rfl rfl ?_ ?_ | refine LeR.ro ?_ | refine LeR.roCap ?_ | refine LeR.nil ?_ (fun _ => rfl)) | ((with_reducible first | show drawOK _ _ = true | show lateOK _ _ = true | show drawOK2 _ _ = true | show drawOK3 _ _ = true); kernel_rfl))
        all_goals (simp only [List.map_nil, List.append_nil]; done)
      case inl =>
        subst hb
        have htt := Bool.eq_false_or_eq_true (takesB ⟨⟨ca, cl, cf, ct, cc⟩, gf, gl, ga⟩ was)
        rcases htt with htk | htk
        case inl =>
          have hp : preG true ⟨⟨ca, cl, cf, ct, cc⟩, gf, gl, ga⟩ at' was = ⟨⟨ca, cl, cf, ct, cc⟩, gf, gl, ga⟩ := by simp [preG, htk]
          have ho : signOut true ⟨⟨ca, cl, cf, ct, cc⟩, gf, gl, ga⟩ was = [] := by simp [signOut, htk]
          rw [hp, ho] at hJ; subst hJ
          clear hp ho all hi full start
          repeat' (first | (with_reducible first | refine ex_eq ?_ | refine ⟨_, ⟨.cons (.v _) .nil, trivial⟩, ?_⟩ | refine ⟨(_, _), ⟨.cons (.v _) (.cons (.v _) .nil), trivial⟩, ?_⟩ | refine loopI Unit [] (fun _ => []) (fun _ => []) (fun _ => True) (fun _ => 0) () trivial ?_ fun _ _ => ?_ | exact fun h => h | refine ExE.row (by with_unfolding_all rfl) ?_ | refine And.intro ?_ ?_) | ((with_reducible intro hq); first | exact bne1 hq (by with_reducible assumption) | exact bne1 (by with_reducible assumption) hq | ((simp only [*, BB, cond_true, cond_false, reduceCtorEq] at hq); done) | (revert hq; with_reducible intro _)) | (with_reducible first | exact True.intro | rfl | refine EntLe.row ?_ | exact LeN.ro rfl | exact LeN.rptr | assumption) | ((with_reducible first | refine WkX.chk ?_ | refine Wk.chk ?_ | refine LeL.chk ?_ | refine LeF.chk ?_ | refine Run.mk ?_); (conv => whnf)) | ((with_reducible show LeO _ _); first | refine LeO.ro ?_ | refine LeO.roCap ?_ | refine LeO.nil ?_ (fun _ => rfl)) | ((with_reducible show LeR _ _ _); first | refine LeR.own rfl rfl rfl ?_ | refine LeR.view rfl rfl rfl ?_ ?_ | refine LeR.ro ?_ | refine LeR.roCap ?_ | refine LeR.nil ?_ (fun _ => rfl)) | ((with_reducible first | show drawOK _ _ = true | show lateOK _ _ = true | show drawOK2 _ _ = true | show drawOK3 _ _ = true); kernel_rfl))
          all_goals (try dsimp only [C_part, bOf])
          all_goals first
            | omega
            | (refine Fits.i64 ?_ ?_ <;> omega)
            | (simp only [signAt]; done)
            | (with_reducible exact takes_1 (by assumption))
            | (with_reducible exact takes_2 (by first | exact .inl (by assumption) | exact .inr (by assumption)) (by assumption))
            | (with_reducible exact takes_3 (by first | exact .inl (by assumption) | exact .inr (by assumption)) (by assumption))
            | (with_reducible exact takes_4 (by first | exact .inl (by assumption) | exact .inr (by assumption)) (by assumption) (by assumption))
            | (simp only [List.map_nil, List.append_nil]; done)
            | exact (sum_snoc l (partOf s ⟨ca, cl, cf, ct, cc⟩)).symm
            | ((with_reducible show (_ : Bool) = true); (first | (simp_all only [Bool.and_eq_true, and_self]; done) | (simp only [*, Bool.not_false, Bool.not_true, Bool.and_true, Bool.true_and]; done)))
            | (simp only [List.length_cons, List.length_nil]; omega)
            | trace_state
        case inr =>
          have hp : preG true ⟨⟨ca, cl, cf, ct, cc⟩, gf, gl, ga⟩ at' was = ⟨⟨at', 0, ct, ct, 0⟩, 0, 0, false⟩ := by simp [preG, htk]
          have ho : signOut true ⟨⟨ca, cl, cf, ct, cc⟩, gf, gl, ga⟩ was = [⟨ca, cl, cf, ct, cc⟩] := by simp [signOut, htk]
          dsimp only at hout
          rw [ho] at hout
          obtain ⟨rr, hout⟩ := hout
          have hpo := sum_pre hout
          rw [List.map_cons, List.map_nil, sum_snoc] at hpo
          have hcc : (partOf s ⟨ca, cl, cf, ct, cc⟩).c.cells = cc := rfl
          rw [hcc] at hpo
          clear hout
          rw [hp, ho] at hJ; subst hJ
          have full := full rfl
          clear hp ho all hi start
          repeat' (first | (with_reducible first | refine ex_eq ?_ | refine ⟨_, ⟨.cons (.v _) .nil, trivial⟩, ?_⟩ | refine ⟨(_, _), ⟨.cons (.v _) (.cons (.v _) .nil), trivial⟩, ?_⟩ | refine loopI Unit [] (fun _ => []) (fun _ => []) (fun _ => True) (fun _ => 0) () trivial ?_ fun _ _ => ?_ | exact fun h => h | refine ExE.row (by with_unfolding_all rfl) ?_ | refine And.intro ?_ ?_) | ((with_reducible intro hq); first | exact bne1 hq (by with_reducible assumption) | exact bne1 (by with_reducible assumption) hq | ((simp only [*, BB, cond_true, cond_false, reduceCtorEq] at hq); done) | (revert hq; with_reducible intro _)) | (with_reducible first | exact True.intro | rfl | refine EntLe.row ?_ | exact LeN.ro rfl | exact LeN.rptr | assumption) | ((with_reducible first | refine WkX.chk ?_ | refine Wk.chk ?_ | refine LeL.chk ?_ | refine LeF.chk ?_ | refine Run.mk ?_); (conv => whnf)) | ((with_reducible show LeO _ _); first | refine LeO.ro ?_ | refine LeO.roCap ?_ | refine LeO.nil ?_ (fun _ => rfl)) | ((with_reducible show LeR _ _ _); first | refine LeR.own rfl rfl rfl ?_ | refine LeR.view rfl rfl rfl ?_ ?_ | refine LeR.ro ?_ | refine LeR.roCap ?_ | refine LeR.nil ?_ (fun _ => rfl)) | ((with_reducible first | show drawOK _ _ = true | show lateOK _ _ = true | show drawOK2 _ _ = true | show drawOK3 _ _ = true); kernel_rfl))
          all_goals (try dsimp only [C_part, bOf])
          all_goals first
            | omega
            | (refine Fits.i64 ?_ ?_ <;> omega)
            | (simp only [signAt]; done)
            | (with_reducible exact takes_1 (by assumption))
            | (with_reducible exact takes_2 (by first | exact .inl (by assumption) | exact .inr (by assumption)) (by assumption))
            | (with_reducible exact takes_3 (by first | exact .inl (by assumption) | exact .inr (by assumption)) (by assumption))
            | (with_reducible exact takes_4 (by first | exact .inl (by assumption) | exact .inr (by assumption)) (by assumption) (by assumption))
            | (simp only [List.map_nil, List.append_nil]; done)
            | exact (sum_snoc l (partOf s ⟨ca, cl, cf, ct, cc⟩)).symm
            | ((with_reducible show (_ : Bool) = true); (first | (simp_all only [Bool.and_eq_true, and_self]; done) | (simp only [*, Bool.not_false, Bool.not_true, Bool.and_true, Bool.true_and]; done)))
            | (simp only [List.length_cons, List.length_nil]; omega)
            | trace_state

    · obtain ⟨g', l'⟩ := j
      have hjj := Prod.mk.inj (hj.trans hJ)
      obtain ⟨hg, hl⟩ := hjj
      clear hJ
      have hzz := hi.pre low' hg
      obtain ⟨p1, p2, p3, p4, p5, p6⟩ := hzz
      clear hj
      have hnext := St40.next_pos (s := s) (i := ⟨pos, at', was, begun, ⟨⟨ca, cl, cf, ct, cc⟩, gf, gl, ga⟩, l⟩) low' hg hl
      have hinv := hi.next (by assumption)
      have hlt := St40.next_lt (s := s) (i := ⟨pos, at', was, begun, ⟨⟨ca, cl, cf, ct, cc⟩, gf, gl, ga⟩, l⟩) (by assumption)
      rw [hnext] at hinv hlt
      clear hnext hg hl start full told all hi
      obtain ⟨⟨ca, cl, cf, ct, cc⟩, gf, gl, ga⟩ := g'
      dsimp only at p1 p2 p3 p4 p5 p6
      have hxx : ∃ g2, addG ⟨⟨ca, cl, cf, ct, cc⟩, gf, gl, ga⟩ was (↑pos - at') = g2 := ⟨_, rfl⟩
      obtain ⟨g2, hg2⟩ := hxx
      rw [hg2] at hinv hlt
      obtain ⟨⟨a2, b2, c2, d2, e2⟩, f2, l2, r2⟩ := g2
      repeat' (first | (with_reducible first | refine ex_of _ ⟨hinv, hlt⟩ ?_ | refine ⟨_, ⟨.cons (.v _) .nil, trivial⟩, ?_⟩ | refine ⟨(_, _), ⟨.cons (.v _) (.cons (.v _) .nil), trivial⟩, ?_⟩ | refine loopI Unit [] (fun _ => []) (fun _ => []) (fun _ => True) (fun _ => 0) () trivial ?_ fun _ _ => ?_ | exact fun h => h | refine ExE.row (by with_unfolding_all rfl) ?_ | refine And.intro ?_ ?_) | ((with_reducible intro hq); first | exact bne1 hq (by with_reducible assumption) | exact bne1 (by with_reducible assumption) hq | ((simp only [*, BB, cond_true, cond_false, reduceCtorEq] at hq); done) | (revert hq; with_reducible intro _)) | (with_reducible first | exact True.intro | rfl | refine EntLe.row ?_ | exact LeN.ro rfl | exact LeN.rptr | assumption) | ((with_reducible first | refine WkX.chk ?_ | refine Wk.chk ?_ | refine LeL.chk ?_ | refine LeF.chk ?_ | refine Run.mk ?_); (conv => whnf)) | ((with_reducible show LeO _ _); first | refine LeO.ro ?_ | refine LeO.roCap ?_ | refine LeO.nil ?_ (fun _ => rfl)) | ((with_reducible show LeR _ _ _); first | refine LeR.own rfl rfl rfl ?_ | refine LeR.view rfl rfl rfl ?_ ?_ | refine LeR.ro ?_ | refine LeR.roCap ?_ | refine LeR.nil ?_ (fun _ => rfl)) | ((with_reducible first | show drawOK _ _ = true | show lateOK _ _ = true | show drawOK2 _ _ = true | show drawOK3 _ _ = true); kernel_rfl))
      all_goals (try clear hinv hlt)
      all_goals (try dsimp only [bOf])
      all_goals first
        | omega
        | (refine Fits.i64 ?_ ?_ <;> omega)
        | (simp only [signAt]; done)
        | (rw [hg2]; done)
        | (rw [add_1 (by assumption)]; done)
        | (rw [add_2 (by assumption) (by assumption)]; done)
        | (rw [add_3 (by assumption) (by assumption)]; done)
        | ((with_reducible show (_ : Bool) = true); (first | (simp_all only [Bool.and_eq_true, and_self]; done) | (simp only [*, Bool.not_false, Bool.not_true, Bool.and_true, Bool.true_and]; done)))
  · have hnext := St40.next_zero (s := s) (i := ⟨pos, at', was, begun, ⟨⟨ca, cl, cf, ct, cc⟩, gf, gl, ga⟩, l⟩) (by simp_all)
    have hinv := hi.next (by assumption)
    have hlt := St40.next_lt (s := s) (i := ⟨pos, at', was, begun, ⟨⟨ca, cl, cf, ct, cc⟩, gf, gl, ga⟩, l⟩) (by assumption)
    rw [hnext] at hinv hlt
    refine ⟨_, ⟨hinv, hlt⟩, ?_⟩
    clear hinv hlt hnext
    repeat' (first | (with_reducible first | exact fun h => h | refine ExE.row (by with_unfolding_all rfl) ?_ | refine And.intro ?_ ?_) | ((with_reducible intro hq); first | exact bne1 hq (by with_reducible assumption) | exact bne1 (by with_reducible assumption) hq | ((simp only [*, BB, cond_true, cond_false, reduceCtorEq] at hq); done) | (revert hq; with_reducible intro _)) | (with_reducible first | exact True.intro | rfl | refine EntLe.row ?_ | exact LeN.ro rfl | exact LeN.rptr | assumption) | ((with_reducible first | refine WkX.chk ?_ | refine Wk.chk ?_ | refine LeL.chk ?_ | refine LeF.chk ?_ | refine Run.mk ?_); (conv => whnf)) | ((with_reducible show LeO _ _); first | refine LeO.ro ?_ | refine LeO.roCap ?_ | refine LeO.nil ?_ (fun _ => rfl)) | ((with_reducible show LeR _ _ _); first | refine LeR.own rfl rfl rfl ?_ | refine LeR.view rfl rfl rfl ?_ ?_ | refine LeR.ro ?_ | refine LeR.roCap ?_ | refine LeR.nil ?_ (fun _ => rfl)) | ((with_reducible first | show drawOK _ _ = true | show lateOK _ _ = true | show drawOK2 _ _ = true | show drawOK3 _ _ = true); kernel_rfl))
    all_goals rfl
  · have hne : s.size ≠ 0 := by
      intro h
      have : s = ⟨#[]⟩ := by
        cases s with | mk d => have : d.size = 0 := h; simp_all
      simp_all
    have hi' := hi
    obtain ⟨start, low, place, signs, full, told, all, bound⟩ := hi'
    dsimp only at low place signs full told bound
    have hnp : ¬ pos < s.size := by assumption
    have low' : 0 < pos := by omega
    have low := low low'
    have hrest := rest_end hnp at' was begun ⟨⟨ca, cl, cf, ct, cc⟩, gf, gl, ga⟩
    rw [if_neg hne, signGrp_eq] at hrest
    dsimp only at all
    rw [hrest] at all
    clear hrest
    have hpre := sum_pre (s := s) (l := l) hi.all
    have hout := hi.out low'
    have hJx : ∃ J : Grp × List Part, J = (preG begun ⟨⟨ca, cl, cf, ct, cc⟩, gf, gl, ga⟩ at' was, l ++ (signOut begun ⟨⟨ca, cl, cf, ct, cc⟩, gf, gl, ga⟩ was).map (partOf s)) := ⟨_, rfl⟩
    obtain ⟨J, hJ⟩ := hJx
    refine joinI (Grp × List Part) [] (fun _ => []) (fun | (g, l) => [(5, .box (gAV g) 108), (0, .box [.v (.int .i64 (sumC l l.length))] 3)]) (fun j => j = J) ?_ fun j hj => ?_
    · have hbb := Bool.eq_false_or_eq_true begun
      rcases hbb with hb | hb
      case inr =>
        subst hb
        have hp : preG false ⟨⟨ca, cl, cf, ct, cc⟩, gf, gl, ga⟩ at' was = ⟨⟨ca, cl, cf, ct, cc⟩, gf, gl, ga⟩ := rfl
        have ho : signOut false ⟨⟨ca, cl, cf, ct, cc⟩, gf, gl, ga⟩ was = [] := rfl
        rw [hp, ho] at hJ; subst hJ
        clear hp ho all hi full start
        repeat' (first | (with_reducible first | refine ex_eq ?_ | refine ⟨_, ⟨.cons (.v _) .nil, trivial⟩, ?_⟩ | refine ⟨(_, _), ⟨.cons (.v _) (.cons (.v _) .nil), trivial⟩, ?_⟩ | refine loopI Unit [] (fun _ => []) (fun _ => []) (fun _ => True) (fun _ => 0) () trivial ?_ fun _ _ => ?_ | exact fun h => h | refine ExE.row (by with_unfolding_all rfl) ?_ | refine And.intro ?_ ?_) | ((with_reducible intro hq); first | exact bne1 hq (by with_reducible assumption) | exact bne1 (by with_reducible assumption) hq | ((simp only [*, BB, cond_true, cond_false, reduceCtorEq] at hq); done) | (revert hq; with_reducible intro _)) | (with_reducible first | exact True.intro | rfl | refine EntLe.row ?_ | exact LeN.ro rfl | exact LeN.rptr | assumption) | ((with_reducible first | refine WkX.chk ?_ | refine Wk.chk ?_ | refine LeL.chk ?_ | refine LeF.chk ?_ | refine Run.mk ?_); (conv => whnf)) | ((with_reducible show LeO _ _); first | refine LeO.ro ?_ | refine LeO.roCap ?_ | refine LeO.nil ?_ (fun _ => rfl)) | ((with_reducible show LeR _ _ _); first | refine LeR.own rfl rfl rfl ?_ | refine LeR.view rfl rfl rfl ?_ ?_ | refine LeR.ro ?_ | refine LeR.roCap ?_ | refine LeR.nil ?_ (fun _ => rfl)) | ((with_reducible first | show drawOK _ _ = true | show lateOK _ _ = true | show drawOK2 _ _ = true | show drawOK3 _ _ = true); kernel_rfl))
        all_goals (simp only [List.map_nil, List.append_nil]; done)
      case inl =>
        subst hb
        have htt := Bool.eq_false_or_eq_true (takesB ⟨⟨ca, cl, cf, ct, cc⟩, gf, gl, ga⟩ was)
        rcases htt with htk | htk
        case inl =>
          have hp : preG true ⟨⟨ca, cl, cf, ct, cc⟩, gf, gl, ga⟩ at' was = ⟨⟨ca, cl, cf, ct, cc⟩, gf, gl, ga⟩ := by simp [preG, htk]
          have ho : signOut true ⟨⟨ca, cl, cf, ct, cc⟩, gf, gl, ga⟩ was = [] := by simp [signOut, htk]
          rw [hp, ho] at hJ; subst hJ
          clear hp ho all hi full start
          repeat' (first | (with_reducible first | refine ex_eq ?_ | refine ⟨_, ⟨.cons (.v _) .nil, trivial⟩, ?_⟩ | refine ⟨(_, _), ⟨.cons (.v _) (.cons (.v _) .nil), trivial⟩, ?_⟩ | refine loopI Unit [] (fun _ => []) (fun _ => []) (fun _ => True) (fun _ => 0) () trivial ?_ fun _ _ => ?_ | exact fun h => h | refine ExE.row (by with_unfolding_all rfl) ?_ | refine And.intro ?_ ?_) | ((with_reducible intro hq); first | exact bne1 hq (by with_reducible assumption) | exact bne1 (by with_reducible assumption) hq | ((simp only [*, BB, cond_true, cond_false, reduceCtorEq] at hq); done) | (revert hq; with_reducible intro _)) | (with_reducible first | exact True.intro | rfl | refine EntLe.row ?_ | exact LeN.ro rfl | exact LeN.rptr | assumption) | ((with_reducible first | refine WkX.chk ?_ | refine Wk.chk ?_ | refine LeL.chk ?_ | refine LeF.chk ?_ | refine Run.mk ?_); (conv => whnf)) | ((with_reducible show LeO _ _); first | refine LeO.ro ?_ | refine LeO.roCap ?_ | refine LeO.nil ?_ (fun _ => rfl)) | ((with_reducible show LeR _ _ _); first | refine LeR.own rfl rfl rfl ?_ | refine LeR.view rfl rfl rfl ?_ ?_ | refine LeR.ro ?_ | refine LeR.roCap ?_ | refine LeR.nil ?_ (fun _ => rfl)) | ((with_reducible first | show drawOK _ _ = true | show lateOK _ _ = true | show drawOK2 _ _ = true | show drawOK3 _ _ = true); kernel_rfl))
          all_goals (try dsimp only [C_part, bOf])
          all_goals first
            | omega
            | (refine Fits.i64 ?_ ?_ <;> omega)
            | (simp only [signAt]; done)
            | (with_reducible exact takes_1 (by assumption))
            | (with_reducible exact takes_2 (by first | exact .inl (by assumption) | exact .inr (by assumption)) (by assumption))
            | (with_reducible exact takes_3 (by first | exact .inl (by assumption) | exact .inr (by assumption)) (by assumption))
            | (with_reducible exact takes_4 (by first | exact .inl (by assumption) | exact .inr (by assumption)) (by assumption) (by assumption))
            | (simp only [List.map_nil, List.append_nil]; done)
            | exact (sum_snoc l (partOf s ⟨ca, cl, cf, ct, cc⟩)).symm
            | ((with_reducible show (_ : Bool) = true); (first | (simp_all only [Bool.and_eq_true, and_self]; done) | (simp only [*, Bool.not_false, Bool.not_true, Bool.and_true, Bool.true_and]; done)))
            | (simp only [List.length_cons, List.length_nil]; omega)
            | trace_state
        case inr =>
          have hp : preG true ⟨⟨ca, cl, cf, ct, cc⟩, gf, gl, ga⟩ at' was = ⟨⟨at', 0, ct, ct, 0⟩, 0, 0, false⟩ := by simp [preG, htk]
          have ho : signOut true ⟨⟨ca, cl, cf, ct, cc⟩, gf, gl, ga⟩ was = [⟨ca, cl, cf, ct, cc⟩] := by simp [signOut, htk]
          dsimp only at hout
          rw [ho] at hout
          obtain ⟨rr, hout⟩ := hout
          have hpo := sum_pre hout
          rw [List.map_cons, List.map_nil, sum_snoc] at hpo
          have hcc : (partOf s ⟨ca, cl, cf, ct, cc⟩).c.cells = cc := rfl
          rw [hcc] at hpo
          clear hout
          rw [hp, ho] at hJ; subst hJ
          have full := full rfl
          clear hp ho all hi start
          repeat' (first | (with_reducible first | refine ex_eq ?_ | refine ⟨_, ⟨.cons (.v _) .nil, trivial⟩, ?_⟩ | refine ⟨(_, _), ⟨.cons (.v _) (.cons (.v _) .nil), trivial⟩, ?_⟩ | refine loopI Unit [] (fun _ => []) (fun _ => []) (fun _ => True) (fun _ => 0) () trivial ?_ fun _ _ => ?_ | exact fun h => h | refine ExE.row (by with_unfolding_all rfl) ?_ | refine And.intro ?_ ?_) | ((with_reducible intro hq); first | exact bne1 hq (by with_reducible assumption) | exact bne1 (by with_reducible assumption) hq | ((simp only [*, BB, cond_true, cond_false, reduceCtorEq] at hq); done) | (revert hq; with_reducible intro _)) | (with_reducible first | exact True.intro | rfl | refine EntLe.row ?_ | exact LeN.ro rfl | exact LeN.rptr | assumption) | ((with_reducible first | refine WkX.chk ?_ | refine Wk.chk ?_ | refine LeL.chk ?_ | refine LeF.chk ?_ | refine Run.mk ?_); (conv => whnf)) | ((with_reducible show LeO _ _); first | refine LeO.ro ?_ | refine LeO.roCap ?_ | refine LeO.nil ?_ (fun _ => rfl)) | ((with_reducible show LeR _ _ _); first | refine LeR.own rfl rfl rfl ?_ | refine LeR.view rfl rfl rfl ?_ ?_ | refine LeR.ro ?_ | refine LeR.roCap ?_ | refine LeR.nil ?_ (fun _ => rfl)) | ((with_reducible first | show drawOK _ _ = true | show lateOK _ _ = true | show drawOK2 _ _ = true | show drawOK3 _ _ = true); kernel_rfl))
          all_goals (try dsimp only [C_part, bOf])
          all_goals first
            | omega
            | (refine Fits.i64 ?_ ?_ <;> omega)
            | (simp only [signAt]; done)
            | (with_reducible exact takes_1 (by assumption))
            | (with_reducible exact takes_2 (by first | exact .inl (by assumption) | exact .inr (by assumption)) (by assumption))
            | (with_reducible exact takes_3 (by first | exact .inl (by assumption) | exact .inr (by assumption)) (by assumption))
            | (with_reducible exact takes_4 (by first | exact .inl (by assumption) | exact .inr (by assumption)) (by assumption) (by assumption))
            | (simp only [List.map_nil, List.append_nil]; done)
            | exact (sum_snoc l (partOf s ⟨ca, cl, cf, ct, cc⟩)).symm
            | ((with_reducible show (_ : Bool) = true); (first | (simp_all only [Bool.and_eq_true, and_self]; done) | (simp only [*, Bool.not_false, Bool.not_true, Bool.and_true, Bool.true_and]; done)))
            | (simp only [List.length_cons, List.length_nil]; omega)
            | trace_state

    · obtain ⟨g', l'⟩ := j
      have hjj := Prod.mk.inj (hj.trans hJ)
      obtain ⟨hg, hl⟩ := hjj
      clear hJ
      have hzz := hi.pre low' hg
      obtain ⟨p1, p2, p3, p4, p5, p6⟩ := hzz
      clear hj
      rw [← hg, List.map_append, ← List.append_assoc, ← hl] at all
      have hlen : (l'.length : Int) ≤ ct := by
        rw [hl]
        unfold signOut
        split
        · have := full (by simp_all)
          simp only [List.length_append, List.length_map, List.length_cons, List.length_nil]; omega
        · simp only [List.length_append, List.length_map, List.length_nil]; omega
      clear hg hl start full told hi
      obtain ⟨⟨ca, cl, cf, ct, cc⟩, gf, gl, ga⟩ := g'
      dsimp only at p1 p2 p3 p4 p5 p6
      have hzz := addG_c ⟨⟨ca, cl, cf, ct, cc⟩, gf, gl, ga⟩ was (↑s.size - at')
      obtain ⟨q1, q2, q3, q4⟩ := hzz
      have hxx : ∃ g2, addG ⟨⟨ca, cl, cf, ct, cc⟩, gf, gl, ga⟩ was (↑s.size - at') = g2 := ⟨_, rfl⟩
      obtain ⟨g2, hA⟩ := hxx
      rw [hA] at all q1 q2 q3 q4
      obtain ⟨⟨a2, b2, c2, d2, e2⟩, f2, l2, r2⟩ := g2
      dsimp only at q1 q2 q3 q4
      subst q1 q2 q3 q4
      have hzz := add_inj hA
      obtain ⟨k1, k2, k3⟩ := hzz
      repeat' (first | (with_reducible first | refine ⟨_, ⟨.cons (.v _) .nil, trivial⟩, ?_⟩ | refine ⟨(_, _), ⟨.cons (.v _) (.cons (.v _) .nil), trivial⟩, ?_⟩ | refine loopI Unit [] (fun _ => []) (fun _ => []) (fun _ => True) (fun _ => 0) () trivial ?_ fun _ _ => ?_ | exact fun h => h | refine ExE.row (by with_unfolding_all rfl) ?_ | refine And.intro ?_ ?_) | ((with_reducible intro hq); first | exact bne1 hq (by with_reducible assumption) | exact bne1 (by with_reducible assumption) hq | ((simp only [*, BB, cond_true, cond_false, reduceCtorEq] at hq); done) | (revert hq; with_reducible intro _)) | (with_reducible first | exact True.intro | rfl | refine EntLe.row ?_ | exact LeN.ro rfl | exact LeN.rptr | assumption) | ((with_reducible first | refine WkX.chk ?_ | refine Wk.chk ?_ | refine LeL.chk ?_ | refine LeF.chk ?_ | refine Run.mk ?_); (conv => whnf)) | ((with_reducible show LeO _ _); first | refine LeO.ro ?_ | refine LeO.roCap ?_ | refine LeO.nil ?_ (fun _ => rfl)) | ((with_reducible show LeR _ _ _); first | refine LeR.own rfl rfl rfl ?_ | refine LeR.view rfl rfl rfl ?_ ?_ | refine LeR.ro ?_ | refine LeR.roCap ?_ | refine LeR.nil ?_ (fun _ => rfl)) | ((with_reducible first | show drawOK _ _ = true | show lateOK _ _ = true | show drawOK2 _ _ = true | show drawOK3 _ _ = true); kernel_rfl))
      all_goals (try dsimp only [C_part, bOf])
      all_goals (try simp only [hA] at *)
      all_goals first
        | omega
        | (refine Fits.i64 ?_ ?_ <;> omega)
        | (simp only [signAt]; done)
        | (with_reducible exact (k1 (by assumption)).1)
        | (with_reducible exact (k1 (by assumption)).2.1)
        | (with_reducible exact (k1 (by assumption)).2.2.1)
        | (with_reducible exact (k1 (by assumption)).2.2.2)
        | (with_reducible exact (k2 (by assumption) (by assumption)).1)
        | (with_reducible exact (k2 (by assumption) (by assumption)).2.1)
        | (with_reducible exact (k2 (by assumption) (by assumption)).2.2.1)
        | (with_reducible exact (k2 (by assumption) (by assumption)).2.2.2)
        | (with_reducible exact (k3 (by assumption) (by assumption)).1)
        | (with_reducible exact (k3 (by assumption) (by assumption)).2.1)
        | (with_reducible exact (k3 (by assumption) (by assumption)).2.2.1)
        | (with_reducible exact (k3 (by assumption) (by assumption)).2.2.2)
        | ((with_reducible show (_ : Bool) = true); (first | (simp_all only [Bool.and_eq_true, and_self]; done) | (simp only [*, Bool.not_false, Bool.not_true, Bool.and_true, Bool.true_and]; done)))
        | (simp only [List.length_cons, List.length_nil]; omega)
        | skip
      all_goals rw [List.map_cons, List.map_nil] at all
      all_goals have hfp := sum_pre (s := s) (l := l' ++ [partOf s ⟨a2, cl + (↑s.size - at'), c2, ct + 1, e2⟩]) (r := []) (by rw [List.append_nil]; exact all)
      all_goals rw [sum_snoc] at hfp
      all_goals have hec : (partOf s ⟨a2, cl + (↑s.size - at'), c2, ct + 1, e2⟩).c.cells = e2 := rfl
      all_goals rw [hec] at hfp
      all_goals first
        | (apply Fits.i64 <;> omega)
        | (unfold cellsS; rw [all, sum_snoc, hec]; done)
        | trace_state
  · have : s.size = 0 := by
      have h : (!decide (s = ⟨#[]⟩)) = false := by assumption
      simp only [Bool.not_eq_false', decide_eq_true_eq] at h
      rw [h]; rfl
    have hrest := rest_end (s := s) (pos := pos) (by assumption) at' was begun ⟨⟨ca, cl, cf, ct, cc⟩, gf, gl, ga⟩
    rw [if_pos this] at hrest
    have all := hi.all
    dsimp only at all
    rw [hrest] at all
    unfold cellsS
    rw [all, List.map_nil, List.append_nil]
end Go.SX.Try
/- Contracts of cell.Of, utf.Runes, the laws' blank, bare. -/

namespace Go.SX.Try
open Go.Proofs Go.Proofs.Try Go.SX.Plain
set_option maxRecDepth 100000
set_option maxHeartbeats 0
set_option linter.unusedSimpArgs false
def C_cl : Cdc Clu where
  size := 5
  enc c := [.v (.int .i64 c.at), .v (.int .i64 c.len), .v (.int .i64 c.frm), .v (.int .i64 c.to), .v (.int .i64 c.cells)]
  dec l := match l with
    | [.v (.int _ a), .v (.int _ b), .v (.int _ c), .v (.int _ d), .v (.int _ e)] => ⟨a, b, c, d, e⟩
    | _ => ⟨0, 0, 0, 0, 0⟩
  d := ⟨0, 0, 0, 0, 0⟩
def D_cl : Cds := [(67, ⟨Clu, C_cl⟩)]
theorem D_cl_ok : CdsOK T D_cl := .cons ⟨fun _ => rfl, by decide, _, rfl, rfl, by decide⟩ .nil
theorem con_bare10 : Con prog 14 (fun s : ByteArray => [.v (.string s)]) (fun s => .v (.string (bareT s))) (fun s => s.size ≤ 2000000) := by
  refine Con.of (by kernel_rfl) T_ok D_cl_ok (.inl (J := []) q_clusters.1 q_clusters.2.1 q_clusters.2.2 (.inl (J := []) q_clusters1.1 q_clusters1.2.1 q_clusters1.2.2 (.inl (J := [5]) q_clusters11.1 q_clusters11.2.1 q_clusters11.2.2
    (.meth (J := []) takesS q_takes.1 q_takes.2.1 q_takes.2.2 (.meth (J := []) addS q_add.1 q_add.2.1 q_add.2.2
    (.con con_width (.con con_control (.con con_flag (.con con_uRunes (.con con_blank10 .nil)))))))))) 9 [] q_bare10.1 q_bare10.2.1 q_bare10.2.2 (fun _ => rfl) fun s hs => ?_
  have hs : s.size ≤ 2000000 := hs
  repeat' (first | (with_reducible first | exact fun h => h | refine ExE.row (by with_unfolding_all rfl) ?_ | refine And.intro ?_ ?_) | ((with_reducible intro hq); first | exact bne1 hq (by with_reducible assumption) | exact bne1 (by with_reducible assumption) hq | ((simp only [*, BB, cond_true, cond_false, reduceCtorEq] at hq); done) | (revert hq; with_reducible intro _)) | (with_reducible first | exact True.intro | rfl | refine EntLe.row ?_ | exact LeN.ro rfl | exact LeN.rptr | assumption) | ((with_reducible first | refine WkX.chk ?_ | refine Wk.chk ?_ | refine LeL.chk ?_ | refine LeF.chk ?_ | refine Run.mk ?_); (conv => whnf)) | ((with_reducible show LeO _ _); first | refine LeO.ro ?_ | refine LeO.roCap ?_ | refine LeO.nil ?_ (fun _ => rfl)) | ((with_reducible show LeR _ _ _); first | refine LeR.own rfl rfl rfl ?_ | refine LeR.view rfl rfl rfl ?_ ?_ | refine LeR.ro ?_ | refine LeR.roCap ?_ | refine LeR.nil ?_ (fun _ => rfl)) | ((with_reducible first | show drawOK _ _ = true | show lateOK _ _ = true | show drawOK2 _ _ = true | show drawOK3 _ _ = true); kernel_rfl))
  refine loopI St40 [] (fun _ => []) (fun | ⟨pos, at', was, begun, g, l⟩ => [(10, .iter s pos), (9, .box [.sb begun] 4), (8, .box [.v (.int .i32 was)] 21), (7, .box [.v (.int .i64 at')] 3), (6, .box (gAV g) 108), (0, .row C_cl (l.map fun p => p.c) 67 none)])
    (Inv40 s) (fun i => s.size - i.pos) ⟨0, 0, 0, false, Grp.zero, []⟩ (Inv40.zero s) (Wk.chk ?_) fun i hi => ?_
  · ((conv => whnf); repeat' (first | (with_reducible first | exact fun h => h | refine ExE.row (by with_unfolding_all rfl) ?_ | refine And.intro ?_ ?_) | ((with_reducible intro hq); first | exact bne1 hq (by with_reducible assumption) | exact bne1 (by with_reducible assumption) hq | ((simp only [*, BB, cond_true, cond_false, reduceCtorEq] at hq); done) | (revert hq; with_reducible intro _)) | (with_reducible first | exact True.intro | rfl | refine EntLe.row ?_ | exact LeN.ro rfl | exact LeN.rptr | assumption) | ((with_reducible first | refine WkX.chk ?_ | refine Wk.chk ?_ | refine LeL.chk ?_ | refine LeF.chk ?_ | refine Run.mk ?_); (conv => whnf)) | ((with_reducible show LeO _ _); first | refine LeO.ro ?_ | refine LeO.roCap ?_ | refine LeO.nil ?_ (fun _ => rfl)) | ((with_reducible show LeR _ _ _); first | refine LeR.own rfl rfl rfl ?_ | refine LeR.view rfl rfl rfl ?_ ?_ | refine LeR.ro ?_ | refine LeR.roCap ?_ | refine LeR.nil ?_ (fun _ => rfl)) | ((with_reducible first | show drawOK _ _ = true | show lateOK _ _ = true | show drawOK2 _ _ = true | show drawOK3 _ _ = true); kernel_rfl)))
    all_goals rfl
  obtain ⟨pos, at', was, begun, ⟨⟨ca, cl, cf, ct, cc⟩, gf, gl, ga⟩, l⟩ := i
  repeat' (first | (with_reducible first | refine ⟨_, ⟨.cons (.v _) .nil, trivial⟩, ?_⟩ | refine ⟨(_, _), ⟨.cons (.v _) (.cons (.v _) .nil), trivial⟩, ?_⟩ | exact fun h => h | refine ExE.row (by with_unfolding_all rfl) ?_ | refine And.intro ?_ ?_) | ((with_reducible intro hq); first | exact bne1 hq (by with_reducible assumption) | exact bne1 (by with_reducible assumption) hq | ((simp only [*, BB, cond_true, cond_false, reduceCtorEq] at hq); done) | (revert hq; with_reducible intro _)) | (with_reducible first | exact True.intro | rfl | refine EntLe.row ?_ | exact LeN.ro rfl | exact LeN.rptr | assumption) | ((with_reducible first | refine WkX.chk ?_ | refine Wk.chk ?_ | refine LeL.chk ?_ | refine LeF.chk ?_ | refine Run.mk ?_); (conv => whnf)) | ((with_reducible show LeO _ _); first | refine LeO.ro ?_ | refine LeO.roCap ?_ | refine LeO.nil ?_ (fun _ => rfl)) | ((with_reducible show LeR _ _ _); first | refine LeR.own rfl rfl rfl ?_ | refine LeR.view rfl rfl rfl ?_ ?_ | refine LeR.ro ?_ | refine LeR.roCap ?_ | refine LeR.nil ?_ (fun _ => rfl)) | ((with_reducible first | show drawOK _ _ = true | show lateOK _ _ = true | show drawOK2 _ _ = true | show drawOK3 _ _ = true); kernel_rfl))
  · have low' : 0 < pos := by simp_all
    have hi' := hi
    obtain ⟨start, low, place, signs, full, told, all, bound⟩ := hi'
    have low := low low'
    dsimp only at low place signs full told bound
    have hpre := sum_pre (s := s) (l := l) hi.all
    have hout := hi.out low'
    have hJx : ∃ J : Grp × List Part, J = (preG begun ⟨⟨ca, cl, cf, ct, cc⟩, gf, gl, ga⟩ at' was, l ++ (signOut begun ⟨⟨ca, cl, cf, ct, cc⟩, gf, gl, ga⟩ was).map (partOf s)) := ⟨_, rfl⟩
    obtain ⟨J, hJ⟩ := hJx
    refine joinI (Grp × List Part) [] (fun _ => []) (fun | (g, l) => [(6, .box (gAV g) 108), (0, .row C_cl (l.map fun p => p.c) 67 none)]) (fun j => j = J) ?_ fun j hj => ?_
    · have hbb := Bool.eq_false_or_eq_true begun
      rcases hbb with hb | hb
      case inr =>
        subst hb
        have hp : preG false ⟨⟨ca, cl, cf, ct, cc⟩, gf, gl, ga⟩ at' was = ⟨⟨ca, cl, cf, ct, cc⟩, gf, gl, ga⟩ := rfl
        have ho : signOut false ⟨⟨ca, cl, cf, ct, cc⟩, gf, gl, ga⟩ was = [] := rfl
        rw [hp, ho] at hJ; subst hJ
        clear hp ho all hi full start
        repeat' (first | (with_reducible first | refine ex_eq ?_ | refine ⟨_, ⟨.cons (.v _) .nil, trivial⟩, ?_⟩ | refine ⟨(_, _), ⟨.cons (.v _) (.cons (.v _) .nil), trivial⟩, ?_⟩ | refine loopI Unit [] (fun _ => []) (fun _ => []) (fun _ => True) (fun _ => 0) () trivial ?_ fun _ _ => ?_ | exact fun h => h | refine ExE.row (by with_unfolding_all rfl) ?_ | refine And.intro ?_ ?_) | ((with_reducible intro hq); first | exact bne1 hq (by with_reducible assumption) | exact bne1 (by with_reducible assumption) hq | ((simp only [*, BB, cond_true, cond_false, reduceCtorEq] at hq); done) | (revert hq; with_reducible intro _)) | (with_reducible first | exact True.intro | rfl | refine EntLe.row ?_ | exact LeN.ro rfl | exact LeN.rptr | assumption) | ((with_reducible first | refine WkX.chk ?_ | refine Wk.chk ?_ | refine LeL.chk ?_ | refine LeF.chk ?_ | refine Run.mk ?_); (conv => whnf)) | ((with_reducible show LeO _ _); first | refine LeO.ro ?_ | refine LeO.roCap ?_ | refine LeO.nil ?_ (fun _ => rfl)) | ((with_reducible show LeR _ _ _); first | refine LeR.own rfl rfl rfl ?_ | refine LeR.view rfl rfl rfl ?_ ?_ | refine LeR.ro ?_ | refine LeR.roCap ?_ | refine LeR.nil ?_ (fun _ => rfl)) | ((with_reducible first | show drawOK _ _ = true | show lateOK _ _ = true | show drawOK2 _ _ = true | show drawOK3 _ _ = true); kernel_rfl))
        all_goals (simp only [List.map_nil, List.append_nil]; done)
      case inl =>
        subst hb
        have htt := Bool.eq_false_or_eq_true (takesB ⟨⟨ca, cl, cf, ct, cc⟩, gf, gl, ga⟩ was)
        rcases htt with htk | htk
        case inl =>
          have hp : preG true ⟨⟨ca, cl, cf, ct, cc⟩, gf, gl, ga⟩ at' was = ⟨⟨ca, cl, cf, ct, cc⟩, gf, gl, ga⟩ := by simp [preG, htk]
          have ho : signOut true ⟨⟨ca, cl, cf, ct, cc⟩, gf, gl, ga⟩ was = [] := by simp [signOut, htk]
          rw [hp, ho] at hJ; subst hJ
          clear hp ho all hi full start
          repeat' (first | (with_reducible first | refine ex_eq ?_ | refine ⟨_, ⟨.cons (.v _) .nil, trivial⟩, ?_⟩ | refine ⟨(_, _), ⟨.cons (.v _) (.cons (.v _) .nil), trivial⟩, ?_⟩ | refine loopI Unit [] (fun _ => []) (fun _ => []) (fun _ => True) (fun _ => 0) () trivial ?_ fun _ _ => ?_ | exact fun h => h | refine ExE.row (by with_unfolding_all rfl) ?_ | refine And.intro ?_ ?_) | ((with_reducible intro hq); first | exact bne1 hq (by with_reducible assumption) | exact bne1 (by with_reducible assumption) hq | ((simp only [*, BB, cond_true, cond_false, reduceCtorEq] at hq); done) | (revert hq; with_reducible intro _)) | (with_reducible first | exact True.intro | rfl | refine EntLe.row ?_ | exact LeN.ro rfl | exact LeN.rptr | assumption) | ((with_reducible first | refine WkX.chk ?_ | refine Wk.chk ?_ | refine LeL.chk ?_ | refine LeF.chk ?_ | refine Run.mk ?_); (conv => whnf)) | ((with_reducible show LeO _ _); first | refine LeO.ro ?_ | refine LeO.roCap ?_ | refine LeO.nil ?_ (fun _ => rfl)) | ((with_reducible show LeR _ _ _); first | refine LeR.own rfl rfl rfl ?_ | refine LeR.view rfl rfl rfl ?_ ?_ | refine LeR.ro ?_ | refine LeR.roCap ?_ | refine LeR.nil ?_ (fun _ => rfl)) | ((with_reducible first | show drawOK _ _ = true | show lateOK _ _ = true | show drawOK2 _ _ = true | show drawOK3 _ _ = true); kernel_rfl))
          all_goals (try dsimp only [C_cl, bOf])
          all_goals first
            | omega
            | (refine Fits.i64 ?_ ?_ <;> omega)
            | (simp only [signAt]; done)
            | (with_reducible exact takes_1 (by assumption))
            | (with_reducible exact takes_2 (by first | exact .inl (by assumption) | exact .inr (by assumption)) (by assumption))
            | (with_reducible exact takes_3 (by first | exact .inl (by assumption) | exact .inr (by assumption)) (by assumption))
            | (with_reducible exact takes_4 (by first | exact .inl (by assumption) | exact .inr (by assumption)) (by assumption) (by assumption))
            | (simp only [List.map_nil, List.append_nil]; done)
            | (rw [List.map_append]; rfl)
            | (simp only [List.length_map, List.length_cons, List.length_nil]; omega)
            | ((with_reducible show (_ : Bool) = true); (first | (simp_all only [Bool.and_eq_true, and_self]; done) | (simp only [*, Bool.not_false, Bool.not_true, Bool.and_true, Bool.true_and]; done)))
            | (simp only [List.length_cons, List.length_nil]; omega)
            | trace_state
        case inr =>
          have hp : preG true ⟨⟨ca, cl, cf, ct, cc⟩, gf, gl, ga⟩ at' was = ⟨⟨at', 0, ct, ct, 0⟩, 0, 0, false⟩ := by simp [preG, htk]
          have ho : signOut true ⟨⟨ca, cl, cf, ct, cc⟩, gf, gl, ga⟩ was = [⟨ca, cl, cf, ct, cc⟩] := by simp [signOut, htk]
          dsimp only at hout
          rw [ho] at hout
          obtain ⟨rr, hout⟩ := hout
          have hpo := sum_pre hout
          rw [List.map_cons, List.map_nil, sum_snoc] at hpo
          have hcc : (partOf s ⟨ca, cl, cf, ct, cc⟩).c.cells = cc := rfl
          rw [hcc] at hpo
          clear hout
          rw [hp, ho] at hJ; subst hJ
          have full := full rfl
          clear hp ho all hi start
          repeat' (first | (with_reducible first | refine ex_eq ?_ | refine ⟨_, ⟨.cons (.v _) .nil, trivial⟩, ?_⟩ | refine ⟨(_, _), ⟨.cons (.v _) (.cons (.v _) .nil), trivial⟩, ?_⟩ | refine loopI Unit [] (fun _ => []) (fun _ => []) (fun _ => True) (fun _ => 0) () trivial ?_ fun _ _ => ?_ | exact fun h => h | refine ExE.row (by with_unfolding_all rfl) ?_ | refine And.intro ?_ ?_) | ((with_reducible intro hq); first | exact bne1 hq (by with_reducible assumption) | exact bne1 (by with_reducible assumption) hq | ((simp only [*, BB, cond_true, cond_false, reduceCtorEq] at hq); done) | (revert hq; with_reducible intro _)) | (with_reducible first | exact True.intro | rfl | refine EntLe.row ?_ | exact LeN.ro rfl | exact LeN.rptr | assumption) | ((with_reducible first | refine WkX.chk ?_ | refine Wk.chk ?_ | refine LeL.chk ?_ | refine LeF.chk ?_ | refine Run.mk ?_); (conv => whnf)) | ((with_reducible show LeO _ _); first | refine LeO.ro ?_ | refine LeO.roCap ?_ | refine LeO.nil ?_ (fun _ => rfl)) | ((with_reducible show LeR _ _ _); first | refine LeR.own rfl rfl rfl ?_ | refine LeR.view rfl rfl rfl ?_ ?_ | refine LeR.ro ?_ | refine LeR.roCap ?_ | refine LeR.nil ?_ (fun _ => rfl)) | ((with_reducible first | show drawOK _ _ = true | show lateOK _ _ = true | show drawOK2 _ _ = true | show drawOK3 _ _ = true); kernel_rfl))
          all_goals (try dsimp only [C_cl, bOf])
          all_goals first
            | omega
            | (refine Fits.i64 ?_ ?_ <;> omega)
            | (simp only [signAt]; done)
            | (with_reducible exact takes_1 (by assumption))
            | (with_reducible exact takes_2 (by first | exact .inl (by assumption) | exact .inr (by assumption)) (by assumption))
            | (with_reducible exact takes_3 (by first | exact .inl (by assumption) | exact .inr (by assumption)) (by assumption))
            | (with_reducible exact takes_4 (by first | exact .inl (by assumption) | exact .inr (by assumption)) (by assumption) (by assumption))
            | (simp only [List.map_nil, List.append_nil]; done)
            | (rw [List.map_append]; rfl)
            | (simp only [List.length_map, List.length_cons, List.length_nil]; omega)
            | ((with_reducible show (_ : Bool) = true); (first | (simp_all only [Bool.and_eq_true, and_self]; done) | (simp only [*, Bool.not_false, Bool.not_true, Bool.and_true, Bool.true_and]; done)))
            | (simp only [List.length_cons, List.length_nil]; omega)
            | trace_state

    · obtain ⟨g', l'⟩ := j
      have hjj := Prod.mk.inj (hj.trans hJ)
      obtain ⟨hg, hl⟩ := hjj
      clear hJ
      have hzz := hi.pre low' hg
      obtain ⟨p1, p2, p3, p4, p5, p6⟩ := hzz
      clear hj
      have hnext := St40.next_pos (s := s) (i := ⟨pos, at', was, begun, ⟨⟨ca, cl, cf, ct, cc⟩, gf, gl, ga⟩, l⟩) low' hg hl
      have hinv := hi.next (by assumption)
      have hlt := St40.next_lt (s := s) (i := ⟨pos, at', was, begun, ⟨⟨ca, cl, cf, ct, cc⟩, gf, gl, ga⟩, l⟩) (by assumption)
      rw [hnext] at hinv hlt
      clear hnext hg hl start full told all hi
      obtain ⟨⟨ca, cl, cf, ct, cc⟩, gf, gl, ga⟩ := g'
      dsimp only at p1 p2 p3 p4 p5 p6
      have hxx : ∃ g2, addG ⟨⟨ca, cl, cf, ct, cc⟩, gf, gl, ga⟩ was (↑pos - at') = g2 := ⟨_, rfl⟩
      obtain ⟨g2, hg2⟩ := hxx
      rw [hg2] at hinv hlt
      obtain ⟨⟨a2, b2, c2, d2, e2⟩, f2, l2, r2⟩ := g2
      repeat' (first | (with_reducible first | refine ex_of _ ⟨hinv, hlt⟩ ?_ | refine ⟨_, ⟨.cons (.v _) .nil, trivial⟩, ?_⟩ | refine ⟨(_, _), ⟨.cons (.v _) (.cons (.v _) .nil), trivial⟩, ?_⟩ | refine loopI Unit [] (fun _ => []) (fun _ => []) (fun _ => True) (fun _ => 0) () trivial ?_ fun _ _ => ?_ | exact fun h => h | refine ExE.row (by with_unfolding_all rfl) ?_ | refine And.intro ?_ ?_) | ((with_reducible intro hq); first | exact bne1 hq (by with_reducible assumption) | exact bne1 (by with_reducible assumption) hq | ((simp only [*, BB, cond_true, cond_false, reduceCtorEq] at hq); done) | (revert hq; with_reducible intro _)) | (with_reducible first | exact True.intro | rfl | refine EntLe.row ?_ | exact LeN.ro rfl | exact LeN.rptr | assumption) | ((with_reducible first | refine WkX.chk ?_ | refine Wk.chk ?_ | refine LeL.chk ?_ | refine LeF.chk ?_ | refine Run.mk ?_); (conv => whnf)) | ((with_reducible show LeO _ _); first | refine LeO.ro ?_ | refine LeO.roCap ?_ | refine LeO.nil ?_ (fun _ => rfl)) | ((with_reducible show LeR _ _ _); first | refine LeR.own rfl rfl rfl ?_ | refine LeR.view rfl rfl rfl ?_ ?_ | refine LeR.ro ?_ | refine LeR.roCap ?_ | refine LeR.nil ?_ (fun _ => rfl)) | ((with_reducible first | show drawOK _ _ = true | show lateOK _ _ = true | show drawOK2 _ _ = true | show drawOK3 _ _ = true); kernel_rfl))
      all_goals (try clear hinv hlt)
      all_goals (try dsimp only [bOf])
      all_goals first
        | omega
        | (refine Fits.i64 ?_ ?_ <;> omega)
        | (simp only [signAt]; done)
        | (rw [hg2]; done)
        | (rw [add_1 (by assumption)]; done)
        | (rw [add_2 (by assumption) (by assumption)]; done)
        | (rw [add_3 (by assumption) (by assumption)]; done)
        | ((with_reducible show (_ : Bool) = true); (first | (simp_all only [Bool.and_eq_true, and_self]; done) | (simp only [*, Bool.not_false, Bool.not_true, Bool.and_true, Bool.true_and]; done)))
  · have hnext := St40.next_zero (s := s) (i := ⟨pos, at', was, begun, ⟨⟨ca, cl, cf, ct, cc⟩, gf, gl, ga⟩, l⟩) (by simp_all)
    have hinv := hi.next (by assumption)
    have hlt := St40.next_lt (s := s) (i := ⟨pos, at', was, begun, ⟨⟨ca, cl, cf, ct, cc⟩, gf, gl, ga⟩, l⟩) (by assumption)
    rw [hnext] at hinv hlt
    refine ⟨_, ⟨hinv, hlt⟩, ?_⟩
    clear hinv hlt hnext
    repeat' (first | (with_reducible first | exact fun h => h | refine ExE.row (by with_unfolding_all rfl) ?_ | refine And.intro ?_ ?_) | ((with_reducible intro hq); first | exact bne1 hq (by with_reducible assumption) | exact bne1 (by with_reducible assumption) hq | ((simp only [*, BB, cond_true, cond_false, reduceCtorEq] at hq); done) | (revert hq; with_reducible intro _)) | (with_reducible first | exact True.intro | rfl | refine EntLe.row ?_ | exact LeN.ro rfl | exact LeN.rptr | assumption) | ((with_reducible first | refine WkX.chk ?_ | refine Wk.chk ?_ | refine LeL.chk ?_ | refine LeF.chk ?_ | refine Run.mk ?_); (conv => whnf)) | ((with_reducible show LeO _ _); first | refine LeO.ro ?_ | refine LeO.roCap ?_ | refine LeO.nil ?_ (fun _ => rfl)) | ((with_reducible show LeR _ _ _); first | refine LeR.own rfl rfl rfl ?_ | refine LeR.view rfl rfl rfl ?_ ?_ | refine LeR.ro ?_ | refine LeR.roCap ?_ | refine LeR.nil ?_ (fun _ => rfl)) | ((with_reducible first | show drawOK _ _ = true | show lateOK _ _ = true | show drawOK2 _ _ = true | show drawOK3 _ _ = true); kernel_rfl))
    all_goals rfl
  · have hne : s.size ≠ 0 := by
      intro h
      have : s = ⟨#[]⟩ := by
        cases s with | mk d => have : d.size = 0 := h; simp_all
      simp_all
    have hi' := hi
    obtain ⟨start, low, place, signs, full, told, all, bound⟩ := hi'
    dsimp only at low place signs full told bound
    have hnp : ¬ pos < s.size := by assumption
    have low' : 0 < pos := by omega
    have low := low low'
    have hrest := rest_end hnp at' was begun ⟨⟨ca, cl, cf, ct, cc⟩, gf, gl, ga⟩
    rw [if_neg hne, signGrp_eq] at hrest
    dsimp only at all
    rw [hrest] at all
    clear hrest
    have hpre := sum_pre (s := s) (l := l) hi.all
    have hout := hi.out low'
    have hJx : ∃ J : Grp × List Part, J = (preG begun ⟨⟨ca, cl, cf, ct, cc⟩, gf, gl, ga⟩ at' was, l ++ (signOut begun ⟨⟨ca, cl, cf, ct, cc⟩, gf, gl, ga⟩ was).map (partOf s)) := ⟨_, rfl⟩
    obtain ⟨J, hJ⟩ := hJx
    refine joinI (Grp × List Part) [] (fun _ => []) (fun | (g, l) => [(6, .box (gAV g) 108), (0, .row C_cl (l.map fun p => p.c) 67 none)]) (fun j => j = J) ?_ fun j hj => ?_
    · have hbb := Bool.eq_false_or_eq_true begun
      rcases hbb with hb | hb
      case inr =>
        subst hb
        have hp : preG false ⟨⟨ca, cl, cf, ct, cc⟩, gf, gl, ga⟩ at' was = ⟨⟨ca, cl, cf, ct, cc⟩, gf, gl, ga⟩ := rfl
        have ho : signOut false ⟨⟨ca, cl, cf, ct, cc⟩, gf, gl, ga⟩ was = [] := rfl
        rw [hp, ho] at hJ; subst hJ
        clear hp ho all hi full start
        repeat' (first | (with_reducible first | refine ex_eq ?_ | refine ⟨_, ⟨.cons (.v _) .nil, trivial⟩, ?_⟩ | refine ⟨(_, _), ⟨.cons (.v _) (.cons (.v _) .nil), trivial⟩, ?_⟩ | refine loopI Unit [] (fun _ => []) (fun _ => []) (fun _ => True) (fun _ => 0) () trivial ?_ fun _ _ => ?_ | exact fun h => h | refine ExE.row (by with_unfolding_all rfl) ?_ | refine And.intro ?_ ?_) | ((with_reducible intro hq); first | exact bne1 hq (by with_reducible assumption) | exact bne1 (by with_reducible assumption) hq | ((simp only [*, BB, cond_true, cond_false, reduceCtorEq] at hq); done) | (revert hq; with_reducible intro _)) | (with_reducible first | exact True.intro | rfl | refine EntLe.row ?_ | exact LeN.ro rfl | exact LeN.rptr | assumption) | ((with_reducible first | refine WkX.chk ?_ | refine Wk.chk ?_ | refine LeL.chk ?_ | refine LeF.chk ?_ | refine Run.mk ?_); (conv => whnf)) | ((with_reducible show LeO _ _); first | refine LeO.ro ?_ | refine LeO.roCap ?_ | refine LeO.nil ?_ (fun _ => rfl)) | ((with_reducible show LeR _ _ _); first | refine LeR.own rfl rfl rfl ?_ | refine LeR.view rfl rfl rfl ?_ ?_ | refine LeR.ro ?_ | refine LeR.roCap ?_ | refine LeR.nil ?_ (fun _ => rfl)) | ((with_reducible first | show drawOK _ _ = true | show lateOK _ _ = true | show drawOK2 _ _ = true | show drawOK3 _ _ = true); kernel_rfl))
        all_goals (simp only [List.map_nil, List.append_nil]; done)
      case inl =>
        subst hb
        have htt := Bool.eq_false_or_eq_true (takesB ⟨⟨ca, cl, cf, ct, cc⟩, gf, gl, ga⟩ was)
        rcases htt with htk | htk
        case inl =>
          have hp : preG true ⟨⟨ca, cl, cf, ct, cc⟩, gf, gl, ga⟩ at' was = ⟨⟨ca, cl, cf, ct, cc⟩, gf, gl, ga⟩ := by simp [preG, htk]
          have ho : signOut true ⟨⟨ca, cl, cf, ct, cc⟩, gf, gl, ga⟩ was = [] := by simp [signOut, htk]
          rw [hp, ho] at hJ; subst hJ
          clear hp ho all hi full start
          repeat' (first | (with_reducible first | refine ex_eq ?_ | refine ⟨_, ⟨.cons (.v _) .nil, trivial⟩, ?_⟩ | refine ⟨(_, _), ⟨.cons (.v _) (.cons (.v _) .nil), trivial⟩, ?_⟩ | refine loopI Unit [] (fun _ => []) (fun _ => []) (fun _ => True) (fun _ => 0) () trivial ?_ fun _ _ => ?_ | exact fun h => h | refine ExE.row (by with_unfolding_all rfl) ?_ | refine And.intro ?_ ?_) | ((with_reducible intro hq); first | exact bne1 hq (by with_reducible assumption) | exact bne1 (by with_reducible assumption) hq | ((simp only [*, BB, cond_true, cond_false, reduceCtorEq] at hq); done) | (revert hq; with_reducible intro _)) | (with_reducible first | exact True.intro | rfl | refine EntLe.row ?_ | exact LeN.ro rfl | exact LeN.rptr | assumption) | ((with_reducible first | refine WkX.chk ?_ | refine Wk.chk ?_ | refine LeL.chk ?_ | refine LeF.chk ?_ | refine Run.mk ?_); (conv => whnf)) | ((with_reducible show LeO _ _); first | refine LeO.ro ?_ | refine LeO.roCap ?_ | refine LeO.nil ?_ (fun _ => rfl)) | ((with_reducible show LeR _ _ _); first | refine LeR.own rfl rfl rfl ?_ | refine LeR.view rfl rfl rfl ?_ ?_ | refine LeR.ro ?_ | refine LeR.roCap ?_ | refine LeR.nil ?_ (fun _ => rfl)) | ((with_reducible first | show drawOK _ _ = true | show lateOK _ _ = true | show drawOK2 _ _ = true | show drawOK3 _ _ = true); kernel_rfl))
          all_goals (try dsimp only [C_cl, bOf])
          all_goals first
            | omega
            | (refine Fits.i64 ?_ ?_ <;> omega)
            | (simp only [signAt]; done)
            | (with_reducible exact takes_1 (by assumption))
            | (with_reducible exact takes_2 (by first | exact .inl (by assumption) | exact .inr (by assumption)) (by assumption))
            | (with_reducible exact takes_3 (by first | exact .inl (by assumption) | exact .inr (by assumption)) (by assumption))
            | (with_reducible exact takes_4 (by first | exact .inl (by assumption) | exact .inr (by assumption)) (by assumption) (by assumption))
            | (simp only [List.map_nil, List.append_nil]; done)
            | (rw [List.map_append]; rfl)
            | (simp only [List.length_map, List.length_cons, List.length_nil]; omega)
            | ((with_reducible show (_ : Bool) = true); (first | (simp_all only [Bool.and_eq_true, and_self]; done) | (simp only [*, Bool.not_false, Bool.not_true, Bool.and_true, Bool.true_and]; done)))
            | (simp only [List.length_cons, List.length_nil]; omega)
            | trace_state
        case inr =>
          have hp : preG true ⟨⟨ca, cl, cf, ct, cc⟩, gf, gl, ga⟩ at' was = ⟨⟨at', 0, ct, ct, 0⟩, 0, 0, false⟩ := by simp [preG, htk]
          have ho : signOut true ⟨⟨ca, cl, cf, ct, cc⟩, gf, gl, ga⟩ was = [⟨ca, cl, cf, ct, cc⟩] := by simp [signOut, htk]
          dsimp only at hout
          rw [ho] at hout
          obtain ⟨rr, hout⟩ := hout
          have hpo := sum_pre hout
          rw [List.map_cons, List.map_nil, sum_snoc] at hpo
          have hcc : (partOf s ⟨ca, cl, cf, ct, cc⟩).c.cells = cc := rfl
          rw [hcc] at hpo
          clear hout
          rw [hp, ho] at hJ; subst hJ
          have full := full rfl
          clear hp ho all hi start
          repeat' (first | (with_reducible first | refine ex_eq ?_ | refine ⟨_, ⟨.cons (.v _) .nil, trivial⟩, ?_⟩ | refine ⟨(_, _), ⟨.cons (.v _) (.cons (.v _) .nil), trivial⟩, ?_⟩ | refine loopI Unit [] (fun _ => []) (fun _ => []) (fun _ => True) (fun _ => 0) () trivial ?_ fun _ _ => ?_ | exact fun h => h | refine ExE.row (by with_unfolding_all rfl) ?_ | refine And.intro ?_ ?_) | ((with_reducible intro hq); first | exact bne1 hq (by with_reducible assumption) | exact bne1 (by with_reducible assumption) hq | ((simp only [*, BB, cond_true, cond_false, reduceCtorEq] at hq); done) | (revert hq; with_reducible intro _)) | (with_reducible first | exact True.intro | rfl | refine EntLe.row ?_ | exact LeN.ro rfl | exact LeN.rptr | assumption) | ((with_reducible first | refine WkX.chk ?_ | refine Wk.chk ?_ | refine LeL.chk ?_ | refine LeF.chk ?_ | refine Run.mk ?_); (conv => whnf)) | ((with_reducible show LeO _ _); first | refine LeO.ro ?_ | refine LeO.roCap ?_ | refine LeO.nil ?_ (fun _ => rfl)) | ((with_reducible show LeR _ _ _); first | refine LeR.own rfl rfl rfl ?_ | refine LeR.view rfl rfl rfl ?_ ?_ | refine LeR.ro ?_ | refine LeR.roCap ?_ | refine LeR.nil ?_ (fun _ => rfl)) | ((with_reducible first | show drawOK _ _ = true | show lateOK _ _ = true | show drawOK2 _ _ = true | show drawOK3 _ _ = true); kernel_rfl))
          all_goals (try dsimp only [C_cl, bOf])
          all_goals first
            | omega
            | (refine Fits.i64 ?_ ?_ <;> omega)
            | (simp only [signAt]; done)
            | (with_reducible exact takes_1 (by assumption))
            | (with_reducible exact takes_2 (by first | exact .inl (by assumption) | exact .inr (by assumption)) (by assumption))
            | (with_reducible exact takes_3 (by first | exact .inl (by assumption) | exact .inr (by assumption)) (by assumption))
            | (with_reducible exact takes_4 (by first | exact .inl (by assumption) | exact .inr (by assumption)) (by assumption) (by assumption))
            | (simp only [List.map_nil, List.append_nil]; done)
            | (rw [List.map_append]; rfl)
            | (simp only [List.length_map, List.length_cons, List.length_nil]; omega)
            | ((with_reducible show (_ : Bool) = true); (first | (simp_all only [Bool.and_eq_true, and_self]; done) | (simp only [*, Bool.not_false, Bool.not_true, Bool.and_true, Bool.true_and]; done)))
            | (simp only [List.length_cons, List.length_nil]; omega)
            | trace_state

    · obtain ⟨g', l'⟩ := j
      have hjj := Prod.mk.inj (hj.trans hJ)
      obtain ⟨hg, hl⟩ := hjj
      clear hJ
      have hzz := hi.pre low' hg
      obtain ⟨p1, p2, p3, p4, p5, p6⟩ := hzz
      clear hj
      rw [← hg, List.map_append, ← List.append_assoc, ← hl] at all
      have hlen : (l'.length : Int) ≤ ct := by
        rw [hl]
        unfold signOut
        split
        · have := full (by simp_all)
          simp only [List.length_append, List.length_map, List.length_cons, List.length_nil]; omega
        · simp only [List.length_append, List.length_map, List.length_nil]; omega
      clear hg hl start full told hi
      obtain ⟨⟨ca, cl, cf, ct, cc⟩, gf, gl, ga⟩ := g'
      dsimp only at p1 p2 p3 p4 p5 p6
      have hzz := addG_c ⟨⟨ca, cl, cf, ct, cc⟩, gf, gl, ga⟩ was (↑s.size - at')
      obtain ⟨q1, q2, q3, q4⟩ := hzz
      have hxx : ∃ g2, addG ⟨⟨ca, cl, cf, ct, cc⟩, gf, gl, ga⟩ was (↑s.size - at') = g2 := ⟨_, rfl⟩
      obtain ⟨g2, hA⟩ := hxx
      rw [hA] at all q1 q2 q3 q4
      obtain ⟨⟨a2, b2, c2, d2, e2⟩, f2, l2, r2⟩ := g2
      dsimp only at q1 q2 q3 q4
      subst q1 q2 q3 q4
      have hzz := add_inj hA
      obtain ⟨k1, k2, k3⟩ := hzz
      repeat' (first | (with_reducible first | refine ⟨_, ⟨.cons (.v _) .nil, trivial⟩, ?_⟩ | refine ⟨(_, _), ⟨.cons (.v _) (.cons (.v _) .nil), trivial⟩, ?_⟩ | exact fun h => h | refine ExE.row (by with_unfolding_all rfl) ?_ | refine And.intro ?_ ?_) | ((with_reducible intro hq); first | exact bne1 hq (by with_reducible assumption) | exact bne1 (by with_reducible assumption) hq | ((simp only [*, BB, cond_true, cond_false, reduceCtorEq] at hq); done) | (revert hq; with_reducible intro _)) | (with_reducible first | exact True.intro | rfl | refine EntLe.row ?_ | exact LeN.ro rfl | exact LeN.rptr | assumption) | ((with_reducible first | refine WkX.chk ?_ | refine Wk.chk ?_ | refine LeL.chk ?_ | refine LeF.chk ?_ | refine Run.mk ?_); (conv => whnf)) | ((with_reducible show LeO _ _); first | refine LeO.ro ?_ | refine LeO.roCap ?_ | refine LeO.nil ?_ (fun _ => rfl)) | ((with_reducible show LeR _ _ _); first | refine LeR.own rfl rfl rfl ?_ | refine LeR.view rfl rfl rfl ?_ ?_ | refine LeR.ro ?_ | refine LeR.roCap ?_ | refine LeR.nil ?_ (fun _ => rfl)) | ((with_reducible first | show drawOK _ _ = true | show lateOK _ _ = true | show drawOK2 _ _ = true | show drawOK3 _ _ = true); kernel_rfl))
      rotate_right
      · skip
        have hXx : ∃ X, X = (Plain.parts s).map fun p => p.c := ⟨_, rfl⟩
        obtain ⟨X, hX⟩ := hXx
        have hXl : X.length = (Plain.parts s).length := by rw [hX, List.length_map]
        have hpl := parts_len s
        refine loopI Int [] (fun i => [(7, .v (.int .i64 i)), (3, .v (.int .i64 (bareAt s (i + 1).toNat))), (4, .sb (decide ((i + 1).toNat = (Plain.parts s).length)))]) (fun _ => [(0, .row C_cl X 67 none)]) (fun i => -1 ≤ i ∧ BareI s (i + 1).toNat) (fun i => (i + 1).toNat) (((Plain.parts s).length : Int) - 1) ⟨by omega, by rw [show (((Plain.parts s).length : Int) - 1 + 1).toNat = (Plain.parts s).length by omega]; exact ⟨Nat.le_refl _, fun h => absurd h (Nat.lt_irrefl _)⟩⟩ (Wk.chk ?_) fun i hi => ?_
        · ((conv => whnf); repeat' (first | (with_reducible first | exact fun h => h | refine ExE.row (by with_unfolding_all rfl) ?_ | refine And.intro ?_ ?_) | ((with_reducible intro hq); first | exact bne1 hq (by with_reducible assumption) | exact bne1 (by with_reducible assumption) hq | ((simp only [*, BB, cond_true, cond_false, reduceCtorEq] at hq); done) | (revert hq; with_reducible intro _)) | (with_reducible first | exact True.intro | rfl | refine EntLe.row ?_ | exact LeN.ro rfl | exact LeN.rptr | assumption) | ((with_reducible first | refine WkX.chk ?_ | refine Wk.chk ?_ | refine LeL.chk ?_ | refine LeF.chk ?_ | refine Run.mk ?_); (conv => whnf)) | ((with_reducible show LeO _ _); first | refine LeO.ro ?_ | refine LeO.roCap ?_ | refine LeO.nil ?_ (fun _ => rfl)) | ((with_reducible show LeR _ _ _); first | refine LeR.own rfl rfl rfl ?_ | refine LeR.view rfl rfl rfl ?_ ?_ | refine LeR.ro ?_ | refine LeR.roCap ?_ | refine LeR.nil ?_ (fun _ => rfl)) | ((with_reducible first | show drawOK _ _ = true | show lateOK _ _ = true | show drawOK2 _ _ = true | show drawOK3 _ _ = true); kernel_rfl)))
          all_goals first
            | (rw [hX, all] at *; simp; done)
            | (dsimp only [C_cl, bOf]; rw [hA]; dsimp only; rw [hX, all, List.map_append]; rfl)
            | (rw [show (((Plain.parts s).length : Int) - 1 + 1).toNat = (Plain.parts s).length by omega]; unfold bareAt; rw [if_pos rfl]; done)
            | (rw [show (((Plain.parts s).length : Int) - 1 + 1).toNat = (Plain.parts s).length by omega]; exact (decide_eq_true rfl).symm)
            | trace_state
        obtain ⟨hi0, hi1⟩ := hi
        by_cases hneg : i = -1
        · subst hneg
          have hng : decide (0 ≤ (-1 : Int)) = false := rfl
          have hbb := bareAt_bd (s := s) (j := 0) (Nat.zero_le _)
          rw [show (-1 + 1 : Int).toNat = 0 from rfl] at hi1
          repeat' (first | (with_reducible first | exact fun h => h | refine ExE.row (by with_unfolding_all rfl) ?_ | refine And.intro ?_ ?_) | ((with_reducible intro hq); first | exact bne1 hq (by with_reducible assumption) | exact bne1 (by with_reducible assumption) hq | ((simp only [*, BB, cond_true, cond_false, reduceCtorEq] at hq); done) | (revert hq; with_reducible intro _)) | (with_reducible first | exact True.intro | rfl | refine EntLe.row ?_ | exact LeN.ro rfl | exact LeN.rptr | assumption) | ((with_reducible first | refine WkX.chk ?_ | refine Wk.chk ?_ | refine LeL.chk ?_ | refine LeF.chk ?_ | refine Run.mk ?_); (conv => whnf)) | ((with_reducible show LeO _ _); first | refine LeO.ro ?_ | refine LeO.roCap ?_ | refine LeO.nil ?_ (fun _ => rfl)) | ((with_reducible show LeR _ _ _); first | refine LeR.own rfl rfl rfl ?_ | refine LeR.view rfl rfl rfl ?_ ?_ | refine LeR.ro ?_ | refine LeR.roCap ?_ | refine LeR.nil ?_ (fun _ => rfl)) | ((with_reducible first | show drawOK _ _ = true | show lateOK _ _ = true | show drawOK2 _ _ = true | show drawOK3 _ _ = true); kernel_rfl))
          all_goals first
            | exact bare_end hi1
            | exact hbb.1
            | exact hbb.2
            | trace_state
        obtain ⟨k, rfl⟩ := Int.eq_ofNat_of_zero_le (a := i) (by omega)
        have e2 : ((k : Int) + 1).toNat = k + 1 := by omega
        rw [e2] at hi1
        have hk : k < (Plain.parts s).length := by have := hi1.1; omega
        have hg : X.getD ((k : Int)).toNat C_cl.d = ((Plain.parts s).getD k dPart).c := by
          rw [Int.toNat_natCast, hX]
          exact getD_map (fun p : Part => p.c) (Plain.parts s) dPart k
        obtain ⟨F, T', a1, a2', a3, a4, a5, a6⟩ := part_cl s hk
        have hle := posS_le s T'
        have hmo := posS_mono s (i := F) (j := T') (by omega) a2'
        obtain ⟨hr1, hr2⟩ := part_first (s := s) hk
        obtain ⟨hl1, hl2⟩ := part_look (s := s) hk
        have hR : (runesL (s.extract (X.getD ((k : Int)).toNat C_cl.d).at.toNat ((X.getD ((k : Int)).toNat C_cl.d).at + (X.getD ((k : Int)).toNat C_cl.d).len).toNat)).getD (0 : Int).toNat C_run.d = ((Plain.parts s).getD k dPart).first := by rw [hg]; exact hr1
        have hRl : 0 < (runesL (s.extract (X.getD ((k : Int)).toNat C_cl.d).at.toNat ((X.getD ((k : Int)).toNat C_cl.d).at + (X.getD ((k : Int)).toNat C_cl.d).len).toNat)).length := by rw [hg]; exact hr2
        have hsz : (s.extract (X.getD ((k : Int)).toNat C_cl.d).at.toNat ((X.getD ((k : Int)).toNat C_cl.d).at + (X.getD ((k : Int)).toNat C_cl.d).len).toNat).size ≤ s.size := by rw [ByteArray.size_extract]; omega
        have hBC := bare_cond (n := X.length) hi1 hXl _ hR hk
        rw [← e2] at hBC
        obtain ⟨hB1, hB2, hB3⟩ := hBC
        have hng : decide (0 ≤ (k : Int)) = true := decide_eq_true (by omega)
        have hbb := bareAt_bd (s := s) (j := k + 1) hi1.1
        rw [← e2] at hbb
        have hbv : (X.getD ((k : Int)).toNat C_cl.d).at = bareAt s ((k : Int) - 1 + 1).toNat := by
          rw [hg, show ((k : Int) - 1 + 1).toNat = k by omega]
          unfold bareAt
          rw [if_neg (by omega)]
        have hat : (X.getD ((k : Int)).toNat C_cl.d).at = (posS s F : Nat) := by rw [hg]; exact a5
        have hln : (X.getD ((k : Int)).toNat C_cl.d).at + (X.getD ((k : Int)).toNat C_cl.d).len = (posS s T' : Nat) := by rw [hg]; exact a6
        clear hR hr1 hr2 hl1 hl2 hX
        repeat' (first | (with_reducible first | refine ⟨_, ⟨(.cons (.v _) .nil), ?_⟩, ?_⟩ | refine ex_of (α := Int) ((k : Int) - 1) ⟨⟨?_, ?_⟩, ?_⟩ ?_ | exact fun h => h | refine ExE.row (by with_unfolding_all rfl) ?_ | refine And.intro ?_ ?_) | ((with_reducible intro hq); first | exact bne1 hq (by with_reducible assumption) | exact bne1 (by with_reducible assumption) hq | ((simp only [*, BB, cond_true, cond_false, reduceCtorEq] at hq); done) | (revert hq; with_reducible intro _)) | (with_reducible first | exact True.intro | rfl | refine EntLe.row ?_ | exact LeN.ro rfl | exact LeN.rptr | assumption) | ((with_reducible first | refine WkX.chk ?_ | refine Wk.chk ?_ | refine LeL.chk ?_ | refine LeF.chk ?_ | refine Run.mk ?_); (conv => whnf)) | ((with_reducible show LeO _ _); first | refine LeO.ro ?_ | refine LeO.roCap ?_ | refine LeO.nil ?_ (fun _ => rfl)) | ((with_reducible show LeR _ _ _); first | refine LeR.own rfl rfl rfl ?_ | refine LeR.view rfl rfl rfl ?_ ?_ | refine LeR.ro ?_ | refine LeR.roCap ?_ | refine LeR.nil ?_ (fun _ => rfl)) | ((with_reducible first | show drawOK _ _ = true | show lateOK _ _ = true | show drawOK2 _ _ = true | show drawOK3 _ _ = true); kernel_rfl))
        all_goals first
          | omega
          | (apply Fits.i64 <;> omega)
          | (rw [hXl]; omega)
          | (rw [show ((k : Int) - 1 + 1).toNat = k by omega]; first | exact hB1 (by assumption) | exact hB2 (by assumption))
          | exact hB3 (by assumption)
          | exact hbv
          | exact hRl
          | (rw [decide_eq_false (by omega)]; done)
          | (dsimp only; omega)
          | trace_state
      all_goals (try rw [hA])
      all_goals (try dsimp only [C_cl, bOf])
      all_goals first
        | omega
        | (refine Fits.i64 ?_ ?_ <;> omega)
        | (simp only [signAt]; done)
        | (with_reducible exact (k1 (by assumption)).1)
        | (with_reducible exact (k1 (by assumption)).2.1)
        | (with_reducible exact (k1 (by assumption)).2.2.1)
        | (with_reducible exact (k1 (by assumption)).2.2.2)
        | (with_reducible exact (k2 (by assumption) (by assumption)).1)
        | (with_reducible exact (k2 (by assumption) (by assumption)).2.1)
        | (with_reducible exact (k2 (by assumption) (by assumption)).2.2.1)
        | (with_reducible exact (k2 (by assumption) (by assumption)).2.2.2)
        | (with_reducible exact (k3 (by assumption) (by assumption)).1)
        | (with_reducible exact (k3 (by assumption) (by assumption)).2.1)
        | (with_reducible exact (k3 (by assumption) (by assumption)).2.2.1)
        | (with_reducible exact (k3 (by assumption) (by assumption)).2.2.2)
        | ((with_reducible show (_ : Bool) = true); (first | (simp_all only [Bool.and_eq_true, and_self]; done) | (simp only [*, Bool.not_false, Bool.not_true, Bool.and_true, Bool.true_and]; done)))
        | (simp only [List.length_cons, List.length_nil]; omega)
        | skip
      all_goals first
        | (simp only [List.length_map, List.length_cons, List.length_nil]; omega)
        | (rw [List.length_append, List.length_map]; simp only [List.length_cons, List.length_nil]; apply Fits.i64 <;> omega)
        | trace_state
  · have h1 := parts_len s
    have h2 := congrArg List.length hi.all
    rw [List.length_append] at h2
    rw [List.length_map]
    dsimp only at h2
    apply Fits.i64 <;> omega
  · have : s.size = 0 := by
      have h : (!decide (s = ⟨#[]⟩)) = false := by assumption
      simp only [Bool.not_eq_false', decide_eq_true_eq] at h
      rw [h]; rfl
    have hrest := rest_end (s := s) (pos := pos) (by assumption) at' was begun ⟨⟨ca, cl, cf, ct, cc⟩, gf, gl, ga⟩
    rw [if_pos this] at hrest
    have all := hi.all
    dsimp only at all
    rw [hrest] at all
    have hXx : ∃ X, X = (Plain.parts s).map fun p => p.c := ⟨_, rfl⟩
    obtain ⟨X, hX⟩ := hXx
    have hXl : X.length = (Plain.parts s).length := by rw [hX, List.length_map]
    have hpl := parts_len s
    refine loopI Int [] (fun i => [(7, .v (.int .i64 i)), (3, .v (.int .i64 (bareAt s (i + 1).toNat))), (4, .sb (decide ((i + 1).toNat = (Plain.parts s).length)))]) (fun _ => [(0, .row C_cl X 67 none)]) (fun i => -1 ≤ i ∧ BareI s (i + 1).toNat) (fun i => (i + 1).toNat) (((Plain.parts s).length : Int) - 1) ⟨by omega, by rw [show (((Plain.parts s).length : Int) - 1 + 1).toNat = (Plain.parts s).length by omega]; exact ⟨Nat.le_refl _, fun h => absurd h (Nat.lt_irrefl _)⟩⟩ (Wk.chk ?_) fun i hi => ?_
    · ((conv => whnf); repeat' (first | (with_reducible first | exact fun h => h | refine ExE.row (by with_unfolding_all rfl) ?_ | refine And.intro ?_ ?_) | ((with_reducible intro hq); first | exact bne1 hq (by with_reducible assumption) | exact bne1 (by with_reducible assumption) hq | ((simp only [*, BB, cond_true, cond_false, reduceCtorEq] at hq); done) | (revert hq; with_reducible intro _)) | (with_reducible first | exact True.intro | rfl | refine EntLe.row ?_ | exact LeN.ro rfl | exact LeN.rptr | assumption) | ((with_reducible first | refine WkX.chk ?_ | refine Wk.chk ?_ | refine LeL.chk ?_ | refine LeF.chk ?_ | refine Run.mk ?_); (conv => whnf)) | ((with_reducible show LeO _ _); first | refine LeO.ro ?_ | refine LeO.roCap ?_ | refine LeO.nil ?_ (fun _ => rfl)) | ((with_reducible show LeR _ _ _); first | refine LeR.own rfl rfl rfl ?_ | refine LeR.view rfl rfl rfl ?_ ?_ | refine LeR.ro ?_ | refine LeR.roCap ?_ | refine LeR.nil ?_ (fun _ => rfl)) | ((with_reducible first | show drawOK _ _ = true | show lateOK _ _ = true | show drawOK2 _ _ = true | show drawOK3 _ _ = true); kernel_rfl)))
      all_goals first
        | (rw [hX, all] at *; simp; done)
        | (rw [hX, all, List.map_nil, List.append_nil]; done)
        | (rw [show (((Plain.parts s).length : Int) - 1 + 1).toNat = (Plain.parts s).length by omega]; unfold bareAt; rw [if_pos rfl]; done)
        | (rw [show (((Plain.parts s).length : Int) - 1 + 1).toNat = (Plain.parts s).length by omega]; exact (decide_eq_true rfl).symm)
        | trace_state
    obtain ⟨hi0, hi1⟩ := hi
    by_cases hneg : i = -1
    · subst hneg
      have hng : decide (0 ≤ (-1 : Int)) = false := rfl
      have hbb := bareAt_bd (s := s) (j := 0) (Nat.zero_le _)
      rw [show (-1 + 1 : Int).toNat = 0 from rfl] at hi1
      repeat' (first | (with_reducible first | exact fun h => h | refine ExE.row (by with_unfolding_all rfl) ?_ | refine And.intro ?_ ?_) | ((with_reducible intro hq); first | exact bne1 hq (by with_reducible assumption) | exact bne1 (by with_reducible assumption) hq | ((simp only [*, BB, cond_true, cond_false, reduceCtorEq] at hq); done) | (revert hq; with_reducible intro _)) | (with_reducible first | exact True.intro | rfl | refine EntLe.row ?_ | exact LeN.ro rfl | exact LeN.rptr | assumption) | ((with_reducible first | refine WkX.chk ?_ | refine Wk.chk ?_ | refine LeL.chk ?_ | refine LeF.chk ?_ | refine Run.mk ?_); (conv => whnf)) | ((with_reducible show LeO _ _); first | refine LeO.ro ?_ | refine LeO.roCap ?_ | refine LeO.nil ?_ (fun _ => rfl)) | ((with_reducible show LeR _ _ _); first | refine LeR.own rfl rfl rfl ?_ | refine LeR.view rfl rfl rfl ?_ ?_ | refine LeR.ro ?_ | refine LeR.roCap ?_ | refine LeR.nil ?_ (fun _ => rfl)) | ((with_reducible first | show drawOK _ _ = true | show lateOK _ _ = true | show drawOK2 _ _ = true | show drawOK3 _ _ = true); kernel_rfl))
      all_goals first
        | exact bare_end hi1
        | exact hbb.1
        | exact hbb.2
        | trace_state
    obtain ⟨k, rfl⟩ := Int.eq_ofNat_of_zero_le (a := i) (by omega)
    have e2 : ((k : Int) + 1).toNat = k + 1 := by omega
    rw [e2] at hi1
    have hk : k < (Plain.parts s).length := by have := hi1.1; omega
    have hg : X.getD ((k : Int)).toNat C_cl.d = ((Plain.parts s).getD k dPart).c := by
      rw [Int.toNat_natCast, hX]
      exact getD_map (fun p : Part => p.c) (Plain.parts s) dPart k
    obtain ⟨F, T', a1, a2', a3, a4, a5, a6⟩ := part_cl s hk
    have hle := posS_le s T'
    have hmo := posS_mono s (i := F) (j := T') (by omega) a2'
    obtain ⟨hr1, hr2⟩ := part_first (s := s) hk
    obtain ⟨hl1, hl2⟩ := part_look (s := s) hk
    have hR : (runesL (s.extract (X.getD ((k : Int)).toNat C_cl.d).at.toNat ((X.getD ((k : Int)).toNat C_cl.d).at + (X.getD ((k : Int)).toNat C_cl.d).len).toNat)).getD (0 : Int).toNat C_run.d = ((Plain.parts s).getD k dPart).first := by rw [hg]; exact hr1
    have hRl : 0 < (runesL (s.extract (X.getD ((k : Int)).toNat C_cl.d).at.toNat ((X.getD ((k : Int)).toNat C_cl.d).at + (X.getD ((k : Int)).toNat C_cl.d).len).toNat)).length := by rw [hg]; exact hr2
    have hsz : (s.extract (X.getD ((k : Int)).toNat C_cl.d).at.toNat ((X.getD ((k : Int)).toNat C_cl.d).at + (X.getD ((k : Int)).toNat C_cl.d).len).toNat).size ≤ s.size := by rw [ByteArray.size_extract]; omega
    have hBC := bare_cond (n := X.length) hi1 hXl _ hR hk
    rw [← e2] at hBC
    obtain ⟨hB1, hB2, hB3⟩ := hBC
    have hng : decide (0 ≤ (k : Int)) = true := decide_eq_true (by omega)
    have hbb := bareAt_bd (s := s) (j := k + 1) hi1.1
    rw [← e2] at hbb
    have hbv : (X.getD ((k : Int)).toNat C_cl.d).at = bareAt s ((k : Int) - 1 + 1).toNat := by
      rw [hg, show ((k : Int) - 1 + 1).toNat = k by omega]
      unfold bareAt
      rw [if_neg (by omega)]
    have hat : (X.getD ((k : Int)).toNat C_cl.d).at = (posS s F : Nat) := by rw [hg]; exact a5
    have hln : (X.getD ((k : Int)).toNat C_cl.d).at + (X.getD ((k : Int)).toNat C_cl.d).len = (posS s T' : Nat) := by rw [hg]; exact a6
    clear hR hr1 hr2 hl1 hl2 hX
    repeat' (first | (with_reducible first | refine ⟨_, ⟨(.cons (.v _) .nil), ?_⟩, ?_⟩ | refine ex_of (α := Int) ((k : Int) - 1) ⟨⟨?_, ?_⟩, ?_⟩ ?_ | exact fun h => h | refine ExE.row (by with_unfolding_all rfl) ?_ | refine And.intro ?_ ?_) | ((with_reducible intro hq); first | exact bne1 hq (by with_reducible assumption) | exact bne1 (by with_reducible assumption) hq | ((simp only [*, BB, cond_true, cond_false, reduceCtorEq] at hq); done) | (revert hq; with_reducible intro _)) | (with_reducible first | exact True.intro | rfl | refine EntLe.row ?_ | exact LeN.ro rfl | exact LeN.rptr | assumption) | ((with_reducible first | refine WkX.chk ?_ | refine Wk.chk ?_ | refine LeL.chk ?_ | refine LeF.chk ?_ | refine Run.mk ?_); (conv => whnf)) | ((with_reducible show LeO _ _); first | refine LeO.ro ?_ | refine LeO.roCap ?_ | refine LeO.nil ?_ (fun _ => rfl)) | ((with_reducible show LeR _ _ _); first | refine LeR.own rfl rfl rfl ?_ | refine LeR.view rfl rfl rfl ?_ ?_ | refine LeR.ro ?_ | refine LeR.roCap ?_ | refine LeR.nil ?_ (fun _ => rfl)) | ((with_reducible first | show drawOK _ _ = true | show lateOK _ _ = true | show drawOK2 _ _ = true | show drawOK3 _ _ = true); kernel_rfl))
    all_goals first
      | omega
      | (apply Fits.i64 <;> omega)
      | (rw [hXl]; omega)
      | (rw [show ((k : Int) - 1 + 1).toNat = k by omega]; first | exact hB1 (by assumption) | exact hB2 (by assumption))
      | exact hB3 (by assumption)
      | exact hbv
      | exact hRl
      | (rw [decide_eq_false (by omega)]; done)
      | (dsimp only; omega)
      | trace_state
end Go.SX.Try
/- A verified symbolic executor for Go code in the model: contracts of functions that write into a row of the caller's. -/
namespace Go.SX
open Go.RowKit

section
variable {base : Nat} {w0 : Start} {w w' : World} {E : Env} {stk : List Fr} {gs : List (Array Value)} {m : Mem}
theorem SatM.wrote (h : SatM base w0 E stk gs m w) {id : Nat} {e e' : Ent} (hm : (id, e) ∈ m) (hg : w.grownBy w' (blk (E.h id))) (he : EntR base w' E id e') : SatM base w0 E stk gs (setE id e' m) w' := by
  obtain ⟨hid, _, h3⟩ := h.ents id e hm
  have hw : ∀ k, k < w.heap.size → blk (E.h id) ≠ some k → w'.heap[k]? = w.heap[k]? := fun k h1 h2 => hg.block k h1 fun e => h2 e.symm
  have g : Goes E E w w' := ⟨fun _ _ => rfl, fun _ h => h, fun _ h => h, fun _ h => h, fun k hk => hw k (h.old hk) (fun e => by
    obtain ⟨a1, a2, _⟩ := h3 k e
    exact hk.elim a2 fun hl => by have := h.keep.2.2 _ hl; omega)⟩
  refine ⟨h.below.trans ⟨hg.os, hg.tape, hg.output, hg.size, fun k hk => hw k (by have := h.ge; omega) (fun e => by have := (h3 k e).1; omega)⟩, h.hb, fun k hk => Nat.lt_of_lt_of_le (h.imm k hk) hg.size, h.keep,
    fun b hb => (g.hw b (.inl (h.keep.1 b hb))).trans (h.same b hb), fun i x hx => ?_, ?_, h.len, fun i h1 h2 => (h.stk i h1 h2).mono g⟩
  · by_cases hi : i = id
    · subst hi
      obtain rfl := setE_self h.nodup hx
      exact ⟨hid, he, fun k hk => ⟨(h3 k hk).1, (h3 k hk).2.1, Nat.lt_of_lt_of_le (h3 k hk).2.2 hg.size⟩⟩
    · have hx := setE_other h.nodup hx hi
      obtain ⟨a1, a2, a3⟩ := h.ents i x hx
      exact ⟨a1, a2.mono g a1 fun k hk => hw k (a3 k hk).2.2 (fun e => h.apart hm hx (Ne.symm hi) e hk), fun k hk => ⟨(a3 k hk).1, (a3 k hk).2.1, Nat.lt_of_lt_of_le (a3 k hk).2.2 hg.size⟩⟩
  · rw [disj_names, setE_names, ← disj_names]; exact h.disj
end

inductive LeC : AV → AV → Prop
  | v (x : Value) : LeC (.v x) (.v x)
  | sb (x : Bool) : LeC (.sb x) (.sb x)
  | fn (f : Nat) : LeC (.fn f []) (.fn f [])
  | junk (a : AV) : LeC a .junk
theorem LeC.rel {a b : AV} (h : LeC a b) {w w' : World} {E E' : Env} {v : Value} (hr : Rel w E a v) : Rel w' E' b v := by
  cases h with
  | v x => rw [hr.v_inv]; exact .v _
  | sb x => cases hr; exact .sb _
  | fn f =>
    cases hr with
    | fn _ hl hh => exact .fn f (by simpa using hl) fun i h1 => by simp at h1
  | junk a => exact .junk _
inductive LeCL : List AV → List AV → Prop
  | nil : LeCL [] []
  | cons {a b : AV} {l r : List AV} (h : LeC a b) (hl : LeCL l r) : LeCL (a :: l) (b :: r)
theorem LeCL.rel {a b : List AV} (h : LeCL a b) {w w' : World} {E E' : Env} {vs : List Value} (hr : RelL w E a vs) : RelL w' E' b vs := by
  induction h generalizing vs with
  | nil =>
    obtain rfl : vs = [] := List.eq_nil_of_length_eq_zero hr.1.symm
    exact RelL.nil _ _
  | cons h _ ih =>
    obtain ⟨x, xs, rfl, h1, h2⟩ := hr.uncons
    exact RelL.cons (h.rel h1) (ih h2)
def Env.none : Env := Env.of fun _ => False
structure ConW (P : Program) (f : Nat) {α : Type} (C : Cdc α) (t : Nat) {ι : Type} (A : ι → List AV) (F : ι → List α → List α) (pre : ι → List α → Prop) : Prop where
  bodied : Bodied P f
  calls : ∀ i l, pre i l → ∀ (w : World) (base : Nat) (v : Value) (xs : List Value) (vs : Array Value), base ≤ w.heap.size → (∀ x, (C.enc x).length = C.size) → 0 < C.size → (∀ x, flatL (C.enc x) = true) →
    w.ownsRow base t C.size v l.length xs → RelL w Env.none (l.flatMap C.enc) xs → (∀ b, blk v = some b → base ≤ b ∧ b < w.heap.size) → RelL w Env.none (A i) vs.toList → CallsIn Fence.wide 0 P f (#[v] ++ vs) w fun
    | .returned u, w' => u = .tuple #[] ∧ w.grownBy w' (blk v) ∧ ∃ xs', w'.ownsRow base t C.size v (F i l).length xs' ∧ RelL w' Env.none ((F i l).flatMap C.enc) xs'
    | _, _ => False
def conWS {α : Type} (C : Cdc α) (t : Nat) {ι : Type} (A : ι → List AV) (F : ι → List α → List α) (pre : ι → List α → Prop) : List AV → Fr → List Fr → Mem → Nat → KO → Prop := fun args fr stk m nx K => match args with
  | .own id :: rest => ∃ (i : ι) (l : List α) (cap : Option Nat), (getE m id = some (.row C l t cap) ∧ LeCL rest (A i) ∧ pre i l ∧ ∀ x, flatL (C.enc x) = true) ∧ Run (setEK id (.row C (F i l) t cap) m fun m' => K (.tup []) fr stk m' nx)
  | _ => False
theorem Goes.none {w w' : World} : Goes Env.none Env.none w w' := ⟨fun _ h => False.elim h, fun _ h => False.elim h, fun _ h => False.elim h, fun _ h => False.elim h, fun _ hb => hb.elim False.elim False.elim⟩
theorem flat_rel {α : Type} {C : Cdc α} (hf : ∀ x, flatL (C.enc x) = true) {l : List α} {w : World} {E E' : Env} {xs : List Value} (h : RelL w E (l.flatMap C.enc) xs) : RelL w E' (l.flatMap C.enc) xs := (flatL_ok (flatL_flat hf l)).2 h
section
variable {P : Program}
theorem ConW.spec {f : Nat} {α : Type} {C : Cdc α} {t : Nat} {ι : Type} {A : ι → List AV} {F : ι → List α → List α} {pre : ι → List α → Prop} (h : ConW P f C t A F pre) : SpecOK P f (conWS C t A F pre) := by
  intro args fr stk m nx K hS base w0 E gs w tm vs hnx hSat hr
  unfold conWS at hS
  split at hS
  · rename_i id rest
    obtain ⟨i, l, cap, ⟨he, hle, hpre, hflat⟩, hk⟩ := hS
    have hk := hk.out
    rw [setEK_eq] at hk
    have hm := mem_of_getE he
    obtain ⟨hid, ⟨hs, h0, ⟨xs, hown, hrl⟩, hcap⟩, hblk⟩ := hSat.ents _ _ hm
    obtain ⟨v, vl, hvs, hv, hrest⟩ := hr.uncons
    have hv2 : v = E.h id := by cases hv; rfl
    subst hv2
    have hvs2 : vs = #[E.h id] ++ vl.toArray := by
      apply Array.ext'
      rw [hvs]
      simp
    refine ⟨h.bodied, ?_⟩
    rw [hvs2]
    refine CallsIn.mono (h.calls i l hpre w base (E.h id) xs vl.toArray hSat.ge hs h0 hflat hown (flat_rel hflat hrl) (fun b hb => ⟨(hblk b hb).1, (hblk b hb).2.2⟩) (hle.rel hrest)) fun e w' he2 => ?_
    cases e with
    | returned u =>
      obtain ⟨rfl, hg, xs', h1, h2⟩ := he2
      have hS' := hSat.wrote hm hg (e' := .row C (F i l) t cap) ⟨hs, h0, ⟨xs', h1, flat_rel hflat h2⟩, hcap⟩
      exact ⟨.tup [], fr, stk, _, E, nx, hk, hnx, hS', .tup rfl fun i h1 => by simp at h1⟩
    | panicked c => exact he2.elim
    | outgrown => exact he2.elim
  · exact hS.elim
theorem GamOK.spec {f : Nat} {S : List AV → Fr → List Fr → Mem → Nat → KO → Prop} {l : Gam} (h : SpecOK P f S) (hl : GamOK P l) : GamOK P ((f, .spec S) :: l) := fun u q hq => by
  simp only [getG] at hq
  split at hq
  · rename_i e
    obtain rfl := Nat.eq_of_beq_eq_true e
    obtain rfl := Option.some.inj hq
    exact h
  · exact hl u q hq
theorem ConW.of (hmo : P.follows .mixedOrders = true) {T : Tys} (hT : TysOK P T) {D : Cds} (hD : CdsOK T D) {G : Gam} (hG : GamOK P G) (k : Nat) (J : List Nat) {f : Nat} {fn : Func} {code : Code} (h1 : P.funcs[f]? = some fn) (h2 : fn.body = some code) (h3 : (fn.name == "runtime.NumGoroutine") = false)
    {α : Type} {C : Cdc α} {t : Nat} {ι : Type} {A : ι → List AV} {F : ι → List α → List α} {pre : ι → List α → Prop} (hlen : ∀ i, Nat.ble (A i).length.succ fn.ntmps = true) (hA : ∀ i, LeCL (A i) (A i))
    (h : ∀ i l, pre i l → Run (argsK (.own 0 :: A i) 0 fun f0 => cwp ⟨T, D, G, (callX T D G k).2, (callX T D G k).1, J, fn.ntmps, none⟩ code [] f0 [[(0, .own 0)]] [(0, .row C l t none)] 1 fun e df f2 s2 m2 nx2 => retK T fn e df f2 s2 m2 nx2 fun x fr _ m _ =>
      (getS fr 0 = .own 0 ∧ x = .tup []) ∧ ∃ (l' : List α) (cap : Option Nat), getE m 0 = some (.row C l' t cap) ∧ l' = F i l)) :
    ConW P f C t A F pre := by
  obtain ⟨hF, hH⟩ := callX_ok hmo hT hD hG k
  refine ⟨⟨fn, code, h1, h2, h3⟩, fun i l hpre w base v xs vs hb hs h0 hflat hown hrl hblk hr => ?_⟩
  have hi := (h i l hpre).out
  rw [argsK_eq] at hi
  let fz : Nat → Prop := fun b => b < w.heap.size ∧ blk v ≠ some b
  let E0 : Env := ⟨fun _ => v, fun id => id = 0, fz, fun _ => False⟩
  have hnil : v = .slice none 0 0 ∨ ∃ g n c, v = .slice (some ⟨g, 0, none⟩) n c := by
    rcases hown.2 with ⟨hv, _⟩ | ⟨g, c, cur, hv, _⟩
    · exact .inl hv
    · exact .inr ⟨g, _, c, hv⟩
  have hsl : ∃ A n c, E0.h 0 = .slice A n c := by
    rcases hnil with h | ⟨g, n, c, h⟩
    · exact ⟨none, 0, 0, h⟩
    · exact ⟨some ⟨g, 0, none⟩, n, c, h⟩
  have hown0 : Rel w E0 (.own 0) v := .own (E := E0) rfl hsl
  have hS : SatM base ⟨w, fz⟩ E0 [[(0, .own 0)]] [#[v]] [(0, .row C l t none)] w := ⟨Below.refl _ _, hb, fun b hb => hb.1, ⟨fun _ h => h, fun _ h => .inl h, fun _ h => False.elim h⟩, fun _ _ => rfl, fun id e he => by
    simp only [List.mem_singleton, Prod.mk.injEq] at he
    obtain ⟨rfl, rfl⟩ := he
    exact ⟨rfl, ⟨hs, h0, ⟨xs, hown, flat_rel hflat hrl⟩, fun m hm => by cases hm⟩, fun b hb => ⟨(hblk b hb).1, fun hc => hc.2 hb, (hblk b hb).2⟩⟩, List.pairwise_singleton _ _, rfl, fun j h1 h2 => by
    obtain rfl : j = 0 := by simpa using h1
    intro t
    simp only [List.getElem_cons_zero]
    rw [getS_cons]
    split
    · rename_i e
      subst e
      exact hown0
    · exact .junk _⟩
  have hr2 : RelL w E0 (.own 0 :: A i) (#[v] ++ vs).toList := by
    rw [Array.toList_append]
    exact RelL.cons hown0 ((hA i).rel hr)
  refine CallsIn.mono (inline_ok hmo (c := ⟨T, D, G, (callX T D G k).2, (callX T D G k).1, J, fn.ntmps, none⟩) hG.cons' hT hD (hH none) hF rfl h1 h2 rfl (by have := Nat.le_of_ble_eq_true (hlen i); simpa using this) hi (fun id hd => by have : id = 0 := hd; omega) hS hr2) fun e w' he => ?_
  cases e with
  | returned u =>
    obtain ⟨x, fr', stk', m', E', nx', ⟨⟨hfr, rfl⟩, l', cap, hge, rfl⟩, hnx', hS', hx⟩ := he
    have hm := mem_of_getE hge
    obtain ⟨hid, ⟨_, _, ⟨xs', hown', hrl'⟩, _⟩, hblk'⟩ := hS'.ents _ _ hm
    have hv' : E'.h 0 = v := by
      have := hS'.stk 0 (by simp) (by simp) 0
      simp only [List.getElem_cons_zero] at this
      rw [hfr] at this
      have h5 : (#[v] : Array Value).getD 0 undef = v := rfl
      rw [h5] at this
      cases this
      rfl
    rw [hv'] at hown'
    refine ⟨?_, ⟨hS'.below.os, hS'.below.tape, hS'.below.output, hS'.below.size, fun b hb hne => hS'.same b ⟨hb, fun e => hne e.symm⟩⟩, xs', hown', flat_rel hflat hrl'⟩
    cases hx with
    | tup hl hh =>
      rename_i vs'
      have : vs' = #[] := Array.eq_empty_of_size_eq_zero hl.symm
      rw [this]
  | panicked c => exact he.elim
  | outgrown => exact he.elim
end
end Go.SX
/- Contracts of cmp.Compare, cmp.Or, style's order of spans. -/
namespace Go.SX.Try
open Go.Proofs Go.Proofs.Try Go.SX.Plain
set_option maxRecDepth 100000
set_option maxHeartbeats 0
set_option linter.unusedSimpArgs false
abbrev spAV (x : Spn) : List AV := [.v (.int .i64 x.frm), .v (.int .i64 x.to), .v (.int .i64 x.kind), .v (.int .i64 x.val)]
def C_spn : Cdc Spn where
  size := 4
  enc := spAV
  dec l := match l with
    | [.v (.int _ a), .v (.int _ b), .v (.int _ c), .v (.int _ d)] => ⟨a, b, c, d⟩
    | _ => ⟨0, 0, 0, 0⟩
  d := ⟨0, 0, 0, 0⟩
def D_int : Cds := [(3, ⟨Int, C_int⟩)]
end Go.SX.Try
/- Contracts of the library's swaps, rotations, insertions of spans. -/
namespace Go.SX.Try
open Go.Proofs Go.Proofs.Try Go.SX.Plain
set_option maxRecDepth 100000
set_option maxHeartbeats 0
set_option linter.unusedSimpArgs false
end Go.SX.Try
/- Contract of the library's sort by insertion, of spans. -/
namespace Go.SX.Try
open Go.Proofs Go.Proofs.Try Go.SX.Plain
set_option maxRecDepth 100000
set_option maxHeartbeats 0
set_option linter.unusedSimpArgs false
end Go.SX.Try
/- Contract of the library's merge in place, of spans: one, and a sorted row. -/
namespace Go.SX.Try
open Go.Proofs Go.Proofs.Try Go.SX.Plain
set_option maxRecDepth 100000
set_option maxHeartbeats 0
set_option linter.unusedSimpArgs false
theorem Fits.u64 {x : Int} (h : 0 ≤ x) (h' : x ≤ 18446744073709551615) : Fits .u64 x := ⟨IntWalk.u64_in x ⟨h, h'⟩⟩
abbrev symA : Int × Int × Int → List AV := fun (a, m, b) => [.v (.int .i64 a), .v (.int .i64 m), .v (.int .i64 b), .fn 69 []]
abbrev symF : Int × Int × Int → List Spn → List Spn := fun (a, m, b) l => symR ltO l a.toNat m.toNat b.toNat
abbrev symP : Int × Int × Int → List Spn → Prop := fun (a, m, b) l => ((0 ≤ a ∧ a < m ∧ m < b ∧ b ≤ l.length) ∧ l.length ≤ 1100000) ∧ Srt ltO (seg l a.toNat m.toNat) ∧ Srt ltO (seg l m.toNat b.toNat)
end Go.SX.Try
/- Contract of the library's merge in place, of spans: a sorted row, and one. -/
namespace Go.SX.Try
open Go.Proofs Go.Proofs.Try Go.SX.Plain
set_option maxRecDepth 100000
set_option maxHeartbeats 0
set_option linter.unusedSimpArgs false
end Go.SX.Try
/- Contract of the library's merge in place, of spans: two halves; all cases. -/
namespace Go.SX.Try
open Go.Proofs Go.Proofs.Try Go.SX.Plain
set_option maxRecDepth 100000
set_option maxHeartbeats 0
set_option linter.unusedSimpArgs false
end Go.SX.Try
/- Contract of the library's stable sort, of spans. -/
namespace Go.SX.Try
open Go.Proofs Go.Proofs.Try Go.SX.Plain
set_option maxRecDepth 100000
set_option maxHeartbeats 0
set_option linter.unusedSimpArgs false
end Go.SX.Try
/- Contract of style's order of a text's spans. -/
namespace Go.SX.Try
open Go.Proofs Go.Proofs.Try Go.SX.Plain
set_option maxRecDepth 100000
set_option maxHeartbeats 0
set_option linter.unusedSimpArgs false
abbrev spR (l : List Spn) : AV := .ro 4 C_spn.enc C_spn.d l none true
abbrev spO (l : List Spn) : AV := .ro 4 C_spn.enc C_spn.d l none
abbrev txAV (s : ByteArray) (l : List Spn) : AV := .agg [.v (.string s), spR l]
def D_spn : Cds := [(50, ⟨Spn, C_spn⟩)]
end Go.SX.Try
/- Contracts of the document's chapter 1: long, second, rest, more, one. -/
namespace Go.SX.Try
open Go.Proofs Go.Proofs.Try Go.SX.Plain
set_option maxRecDepth 100000
set_option maxHeartbeats 0
set_option linter.unusedSimpArgs false
abbrev sgAV (x : Sgn) : List AV := [.v (.int .i64 x.at), .v (.int .i64 x.len), .v (.int .i64 x.rune), .sb x.bad]
end Go.SX.Try
/- Contract of the document's chapter 1: Signs. -/
namespace Go.SX.Try
open Go.Proofs Go.Proofs.Try Go.SX.Plain
set_option maxRecDepth 100000
set_option maxHeartbeats 0
set_option linter.unusedSimpArgs false
def C_sgn : Cdc Sgn where
  size := 4
  enc := sgAV
  dec l := match l with
    | [.v (.int _ a), .v (.int _ b), .v (.int _ c), d] => ⟨a, b, c, bOf d⟩
    | _ => ⟨0, 0, 0, false⟩
  d := ⟨0, 0, 0, false⟩
end Go.SX.Try
/- Contracts of the document's chapter 1: Count, Place, Cut by signs. -/
namespace Go.SX.Try
open Go.Proofs Go.Proofs.Try Go.SX.Plain
set_option maxRecDepth 100000
set_option maxHeartbeats 0
set_option linter.unusedSimpArgs false
end Go.SX.Try
/- Contracts: utf.Count; style's right, within, crosses, Check. -/
namespace Go.SX.Try
open Go.Proofs Go.Proofs.Try Go.SX.Plain
set_option maxRecDepth 100000
set_option maxHeartbeats 0
set_option linter.unusedSimpArgs false
theorem q_ucount : fact 12 f12 := ⟨by kernel_rfl, rfl, by kernel_rfl⟩
theorem con_ucount : Con prog 12 (fun s : ByteArray => [.v (.string s)]) (fun s => .v (.int .i64 (sgN s : Nat))) (fun s => s.size ≤ 1100000) := by
  refine Con.of (by kernel_rfl) T_ok CdsOK.nil .nil 3 [] q_ucount.1 q_ucount.2.1 q_ucount.2.2 (fun _ => rfl) fun s hs => ?_
  have hs : s.size ≤ 1100000 := hs
  have hn := sgN_le s
  repeat' (first | (with_reducible first | exact fun h => h | refine ExE.row (by with_unfolding_all rfl) ?_ | refine And.intro ?_ ?_) | ((with_reducible intro hq); first | exact bne1 hq (by with_reducible assumption) | exact bne1 (by with_reducible assumption) hq | ((simp only [*, BB, cond_true, cond_false, reduceCtorEq] at hq); done) | (revert hq; with_reducible intro _)) | (with_reducible first | exact True.intro | rfl | refine EntLe.row ?_ | exact LeN.ro rfl | exact LeN.rptr | assumption) | ((with_reducible first | refine WkX.chk ?_ | refine Wk.chk ?_ | refine LeL.chk ?_ | refine LeF.chk ?_ | refine Run.mk ?_); (conv => whnf)) | ((with_reducible show LeO _ _); first | refine LeO.ro ?_ | refine LeO.roCap ?_ | refine LeO.nil ?_ (fun _ => rfl)) | ((with_reducible show LeR _ _ _); first | refine LeR.own rfl rfl rfl ?_ | refine LeR.view rfl rfl rfl ?_ ?_ | refine LeR.ro ?_ | refine LeR.roCap ?_ | refine LeR.nil ?_ (fun _ => rfl)) | ((with_reducible first | show drawOK _ _ = true | show lateOK _ _ = true | show drawOK2 _ _ = true | show drawOK3 _ _ = true); kernel_rfl))
  refine loopI Nat [] (fun i => [(3, .v (.int .i64 (i : Nat)))]) (fun i => [(0, .iter s (posS s i))]) (fun i => i ≤ sgN s) (fun i => sgN s - i) 0 (Nat.zero_le _) (Wk.chk ?_) fun i hi => ?_
  · ((conv => whnf); repeat' (first | (with_reducible first | exact fun h => h | refine ExE.row (by with_unfolding_all rfl) ?_ | refine And.intro ?_ ?_) | ((with_reducible intro hq); first | exact bne1 hq (by with_reducible assumption) | exact bne1 (by with_reducible assumption) hq | ((simp only [*, BB, cond_true, cond_false, reduceCtorEq] at hq); done) | (revert hq; with_reducible intro _)) | (with_reducible first | exact True.intro | rfl | refine EntLe.row ?_ | exact LeN.ro rfl | exact LeN.rptr | assumption) | ((with_reducible first | refine WkX.chk ?_ | refine Wk.chk ?_ | refine LeL.chk ?_ | refine LeF.chk ?_ | refine Run.mk ?_); (conv => whnf)) | ((with_reducible show LeO _ _); first | refine LeO.ro ?_ | refine LeO.roCap ?_ | refine LeO.nil ?_ (fun _ => rfl)) | ((with_reducible show LeR _ _ _); first | refine LeR.own rfl rfl rfl ?_ | refine LeR.view rfl rfl rfl ?_ ?_ | refine LeR.ro ?_ | refine LeR.roCap ?_ | refine LeR.nil ?_ (fun _ => rfl)) | ((with_reducible first | show drawOK _ _ = true | show lateOK _ _ = true | show drawOK2 _ _ = true | show drawOK3 _ _ = true); kernel_rfl)))
    all_goals first
      | rfl
      | (rw [posS_zero]; done)
      | trace_state
  have hi : i ≤ sgN s := hi
  have hat := fun h => (sgns_at s (i := i) h).2
  have hend := posS_end s
  repeat' (first | (with_reducible first | refine ex_of (α := Nat) (i + 1) ⟨?_, ?_⟩ ?_ | exact fun h => h | refine ExE.row (by with_unfolding_all rfl) ?_ | refine And.intro ?_ ?_) | ((with_reducible intro hq); first | exact bne1 hq (by with_reducible assumption) | exact bne1 (by with_reducible assumption) hq | ((simp only [*, BB, cond_true, cond_false, reduceCtorEq] at hq); done) | (revert hq; with_reducible intro _)) | (with_reducible first | exact True.intro | rfl | refine EntLe.row ?_ | exact LeN.ro rfl | exact LeN.rptr | assumption) | ((with_reducible first | refine WkX.chk ?_ | refine Wk.chk ?_ | refine LeL.chk ?_ | refine LeF.chk ?_ | refine Run.mk ?_); (conv => whnf)) | ((with_reducible show LeO _ _); first | refine LeO.ro ?_ | refine LeO.roCap ?_ | refine LeO.nil ?_ (fun _ => rfl)) | ((with_reducible show LeR _ _ _); first | refine LeR.own rfl rfl rfl ?_ | refine LeR.view rfl rfl rfl ?_ ?_ | refine LeR.ro ?_ | refine LeR.roCap ?_ | refine LeR.nil ?_ (fun _ => rfl)) | ((with_reducible first | show drawOK _ _ = true | show lateOK _ _ = true | show drawOK2 _ _ = true | show drawOK3 _ _ = true); kernel_rfl))
  all_goals first
    | omega
    | (apply Fits.i64 <;> omega)
    | (have hlt : i < sgN s := by
         rcases Nat.lt_or_ge i (sgN s) with h | h
         · exact h
         · obtain rfl : i = sgN s := by omega
           omega
       have := hat hlt
       first
       | omega
       | (show sgN s - (i + 1) < sgN s - i; omega)
       | (rw [this.2]; done))
    | (have : ¬ i < sgN s := fun h => by have := hat h; omega
       obtain rfl : i = sgN s := by omega
       rfl)
    | trace_state
end Go.SX.Try
/- Contracts of the document's chapter 7: fits, within, cross, Check. -/
namespace Go.SX.Try
open Go.Proofs Go.Proofs.Try Go.SX.Plain
set_option maxRecDepth 100000
set_option maxHeartbeats 0
set_option linter.unusedSimpArgs false
abbrev txO (s : ByteArray) (l : List Spn) : AV := .agg [.v (.string s), spO l]
end Go.SX.Try
/- What a right text is. -/
namespace Go.SX.Try
open Go.Proofs Go.Proofs.Try Go.SX.Plain
set_option maxRecDepth 100000
set_option maxHeartbeats 0
set_option linter.unusedSimpArgs false
structure OkT (s : ByteArray) (l : List Spn) : Prop where
  size : s.size ≤ 4096
  len : l.length ≤ 256
  spans : spansB l (sgN s : Nat) = true
theorem OkT.of {s : ByteArray} {l : List Spn} (h : chkN s.size l (sgN s : Nat) = 0) : OkT s l := by
  unfold chkN at h
  split at h
  · cases h
  · split at h
    · cases h
    · split at h
      · rename_i h1 h2 h3
        exact ⟨by omega, by omega, h3⟩
      · cases h
end Go.SX.Try
/- Contracts of utf's Place, Cut (by signs), Melts. -/
namespace Go.SX.Try
open Go.Proofs Go.Proofs.Try Go.SX.Plain
set_option maxRecDepth 100000
set_option maxHeartbeats 0
set_option linter.unusedSimpArgs false
theorem q_usigns : fact 49 f49 := ⟨by kernel_rfl, rfl, by kernel_rfl⟩
theorem q_usigns1 : fact 61 f61 := ⟨by kernel_rfl, rfl, by kernel_rfl⟩
theorem q_runeLen : fact 62 f62 := ⟨by kernel_rfl, rfl, by kernel_rfl⟩
theorem q_hasPrefix : fact 63 f63 := ⟨by kernel_rfl, rfl, by kernel_rfl⟩
theorem q_hasPrefixI : fact 74 f74 := ⟨by kernel_rfl, rfl, by kernel_rfl⟩
theorem q_uplace : fact 32 f32 := ⟨by kernel_rfl, rfl, by kernel_rfl⟩
theorem q_uknown : fact 31 f31 := ⟨by kernel_rfl, rfl, by kernel_rfl⟩
theorem q_upairs : fact 50 f50 := ⟨by kernel_rfl, rfl, by kernel_rfl⟩
theorem q_ucut : fact 13 f13 := ⟨by kernel_rfl, rfl, by kernel_rfl⟩
theorem con_runeLen : Con prog 62 (fun r : Int => [.v (.int .i32 r)]) (fun r => .v (.int .i64 (runeLenI r))) (fun _ => True) := by
  refine Con.of (by kernel_rfl) T_ok CdsOK.nil .nil 3 [] q_runeLen.1 q_runeLen.2.1 q_runeLen.2.2 (fun _ => rfl) fun r _ => ?_
  repeat' (first | (with_reducible first | exact fun h => h | refine ExE.row (by with_unfolding_all rfl) ?_ | refine And.intro ?_ ?_) | ((with_reducible intro hq); first | exact bne1 hq (by with_reducible assumption) | exact bne1 (by with_reducible assumption) hq | ((simp only [*, BB, cond_true, cond_false, reduceCtorEq] at hq); done) | (revert hq; with_reducible intro _)) | (with_reducible first | exact True.intro | rfl | refine EntLe.row ?_ | exact LeN.ro rfl | exact LeN.rptr | assumption) | ((with_reducible first | refine WkX.chk ?_ | refine Wk.chk ?_ | refine LeL.chk ?_ | refine LeF.chk ?_ | refine Run.mk ?_); (conv => whnf)) | ((with_reducible show LeO _ _); first | refine LeO.ro ?_ | refine LeO.roCap ?_ | refine LeO.nil ?_ (fun _ => rfl)) | ((with_reducible show LeR _ _ _); first | refine LeR.own rfl rfl rfl ?_ | refine LeR.view rfl rfl rfl ?_ ?_ | refine LeR.ro ?_ | refine LeR.roCap ?_ | refine LeR.nil ?_ (fun _ => rfl)) | ((with_reducible first | show drawOK _ _ = true | show lateOK _ _ = true | show drawOK2 _ _ = true | show drawOK3 _ _ = true); kernel_rfl))
  all_goals (unfold runeLenI; simp only [Bool.and_eq_true, Bool.and_eq_false_iff, decide_eq_true_eq, decide_eq_false_iff_not] at *; (repeat' split) <;> omega)
theorem con_hasPrefix : Con prog 63 (fun ((s, p) : ByteArray × ByteArray) => [.v (.string s), .v (.string p)]) (fun (s, p) => .sb (decide ((p.size : Int) ≤ (s.size : Int)) && decide (s.extract 0 ((p.size : Nat) : Int).toNat = p))) (fun _ => True) := by
  refine Con.of (by kernel_rfl) T_ok CdsOK.nil (.inl (J := []) q_hasPrefixI.1 q_hasPrefixI.2.1 q_hasPrefixI.2.2 .nil) 5 [] q_hasPrefix.1 q_hasPrefix.2.1 q_hasPrefix.2.2 (fun _ => rfl) fun i _ => ?_
  obtain ⟨s, p⟩ := i
  repeat' (first | (with_reducible first | exact fun h => h | refine ExE.row (by with_unfolding_all rfl) ?_ | refine And.intro ?_ ?_) | ((with_reducible intro hq); first | exact bne1 hq (by with_reducible assumption) | exact bne1 (by with_reducible assumption) hq | ((simp only [*, BB, cond_true, cond_false, reduceCtorEq] at hq); done) | (revert hq; with_reducible intro _)) | (with_reducible first | exact True.intro | rfl | refine EntLe.row ?_ | exact LeN.ro rfl | exact LeN.rptr | assumption) | ((with_reducible first | refine WkX.chk ?_ | refine Wk.chk ?_ | refine LeL.chk ?_ | refine LeF.chk ?_ | refine Run.mk ?_); (conv => whnf)) | ((with_reducible show LeO _ _); first | refine LeO.ro ?_ | refine LeO.roCap ?_ | refine LeO.nil ?_ (fun _ => rfl)) | ((with_reducible show LeR _ _ _); first | refine LeR.own rfl rfl rfl ?_ | refine LeR.view rfl rfl rfl ?_ ?_ | refine LeR.ro ?_ | refine LeR.roCap ?_ | refine LeR.nil ?_ (fun _ => rfl)) | ((with_reducible first | show drawOK _ _ = true | show lateOK _ _ = true | show drawOK2 _ _ = true | show drawOK3 _ _ = true); kernel_rfl))
  all_goals first
    | omega
    | rfl
    | (simp only [decide_eq_true_eq] at *; omega)
    | (exfalso; simp_all; done)
    | (simp only [*, Bool.false_and]; done)
    | trace_state
theorem con_uknown : Con prog 31 (fun u : Int => [.v (.int .i64 u)]) (fun _ => .v (.bool true)) (fun u => u = 1 ∨ u = 2 ∨ u = 3) := by
  refine Con.of (by kernel_rfl) T_ok CdsOK.nil .nil 3 [] q_uknown.1 q_uknown.2.1 q_uknown.2.2 (fun _ => rfl) fun u hu => ?_
  have hu : u = 1 ∨ u = 2 ∨ u = 3 := hu
  rcases hu with rfl | rfl | rfl
  all_goals
    repeat' (first | (with_reducible first | exact fun h => h | refine ExE.row (by with_unfolding_all rfl) ?_ | refine And.intro ?_ ?_) | ((with_reducible intro hq); first | exact bne1 hq (by with_reducible assumption) | exact bne1 (by with_reducible assumption) hq | ((simp only [*, BB, cond_true, cond_false, reduceCtorEq] at hq); done) | (revert hq; with_reducible intro _)) | (with_reducible first | exact True.intro | rfl | refine EntLe.row ?_ | exact LeN.ro rfl | exact LeN.rptr | assumption) | ((with_reducible first | refine WkX.chk ?_ | refine Wk.chk ?_ | refine LeL.chk ?_ | refine LeF.chk ?_ | refine Run.mk ?_); (conv => whnf)) | ((with_reducible show LeO _ _); first | refine LeO.ro ?_ | refine LeO.roCap ?_ | refine LeO.nil ?_ (fun _ => rfl)) | ((with_reducible show LeR _ _ _); first | refine LeR.own rfl rfl rfl ?_ | refine LeR.view rfl rfl rfl ?_ ?_ | refine LeR.ro ?_ | refine LeR.roCap ?_ | refine LeR.nil ?_ (fun _ => rfl)) | ((with_reducible first | show drawOK _ _ = true | show lateOK _ _ = true | show drawOK2 _ _ = true | show drawOK3 _ _ = true); kernel_rfl))
    all_goals first
      | rfl
      | (exfalso; simp_all; done)
      | (simp_all; done)
      | trace_state
def pairsI (r : Int) : Int := if 65536 ≤ r then 2 else 1
theorem pairs_bd (r : Int) : 1 ≤ pairsI r ∧ pairsI r ≤ 2 := by unfold pairsI; split <;> omega
theorem con_upairs : Con prog 50 (fun r : Int => [.v (.int .i32 r)]) (fun r => .v (.int .i64 (pairsI r))) (fun _ => True) := by
  refine Con.of (by kernel_rfl) T_ok CdsOK.nil .nil 3 [] q_upairs.1 q_upairs.2.1 q_upairs.2.2 (fun _ => rfl) fun r _ => ?_
  repeat' (first | (with_reducible first | exact fun h => h | refine ExE.row (by with_unfolding_all rfl) ?_ | refine And.intro ?_ ?_) | ((with_reducible intro hq); first | exact bne1 hq (by with_reducible assumption) | exact bne1 (by with_reducible assumption) hq | ((simp only [*, BB, cond_true, cond_false, reduceCtorEq] at hq); done) | (revert hq; with_reducible intro _)) | (with_reducible first | exact True.intro | rfl | refine EntLe.row ?_ | exact LeN.ro rfl | exact LeN.rptr | assumption) | ((with_reducible first | refine WkX.chk ?_ | refine Wk.chk ?_ | refine LeL.chk ?_ | refine LeF.chk ?_ | refine Run.mk ?_); (conv => whnf)) | ((with_reducible show LeO _ _); first | refine LeO.ro ?_ | refine LeO.roCap ?_ | refine LeO.nil ?_ (fun _ => rfl)) | ((with_reducible show LeR _ _ _); first | refine LeR.own rfl rfl rfl ?_ | refine LeR.view rfl rfl rfl ?_ ?_ | refine LeR.ro ?_ | refine LeR.roCap ?_ | refine LeR.nil ?_ (fun _ => rfl)) | ((with_reducible first | show drawOK _ _ = true | show lateOK _ _ = true | show drawOK2 _ _ = true | show drawOK3 _ _ = true); kernel_rfl))
  all_goals (simp only [decide_eq_true_eq, decide_eq_false_iff_not] at *)
  all_goals first
    | (unfold pairsI; rw [if_pos (by omega)]; done)
    | (unfold pairsI; rw [if_neg (by omega)]; done)
theorem con_uplace : Con prog 32 (fun ((s, a) : ByteArray × Int) => [.v (.string s), .v (.int .i64 a), .v (.int .i64 2), .v (.int .i64 1)]) (fun (s, a) => .tup [.v (.int .i64 (plN s a)), .v (.int .i64 (plE s a))]) (fun (s, _) => s.size ≤ 1100000) := by
  refine Con.of (by kernel_rfl) T_ok CdsOK.nil (.con con_runeLen (.con con_hasPrefix (.inl (J := []) q_usigns.1 q_usigns.2.1 q_usigns.2.2 (.inl (J := [8]) q_usigns1.1 q_usigns1.2.1 q_usigns1.2.2 (.con con_uknown (.con con_upairs .nil)))))) 9 [] q_uplace.1 q_uplace.2.1 q_uplace.2.2 (fun _ => rfl) fun i hs => ?_
  obtain ⟨s, a⟩ := i
  have hs : s.size ≤ 1100000 := hs
  by_cases ha : a < 0
  · have ht : decide (a < 0) = true := decide_eq_true ha
    repeat' (first | (with_reducible first | refine ⟨_, ⟨(.cons (.v _) .nil), ?_⟩, ?_⟩ | exact fun h => h | refine ExE.row (by with_unfolding_all rfl) ?_ | refine And.intro ?_ ?_) | ((with_reducible intro hq); first | exact bne1 hq (by with_reducible assumption) | exact bne1 (by with_reducible assumption) hq | ((simp only [*, BB, cond_true, cond_false, reduceCtorEq] at hq); done) | (revert hq; with_reducible intro _)) | (with_reducible first | exact True.intro | rfl | refine EntLe.row ?_ | exact LeN.ro rfl | exact LeN.rptr | assumption) | ((with_reducible first | refine WkX.chk ?_ | refine Wk.chk ?_ | refine LeL.chk ?_ | refine LeF.chk ?_ | refine Run.mk ?_); (conv => whnf)) | ((with_reducible show LeO _ _); first | refine LeO.ro ?_ | refine LeO.roCap ?_ | refine LeO.nil ?_ (fun _ => rfl)) | ((with_reducible show LeR _ _ _); first | refine LeR.own rfl rfl rfl ?_ | refine LeR.view rfl rfl rfl ?_ ?_ | refine LeR.ro ?_ | refine LeR.roCap ?_ | refine LeR.nil ?_ (fun _ => rfl)) | ((with_reducible first | show drawOK _ _ = true | show lateOK _ _ = true | show drawOK2 _ _ = true | show drawOK3 _ _ = true); kernel_rfl))
    all_goals first
      | (dsimp only; omega)
      | (unfold plN; rw [if_neg (by omega)]; done)
      | (unfold plE; rw [if_neg (by omega)]; done)
      | trace_state
  · have ht : decide (a < 0) = false := decide_eq_false ha
    have hn := sgN_le s
    have hend := posS_end s
    repeat' (first | (with_reducible first | refine ⟨_, ⟨(.cons (.v _) .nil), ?_⟩, ?_⟩ | exact fun h => h | refine ExE.row (by with_unfolding_all rfl) ?_ | refine And.intro ?_ ?_) | ((with_reducible intro hq); first | exact bne1 hq (by with_reducible assumption) | exact bne1 (by with_reducible assumption) hq | ((simp only [*, BB, cond_true, cond_false, reduceCtorEq] at hq); done) | (revert hq; with_reducible intro _)) | (with_reducible first | exact True.intro | rfl | refine EntLe.row ?_ | exact LeN.ro rfl | exact LeN.rptr | assumption) | ((with_reducible first | refine WkX.chk ?_ | refine Wk.chk ?_ | refine LeL.chk ?_ | refine LeF.chk ?_ | refine Run.mk ?_); (conv => whnf)) | ((with_reducible show LeO _ _); first | refine LeO.ro ?_ | refine LeO.roCap ?_ | refine LeO.nil ?_ (fun _ => rfl)) | ((with_reducible show LeR _ _ _); first | refine LeR.own rfl rfl rfl ?_ | refine LeR.view rfl rfl rfl ?_ ?_ | refine LeR.ro ?_ | refine LeR.roCap ?_ | refine LeR.nil ?_ (fun _ => rfl)) | ((with_reducible first | show drawOK _ _ = true | show lateOK _ _ = true | show drawOK2 _ _ = true | show drawOK3 _ _ = true); kernel_rfl))
    all_goals (try (dsimp only; omega))
    refine loopI (Nat × Int) [] (fun _ => []) (fun | (i, p) => [(6, .iter s (posS s i)), (2, .box [.v (.int .i64 0), .v (.int .i64 (posS s i : Nat)), .v (.int .i64 (i : Nat)), .v (.int .i64 p)] 99)]) (fun | (i, p) => i ≤ sgN s ∧ (i : Int) ≤ a ∧ 0 ≤ p ∧ p ≤ 2 * (i : Int)) (fun | (i, _) => sgN s - i) (0, 0) ⟨Nat.zero_le _, by omega, Int.le_refl _, by omega⟩ (Wk.chk ?_) fun x hx => ?_
    · ((conv => whnf); repeat' (first | (with_reducible first | exact fun h => h | refine ExE.row (by with_unfolding_all rfl) ?_ | refine And.intro ?_ ?_) | ((with_reducible intro hq); first | exact bne1 hq (by with_reducible assumption) | exact bne1 (by with_reducible assumption) hq | ((simp only [*, BB, cond_true, cond_false, reduceCtorEq] at hq); done) | (revert hq; with_reducible intro _)) | (with_reducible first | exact True.intro | rfl | refine EntLe.row ?_ | exact LeN.ro rfl | exact LeN.rptr | assumption) | ((with_reducible first | refine WkX.chk ?_ | refine Wk.chk ?_ | refine LeL.chk ?_ | refine LeF.chk ?_ | refine Run.mk ?_); (conv => whnf)) | ((with_reducible show LeO _ _); first | refine LeO.ro ?_ | refine LeO.roCap ?_ | refine LeO.nil ?_ (fun _ => rfl)) | ((with_reducible show LeR _ _ _); first | refine LeR.own rfl rfl rfl ?_ | refine LeR.view rfl rfl rfl ?_ ?_ | refine LeR.ro ?_ | refine LeR.roCap ?_ | refine LeR.nil ?_ (fun _ => rfl)) | ((with_reducible first | show drawOK _ _ = true | show lateOK _ _ = true | show drawOK2 _ _ = true | show drawOK3 _ _ = true); kernel_rfl)))
      all_goals first
        | rfl
        | (rw [posS_zero]; done)
        | (rw [posS_zero]; rfl)
        | trace_state
    obtain ⟨i, p⟩ := x
    obtain ⟨hi1, hi2, hi3, hi4⟩ : i ≤ sgN s ∧ (i : Int) ≤ a ∧ 0 ≤ p ∧ p ≤ 2 * (i : Int) := hx
    have hpl := posS_le s i
    by_cases hil : i < sgN s
    · have hat := sgns_at s hil
      obtain ⟨_, hlt, hnx⟩ := hat
      have hw := width_pos s (posS s i)
      have hwl := width_le hlt
      have hmax := rune_max s (posS s i)
      have e1 : ((posS s i : Nat) : Int).toNat = posS s i := Int.toNat_natCast _
      repeat' (first | (with_reducible first | exact fun h => h | refine ExE.row (by with_unfolding_all rfl) ?_ | refine And.intro ?_ ?_) | ((with_reducible intro hq); first | exact bne1 hq (by with_reducible assumption) | exact bne1 (by with_reducible assumption) hq | ((simp only [*, BB, cond_true, cond_false, reduceCtorEq] at hq); done) | (revert hq; with_reducible intro _)) | (with_reducible first | exact True.intro | rfl | refine EntLe.row ?_ | exact LeN.ro rfl | exact LeN.rptr | assumption) | ((with_reducible first | refine WkX.chk ?_ | refine Wk.chk ?_ | refine LeL.chk ?_ | refine LeF.chk ?_ | refine Run.mk ?_); (conv => whnf)) | ((with_reducible show LeO _ _); first | refine LeO.ro ?_ | refine LeO.roCap ?_ | refine LeO.nil ?_ (fun _ => rfl)) | ((with_reducible show LeR _ _ _); first | refine LeR.own rfl rfl rfl ?_ | refine LeR.view rfl rfl rfl ?_ ?_ | refine LeR.ro ?_ | refine LeR.roCap ?_ | refine LeR.nil ?_ (fun _ => rfl)) | ((with_reducible first | show drawOK _ _ = true | show lateOK _ _ = true | show drawOK2 _ _ = true | show drawOK3 _ _ = true); kernel_rfl))
      any_goals omega
      refine joinI Unit [] (fun _ => [(5, .v (.int .i64 ((Utf8.decode s (posS s i)).2 : Nat)))]) (fun _ => []) (fun _ => True) ?_ fun _ _ => ?_
      · by_cases hr : (((Utf8.decode s (posS s i)).1 : Nat) : Int) = 65533
        · have k1 : ((((Utf8.decode s (posS s i)).1 : Nat) : Int) != 65533) = false := by rw [hr]; rfl
          have hpf : (decide ((badL.size : Int) ≤ ((s.extract ((posS s i : Nat) : Int).toNat s.size).size : Int)) && decide ((s.extract ((posS s i : Nat) : Int).toNat s.size).extract 0 ((badL.size : Nat) : Int).toNat = badL)) = decide ((Utf8.decode s (posS s i)).2 = 3) := by
            rw [e1]
            exact pref_iff hlt hr
          have h13 := dec_bad hr
          rcases h13 with h13 | h13
          · have hpf := hpf.trans (show decide ((Utf8.decode s (posS s i)).2 = 3) = false from by rw [h13]; rfl)
            repeat' (first | (with_reducible first | refine ⟨(_, badL), ⟨(.cons (.v _) (.cons (.v _) .nil)), ?_⟩, ?_⟩ | refine ex_of () trivial ?_ | exact fun h => h | refine ExE.row (by with_unfolding_all rfl) ?_ | refine And.intro ?_ ?_) | ((with_reducible intro hq); first | exact bne1 hq (by with_reducible assumption) | exact bne1 (by with_reducible assumption) hq | ((simp only [*, BB, cond_true, cond_false, reduceCtorEq] at hq); done) | (revert hq; with_reducible intro _)) | (with_reducible first | exact True.intro | rfl | refine EntLe.row ?_ | exact LeN.ro rfl | exact LeN.rptr | assumption) | ((with_reducible first | refine WkX.chk ?_ | refine Wk.chk ?_ | refine LeL.chk ?_ | refine LeF.chk ?_ | refine Run.mk ?_); (conv => whnf)) | ((with_reducible show LeO _ _); first | refine LeO.ro ?_ | refine LeO.roCap ?_ | refine LeO.nil ?_ (fun _ => rfl)) | ((with_reducible show LeR _ _ _); first | refine LeR.own rfl rfl rfl ?_ | refine LeR.view rfl rfl rfl ?_ ?_ | refine LeR.ro ?_ | refine LeR.roCap ?_ | refine LeR.nil ?_ (fun _ => rfl)) | ((with_reducible first | show drawOK _ _ = true | show lateOK _ _ = true | show drawOK2 _ _ = true | show drawOK3 _ _ = true); kernel_rfl))
            all_goals first
              | omega
              | (rw [h13]; rfl)
              | trace_state
          · have hpf := hpf.trans (show decide ((Utf8.decode s (posS s i)).2 = 3) = true from by rw [h13]; rfl)
            repeat' (first | (with_reducible first | refine ⟨(_, badL), ⟨(.cons (.v _) (.cons (.v _) .nil)), ?_⟩, ?_⟩ | refine ex_of () trivial ?_ | exact fun h => h | refine ExE.row (by with_unfolding_all rfl) ?_ | refine And.intro ?_ ?_) | ((with_reducible intro hq); first | exact bne1 hq (by with_reducible assumption) | exact bne1 (by with_reducible assumption) hq | ((simp only [*, BB, cond_true, cond_false, reduceCtorEq] at hq); done) | (revert hq; with_reducible intro _)) | (with_reducible first | exact True.intro | rfl | refine EntLe.row ?_ | exact LeN.ro rfl | exact LeN.rptr | assumption) | ((with_reducible first | refine WkX.chk ?_ | refine Wk.chk ?_ | refine LeL.chk ?_ | refine LeF.chk ?_ | refine Run.mk ?_); (conv => whnf)) | ((with_reducible show LeO _ _); first | refine LeO.ro ?_ | refine LeO.roCap ?_ | refine LeO.nil ?_ (fun _ => rfl)) | ((with_reducible show LeR _ _ _); first | refine LeR.own rfl rfl rfl ?_ | refine LeR.view rfl rfl rfl ?_ ?_ | refine LeR.ro ?_ | refine LeR.roCap ?_ | refine LeR.nil ?_ (fun _ => rfl)) | ((with_reducible first | show drawOK _ _ = true | show lateOK _ _ = true | show drawOK2 _ _ = true | show drawOK3 _ _ = true); kernel_rfl))
            all_goals first
              | omega
              | (rw [h13]; rfl)
              | trace_state
        · have k1 : ((((Utf8.decode s (posS s i)).1 : Nat) : Int) != 65533) = true := by simpa using hr
          have hg := dec_good hr
          repeat' (first | (with_reducible first | refine ⟨(((Utf8.decode s (posS s i)).1 : Nat) : Int), ⟨(.cons (.v _) .nil), ?_⟩, ?_⟩ | refine ex_of () trivial ?_ | exact fun h => h | refine ExE.row (by with_unfolding_all rfl) ?_ | refine And.intro ?_ ?_) | ((with_reducible intro hq); first | exact bne1 hq (by with_reducible assumption) | exact bne1 (by with_reducible assumption) hq | ((simp only [*, BB, cond_true, cond_false, reduceCtorEq] at hq); done) | (revert hq; with_reducible intro _)) | (with_reducible first | exact True.intro | rfl | refine EntLe.row ?_ | exact LeN.ro rfl | exact LeN.rptr | assumption) | ((with_reducible first | refine WkX.chk ?_ | refine Wk.chk ?_ | refine LeL.chk ?_ | refine LeF.chk ?_ | refine Run.mk ?_); (conv => whnf)) | ((with_reducible show LeO _ _); first | refine LeO.ro ?_ | refine LeO.roCap ?_ | refine LeO.nil ?_ (fun _ => rfl)) | ((with_reducible show LeR _ _ _); first | refine LeR.own rfl rfl rfl ?_ | refine LeR.view rfl rfl rfl ?_ ?_ | refine LeR.ro ?_ | refine LeR.roCap ?_ | refine LeR.nil ?_ (fun _ => rfl)) | ((with_reducible first | show drawOK _ _ = true | show lateOK _ _ = true | show drawOK2 _ _ = true | show drawOK3 _ _ = true); kernel_rfl))
          all_goals first
            | omega
            | exact hg
            | trace_state
      by_cases hia : (i : Int) = a
      · have k2 : decide (a ≤ (i : Int)) = true := decide_eq_true (by omega)
        have k3 : ((i : Int) == a) = true := by rw [beq_iff_eq]; exact hia
        repeat' (first | (with_reducible first | exact fun h => h | refine ExE.row (by with_unfolding_all rfl) ?_ | refine And.intro ?_ ?_) | ((with_reducible intro hq); first | exact bne1 hq (by with_reducible assumption) | exact bne1 (by with_reducible assumption) hq | ((simp only [*, BB, cond_true, cond_false, reduceCtorEq] at hq); done) | (revert hq; with_reducible intro _)) | (with_reducible first | exact True.intro | rfl | refine EntLe.row ?_ | exact LeN.ro rfl | exact LeN.rptr | assumption) | ((with_reducible first | refine WkX.chk ?_ | refine Wk.chk ?_ | refine LeL.chk ?_ | refine LeF.chk ?_ | refine Run.mk ?_); (conv => whnf)) | ((with_reducible show LeO _ _); first | refine LeO.ro ?_ | refine LeO.roCap ?_ | refine LeO.nil ?_ (fun _ => rfl)) | ((with_reducible show LeR _ _ _); first | refine LeR.own rfl rfl rfl ?_ | refine LeR.view rfl rfl rfl ?_ ?_ | refine LeR.ro ?_ | refine LeR.roCap ?_ | refine LeR.nil ?_ (fun _ => rfl)) | ((with_reducible first | show drawOK _ _ = true | show lateOK _ _ = true | show drawOK2 _ _ = true | show drawOK3 _ _ = true); kernel_rfl))
        all_goals first
          | omega
          | (unfold plN; rw [if_pos ⟨by omega, by omega⟩, show a.toNat = i by omega]; done)
          | (unfold plE; rw [if_pos ⟨by omega, by omega⟩]; done)
          | (simp only [Bool.not_eq_true']; assumption)
          | trace_state
      · have k2 : decide (a ≤ (i : Int)) = false := decide_eq_false (by omega)
        have hpb := pairs_bd (((Utf8.decode s (posS s i)).1 : Nat) : Int)
        repeat' (first | (with_reducible first | refine ⟨(((Utf8.decode s (posS s i)).1 : Nat) : Int), ⟨(.cons (.v _) .nil), ?_⟩, ?_⟩ | refine ex_of (α := Nat × Int) (i + 1, p + pairsI (((Utf8.decode s (posS s i)).1 : Nat) : Int)) ⟨⟨?_, ?_, ?_, ?_⟩, ?_⟩ ?_ | exact fun h => h | refine ExE.row (by with_unfolding_all rfl) ?_ | refine And.intro ?_ ?_) | ((with_reducible intro hq); first | exact bne1 hq (by with_reducible assumption) | exact bne1 (by with_reducible assumption) hq | ((simp only [*, BB, cond_true, cond_false, reduceCtorEq] at hq); done) | (revert hq; with_reducible intro _)) | (with_reducible first | exact True.intro | rfl | refine EntLe.row ?_ | exact LeN.ro rfl | exact LeN.rptr | assumption) | ((with_reducible first | refine WkX.chk ?_ | refine Wk.chk ?_ | refine LeL.chk ?_ | refine LeF.chk ?_ | refine Run.mk ?_); (conv => whnf)) | ((with_reducible show LeO _ _); first | refine LeO.ro ?_ | refine LeO.roCap ?_ | refine LeO.nil ?_ (fun _ => rfl)) | ((with_reducible show LeR _ _ _); first | refine LeR.own rfl rfl rfl ?_ | refine LeR.view rfl rfl rfl ?_ ?_ | refine LeR.ro ?_ | refine LeR.roCap ?_ | refine LeR.nil ?_ (fun _ => rfl)) | ((with_reducible first | show drawOK _ _ = true | show lateOK _ _ = true | show drawOK2 _ _ = true | show drawOK3 _ _ = true); kernel_rfl))
        all_goals first
          | omega
          | (apply Fits.i64 <;> omega)
          | (show sgN s - (i + 1) < sgN s - i; omega)
          | (rw [hnx]; done)
          | trace_state
    · have hii : i = sgN s := by omega
      subst hii
      have hlt : ¬ posS s (sgN s) < s.size := by omega
      by_cases hia : ((sgN s : Nat) : Int) = a
      · have k3 : (((sgN s : Nat) : Int) == a) = true := by rw [beq_iff_eq]; exact hia
        repeat' (first | (with_reducible first | exact fun h => h | refine ExE.row (by with_unfolding_all rfl) ?_ | refine And.intro ?_ ?_) | ((with_reducible intro hq); first | exact bne1 hq (by with_reducible assumption) | exact bne1 (by with_reducible assumption) hq | ((simp only [*, BB, cond_true, cond_false, reduceCtorEq] at hq); done) | (revert hq; with_reducible intro _)) | (with_reducible first | exact True.intro | rfl | refine EntLe.row ?_ | exact LeN.ro rfl | exact LeN.rptr | assumption) | ((with_reducible first | refine WkX.chk ?_ | refine Wk.chk ?_ | refine LeL.chk ?_ | refine LeF.chk ?_ | refine Run.mk ?_); (conv => whnf)) | ((with_reducible show LeO _ _); first | refine LeO.ro ?_ | refine LeO.roCap ?_ | refine LeO.nil ?_ (fun _ => rfl)) | ((with_reducible show LeR _ _ _); first | refine LeR.own rfl rfl rfl ?_ | refine LeR.view rfl rfl rfl ?_ ?_ | refine LeR.ro ?_ | refine LeR.roCap ?_ | refine LeR.nil ?_ (fun _ => rfl)) | ((with_reducible first | show drawOK _ _ = true | show lateOK _ _ = true | show drawOK2 _ _ = true | show drawOK3 _ _ = true); kernel_rfl))
        all_goals first
          | omega
          | (exfalso; omega)
          | (unfold plN; rw [if_pos ⟨by omega, by omega⟩, show a.toNat = sgN s by omega]; done)
          | (unfold plE; rw [if_pos ⟨by omega, by omega⟩]; done)
          | trace_state
      · have k3 : (((sgN s : Nat) : Int) == a) = false := by rw [beq_eq_false_iff_ne]; exact hia
        have k4 : decide (a < ((sgN s : Nat) : Int)) = false := decide_eq_false (by omega)
        repeat' (first | (with_reducible first | exact fun h => h | refine ExE.row (by with_unfolding_all rfl) ?_ | refine And.intro ?_ ?_) | ((with_reducible intro hq); first | exact bne1 hq (by with_reducible assumption) | exact bne1 (by with_reducible assumption) hq | ((simp only [*, BB, cond_true, cond_false, reduceCtorEq] at hq); done) | (revert hq; with_reducible intro _)) | (with_reducible first | exact True.intro | rfl | refine EntLe.row ?_ | exact LeN.ro rfl | exact LeN.rptr | assumption) | ((with_reducible first | refine WkX.chk ?_ | refine Wk.chk ?_ | refine LeL.chk ?_ | refine LeF.chk ?_ | refine Run.mk ?_); (conv => whnf)) | ((with_reducible show LeO _ _); first | refine LeO.ro ?_ | refine LeO.roCap ?_ | refine LeO.nil ?_ (fun _ => rfl)) | ((with_reducible show LeR _ _ _); first | refine LeR.own rfl rfl rfl ?_ | refine LeR.view rfl rfl rfl ?_ ?_ | refine LeR.ro ?_ | refine LeR.roCap ?_ | refine LeR.nil ?_ (fun _ => rfl)) | ((with_reducible first | show drawOK _ _ = true | show lateOK _ _ = true | show drawOK2 _ _ = true | show drawOK3 _ _ = true); kernel_rfl))
        all_goals first
          | omega
          | (exfalso; omega)
          | (unfold plN; rw [if_neg (by omega)]; done)
          | (unfold plE; rw [if_neg (by omega)]; done)
          | trace_state
end Go.SX.Try
/- Contracts of utf's Cut (by signs), Melts. -/
namespace Go.SX.Try
open Go.Proofs Go.Proofs.Try Go.SX.Plain
set_option maxRecDepth 100000
set_option maxHeartbeats 0
set_option linter.unusedSimpArgs false
theorem con_ucut : Con prog 13 (fun ((s, f, t) : ByteArray × Int × Int) => [.v (.string s), .v (.int .i64 2), .v (.int .i64 f), .v (.int .i64 t)]) (fun (s, f, t) => .tup [.v (.string (cutT s f t)), .v (.int .i64 (cutE s f t))]) (fun (s, _, _) => s.size ≤ 1100000) := by
  refine Con.of (by kernel_rfl) T_ok CdsOK.nil (.con con_uplace (.con con_uknown .nil)) 5 [] q_ucut.1 q_ucut.2.1 q_ucut.2.2 (fun _ => rfl) fun i hs => ?_
  obtain ⟨s, f, t⟩ := i
  have hs : s.size ≤ 1100000 := hs
  have hn := sgN_le s
  have h01 : ∀ x, plE s x = 0 ∨ plE s x = 1 := fun x => by unfold plE; split <;> simp
  by_cases hc : 0 ≤ f ∧ f ≤ t ∧ t ≤ sgN s
  · have hE : cutE s f t = 0 := by unfold cutE; rw [if_pos hc]
    have hT : cutT s f t = s.extract (posS s f.toNat) (posS s t.toNat) := by unfold cutT; rw [if_pos hc]
    have p1 : plE s f = 0 := by unfold plE; rw [if_pos ⟨by omega, by omega⟩]
    have p2 : plE s t = 0 := by unfold plE; rw [if_pos ⟨by omega, by omega⟩]
    have p3 : plN s f = (posS s f.toNat : Nat) := by unfold plN; rw [if_pos ⟨by omega, by omega⟩]
    have p4 : plN s t = (posS s t.toNat : Nat) := by unfold plN; rw [if_pos ⟨by omega, by omega⟩]
    have p5 := posS_mono s (i := f.toNat) (j := t.toNat) (by omega) (by omega)
    have p6 := posS_le s t.toNat
    have b1 : (plE s f != 0) = false := by rw [p1]; rfl
    have b2 : (plE s t != 0) = false := by rw [p2]; rfl
    have b3 : (plE s f == 1) = false := by rw [p1]; rfl
    have b4 : (plE s t == 1) = false := by rw [p2]; rfl
    have b5 : decide (t < f) = false := decide_eq_false (by omega)
    repeat' (first | (with_reducible first | refine ⟨_, ⟨(.cons (.v _) .nil), ?_⟩, ?_⟩ | refine ⟨(_, _), ⟨(.cons (.v _) (.cons (.v _) (.cons (.v _) (.cons (.v _) .nil)))), ?_⟩, ?_⟩ | exact fun h => h | refine ExE.row (by with_unfolding_all rfl) ?_ | refine And.intro ?_ ?_) | ((with_reducible intro hq); first | exact bne1 hq (by with_reducible assumption) | exact bne1 (by with_reducible assumption) hq | ((simp only [*, BB, cond_true, cond_false, reduceCtorEq] at hq); done) | (revert hq; with_reducible intro _)) | (with_reducible first | exact True.intro | rfl | refine EntLe.row ?_ | exact LeN.ro rfl | exact LeN.rptr | assumption) | ((with_reducible first | refine WkX.chk ?_ | refine Wk.chk ?_ | refine LeL.chk ?_ | refine LeF.chk ?_ | refine Run.mk ?_); (conv => whnf)) | ((with_reducible show LeO _ _); first | refine LeO.ro ?_ | refine LeO.roCap ?_ | refine LeO.nil ?_ (fun _ => rfl)) | ((with_reducible show LeR _ _ _); first | refine LeR.own rfl rfl rfl ?_ | refine LeR.view rfl rfl rfl ?_ ?_ | refine LeR.ro ?_ | refine LeR.roCap ?_ | refine LeR.nil ?_ (fun _ => rfl)) | ((with_reducible first | show drawOK _ _ = true | show lateOK _ _ = true | show drawOK2 _ _ = true | show drawOK3 _ _ = true); kernel_rfl))
    all_goals (try simp only [p1, p2, p3, p4] at *)
    all_goals first
      | omega
      | (dsimp only; omega)
      | (rw [hT]; rfl)
      | (rw [hT]; simp only [Int.toNat_natCast]; done)
      | exact hE.symm
      | (simp; done)
      | trace_state
  · have hE : cutE s f t = 1 := by unfold cutE; rw [if_neg hc]
    have hT : cutT s f t = ByteArray.empty := by unfold cutT; rw [if_neg hc]
    have hbad : (plE s f == 1) = true ∨ ((plE s f == 1) = false ∧ (plE s t == 1) = true) ∨ ((plE s f == 1) = false ∧ (plE s t == 1) = false ∧ decide (t < f) = true) := by
      rcases h01 f with q1 | q1
      · rcases h01 t with q2 | q2
        · refine .inr (.inr ⟨by rw [q1]; rfl, by rw [q2]; rfl, decide_eq_true ?_⟩)
          have r1 : 0 ≤ f ∧ f ≤ sgN s := by
            unfold plE at q1; split at q1
            · assumption
            · cases q1
          have r2 : 0 ≤ t ∧ t ≤ sgN s := by
            unfold plE at q2; split at q2
            · assumption
            · cases q2
          omega
        · exact .inr (.inl ⟨by rw [q1]; rfl, by rw [q2]; rfl⟩)
      · exact .inl (by rw [q1]; rfl)
    clear h01
    rcases hbad with b1 | ⟨b1, b2⟩ | ⟨b1, b2, b3⟩
    all_goals
      repeat' (first | (with_reducible first | refine ⟨_, ⟨(.cons (.v _) .nil), ?_⟩, ?_⟩ | refine ⟨(_, _), ⟨(.cons (.v _) (.cons (.v _) (.cons (.v _) (.cons (.v _) .nil)))), ?_⟩, ?_⟩ | exact fun h => h | refine ExE.row (by with_unfolding_all rfl) ?_ | refine And.intro ?_ ?_) | ((with_reducible intro hq); first | exact bne1 hq (by with_reducible assumption) | exact bne1 (by with_reducible assumption) hq | ((simp only [*, BB, cond_true, cond_false, reduceCtorEq] at hq); done) | (revert hq; with_reducible intro _)) | (with_reducible first | exact True.intro | rfl | refine EntLe.row ?_ | exact LeN.ro rfl | exact LeN.rptr | assumption) | ((with_reducible first | refine WkX.chk ?_ | refine Wk.chk ?_ | refine LeL.chk ?_ | refine LeF.chk ?_ | refine Run.mk ?_); (conv => whnf)) | ((with_reducible show LeO _ _); first | refine LeO.ro ?_ | refine LeO.roCap ?_ | refine LeO.nil ?_ (fun _ => rfl)) | ((with_reducible show LeR _ _ _); first | refine LeR.own rfl rfl rfl ?_ | refine LeR.view rfl rfl rfl ?_ ?_ | refine LeR.ro ?_ | refine LeR.roCap ?_ | refine LeR.nil ?_ (fun _ => rfl)) | ((with_reducible first | show drawOK _ _ = true | show lateOK _ _ = true | show drawOK2 _ _ = true | show drawOK3 _ _ = true); kernel_rfl))
      all_goals first
        | exact hT.symm
        | exact hE.symm
        | (dsimp only; omega)
        | trace_state
end Go.SX.Try
/- Contract of wrap's places. -/
namespace Go.SX.Try
open Go.Proofs Go.Proofs.Try Go.SX.Plain
set_option maxRecDepth 100000
set_option maxHeartbeats 0
set_option linter.unusedSimpArgs false
def C_brk : Cdc (Int × Int) where
  size := 2
  enc p := [.v (.int .i64 p.1), .v (.int .i64 p.2)]
  dec l := match l with
    | [.v (.int _ a), .v (.int _ b)] => (a, b)
    | _ => (0, 0)
  d := (0, 0)
def D_plc : Cds := [(3, ⟨Int, C_int⟩), (36, ⟨Int × Int, C_brk⟩), (69, ⟨Part, C_part⟩)]
theorem D_plc_ok : CdsOK T D_plc := .cons ⟨fun _ => rfl, by decide, _, rfl, rfl, by decide⟩ (.cons ⟨fun _ => rfl, by decide, _, rfl, rfl, by decide⟩ (.cons ⟨fun _ => rfl, by decide, _, rfl, rfl, by decide⟩ .nil))
theorem q_places : fact 25 f25 := ⟨by kernel_rfl, rfl, by kernel_rfl⟩
theorem q_places1 : fact 47 f47 := ⟨by kernel_rfl, rfl, by kernel_rfl⟩
theorem con_places : Con prog 25 (fun l : List Part => [.ro 12 C_part.enc C_part.d l none]) (fun l => .tup [.ro 1 C_int.enc C_int.d (atL l (l.length + 1)) none, .ro 2 C_brk.enc C_brk.d (outL l (l.length + 1)) none]) (fun l => l.length ≤ 2000000) := by
  refine Con.of (by kernel_rfl) T_ok D_plc_ok (.inl (J := []) q_places1.1 q_places1.2.1 q_places1.2.2 .nil) 4 [4] q_places.1 q_places.2.1 q_places.2.2 (fun _ => rfl) fun l hl => ?_
  repeat' (first | (with_reducible first | exact fun h => h | refine ExE.row (by with_unfolding_all rfl) ?_ | refine And.intro ?_ ?_) | ((with_reducible intro hq); first | exact bne1 hq (by with_reducible assumption) | exact bne1 (by with_reducible assumption) hq | ((simp only [*, BB, cond_true, cond_false, reduceCtorEq] at hq); done) | (revert hq; with_reducible intro _)) | (with_reducible first | exact True.intro | rfl | refine EntLe.row ?_ | exact LeN.ro rfl | exact LeN.rptr | assumption) | ((with_reducible first | refine WkX.chk ?_ | refine Wk.chk ?_ | refine LeL.chk ?_ | refine LeF.chk ?_ | refine Run.mk ?_); (conv => whnf)) | ((with_reducible show LeO _ _); first | refine LeO.ro ?_ | refine LeO.roCap ?_ | refine LeO.nil ?_ (fun _ => rfl)) | ((with_reducible show LeR _ _ _); first | refine LeR.own rfl rfl rfl ?_ | refine LeR.view rfl rfl rfl ?_ ?_ | refine LeR.ro ?_ | refine LeR.roCap ?_ | refine LeR.nil ?_ (fun _ => rfl)) | ((with_reducible first | show drawOK _ _ = true | show lateOK _ _ = true | show drawOK2 _ _ = true | show drawOK3 _ _ = true); kernel_rfl))
  refine loopI Nat [] (fun i => [(5, .v (.int .i64 i))]) (fun i => [(1, .row C_int (atL l i) 3 none), (3, .row C_brk (outL l i) 36 none)])
    (fun i => 1 ≤ i ∧ (i ≤ l.length ∨ i = 1)) (fun i => l.length + 1 - i) 1 ⟨Nat.le_refl _, .inr rfl⟩ (Wk.chk ?_) fun i hi => ?_
  · ((conv => whnf); repeat' (first | (with_reducible first | exact fun h => h | refine ExE.row (by with_unfolding_all rfl) ?_ | refine And.intro ?_ ?_) | ((with_reducible intro hq); first | exact bne1 hq (by with_reducible assumption) | exact bne1 (by with_reducible assumption) hq | ((simp only [*, BB, cond_true, cond_false, reduceCtorEq] at hq); done) | (revert hq; with_reducible intro _)) | (with_reducible first | exact True.intro | rfl | refine EntLe.row ?_ | exact LeN.ro rfl | exact LeN.rptr | assumption) | ((with_reducible first | refine WkX.chk ?_ | refine Wk.chk ?_ | refine LeL.chk ?_ | refine LeF.chk ?_ | refine Run.mk ?_); (conv => whnf)) | ((with_reducible show LeO _ _); first | refine LeO.ro ?_ | refine LeO.roCap ?_ | refine LeO.nil ?_ (fun _ => rfl)) | ((with_reducible show LeR _ _ _); first | refine LeR.own rfl rfl rfl ?_ | refine LeR.view rfl rfl rfl ?_ ?_ | refine LeR.ro ?_ | refine LeR.roCap ?_ | refine LeR.nil ?_ (fun _ => rfl)) | ((with_reducible first | show drawOK _ _ = true | show lateOK _ _ = true | show drawOK2 _ _ = true | show drawOK3 _ _ = true); kernel_rfl)))
    all_goals rfl
  obtain ⟨hi1, hi2⟩ := hi
  have ha := atL_len l i
  have ho := outL_len l i
  repeat' (first | (with_reducible first | exact fun h => h | refine ExE.row (by with_unfolding_all rfl) ?_ | refine And.intro ?_ ?_) | ((with_reducible intro hq); first | exact bne1 hq (by with_reducible assumption) | exact bne1 (by with_reducible assumption) hq | ((simp only [*, BB, cond_true, cond_false, reduceCtorEq] at hq); done) | (revert hq; with_reducible intro _)) | (with_reducible first | exact True.intro | rfl | refine EntLe.row ?_ | exact LeN.ro rfl | exact LeN.rptr | assumption) | ((with_reducible first | refine WkX.chk ?_ | refine Wk.chk ?_ | refine LeL.chk ?_ | refine LeF.chk ?_ | refine Run.mk ?_); (conv => whnf)) | ((with_reducible show LeO _ _); first | refine LeO.ro ?_ | refine LeO.roCap ?_ | refine LeO.nil ?_ (fun _ => rfl)) | ((with_reducible show LeR _ _ _); first | refine LeR.own rfl rfl rfl ?_ | refine LeR.view rfl rfl rfl ?_ ?_ | refine LeR.ro ?_ | refine LeR.roCap ?_ | refine LeR.nil ?_ (fun _ => rfl)) | ((with_reducible first | show drawOK _ _ = true | show lateOK _ _ = true | show drawOK2 _ _ = true | show drawOK3 _ _ = true); kernel_rfl))
  · have hin : i < l.length := by simp_all
    have e1 : ((i : Int) - 1).toNat = i - 1 := by omega
    have e2 : ((i : Int)).toNat = i := by omega
    have e3 : ((i : Int) - 2).toNat = i - 2 := by omega
    have ed : C_part.d = dPart := rfl
    have hne : ¬ i = l.length := by omega
    refine joinI (List Int × List (Int × Int)) [] (fun _ => []) (fun | (a, o) => [(1, .row C_int a 3 none), (3, .row C_brk o 36 none)]) (fun j => j = (atL l (i + 1), outL l (i + 1))) ?_ fun j hj => ?_
    · repeat' (first | (with_reducible first | refine ex_eq ?_ | exact fun h => h | refine ExE.row (by with_unfolding_all rfl) ?_ | refine And.intro ?_ ?_) | ((with_reducible intro hq); first | exact bne1 hq (by with_reducible assumption) | exact bne1 (by with_reducible assumption) hq | ((simp only [*, BB, cond_true, cond_false, reduceCtorEq] at hq); done) | (revert hq; with_reducible intro _)) | (with_reducible first | exact True.intro | rfl | refine EntLe.row ?_ | exact LeN.ro rfl | exact LeN.rptr | assumption) | ((with_reducible first | refine WkX.chk ?_ | refine Wk.chk ?_ | refine LeL.chk ?_ | refine LeF.chk ?_ | refine Run.mk ?_); (conv => whnf)) | ((with_reducible show LeO _ _); first | refine LeO.ro ?_ | refine LeO.roCap ?_ | refine LeO.nil ?_ (fun _ => rfl)) | ((with_reducible show LeR _ _ _); first | refine LeR.own rfl rfl rfl ?_ | refine LeR.view rfl rfl rfl ?_ ?_ | refine LeR.ro ?_ | refine LeR.roCap ?_ | refine LeR.nil ?_ (fun _ => rfl)) | ((with_reducible first | show drawOK _ _ = true | show lateOK _ _ = true | show drawOK2 _ _ = true | show drawOK3 _ _ = true); kernel_rfl))
      all_goals (try simp only [e1, e2, e3, ed, decide_eq_true_eq, decide_eq_false_iff_not] at *)
      all_goals first
        | omega
        | (refine Fits.i64 ?_ ?_ <;> omega)
        | (exfalso; omega)
        | (simp only [List.length_cons, List.length_nil]; omega)
        | ((with_reducible show (_ : Bool) = true); (first | (simp_all only [Bool.and_eq_true, and_self]; done) | (simp only [*, Bool.not_false, Bool.not_true, Bool.and_true, Bool.true_and]; done)))
        | (simp only [Bool.and_eq_true, decide_eq_true_eq] at *; omega)
        | (dsimp only [C_int]; done)
        | (dsimp only [C_brk, zeroAV]; done)
        | (rw [atL_no (by simp [kindAt, *, -List.getD_eq_getElem?_getD])]; done)
        | (rw [outL_no (by simp [kindAt, *, -List.getD_eq_getElem?_getD])]; done)
        | (rw [atL_yes (by omega) (by simp [kindAt, *, -List.getD_eq_getElem?_getD])]; dsimp only [C_int]; done)
        | (rw [outL_yes (by omega) (by simp [kindAt, *, -List.getD_eq_getElem?_getD])]; simp [kindAt, *, C_brk, zeroAV, -List.getD_eq_getElem?_getD]; done)
    · subst hj
      have hI : (1 ≤ i + 1 ∧ (i + 1 ≤ l.length ∨ i + 1 = 1)) ∧ l.length + 1 - (i + 1) < l.length + 1 - i := ⟨⟨by omega, by omega⟩, by omega⟩
      repeat' (first | (with_reducible first | refine ex_of (i + 1) hI ?_ | exact fun h => h | refine ExE.row (by with_unfolding_all rfl) ?_ | refine And.intro ?_ ?_) | ((with_reducible intro hq); first | exact bne1 hq (by with_reducible assumption) | exact bne1 (by with_reducible assumption) hq | ((simp only [*, BB, cond_true, cond_false, reduceCtorEq] at hq); done) | (revert hq; with_reducible intro _)) | (with_reducible first | exact True.intro | rfl | refine EntLe.row ?_ | exact LeN.ro rfl | exact LeN.rptr | assumption) | ((with_reducible first | refine WkX.chk ?_ | refine Wk.chk ?_ | refine LeL.chk ?_ | refine LeF.chk ?_ | refine Run.mk ?_); (conv => whnf)) | ((with_reducible show LeO _ _); first | refine LeO.ro ?_ | refine LeO.roCap ?_ | refine LeO.nil ?_ (fun _ => rfl)) | ((with_reducible show LeR _ _ _); first | refine LeR.own rfl rfl rfl ?_ | refine LeR.view rfl rfl rfl ?_ ?_ | refine LeR.ro ?_ | refine LeR.roCap ?_ | refine LeR.nil ?_ (fun _ => rfl)) | ((with_reducible first | show drawOK _ _ = true | show lateOK _ _ = true | show drawOK2 _ _ = true | show drawOK3 _ _ = true); kernel_rfl))
      all_goals first
        | omega
        | (refine Fits.i64 ?_ ?_ <;> omega)
        | rfl
  all_goals
    have hge : l.length ≤ i := by
      have h : decide ((i : Int) < (l.length : Int)) = false := by assumption
      simp only [decide_eq_false_iff_not] at h
      omega
    have e1 : ((l.length : Int) - 1).toNat = l.length - 1 := by omega
    have ed : C_part.d = dPart := rfl
    have h0 : l.length = 0 → atL l (l.length + 1) = [] ∧ outL l (l.length + 1) = [] ∧ i = 1 := fun h => by rw [h]; exact ⟨rfl, rfl, by omega⟩
    have h1 : 0 < l.length → i = l.length := fun h => by omega
  all_goals (try simp only [e1, ed] at *)
  all_goals first
    | omega
    | (refine Fits.i64 ?_ ?_ <;> omega)
    | (exfalso; simp_all; omega)
    | (simp only [List.length_cons, List.length_nil]; omega)
    | ((with_reducible show (_ : Bool) = true); (first | (simp_all only [Bool.and_eq_true, and_self]; done) | (simp only [*, Bool.not_false, Bool.not_true, Bool.and_true, Bool.true_and]; done)))
    | (dsimp only [C_int]; done)
    | (dsimp only [C_brk, zeroAV]; done)
    | (exfalso; have h : decide (0 < (l.length : Int)) = true := by assumption
       simp only [decide_eq_true_eq] at h; have h2 : decide (0 < (l.length : Int)) = false := by assumption
       simp only [decide_eq_false_iff_not] at h2; omega)
    | (have h : decide (0 < (l.length : Int)) = true := by assumption
       simp only [decide_eq_true_eq] at h
       first
        | omega
        | (have h2 := h1 (by omega); subst h2
           first
            | (rw [atL_yes (by omega) (by simp_all [kindAt, -List.getD_eq_getElem?_getD])]; dsimp only [C_int]; done)
            | (rw [outL_yes (by omega) (by simp_all [kindAt, -List.getD_eq_getElem?_getD])]; simp_all [kindAt, C_brk, zeroAV, -List.getD_eq_getElem?_getD]; done)))
    | (exfalso
       have h : decide (0 < (l.length : Int)) = false := by assumption
       have h2 : (decide (0 < (l.length : Int)) && (l.getD (l.length - 1) dPart).fin) = true := by assumption
       rw [h] at h2; cases h2)
    | (have h2 : (decide (0 < (l.length : Int)) && (l.getD (l.length - 1) dPart).fin) = false := by assumption
       rcases Nat.eq_zero_or_pos l.length with hz | hz
       · obtain ⟨q1, q2, q3⟩ := h0 hz
         subst q3
         first
          | (rw [q1]; rfl)
          | (rw [q2]; rfl)
       · have q1 := h1 hz
         have h3 : (l.getD (l.length - 1) dPart).fin = false := by
           simp only [Bool.and_eq_false_iff, decide_eq_false_iff_not] at h2
           rcases h2 with h2 | h2
           · omega
           · exact h2
         subst q1
         first
          | rw [atL_no (by simp only [kindAt, h3]; simp)]
          | rw [outL_no (by simp only [kindAt, h3]; simp)])
end Go.SX.Try
/- Contracts of wrap's lines, trimmed, cells. -/
namespace Go.SX.Try
open Go.Proofs Go.Proofs.Try Go.SX.Plain
set_option maxRecDepth 100000
set_option maxHeartbeats 0
set_option linter.unusedSimpArgs false
theorem q_lines : fact 27 f27 := ⟨by kernel_rfl, rfl, by kernel_rfl⟩
theorem q_trimmed : fact 28 f28 := ⟨by kernel_rfl, rfl, by kernel_rfl⟩
theorem q_cells10 : fact 30 f30 := ⟨by kernel_rfl, rfl, by kernel_rfl⟩
def C_parts : Cdc (List Part) where
  size := 1
  enc l := [.ro 12 C_part.enc C_part.d l none]
  dec _ := []
  d := []
  sl := true
def D_lin : Cds := [(60, ⟨List Part, C_parts⟩)]
theorem D_lin_ok : CdsOK T D_lin := .cons ⟨fun _ => rfl, by decide, _, rfl, rfl, by decide⟩ .nil
theorem con_lines : Con prog 27 (fun ((s, way) : ByteArray × List (Int × Int)) => [.v (.string s), .ro 2 C_brk.enc C_brk.d way none true])
    (fun (s, way) => .tup [.ro 1 C_parts.enc C_parts.d (linesL s way) none, .sb (linesB s way)]) (fun (s, _) => s.size ≤ 100000) := by
  refine Con.of (by kernel_rfl) T_ok D_lin_ok (.con con_parts (.con con_places .nil)) 3 [] q_lines.1 q_lines.2.1 q_lines.2.2 (fun _ => rfl) fun i hi => ?_
  obtain ⟨s, way⟩ := i
  have hsz : s.size ≤ 100000 := hi
  have hpl := parts_len s
  repeat' (first | (with_reducible first | refine ⟨_, ⟨(.cons (.v _) .nil), ?_⟩, ?_⟩ | refine ⟨_, ⟨(.cons (.ro _ _ _ _ _) .nil), ?_⟩, ?_⟩ | exact fun h => h | refine ExE.row (by with_unfolding_all rfl) ?_ | refine And.intro ?_ ?_) | ((with_reducible intro hq); first | exact bne1 hq (by with_reducible assumption) | exact bne1 (by with_reducible assumption) hq | ((simp only [*, BB, cond_true, cond_false, reduceCtorEq] at hq); done) | (revert hq; with_reducible intro _)) | (with_reducible first | exact True.intro | rfl | refine EntLe.row ?_ | exact LeN.ro rfl | exact LeN.rptr | assumption) | ((with_reducible first | refine WkX.chk ?_ | refine Wk.chk ?_ | refine LeL.chk ?_ | refine LeF.chk ?_ | refine Run.mk ?_); (conv => whnf)) | ((with_reducible show LeO _ _); first | refine LeO.ro ?_ | refine LeO.roCap ?_ | refine LeO.nil ?_ (fun _ => rfl)) | ((with_reducible show LeR _ _ _); first | refine LeR.own rfl rfl rfl ?_ | refine LeR.view rfl rfl rfl ?_ ?_ | refine LeR.ro ?_ | refine LeR.roCap ?_ | refine LeR.nil ?_ (fun _ => rfl)) | ((with_reducible first | show drawOK _ _ = true | show lateOK _ _ = true | show drawOK2 _ _ = true | show drawOK3 _ _ = true); kernel_rfl))
  any_goals (dsimp only; omega)
  have hLL : linesL s way = ((lnW (Plain.parts s) way).map (·.1)).getD [] := rfl
  have hLB : linesB s way = ((lnW (Plain.parts s) way).map (·.2)).getD false := rfl
  revert hpl hLL hLB
  generalize Plain.parts s = l
  intro hpl hLL hLB
  have hW : lnW l way = lnL l (plcs l (l.length + 1)) way 0 := rfl
  have hat : (atL l (l.length + 1)).length = (plcs l (l.length + 1)).length := atL_length _ _
  have hout : (outL l (l.length + 1)).length = (plcs l (l.length + 1)).length := outL_length _ _
  have hpn := plcs_len l (l.length + 1)
  have hat2 : ∀ i, (atL l (l.length + 1)).getD i 0 = ((plcs l (l.length + 1)).getD i 0 : Nat) := fun i => atL_getD _ _ i
  have hout2 : ∀ i, i < (plcs l (l.length + 1)).length → (outL l (l.length + 1)).getD i (0, 0) = brkAt l ((plcs l (l.length + 1)).getD i 0) := fun i hi => outL_getD hi
  have hple : ∀ i, i < (plcs l (l.length + 1)).length → (plcs l (l.length + 1)).getD i 0 < l.length + 1 := fun i hi => (plcs_le hi).1
  have hso : ∀ i j, i < j → j < (plcs l (l.length + 1)).length → (plcs l (l.length + 1)).getD i 0 < (plcs l (l.length + 1)).getD j 0 := fun i j h1 h2 => sorted_lt (plcs_sorted _ _) h1 h2
  revert hW hat hout hpn hat2 hout2 hple hso
  generalize plcs l (l.length + 1) = P
  generalize atL l (l.length + 1) = AT
  generalize outL l (l.length + 1) = OUT
  intro hW hat hout hpn hat2 hout2 hple hso
  have e1 : C_brk.d = (0, 0) := rfl
  have e2 : C_int.d = 0 := rfl
  refine loopI (Int × List (List Part) × Int × Int) [] (fun | (k, o, frm, n) => [(23, .v (.int .i64 k)), (9, .own 1), (10, .v (.int .i64 frm)), (11, .v (.int .i64 n))]) (fun | (_, o, _, _) => [(1, .row C_parts o 60 none)])
    (fun | (k, o, frm, n) => (0 ≤ k ∧ k ≤ P.length ∧ 0 ≤ n ∧ n ≤ way.length ∧ n ≤ k ∧ (o.length : Int) = n ∧ 0 ≤ frm ∧ frm ≤ l.length ∧ ∀ j, k.toNat ≤ j → j < P.length → frm ≤ P.getD j 0) ∧ (lnL l (P.drop k.toNat) (way.drop n.toNat) frm.toNat).map (fun x => (o ++ x.1, x.2)) = lnW l way)
    (fun | (k, _, _, _) => (P.length - k).toNat) (0, [], 0, 0) ⟨⟨by omega, by omega, by omega, by omega, by omega, rfl, by omega, by omega, fun _ _ _ => by omega⟩, by rw [hW]; simp⟩ (Wk.chk ?_) fun i hi => ?_
  · ((conv => whnf); repeat' (first | (with_reducible first | exact fun h => h | refine ExE.row (by with_unfolding_all rfl) ?_ | refine And.intro ?_ ?_) | ((with_reducible intro hq); first | exact bne1 hq (by with_reducible assumption) | exact bne1 (by with_reducible assumption) hq | ((simp only [*, BB, cond_true, cond_false, reduceCtorEq] at hq); done) | (revert hq; with_reducible intro _)) | (with_reducible first | exact True.intro | rfl | refine EntLe.row ?_ | exact LeN.ro rfl | exact LeN.rptr | assumption) | ((with_reducible first | refine WkX.chk ?_ | refine Wk.chk ?_ | refine LeL.chk ?_ | refine LeF.chk ?_ | refine Run.mk ?_); (conv => whnf)) | ((with_reducible show LeO _ _); first | refine LeO.ro ?_ | refine LeO.roCap ?_ | refine LeO.nil ?_ (fun _ => rfl)) | ((with_reducible show LeR _ _ _); first | refine LeR.own rfl rfl rfl ?_ | refine LeR.view rfl rfl rfl ?_ ?_ | refine LeR.ro ?_ | refine LeR.roCap ?_ | refine LeR.nil ?_ (fun _ => rfl)) | ((with_reducible first | show drawOK _ _ = true | show lateOK _ _ = true | show drawOK2 _ _ = true | show drawOK3 _ _ = true); kernel_rfl)))
    all_goals rfl
  obtain ⟨k, o, frm, n⟩ := i
  obtain ⟨⟨hk0, hk, hn0, hn, hnk, ho, hf0, hf, hfj⟩, hI⟩ := hi
  obtain ⟨k, rfl⟩ := Int.eq_ofNat_of_zero_le hk0
  obtain ⟨n, rfl⟩ := Int.eq_ofNat_of_zero_le hn0
  obtain ⟨frm, rfl⟩ := Int.eq_ofNat_of_zero_le hf0
  have e3 : ((k : Int)).toNat = k := Int.toNat_natCast _
  have e4 : ((n : Int)).toNat = n := Int.toNat_natCast _
  have e5 : ((frm : Int)).toNat = frm := Int.toNat_natCast _
  have e6 : ((k : Int) + 1).toNat = k + 1 := by omega
  have e7 : ((n : Int) + 1).toNat = n + 1 := by omega
  have e8 : ((P.getD k 0 : Nat) : Int).toNat = P.getD k 0 := Int.toNat_natCast _
  simp only [e3, e4, e5] at hI hfj
  have hPk := hple k
  have hAk := hat2 k
  have hOk := hout2 k
  have hfk := hfj k (Nat.le_refl _)
  have hfn : k < P.length → ∀ j, k + 1 ≤ j → j < P.length → P.getD k 0 < P.getD j 0 := fun _ j h1 h2 => hso k j (by omega) h2
  have sy : k < P.length → n < way.length → way.getD n (0, 0) = brkAt l (P.getD k 0) → (lnL l (P.drop (k + 1)) (way.drop (n + 1)) (P.getD k 0)).map (fun x => ((o ++ [(l.drop frm).take (P.getD k 0 - frm)]) ++ x.1, x.2)) = lnW l way := fun h1 h2 h3 => by
    rw [lnL_yes h1 h2 h3] at hI
    rw [← hI, Option.map_map]
    congr 1
    funext x
    simp
  have sn : k < P.length → ¬ (n < way.length ∧ way.getD n (0, 0) = brkAt l (P.getD k 0)) → ¬ (brkAt l (P.getD k 0)).2 = 1 → (lnL l (P.drop (k + 1)) (way.drop n) frm).map (fun x => (o ++ x.1, x.2)) = lnW l way := fun h1 h2 h3 => by
    rw [lnL_on h1 h2 h3] at hI
    exact hI
  have sh : k < P.length → ¬ (n < way.length ∧ way.getD n (0, 0) = brkAt l (P.getD k 0)) → (brkAt l (P.getD k 0)).2 = 1 → lnW l way = none := fun h1 h2 h3 => by
    rw [lnL_hard h1 h2 h3] at hI
    rw [← hI]
    rfl
  have se : ¬ k < P.length → lnW l way = some (o ++ [l.drop frm], decide (n = way.length)) := fun h1 => by
    rw [lnL_end h1 (by omega)] at hI
    exact hI.symm
  have hno : ∀ {b : Int × Int}, (decide ((n : Int) < (way.length : Int)) && ((way.getD n (0, 0)).1 == b.1 && (way.getD n (0, 0)).2 == b.2)) = false → ¬ (n < way.length ∧ way.getD n (0, 0) = b) := fun h => by
    rintro ⟨h1, h2⟩
    rw [h2] at h
    simp at h
    omega
  have hyes : ∀ {b : Int × Int}, (decide ((n : Int) < (way.length : Int)) && ((way.getD n (0, 0)).1 == b.1 && (way.getD n (0, 0)).2 == b.2)) = true → n < way.length ∧ way.getD n (0, 0) = b := fun h => by
    simp only [Bool.and_eq_true, decide_eq_true_eq, beq_iff_eq] at h
    exact ⟨by omega, Prod.ext h.2.1 h.2.2⟩
  by_cases hkP : k < P.length
  case neg =>
    have hx := se hkP
    rw [hx] at hLL hLB
    repeat' (first | (with_reducible first | refine ex_of (α := Int × List (List Part) × Int × Int) ((k : Int) + 1, o, (frm : Int), (n : Int)) ⟨⟨⟨?_, ?_, ?_, ?_, ?_, ?_, ?_, ?_, ?_⟩, ?_⟩, ?_⟩ ?_ | exact fun h => h | refine ExE.row (by with_unfolding_all rfl) ?_ | refine And.intro ?_ ?_) | ((with_reducible intro hq); first | exact bne1 hq (by with_reducible assumption) | exact bne1 (by with_reducible assumption) hq | ((simp only [*, BB, cond_true, cond_false, reduceCtorEq] at hq); done) | (revert hq; with_reducible intro _)) | (with_reducible first | exact True.intro | rfl | refine EntLe.row ?_ | exact LeN.ro rfl | exact LeN.rptr | assumption) | ((with_reducible first | refine WkX.chk ?_ | refine Wk.chk ?_ | refine LeL.chk ?_ | refine LeF.chk ?_ | refine Run.mk ?_); (conv => whnf)) | ((with_reducible show LeO _ _); first | refine LeO.ro ?_ | refine LeO.roCap ?_ | refine LeO.nil ?_ (fun _ => rfl)) | ((with_reducible show LeR _ _ _); first | refine LeR.own rfl rfl rfl ?_ | refine LeR.view rfl rfl rfl ?_ ?_ | refine LeR.ro ?_ | refine LeR.roCap ?_ | refine LeR.nil ?_ (fun _ => rfl)) | ((with_reducible first | show drawOK _ _ = true | show lateOK _ _ = true | show drawOK2 _ _ = true | show drawOK3 _ _ = true); kernel_rfl))
    all_goals first
      | (exfalso; simp only [decide_eq_true_eq] at *; omega)
      | (simp only [decide_eq_false_iff_not, e5] at *; omega)
      | (simp only [List.length_cons, List.length_nil, e5] at *; omega)
      | (rw [hLL, e5]; rfl)
      | (rw [hLB]; rw [Bool.eq_iff_iff]; simp; omega)
      | trace_state
  have hOk' := hOk hkP
  by_cases hc : n < way.length ∧ way.getD n (0, 0) = brkAt l (P.getD k 0)
  · have hy := sy hkP hc.1 hc.2
    have hn1 := hc.1
    repeat' (first | (with_reducible first | refine ex_of (α := Int × List (List Part) × Int × Int) ((k : Int) + 1, o ++ [(l.drop frm).take (P.getD k 0 - frm)], ((P.getD k 0 : Nat) : Int), (n : Int) + 1) ⟨⟨⟨?_, ?_, ?_, ?_, ?_, ?_, ?_, ?_, ?_⟩, ?_⟩, ?_⟩ ?_ | exact fun h => h | refine ExE.row (by with_unfolding_all rfl) ?_ | refine And.intro ?_ ?_) | ((with_reducible intro hq); first | exact bne1 hq (by with_reducible assumption) | exact bne1 (by with_reducible assumption) hq | ((simp only [*, BB, cond_true, cond_false, reduceCtorEq] at hq); done) | (revert hq; with_reducible intro _)) | (with_reducible first | exact True.intro | rfl | refine EntLe.row ?_ | exact LeN.ro rfl | exact LeN.rptr | assumption) | ((with_reducible first | refine WkX.chk ?_ | refine Wk.chk ?_ | refine LeL.chk ?_ | refine LeF.chk ?_ | refine Run.mk ?_); (conv => whnf)) | ((with_reducible show LeO _ _); first | refine LeO.ro ?_ | refine LeO.roCap ?_ | refine LeO.nil ?_ (fun _ => rfl)) | ((with_reducible show LeR _ _ _); first | refine LeR.own rfl rfl rfl ?_ | refine LeR.view rfl rfl rfl ?_ ?_ | refine LeR.ro ?_ | refine LeR.roCap ?_ | refine LeR.nil ?_ (fun _ => rfl)) | ((with_reducible first | show drawOK _ _ = true | show lateOK _ _ = true | show drawOK2 _ _ = true | show drawOK3 _ _ = true); kernel_rfl))
    all_goals first
      | (exfalso; simp only [e1, e3, e4, hOk'] at *; exact hno (by assumption) hc)
      | (simp only [e1, e2, e3, e4, e5, e6, e7, e8, hAk, decide_eq_true_eq, decide_eq_false_iff_not, List.length_append, List.length_cons, List.length_nil] at *; first | omega | (apply Fits.i64 <;> omega) | rfl | exact hy | (have := hfn hkP _ (by assumption) (by assumption); omega))
      | (simp only [e2, e3, e5, e8, hAk]; done)
      | trace_state
  · have hz := hyes (b := brkAt l (P.getD k 0))
    have hs : ((brkAt l (P.getD k 0)).2 == 1) = false → _ := fun h => sn hkP hc (by simpa using h)
    repeat' (first | (with_reducible first | refine ex_of (α := Int × List (List Part) × Int × Int) ((k : Int) + 1, o, (frm : Int), (n : Int)) ⟨⟨⟨?_, ?_, ?_, ?_, ?_, ?_, ?_, ?_, ?_⟩, ?_⟩, ?_⟩ ?_ | exact fun h => h | refine ExE.row (by with_unfolding_all rfl) ?_ | refine And.intro ?_ ?_) | ((with_reducible intro hq); first | exact bne1 hq (by with_reducible assumption) | exact bne1 (by with_reducible assumption) hq | ((simp only [*, BB, cond_true, cond_false, reduceCtorEq] at hq); done) | (revert hq; with_reducible intro _)) | (with_reducible first | exact True.intro | rfl | refine EntLe.row ?_ | exact LeN.ro rfl | exact LeN.rptr | assumption) | ((with_reducible first | refine WkX.chk ?_ | refine Wk.chk ?_ | refine LeL.chk ?_ | refine LeF.chk ?_ | refine Run.mk ?_); (conv => whnf)) | ((with_reducible show LeO _ _); first | refine LeO.ro ?_ | refine LeO.roCap ?_ | refine LeO.nil ?_ (fun _ => rfl)) | ((with_reducible show LeR _ _ _); first | refine LeR.own rfl rfl rfl ?_ | refine LeR.view rfl rfl rfl ?_ ?_ | refine LeR.ro ?_ | refine LeR.roCap ?_ | refine LeR.nil ?_ (fun _ => rfl)) | ((with_reducible first | show drawOK _ _ = true | show lateOK _ _ = true | show drawOK2 _ _ = true | show drawOK3 _ _ = true); kernel_rfl))
    all_goals first
      | (exfalso; simp only [e1, e3, e4, hOk'] at *; exact hc (hz (by assumption)))
      | (rw [hLL, sh hkP hc (by simp only [e1, e3, hOk', beq_iff_eq] at *; assumption)]; rfl)
      | (rw [hLB, sh hkP hc (by simp only [e1, e3, hOk', beq_iff_eq] at *; assumption)]; rfl)
      | (simp only [e1, e2, e3, e4, e5, e6, e7, e8, hAk, decide_eq_true_eq, decide_eq_false_iff_not, List.length_append, List.length_cons, List.length_nil] at *; first | omega | (apply Fits.i64 <;> omega) | rfl | (exact hfj _ (by omega) (by assumption)))
      | (simp only [e1, e3, e4, e5, e6, hOk'] at *; exact hs (by assumption))
      | trace_state
end Go.SX.Try
