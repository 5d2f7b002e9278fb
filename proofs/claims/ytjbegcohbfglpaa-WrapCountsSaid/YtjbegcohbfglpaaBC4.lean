/- A verified symbolic executor for Go code in the model, contracts and plain laws that the proofs lean on, BC4. -/
import Derived.Test.YtjbegcohbfglpaaBC3
set_option linter.unusedVariables false
set_option linter.unusedSimpArgs false
/- Contracts of wrap's one. -/
namespace Go.SX.Try
open Go.Proofs Go.Proofs.Try Go.SX.Plain
theorem q_one : fact 48 f48 := ⟨by kernel_rfl, rfl, by kernel_rfl⟩
theorem con_one : Con prog 48 (fun ((r, l) : Int × ByteArray) => [.v (.int .i32 r), .v (.string l)]) (fun (r, l) => .sb (oneB r l)) (fun _ => True) := by
  refine Con.of (by kernel_rfl) T_ok CdsOK.nil GamOK.nil 2 [] q_one.1 q_one.2.1 q_one.2.2 (fun _ => rfl) fun i _ => ?_
  obtain ⟨r, l⟩ := i
  repeat' (first | (with_reducible first | exact fun h => h | refine ExE.row (by with_unfolding_all rfl) ?_ | refine And.intro ?_ ?_) | ((with_reducible intro hq); first | exact bne1 hq (by with_reducible assumption) | exact bne1 (by with_reducible assumption) hq | ((simp only [*, BB, cond_true, cond_false, reduceCtorEq] at hq); done) | (revert hq; with_reducible intro _)) | (with_reducible first | exact True.intro | rfl | refine EntLe.row ?_ | exact LeN.ro rfl | exact LeN.rptr | assumption) | ((with_reducible first | refine WkX.chk ?_ | refine Wk.chk ?_ | refine LeL.chk ?_ | refine LeF.chk ?_ | refine Run.mk ?_); (conv => whnf)) | ((with_reducible show LeO _ _); first | refine LeO.ro ?_ | refine LeO.roCap ?_ | refine LeO.nil ?_ (fun _ => rfl)) | ((with_reducible show LeR _ _ _); first | refine LeR.own rfl rfl rfl ?_ | refine LeR.view rfl rfl rfl ?_ ?_ | refine LeR.ro ?_ | refine LeR.roCap ?_ | refine LeR.nil ?_ (fun _ => rfl)) | ((with_reducible first | show drawOK _ _ = true | show lateOK _ _ = true | show drawOK2 _ _ = true | show drawOK3 _ _ = true); kernel_rfl))
  refine loopI Nat [] (fun _ => []) (fun pos => [(0, .iter l pos)]) (fun pos => oneB r l = (signsFrom l pos).any (fun p => ((p.2 : Int) == r))) (fun pos => l.size - pos) 0 rfl (Wk.chk ?_) fun pos hpos => ?_
  · ((conv => whnf); repeat' (first | (with_reducible first | exact fun h => h | refine ExE.row (by with_unfolding_all rfl) ?_ | refine And.intro ?_ ?_) | ((with_reducible intro hq); first | exact bne1 hq (by with_reducible assumption) | exact bne1 (by with_reducible assumption) hq | ((simp only [*, BB, cond_true, cond_false, reduceCtorEq] at hq); done) | (revert hq; with_reducible intro _)) | (with_reducible first | exact True.intro | rfl | refine EntLe.row ?_ | exact LeN.ro rfl | exact LeN.rptr | assumption) | ((with_reducible first | refine WkX.chk ?_ | refine Wk.chk ?_ | refine LeL.chk ?_ | refine LeF.chk ?_ | refine Run.mk ?_); (conv => whnf)) | ((with_reducible show LeO _ _); first | refine LeO.ro ?_ | refine LeO.roCap ?_ | refine LeO.nil ?_ (fun _ => rfl)) | ((with_reducible show LeR _ _ _); first | refine LeR.own rfl rfl rfl ?_ | refine LeR.view rfl rfl rfl ?_ ?_ | refine LeR.ro ?_ | refine LeR.roCap ?_ | refine LeR.nil ?_ (fun _ => rfl)) | ((with_reducible first | show drawOK _ _ = true | show lateOK _ _ = true | show drawOK2 _ _ = true | show drawOK3 _ _ = true); kernel_rfl)))
  repeat' (first | (with_reducible first | exact fun h => h | refine ExE.row (by with_unfolding_all rfl) ?_ | refine And.intro ?_ ?_) | ((with_reducible intro hq); first | exact bne1 hq (by with_reducible assumption) | exact bne1 (by with_reducible assumption) hq | ((simp only [*, BB, cond_true, cond_false, reduceCtorEq] at hq); done) | (revert hq; with_reducible intro _)) | (with_reducible first | exact True.intro | rfl | refine EntLe.row ?_ | exact LeN.ro rfl | exact LeN.rptr | assumption) | ((with_reducible first | refine WkX.chk ?_ | refine Wk.chk ?_ | refine LeL.chk ?_ | refine LeF.chk ?_ | refine Run.mk ?_); (conv => whnf)) | ((with_reducible show LeO _ _); first | refine LeO.ro ?_ | refine LeO.roCap ?_ | refine LeO.nil ?_ (fun _ => rfl)) | ((with_reducible show LeR _ _ _); first | refine LeR.own rfl rfl rfl ?_ | refine LeR.view rfl rfl rfl ?_ ?_ | refine LeR.ro ?_ | refine LeR.roCap ?_ | refine LeR.nil ?_ (fun _ => rfl)) | ((with_reducible first | show drawOK _ _ = true | show lateOK _ _ = true | show drawOK2 _ _ = true | show drawOK3 _ _ = true); kernel_rfl))
  · rename_i hlt heq
    have heq : ((((Utf8.decode l pos).1 : Nat) : Int) == r) = true := heq
    rw [hpos, signsFrom_step hlt, List.any_cons, heq]
    rfl
  · rename_i hlt heq
    have heq : ((((Utf8.decode l pos).1 : Nat) : Int) == r) = false := heq
    refine ⟨pos + (Utf8.decode l pos).2, ⟨?_, ?_⟩, Wk.chk ?_⟩
    · rw [hpos, signsFrom_step hlt, List.any_cons, heq]
      rfl
    · have := width_pos l pos
      dsimp only
      omega
    · ((conv => whnf); repeat' (first | (with_reducible first | exact fun h => h | refine ExE.row (by with_unfolding_all rfl) ?_ | refine And.intro ?_ ?_) | ((with_reducible intro hq); first | exact bne1 hq (by with_reducible assumption) | exact bne1 (by with_reducible assumption) hq | ((simp only [*, BB, cond_true, cond_false, reduceCtorEq] at hq); done) | (revert hq; with_reducible intro _)) | (with_reducible first | exact True.intro | rfl | refine EntLe.row ?_ | exact LeN.ro rfl | exact LeN.rptr | assumption) | ((with_reducible first | refine WkX.chk ?_ | refine Wk.chk ?_ | refine LeL.chk ?_ | refine LeF.chk ?_ | refine Run.mk ?_); (conv => whnf)) | ((with_reducible show LeO _ _); first | refine LeO.ro ?_ | refine LeO.roCap ?_ | refine LeO.nil ?_ (fun _ => rfl)) | ((with_reducible show LeR _ _ _); first | refine LeR.own rfl rfl rfl ?_ | refine LeR.view rfl rfl rfl ?_ ?_ | refine LeR.ro ?_ | refine LeR.roCap ?_ | refine LeR.nil ?_ (fun _ => rfl)) | ((with_reducible first | show drawOK _ _ = true | show lateOK _ _ = true | show drawOK2 _ _ = true | show drawOK3 _ _ = true); kernel_rfl)))
  · rename_i hlt
    rw [hpos, signsFrom_end hlt]
    rfl
end Go.SX.Try
/- Clusters, told plainly: the way the program goes about it. No program here. -/
namespace Go.SX.Plain

structure Clu where
  «at» : Int
  len : Int
  frm : Int
  to : Int
  cells : Int
  deriving DecidableEq
structure Grp where
  c : Clu
  first : Int
  last : Int
  arrow : Bool
def Grp.zero : Grp := ⟨⟨0, 0, 0, 0, 0⟩, 0, 0, false⟩
def takesB (g : Grp) (r : Int) : Bool :=
  if widthI r = 0 ∧ controlB r = false then !controlB g.first
  else if flagB r = true then flagB g.first && decide (g.c.to - g.c.frm = 1)
  else decide (widthI r = 2) && decide (g.last = 0x200D) && decide (widthI g.first = 2)
def addG (g : Grp) (r n : Int) : Grp :=
  if g.c.to = g.c.frm then ⟨⟨g.c.at, g.c.len + n, g.c.frm, g.c.to + 1, widthI r⟩, r, r, decide (0x2190 ≤ r) && decide (r ≤ 0x2BFF)⟩
  else if flagB r = true ∨ (g.arrow = true ∧ r = 0xFE0F) then ⟨⟨g.c.at, g.c.len + n, g.c.frm, g.c.to + 1, 2⟩, g.first, r, g.arrow⟩
  else ⟨⟨g.c.at, g.c.len + n, g.c.frm, g.c.to + 1, g.c.cells⟩, g.first, r, g.arrow⟩
def signOut (begun : Bool) (g : Grp) (was : Int) : List Clu := if begun = true ∧ takesB g was = false then [g.c] else []
def signGrp (begun : Bool) (g : Grp) (at' was e : Int) : Grp :=
  if begun = true ∧ takesB g was = false then addG ⟨⟨at', 0, g.c.to, g.c.to, 0⟩, 0, 0, false⟩ was (e - at') else addG g was (e - at')
def restGo (s : ByteArray) : Nat → Nat → Int → Int → Bool → Grp → List Clu
  | 0, _, at', was, begun, g => if s.size = 0 then [] else signOut begun g was ++ [(signGrp begun g at' was s.size).c]
  | k + 1, pos, at', was, begun, g =>
    if pos < s.size then
      if 0 < pos then signOut begun g was ++ restGo s k (pos + (Utf8.decode s pos).2) pos (Utf8.decode s pos).1 true (signGrp begun g at' was pos)
      else restGo s k (pos + (Utf8.decode s pos).2) pos (Utf8.decode s pos).1 begun g
    else if s.size = 0 then [] else signOut begun g was ++ [(signGrp begun g at' was s.size).c]
theorem restGo_fuel (s : ByteArray) : ∀ (k k' pos : Nat) (at' was : Int) (begun : Bool) (g : Grp), s.size - pos ≤ k → s.size - pos ≤ k' → restGo s k pos at' was begun g = restGo s k' pos at' was begun g
  | 0, 0, _, _, _, _, _, _, _ => rfl
  | 0, k' + 1, pos, _, _, _, _, h, _ => by simp only [restGo]; rw [if_neg (show ¬ pos < s.size by omega)]
  | k + 1, 0, pos, _, _, _, _, _, h => by simp only [restGo]; rw [if_neg (show ¬ pos < s.size by omega)]
  | k + 1, k' + 1, pos, at', was, begun, g, h, h' => by
    simp only [restGo]
    split
    · have := width_pos s pos
      rw [restGo_fuel s k k' _ _ _ true _ (by omega) (by omega), restGo_fuel s k k' _ _ _ begun _ (by omega) (by omega)]
    · rfl
def rest (s : ByteArray) (pos : Nat) (at' was : Int) (begun : Bool) (g : Grp) : List Clu := restGo s (s.size - pos) pos at' was begun g
theorem rest_end {s : ByteArray} {pos : Nat} (h : ¬ pos < s.size) (at' was : Int) (begun : Bool) (g : Grp) : rest s pos at' was begun g = if s.size = 0 then [] else signOut begun g was ++ [(signGrp begun g at' was s.size).c] := by
  unfold rest
  rw [show s.size - pos = 0 by omega]
  rfl
theorem rest_step {s : ByteArray} {pos : Nat} (h : pos < s.size) (at' was : Int) (begun : Bool) (g : Grp) : rest s pos at' was begun g =
    if 0 < pos then signOut begun g was ++ rest s (pos + (Utf8.decode s pos).2) pos (Utf8.decode s pos).1 true (signGrp begun g at' was pos)
    else rest s (pos + (Utf8.decode s pos).2) pos (Utf8.decode s pos).1 begun g := by
  unfold rest
  obtain ⟨k, hk⟩ : ∃ k, s.size - pos = k + 1 := ⟨s.size - pos - 1, by omega⟩
  rw [hk]
  simp only [restGo]
  rw [if_pos h]
  have := width_pos s pos
  rw [restGo_fuel s k (s.size - (pos + (Utf8.decode s pos).2)) _ _ _ true _ (by omega) (Nat.le_refl _), restGo_fuel s k (s.size - (pos + (Utf8.decode s pos).2)) _ _ _ begun _ (by omega) (Nat.le_refl _)]
def clusters (s : ByteArray) : List Clu := rest s 0 0 0 false Grp.zero
end Go.SX.Plain
/- The parts of a text, told plainly. No program here. -/
namespace Go.SX.Plain

structure Part where
  c : Clu
  first : Int
  fin : Bool
  blank : Bool
  wide : Bool
  dash : Bool
  opening : Bool
  closing : Bool
def blanks : ByteArray := { data := #[9, 32, 225, 154, 128, 226, 129, 159, 227, 128, 128] }
def dashes : ByteArray := { data := #[45, 226, 128, 144, 226, 128, 146, 226, 128, 147, 226, 128, 148] }
def openings : ByteArray := { data := #[40, 91, 123, 227, 128, 136, 227, 128, 138, 227, 128, 140, 227, 128, 142, 227, 128, 144, 227, 128, 148, 239, 188, 136, 239, 188, 187, 239, 189, 155] }
def closings : ByteArray := { data := #[33, 41, 44, 46, 58, 59, 63, 93, 125, 227, 128, 129, 227, 128, 130, 227, 128, 137, 227, 128, 139, 227, 128, 141, 227, 128, 143, 227, 128, 145, 227, 128, 149, 227, 131, 188, 239, 188, 129, 239, 188, 137, 239, 188, 140, 239, 188, 142, 239, 188, 154, 239, 188, 155, 239, 188, 159, 239, 188, 189, 239, 189, 157] }
def firstOf (s : ByteArray) (c : Clu) : Int := if 0 < (s.extract c.at.toNat (c.at + c.len).toNat).size then (Utf8.decode (s.extract c.at.toNat (c.at + c.len).toNat) 0).1 else 0
def blankB (r : Int) : Bool := oneB r blanks || (decide (0x2000 ≤ r) && decide (r ≤ 0x2006)) || (decide (0x2008 ≤ r) && decide (r ≤ 0x200A))
def partOfR (c : Clu) (r : Int) : Part := ⟨c, r, r == 10, blankB r, (c.cells == 2) && !blankB r, oneB r dashes, oneB r openings, oneB r closings⟩
def partOf (s : ByteArray) (c : Clu) : Part := partOfR c (firstOf s c)
def parts (s : ByteArray) : List Part := (clusters s).map (partOf s)
def preG (begun : Bool) (g : Grp) (at' was : Int) : Grp := if begun = true ∧ takesB g was = false then ⟨⟨at', 0, g.c.to, g.c.to, 0⟩, 0, 0, false⟩ else g
theorem signGrp_eq (begun : Bool) (g : Grp) (at' was e : Int) : signGrp begun g at' was e = addG (preG begun g at' was) was (e - at') := by unfold signGrp preG; split <;> rfl
theorem takes_1 {a b c d e f l : Int} {ar : Bool} {r : Int} (h : (widthI r == 0 && !controlB r) = true) : (!controlB f) = takesB ⟨⟨a, b, c, d, e⟩, f, l, ar⟩ r := by
  simp only [Bool.and_eq_true, beq_iff_eq, Bool.not_eq_true'] at h
  unfold takesB; rw [if_pos h]
theorem takes_n {r : Int} (h : (widthI r == 0 && !controlB r) = false ∨ (widthI r == 0) = false) : ¬ (widthI r = 0 ∧ controlB r = false) := by
  rintro ⟨h1, h2⟩
  rcases h with h | h <;> simp [h1, h2] at h
theorem takes_2 {a b c d e f l : Int} {ar : Bool} {r : Int} (h : (widthI r == 0 && !controlB r) = false ∨ (widthI r == 0) = false) (hf : flagB r = true) : (flagB f && d - c == 1) = takesB ⟨⟨a, b, c, d, e⟩, f, l, ar⟩ r := by
  unfold takesB; rw [if_neg (takes_n h), if_pos hf, Bool.eq_iff_iff]; simp
theorem takes_3 {a b c d e f l : Int} {ar : Bool} {r : Int} (h : (widthI r == 0 && !controlB r) = false ∨ (widthI r == 0) = false) (hf : flagB r = false) : (widthI r == 2 && l == 8205 && widthI f == 2) = takesB ⟨⟨a, b, c, d, e⟩, f, l, ar⟩ r := by
  unfold takesB; rw [if_neg (takes_n h), if_neg (by simp [hf]), Bool.eq_iff_iff]; simp
theorem takes_4 {a b c d e f l : Int} {ar : Bool} {r : Int} (h : (widthI r == 0 && !controlB r) = false ∨ (widthI r == 0) = false) (hf : flagB r = false) (h2 : (widthI r == 2 && l == 8205) = false) : (bif widthI r == 2 && l == 8205 then false else false) = takesB ⟨⟨a, b, c, d, e⟩, f, l, ar⟩ r := by
  rw [← takes_3 h hf, h2]; rfl
theorem add_1 {a b c d e f l : Int} {ar : Bool} {r n : Int} (h : (d == c) = true) : addG ⟨⟨a, b, c, d, e⟩, f, l, ar⟩ r n = ⟨⟨a, b + n, c, d + 1, widthI r⟩, r, r, decide (0x2190 ≤ r) && decide (r ≤ 0x2BFF)⟩ := by
  unfold addG; rw [if_pos (by simpa using h)]
theorem add_2 {a b c d e f l : Int} {ar : Bool} {r n : Int} (h : (d == c) = false) (h2 : (flagB r || ar && r == 65039) = true) : addG ⟨⟨a, b, c, d, e⟩, f, l, ar⟩ r n = ⟨⟨a, b + n, c, d + 1, 2⟩, f, r, ar⟩ := by
  unfold addG; rw [if_neg (by simpa using h), if_pos (by simpa using h2)]
theorem add_3 {a b c d e f l : Int} {ar : Bool} {r n : Int} (h : (d == c) = false) (h2 : (flagB r || ar && r == 65039) = false) : addG ⟨⟨a, b, c, d, e⟩, f, l, ar⟩ r n = ⟨⟨a, b + n, c, d + 1, e⟩, f, r, ar⟩ := by
  unfold addG; rw [if_neg (by simpa using h), if_neg (by simpa using h2)]
theorem add_inj {a b c d e f l : Int} {ar : Bool} {r n : Int} {a2 b2 c2 d2 e2 f2 l2 : Int} {r2 : Bool} (h : addG ⟨⟨a, b, c, d, e⟩, f, l, ar⟩ r n = ⟨⟨a2, b2, c2, d2, e2⟩, f2, l2, r2⟩) :
    ((d == c) = true → widthI r = e2 ∧ r = f2 ∧ r = l2 ∧ (decide (0x2190 ≤ r) && decide (r ≤ 0x2BFF)) = r2) ∧
    ((d == c) = false → (flagB r || ar && r == 65039) = true → 2 = e2 ∧ f = f2 ∧ r = l2 ∧ ar = r2) ∧
    ((d == c) = false → (flagB r || ar && r == 65039) = false → e = e2 ∧ f = f2 ∧ r = l2 ∧ ar = r2) := by
  refine ⟨fun h1 => ?_, fun h1 h2 => ?_, fun h1 h2 => ?_⟩
  · rw [add_1 h1] at h; simp only [Grp.mk.injEq, Clu.mk.injEq] at h; exact ⟨h.1.2.2.2.2, h.2⟩
  · rw [add_2 h1 h2] at h; simp only [Grp.mk.injEq, Clu.mk.injEq] at h; exact ⟨h.1.2.2.2.2, h.2⟩
  · rw [add_3 h1 h2] at h; simp only [Grp.mk.injEq, Clu.mk.injEq] at h; exact ⟨h.1.2.2.2.2, h.2⟩
structure St40 where
  pos : Nat
  «at» : Int
  was : Int
  begun : Bool
  g : Grp
  l : List Part
def St40.next (s : ByteArray) (i : St40) : St40 :=
  if 0 < i.pos then ⟨i.pos + (Utf8.decode s i.pos).2, i.pos, (Utf8.decode s i.pos).1, true, signGrp i.begun i.g i.at i.was i.pos, i.l ++ (signOut i.begun i.g i.was).map (partOf s)⟩
  else ⟨i.pos + (Utf8.decode s i.pos).2, i.pos, (Utf8.decode s i.pos).1, i.begun, i.g, i.l⟩
structure Inv40 (s : ByteArray) (i : St40) : Prop where
  start : i.pos = 0 → i.begun = false ∧ i.g = Grp.zero ∧ i.at = 0 ∧ i.l = []
  low : 0 < i.pos → 0 ≤ i.at ∧ i.at < i.pos
  place : 0 ≤ i.g.c.at ∧ 0 ≤ i.g.c.len ∧ i.g.c.at + i.g.c.len = i.at
  signs : 0 ≤ i.g.c.frm ∧ i.g.c.frm ≤ i.g.c.to ∧ i.g.c.to ≤ i.at
  full : i.begun = true → i.g.c.frm < i.g.c.to
  told : (i.l.length : Int) ≤ i.g.c.frm
  all : parts s = i.l ++ (rest s i.pos i.at i.was i.begun i.g).map (partOf s)
  bound : i.pos ≤ s.size
theorem Inv40.zero (s : ByteArray) : Inv40 s ⟨0, 0, 0, false, Grp.zero, []⟩ :=
  ⟨fun _ => ⟨rfl, rfl, rfl, rfl⟩, fun h => absurd h (Nat.lt_irrefl _), by simp [Grp.zero], by simp [Grp.zero], by simp, by simp [Grp.zero], by simp [parts, clusters], Nat.zero_le _⟩
theorem width_le {s : ByteArray} {pos : Nat} (h : pos < s.size) : pos + (Utf8.decode s pos).2 ≤ s.size := by
  unfold Utf8.decode
  simp only
  split
  · simp; omega
  · split
    · rename_i h1
      simp only [Bool.and_eq_true, decide_eq_true_eq] at h1
      split <;> simp only <;> omega
    · split
      · rename_i h1
        simp only [Bool.and_eq_true, decide_eq_true_eq] at h1
        split <;> simp only <;> omega
      · split
        · rename_i h1
          simp only [Bool.and_eq_true, decide_eq_true_eq] at h1
          split <;> simp only <;> omega
        · simp only; omega
theorem addG_c (g : Grp) (r n : Int) : (addG g r n).c.at = g.c.at ∧ (addG g r n).c.len = g.c.len + n ∧ (addG g r n).c.frm = g.c.frm ∧ (addG g r n).c.to = g.c.to + 1 := by
  unfold addG
  split
  · exact ⟨rfl, rfl, rfl, rfl⟩
  · split <;> exact ⟨rfl, rfl, rfl, rfl⟩
theorem Inv40.next {s : ByteArray} {i : St40} (h : Inv40 s i) (hp : i.pos < s.size) : Inv40 s (i.next s) := by
  have hw := width_pos s i.pos
  have hl := width_le hp
  obtain ⟨start, low, place, signs, full, told, all, bound⟩ := h
  unfold St40.next
  by_cases h0 : 0 < i.pos
  · rw [if_pos h0]
    obtain ⟨l1, l2⟩ := low h0
    have hrest := rest_step hp i.at i.was i.begun i.g
    rw [if_pos h0] at hrest
    obtain ⟨p1, p2, p3⟩ := place
    obtain ⟨s1, s2, s3⟩ := signs
    by_cases hc : i.begun = true ∧ takesB i.g i.was = false
    · have hg : signGrp i.begun i.g i.at i.was i.pos = addG ⟨⟨i.at, 0, i.g.c.to, i.g.c.to, 0⟩, 0, 0, false⟩ i.was (i.pos - i.at) := by unfold signGrp; rw [if_pos hc]
      have ho : signOut i.begun i.g i.was = [i.g.c] := by unfold signOut; rw [if_pos hc]
      obtain ⟨a1, a2, a3, a4⟩ := addG_c ⟨⟨i.at, 0, i.g.c.to, i.g.c.to, 0⟩, 0, 0, false⟩ i.was (i.pos - i.at)
      simp only at a1 a2 a3 a4
      have hf := full hc.1
      refine ⟨fun h => ?_, fun _ => ?_, ?_, ?_, fun _ => ?_, ?_, ?_, hl⟩
      · simp only at h; omega
      · simp only; omega
      · simp only [hg, a1, a2]; omega
      · simp only [hg, a3, a4]; omega
      · simp only [hg, a3, a4]; omega
      · simp only [hg, a3, ho, List.length_append, List.length_map, List.length_cons, List.length_nil]; omega
      · simp only; rw [all, hrest, List.map_append, List.append_assoc]
    · have hg : signGrp i.begun i.g i.at i.was i.pos = addG i.g i.was (i.pos - i.at) := by unfold signGrp; rw [if_neg hc]
      have ho : signOut i.begun i.g i.was = [] := by unfold signOut; rw [if_neg hc]
      obtain ⟨a1, a2, a3, a4⟩ := addG_c i.g i.was (i.pos - i.at)
      refine ⟨fun h => ?_, fun _ => ?_, ?_, ?_, fun _ => ?_, ?_, ?_, hl⟩
      · simp only at h; omega
      · simp only; omega
      · simp only [hg, a1, a2]; omega
      · simp only [hg, a3, a4]; omega
      · simp only [hg, a3, a4]; omega
      · simp only [hg, a3, ho, List.length_append, List.length_map, List.length_nil]; omega
      · simp only; rw [all, hrest, List.map_append, List.append_assoc]
  · rw [if_neg h0]
    obtain ⟨b1, b2, b3, b4⟩ := start (by omega)
    have hrest := rest_step hp i.at i.was i.begun i.g
    rw [if_neg h0] at hrest
    refine ⟨fun h => ?_, fun _ => ?_, ?_, ?_, fun h => ?_, told, ?_, hl⟩
    · simp only at h; omega
    · simp only; omega
    · simp only [b2, Grp.zero]; omega
    · simp only [b2, Grp.zero]; omega
    · simp only [b1] at h; cases h
    · simp only; rw [all, hrest]
theorem Inv40.pre {s : ByteArray} {i : St40} (h : Inv40 s i) (hp : 0 < i.pos) {g : Grp} (hg : g = preG i.begun i.g i.at i.was) :
    0 ≤ g.c.at ∧ 0 ≤ g.c.len ∧ g.c.at + g.c.len = i.at ∧ 0 ≤ g.c.frm ∧ g.c.frm ≤ g.c.to ∧ g.c.to ≤ i.at := by
  obtain ⟨l1, l2⟩ := h.low hp
  obtain ⟨p1, p2, p3⟩ := h.place
  obtain ⟨s1, s2, s3⟩ := h.signs
  subst hg
  unfold preG
  split
  · simp only; omega
  · omega
theorem St40.next_pos {s : ByteArray} {i : St40} (hp : 0 < i.pos) {g : Grp} {l : List Part} (hg : g = preG i.begun i.g i.at i.was) (hl : l = i.l ++ (signOut i.begun i.g i.was).map (partOf s)) :
    i.next s = ⟨i.pos + (Utf8.decode s i.pos).2, i.pos, (Utf8.decode s i.pos).1, true, addG g i.was (i.pos - i.at), l⟩ := by
  unfold St40.next
  rw [if_pos hp, signGrp_eq, ← hg, ← hl]
theorem St40.next_zero {s : ByteArray} {i : St40} (hp : ¬ 0 < i.pos) : i.next s = ⟨i.pos + (Utf8.decode s i.pos).2, i.pos, (Utf8.decode s i.pos).1, i.begun, i.g, i.l⟩ := by
  unfold St40.next
  rw [if_neg hp]
theorem St40.next_lt {s : ByteArray} {i : St40} (hp : i.pos < s.size) : s.size - (i.next s).pos < s.size - i.pos := by
  have := width_pos s i.pos
  unfold St40.next
  split <;> simp only <;> omega
end Go.SX.Plain
/- Contract of wrap's parts. -/
namespace Go.SX.Try
open Go.Proofs Go.Proofs.Try Go.SX.Plain
set_option maxRecDepth 100000
set_option maxHeartbeats 0
set_option linter.unusedSimpArgs false
def C_part : Cdc Part where
  size := 12
  enc p := [.v (.int .i64 p.c.at), .v (.int .i64 p.c.len), .v (.int .i64 p.c.frm), .v (.int .i64 p.c.to), .v (.int .i64 p.c.cells), .v (.int .i32 p.first), .sb p.fin, .sb p.blank, .sb p.wide, .sb p.dash, .sb p.opening, .sb p.closing]
  dec l := match l with
    | [.v (.int _ a), .v (.int _ b), .v (.int _ c), .v (.int _ d), .v (.int _ e), .v (.int _ f), g, h, i, j, k, l] => ⟨⟨a, b, c, d, e⟩, f, bOf g, bOf h, bOf i, bOf j, bOf k, bOf l⟩
    | _ => ⟨⟨0, 0, 0, 0, 0⟩, 0, false, false, false, false, false, false⟩
  d := ⟨⟨0, 0, 0, 0, 0⟩, 0, false, false, false, false, false, false⟩
def D_part : Cds := [(69, ⟨Part, C_part⟩)]
theorem D_part_ok : CdsOK T D_part := .cons ⟨fun _ => rfl, by decide, _, rfl, rfl, by decide⟩ .nil
theorem q_parts : fact 26 f26 := ⟨by kernel_rfl, rfl, by kernel_rfl⟩
theorem q_clusters : fact 33 f33 := ⟨by kernel_rfl, rfl, by kernel_rfl⟩
theorem q_clusters1 : fact 51 f51 := ⟨by kernel_rfl, rfl, by kernel_rfl⟩
theorem q_clusters11 : fact 52 f52 := ⟨by kernel_rfl, rfl, by kernel_rfl⟩
theorem q_takes : fact 53 f53 := ⟨by kernel_rfl, rfl, by kernel_rfl⟩
theorem q_add : fact 54 f54 := ⟨by kernel_rfl, rfl, by kernel_rfl⟩
def gAV : Grp → List AV
  | ⟨⟨a, b, c, d, e⟩, f, l, r⟩ => [.v (.int .i64 a), .v (.int .i64 b), .v (.int .i64 c), .v (.int .i64 d), .v (.int .i64 e), .v (.int .i32 f), .v (.int .i32 l), .sb r]
def gAV' (g : Grp) : List AV := [.v (.int .i64 g.c.at), .v (.int .i64 g.c.len), .v (.int .i64 g.c.frm), .v (.int .i64 g.c.to), .v (.int .i64 g.c.cells), .v (.int .i32 g.first), .v (.int .i32 g.last), .sb g.arrow]
def takesS (rest cs : List AV) : AV × List AV := match rest, cs with
  | [.v (.int _ r)], [.v (.int _ a), .v (.int _ b), .v (.int _ c), .v (.int _ d), .v (.int _ e), .v (.int _ f), .v (.int _ l), ar] => (.sb (takesB ⟨⟨a, b, c, d, e⟩, f, l, bOf ar⟩ r), cs)
  | _, _ => (.junk, cs)
def addS (rest cs : List AV) : AV × List AV := match rest, cs with
  | [.v (.int _ r), .v (.int _ n)], [.v (.int _ a), .v (.int _ b), .v (.int _ c), .v (.int _ d), .v (.int _ e), .v (.int _ f), .v (.int _ l), ar] => (.tup [], gAV' (addG ⟨⟨a, b, c, d, e⟩, f, l, bOf ar⟩ r n))
  | _, _ => (.junk, cs)
theorem con_parts : Con prog 26 (fun s : ByteArray => [.v (.string s)]) (fun s => .ro 12 C_part.enc C_part.d (parts s) none) (fun s => s.size ≤ 2000000) := by
  refine Con.of (by kernel_rfl) T_ok D_part_ok (.inl (J := []) q_clusters.1 q_clusters.2.1 q_clusters.2.2 (.inl (J := []) q_clusters1.1 q_clusters1.2.1 q_clusters1.2.2 (.inl (J := [5]) q_clusters11.1 q_clusters11.2.1 q_clusters11.2.2
    (.meth (J := []) takesS q_takes.1 q_takes.2.1 q_takes.2.2 (.meth (J := []) addS q_add.1 q_add.2.1 q_add.2.2
    (.con con_one (.con con_width (.con con_control (.con con_flag .nil))))))))) 9 [] q_parts.1 q_parts.2.1 q_parts.2.2 (fun _ => rfl) fun s hs => ?_
  repeat' (first | (with_reducible first | exact fun h => h | refine ExE.row (by with_unfolding_all rfl) ?_ | refine And.intro ?_ ?_) | ((with_reducible intro hq); first | exact bne1 hq (by with_reducible assumption) | exact bne1 (by with_reducible assumption) hq | ((simp only [*, BB, cond_true, cond_false, reduceCtorEq] at hq); done) | (revert hq; with_reducible intro _)) | (with_reducible first | exact True.intro | rfl | refine EntLe.row ?_ | exact LeN.ro rfl | exact LeN.rptr | assumption) | ((with_reducible first | refine WkX.chk ?_ | refine Wk.chk ?_ | refine LeL.chk ?_ | refine LeF.chk ?_ | refine Run.mk ?_); (conv => whnf)) | ((with_reducible show LeO _ _); first | refine LeO.ro ?_ | refine LeO.roCap ?_ | refine LeO.nil ?_ (fun _ => rfl)) | ((with_reducible show LeR _ _ _); first | refine LeR.own rfl rfl rfl ?_ | refine LeR.view rfl rfl rfl ?_ ?_ | refine LeR.ro ?_ | refine LeR.roCap ?_ | refine LeR.nil ?_ (fun _ => rfl)) | ((with_reducible first | show drawOK _ _ = true | show lateOK _ _ = true | show drawOK2 _ _ = true | show drawOK3 _ _ = true); kernel_rfl))
  refine loopI St40 [] (fun _ => []) (fun | ⟨pos, at', was, begun, g, l⟩ => [(12, .iter s pos), (11, .box [.sb begun] 4), (10, .box [.v (.int .i32 was)] 21), (9, .box [.v (.int .i64 at')] 3), (8, .box (gAV g) 108), (2, .row C_part l 69 none)])
    (Inv40 s) (fun i => s.size - i.pos) ⟨0, 0, 0, false, Grp.zero, []⟩ (Inv40.zero s) (Wk.chk ?_) fun i hi => ?_
  · ((conv => whnf); repeat' (first | (with_reducible first | exact fun h => h | refine ExE.row (by with_unfolding_all rfl) ?_ | refine And.intro ?_ ?_) | ((with_reducible intro hq); first | exact bne1 hq (by with_reducible assumption) | exact bne1 (by with_reducible assumption) hq | ((simp only [*, BB, cond_true, cond_false, reduceCtorEq] at hq); done) | (revert hq; with_reducible intro _)) | (with_reducible first | exact True.intro | rfl | refine EntLe.row ?_ | exact LeN.ro rfl | exact LeN.rptr | assumption) | ((with_reducible first | refine WkX.chk ?_ | refine Wk.chk ?_ | refine LeL.chk ?_ | refine LeF.chk ?_ | refine Run.mk ?_); (conv => whnf)) | ((with_reducible show LeO _ _); first | refine LeO.ro ?_ | refine LeO.roCap ?_ | refine LeO.nil ?_ (fun _ => rfl)) | ((with_reducible show LeR _ _ _); first | refine LeR.own rfl rfl rfl ?_ | refine LeR.view rfl rfl rfl ?_ ?_ | refine LeR.ro ?_ | refine LeR.roCap ?_ | refine LeR.nil ?_ (fun _ => rfl)) | ((with_reducible first | show drawOK _ _ = true | show lateOK _ _ = true | show drawOK2 _ _ = true | show drawOK3 _ _ = true); kernel_rfl)))
    all_goals rfl
  obtain ⟨pos, at', was, begun, ⟨⟨ca, cl, cf, ct, cc⟩, gf, gl, ga⟩, l⟩ := i
  repeat' (first | (with_reducible first | refine ⟨_, ⟨.cons (.v _) .nil, trivial⟩, ?_⟩ | refine ⟨(_, _), ⟨.cons (.v _) (.cons (.v _) .nil), trivial⟩, ?_⟩ | refine loopI Unit [] (fun _ => []) (fun _ => []) (fun _ => True) (fun _ => 0) () trivial ?_ fun _ _ => ?_ | exact fun h => h | refine ExE.row (by with_unfolding_all rfl) ?_ | refine And.intro ?_ ?_) | ((with_reducible intro hq); first | exact bne1 hq (by with_reducible assumption) | exact bne1 (by with_reducible assumption) hq | ((simp only [*, BB, cond_true, cond_false, reduceCtorEq] at hq); done) | (revert hq; with_reducible intro _)) | (with_reducible first | exact True.intro | rfl | refine EntLe.row ?_ | exact LeN.ro rfl | exact LeN.rptr | assumption) | ((with_reducible first | refine WkX.chk ?_ | refine Wk.chk ?_ | refine LeL.chk ?_ | refine LeF.chk ?_ | refine Run.mk ?_); (conv => whnf)) | ((with_reducible show LeO _ _); first | refine LeO.ro ?_ | refine LeO.roCap ?_ | refine LeO.nil ?_ (fun _ => rfl)) | ((with_reducible show LeR _ _ _); first | refine LeR.own rfl rfl rfl ?_ | refine LeR.view rfl rfl rfl ?_ ?_ | refine LeR.ro ?_ | refine LeR.roCap ?_ | refine LeR.nil ?_ (fun _ => rfl)) | ((with_reducible first | show drawOK _ _ = true | show lateOK _ _ = true | show drawOK2 _ _ = true | show drawOK3 _ _ = true); kernel_rfl))
  · have low' : 0 < pos := by simp_all
    have hi' := hi
    obtain ⟨start, low, place, signs, full, told, all, bound⟩ := hi'
    have low := low low'
    dsimp only at low place signs full told bound
    have hJx : ∃ J : Grp × List Part, J = (preG begun ⟨⟨ca, cl, cf, ct, cc⟩, gf, gl, ga⟩ at' was, l ++ (signOut begun ⟨⟨ca, cl, cf, ct, cc⟩, gf, gl, ga⟩ was).map (partOf s)) := ⟨_, rfl⟩
    obtain ⟨J, hJ⟩ := hJx
    refine joinI (Grp × List Part) [] (fun _ => []) (fun | (g, l) => [(8, .box (gAV g) 108), (2, .row C_part l 69 none)]) (fun j => j = J) ?_ fun j hj => ?_
    · have hbb := Bool.eq_false_or_eq_true begun
      rcases hbb with hb | hb
      case inr =>
        subst hb
        have hp : preG false ⟨⟨ca, cl, cf, ct, cc⟩, gf, gl, ga⟩ at' was = ⟨⟨ca, cl, cf, ct, cc⟩, gf, gl, ga⟩ := rfl
        have ho : signOut false ⟨⟨ca, cl, cf, ct, cc⟩, gf, gl, ga⟩ was = [] := rfl
        rw [hp, ho] at hJ; subst hJ
        clear hp ho all hi full start
        repeat' (first | (with_reducible first | refine ex_eq ?_ | refine ⟨_, ⟨.cons (.v _) .nil, trivial⟩, ?_⟩ | refine ⟨(_, _), ⟨.cons (.v _) (.cons (.v _) .nil), trivial⟩, ?_⟩ | refine loopI Unit [] (fun _ => []) (fun _ => []) (fun _ => True) (fun _ => 0) () trivial ?_ fun _ _ => ?_ | exact fun h => h | refine ExE.row (by with_unfolding_all rfl) ?_ | refine And.intro ?_ ?_) | ((with_reducible intro hq); first | exact bne1 hq (by with_reducible assumption) | exact bne1 (by with_reducible assumption) hq | ((simp only [*, BB, cond_true, cond_false, reduceCtorEq] at hq); done) | (revert hq; with_reducible intro _)) | (with_reducible first | exact True.intro | rfl | refine EntLe.row ?_ | exact LeN.ro rfl | exact LeN.rptr | assumption) | ((with_reducible first | refine WkX.chk ?_ | refine Wk.chk ?_ | refine LeL.chk ?_ | refine LeF.chk ?_ | refine Run.mk ?_); (conv => whnf)) | ((with_reducible show LeO _ _); first | refine LeO.ro ?_ | refine LeO.roCap ?_ | refine LeO.nil ?_ (fun _ => rfl)) | ((with_reducible show LeR _ _ _); first | refine LeR.own rfl rfl rfl ?_ | refine LeR.view rfl rfl rfl ?_ ?_ | refine LeR.ro ?_ | refine LeR.roCap ?_ | refine LeR.nil ?_ (fun _ => rfl)) | ((with_reducible first | show drawOK _ _ = true | show lateOK _ _ = true | show drawOK2 _ _ = true | show drawOK3 _ _ = true); kernel_rfl))
        all_goals (simp only [List.map_nil, List.append_nil]; done)
      case inl =>
        subst hb
        have htt := Bool.eq_false_or_eq_true (takesB ⟨⟨ca, cl, cf, ct, cc⟩, gf, gl, ga⟩ was)
        rcases htt with htk | htk
        case inl =>
          have hp : preG true ⟨⟨ca, cl, cf, ct, cc⟩, gf, gl, ga⟩ at' was = ⟨⟨ca, cl, cf, ct, cc⟩, gf, gl, ga⟩ := by simp [preG, htk]
          have ho : signOut true ⟨⟨ca, cl, cf, ct, cc⟩, gf, gl, ga⟩ was = [] := by simp [signOut, htk]
          rw [hp, ho] at hJ; subst hJ
          clear hp ho all hi full start
          repeat' (first | (with_reducible first | refine ex_eq ?_ | refine ⟨_, ⟨.cons (.v _) .nil, trivial⟩, ?_⟩ | refine ⟨(_, _), ⟨.cons (.v _) (.cons (.v _) .nil), trivial⟩, ?_⟩ | refine loopI Unit [] (fun _ => []) (fun _ => []) (fun _ => True) (fun _ => 0) () trivial ?_ fun _ _ => ?_ | exact fun h => h | refine ExE.row (by with_unfolding_all rfl) ?_ | refine And.intro ?_ ?_) | ((with_reducible intro hq); first | exact bne1 hq (by with_reducible assumption) | exact bne1 (by with_reducible assumption) hq | ((simp only [*, BB, cond_true, cond_false, reduceCtorEq] at hq); done) | (revert hq; with_reducible intro _)) | (with_reducible first | exact True.intro | rfl | refine EntLe.row ?_ | exact LeN.ro rfl | exact LeN.rptr | assumption) | ((with_reducible first | refine WkX.chk ?_ | refine Wk.chk ?_ | refine LeL.chk ?_ | refine LeF.chk ?_ | refine Run.mk ?_); (conv => whnf)) | ((with_reducible show LeO _ _); first | refine LeO.ro ?_ | refine LeO.roCap ?_ | refine LeO.nil ?_ (fun _ => rfl)) | ((with_reducible show LeR _ _ _); first | refine LeR.own rfl rfl rfl ?_ | refine LeR.view rfl rfl rfl ?_ ?_ | refine LeR.ro ?_ | refine LeR.roCap ?_ | refine LeR.nil ?_ (fun _ => rfl)) | ((with_reducible first | show drawOK _ _ = true | show lateOK _ _ = true | show drawOK2 _ _ = true | show drawOK3 _ _ = true); kernel_rfl))
          all_goals (try dsimp only [C_part, bOf])
          all_goals first
            | omega
            | (refine Fits.i64 ?_ ?_ <;> omega)
            | (simp only [signAt]; done)
            | (with_reducible exact takes_1 (by assumption))
            | (with_reducible exact takes_2 (by first | exact .inl (by assumption) | exact .inr (by assumption)) (by assumption))
            | (with_reducible exact takes_3 (by first | exact .inl (by assumption) | exact .inr (by assumption)) (by assumption))
            | (with_reducible exact takes_4 (by first | exact .inl (by assumption) | exact .inr (by assumption)) (by assumption) (by assumption))
            | (simp only [List.map_nil, List.append_nil]; done)
            | ((with_reducible show (_ : Bool) = true); (first | (simp_all only [Bool.and_eq_true, and_self]; done) | (simp only [*, Bool.not_false, Bool.not_true, Bool.and_true, Bool.true_and]; done)))
            | (simp only [List.length_cons, List.length_nil]; omega)
            | skip
          all_goals simp only [List.map_cons, List.map_nil, partOf, firstOf, signAt]
          all_goals split
          all_goals first
            | contradiction
            | (simp only [partOfR, blankB, blanks, dashes, openings, closings]; done)
        case inr =>
          have hp : preG true ⟨⟨ca, cl, cf, ct, cc⟩, gf, gl, ga⟩ at' was = ⟨⟨at', 0, ct, ct, 0⟩, 0, 0, false⟩ := by simp [preG, htk]
          have ho : signOut true ⟨⟨ca, cl, cf, ct, cc⟩, gf, gl, ga⟩ was = [⟨ca, cl, cf, ct, cc⟩] := by simp [signOut, htk]
          rw [hp, ho] at hJ; subst hJ
          have full := full rfl
          clear hp ho all hi start
          repeat' (first | (with_reducible first | refine ex_eq ?_ | refine ⟨_, ⟨.cons (.v _) .nil, trivial⟩, ?_⟩ | refine ⟨(_, _), ⟨.cons (.v _) (.cons (.v _) .nil), trivial⟩, ?_⟩ | refine loopI Unit [] (fun _ => []) (fun _ => []) (fun _ => True) (fun _ => 0) () trivial ?_ fun _ _ => ?_ | exact fun h => h | refine ExE.row (by with_unfolding_all rfl) ?_ | refine And.intro ?_ ?_) | ((with_reducible intro hq); first | exact bne1 hq (by with_reducible assumption) | exact bne1 (by with_reducible assumption) hq | ((simp only [*, BB, cond_true, cond_false, reduceCtorEq] at hq); done) | (revert hq; with_reducible intro _)) | (with_reducible first | exact True.intro | rfl | refine EntLe.row ?_ | exact LeN.ro rfl | exact LeN.rptr | assumption) | ((with_reducible first | refine WkX.chk ?_ | refine Wk.chk ?_ | refine LeL.chk ?_ | refine LeF.chk ?_ | refine Run.mk ?_); (conv => whnf)) | ((with_reducible show LeO _ _); first | refine LeO.ro ?_ | refine LeO.roCap ?_ | refine LeO.nil ?_ (fun _ => rfl)) | ((with_reducible show LeR _ _ _); first | refine LeR.own rfl rfl rfl ?_ | refine LeR.view rfl rfl rfl ?_ ?_ | refine LeR.ro ?_ | refine LeR.roCap ?_ | refine LeR.nil ?_ (fun _ => rfl)) | ((with_reducible first | show drawOK _ _ = true | show lateOK _ _ = true | show drawOK2 _ _ = true | show drawOK3 _ _ = true); kernel_rfl))
          all_goals (try dsimp only [C_part, bOf])
          all_goals first
            | omega
            | (refine Fits.i64 ?_ ?_ <;> omega)
            | (simp only [signAt]; done)
            | (with_reducible exact takes_1 (by assumption))
            | (with_reducible exact takes_2 (by first | exact .inl (by assumption) | exact .inr (by assumption)) (by assumption))
            | (with_reducible exact takes_3 (by first | exact .inl (by assumption) | exact .inr (by assumption)) (by assumption))
            | (with_reducible exact takes_4 (by first | exact .inl (by assumption) | exact .inr (by assumption)) (by assumption) (by assumption))
            | (simp only [List.map_nil, List.append_nil]; done)
            | ((with_reducible show (_ : Bool) = true); (first | (simp_all only [Bool.and_eq_true, and_self]; done) | (simp only [*, Bool.not_false, Bool.not_true, Bool.and_true, Bool.true_and]; done)))
            | (simp only [List.length_cons, List.length_nil]; omega)
            | skip
          all_goals simp only [List.map_cons, List.map_nil, partOf, firstOf, signAt]
          all_goals split
          all_goals first
            | contradiction
            | (simp only [partOfR, blankB, blanks, dashes, openings, closings]; done)

    · obtain ⟨g', l'⟩ := j
      have hjj := Prod.mk.inj (hj.trans hJ)
      obtain ⟨hg, hl⟩ := hjj
      clear hJ
      have hzz := hi.pre low' hg
      obtain ⟨p1, p2, p3, p4, p5, p6⟩ := hzz
      clear hj
      have hnext := St40.next_pos (s := s) (i := ⟨pos, at', was, begun, ⟨⟨ca, cl, cf, ct, cc⟩, gf, gl, ga⟩, l⟩) low' hg hl
      have hinv := hi.next (by assumption)
      have hlt := St40.next_lt (s := s) (i := ⟨pos, at', was, begun, ⟨⟨ca, cl, cf, ct, cc⟩, gf, gl, ga⟩, l⟩) (by assumption)
      rw [hnext] at hinv hlt
      clear hnext hg hl start full told all hi
      obtain ⟨⟨ca, cl, cf, ct, cc⟩, gf, gl, ga⟩ := g'
      dsimp only at p1 p2 p3 p4 p5 p6
      have hxx : ∃ g2, addG ⟨⟨ca, cl, cf, ct, cc⟩, gf, gl, ga⟩ was (↑pos - at') = g2 := ⟨_, rfl⟩
      obtain ⟨g2, hg2⟩ := hxx
      rw [hg2] at hinv hlt
      obtain ⟨⟨a2, b2, c2, d2, e2⟩, f2, l2, r2⟩ := g2
      repeat' (first | (with_reducible first | refine ex_of _ ⟨hinv, hlt⟩ ?_ | refine ⟨_, ⟨.cons (.v _) .nil, trivial⟩, ?_⟩ | refine ⟨(_, _), ⟨.cons (.v _) (.cons (.v _) .nil), trivial⟩, ?_⟩ | refine loopI Unit [] (fun _ => []) (fun _ => []) (fun _ => True) (fun _ => 0) () trivial ?_ fun _ _ => ?_ | exact fun h => h | refine ExE.row (by with_unfolding_all rfl) ?_ | refine And.intro ?_ ?_) | ((with_reducible intro hq); first | exact bne1 hq (by with_reducible assumption) | exact bne1 (by with_reducible assumption) hq | ((simp only [*, BB, cond_true, cond_false, reduceCtorEq] at hq); done) | (revert hq; with_reducible intro _)) | (with_reducible first | exact True.intro | rfl | refine EntLe.row ?_ | exact LeN.ro rfl | exact LeN.rptr | assumption) | ((with_reducible first | refine WkX.chk ?_ | refine Wk.chk ?_ | refine LeL.chk ?_ | refine LeF.chk ?_ | refine Run.mk ?_); (conv => whnf)) | ((with_reducible show LeO _ _); first | refine LeO.ro ?_ | refine LeO.roCap ?_ | refine LeO.nil ?_ (fun _ => rfl)) | ((with_reducible show LeR _ _ _); first | refine LeR.own rfl rfl rfl ?_ | refine LeR.view rfl rfl rfl ?_ ?_ | refine LeR.ro ?_ | refine LeR.roCap ?_ | refine LeR.nil ?_ (fun _ => rfl)) | ((with_reducible first | show drawOK _ _ = true | show lateOK _ _ = true | show drawOK2 _ _ = true | show drawOK3 _ _ = true); kernel_rfl))
      all_goals (try clear hinv hlt)
      all_goals (try dsimp only [bOf])
      all_goals first
        | omega
        | (refine Fits.i64 ?_ ?_ <;> omega)
        | (simp only [signAt]; done)
        | (rw [hg2]; done)
        | (rw [add_1 (by assumption)]; done)
        | (rw [add_2 (by assumption) (by assumption)]; done)
        | (rw [add_3 (by assumption) (by assumption)]; done)
        | ((with_reducible show (_ : Bool) = true); (first | (simp_all only [Bool.and_eq_true, and_self]; done) | (simp only [*, Bool.not_false, Bool.not_true, Bool.and_true, Bool.true_and]; done)))
  · have hnext := St40.next_zero (s := s) (i := ⟨pos, at', was, begun, ⟨⟨ca, cl, cf, ct, cc⟩, gf, gl, ga⟩, l⟩) (by simp_all)
    have hinv := hi.next (by assumption)
    have hlt := St40.next_lt (s := s) (i := ⟨pos, at', was, begun, ⟨⟨ca, cl, cf, ct, cc⟩, gf, gl, ga⟩, l⟩) (by assumption)
    rw [hnext] at hinv hlt
    refine ⟨_, ⟨hinv, hlt⟩, ?_⟩
    clear hinv hlt hnext
    repeat' (first | (with_reducible first | exact fun h => h | refine ExE.row (by with_unfolding_all rfl) ?_ | refine And.intro ?_ ?_) | ((with_reducible intro hq); first | exact bne1 hq (by with_reducible assumption) | exact bne1 (by with_reducible assumption) hq | ((simp only [*, BB, cond_true, cond_false, reduceCtorEq] at hq); done) | (revert hq; with_reducible intro _)) | (with_reducible first | exact True.intro | rfl | refine EntLe.row ?_ | exact LeN.ro rfl | exact LeN.rptr | assumption) | ((with_reducible first | refine WkX.chk ?_ | refine Wk.chk ?_ | refine LeL.chk ?_ | refine LeF.chk ?_ | refine Run.mk ?_); (conv => whnf)) | ((with_reducible show LeO _ _); first | refine LeO.ro ?_ | refine LeO.roCap ?_ | refine LeO.nil ?_ (fun _ => rfl)) | ((with_reducible show LeR _ _ _); first | refine LeR.own rfl rfl rfl ?_ | refine LeR.view rfl rfl rfl ?_ ?_ | refine LeR.ro ?_ | refine LeR.roCap ?_ | refine LeR.nil ?_ (fun _ => rfl)) | ((with_reducible first | show drawOK _ _ = true | show lateOK _ _ = true | show drawOK2 _ _ = true | show drawOK3 _ _ = true); kernel_rfl))
    all_goals rfl
  · have hne : s.size ≠ 0 := by
      intro h
      have : s = ⟨#[]⟩ := by
        cases s with | mk d => have : d.size = 0 := h; simp_all
      simp_all
    have hi' := hi
    obtain ⟨start, low, place, signs, full, told, all, bound⟩ := hi'
    dsimp only at low place signs full told bound
    have hnp : ¬ pos < s.size := by assumption
    have low' : 0 < pos := by omega
    have low := low low'
    have hrest := rest_end hnp at' was begun ⟨⟨ca, cl, cf, ct, cc⟩, gf, gl, ga⟩
    rw [if_neg hne, signGrp_eq] at hrest
    dsimp only at all
    rw [hrest] at all
    clear hrest
    have hJx : ∃ J : Grp × List Part, J = (preG begun ⟨⟨ca, cl, cf, ct, cc⟩, gf, gl, ga⟩ at' was, l ++ (signOut begun ⟨⟨ca, cl, cf, ct, cc⟩, gf, gl, ga⟩ was).map (partOf s)) := ⟨_, rfl⟩
    obtain ⟨J, hJ⟩ := hJx
    refine joinI (Grp × List Part) [] (fun _ => []) (fun | (g, l) => [(8, .box (gAV g) 108), (2, .row C_part l 69 none)]) (fun j => j = J) ?_ fun j hj => ?_
    · have hbb := Bool.eq_false_or_eq_true begun
      rcases hbb with hb | hb
      case inr =>
        subst hb
        have hp : preG false ⟨⟨ca, cl, cf, ct, cc⟩, gf, gl, ga⟩ at' was = ⟨⟨ca, cl, cf, ct, cc⟩, gf, gl, ga⟩ := rfl
        have ho : signOut false ⟨⟨ca, cl, cf, ct, cc⟩, gf, gl, ga⟩ was = [] := rfl
        rw [hp, ho] at hJ; subst hJ
        clear hp ho all hi full start
        repeat' (first | (with_reducible first | refine ex_eq ?_ | refine ⟨_, ⟨.cons (.v _) .nil, trivial⟩, ?_⟩ | refine ⟨(_, _), ⟨.cons (.v _) (.cons (.v _) .nil), trivial⟩, ?_⟩ | refine loopI Unit [] (fun _ => []) (fun _ => []) (fun _ => True) (fun _ => 0) () trivial ?_ fun _ _ => ?_ | exact fun h => h | refine ExE.row (by with_unfolding_all rfl) ?_ | refine And.intro ?_ ?_) | ((with_reducible intro hq); first | exact bne1 hq (by with_reducible assumption) | exact bne1 (by with_reducible assumption) hq | ((simp only [*, BB, cond_true, cond_false, reduceCtorEq] at hq); done) | (revert hq; with_reducible intro _)) | (with_reducible first | exact True.intro | rfl | refine EntLe.row ?_ | exact LeN.ro rfl | exact LeN.rptr | assumption) | ((with_reducible first | refine WkX.chk ?_ | refine Wk.chk ?_ | refine LeL.chk ?_ | refine LeF.chk ?_ | refine Run.mk ?_); (conv => whnf)) | ((with_reducible show LeO _ _); first | refine LeO.ro ?_ | refine LeO.roCap ?_ | refine LeO.nil ?_ (fun _ => rfl)) | ((with_reducible show LeR _ _ _); first | refine LeR.own rfl rfl rfl ?_ | refine LeR.view rfl rfl rfl ?_ ?_ | refine LeR.ro ?_ | refine LeR.roCap ?_ | refine LeR.nil ?_ (fun _ => rfl)) | ((with_reducible first | show drawOK _ _ = true | show lateOK _ _ = true | show drawOK2 _ _ = true | show drawOK3 _ _ = true); kernel_rfl))
        all_goals (simp only [List.map_nil, List.append_nil]; done)
      case inl =>
        subst hb
        have htt := Bool.eq_false_or_eq_true (takesB ⟨⟨ca, cl, cf, ct, cc⟩, gf, gl, ga⟩ was)
        rcases htt with htk | htk
        case inl =>
          have hp : preG true ⟨⟨ca, cl, cf, ct, cc⟩, gf, gl, ga⟩ at' was = ⟨⟨ca, cl, cf, ct, cc⟩, gf, gl, ga⟩ := by simp [preG, htk]
          have ho : signOut true ⟨⟨ca, cl, cf, ct, cc⟩, gf, gl, ga⟩ was = [] := by simp [signOut, htk]
          rw [hp, ho] at hJ; subst hJ
          clear hp ho all hi full start
          repeat' (first | (with_reducible first | refine ex_eq ?_ | refine ⟨_, ⟨.cons (.v _) .nil, trivial⟩, ?_⟩ | refine ⟨(_, _), ⟨.cons (.v _) (.cons (.v _) .nil), trivial⟩, ?_⟩ | refine loopI Unit [] (fun _ => []) (fun _ => []) (fun _ => True) (fun _ => 0) () trivial ?_ fun _ _ => ?_ | exact fun h => h | refine ExE.row (by with_unfolding_all rfl) ?_ | refine And.intro ?_ ?_) | ((with_reducible intro hq); first | exact bne1 hq (by with_reducible assumption) | exact bne1 (by with_reducible assumption) hq | ((simp only [*, BB, cond_true, cond_false, reduceCtorEq] at hq); done) | (revert hq; with_reducible intro _)) | (with_reducible first | exact True.intro | rfl | refine EntLe.row ?_ | exact LeN.ro rfl | exact LeN.rptr | assumption) | ((with_reducible first | refine WkX.chk ?_ | refine Wk.chk ?_ | refine LeL.chk ?_ | refine LeF.chk ?_ | refine Run.mk ?_); (conv => whnf)) | ((with_reducible show LeO _ _); first | refine LeO.ro ?_ | refine LeO.roCap ?_ | refine LeO.nil ?_ (fun _ => rfl)) | ((with_reducible show LeR _ _ _); first | refine LeR.own rfl rfl rfl ?_ | refine LeR.view rfl rfl rfl ?_ ?_ | refine LeR.ro ?_ | refine LeR.roCap ?_ | refine LeR.nil ?_ (fun _ => rfl)) | ((with_reducible first | show drawOK _ _ = true | show lateOK _ _ = true | show drawOK2 _ _ = true | show drawOK3 _ _ = true); kernel_rfl))
          all_goals (try dsimp only [C_part, bOf])
          all_goals first
            | omega
            | (refine Fits.i64 ?_ ?_ <;> omega)
            | (simp only [signAt]; done)
            | (with_reducible exact takes_1 (by assumption))
            | (with_reducible exact takes_2 (by first | exact .inl (by assumption) | exact .inr (by assumption)) (by assumption))
            | (with_reducible exact takes_3 (by first | exact .inl (by assumption) | exact .inr (by assumption)) (by assumption))
            | (with_reducible exact takes_4 (by first | exact .inl (by assumption) | exact .inr (by assumption)) (by assumption) (by assumption))
            | (simp only [List.map_nil, List.append_nil]; done)
            | ((with_reducible show (_ : Bool) = true); (first | (simp_all only [Bool.and_eq_true, and_self]; done) | (simp only [*, Bool.not_false, Bool.not_true, Bool.and_true, Bool.true_and]; done)))
            | (simp only [List.length_cons, List.length_nil]; omega)
            | skip
          all_goals simp only [List.map_cons, List.map_nil, partOf, firstOf, signAt]
          all_goals split
          all_goals first
            | contradiction
            | (simp only [partOfR, blankB, blanks, dashes, openings, closings]; done)
        case inr =>
          have hp : preG true ⟨⟨ca, cl, cf, ct, cc⟩, gf, gl, ga⟩ at' was = ⟨⟨at', 0, ct, ct, 0⟩, 0, 0, false⟩ := by simp [preG, htk]
          have ho : signOut true ⟨⟨ca, cl, cf, ct, cc⟩, gf, gl, ga⟩ was = [⟨ca, cl, cf, ct, cc⟩] := by simp [signOut, htk]
          rw [hp, ho] at hJ; subst hJ
          have full := full rfl
          clear hp ho all hi start
          repeat' (first | (with_reducible first | refine ex_eq ?_ | refine ⟨_, ⟨.cons (.v _) .nil, trivial⟩, ?_⟩ | refine ⟨(_, _), ⟨.cons (.v _) (.cons (.v _) .nil), trivial⟩, ?_⟩ | refine loopI Unit [] (fun _ => []) (fun _ => []) (fun _ => True) (fun _ => 0) () trivial ?_ fun _ _ => ?_ | exact fun h => h | refine ExE.row (by with_unfolding_all rfl) ?_ | refine And.intro ?_ ?_) | ((with_reducible intro hq); first | exact bne1 hq (by with_reducible assumption) | exact bne1 (by with_reducible assumption) hq | ((simp only [*, BB, cond_true, cond_false, reduceCtorEq] at hq); done) | (revert hq; with_reducible intro _)) | (with_reducible first | exact True.intro | rfl | refine EntLe.row ?_ | exact LeN.ro rfl | exact LeN.rptr | assumption) | ((with_reducible first | refine WkX.chk ?_ | refine Wk.chk ?_ | refine LeL.chk ?_ | refine LeF.chk ?_ | refine Run.mk ?_); (conv => whnf)) | ((with_reducible show LeO _ _); first | refine LeO.ro ?_ | refine LeO.roCap ?_ | refine LeO.nil ?_ (fun _ => rfl)) | ((with_reducible show LeR _ _ _); first | refine LeR.own rfl rfl rfl ?_ | refine LeR.view rfl rfl rfl ?_ ?_ | refine LeR.ro ?_ | refine LeR.roCap ?_ | refine LeR.nil ?_ (fun _ => rfl)) | ((with_reducible first | show drawOK _ _ = true | show lateOK _ _ = true | show drawOK2 _ _ = true | show drawOK3 _ _ = true); kernel_rfl))
          all_goals (try dsimp only [C_part, bOf])
          all_goals first
            | omega
            | (refine Fits.i64 ?_ ?_ <;> omega)
            | (simp only [signAt]; done)
            | (with_reducible exact takes_1 (by assumption))
            | (with_reducible exact takes_2 (by first | exact .inl (by assumption) | exact .inr (by assumption)) (by assumption))
            | (with_reducible exact takes_3 (by first | exact .inl (by assumption) | exact .inr (by assumption)) (by assumption))
            | (with_reducible exact takes_4 (by first | exact .inl (by assumption) | exact .inr (by assumption)) (by assumption) (by assumption))
            | (simp only [List.map_nil, List.append_nil]; done)
            | ((with_reducible show (_ : Bool) = true); (first | (simp_all only [Bool.and_eq_true, and_self]; done) | (simp only [*, Bool.not_false, Bool.not_true, Bool.and_true, Bool.true_and]; done)))
            | (simp only [List.length_cons, List.length_nil]; omega)
            | skip
          all_goals simp only [List.map_cons, List.map_nil, partOf, firstOf, signAt]
          all_goals split
          all_goals first
            | contradiction
            | (simp only [partOfR, blankB, blanks, dashes, openings, closings]; done)

    · obtain ⟨g', l'⟩ := j
      have hjj := Prod.mk.inj (hj.trans hJ)
      obtain ⟨hg, hl⟩ := hjj
      clear hJ
      have hzz := hi.pre low' hg
      obtain ⟨p1, p2, p3, p4, p5, p6⟩ := hzz
      clear hj
      rw [← hg, List.map_append, ← List.append_assoc, ← hl] at all
      have hlen : (l'.length : Int) ≤ ct := by
        rw [hl]
        unfold signOut
        split
        · have := full (by simp_all)
          simp only [List.length_append, List.length_map, List.length_cons, List.length_nil]; omega
        · simp only [List.length_append, List.length_map, List.length_nil]; omega
      clear hg hl start full told hi
      obtain ⟨⟨ca, cl, cf, ct, cc⟩, gf, gl, ga⟩ := g'
      dsimp only at p1 p2 p3 p4 p5 p6
      have hzz := addG_c ⟨⟨ca, cl, cf, ct, cc⟩, gf, gl, ga⟩ was (↑s.size - at')
      obtain ⟨q1, q2, q3, q4⟩ := hzz
      have hxx : ∃ g2, addG ⟨⟨ca, cl, cf, ct, cc⟩, gf, gl, ga⟩ was (↑s.size - at') = g2 := ⟨_, rfl⟩
      obtain ⟨g2, hA⟩ := hxx
      rw [hA] at all q1 q2 q3 q4
      obtain ⟨⟨a2, b2, c2, d2, e2⟩, f2, l2, r2⟩ := g2
      dsimp only at q1 q2 q3 q4
      subst q1 q2 q3 q4
      have hzz := add_inj hA
      obtain ⟨k1, k2, k3⟩ := hzz
      repeat' (first | (with_reducible first | refine ⟨_, ⟨.cons (.v _) .nil, trivial⟩, ?_⟩ | refine ⟨(_, _), ⟨.cons (.v _) (.cons (.v _) .nil), trivial⟩, ?_⟩ | refine loopI Unit [] (fun _ => []) (fun _ => []) (fun _ => True) (fun _ => 0) () trivial ?_ fun _ _ => ?_ | exact fun h => h | refine ExE.row (by with_unfolding_all rfl) ?_ | refine And.intro ?_ ?_) | ((with_reducible intro hq); first | exact bne1 hq (by with_reducible assumption) | exact bne1 (by with_reducible assumption) hq | ((simp only [*, BB, cond_true, cond_false, reduceCtorEq] at hq); done) | (revert hq; with_reducible intro _)) | (with_reducible first | exact True.intro | rfl | refine EntLe.row ?_ | exact LeN.ro rfl | exact LeN.rptr | assumption) | ((with_reducible first | refine WkX.chk ?_ | refine Wk.chk ?_ | refine LeL.chk ?_ | refine LeF.chk ?_ | refine Run.mk ?_); (conv => whnf)) | ((with_reducible show LeO _ _); first | refine LeO.ro ?_ | refine LeO.roCap ?_ | refine LeO.nil ?_ (fun _ => rfl)) | ((with_reducible show LeR _ _ _); first | refine LeR.own rfl rfl rfl ?_ | refine LeR.view rfl rfl rfl ?_ ?_ | refine LeR.ro ?_ | refine LeR.roCap ?_ | refine LeR.nil ?_ (fun _ => rfl)) | ((with_reducible first | show drawOK _ _ = true | show lateOK _ _ = true | show drawOK2 _ _ = true | show drawOK3 _ _ = true); kernel_rfl))
      all_goals (try dsimp only [C_part, bOf])
      all_goals (try simp only [hA] at *)
      all_goals first
        | omega
        | (refine Fits.i64 ?_ ?_ <;> omega)
        | (simp only [signAt]; done)
        | (with_reducible exact (k1 (by assumption)).1)
        | (with_reducible exact (k1 (by assumption)).2.1)
        | (with_reducible exact (k1 (by assumption)).2.2.1)
        | (with_reducible exact (k1 (by assumption)).2.2.2)
        | (with_reducible exact (k2 (by assumption) (by assumption)).1)
        | (with_reducible exact (k2 (by assumption) (by assumption)).2.1)
        | (with_reducible exact (k2 (by assumption) (by assumption)).2.2.1)
        | (with_reducible exact (k2 (by assumption) (by assumption)).2.2.2)
        | (with_reducible exact (k3 (by assumption) (by assumption)).1)
        | (with_reducible exact (k3 (by assumption) (by assumption)).2.1)
        | (with_reducible exact (k3 (by assumption) (by assumption)).2.2.1)
        | (with_reducible exact (k3 (by assumption) (by assumption)).2.2.2)
        | ((with_reducible show (_ : Bool) = true); (first | (simp_all only [Bool.and_eq_true, and_self]; done) | (simp only [*, Bool.not_false, Bool.not_true, Bool.and_true, Bool.true_and]; done)))
        | (simp only [List.length_cons, List.length_nil]; omega)
        | skip
      all_goals rw [all]
      all_goals simp only [List.map_cons, List.map_nil, partOf, firstOf, signAt]
      all_goals split
      all_goals first
        | contradiction
        | (simp only [partOfR, blankB, blanks, dashes, openings, closings]; done)
  · have : s.size = 0 := by
      have h : (!decide (s = ⟨#[]⟩)) = false := by assumption
      simp only [Bool.not_eq_false', decide_eq_true_eq] at h
      rw [h]; rfl
    have hrest := rest_end (s := s) (pos := pos) (by assumption) at' was begun ⟨⟨ca, cl, cf, ct, cc⟩, gf, gl, ga⟩
    rw [if_pos this] at hrest
    have all := hi.all
    dsimp only at all
    rw [hrest] at all
    rw [all]; simp
end Go.SX.Try
/- The document's signs (chapter 1), plainly: one sign out of bytes. No program here. -/
namespace Go.SX.Plain
def bt (s : ByteArray) (i : Nat) : Int := (bytesL s).getD i 0
theorem bt_nat (s : ByteArray) (i : Nat) : bt s i = ((s.get! i).toNat : Int) := by
  unfold bt
  rw [bytesL_get]
  congr 2
  cases s with
  | mk d =>
    show d.toList.getD i 0 = d[i]!
    simp [List.getD_eq_getElem?_getD, getElem!_def]
    cases d[i]? <;> rfl
theorem bt_bd (s : ByteArray) (i : Nat) : 0 ≤ bt s i ∧ bt s i ≤ 255 := by
  rw [bt_nat]
  have := (s.get! i).toNat_lt
  omega
def longI (c : Int) : Int := if c < 128 then 1 else if 194 ≤ c ∧ c ≤ 223 then 2 else if 224 ≤ c ∧ c ≤ 239 then 3 else if 240 ≤ c ∧ c ≤ 244 then 4 else 0
def secondB (c d : Int) : Bool :=
  if c = 224 then decide (160 ≤ d) && decide (d ≤ 191)
  else if c = 237 then decide (128 ≤ d) && decide (d ≤ 159)
  else if c = 240 then decide (144 ≤ d) && decide (d ≤ 191)
  else if c = 244 then decide (128 ≤ d) && decide (d ≤ 143)
  else decide (128 ≤ d) && decide (d ≤ 191)
def moreB (s : ByteArray) (i : Nat) : Bool := decide (i < s.size) && (decide (128 ≤ bt s i) && decide (bt s i ≤ 191))
structure Sgn where
  «at» : Int
  len : Int
  rune : Int
  bad : Bool
def sgnAt (s : ByteArray) (i : Nat) : Sgn := ⟨i, (Utf8.decode s i).2, (Utf8.decode s i).1, decide (Utf8.decode s i = (65533, 1))⟩
section
variable {s : ByteArray} {i : Nat}
theorem dec_1 (h : longI (bt s i) = 1) : Utf8.decode s i = ((bt s i).toNat, 1) := by
  have hb := bt_bd s i
  have h0 : bt s i < 128 := by
    unfold longI at h
    repeat' split at h
    all_goals omega
  rw [bt_nat] at h0 ⊢
  unfold Utf8.decode
  simp only [Nat.add_zero]
  rw [if_pos (by omega)]
  simp
theorem dec_0 (h : longI (bt s i) = 0) : Utf8.decode s i = (65533, 1) := by
  have hb := bt_bd s i
  have h0 : 128 ≤ bt s i ∧ (bt s i < 194 ∨ 244 < bt s i) := by
    unfold longI at h
    repeat' split at h
    all_goals omega
  rw [bt_nat] at h0
  unfold Utf8.decode Utf8.runeError Utf8.valid
  simp only [Nat.add_zero]
  rw [if_neg (by omega)]
  simp only [Bool.and_eq_true, decide_eq_true_eq, beq_iff_eq, Bool.or_eq_true]
  repeat' split
  all_goals first
    | rfl
    | (exfalso; omega)
theorem second_no (hn : 2 ≤ longI (bt s i)) (h : ¬ i + 1 < s.size ∨ secondB (bt s i) (bt s (i + 1)) = false) : Utf8.decode s i = (65533, 1) := by
  have h0 : 194 ≤ bt s i ∧ bt s i ≤ 244 := by
    unfold longI at hn
    repeat' split at hn
    all_goals omega
  have hs : ¬ i + 1 < s.size ∨ (bt s i = 224 → bt s (i + 1) < 160 ∨ 191 < bt s (i + 1)) ∧ (bt s i = 237 → bt s (i + 1) < 128 ∨ 159 < bt s (i + 1)) ∧ (bt s i = 240 → bt s (i + 1) < 144 ∨ 191 < bt s (i + 1)) ∧ (bt s i = 244 → bt s (i + 1) < 128 ∨ 143 < bt s (i + 1)) ∧
      (bt s i ≠ 224 → bt s i ≠ 237 → bt s i ≠ 240 → bt s i ≠ 244 → bt s (i + 1) < 128 ∨ 191 < bt s (i + 1)) := by
    refine h.imp (fun h => h) fun h => ?_
    unfold secondB at h
    repeat' split at h
    all_goals
      simp only [Bool.and_eq_false_iff, decide_eq_false_iff_not] at h
      refine ⟨?_, ?_, ?_, ?_, ?_⟩ <;> intros <;> omega
  clear h hn
  have hb1 := bt_bd s (i + 1)
  simp only [bt_nat] at h0 hs hb1
  unfold Utf8.decode Utf8.runeError Utf8.valid
  simp only [Nat.add_zero]
  rw [if_neg (by omega)]
  simp only [Bool.and_eq_true, decide_eq_true_eq, beq_iff_eq, Bool.or_eq_true]
  repeat' split
  all_goals first
    | rfl
    | (exfalso; omega)
theorem second_yes (h : secondB (bt s i) (bt s (i + 1)) = true) : 128 ≤ bt s (i + 1) ∧ bt s (i + 1) ≤ 191 ∧ (bt s i = 224 → 160 ≤ bt s (i + 1)) ∧ (bt s i = 237 → bt s (i + 1) ≤ 159) ∧ (bt s i = 240 → 144 ≤ bt s (i + 1)) ∧ (bt s i = 244 → bt s (i + 1) ≤ 143) := by
  unfold secondB at h
  repeat' split at h
  all_goals
    simp only [Bool.and_eq_true, decide_eq_true_eq] at h
    refine ⟨?_, ?_, ?_, ?_, ?_, ?_⟩ <;> intros <;> omega
theorem more_no2 (hn : 3 ≤ longI (bt s i)) (h : moreB s (i + 2) = false) : Utf8.decode s i = (65533, 1) := by
  have h0 : 224 ≤ bt s i ∧ bt s i ≤ 244 := by
    unfold longI at hn
    repeat' split at hn
    all_goals omega
  have hs : ¬ i + 2 < s.size ∨ bt s (i + 2) < 128 ∨ 191 < bt s (i + 2) := by
    unfold moreB at h
    simp only [Bool.and_eq_false_iff, decide_eq_false_iff_not] at h
    omega
  clear h hn
  simp only [bt_nat] at h0 hs
  unfold Utf8.decode Utf8.runeError Utf8.valid
  simp only [Nat.add_zero]
  rw [if_neg (by omega)]
  simp only [Bool.and_eq_true, decide_eq_true_eq, beq_iff_eq, Bool.or_eq_true]
  repeat' split
  all_goals first
    | rfl
    | (exfalso; omega)
theorem more_no3 (hn : 4 ≤ longI (bt s i)) (h : moreB s (i + 3) = false) : Utf8.decode s i = (65533, 1) := by
  have h0 : 240 ≤ bt s i ∧ bt s i ≤ 244 := by
    unfold longI at hn
    repeat' split at hn
    all_goals omega
  have hs : ¬ i + 3 < s.size ∨ bt s (i + 3) < 128 ∨ 191 < bt s (i + 3) := by
    unfold moreB at h
    simp only [Bool.and_eq_false_iff, decide_eq_false_iff_not] at h
    omega
  clear h hn
  simp only [bt_nat] at h0 hs
  unfold Utf8.decode Utf8.runeError Utf8.valid
  simp only [Nat.add_zero]
  rw [if_neg (by omega)]
  simp only [Bool.and_eq_true, decide_eq_true_eq, beq_iff_eq, Bool.or_eq_true]
  repeat' split
  all_goals first
    | rfl
    | (exfalso; omega)
theorem moreB_yes {k : Nat} (h : moreB s k = true) : k < s.size ∧ 128 ≤ bt s k ∧ bt s k ≤ 191 := by
  unfold moreB at h
  simpa [and_assoc] using h
theorem pair_eq {a b n m : Nat} (h : a = b) (h2 : n = m) : (a, n) = (b, m) := by rw [h, h2]
theorem dec_2 (hn : longI (bt s i) = 2) (h1 : i + 1 < s.size) (h2 : secondB (bt s i) (bt s (i + 1)) = true) : Utf8.decode s i = ((bt s (i + 1) - 128 + 64 * (bt s i - 192)).toNat, 2) ∧ 0 ≤ bt s (i + 1) - 128 + 64 * (bt s i - 192) ∧ bt s (i + 1) - 128 + 64 * (bt s i - 192) ≤ 1114111 := by
  have h0 : 194 ≤ bt s i ∧ bt s i ≤ 223 := by
    unfold longI at hn
    repeat' split at hn
    all_goals omega
  obtain ⟨a1, a2, _⟩ := second_yes h2
  refine ⟨?_, by omega, by omega⟩
  clear hn h2
  simp only [bt_nat] at *
  unfold Utf8.decode Utf8.runeError Utf8.valid
  simp only [Nat.add_zero]
  rw [if_neg (by omega)]
  simp only [Bool.and_eq_true, decide_eq_true_eq, beq_iff_eq, Bool.or_eq_true]
  rw [if_pos (by omega), if_pos (by omega)]
  refine pair_eq ?_ rfl
  omega
theorem dec_3 (hn : longI (bt s i) = 3) (h1 : i + 1 < s.size) (h2 : secondB (bt s i) (bt s (i + 1)) = true) (h3 : moreB s (i + 2) = true) :
    Utf8.decode s i = ((64 * (bt s (i + 1) - 128) + (bt s (i + 2) - 128) + 4096 * (bt s i - 224)).toNat, 3) ∧ 0 ≤ 64 * (bt s (i + 1) - 128) + (bt s (i + 2) - 128) + 4096 * (bt s i - 224) ∧ 64 * (bt s (i + 1) - 128) + (bt s (i + 2) - 128) + 4096 * (bt s i - 224) ≤ 1114111 := by
  have h0 : 224 ≤ bt s i ∧ bt s i ≤ 239 := by
    unfold longI at hn
    repeat' split at hn
    all_goals omega
  obtain ⟨a1, a2, a3, a4, _, _⟩ := second_yes h2
  obtain ⟨b1, b2, b3⟩ := moreB_yes h3
  refine ⟨?_, by omega, by omega⟩
  clear hn h2 h3
  simp only [bt_nat] at *
  unfold Utf8.decode Utf8.runeError Utf8.valid
  simp only [Nat.add_zero]
  rw [if_neg (by omega)]
  simp only [Bool.and_eq_true, decide_eq_true_eq, beq_iff_eq, Bool.or_eq_true]
  rw [if_neg (by omega), if_pos (by omega), if_pos (by omega)]
  refine pair_eq ?_ rfl
  omega
theorem dec_4 (hn : longI (bt s i) = 4) (h1 : i + 1 < s.size) (h2 : secondB (bt s i) (bt s (i + 1)) = true) (h3 : moreB s (i + 2) = true) (h4 : moreB s (i + 3) = true) :
    Utf8.decode s i = ((64 * (64 * (bt s (i + 1) - 128) + (bt s (i + 2) - 128)) + (bt s (i + 3) - 128) + 262144 * (bt s i - 240)).toNat, 4) ∧ 0 ≤ 64 * (64 * (bt s (i + 1) - 128) + (bt s (i + 2) - 128)) + (bt s (i + 3) - 128) + 262144 * (bt s i - 240) ∧
      64 * (64 * (bt s (i + 1) - 128) + (bt s (i + 2) - 128)) + (bt s (i + 3) - 128) + 262144 * (bt s i - 240) ≤ 1114111 := by
  have h0 : 240 ≤ bt s i ∧ bt s i ≤ 244 := by
    unfold longI at hn
    repeat' split at hn
    all_goals omega
  obtain ⟨a1, a2, _, _, a5, a6⟩ := second_yes h2
  obtain ⟨b1, b2, b3⟩ := moreB_yes h3
  obtain ⟨c1, c2, c3⟩ := moreB_yes h4
  refine ⟨?_, by omega, by omega⟩
  clear hn h2 h3 h4
  simp only [bt_nat] at *
  unfold Utf8.decode Utf8.runeError Utf8.valid
  simp only [Nat.add_zero]
  rw [if_neg (by omega)]
  simp only [Bool.and_eq_true, decide_eq_true_eq, beq_iff_eq, Bool.or_eq_true]
  rw [if_neg (by omega), if_neg (by omega), if_pos (by omega), if_pos (by omega)]
  refine pair_eq ?_ rfl
  omega
end
theorem longI_cases (c : Int) : longI c = 0 ∨ longI c = 1 ∨ longI c = 2 ∨ longI c = 3 ∨ longI c = 4 := by
  unfold longI
  repeat' split
  all_goals simp
def restR (s : ByteArray) (i : Nat) : Nat → Int
  | 0 => 0
  | 1 => 0
  | 2 => bt s (i + 1) - 128
  | k + 1 => 64 * restR s i k + (bt s (i + k) - 128)
end Go.SX.Plain
/- Plain lemmas on lists. -/
namespace Go.SX.Plain
theorem take_map {α β : Type} (f : α → β) (l : List α) (d : α) {i : Nat} (h : i < l.length) : (l.map f).take i ++ [f (l.getD i d)] = (l.map f).take (i + 1) := by
  have h2 : i < (l.map f).length := by simpa using h
  rw [List.take_succ_eq_append_getElem h2]
  simp [List.getD_eq_getElem?_getD, h]
theorem take_one {α : Type} (l : List α) (d : α) {i : Nat} (h : i < l.length) : l.take i ++ [l.getD i d] = l.take (i + 1) := by
  rw [List.take_succ_eq_append_getElem h]
  simp [List.getD_eq_getElem?_getD, h]
theorem take_all {α : Type} (l : List α) {i : Nat} (h : l.length ≤ i) : l.take i = l := List.take_of_length_le h
theorem getD_map {α β : Type} (f : α → β) (l : List α) (d : α) (i : Nat) : (l.map f).getD i (f d) = f (l.getD i d) := by
  simp only [List.getD_eq_getElem?_getD, List.getElem?_map]
  cases l[i]? <;> rfl
end Go.SX.Plain
/- Clusters as the document finds them, and that the program finds the same. No program here. -/
namespace Go.SX.Plain
def rl (s : ByteArray) : List Int := (signsFrom s 0).map fun p => (p.2 : Int)
def al (s : ByteArray) : List Int := (signsFrom s 0).map (fun p => (p.1 : Int)) ++ [(s.size : Int)]
def joinsB (l : List Int) (f k : Nat) : Bool :=
  if (widthI (l.getD k 0) == 0 && !controlB (l.getD k 0) && !controlB (l.getD f 0)) = true then true
  else if (widthI (l.getD k 0) == 2 && l.getD (k - 1) 0 == 8205 && widthI (l.getD f 0) == 2) = true then true
  else flagB (l.getD k 0) && decide (k = f + 1) && flagB (l.getD f 0)
def arrowB (r : Int) : Bool := decide (0x2190 ≤ r) && decide (r ≤ 0x2BFF)
def variant (l : List Int) (f : Nat) : Nat → Bool
  | 0 => false
  | k + 1 => variant l f k || (decide (f < k) && l.getD k 0 == 65039)
def cellsR (l : List Int) (f t : Nat) : Int :=
  if 1 < t - f ∧ flagB (l.getD f 0) = true ∧ flagB (l.getD (f + 1) 0) = true then 2
  else if arrowB (l.getD f 0) = true ∧ variant l f t = true then 2
  else widthI (l.getD f 0)
def gAt (l a : List Int) (f t : Nat) : Grp := ⟨⟨a.getD f 0, a.getD t 0 - a.getD f 0, f, t, cellsR l f t⟩, l.getD f 0, l.getD (t - 1) 0, arrowB (l.getD f 0)⟩
def remGo (l a : List Int) : Nat → Nat → Nat → List Clu
  | 0, f, t => [(gAt l a f t).c]
  | k + 1, f, t => if t < l.length then (if joinsB l f t = true then remGo l a k f (t + 1) else (gAt l a f t).c :: remGo l a k t (t + 1)) else [(gAt l a f t).c]
def rem (l a : List Int) (f t : Nat) : List Clu := remGo l a (l.length - t) f t
theorem rem_join {l a : List Int} {f t : Nat} (h : t < l.length) (hj : joinsB l f t = true) : rem l a f t = rem l a f (t + 1) := by
  unfold rem
  rw [show l.length - t = (l.length - (t + 1)) + 1 by omega]
  simp only [remGo]
  rw [if_pos h, if_pos hj]
theorem rem_part {l a : List Int} {f t : Nat} (h : t < l.length) (hj : joinsB l f t = false) : rem l a f t = (gAt l a f t).c :: rem l a t (t + 1) := by
  unfold rem
  rw [show l.length - t = (l.length - (t + 1)) + 1 by omega]
  simp only [remGo]
  rw [if_pos h, if_neg (by rw [hj]; exact Bool.false_ne_true)]
theorem rem_end {l a : List Int} {f t : Nat} (h : ¬ t < l.length) : rem l a f t = [(gAt l a f t).c] := by
  unfold rem
  rw [show l.length - t = 0 by omega]
  rfl
theorem flag_width {r : Int} (h : flagB r = true) : widthI r = 1 ∧ controlB r = false := by
  unfold flagB at h
  have h := of_decide_eq_true h
  unfold flagP at h
  have h1 : nothingB r = false := by
    unfold nothingB
    refine decide_eq_false ?_
    unfold nothingP
    omega
  have h2 : wideB r = false := by
    unfold wideB
    refine decide_eq_false ?_
    unfold wideP
    omega
  refine ⟨by unfold widthI; rw [h1, h2]; rfl, ?_⟩
  unfold controlB
  refine decide_eq_false ?_
  unfold controlP
  omega
theorem flag_arrow {r : Int} (h : flagB r = true) : arrowB r = false := by
  unfold flagB at h
  have h := of_decide_eq_true h
  unfold flagP at h
  unfold arrowB
  simp only [Bool.and_eq_false_iff, decide_eq_false_iff_not]
  omega
theorem takes_joins (l a : List Int) {f t : Nat} (h : f < t) : takesB (gAt l a f t) (l.getD t 0) = joinsB l f t := by
  unfold takesB joinsB gAt
  simp only
  generalize l.getD t 0 = r
  generalize l.getD f 0 = x
  generalize l.getD (t - 1) 0 = z
  by_cases h0 : widthI r = 0 ∧ controlB r = false
  · have hf : flagB r = false := by
      cases hc : flagB r with
      | false => rfl
      | true => have := (flag_width hc).1; omega
    rw [if_pos h0, h0.1, h0.2, hf]
    cases controlB x <;> simp
  · rw [if_neg h0, if_neg (show ¬ (widthI r == 0 && !controlB r && !controlB x) = true by
      intro hc
      simp only [Bool.and_eq_true, beq_iff_eq, Bool.not_eq_true'] at hc
      exact h0 hc.1)]
    cases hc : flagB r with
    | true =>
      have := (flag_width hc).1
      rw [if_pos rfl, if_neg (show ¬ (widthI r == 2 && z == 8205 && widthI x == 2) = true by rw [this]; simp)]
      rw [Bool.eq_iff_iff]
      simp only [Bool.and_eq_true, decide_eq_true_eq, true_and]
      constructor
      · rintro ⟨h1, h2⟩; exact ⟨by omega, h1⟩
      · rintro ⟨h1, h2⟩; exact ⟨h2, by omega⟩
    | false =>
      rw [if_neg Bool.false_ne_true, Bool.eq_iff_iff]
      simp
theorem joins_flag {l : List Int} {f t : Nat} (hj : joinsB l f t = true) (hf : flagB (l.getD t 0) = true) : t = f + 1 ∧ flagB (l.getD f 0) = true := by
  have h1 := flag_width hf
  unfold joinsB at hj
  rw [if_neg (by rw [h1.1]; simp), if_neg (by rw [h1.1]; simp)] at hj
  simp only [Bool.and_eq_true, decide_eq_true_eq] at hj
  exact ⟨hj.1.2, hj.2⟩
theorem variant_one (l : List Int) (f : Nat) : ∀ k, k ≤ f + 1 → variant l f k = false
  | 0, _ => rfl
  | k + 1, h => by
    simp only [variant]
    rw [variant_one l f k (by omega)]
    simp only [Bool.false_or, Bool.and_eq_false_iff, decide_eq_false_iff_not]
    exact .inl (by omega)
theorem add_one (l a : List Int) (f : Nat) : addG ⟨⟨a.getD f 0, 0, f, f, 0⟩, 0, 0, false⟩ (l.getD f 0) (a.getD (f + 1) 0 - a.getD f 0) = gAt l a f (f + 1) := by
  unfold addG gAt
  rw [if_pos rfl]
  have hc : cellsR l f (f + 1) = widthI (l.getD f 0) := by
    unfold cellsR
    rw [if_neg (by omega), if_neg (by rw [variant_one l f _ (Nat.le_refl _)]; simp)]
  rw [hc]
  simp only [arrowB, Int.zero_add, Nat.add_sub_cancel]
  rfl
theorem cellsR_np {l : List Int} {f : Nat} (h : ¬ (flagB (l.getD f 0) = true ∧ flagB (l.getD (f + 1) 0) = true)) (t : Nat) : cellsR l f t = if arrowB (l.getD f 0) = true ∧ variant l f t = true then 2 else widthI (l.getD f 0) := by
  unfold cellsR
  rw [if_neg (fun h2 => h h2.2)]
theorem add_more (l a : List Int) {f t : Nat} (h : f < t) (hj : joinsB l f t = true) : addG (gAt l a f t) (l.getD t 0) (a.getD (t + 1) 0 - a.getD t 0) = gAt l a f (t + 1) := by
  have hne : ¬ ((t : Int) = f) := by omega
  have hcells : cellsR l f (t + 1) = if flagB (l.getD t 0) = true ∨ (arrowB (l.getD f 0) = true ∧ l.getD t 0 = 0xFE0F) then 2 else cellsR l f t := by
    by_cases hf : flagB (l.getD t 0) = true
    · obtain ⟨rfl, hff⟩ := joins_flag hj hf
      rw [if_pos (.inl hf)]
      unfold cellsR
      rw [if_pos ⟨by omega, hff, hf⟩]
    · by_cases hp : flagB (l.getD f 0) = true ∧ flagB (l.getD (f + 1) 0) = true
      · have ht : t ≠ f + 1 := fun e => hf (e ▸ hp.2)
        have hna := flag_arrow hp.1
        rw [if_neg (by rintro (h1 | h1); exact hf h1; rw [hna] at h1; exact absurd h1.1 Bool.false_ne_true)]
        unfold cellsR
        rw [if_pos ⟨by omega, hp⟩, if_pos ⟨by omega, hp⟩]
      · rw [cellsR_np hp, cellsR_np hp]
        by_cases ha : arrowB (l.getD f 0) = true
        · by_cases hv : l.getD t 0 = 0xFE0F
          · have hvar : variant l f (t + 1) = true := by
              simp only [variant, hv]
              simp [h]
            have h1 : arrowB (l.getD f 0) = true ∧ variant l f (t + 1) = true := ⟨ha, hvar⟩
            have h2 : flagB (l.getD t 0) = true ∨ (arrowB (l.getD f 0) = true ∧ l.getD t 0 = 0xFE0F) := .inr ⟨ha, hv⟩
            rw [if_pos h1, if_pos h2]
          · have h2 : ¬ (flagB (l.getD t 0) = true ∨ (arrowB (l.getD f 0) = true ∧ l.getD t 0 = 0xFE0F)) := fun h => h.elim hf fun h => hv h.2
            have : variant l f (t + 1) = variant l f t := by
              simp only [variant]
              have : (l.getD t 0 == 65039) = false := by simpa using hv
              rw [this]; simp
            rw [this, if_neg h2]
        · have h1 : ¬ (arrowB (l.getD f 0) = true ∧ variant l f (t + 1) = true) := fun h => ha h.1
          have h2 : ¬ (flagB (l.getD t 0) = true ∨ (arrowB (l.getD f 0) = true ∧ l.getD t 0 = 0xFE0F)) := fun h => h.elim hf fun h => ha h.1
          have h3 : ¬ (arrowB (l.getD f 0) = true ∧ variant l f t = true) := fun h => ha h.1
          rw [if_neg h1, if_neg h2, if_neg h3]
  unfold addG
  rw [if_neg (by simp only [gAt]; exact hne)]
  have hs : (if flagB (l.getD t 0) = true ∨ ((gAt l a f t).arrow = true ∧ l.getD t 0 = 0xFE0F) then (2 : Int) else (gAt l a f t).c.cells) = cellsR l f (t + 1) := hcells.symm
  have hlen : a.getD t 0 - a.getD f 0 + (a.getD (t + 1) 0 - a.getD t 0) = a.getD (t + 1) 0 - a.getD f 0 := by omega
  split
  · rename_i hc
    rw [if_pos hc] at hs
    simp only [gAt] at hs ⊢
    rw [← hs]
    simp only [hlen, Nat.add_sub_cancel]
    rfl
  · rename_i hc
    rw [if_neg hc] at hs
    simp only [gAt] at hs ⊢
    rw [hs]
    simp only [hlen, Nat.add_sub_cancel]
    rfl

def nextPos (s : ByteArray) : List (Nat × Nat) → Nat
  | [] => s.size
  | p :: _ => p.1
def procL (s : ByteArray) : List (Nat × Nat) → Bool → Grp → List Clu
  | [], b, g => if b = true then [g.c] else []
  | (p, r) :: t, b, g => signOut b g r ++ procL s t true (signGrp b g p r (nextPos s t))
theorem rest_proc (s : ByteArray) : ∀ (k pos : Nat) (a w : Nat) (b : Bool) (g : Grp), s.size - pos ≤ k → 0 < pos → pos ≤ s.size → rest s pos a w b g = procL s ((a, w) :: signsFrom s pos) b g
  | k, pos, a, w, b, g, hk, h0, hp => by
    by_cases h : pos < s.size
    · obtain ⟨k', rfl⟩ : ∃ k', k = k' + 1 := ⟨k - 1, by omega⟩
      have hw := width_pos s pos
      have hl := width_le h
      rw [rest_step h, if_pos h0, signsFrom_step h, rest_proc s k' _ _ _ _ _ (by omega) (by omega) hl]
      rfl
    · rw [rest_end h, if_neg (by omega), signsFrom_end h]
      rfl
theorem clusters_proc (s : ByteArray) : clusters s = procL s (signsFrom s 0) false Grp.zero := by
  unfold clusters
  by_cases h : 0 < s.size
  · have hl := width_le h
    have hw := width_pos s 0
    rw [rest_step h, if_neg (Nat.lt_irrefl _), signsFrom_step h]
    have := rest_proc s s.size (0 + (Utf8.decode s 0).2) 0 (Utf8.decode s 0).1 false Grp.zero (by omega) (by omega) hl
    exact this
  · rw [rest_end h, if_pos (by omega), signsFrom_end h]
    rfl
theorem rl_len (s : ByteArray) : (rl s).length = (signsFrom s 0).length := by simp [rl]
theorem al_len (s : ByteArray) : (al s).length = (signsFrom s 0).length + 1 := by simp [al]
theorem rl_get (s : ByteArray) {i : Nat} (h : i < (signsFrom s 0).length) : (rl s).getD i 0 = ((signsFrom s 0)[i]).2 := by
  simp [rl, List.getD_eq_getElem?_getD, h]
theorem al_get (s : ByteArray) {i : Nat} (h : i < (signsFrom s 0).length) : (al s).getD i 0 = ((signsFrom s 0)[i]).1 := by
  simp [al, List.getD_eq_getElem?_getD, List.getElem?_append, h]
theorem al_next (s : ByteArray) {i : Nat} (h : i ≤ (signsFrom s 0).length) : (al s).getD i 0 = nextPos s ((signsFrom s 0).drop i) := by
  by_cases hi : i < (signsFrom s 0).length
  · rw [al_get s hi, List.drop_eq_getElem_cons hi]; rfl
  · have : i = (signsFrom s 0).length := by omega
    rw [List.drop_of_length_le (by omega)]
    simp [al, List.getD_eq_getElem?_getD, this, nextPos]
theorem proc_rem (s : ByteArray) : ∀ (k f t : Nat), (signsFrom s 0).length - t ≤ k → f < t → t ≤ (signsFrom s 0).length → procL s ((signsFrom s 0).drop t) true (gAt (rl s) (al s) f t) = rem (rl s) (al s) f t
  | k, f, t, hk, hf, ht => by
    by_cases h : t < (signsFrom s 0).length
    · obtain ⟨k', rfl⟩ : ∃ k', k = k' + 1 := ⟨k - 1, by omega⟩
      have hr := rl_get s h
      have ha := al_get s h
      have hn := al_next s (i := t + 1) h
      rw [List.drop_eq_getElem_cons h]
      obtain ⟨hd, hd2⟩ : ∃ q, q = (signsFrom s 0)[t] := ⟨_, rfl⟩
      rw [← hd2] at hr ha ⊢
      obtain ⟨p, r⟩ := hd
      simp only at hr ha
      simp only [procL]
      rw [← hr, ← ha, ← hn]
      have htj := takes_joins (rl s) (al s) hf (t := t)
      cases hj : joinsB (rl s) f t with
      | true =>
        have ho : signOut true (gAt (rl s) (al s) f t) ((rl s).getD t 0) = [] := by unfold signOut; rw [htj, hj]; simp
        have hg : signGrp true (gAt (rl s) (al s) f t) ((al s).getD t 0) ((rl s).getD t 0) ((al s).getD (t + 1) 0) = gAt (rl s) (al s) f (t + 1) := by
          unfold signGrp
          rw [if_neg (by rw [htj, hj]; simp)]
          exact add_more _ _ hf hj
        rw [ho, hg, List.nil_append, rem_join (by rw [rl_len]; exact h) hj]
        exact proc_rem s k' f (t + 1) (by omega) (by omega) h
      | false =>
        have ho : signOut true (gAt (rl s) (al s) f t) ((rl s).getD t 0) = [(gAt (rl s) (al s) f t).c] := by unfold signOut; rw [htj, hj]; simp
        have hg : signGrp true (gAt (rl s) (al s) f t) ((al s).getD t 0) ((rl s).getD t 0) ((al s).getD (t + 1) 0) = gAt (rl s) (al s) t (t + 1) := by
          unfold signGrp
          rw [if_pos (by rw [htj, hj]; simp)]
          exact add_one _ _ t
        rw [ho, hg, rem_part (by rw [rl_len]; exact h) hj]
        rw [proc_rem s k' t (t + 1) (by omega) (by omega) h]
        rfl
    · rw [List.drop_of_length_le (by omega), rem_end (by rw [rl_len]; exact h)]
      rfl
theorem clusters_rem (s : ByteArray) : clusters s = if 0 < (signsFrom s 0).length then rem (rl s) (al s) 0 1 else [] := by
  rw [clusters_proc]
  by_cases h : 0 < (signsFrom s 0).length
  · rw [if_pos h, ← proc_rem s _ 0 1 (Nat.le_refl _) (by omega) h]
    have hr := rl_get s h
    have ha := al_get s h
    have hn := al_next s (i := 1) h
    have hd0 : (signsFrom s 0) = (signsFrom s 0)[0] :: (signsFrom s 0).drop 1 := by
      have := List.drop_eq_getElem_cons h
      simpa using this
    have h00 : ((signsFrom s 0)[0]).1 = 0 := by
      have hz : 0 < s.size := by
        rcases Nat.lt_or_ge 0 s.size with h1 | h1
        · exact h1
        · rw [signsFrom_end (by omega)] at h; simp at h
      have := signsFrom_step hz
      simp only [this]
      rfl
    obtain ⟨q, hq⟩ : ∃ q, q = (signsFrom s 0)[0] := ⟨_, rfl⟩
    rw [← hq] at hr ha hd0 h00
    rw [hd0]
    obtain ⟨p, r⟩ := q
    simp only at hr ha h00
    simp only [procL]
    have ho : signOut false Grp.zero (r : Int) = [] := rfl
    rw [ho, List.nil_append, ← hr, ← ha, List.drop_succ_cons, List.drop_zero, ← hn]
    have : signGrp false Grp.zero ((al s).getD 0 0) ((rl s).getD 0 0) ((al s).getD 1 0) = gAt (rl s) (al s) 0 1 := by
      unfold signGrp
      rw [if_neg (by simp)]
      have := add_one (rl s) (al s) 0
      rw [show (al s).getD 0 0 = 0 by rw [ha, h00]; rfl] at this ⊢
      exact this
    rw [this]
  · rw [if_neg h]
    have : signsFrom s 0 = [] := List.eq_nil_of_length_eq_zero (by omega)
    rw [this]
    rfl
def remAt (l a : List Int) (f : Nat) : List Clu := if f < l.length then rem l a f (f + 1) else []
theorem signsGo_lt (s : ByteArray) : ∀ (k pos : Nat), ∀ p ∈ signsGo s k pos, p.1 < s.size
  | 0, _, p, h => by simp [signsGo] at h
  | k + 1, pos, p, h => by
    simp only [signsGo] at h
    split at h
    · rcases List.mem_cons.1 h with rfl | h
      · assumption
      · exact signsGo_lt s k _ p h
    · cases h
theorem al_bd (s : ByteArray) (i : Nat) : 0 ≤ (al s).getD i 0 ∧ (al s).getD i 0 ≤ s.size := by
  by_cases h : i < (signsFrom s 0).length
  · rw [al_get s h]
    have := signsGo_lt s _ _ _ (List.getElem_mem h)
    omega
  · by_cases h2 : i = (signsFrom s 0).length
    · rw [al_next s (by omega), List.drop_of_length_le (by omega)]
      simp [nextPos]
    · have : (al s).getD i 0 = 0 := by
        rw [List.getD_eq_getElem?_getD, List.getElem?_eq_none (by rw [al_len]; omega)]; rfl
      omega
end Go.SX.Plain
/- Where a text may be parted, told plainly. No program here. -/
namespace Go.SX.Plain
abbrev dPart : Part := ⟨⟨0, 0, 0, 0, 0⟩, 0, false, false, false, false, false, false⟩
def kindAt (l : List Part) (i : Nat) : Int :=
  if (l.getD (i - 1) dPart).fin = true then 1
  else if i = l.length then 0
  else if ((l.getD i dPart).fin || (l.getD i dPart).blank) = true then 0
  else if (l.getD (i - 1) dPart).blank = true then 2
  else if ((l.getD (i - 1) dPart).dash && decide ((1 : Int) < (i : Int)) && !(l.getD (i - 2) dPart).blank && !(l.getD (i - 2) dPart).fin && !(l.getD (i - 2) dPart).dash) = true then 2
  else if (((l.getD (i - 1) dPart).wide || (l.getD i dPart).wide) && !(l.getD (i - 1) dPart).opening && !(l.getD i dPart).closing) = true then 2
  else 3
def plcs (l : List Part) (k : Nat) : List Nat := ((List.range k).filter fun i => decide (0 < i) && decide (kindAt l i ≠ 0))
def atL (l : List Part) (k : Nat) : List Int := (plcs l k).map fun (i : Nat) => (i : Int)
def outL (l : List Part) (k : Nat) : List (Int × Int) := (plcs l k).map fun (i : Nat) => ((l.getD (i - 1) dPart).c.to, kindAt l i)
theorem plcs_no {l : List Part} {k : Nat} (h : kindAt l k = 0) : plcs l (k + 1) = plcs l k := by
  simp [plcs, List.range_succ, List.filter_append, h]
theorem plcs_yes {l : List Part} {k : Nat} (h0 : 0 < k) (h : kindAt l k ≠ 0) : plcs l (k + 1) = plcs l k ++ [k] := by
  simp [plcs, List.range_succ, List.filter_append, h, h0]
theorem atL_no {l : List Part} {k : Nat} (h : kindAt l k = 0) : atL l (k + 1) = atL l k := by unfold atL; rw [plcs_no h]
theorem atL_yes {l : List Part} {k : Nat} (h0 : 0 < k) (h : kindAt l k ≠ 0) : atL l (k + 1) = atL l k ++ [(k : Int)] := by unfold atL; rw [plcs_yes h0 h]; simp
theorem outL_no {l : List Part} {k : Nat} (h : kindAt l k = 0) : outL l (k + 1) = outL l k := by unfold outL; rw [plcs_no h]
theorem outL_yes {l : List Part} {k : Nat} (h0 : 0 < k) (h : kindAt l k ≠ 0) : outL l (k + 1) = outL l k ++ [((l.getD (k - 1) dPart).c.to, kindAt l k)] := by unfold outL; rw [plcs_yes h0 h]; simp
theorem plcs_len (l : List Part) (k : Nat) : (plcs l k).length ≤ k := by
  unfold plcs
  exact Nat.le_trans (List.length_filter_le _ _) (by simp)
theorem atL_len (l : List Part) (k : Nat) : (atL l k).length ≤ k := by unfold atL; simpa using plcs_len l k
theorem outL_len (l : List Part) (k : Nat) : (outL l k).length ≤ k := by unfold outL; simpa using plcs_len l k
end Go.SX.Plain
/- How a text is broken, told plainly: the way the program goes about it. No program here. -/
namespace Go.SX.Plain
structure Bst where
  bad : Int
  places : Int
  next : Int
  ok : Bool
abbrev zB : Bst := ⟨0, 0, 0, false⟩
def before (b o : Bst) : Bool := if o.ok = false then true else if b.bad ≠ o.bad then decide (b.bad < o.bad) else decide (b.places < o.places)
def checkN (n : Nat) (width : Int) : Int := if width < 2 ∨ 200 < width then 1 else if 4096 < n then 3 else 0
def scan (l : List Part) (frm : Nat) : Nat → Int × Int
  | 0 => (0, 0)
  | n + 1 => if (l.getD (frm + n) dPart).fin = true then scan l frm n
    else (if (l.getD (frm + n) dPart).blank = true then (scan l frm n).1 else (scan l frm n).2 + (l.getD (frm + n) dPart).c.cells, (scan l frm n).2 + (l.getD (frm + n) dPart).c.cells)
def Small (l : List Part) : Prop := ∀ p ∈ l, 0 ≤ p.c.cells ∧ p.c.cells ≤ 2
theorem Small.at {l : List Part} (h : Small l) (i : Nat) : 0 ≤ (l.getD i dPart).c.cells ∧ (l.getD i dPart).c.cells ≤ 2 := by
  by_cases hi : i < l.length
  · rw [List.getD_eq_getElem?_getD, List.getElem?_eq_getElem hi]; exact h _ (List.getElem_mem hi)
  · rw [List.getD_eq_getElem?_getD, List.getElem?_eq_none (by omega)]; simp
theorem scan_bd {l : List Part} (h : Small l) (frm : Nat) : ∀ n, 0 ≤ (scan l frm n).1 ∧ (scan l frm n).1 ≤ (scan l frm n).2 ∧ (scan l frm n).2 ≤ 2 * n
  | 0 => by simp [scan]
  | n + 1 => by
    obtain ⟨h1, h2, h3⟩ := scan_bd h frm n
    obtain ⟨h4, h5⟩ := h.at (frm + n)
    unfold scan
    split
    · exact ⟨h1, h2, by omega⟩
    · simp only
      split <;> exact ⟨by omega, by omega, by omega⟩
def posn (P : List Nat) (k : Nat) : Nat := if k = 0 then 0 else P.getD (k - 1) 0
def fullTo (l : List Part) (P : List Nat) (k e : Nat) : Int := (scan l (posn P k) (e - posn P k)).1
def cand (l : List Part) (P : List Nat) (width : Int) (ws : List Bst) (k n : Nat) : Bst :=
  ⟨(width - fullTo l P k (P.getD n 0)) * (width - fullTo l P k (P.getD n 0)) + (ws.getD (n + 1) zB).bad + (if kindAt l (P.getD n 0) = 3 then 1048576 else 0), (ws.getD (n + 1) zB).places + 1, n, true⟩
def better (w acc : Bst) : Bst := if before w acc = true then w else acc
def endly (l : List Part) (P : List Nat) (width : Int) (k : Nat) (acc : Bst) : Bst :=
  if fullTo l P k l.length ≤ width then better ⟨(width - fullTo l P k l.length) * (width - fullTo l P k l.length), 0, -1, true⟩ acc else acc
def inn (l : List Part) (P : List Nat) (width : Int) (ws : List Bst) (k : Nat) : Nat → Nat → Bst → Bst
  | 0, _, acc => endly l P width k acc
  | f + 1, n, acc =>
    if n < P.length then
      if fullTo l P k (P.getD n 0) ≤ width then
        if (ws.getD (n + 1) zB).ok = true then
          if kindAt l (P.getD n 0) = 1 then better (cand l P width ws k n) acc else inn l P width ws k f (n + 1) (better (cand l P width ws k n) acc)
        else if kindAt l (P.getD n 0) = 1 then acc else inn l P width ws k f (n + 1) acc
      else acc
    else endly l P width k acc
def inner (l : List Part) (P : List Nat) (width : Int) (ws : List Bst) (k n : Nat) (acc : Bst) : Bst := inn l P width ws k (P.length - n) n acc
theorem inner_step {l : List Part} {P : List Nat} {width : Int} {ws : List Bst} {k n : Nat} {acc : Bst} (h : n < P.length) : inner l P width ws k n acc =
      if fullTo l P k (P.getD n 0) ≤ width then
        if (ws.getD (n + 1) zB).ok = true then
          if kindAt l (P.getD n 0) = 1 then better (cand l P width ws k n) acc else inner l P width ws k (n + 1) (better (cand l P width ws k n) acc)
        else if kindAt l (P.getD n 0) = 1 then acc else inner l P width ws k (n + 1) acc
      else acc := by
  unfold inner
  rw [show P.length - n = (P.length - (n + 1)) + 1 by omega]
  simp only [inn]
  rw [if_pos h]
theorem inner_end {l : List Part} {P : List Nat} {width : Int} {ws : List Bst} {k n : Nat} {acc : Bst} (h : ¬ n < P.length) : inner l P width ws k n acc = endly l P width k acc := by
  unfold inner
  rw [show P.length - n = 0 by omega]
  rfl
def tab (l : List Part) (P : List Nat) (width : Int) : Nat → List Bst
  | 0 => List.replicate (P.length + 1) zB
  | c + 1 => (tab l P width c).set (P.length - c) (inner l P width (tab l P width c) (P.length - c) (P.length - c) zB)
theorem tab_len (l : List Part) (P : List Nat) (width : Int) : ∀ c, (tab l P width c).length = P.length + 1
  | 0 => by simp [tab]
  | c + 1 => by simp [tab, tab_len l P width c]
structure Gd (N : Nat) (ws : List Bst) (j : Nat) (b : Bst) : Prop where
  b0 : 0 ≤ b.bad
  b1 : b.bad ≤ ((N + 1 - j : Nat) : Int) * 2000000
  p0 : 0 ≤ b.places
  p1 : b.places ≤ ((N + 1 - j : Nat) : Int)
  nx : b.ok = true → b.next = -1 ∨ ∃ n : Nat, b.next = n ∧ j ≤ n ∧ n < N ∧ (ws.getD (n + 1) zB).ok = true
theorem Gd.zero (N : Nat) (ws : List Bst) (j : Nat) : Gd N ws j zB := ⟨by simp, by simp only; omega, by simp, by simp only; omega, fun h => by cases h⟩
theorem sq_bd {x y : Int} (h0 : 0 ≤ x) (h1 : x ≤ y) : 0 ≤ x * x ∧ x * x ≤ y * y := ⟨Int.mul_nonneg h0 h0, Int.mul_le_mul h1 h1 h0 (by omega)⟩
theorem fullTo_bd {l : List Part} (h : Small l) (P : List Nat) (k e : Nat) : 0 ≤ fullTo l P k e := (scan_bd h _ _).1
theorem Gd.cand {l : List Part} {P : List Nat} {width : Int} {ws : List Bst} {k n : Nat} (hs : Small l) (hw : width ≤ 200) (hf : fullTo l P k (P.getD n 0) ≤ width) (hk : k ≤ n) (hn : n < P.length)
    (ho : Gd P.length ws (n + 1) (ws.getD (n + 1) zB)) (hok : (ws.getD (n + 1) zB).ok = true) : Gd P.length ws k (cand l P width ws k n) := by
  have h0 := fullTo_bd hs P k (P.getD n 0)
  have hq := sq_bd (x := width - fullTo l P k (P.getD n 0)) (y := 200) (by omega) (by omega)
  obtain ⟨b0, b1, p0, p1, _⟩ := ho
  unfold Plain.cand
  refine ⟨?_, ?_, ?_, ?_, fun _ => .inr ⟨n, rfl, hk, hn, hok⟩⟩
  · simp only; split <;> omega
  · simp only
    have : ((P.length + 1 - k : Nat) : Int) ≥ ((P.length + 1 - (n + 1) : Nat) : Int) + 1 := by omega
    split <;> omega
  · simp only; omega
  · simp only; omega
theorem Gd.better {N : Nat} {ws : List Bst} {j : Nat} {a b : Bst} (ha : Gd N ws j a) (hb : Gd N ws j b) : Gd N ws j (better a b) := by
  unfold Plain.better; split <;> assumption
theorem Gd.endly {l : List Part} {P : List Nat} {width : Int} {ws : List Bst} {k : Nat} {acc : Bst} (hs : Small l) (hw : width ≤ 200) (hk : k ≤ P.length) (ha : Gd P.length ws k acc) : Gd P.length ws k (endly l P width k acc) := by
  unfold Plain.endly
  split
  · rename_i hf
    have h0 := fullTo_bd hs P k l.length
    have hq := sq_bd (x := width - fullTo l P k l.length) (y := 200) (by omega) (by omega)
    exact Gd.better ⟨hq.1, by simp only; omega, by simp, by simp only; omega, fun _ => .inl rfl⟩ ha
  · exact ha
theorem Gd.inn {l : List Part} {P : List Nat} {width : Int} {ws : List Bst} {k : Nat} (hs : Small l) (hw : width ≤ 200) (hk : k ≤ P.length) (hws : ∀ j, k < j → Gd P.length ws j (ws.getD j zB)) : ∀ (f n : Nat) {acc : Bst}, k ≤ n → Gd P.length ws k acc →
    Gd P.length ws k (inn l P width ws k f n acc)
  | 0, n, acc, _, ha => Gd.endly hs hw hk ha
  | f + 1, n, acc, hn, ha => by
    simp only [Plain.inn]
    split
    · rename_i hlt
      split
      · rename_i hf
        split
        · rename_i hok
          have hc := Gd.better (Gd.cand hs hw hf hn hlt (hws (n + 1) (by omega)) hok) ha
          split
          · exact hc
          · exact Gd.inn hs hw hk hws f (n + 1) (by omega) hc
        · split
          · exact ha
          · exact Gd.inn hs hw hk hws f (n + 1) (by omega) ha
      · exact ha
    · exact Gd.endly hs hw hk ha
theorem getD_set_ne {α : Type} (l : List α) (i j : Nat) (x d : α) (h : i ≠ j) : (l.set i x).getD j d = l.getD j d := by
  simp [List.getElem?_set_ne h]
theorem getD_set_eq {α : Type} (l : List α) (i : Nat) (x d : α) (h : i < l.length) : (l.set i x).getD i d = x := by
  simp [h]
theorem Gd.set {N : Nat} {ws : List Bst} {j i : Nat} {b x : Bst} (h : Gd N ws j b) (hi : i ≤ j) : Gd N (ws.set i x) j b :=
  ⟨h.b0, h.b1, h.p0, h.p1, fun hok => (h.nx hok).imp (fun h => h) fun ⟨n, h1, h2, h3, h4⟩ => ⟨n, h1, h2, h3, by rw [getD_set_ne _ _ _ _ _ (by omega)]; exact h4⟩⟩
theorem tab_gd {l : List Part} {P : List Nat} {width : Int} (hs : Small l) (hw : width ≤ 200) : ∀ c j, c ≤ P.length + 1 → P.length + 1 ≤ c + j → Gd P.length (tab l P width c) j ((tab l P width c).getD j zB)
  | 0, j, _, h => by
    have : (tab l P width 0).getD j zB = zB := by simp only [tab, List.getD_eq_getElem?_getD, List.getElem?_replicate]; split <;> rfl
    rw [this]; exact Gd.zero _ _ _
  | c + 1, j, hc, h => by
    have hlen := tab_len l P width c
    by_cases hj : j = P.length - c
    · subst hj
      have e : (tab l P width (c + 1)).getD (P.length - c) zB = inner l P width (tab l P width c) (P.length - c) (P.length - c) zB := by
        simp only [tab]
        exact getD_set_eq _ _ _ _ (by omega)
      rw [e]
      exact (Gd.inn hs hw (by omega) (fun j hj => tab_gd hs hw c j (by omega) (by omega)) _ _ (Nat.le_refl _) (Gd.zero _ _ _)).set (Nat.le_refl _)
    · have e : (tab l P width (c + 1)).getD j zB = (tab l P width c).getD j zB := by
        simp only [tab]
        exact getD_set_ne _ _ _ _ _ (by omega)
      rw [e]
      exact (tab_gd hs hw c j (by omega) (by omega)).set (by omega)

theorem plcs_mem {l : List Part} {k i : Nat} : i ∈ plcs l k ↔ i < k ∧ 0 < i ∧ kindAt l i ≠ 0 := by simp [plcs]
theorem plcs_sorted (l : List Part) (k : Nat) : (plcs l k).Pairwise (· < ·) := List.Pairwise.filter _ List.pairwise_lt_range
theorem sorted_lt {P : List Nat} (h : P.Pairwise (· < ·)) {i j : Nat} (hij : i < j) (hj : j < P.length) : P.getD i 0 < P.getD j 0 := by
  have := List.pairwise_iff_getElem.1 h i j (by omega) hj hij
  simpa [List.getD_eq_getElem?_getD, hj, show i < P.length by omega] using this
theorem getD_mem {P : List Nat} {i : Nat} (h : i < P.length) : P.getD i 0 ∈ P := by
  simp [List.getD_eq_getElem?_getD, h]
theorem gap {l : List Part} {k i : Nat} (hk : k ≤ (plcs l (l.length + 1)).length) (h1 : posn (plcs l (l.length + 1)) k < i) (h2 : k < (plcs l (l.length + 1)).length → i < (plcs l (l.length + 1)).getD k 0) (hi : i ≤ l.length) : kindAt l i = 0 := by
  have hs := plcs_sorted l (l.length + 1)
  have hm := @plcs_mem l (l.length + 1) i
  revert h1 h2 hm hs hk
  generalize plcs l (l.length + 1) = P
  intro hk h1 h2 hs hm
  refine Classical.byContradiction fun hc => ?_
  obtain ⟨m, hm1, hm2⟩ := List.getElem_of_mem (hm.2 ⟨by omega, by omega, hc⟩)
  have hm3 : P.getD m 0 = i := by simp [List.getD_eq_getElem?_getD, hm1, hm2]
  by_cases hmk : m < k
  · have : P.getD m 0 ≤ posn P k := by
      unfold posn
      rw [if_neg (by omega)]
      by_cases he : m = k - 1
      · rw [he]; exact Nat.le_refl _
      · exact Nat.le_of_lt (sorted_lt hs (by omega) (by omega))
    omega
  · have : P.getD k 0 ≤ P.getD m 0 := by
      by_cases he : m = k
      · rw [he]; exact Nat.le_refl _
      · exact Nat.le_of_lt (sorted_lt hs (by omega) hm1)
    have := h2 (by omega)
    omega
theorem kind0 {l : List Part} {i : Nat} (h : kindAt l i = 0) (hi : i < l.length) : (l.getD i dPart).fin = true ∨ (l.getD i dPart).blank = true := by
  unfold kindAt at h
  split at h
  · cases h
  · rw [if_neg (by omega)] at h
    split at h
    · rename_i h1; simpa using h1
    · split at h
      · cases h
      · split at h
        · cases h
        · split at h <;> cases h
theorem scan_gap {l : List Part} (hs : Small l) {frm e : Nat} (he : e ≤ l.length) (h : ∀ i, frm < i → i < e → kindAt l i = 0) : ∀ n, frm + n ≤ e → (scan l frm n).1 ≤ 2
  | 0, _ => by simp [scan]
  | 1, _ => by have := scan_bd hs frm 1; omega
  | n + 2, hn => by
    have ih := scan_gap hs he h (n + 1) (by omega)
    have hk := kind0 (h (frm + (n + 1)) (by omega) (by omega)) (by omega)
    unfold scan
    rcases hk with hk | hk
    · rw [if_pos hk]; exact ih
    · split
      · exact ih
      · simp only
        first
          | exact ih
          | (rw [if_pos hk]; exact ih)
theorem plcs_le {l : List Part} {k i : Nat} (h : i < (plcs l k).length) : (plcs l k).getD i 0 < k ∧ 0 < (plcs l k).getD i 0 ∧ kindAt l ((plcs l k).getD i 0) ≠ 0 := plcs_mem.1 (getD_mem h)
theorem posn_le {l : List Part} {k : Nat} (h : k ≤ (plcs l (l.length + 1)).length) : posn (plcs l (l.length + 1)) k ≤ l.length := by
  unfold posn
  split
  · omega
  · have := plcs_le (l := l) (k := l.length + 1) (i := k - 1) (by omega); omega
theorem posn_lt {l : List Part} {k : Nat} (h : k < (plcs l (l.length + 1)).length) : posn (plcs l (l.length + 1)) k < (plcs l (l.length + 1)).getD k 0 := by
  unfold posn
  split
  · rename_i h0; subst h0; exact (plcs_le h).2.1
  · exact sorted_lt (plcs_sorted _ _) (by omega) h
theorem posn_succ (P : List Nat) (k : Nat) : posn P (k + 1) = P.getD k 0 := by simp [posn]
theorem full_place {l : List Part} (hs : Small l) {k : Nat} (hk : k < (plcs l (l.length + 1)).length) : fullTo l (plcs l (l.length + 1)) k ((plcs l (l.length + 1)).getD k 0) ≤ 2 := by
  have h1 := plcs_le hk
  have h2 := posn_lt hk
  exact scan_gap (e := (plcs l (l.length + 1)).getD k 0) hs (by omega) (fun i hi hj => gap (Nat.le_of_lt hk) hi (fun _ => hj) (by omega)) _ (by omega)
theorem full_end {l : List Part} (hs : Small l) : fullTo l (plcs l (l.length + 1)) (plcs l (l.length + 1)).length l.length ≤ 2 := by
  have := posn_le (l := l) (Nat.le_refl _)
  exact scan_gap (e := l.length) hs (Nat.le_refl _) (fun i hi hj => gap (Nat.le_refl _) hi (fun h => by omega) (by omega)) _ (by omega)
theorem better_ok {w acc : Bst} (hw : w.ok = true) : (better w acc).ok = true := by
  unfold better
  split
  · exact hw
  · rename_i h
    unfold before at h
    split at h
    · exact absurd rfl h
    · simp_all
theorem endly_ok {l : List Part} {P : List Nat} {width : Int} {k : Nat} {acc : Bst} (h : acc.ok = true ∨ fullTo l P k l.length ≤ width) : (endly l P width k acc).ok = true := by
  unfold endly
  split
  · exact better_ok rfl
  · rename_i h1; exact h.resolve_right h1
theorem inn_ok {l : List Part} {P : List Nat} {width : Int} {ws : List Bst} {k : Nat} : ∀ (f n : Nat) {acc : Bst}, acc.ok = true → (inn l P width ws k f n acc).ok = true
  | 0, n, acc, h => endly_ok (.inl h)
  | f + 1, n, acc, h => by
    have hb := better_ok (w := cand l P width ws k n) (acc := acc) rfl
    simp only [inn]
    split
    · split
      · split
        · split
          · exact hb
          · exact inn_ok f (n + 1) hb
        · split
          · exact h
          · exact inn_ok f (n + 1) h
      · exact h
    · exact endly_ok (.inl h)
theorem tab_ok {l : List Part} {width : Int} (hs : Small l) (hw : 2 ≤ width) : ∀ c j, c ≤ (plcs l (l.length + 1)).length + 1 → (plcs l (l.length + 1)).length + 1 ≤ c + j → j ≤ (plcs l (l.length + 1)).length → ((tab l (plcs l (l.length + 1)) width c).getD j zB).ok = true
  | 0, j, _, h, hj => by omega
  | c + 1, j, hc, h, hjl => by
    have hlen := tab_len l (plcs l (l.length + 1)) width c
    by_cases hj : j = (plcs l (l.length + 1)).length - c
    · have e : (tab l (plcs l (l.length + 1)) width (c + 1)).getD j zB = inner l (plcs l (l.length + 1)) width (tab l (plcs l (l.length + 1)) width c) j j zB := by
        simp only [tab, ← hj]
        exact getD_set_eq _ _ _ _ (by omega)
      rw [e]
      by_cases hlt : j < (plcs l (l.length + 1)).length
      · rw [inner_step hlt, if_pos (Int.le_trans (full_place hs hlt) hw), if_pos (tab_ok hs hw c (j + 1) (by omega) (by omega) (by omega))]
        have hb := better_ok (w := cand l (plcs l (l.length + 1)) width (tab l (plcs l (l.length + 1)) width c) j j) (acc := zB) rfl
        split
        · exact hb
        · exact inn_ok _ _ hb
      · rw [inner_end hlt]
        have : j = (plcs l (l.length + 1)).length := by omega
        subst this
        exact endly_ok (.inr (Int.le_trans (full_end hs) hw))
    · have e : (tab l (plcs l (l.length + 1)) width (c + 1)).getD j zB = (tab l (plcs l (l.length + 1)) width c).getD j zB := by
        simp only [tab]
        exact getD_set_ne _ _ _ _ _ (by omega)
      rw [e]
      exact tab_ok hs hw c j (by omega) (by omega) hjl
def wayGo (ws : List Bst) : Nat → Int → List Nat
  | 0, _ => []
  | f + 1, n => if 0 ≤ n then n.toNat :: wayGo ws f (ws.getD (n + 1).toNat zB).next else []
def far (N : Nat) (n : Int) : Nat := if 0 ≤ n then N - n.toNat else 0
def wayOf (N : Nat) (ws : List Bst) (n : Int) : List Nat := wayGo ws (far N n) n
structure Nx (N : Nat) (ws : List Bst) (n : Int) : Prop where
  out : n = -1 ∨ ∃ m : Nat, n = m ∧ m < N ∧ (ws.getD (m + 1) zB).ok = true
theorem wayGo_fuel {N : Nat} {ws : List Bst} (hg : ∀ j, Gd N ws j (ws.getD j zB)) : ∀ (f f' : Nat) (n : Int), Nx N ws n → far N n ≤ f → far N n ≤ f' → wayGo ws f n = wayGo ws f' n
  | 0, 0, _, _, _, _ => rfl
  | 0, f' + 1, n, hn, h, _ => by
    simp only [wayGo]
    rcases hn.out with rfl | ⟨m, rfl, hm, _⟩
    · simp
    · unfold far at h; rw [if_pos (by omega)] at h; omega
  | f + 1, 0, n, hn, _, h => by
    simp only [wayGo]
    rcases hn.out with rfl | ⟨m, rfl, hm, _⟩
    · simp
    · unfold far at h; rw [if_pos (by omega)] at h; omega
  | f + 1, f' + 1, n, hn, h, h' => by
    simp only [wayGo]
    split
    · rcases hn.out with rfl | ⟨m, rfl, hm, hok⟩
      · omega
      · have e : ((m : Int) + 1).toNat = m + 1 := by omega
        rw [e]
        have hx := (hg (m + 1)).nx hok
        have hx2 : Nx N ws (ws.getD (m + 1) zB).next := ⟨hx.imp (fun h => h) fun ⟨n, h1, h2, h3, h4⟩ => ⟨n, h1, h3, h4⟩⟩
        have hfar : far N (ws.getD (m + 1) zB).next + 1 ≤ far N (m : Int) := by
          have e1 : far N (m : Int) = N - m := by unfold far; rw [if_pos (by omega)]; omega
          rw [e1]
          rcases hx with hx | ⟨n, h1, h2, h3, _⟩
          · rw [hx]; unfold far; simp; omega
          · rw [h1]; unfold far; rw [if_pos (by omega)]; omega
        rw [wayGo_fuel hg f f' _ hx2 (by omega) (by omega)]
    · rfl
theorem Nx.next {N : Nat} {ws : List Bst} {m : Nat} (hg : ∀ j, Gd N ws j (ws.getD j zB)) (hok : (ws.getD (m + 1) zB).ok = true) (hm : m < N) : Nx N ws (ws.getD (m + 1) zB).next ∧ far N (ws.getD (m + 1) zB).next < far N (m : Int) := by
  have hx := (hg (m + 1)).nx hok
  refine ⟨⟨hx.imp (fun h => h) fun ⟨n, h1, h2, h3, h4⟩ => ⟨n, h1, h3, h4⟩⟩, ?_⟩
  have e1 : far N (m : Int) = N - m := by unfold far; rw [if_pos (by omega)]; omega
  rw [e1]
  rcases hx with hx | ⟨n, h1, h2, h3, _⟩
  · rw [hx]; unfold far; simp; omega
  · rw [h1]; unfold far; rw [if_pos (by omega)]; omega
theorem wayOf_step {N : Nat} {ws : List Bst} {m : Nat} (hg : ∀ j, Gd N ws j (ws.getD j zB)) (hok : (ws.getD (m + 1) zB).ok = true) (hm : m < N) : wayOf N ws (m : Int) = m :: wayOf N ws (ws.getD (m + 1) zB).next := by
  obtain ⟨h1, h2⟩ := Nx.next hg hok hm
  unfold wayOf
  obtain ⟨f, hf⟩ : ∃ f, far N (m : Int) = f + 1 := ⟨far N (m : Int) - 1, by omega⟩
  rw [hf]
  have e : ((m : Int) + 1).toNat = m + 1 := by omega
  simp only [wayGo, e]
  rw [if_pos (by omega), wayGo_fuel hg f (far N (ws.getD (m + 1) zB).next) _ h1 (by omega) (Nat.le_refl _)]
  simp
theorem wayOf_end (N : Nat) (ws : List Bst) {n : Int} (h : n < 0) : wayOf N ws n = [] := by
  unfold wayOf far
  rw [if_neg (by omega)]
  rfl
def tabOf (l : List Part) (width : Int) : List Bst := tab l (plcs l (l.length + 1)) width ((plcs l (l.length + 1)).length + 1)
def wayL (l : List Part) (width : Int) : List Nat := wayOf (plcs l (l.length + 1)).length (tabOf l width) ((tabOf l width).getD 0 zB).next
def wrapOut (l : List Part) (width : Int) : List (Int × Int) := (wayL l width).map fun n => (outL l (l.length + 1)).getD n (0, 0)
theorem tabOf_gd {l : List Part} {width : Int} (hs : Small l) (hw : width ≤ 200) (j : Nat) : Gd (plcs l (l.length + 1)).length (tabOf l width) j ((tabOf l width).getD j zB) := tab_gd hs hw _ j (Nat.le_refl _) (by omega)
theorem tabOf_ok {l : List Part} {width : Int} (hs : Small l) (hw : 2 ≤ width) {j : Nat} (hj : j ≤ (plcs l (l.length + 1)).length) : ((tabOf l width).getD j zB).ok = true := tab_ok hs hw _ j (Nat.le_refl _) (by omega) hj
end Go.SX.Plain
/- What is known of a text's parts, plainly. No program here. -/
namespace Go.SX.Plain
theorem signOut_len (b : Bool) (g : Grp) (r : Int) : (signOut b g r).length ≤ if b = true then 1 else 0 := by
  unfold signOut
  split
  · rename_i h; simp [h.1]
  · simp
theorem restGo_len (s : ByteArray) : ∀ (k pos : Nat) (a w : Int) (b : Bool) (g : Grp), s.size - pos ≤ k → (restGo s k pos a w b g).length ≤ (s.size - pos) + (if 0 < pos then 1 else 0) + (if b = true then 1 else 0)
  | 0, pos, a, w, b, g, h => by
    have := signOut_len b g w
    simp only [restGo]
    split
    · simp
    · simp only [List.length_append, List.length_cons, List.length_nil]
      rw [if_pos (show 0 < pos by omega)]
      omega
  | k + 1, pos, a, w, b, g, h => by
    have ho := signOut_len b g w
    have hw := width_pos s pos
    simp only [restGo]
    split
    · split
      · rename_i h1 h2
        have ih := restGo_len s k (pos + (Utf8.decode s pos).2) pos (Utf8.decode s pos).1 true (signGrp b g a w pos) (by omega)
        rw [if_pos (by omega), if_pos rfl] at ih
        simp only [List.length_append]
        omega
      · rename_i h1 h2
        have ih := restGo_len s k (pos + (Utf8.decode s pos).2) pos (Utf8.decode s pos).1 b g (by omega)
        rw [if_pos (by omega)] at ih
        omega
    · split
      · simp
      · simp only [List.length_append, List.length_cons, List.length_nil]
        rw [if_pos (show 0 < pos by omega)]
        omega
theorem parts_len (s : ByteArray) : (parts s).length ≤ s.size := by
  have := restGo_len s s.size 0 0 0 false Grp.zero (by omega)
  simp only [parts, clusters, rest, List.length_map]
  simpa using this
def Sm (c : Clu) : Prop := 0 ≤ c.cells ∧ c.cells ≤ 2
theorem widthI_bd (r : Int) : 0 ≤ widthI r ∧ widthI r ≤ 2 := by
  unfold widthI
  split
  · simp
  · split <;> simp
theorem addG_sm {g : Grp} (h : Sm g.c) (r n : Int) : Sm (addG g r n).c := by
  have := widthI_bd r
  unfold addG
  split
  · exact this
  · split
    · exact ⟨by simp, by simp⟩
    · exact h
theorem preG_sm {b : Bool} {g : Grp} (h : Sm g.c) (a w : Int) : Sm (preG b g a w).c := by
  unfold preG
  split
  · exact ⟨by simp, by simp⟩
  · exact h
theorem signOut_sm {b : Bool} {g : Grp} (h : Sm g.c) (w : Int) : ∀ c ∈ signOut b g w, Sm c := by
  unfold signOut
  split
  · intro c hc; simp at hc; subst hc; exact h
  · intro c hc; cases hc
theorem restGo_sm (s : ByteArray) : ∀ (k pos : Nat) (a w : Int) (b : Bool) (g : Grp), Sm g.c → ∀ c ∈ restGo s k pos a w b g, Sm c
  | 0, pos, a, w, b, g, h => by
    simp only [restGo]
    split
    · intro c hc; cases hc
    · intro c hc
      rcases List.mem_append.1 hc with h1 | h1
      · exact signOut_sm h w c h1
      · simp at h1; subst h1; rw [signGrp_eq]; exact addG_sm (preG_sm h _ _) _ _
  | k + 1, pos, a, w, b, g, h => by
    have hs : Sm (signGrp b g a w pos).c := by rw [signGrp_eq]; exact addG_sm (preG_sm h _ _) _ _
    simp only [restGo]
    split
    · split
      · intro c hc
        rcases List.mem_append.1 hc with h1 | h1
        · exact signOut_sm h w c h1
        · exact restGo_sm s k _ _ _ _ _ hs c h1
      · exact restGo_sm s k _ _ _ _ _ h
    · split
      · intro c hc; cases hc
      · intro c hc
        rcases List.mem_append.1 hc with h1 | h1
        · exact signOut_sm h w c h1
        · simp at h1; subst h1; rw [signGrp_eq]; exact addG_sm (preG_sm h _ _) _ _
theorem parts_small (s : ByteArray) : Small (parts s) := by
  intro p hp
  simp only [parts, clusters, rest] at hp
  obtain ⟨c, hc, rfl⟩ := List.mem_map.1 hp
  exact restGo_sm s _ _ _ _ _ Grp.zero ⟨by simp [Grp.zero], by simp [Grp.zero]⟩ c hc
theorem atL_getD (l : List Part) (k i : Nat) : (atL l k).getD i 0 = ((plcs l k).getD i 0 : Nat) := by
  simp only [atL, List.getD_eq_getElem?_getD, List.getElem?_map]
  cases (plcs l k)[i]? <;> simp
theorem outL_getD {l : List Part} {k i : Nat} (h : i < (plcs l k).length) : (outL l k).getD i (0, 0) = ((l.getD ((plcs l k).getD i 0 - 1) dPart).c.to, kindAt l ((plcs l k).getD i 0)) := by
  simp [outL, List.getD_eq_getElem?_getD, h]
theorem atL_length (l : List Part) (k : Nat) : (atL l k).length = (plcs l k).length := by simp [atL]
theorem outL_length (l : List Part) (k : Nat) : (outL l k).length = (plcs l k).length := by simp [outL]
theorem tab_zero (l : List Part) (P : List Nat) (width : Int) : ∀ c j, j + c < P.length + 1 → (tab l P width c).getD j zB = zB
  | 0, j, _ => by
    simp only [tab, List.getD_eq_getElem?_getD, List.getElem?_replicate]; split <;> rfl
  | c + 1, j, h => by
    simp only [tab]
    rw [getD_set_ne _ _ _ _ _ (by omega)]
    exact tab_zero l P width c j (by omega)
theorem tab_set0 (l : List Part) (P : List Nat) (width : Int) {c k : Nat} (h : k + c < P.length + 1) : (tab l P width c).set k zB = tab l P width c := by
  have h1 := tab_zero l P width c k h
  have hl := tab_len l P width c
  apply List.ext_getElem
  · simp
  · intro i h2 h3
    by_cases hi : k = i
    · subst hi
      rw [List.getElem_set_self]
      have : (tab l P width c)[k]? = some (tab l P width c)[k] := List.getElem?_eq_getElem h3
      rw [List.getD_eq_getElem?_getD, this] at h1
      exact h1.symm
    · rw [List.getElem_set_ne hi]
theorem scan_fin {l : List Part} {frm j : Nat} (h : frm ≤ j) (hf : (l.getD j dPart).fin = true) : scan l frm (j + 1 - frm) = scan l frm (j - frm) := by
  rw [show j + 1 - frm = (j - frm) + 1 by omega]
  simp only [scan]
  rw [show frm + (j - frm) = j by omega, if_pos hf]
theorem scan_blank {l : List Part} {frm j : Nat} (h : frm ≤ j) (hf : (l.getD j dPart).fin = false) (hb : (l.getD j dPart).blank = true) : scan l frm (j + 1 - frm) = ((scan l frm (j - frm)).1, (scan l frm (j - frm)).2 + (l.getD j dPart).c.cells) := by
  rw [show j + 1 - frm = (j - frm) + 1 by omega]
  simp only [scan]
  rw [show frm + (j - frm) = j by omega, if_neg (by rw [hf]; exact Bool.false_ne_true), if_pos hb]
theorem scan_ink {l : List Part} {frm j : Nat} (h : frm ≤ j) (hf : (l.getD j dPart).fin = false) (hb : (l.getD j dPart).blank = false) : scan l frm (j + 1 - frm) = ((scan l frm (j - frm)).2 + (l.getD j dPart).c.cells, (scan l frm (j - frm)).2 + (l.getD j dPart).c.cells) := by
  rw [show j + 1 - frm = (j - frm) + 1 by omega]
  simp only [scan]
  rw [show frm + (j - frm) = j by omega, if_neg (by rw [hf]; exact Bool.false_ne_true), if_neg (by rw [hb]; exact Bool.false_ne_true)]
theorem posn_mono {l : List Part} {k n : Nat} (h : k ≤ n) (hn : n ≤ (plcs l (l.length + 1)).length) : posn (plcs l (l.length + 1)) k ≤ posn (plcs l (l.length + 1)) n := by
  have hs := plcs_sorted l (l.length + 1)
  unfold posn
  split
  · omega
  · rw [if_neg (by omega)]
    by_cases he : k = n
    · rw [he]; exact Nat.le_refl _
    · exact Nat.le_of_lt (sorted_lt hs (by omega) (by omega))
theorem fullTo_eq (l : List Part) (P : List Nat) (k e : Nat) : (scan l (posn P k) (e - posn P k)).1 = fullTo l P k e := rfl
section
variable {l : List Part} {P : List Nat} {width : Int} {ws : List Bst} {k n : Nat} {acc : Bst}
theorem inner_full (h : n < P.length) (hf : ¬ fullTo l P k (P.getD n 0) ≤ width) : inner l P width ws k n acc = acc := by
  rw [inner_step h, if_neg hf]
theorem inner_no_hard (h : n < P.length) (hf : fullTo l P k (P.getD n 0) ≤ width) (hok : (ws.getD (n + 1) zB).ok = false) (hk : kindAt l (P.getD n 0) = 1) : inner l P width ws k n acc = acc := by
  rw [inner_step h, if_pos hf, if_neg (by rw [hok]; exact Bool.false_ne_true), if_pos hk]
theorem inner_no (h : n < P.length) (hf : fullTo l P k (P.getD n 0) ≤ width) (hok : (ws.getD (n + 1) zB).ok = false) (hk : ¬ kindAt l (P.getD n 0) = 1) : inner l P width ws k n acc = inner l P width ws k (n + 1) acc := by
  rw [inner_step h, if_pos hf, if_neg (by rw [hok]; exact Bool.false_ne_true), if_neg hk]
theorem inner_hard (h : n < P.length) (hf : fullTo l P k (P.getD n 0) ≤ width) (hok : (ws.getD (n + 1) zB).ok = true) (hk : kindAt l (P.getD n 0) = 1) : inner l P width ws k n acc = better (cand l P width ws k n) acc := by
  rw [inner_step h, if_pos hf, if_pos hok, if_pos hk]
theorem inner_on (h : n < P.length) (hf : fullTo l P k (P.getD n 0) ≤ width) (hok : (ws.getD (n + 1) zB).ok = true) (hk : ¬ kindAt l (P.getD n 0) = 1) : inner l P width ws k n acc = inner l P width ws k (n + 1) (better (cand l P width ws k n) acc) := by
  rw [inner_step h, if_pos hf, if_pos hok, if_neg hk]
theorem better_1 {w acc : Bst} (h : before w acc = true) : better w acc = w := by unfold better; rw [if_pos h]
theorem better_0 {w acc : Bst} (h : before w acc = false) : better w acc = acc := by unfold better; rw [if_neg (by rw [h]; exact Bool.false_ne_true)]
theorem cand_cut (h : kindAt l (P.getD n 0) = 3) : cand l P width ws k n = ⟨(width - fullTo l P k (P.getD n 0)) * (width - fullTo l P k (P.getD n 0)) + (ws.getD (n + 1) zB).bad + 1048576, (ws.getD (n + 1) zB).places + 1, n, true⟩ := by
  unfold cand; rw [if_pos h]
theorem cand_not (h : ¬ kindAt l (P.getD n 0) = 3) : cand l P width ws k n = ⟨(width - fullTo l P k (P.getD n 0)) * (width - fullTo l P k (P.getD n 0)) + (ws.getD (n + 1) zB).bad, (ws.getD (n + 1) zB).places + 1, n, true⟩ := by
  unfold cand; rw [if_neg h, Int.add_zero]
def nextAcc (l : List Part) (P : List Nat) (width : Int) (ws : List Bst) (k n : Nat) (acc : Bst) : Bst := if (ws.getD (n + 1) zB).ok = true then better (cand l P width ws k n) acc else acc
theorem nextAcc_no (hok : (ws.getD (n + 1) zB).ok = false) : nextAcc l P width ws k n acc = acc := by unfold nextAcc; rw [if_neg (by rw [hok]; exact Bool.false_ne_true)]
theorem nextAcc_yes (hok : (ws.getD (n + 1) zB).ok = true) : nextAcc l P width ws k n acc = better (cand l P width ws k n) acc := by unfold nextAcc; rw [if_pos hok]
theorem inner_next (h : n < P.length) (hf : fullTo l P k (P.getD n 0) ≤ width) (hk : ¬ kindAt l (P.getD n 0) = 1) : inner l P width ws k n acc = inner l P width ws k (n + 1) (nextAcc l P width ws k n acc) := by
  cases hok : (ws.getD (n + 1) zB).ok with
  | true => rw [nextAcc_yes hok, inner_on h hf hok hk]
  | false => rw [nextAcc_no hok, inner_no h hf hok hk]
theorem inner_stop (h : n < P.length) (hf : fullTo l P k (P.getD n 0) ≤ width) (hk : kindAt l (P.getD n 0) = 1) : inner l P width ws k n acc = nextAcc l P width ws k n acc := by
  cases hok : (ws.getD (n + 1) zB).ok with
  | true => rw [nextAcc_yes hok, inner_hard h hf hok hk]
  | false => rw [nextAcc_no hok, inner_no_hard h hf hok hk]
theorem Gd.next (hs : Small l) (hw : width ≤ 200) (hk : k ≤ n) (hn : n < P.length) (hf : fullTo l P k (P.getD n 0) ≤ width) (ho : Gd P.length ws (n + 1) (ws.getD (n + 1) zB)) (ha : Gd P.length ws k acc) : Gd P.length ws k (nextAcc l P width ws k n acc) := by
  unfold nextAcc
  split
  · rename_i hok
    exact Gd.better (Gd.cand hs hw hf hk hn ho hok) ha
  · exact ha
theorem endly_no (h : ¬ fullTo l P k l.length ≤ width) : endly l P width k acc = acc := by unfold endly; rw [if_neg h]
theorem endly_yes (h : fullTo l P k l.length ≤ width) : endly l P width k acc = better ⟨(width - fullTo l P k l.length) * (width - fullTo l P k l.length), 0, -1, true⟩ acc := by unfold endly; rw [if_pos h]
theorem tab_succ {c : Nat} (hk : k = P.length - c) : tab l P width (c + 1) = (tab l P width c).set k (inner l P width (tab l P width c) k k zB) := by subst hk; rfl
end
theorem wayGo_len (ws : List Bst) : ∀ (f : Nat) (n : Int), (wayGo ws f n).length ≤ f
  | 0, _ => by simp [wayGo]
  | f + 1, n => by
    simp only [wayGo]
    split
    · have := wayGo_len ws f (ws.getD (n + 1).toNat zB).next
      simp only [List.length_cons]; omega
    · simp
theorem wrapOut_len (l : List Part) (width : Int) : (wrapOut l width).length ≤ (plcs l (l.length + 1)).length := by
  simp only [wrapOut, wayL, wayOf, List.length_map]
  refine Nat.le_trans (wayGo_len _ _ _) ?_
  unfold far
  split <;> omega
end Go.SX.Plain
/- The document's pieces (chapter 10), plainly. No program here. -/
namespace Go.SX.Plain
structure Pc where
  r : Int
  frm : Int
  to : Int
  cells : Int
abbrev dPc : Pc := ⟨0, 0, 0, 0⟩
def amongB (r : Int) (l : List Int) : Bool := l.any fun x => x == r
def endsP (x : Pc) : Bool := x.r == 10
def blankP (x : Pc) : Bool := amongB x.r [9, 32, 5760, 8287, 12288] || (decide (8192 ≤ x.r) && decide (x.r ≤ 8202) && !(x.r == 8199))
def wideP' (x : Pc) : Bool := x.cells == 2 && !blankP x
def dashP (x : Pc) : Bool := amongB x.r [45, 8208, 8210, 8211, 8212]
def openingP (x : Pc) : Bool := amongB x.r [40, 91, 123, 12296, 12298, 12300, 12302, 12304, 12308, 65288, 65339, 65371]
def closingP (x : Pc) : Bool := amongB x.r [33, 41, 44, 46, 58, 59, 63, 93, 125, 12289, 12290, 12297, 12299, 12301, 12303, 12305, 12309, 12540, 65281, 65289, 65292, 65294, 65306, 65307, 65311, 65341, 65373]
def pcOf (p : Part) : Pc := ⟨p.first, p.c.frm, p.c.to, p.c.cells⟩
def pcs (s : ByteArray) : List Pc := (parts s).map pcOf
structure Told (p : Part) : Prop where
  fin : p.fin = endsP (pcOf p)
  blank : p.blank = blankP (pcOf p)
  wide : p.wide = wideP' (pcOf p)
  dash : p.dash = dashP (pcOf p)
  opening : p.opening = openingP (pcOf p)
  closing : p.closing = closingP (pcOf p)
theorem oneB_list (r : Int) (l : ByteArray) (m : List Int) (h : (signsFrom l 0).map (fun p => (p.2 : Int)) = m) : oneB r l = amongB r m := by
  unfold oneB amongB
  rw [← h, List.any_map]
  rfl
set_option maxRecDepth 100000 in
theorem one_blanks (r : Int) : oneB r blanks = amongB r [9, 32, 5760, 8287, 12288] := oneB_list r blanks _ (by decide)
set_option maxRecDepth 100000 in
set_option maxRecDepth 100000 in
set_option maxRecDepth 100000 in
def kindP (l : List Pc) (i : Nat) : Int :=
  if endsP (l.getD (i - 1) dPc) = true then 1
  else if i = l.length then 0
  else if (endsP (l.getD i dPc) || blankP (l.getD i dPc)) = true then 0
  else if blankP (l.getD (i - 1) dPc) = true then 2
  else if (dashP (l.getD (i - 1) dPc) && decide ((1 : Int) < (i : Int)) && !blankP (l.getD (i - 2) dPc) && !endsP (l.getD (i - 2) dPc) && !dashP (l.getD (i - 2) dPc)) = true then 2
  else if ((wideP' (l.getD (i - 1) dPc) || wideP' (l.getD i dPc)) && !openingP (l.getD (i - 1) dPc) && !closingP (l.getD i dPc)) = true then 2
  else 3
def kindsTo (l : List Pc) : Nat → List Int
  | 0 => List.replicate (l.length + 1) 0
  | 1 => List.replicate (l.length + 1) 0
  | i + 1 => (kindsTo l i).set i (kindP l i)
def kindsP (l : List Pc) : List Int := kindsTo l (l.length + 1)
def placeP (l : List Pc) (i : Nat) : Int := if i = l.length then (l.getD (i - 1) dPc).to else (l.getD i dPc).frm
end Go.SX.Plain
/- Signs in a part of a text; where signs stand. No program here. -/
namespace Go.SX.Plain
theorem bt_extract {s : ByteArray} {p e k : Nat} (h : p + k < e) (he : e ≤ s.size) : bt (s.extract p e) k = bt s (p + k) := by
  unfold bt
  rw [bytesL_get, bytesL_get]
  congr 2
  rw [ByteArray.data_extract]
  have h1 : p + k < s.data.size := by have : s.data.size = s.size := rfl; omega
  have h2 : k < (s.data.extract p e).size := by simp; omega
  simp [List.getD_eq_getElem?_getD, h1]
  rw [List.getElem?_take, if_pos (by omega), List.getElem?_drop]
  simp [h1]
theorem size_extract' {s : ByteArray} {p e : Nat} (he : e ≤ s.size) : (s.extract p e).size = e - p := by
  simp [ByteArray.size_extract]; omega
theorem second_no2 {s : ByteArray} {i : Nat} (hn : 2 ≤ longI (bt s i)) (h : ¬ (i + 1 < s.size ∧ secondB (bt s i) (bt s (i + 1)) = true)) : Utf8.decode s i = (65533, 1) := by
  refine second_no hn ?_
  by_cases h1 : i + 1 < s.size
  · right
    cases h2 : secondB (bt s i) (bt s (i + 1)) with
    | false => rfl
    | true => exact absurd ⟨h1, h2⟩ h
  · exact .inl h1
theorem decode_extract {s : ByteArray} {p e : Nat} (hpe : p < e) (he : e ≤ s.size) (hw : p + (Utf8.decode s p).2 ≤ e) : Utf8.decode (s.extract p e) 0 = Utf8.decode s p := by
  have hsz := size_extract' (p := p) he
  have b0 : bt (s.extract p e) 0 = bt s p := by rw [bt_extract (by omega) he]; rfl
  have bk : ∀ k, p + k < e → bt (s.extract p e) k = bt s (p + k) := fun k h => bt_extract h he
  have mk : ∀ k, p + k < e → moreB (s.extract p e) (0 + k) = moreB s (p + k) := fun k h => by
    unfold moreB
    rw [Nat.zero_add, bk k h, hsz, decide_eq_true (show k < e - p by omega), decide_eq_true (show p + k < s.size by omega)]
  have mno : ∀ k, ¬ p + k < e → moreB (s.extract p e) (0 + k) = false := fun k h => by
    unfold moreB
    rw [Nat.zero_add, hsz, decide_eq_false (show ¬ k < e - p by omega)]; rfl
  rcases longI_cases (bt s p) with h | h | h
  · rw [dec_0 h, dec_0 (by rw [b0]; exact h)]
  · rw [dec_1 h, dec_1 (by rw [b0]; exact h), b0]
  · by_cases h2 : p + 1 < s.size ∧ secondB (bt s p) (bt s (p + 1)) = true
    · by_cases hp1 : p + 1 < e
      · have hx2 : 0 + 1 < (s.extract p e).size ∧ secondB (bt (s.extract p e) 0) (bt (s.extract p e) (0 + 1)) = true := by
          rw [b0, bk (0 + 1) (by omega), hsz]; exact ⟨by omega, h2.2⟩
        rcases h with h | h | h
        · rw [(dec_2 h h2.1 h2.2).1, (dec_2 (by rw [b0]; exact h) hx2.1 hx2.2).1, b0, bk (0 + 1) (by omega)]
        · by_cases m2 : moreB s (p + 2) = true
          · have hd := (dec_3 h h2.1 h2.2 m2).1
            rw [hd] at hw
            simp only at hw
            rw [hd, (dec_3 (by rw [b0]; exact h) hx2.1 hx2.2 (by rw [mk 2 (by omega)]; exact m2)).1, b0, bk (0 + 1) (by omega), bk (0 + 2) (by omega)]
          · have m2 : moreB s (p + 2) = false := by simpa using m2
            rw [more_no2 (by omega) m2, more_no2 (by rw [b0]; omega)]
            by_cases hp2 : p + 2 < e
            · rw [mk 2 hp2]; exact m2
            · exact mno 2 hp2
        · by_cases m2 : moreB s (p + 2) = true
          · by_cases m3 : moreB s (p + 3) = true
            · have hd := (dec_4 h h2.1 h2.2 m2 m3).1
              rw [hd] at hw
              simp only at hw
              rw [hd, (dec_4 (by rw [b0]; exact h) hx2.1 hx2.2 (by rw [mk 2 (by omega)]; exact m2) (by rw [mk 3 (by omega)]; exact m3)).1, b0, bk (0 + 1) (by omega), bk (0 + 2) (by omega), bk (0 + 3) (by omega)]
            · have m3 : moreB s (p + 3) = false := by simpa using m3
              rw [more_no3 (by omega) m3, more_no3 (by rw [b0]; omega)]
              by_cases hp3 : p + 3 < e
              · rw [mk 3 hp3]; exact m3
              · exact mno 3 hp3
          · have m2 : moreB s (p + 2) = false := by simpa using m2
            rw [more_no2 (by omega) m2, more_no2 (by rw [b0]; omega)]
            by_cases hp2 : p + 2 < e
            · rw [mk 2 hp2]; exact m2
            · exact mno 2 hp2
      · have h4 : p + 1 = e := by omega
        rw [second_no2 (s := s.extract p e) (i := 0) (by rw [b0]; omega) (by rw [hsz]; rintro ⟨h5, _⟩; omega)]
        rcases h with h | h | h
        · rw [(dec_2 h h2.1 h2.2).1] at hw; simp only at hw; omega
        · by_cases m2 : moreB s (p + 2) = true
          · rw [(dec_3 h h2.1 h2.2 m2).1] at hw; simp only at hw; omega
          · exact (more_no2 (by omega) (by simpa using m2)).symm
        · by_cases m2 : moreB s (p + 2) = true
          · by_cases m3 : moreB s (p + 3) = true
            · rw [(dec_4 h h2.1 h2.2 m2 m3).1] at hw; simp only at hw; omega
            · exact (more_no3 (by omega) (by simpa using m3)).symm
          · exact (more_no2 (by omega) (by simpa using m2)).symm
    · rw [second_no2 (by omega) h2, second_no2 (by rw [b0]; omega)]
      rw [b0, hsz]
      rintro ⟨h3, h4⟩
      rw [bk (0 + 1) (by omega)] at h4
      exact h2 ⟨by omega, h4⟩
def runes' (s : ByteArray) : List Int := ((signsFrom s 0).map fun p => sgnAt s p.1).map (·.rune)
theorem signsGo_chain (s : ByteArray) : ∀ (k pos : Nat), s.size - pos ≤ k → ∀ i (h : i < (signsGo s k pos).length), ((signsGo s k pos)[i]).1 < s.size ∧ ((signsGo s k pos)[i]).2 = (Utf8.decode s ((signsGo s k pos)[i]).1).1 ∧
    nextPos s ((signsGo s k pos).drop (i + 1)) = ((signsGo s k pos)[i]).1 + (Utf8.decode s ((signsGo s k pos)[i]).1).2
  | 0, pos, _, i, h => by simp [signsGo] at h
  | k + 1, pos, hk, i, h => by
    by_cases hp : pos < s.size
    · have hw := width_pos s pos
      have hwl := width_le hp
      have e : signsGo s (k + 1) pos = (pos, (Utf8.decode s pos).1) :: signsGo s k (pos + (Utf8.decode s pos).2) := by simp only [signsGo]; rw [if_pos hp]
      cases i with
      | zero =>
        simp only [e, List.getElem_cons_zero, List.drop_succ_cons, List.drop_zero]
        refine ⟨hp, trivial, ?_⟩
        by_cases hp2 : pos + (Utf8.decode s pos).2 < s.size
        · obtain ⟨k', rfl⟩ : ∃ k', k = k' + 1 := ⟨k - 1, by omega⟩
          simp only [signsGo]
          rw [if_pos hp2]; rfl
        · have : signsGo s k (pos + (Utf8.decode s pos).2) = [] := by
            cases k with
            | zero => rfl
            | succ k => simp only [signsGo]; rw [if_neg hp2]
          rw [this]
          simp only [nextPos]
          omega
      | succ i =>
        simp only [e, List.getElem_cons_succ, List.drop_succ_cons]
        exact signsGo_chain s k _ (by omega) i (by rw [e] at h; simpa using h)
    · simp only [signsGo, if_neg hp] at h
      simp at h
theorem rl_dec (s : ByteArray) {i : Nat} (h : i < (rl s).length) : ∃ p : Nat, (al s).getD i 0 = p ∧ p < s.size ∧ (rl s).getD i 0 = ((Utf8.decode s p).1 : Int) ∧ (al s).getD (i + 1) 0 = ((p + (Utf8.decode s p).2 : Nat) : Int) := by
  rw [rl_len] at h
  obtain ⟨h1, h2, h3⟩ := signsGo_chain s _ _ (by omega) i h
  refine ⟨((signsFrom s 0)[i]).1, al_get s h, h1, ?_, ?_⟩
  · rw [rl_get s h]; exact congrArg Int.ofNat h2
  · rw [al_next s h]
    exact congrArg Int.ofNat h3
theorem al_mono (s : ByteArray) : ∀ {j i : Nat}, i ≤ j → j ≤ (rl s).length → (al s).getD i 0 ≤ (al s).getD j 0
  | 0, i, h, _ => by rw [show i = 0 by omega]; exact Int.le_refl _
  | j + 1, i, h, hj => by
    by_cases he : i = j + 1
    · rw [he]; exact Int.le_refl _
    · obtain ⟨p, h1, h2, h3, h4⟩ := rl_dec s (i := j) (by omega)
      have := al_mono s (i := i) (j := j) (by omega) (by omega)
      rw [h4]; omega
end Go.SX.Plain
/- Of each cluster: the rune that its text begins with stands in the text's runes. No program here. -/
namespace Go.SX.Plain
structure ClOK (s : ByteArray) (c : Clu) : Prop where
  ex : ∃ f t : Nat, f < t ∧ t ≤ (rl s).length ∧ c = (gAt (rl s) (al s) f t).c
theorem remGo_ok (s : ByteArray) : ∀ (k f t : Nat), (rl s).length - t ≤ k → f < t → t ≤ (rl s).length → ∀ c ∈ remGo (rl s) (al s) k f t, ClOK s c
  | 0, f, t, _, h1, h2, c, hc => by
    simp only [remGo] at hc
    rw [List.mem_singleton.1 hc]
    exact ⟨f, t, h1, h2, rfl⟩
  | k + 1, f, t, hk, h1, h2, c, hc => by
    simp only [remGo] at hc
    split at hc
    · split at hc
      · exact remGo_ok s k f (t + 1) (by omega) (by omega) (by omega) c hc
      · rcases List.mem_cons.1 hc with rfl | hc
        · exact ⟨f, t, h1, h2, rfl⟩
        · exact remGo_ok s k t (t + 1) (by omega) (by omega) (by omega) c hc
    · rw [List.mem_singleton.1 hc]
      exact ⟨f, t, h1, h2, rfl⟩
theorem clusters_ok (s : ByteArray) : ∀ c ∈ clusters s, ClOK s c := by
  intro c hc
  rw [clusters_rem] at hc
  split at hc
  · rename_i h
    exact remGo_ok s _ 0 1 (Nat.le_refl _) (by omega) (by rw [rl_len]; exact h) c hc
  · cases hc
theorem ClOK.first {s : ByteArray} {c : Clu} (h : ClOK s c) : 0 ≤ c.frm ∧ c.frm < (rl s).length ∧ (rl s).getD c.frm.toNat 0 = firstOf s c ∧ c.frm < c.to ∧ c.to ≤ (rl s).length ∧ 0 ≤ c.at ∧ 0 < c.len ∧ c.at + c.len ≤ s.size := by
  obtain ⟨f, t, h1, h2, rfl⟩ := h.ex
  obtain ⟨p, q1, q2, q3, q4⟩ := rl_dec s (i := f) (by omega)
  have hm := al_mono s (i := f + 1) (j := t) (by omega) h2
  have hb := al_bd s t
  have hw := width_pos s p
  rw [q4] at hm
  have e1 : (gAt (rl s) (al s) f t).c.frm = (f : Int) := rfl
  have e2 : (gAt (rl s) (al s) f t).c.to = (t : Int) := rfl
  have e3 : (gAt (rl s) (al s) f t).c.at = (p : Int) := q1
  have e4 : (gAt (rl s) (al s) f t).c.len = (al s).getD t 0 - p := by rw [← q1]; rfl
  rw [e1, e2, e3, e4]
  refine ⟨by omega, by omega, ?_, by omega, by omega, by omega, by omega, by omega⟩
  unfold firstOf
  rw [e3, e4]
  obtain ⟨e, he⟩ : ∃ e : Nat, (al s).getD t 0 = e := ⟨((al s).getD t 0).toNat, by omega⟩
  rw [he] at hm hb ⊢
  have h3 : ((p : Int)).toNat = p := Int.toNat_natCast _
  have h4 : ((p : Int) + ((e : Int) - p)).toNat = e := by omega
  rw [h3, h4, size_extract' (by omega), if_pos (by omega), decode_extract (by omega) (by omega) (by omega), Int.toNat_natCast, q3]
end Go.SX.Plain
/- The document's table, plainly. No program here. -/
namespace Go.SX.Plain
structure Rb where
  bad : Int
  count : Int
  next : Int
abbrev zR : Rb := ⟨0, 0, 0⟩
def rbOf (b : Bst) : Rb := ⟨b.bad, b.places, b.next⟩
def wAt (l : List Part) (f t : Nat) : Int := (scan l f (t - f)).1
def lessB (a b : Rb) : Bool := if a.bad ≠ b.bad then decide (a.bad < b.bad) else decide (a.count < b.count)
def lastB (l : List Part) (f t : Nat) : Bool := decide (t = l.length) && (decide (l.length = f) || !(l.getD (l.length - 1) dPart).fin)
section
variable (l : List Part) (width : Int) (ct : List Rb) (f : Nat)
def rcand (t : Nat) : Bst :=
  ⟨(width - wAt l f t) * (width - wAt l f t) + (ct.getD t zR).bad + (if kindAt l t = 3 then 1048576 else 0), 1 + (ct.getD t zR).count, t, true⟩
def rend (t : Nat) : Bst := ⟨(width - wAt l f t) * (width - wAt l f t), 0, 0, true⟩
def racc1 (t : Nat) (acc : Bst) : Bst := if f < t ∧ 0 < kindAt l t then better (rcand l width ct f t) acc else acc
def racc2 (t : Nat) (acc : Bst) : Bst := if lastB l f t = true then better (rend l width f t) (racc1 l width ct f t acc) else racc1 l width ct f t acc
def rinn : Nat → Nat → Bst → Bst
  | 0, _, acc => acc
  | k + 1, t, acc => if t ≤ l.length then (if wAt l f t ≤ width then (if f < t ∧ kindAt l t = 1 then racc2 l width ct f t acc else rinn k (t + 1) (racc2 l width ct f t acc)) else acc) else acc
def rinner (t : Nat) (acc : Bst) : Bst := rinn l width ct f (l.length + 1 - t) t acc
end
section
variable {l : List Part} {width : Int} {ct : List Rb} {f t : Nat} {acc : Bst}
theorem rinner_end (h : ¬ t ≤ l.length) : rinner l width ct f t acc = acc := by
  unfold rinner
  rw [show l.length + 1 - t = 0 by omega]
  rfl
theorem rinner_step (h : t ≤ l.length) : rinner l width ct f t acc = (if wAt l f t ≤ width then (if f < t ∧ kindAt l t = 1 then racc2 l width ct f t acc else rinner l width ct f (t + 1) (racc2 l width ct f t acc)) else acc) := by
  unfold rinner
  rw [show l.length + 1 - t = (l.length + 1 - (t + 1)) + 1 by omega]
  simp only [rinn]
  rw [if_pos h]
theorem rinner_full (h : t ≤ l.length) (hw : ¬ wAt l f t ≤ width) : rinner l width ct f t acc = acc := by rw [rinner_step h, if_neg hw]
theorem rinner_stop (h : t ≤ l.length) (hw : wAt l f t ≤ width) (hk : f < t ∧ kindAt l t = 1) : rinner l width ct f t acc = racc2 l width ct f t acc := by rw [rinner_step h, if_pos hw, if_pos hk]
theorem rinner_on (h : t ≤ l.length) (hw : wAt l f t ≤ width) (hk : ¬ (f < t ∧ kindAt l t = 1)) : rinner l width ct f t acc = rinner l width ct f (t + 1) (racc2 l width ct f t acc) := by rw [rinner_step h, if_pos hw, if_neg hk]
end
def rt (l : List Part) (width : Int) : Nat → List Rb
  | 0 => List.replicate (l.length + 1) zR
  | c + 1 => (rt l width c).set (l.length - c) (rbOf (rinner l width (rt l width c) (l.length - c) (l.length - c) zB))
def rtab (l : List Part) (width : Int) : List Rb := rt l width (l.length + 1)
theorem rt_len (l : List Part) (width : Int) : ∀ c, (rt l width c).length = l.length + 1
  | 0 => by simp [rt]
  | c + 1 => by simp [rt, rt_len l width c]
theorem rt_succ {l : List Part} {width : Int} {c f : Nat} (h : f = l.length - c) : rt l width (c + 1) = (rt l width c).set f (rbOf (rinner l width (rt l width c) f f zB)) := by subst h; rfl
structure GdR (n j : Nat) (b : Rb) : Prop where
  b0 : 0 ≤ b.bad
  b1 : b.bad ≤ ((n + 1 - j : Nat) : Int) * 2000000
  p0 : 0 ≤ b.count
  p1 : b.count ≤ ((n + 1 - j : Nat) : Int)
  n0 : b.next = 0 ∨ ∃ m : Nat, b.next = m ∧ j < m ∧ m ≤ n
theorem GdR.zero (n j : Nat) : GdR n j zR := ⟨by simp, by simp only; omega, by simp, by simp only; omega, .inl rfl⟩
theorem wAt_bd {l : List Part} (h : Small l) (f t : Nat) : 0 ≤ wAt l f t := (scan_bd h _ _).1
theorem GdR.cand {l : List Part} {width : Int} {ct : List Rb} {f t : Nat} (hs : Small l) (hw : width ≤ 200) (hf : wAt l f t ≤ width) (hk : f < t) (hn : t ≤ l.length) (ho : GdR l.length t (ct.getD t zR)) : GdR l.length f (rbOf (rcand l width ct f t)) := by
  have h0 := wAt_bd hs f t
  have hq := sq_bd (x := width - wAt l f t) (y := 200) (by omega) (by omega)
  obtain ⟨b0, b1, p0, p1, _⟩ := ho
  unfold rbOf rcand
  refine ⟨?_, ?_, ?_, ?_, .inr ⟨t, rfl, hk, hn⟩⟩
  · simp only; split <;> omega
  · simp only
    have : ((l.length + 1 - f : Nat) : Int) ≥ ((l.length + 1 - t : Nat) : Int) + 1 := by omega
    split <;> omega
  · simp only; omega
  · simp only; omega
theorem GdR.fin {l : List Part} {width : Int} {f t : Nat} (hs : Small l) (hw : width ≤ 200) (hf : wAt l f t ≤ width) (hk : f ≤ l.length) : GdR l.length f (rbOf (rend l width f t)) := by
  have h0 := wAt_bd hs f t
  have hq := sq_bd (x := width - wAt l f t) (y := 200) (by omega) (by omega)
  unfold rbOf rend
  exact ⟨hq.1, by simp only; omega, by simp, by simp only; omega, .inl rfl⟩
theorem GdR.better {n f : Nat} {a b : Bst} (ha : GdR n f (rbOf a)) (hb : GdR n f (rbOf b)) : GdR n f (rbOf (better a b)) := by
  unfold Plain.better; split <;> assumption
theorem GdR.acc1 {l : List Part} {width : Int} {ct : List Rb} {f t : Nat} {acc : Bst} (hs : Small l) (hw : width ≤ 200) (hf : wAt l f t ≤ width) (hn : t ≤ l.length) (ho : f < t → GdR l.length t (ct.getD t zR)) (ha : GdR l.length f (rbOf acc)) : GdR l.length f (rbOf (racc1 l width ct f t acc)) := by
  unfold racc1
  split
  · rename_i h; exact GdR.better (GdR.cand hs hw hf h.1 hn (ho h.1)) ha
  · exact ha
theorem GdR.acc2 {l : List Part} {width : Int} {ct : List Rb} {f t : Nat} {acc : Bst} (hs : Small l) (hw : width ≤ 200) (hf : wAt l f t ≤ width) (hk : f ≤ l.length) (hn : t ≤ l.length) (ho : f < t → GdR l.length t (ct.getD t zR)) (ha : GdR l.length f (rbOf acc)) : GdR l.length f (rbOf (racc2 l width ct f t acc)) := by
  unfold racc2
  split
  · exact GdR.better (GdR.fin hs hw hf hk) (GdR.acc1 hs hw hf hn ho ha)
  · exact GdR.acc1 hs hw hf hn ho ha
theorem GdR.inn {l : List Part} {width : Int} {ct : List Rb} {f : Nat} (hs : Small l) (hw : width ≤ 200) (hk : f ≤ l.length) (ho : ∀ t, f < t → GdR l.length t (ct.getD t zR)) : ∀ (k t : Nat) {acc : Bst}, GdR l.length f (rbOf acc) → GdR l.length f (rbOf (rinn l width ct f k t acc))
  | 0, _, _, ha => ha
  | k + 1, t, acc, ha => by
    simp only [rinn]
    split
    · rename_i ht
      split
      · rename_i hf
        have h2 := GdR.acc2 hs hw hf hk ht (fun h => ho t h) ha
        split
        · exact h2
        · exact GdR.inn hs hw hk ho k (t + 1) h2
      · exact ha
    · exact ha
theorem kindAt_cases (l : List Part) (i : Nat) : kindAt l i = 0 ∨ kindAt l i = 1 ∨ kindAt l i = 2 ∨ kindAt l i = 3 := by
  unfold kindAt
  repeat' split
  all_goals simp
theorem natBeq (a b : Nat) : ((a : Int) == (b : Int)) = decide (a = b) := by rw [Bool.eq_iff_iff]; simp; omega
section
variable {l : List Part} {width : Int} {ct : List Rb} {f t : Nat} {acc : Bst}
theorem racc1_no (h : ¬ (f < t ∧ 0 < kindAt l t)) : racc1 l width ct f t acc = acc := by unfold racc1; rw [if_neg h]
theorem racc2_no (h : lastB l f t = false) : racc2 l width ct f t acc = racc1 l width ct f t acc := by unfold racc2; rw [if_neg (by rw [h]; exact Bool.false_ne_true)]
end
section
variable {l : List Part} {width : Int} {ct : List Rb} {f t : Nat} {acc a : Bst}
end
end Go.SX.Plain
/- The program's table and the document's say the same. No program here. -/
namespace Go.SX.Plain
/-! ### Each entry out of the whole table -/
theorem inn_congr {l : List Part} {P : List Nat} {width : Int} {ws ws' : List Bst} {k : Nat} (h : ∀ j, k < j → ws.getD j zB = ws'.getD j zB) : ∀ (f n : Nat) (acc : Bst), k ≤ n → inn l P width ws k f n acc = inn l P width ws' k f n acc
  | 0, _, _, _ => rfl
  | f + 1, n, acc, hn => by
    have e := h (n + 1) (by omega)
    have ec : cand l P width ws k n = cand l P width ws' k n := by unfold cand; rw [e]
    simp only [inn, e, ec]
    rw [inn_congr h f (n + 1) _ (by omega), inn_congr h f (n + 1) _ (by omega)]
theorem tab_later (l : List Part) (P : List Nat) (width : Int) {c : Nat} : ∀ (d j : Nat), P.length + 1 ≤ c + j → c + d ≤ P.length + 1 → (tab l P width (c + d)).getD j zB = (tab l P width c).getD j zB
  | 0, _, _, _ => rfl
  | d + 1, j, h, hd => by
    rw [← Nat.add_assoc]
    simp only [tab]
    rw [getD_set_ne _ _ _ _ _ (by omega)]
    exact tab_later l P width d j h (by omega)
theorem tab_entry {l : List Part} {width : Int} {k : Nat} (hk : k ≤ (plcs l (l.length + 1)).length) : (tabOf l width).getD k zB = inner l (plcs l (l.length + 1)) width (tabOf l width) k k zB := by
  unfold tabOf
  generalize plcs l (l.length + 1) = P at hk
  have hl := tab_len l P width (P.length - k)
  have e : P.length + 1 = (P.length - k + 1) + k := by omega
  have h1 : (tab l P width (P.length + 1)).getD k zB = (tab l P width (P.length - k + 1)).getD k zB := by
    have := tab_later l P width (c := P.length - k + 1) k k (by omega) (by omega)
    rw [← e] at this; exact this
  rw [h1, tab_succ (c := P.length - k) (k := k) (by omega), getD_set_eq _ _ _ _ (by omega)]
  unfold inner
  refine inn_congr (fun j hj => ?_) _ _ _ (Nat.le_refl _)
  have e2 : P.length + 1 = (P.length - k) + (k + 1) := by omega
  have := tab_later l P width (c := P.length - k) (k + 1) j (by omega) (by omega)
  rw [← e2] at this; exact this.symm
theorem rinn_congr {l : List Part} {width : Int} {ct ct' : List Rb} {f : Nat} (h : ∀ j, f < j → ct.getD j zR = ct'.getD j zR) : ∀ (k t : Nat) (acc : Bst), rinn l width ct f k t acc = rinn l width ct' f k t acc
  | 0, _, _ => rfl
  | k + 1, t, acc => by
    have e1 : racc1 l width ct f t acc = racc1 l width ct' f t acc := by
      unfold racc1
      split
      · rename_i hc
        have : rcand l width ct f t = rcand l width ct' f t := by unfold rcand; rw [h t hc.1]
        rw [this]
      · rfl
    have e2 : racc2 l width ct f t acc = racc2 l width ct' f t acc := by unfold racc2; rw [e1]
    simp only [rinn, e2]
    rw [rinn_congr h k (t + 1)]
theorem rt_later (l : List Part) (width : Int) {c : Nat} : ∀ (d j : Nat), l.length + 1 ≤ c + j → c + d ≤ l.length + 1 → (rt l width (c + d)).getD j zR = (rt l width c).getD j zR
  | 0, _, _, _ => rfl
  | d + 1, j, h, hd => by
    rw [← Nat.add_assoc]
    simp only [rt]
    rw [getD_set_ne _ _ _ _ _ (by omega)]
    exact rt_later l width d j h (by omega)
theorem rt_entry {l : List Part} {width : Int} {f : Nat} (hf : f ≤ l.length) : (rtab l width).getD f zR = rbOf (rinner l width (rtab l width) f f zB) := by
  unfold rtab
  have hl := rt_len l width (l.length - f)
  have e : l.length + 1 = (l.length - f + 1) + f := by omega
  have h1 : (rt l width (l.length + 1)).getD f zR = (rt l width (l.length - f + 1)).getD f zR := by
    have := rt_later l width (c := l.length - f + 1) f f (by omega) (by omega)
    rw [← e] at this; exact this
  rw [h1, rt_succ (c := l.length - f) (f := f) (by omega), getD_set_eq _ _ _ _ (by omega)]
  unfold rinner
  rw [rinn_congr (fun j hj => ?_)]
  have e2 : l.length + 1 = (l.length - f) + (f + 1) := by omega
  have := rt_later l width (c := l.length - f) (f + 1) j (by omega) (by omega)
  rw [← e2] at this; exact this.symm

/-! ### Alike -/
def NxA (P : List Nat) (x y : Int) : Prop := (x = -1 ∧ y = 0) ∨ ∃ m : Nat, x = m ∧ m < P.length ∧ y = (P.getD m 0 : Nat)
structure EqA (P : List Nat) (a b : Bst) : Prop where
  bad : a.bad = b.bad
  places : a.places = b.places
  ok : a.ok = b.ok
  next : a.ok = true → NxA P a.next b.next
theorem EqA.better {P : List Nat} {a b x y : Bst} (h : EqA P a b) (h' : EqA P x y) : EqA P (better a x) (better b y) := by
  have e : before a x = before b y := by unfold before; rw [h.bad, h.places, h'.ok, h'.bad, h'.places]
  unfold Plain.better
  rw [e]
  split <;> assumption
theorem scan_mono {l : List Part} (h : Small l) (f : Nat) : ∀ (d n : Nat), (scan l f n).1 ≤ (scan l f (n + d)).1
  | 0, n => Int.le_refl _
  | d + 1, n => by
    have h1 := scan_mono h f d n
    have hb := scan_bd h f (n + d)
    have hc := h.at (f + (n + d))
    rw [← Nat.add_assoc]
    refine Int.le_trans h1 ?_
    simp only [scan]
    split
    · exact Int.le_refl _
    · simp only
      split
      · exact Int.le_refl _
      · omega
theorem wAt_mono {l : List Part} (h : Small l) {f t e : Nat} (h1 : t ≤ e) : wAt l f t ≤ wAt l f e := by
  unfold wAt
  by_cases hf : f ≤ t
  · have := scan_mono h f (e - t) (t - f)
    rwa [show t - f + (e - t) = e - f by omega] at this
  · rw [show t - f = 0 by omega]
    have := scan_mono h f (e - f) 0
    rwa [Nat.zero_add] at this
theorem rinner_skip {l : List Part} (hS : Small l) {width : Int} {ct : List Rb} {f e : Nat} (he : e ≤ l.length) : ∀ (d t : Nat) (acc : Bst), t + d = e → (∀ i, t ≤ i → i < e → f < i ∧ kindAt l i = 0) → rinner l width ct f t acc = rinner l width ct f e acc
  | 0, t, acc, hd, _ => by rw [show t = e by omega]
  | d + 1, t, acc, hd, h => by
    obtain ⟨h1, h2⟩ := h t (Nat.le_refl _) (by omega)
    by_cases hw : wAt l f t ≤ width
    · have hl : lastB l f t = false := by
        unfold lastB
        rw [decide_eq_false (by omega)]; rfl
      have ha : racc2 l width ct f t acc = acc := by rw [racc2_no hl, racc1_no (by omega)]
      rw [rinner_on (by omega) hw (by omega), ha]
      exact rinner_skip hS he d (t + 1) acc (by omega) fun i hi hj => h i (by omega) hj
    · rw [rinner_full (by omega) hw]
      have hm := wAt_mono hS (f := f) (show t ≤ e by omega)
      rw [rinner_full he (by omega)]
theorem kind_len (l : List Part) : kindAt l l.length = 0 ∨ kindAt l l.length = 1 := by
  unfold kindAt
  split
  · exact .inr rfl
  · rw [if_pos rfl]; exact .inl rfl
theorem kind_fin {l : List Part} : kindAt l l.length = 1 ↔ (l.getD (l.length - 1) dPart).fin = true := by
  unfold kindAt
  constructor
  · intro h
    split at h
    · assumption
    · rw [if_pos rfl] at h; cases h
  · intro h; rw [if_pos h]
section
variable {l : List Part} {width : Int}
def Later (l : List Part) (width : Int) (k : Nat) : Prop := ∀ j, k < j → j ≤ (plcs l (l.length + 1)).length →
  ((tabOf l width).getD j zB).bad = ((rtab l width).getD (posn (plcs l (l.length + 1)) j) zR).bad ∧ ((tabOf l width).getD j zB).places = ((rtab l width).getD (posn (plcs l (l.length + 1)) j) zR).count
theorem loop_eq (hS : Small l) (hw1 : 2 ≤ width) {k : Nat} (hL : Later l width k) : ∀ (d n : Nat) (acc acc' : Bst), (plcs l (l.length + 1)).length = n + d → k ≤ n → posn (plcs l (l.length + 1)) n < l.length → EqA (plcs l (l.length + 1)) acc acc' →
    EqA (plcs l (l.length + 1)) (inner l (plcs l (l.length + 1)) width (tabOf l width) k n acc) (rinner l width (rtab l width) (posn (plcs l (l.length + 1)) k) (posn (plcs l (l.length + 1)) n + 1) acc')
  | 0, n, acc, acc', hd, hk, hc, ha => by
    have hn : n = (plcs l (l.length + 1)).length := by omega
    have hmono := posn_mono (l := l) hk (by omega)
    have hk0 : kindAt l l.length = 0 := gap (k := n) (by omega) hc (fun h => by omega) (Nat.le_refl _)
    have hnf : (l.getD (l.length - 1) dPart).fin = false := by
      cases hf : (l.getD (l.length - 1) dPart).fin with
      | false => rfl
      | true => rw [kind_fin.2 hf] at hk0; cases hk0
    rw [inner_end (by omega), rinner_skip hS (Nat.le_refl _) (l.length - (posn (plcs l (l.length + 1)) n + 1)) _ _ (by omega) fun i hi hj => ⟨by omega, gap (k := n) (by omega) (by omega) (fun h => by omega) (by omega)⟩]
    have hl : lastB l (posn (plcs l (l.length + 1)) k) l.length = true := by
      unfold lastB; rw [hnf]; simp
    by_cases hw : fullTo l (plcs l (l.length + 1)) k l.length ≤ width
    · have hw' : wAt l (posn (plcs l (l.length + 1)) k) l.length ≤ width := hw
      rw [endly_yes hw, rinner_on (Nat.le_refl _) hw' (by omega), rinner_end (by omega)]
      unfold racc2
      rw [if_pos hl, racc1_no (by omega)]
      refine EqA.better ⟨rfl, rfl, rfl, fun _ => .inl ⟨rfl, rfl⟩⟩ ha
    · have hw' : ¬ wAt l (posn (plcs l (l.length + 1)) k) l.length ≤ width := hw
      rw [endly_no hw, rinner_full (Nat.le_refl _) hw']
      exact ha
  | d + 1, n, acc, acc', hd, hk, hc, ha => by
    have hn : n < (plcs l (l.length + 1)).length := by omega
    have hmono := posn_mono (l := l) hk (by omega)
    have hlt := posn_lt hn
    obtain ⟨p1, p2, p3⟩ := plcs_le hn
    have hsucc := posn_succ (plcs l (l.length + 1)) n
    rw [rinner_skip hS (e := (plcs l (l.length + 1)).getD n 0) (by omega) ((plcs l (l.length + 1)).getD n 0 - (posn (plcs l (l.length + 1)) n + 1)) _ _ (by omega) fun i hi hj => ⟨by omega, gap (k := n) (by omega) (by omega) (fun h => hj) (by omega)⟩]
    obtain ⟨hb, hp⟩ := hL (n + 1) (by omega) (by omega)
    rw [hsucc] at hb hp
    have hok := tabOf_ok (l := l) (width := width) hS hw1 (j := n + 1) (by omega)
    generalize hE : (plcs l (l.length + 1)).getD n 0 = e at *
    have hkc := kindAt_cases l e
    have hlast : lastB l (posn (plcs l (l.length + 1)) k) e = false := by
      unfold lastB
      by_cases h : e = l.length
      · subst h
        have h1 := (kind_len l).resolve_left p3
        have hne : ¬ l.length = posn (plcs l (l.length + 1)) k := by omega
        rw [kind_fin.1 h1, decide_eq_false hne]
        simp
      · rw [decide_eq_false h]; rfl
    by_cases hw : fullTo l (plcs l (l.length + 1)) k e ≤ width
    · have hw' : wAt l (posn (plcs l (l.length + 1)) k) e ≤ width := hw
      have hcand : EqA (plcs l (l.length + 1)) (cand l (plcs l (l.length + 1)) width (tabOf l width) k n) (rcand l width (rtab l width) (posn (plcs l (l.length + 1)) k) e) := by
        refine ⟨?_, ?_, rfl, fun _ => .inr ⟨n, rfl, hn, by rw [hE]; rfl⟩⟩
        · simp only [cand, rcand, hE, hb]; rfl
        · simp only [cand, rcand, hp]; omega
      have hacc := EqA.better hcand ha
      have hr2 : racc2 l width (rtab l width) (posn (plcs l (l.length + 1)) k) e acc' = better (rcand l width (rtab l width) (posn (plcs l (l.length + 1)) k) e) acc' := by
        rw [racc2_no hlast]
        unfold racc1
        rw [if_pos ⟨by omega, by omega⟩]
      by_cases h1 : kindAt l e = 1
      · rw [inner_hard hn (by rw [hE]; exact hw) hok (by rw [hE]; exact h1), rinner_stop (by omega) hw' ⟨by omega, h1⟩, hr2]
        exact hacc
      · rw [inner_on hn (by rw [hE]; exact hw) hok (by rw [hE]; exact h1), rinner_on (by omega) hw' (fun h => h1 h.2), hr2]
        have hne : e ≠ l.length := fun h => by
          subst h; rcases kind_len l with h2 | h2 <;> contradiction
        have := loop_eq hS hw1 hL d (n + 1) _ _ (by omega) (by omega) (by rw [hsucc]; omega) hacc
        rw [hsucc] at this
        exact this
    · have hw' : ¬ wAt l (posn (plcs l (l.length + 1)) k) e ≤ width := hw
      rw [inner_full hn (by rw [hE]; exact hw), rinner_full (by omega) hw']
      exact ha
theorem entry_eq (hS : Small l) (hw1 : 2 ≤ width) {k : Nat} (hk : k ≤ (plcs l (l.length + 1)).length) (hL : Later l width k) :
    EqA (plcs l (l.length + 1)) ((tabOf l width).getD k zB) (rinner l width (rtab l width) (posn (plcs l (l.length + 1)) k) (posn (plcs l (l.length + 1)) k) zB) := by
  rw [tab_entry hk]
  have hle := posn_le hk
  have hw0 : wAt l (posn (plcs l (l.length + 1)) k) (posn (plcs l (l.length + 1)) k) = 0 := by unfold wAt; rw [Nat.sub_self]; rfl
  rw [rinner_on hle (by rw [hw0]; omega) (by omega)]
  have hr1 : racc1 l width (rtab l width) (posn (plcs l (l.length + 1)) k) (posn (plcs l (l.length + 1)) k) zB = zB := racc1_no (by omega)
  by_cases h : posn (plcs l (l.length + 1)) k = l.length
  · have hN : ¬ k < (plcs l (l.length + 1)).length := fun hlt => by
      have := posn_lt hlt
      have := (plcs_le hlt).1
      omega
    have hl : lastB l (posn (plcs l (l.length + 1)) k) (posn (plcs l (l.length + 1)) k) = true := by
      unfold lastB; rw [decide_eq_true h, decide_eq_true h.symm]; rfl
    have hf : fullTo l (plcs l (l.length + 1)) k l.length = 0 := by unfold fullTo; rw [h, Nat.sub_self]; rfl
    rw [inner_end hN, rinner_end (by omega), endly_yes (by rw [hf]; omega)]
    unfold racc2
    rw [if_pos hl, hr1]
    refine EqA.better ⟨?_, rfl, rfl, fun _ => .inl ⟨rfl, rfl⟩⟩ ⟨rfl, rfl, rfl, fun h => by cases h⟩
    simp only [rend, hf, hw0]
  · have hl : lastB l (posn (plcs l (l.length + 1)) k) (posn (plcs l (l.length + 1)) k) = false := by
      unfold lastB; rw [decide_eq_false h]; rfl
    rw [racc2_no hl, hr1]
    exact loop_eq hS hw1 hL ((plcs l (l.length + 1)).length - k) k zB zB (by omega) (Nat.le_refl _) (by omega) ⟨rfl, rfl, rfl, fun h => by cases h⟩
theorem later (hS : Small l) (hw1 : 2 ≤ width) : ∀ (d k : Nat), k + d = (plcs l (l.length + 1)).length → Later l width k
  | 0, k, h => fun j h1 h2 => by omega
  | d + 1, k, h => fun j h1 h2 => by
    have ih := later hS hw1 d (k + 1) (by omega)
    by_cases hj : j = k + 1
    · subst hj
      have he := entry_eq hS hw1 (k := k + 1) (by omega) ih
      rw [rt_entry (posn_le (by omega))]
      exact ⟨he.bad, he.places⟩
    · exact ih j (by omega) h2
end
end Go.SX.Plain
/- The program's way and the document's are the same; the places. No program here. -/
namespace Go.SX.Plain
def rwGo (ct : List Rb) : Nat → Int → List Int
  | 0, _ => []
  | k + 1, x => if 0 < x then x :: rwGo ct k (ct.getD x.toNat zR).next else []
def rfar (n : Nat) (x : Int) : Nat := if 0 < x then n + 1 - x.toNat else 0
def rway (n : Nat) (ct : List Rb) (x : Int) : List Int := rwGo ct (rfar n x) x
structure RNx (n : Nat) (x : Int) : Prop where
  out : x = 0 ∨ ∃ m : Nat, x = m ∧ 0 < m ∧ m ≤ n
theorem RNx.next {n : Nat} {ct : List Rb} {m : Nat} (hg : ∀ j, GdR n j (ct.getD j zR)) (h0 : 0 < m) (hm : m ≤ n) : RNx n (ct.getD m zR).next ∧ rfar n (ct.getD m zR).next < rfar n (m : Int) := by
  have hx := (hg m).n0
  have e1 : rfar n (m : Int) = n + 1 - m := by unfold rfar; rw [if_pos (by omega)]; omega
  rw [e1]
  rcases hx with hx | ⟨q, h1, h2, h3⟩
  · rw [hx]; exact ⟨⟨.inl rfl⟩, by unfold rfar; simp; omega⟩
  · rw [h1]; exact ⟨⟨.inr ⟨q, rfl, by omega, h3⟩⟩, by unfold rfar; rw [if_pos (by omega)]; omega⟩
def rwayL (l : List Part) (width : Int) : List Int := rway l.length (rtab l width) ((rtab l width).getD 0 zR).next
def rwrapOut (l : List Part) (width : Int) : List (Int × Int) := (rwayL l width).map fun x => (placeP (l.map pcOf) x.toNat, (kindsP (l.map pcOf)).getD x.toNat 0)
def rwrapL (s : ByteArray) (width : Int) : List (Int × Int) := if checkN s.size width = 0 then rwrapOut (parts s) width else []
def rwrapB (s : ByteArray) (width : Int) : Int := if checkN s.size width = 0 then ((rtab (parts s) width).getD 0 zR).bad else 0
def routTo (l : List Pc) (i : Nat) : List (Int × Int) := ((List.range i).filter fun i => decide (0 < i) && decide (0 < (kindsP l).getD i 0)).map fun i => (placeP l i, (kindsP l).getD i 0)
section
variable {l : List Part} {width : Int}
end
inductive Chn : Int → List Clu → Prop
  | nil {x : Int} : Chn x []
  | cons {x : Int} {c : Clu} {l : List Clu} (hx : c.frm = x) (h : Chn c.to l) : Chn x (c :: l)
theorem remGo_chn (l a : List Int) : ∀ (k f t : Nat), Chn (f : Int) (remGo l a k f t)
  | 0, f, t => Chn.cons (c := (gAt l a f t).c) rfl .nil
  | k + 1, f, t => by
    simp only [remGo]
    split
    · split
      · exact remGo_chn l a k f (t + 1)
      · exact Chn.cons (c := (gAt l a f t).c) rfl (remGo_chn l a k t (t + 1))
    · exact Chn.cons (c := (gAt l a f t).c) rfl .nil
theorem Chn.at {x : Int} {l : List Clu} (h : Chn x l) (d : Clu) : ∀ i, i + 1 < l.length → (l.getD (i + 1) d).frm = (l.getD i d).to := by
  induction h with
  | nil => intro i hi; simp at hi
  | @cons x c l hx h ih =>
    intro i hi
    cases i with
    | zero =>
      cases h with
      | nil => simp at hi
      | cons hx2 _ => exact hx2
    | succ i => exact ih i (by simpa using hi)
theorem clusters_chn (s : ByteArray) : Chn 0 (clusters s) := by
  rw [clusters_rem]
  split
  · exact remGo_chn _ _ _ 0 1
  · exact .nil
theorem parts_chn (s : ByteArray) {i : Nat} (h0 : 0 < i) (hi : i < (parts s).length) : ((parts s).getD i dPart).c.frm = ((parts s).getD (i - 1) dPart).c.to := by
  have hlen : (parts s).length = (clusters s).length := by simp [parts]
  have e : ∀ j, j < (clusters s).length → ((parts s).getD j dPart).c = (clusters s).getD j ⟨0, 0, 0, 0, 0⟩ := fun j hj => by
    simp [parts, List.getD_eq_getElem?_getD, hj]; rfl
  rw [e i (by omega), e (i - 1) (by omega)]
  have := (clusters_chn s).at ⟨0, 0, 0, 0, 0⟩ (i - 1) (by omega)
  rwa [show i - 1 + 1 = i by omega] at this
end Go.SX.Plain
/- The lines of a way, told plainly. No program here. -/
namespace Go.SX.Plain
def brkAt (l : List Part) (p : Nat) : Int × Int := ((l.getD (p - 1) dPart).c.to, kindAt l p)
def lnL (l : List Part) : List Nat → List (Int × Int) → Nat → Option (List (List Part) × Bool)
  | [], way, frm => some ([l.drop frm], way.isEmpty)
  | p :: P, way, frm =>
    if way.head? = some (brkAt l p) then (lnL l P way.tail p).map fun x => ((l.drop frm).take (p - frm) :: x.1, x.2)
    else if kindAt l p = 1 then none else lnL l P way frm
def lnW (l : List Part) (way : List (Int × Int)) : Option (List (List Part) × Bool) := lnL l (plcs l (l.length + 1)) way 0
def linesL (s : ByteArray) (way : List (Int × Int)) : List (List Part) := ((lnW (parts s) way).map (·.1)).getD []
def linesB (s : ByteArray) (way : List (Int × Int)) : Bool := ((lnW (parts s) way).map (·.2)).getD false
section
variable {l : List Part} {P : List Nat} {way : List (Int × Int)} {k n frm : Nat}
theorem drop_cons_getD {α : Type} {P : List α} {k : Nat} (d : α) (h : k < P.length) : P.drop k = P.getD k d :: P.drop (k + 1) := by
  rw [List.drop_eq_getElem_cons h]
  simp [List.getD_eq_getElem?_getD, h]
theorem head_drop {x : Int × Int} : (way.drop n).head? = some x ↔ n < way.length ∧ way.getD n (0, 0) = x := by
  rw [List.head?_drop]
  constructor
  · intro h
    obtain ⟨h1, h2⟩ := List.getElem?_eq_some_iff.1 h
    exact ⟨h1, by simp [List.getD_eq_getElem?_getD, h1, h2]⟩
  · rintro ⟨h1, h2⟩
    rw [← h2]
    simp [List.getD_eq_getElem?_getD, h1]
theorem lnL_yes (hk : k < P.length) (hn : n < way.length) (he : way.getD n (0, 0) = brkAt l (P.getD k 0)) :
    lnL l (P.drop k) (way.drop n) frm = (lnL l (P.drop (k + 1)) (way.drop (n + 1)) (P.getD k 0)).map fun x => ((l.drop frm).take (P.getD k 0 - frm) :: x.1, x.2) := by
  rw [drop_cons_getD 0 hk, lnL, if_pos (head_drop.2 ⟨hn, he⟩), List.tail_drop]
theorem lnL_hard (hk : k < P.length) (hno : ¬ (n < way.length ∧ way.getD n (0, 0) = brkAt l (P.getD k 0))) (h1 : kindAt l (P.getD k 0) = 1) : lnL l (P.drop k) (way.drop n) frm = none := by
  rw [drop_cons_getD 0 hk, lnL, if_neg (fun h => hno (head_drop.1 h)), if_pos h1]
theorem lnL_on (hk : k < P.length) (hno : ¬ (n < way.length ∧ way.getD n (0, 0) = brkAt l (P.getD k 0))) (h1 : ¬ kindAt l (P.getD k 0) = 1) : lnL l (P.drop k) (way.drop n) frm = lnL l (P.drop (k + 1)) (way.drop n) frm := by
  rw [drop_cons_getD 0 hk, lnL, if_neg (fun h => hno (head_drop.1 h)), if_neg h1]
theorem lnL_end (hk : ¬ k < P.length) (hn : n ≤ way.length) : lnL l (P.drop k) (way.drop n) frm = some ([l.drop frm], decide (n = way.length)) := by
  rw [List.drop_eq_nil_of_le (by omega), lnL]
  congr 2
  rw [Bool.eq_iff_iff, List.isEmpty_iff, decide_eq_true_iff, List.drop_eq_nil_iff]
  omega
end
def trimGo (l : List Part) : Nat → Nat
  | 0 => 0
  | n + 1 => if (l.getD n dPart).blank = true then trimGo l n else n + 1
def trimN (l : List Part) : Nat := trimGo l (if 0 < l.length ∧ (l.getD (l.length - 1) dPart).fin = true then l.length - 1 else l.length)
def trimL (l : List Part) : List Part := l.take (trimN l)
theorem trimGo_le (l : List Part) : ∀ n, trimGo l n ≤ n
  | 0 => Nat.le_refl _
  | n + 1 => by
    simp only [trimGo]
    split
    · have := trimGo_le l n; omega
    · omega
def sumC (l : List Part) (k : Nat) : Int := ((l.take k).map fun p => p.c.cells).sum
def cellsL (l : List Part) : Int := sumC (trimL l) (trimL l).length
theorem sumC_succ {l : List Part} {k : Nat} (h : k < l.length) : sumC l (k + 1) = sumC l k + (l.getD k dPart).c.cells := by
  unfold sumC
  rw [List.take_succ_eq_append_getElem h, List.map_append, List.sum_append]
  simp [List.getD_eq_getElem?_getD, h]
theorem sumC_bd {l : List Part} (hs : Small l) : ∀ k, 0 ≤ sumC l k ∧ sumC l k ≤ 2 * k
  | 0 => ⟨Int.le_refl _, Int.le_refl _⟩
  | k + 1 => by
    have ih := sumC_bd hs k
    by_cases h : k < l.length
    · rw [sumC_succ h]
      have := hs.at k
      omega
    · have : sumC l (k + 1) = sumC l k := by
        unfold sumC
        rw [List.take_of_length_le (by omega), List.take_of_length_le (by omega)]
      omega
theorem Small.take {l : List Part} (h : Small l) (n : Nat) : Small (l.take n) := fun p hp => h p (List.mem_of_mem_take hp)
theorem Small.drop {l : List Part} (h : Small l) (n : Nat) : Small (l.drop n) := fun p hp => h p (List.mem_of_mem_drop hp)
theorem trimN_le (l : List Part) : trimN l ≤ l.length := by
  unfold trimN
  split
  · have := trimGo_le l (l.length - 1)
    omega
  · exact trimGo_le l l.length
theorem trimL_len (l : List Part) : (trimL l).length = trimN l := by
  unfold trimL
  have := trimN_le l
  simp; omega
theorem trimL_small {l : List Part} (h : Small l) : Small (trimL l) := h.take _
end Go.SX.Plain
/- The badness of a way, told plainly. No program here. -/
namespace Go.SX.Plain
theorem lnL_way (l : List Part) : ∀ (P : List Nat) (way : List (Int × Int)) (frm : Nat) (x : List (List Part) × Bool), lnL l P way frm = some x → x.2 = true → way.length ≤ P.length ∧ x.1.length = way.length + 1
  | [], way, frm, x, h, hx => by
    simp only [lnL, Option.some.injEq] at h
    subst h
    simp only [List.isEmpty_iff] at hx
    subst hx
    simp
  | p :: P, way, frm, x, h, hx => by
    simp only [lnL] at h
    split at h
    · rename_i hh
      obtain ⟨y, hy, rfl⟩ := Option.map_eq_some_iff.1 h
      obtain ⟨h1, h2⟩ := lnL_way l P _ _ y hy hx
      cases way with
      | nil => simp at hh
      | cons a way =>
        simp only [List.tail_cons] at h1 h2
        simp only [List.length_cons]
        omega
    · split at h
      · cases h
      · obtain ⟨h1, h2⟩ := lnL_way l P _ _ x h hx
        simp only [List.length_cons]
        omega
theorem lnL_sub (l : List Part) : ∀ (P : List Nat) (way : List (Int × Int)) (frm : Nat) (x : List (List Part) × Bool), lnL l P way frm = some x → ∀ y ∈ x.1, ∃ a b, y = (l.drop a).take b
  | [], way, frm, x, h, y, hy => by
    simp only [lnL, Option.some.injEq] at h
    subst h
    simp only [List.mem_singleton] at hy
    subst hy
    exact ⟨frm, (l.drop frm).length, by rw [List.take_length]⟩
  | p :: P, way, frm, x, h, y, hy => by
    simp only [lnL] at h
    split at h
    · obtain ⟨z, hz, rfl⟩ := Option.map_eq_some_iff.1 h
      rcases List.mem_cons.1 hy with rfl | hy
      · exact ⟨_, _, rfl⟩
      · exact lnL_sub l P _ _ z hz y hy
    · split at h
      · cases h
      · exact lnL_sub l P _ _ x h y hy
theorem linesL_sub (s : ByteArray) (way : List (Int × Int)) : ∀ y ∈ linesL s way, ∃ a b, y = ((parts s).drop a).take b := by
  intro y hy
  unfold linesL at hy
  cases h : lnW (parts s) way with
  | none => rw [h] at hy; simp at hy
  | some x =>
    rw [h] at hy
    exact lnL_sub _ _ _ _ x h y (by simpa using hy)
theorem linesL_small (s : ByteArray) (way : List (Int × Int)) : ∀ y ∈ linesL s way, Small y ∧ y.length ≤ s.size := by
  intro y hy
  obtain ⟨a, b, rfl⟩ := linesL_sub s way y hy
  refine ⟨((parts_small s).drop a).take b, ?_⟩
  have := parts_len s
  simp only [List.length_take, List.length_drop]
  omega
theorem linesB_way {s : ByteArray} {way : List (Int × Int)} (h : linesB s way = true) : way.length ≤ s.size + 1 ∧ (linesL s way).length = way.length + 1 := by
  unfold linesB at h
  unfold linesL
  cases hx : lnW (parts s) way with
  | none => rw [hx] at h; cases h
  | some x =>
    rw [hx] at h
    obtain ⟨h1, h2⟩ := lnL_way _ _ _ _ x hx h
    have h3 := plcs_len (parts s) ((parts s).length + 1)
    have h4 := parts_len s
    exact ⟨by omega, h2⟩
theorem getD_memL {α : Type} {l : List α} {k : Nat} (d : α) (h : k < l.length) : l.getD k d ∈ l := by
  simp [List.getD_eq_getElem?_getD, h]
def sqS (L : List (List Part)) (width : Int) (k : Nat) : Int := ((L.take k).map fun x => (width - cellsL x) * (width - cellsL x)).sum
theorem sqS_succ {L : List (List Part)} {width : Int} {k : Nat} (h : k < L.length) : sqS L width (k + 1) = sqS L width k + (width - cellsL (L.getD k [])) * (width - cellsL (L.getD k [])) := by
  unfold sqS
  rw [List.take_succ_eq_append_getElem h, List.map_append, List.sum_append]
  simp [List.getD_eq_getElem?_getD, h]
def cutS (way : List (Int × Int)) (k : Nat) : Int := ((way.take k).map fun b => if b.2 = 3 then 1048576 else 0).sum
theorem cutS_succ {way : List (Int × Int)} {k : Nat} (h : k < way.length) : cutS way (k + 1) = cutS way k + if (way.getD k (0, 0)).2 = 3 then 1048576 else 0 := by
  unfold cutS
  rw [List.take_succ_eq_append_getElem h, List.map_append, List.sum_append]
  simp [List.getD_eq_getElem?_getD, h]
theorem cutS_bd (way : List (Int × Int)) : ∀ k, 0 ≤ cutS way k ∧ cutS way k ≤ 1048576 * k
  | 0 => ⟨Int.le_refl _, Int.le_refl _⟩
  | k + 1 => by
    have ih := cutS_bd way k
    by_cases h : k < way.length
    · rw [cutS_succ h]
      split <;> omega
    · have : cutS way (k + 1) = cutS way k := by
        unfold cutS
        rw [List.take_of_length_le (by omega), List.take_of_length_le (by omega)]
      omega
theorem sqS_bd {L : List (List Part)} {width : Int} (hw : width ≤ 200) (hL : ∀ y ∈ L, 0 ≤ cellsL y) : ∀ k, (∀ i, i < k → i < L.length → cellsL (L.getD i []) ≤ width) → 0 ≤ sqS L width k ∧ sqS L width k ≤ 40000 * k
  | 0, _ => ⟨Int.le_refl _, Int.le_refl _⟩
  | k + 1, hc => by
    have ih := sqS_bd hw hL k fun i hi => hc i (by omega)
    by_cases h : k < L.length
    · rw [sqS_succ h]
      have h1 := hL _ (getD_memL [] h)
      have h2 := hc k (by omega) h
      have h3 := sq_bd (x := width - cellsL (L.getD k [])) (y := 200) (by omega) (by omega)
      omega
    · have : sqS L width (k + 1) = sqS L width k := by
        unfold sqS
        rw [List.take_of_length_le (by omega), List.take_of_length_le (by omega)]
      omega
theorem cellsL_bd {l : List Part} (h : Small l) : 0 ≤ cellsL l ∧ cellsL l ≤ 2 * l.length := by
  have h1 := sumC_bd (trimL_small h) (trimL l).length
  have h2 : (trimL l).length ≤ l.length := by rw [trimL_len]; exact trimN_le l
  unfold cellsL
  omega
def fitAll (L : List (List Part)) (width : Int) : Bool := L.all fun x => decide (cellsL x ≤ width)
def badE (s : ByteArray) (width : Int) (way : List (Int × Int)) : Int := if checkN s.size width ≠ 0 then checkN s.size width else if linesB s way = false then 1 else if fitAll (linesL s way) width = true then 0 else 35
def badN (s : ByteArray) (width : Int) (way : List (Int × Int)) : Int := if badE s width way = 0 then sqS (linesL s way) width (linesL s way).length + cutS way way.length else 0
theorem fitAll_yes {L : List (List Part)} {width : Int} (h : ∀ i, i < L.length → cellsL (L.getD i []) ≤ width) : fitAll L width = true := by
  unfold fitAll
  rw [List.all_eq_true]
  intro x hx
  obtain ⟨i, hi, rfl⟩ := List.mem_iff_getElem.1 hx
  have := h i hi
  simp [List.getD_eq_getElem?_getD, hi] at this
  simpa using this
theorem fitAll_no {L : List (List Part)} {width : Int} {i : Nat} (hi : i < L.length) (h : ¬ cellsL (L.getD i []) ≤ width) : fitAll L width = false := by
  rw [Bool.eq_false_iff]
  intro hc
  unfold fitAll at hc
  rw [List.all_eq_true] at hc
  exact h (by simpa using hc _ (getD_memL [] hi))
end Go.SX.Plain
/- The document's reading of a way, and the lines that it makes. No program here. -/
namespace Go.SX.Plain
def rdL (l : List Part) : List Nat → List (Int × Int) → Option (List Nat × Bool)
  | [], way => some ([], way.isEmpty)
  | p :: P, way =>
    if kindAt l p ≠ 0 ∧ way.head? = some (brkAt l p) then (rdL l P way.tail).map fun x => (p :: x.1, x.2)
    else if kindAt l p = 1 then none else rdL l P way
def segs (l : List Part) : List Nat → Nat → List (List Part)
  | [], frm => [l.drop frm]
  | p :: P, frm => (l.drop frm).take (p - frm) :: segs l P p
def upTo (l : List Part) : List Nat := (List.range (l.length + 1)).filter fun i => decide (0 < i)
def rdW (l : List Part) (way : List (Int × Int)) : Option (List Nat × Bool) := rdL l (upTo l) way
section
variable {l : List Part} {i k n : Nat} {way : List (Int × Int)}
end
end Go.SX.Plain
/- A line out of a text's parts. No program here. -/
namespace Go.SX.Plain
def segOf (l : List Part) (frm to : Nat) : List Part := (l.drop frm).take (to - frm)
theorem segOf_len {l : List Part} {frm to : Nat} (h : to ≤ l.length) : (segOf l frm to).length = to - frm := by
  unfold segOf
  simp only [List.length_take, List.length_drop]
  omega
end Go.SX.Plain
/- No way that fits is better than what the table tells. No program here. -/
namespace Go.SX.Plain
section
variable (l : List Part) (width : Int)
def wBad : Nat → List Nat → Int
  | k, [] => (width - fullTo l (plcs l (l.length + 1)) k l.length) * (width - fullTo l (plcs l (l.length + 1)) k l.length)
  | k, n :: Q => (width - fullTo l (plcs l (l.length + 1)) k ((plcs l (l.length + 1)).getD n 0)) * (width - fullTo l (plcs l (l.length + 1)) k ((plcs l (l.length + 1)).getD n 0)) + wBad (n + 1) Q + (if kindAt l ((plcs l (l.length + 1)).getD n 0) = 3 then 1048576 else 0)
def wFit : Nat → List Nat → Prop
  | k, [] => fullTo l (plcs l (l.length + 1)) k l.length ≤ width
  | k, n :: Q => fullTo l (plcs l (l.length + 1)) k ((plcs l (l.length + 1)).getD n 0) ≤ width ∧ wFit (n + 1) Q
def noHard (k n : Nat) : Prop := ∀ j, k ≤ j → j < n → kindAt l ((plcs l (l.length + 1)).getD j 0) ≠ 1
def wOk : Nat → List Nat → Prop
  | k, [] => k ≤ (plcs l (l.length + 1)).length ∧ noHard l k (plcs l (l.length + 1)).length
  | k, n :: Q => k ≤ n ∧ n < (plcs l (l.length + 1)).length ∧ noHard l k n ∧ wOk (n + 1) Q
end
def nxN (N : Nat) (b : Bst) : Int := if b.next = -1 then N else b.next
structure Le3 (N : Nat) (a b : Bst) : Prop where
  out : a.bad < b.bad ∨ (a.bad = b.bad ∧ (a.places < b.places ∨ (a.places = b.places ∧ nxN N a ≤ nxN N b)))
theorem Le3.refl (N : Nat) (a : Bst) : Le3 N a a := ⟨.inr ⟨rfl, .inr ⟨rfl, Int.le_refl _⟩⟩⟩
theorem Le3.trans {N : Nat} {a b c : Bst} (h : Le3 N a b) (h' : Le3 N b c) : Le3 N a c := by
  obtain ⟨h⟩ := h
  obtain ⟨h'⟩ := h'
  exact ⟨by omega⟩
theorem better_le {N : Nat} {w acc : Bst} (h : acc.ok = true → nxN N acc < nxN N w) : Le3 N (better w acc) w ∧ (acc.ok = true → Le3 N (better w acc) acc) ∧ (acc.ok = true ∨ better w acc = w) ∧ nxN N (better w acc) ≤ nxN N w := by
  unfold better
  by_cases hb : before w acc = true
  · rw [if_pos hb]
    refine ⟨Le3.refl _ _, fun ho => ?_, .inr rfl, Int.le_refl _⟩
    unfold before at hb
    rw [if_neg (by rw [ho]; decide)] at hb
    have := h ho
    split at hb
    · simp only [decide_eq_true_eq] at hb
      exact ⟨.inl hb⟩
    · simp only [decide_eq_true_eq] at hb
      exact ⟨.inr ⟨by omega, .inl hb⟩⟩
  · rw [if_neg hb]
    have ho : acc.ok = true := by
      unfold before at hb
      split at hb
      · exact absurd rfl hb
      · rename_i h2
        simpa using h2
    have h2 := h ho
    refine ⟨?_, fun _ => Le3.refl _ _, .inl ho, by omega⟩
    unfold before at hb
    rw [if_neg (by rw [ho]; decide)] at hb
    split at hb
    · simp only [decide_eq_true_eq] at hb
      exact ⟨.inl (by omega)⟩
    · simp only [decide_eq_true_eq] at hb
      exact ⟨.inr ⟨by omega, by omega⟩⟩
section
variable {l : List Part} {width : Int} {ws : List Bst}
abbrev endc (l : List Part) (width : Int) (k : Nat) : Bst := ⟨(width - fullTo l (plcs l (l.length + 1)) k l.length) * (width - fullTo l (plcs l (l.length + 1)) k l.length), 0, -1, true⟩
theorem fullTo_mono (hS : Small l) {k t e : Nat} (h : t ≤ e) : fullTo l (plcs l (l.length + 1)) k t ≤ fullTo l (plcs l (l.length + 1)) k e := wAt_mono (f := posn (plcs l (l.length + 1)) k) hS h
theorem nx_cand {k n : Nat} : nxN (plcs l (l.length + 1)).length (cand l (plcs l (l.length + 1)) width ws k n) = n := by
  unfold nxN cand
  rw [if_neg (by simp only; omega)]
theorem nx_endc {k : Nat} : nxN (plcs l (l.length + 1)).length (endc l width k) = (plcs l (l.length + 1)).length := by
  unfold nxN
  rw [if_pos rfl]
theorem inn_min (hS : Small l) {k : Nat} (hok : ∀ j, k < j → j ≤ (plcs l (l.length + 1)).length → (ws.getD j zB).ok = true) : ∀ (d n : Nat) (acc : Bst), n + d = (plcs l (l.length + 1)).length → k ≤ n → (acc.ok = true → nxN (plcs l (l.length + 1)).length acc < n) →
    (acc.ok = true → Le3 (plcs l (l.length + 1)).length (inner l (plcs l (l.length + 1)) width ws k n acc) acc) ∧
    (∀ m, n ≤ m → m < (plcs l (l.length + 1)).length → noHard l n m → fullTo l (plcs l (l.length + 1)) k ((plcs l (l.length + 1)).getD m 0) ≤ width → Le3 (plcs l (l.length + 1)).length (inner l (plcs l (l.length + 1)) width ws k n acc) (cand l (plcs l (l.length + 1)) width ws k m)) ∧
    (noHard l n (plcs l (l.length + 1)).length → fullTo l (plcs l (l.length + 1)) k l.length ≤ width → Le3 (plcs l (l.length + 1)).length (inner l (plcs l (l.length + 1)) width ws k n acc) (endc l width k))
  | 0, n, acc, hd, hk, hacc => by
    have hn : n = (plcs l (l.length + 1)).length := by omega
    rw [inner_end (by omega)]
    by_cases hf : fullTo l (plcs l (l.length + 1)) k l.length ≤ width
    · rw [endly_yes hf]
      have hb := better_le (N := (plcs l (l.length + 1)).length) (w := endc l width k) (acc := acc) fun h => by rw [nx_endc]; have := hacc h; omega
      exact ⟨hb.2.1, fun m h1 h2 => by omega, fun _ _ => hb.1⟩
    · rw [endly_no hf]
      exact ⟨fun _ => Le3.refl _ _, fun m h1 h2 => by omega, fun _ h => absurd h hf⟩
  | d + 1, n, acc, hd, hk, hacc => by
    have hn : n < (plcs l (l.length + 1)).length := by omega
    have hple : (plcs l (l.length + 1)).getD n 0 ≤ l.length := Nat.le_of_lt_succ (plcs_le hn).1
    have hpm : ∀ m, n ≤ m → m < (plcs l (l.length + 1)).length → (plcs l (l.length + 1)).getD n 0 ≤ (plcs l (l.length + 1)).getD m 0 := fun m h1 h2 => by
      by_cases he : n = m
      · rw [he]; exact Nat.le_refl _
      · exact Nat.le_of_lt (sorted_lt (plcs_sorted _ _) (by omega) h2)
    by_cases hf : fullTo l (plcs l (l.length + 1)) k ((plcs l (l.length + 1)).getD n 0) ≤ width
    · have ho := hok (n + 1) (by omega) (by omega)
      have hb := better_le (N := (plcs l (l.length + 1)).length) (w := cand l (plcs l (l.length + 1)) width ws k n) (acc := acc) fun h => by rw [nx_cand]; exact hacc h
      by_cases hk1 : kindAt l ((plcs l (l.length + 1)).getD n 0) = 1
      · rw [inner_hard hn hf ho hk1]
        refine ⟨hb.2.1, fun m h1 h2 h3 h4 => ?_, fun h3 _ => absurd hk1 (h3 n (Nat.le_refl _) hn)⟩
        by_cases he : n = m
        · subst he; exact hb.1
        · exact absurd hk1 (h3 n (Nat.le_refl _) (by omega))
      · rw [inner_on hn hf ho hk1]
        obtain ⟨i1, i2, i3⟩ := inn_min hS hok d (n + 1) (better (cand l (plcs l (l.length + 1)) width ws k n) acc) (by omega) (by omega) fun _ => by have := hb.2.2.2; rw [nx_cand] at this; omega
        have hbo := better_ok (w := cand l (plcs l (l.length + 1)) width ws k n) (acc := acc) rfl
        refine ⟨fun h => (i1 hbo).trans (hb.2.1 h), fun m h1 h2 h3 h4 => ?_, fun h3 h4 => i3 (fun j h5 h6 => h3 j (by omega) h6) h4⟩
        by_cases he : n = m
        · subst he; exact (i1 hbo).trans hb.1
        · exact i2 m (by omega) h2 (fun j h5 h6 => h3 j (by omega) h6) h4
    · rw [inner_full hn hf]
      exact ⟨fun _ => Le3.refl _ _, fun m h1 h2 h3 h4 => absurd (Int.le_trans (fullTo_mono hS (hpm m h1 h2)) h4) hf, fun _ h4 => absurd (Int.le_trans (fullTo_mono hS hple) h4) hf⟩
structure Att (l : List Part) (width : Int) (ws : List Bst) (k : Nat) (b : Bst) : Prop where
  out : (b = endc l width k ∧ noHard l k (plcs l (l.length + 1)).length ∧ fullTo l (plcs l (l.length + 1)) k l.length ≤ width) ∨
    ∃ m, b = cand l (plcs l (l.length + 1)) width ws k m ∧ k ≤ m ∧ m < (plcs l (l.length + 1)).length ∧ noHard l k m ∧ fullTo l (plcs l (l.length + 1)) k ((plcs l (l.length + 1)).getD m 0) ≤ width
theorem better_or (w acc : Bst) : better w acc = w ∨ better w acc = acc := by
  unfold better
  split
  · exact .inl rfl
  · exact .inr rfl
theorem inn_att {k : Nat} (hok : ∀ j, k < j → j ≤ (plcs l (l.length + 1)).length → (ws.getD j zB).ok = true) : ∀ (d n : Nat) (acc : Bst), n + d = (plcs l (l.length + 1)).length → k ≤ n → noHard l k n → (acc.ok = true → Att l width ws k acc) →
    ((inner l (plcs l (l.length + 1)) width ws k n acc).ok = true → Att l width ws k (inner l (plcs l (l.length + 1)) width ws k n acc))
  | 0, n, acc, hd, hk, hh, hacc => by
    rw [inner_end (by omega)]
    by_cases hf : fullTo l (plcs l (l.length + 1)) k l.length ≤ width
    · rw [endly_yes hf]
      intro ho
      rcases better_or (endc l width k) acc with h | h
      · have hh2 : noHard l k (plcs l (l.length + 1)).length := by rw [show (plcs l (l.length + 1)).length = n by omega]; exact hh
        exact ⟨.inl ⟨h, hh2, hf⟩⟩
      · rw [show better ⟨(width - fullTo l (plcs l (l.length + 1)) k l.length) * (width - fullTo l (plcs l (l.length + 1)) k l.length), 0, -1, true⟩ acc = acc from h] at ho ⊢
        exact hacc ho
    · rw [endly_no hf]
      exact hacc
  | d + 1, n, acc, hd, hk, hh, hacc => by
    have hn : n < (plcs l (l.length + 1)).length := by omega
    by_cases hf : fullTo l (plcs l (l.length + 1)) k ((plcs l (l.length + 1)).getD n 0) ≤ width
    · have ho := hok (n + 1) (by omega) (by omega)
      have hb : (better (cand l (plcs l (l.length + 1)) width ws k n) acc).ok = true → Att l width ws k (better (cand l (plcs l (l.length + 1)) width ws k n) acc) := fun ho2 => by
        rcases better_or (cand l (plcs l (l.length + 1)) width ws k n) acc with h | h
        · rw [h]
          exact ⟨.inr ⟨n, rfl, hk, hn, hh, hf⟩⟩
        · rw [h] at ho2 ⊢
          exact hacc ho2
      by_cases hk1 : kindAt l ((plcs l (l.length + 1)).getD n 0) = 1
      · rw [inner_hard hn hf ho hk1]
        exact hb
      · rw [inner_on hn hf ho hk1]
        refine inn_att hok d (n + 1) _ (by omega) (by omega) (fun j h1 h2 => ?_) hb
        by_cases he : j = n
        · subst he; exact hk1
        · exact hh j h1 (by omega)
    · rw [inner_full hn hf]
      exact hacc
end
section
variable {l : List Part} {width : Int}
abbrev En (l : List Part) (width : Int) (k : Nat) : Bst := (tabOf l width).getD k zB
theorem en_ok (hS : Small l) (hw1 : 2 ≤ width) {k : Nat} (hk : k ≤ (plcs l (l.length + 1)).length) : (En l width k).ok = true := tabOf_ok hS hw1 hk
theorem en_att (hS : Small l) (hw1 : 2 ≤ width) {k : Nat} (hk : k ≤ (plcs l (l.length + 1)).length) : Att l width (tabOf l width) k (En l width k) := by
  have h := tab_entry (l := l) (width := width) hk
  have ho := en_ok hS hw1 hk
  unfold En at ho ⊢
  rw [h] at ho ⊢
  exact inn_att (fun j _ h2 => en_ok hS hw1 h2) ((plcs l (l.length + 1)).length - k) k zB (by omega) (Nat.le_refl _) (fun j h1 h2 => by omega) (fun h => by cases h) ho
theorem en_min (hS : Small l) (hw1 : 2 ≤ width) {k : Nat} (hk : k ≤ (plcs l (l.length + 1)).length) :
    (∀ m, k ≤ m → m < (plcs l (l.length + 1)).length → noHard l k m → fullTo l (plcs l (l.length + 1)) k ((plcs l (l.length + 1)).getD m 0) ≤ width → Le3 (plcs l (l.length + 1)).length (En l width k) (cand l (plcs l (l.length + 1)) width (tabOf l width) k m)) ∧
    (noHard l k (plcs l (l.length + 1)).length → fullTo l (plcs l (l.length + 1)) k l.length ≤ width → Le3 (plcs l (l.length + 1)).length (En l width k) (endc l width k)) := by
  have h := tab_entry (l := l) (width := width) hk
  unfold En
  rw [h]
  exact (inn_min hS (fun j _ h2 => en_ok hS hw1 h2) ((plcs l (l.length + 1)).length - k) k zB (by omega) (Nat.le_refl _) (fun h => by cases h)).2
def wB (l : List Part) (width : Int) (k : Nat) (Q : List Nat) : Bst := ⟨wBad l width k Q, Q.length, match Q with | [] => -1 | n :: _ => n, true⟩
theorem opt (hS : Small l) (hw1 : 2 ≤ width) : ∀ (Q : List Nat) (k : Nat), wOk l k Q → wFit l width k Q → Le3 (plcs l (l.length + 1)).length (En l width k) (wB l width k Q)
  | [], k, ho, hf => (en_min hS hw1 ho.1).2 ho.2 hf
  | n :: Q, k, ho, hf => by
    obtain ⟨h1, h2, h3, h4⟩ := ho
    have ih := (opt hS hw1 Q (n + 1) h4 hf.2).out
    refine ((en_min hS hw1 (by omega)).1 n h1 h2 h3 hf.1).trans ?_
    constructor
    unfold cand wB wBad nxN
    unfold wB En at ih
    simp only [List.length_cons, if_neg (show ¬ ((n : Int) = -1) by omega)] at ih ⊢
    omega
def wF (l : List Part) (width : Int) (k : Nat) : List Nat := wayOf (plcs l (l.length + 1)).length (tabOf l width) (En l width k).next
theorem wF_step (hS : Small l) (hw1 : 2 ≤ width) (hw2 : width ≤ 200) {k : Nat} (hk : k ≤ (plcs l (l.length + 1)).length) :
    (wF l width k = [] ∧ En l width k = endc l width k ∧ noHard l k (plcs l (l.length + 1)).length ∧ fullTo l (plcs l (l.length + 1)) k l.length ≤ width) ∨
    ∃ m, wF l width k = m :: wF l width (m + 1) ∧ En l width k = cand l (plcs l (l.length + 1)) width (tabOf l width) k m ∧ k ≤ m ∧ m < (plcs l (l.length + 1)).length ∧ noHard l k m ∧ fullTo l (plcs l (l.length + 1)) k ((plcs l (l.length + 1)).getD m 0) ≤ width := by
  rcases (en_att hS hw1 hk).out with ⟨h1, h2, h3⟩ | ⟨m, h1, h2, h3, h4, h5⟩
  · refine .inl ⟨?_, h1, h2, h3⟩
    unfold wF
    rw [h1]
    exact wayOf_end _ _ (by simp only; omega)
  · refine .inr ⟨m, ?_, h1, h2, h3, h4, h5⟩
    unfold wF
    rw [h1]
    exact wayOf_step (fun j => tabOf_gd hS hw2 j) (en_ok hS hw1 (by omega)) h3
theorem first (hS : Small l) (hw1 : 2 ≤ width) (hw2 : width ≤ 200) : ∀ (Q : List Nat) (k : Nat), wOk l k Q → wFit l width k Q → wBad l width k Q = (En l width k).bad → (Q.length : Int) = (En l width k).places →
    ∀ i, i < Q.length → (∀ j, j < i → Q.getD j 0 = (wF l width k).getD j 0) → Q.getD i 0 ≠ (wF l width k).getD i 0 → (wF l width k).getD i 0 < Q.getD i 0
  | [], k, _, _, _, _, i, hi, _, _ => by simp at hi
  | n :: Q, k, ho, hf, hb, hl, i, hi, he, hne => by
    have hop := (opt hS hw1 (n :: Q) k ho hf).out
    obtain ⟨h1, h2, h3, h4⟩ := ho
    have hnx : nxN (plcs l (l.length + 1)).length (En l width k) ≤ n := by
      have : nxN (plcs l (l.length + 1)).length (wB l width k (n :: Q)) = n := by
        unfold nxN wB
        rw [if_neg (by simp only; omega)]
      rw [this] at hop
      unfold wB at hop
      simp only at hop
      omega
    rcases wF_step hS hw1 hw2 (show k ≤ (plcs l (l.length + 1)).length by omega) with ⟨q1, q2, q3, q4⟩ | ⟨m, q1, q2, q3, q4, q5, q6⟩
    · rw [q2, nx_endc] at hnx
      omega
    · rw [q2, nx_cand] at hnx
      rw [q1] at he hne ⊢
      cases i with
      | zero =>
        simp only [List.getD_cons_zero] at hne ⊢
        omega
      | succ i =>
        have hnm := he 0 (by omega)
        simp only [List.getD_cons_zero] at hnm
        subst hnm
        simp only [List.getD_cons_succ] at hne ⊢
        refine first hS hw1 hw2 Q (n + 1) h4 hf.2 ?_ ?_ i (by simpa using hi) (fun j hj => by have := he (j + 1) (by omega); simpa only [List.getD_cons_succ] using this) hne
        · rw [q2] at hb
          unfold wBad cand at hb
          simp only at hb
          show _ = ((tabOf l width).getD (n + 1) zB).bad
          omega
        · rw [q2] at hl
          unfold cand at hl
          simp only [List.length_cons] at hl
          show _ = ((tabOf l width).getD (n + 1) zB).places
          omega
end
end Go.SX.Plain
/- A way's lines, and what they cost. No program here. -/
namespace Go.SX.Plain
section
variable {l : List Part} {f e : Nat}
end
structure MonoTo (l : List Part) : Prop where
  out : ∀ i j, i < j → j < l.length → (l.getD i dPart).c.to < (l.getD j dPart).c.to
theorem parts_mono (s : ByteArray) : MonoTo (parts s) := by
  have hcl : ∀ i, i < (parts s).length → ((parts s).getD i dPart).c.frm < ((parts s).getD i dPart).c.to := fun i hi => by
    have hlen : (parts s).length = (clusters s).length := by simp [parts]
    have e : ((parts s).getD i dPart).c = (clusters s)[i]'(by omega) := by
      simp [parts, List.getD_eq_getElem?_getD, show i < (clusters s).length by omega]; rfl
    rw [e]
    exact (clusters_ok s _ (List.getElem_mem _)).first.2.2.2.1
  have step : ∀ i, i + 1 < (parts s).length → ((parts s).getD i dPart).c.to < ((parts s).getD (i + 1) dPart).c.to := fun i hi => by
    have h1 := parts_chn s (i := i + 1) (by omega) hi
    have h2 := hcl (i + 1) hi
    rw [Nat.add_sub_cancel] at h1
    omega
  refine ⟨fun i j hij hj => ?_⟩
  induction j with
  | zero => omega
  | succ j ih =>
    have := step j hj
    by_cases h : i = j
    · subst h; exact this
    · have := ih (by omega) (by omega)
      omega
section
variable {l : List Part} {width : Int}
abbrev brk (l : List Part) (n : Nat) : Int × Int := brkAt l ((plcs l (l.length + 1)).getD n 0)
theorem brk_lt (hM : MonoTo l) {k m : Nat} (h : k < m) (hm : m < (plcs l (l.length + 1)).length) : (brk l k).1 < (brk l m).1 := by
  have h1 := plcs_le (l := l) (k := l.length + 1) (i := k) (by omega)
  have h2 := plcs_le (l := l) (k := l.length + 1) (i := m) hm
  have h3 := sorted_lt (plcs_sorted l (l.length + 1)) h hm
  exact hM.out _ _ (by omega) (by omega)
theorem lnL_of (hM : MonoTo l) : ∀ (d k : Nat) (Q : List Nat) (frm : Nat), k + d = (plcs l (l.length + 1)).length → wOk l k Q →
    lnL l ((plcs l (l.length + 1)).drop k) (Q.map (brk l)) frm = some (segs l (Q.map fun n => (plcs l (l.length + 1)).getD n 0) frm, true)
  | 0, k, [], frm, hd, ho => by
    rw [List.drop_eq_nil_of_le (by omega)]
    rfl
  | 0, k, n :: Q, frm, hd, ho => by
    have := ho.1
    have := ho.2.1
    omega
  | d + 1, k, [], frm, hd, ho => by
    rw [drop_cons_getD 0 (by omega), lnL, if_neg (by simp), if_neg (ho.2 k (Nat.le_refl _) (by omega))]
    exact lnL_of hM d (k + 1) [] frm (by omega) ⟨by omega, fun j h1 h2 => ho.2 j (by omega) h2⟩
  | d + 1, k, m :: Q, frm, hd, ho => by
    obtain ⟨h1, h2, h3, h4⟩ := ho
    rw [drop_cons_getD 0 (by omega), lnL]
    by_cases hm : k = m
    · subst hm
      rw [if_pos (show (List.map (brk l) (k :: Q)).head? = some (brkAt l ((plcs l (l.length + 1)).getD k 0)) from rfl), List.map_cons, List.tail_cons, lnL_of hM d (k + 1) Q _ (by omega) h4]
      rfl
    · have hne := brk_lt hM (k := k) (m := m) (by omega) h2
      rw [if_neg (by
        simp only [List.map_cons, List.head?_cons, Option.some.injEq]
        intro hc
        have : (brk l m).1 = (brk l k).1 := by rw [hc]
        omega), if_neg (h3 k (Nat.le_refl _) (by omega))]
      exact lnL_of hM d (k + 1) (m :: Q) frm (by omega) ⟨by omega, h2, fun j h5 h6 => h3 j (by omega) h6, h4⟩
theorem lnW_of (hM : MonoTo l) {Q : List Nat} (ho : wOk l 0 Q) : lnW l (Q.map (brk l)) = some (segs l (Q.map fun n => (plcs l (l.length + 1)).getD n 0) 0, true) := by
  unfold lnW
  exact lnL_of hM (plcs l (l.length + 1)).length 0 Q 0 (by omega) ho
theorem segs_len (l : List Part) : ∀ (P : List Nat) (frm : Nat), (segs l P frm).length = P.length + 1
  | [], _ => rfl
  | p :: P, frm => by simp [segs, segs_len l P p]
theorem wOk_lt : ∀ (Q : List Nat) (k : Nat), wOk l k Q → ∀ n ∈ Q, n < (plcs l (l.length + 1)).length
  | [], _, _, n, h => by cases h
  | m :: Q, k, ho, n, h => by
    rcases List.mem_cons.1 h with rfl | h
    · exact ho.2.1
    · exact wOk_lt Q _ ho.2.2.2 n h
theorem wOk_filter (g : Nat → Bool) (hg : ∀ j, j < (plcs l (l.length + 1)).length → kindAt l ((plcs l (l.length + 1)).getD j 0) = 1 → g j = true) : ∀ (d k : Nat), k + d = (plcs l (l.length + 1)).length → wOk l k ((List.range' k d).filter g)
  | 0, k, hd => ⟨by omega, fun j h1 h2 => by omega⟩
  | d + 1, k, hd => by
    have ih := wOk_filter g hg d (k + 1) (by omega)
    rw [List.range'_succ]
    by_cases h : g k = true
    · rw [List.filter_cons_of_pos h]
      exact ⟨Nat.le_refl _, by omega, fun j h1 h2 => by omega, ih⟩
    · rw [List.filter_cons_of_neg h]
      have hk : kindAt l ((plcs l (l.length + 1)).getD k 0) ≠ 1 := fun hc => h (hg k (by omega) hc)
      revert ih
      cases (List.range' (k + 1) d).filter g with
      | nil =>
        intro ih
        refine ⟨by omega, fun j h1 h2 => ?_⟩
        by_cases he : j = k
        · subst he; exact hk
        · exact ih.2 j (by omega) h2
      | cons m Q =>
        intro ih
        obtain ⟨h1, h2, h3, h4⟩ := ih
        refine ⟨by omega, h2, fun j h5 h6 => ?_, h4⟩
        by_cases he : j = k
        · subst he; exact hk
        · exact h3 j (by omega) h6
end
section
variable {s : ByteArray} {width : Int}
theorem lines_of {Q : List Nat} (ho : wOk (parts s) 0 Q) : linesL s (Q.map (brk (parts s))) = segs (parts s) (Q.map fun n => (plcs (parts s) ((parts s).length + 1)).getD n 0) 0 ∧ linesB s (Q.map (brk (parts s))) = true := by
  have h := lnW_of (parts_mono s) ho
  unfold linesL linesB
  rw [h]
  exact ⟨rfl, rfl⟩
end
end Go.SX.Plain
/- The document's reading of a way, line by line. No program here. -/
namespace Go.SX.Plain
def frO (R : List Nat) (i : Nat) : Nat := if i = 0 then 0 else R.getD (i - 1) 0
def toO (l : List Part) (R : List Nat) (i : Nat) : Nat := if i < R.length then R.getD i 0 else l.length
theorem segs_get (l : List Part) : ∀ (R : List Nat) (frm i : Nat), i ≤ R.length → (segs l R frm).getD i [] = segOf l (if i = 0 then frm else R.getD (i - 1) 0) (toO l R i)
  | [], frm, i, h => by
    obtain rfl : i = 0 := by simpa using h
    simp only [segs, toO, segOf, List.length_nil, Nat.lt_irrefl, if_false, if_true]
    rw [List.take_of_length_le (by simp)]
    rfl
  | p :: R, frm, 0, h => by
    simp [segs, toO, segOf]
  | p :: R, frm, i + 1, h => by
    have ih := segs_get l R p i (by simpa using h)
    simp only [segs, List.getD_cons_succ]
    rw [ih]
    have h1 : toO l (p :: R) (i + 1) = toO l R i := by
      unfold toO
      simp only [List.length_cons, List.getD_cons_succ]
      by_cases hi : i < R.length
      · rw [if_pos hi, if_pos (by omega)]
      · rw [if_neg hi, if_neg (by omega)]
    rw [h1, if_neg (show ¬ i + 1 = 0 by omega), Nat.add_sub_cancel]
    congr 1
    cases i with
    | zero => rfl
    | succ i => simp
structure ReadR (s : ByteArray) (way : List (Int × Int)) (R : List Nat) : Prop where
  rd : rdW (parts s) way = some (R, true)
  lines : linesL s way = segs (parts s) R 0
  len : R.length = way.length
  frm : ∀ i, i ≤ R.length → frO R i ≤ toO (parts s) R i
  to : ∀ i, toO (parts s) R i ≤ (parts s).length
  get : ∀ i, i ≤ R.length → (linesL s way).getD i [] = segOf (parts s) (frO R i) (toO (parts s) R i)
end Go.SX.Plain
/- The signs of a text, plainly. No program here. -/
namespace Go.SX.Plain
def sgns (s : ByteArray) : List Sgn := (signsFrom s 0).map fun p => sgnAt s p.1
def runes (s : ByteArray) : List Int := (sgns s).map (·.rune)
theorem signsGo_len (s : ByteArray) : ∀ (k pos : Nat), s.size - pos ≤ k → (signsGo s k pos).length ≤ s.size - pos
  | 0, _, _ => by simp [signsGo]
  | k + 1, pos, h => by
    simp only [signsGo]
    split
    · have := width_pos s pos
      have ih := signsGo_len s k (pos + (Utf8.decode s pos).2) (by omega)
      simp only [List.length_cons]; omega
    · simp
theorem sgns_len (s : ByteArray) : (sgns s).length ≤ s.size := by
  simp only [sgns, signsFrom, List.length_map]
  exact signsGo_len s _ _ (by omega)
end Go.SX.Plain
/- Places by signs, cuts by signs. No program here. -/
namespace Go.SX.Plain
def sgN (s : ByteArray) : Nat := (rl s).length
def posS (s : ByteArray) (i : Nat) : Nat := ((al s).getD i 0).toNat
theorem sgns_len' (s : ByteArray) : (sgns s).length = sgN s := by simp [sgns, sgN, rl]
theorem sgN_le (s : ByteArray) : sgN s ≤ s.size := by rw [← sgns_len']; exact sgns_len s
theorem al_pos (s : ByteArray) (i : Nat) : (al s).getD i 0 = (posS s i : Nat) := by
  have := al_bd s i
  unfold posS
  omega
theorem posS_le (s : ByteArray) (i : Nat) : posS s i ≤ s.size := by
  have := al_bd s i
  unfold posS
  omega
theorem posS_zero (s : ByteArray) : posS s 0 = 0 := by
  unfold posS
  rw [al_next s (Nat.zero_le _), List.drop_zero]
  by_cases h : 0 < s.size
  · rw [signsFrom_step h]
    rfl
  · rw [signsFrom_end h]
    simp only [nextPos]
    omega
theorem posS_mono (s : ByteArray) {i j : Nat} (h : i ≤ j) (hj : j ≤ sgN s) : posS s i ≤ posS s j := by
  have := al_mono s h hj
  have h1 := al_pos s i
  have h2 := al_pos s j
  omega
theorem posS_end (s : ByteArray) : posS s (sgN s) = s.size := by
  have h : sgN s = (signsFrom s 0).length := rl_len s
  unfold posS
  rw [h, al_next s (Nat.le_refl _), List.drop_length]
  simp only [nextPos]
  omega
theorem sgns_at (s : ByteArray) {i : Nat} (h : i < sgN s) : (sgns s).getD i ⟨0, 0, 0, false⟩ = sgnAt s (posS s i) ∧ posS s i < s.size ∧ posS s (i + 1) = posS s i + (Utf8.decode s (posS s i)).2 := by
  obtain ⟨p, h1, h2, h3, h4⟩ := rl_dec s h
  have e1 := al_pos s i
  have e2 := al_pos s (i + 1)
  have hp : posS s i = p := by omega
  refine ⟨?_, by omega, by rw [hp]; omega⟩
  have hl : i < (signsFrom s 0).length := by rw [← rl_len]; exact h
  have := al_get s hl
  have h5 : ((signsFrom s 0)[i]).1 = p := by omega
  rw [hp, ← h5]
  simp [sgns, List.getD_eq_getElem?_getD, hl]
def cutE (s : ByteArray) (f t : Int) : Int := if 0 ≤ f ∧ f ≤ t ∧ t ≤ sgN s then 0 else 1
def cutT (s : ByteArray) (f t : Int) : ByteArray := if 0 ≤ f ∧ f ≤ t ∧ t ≤ sgN s then s.extract (posS s f.toNat) (posS s t.toNat) else ByteArray.empty
def plE (s : ByteArray) (a : Int) : Int := if 0 ≤ a ∧ a ≤ sgN s then 0 else 1
def plN (s : ByteArray) (a : Int) : Int := if 0 ≤ a ∧ a ≤ sgN s then (posS s a.toNat : Nat) else 0
end Go.SX.Plain
/- The texts of a way's lines. No program here. -/
namespace Go.SX.Plain
def textL (s : ByteArray) (y : List Part) : ByteArray := if (trimL y).length = 0 then ByteArray.empty else s.extract ((trimL y).getD 0 dPart).c.at.toNat (((trimL y).getD ((trimL y).length - 1) dPart).c.at + ((trimL y).getD ((trimL y).length - 1) dPart).c.len).toNat
def linesE (s : ByteArray) (way : List (Int × Int)) : Int := if 4096 < s.size then 3 else if linesB s way = false then 1 else 0
def linesT (s : ByteArray) (way : List (Int × Int)) : List ByteArray := if linesE s way = 0 then (linesL s way).map (textL s) else []
theorem part_cl (s : ByteArray) {i : Nat} (h : i < (parts s).length) : ∃ f t : Nat, f < t ∧ t ≤ sgN s ∧ ((parts s).getD i dPart).c.frm = f ∧ ((parts s).getD i dPart).c.to = t ∧ ((parts s).getD i dPart).c.at = (posS s f : Nat) ∧ ((parts s).getD i dPart).c.at + ((parts s).getD i dPart).c.len = (posS s t : Nat) := by
  have hlen : (parts s).length = (clusters s).length := by simp [parts]
  have e : ((parts s).getD i dPart).c = (clusters s)[i]'(by omega) := by
    simp [parts, List.getD_eq_getElem?_getD, show i < (clusters s).length by omega]; rfl
  obtain ⟨f, t, h1, h2, h3⟩ := (clusters_ok s _ (List.getElem_mem (show i < (clusters s).length by omega))).ex
  rw [e, h3]
  refine ⟨f, t, h1, h2, rfl, rfl, ?_, ?_⟩
  · exact al_pos s f
  · show (al s).getD f 0 + ((al s).getD t 0 - (al s).getD f 0) = _
    rw [← al_pos s t]
    omega
theorem part_ord (s : ByteArray) {i j : Nat} (h : i ≤ j) (hj : j < (parts s).length) : ((parts s).getD i dPart).c.frm < ((parts s).getD j dPart).c.to ∧ 0 ≤ ((parts s).getD i dPart).c.at ∧ ((parts s).getD i dPart).c.at ≤ ((parts s).getD j dPart).c.at + ((parts s).getD j dPart).c.len ∧ ((parts s).getD j dPart).c.at + ((parts s).getD j dPart).c.len ≤ s.size := by
  obtain ⟨f, t, a1, a2, a3, a4, a5, a6⟩ := part_cl s (i := i) (by omega)
  obtain ⟨f', t', b1, b2, b3, b4, b5, b6⟩ := part_cl s (i := j) hj
  have htt : t ≤ t' := by
    by_cases he : i = j
    · subst he; omega
    · have := (parts_mono s).out i j (by omega) hj
      omega
  have hp := posS_mono s (i := f) (j := t') (by omega) b2
  have hq := posS_le s t'
  exact ⟨by omega, by omega, by omega, by omega⟩
theorem trim_get {l y : List Part} {a b : Nat} (hy : y = (l.drop a).take b) {k : Nat} (hk : k < (trimL y).length) : (trimL y).getD k dPart = l.getD (a + k) dPart ∧ a + k < l.length := by
  have h1 : k < trimN y := by rw [← trimL_len]; exact hk
  have h2 := trimN_le y
  have h3 : y.length = min b (l.length - a) := by rw [hy]; simp
  refine ⟨?_, by omega⟩
  unfold trimL
  subst hy
  simp only [List.getD_eq_getElem?_getD, List.getElem?_take, List.getElem?_drop]
  rw [if_pos h1, if_pos (by omega)]
end Go.SX.Plain
/- No way is better: said of breaks. No program here. -/
namespace Go.SX.Plain
section
variable {l : List Part} {width : Int}
theorem map_getD (f : Nat → Int × Int) (Q : List Nat) {i : Nat} (h : i < Q.length) : (Q.map f).getD i (0, 0) = f (Q.getD i 0) := by
  simp [List.getD_eq_getElem?_getD, h]
theorem getD_memN {Q : List Nat} {i : Nat} (h : i < Q.length) : Q.getD i 0 ∈ Q := by
  simp [List.getD_eq_getElem?_getD, h]
structure NoLess (s : ByteArray) (width : Int) (other : List (Int × Int)) : Prop where
  cases : (badE s width other = 35 ∧ badN s width other = 0) ∨ badE s width other = 0
  least : badE s width other = 0 → ((tabOf (parts s) width).getD 0 zB).bad ≤ badN s width other
  few : badE s width other = 0 → badN s width other = ((tabOf (parts s) width).getD 0 zB).bad → (wrapOut (parts s) width).length ≤ other.length
  first : badE s width other = 0 → badN s width other = ((tabOf (parts s) width).getD 0 zB).bad → other.length = (wrapOut (parts s) width).length → ∀ i, i < (wrapOut (parts s) width).length →
    (∀ j, j < i → other.getD j (0, 0) = (wrapOut (parts s) width).getD j (0, 0)) → other.getD i (0, 0) ≠ (wrapOut (parts s) width).getD i (0, 0) → ((wrapOut (parts s) width).getD i (0, 0)).1 < (other.getD i (0, 0)).1
theorem choice {s : ByteArray} (g : Nat → Bool) (hg : ∀ j, j < (plcs (parts s) ((parts s).length + 1)).length → kindAt (parts s) ((plcs (parts s) ((parts s).length + 1)).getD j 0) = 1 → g j = true) :
    wOk (parts s) 0 ((List.range (plcs (parts s) ((parts s).length + 1)).length).filter g) ∧
    ((List.range (plcs (parts s) ((parts s).length + 1)).length).filter g).map (fun i => (outL (parts s) ((parts s).length + 1)).getD i (0, 0)) = ((List.range (plcs (parts s) ((parts s).length + 1)).length).filter g).map (brk (parts s)) := by
  constructor
  · rw [List.range_eq_range']
    exact wOk_filter g hg _ 0 (Nat.zero_add _)
  · refine List.map_congr_left fun i hi => ?_
    have := List.mem_range.1 (List.mem_filter.1 hi).1
    exact outL_getD this
end
end Go.SX.Plain
/- Stable sorting, told plainly. No program here. -/
namespace Go.SX.Plain
section
variable {α : Type}
def insR (lt : α → α → Bool) (x : α) : List α → List α
  | [] => [x]
  | y :: l => if (y :: l).all (lt x) = true then x :: y :: l else y :: insR lt x l
def mrg (lt : α → α → Bool) (A B : List α) : List α := B.foldl (fun acc x => insR lt x acc) A
def isort (lt : α → α → Bool) (l : List α) : List α := mrg lt [] l
def Srt (lt : α → α → Bool) (l : List α) : Prop := l.Pairwise fun x y => lt y x = false
structure Ord (lt : α → α → Bool) : Prop where
  asym : ∀ x y, lt x y = true → lt y x = false
  trans : ∀ x y z, lt x y = true → lt z y = false → lt x z = true
section
variable {lt : α → α → Bool}
theorem insR_all {x : α} {l : List α} (h : ∀ z ∈ l, lt x z = true) : insR lt x l = x :: l := by
  cases l with
  | nil => rfl
  | cons y l =>
    rw [insR, if_pos (List.all_eq_true.2 h)]
theorem insR_right {x : α} {B : List α} (h : ∀ z ∈ B, lt x z = true) : ∀ X : List α, insR lt x (X ++ B) = insR lt x X ++ B
  | [] => by
    rw [List.nil_append, insR_all h]
    rfl
  | y :: X => by
    rw [List.cons_append, insR, insR]
    have e : ((y :: (X ++ B)).all (lt x)) = ((y :: X).all (lt x)) := by
      have hB : B.all (lt x) = true := List.all_eq_true.2 h
      rw [List.all_cons, List.all_append, hB, Bool.and_true, List.all_cons]
    rw [e]
    split
    · rfl
    · rw [insR_right h X]
      rfl
theorem insR_left {x : α} {Z : List α} : ∀ (M : List α), (∀ z ∈ M, lt x z = false) → insR lt x (M ++ Z) = M ++ insR lt x Z
  | [], _ => rfl
  | y :: M, h => by
    have hy := h y List.mem_cons_self
    rw [List.cons_append, insR, if_neg (by rw [List.all_cons, hy, Bool.false_and]; decide), insR_left M fun z hz => h z (List.mem_cons_of_mem _ hz)]
    rfl
theorem insR_split {x : α} {p q : List α} (hp : ∀ z ∈ p, lt x z = false) (hq : ∀ z ∈ q, lt x z = true) : insR lt x (p ++ q) = p ++ x :: q := by
  rw [insR_left p hp, insR_all hq]
theorem insR_len (x : α) : ∀ l : List α, (insR lt x l).length = l.length + 1
  | [] => rfl
  | y :: l => by
    rw [insR]
    split
    · rfl
    · simp [insR_len x l]
theorem mem_insR {x z : α} : ∀ {l : List α}, z ∈ insR lt x l ↔ z = x ∨ z ∈ l
  | [] => by simp [insR]
  | y :: l => by
    rw [insR]
    split
    · simp
    · rw [List.mem_cons, mem_insR, List.mem_cons]
      constructor
      · rintro (h | h | h)
        · exact .inr (.inl h)
        · exact .inl h
        · exact .inr (.inr h)
      · rintro (h | h | h)
        · exact .inr (.inl h)
        · exact .inl h
        · exact .inr (.inr h)
theorem mrg_cons (A : List α) (x : α) (B : List α) : mrg lt A (x :: B) = mrg lt (insR lt x A) B := rfl
theorem mrg_app (A B C : List α) : mrg lt A (B ++ C) = mrg lt (mrg lt A B) C := List.foldl_append ..
theorem mrg_len : ∀ (B A : List α), (mrg lt A B).length = A.length + B.length
  | [], A => rfl
  | x :: B, A => by
    rw [mrg_cons, mrg_len B, insR_len, List.length_cons]
    omega
theorem mem_mrg {z : α} : ∀ {B A : List α}, z ∈ mrg lt A B ↔ z ∈ A ∨ z ∈ B
  | [], A => by simp [mrg]
  | x :: B, A => by
    rw [mrg_cons, mem_mrg, mem_insR, List.mem_cons]
    constructor
    · rintro ((h | h) | h)
      · exact .inr (.inl h)
      · exact .inl h
      · exact .inr (.inr h)
    · rintro (h | h | h)
      · exact .inl (.inr h)
      · exact .inl (.inl h)
      · exact .inr h
theorem mrg_right {B2 : List α} : ∀ (B1 A1 : List α), (∀ y ∈ B1, ∀ z ∈ B2, lt y z = true) → mrg lt (A1 ++ B2) B1 = mrg lt A1 B1 ++ B2
  | [], _, _ => rfl
  | y :: B1, A1, h => by
    rw [mrg_cons, mrg_cons, insR_right (h y List.mem_cons_self), mrg_right B1 _ fun x hx => h x (List.mem_cons_of_mem _ hx)]
theorem mrg_left {M : List α} : ∀ (B Z : List α), (∀ y ∈ B, ∀ z ∈ M, lt y z = false) → mrg lt (M ++ Z) B = M ++ mrg lt Z B
  | [], _, _ => rfl
  | y :: B, Z, h => by
    rw [mrg_cons, mrg_cons, insR_left M (h y List.mem_cons_self), mrg_left B _ fun x hx => h x (List.mem_cons_of_mem _ hx)]
theorem mrg_split {A1 A2 B1 B2 : List α} (h1 : ∀ y ∈ B1, ∀ z ∈ A2, lt y z = true) (h2 : ∀ y ∈ B2, ∀ z ∈ A1, lt y z = false) (h3 : ∀ y ∈ B2, ∀ z ∈ B1, lt y z = false) :
    mrg lt (A1 ++ A2) (B1 ++ B2) = mrg lt A1 B1 ++ mrg lt A2 B2 := by
  rw [mrg_app, mrg_right B1 A1 h1, mrg_left B2 A2]
  intro y hy z hz
  rcases mem_mrg.1 hz with hz | hz
  · exact h2 y hy z hz
  · exact h3 y hy z hz
theorem isort_self : ∀ (l acc : List α), Srt lt (acc ++ l) → mrg lt acc l = acc ++ l
  | [], acc, _ => by simp [mrg]
  | x :: l, acc, h => by
    have hx : ∀ z ∈ acc, lt x z = false := fun z hz => (List.pairwise_append.1 h).2.2 z hz x List.mem_cons_self
    have e : insR lt x acc = acc ++ [x] := by
      have := insR_split (lt := lt) (x := x) (p := acc) (q := []) hx (fun z hz => by cases hz)
      simpa using this
    rw [mrg_cons, e, isort_self l (acc ++ [x]) (by rw [List.append_assoc]; exact h), List.append_assoc]
    rfl
theorem isort_srt {l : List α} (h : Srt lt l) : isort lt l = l := isort_self l [] h
end
section
variable {lt : α → α → Bool} (O : Ord lt)
include O
end
end
end Go.SX.Plain
/- Swaps, rotations, merges in place, told plainly. No program here. -/
namespace Go.SX.Plain
section
variable {α : Type} {d : α}
theorem getD_mid (A : List α) (x : α) (B : List α) {i : Nat} (h : i = A.length) : (A ++ x :: B).getD i d = x := by
  subst h
  simp [List.getD_eq_getElem?_getD]
def seg (l : List α) (a b : Nat) : List α := (l.drop a).take (b - a)
theorem seg_len {l : List α} {a b : Nat} (h : b ≤ l.length) : (seg l a b).length = b - a := by
  unfold seg
  simp only [List.length_take, List.length_drop]
  omega
theorem seg_app (l : List α) {a b c : Nat} (h1 : a ≤ b) (h2 : b ≤ c) : seg l a b ++ seg l b c = seg l a c := by
  unfold seg
  rw [show c - a = (b - a) + (c - b) by omega, List.take_add, List.drop_drop, show a + (b - a) = b by omega]
theorem seg_zero (l : List α) (b : Nat) : seg l 0 b = l.take b := by simp [seg]
theorem seg_end (l : List α) (a : Nat) : seg l a l.length = l.drop a := by
  unfold seg
  rw [List.take_of_length_le (by simp)]
theorem take_seg_drop (l : List α) {a b : Nat} (h : a ≤ b) (hb : b ≤ l.length) : l.take a ++ seg l a b ++ l.drop b = l := by
  rw [← seg_zero, seg_app l (Nat.zero_le _) h, ← seg_end, seg_app l (Nat.zero_le _) hb, seg_end]
  rfl
theorem seg_get (l : List α) {a b i : Nat} (h : i < b - a) : (seg l a b).getD i d = l.getD (a + i) d := by
  unfold seg
  simp only [List.getD_eq_getElem?_getD, List.getElem?_take, List.getElem?_drop, if_pos h]
theorem seg_mid (p X r : List α) {a b : Nat} (ha : a = p.length) (hb : b = p.length + X.length) : seg (p ++ (X ++ r)) a b = X := by
  subst ha hb
  unfold seg
  rw [List.drop_left, show p.length + X.length - p.length = X.length by omega, List.take_left]
def swpR (l : List α) (a b n : Nat) : List α := l.take a ++ (seg l b (b + n) ++ (seg l (a + n) b ++ (seg l a (a + n) ++ l.drop (b + n))))
theorem swpR_eq (p X q Y r : List α) {a b n : Nat} (ha : a = p.length) (hX : X.length = n) (hY : Y.length = n) (hb : b = p.length + X.length + q.length) : swpR (p ++ (X ++ (q ++ (Y ++ r)))) a b n = p ++ (Y ++ (q ++ (X ++ r))) := by
  unfold swpR
  have e1 : (p ++ (X ++ (q ++ (Y ++ r)))).take a = p := by rw [ha]; exact List.take_left
  have e2 : seg (p ++ (X ++ (q ++ (Y ++ r)))) b (b + n) = Y := by
    rw [show p ++ (X ++ (q ++ (Y ++ r))) = (p ++ X ++ q) ++ (Y ++ r) by simp]
    exact seg_mid _ Y r (by simp; omega) (by simp; omega)
  have e3 : seg (p ++ (X ++ (q ++ (Y ++ r)))) (a + n) b = q := by
    rw [show p ++ (X ++ (q ++ (Y ++ r))) = (p ++ X) ++ (q ++ (Y ++ r)) by simp]
    exact seg_mid _ q _ (by simp; omega) (by simp; omega)
  have e4 : seg (p ++ (X ++ (q ++ (Y ++ r)))) a (a + n) = X := seg_mid p X _ ha (by omega)
  have e5 : (p ++ (X ++ (q ++ (Y ++ r)))).drop (b + n) = r := by
    rw [show p ++ (X ++ (q ++ (Y ++ r))) = (p ++ X ++ q ++ Y) ++ r by simp]
    rw [List.drop_left' (by simp; omega)]
  rw [e1, e2, e3, e4, e5]
def swpK (l : List α) (a b n k : Nat) : List α := l.take a ++ ((seg l b (b + k) ++ seg l (a + k) (a + n)) ++ (seg l (a + n) b ++ ((seg l a (a + k) ++ seg l (b + k) (b + n)) ++ l.drop (b + n))))
theorem seg_head (l : List α) {a b : Nat} (h : a < b) (hb : b ≤ l.length) : seg l a b = l.getD a d :: seg l (a + 1) b := by
  rw [← seg_app l (a := a) (b := a + 1) (c := b) (by omega) (by omega)]
  have : seg l a (a + 1) = [l.getD a d] := by
    unfold seg
    have ha : a < l.length := by omega
    rw [show a + 1 - a = 1 by omega, List.drop_eq_getElem_cons ha]
    show [l[a]] = _
    simp [List.getD_eq_getElem?_getD, ha]
  rw [this]
  rfl
def rotR (l : List α) (a m b : Nat) : List α := l.take a ++ (seg l m b ++ (seg l a m ++ l.drop b))
structure Rot (l : List α) (a m b : Nat) (pre U V post : List α) : Prop where
  goal : rotR l a m b = pre ++ (V ++ (U ++ post))
  at_m : pre.length + U.length = m
  u : 0 < U.length
  v : 0 < V.length
  len : pre.length + U.length + V.length + post.length = l.length
theorem Rot.start (l : List α) {a m b : Nat} (h1 : a < m) (h2 : m < b) (h3 : b ≤ l.length) : Rot l a m b (l.take a) (seg l a m) (seg l m b) (l.drop b) :=
  ⟨rfl, by rw [seg_len (by omega), List.length_take]; omega, by rw [seg_len (by omega)]; omega, by rw [seg_len h3]; omega, by rw [seg_len (by omega), seg_len h3, List.length_take, List.length_drop]; omega⟩
theorem Rot.cur (l : List α) {a m b : Nat} (h1 : a < m) (h2 : m < b) (h3 : b ≤ l.length) : l.take a ++ (seg l a m ++ (seg l m b ++ l.drop b)) = l := by
  have := take_seg_drop l (a := a) (b := b) (by omega) h3
  rw [← seg_app l (a := a) (b := m) (c := b) (by omega) (by omega)] at this
  simpa using this
section
variable {l pre U V post : List α} {a m b : Nat}
theorem Rot.more (h : Rot l a m b pre U V post) (hg : V.length < U.length) : Rot l a m b (pre ++ V) (U.drop V.length) (U.take V.length) post ∧
    swpR (pre ++ (U ++ (V ++ post))) (m - U.length) m V.length = (pre ++ V) ++ (U.drop V.length ++ (U.take V.length ++ post)) := by
  have hm := h.at_m
  have hv := h.v
  have hlen := h.len
  refine ⟨⟨?_, ?_, ?_, ?_, ?_⟩, ?_⟩
  · rw [h.goal, List.append_assoc, ← List.append_assoc (U.take _), List.take_append_drop]
  · simp; omega
  · simp; omega
  · simp; omega
  · simp; omega
  · have e : pre ++ (U ++ (V ++ post)) = pre ++ (U.take V.length ++ (U.drop V.length ++ (V ++ post))) := by rw [← List.append_assoc (U.take _), List.take_append_drop]
    rw [e, swpR_eq pre (U.take V.length) (U.drop V.length) V post (by omega) (by simp; omega) rfl (by simp; omega)]
    simp
theorem Rot.less (h : Rot l a m b pre U V post) (hg : U.length < V.length) : Rot l a m b pre (V.drop (V.length - U.length)) (V.take (V.length - U.length)) (U ++ post) ∧
    swpR (pre ++ (U ++ (V ++ post))) (m - U.length) (m + V.length - U.length) U.length = pre ++ (V.drop (V.length - U.length) ++ (V.take (V.length - U.length) ++ (U ++ post))) := by
  have hm := h.at_m
  have hu := h.u
  have hlen := h.len
  refine ⟨⟨?_, ?_, ?_, ?_, ?_⟩, ?_⟩
  · rw [h.goal, ← List.append_assoc (V.take _), List.take_append_drop]
  · simp; omega
  · simp; omega
  · simp; omega
  · simp; omega
  · have e : pre ++ (U ++ (V ++ post)) = pre ++ (U ++ (V.take (V.length - U.length) ++ (V.drop (V.length - U.length) ++ post))) := by rw [← List.append_assoc (V.take _), List.take_append_drop]
    rw [e, swpR_eq pre U (V.take (V.length - U.length)) (V.drop (V.length - U.length)) post (by omega) rfl (by simp; omega) (by simp; omega)]
theorem Rot.done (h : Rot l a m b pre U V post) (hg : U.length = V.length) : swpR (pre ++ (U ++ (V ++ post))) (m - U.length) m U.length = rotR l a m b := by
  have hm := h.at_m
  have e : pre ++ (U ++ (V ++ post)) = pre ++ (U ++ ([] ++ (V ++ post))) := rfl
  rw [e, swpR_eq pre U [] V post (by omega) rfl hg.symm (by simp; omega), h.goal]
  rfl
end
end
end Go.SX.Plain
/- Merging in place by halves, told plainly. No program here. -/
namespace Go.SX.Plain
section
variable {α : Type} {d : α} {lt : α → α → Bool}
theorem Ord.le_lt (O : Ord lt) {z y x : α} (h1 : lt y z = false) (h2 : lt y x = true) : lt z x = true := by
  cases h : lt z x with
  | true => rfl
  | false =>
    have := O.trans y x z h2 h
    rw [h1] at this
    cases this
theorem Ord.le_trans (O : Ord lt) {x y z : α} (h1 : lt y x = false) (h2 : lt z y = false) : lt z x = false := by
  cases h : lt z x with
  | false => rfl
  | true =>
    have := O.le_lt h2 h
    rw [h1] at this
    cases this
theorem Ord.irrefl (O : Ord lt) (x : α) : lt x x = false := by
  cases h : lt x x with
  | false => rfl
  | true =>
    have := O.asym x x h
    rw [h] at this
    cases this
theorem seg_at {l : List α} {a b i : Nat} (h : i < (seg l a b).length) : (seg l a b)[i] = l.getD (a + i) d ∧ i < b - a := by
  have hi : i < b - a := by
    have : (seg l a b).length ≤ b - a := by unfold seg; exact List.length_take_le _ _
    omega
  refine ⟨?_, hi⟩
  have := seg_get (d := d) l (a := a) (b := b) hi
  rw [List.getD_eq_getElem?_getD, List.getElem?_eq_getElem h] at this
  exact this
theorem mem_seg {l : List α} {a b : Nat} {x : α} (h : x ∈ seg l a b) : ∃ i, a ≤ i ∧ i < b ∧ x = l.getD i d := by
  obtain ⟨i, hi, rfl⟩ := List.getElem_of_mem h
  obtain ⟨h1, h2⟩ := seg_at (d := d) hi
  exact ⟨a + i, by omega, by omega, h1⟩
theorem srt_at {l : List α} {a b : Nat} (O : Ord lt) (h : Srt lt (seg l a b)) (hb : b ≤ l.length) {i j : Nat} (hi : a ≤ i) (hij : i ≤ j) (hj : j < b) : lt (l.getD j d) (l.getD i d) = false := by
  by_cases he : i = j
  · subst he; exact O.irrefl _
  · have hl := seg_len (l := l) (a := a) hb
    have := List.pairwise_iff_getElem.1 h (i - a) (j - a) (by omega) (by omega) (by omega)
    rw [(seg_at (d := d) _).1, (seg_at (d := d) _).1, show a + (j - a) = j by omega, show a + (i - a) = i by omega] at this
    exact this
theorem srt_seg {l : List α} {a b i j : Nat} (h : Srt lt (seg l a b)) (hi : a ≤ i) (hij : i ≤ j) (hj : j ≤ b) : Srt lt (seg l i j) := by
  rw [← seg_app l (b := j) (by omega) hj, ← seg_app l hi hij] at h
  exact (List.pairwise_append.1 (List.pairwise_append.1 h).1).2.1
def symR (lt : α → α → Bool) (l : List α) (a m b : Nat) : List α := l.take a ++ (mrg lt (seg l a m) (seg l m b) ++ l.drop b)
theorem symR_eq (p X Y r : List α) {a m b : Nat} (ha : a = p.length) (hm : m = p.length + X.length) (hb : b = p.length + X.length + Y.length) : symR lt (p ++ (X ++ (Y ++ r))) a m b = p ++ (mrg lt X Y ++ r) := by
  unfold symR
  have e1 : (p ++ (X ++ (Y ++ r))).take a = p := by rw [ha]; exact List.take_left
  have e2 : seg (p ++ (X ++ (Y ++ r))) a m = X := seg_mid p X _ ha hm
  have e3 : seg (p ++ (X ++ (Y ++ r))) m b = Y := by
    rw [show p ++ (X ++ (Y ++ r)) = (p ++ X) ++ (Y ++ r) by simp]
    exact seg_mid _ Y r (by simp; omega) (by simp; omega)
  have e4 : (p ++ (X ++ (Y ++ r))).drop b = r := by
    rw [show p ++ (X ++ (Y ++ r)) = (p ++ X ++ Y) ++ r by simp, List.drop_left' (by simp; omega)]
  rw [e1, e2, e3, e4]
theorem sym_one {l : List α} {a m b i : Nat} (hm : m = a + 1) (hmi : m ≤ i) (hib : i ≤ b) (hb : b ≤ l.length) (hs : Srt lt (seg l m b)) (h1 : ∀ h, m ≤ h → h < i → lt (l.getD h d) (l.getD a d) = true) (h2 : ∀ h, i ≤ h → h < b → lt (l.getD h d) (l.getD a d) = false) :
    symR lt l a m b = l.take a ++ (seg l m i ++ l.getD a d :: (seg l i b ++ l.drop b)) := by
  unfold symR
  have e : seg l a m = [] ++ [l.getD a d] := by
    rw [hm, seg_head (d := d) l (by omega) (by omega)]
    simp [seg]
  rw [e, ← seg_app l hmi hib, mrg_split]
  · have e1 : mrg lt [] (seg l m i) = seg l m i := isort_srt (srt_seg hs (Nat.le_refl _) hmi hib)
    have e2 : mrg lt [l.getD a d] (seg l i b) = l.getD a d :: seg l i b := by
      have h := mrg_left (lt := lt) (M := [l.getD a d]) (seg l i b) [] fun y hy z hz => by
        obtain ⟨j, q1, q2, rfl⟩ := mem_seg (d := d) hy
        rw [List.mem_singleton.1 hz]
        exact h2 j q1 q2
      rw [List.append_nil] at h
      rw [h, show mrg lt [] (seg l i b) = seg l i b from isort_srt (srt_seg hs hmi hib (Nat.le_refl _))]
      rfl
    rw [e1, e2]
    simp
  · intro y hy z hz
    obtain ⟨j, q1, q2, rfl⟩ := mem_seg (d := d) hy
    rw [List.mem_singleton.1 hz]
    exact h1 j q1 q2
  · intro y _ z hz
    cases hz
  · intro y hy z hz
    rw [← seg_app l hmi hib] at hs
    exact (List.pairwise_append.1 hs).2.2 z hz y hy
theorem sym_last {l : List α} {a m b i : Nat} (hm : b = m + 1) (hai : a ≤ i) (him : i ≤ m) (hb : b ≤ l.length) (h1 : ∀ h, a ≤ h → h < i → lt (l.getD m d) (l.getD h d) = false) (h2 : ∀ h, i ≤ h → h < m → lt (l.getD m d) (l.getD h d) = true) :
    symR lt l a m b = l.take a ++ (seg l a i ++ l.getD m d :: (seg l i m ++ l.drop b)) := by
  unfold symR
  have e : seg l m b = [l.getD m d] := by
    rw [hm, seg_head (d := d) l (by omega) (by omega)]
    simp [seg]
  rw [e, ← seg_app l hai him, mrg_cons, insR_split]
  · show _ ++ ((seg l a i ++ l.getD m d :: seg l i m) ++ _) = _
    simp
  · intro z hz
    obtain ⟨j, q1, q2, rfl⟩ := mem_seg (d := d) hz
    exact h1 j q1 q2
  · intro z hz
    obtain ⟨j, q1, q2, rfl⟩ := mem_seg (d := d) hz
    exact h2 j q1 q2
structure Cut (lt : α → α → Bool) (d : α) (l : List α) (a m b mid s : Nat) : Prop where
  am : a < m
  mb : m < b
  len : b ≤ l.length
  hmid : mid = (a + b) / 2
  as' : a ≤ s
  sm : s ≤ m
  sn : s ≤ mid
  me : mid + m - s ≤ b
  lo : ∀ c, a ≤ c → c < s → mid + m - 1 - c < b → lt (l.getD (mid + m - 1 - c) d) (l.getD c d) = false
  hi : ∀ c, s ≤ c → c < m → m ≤ mid + m - 1 - c → c < mid → lt (l.getD (mid + m - 1 - c) d) (l.getD c d) = true
theorem Cut.mid (O : Ord lt) {l : List α} {a m b mid s : Nat} (h : Cut lt d l a m b mid s) (hA : Srt lt (seg l a m)) (hB : Srt lt (seg l m b)) :
    symR lt l a m b = symR lt (symR lt (rotR l s m (mid + m - s)) a s mid) mid (mid + m - s) b := by
  obtain ⟨am, mb, len, hmid, as', sm, sn, me, lo, hi⟩ := h
  have e0 : ∃ e, e = mid + m - s := ⟨_, rfl⟩
  obtain ⟨e, he⟩ := e0
  rw [← he] at me ⊢
  have hme : m ≤ e := by omega
  have r1 : rotR l s m e = l.take a ++ (seg l a s ++ (seg l m e ++ (seg l s m ++ (seg l e b ++ l.drop b)))) := by
    unfold rotR
    have q1 : l.take s = l.take a ++ seg l a s := by
      rw [← seg_zero, ← seg_zero, seg_app l (Nat.zero_le _) as']
    have q2 : l.drop e = seg l e b ++ l.drop b := by
      rw [← seg_end, ← seg_end, seg_app l me len]
    rw [q1, q2]
    simp
  have l1 := seg_len (l := l) (a := a) (b := s) (by omega)
  have l2 := seg_len (l := l) (a := m) (b := e) (by omega)
  have l3 := seg_len (l := l) (a := s) (b := m) (by omega)
  have l4 := seg_len (l := l) (a := e) (b := b) (by omega)
  have l5 : (l.take a).length = a := by rw [List.length_take]; omega
  rw [r1, symR_eq _ (seg l a s) (seg l m e) _ (by omega) (by omega) (by omega)]
  rw [show l.take a ++ (mrg lt (seg l a s) (seg l m e) ++ (seg l s m ++ (seg l e b ++ l.drop b))) = (l.take a ++ mrg lt (seg l a s) (seg l m e)) ++ (seg l s m ++ (seg l e b ++ l.drop b)) by simp]
  rw [symR_eq _ (seg l s m) (seg l e b) _ (by rw [List.length_append, mrg_len]; omega) (by rw [List.length_append, mrg_len]; omega) (by rw [List.length_append, mrg_len]; omega)]
  unfold symR
  rw [← seg_app l as' sm, ← seg_app l hme me, mrg_split]
  · simp
  · intro y hy z hz
    obtain ⟨j, q1, q2, rfl⟩ := mem_seg (d := d) hy
    obtain ⟨i, q3, q4, rfl⟩ := mem_seg (d := d) hz
    have hc := hi s (Nat.le_refl _) (by omega) (by omega) (by omega)
    have h1 := srt_at (d := d) O hB len (i := j) (j := mid + m - 1 - s) (by omega) (by omega) (by omega)
    have h2 := srt_at (d := d) O hA (by omega) (i := s) (j := i) (by omega) q3 q4
    exact O.trans _ _ _ (O.le_lt h1 hc) h2
  · intro y hy z hz
    obtain ⟨j, q1, q2, rfl⟩ := mem_seg (d := d) hy
    obtain ⟨i, q3, q4, rfl⟩ := mem_seg (d := d) hz
    have hc := lo (s - 1) (by omega) (by omega) (by omega)
    rw [show mid + m - 1 - (s - 1) = e by omega] at hc
    have h1 := srt_at (d := d) O hB len (i := e) (j := j) (by omega) q1 q2
    have h2 := srt_at (d := d) O hA (by omega) (i := i) (j := s - 1) q3 (by omega) (by omega)
    exact O.le_trans (O.le_trans h2 hc) h1
  · intro y hy z hz
    rw [← seg_app l hme me] at hB
    exact (List.pairwise_append.1 hB).2.2 z hz y hy
end
end Go.SX.Plain
/- A stable sort by blocks, told plainly. No program here. -/
namespace Go.SX.Plain
section
variable {α : Type} {lt : α → α → Bool}
def insS (lt : α → α → Bool) (l : List α) (a b : Nat) : List α := l.take a ++ (isort lt (seg l a b) ++ l.drop b)
theorem isort_len (l : List α) : (isort lt l).length = l.length := by
  unfold isort
  rw [mrg_len]
  simp
def bso (lt : α → α → Bool) (bs : Nat) : Nat → List α → List α
  | 0, _ => []
  | f + 1, l => if l.length ≤ bs then isort lt l else isort lt (l.take bs) ++ bso lt bs f (l.drop bs)
def bsort (lt : α → α → Bool) (bs : Nat) (l : List α) : List α := bso lt bs (l.length + 1) l
def ph1 (lt : α → α → Bool) (l : List α) (a : Nat) : List α := bsort lt 20 (l.take a) ++ l.drop a
def ph2 (lt : α → α → Bool) (l : List α) (bs a : Nat) : List α := bsort lt (2 * bs) (l.take a) ++ bsort lt bs (l.drop a)
theorem take_seg (l : List α) {a b : Nat} (h : a ≤ b) : l.take b = l.take a ++ seg l a b := by
  rw [← seg_zero, ← seg_zero, seg_app l (Nat.zero_le _) h]
theorem drop_seg (l : List α) {a b : Nat} (h : a ≤ b) (hb : b ≤ l.length) : l.drop a = seg l a b ++ l.drop b := by
  rw [← seg_end, ← seg_end, seg_app l h hb]
end
end Go.SX.Plain
namespace Go.SX.Plain
section
variable {α : Type} {d : α} {lt : α → α → Bool}
structure Ins (lt : α → α → Bool) (d : α) (l : List α) (a i : Nat) (P Q : List α) : Prop where
  parts : P ++ Q = isort lt (seg l a i)
  more : ∀ z ∈ Q, lt (l.getD i d) z = true
def insC (d : α) (l : List α) (a i : Nat) (P Q : List α) : List α := l.take a ++ (P ++ l.getD i d :: (Q ++ l.drop (i + 1)))
theorem Ins.start (l : List α) {a i : Nat} (ha : a ≤ i) (hi : i < l.length) : Ins lt d l a i (isort lt (seg l a i)) [] ∧ insC d l a i (isort lt (seg l a i)) [] = insS lt l a i := by
  refine ⟨⟨List.append_nil _, fun z hz => by cases hz⟩, ?_⟩
  unfold insC insS
  rw [List.drop_eq_getElem_cons hi]
  simp [List.getD_eq_getElem?_getD, hi]
theorem Ins.len {l : List α} {a i : Nat} {P Q : List α} (h : Ins lt d l a i P Q) (ha : a ≤ i) (hi : i < l.length) : P.length + Q.length = i - a ∧ (insC d l a i P Q).length = l.length := by
  have := congrArg List.length h.parts
  rw [List.length_append, isort_len, seg_len (by omega)] at this
  refine ⟨this, ?_⟩
  unfold insC
  simp only [List.length_append, List.length_take, List.length_drop, List.length_cons]
  omega
theorem Ins.at {l : List α} {a i : Nat} {P Q : List α} (h : Ins lt d l a i P Q) (ha : a ≤ i) (hi : i < l.length) : (insC d l a i P Q).getD (a + P.length) d = l.getD i d := by
  unfold insC
  rw [← List.append_assoc]
  exact getD_mid _ _ _ (by rw [List.length_append, List.length_take]; omega)
theorem Ins.step {l : List α} {a i : Nat} {P Q : List α} {z : α} (h : Ins lt d l a i (P ++ [z]) Q) (hz : lt (l.getD i d) z = true) : Ins lt d l a i P (z :: Q) :=
  ⟨by rw [← h.parts]; simp, fun y hy => by
    rcases List.mem_cons.1 hy with rfl | hy
    · exact hz
    · exact h.more y hy⟩
end
end Go.SX.Plain
/- Spans, and their orders, told plainly. No program here. -/
namespace Go.SX.Plain
structure Spn where
  frm : Int
  to : Int
  kind : Int
  val : Int
  deriving DecidableEq
abbrev zS : Spn := ⟨0, 0, 0, 0⟩
def cmpI (a b : Int) : Int := if a < b then -1 else if b < a then 1 else 0
def orL : List Int → Int
  | [] => 0
  | x :: l => if x ≠ 0 then x else orL l
def cmpO (x y : Spn) : Int := orL [cmpI x.frm y.frm, cmpI y.to x.to]
def cmpM (x y : Spn) : Int := orL [cmpI x.frm y.frm, cmpI y.to x.to, cmpI x.kind y.kind]
def ltO (x y : Spn) : Bool := decide (cmpO x y < 0)
def ltM (x y : Spn) : Bool := decide (cmpM x y < 0)
end Go.SX.Plain
/- The searches and moves of the merge in place, told plainly. No program here. -/
namespace Go.SX.Plain
section
variable {α : Type} {d : α} {lt : α → α → Bool}
structure Bs1 (lt : α → α → Bool) (d : α) (l : List α) (a m b i j : Nat) : Prop where
  mi : m ≤ i
  ij : i ≤ j
  jb : j ≤ b
  lo : ∀ h, m ≤ h → h < i → lt (l.getD h d) (l.getD a d) = true
  hi : ∀ h, j ≤ h → h < b → lt (l.getD h d) (l.getD a d) = false
theorem Bs1.start (l : List α) {a m b : Nat} (h : m ≤ b) : Bs1 lt d l a m b m b := ⟨Nat.le_refl _, h, Nat.le_refl _, fun h h1 h2 => by omega, fun h h1 h2 => by omega⟩
theorem Bs1.up (O : Ord lt) {l : List α} {a m b i j h : Nat} (H : Bs1 lt d l a m b i j) (hb : b ≤ l.length) (hs : Srt lt (seg l m b)) (hh : h = (i + j) / 2) (hij : i < j) (hc : lt (l.getD h d) (l.getD a d) = true) : Bs1 lt d l a m b (h + 1) j := by
  obtain ⟨mi, ij, jb, lo, hi⟩ := H
  refine ⟨by omega, by omega, jb, fun k h1 h2 => ?_, hi⟩
  exact O.le_lt (srt_at O hs hb (i := k) (j := h) h1 (by omega) (by omega)) hc
theorem Bs1.down (O : Ord lt) {l : List α} {a m b i j h : Nat} (H : Bs1 lt d l a m b i j) (hb : b ≤ l.length) (hs : Srt lt (seg l m b)) (hh : h = (i + j) / 2) (hij : i < j) (hc : lt (l.getD h d) (l.getD a d) = false) : Bs1 lt d l a m b i h := by
  obtain ⟨mi, ij, jb, lo, hi⟩ := H
  refine ⟨mi, by omega, by omega, lo, fun k h1 h2 => ?_⟩
  exact O.le_trans hc (srt_at O hs hb (i := h) (j := k) (by omega) h1 h2)
def mov1 (d : α) (l : List α) (a k : Nat) : List α := l.take a ++ (seg l (a + 1) (k + 1) ++ l.getD a d :: l.drop (k + 1))
theorem Bs1.done {l : List α} {a m b i : Nat} (H : Bs1 lt d l a m b i i) (hm : m = a + 1) (hb : b ≤ l.length) (hs : Srt lt (seg l m b)) : mov1 d l a (i - 1) = symR lt l a m b := by
  obtain ⟨mi, ij, jb, lo, hi⟩ := H
  rw [sym_one hm mi jb hb hs lo hi]
  unfold mov1
  rw [show i - 1 + 1 = i by omega, ← hm, drop_seg l jb hb]
structure Bs2 (lt : α → α → Bool) (d : α) (l : List α) (a m i j : Nat) : Prop where
  ai : a ≤ i
  ij : i ≤ j
  jm : j ≤ m
  lo : ∀ h, a ≤ h → h < i → lt (l.getD m d) (l.getD h d) = false
  hi : ∀ h, j ≤ h → h < m → lt (l.getD m d) (l.getD h d) = true
theorem Bs2.start (l : List α) {a m : Nat} (h : a ≤ m) : Bs2 lt d l a m a m := ⟨Nat.le_refl _, h, Nat.le_refl _, fun h h1 h2 => by omega, fun h h1 h2 => by omega⟩
theorem Bs2.up (O : Ord lt) {l : List α} {a m i j h : Nat} (H : Bs2 lt d l a m i j) (hb : m ≤ l.length) (hs : Srt lt (seg l a m)) (hh : h = (i + j) / 2) (hij : i < j) (hc : lt (l.getD m d) (l.getD h d) = false) : Bs2 lt d l a m (h + 1) j := by
  obtain ⟨ai, ij, jm, lo, hi⟩ := H
  refine ⟨by omega, by omega, jm, fun k h1 h2 => ?_, hi⟩
  exact O.le_trans (srt_at O hs hb (i := k) (j := h) h1 (by omega) (by omega)) hc
theorem Bs2.down (O : Ord lt) {l : List α} {a m i j h : Nat} (H : Bs2 lt d l a m i j) (hb : m ≤ l.length) (hs : Srt lt (seg l a m)) (hh : h = (i + j) / 2) (hij : i < j) (hc : lt (l.getD m d) (l.getD h d) = true) : Bs2 lt d l a m i h := by
  obtain ⟨ai, ij, jm, lo, hi⟩ := H
  refine ⟨ai, by omega, by omega, lo, fun k h1 h2 => ?_⟩
  exact O.trans _ _ _ hc (srt_at O hs hb (i := h) (j := k) (by omega) h1 h2)
def mov2 (d : α) (l : List α) (m k : Nat) : List α := l.take k ++ l.getD m d :: (seg l k m ++ l.drop (m + 1))
theorem Bs2.done {l : List α} {a m b i : Nat} (H : Bs2 lt d l a m i i) (hm : b = m + 1) (hb : b ≤ l.length) : mov2 d l m i = symR lt l a m b := by
  obtain ⟨ai, ij, jm, lo, hi⟩ := H
  rw [sym_last hm ai jm hb lo hi]
  unfold mov2
  rw [hm, take_seg l ai]
  simp
structure Bs3 (lt : α → α → Bool) (d : α) (l : List α) (a m b mid s r : Nat) : Prop where
  as' : a ≤ s
  sr : s ≤ r
  rm : r ≤ m
  rn : r ≤ mid
  me : mid + m ≤ b + s
  lo : ∀ c, a ≤ c → c < s → mid + m - 1 - c < b → lt (l.getD (mid + m - 1 - c) d) (l.getD c d) = false
  hi : ∀ c, r ≤ c → c < m → m ≤ mid + m - 1 - c → c < mid → lt (l.getD (mid + m - 1 - c) d) (l.getD c d) = true
theorem Bs3.up (O : Ord lt) {l : List α} {a m b mid s r c : Nat} (H : Bs3 lt d l a m b mid s r) (hb : b ≤ l.length) (hmb : m < b) (hA : Srt lt (seg l a m)) (hB : Srt lt (seg l m b)) (hc : c = (s + r) / 2) (hsr : s < r) (hcc : lt (l.getD (mid + m - 1 - c) d) (l.getD c d) = false) :
    Bs3 lt d l a m b mid (c + 1) r := by
  obtain ⟨as', sr, rm, rn, me, lo, hi⟩ := H
  refine ⟨by omega, by omega, rm, rn, by omega, fun k h1 h2 h3 => ?_, hi⟩
  have q1 := srt_at (d := d) O hA (by omega) (i := k) (j := c) h1 (by omega) (by omega)
  have q2 := srt_at (d := d) O hB hb (i := mid + m - 1 - c) (j := mid + m - 1 - k) (by omega) (by omega) h3
  exact O.le_trans (O.le_trans q1 hcc) q2
theorem Bs3.down (O : Ord lt) {l : List α} {a m b mid s r c : Nat} (H : Bs3 lt d l a m b mid s r) (hb : b ≤ l.length) (hmb : m < b) (hA : Srt lt (seg l a m)) (hB : Srt lt (seg l m b)) (hc : c = (s + r) / 2) (hsr : s < r) (hcc : lt (l.getD (mid + m - 1 - c) d) (l.getD c d) = true) :
    Bs3 lt d l a m b mid s c := by
  obtain ⟨as', sr, rm, rn, me, lo, hi⟩ := H
  refine ⟨as', by omega, by omega, by omega, me, lo, fun k h1 h2 h3 h4 => ?_⟩
  have q1 := srt_at (d := d) O hA (by omega) (i := c) (j := k) (by omega) h1 h2
  have q2 := srt_at (d := d) O hB hb (i := mid + m - 1 - k) (j := mid + m - 1 - c) h3 (by omega) (by omega)
  exact O.trans _ _ _ (O.le_lt q2 hcc) q1
theorem Bs3.cut {l : List α} {a m b mid s : Nat} (H : Bs3 lt d l a m b mid s s) (hmid : mid = (a + b) / 2) (ham : a < m) (hmb : m < b) (hb : b ≤ l.length) : Cut lt d l a m b mid s := by
  obtain ⟨as', sr, rm, rn, me, lo, hi⟩ := H
  exact ⟨ham, hmb, hb, hmid, as', rm, rn, by omega, lo, hi⟩
theorem Cut.segs {l : List α} {a m b mid s e : Nat} (h : Cut lt d l a m b mid s) (he : e = mid + m - s) (hA : Srt lt (seg l a m)) (hB : Srt lt (seg l m b)) :
    (Srt lt (seg (rotR l s m e) a s) ∧ Srt lt (seg (rotR l s m e) s mid)) ∧ Srt lt (seg (symR lt (rotR l s m e) a s mid) mid e) ∧ Srt lt (seg (symR lt (rotR l s m e) a s mid) e b) := by
  obtain ⟨am, mb, len, hmid, as', sm, sn, me, lo, hi⟩ := h
  rw [← he] at me
  have hme : m ≤ e := by omega
  have r1 : rotR l s m e = l.take a ++ (seg l a s ++ (seg l m e ++ (seg l s m ++ (seg l e b ++ l.drop b)))) := by
    unfold rotR
    have q1 : l.take s = l.take a ++ seg l a s := by
      rw [← seg_zero, ← seg_zero, seg_app l (Nat.zero_le _) as']
    have q2 : l.drop e = seg l e b ++ l.drop b := by
      rw [← seg_end, ← seg_end, seg_app l me len]
    rw [q1, q2]
    simp
  have l1 := seg_len (l := l) (a := a) (b := s) (by omega)
  have l2 := seg_len (l := l) (a := m) (b := e) (by omega)
  have l3 := seg_len (l := l) (a := s) (b := m) (by omega)
  have l4 := seg_len (l := l) (a := e) (b := b) (by omega)
  have l5 : (l.take a).length = a := by rw [List.length_take]; omega
  rw [r1, symR_eq _ (seg l a s) (seg l m e) _ (by omega) (by omega) (by omega)]
  rw [seg_mid (l.take a) (seg l a s) _ (by omega) (by omega)]
  rw [show l.take a ++ (seg l a s ++ (seg l m e ++ (seg l s m ++ (seg l e b ++ l.drop b)))) = (l.take a ++ seg l a s) ++ (seg l m e ++ (seg l s m ++ (seg l e b ++ l.drop b))) by simp]
  rw [seg_mid (l.take a ++ seg l a s) (seg l m e) _ (by rw [List.length_append]; omega) (by rw [List.length_append]; omega)]
  rw [show l.take a ++ (mrg lt (seg l a s) (seg l m e) ++ (seg l s m ++ (seg l e b ++ l.drop b))) = (l.take a ++ mrg lt (seg l a s) (seg l m e)) ++ (seg l s m ++ (seg l e b ++ l.drop b)) by simp]
  rw [seg_mid (l.take a ++ mrg lt (seg l a s) (seg l m e)) (seg l s m) _ (by rw [List.length_append, mrg_len]; omega) (by rw [List.length_append, mrg_len]; omega)]
  rw [show (l.take a ++ mrg lt (seg l a s) (seg l m e)) ++ (seg l s m ++ (seg l e b ++ l.drop b)) = ((l.take a ++ mrg lt (seg l a s) (seg l m e)) ++ seg l s m) ++ (seg l e b ++ l.drop b) by simp]
  rw [seg_mid ((l.take a ++ mrg lt (seg l a s) (seg l m e)) ++ seg l s m) (seg l e b) _ (by simp only [List.length_append, mrg_len]; omega) (by simp only [List.length_append, mrg_len]; omega)]
  exact ⟨⟨srt_seg hA (Nat.le_refl _) as' sm, srt_seg hB (Nat.le_refl _) hme me⟩, srt_seg hA as' sm (Nat.le_refl _), srt_seg hB hme me (Nat.le_refl _)⟩
end
end Go.SX.Plain
/- Chapter 7, told plainly: which spans are right, how signs look. No program here. -/
namespace Go.SX.Plain
structure Atr where
  bold : Bool
  italic : Bool
  under : Bool
  strike : Bool
  colour : Int
  deriving DecidableEq
abbrev zA : Atr := ⟨false, false, false, false, 0⟩
def withinB (x y : Spn) : Bool := decide (y.frm ≤ x.frm) && decide (x.to ≤ y.to)
def crossB (x y : Spn) : Bool := decide (x.frm < y.to) && decide (y.frm < x.to) && !withinB x y && !withinB y x
def rightB (x : Spn) (n : Int) : Bool := decide (0 ≤ x.frm) && decide (x.frm < x.to) && decide (x.to ≤ n) && decide (1 ≤ x.kind) && decide (x.kind ≤ 5) && (if x.kind = 5 then decide (0 ≤ x.val) && decide (x.val ≤ 16777215) else decide (x.val = 0))
def aloneTo (l : List Spn) (x : Spn) (k : Nat) : Bool := (l.take k).all fun y => !crossB x y
def okTo (l : List Spn) (n : Int) : Nat → Bool
  | 0 => true
  | i + 1 => okTo l n i && rightB (l.getD i zS) n && aloneTo l (l.getD i zS) i
def spansB (l : List Spn) (n : Int) : Bool := okTo l n l.length
def chkN (size : Nat) (l : List Spn) (n : Int) : Int := if 4096 < size then 3 else if 256 < l.length then 2 else if spansB l n then 0 else 23
def setA (a : Atr) (x : Spn) : Atr :=
  if x.kind = 1 then { a with bold := true } else if x.kind = 2 then { a with italic := true } else if x.kind = 3 then { a with under := true } else if x.kind = 4 then { a with strike := true } else { a with colour := x.val + 1 }
def pntTo (l : List Atr) (x : Spn) (a i : Nat) : List Atr := l.take a ++ ((seg l a i).map (fun z => setA z x) ++ l.drop i)
def pnt (l : List Atr) (x : Spn) : List Atr := pntTo l x x.frm.toNat x.to.toNat
def lookTo (n : Nat) (l : List Spn) (i : Nat) : List Atr := (l.take i).foldl pnt (List.replicate n zA)
def looksL (n : Nat) (l : List Spn) : List Atr := lookTo n (isort ltO l) (isort ltO l).length
def InL (l : List Spn) (n : Nat) : Prop := ∀ x ∈ l, 0 ≤ x.frm ∧ x.frm < x.to ∧ x.to ≤ n
theorem InL.at {l : List Spn} {n : Nat} (h : InL l n) {i : Nat} (hi : i < l.length) : 0 ≤ (l.getD i zS).frm ∧ (l.getD i zS).frm < (l.getD i zS).to ∧ (l.getD i zS).to ≤ n := by
  have := h l[i] (List.getElem_mem hi)
  simpa [List.getD_eq_getElem?_getD, hi] using this
theorem InL.isort {l : List Spn} {n : Nat} (h : InL l n) : InL (isort ltO l) n := fun x hx => by
  rcases mem_mrg.1 hx with h1 | h1
  · cases h1
  · exact h x h1
def hasS (k : Nat) (x : Spn) : Bool := decide (x.frm ≤ k) && decide ((k : Int) < x.to)
def lookF (k : Nat) (l : List Spn) : Atr := (l.filter (hasS k)).foldl setA zA
end Go.SX.Plain
/- Chapter 7, told plainly: the innermost colour; the document's way of telling a look. No program here. -/
namespace Go.SX.Plain
section
variable {α : Type} {lt : α → α → Bool}
def innS (x : Spn) : Option Spn → Option Spn
  | none => some x
  | some y => if withinB x y = true then some x else some y
end
def colB (x : Spn) : Bool := !(decide (x.kind = 1) || decide (x.kind = 2) || decide (x.kind = 3) || decide (x.kind = 4))
def colS (a : Atr) (o : Option Spn) (x : Spn) : Atr × Option Spn := match o with
  | none => (setA a x, some x)
  | some y => if withinB x y = true then (setA a x, some x) else (a, o)
def refS (k : Nat) (s : Atr × Option Spn) (x : Spn) : Atr × Option Spn :=
  if hasS k x = true then (if colB x = true then colS s.1 s.2 x else (setA s.1 x, s.2)) else s
def refF (k : Nat) (l : List Spn) : Atr × Option Spn := l.foldl (refS k) (zA, none)
end Go.SX.Plain
