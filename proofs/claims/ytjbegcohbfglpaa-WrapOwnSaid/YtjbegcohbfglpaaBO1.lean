/- A verified symbolic executor for Go code in the model, contracts and plain laws that the proofs lean on, BO1. -/
import Derived.WalkKit
import Derived.OwnWalk
import Derived.RangeFuncNested
import Derived.Lib.ConvBytes
import Derived.Laws.OwnMore
import Derived.Laws.MakeOwn
import Derived.KernelRfl
import Derived.Laws.StructEq
import Derived.Laws.Strings2
import Derived.Laws.Strings3
import Derived.Laws.DeepStrings4
set_option linter.unusedVariables false
set_option linter.unusedSimpArgs false
/- A verified symbolic executor for Go code in the model, part 1: abstract values, the relation to the machine's values, memory. -/
namespace Go.SX
open Go.RowKit

inductive AV : Type 1
  | v (x : Value)
  | sb (b : Bool)
  | junk
  | cnd (c : Bool) (x : AV)
  | ptr (id off : Nat)
  | eptr (id : Nat) (i : Int) (size off : Nat)
  | rptr {α : Type} (size : Nat) (enc : α → List AV) (d : α) (l : List α) (i : Int) (off : Nat) (z : Bool := false)
  | own (id : Nat)
  | view (id size lo n : Nat)
  | bsl (id n : Nat)
  | ro {α : Type} (size : Nat) (enc : α → List AV) (d : α) (l : List α) (cap : Option Nat) (z : Bool := false)
  | agg (cs : List AV)
  | tup (vs : List AV)
  | fn (f : Nat) (caps : List AV)
  | yld (id : Nat)
  | sl (n : Nat)

structure Env where
  h : Nat → Value
  dom : Nat → Prop
  imm : Nat → Prop
  lnt : Nat → Prop

def Env.bare (E : Env) : Env := { E with dom := fun _ => False, lnt := fun _ => False }
def Env.bz (E : Env) (z : Bool) : Env := { E with dom := fun _ => False, lnt := cond z E.lnt fun _ => False }
def Env.ok (E : Env) (z : Bool) (b : Nat) : Prop := E.imm b ∨ cond z (E.lnt b) False
theorem Env.ok.or {E : Env} {z : Bool} {b : Nat} (h : E.ok z b) : E.imm b ∨ E.lnt b := by
  cases z with
  | true => exact h
  | false => exact h.imp id False.elim
theorem Env.ok.mono {E E' : Env} {z : Bool} {b : Nat} (h : E.ok z b) (hi : ∀ b, E.imm b → E'.imm b) (hl : ∀ b, E.lnt b → E'.lnt b) : E'.ok z b := by
  cases z with
  | true => exact h.imp (hi b) (hl b)
  | false => exact h.imp (hi b) id

inductive Rel (w : World) : Env → AV → Value → Prop
  | v {E : Env} (x : Value) : Rel w E (.v x) x
  | sb {E : Env} (b : Bool) : Rel w E (.sb b) (.bool b)
  | junk {E : Env} (x : Value) : Rel w E .junk x
  | cndT {E : Env} {x : AV} {y : Value} (h : Rel w E x y) : Rel w E (.cnd true x) y
  | cndF {E : Env} (x : AV) : Rel w E (.cnd false x) undef
  | ptr {E : Env} {id b : Nat} (off : Nat) (hn : E.dom id) (hb : E.h id = .pointer (some ⟨b, 0, none⟩)) : Rel w E (.ptr id off) (.pointer (some ⟨b, off, none⟩))
  | eptr {E : Env} {id b n c : Nat} (i : Int) (size off : Nat) (hn : E.dom id) (hb : E.h id = .slice (some ⟨b, 0, none⟩) n c) :
      Rel w E (.eptr id i size off) (.pointer (some ⟨b, i.toNat * size + off, none⟩))
  | rptr {E : Env} {α : Type} {size : Nat} {enc : α → List AV} {d : α} {l : List α} {b o : Nat} {z : Bool} (i : Int) (off : Nat) (y : Nat → Nat → Value) (hs : ∀ x, (enc x).length = size)
      (hi : i.toNat < l.length) (him : E.ok z b)
      (hc : ∀ j k, j < l.length → k < size → w.cell? ⟨b, o + (j * size + k), none⟩ = some (y j k))
      (hr : ∀ j (h1 : j < l.length) k (h2 : k < (enc l[j]).length), Rel w (E.bz z) (enc l[j])[k] (y j k)) :
      Rel w E (.rptr size enc d l i off z) (.pointer (some ⟨b, o + (i.toNat * size + off), none⟩))
  | own {E : Env} {id : Nat} (hn : E.dom id) (hs : ∃ A n c, E.h id = .slice A n c) : Rel w E (.own id) (E.h id)
  | view {E : Env} {id : Nat} {A A' : Option Addr} {N c size lo n : Nat} (hn : E.dom id) (hs : E.h id = .slice A N c) (hle : lo + n ≤ c) (ha : lo < c → A' = A.map (·.add (lo * size))) : Rel w E (.view id size lo n) (.slice A' n (c - lo))
  | bsl {E : Env} {id b : Nat} (n : Nat) (hn : E.dom id) (hb : E.h id = .pointer (some ⟨b, 0, none⟩)) : Rel w E (.bsl id n) (.slice (some ⟨b, 0, none⟩) n n)
  | roNil {E : Env} {α : Type} (size : Nat) (enc : α → List AV) (d : α) (cap : Option Nat) (A : Option Addr) (c : Nat) (hs : ∀ x, (enc x).length = size) (hc : ∀ m, cap = some m → c = m) {z : Bool} :
      Rel w E (.ro size enc d [] cap z) (.slice A 0 c)
  | ro {E : Env} {α : Type} {size : Nat} {enc : α → List AV} {d : α} {l : List α} {cap : Option Nat} {b o c : Nat} {z : Bool} (y : Nat → Nat → Value) (hs : ∀ x, (enc x).length = size)
      (hcap : ∀ m, cap = some m → c = m) (hlc : l.length ≤ c) (him : E.ok z b)
      (hc : ∀ j k, j < l.length → k < size → w.cell? ⟨b, o + (j * size + k), none⟩ = some (y j k))
      (hr : ∀ j (h1 : j < l.length) k (h2 : k < (enc l[j]).length), Rel w (E.bz z) (enc l[j])[k] (y j k)) :
      Rel w E (.ro size enc d l cap z) (.slice (some ⟨b, o, none⟩) l.length c)
  | agg {E : Env} {cs : List AV} {vs : Array Value} (hl : cs.length = vs.size) (h : ∀ i (h1 : i < cs.length) (h2 : i < vs.size), Rel w E cs[i] vs[i]) : Rel w E (.agg cs) (.agg vs)
  | tup {E : Env} {cs : List AV} {vs : Array Value} (hl : cs.length = vs.size) (h : ∀ i (h1 : i < cs.length) (h2 : i < vs.size), Rel w E cs[i] vs[i]) : Rel w E (.tup cs) (.tuple vs)
  | fn {E : Env} (f : Nat) {cs : List AV} {vs : Array Value} (hl : cs.length = vs.size) (h : ∀ i (h1 : i < cs.length) (h2 : i < vs.size), Rel w E cs[i] vs[i]) : Rel w E (.fn f cs) (.func (.func f) #[] vs)
  | yld {E : Env} {id b : Nat} (hn : E.dom id) (hb : E.h id = .pointer (some ⟨b, 0, none⟩)) : Rel w E (.yld id) (.func (.yield b) #[] #[])
  | sl {E : Env} (n : Nat) (A : Option Addr) (c : Nat) : Rel w E (.sl n) (.slice A n c)

mutual
def AV.sub (r : Nat) (x : AV) : AV → AV
  | .own i => match Nat.beq i r with | true => x | false => .own i
  | .eptr i a b c => match Nat.beq i r with | true => .junk | false => .eptr i a b c
  | .view i s l n => match Nat.beq i r with | true => .junk | false => .view i s l n
  | .cnd c a => .cnd c (AV.sub r x a)
  | .agg l => .agg (AV.subL r x l)
  | .tup l => .tup (AV.subL r x l)
  | .fn f l => .fn f (AV.subL r x l)
  | .v y => .v y
  | .sb b => .sb b
  | .junk => .junk
  | .ptr i o => .ptr i o
  | .rptr s e d l i o z => .rptr s e d l i o z
  | .bsl i n => .bsl i n
  | .ro s e d l c z => .ro s e d l c z
  | .yld i => .yld i
  | .sl n => .sl n
def AV.subL (r : Nat) (x : AV) : List AV → List AV
  | [] => []
  | a :: l => AV.sub r x a :: AV.subL r x l
end

theorem AV.subL_length (r : Nat) (x : AV) : ∀ l, (AV.subL r x l).length = l.length
  | [] => rfl
  | a :: l => by simp [AV.subL, AV.subL_length r x l]
theorem AV.subL_get (r : Nat) (x : AV) : ∀ (l : List AV) (i : Nat) (h : i < (AV.subL r x l).length) (h' : i < l.length), (AV.subL r x l)[i] = AV.sub r x l[i]
  | [], i, h, _ => by simp [AV.subL] at h
  | a :: l, 0, _, _ => by simp [AV.subL]
  | a :: l, i + 1, h, h' => by
    simp only [AV.subL, List.getElem_cons_succ]
    exact AV.subL_get r x l i (by simpa [AV.subL] using h) (by simpa using h')

structure Goes (E E' : Env) (w w' : World) : Prop where
  hh : ∀ id, E.dom id → E'.h id = E.h id
  hn : ∀ id, E.dom id → E'.dom id
  hi : ∀ b, E.imm b → E'.imm b
  hl : ∀ b, E.lnt b → E'.lnt b
  hw : ∀ b, E.imm b ∨ E.lnt b → w'.heap[b]? = w.heap[b]?
theorem Goes.bare {E E' : Env} {w w' : World} (hi : ∀ b, E.imm b → E'.imm b) (hw : ∀ b, E.imm b → w'.heap[b]? = w.heap[b]?) : Goes E.bare E'.bare w w' :=
  ⟨fun _ h => False.elim h, fun _ h => False.elim h, hi, fun _ h => False.elim h, fun b hb => hb.elim (hw b) False.elim⟩
theorem Goes.bz {E E' : Env} {w w' : World} (z : Bool) (hi : ∀ b, E.imm b → E'.imm b) (hl : ∀ b, E.lnt b → E'.lnt b) (hw : ∀ b, E.imm b ∨ E.lnt b → w'.heap[b]? = w.heap[b]?) : Goes (E.bz z) (E'.bz z) w w' := by
  cases z with
  | true => exact ⟨fun _ h => False.elim h, fun _ h => False.elim h, hi, hl, hw⟩
  | false => exact ⟨fun _ h => False.elim h, fun _ h => False.elim h, hi, fun _ h => False.elim h, fun b hb => hw b (hb.imp id False.elim)⟩
theorem Goes.refl (E : Env) (w : World) : Goes E E w w := ⟨fun _ _ => rfl, fun _ h => h, fun _ h => h, fun _ h => h, fun _ _ => rfl⟩
theorem Goes.cell {E E' : Env} {w w' : World} (g : Goes E E' w w') {b : Nat} {z : Bool} (o : Nat) (h : E.ok z b) : w'.cell? ⟨b, o, none⟩ = w.cell? ⟨b, o, none⟩ := World.cell?_of_block (a := ⟨b, o, none⟩) (g.hw b h.or)

theorem Rel.mono {E E' : Env} {w w' : World} {a : AV} {x : Value} (h : Rel w E a x) (g : Goes E E' w w') : Rel w' E' a x := by
  induction h generalizing E' with
  | v x => exact .v x
  | sb b => exact .sb b
  | junk x => exact .junk x
  | cndT _ ih => exact .cndT (ih g)
  | cndF x => exact .cndF x
  | ptr off h1 h2 => exact .ptr off (g.hn _ h1) ((g.hh _ h1).trans h2)
  | eptr i size off h1 h2 => exact .eptr i size off (g.hn _ h1) ((g.hh _ h1).trans h2)
  | rptr i off y hs h1 him hc _ ih => exact .rptr i off y hs h1 (him.mono g.hi g.hl) (fun j k hj hk => (g.cell _ him).trans (hc j k hj hk)) fun j h1 k h2 => ih j h1 k h2 (Goes.bz _ g.hi g.hl g.hw)
  | @own E id h1 h2 => rw [← g.hh _ h1] at h2 ⊢; exact .own (g.hn _ h1) h2
  | view h1 h2 h3 h4 => exact .view (g.hn _ h1) ((g.hh _ h1).trans h2) h3 h4
  | bsl n h1 h2 => exact .bsl n (g.hn _ h1) ((g.hh _ h1).trans h2)
  | roNil size enc d cap A c hs hc => exact .roNil size enc d cap A c hs hc
  | ro y hs hcap hlc him hc _ ih => exact .ro y hs hcap hlc (him.mono g.hi g.hl) (fun j k hj hk => (g.cell _ him).trans (hc j k hj hk)) fun j h1 k h2 => ih j h1 k h2 (Goes.bz _ g.hi g.hl g.hw)
  | agg hl _ ih => exact .agg hl fun i h1 h2 => ih i h1 h2 g
  | tup hl _ ih => exact .tup hl fun i h1 h2 => ih i h1 h2 g
  | fn f hl _ ih => exact .fn f hl fun i h1 h2 => ih i h1 h2 g
  | yld h1 h2 => exact .yld (g.hn _ h1) ((g.hh _ h1).trans h2)
  | sl n A c => exact .sl n A c

structure Turns (r : Nat) (E E' : Env) (w w' : World) : Prop where
  hh : ∀ id, E.dom id → id ≠ r → E'.h id = E.h id
  hr : ∀ b, E.h r ≠ .pointer (some ⟨b, 0, none⟩)
  hn : ∀ id, E.dom id → E'.dom id
  hi : ∀ b, E.imm b → E'.imm b
  hl : ∀ b, E.lnt b → E'.lnt b
  hw : ∀ b, E.imm b ∨ E.lnt b → w'.heap[b]? = w.heap[b]?

theorem Rel.sub {E E' : Env} {w w' : World} {r : Nat} {z : AV} (g : Turns r E E' w w') (hz : E.dom r → Rel w' E' z (E.h r)) {a : AV} {x : Value} (h : Rel w E a x) : Rel w' E' (AV.sub r z a) x := by
  have gc : ∀ z b o, E.ok z b → w'.cell? ⟨b, o, none⟩ = w.cell? ⟨b, o, none⟩ := fun z b o h => World.cell?_of_block (a := ⟨b, o, none⟩) (g.hw b h.or)
  have nb : ∀ {a i}, Nat.beq a i = false → a ≠ i := fun h e => by subst e; simp at h
  induction h with
  | v x => exact .v x
  | sb b => exact .sb b
  | junk x => exact .junk x
  | cndT _ ih => exact .cndT (ih g hz gc)
  | cndF x => exact .cndF _
  | @ptr E id b off h1 h2 => exact .ptr off (g.hn _ h1) ((g.hh _ h1 (fun e => g.hr b (e ▸ h2))).trans h2)
  | @eptr E id b n c i size off h1 h2 =>
    cases hb : Nat.beq id r with
    | true => simp only [AV.sub, hb]; exact .junk _
    | false => simp only [AV.sub, hb]; exact .eptr i size off (g.hn _ h1) ((g.hh _ h1 (nb hb)).trans h2)
  | rptr i off y hs h1 him hc hr _ => exact .rptr i off y hs h1 (him.mono g.hi g.hl) (fun j k hj hk => (gc _ _ _ him).trans (hc j k hj hk)) fun j h1 k h2 => (hr j h1 k h2).mono (Goes.bz _ g.hi g.hl g.hw)
  | @own E id h1 h2 =>
    cases hb : Nat.beq id r with
    | true => obtain rfl : id = r := Nat.eq_of_beq_eq_true hb; simp only [AV.sub, hb]; exact hz h1
    | false => simp only [AV.sub, hb]; rw [← g.hh _ h1 (nb hb)] at h2 ⊢; exact .own (g.hn _ h1) h2
  | @view E id A A' N c size lo n h1 h2 h3 h4 =>
    cases hb : Nat.beq id r with
    | true => simp only [AV.sub, hb]; exact .junk _
    | false => simp only [AV.sub, hb]; exact .view (g.hn _ h1) ((g.hh _ h1 (nb hb)).trans h2) h3 h4
  | @bsl E id b n h1 h2 => exact .bsl n (g.hn _ h1) ((g.hh _ h1 (fun e => g.hr b (e ▸ h2))).trans h2)
  | roNil size enc d cap A c hs hc => exact .roNil size enc d cap A c hs hc
  | ro y hs hcap hlc him hc hr _ => exact .ro y hs hcap hlc (him.mono g.hi g.hl) (fun j k hj hk => (gc _ _ _ him).trans (hc j k hj hk)) fun j h1 k h2 => (hr j h1 k h2).mono (Goes.bz _ g.hi g.hl g.hw)
  | agg hl _ ih =>
    refine .agg ((AV.subL_length _ _ _).trans hl) fun i h1 h2 => ?_
    rw [AV.subL_get _ _ _ i h1 (by rw [AV.subL_length] at h1; exact h1)]
    exact ih i (by rw [AV.subL_length] at h1; exact h1) h2 g hz gc
  | tup hl _ ih =>
    refine .tup ((AV.subL_length _ _ _).trans hl) fun i h1 h2 => ?_
    rw [AV.subL_get _ _ _ i h1 (by rw [AV.subL_length] at h1; exact h1)]
    exact ih i (by rw [AV.subL_length] at h1; exact h1) h2 g hz gc
  | fn f hl _ ih =>
    refine .fn f ((AV.subL_length _ _ _).trans hl) fun i h1 h2 => ?_
    rw [AV.subL_get _ _ _ i h1 (by rw [AV.subL_length] at h1; exact h1)]
    exact ih i (by rw [AV.subL_length] at h1; exact h1) h2 g hz gc
  | @yld E id b h1 h2 => exact .yld (g.hn _ h1) ((g.hh _ h1 (fun e => g.hr b (e ▸ h2))).trans h2)
  | sl n A c => exact .sl n A c

/-! ### Frames and memory -/
abbrev Fr := List (Nat × AV)
def getS : Fr → Nat → AV
  | [], _ => .junk
  | (k, x) :: r, n => match Nat.beq k n with | true => x | false => getS r n
def subF (r : Nat) (x : AV) : Fr → Fr
  | [] => []
  | (k, a) :: l => (k, AV.sub r x a) :: subF r x l
theorem getS_subF (r : Nat) (x : AV) : ∀ (f : Fr) (n : Nat), getS (subF r x f) n = AV.sub r x (getS f n)
  | [], n => rfl
  | (k, a) :: l, n => by
    simp only [subF, getS]
    cases Nat.beq k n with
    | true => rfl
    | false => exact getS_subF r x l n
theorem getS_cons (k : Nat) (x : AV) (f : Fr) (n : Nat) : getS ((k, x) :: f) n = if k = n then x else getS f n := by
  simp only [getS]
  cases h : Nat.beq k n with
  | true => rw [if_pos (Nat.eq_of_beq_eq_true h)]
  | false => rw [if_neg (fun e => by subst e; simp at h)]

structure Cdc (α : Type) where
  size : Nat
  enc : α → List AV
  dec : List AV → α
  d : α
  /-- Literals of one element are never written. -/
  lit : Bool := false
  /-- Elements hold rows: they cannot be reckoned out of cells. -/
  sl : Bool := false
  /-- Rows that are made keep to their capacity: an append goes in place. -/
  pl : Bool := false
  /-- Rows that are appended to are told as' they were; what comes of an append is told by its length alone. -/
  kp : Bool := false

inductive Ent : Type 1
  | box (cs : List AV) (t : Nat)
  | row {α : Type} (C : Cdc α) (l : List α) (t : Nat) (cap : Option Nat)
  | iter (s : ByteArray) (pos : Nat)
  | defer (b : Nat)
  | loop (b : Nat) (st : LoopState) (pend : Option Code) (fr : Fr) (sz : Nat) (ps : List Nat) (assign body : Code) (df : Nat)
abbrev Mem := List (Nat × Ent)
def getE : Mem → Nat → Option Ent
  | [], _ => none
  | (k, e) :: r, n => match Nat.beq k n with | true => some e | false => getE r n
def setE (n : Nat) (e : Ent) : Mem → Mem
  | [] => []
  | (k, x) :: r => match Nat.beq k n with | true => (k, e) :: r | false => (k, x) :: setE n e r
def Ent.sub (r : Nat) (x : AV) : Ent → Ent
  | .box cs t => .box (AV.subL r x cs) t
  | .row C l t cap => .row C l t cap
  | .iter s p => .iter s p
  | .defer b => .defer b
  | .loop b st pend fr sz ps assign body df => .loop b st pend (subF r x fr) sz ps assign body df
def subM (r : Nat) (x : AV) : Mem → Mem
  | [] => []
  | (k, e) :: l => (k, e.sub r x) :: subM r x l
def delE (n : Nat) : Mem → Mem
  | [] => []
  | (k, x) :: r => match Nat.beq k n with | true => r | false => (k, x) :: delE n r

def RelL (w : World) (E : Env) (cs : List AV) (vs : List Value) : Prop := cs.length = vs.length ∧ ∀ i (h1 : i < cs.length) (h2 : i < vs.length), Rel w E cs[i] vs[i]
theorem RelL.nil (w : World) (E : Env) : RelL w E [] [] := ⟨rfl, fun i h => by simp at h⟩
theorem RelL.cons {w : World} {E : Env} {a : AV} {x : Value} {cs : List AV} {vs : List Value} (h : Rel w E a x) (hl : RelL w E cs vs) : RelL w E (a :: cs) (x :: vs) :=
  ⟨by simp [hl.1], fun i h1 h2 => by cases i with | zero => exact h | succ i => exact hl.2 i (by simpa using h1) (by simpa using h2)⟩
theorem RelL.uncons {w : World} {E : Env} {a : AV} {cs : List AV} {vs : List Value} (h : RelL w E (a :: cs) vs) : ∃ x xs, vs = x :: xs ∧ Rel w E a x ∧ RelL w E cs xs := by
  cases vs with
  | nil => exact absurd h.1 (by simp)
  | cons x xs => exact ⟨x, xs, rfl, h.2 0 (by simp) (by simp), by simpa using h.1, fun i h1 h2 => h.2 (i + 1) (by simpa using h1) (by simpa using h2)⟩
theorem RelL.mono {w w' : World} {E E' : Env} {cs : List AV} {vs : List Value} (h : RelL w E cs vs) (g : Goes E E' w w') : RelL w' E' cs vs := ⟨h.1, fun i h1 h2 => (h.2 i h1 h2).mono g⟩
theorem RelL.sub {w w' : World} {E E' : Env} {r : Nat} {z : AV} {cs : List AV} {vs : List Value} (h : RelL w E cs vs) (g : Turns r E E' w w') (hz : E.dom r → Rel w' E' z (E.h r)) : RelL w' E' (AV.subL r z cs) vs :=
  ⟨(AV.subL_length _ _ _).trans h.1, fun i h1 h2 => by
    rw [AV.subL_get _ _ _ i h1 (by rw [AV.subL_length] at h1; exact h1)]
    exact (h.2 i (by rw [AV.subL_length] at h1; exact h1) h2).sub g hz⟩
theorem RelL.append {w : World} {E : Env} {cs cs' : List AV} {vs vs' : List Value} (h : RelL w E cs vs) (h' : RelL w E cs' vs') : RelL w E (cs ++ cs') (vs ++ vs') := by
  refine ⟨by simp [h.1, h'.1], fun i h1 h2 => ?_⟩
  by_cases hi : i < cs.length
  · rw [List.getElem_append_left hi, List.getElem_append_left (by rw [← h.1]; exact hi)]
    exact h.2 i hi _
  · rw [List.getElem_append_right (by omega), List.getElem_append_right (by have := h.1; omega)]
    have := h.1
    have h1' : i - cs.length < cs'.length := by simp at h1; omega
    have := h'.2 (i - cs.length) h1' (by rw [← h'.1]; exact h1')
    simpa [← h.1] using this

def blk : Value → Option Nat
  | .pointer (some a) => some a.block
  | .slice (some a) _ _ => some a.block
  | _ => none

def FrR (w : World) (E : Env) (fr : Fr) (tm : Array Value) : Prop := ∀ t, Rel w E (getS fr t) (tm.getD t undef)
theorem FrR.mono {w w' : World} {E E' : Env} {fr : Fr} {tm : Array Value} (h : FrR w E fr tm) (g : Goes E E' w w') : FrR w' E' fr tm := fun t => (h t).mono g
theorem FrR.sub {w w' : World} {E E' : Env} {r : Nat} {z : AV} {fr : Fr} {tm : Array Value} (h : FrR w E fr tm) (g : Turns r E E' w w') (hz : E.dom r → Rel w' E' z (E.h r)) : FrR w' E' (subF r z fr) tm :=
  fun t => by rw [getS_subF]; exact (h t).sub g hz

def EntR (base : Nat) (w : World) (E : Env) (id : Nat) : Ent → Prop
  | .box cs t => ∃ b vs, E.h id = .pointer (some ⟨b, 0, none⟩) ∧ w.heap[b]? = some (.cells vs t (0, 0)) ∧ RelL w E cs vs.toList
  | .row C l t cap => (∀ x, (C.enc x).length = C.size) ∧ 0 < C.size ∧ (∃ xs, w.ownsRow base t C.size (E.h id) l.length xs ∧ RelL w E.bare (l.flatMap C.enc) xs) ∧ ∀ m, cap = some m → ∃ A n, E.h id = .slice A n m
  | .iter s pos => ∃ b, E.h id = .pointer (some ⟨b, 0, none⟩) ∧ w.heap[b]? = some (.stringIter s pos)
  | .defer b => E.h id = .pointer (some ⟨b, 0, none⟩) ∧ w.heap[b]? = some (.deferred (some []))
  | .loop b st pend fr sz ps assign body df => ∃ d fn tm, E.h id = .pointer (some ⟨b, 0, none⟩) ∧ E.h df = .pointer (some ⟨d, 0, none⟩) ∧ E.dom df ∧ FrR w E fr tm ∧ tm.size = sz ∧
      w.heap[b]? = some (.loop { state := st, pending := pend, fn, tmps := tm, params := ps.toArray, assign, body, defers := d })

structure Start where
  w : World
  imm : Nat → Prop
structure SatM (base : Nat) (w0 : Start) (E : Env) (stk : List Fr) (gs : List (Array Value)) (m : Mem) (w : World) : Prop where
  below : Below base w0.w w
  hb : base ≤ w0.w.heap.size
  imm : ∀ b, E.imm b → b < w.heap.size
  keep : (∀ b, w0.imm b → E.imm b) ∧ (∀ b, E.imm b → w0.imm b ∨ base ≤ b) ∧ ∀ b, E.lnt b → b < base
  same : ∀ b, w0.imm b → w.heap[b]? = w0.w.heap[b]?
  ents : ∀ id e, (id, e) ∈ m → E.dom id ∧ EntR base w E id e ∧ ∀ b, blk (E.h id) = some b → base ≤ b ∧ ¬ E.imm b ∧ b < w.heap.size
  disj : m.Pairwise fun p q => p.1 ≠ q.1 ∧ ∀ b, blk (E.h p.1) = some b → blk (E.h q.1) ≠ some b
  len : stk.length = gs.length
  stk : ∀ i (h1 : i < stk.length) (h2 : i < gs.length), FrR w E stk[i] gs[i]

theorem mem_of_getE {m : Mem} {n : Nat} {e : Ent} (h : getE m n = some e) : (n, e) ∈ m := by
  induction m with
  | nil => simp [getE] at h
  | cons p r ih =>
    obtain ⟨k, x⟩ := p
    simp only [getE] at h
    cases hb : Nat.beq k n with
    | true => rw [hb] at h; obtain rfl := Nat.eq_of_beq_eq_true hb; obtain rfl := Option.some.inj h; exact List.mem_cons_self
    | false => rw [hb] at h; exact List.mem_cons_of_mem _ (ih h)
theorem SatM.old {base : Nat} {w0 : Start} {w : World} {E : Env} {stk : List Fr} {gs : List (Array Value)} {m : Mem} (h : SatM base w0 E stk gs m w) {b : Nat} (hb : E.imm b ∨ E.lnt b) : b < w.heap.size :=
  hb.elim (h.imm b) fun hb => Nat.lt_of_lt_of_le (h.keep.2.2 b hb) (Nat.le_trans h.hb h.below.size)
theorem SatM.away {base : Nat} {w0 : Start} {w : World} {E : Env} {stk : List Fr} {gs : List (Array Value)} {m : Mem} (h : SatM base w0 E stk gs m w) {id : Nat} {e : Ent} (hm : (id, e) ∈ m) {b : Nat} (hb : blk (E.h id) = some b) {k : Nat} (hk : E.imm k ∨ E.lnt k) : k ≠ b := fun he => by
  subst he
  obtain ⟨h1, h2, _⟩ := (h.ents _ _ hm).2.2 _ hb
  exact hk.elim h2 fun hl => by have := h.keep.2.2 _ hl; omega
theorem SatM.ge {base : Nat} {w0 : Start} {w : World} {E : Env} {stk : List Fr} {gs : List (Array Value)} {m : Mem} (h : SatM base w0 E stk gs m w) : base ≤ w.heap.size := Nat.le_trans h.hb h.below.size

theorem EntR.mono {base : Nat} {w w' : World} {E E' : Env} {id : Nat} {e : Ent} (h : EntR base w E id e) (g : Goes E E' w w') (hid : E.dom id)
    (hk : ∀ b, blk (E.h id) = some b → w'.heap[b]? = w.heap[b]?) : EntR base w' E' id e := by
  have hhid := g.hh id hid
  cases e with
  | box cs t =>
    obtain ⟨b, vs, h1, h2, h3⟩ := h
    exact ⟨b, vs, hhid.trans h1, (hk b (by rw [h1]; rfl)).trans h2, h3.mono g⟩
  | row C l t cap =>
    obtain ⟨hs, h0, ⟨xs, h1, h2⟩, h3⟩ := h
    refine ⟨hs, h0, ⟨xs, ?_, h2.mono (Goes.bare g.hi fun b hb => g.hw b (.inl hb))⟩, by rw [hhid]; exact h3⟩
    rw [hhid]
    refine ⟨h1.1, ?_⟩
    rcases h1.2 with hn | ⟨gg, c, cur, hv, hb, hgg, rest⟩
    · exact .inl hn
    · exact .inr ⟨gg, c, cur, hv, hb, (hk gg (by rw [hv]; rfl)).trans hgg, rest⟩
  | iter s pos =>
    obtain ⟨b, h1, h2⟩ := h
    exact ⟨b, hhid.trans h1, (hk b (by rw [h1]; rfl)).trans h2⟩
  | «defer» b =>
    obtain ⟨h1, h2⟩ := h
    exact ⟨hhid.trans h1, (hk b (by rw [h1]; rfl)).trans h2⟩
  | loop b st pend fr sz ps assign body df =>
    obtain ⟨d, fn, tm, h1, h2, h3, h4, h5, h6⟩ := h
    exact ⟨d, fn, tm, hhid.trans h1, (g.hh df h3).trans h2, g.hn _ h3, h4.mono g, h5, (hk b (by rw [h1]; rfl)).trans h6⟩

theorem EntR.sub {base : Nat} {w w' : World} {E E' : Env} {id r : Nat} {z : AV} {e : Ent} (h : EntR base w E id e) (g : Turns r E E' w w') (hz : E.dom r → Rel w' E' z (E.h r)) (hid : E.dom id) (hne : id ≠ r)
    (hk : ∀ b, blk (E.h id) = some b → w'.heap[b]? = w.heap[b]?) : EntR base w' E' id (e.sub r z) := by
  have hhid := g.hh id hid hne
  cases e with
  | box cs t =>
    obtain ⟨b, vs, h1, h2, h3⟩ := h
    exact ⟨b, vs, hhid.trans h1, (hk b (by rw [h1]; rfl)).trans h2, h3.sub g hz⟩
  | row C l t cap =>
    obtain ⟨hs, h0, ⟨xs, h1, h2⟩, h3⟩ := h
    refine ⟨hs, h0, ⟨xs, ?_, h2.mono (Goes.bare g.hi fun b hb => g.hw b (.inl hb))⟩, by rw [hhid]; exact h3⟩
    rw [hhid]
    refine ⟨h1.1, ?_⟩
    rcases h1.2 with hn | ⟨gg, c, cur, hv, hb, hgg, rest⟩
    · exact .inl hn
    · exact .inr ⟨gg, c, cur, hv, hb, (hk gg (by rw [hv]; rfl)).trans hgg, rest⟩
  | iter s pos =>
    obtain ⟨b, h1, h2⟩ := h
    exact ⟨b, hhid.trans h1, (hk b (by rw [h1]; rfl)).trans h2⟩
  | «defer» b =>
    obtain ⟨h1, h2⟩ := h
    exact ⟨hhid.trans h1, (hk b (by rw [h1]; rfl)).trans h2⟩
  | loop b st pend fr sz ps assign body df =>
    obtain ⟨d, fn, tm, h1, h2, h3, h4, h5, h6⟩ := h
    exact ⟨d, fn, tm, hhid.trans h1, (g.hh df h3 (fun e => g.hr d (e ▸ h2))).trans h2, g.hn _ h3, h4.sub g hz, h5, (hk b (by rw [h1]; rfl)).trans h6⟩

theorem SatM.goes {base : Nat} {w0 : Start} {w w' : World} {E E' : Env} {stk : List Fr} {gs : List (Array Value)} {m : Mem} (h : SatM base w0 E stk gs m w) (hB : Below w.heap.size w w')
    (hh : E'.h = E.h) (hn : E'.dom = E.dom) (hl : E'.lnt = E.lnt) (hi : ∀ b, E.imm b → E'.imm b) (hi2 : ∀ b, E'.imm b → E.imm b ∨ w.heap.size ≤ b) (hi3 : ∀ b, E'.imm b → b < w'.heap.size) : SatM base w0 E' stk gs m w' := by
  have g : Goes E E' w w' := ⟨fun _ _ => by rw [hh], by rw [hn]; exact fun _ h => h, hi, by rw [hl]; exact fun _ h => h, fun b hb => hB.block b (h.old hb)⟩
  refine ⟨h.below.trans (hB.mono h.ge), h.hb, hi3, ⟨fun b hb => hi b (h.keep.1 b hb), fun b hb => (hi2 b hb).elim (h.keep.2.1 b) fun hb => .inr (Nat.le_trans h.ge hb), by rw [hl]; exact h.keep.2.2⟩, fun b hb => (g.hw b (.inl (h.keep.1 b hb))).trans (h.same b hb), fun id e he => ?_, ?_, h.len, fun i h1 h2 => (h.stk i h1 h2).mono g⟩
  · obtain ⟨h1, h2, h3⟩ := h.ents id e he
    refine ⟨by rw [hn]; exact h1, h2.mono g h1 fun b hb => hB.block b (h3 b hb).2.2, fun b hb => ?_⟩
    rw [hh] at hb
    obtain ⟨a1, a2, a3⟩ := h3 b hb
    exact ⟨a1, fun hc => (hi2 b hc).elim a2 (fun hc => by omega), Nat.lt_of_lt_of_le a3 hB.size⟩
  · rw [hh]; exact h.disj
end Go.SX
/- A verified symbolic executor for Go code in the model, part 2: what a step does to memory. -/
namespace Go.SX
open Go.RowKit

def Env.add (E : Env) (n : Nat) (v : Value) : Env := { h := fun i => if i = n then v else E.h i, dom := fun i => i = n ∨ E.dom i, imm := E.imm, lnt := E.lnt }
theorem Env.add_h (E : Env) (n : Nat) (v : Value) : (E.add n v).h n = v := by simp [Env.add]
theorem Env.add_old (E : Env) {n : Nat} (hn : ¬ E.dom n) (v : Value) {i : Nat} (h : E.dom i) : (E.add n v).h i = E.h i := by simp only [Env.add]; rw [if_neg]; intro e; subst e; exact hn h
theorem Goes.add {E : Env} {w w' : World} {n : Nat} (hn : ¬ E.dom n) (v : Value) (hw : ∀ b, E.imm b ∨ E.lnt b → w'.heap[b]? = w.heap[b]?) : Goes E (E.add n v) w w' :=
  ⟨fun _ h => E.add_old hn v h, fun _ h => .inr h, fun _ h => h, fun _ h => h, hw⟩

section
variable {base : Nat} {w0 : Start} {w : World} {E : Env} {stk : List Fr} {gs : List (Array Value)} {m : Mem}

theorem SatM.goesAlloc (h : SatM base w0 E stk gs m w) {n : Nat} (hn : ¬ E.dom n) (o : Obj) (v : Value) : Goes E (E.add n v) w (w.alloc o) :=
  Goes.add hn v fun b hb => RowKit.Below.heap_alloc w o b (h.old hb)

theorem SatM.alloc (h : SatM base w0 E stk gs m w) {n : Nat} (hn : ¬ E.dom n) (o : Obj) (e : Ent) (v : Value) (hv : blk v = some w.heap.size) (he : EntR base (w.alloc o) (E.add n v) n e) :
    SatM base w0 (E.add n v) stk gs ((n, e) :: m) (w.alloc o) := by
  have g := h.goesAlloc hn o v
  refine ⟨h.below.alloc h.ge o, h.hb, fun b hb => ?_, h.keep, fun b hb => (g.hw b (.inl (h.keep.1 b hb))).trans (h.same b hb), fun id e' he' => ?_, ?_, h.len, fun i h1 h2 => (h.stk i h1 h2).mono g⟩
  · have := h.imm b hb; simp; omega
  · rcases List.mem_cons.1 he' with heq | hm
    · cases heq
      refine ⟨by simp [Env.add], he, fun b hb => ?_⟩
      rw [E.add_h, hv] at hb
      cases hb
      exact ⟨h.ge, fun hc => by have := h.imm _ hc; omega, by simp⟩
    · obtain ⟨h1, h2, h3⟩ := h.ents id e' hm
      refine ⟨Or.inr h1, h2.mono g h1 fun b hb => RowKit.Below.heap_alloc w o b (h3 b hb).2.2, fun b hb => ?_⟩
      rw [E.add_old hn v h1] at hb
      obtain ⟨a1, a2, a3⟩ := h3 b hb
      exact ⟨a1, a2, by simp; omega⟩
  · refine List.pairwise_cons.2 ⟨fun q hq => ?_, ?_⟩
    · obtain ⟨h1, _, h3⟩ := h.ents q.1 q.2 hq
      refine ⟨fun e => hn (by have e : n = q.1 := e; rw [e]; exact h1), fun b hb hb2 => ?_⟩
      rw [E.add_h, hv] at hb
      rw [E.add_old hn v h1] at hb2
      cases hb
      have := (h3 _ hb2).2.2
      omega
    · refine h.disj.imp_of_mem fun {p q} hp hq ⟨a1, a2⟩ => ⟨a1, fun b hb => ?_⟩
      rw [E.add_old hn v (h.ents q.1 q.2 hq).1]
      rw [E.add_old hn v (h.ents p.1 p.2 hp).1] at hb
      exact a2 b hb

theorem SatM.name (h : SatM base w0 E stk gs m w) {n : Nat} (hn : ¬ E.dom n) (e : Ent) (v : Value) (hv : blk v = none) (he : EntR base w (E.add n v) n e) :
    SatM base w0 (E.add n v) stk gs ((n, e) :: m) w := by
  have g : Goes E (E.add n v) w w := Goes.add hn v fun _ _ => rfl
  refine ⟨h.below, h.hb, h.imm, h.keep, h.same, fun id e' he' => ?_, ?_, h.len, fun i h1 h2 => (h.stk i h1 h2).mono g⟩
  · rcases List.mem_cons.1 he' with heq | hm
    · cases heq
      exact ⟨by simp [Env.add], he, fun b hb => by rw [E.add_h, hv] at hb; cases hb⟩
    · obtain ⟨h1, h2, h3⟩ := h.ents id e' hm
      refine ⟨Or.inr h1, h2.mono g h1 fun _ _ => rfl, fun b hb => ?_⟩
      rw [E.add_old hn v h1] at hb
      exact h3 b hb
  · refine List.pairwise_cons.2 ⟨fun q hq => ?_, ?_⟩
    · obtain ⟨h1, _, h3⟩ := h.ents q.1 q.2 hq
      refine ⟨fun e => hn (by have e : n = q.1 := e; rw [e]; exact h1), fun b hb => ?_⟩
      rw [E.add_h, hv] at hb
      cases hb
    · refine h.disj.imp_of_mem fun {p q} hp hq ⟨a1, a2⟩ => ⟨a1, fun b hb => ?_⟩
      rw [E.add_old hn v (h.ents q.1 q.2 hq).1]
      rw [E.add_old hn v (h.ents p.1 p.2 hp).1] at hb
      exact a2 b hb

theorem mem_setE {n : Nat} {e : Ent} {id : Nat} {x : Ent} : ∀ {m : Mem}, (id, x) ∈ setE n e m → (id = n ∧ x = e) ∨ (id, x) ∈ m
  | [], h => by simp [setE] at h
  | (k, y) :: r, h => by
    simp only [setE] at h
    cases hb : Nat.beq k n with
    | true =>
      rw [hb] at h
      obtain rfl := Nat.eq_of_beq_eq_true hb
      rcases List.mem_cons.1 h with heq | hm
      · cases heq; exact .inl ⟨rfl, rfl⟩
      · exact .inr (List.mem_cons_of_mem _ hm)
    | false =>
      rw [hb] at h
      rcases List.mem_cons.1 h with heq | hm
      · cases heq; exact .inr List.mem_cons_self
      · exact (mem_setE hm).imp (fun h => h) (List.mem_cons_of_mem _)
theorem setE_names (n : Nat) (e : Ent) : ∀ m : Mem, (setE n e m).map (·.1) = m.map (·.1)
  | [] => rfl
  | (k, y) :: r => by
    simp only [setE]
    cases Nat.beq k n with
    | true => rfl
    | false => simp [setE_names n e r]
theorem subM_names (r : Nat) (z : AV) : ∀ m : Mem, (subM r z m).map (·.1) = m.map (·.1)
  | [] => rfl
  | (k, y) :: l => by simp [subM, subM_names r z l]
theorem mem_subM {r : Nat} {z : AV} {id : Nat} {x : Ent} : ∀ {m : Mem}, (id, x) ∈ subM r z m → ∃ y, (id, y) ∈ m ∧ x = y.sub r z
  | [], h => by simp [subM] at h
  | (k, y) :: l, h => by
    rcases List.mem_cons.1 h with heq | hm
    · cases heq; exact ⟨y, List.mem_cons_self, rfl⟩
    · obtain ⟨y', h1, h2⟩ := mem_subM hm; exact ⟨y', List.mem_cons_of_mem _ h1, h2⟩

theorem disj_names {E : Env} {m : Mem} : (m.Pairwise fun p q => p.1 ≠ q.1 ∧ ∀ b, blk (E.h p.1) = some b → blk (E.h q.1) ≠ some b) ↔ (m.map (·.1)).Pairwise fun p q => p ≠ q ∧ ∀ b, blk (E.h p) = some b → blk (E.h q) ≠ some b := by
  rw [List.pairwise_map]

theorem SatM.apart (h : SatM base w0 E stk gs m w) {i j : Nat} {e f : Ent} (hi : (i, e) ∈ m) (hj : (j, f) ∈ m) (hne : i ≠ j) {b : Nat} (hb : blk (E.h i) = some b) : blk (E.h j) ≠ some b := by
  have key : ∀ {m : Mem}, (m.Pairwise fun p q => p.1 ≠ q.1 ∧ ∀ b, blk (E.h p.1) = some b → blk (E.h q.1) ≠ some b) → (i, e) ∈ m → (j, f) ∈ m → blk (E.h j) ≠ some b := by
    intro m hp
    induction hp with
    | nil => intro h; cases h
    | cons h1 _ ih =>
      intro hi hj
      rcases List.mem_cons.1 hi with e1 | e1 <;> rcases List.mem_cons.1 hj with e2 | e2
      · rw [← e2] at e1; cases e1; exact absurd rfl hne
      · subst e1; exact (h1 _ e2).2 b hb
      · subst e2; intro hc; exact (h1 _ e1).2 b hc hb
      · exact ih e1 e2
  exact key h.disj hi hj
theorem setE_other {n : Nat} {e : Ent} {id : Nat} {x : Ent} : ∀ {m : Mem}, (m.map (·.1)).Nodup → (id, x) ∈ setE n e m → id ≠ n → (id, x) ∈ m
  | [], _, h, _ => by simp [setE] at h
  | (k, y) :: r, hn, h, hne => by
    rcases mem_setE h with ⟨h1, _⟩ | h1
    · exact absurd h1 hne
    · exact h1
theorem setE_self {n : Nat} {e : Ent} {x : Ent} : ∀ {m : Mem}, (m.map (·.1)).Nodup → (n, x) ∈ setE n e m → x = e
  | [], _, h => by simp [setE] at h
  | (k, y) :: r, hn, h => by
    simp only [List.map_cons, List.nodup_cons] at hn
    simp only [setE] at h
    cases hb : Nat.beq k n with
    | true =>
      rw [hb] at h
      obtain rfl := Nat.eq_of_beq_eq_true hb
      rcases List.mem_cons.1 h with heq | hm
      · cases heq; rfl
      · exact absurd (List.mem_map.2 ⟨_, hm, rfl⟩) hn.1
    | false =>
      rw [hb] at h
      rcases List.mem_cons.1 h with heq | hm
      · cases heq; simp at hb
      · exact setE_self hn.2 hm
theorem SatM.nodup (h : SatM base w0 E stk gs m w) : (m.map (·.1)).Nodup := by
  rw [List.Nodup, List.pairwise_map]
  exact h.disj.imp fun h => h.1

theorem SatM.turn (h : SatM base w0 E stk gs m w) {id : Nat} {e e' : Ent} (hm : (id, e) ∈ m) {b : Nat} (hb : blk (E.h id) = some b) {w' : World}
    (ho : w'.os = w.os) (ht : w'.tape = w.tape) (hu : w'.output = w.output) (hz : w'.heap.size = w.heap.size) (hw : ∀ k, k ≠ b → w'.heap[k]? = w.heap[k]?)
    (he : EntR base w' E id e') : SatM base w0 E stk gs (setE id e' m) w' := by
  obtain ⟨hid, _, h3⟩ := h.ents id e hm
  obtain ⟨hb1, hb2, hb3⟩ := h3 b hb
  have g : Goes E E w w' := ⟨fun _ _ => rfl, fun _ h => h, fun _ h => h, fun _ h => h, fun k hk => hw k (fun e => by subst e; exact hk.elim hb2 fun hl => by have := h.keep.2.2 _ hl; omega)⟩
  refine ⟨h.below.trans ⟨ho, ht, hu, by omega, fun k hk => hw k (by omega)⟩, h.hb, fun k hk => by rw [hz]; exact h.imm k hk, h.keep, fun b hb => (g.hw b (.inl (h.keep.1 b hb))).trans (h.same b hb), fun i x hx => ?_, ?_, h.len, fun i h1 h2 => (h.stk i h1 h2).mono g⟩
  · by_cases hi : i = id
    · subst hi
      obtain rfl := setE_self h.nodup hx
      exact ⟨hid, he, fun k hk => by rw [hz]; exact h3 k hk⟩
    · have hx := setE_other h.nodup hx hi
      obtain ⟨a1, a2, a3⟩ := h.ents i x hx
      refine ⟨a1, a2.mono g a1 fun k hk => hw k (fun e => ?_), fun k hk => by rw [hz]; exact a3 k hk⟩
      subst e
      exact h.apart hm hx (Ne.symm hi) hb hk
  · rw [disj_names, setE_names, ← disj_names]; exact h.disj

theorem SatM.rowZ (z : AV) (h : SatM base w0 E stk gs m w) {id : Nat} {e e' : Ent} (hm : (id, e) ∈ m) {E' : Env} {w' : World} (hz : Rel w' E' z (E.h id)) (hE : E' = { E with h := fun i => if i = id then E'.h id else E.h i })
    (hp : ∀ b, E.h id ≠ .pointer (some ⟨b, 0, none⟩)) (hg : w.grownBy w' (blk (E.h id)))
    (hv : ∀ b, blk (E'.h id) = some b → base ≤ b ∧ ¬ E.imm b ∧ b < w'.heap.size ∧ (blk (E.h id) = some b ∨ w.heap.size ≤ b))
    (he : EntR base w' E' id e') : SatM base w0 E' (stk.map (subF id z)) gs (setE id e' (subM id z m)) w' := by
  obtain ⟨hid, _, h3⟩ := h.ents id e hm
  have hnx : E'.dom = E.dom := by rw [hE]
  have him : E'.imm = E.imm := by rw [hE]
  have hoth : ∀ i, i ≠ id → E'.h i = E.h i := fun i hi => by rw [hE]; simp [hi]
  have hlm : E'.lnt = E.lnt := by rw [hE]
  have himm : ∀ k, E.imm k ∨ E.lnt k → w'.heap[k]? = w.heap[k]? := fun k hk => hg.block k (h.old hk) (fun e => hk.elim (h3 k e.symm).2.1 fun hl => by have := h.keep.2.2 _ hl; have := (h3 k e.symm).1; omega)
  have g : Turns id E E' w w' := ⟨fun i _ hi => hoth i hi, hp, by rw [hnx]; exact fun _ h => h, fun b hb => by rw [him]; exact hb, fun b hb => by rw [hlm]; exact hb, himm⟩
  have hj : E.dom id → Rel w' E' z (E.h id) := fun _ => hz
  refine ⟨h.below.trans ⟨hg.os, hg.tape, hg.output, hg.size, fun k hk => hg.block k (by have := h.ge; omega) (fun e => by have := (h3 k e.symm).1; omega)⟩, h.hb,
    fun k hk => by rw [him] at hk; exact Nat.lt_of_lt_of_le (h.imm k hk) hg.size, by rw [him, hlm]; exact h.keep, fun b hb => (himm b (.inl (h.keep.1 b hb))).trans (h.same b hb), fun i x hx => ?_, ?_, by simp [h.len], fun i h1 h2 => ?_⟩
  · by_cases hi : i = id
    · subst hi
      obtain rfl := setE_self (by rw [subM_names]; exact h.nodup) hx
      exact ⟨by rw [hnx]; exact hid, he, fun k hk => by rw [him]; exact ⟨(hv k hk).1, (hv k hk).2.1, (hv k hk).2.2.1⟩⟩
    · have hx := setE_other (by rw [subM_names]; exact h.nodup) hx hi
      obtain ⟨y, hy, rfl⟩ := mem_subM hx
      obtain ⟨a1, a2, a3⟩ := h.ents i y hy
      refine ⟨by rw [hnx]; exact a1, a2.sub g hj a1 hi fun k hk => hg.block k (a3 k hk).2.2 (fun e => h.apart hy hm hi hk e.symm), fun k hk => ?_⟩
      rw [hoth i hi] at hk
      rw [him]
      exact ⟨(a3 k hk).1, (a3 k hk).2.1, Nat.lt_of_lt_of_le (a3 k hk).2.2 hg.size⟩
  · rw [disj_names, setE_names, subM_names, ← disj_names]
    refine h.disj.imp_of_mem fun {p q} hp' hq' ⟨a1, a2⟩ => ⟨a1, fun b hb hc => ?_⟩
    by_cases h1 : p.1 = id
    · have h2 : q.1 ≠ id := fun e => a1 (h1.trans e.symm)
      rw [hoth _ h2] at hc
      rw [h1] at hb
      rcases (hv b hb).2.2.2 with h4 | h4
      · exact h.apart hm hq' (Ne.symm h2) h4 hc
      · have := ((h.ents _ _ hq').2.2 b hc).2.2; omega
    · by_cases h2 : q.1 = id
      · rw [hoth _ h1] at hb
        rw [h2] at hc
        rcases (hv b hc).2.2.2 with h4 | h4
        · exact h.apart hp' hm h1 hb h4
        · have := ((h.ents _ _ hp').2.2 b hb).2.2; omega
      · rw [hoth _ h1] at hb
        rw [hoth _ h2] at hc
        exact a2 b hb hc
  · rw [List.getElem_map]
    exact (h.stk i (by simpa using h1) h2).sub g hj

theorem SatM.row (h : SatM base w0 E stk gs m w) {id : Nat} {e e' : Ent} (hm : (id, e) ∈ m) {E' : Env} {w' : World} (hE : E' = { E with h := fun i => if i = id then E'.h id else E.h i })
    (hp : ∀ b, E.h id ≠ .pointer (some ⟨b, 0, none⟩)) (hg : w.grownBy w' (blk (E.h id)))
    (hv : ∀ b, blk (E'.h id) = some b → base ≤ b ∧ ¬ E.imm b ∧ b < w'.heap.size ∧ (blk (E.h id) = some b ∨ w.heap.size ≤ b))
    (he : EntR base w' E' id e') : SatM base w0 E' (stk.map (subF id .junk)) gs (setE id e' (subM id .junk m)) w' := SatM.rowZ .junk h hm (.junk _) hE hp hg hv he

theorem SatM.less (h : SatM base w0 E stk gs m w) {m' : Mem} (hs : m'.Sublist m) : SatM base w0 E stk gs m' w :=
  ⟨h.below, h.hb, h.imm, h.keep, h.same, fun id e he => h.ents id e (hs.subset he), h.disj.sublist hs, h.len, h.stk⟩
end
end Go.SX
/- A verified symbolic executor for Go code in the model, part 3: types; operations that only read. -/
namespace Go.SX
open Go.RowKit

/-! ### Types -/
theorem RelL.drop {w : World} {E : Env} {cs : List AV} {vs : List Value} (h : RelL w E cs vs) (a : Nat) : RelL w E (cs.drop a) (vs.drop a) :=
  ⟨by simp [h.1], fun i h1 h2 => by
    have := h.2 (a + i) (by simp at h1; omega) (by simp at h2; omega)
    simpa using this⟩
theorem RelL.take {w : World} {E : Env} {cs : List AV} {vs : List Value} (h : RelL w E cs vs) (a : Nat) : RelL w E (cs.take a) (vs.take a) :=
  ⟨by simp [h.1], fun i h1 h2 => by
    have := h.2 i (by simp at h1; omega) (by simp at h2; omega)
    simpa using this⟩
inductive TyD
  | int (k : IntKind)
  | bool
  | str
  | slice (e : Nat)
  | struct (fs : List (Nat × Nat × Nat))
  | array (n e : Nat)
  | other
structure TyR where
  d : TyD
  size : Nat
  bytes : Nat
  zero : List Value
  /-- A struct that is compared field by field. -/
  cmp : Bool
abbrev Tys := List (Nat × TyR)
def getT : Tys → Nat → Option TyR
  | [], _ => none
  | (k, e) :: r, n => match Nat.beq k n with | true => some e | false => getT r n
def TyD.agg : TyD → Bool
  | .struct _ | .array _ _ => true
  | _ => false
def descOf (P : Program) (t : Nat) : TyD → Prop
  | .int k => P.underlying t = some (.int k)
  | .bool => P.underlying t = some .bool
  | .str => P.underlying t = some .string
  | .slice e => P.underlying t = some (.slice e)
  | .struct fs => ∃ fields : Array Field, P.underlying t = some (.struct fields) ∧ fields.toList.map (fun f => (f.offset, f.type)) = fs.map (fun f => (f.1, f.2.2)) ∧
      ∀ f ∈ fs, ∃ i, P.info? f.2.2 = some i ∧ i.size = f.2.1
  | .array n e => P.underlying t = some (.array n e)
  | .other => ∃ d, P.underlying t = some d ∧ (∀ fs, d ≠ .struct fs) ∧ ∀ n e, d ≠ .array n e
structure EqOK (P : Program) (t : Nat) : Prop where
  held : P.stoodInHeld t = false
  guard : P.eqGuardType P.depth t = false
  names : ((P.fieldsOf t).toList.all fun f => f.name != "_") = true
structure TyOK (P : Program) (t : Nat) (r : TyR) : Prop where
  info : ∃ i z, P.info? t = some i ∧ i.size = r.size ∧ i.bytes = r.bytes ∧ i.zero = some z ∧ z.cells = r.zero.toArray ∧ (r.d.agg = true → z = .agg r.zero.toArray)
  desc : descOf P t r.d
  cmp : r.cmp = true → EqOK P t
def TysOK (P : Program) (T : Tys) : Prop := ∀ t r, getT T t = some r → TyOK P t r

theorem TyOK.agg {P : Program} {t : Nat} {r : TyR} (h : TyOK P t r) (w : World) : (isAgg t).run P w = .ok r.d.agg w := by
  have := h.desc
  unfold isAgg
  cases hd : r.d <;> rw [hd] at this <;> simp only [descOf] at this
  case struct fs => obtain ⟨f, h1, _⟩ := this; simp [run_underlying h1, TyD.agg]
  case other =>
    obtain ⟨d, h1, h2, h3⟩ := this
    simp only [Sem.run_bind, run_underlying h1, Result.andThen_ok]
    cases d <;> first | rfl | (exact absurd rfl (h2 _)) | (exact absurd rfl (h3 _ _))
  all_goals simp [run_underlying this, TyD.agg]
theorem TyOK.sizeOf {P : Program} {t : Nat} {r : TyR} (h : TyOK P t r) (w : World) : (sizeOf t).run P w = .ok r.size w := by
  obtain ⟨i, z, h1, h2, _⟩ := h.info
  simp [Go.sizeOf, typeInfo, h1, h2]
theorem TyOK.zero {P : Program} {t : Nat} {r : TyR} (h : TyOK P t r) : ∃ z : Value, z.cells = r.zero.toArray ∧ ∀ w, (zeroValue t).run P w = .ok z w := by
  obtain ⟨i, z, h1, _, _, h4, h5, _⟩ := h.info
  exact ⟨z, h5, fun w => by simp [zeroValue, typeInfo, h1, h4]⟩

/-! ### What is owed -/
abbrev VC := Option Prop
def VC.ok : VC → Prop
  | none => True
  | some p => p
structure Run (p : Prop) : Prop where
  out : p
def VC.and (a b : VC) (k : VC → Prop) : Prop := match a, b with
  | none, none => k none
  | some p, none => k (some p)
  | none, some q => k (some q)
  | some p, some q => k (some (p ∧ q))
theorem VC.and_ok {a b : VC} {k : VC → Prop} (h : VC.and a b k) : ∃ c, k c ∧ (c.ok → a.ok ∧ b.ok) := by
  cases a <;> cases b <;> exact ⟨_, h, by simp [VC.ok]⟩
def VC.out (a : VC) (q : Prop) : Prop := match a with | none => q | some p => p ∧ Run q
def VC.under (g : Bool) (a : VC) (q : Prop) : Prop := match a with | none => q | some p => (g = true → p) ∧ Run q
theorem VC.out_ok {a : VC} {q : Prop} (h : a.out q) : a.ok ∧ q := by
  cases a with
  | none => exact ⟨trivial, h⟩
  | some p => exact ⟨h.1, h.2.out⟩
theorem VC.under_ok {g : Bool} {a : VC} {q : Prop} (h : a.under g q) : (g = true → a.ok) ∧ q := by
  cases a with
  | none => exact ⟨fun _ => trivial, h⟩
  | some p => exact ⟨h.1, h.2.out⟩

/-! ### Values rebuilt -/
def force (x : AV) (k : AV → Prop) : Prop := match x with
  | .v y => k (.v y)
  | .sb b => k (.sb b)
  | .junk => k .junk
  | .cnd c a => k (.cnd c a)
  | .ptr i o => k (.ptr i o)
  | .eptr i a b c => k (.eptr i a b c)
  | .rptr s e d l i o z => k (.rptr s e d l i o z)
  | .own i => k (.own i)
  | .view i s l n => k (.view i s l n)
  | .bsl i n => k (.bsl i n)
  | .ro s e d l c z => k (.ro s e d l c z)
  | .agg c => k (.agg c)
  | .tup c => k (.tup c)
  | .fn f c => k (.fn f c)
  | .yld i => k (.yld i)
  | .sl n => k (.sl n)
theorem force_eq (x : AV) (k : AV → Prop) : force x k = k x := by cases x <;> rfl
def op1 (x : AV) (k : VC → AV → Prop) : Prop := match x with
  | .cnd c a => force a (k (some (c = true)))
  | .v y => k none (.v y)
  | .sb b => k none (.sb b)
  | .junk => k none .junk
  | .ptr i o => k none (.ptr i o)
  | .eptr i a b c => k none (.eptr i a b c)
  | .rptr s e d l i o z => k none (.rptr s e d l i o z)
  | .own i => k none (.own i)
  | .view i s l n => k none (.view i s l n)
  | .bsl i n => k none (.bsl i n)
  | .ro s e d l c z => k none (.ro s e d l c z)
  | .agg c => k none (.agg c)
  | .tup c => k none (.tup c)
  | .fn f c => k none (.fn f c)
  | .yld i => k none (.yld i)
  | .sl n => k none (.sl n)
theorem op1_ok {x : AV} {k : VC → AV → Prop} (h : op1 x k) : ∃ p y, k p y ∧ ∀ w E v, p.ok → Rel w E x v → Rel w E y v := by
  cases x <;> simp only [op1] at h
  case cnd c a =>
    rw [force_eq] at h
    refine ⟨_, _, h, fun w E v hc hr => ?_⟩
    have : c = true := hc
    subst this
    cases hr with
    | cndT h => exact h
  all_goals exact ⟨_, _, h, fun _ _ _ _ h => h⟩

def ev (fr : Fr) : Operand → AV
  | .tmp t => getS fr t
  | .const v => match v with
    | .bool b => .v (.bool b)
    | v => .v v
  | .global g => .v (.pointer (some ⟨g, 0, none⟩))
  | .func f => .fn f []
theorem ev_ok {w : World} {E : Env} {fr : Fr} {a : Act} (h : FrR w E fr a.tmps) (x : Operand) : Rel w E (ev fr x) (a.eval x) := by
  cases x with
  | tmp t => exact h t
  | const v => cases v <;> exact .v _
  | global g => exact .v _
  | func f => exact .fn f rfl fun i h1 => by simp at h1

def nthK : List AV → Nat → (AV → Prop) → Prop
  | [], _, _ => False
  | a :: _, 0, k => force a k
  | _ :: l, n + 1, k => nthK l n k
theorem nthK_ok : ∀ {l : List AV} {n : Nat} {k : AV → Prop}, nthK l n k → ∃ h : n < l.length, k l[n]
  | [], _, _, h => h.elim
  | a :: _, 0, k, h => ⟨by simp, by simpa [nthK, force_eq] using h⟩
  | _ :: l, n + 1, k, h => by
    obtain ⟨h1, h2⟩ := nthK_ok (l := l) (n := n) h
    exact ⟨by simp; omega, by simpa using h2⟩
def dropK : List AV → Nat → (List AV → Prop) → Prop
  | l, 0, k => k l
  | [], _ + 1, _ => False
  | _ :: l, n + 1, k => dropK l n k
theorem dropK_ok : ∀ {l : List AV} {n : Nat} {k : List AV → Prop}, dropK l n k → n ≤ l.length ∧ k (l.drop n)
  | l, 0, k, h => ⟨Nat.zero_le _, by cases l <;> exact h⟩
  | [], _ + 1, _, h => h.elim
  | _ :: l, n + 1, k, h => by
    obtain ⟨h1, h2⟩ := dropK_ok (l := l) (n := n) h
    exact ⟨by simp; omega, by simpa using h2⟩
def takeK : List AV → Nat → (List AV → Prop) → Prop
  | _, 0, k => k []
  | [], _ + 1, _ => False
  | a :: l, n + 1, k => force a fun a => takeK l n fun r => k (a :: r)
theorem takeK_ok : ∀ {l : List AV} {n : Nat} {k : List AV → Prop}, takeK l n k → n ≤ l.length ∧ k (l.take n)
  | l, 0, k, h => ⟨Nat.zero_le _, by cases l <;> simpa [takeK] using h⟩
  | [], _ + 1, _, h => h.elim
  | a :: l, n + 1, k, h => by
    simp only [takeK, force_eq] at h
    obtain ⟨h1, h2⟩ := takeK_ok (l := l) (n := n) h
    exact ⟨by simp; omega, by simpa using h2⟩

/-! ### Whole numbers -/
structure Fits (k : IntKind) (x : Int) : Prop where
  out : k.wrap x = x
theorem Fits.i64 {x : Int} (h : -9223372036854775808 ≤ x) (h' : x ≤ 9223372036854775807) : Fits .i64 x := ⟨IntWalk.i64_in x ⟨h, h'⟩⟩
theorem Fits.i32 {x : Int} (h : -2147483648 ≤ x) (h' : x ≤ 2147483647) : Fits .i32 x := ⟨IntWalk.i32_in x ⟨h, h'⟩⟩
theorem Fits.u8 {x : Int} (h : 0 ≤ x) (h' : x ≤ 255) : Fits .u8 x := ⟨IntWalk.u8_in x ⟨h, h'⟩⟩
def kEq : IntKind → IntKind → Bool
  | .i8, .i8 | .i16, .i16 | .i32, .i32 | .i64, .i64 | .u8, .u8 | .u16, .u16 | .u32, .u32 | .u64, .u64 => true
  | _, _ => false
theorem kEq_eq {a b : IntKind} (h : kEq a b = true) : a = b := by cases a <;> cases b <;> first | rfl | cases h
def IntKind.sgn : IntKind → Bool
  | .i8 | .i16 | .i32 | .i64 => true
  | _ => false
def numK (k : IntKind) (x : Int) (K : VC → AV → Prop) : Prop := match IntKind.sgn k with
  | true => K (some (Fits k x)) (.v (.int k x))
  | false => K none (.v (.int k (k.wrap x)))
theorem numK_ok {k : IntKind} {x : Int} {K : VC → AV → Prop} (h : numK k x K) : ∃ p z, K p z ∧ ∀ w E, p.ok → Rel w E z (.int k (k.wrap x)) := by
  unfold numK at h
  split at h
  · exact ⟨_, _, h, fun w E hp => by rw [Fits.out hp]; exact .v _⟩
  · exact ⟨_, _, h, fun w E _ => .v _⟩

def intBin (op : BinOp) (k : IntKind) (a b : Int) (K : VC → AV → Prop) : Prop := match op with
  | .add => numK k (a + b) K
  | .sub => numK k (a - b) K
  | .mul => numK k (a * b) K
  | .quo => numK k (a.tdiv b) fun p z => p.and (some (b ≠ 0)) fun p => K p z
  | .rem => K (some (b ≠ 0)) (.v (.int k (a.tmod b)))
  | .and => K none (.v (.int k (bits .and k a b)))
  | .or => K none (.v (.int k (bits .or k a b)))
  | .xor => K none (.v (.int k (bits .xor k a b)))
  | .eql => K none (.sb (a == b))
  | .neq => K none (.sb (a != b))
  | .lss => K none (.sb (decide (a < b)))
  | .leq => K none (.sb (decide (a ≤ b)))
  | .gtr => K none (.sb (decide (b < a)))
  | .geq => K none (.sb (decide (b ≤ a)))
  | .shl => numK k (a * 2 ^ b.toNat) fun p z => p.and (some (0 ≤ b ∧ b ≤ k.bits)) fun p => K p z
  | .shr => K (some (0 ≤ b ∧ b ≤ k.bits)) (.v (.int k (a / 2 ^ b.toNat)))
  | _ => False
theorem intBin_ok {P : Program} {op : BinOp} {k : IntKind} {a b : Int} {K : VC → AV → Prop} (h : intBin op k a b K) (t : TypeId) :
    ∃ p z, K p z ∧ ∀ w E, p.ok → ∃ y, (binOp op t (.int k a) (.int k b)).run P w = .ok y w ∧ Rel w E z y := by
  cases op <;> simp only [intBin] at h
  case add => obtain ⟨p, z, h1, h2⟩ := numK_ok h; exact ⟨p, z, h1, fun w E hp => ⟨_, by simp [binOp_add, Op.intArith], h2 w E hp⟩⟩
  case sub => obtain ⟨p, z, h1, h2⟩ := numK_ok h; exact ⟨p, z, h1, fun w E hp => ⟨_, by simp [binOp_sub, Op.intArith], h2 w E hp⟩⟩
  case mul => obtain ⟨p, z, h1, h2⟩ := numK_ok h; exact ⟨p, z, h1, fun w E hp => ⟨_, by simp [binOp_mul, Op.intArith], h2 w E hp⟩⟩
  case quo =>
    obtain ⟨p, z, h1, h2⟩ := numK_ok h
    obtain ⟨c, h3, h4⟩ := VC.and_ok h1
    exact ⟨c, z, h3, fun w E hp => ⟨_, by have : b ≠ 0 := (h4 hp).2; simp [binOp_quo, Op.intDiv, this], h2 w E (h4 hp).1⟩⟩
  case rem => exact ⟨_, _, h, fun w E hp => ⟨_, by have : b ≠ 0 := hp; simp [binOp_rem, Op.intDiv, this], .v _⟩⟩
  case and => exact ⟨_, _, h, fun w E hp => ⟨_, by simp [binOp_and, intBits_and], .v _⟩⟩
  case or => exact ⟨_, _, h, fun w E hp => ⟨_, by simp [binOp_or, intBits_or], .v _⟩⟩
  case xor => exact ⟨_, _, h, fun w E hp => ⟨_, by simp [binOp_xor, intBits_xor], .v _⟩⟩
  case eql => exact ⟨_, _, h, fun w E hp => ⟨_, by simp [binOp_eql], .sb _⟩⟩
  case neq => exact ⟨_, _, h, fun w E hp => ⟨_, by simp [binOp_neq], .sb _⟩⟩
  case lss => exact ⟨_, _, h, fun w E hp => ⟨_, by simp [binOp_lss], .sb _⟩⟩
  case leq => exact ⟨_, _, h, fun w E hp => ⟨_, by simp [binOp_leq], .sb _⟩⟩
  case gtr => exact ⟨_, _, h, fun w E hp => ⟨_, by simp [binOp_gtr], .sb _⟩⟩
  case geq => exact ⟨_, _, h, fun w E hp => ⟨_, by simp [binOp_geq], .sb _⟩⟩
  case shl =>
    obtain ⟨p, z, h1, h2⟩ := numK_ok h
    obtain ⟨c, h3, h4⟩ := VC.and_ok h1
    exact ⟨c, z, h3, fun w E hp => ⟨_, by have := (h4 hp).2; simp [binOp_shl, shift_shl k k a b this.1 this.2], h2 w E (h4 hp).1⟩⟩
  case shr => exact ⟨_, _, h, fun w E hp => ⟨_, by simp [binOp_shr, shift_shr k k a b hp.1 hp.2], .v _⟩⟩

def strBin (op : BinOp) (a b : ByteArray) (K : VC → AV → Prop) : Prop := match op with
  | .eql => K none (.sb (decide (a = b)))
  | .neq => K none (.sb (!decide (a = b)))
  | .lss => K none (.sb (Op.bytesLess a.toList b.toList))
  | .add => K (some (a.size + b.size ≤ 9223372036854775807)) (.v (.string (a ++ b)))
  | _ => False
theorem toList_beq (a b : ByteArray) : (a.toList == b.toList) = decide (a = b) := by
  rw [Bool.eq_iff_iff]
  simp only [beq_iff_eq, decide_eq_true_eq]
  constructor
  · intro h
    rw [ByteArray.toList_eq, ByteArray.toList_eq] at h
    cases a; cases b
    simp_all
  · intro h; rw [h]
theorem strBin_ok {P : Program} {op : BinOp} {a b : ByteArray} {K : VC → AV → Prop} (h : strBin op a b K) (t : TypeId) :
    ∃ p z, K p z ∧ ∀ w E, p.ok → ∃ y, (binOp op t (.string a) (.string b)).run P w = .ok y w ∧ Rel w E z y := by
  cases op <;> simp only [strBin] at h
  case eql => exact ⟨_, _, h, fun w E hp => ⟨.bool (a.toList == b.toList), by simp [binOp, Op.stringOp], by rw [toList_beq]; exact .sb _⟩⟩
  case neq => exact ⟨_, _, h, fun w E hp => ⟨.bool (!(a.toList == b.toList)), by simp [binOp, Op.stringOp], by rw [toList_beq]; exact .sb _⟩⟩
  case lss => exact ⟨_, _, h, fun w E hp => ⟨_, by simp [binOp, Op.stringOp], .sb _⟩⟩
  case add =>
    refine ⟨_, _, h, fun w E hp => ⟨.string (a ++ b), ?_, .v _⟩⟩
    have hp' : a.size + b.size ≤ 9223372036854775807 := hp
    have : ¬ (((a.size + b.size : Nat) : Int) > IntKind.i64.max) := by rw [IntKind.max_i64]; omega
    simp only [binOp, Op.stringOp, if_neg this]
    rfl
end Go.SX
/- A verified symbolic executor for Go code in the model, part 4: operations that only read. -/
namespace Go.SX
open Go.RowKit

def pickV (t : Bool) (a b : AV) (k : AV → Prop) : Prop := match a, b with
  | .sb x, .v (.bool y) => match y with
    | false => k (.sb (t && x))
    | true => k (.sb (!t || x))
  | .v (.bool x), .sb y => match x with
    | true => k (.sb (t || y))
    | false => k (.sb (!t && y))
  | .sb x, .sb y => k (.sb (bif t then x else y))
  | .v (.bool x), .v (.bool y) => k (.sb (bif t then x else y))
  | .v (.int i x), .v (.int j y) => match kEq i j with
    | true => k (.v (.int i (bif t then x else y)))
    | false => False
  | _, _ => False
theorem Rel.sb_inv {w : World} {E : Env} {b : Bool} {v : Value} (h : Rel w E (.sb b) v) : v = .bool b := by cases h; rfl
theorem Rel.v_inv {w : World} {E : Env} {x v : Value} (h : Rel w E (.v x) v) : v = x := by cases h; rfl
theorem pickV_ok {t : Bool} {a b : AV} {k : AV → Prop} (h : pickV t a b k) : ∃ z, k z ∧ ∀ w E x y, (t = true → Rel w E a x) → (t = false → Rel w E b y) → Rel w E z (if t then x else y) := by
  unfold pickV at h
  split at h
  · rename_i x y
    cases y with
    | false => exact ⟨_, h, fun w E u v h1 h2 => by cases t with
        | true => rw [if_pos rfl, (h1 rfl).sb_inv]; simpa using Rel.sb _
        | false => rw [if_neg (by simp), (h2 rfl).v_inv]; exact .sb _⟩
    | true => exact ⟨_, h, fun w E u v h1 h2 => by cases t with
        | true => rw [if_pos rfl, (h1 rfl).sb_inv]; simpa using Rel.sb _
        | false => rw [if_neg (by simp), (h2 rfl).v_inv]; exact .sb _⟩
  · rename_i x y
    cases x with
    | true => exact ⟨_, h, fun w E u v h1 h2 => by cases t with
        | true => rw [if_pos rfl, (h1 rfl).v_inv]; exact .sb _
        | false => rw [if_neg (by simp), (h2 rfl).sb_inv]; simpa using Rel.sb _⟩
    | false => exact ⟨_, h, fun w E u v h1 h2 => by cases t with
        | true => rw [if_pos rfl, (h1 rfl).v_inv]; exact .sb _
        | false => rw [if_neg (by simp), (h2 rfl).sb_inv]; simpa using Rel.sb _⟩
  · exact ⟨_, h, fun w E u v h1 h2 => by cases t with
      | true => rw [if_pos rfl, (h1 rfl).sb_inv]; exact .sb _
      | false => rw [if_neg (by simp), (h2 rfl).sb_inv]; exact .sb _⟩
  · exact ⟨_, h, fun w E u v h1 h2 => by cases t with
      | true => rw [if_pos rfl, (h1 rfl).v_inv]; exact .sb _
      | false => rw [if_neg (by simp), (h2 rfl).v_inv]; exact .sb _⟩
  · rename_i i x j y
    split at h
    · rename_i he
      have := kEq_eq he
      subst this
      exact ⟨_, h, fun w E u v h1 h2 => by cases t with
        | true => rw [if_pos rfl, (h1 rfl).v_inv]; exact .v _
        | false => rw [if_neg (by simp), (h2 rfl).v_inv]; exact .v _⟩
    · exact h.elim
  · exact h.elim

def notMade : AV → Bool
  | .v (.tuple _) => true
  | _ => false
def pickK (fr : Fr) (c a b : Operand) (k : VC → AV → Prop) : Prop := op1 (ev fr c) fun p c => match c with
  | .v (.bool t) => match t with
    | true => op1 (ev fr a) fun q x => p.and q fun p => k p x
    | false => op1 (ev fr b) fun q x => p.and q fun p => k p x
  | .sb t => op1 (ev fr a) fun qa x => op1 (ev fr b) fun qb y => match notMade x with
    | true => p.and (some (t = false)) fun p => p.and qb fun p => k p y
    | false => match notMade y with
      | true => p.and (some (t = true)) fun p => p.and qa fun p => k p x
      | false => match qa, qb with
        | none, none => pickV t x y (k p)
        | some qa, none => p.and (some (t = true → qa)) fun p => pickV t x y (k p)
        | none, some qb => p.and (some (t = false → qb)) fun p => pickV t x y (k p)
        | some qa, some qb => p.and (some ((t = true → qa) ∧ (t = false → qb))) fun p => pickV t x y (k p)
  | _ => False
theorem pickK_ok {P : Program} {fr : Fr} {c a b : Operand} {k : VC → AV → Prop} (h : pickK fr c a b k) :
    ∃ p z, k p z ∧ ∀ w E ac, FrR w E fr (Act.tmps ac) → p.ok → ∃ y, (do pure (if ← asBool (ac.eval c) then ac.eval a else ac.eval b) : Sem Value).run P w = .ok y w ∧ Rel w E z y := by
  obtain ⟨p, c', h, hc⟩ := op1_ok h
  split at h
  · rename_i t
    cases t with
    | true =>
      obtain ⟨q, x, h, hx⟩ := op1_ok h
      obtain ⟨r, h, hr⟩ := VC.and_ok h
      refine ⟨r, x, h, fun w E ac hf hok => ⟨ac.eval a, ?_, hx w E _ (hr hok).2 (ev_ok hf a)⟩⟩
      have := (hc w E _ (hr hok).1 (ev_ok hf c)).v_inv
      simp [this, asBool]
    | false =>
      obtain ⟨q, x, h, hx⟩ := op1_ok h
      obtain ⟨r, h, hr⟩ := VC.and_ok h
      refine ⟨r, x, h, fun w E ac hf hok => ⟨ac.eval b, ?_, hx w E _ (hr hok).2 (ev_ok hf b)⟩⟩
      have := (hc w E _ (hr hok).1 (ev_ok hf c)).v_inv
      simp [this, asBool]
  · rename_i t
    obtain ⟨qa, x, h, hx⟩ := op1_ok h
    obtain ⟨qb, y, h, hy⟩ := op1_ok h
    split at h
    · obtain ⟨r, h, hr⟩ := VC.and_ok h
      obtain ⟨r', h, hr'⟩ := VC.and_ok h
      refine ⟨r', y, h, fun w E ac hf hok => ⟨ac.eval b, ?_, hy w E _ (hr' hok).2 (ev_ok hf b)⟩⟩
      have hp := hr (hr' hok).1
      have ht : t = false := hp.2
      have := (hc w E _ hp.1 (ev_ok hf c)).sb_inv
      simp [this, ht, asBool]
    split at h
    · obtain ⟨r, h, hr⟩ := VC.and_ok h
      obtain ⟨r', h, hr'⟩ := VC.and_ok h
      refine ⟨r', x, h, fun w E ac hf hok => ⟨ac.eval a, ?_, hx w E _ (hr' hok).2 (ev_ok hf a)⟩⟩
      have hp := hr (hr' hok).1
      have ht : t = true := hp.2
      have := (hc w E _ hp.1 (ev_ok hf c)).sb_inv
      simp [this, ht, asBool]
    have key : ∃ r z, k r z ∧ (r.ok → p.ok ∧ (t = true → qa.ok) ∧ (t = false → qb.ok)) ∧ ∀ w E x' y', (t = true → Rel w E x x') → (t = false → Rel w E y y') → Rel w E z (if t then x' else y') := by
      cases qa <;> cases qb <;> simp only at h
      · obtain ⟨z, h1, h2⟩ := pickV_ok h
        exact ⟨p, z, h1, fun hp => ⟨hp, fun _ => trivial, fun _ => trivial⟩, h2⟩
      · obtain ⟨r, h, hr⟩ := VC.and_ok h
        obtain ⟨z, h1, h2⟩ := pickV_ok h
        exact ⟨r, z, h1, fun hp => ⟨(hr hp).1, fun _ => trivial, (hr hp).2⟩, h2⟩
      · obtain ⟨r, h, hr⟩ := VC.and_ok h
        obtain ⟨z, h1, h2⟩ := pickV_ok h
        exact ⟨r, z, h1, fun hp => ⟨(hr hp).1, (hr hp).2, fun _ => trivial⟩, h2⟩
      · obtain ⟨r, h, hr⟩ := VC.and_ok h
        obtain ⟨z, h1, h2⟩ := pickV_ok h
        exact ⟨r, z, h1, fun hp => ⟨(hr hp).1, (hr hp).2.1, (hr hp).2.2⟩, h2⟩
    obtain ⟨r, z, h1, h2, h3⟩ := key
    refine ⟨r, z, h1, fun w E ac hf hok => ⟨if t then ac.eval a else ac.eval b, ?_, h3 w E _ _ (fun ht => hx w E _ ((h2 hok).2.1 ht) (ev_ok hf a)) (fun ht => hy w E _ ((h2 hok).2.2 ht) (ev_ok hf b))⟩⟩
    have := (hc w E _ (h2 hok).1 (ev_ok hf c)).sb_inv
    simp [this, asBool]
  · exact h.elim

/-! ### Equality -/
def boolK (x : AV) (k : Bool → Prop) : Prop := match x with
  | .v (.bool b) => k b
  | .sb b => k b
  | _ => False
theorem boolK_ok {x : AV} {k : Bool → Prop} (h : boolK x k) : ∃ b, k b ∧ ∀ w E v, Rel w E x v → v = .bool b := by
  unfold boolK at h
  split at h
  · exact ⟨_, h, fun _ _ _ hr => hr.v_inv⟩
  · exact ⟨_, h, fun _ _ _ hr => hr.sb_inv⟩
  · exact h.elim
def eqLeaf (d : TyD) (x y : AV) (k : Bool → Prop) : Prop := match d with
  | .int _ => match x, y with
    | .v (.int i a), .v (.int j b) => match kEq i j with
      | true => k (a == b)
      | false => False
    | _, _ => False
  | .str => match x, y with
    | .v (.string a), .v (.string b) => k (decide (a = b))
    | _, _ => False
  | .bool => boolK x fun a => boolK y fun b => k (a == b)
  | _ => False
def eqFs (E : Nat → List AV → List AV → (Bool → Prop) → Prop) : List (Nat × Nat × Nat) → List AV → List AV → (Bool → Prop) → Prop
  | [], _, _, k => k true
  | (o, n, t) :: fs, xs, ys, k => dropK xs o fun a => takeK a n fun a => dropK ys o fun b => takeK b n fun b => E t a b fun r => match fs with
    | [] => k r
    | _ :: _ => eqFs E fs xs ys fun q => k (r && q)
def eqT (T : Tys) : Nat → Nat → List AV → List AV → (Bool → Prop) → Prop
  | 0, _, _, _, _ => False
  | d + 1, t, xs, ys, k => match getT T t with
    | some r => match r.d with
      | .struct fs => match r.cmp with
        | true => eqFs (eqT T d) fs xs ys k
        | false => False
      | .int i => match xs, ys with
        | [x], [y] => eqLeaf (.int i) x y k
        | _, _ => False
      | .str => match xs, ys with
        | [x], [y] => eqLeaf .str x y k
        | _, _ => False
      | .bool => match xs, ys with
        | [x], [y] => eqLeaf .bool x y k
        | _, _ => False
      | _ => False
    | none => False
theorem eqLeaf_ok {P : Program} {T : Tys} (hT : TysOK P T) {t : Nat} {r : TyR} (h1 : getT T t = some r) {x y : AV} {k : Bool → Prop} (h : eqLeaf r.d x y k) :
    r.d.agg = false ∧ ∃ b, k b ∧ ∀ w E (D : Nat) vx vy, Rel w E x vx → Rel w E y vy → (Op.equalIn (D + 1) t vx vy).run P w = .ok b w := by
  have hd := (hT t r h1).desc
  unfold eqLeaf at h
  split at h
  · rename_i i he
    rw [he] at hd
    have hd : P.underlying t = some (.int i) := hd
    split at h
    · rename_i i a j b
      split at h
      · rename_i hk
        have := kEq_eq hk
        subst this
        refine ⟨by rw [he]; rfl, _, h, fun w E D vx vy hx hy => ?_⟩
        rw [hx.v_inv, hy.v_inv]
        exact run_equalIn_int w D t _ _ a b hd
      · exact h.elim
    · exact h.elim
  · rename_i he
    rw [he] at hd
    have hd : P.underlying t = some .string := hd
    split at h
    · rename_i a b
      refine ⟨by rw [he]; rfl, _, h, fun w E D vx vy hx hy => ?_⟩
      rw [hx.v_inv, hy.v_inv, run_equalIn_string w D t a b hd, toList_beq]
    · exact h.elim
  · rename_i he
    rw [he] at hd
    have hd : P.underlying t = some .bool := hd
    obtain ⟨a, h, ha⟩ := boolK_ok h
    obtain ⟨b, h, hb⟩ := boolK_ok h
    refine ⟨by rw [he]; rfl, _, h, fun w E D vx vy hx hy => ?_⟩
    rw [ha _ _ _ hx, hb _ _ _ hy]
    exact run_equalIn_bool' w D t a b hd
  · exact h.elim
theorem run_part_one {P : Program} {T : Tys} (hT : TysOK P T) {t : Nat} {r : TyR} (h1 : getT T t = some r) (hg : r.d.agg = false) {w : World} {E : Env} {x : AV} {A : Array Value} {o n : Nat} (h : RelL w E [x] ((A.toList.drop o).take n)) :
    ∃ v, (part t A o).run P w = .ok v w ∧ Rel w E x v := by
  obtain ⟨v, l, he, hr, _⟩ := h.uncons
  have hv : A[o]? = some v := by
    have h2 : ((A.toList.drop o).take n)[0]? = some v := by rw [he]; rfl
    rw [List.getElem?_take] at h2
    split at h2
    · simpa using h2
    · cases h2
  exact ⟨v, by simp [part, (hT t r h1).agg w, hg, hv], hr⟩
theorem run_part_agg {P : Program} {T : Tys} (hT : TysOK P T) {t : Nat} {r : TyR} (h1 : getT T t = some r) (hg : r.d.agg = true) (w : World) (A : Array Value) (o : Nat) :
    ∃ B : Array Value, (part t A o).run P w = .ok (.agg B) w ∧ B.toList = (A.toList.drop o).take r.size := by
  refine ⟨_, by simp [part, (hT t r h1).agg w, hg, (hT t r h1).sizeOf w]; rfl, ?_⟩
  simp [List.extract_eq_take_drop]
theorem eqFs_ok {P : Program} {T : Tys} (hT : TysOK P T) {d : Nat} (ih : ∀ {t : Nat} {xs ys : List AV} {k : Bool → Prop}, eqT T d t xs ys k → ∃ b r, k b ∧ getT T t = some r ∧ ∀ w E (D : Nat), d ≤ D → ∀ (A B : Array Value) (o : Nat),
      RelL w E xs ((A.toList.drop o).take r.size) → RelL w E ys ((B.toList.drop o).take r.size) → ∃ va vb, (part t A o).run P w = .ok va w ∧ (part t B o).run P w = .ok vb w ∧ (Op.equalIn D t va vb).run P w = .ok b w) :
    ∀ {fs : List (Nat × Nat × Nat)} {xs ys : List AV} {k : Bool → Prop}, eqFs (eqT T d) fs xs ys k → ∃ b, k b ∧ ∀ w E (D : Nat), d ≤ D → ∀ (A B : Array Value) (fields : List Field),
      fields.map (fun f => (f.offset, f.type)) = fs.map (fun f => (f.1, f.2.2)) → (∀ f ∈ fields, f.name ≠ "_") → (∀ f ∈ fs, ∃ i, P.info? f.2.2 = some i ∧ i.size = f.2.1) →
      RelL w E xs A.toList → RelL w E ys B.toList → (Op.eqFields D A B fields).run P w = .ok b w
  | [], xs, ys, k, h => ⟨true, h, fun w E D _ A B fields hm _ _ _ _ => by
    obtain rfl : fields = [] := by simpa using hm
    simp [Op.eqFields]⟩
  | (o, n, t) :: fs, xs, ys, k, h => by
    simp only [eqFs] at h
    have h := (takeK_ok (dropK_ok (takeK_ok (dropK_ok h).2).2).2).2
    obtain ⟨b1, r, h, hr, hb1⟩ := ih h
    have key : ∀ {b2 : Bool}, (∀ w E (D : Nat), d ≤ D → ∀ (A B : Array Value) (fields : List Field), fields.map (fun f => (f.offset, f.type)) = fs.map (fun f => (f.1, f.2.2)) → (∀ f ∈ fields, f.name ≠ "_") → (∀ f ∈ fs, ∃ i, P.info? f.2.2 = some i ∧ i.size = f.2.1) →
        RelL w E xs A.toList → RelL w E ys B.toList → (Op.eqFields D A B fields).run P w = .ok b2 w) → ∀ w E (D : Nat), d ≤ D → ∀ (A B : Array Value) (fields : List Field),
        fields.map (fun f => (f.offset, f.type)) = ((o, n, t) :: fs).map (fun f => (f.1, f.2.2)) → (∀ f ∈ fields, f.name ≠ "_") → (∀ f ∈ (o, n, t) :: fs, ∃ i, P.info? f.2.2 = some i ∧ i.size = f.2.1) →
        RelL w E xs A.toList → RelL w E ys B.toList → (Op.eqFields D A B fields).run P w = .ok (b1 && b2) w := by
      intro b2 hb2 w E D hD A B fields hm hn hi hx hy
      obtain ⟨i, hi1, hi2⟩ := hi _ List.mem_cons_self
      obtain ⟨i', z', hj1, hj2, _⟩ := (hT t r hr).info
      have hsz : n = r.size := by
        have : i = i' := Option.some.inj (hi1.symm.trans hj1)
        subst this
        exact hi2.symm.trans hj2
      subst hsz
      cases fields with
      | nil => simp at hm
      | cons f fields =>
        simp only [List.map_cons, List.cons.injEq, Prod.mk.injEq] at hm
        obtain ⟨⟨ho, ht⟩, hm⟩ := hm
        subst ho ht
        obtain ⟨va, vb, e1, e2, e3⟩ := hb1 w E D hD A B f.offset ((hx.drop _).take _) ((hy.drop _).take _)
        have hrest := hb2 w E D hD A B fields hm (fun g hg => hn g (List.mem_cons_of_mem _ hg)) (fun g hg => hi g (List.mem_cons_of_mem _ hg)) hx hy
        have hne : f.name ≠ "_" := hn f List.mem_cons_self
        simp only [Op.eqFields, ne_eq, hne, not_false_eq_true, if_true, Sem.run_bind, e1, e2, e3, Result.andThen_ok]
        cases b1 with
        | true => simpa using hrest
        | false => simp
    cases fs with
    | nil => exact ⟨b1, h, by simpa using key (b2 := true) (fun w E D _ A B fields hm _ _ _ _ => by
        obtain rfl : fields = [] := by simpa using hm
        simp [Op.eqFields])⟩
    | cons f fs =>
      obtain ⟨b2, h, hb2⟩ := eqFs_ok hT ih h
      exact ⟨_, h, key hb2⟩
theorem eqT_ok {P : Program} {T : Tys} (hT : TysOK P T) : ∀ (d : Nat) {t : Nat} {xs ys : List AV} {k : Bool → Prop}, eqT T d t xs ys k → ∃ b r, k b ∧ getT T t = some r ∧ ∀ w E (D : Nat), d ≤ D →
    (∀ (A B : Array Value) (o : Nat), RelL w E xs ((A.toList.drop o).take r.size) → RelL w E ys ((B.toList.drop o).take r.size) → ∃ va vb, (part t A o).run P w = .ok va w ∧ (part t B o).run P w = .ok vb w ∧ (Op.equalIn D t va vb).run P w = .ok b w) ∧
    (r.d.agg = true → P.eqGuardType P.depth t = false ∧ ∀ (A B : Array Value), RelL w E xs A.toList → RelL w E ys B.toList → (Op.equalIn D t (.agg A) (.agg B)).run P w = .ok b w)
  | 0, _, _, _, _, h => h.elim
  | d + 1, t, xs, ys, k, h => by
    have leaf : ∀ {r : TyR} {x y : AV}, getT T t = some r → xs = [x] → ys = [y] → eqLeaf r.d x y k → ∃ b r, k b ∧ getT T t = some r ∧ ∀ w E (D : Nat), d + 1 ≤ D →
        (∀ (A B : Array Value) (o : Nat), RelL w E xs ((A.toList.drop o).take r.size) → RelL w E ys ((B.toList.drop o).take r.size) → ∃ va vb, (part t A o).run P w = .ok va w ∧ (part t B o).run P w = .ok vb w ∧ (Op.equalIn D t va vb).run P w = .ok b w) ∧
        (r.d.agg = true → P.eqGuardType P.depth t = false ∧ ∀ (A B : Array Value), RelL w E xs A.toList → RelL w E ys B.toList → (Op.equalIn D t (.agg A) (.agg B)).run P w = .ok b w) := by
      intro r x y h1 hx hy h'
      subst hx hy
      obtain ⟨hg, b, hk, hb⟩ := eqLeaf_ok hT h1 h'
      refine ⟨b, r, hk, h1, fun w E D hD => ⟨fun A B o ha hb2 => ?_, fun hc => by rw [hg] at hc; cases hc⟩⟩
      obtain ⟨va, e1, r1⟩ := run_part_one hT h1 hg ha
      obtain ⟨vb, e2, r2⟩ := run_part_one hT h1 hg hb2
      obtain ⟨D, rfl⟩ : ∃ D', D = D' + 1 := ⟨D - 1, by omega⟩
      exact ⟨va, vb, e1, e2, hb w E D va vb r1 r2⟩
    simp only [eqT] at h
    split at h
    · rename_i r h1
      split at h
      · rename_i fs h2
        split at h
        · rename_i hc
          have hcmp := (hT t r h1).cmp hc
          have hdesc := (hT t r h1).desc
          rw [h2] at hdesc
          obtain ⟨fields, hu, hm, hi⟩ := hdesc
          have hff : P.fieldsOf t = fields := by simp [Program.fieldsOf, hu]
          obtain ⟨b, hk, hb⟩ := eqFs_ok hT (fun h => by
            obtain ⟨b, r, e1, e2, e3⟩ := eqT_ok hT d h
            exact ⟨b, r, e1, e2, fun w E D hD => (e3 w E D hD).1⟩) h
          have hnames : ∀ f ∈ fields.toList, f.name ≠ "_" := by
            have := hcmp.names
            rw [hff, List.all_eq_true] at this
            intro f hf
            simpa using this f hf
          have htop : ∀ w E (D : Nat), d + 1 ≤ D → ∀ (A B : Array Value), RelL w E xs A.toList → RelL w E ys B.toList → (Op.equalIn D t (.agg A) (.agg B)).run P w = .ok b w := by
            intro w E D hD A B hA hB
            obtain ⟨D, rfl⟩ : ∃ D', D = D' + 1 := ⟨D - 1, by omega⟩
            rw [run_equalIn_struct w D t A B (by rw [hff]; exact hu) hcmp.held, hff]
            exact hb w E D (by omega) A B fields.toList hm hnames hi hA hB
          have hg : r.d.agg = true := by rw [h2]; rfl
          refine ⟨b, r, hk, h1, fun w E D hD => ⟨fun A B o hA hB => ?_, fun _ => ⟨hcmp.guard, htop w E D hD⟩⟩⟩
          obtain ⟨A', e1, f1⟩ := run_part_agg hT h1 hg w A o
          obtain ⟨B', e2, f2⟩ := run_part_agg hT h1 hg w B o
          exact ⟨_, _, e1, e2, htop w E D hD A' B' (by rw [f1]; exact hA) (by rw [f2]; exact hB)⟩
        · exact h.elim
      · rename_i i h2
        split at h
        · rename_i x y
          exact leaf h1 rfl rfl (by rw [h2]; exact h)
        · exact h.elim
      · rename_i h2
        split at h
        · rename_i x y
          exact leaf h1 rfl rfl (by rw [h2]; exact h)
        · exact h.elim
      · rename_i h2
        split at h
        · rename_i x y
          exact leaf h1 rfl rfl (by rw [h2]; exact h)
        · exact h.elim
      · exact h.elim
    · exact h.elim
def eqlB (T : Tys) (t : Nat) (x y : AV) (k : Bool → Prop) : Prop := match getT T t with
  | some r => match r.d with
    | .struct fs => match r.cmp, x, y with
      | true, .agg xs, .agg ys => eqFs (eqT T 5) fs xs ys k
      | _, _, _ => False
    | .bool => boolK x fun a => boolK y fun b => k (a == b)
    | _ => False
  | none => False
theorem eqlB_ok {P : Program} {T : Tys} (hT : TysOK P T) {t : Nat} {x y : AV} {k : Bool → Prop} (h : eqlB T t x y k) : ∃ b, k b ∧ ∀ w E vx vy, Rel w E x vx → Rel w E y vy →
    (Op.equal t vx vy).run P w = .ok b w ∧ (∀ op ox oy, (eqGuard op t ox oy vx vy).run P w = .ok () w) ∧ ((∃ A B, vx = .agg A ∧ vy = .agg B) ∨ ∃ a b, vx = .bool a ∧ vy = .bool b) := by
  unfold eqlB at h
  split at h
  · rename_i r h1
    have hdesc := (hT t r h1).desc
    split at h
    · rename_i fs h2
      split at h
      · rename_i xs ys hc
        have hcmp := (hT t r h1).cmp hc
        rw [h2] at hdesc
        obtain ⟨fields, hu, hm, hi⟩ := hdesc
        have hff : P.fieldsOf t = fields := by simp [Program.fieldsOf, hu]
        obtain ⟨b, hk, hb⟩ := eqFs_ok hT (fun h => by
          obtain ⟨b, r, e1, e2, e3⟩ := eqT_ok hT 5 h
          exact ⟨b, r, e1, e2, fun w E D hD => (e3 w E D hD).1⟩) h
        have hnames : ∀ f ∈ fields.toList, f.name ≠ "_" := by
          have := hcmp.names
          rw [hff, List.all_eq_true] at this
          intro f hf
          simpa using this f hf
        refine ⟨b, hk, fun w E vx vy hx hy => ?_⟩
        cases hx with
        | @agg _ _ A hl1 hh1 =>
          cases hy with
          | @agg _ _ B hl2 hh2 =>
            refine ⟨?_, fun op ox oy => run_eqGuard_agg w op t ox oy A B hcmp.guard, .inl ⟨_, _, rfl, rfl⟩⟩
            show (Op.equalIn (9999 + 1) t (.agg A) (.agg B)).run P w = _
            rw [run_equalIn_struct w 9999 t A B (by rw [hff]; exact hu) hcmp.held, hff]
            exact hb w E 9999 (by omega) A B fields.toList hm hnames hi ⟨by simpa using hl1, fun i h1 h2 => by simpa using hh1 i h1 (by simpa using h2)⟩ ⟨by simpa using hl2, fun i h1 h2 => by simpa using hh2 i h1 (by simpa using h2)⟩
      · exact h.elim
    · rename_i h2
      rw [h2] at hdesc
      obtain ⟨a, h, ha⟩ := boolK_ok h
      obtain ⟨b, h, hb⟩ := boolK_ok h
      refine ⟨_, h, fun w E vx vy hx hy => ?_⟩
      rw [ha _ _ _ hx, hb _ _ _ hy]
      exact ⟨run_equalIn_bool' w 9999 t a b hdesc, fun op ox oy => by cases op <;> simp [eqGuard], .inr ⟨_, _, rfl, rfl⟩⟩
    · exact h.elim
  · exact h.elim
def eqlK (T : Tys) (op : BinOp) (t : Nat) (x y : AV) (k : VC → AV → Prop) : Prop := match op with
  | .eql => eqlB T t x y fun b => k none (.sb b)
  | .neq => eqlB T t x y fun b => k none (.sb (!b))
  | _ => False
def binK (T : Tys) (op : BinOp) (t : Nat) (x y : AV) (k : VC → AV → Prop) : Prop := match x, y with
  | .v (.int i a), .v (.int j b) => match kEq i j with
    | true => intBin op i a b k
    | false => match op with
      | .shl => numK i (a * 2 ^ b.toNat) fun p z => p.and (some (0 ≤ b ∧ b ≤ i.bits)) fun p => k p z
      | .shr => k (some (0 ≤ b ∧ b ≤ i.bits)) (.v (.int i (a / 2 ^ b.toNat)))
      | _ => False
  | .v (.string a), .v (.string b) => strBin op a b k
  | _, _ => eqlK T op t x y k
theorem eqlK_ok {P : Program} {T : Tys} (hT : TysOK P T) {op : BinOp} {t : Nat} {x y : AV} {k : VC → AV → Prop} (h : eqlK T op t x y k) (ox oy : Operand) :
    ∃ p z, k p z ∧ ∀ w E vx vy, p.ok → Rel w E x vx → Rel w E y vy → ∃ r, (do eqGuard op t ox oy vx vy; binOp op t vx vy : Sem Value).run P w = .ok r w ∧ Rel w E z r := by
  unfold eqlK at h
  split at h
  · obtain ⟨b, hk, hb⟩ := eqlB_ok hT h
    refine ⟨_, _, hk, fun w E vx vy _ hx hy => ?_⟩
    obtain ⟨h1, h2, h3⟩ := hb w E vx vy hx hy
    refine ⟨.bool b, ?_, .sb _⟩
    simp only [Sem.run_bind, h2, Result.andThen_ok]
    rcases h3 with ⟨A, B, rfl, rfl⟩ | ⟨a, b', rfl, rfl⟩ <;> simp [binOp, h1]
  · obtain ⟨b, hk, hb⟩ := eqlB_ok hT h
    refine ⟨_, _, hk, fun w E vx vy _ hx hy => ?_⟩
    obtain ⟨h1, h2, h3⟩ := hb w E vx vy hx hy
    refine ⟨.bool (!b), ?_, .sb _⟩
    simp only [Sem.run_bind, h2, Result.andThen_ok]
    rcases h3 with ⟨A, B, rfl, rfl⟩ | ⟨a, b', rfl, rfl⟩ <;> simp [binOp, h1]
  · exact h.elim
theorem binK_ok {P : Program} {T : Tys} (hT : TysOK P T) {op : BinOp} {t : TypeId} {x y : AV} {k : VC → AV → Prop} (h : binK T op t x y k) (ox oy : Operand) :
    ∃ p z, k p z ∧ ∀ w E vx vy, p.ok → Rel w E x vx → Rel w E y vy → ∃ r, (do eqGuard op t ox oy vx vy; binOp op t vx vy : Sem Value).run P w = .ok r w ∧ Rel w E z r := by
  unfold binK at h
  split at h
  · rename_i i a j b
    split at h
    · rename_i he
      have := kEq_eq he
      subst this
      obtain ⟨p, z, h1, h2⟩ := intBin_ok (P := P) h t
      refine ⟨p, z, h1, fun w E vx vy hp hx hy => ?_⟩
      obtain rfl := hx.v_inv
      obtain rfl := hy.v_inv
      obtain ⟨r, hr, hz⟩ := h2 w E hp
      exact ⟨r, by simp [eqGuard_at_int, hr], hz⟩
    · split at h
      · obtain ⟨p, z, h1, h2⟩ := numK_ok h
        obtain ⟨c, h3, h4⟩ := VC.and_ok h1
        refine ⟨c, z, h3, fun w E vx vy hp hx hy => ?_⟩
        obtain rfl := hx.v_inv
        obtain rfl := hy.v_inv
        have := (h4 hp).2
        exact ⟨_, by simp [eqGuard_at_int, binOp_shl, shift_shl i j a b this.1 this.2], h2 w E (h4 hp).1⟩
      · refine ⟨_, _, h, fun w E vx vy hp hx hy => ?_⟩
        obtain rfl := hx.v_inv
        obtain rfl := hy.v_inv
        exact ⟨_, by simp [eqGuard_at_int, binOp_shr, shift_shr i j a b hp.1 hp.2], .v _⟩
      · exact h.elim
  · rename_i a b
    obtain ⟨p, z, h1, h2⟩ := strBin_ok (P := P) h t
    refine ⟨p, z, h1, fun w E vx vy hp hx hy => ?_⟩
    obtain rfl := hx.v_inv
    obtain rfl := hy.v_inv
    obtain ⟨r, hr, hz⟩ := h2 w E hp
    exact ⟨r, by simp [eqGuard_at_string, hr], hz⟩
  · exact eqlK_ok hT h ox oy

def unK (op : UnOp) (x : AV) (k : VC → AV → Prop) : Prop := match op, x with
  | .not, .sb a => k none (.sb (!a))
  | .not, .v (.bool t) => match t with
    | true => k none (.v (.bool false))
    | false => k none (.v (.bool true))
  | .neg, .v (.int i a) => numK i (0 - a) k
  | _, _ => False
theorem unK_ok {P : Program} {op : UnOp} {x : AV} {k : VC → AV → Prop} (h : unK op x k) :
    ∃ p z, k p z ∧ ∀ w E vx, p.ok → Rel w E x vx → ∃ r, (Op.unary op vx).run P w = .ok r w ∧ Rel w E z r := by
  unfold unK at h
  split at h
  · exact ⟨_, _, h, fun w E vx hp hx => by obtain rfl := hx.sb_inv; exact ⟨_, rfl, .sb _⟩⟩
  · rename_i t
    cases t with
    | true => exact ⟨_, _, h, fun w E vx hp hx => by obtain rfl := hx.v_inv; exact ⟨_, rfl, .v _⟩⟩
    | false => exact ⟨_, _, h, fun w E vx hp hx => by obtain rfl := hx.v_inv; exact ⟨_, rfl, .v _⟩⟩
  · obtain ⟨p, z, h1, h2⟩ := numK_ok h
    exact ⟨p, z, h1, fun w E vx hp hx => by obtain rfl := hx.v_inv; exact ⟨_, by simp [Op.unary, Op.intArith], h2 w E hp⟩⟩
  · exact h.elim

/-! ### Addresses -/
def nthF : List (Nat × Nat × Nat) → Nat → (Nat → Nat → Nat → Prop) → Prop
  | [], _, _ => False
  | (o, s, t) :: _, 0, k => k o s t
  | _ :: l, n + 1, k => nthF l n k
theorem nthF_ok : ∀ {l : List (Nat × Nat × Nat)} {n : Nat} {k : Nat → Nat → Nat → Prop}, nthF l n k → ∃ o s t, l[n]? = some (o, s, t) ∧ k o s t
  | [], _, _, h => h.elim
  | (o, s, t) :: _, 0, k, h => ⟨o, s, t, rfl, h⟩
  | _ :: l, n + 1, k, h => by
    obtain ⟨o, s, t, h1, h2⟩ := nthF_ok (l := l) (n := n) h
    exact ⟨o, s, t, by simpa using h1, h2⟩
def offK (x : AV) (o : Nat) (k : AV → Prop) : Prop := match x with
  | .ptr i a => k (.ptr i (a + o))
  | .eptr i j s a => k (.eptr i j s (a + o))
  | .rptr s e d l i a z => k (.rptr s e d l i (a + o) z)
  | _ => False
def fieldAddrK (T : Tys) (s : Nat) (x : AV) (f : Nat) (k : VC → AV → Prop) : Prop := match getT T s with
  | some r => match r.d with
    | .struct fs => nthF fs f fun o n _ => match n with
      | 0 => False
      | _ + 1 => offK x o (k none)
    | _ => False
  | none => False
theorem run_fieldAt {P : Program} {T : Tys} (hT : TysOK P T) {s f o n t : Nat} {r : TyR} {fs : List (Nat × Nat × Nat)} (h1 : getT T s = some r) (h2 : r.d = .struct fs) (h3 : fs[f]? = some (o, n, t)) (hn : n ≠ 0)
    (b q : Nat) (w : World) : (Instr.fieldAt s (.pointer (some ⟨b, q, none⟩)) f).run P w = .ok (.pointer (some ⟨b, q + o, none⟩)) w := by
  have hd := (hT s r h1).desc
  rw [h2] at hd
  obtain ⟨fields, hu, hm, hi⟩ := hd
  have hf : (fields.toList.map fun f => (f.offset, f.type))[f]? = some (o, t) := by rw [hm, List.getElem?_map, h3]; rfl
  rw [List.getElem?_map] at hf
  obtain ⟨fl, hfl, heq⟩ := Option.map_eq_some_iff.1 hf
  simp only [Prod.mk.injEq] at heq
  obtain ⟨i, hi1, hi2⟩ := hi (o, n, t) (List.mem_of_getElem? h3)
  have hfl' : fields[f]? = some fl := by simpa using hfl
  simp only [Instr.fieldAt, Sem.run_bind, run_underlying hu, Result.andThen_ok, hfl', Instr.sureAddr, Sem.run_pure, fieldPlace, Go.sizeOf, typeInfo, run_program, heq.2, hi1]
  have hne : ¬ i.size = 0 := by rw [hi2]; exact hn
  simp [hne, heq.1, Addr.add_lit]
theorem fieldAddrK_ok {P : Program} {T : Tys} (hT : TysOK P T) {s f : Nat} {x : AV} {k : VC → AV → Prop} (h : fieldAddrK T s x f k) :
    ∃ p z, k p z ∧ ∀ w E vx, Rel w E x vx → ∃ r, (Instr.fieldAt s vx f).run P w = .ok r w ∧ Rel w E z r := by
  unfold fieldAddrK at h
  split at h
  · rename_i r h1
    split at h
    · rename_i fs h2
      obtain ⟨o, n, t, h3, h⟩ := nthF_ok h
      cases n with
      | zero => exact h.elim
      | succ n =>
        simp only at h
        unfold offK at h
        split at h
        · refine ⟨_, _, h, fun w E vx hx => ?_⟩
          cases hx with
          | ptr off ha hb => exact ⟨_, run_fieldAt hT h1 h2 h3 (by simp) _ _ w, .ptr _ ha hb⟩
        · refine ⟨_, _, h, fun w E vx hx => ?_⟩
          cases hx with
          | eptr i size off ha hb => exact ⟨_, run_fieldAt hT h1 h2 h3 (by simp) _ _ w, by rw [Nat.add_assoc]; exact .eptr _ _ _ ha hb⟩
        · refine ⟨_, _, h, fun w E vx hx => ?_⟩
          cases hx with
          | rptr i off y hs hi him hc hr => exact ⟨_, run_fieldAt hT h1 h2 h3 (by simp) _ _ w, by rw [Nat.add_assoc, Nat.add_assoc]; exact .rptr _ _ y hs hi him hc hr⟩
        · exact h.elim
    · exact h.elim
  · exact h.elim

def indexAddrK (T : Tys) (m : Mem) (t : Nat) (x i : AV) (k : VC → AV → Prop) : Prop := match getT T t with
  | some r => match r.d with
    | .slice e => match getT T e with
      | some re => match x, i with
        | .own id, .v (.int _ n) => match getE m id with
          | some (.row C l _ _) => match Nat.beq C.size re.size with
            | true => k (some (0 ≤ n ∧ n < (l.length : Int))) (.eptr id n re.size 0)
            | false => False
          | _ => False
        | .view id s lo u, .v (.int _ n) => match getE m id with
          | some (.row C l _ _) => match Nat.beq C.size re.size, Nat.beq s re.size with
            | true, true => k (some (0 ≤ n ∧ n < (u : Int) ∧ (lo : Int) + n < (l.length : Int))) (.eptr id ((lo : Int) + n) re.size 0)
            | _, _ => False
          | _ => False
        | .ro s e d l _ z, .v (.int _ n) => match Nat.beq s re.size with
          | true => k (some (0 ≤ n ∧ n < (l.length : Int))) (.rptr s e d l n 0 z)
          | false => False
        | .bsl id N, .v (.int _ n) => k (some (0 ≤ n ∧ n < (N : Int))) (.ptr id (n.toNat * re.size))
        | _, _ => False
      | none => False
    | .array len e => match getT T e with
      | some re => match x, i with
        | .ptr id off, .v (.int _ n) => k (some (0 ≤ n ∧ n < (len : Int))) (.ptr id (off + n.toNat * re.size))
        | _, _ => False
      | none => False
    | _ => False
  | none => False
theorem run_indexArr {P : Program} {T : Tys} (hT : TysOK P T) {t e len : Nat} {r re : TyR} (h1 : getT T t = some r) (h2 : r.d = .array len e) (h3 : getT T e = some re) (b o : Nat) (kk : IntKind) (n : Int) (w : World)
    (h0 : 0 ≤ n) (hn : n < (len : Int)) : (Instr.indexAt t (.pointer (some ⟨b, o, none⟩)) (.int kk n)).run P w = .ok (.pointer (some ⟨b, o + n.toNat * re.size, none⟩)) w := by
  have hd := (hT t r h1).desc
  rw [h2] at hd
  have hd : P.underlying t = some (.array len e) := hd
  simp [Instr.indexAt, asIntOf, Instr.sureAddr, run_underlying hd, h0, hn, (hT e re h3).sizeOf w, Addr.add_lit]
theorem run_indexAt {P : Program} {T : Tys} (hT : TysOK P T) {t e : Nat} {r re : TyR} (h1 : getT T t = some r) (h2 : r.d = .slice e) (h3 : getT T e = some re) (b o len cap : Nat) (kk : IntKind) (n : Int) (w : World)
    (h0 : 0 ≤ n) (hn : n < (len : Int)) : (Instr.indexAt t (.slice (some ⟨b, o, none⟩) len cap) (.int kk n)).run P w = .ok (.pointer (some ⟨b, o + n.toNat * re.size, none⟩)) w := by
  have hd := (hT t r h1).desc
  rw [h2] at hd
  have hd : P.underlying t = some (.slice e) := hd
  simp [Instr.indexAt, asIntOf, run_underlying hd, h0, hn, (hT e re h3).sizeOf w, Addr.add_lit]
theorem ownsRow_slice {w : World} {base e size n : Nat} {v : Value} {xs : List Value} (h : w.ownsRow base e size v n xs) (hn : 0 < n) : ∃ g c cur, v = .slice (some ⟨g, 0, none⟩) n c ∧ base ≤ g ∧ w.heap[g]? = some (.cells cur e (0, 0)) ∧ n ≤ c ∧ cur.size = c * size ∧ cur.toList.take (n * size) = xs := by
  rcases h.2 with ⟨_, h0⟩ | ⟨g, c, cur, h1, h2, h3, h4, _, h5, h6⟩
  · omega
  · exact ⟨g, c, cur, h1, h2, h3, h4, h5, h6⟩
theorem indexAddrK_ok {P : Program} {T : Tys} (hT : TysOK P T) {m : Mem} {t : Nat} {x i : AV} {k : VC → AV → Prop} (h : indexAddrK T m t x i k) :
    ∃ p z, k p z ∧ ∀ base w0 E stk gs w vx vi, SatM base w0 E stk gs m w → p.ok → Rel w E x vx → Rel w E i vi → ∃ r, (Instr.indexAt t vx vi).run P w = .ok r w ∧ Rel w E z r := by
  unfold indexAddrK at h
  split at h
  · rename_i r h1
    split at h
    · rename_i e h2
      split at h
      · rename_i re h3
        split at h
        · rename_i id kk n
          split at h
          · rename_i α C l tt cc he
            split at h
            · rename_i hsz
              have hsz := Nat.eq_of_beq_eq_true hsz
              refine ⟨_, _, h, fun base w0 E stk gs w vx vi hS hp hx hi => ?_⟩
              obtain rfl := hi.v_inv
              obtain ⟨hp0, hp1⟩ : 0 ≤ n ∧ n < (l.length : Int) := hp
              cases hx with
              | own hn _ =>
                obtain ⟨_, hR, _⟩ := hS.ents _ _ (mem_of_getE he)
                obtain ⟨_, _, ⟨xs, ho, _⟩, _⟩ := hR
                obtain ⟨g, c, cur, hv, _⟩ := ownsRow_slice ho (by omega)
                rw [hv]
                refine ⟨_, run_indexAt hT h1 h2 h3 g 0 _ c kk n w hp0 hp1, ?_⟩
                have := Rel.eptr (w := w) (E := E) n re.size 0 hn hv
                simpa using this
            · exact h.elim
          · exact h.elim
        · rename_i id sv lo u kk n
          split at h
          · rename_i α C l tt cc he
            split at h
            · rename_i hsz hsv
              have hsz := Nat.eq_of_beq_eq_true hsz
              have hsv := Nat.eq_of_beq_eq_true hsv
              subst hsv
              refine ⟨_, _, h, fun base w0 E stk gs w vx vi hS hp hx hi => ?_⟩
              obtain rfl := hi.v_inv
              obtain ⟨hp0, hp1, hp2⟩ : 0 ≤ n ∧ n < (u : Int) ∧ (lo : Int) + n < (l.length : Int) := hp
              cases hx with
              | view hn hs hle ha =>
                obtain ⟨_, hR, _⟩ := hS.ents _ _ (mem_of_getE he)
                obtain ⟨_, _, ⟨xs, ho, _⟩, _⟩ := hR
                obtain ⟨g, c, cur, hv, _, _, hlc, _⟩ := ownsRow_slice ho (by omega)
                rw [hs] at hv
                simp only [Value.slice.injEq] at hv
                obtain ⟨rfl, rfl, rfl⟩ := hv
                have hA := ha (by omega)
                simp only [Option.map_some, Addr.add_lit, Nat.zero_add] at hA
                rw [hA]
                refine ⟨_, run_indexAt hT h1 h2 h3 g (lo * re.size) _ _ kk n w hp0 hp1, ?_⟩
                have := Rel.eptr (w := w) (E := E) ((lo : Int) + n) re.size 0 hn hs
                have e : ((lo : Int) + n).toNat = lo + n.toNat := by omega
                rw [e, Nat.add_mul] at this
                simpa using this
            · exact h.elim
          · exact h.elim
        · rename_i α s en d l cap z kk n
          split at h
          · rename_i hsz
            have hsz := Nat.eq_of_beq_eq_true hsz
            subst hsz
            refine ⟨_, _, h, fun base w0 E stk gs w vx vi hS hp hx hi => ?_⟩
            obtain rfl := hi.v_inv
            obtain ⟨hp0, hp1⟩ : 0 ≤ n ∧ n < (l.length : Int) := hp
            cases hx with
            | roNil => simp at hp1; omega
            | @ro _ _ _ _ _ _ _ b o c _ y hs hcap hlc him hc hr =>
              refine ⟨_, run_indexAt hT h1 h2 h3 b o _ c kk n w hp0 hp1, ?_⟩
              exact Rel.rptr (w := w) (E := E) n 0 y hs (by omega) him hc hr
          · exact h.elim
        · rename_i id N kk n
          refine ⟨_, _, h, fun base w0 E stk gs w vx vi hS hp hx hi => ?_⟩
          obtain rfl := hi.v_inv
          obtain ⟨hp0, hp1⟩ : 0 ≤ n ∧ n < (N : Int) := hp
          cases hx with
          | bsl _ hn hb =>
            refine ⟨_, run_indexAt hT h1 h2 h3 _ 0 _ _ kk n w hp0 hp1, ?_⟩
            rw [Nat.zero_add]
            exact .ptr _ hn hb
        · exact h.elim
      · exact h.elim
    · rename_i len e h2
      split at h
      · rename_i re h3
        split at h
        · rename_i id off kk n
          refine ⟨_, _, h, fun base w0 E stk gs w vx vi hS hp hx hi => ?_⟩
          obtain rfl := hi.v_inv
          obtain ⟨hp0, hp1⟩ : 0 ≤ n ∧ n < (len : Int) := hp
          cases hx with
          | ptr _ hn hb => exact ⟨_, run_indexArr hT h1 h2 h3 _ off kk n w hp0 hp1, .ptr _ hn hb⟩
        · exact h.elim
      · exact h.elim
    · exact h.elim
  · exact h.elim
end Go.SX
/- A verified symbolic executor for Go code in the model, part 5: loads, slicing, and what else only reads. -/
namespace Go.SX
open Go.RowKit

/-! ### Loads -/
def cellsK (r : TyR) (cs : List AV) (off : Nat) (k : AV → Prop) : Prop := match TyD.agg r.d with
  | true => dropK cs off fun l => takeK l r.size fun l => k (.agg l)
  | false => match r.size with
    | 1 => nthK cs off k
    | _ => False
theorem run_loadVar {P : Program} {T : Tys} (hT : TysOK P T) {t : Nat} {r : TyR} (h1 : getT T t = some r) {w : World} {b o : Nat} {vs : List Value}
    (hc : ∀ j (h : j < vs.length), w.cell? ⟨b, o + j, none⟩ = some vs[j]) (hl : vs.length = r.size) :
    (r.d.agg = true → (loadVar t ⟨b, o, none⟩).run P w = .ok (.agg vs.toArray) w) ∧ (r.d.agg = false → ∀ h : 0 < vs.length, (loadVar t ⟨b, o, none⟩).run P w = .ok vs[0] w) := by
  constructor
  · intro ha
    simp only [loadVar, Sem.run_bind, (hT t r h1).agg w, ha, Result.andThen_ok, if_true, (hT t r h1).sizeOf w]
    have := run_loadCells_list (P := P) w ⟨b, o, none⟩ vs (fun j v hj => by
      obtain ⟨hlt, rfl⟩ := List.getElem?_eq_some_iff.1 hj
      rw [Addr.add_lit]
      exact hc j hlt)
    rw [← hl, this]
    rfl
  · intro ha h0
    simp only [loadVar, Sem.run_bind, (hT t r h1).agg w, ha, Result.andThen_ok, Bool.false_eq_true, if_false, run_load]
    have := hc 0 h0
    simp only [Nat.add_zero] at this
    rw [this]
theorem cellsK_ok {P : Program} {T : Tys} (hT : TysOK P T) {t : Nat} {r : TyR} (h1 : getT T t = some r) {cs : List AV} {off : Nat} {k : AV → Prop} (h : cellsK r cs off k) :
    ∃ z, k z ∧ ∀ w E b o (vs : Nat → Value), (∀ j, j < cs.length → w.cell? ⟨b, o + j, none⟩ = some (vs j)) → (∀ j (hj : j < cs.length), Rel w E cs[j] (vs j)) → ∃ y, (loadVar t ⟨b, o + off, none⟩).run P w = .ok y w ∧ Rel w E z y := by
  unfold cellsK at h
  split at h
  · rename_i ha
    obtain ⟨h2, h⟩ := dropK_ok h
    obtain ⟨h3, h⟩ := takeK_ok h
    refine ⟨_, h, fun w E b o vs hc hr => ?_⟩
    have hlen : ((cs.drop off).take r.size).length = r.size := by rw [List.length_take]; omega
    simp only [List.length_drop] at h3
    have hl := run_loadVar (P := P) hT h1 (w := w) (b := b) (o := o + off) (vs := (List.range r.size).map fun j => vs (off + j)) (fun j hj => by
      simp only [List.length_map, List.length_range] at hj
      simp only [List.getElem_map, List.getElem_range]
      rw [Nat.add_assoc]
      exact hc (off + j) (by omega)) (by simp)
    refine ⟨_, hl.1 ha, .agg (by simp [hlen]) fun i hi1 hi2 => ?_⟩
    simp only [List.getElem_take, List.getElem_drop, List.getElem_toArray, List.getElem_map, List.getElem_range]
    exact hr (off + i) (by rw [hlen] at hi1; omega)
  · rename_i ha
    split at h
    · rename_i hs
      obtain ⟨h2, h⟩ := nthK_ok h
      refine ⟨_, h, fun w E b o vs hc hr => ?_⟩
      have hl := run_loadVar (P := P) hT h1 (w := w) (b := b) (o := o + off) (vs := [vs off]) (fun j hj => by
        simp only [List.length_singleton] at hj
        obtain rfl : j = 0 := by omega
        exact hc off h2) (by simp [hs])
      exact ⟨_, hl.2 ha (by simp), hr off h2⟩
    · exact h.elim

def forceL (l : List AV) (k : List AV → Prop) : Prop := match l with
  | [] => k []
  | a :: r => force a fun a => forceL r fun r => k (a :: r)
def loadK (T : Tys) (m : Mem) (t : Nat) (x : AV) (k : VC → AV → Prop) : Prop := match getT T t with
  | some r => match x with
    | .ptr id off => match getE m id with
      | some (.box cs _) => cellsK r cs off (k none)
      | _ => False
    | .eptr id i s off => match getE m id with
      | some (.row C l _ _) => match Nat.beq C.size s with
        | true => cellsK r (C.enc (l.getD i.toNat C.d)) off (k (some (i.toNat < l.length)))
        | false => False
      | _ => False
    | .rptr _ enc d l i off _ => cellsK r (enc (l.getD i.toNat d)) off (k none)
    | _ => False
  | none => False
theorem RelL.get {w : World} {E : Env} {cs : List AV} {vs : Array Value} (h : RelL w E cs vs.toList) (j : Nat) (hj : j < cs.length) : Rel w E cs[j] (vs.getD j undef) := by
  have hj2 : j < vs.toList.length := by rw [← h.1]; exact hj
  have := h.2 j hj hj2
  have h3 : vs.getD j undef = vs.toList[j] := by simp at hj2; simp [hj2]
  rw [h3]
  exact this
theorem flatMap_get {α : Type} (enc : α → List AV) (n : Nat) (hs : ∀ x, (enc x).length = n) : ∀ (l : List α) (i j : Nat) (hi : i < l.length) (hj : j < n), (l.flatMap enc)[i * n + j]? = (enc l[i])[j]?
  | [], i, j, hi, _ => by simp at hi
  | a :: l, 0, j, _, hj => by simp only [List.flatMap_cons, Nat.zero_mul, Nat.zero_add, List.getElem_cons_zero]; rw [List.getElem?_append_left (by rw [hs]; exact hj)]
  | a :: l, i + 1, j, hi, hj => by
    simp only [List.flatMap_cons, List.getElem_cons_succ]
    rw [List.getElem?_append_right (by rw [hs, Nat.add_mul]; omega), hs, show (i + 1) * n + j - n = i * n + j by rw [Nat.add_mul]; omega]
    exact flatMap_get enc n hs l i j (by simpa using hi) hj
theorem flatMap_len {α : Type} (enc : α → List AV) (n : Nat) (hs : ∀ x, (enc x).length = n) (l : List α) : (l.flatMap enc).length = l.length * n := by
  induction l with
  | nil => simp
  | cons a l ih => simp [hs, ih, Nat.add_mul, Nat.add_comm]
theorem row_cells {base : Nat} {w : World} {E : Env} {α : Type} {C : Cdc α} {l : List α} {t : Nat} {v : Value} {xs : List Value} {g n c : Nat}
    (hs : ∀ x, (C.enc x).length = C.size) (ho : w.ownsRow base t C.size v l.length xs) (hr : RelL w E (l.flatMap C.enc) xs) (hv : v = .slice (some ⟨g, 0, none⟩) n c) (i : Nat) (hi : i < l.length) (j : Nat) (hj : j < C.size) :
    ∃ y, w.cell? ⟨g, i * C.size + j, none⟩ = some y ∧ Rel w E ((C.enc l[i])[j]'(by rw [hs]; exact hj)) y := by
  have hlen := flatMap_len C.enc C.size hs l
  have hlt : i * C.size + j < (l.flatMap C.enc).length := by
    rw [hlen]
    calc i * C.size + j < i * C.size + C.size := by omega
      _ = (i + 1) * C.size := by rw [Nat.add_mul]; omega
      _ ≤ l.length * C.size := Nat.mul_le_mul_right _ (by omega)
  have hlt2 : i * C.size + j < xs.length := by rw [← hr.1]; exact hlt
  refine ⟨xs[i * C.size + j], ?_, ?_⟩
  · have := ho.cells (g := g) (by rw [hv]; rfl) (i * C.size + j) xs[i * C.size + j] (by simp [hlt2])
    rwa [Addr.add_lit, Nat.zero_add] at this
  · have h1 := hr.2 (i * C.size + j) hlt hlt2
    have h2 := flatMap_get C.enc C.size hs l i j hi hj
    rw [List.getElem?_eq_getElem hlt, List.getElem?_eq_getElem (by rw [hs]; exact hj)] at h2
    rw [← Option.some.inj h2]
    exact h1
theorem Rel.unbare {w : World} {E : Env} {a : AV} {x : Value} (h : Rel w E.bare a x) : Rel w E a x := h.mono ⟨fun _ h => False.elim h, fun _ h => False.elim h, fun _ h => h, fun _ h => False.elim h, fun _ _ => rfl⟩
theorem Rel.unbz {w : World} {E : Env} {z : Bool} {a : AV} {x : Value} (h : Rel w (E.bz z) a x) : Rel w E a x := by
  cases z with
  | true => exact h.mono ⟨fun _ h => False.elim h, fun _ h => False.elim h, fun _ h => h, fun _ h => h, fun _ _ => rfl⟩
  | false => exact h.mono ⟨fun _ h => False.elim h, fun _ h => False.elim h, fun _ h => h, fun _ h => False.elim h, fun _ _ => rfl⟩
theorem loadK_ok {P : Program} {T : Tys} (hT : TysOK P T) {m : Mem} {t : Nat} {x : AV} {k : VC → AV → Prop} (h : loadK T m t x k) :
    ∃ p z, k p z ∧ ∀ base w0 E stk gs w vx, SatM base w0 E stk gs m w → p.ok → Rel w E x vx → ∃ r, (Instr.loadAt t vx).run P w = .ok r w ∧ Rel w E z r := by
  unfold loadK at h
  split at h
  · rename_i r h1
    split at h
    · rename_i id off
      split at h
      · rename_i cs tt he
        obtain ⟨z, h, hz⟩ := cellsK_ok hT h1 h
        refine ⟨_, z, h, fun base w0 E stk gs w vx hS _ hx => ?_⟩
        cases hx with
        | ptr _ ha hb =>
          obtain ⟨_, ⟨b', vs, h2, h3, h4⟩, _⟩ := hS.ents _ _ (mem_of_getE he)
          rw [hb] at h2
          cases h2
          obtain ⟨y, hy1, hy2⟩ := hz w E _ 0 (fun j => vs.getD j undef) (fun j hj => by
            have hj2 : j < vs.size := by have := h4.1; simp at this; omega
            rw [Nat.zero_add, cell_of_row w _ j vs tt (0, 0) h3]
            simp [hj2]) (fun j hj => h4.get j hj)
          rw [Nat.zero_add] at hy1
          exact ⟨y, by simp [Instr.loadAt, Instr.sureAddr, hy1], hy2⟩
      · exact h.elim
    · rename_i id i s off
      split at h
      · rename_i α C l tt cc he
        split at h
        · rename_i hsz
          have hsz := Nat.eq_of_beq_eq_true hsz
          subst hsz
          obtain ⟨z, h, hz⟩ := cellsK_ok hT h1 h
          refine ⟨_, z, h, fun base w0 E stk gs w vx hS hp hx => ?_⟩
          have hp : i.toNat < l.length := hp
          cases hx with
          | eptr _ _ _ ha hb =>
            obtain ⟨_, ⟨hs, h0, ⟨xs, ho, hr⟩, _⟩, _⟩ := hS.ents _ _ (mem_of_getE he)
            have hget : l.getD i.toNat C.d = l[i.toNat] := by simp [List.getD, hp]
            rw [hget] at hz
            have hcell := fun j (hj : j < C.size) => row_cells hs ho hr hb i.toNat hp j hj
            have hex : ∃ ys : Nat → Value, ∀ j (hj : j < C.size), w.cell? ⟨_, i.toNat * C.size + j, none⟩ = some (ys j) ∧ Rel w E.bare ((C.enc l[i.toNat])[j]'(by rw [hs]; exact hj)) (ys j) :=
              ⟨fun j => if hj : j < C.size then Classical.choose (hcell j hj) else undef, fun j hj => by simp only [hj, dif_pos]; exact Classical.choose_spec (hcell j hj)⟩
            obtain ⟨ys, hys⟩ := hex
            obtain ⟨y, hy1, hy2⟩ := hz w E _ (i.toNat * C.size) ys (fun j hj => (hys j (by rw [hs] at hj; exact hj)).1) (fun j hj => (hys j (by rw [hs] at hj; exact hj)).2.unbare)
            exact ⟨y, by simp [Instr.loadAt, Instr.sureAddr, hy1], hy2⟩
        · exact h.elim
      · exact h.elim
    · rename_i α s en d l i off z'
      obtain ⟨z, h, hz⟩ := cellsK_ok hT h1 h
      refine ⟨_, z, h, fun base w0 E stk gs w vx hS _ hx => ?_⟩
      cases hx with
      | @rptr _ _ _ _ _ _ b o _ _ _ y hs hi him hc hr =>
        have hget : l.getD i.toNat d = l[i.toNat] := by simp [List.getD, hi]
        rw [hget] at hz
        obtain ⟨y', hy1, hy2⟩ := hz w E b (o + i.toNat * s) (y i.toNat) (fun j hj => by rw [Nat.add_assoc]; exact hc _ j hi (by rw [hs] at hj; exact hj)) (fun j hj => (hr _ hi j hj).unbz)
        refine ⟨y', ?_, hy2⟩
        rw [Nat.add_assoc] at hy1
        simp [Instr.loadAt, Instr.sureAddr, hy1]
    · exact h.elim
  · exact h.elim

/-! ### Strings: a byte, a part -/
def byteAt (s : ByteArray) (i : Int) : Int := ((s.data.toList.getD i.toNat 0).toNat : Int)
def indexK (x i : AV) (k : VC → AV → Prop) : Prop := match x, i with
  | .v (.string s), .v (.int _ n) => k (some (0 ≤ n ∧ n < (s.size : Int))) (.v (.int .u8 (byteAt s n)))
  | _, _ => False
theorem indexK_ok {P : Program} {T : Tys} (hT : TysOK P T) {t : Nat} {r : TyR} (h1 : getT T t = some r) (h2 : r.d = .str) {x i : AV} {k : VC → AV → Prop} (h : indexK x i k) :
    ∃ p z, k p z ∧ ∀ w E vx vi, p.ok → Rel w E x vx → Rel w E i vi → ∃ y, (Instr.index t vx vi).run P w = .ok y w ∧ Rel w E z y := by
  unfold indexK at h
  split at h
  · rename_i s kk n
    refine ⟨_, _, h, fun w E vx vi hp hx hi => ?_⟩
    obtain rfl := hx.v_inv
    obtain rfl := hi.v_inv
    obtain ⟨hp0, hp1⟩ : 0 ≤ n ∧ n < (s.size : Int) := hp
    have hd := (hT t r h1).desc
    rw [h2] at hd
    have hd : P.underlying t = some .string := hd
    have hlt : n.toNat < s.size := by omega
    have hlt2 : n.toNat < s.data.size := hlt
    refine ⟨.int .u8 (byteAt s n), ?_, .v _⟩
    have hsome : s[n.toNat]? = some (s.data.toList.getD n.toNat 0) := by
      rw [getElem?_pos s n.toNat hlt]
      have h3 : s.data.toList[n.toNat]? = some (s.data.toList[n.toNat]'(by simpa using hlt2)) := List.getElem?_eq_getElem _
      have h4 : s.data.toList.getD n.toNat 0 = s.data.toList[n.toNat]'(by simpa using hlt2) := by simp [List.getD, h3]
      rw [h4]
      rfl
    simp only [Instr.index, asIntOf, Sem.run_bind, Sem.run_pure, Result.andThen_ok, run_underlying hd, hp0, if_true, hsome, byteAt]
  · exact h.elim

def intOpt (fr : Fr) (o : Option Operand) (k : VC → Option Int → Prop) : Prop := match o with
  | none => k none none
  | some x => op1 (ev fr x) fun p x => match x with
    | .v (.int _ n) => k p (some n)
    | _ => False
def sliceStrK (s : ByteArray) (lo hi : Option Int) (k : VC → AV → Prop) : Prop := match lo, hi with
  | some a, some b => k (some (0 ≤ a ∧ a ≤ b ∧ b ≤ (s.size : Int))) (.v (.string (s.extract a.toNat b.toNat)))
  | some a, none => k (some (0 ≤ a ∧ a ≤ (s.size : Int))) (.v (.string (s.extract a.toNat s.size)))
  | none, some b => k (some (0 ≤ b ∧ b ≤ (s.size : Int))) (.v (.string (s.extract 0 b.toNat)))
  | none, none => k none (.v (.string s))
def sliceRoK (s : Nat) {α : Type} (en : α → List AV) (d : α) (l : List α) (cap : Option Nat) (lo hi mx : Option Int) (z : Bool) (k : VC → AV → Prop) : Prop := match lo, hi, mx with
  | some a, some b, none => k (some (0 ≤ a ∧ a ≤ b ∧ b ≤ (l.length : Int))) (.ro s en d ((l.drop a.toNat).take (b.toNat - a.toNat)) none z)
  | some a, none, none => k (some (0 ≤ a ∧ a ≤ (l.length : Int))) (.ro s en d (l.drop a.toNat) none z)
  | none, some b, none => k (some (0 ≤ b ∧ b ≤ (l.length : Int))) (.ro s en d (l.take b.toNat) none z)
  | none, none, none => k none (.ro s en d l cap z)
  | some a, some b, some c => k (some (0 ≤ a ∧ a ≤ b ∧ b ≤ c ∧ c ≤ (l.length : Int))) (.ro s en d ((l.drop a.toNat).take (b.toNat - a.toNat)) (some (c.toNat - a.toNat)) z)
  | none, some b, some c => k (some (0 ≤ b ∧ b ≤ c ∧ c ≤ (l.length : Int))) (.ro s en d (l.take b.toNat) (some c.toNat) z)
  | _, _, _ => False
theorem run_slice_str {P : Program} {T : Tys} (hT : TysOK P T) {t : Nat} {r : TyR} (h1 : getT T t = some r) (h2 : r.d = .str) (s : ByteArray) (lo hi : Option Value) (l h : Nat) (w : World)
    (hb : (Instr.sliceBounds false s.size s.size lo hi none).run P w = .ok (l, h, s.size) w) : (Instr.sliceAt t (.string s) lo hi none).run P w = .ok (.string (s.extract l h)) w := by
  have hd := (hT t r h1).desc
  rw [h2] at hd
  have hd : P.underlying t = some .string := hd
  simp [Instr.sliceAt, Instr.slice, run_underlying hd, hb]
theorem run_bound {P : Program} (k : IntKind) (i : Int) (y : Nat) (code : BoundsCode) (h0 : 0 ≤ i) (h1 : i ≤ (y : Int)) (w : World) : (Instr.sliceBound (.int k i) y code).run P w = .ok i.toNat w := by
  simp [Instr.sliceBound, asIntOf, h0, h1]
theorem sliceStrK_ok {P : Program} {T : Tys} (hT : TysOK P T) {t : Nat} {r : TyR} (h1 : getT T t = some r) (h2 : r.d = .str) {s : ByteArray} {lo hi : Option Int} {k : VC → AV → Prop} (h : sliceStrK s lo hi k) :
    ∃ p z, k p z ∧ ∀ w E (kl kh : IntKind), p.ok → ∃ y, (Instr.sliceAt t (.string s) (lo.map (.int kl)) (hi.map (.int kh)) none).run P w = .ok y w ∧ Rel w E z y := by
  unfold sliceStrK at h
  cases lo <;> cases hi <;> simp only at h <;> refine ⟨_, _, h, fun w E kl kh hp => ?_⟩
  · refine ⟨_, run_slice_str hT h1 h2 s _ _ 0 s.size w (by simp [Instr.sliceBounds]), ?_⟩
    have : s.extract 0 s.size = s := by simp
    rw [this]
    exact .v _
  · rename_i b
    obtain ⟨h3, h4⟩ : 0 ≤ b ∧ b ≤ (s.size : Int) := hp
    exact ⟨_, run_slice_str hT h1 h2 s _ _ 0 b.toNat w (by simp [Instr.sliceBounds, run_bound _ _ _ _ h3 h4]), .v _⟩
  · rename_i a
    obtain ⟨h3, h4⟩ : 0 ≤ a ∧ a ≤ (s.size : Int) := hp
    exact ⟨_, run_slice_str hT h1 h2 s _ _ a.toNat s.size w (by simp [Instr.sliceBounds, run_bound _ _ _ _ h3 h4]), .v _⟩
  · rename_i a b
    obtain ⟨h3, h4, h5⟩ : 0 ≤ a ∧ a ≤ b ∧ b ≤ (s.size : Int) := hp
    exact ⟨_, run_slice_str hT h1 h2 s _ _ a.toNat b.toNat w (by
      have h6 : a ≤ (b.toNat : Int) := by omega
      simp [Instr.sliceBounds, run_bound _ _ _ _ (show 0 ≤ b by omega) h5, run_bound _ _ _ _ h3 h6]), .v _⟩

theorem run_slice_row {P : Program} {T : Tys} (hT : TysOK P T) {t e : Nat} {r re : TyR} (h1 : getT T t = some r) (h2 : r.d = .slice e) (h3 : getT T e = some re) (A : Option Addr) (len cap : Nat) (lo hi mx : Option Value) (l h m : Nat) (w : World)
    (hb : (Instr.sliceBounds true len cap lo hi mx).run P w = .ok (l, h, m) w) : (Instr.sliceAt t (.slice A len cap) lo hi mx).run P w = .ok (.slice (if m = l then A else A.map (·.add (l * re.size))) (h - l) (m - l)) w := by
  have hd := (hT t r h1).desc
  rw [h2] at hd
  have hd : P.underlying t = some (.slice e) := hd
  simp [Instr.sliceAt, Instr.slice, run_underlying hd, hb, (hT e re h3).sizeOf w]
theorem Rel.part {w : World} {E : Env} {α : Type} {s : Nat} {en : α → List AV} {d : α} {L : List α} {cap : Option Nat} {v : Value} {z : Bool} (hv : Rel w E (.ro s en d L cap z) v) (l h m : Nat) (hlh : l ≤ h) (hh : h ≤ L.length) (hm : h ≤ m)
    (ncap : Option Nat) (hn : ∀ q, ncap = some q → m - l = q) : ∃ A n c, v = .slice A n c ∧ n = L.length ∧ L.length ≤ c + (if L = [] then L.length else 0) ∧ (∀ q, cap = some q → c = q) ∧
      Rel w E (.ro s en d ((L.drop l).take (h - l)) ncap z) (.slice (if m = l then A else A.map (·.add (l * s))) (h - l) (m - l)) := by
  cases hv with
  | roNil _ _ _ _ A c hs hc =>
    refine ⟨A, 0, c, rfl, rfl, by simp, hc, ?_⟩
    have h0 : h = 0 := by simpa using hh
    subst h0
    have : l = 0 := by omega
    subst this
    simp only [List.drop_nil, List.take_nil]
    exact .roNil s en d ncap _ _ hs hn
  | @ro _ _ _ _ _ _ _ b o c _ y hs hcap hlc him hc hr =>
    refine ⟨_, _, c, rfl, rfl, by omega, hcap, ?_⟩
    by_cases hz : h = l
    · subst hz
      simp only [Nat.sub_self, List.take_zero]
      exact .roNil s en d ncap _ _ hs hn
    · have hne : ¬ m = l := by omega
      have hlen : ((L.drop l).take (h - l)).length = h - l := by simp; omega
      rw [if_neg hne]
      simp only [Option.map_some, Addr.add_lit]
      have := Rel.ro (w := w) (E := E) (size := s) (enc := en) (d := d) (l := (L.drop l).take (h - l)) (cap := ncap) (b := b) (o := o + l * s) (c := m - l) (fun j k => y (l + j) k) hs hn (by omega) him
        (fun j k hj hk => by
          rw [hlen] at hj
          have := hc (l + j) k (by omega) hk
          rw [show o + l * s + (j * s + k) = o + ((l + j) * s + k) by rw [Nat.add_mul]; omega]
          exact this)
        (fun j hj k hk => by
          have hj' : l + j < L.length := by rw [hlen] at hj; omega
          have he : ((L.drop l).take (h - l))[j] = L[l + j] := by simp
          have := hr (l + j) hj' k (by rw [he] at hk; exact hk)
          simp only [he]
          exact this)
      rw [hlen] at this
      exact this
theorem sliceRoK_ok {P : Program} {T : Tys} (hT : TysOK P T) {t e : Nat} {r re : TyR} (h1 : getT T t = some r) (h2 : r.d = .slice e) (h3 : getT T e = some re) {α : Type} {en : α → List AV} {d : α} {L : List α} {cap : Option Nat}
    {lo hi mx : Option Int} {zz : Bool} {k : VC → AV → Prop} (h : sliceRoK re.size en d L cap lo hi mx zz k) :
    ∃ p z, k p z ∧ ∀ w E v (kl kh km : IntKind), p.ok → Rel w E (.ro re.size en d L cap zz) v → ∃ y, (Instr.sliceAt t v (lo.map (.int kl)) (hi.map (.int kh)) (mx.map (.int km))).run P w = .ok y w ∧ Rel w E z y := by
  have lencap : ∀ {A : Option Addr} {n c : Nat} {q : Nat}, n = L.length → L.length ≤ c + (if L = [] then L.length else 0) → q ≤ L.length → q ≤ c := by
    intro A n c q h1 h2 h3
    by_cases hl : L = []
    · subst hl; simp at h3; omega
    · rw [if_neg hl] at h2; omega
  unfold sliceRoK at h
  split at h
  · rename_i a b
    refine ⟨_, _, h, fun w E v kl kh km hp hv => ?_⟩
    obtain ⟨p1, p2, p3⟩ : 0 ≤ a ∧ a ≤ b ∧ b ≤ (L.length : Int) := hp
    obtain ⟨A, n, c, rfl, hn, hc, _, _⟩ := hv.part a.toNat b.toNat b.toNat (by omega) (by omega) (Nat.le_refl _) none (by simp)
    have hbc : b.toNat ≤ c := lencap (A := A) hn hc (by omega)
    obtain ⟨A', n', c', he, _, _, _, hr⟩ := hv.part a.toNat b.toNat c (by omega) (by omega) hbc none (by simp)
    cases he
    refine ⟨_, run_slice_row hT h1 h2 h3 A n c _ _ _ a.toNat b.toNat c w ?_, hr⟩
    have h6 : a ≤ (b.toNat : Int) := by omega
    have h7 : b ≤ (c : Int) := by omega
    simp [Instr.sliceBounds, run_bound _ _ _ _ (show 0 ≤ b by omega) h7, run_bound _ _ _ _ p1 h6]
  · rename_i a
    refine ⟨_, _, h, fun w E v kl kh km hp hv => ?_⟩
    obtain ⟨p1, p2⟩ : 0 ≤ a ∧ a ≤ (L.length : Int) := hp
    obtain ⟨A, n, c, rfl, hn, hc, _, _⟩ := hv.part a.toNat L.length L.length (by omega) (by omega) (Nat.le_refl _) none (by simp)
    have hbc : L.length ≤ c := lencap (A := A) hn hc (by omega)
    obtain ⟨A', n', c', he, _, _, _, hr⟩ := hv.part a.toNat L.length c (by omega) (by omega) hbc none (by simp)
    cases he
    have htk : (L.drop a.toNat).take (L.length - a.toNat) = L.drop a.toNat := by rw [List.take_of_length_le]; simp
    rw [htk] at hr
    refine ⟨_, run_slice_row hT h1 h2 h3 A n c _ _ _ a.toNat n c w ?_, by rw [hn]; exact hr⟩
    have h6 : a ≤ (n : Int) := by omega
    simp [Instr.sliceBounds, run_bound _ _ _ _ p1 h6]
  · rename_i b
    refine ⟨_, _, h, fun w E v kl kh km hp hv => ?_⟩
    obtain ⟨p2, p3⟩ : 0 ≤ b ∧ b ≤ (L.length : Int) := hp
    obtain ⟨A, n, c, rfl, hn, hc, _, _⟩ := hv.part 0 b.toNat b.toNat (by omega) (by omega) (Nat.le_refl _) none (by simp)
    have hbc : b.toNat ≤ c := lencap (A := A) hn hc (by omega)
    obtain ⟨A', n', c', he, _, _, _, hr⟩ := hv.part 0 b.toNat c (by omega) (by omega) hbc none (by simp)
    cases he
    rw [List.drop_zero, Nat.sub_zero] at hr
    refine ⟨_, run_slice_row hT h1 h2 h3 A n c _ _ _ 0 b.toNat c w ?_, by simpa using hr⟩
    have h7 : b ≤ (c : Int) := by omega
    simp [Instr.sliceBounds, run_bound _ _ _ _ p2 h7]
  · refine ⟨_, _, h, fun w E v kl kh km hp hv => ?_⟩
    have hh := hv
    cases hv with
    | roNil _ _ _ _ A c hs hc =>
      refine ⟨_, run_slice_row hT h1 h2 h3 A 0 c _ _ _ 0 0 c w (by simp [Instr.sliceBounds]), ?_⟩
      exact .roNil _ _ _ _ _ _ hs (by simpa using hc)
    | @ro _ _ _ _ _ _ _ b o c _ y hs hcap hlc him hc hr =>
      refine ⟨_, run_slice_row hT h1 h2 h3 _ _ c _ _ _ 0 L.length c w (by simp [Instr.sliceBounds]), ?_⟩
      have : (if c = 0 then some (⟨b, o, none⟩ : Addr) else (some (⟨b, o, none⟩ : Addr)).map (·.add (0 * re.size))) = some ⟨b, o, none⟩ := by split <;> simp [Addr.add]
      rw [this]
      exact hh
  · rename_i a b q
    refine ⟨_, _, h, fun w E v kl kh km hp hv => ?_⟩
    obtain ⟨p1, p2, p3, p4⟩ : 0 ≤ a ∧ a ≤ b ∧ b ≤ q ∧ q ≤ (L.length : Int) := hp
    obtain ⟨A, n, c, rfl, hn, hc, _, hr⟩ := hv.part a.toNat b.toNat q.toNat (by omega) (by omega) (by omega) (some (q.toNat - a.toNat)) (by simp)
    have hbc : q.toNat ≤ c := lencap (A := A) hn hc (by omega)
    refine ⟨_, run_slice_row hT h1 h2 h3 A n c _ _ _ a.toNat b.toNat q.toNat w ?_, hr⟩
    have h6 : a ≤ (b.toNat : Int) := by omega
    have h7 : b ≤ (q.toNat : Int) := by omega
    have h8 : q ≤ (c : Int) := by omega
    simp [Instr.sliceBounds, run_bound _ _ _ _ (show 0 ≤ q by omega) h8, run_bound _ _ _ _ (show 0 ≤ b by omega) h7, run_bound _ _ _ _ p1 h6]
  · rename_i b q
    refine ⟨_, _, h, fun w E v kl kh km hp hv => ?_⟩
    obtain ⟨p2, p3, p4⟩ : 0 ≤ b ∧ b ≤ q ∧ q ≤ (L.length : Int) := hp
    obtain ⟨A, n, c, rfl, hn, hc, _, hr⟩ := hv.part 0 b.toNat q.toNat (by omega) (by omega) (by omega) (some q.toNat) (by simp)
    have hbc : q.toNat ≤ c := lencap (A := A) hn hc (by omega)
    rw [List.drop_zero, Nat.sub_zero] at hr
    refine ⟨_, run_slice_row hT h1 h2 h3 A n c _ _ _ 0 b.toNat q.toNat w ?_, by simpa using hr⟩
    have h7 : b ≤ (q.toNat : Int) := by omega
    have h8 : q ≤ (c : Int) := by omega
    simp [Instr.sliceBounds, run_bound _ _ _ _ (show 0 ≤ q by omega) h8, run_bound _ _ _ _ (show 0 ≤ b by omega) h7]
  · exact h.elim
end Go.SX
/- A verified symbolic executor for Go code in the model, part 6: all operations that leave memory alone. -/
namespace Go.SX
open Go.RowKit

/-! ### Struct values made of parts -/
def layK (cs : List AV) (off : Nat) (ps : List AV) (k : List AV → Prop) : Prop := match cs, off, ps with
  | cs, 0, [] => k cs
  | _ :: cs, 0, p :: ps => force p fun p => layK cs 0 ps fun r => k (p :: r)
  | c :: cs, n + 1, ps => layK cs n ps fun r => k (c :: r)
  | _, _, _ => False
def lay (cs : List AV) (off : Nat) (ps : List AV) : List AV := cs.take off ++ ps ++ cs.drop (off + ps.length)
theorem layK_ok : ∀ {cs : List AV} {off : Nat} {ps : List AV} {k : List AV → Prop}, layK cs off ps k → off + ps.length ≤ cs.length ∧ k (lay cs off ps)
  | cs, 0, [], k, h => ⟨by simp, by cases cs <;> simpa [layK, lay] using h⟩
  | [], 0, p :: ps, k, h => h.elim
  | c :: cs, 0, p :: ps, k, h => by
    simp only [layK, force_eq] at h
    obtain ⟨h1, h2⟩ := layK_ok h
    exact ⟨by simp at h1 ⊢; omega, by simpa [lay] using h2⟩
  | [], n + 1, [], k, h => h.elim
  | [], n + 1, p :: ps, k, h => h.elim
  | c :: cs, n + 1, ps, k, h => by
    have h : layK cs n ps fun r => k (c :: r) := by cases ps <;> exact h
    obtain ⟨h1, h2⟩ := layK_ok h
    refine ⟨by simp; omega, ?_⟩
    have : lay (c :: cs) (n + 1) ps = c :: lay cs n ps := by simp [lay, show n + 1 + ps.length = (n + ps.length) + 1 by omega]
    rw [this]; exact h2
def AV.cell1 : AV → Bool
  | .v y => match y with
    | .agg _ | .tuple _ => false
    | _ => true
  | .junk | .cnd _ _ | .agg _ | .tup _ => false
  | _ => true
theorem cell1_ok {w : World} {E : Env} {x : AV} {v : Value} (h : Rel w E x v) (h1 : x.cell1 = true) : v.oneCell' = true ∧ v.cells = #[v] := by
  cases h <;> first | exact ⟨rfl, rfl⟩ | (simp [AV.cell1] at h1; done) | skip
  · cases v <;> first | exact ⟨rfl, rfl⟩ | (simp [AV.cell1] at h1; done)
  · rename_i id hn hs
    obtain ⟨A, n, c, hv⟩ := hs
    rw [hv]
    exact ⟨rfl, rfl⟩
def AV.cells : AV → List AV
  | .agg cs => cs
  | a => [a]
def all1 : List AV → Bool
  | [] => true
  | a :: l => match a.cell1 with | true => all1 l | false => false
theorem all1_ok : ∀ {l : List AV}, all1 l = true → ∀ i (h : i < l.length), (l[i]).cell1 = true
  | [], _, i, hi => by simp at hi
  | a :: l, h, i, hi => by
    simp only [all1] at h
    split at h
    · rename_i h1
      cases i with
      | zero => exact h1
      | succ i => exact all1_ok h i (by simpa using hi)
    · cases h
def cellsOf (x : AV) (k : List AV → Prop) : Prop := match x with
  | .agg cs => match all1 cs with
    | true => k cs
    | false => False
  | x => match AV.cell1 x with
    | true => force x fun x => k [x]
    | false => False
theorem cellsOf_ok {x : AV} {k : List AV → Prop} (h : cellsOf x k) : k x.cells ∧ ∀ {w E v}, Rel w E x v → RelL w E x.cells v.cells.toList ∧ ∀ u ∈ v.cells.toList, u.oneCell' = true := by
  have rest : (match AV.cell1 x with
    | true => force x fun x => k [x]
    | false => False) → (∀ cs, x ≠ .agg cs) → k x.cells ∧ ∀ {w E v}, Rel w E x v → RelL w E x.cells v.cells.toList ∧ ∀ u ∈ v.cells.toList, u.oneCell' = true := by
    intro h hx
    have hc : x.cells = [x] := by cases x <;> first | rfl | exact absurd rfl (hx _)
    split at h
    · rename_i h1
      rw [force_eq] at h
      refine ⟨by rw [hc]; exact h, fun {w E v} hr => ?_⟩
      obtain ⟨h2, h3⟩ := cell1_ok hr h1
      rw [hc, h3]
      exact ⟨RelL.cons hr (RelL.nil w E), by simpa using h2⟩
    · exact h.elim
  cases x with
  | agg cs =>
    simp only [cellsOf] at h
    split at h
    · rename_i h1
      refine ⟨h, fun {w E v} hr => ?_⟩
      cases hr with
      | @agg _ _ vs hl hh =>
        refine ⟨⟨by simpa [AV.cells, Value.cells] using hl, fun i h1 h2 => hh i h1 (by simpa [Value.cells] using h2)⟩, fun u hu => ?_⟩
        obtain ⟨i, hi, rfl⟩ := List.mem_iff_getElem.1 hu
        have hi2 : i < vs.size := by simpa [Value.cells] using hi
        exact (cell1_ok (hh i (by rw [hl]; exact hi2) hi2) (all1_ok h1 i (by rw [hl]; exact hi2))).1
    · exact h.elim
  | _ => exact rest h (by simp)

def buildK (T : Tys) (fs : List (Nat × Nat × Nat)) (fr : Fr) (ps : List (Nat × Operand)) (cs : List AV) (p : VC) (k : VC → AV → Prop) : Prop := match ps with
  | [] => k p (.agg cs)
  | (i, x) :: ps => nthF fs i fun o n _ => op1 (ev fr x) fun q x => p.and q fun p => cellsOf x fun xs => match Nat.beq xs.length n with
    | true => layK cs o xs fun cs => buildK T fs fr ps cs p k
    | false => False
def zeroAV : List Value → List AV
  | [] => []
  | v :: l => .v v :: zeroAV l
theorem zeroAV_rel (w : World) (E : Env) : ∀ l, RelL w E (zeroAV l) l
  | [] => RelL.nil w E
  | _ :: l => RelL.cons (.v _) (zeroAV_rel w E l)
theorem RelL.lay {w : World} {E : Env} {cs ps : List AV} {vs us : List Value} {o : Nat} (h : RelL w E cs vs) (h' : RelL w E ps us) (ho : o + ps.length ≤ cs.length) :
    RelL w E (lay cs o ps) (vs.take o ++ us ++ vs.drop (o + us.length)) := by
  unfold SX.lay
  have htake : RelL w E (cs.take o) (vs.take o) := ⟨by simp [h.1], fun i h1 h2 => by simp only [List.getElem_take]; exact h.2 i _ _⟩
  have hdrop : RelL w E (cs.drop (o + ps.length)) (vs.drop (o + us.length)) := ⟨by simp [h.1, h'.1], fun i h1 h2 => by
    simp only [List.getElem_drop]
    have := h'.1
    simp only [this]
    exact h.2 _ (by simp at h1; omega) _⟩
  exact RelL.append (RelL.append htake h') hdrop
theorem foldl_lay (off : Nat) : ∀ (us : List Value) (j : Nat) (cells : Array Value), off + j + us.length ≤ cells.size →
    (us.zipIdx j).foldl (fun cs (c, j) => cs.setIfInBounds (off + j) c) cells = (cells.toList.take (off + j) ++ us ++ cells.toList.drop (off + j + us.length)).toArray
  | [], j, cells, _ => by simp
  | u :: us, j, cells, h => by
    simp only [List.length_cons] at h
    simp only [List.zipIdx_cons, List.foldl_cons]
    rw [foldl_lay off us (j + 1) _ (by simp; omega)]
    apply Array.ext'
    simp only [Array.toList_setIfInBounds]
    have hlt : off + j < cells.toList.length := by simp; omega
    rw [show off + (j + 1) = off + j + 1 by omega]
    rw [List.take_succ_eq_append_getElem (by simpa using hlt)]
    simp only [List.getElem_set_self, List.take_set_of_le (Nat.le_refl _), List.append_assoc, List.cons_append, List.nil_append, List.length_cons]
    rw [List.drop_set_of_lt (by omega)]
    rw [show off + j + 1 + us.length = off + j + (us.length + 1) by omega]
theorem places_of {P : Program} : ∀ (l : List Field) (gs : List (Nat × Nat × Nat)), l.map (fun f => (f.offset, f.type)) = gs.map (fun f => (f.1, f.2.2)) →
    (∀ f ∈ gs, ∃ i, P.info? f.2.2 = some i ∧ i.size = f.2.1) → l.mapM (fun f => (P.info? f.type).map fun i => (f.offset, i.size)) = some (gs.map fun f => (f.1, f.2.1))
  | [], [], _, _ => by simp
  | [], _ :: _, h, _ => by simp at h
  | _ :: _, [], h, _ => by simp at h
  | f :: l, g :: gs, h, hi => by
    simp only [List.map_cons, List.cons.injEq, Prod.mk.injEq] at h
    obtain ⟨i, h1, h2⟩ := hi g List.mem_cons_self
    simp only [List.mapM_cons, h.1.2, h1, Option.map_some, Option.bind_eq_bind, Option.bind_some, places_of l gs h.2 (fun f hf => hi f (List.mem_cons_of_mem _ hf)), h.1.1, h2]
    rfl
theorem buildK_ok {T : Tys} {fs : List (Nat × Nat × Nat)} {fr : Fr} : ∀ {ps : List (Nat × Operand)} {cs : List AV} {p : VC} {k : VC → AV → Prop}, buildK T fs fr ps cs p k →
    ∃ q z, k q (.agg z) ∧ z.length = cs.length ∧ (q.ok → p.ok) ∧ ∀ w E (a : Act) (vs : List Value), FrR w E fr a.tmps → q.ok → RelL w E cs vs →
      ∃ us, Instr.fill ((fs.map fun f => (f.1, f.2.1)).toArray[·]?) vs.toArray (ps.map fun (i, x) => (i, a.eval x)) = some us.toArray ∧ RelL w E z us
  | [], cs, p, k, h => ⟨p, cs, h, rfl, fun h => h, fun w E a vs _ _ hr => ⟨vs, by simp [Instr.fill], hr⟩⟩
  | (i, x) :: ps, cs, p, k, h => by
    simp only [buildK] at h
    obtain ⟨o, n, t, hf, h⟩ := nthF_ok h
    obtain ⟨q, x', h, hx⟩ := op1_ok h
    obtain ⟨r, h, hr⟩ := VC.and_ok h
    obtain ⟨h, hcells⟩ := cellsOf_ok h
    split at h
    · rename_i hn
      have hn := Nat.eq_of_beq_eq_true hn
      obtain ⟨hle, h⟩ := layK_ok h
      obtain ⟨s, z, hk, hlen, hs, hrest⟩ := buildK_ok h
      have hlay : (lay cs o x'.cells).length = cs.length := by simp only [lay, List.length_append, List.length_take, List.length_drop]; omega
      refine ⟨s, z, hk, hlen.trans hlay, fun h => (hr (hs h)).1, fun w E a vs hfr hok hrl => ?_⟩
      have hx' := hx w E _ (hr (hs hok)).2 (ev_ok hfr x)
      have hxs := (hcells hx').1
      obtain ⟨us, h1, h2⟩ := hrest w E a _ hfr hok (RelL.lay hrl hxs hle)
      refine ⟨us, ?_, h2⟩
      simp only [List.map_cons, Instr.fill]
      have hpl : ((fs.map fun f => (f.1, f.2.1)).toArray[i]?) = some (o, n) := by simp [hf]
      simp only [hpl]
      have hsz : (a.eval x).cells.size = n := by have := hxs.1; simp at this; omega
      have hsz2 : vs.length = cs.length := hrl.1.symm
      have hc1 : ((a.eval x).cells.size != n || decide ((o + (a.eval x).cells.size) > vs.toArray.size)) = false := by simp [hsz]; omega
      rw [if_neg (by simp [hsz]; omega)]
      have hz : (a.eval x).cells.zipIdx = ((a.eval x).cells.toList.zipIdx 0).toArray := by
        apply Array.ext'
        simp
      rw [hz, List.foldl_toArray, foldl_lay o _ 0 _ (by simp; omega)]
      simpa using h1
    · exact h.elim

def buildTopK (T : Tys) (t : Nat) (fr : Fr) (ps : List (Nat × Operand)) (k : VC → AV → Prop) : Prop := match getT T t with
  | some r => match r.d with
    | .struct fs => buildK T fs fr ps (zeroAV r.zero) none k
    | .array _ e => match getT T e, ps with
      | some _, [] => k none (.agg (zeroAV r.zero))
      | _, _ => False
    | _ => False
  | none => False
theorem buildTopK_ok {P : Program} {T : Tys} (hT : TysOK P T) {t : Nat} {fr : Fr} {ps : Array (Nat × Operand)} {k : VC → AV → Prop} (h : buildTopK T t fr ps.toList k) :
    ∃ p z, k p z ∧ ∀ w E (a : Act), FrR w E fr a.tmps → p.ok → ∃ y, (Instr.build t (ps.map fun (i, x) => (i, a.eval x))).run P w = .ok y w ∧ Rel w E z y := by
  unfold buildTopK at h
  split at h
  · rename_i r h1
    split at h
    · rename_i fs h2
      obtain ⟨q, z, hk, hlen, _, hrest⟩ := buildK_ok h
      refine ⟨q, _, hk, fun w E a hfr hok => ?_⟩
      obtain ⟨us, hf, hr⟩ := hrest w E a r.zero hfr hok (zeroAV_rel w E _)
      obtain ⟨i, zv, hi1, hi2, hi3, hi4, hi5, _⟩ := (hT t r h1).info
      have hd := (hT t r h1).desc
      rw [h2] at hd
      obtain ⟨fields, hu, hm, hfi⟩ := hd
      have hb : P.built t (ps.map fun (i, x) => (i, a.eval x)).toList = some us.toArray := by
        unfold Program.built
        simp only [hi1, hu, hi4, places_of _ fs hm hfi, hi5]
        simpa using hf
      refine ⟨.agg us.toArray, run_build w t _ _ hb, .agg (by simpa using hr.1) fun i h1 h2 => ?_⟩
      simpa using hr.2 i h1 (by simpa using h2)
    · rename_i n e h2
      split at h
      · rename_i re h3 hps
        refine ⟨_, _, h, fun w E a hfr hok => ?_⟩
        obtain rfl : ps = #[] := Array.toList_inj.1 hps
        obtain ⟨i, zv, hi1, hi2, hi3, hi4, hi5, _⟩ := (hT t r h1).info
        obtain ⟨ie, ze, he1, _⟩ := (hT e re h3).info
        have hd := (hT t r h1).desc
        rw [h2] at hd
        have hd : P.underlying t = some (.array n e) := hd
        have hr := zeroAV_rel w E r.zero
        have hb : P.built t (((#[] : Array (Nat × Operand)).map fun (i, x) => (i, a.eval x)).toList) = some r.zero.toArray := by
          unfold Program.built
          simp only [hi1, hd, hi4, hi5, he1]
          simp [Instr.fill]
        refine ⟨.agg r.zero.toArray, run_build w t _ _ hb, .agg (by simpa using hr.1) fun i h1 h2 => ?_⟩
        simpa using hr.2 i h1 (by simpa using h2)
      · exact h.elim
    · exact h.elim
  · exact h.elim
end Go.SX
/- A verified symbolic executor for Go code in the model, part 7: all operations that leave memory alone. -/
namespace Go.SX
open Go.RowKit

theorem run_typed {P : Program} {t : Nat} {d : TyD} (h : descOf P t d) : ∃ u, P.underlying t = some u := by
  cases d <;> simp only [descOf] at h
  case struct fs => obtain ⟨f, h1, _⟩ := h; exact ⟨_, h1⟩
  case other => obtain ⟨u, h1, _⟩ := h; exact ⟨_, h1⟩
  all_goals exact ⟨_, h⟩

def fieldK (T : Tys) (t : Nat) (x : AV) (f : Nat) (k : VC → AV → Prop) : Prop := match getT T t with
  | some r => match r.d with
    | .struct fs => match x with
      | .agg cs => nthF fs f fun o _ ft => match getT T ft with
        | some rf => cellsK rf cs o (k none)
        | none => False
      | _ => False
    | _ => False
  | none => False
theorem fieldK_ok {P : Program} {T : Tys} (hT : TysOK P T) {t f : Nat} {x : AV} {k : VC → AV → Prop} (h : fieldK T t x f k) :
    ∃ p z, k p z ∧ ∀ w E vx, Rel w E x vx → ∃ r, (Instr.field t vx f).run P w = .ok r w ∧ Rel w E z r := by
  unfold fieldK at h
  split at h
  · rename_i r h1
    split at h
    · rename_i fs h2
      split at h
      · rename_i cs
        obtain ⟨o, n, ft, hf, h⟩ := nthF_ok h
        split at h
        · rename_i rf h3
          have hd := (hT t r h1).desc
          rw [h2] at hd
          obtain ⟨fields, hu, hm, _⟩ := hd
          have hff : (fields.toList.map fun f => (f.offset, f.type))[f]? = some (o, ft) := by rw [hm, List.getElem?_map, hf]; rfl
          rw [List.getElem?_map] at hff
          obtain ⟨fl, hfl, heq⟩ := Option.map_eq_some_iff.1 hff
          simp only [Prod.mk.injEq] at heq
          have hfl' : fields[f]? = some fl := by simpa using hfl
          unfold cellsK at h
          split at h
          · rename_i ha
            obtain ⟨h4, h⟩ := dropK_ok h
            obtain ⟨h5, h⟩ := takeK_ok h
            refine ⟨_, _, h, fun w E vx hx => ?_⟩
            cases hx with
            | @agg _ _ vs hl hh =>
              refine ⟨.agg (vs.extract o (o + rf.size)), ?_, ?_⟩
              · simp [Instr.field, run_underlying hu, hfl', asAgg, part, heq.2, heq.1, (hT ft rf h3).agg w, ha, (hT ft rf h3).sizeOf w]
              · refine .agg (by simp at h5 ⊢; omega) fun i h6 h7 => ?_
                simp only [List.getElem_take, List.getElem_drop, Array.getElem_extract]
                exact hh (o + i) (by simp at h6; omega) _
          · rename_i ha
            split at h
            · obtain ⟨h4, h⟩ := nthK_ok h
              refine ⟨_, _, h, fun w E vx hx => ?_⟩
              cases hx with
              | @agg _ _ vs hl hh =>
                refine ⟨vs[o]'(by rw [← hl]; exact h4), ?_, hh o h4 _⟩
                have : vs[o]? = some (vs[o]'(by rw [← hl]; exact h4)) := by simp [← hl, h4]
                simp [Instr.field, run_underlying hu, hfl', asAgg, part, heq.2, heq.1, (hT ft rf h3).agg w, ha, this]
            · exact h.elim
        · exact h.elim
      · exact h.elim
    · exact h.elim
  · exact h.elim

def extractK (x : AV) (n : Nat) (k : VC → AV → Prop) : Prop := match x with
  | .tup vs => nthK vs n (k none)
  | _ => False
theorem extractK_ok {P : Program} {x : AV} {n : Nat} {k : VC → AV → Prop} (h : extractK x n k) : ∃ p z, k p z ∧ ∀ w E vx, Rel w E x vx → ∃ r, (Instr.extract vx n).run P w = .ok r w ∧ Rel w E z r := by
  unfold extractK at h
  split at h
  · obtain ⟨h1, h⟩ := nthK_ok h
    refine ⟨_, _, h, fun w E vx hx => ?_⟩
    cases hx with
    | @tup _ _ vs hl hh =>
      have h2 : n < vs.size := by rw [← hl]; exact h1
      exact ⟨vs[n], by simp [Instr.extract, h2], hh n h1 h2⟩
  · exact h.elim

def nilK (x : AV) (k : VC → AV → Prop) : Prop := match x with
  | .ptr i o => k none (.ptr i o)
  | .eptr i a b c => k none (.eptr i a b c)
  | .rptr s e d l i o z => k none (.rptr s e d l i o z)
  | .fn f c => k none (.fn f c)
  | .yld i => k none (.yld i)
  | _ => False
def convK (T : Tys) (dst : Nat) (x : AV) (k : VC → AV → Prop) : Prop := match getT T dst with
  | some r => match r.d, x with
    | .int i, .v (.int _ n) => k (some (Fits i n)) (.v (.int i n))
    | .str, .v (.string s) => k none (.v (.string s))
    | _, _ => False
  | none => False
theorem convK_ok {P : Program} {T : Tys} (hT : TysOK P T) {src dst : Nat} {rs : TyR} (hs : getT T src = some rs) {x : AV} {k : VC → AV → Prop} (h : convK T dst x k) :
    ∃ p z, k p z ∧ ∀ w E vx, p.ok → Rel w E x vx → ∃ r, (convert src dst vx).run P w = .ok r w ∧ Rel w E z r := by
  obtain ⟨us, hus⟩ := run_typed (hT src rs hs).desc
  unfold convK at h
  split at h
  · rename_i r h1
    have hd := (hT dst r h1).desc
    split at h
    · rename_i i kk n h2
      rw [h2] at hd
      have hd : P.underlying dst = some (.int i) := hd
      refine ⟨_, _, h, fun w E vx hp hx => ?_⟩
      obtain rfl := hx.v_inv
      refine ⟨_, by simp [convert, run_underlying hus, run_underlying hd, Conv.intToInt]; rfl, ?_⟩
      rw [Fits.out hp]
      exact .v _
    · rename_i s h2
      rw [h2] at hd
      have hd : P.underlying dst = some .string := hd
      refine ⟨_, _, h, fun w E vx hp hx => ?_⟩
      obtain rfl := hx.v_inv
      refine ⟨.string s, ?_, .v _⟩
      simp only [convert, Sem.run_bind, run_underlying hus, run_underlying hd, Result.andThen_ok]
      cases us <;> rfl
    · exact h.elim
  · exact h.elim

def lenK (T : Tys) (m : Mem) (t : Nat) (x : AV) (k : VC → AV → Prop) : Prop := match getT T t with
  | some r => match r.d with
    | .slice _ => match x with
      | .own id => match getE m id with
        | some (.row _ l _ _) => k none (.v (.int .i64 (l.length : Int)))
        | _ => False
      | .view _ _ _ u => k none (.v (.int .i64 (u : Int)))
      | .ro _ _ _ l _ _ => k none (.v (.int .i64 (l.length : Int)))
      | .bsl _ N => k none (.v (.int .i64 (N : Int)))
      | .sl N => k none (.v (.int .i64 (N : Int)))
      | _ => False
    | .str => match x with
      | .v (.string s) => k none (.v (.int .i64 (s.size : Int)))
      | _ => False
    | _ => False
  | none => False
theorem lenK_ok {P : Program} {T : Tys} (hT : TysOK P T) {m : Mem} {t ty : Nat} {x : AV} {k : VC → AV → Prop} (h : lenK T m t x k) (ats : Array TypeId) (hats : ats[0]? = some t) :
    ∃ p z, k p z ∧ ∀ base w0 E stk gs w vx, SatM base w0 E stk gs m w → Rel w E x vx → ∃ r, (Builtin.len_ ats ty #[vx]).run P w = .ok r w ∧ Rel w E z r := by
  unfold lenK at h
  split at h
  · rename_i r h1
    have hd := (hT t r h1).desc
    split at h
    · rename_i e h2
      rw [h2] at hd
      have hd : P.underlying t = some (.slice e) := hd
      split at h
      · rename_i id
        split at h
        · rename_i α C l tt cc he
          refine ⟨_, _, h, fun base w0 E stk gs w vx hS hx => ?_⟩
          cases hx with
          | own hn hs =>
            obtain ⟨_, ⟨_, _, ⟨xs, ho, _⟩, _⟩, _⟩ := hS.ents _ _ (mem_of_getE he)
            rcases ho.2 with ⟨hv, h0⟩ | ⟨g, c, cur, hv, _⟩
            · rw [hv]
              refine ⟨_, by simp [Builtin.len_, hats, run_underlying hd]; rfl, ?_⟩
              rw [h0]
              exact .v _
            · rw [hv]
              exact ⟨_, by simp [Builtin.len_, hats, run_underlying hd]; rfl, .v _⟩
        · exact h.elim
      · refine ⟨_, _, h, fun base w0 E stk gs w vx hS hx => ?_⟩
        cases hx with
        | view => exact ⟨_, by simp [Builtin.len_, hats, run_underlying hd]; rfl, .v _⟩
      · rename_i α s en d l cap z
        refine ⟨_, _, h, fun base w0 E stk gs w vx hS hx => ?_⟩
        cases hx with
        | roNil => exact ⟨_, by simp [Builtin.len_, hats, run_underlying hd]; rfl, .v _⟩
        | ro => exact ⟨_, by simp [Builtin.len_, hats, run_underlying hd]; rfl, .v _⟩
      · refine ⟨_, _, h, fun base w0 E stk gs w vx hS hx => ?_⟩
        cases hx with
        | bsl => exact ⟨_, by simp [Builtin.len_, hats, run_underlying hd]; rfl, .v _⟩
      · refine ⟨_, _, h, fun base w0 E stk gs w vx hS hx => ?_⟩
        cases hx with
        | sl => exact ⟨_, by simp [Builtin.len_, hats, run_underlying hd]; rfl, .v _⟩
      · exact h.elim
    · rename_i h2
      rw [h2] at hd
      have hd : P.underlying t = some .string := hd
      split at h
      · rename_i s
        refine ⟨_, _, h, fun base w0 E stk gs w vx hS hx => ?_⟩
        obtain rfl := hx.v_inv
        exact ⟨_, by simp [Builtin.len_, hats, run_underlying hd]; rfl, .v _⟩
      · exact h.elim
    · exact h.elim
  · exact h.elim

def minmaxK (mx : Bool) (x y : AV) (k : VC → AV → Prop) : Prop := match x, y with
  | .v (.int i a), .v (.int j b) => match kEq i j with
    | true => match mx with
      | true => k none (.v (.int i (max a b)))
      | false => k none (.v (.int i (min a b)))
    | false => False
  | _, _ => False
theorem minmaxK_ok {P : Program} {mx : Bool} {x y : AV} {k : VC → AV → Prop} (h : minmaxK mx x y k) (ats : Array TypeId) (ty : TypeId) :
    ∃ p z, k p z ∧ ∀ w E vx vy, Rel w E x vx → Rel w E y vy → ∃ r, ((if mx then Builtin.max_ else Builtin.min_) ats ty #[vx, vy]).run P w = .ok r w ∧ Rel w E z r := by
  unfold minmaxK at h
  split at h
  · rename_i i a j b
    split at h
    · rename_i he
      obtain rfl := kEq_eq he
      cases mx with
      | true =>
        refine ⟨_, _, h, fun w E vx vy hx hy => ?_⟩
        obtain rfl := hx.v_inv
        obtain rfl := hy.v_inv
        refine ⟨.int i (if b > a then b else a), by simp [Builtin.max_, Builtin.max2], ?_⟩
        have : max a b = if b > a then b else a := by split <;> omega
        rw [this]
        exact .v _
      | false =>
        refine ⟨_, _, h, fun w E vx vy hx hy => ?_⟩
        obtain rfl := hx.v_inv
        obtain rfl := hy.v_inv
        refine ⟨.int i (if b < a then b else a), by simp [Builtin.min_, Builtin.min2], ?_⟩
        have : min a b = if b < a then b else a := by split <;> omega
        rw [this]
        exact .v _
    · exact h.elim
  · exact h.elim

def evL (fr : Fr) : List Operand → VC → (VC → List AV → Prop) → Prop
  | [], p, k => k p []
  | x :: l, p, k => op1 (ev fr x) fun q x => p.and q fun p => evL fr l p fun p r => k p (x :: r)
theorem evL_ok {fr : Fr} : ∀ {l : List Operand} {p : VC} {k : VC → List AV → Prop}, evL fr l p k →
    ∃ q xs, k q xs ∧ (q.ok → p.ok) ∧ ∀ w E (a : Act), FrR w E fr a.tmps → q.ok → RelL w E xs (l.map a.eval)
  | [], p, k, h => ⟨p, [], h, fun h => h, fun w E a _ _ => RelL.nil w E⟩
  | x :: l, p, k, h => by
    obtain ⟨q, x', h, hx⟩ := op1_ok h
    obtain ⟨r, h, hr⟩ := VC.and_ok h
    obtain ⟨s, xs, h, hs, hrest⟩ := evL_ok h
    exact ⟨s, _, h, fun h => (hr (hs h)).1, fun w E a hf hok => RelL.cons (hx w E _ (hr (hs hok)).2 (ev_ok hf x)) (hrest w E a hf hok)⟩
def opt1 (fr : Fr) (o : Option Operand) (k : VC → Option Int → Prop) : Prop := match o with
  | none => k none none
  | some x => op1 (ev fr x) fun p x => match x with
    | .v (.int _ n) => k p (some n)
    | _ => False
theorem opt1_ok {fr : Fr} {o : Option Operand} {k : VC → Option Int → Prop} (h : opt1 fr o k) :
    ∃ p n, k p n ∧ ∃ kk : IntKind, ∀ w E (a : Act), FrR w E fr a.tmps → p.ok → o.map a.eval = n.map (.int kk) := by
  unfold opt1 at h
  split at h
  · exact ⟨_, _, h, .i64, fun _ _ _ _ _ => rfl⟩
  · rename_i x
    obtain ⟨p, y, h, hx⟩ := op1_ok h
    split at h
    · rename_i kk n
      exact ⟨p, _, h, kk, fun w E a hf hok => by simp [(hx w E _ hok (ev_ok hf x)).v_inv]⟩
    · exact h.elim
theorem Addr.add_add' (x : Addr) (a b : Nat) : (x.add a).add b = x.add (a + b) := by
  unfold Addr.add
  by_cases ha : a = 0
  · subst ha; simp
  · by_cases hb : b = 0
    · subst hb; simp
    · simp [ha, hb, Nat.add_assoc]
def viewK (id size off u n : Nat) (lo hi mx : Option Int) (k : VC → AV → Prop) : Prop := match lo, hi, mx with
  | some a, some b, none => k (some (0 ≤ a ∧ a ≤ b ∧ (off : Int) + b ≤ (n : Int))) (.view id size (off + a.toNat) (b.toNat - a.toNat))
  | some a, none, none => k (some (0 ≤ a ∧ a ≤ (u : Int))) (.view id size (off + a.toNat) (u - a.toNat))
  | none, some b, none => k (some (0 ≤ b ∧ (off : Int) + b ≤ (n : Int))) (.view id size off b.toNat)
  | _, _, _ => False
theorem viewK_ok {P : Program} {T : Tys} (hT : TysOK P T) {t e : Nat} {r re : TyR} (h1 : getT T t = some r) (h2 : r.d = .slice e) (h3 : getT T e = some re) {id off u n : Nat} {lo hi mx : Option Int} {k : VC → AV → Prop}
    (h : viewK id re.size off u n lo hi mx k) : ∃ p z, k p z ∧ ∀ w (E : Env) (kl kh km : IntKind) (A A' : Option Addr) (N c : Nat), p.ok → E.dom id → E.h id = .slice A N c → off + u ≤ c → n ≤ c → (off < c → A' = A.map (·.add (off * re.size))) →
      ∃ y, (Instr.sliceAt t (.slice A' u (c - off)) (lo.map (.int kl)) (hi.map (.int kh)) (mx.map (.int km))).run P w = .ok y w ∧ Rel w E z y := by
  have key : ∀ w (E : Env) (A A' : Option Addr) (N c a b : Nat), E.dom id → E.h id = .slice A N c → a ≤ b → off + b ≤ c → (off < c → A' = A.map (·.add (off * re.size))) →
      Rel w E (.view id re.size (off + a) (b - a)) (.slice (if c - off = a then A' else A'.map (·.add (a * re.size))) (b - a) (c - off - a)) := by
    intro w E A A' N c a b hn hs hab hb hA
    have := Rel.view (w := w) (E := E) (A' := if c - off = a then A' else A'.map (·.add (a * re.size))) (size := re.size) (lo := off + a) (n := b - a) hn hs (by omega) (fun hlt => by
      rw [if_neg (by omega), hA (by omega)]
      cases A with
      | none => rfl
      | some x => simp only [Option.map_some, Addr.add_add', Nat.add_mul])
    rwa [Nat.sub_sub]
  unfold viewK at h
  split at h
  · rename_i a b
    refine ⟨_, _, h, fun w E kl kh km A A' N c hp hn hs huc hnc hA => ?_⟩
    obtain ⟨p1, p2, p3⟩ : 0 ≤ a ∧ a ≤ b ∧ (off : Int) + b ≤ (n : Int) := hp
    refine ⟨_, run_slice_row hT h1 h2 h3 A' u (c - off) _ _ _ a.toNat b.toNat (c - off) w ?_, key w E A A' N c _ _ hn hs (by omega) (by omega) hA⟩
    have h6 : a ≤ (b.toNat : Int) := by omega
    have h7 : b ≤ ((c - off : Nat) : Int) := by omega
    simp only [Option.map_some, Option.map_none, Instr.sliceBounds]
    simp [Instr.sliceBounds, run_bound _ _ _ _ (show 0 ≤ b by omega) h7, run_bound _ _ _ _ p1 h6]
  · rename_i a
    refine ⟨_, _, h, fun w E kl kh km A A' N c hp hn hs huc hnc hA => ?_⟩
    obtain ⟨p1, p2⟩ : 0 ≤ a ∧ a ≤ (u : Int) := hp
    refine ⟨_, run_slice_row hT h1 h2 h3 A' u (c - off) _ _ _ a.toNat u (c - off) w ?_, key w E A A' N c _ _ hn hs (by omega) (by omega) hA⟩
    simp [Instr.sliceBounds, run_bound _ _ _ _ p1 p2]
  · rename_i b
    refine ⟨_, _, h, fun w E kl kh km A A' N c hp hn hs huc hnc hA => ?_⟩
    obtain ⟨p1, p2⟩ : 0 ≤ b ∧ (off : Int) + b ≤ (n : Int) := hp
    refine ⟨_, run_slice_row hT h1 h2 h3 A' u (c - off) _ _ _ 0 b.toNat (c - off) w ?_, key w E A A' N c 0 b.toNat hn hs (Nat.zero_le _) (by omega) hA⟩
    have h7 : b ≤ ((c - off : Nat) : Int) := by omega
    simp [Instr.sliceBounds, run_bound _ _ _ _ p1 h7]
  · exact h.elim
def slicePartK (T : Tys) (m : Mem) (t : Nat) (x : AV) (lo hi mx : Option Int) (k : VC → AV → Prop) : Prop := match getT T t with
  | some r => match r.d, x with
    | .str, .v (.string s) => match mx with
      | none => sliceStrK s lo hi k
      | some _ => False
    | .slice e, .ro s en d l cap z => match getT T e with
      | some re => match Nat.beq s re.size with
        | true => sliceRoK s en d l cap lo hi mx z k
        | false => False
      | none => False
    | .slice e, .own id => match getT T e with
      | some re => match getE m id with
        | some (.row C l _ _) => match Nat.beq C.size re.size with
          | true => viewK id re.size 0 l.length l.length lo hi mx k
          | false => False
        | _ => False
      | none => False
    | .slice e, .view id s off u => match getT T e with
      | some re => match getE m id with
        | some (.row C l _ _) => match Nat.beq C.size re.size, Nat.beq s re.size with
          | true, true => viewK id re.size off u l.length lo hi mx k
          | _, _ => False
        | _ => False
      | none => False
    | _, _ => False
  | none => False
theorem slicePartK_ok {P : Program} {T : Tys} (hT : TysOK P T) {m : Mem} {t : Nat} {x : AV} {lo hi mx : Option Int} {k : VC → AV → Prop} (h : slicePartK T m t x lo hi mx k) :
    ∃ p z, k p z ∧ ∀ base w0 E stk gs w v (kl kh km : IntKind), SatM base w0 E stk gs m w → p.ok → Rel w E x v → ∃ y, (Instr.sliceAt t v (lo.map (.int kl)) (hi.map (.int kh)) (mx.map (.int km))).run P w = .ok y w ∧ Rel w E z y := by
  unfold slicePartK at h
  split at h
  · rename_i r h1
    split at h
    · rename_i s h2
      split at h
      · obtain ⟨q, z, h, hz⟩ := sliceStrK_ok hT h1 h2 h
        refine ⟨q, z, h, fun base w0 E stk gs w v kl kh km _ hok hv => ?_⟩
        rw [hv.v_inv]
        exact hz w E kl kh hok
      · exact h.elim
    · rename_i e α s en d l cap z h2
      split at h
      · rename_i re h3
        split at h
        · rename_i hsz
          have hsz := Nat.eq_of_beq_eq_true hsz
          subst hsz
          obtain ⟨q, z, h, hz⟩ := sliceRoK_ok hT h1 h2 h3 h
          exact ⟨q, z, h, fun base w0 E stk gs w v kl kh km _ hok hv => hz w E v kl kh km hok hv⟩
        · exact h.elim
      · exact h.elim
    · rename_i e id h2
      split at h
      · rename_i re h3
        split at h
        · rename_i α C l tt cc he
          split at h
          · rename_i hsz
            obtain ⟨q, z, h, hz⟩ := viewK_ok hT h1 h2 h3 h
            refine ⟨q, z, h, fun base w0 E stk gs w v kl kh km hS hok hv => ?_⟩
            cases hv with
            | own hn hs =>
              obtain ⟨_, ⟨_, _, ⟨xs, ho, _⟩, _⟩, _⟩ := hS.ents _ _ (mem_of_getE he)
              rcases ho.2 with ⟨hv, h0⟩ | ⟨g, c, cur, hv, _, _, hlc, _⟩
              · rw [hv]
                rw [h0] at hz
                have := hz w E kl kh km none none 0 0 hok hn hv (by simp) (by simp) (by simp)
                simpa using this
              · rw [hv]
                have := hz w E kl kh km _ _ _ c hok hn hv (by omega) hlc (fun _ => (show _ = _ by simp [Addr.add]; rfl))
                simpa using this
          · exact h.elim
        · exact h.elim
      · exact h.elim
    · rename_i e id sz off u h2
      split at h
      · rename_i re h3
        split at h
        · rename_i α C l tt cc he
          split at h
          · rename_i hsz hsv
            have hsv := Nat.eq_of_beq_eq_true hsv
            subst hsv
            obtain ⟨q, z, h, hz⟩ := viewK_ok hT h1 h2 h3 h
            refine ⟨q, z, h, fun base w0 E stk gs w v kl kh km hS hok hv => ?_⟩
            cases hv with
            | view hn hs hle hA =>
              obtain ⟨_, ⟨_, _, ⟨xs, ho, _⟩, _⟩, _⟩ := hS.ents _ _ (mem_of_getE he)
              refine hz w E kl kh km _ _ _ _ hok hn hs hle ?_ hA
              rcases ho.2 with ⟨hv, h0⟩ | ⟨g, c, cur, hv, _, _, hlc, _⟩
              · omega
              · rw [hs] at hv
                simp only [Value.slice.injEq] at hv
                omega
          · exact h.elim
        · exact h.elim
      · exact h.elim
    · exact h.elim
  · exact h.elim
def sliceK (T : Tys) (m : Mem) (fr : Fr) (t : Nat) (x : Operand) (lo hi mx : Option Operand) (k : VC → AV → Prop) : Prop :=
  op1 (ev fr x) fun p x => opt1 fr lo fun q lo => p.and q fun p => opt1 fr hi fun q hi => p.and q fun p => opt1 fr mx fun q mx => p.and q fun p =>
    slicePartK T m t x lo hi mx fun q z => p.and q fun p => k p z
theorem sliceK_ok {P : Program} {T : Tys} (hT : TysOK P T) {m : Mem} {fr : Fr} {t : Nat} {x : Operand} {lo hi mx : Option Operand} {k : VC → AV → Prop} (h : sliceK T m fr t x lo hi mx k) :
    ∃ p z, k p z ∧ ∀ base w0 E stk gs w (a : Act), SatM base w0 E stk gs m w → FrR w E fr a.tmps → p.ok → ∃ y, (Instr.sliceAt t (a.eval x) (lo.map a.eval) (hi.map a.eval) (mx.map a.eval)).run P w = .ok y w ∧ Rel w E z y := by
  unfold sliceK at h
  obtain ⟨p, x', h, hx⟩ := op1_ok h
  obtain ⟨q1, n1, h, k1, e1⟩ := opt1_ok h
  obtain ⟨r1, h, ho1⟩ := VC.and_ok h
  obtain ⟨q2, n2, h, k2, e2⟩ := opt1_ok h
  obtain ⟨r2, h, ho2⟩ := VC.and_ok h
  obtain ⟨q3, n3, h, k3, e3⟩ := opt1_ok h
  obtain ⟨r3, h, ho3⟩ := VC.and_ok h
  obtain ⟨q, z, h, hz⟩ := slicePartK_ok hT h
  obtain ⟨r4, h, ho4⟩ := VC.and_ok h
  refine ⟨r4, z, h, fun base w0 E stk gs w a hS hf hok => ?_⟩
  have o4 := ho4 hok; have o3 := ho3 o4.1; have o2 := ho2 o3.1; have o1 := ho1 o2.1
  obtain ⟨y, hy1, hy2⟩ := hz base w0 E stk gs w (a.eval x) k1 k2 k3 hS o4.2 (hx w E _ o1.1 (ev_ok hf x))
  refine ⟨y, ?_, hy2⟩
  rw [e1 w E a hf o1.2, e2 w E a hf o2.2, e3 w E a hf o3.2]
  exact hy1

def ifaceK (T : Tys) (t : Nat) (x : AV) (k : VC → AV → Prop) : Prop := match getT T t with
  | some r => match r.d, x with
    | .int _, .v y => k none (.v (.iface t y))
    | _, _ => False
  | none => False
theorem ifaceK_ok {P : Program} {T : Tys} (hT : TysOK P T) {t : Nat} {x : AV} {k : VC → AV → Prop} (h : ifaceK T t x k) :
    ∃ p z, k p z ∧ ∀ w E vx, Rel w E x vx → ∃ r, (Instr.makeInterface t vx).run P w = .ok r w ∧ Rel w E z r := by
  unfold ifaceK at h
  split at h
  · rename_i r h1
    have hd := (hT t r h1).desc
    split at h
    · rename_i i y h2
      rw [h2] at hd
      have hd : P.underlying t = some (.int i) := hd
      refine ⟨_, _, h, fun w E vx hx => ?_⟩
      obtain rfl := hx.v_inv
      exact ⟨_, by simp [Instr.makeInterface, run_underlying hd], .v _⟩
    · exact h.elim
  · exact h.elim

def noneFirst (l : List Operand) (k : Prop) : Prop := match l with
  | [] => k
  | _ => False
def pop (T : Tys) (m : Mem) (fr : Fr) (o : Op) (k : VC → AV → Prop) : Prop := match o with
  | .move x | .assign x => op1 (ev fr x) k
  | .pick c a b => pickK fr c a b k
  | .binOp op t x y _ => op1 (ev fr x) fun p x => op1 (ev fr y) fun q y => p.and q fun p => binK T op t x y fun q z => p.and q fun p => k p z
  | .unOp op _ x => op1 (ev fr x) fun p x => unK op x fun q z => p.and q fun p => k p z
  | .fieldAddr s x f => op1 (ev fr x) fun p x => fieldAddrK T s x f fun q z => p.and q fun p => k p z
  | .indexAddr t x i => op1 (ev fr x) fun p x => op1 (ev fr i) fun q i => p.and q fun p => indexAddrK T m t x i fun q z => p.and q fun p => k p z
  | .load t x => op1 (ev fr x) fun p x => loadK T m t x fun q z => p.and q fun p => k p z
  | .index t x i => match getT T t with
    | some r => match r.d with
      | .str => op1 (ev fr x) fun p x => op1 (ev fr i) fun q i => p.and q fun p => indexK x i fun q z => p.and q fun p => k p z
      | _ => False
    | none => False
  | .slice t x lo hi mx => sliceK T m fr t x lo hi mx k
  | .field t x f => op1 (ev fr x) fun p x => fieldK T t x f fun q z => p.and q fun p => k p z
  | .extract x n => op1 (ev fr x) fun p x => extractK x n fun q z => p.and q fun p => k p z
  | .nilCheck x => op1 (ev fr x) fun p x => nilK x fun q z => p.and q fun p => k p z
  | .convert src dst x => match getT T src with
    | some _ => op1 (ev fr x) fun p x => convK T dst x fun q z => p.and q fun p => k p z
    | none => False
  | .makeInterface t x => op1 (ev fr x) fun p x => ifaceK T t x fun q z => p.and q fun p => k p z
  | .build t ps => buildTopK T t fr ps.toList k
  | .makeFunc (.func f) first caps => noneFirst first.toList (evL fr caps.toList none fun p cs => k p (.fn f cs))
  | .call ⟨.builtin .len, args, ats⟩ => match args.toList, ats.toList with
    | [x], t :: _ => op1 (ev fr x) fun p x => lenK T m t x fun q z => p.and q fun p => k p z
    | _, _ => False
  | .call ⟨.builtin .max, args, _⟩ => match args.toList with
    | [x, y] => op1 (ev fr x) fun p x => op1 (ev fr y) fun q y => p.and q fun p => minmaxK true x y fun q z => p.and q fun p => k p z
    | _ => False
  | .call ⟨.builtin .min, args, _⟩ => match args.toList with
    | [x, y] => op1 (ev fr x) fun p x => op1 (ev fr y) fun q y => p.and q fun p => minmaxK false x y fun q z => p.and q fun p => k p z
    | _ => False
  | _ => False

theorem nilK_ok {x : AV} {k : VC → AV → Prop} (h : nilK x k) : ∃ p, k p x ∧ ∀ w E v, Rel w E x v → v ≠ .pointer none ∧ v ≠ .nilIface ∧ v ≠ .nilFunc ∧ ∀ n a c, v ≠ .func (.method n) a c := by
  unfold nilK at h
  split at h
  all_goals first
    | exact h.elim
    | exact ⟨_, h, fun w E v hv => by cases hv <;> simp⟩
theorem execOp_nil {P : Program} (a : Act) (o : Oper) (x : Operand) (ho : o.op = .nilCheck x) (h1 : a.eval x ≠ .pointer none) (h2 : a.eval x ≠ .nilIface) (h3 : a.eval x ≠ .nilFunc) (h4 : ∀ n b c, a.eval x ≠ .func (.method n) b c) (w : World) :
    (execOp a.eval o).run P w = .ok (.value (a.eval x)) w := by
  unfold execOp
  rw [ho]
  simp only
  rfl

theorem pop_ok {P : Program} {T : Tys} (hT : TysOK P T) {m : Mem} {fr : Fr} {o : Oper} {k : VC → AV → Prop} (h : pop T m fr o.op k) :
    ∃ p z, k p z ∧ ∀ base w0 E stk gs w (a : Act), SatM base w0 E stk gs m w → FrR w E fr a.tmps → p.ok → ∃ y, (execOp a.eval o).run P w = .ok (.value y) w ∧ Rel w E z y := by
  unfold pop at h
  split at h
  · rename_i x ho
    obtain ⟨p, z, h, hz⟩ := op1_ok h
    exact ⟨p, z, h, fun base w0 E stk gs w a _ hf hp => ⟨a.eval x, by simp [execOp, ho], hz w E _ hp (ev_ok hf x)⟩⟩
  · rename_i x ho
    obtain ⟨p, z, h, hz⟩ := op1_ok h
    exact ⟨p, z, h, fun base w0 E stk gs w a _ hf hp => ⟨a.eval x, by simp [execOp, ho], hz w E _ hp (ev_ok hf x)⟩⟩
  · rename_i c x y ho
    obtain ⟨p, z, h, hz⟩ := pickK_ok (P := P) h
    refine ⟨p, z, h, fun base w0 E stk gs w a _ hf hp => ?_⟩
    obtain ⟨r, h1, h2⟩ := hz w E a hf hp
    refine ⟨r, ?_, h2⟩
    simp only [Sem.run_bind] at h1
    simp only [execOp, ho, Sem.run_bind]
    cases hb : (asBool (a.eval c)).run P w with
    | ok b w' => rw [hb] at h1; simp only [Result.andThen_ok, Sem.run_pure] at h1 ⊢; cases h1; rfl
    | halt x w' => rw [hb] at h1; simp at h1
  · rename_i op t x y yt ho
    obtain ⟨p, x', h, hx⟩ := op1_ok h
    obtain ⟨q, y', h, hy⟩ := op1_ok h
    obtain ⟨r, h, hr⟩ := VC.and_ok h
    obtain ⟨s, z, h, hz⟩ := binK_ok hT h x y
    obtain ⟨u, h, hu⟩ := VC.and_ok h
    refine ⟨u, z, h, fun base w0 E stk gs w a _ hf hp => ?_⟩
    obtain ⟨v, h1, h2⟩ := hz w E _ _ (hu hp).2 (hx w E _ (hr (hu hp).1).1 (ev_ok hf x)) (hy w E _ (hr (hu hp).1).2 (ev_ok hf y))
    exact ⟨v, by simp only [execOp, ho, Sem.run_bind] at h1 ⊢; rw [h1]; rfl, h2⟩
  · rename_i op t x ho
    obtain ⟨p, x', h, hx⟩ := op1_ok h
    obtain ⟨s, z, h, hz⟩ := unK_ok (P := P) h
    obtain ⟨u, h, hu⟩ := VC.and_ok h
    refine ⟨u, z, h, fun base w0 E stk gs w a _ hf hp => ?_⟩
    obtain ⟨v, h1, h2⟩ := hz w E _ (hu hp).2 (hx w E _ (hu hp).1 (ev_ok hf x))
    exact ⟨v, by simp only [execOp, ho, Sem.run_bind]; rw [h1]; rfl, h2⟩
  · rename_i t x f ho
    obtain ⟨p, x', h, hx⟩ := op1_ok h
    obtain ⟨s, z, h, hz⟩ := fieldAddrK_ok hT h
    obtain ⟨u, h, hu⟩ := VC.and_ok h
    refine ⟨u, z, h, fun base w0 E stk gs w a _ hf hp => ?_⟩
    obtain ⟨v, h1, h2⟩ := hz w E _ (hx w E _ (hu hp).1 (ev_ok hf x))
    exact ⟨v, by simp only [execOp, ho, Sem.run_bind]; rw [h1]; rfl, h2⟩
  · rename_i t x i ho
    obtain ⟨p, x', h, hx⟩ := op1_ok h
    obtain ⟨q, i', h, hi⟩ := op1_ok h
    obtain ⟨r, h, hr⟩ := VC.and_ok h
    obtain ⟨s, z, h, hz⟩ := indexAddrK_ok hT h
    obtain ⟨u, h, hu⟩ := VC.and_ok h
    refine ⟨u, z, h, fun base w0 E stk gs w a hS hf hp => ?_⟩
    obtain ⟨v, h1, h2⟩ := hz base w0 E stk gs w _ _ hS (hu hp).2 (hx w E _ (hr (hu hp).1).1 (ev_ok hf x)) (hi w E _ (hr (hu hp).1).2 (ev_ok hf i))
    exact ⟨v, by simp only [execOp, ho, Sem.run_bind]; rw [h1]; rfl, h2⟩
  · rename_i t x ho
    obtain ⟨p, x', h, hx⟩ := op1_ok h
    obtain ⟨s, z, h, hz⟩ := loadK_ok hT h
    obtain ⟨u, h, hu⟩ := VC.and_ok h
    refine ⟨u, z, h, fun base w0 E stk gs w a hS hf hp => ?_⟩
    obtain ⟨v, h1, h2⟩ := hz base w0 E stk gs w _ hS (hu hp).2 (hx w E _ (hu hp).1 (ev_ok hf x))
    exact ⟨v, by simp only [execOp, ho, Sem.run_bind]; rw [h1]; rfl, h2⟩
  · rename_i t x i ho
    split at h
    · rename_i r h1
      split at h
      · rename_i h2
        obtain ⟨p, x', h, hx⟩ := op1_ok h
        obtain ⟨q, i', h, hi⟩ := op1_ok h
        obtain ⟨r', h, hr⟩ := VC.and_ok h
        obtain ⟨s, z, h, hz⟩ := indexK_ok hT h1 h2 h
        obtain ⟨u, h, hu⟩ := VC.and_ok h
        refine ⟨u, z, h, fun base w0 E stk gs w a hS hf hp => ?_⟩
        obtain ⟨v, h1, h2⟩ := hz w E _ _ (hu hp).2 (hx w E _ (hr (hu hp).1).1 (ev_ok hf x)) (hi w E _ (hr (hu hp).1).2 (ev_ok hf i))
        exact ⟨v, by simp only [execOp, ho, Sem.run_bind]; rw [h1]; rfl, h2⟩
      · exact h.elim
    · exact h.elim
  · rename_i t x lo hi mx ho
    obtain ⟨p, z, h, hz⟩ := sliceK_ok hT h
    refine ⟨p, z, h, fun base w0 E stk gs w a hS hf hp => ?_⟩
    obtain ⟨v, h1, h2⟩ := hz base w0 E stk gs w a hS hf hp
    exact ⟨v, by simp only [execOp, ho, Sem.run_bind]; rw [h1]; rfl, h2⟩
  · rename_i t x f ho
    obtain ⟨p, x', h, hx⟩ := op1_ok h
    obtain ⟨s, z, h, hz⟩ := fieldK_ok hT h
    obtain ⟨u, h, hu⟩ := VC.and_ok h
    refine ⟨u, z, h, fun base w0 E stk gs w a _ hf hp => ?_⟩
    obtain ⟨v, h1, h2⟩ := hz w E _ (hx w E _ (hu hp).1 (ev_ok hf x))
    exact ⟨v, by simp only [execOp, ho, Sem.run_bind]; rw [h1]; rfl, h2⟩
  · rename_i x n ho
    obtain ⟨p, x', h, hx⟩ := op1_ok h
    obtain ⟨s, z, h, hz⟩ := extractK_ok (P := P) h
    obtain ⟨u, h, hu⟩ := VC.and_ok h
    refine ⟨u, z, h, fun base w0 E stk gs w a _ hf hp => ?_⟩
    obtain ⟨v, h1, h2⟩ := hz w E _ (hx w E _ (hu hp).1 (ev_ok hf x))
    exact ⟨v, by simp only [execOp, ho, Sem.run_bind]; rw [h1]; rfl, h2⟩
  · rename_i x ho
    obtain ⟨p, x', h, hx⟩ := op1_ok h
    obtain ⟨s, h, hz⟩ := nilK_ok h
    obtain ⟨u, h, hu⟩ := VC.and_ok h
    refine ⟨u, x', h, fun base w0 E stk gs w a _ hf hp => ?_⟩
    have hr := hx w E _ (hu hp).1 (ev_ok hf x)
    obtain ⟨n1, n2, n3, n4⟩ := hz w E _ hr
    exact ⟨a.eval x, execOp_nil a o x ho n1 n2 n3 n4 w, hr⟩
  · rename_i src dst x ho
    split at h
    · rename_i rs hs
      obtain ⟨p, x', h, hx⟩ := op1_ok h
      obtain ⟨s, z, h, hz⟩ := convK_ok hT hs h
      obtain ⟨u, h, hu⟩ := VC.and_ok h
      refine ⟨u, z, h, fun base w0 E stk gs w a _ hf hp => ?_⟩
      obtain ⟨v, h1, h2⟩ := hz w E _ (hu hp).2 (hx w E _ (hu hp).1 (ev_ok hf x))
      exact ⟨v, by simp only [execOp, ho, Sem.run_bind]; rw [h1]; rfl, h2⟩
    · exact h.elim
  · rename_i t x ho
    obtain ⟨p, x', h, hx⟩ := op1_ok h
    obtain ⟨s, z, h, hz⟩ := ifaceK_ok hT h
    obtain ⟨u, h, hu⟩ := VC.and_ok h
    refine ⟨u, z, h, fun base w0 E stk gs w a _ hf hp => ?_⟩
    obtain ⟨v, h1, h2⟩ := hz w E _ (hx w E _ (hu hp).1 (ev_ok hf x))
    exact ⟨v, by simp only [execOp, ho, Sem.run_bind]; rw [h1]; rfl, h2⟩
  · rename_i t ps ho
    obtain ⟨p, z, h, hz⟩ := buildTopK_ok hT h
    refine ⟨p, z, h, fun base w0 E stk gs w a _ hf hp => ?_⟩
    obtain ⟨v, h1, h2⟩ := hz w E a hf hp
    exact ⟨v, by simp only [execOp, ho, Sem.run_bind]; rw [h1]; rfl, h2⟩
  · rename_i f first caps ho
    unfold noneFirst at h
    split at h
    · rename_i hfst
      obtain ⟨p, cs, h, _, hz⟩ := evL_ok h
      refine ⟨p, _, h, fun base w0 E stk gs w a _ hf hp => ?_⟩
      have hrl := hz w E a hf hp
      have hf0 : first = #[] := by cases first; simpa using hfst
      refine ⟨.func (.func f) #[] (caps.map a.eval), by simp [execOp, ho, Instr.makeFunc, hf0], .fn f (by simpa using hrl.1) fun i h1 h2 => ?_⟩
      have := hrl.2 i h1 (by simpa using h2)
      simpa using this
    · exact h.elim
  · rename_i args ats ho
    split at h
    · rename_i x t ts hargs hats
      obtain ⟨p, x', h, hx⟩ := op1_ok h
      have hargs' : args = #[x] := by cases args; simpa using hargs
      have hats' : ats[0]? = some t := by cases ats; simp at hats; subst hats; simp
      obtain ⟨s, z, h, hz⟩ := lenK_ok (ty := o.type) hT h ats hats'
      obtain ⟨u, h, hu⟩ := VC.and_ok h
      refine ⟨u, z, h, fun base w0 E stk gs w a hS hf hp => ?_⟩
      obtain ⟨v, h1, h2⟩ := hz base w0 E stk gs w _ hS (hx w E _ (hu hp).1 (ev_ok hf x))
      refine ⟨v, ?_, h2⟩
      simp only [execOp, ho, hargs', resolve, invoke, builtin, Sem.run_bind, Sem.run_pure, Result.andThen_ok, List.map_toArray, List.map_cons, List.map_nil]
      rw [h1]; rfl
    · exact h.elim
  · rename_i args ats ho
    split at h
    · rename_i x y hargs
      obtain ⟨p, x', h, hx⟩ := op1_ok h
      obtain ⟨q, y', h, hy⟩ := op1_ok h
      obtain ⟨r, h, hr⟩ := VC.and_ok h
      have hargs' : args = #[x, y] := by cases args; simpa using hargs
      obtain ⟨s, z, h, hz⟩ := minmaxK_ok (P := P) h ats o.type
      obtain ⟨u, h, hu⟩ := VC.and_ok h
      refine ⟨u, z, h, fun base w0 E stk gs w a hS hf hp => ?_⟩
      obtain ⟨v, h1, h2⟩ := hz w E _ _ (hx w E _ (hr (hu hp).1).1 (ev_ok hf x)) (hy w E _ (hr (hu hp).1).2 (ev_ok hf y))
      refine ⟨v, ?_, h2⟩
      simp only [execOp, ho, hargs', resolve, invoke, builtin, Sem.run_bind, Sem.run_pure, Result.andThen_ok, List.map_toArray, List.map_cons, List.map_nil]
      simp only [if_true] at h1
      rw [h1]; rfl
    · exact h.elim
  · rename_i args ats ho
    split at h
    · rename_i x y hargs
      obtain ⟨p, x', h, hx⟩ := op1_ok h
      obtain ⟨q, y', h, hy⟩ := op1_ok h
      obtain ⟨r, h, hr⟩ := VC.and_ok h
      have hargs' : args = #[x, y] := by cases args; simpa using hargs
      obtain ⟨s, z, h, hz⟩ := minmaxK_ok (P := P) h ats o.type
      obtain ⟨u, h, hu⟩ := VC.and_ok h
      refine ⟨u, z, h, fun base w0 E stk gs w a hS hf hp => ?_⟩
      obtain ⟨v, h1, h2⟩ := hz w E _ _ (hx w E _ (hr (hu hp).1).1 (ev_ok hf x)) (hy w E _ (hr (hu hp).1).2 (ev_ok hf y))
      refine ⟨v, ?_, h2⟩
      simp only [execOp, ho, hargs', resolve, invoke, builtin, Sem.run_bind, Sem.run_pure, Result.andThen_ok, List.map_toArray, List.map_cons, List.map_nil]
      simp only [Bool.false_eq_true, if_false] at h1
      rw [h1]; rfl
    · exact h.elim
  · exact h.elim
end Go.SX
/- A verified symbolic executor for Go code in the model, part 8: operations that make or write memory. -/
namespace Go.SX
open Go.RowKit

/-! ### Elements of rows -/
structure Le (a b : AV) : Prop where
  out : ∀ w E v, Rel w E a v → Rel w E.bare b v
theorem Le.v (x : Value) : Le (.v x) (.v x) := ⟨fun _ _ _ h => by rw [h.v_inv]; exact .v _⟩
theorem Le.sb (x : Bool) : Le (.sb x) (.sb x) := ⟨fun _ _ _ h => by rw [h.sb_inv]; exact .sb _⟩
theorem Le.vb (x : Bool) : Le (.v (.bool x)) (.sb x) := ⟨fun _ _ _ h => by rw [h.v_inv]; exact .sb _⟩
theorem Le.ro {α : Type} (s : Nat) (en : α → List AV) (d : α) (l : List α) (c : Option Nat) : Le (.ro s en d l c) (.ro s en d l c) := ⟨fun w E v h => by
  cases h with
  | roNil _ _ _ _ A c hs hc => exact .roNil _ _ _ _ _ _ hs hc
  | ro y hs hcap hlc him hc hr => exact .ro y hs hcap hlc him hc hr⟩
theorem Le.roCap {α : Type} (s : Nat) (en : α → List AV) (d : α) (l : List α) (c : Option Nat) : Le (.ro s en d l c) (.ro s en d l none) := ⟨fun w E v h => by
  cases h with
  | roNil _ _ _ _ A c hs hc => exact .roNil _ _ _ _ _ _ hs (by simp)
  | ro y hs hcap hlc him hc hr => exact .ro y hs (by simp) hlc him hc hr⟩
theorem Le.nil {α : Type} (s : Nat) (en : α → List AV) (d : α) (hs : ∀ x, (en x).length = s) : Le (.v (.slice none 0 0)) (.ro s en d [] none) := ⟨fun w E v h => by
  rw [h.v_inv]; exact .roNil _ _ _ _ _ _ hs (by simp)⟩
inductive LeL : List AV → List AV → Prop
  | nil : LeL [] []
  | cons {a b : AV} {l r : List AV} (h : Le a b) (hl : LeL l r) : LeL (a :: l) (b :: r)
theorem LeL.rel {cs ds : List AV} (h : LeL cs ds) {w : World} {E : Env} {vs : List Value} (hr : RelL w E cs vs) : RelL w E.bare ds vs := by
  induction h generalizing vs with
  | nil =>
    obtain rfl : vs = [] := List.eq_nil_of_length_eq_zero hr.1.symm
    exact RelL.nil _ _
  | cons h _ ih =>
    obtain ⟨x, xs, rfl, h1, h2⟩ := hr.uncons
    exact RelL.cons (h.out _ _ _ h1) (ih h2)
theorem LeL.len {cs ds : List AV} (h : LeL cs ds) : cs.length = ds.length := by induction h with
  | nil => rfl
  | cons _ _ ih => simp [ih]

structure Cd : Type 1 where
  α : Type
  C : Cdc α
abbrev Cds := List (Nat × Cd)
def getC : Cds → Nat → Option Cd
  | [], _ => none
  | (k, e) :: r, n => match Nat.beq k n with | true => some e | false => getC r n
structure CdOK (T : Tys) (e : Nat) (c : Cd) : Prop where
  len : ∀ x, (c.C.enc x).length = c.C.size
  pos : 0 < c.C.size
  ty : ∃ r, getT T e = some r ∧ r.size = c.C.size ∧ 0 < r.bytes
def CdsOK (T : Tys) (D : Cds) : Prop := ∀ e c, getC D e = some c → CdOK T e c

/-! ### New blocks -/
abbrev KO := AV → Fr → List Fr → Mem → Nat → Prop
def zeroK (l : List Value) (k : List AV → Prop) : Prop := match l with
  | [] => k []
  | v :: l => zeroK l fun r => k (.v v :: r)
theorem zeroK_eq (l : List Value) (k : List AV → Prop) : zeroK l k = k (zeroAV l) := by
  induction l generalizing k with
  | nil => rfl
  | cons v l ih => simp [zeroK, zeroAV, ih]
def allocK (T : Tys) (D : Cds) (t : Nat) (fr : Fr) (stk : List Fr) (m : Mem) (nx : Nat) (K : KO) : Prop := match getT T t with
  | some r => match r.d with
    | .slice e => match getC D e with
      | some c => match r.zero with
        | [.slice none 0 0] => K (.ptr (nx + 1) 0) fr stk ((nx + 1, .box [.own nx] t) :: (nx, .row c.C [] e none) :: m) (nx + 2)
        | _ => False
      | none => zeroK r.zero fun z => K (.ptr nx 0) fr stk ((nx, .box z t) :: m) (nx + 1)
    | _ => zeroK r.zero fun z => K (.ptr nx 0) fr stk ((nx, .box z t) :: m) (nx + 1)
  | none => False

section
variable {base : Nat} {w0 : Start} {w : World} {E : Env} {stk : List Fr} {gs : List (Array Value)} {m : Mem}
def Env.under (E : Env) (nx : Nat) : Prop := ∀ id, E.dom id → id < nx
theorem Env.under.fresh {E : Env} {nx : Nat} (h : E.under nx) : ¬ E.dom nx := fun hd => Nat.lt_irrefl _ (h _ hd)
theorem Env.under.add {E : Env} {nx : Nat} (h : E.under nx) (v : Value) : (E.add nx v).under (nx + 1) := fun id hd => hd.elim (fun e => by omega) fun hd => by have := h id hd; omega
theorem SatM.newBox (h : SatM base w0 E stk gs m w) {n : Nat} (hn : ¬ E.dom n) (cs : List AV) (vs : Array Value) (t : Nat) (hr : RelL w E cs vs.toList) :
    SatM base w0 (E.add n (.pointer (some ⟨w.heap.size, 0, none⟩))) stk gs ((n, .box cs t) :: m) (w.alloc (.cells vs t)) ∧ Rel (w.alloc (.cells vs t)) (E.add n (.pointer (some ⟨w.heap.size, 0, none⟩))) (.ptr n 0) (.pointer (some ⟨w.heap.size, 0, none⟩)) := by
  refine ⟨h.alloc hn _ _ _ rfl ⟨w.heap.size, vs, E.add_h _ _, heap_alloc_new w _, hr.mono (h.goesAlloc hn _ _)⟩, .ptr 0 (.inl rfl) (E.add_h _ _)⟩
theorem SatM.newNil (h : SatM base w0 E stk gs m w) {n : Nat} (hn : ¬ E.dom n) {T : Tys} {e : Nat} {c : Cd} (hc : CdOK T e c) : SatM base w0 (E.add n (.slice none 0 0)) stk gs ((n, .row c.C [] e none) :: m) w ∧
    Rel w (E.add n (.slice none 0 0)) (.own n) (.slice none 0 0) := by
  refine ⟨h.name hn _ _ rfl ⟨hc.len, hc.pos, ⟨[], by rw [Env.add_h]; exact World.ownsRow_nil _ _ _ _, by simpa using RelL.nil _ _⟩, by simp⟩, ?_⟩
  have := Rel.own (w := w) (E := E.add n (.slice none 0 0)) (id := n) (.inl rfl) ⟨none, 0, 0, E.add_h _ _⟩
  rwa [E.add_h] at this

theorem run_newVar {P : Program} (t : Nat) (v : Value) (w : World) : (newVar t v).run P w = .ok ⟨w.heap.size, 0, none⟩ (w.alloc (.cells v.cells t)) := by
  simp [newVar, newRow]
def EffAt (P : Program) (base : Nat) (w0 : Start) (o : Oper) (K : KO) (gs : List (Array Value)) (w : World) (a : Act) : Prop :=
    ∃ v w', ((execOp a.eval o).run P w = .ok (.value v) w' ∨ (v = undef ∧ (execOp a.eval o).run P w = .ok .skip w')) ∧
      ∃ x fr' stk' m' E' nx', K x fr' stk' m' nx' ∧ E'.under nx' ∧ SatM base w0 E' (fr' :: stk') (a.tmps :: gs) m' w' ∧ Rel w' E' x v
def EffOK (P : Program) (base : Nat) (w0 : Start) (o : Oper) (fr : Fr) (stk : List Fr) (m : Mem) (nx : Nat) (K : KO) : Prop :=
  ∀ (E : Env) (gs : List (Array Value)) (w : World) (a : Act), E.under nx → SatM base w0 E (fr :: stk) (a.tmps :: gs) m w → EffAt P base w0 o K gs w a
theorem SatM.top {fr : Fr} {tm : Array Value} (h : SatM base w0 E (fr :: stk) (tm :: gs) m w) : FrR w E fr tm := h.stk 0 (by simp) (by simp)

theorem allocK_ok {P : Program} {T : Tys} (hT : TysOK P T) {D : Cds} (hD : CdsOK T D) {base : Nat} {w0 : Start} {o : Oper} {t : Nat} (ho : o.op = .alloc t) {fr : Fr} {stk : List Fr} {m : Mem} {nx : Nat} {K : KO}
    (h : allocK T D t fr stk m nx K) : EffOK P base w0 o fr stk m nx K := by
  rintro E gs w a hnx hS
  unfold allocK at h
  split at h
  · rename_i r h1
    obtain ⟨z, hz1, hz2⟩ := (hT t r h1).zero
    have hrun : (execOp a.eval o).run P w = .ok (.value (.pointer (some ⟨w.heap.size, 0, none⟩))) (w.alloc (.cells z.cells t)) := by
      simp [execOp, ho, Instr.alloc, hz2, run_newVar]
    have plain : zeroK r.zero (fun z => K (.ptr nx 0) fr stk ((nx, .box z t) :: m) (nx + 1)) → EffAt P base w0 o K gs w a := fun h => by
      rw [zeroK_eq] at h
      have := hS.newBox hnx.fresh (zeroAV r.zero) z.cells t (by rw [hz1]; simpa using zeroAV_rel w E r.zero)
      exact ⟨_, _, .inl hrun, _, fr, stk, _, E.add nx (.pointer (some ⟨w.heap.size, 0, none⟩)), _, h, hnx.add _, this.1, this.2⟩
    split at h
    · rename_i e h2
      split at h
      · rename_i c h3
        split at h
        · rename_i hz0
          obtain ⟨s1, r1⟩ := hS.newNil hnx.fresh (hD e c h3)
          have := s1.newBox (hnx.add _).fresh [.own nx] z.cells t (by rw [hz1, hz0]; exact RelL.cons r1 (RelL.nil _ _))
          exact ⟨_, _, .inl hrun, _, fr, stk, _, _, _, h, (hnx.add _).add _, this.1, this.2⟩
        · exact h.elim
      · exact plain h
    · exact plain h
  · exact h.elim

def boxK (t : Nat) (x : Operand) (fr : Fr) (stk : List Fr) (m : Mem) (nx : Nat) (K : KO) : Prop :=
  op1 (ev fr x) fun p x => cellsOf x fun cs => p.out (K (.ptr nx 0) fr stk ((nx, .box cs t) :: m) (nx + 1))
theorem boxK_ok {P : Program} {base : Nat} {w0 : Start} {o : Oper} {t : Nat} {x : Operand} (ho : o.op = .box t x) {fr : Fr} {stk : List Fr} {m : Mem} {nx : Nat} {K : KO}
    (h : boxK t x fr stk m nx K) : EffOK P base w0 o fr stk m nx K := by
  rintro E gs w a hnx hS
  unfold boxK at h
  obtain ⟨p, x', h, hx⟩ := op1_ok h
  obtain ⟨h, hc⟩ := cellsOf_ok h
  obtain ⟨hp, h⟩ := VC.out_ok h
  have hr := hx w E _ hp (ev_ok hS.top x)
  have := hS.newBox hnx.fresh x'.cells (a.eval x).cells t (hc hr).1
  exact ⟨_, _, .inl (by simp [execOp, ho, Instr.box, run_newVar]), _, fr, stk, _, E.add nx (.pointer (some ⟨w.heap.size, 0, none⟩)), _, h, hnx.add _, this.1, this.2⟩

def litK (T : Tys) (t n : Nat) (ps : List (Nat × Operand)) (fr : Fr) (stk : List Fr) (m : Mem) (nx : Nat) (K : KO) : Prop := match getT T t with
  | some r => match r.d with
    | .slice e => match getT T e with
      | some re => match n, ps with
        | 1, [(0, x)] => op1 (ev fr x) fun p x => cellsOf x fun cs => match Nat.beq cs.length re.size, Nat.ble 1 re.size, Nat.ble re.size 1000 with
          | true, true, true => p.out (K (.bsl nx 1) fr stk ((nx, .box cs e) :: m) (nx + 1))
          | _, _, _ => False
        | _, _ => False
      | none => False
    | _ => False
  | none => False
theorem run_buildSlice1 {P : Program} {T : Tys} (hT : TysOK P T) {t e : Nat} {r re : TyR} (h1 : getT T t = some r) (h2 : r.d = .slice e) (h3 : getT T e = some re) (v : Value) (hv : v.cells.size = re.size) (hp : 1 ≤ re.size) (hq : re.size ≤ 1000) (w : World) :
    (Instr.buildSlice t 1 #[(0, v)]).run P w = .ok (.slice (some ⟨w.heap.size, 0, none⟩) 1 1) (w.alloc (.cells v.cells e)) := by
  have hd := (hT t r h1).desc
  rw [h2] at hd
  have hd : P.underlying t = some (.slice e) := hd
  obtain ⟨z, hz1, hz2⟩ := (hT e re h3).zero
  have hb : ¬ (1 * re.size > 2 ^ 24) := by omega
  have hne : ¬ (1 * re.size = 0) := by omega
  simp only [Instr.buildSlice, Sem.run_bind, run_underlying hd, Result.andThen_ok, (hT e re h3).sizeOf w, if_neg hb, if_neg hne, hz2, Sem.run_pure]
  have hfill : Instr.fill (fun i => some (i * re.size, re.size)) ((Array.range (1 * re.size)).map (z.cells[· % z.cells.size]!)) [(0, v)] = some v.cells := by
    simp only [Instr.fill, Nat.zero_mul]
    rw [if_neg (by simp [hv])]
    have hz : v.cells.zipIdx = (v.cells.toList.zipIdx 0).toArray := by apply Array.ext'; simp
    rw [hz, List.foldl_toArray, foldl_lay 0 _ 0 _ (by simp; omega)]
    congr 1
    apply Array.ext'
    have hlen : (((Array.range (1 * re.size)).map (z.cells[· % z.cells.size]!)).toList.drop (0 + 0 + v.cells.toList.length)) = [] := by
      apply List.drop_eq_nil_of_le
      simp [hv]
    rw [hlen]
    simp
  simp only [hfill]
  simp [newRow]
theorem litK_ok {P : Program} {T : Tys} (hT : TysOK P T) {base : Nat} {w0 : Start} {o : Oper} {t n : Nat} {ps : Array (Nat × Operand)} (ho : o.op = .buildSlice t n ps) {fr : Fr} {stk : List Fr} {m : Mem} {nx : Nat} {K : KO}
    (h : litK T t n ps.toList fr stk m nx K) : EffOK P base w0 o fr stk m nx K := by
  rintro E gs w a hnx hS
  unfold litK at h
  split at h
  · rename_i r h1
    split at h
    · rename_i e h2
      split at h
      · rename_i re h3
        split at h
        · rename_i x hps
          obtain ⟨p, x', h, hx⟩ := op1_ok h
          obtain ⟨h, hc⟩ := cellsOf_ok h
          split at h
          · rename_i e1 e2 e3
            have e1 := Nat.eq_of_beq_eq_true e1
            have e2 := Nat.le_of_ble_eq_true e2
            have e3 := Nat.le_of_ble_eq_true e3
            obtain ⟨hp, h⟩ := VC.out_ok h
            have hr := hx w E _ hp (ev_ok hS.top x)
            have hcells := (hc hr).1
            have hps' : ps = #[(0, x)] := by cases ps; simpa using hps
            have := hS.newBox hnx.fresh x'.cells (a.eval x).cells e hcells
            refine ⟨_, _, .inl ?_, _, fr, stk, _, E.add nx (.pointer (some ⟨w.heap.size, 0, none⟩)), _, h, hnx.add _, this.1, .bsl 1 (.inl rfl) (E.add_h _ _)⟩
            have hrun := run_buildSlice1 hT h1 h2 h3 (a.eval x) (by have := hcells.1; simp at this; omega) e2 e3 w
            simp only [execOp, ho, hps', List.map_toArray, List.map_cons, List.map_nil, Sem.run_bind]
            rw [hrun]
            rfl
          · exact h.elim
        · exact h.elim
      · exact h.elim
    · exact h.elim
  · exact h.elim
end
end Go.SX
/- A verified symbolic executor for Go code in the model, part 9: stores, appends, iterators. -/
namespace Go.SX
open Go.RowKit

/-! ### Stores -/
def setEK (n : Nat) (e : Ent) (m : Mem) (k : Mem → Prop) : Prop := match m with
  | [] => k []
  | (i, x) :: r => match Nat.beq i n with
    | true => k ((i, e) :: r)
    | false => setEK n e r fun r => k ((i, x) :: r)
theorem setEK_eq (n : Nat) (e : Ent) : ∀ (m : Mem) (k : Mem → Prop), setEK n e m k = k (setE n e m)
  | [], _ => rfl
  | (i, x) :: r, k => by
    simp only [setEK, setE]
    cases Nat.beq i n with
    | true => rfl
    | false => exact setEK_eq n e r _
def storeK (T : Tys) (t : Nat) (p x : Operand) (fr : Fr) (stk : List Fr) (m : Mem) (nx : Nat) (K : KO) : Prop := match getT T t with
  | some r => op1 (ev fr p) fun q p => op1 (ev fr x) fun q' x => q.and q' fun q => cellsOf x fun xs => match Nat.beq xs.length r.size with
    | true => match p with
      | .ptr id off => match getE m id with
        | some (.box cs ty) => layK cs off xs fun cs => setEK id (.box cs ty) m fun m => q.out (K .junk fr stk m nx)
        | _ => False
      | .eptr id i s off => match getE m id with
        | some (.row C l ty cap) => match Nat.beq C.size s with
          | true => layK (C.enc (l.getD i.toNat C.d)) off xs fun cs => q.out (i.toNat < l.length ∧ LeL cs (C.enc (C.dec cs)) ∧ Run (setEK id (.row C (l.set i.toNat (C.dec cs)) ty cap) m fun m => K .junk fr stk m nx))
          | false => False
        | _ => False
      | _ => False
    | false => False
  | none => False

theorem run_storeVar {P : Program} {T : Tys} (hT : TysOK P T) {t : Nat} {r : TyR} (h1 : getT T t = some r) (v : Value) (hv : v.cells.size = r.size) (h1c : ∀ u ∈ v.cells.toList, u.oneCell' = true)
    {w : World} {b off : Nat} {cur : Array Value} {e : TypeId} (hg : w.heap[b]? = some (.cells cur e (0, 0))) (hfit : off + v.cells.size ≤ cur.size) :
    (storeVar t ⟨b, off, none⟩ v).run P w = .ok () (w.setRow b (cur.toList.take off ++ v.cells.toList ++ cur.toList.drop (off + v.cells.size)).toArray) := by
  have hst := run_storeCells_at P b off e v.cells.toList 0 cur w hg (by simpa using hfit) h1c
  simp only [Nat.add_zero] at hst
  have hsz := (hT t r h1).sizeOf w
  simp only [storeVar, Sem.run_bind, hsz, Result.andThen_ok]
  rw [if_neg (by omega)]
  rw [hst]
  simp
theorem setRow_heap (w : World) (b : Nat) (cs : Array Value) {cur : Array Value} {e : TypeId} {fr : Nat × Nat} (hg : w.heap[b]? = some (.cells cur e fr)) : (w.setRow b cs).heap[b]? = some (.cells cs e fr) := by
  simp [World.setRow, Array.getElem?_modify, hg]
theorem setRow_other (w : World) (b k : Nat) (cs : Array Value) (h : k ≠ b) : (w.setRow b cs).heap[k]? = w.heap[k]? := by
  simp only [World.setRow, Array.getElem?_modify]
  rw [if_neg (by omega)]

theorem lay_flat {α : Type} (enc : α → List AV) (n : Nat) (hs : ∀ x, (enc x).length = n) (x : α) : ∀ (l : List α) (i : Nat), i < l.length → (l.set i x).flatMap enc = lay (l.flatMap enc) (i * n) (enc x)
  | [], i, h => by simp at h
  | a :: l, 0, _ => by
    simp [lay, hs]
  | a :: l, i + 1, h => by
    simp only [List.set_cons_succ, List.flatMap_cons]
    rw [lay_flat enc n hs x l i (by simpa using h)]
    unfold lay
    rw [List.take_append, List.drop_append]
    have h1 : (i + 1) * n - (enc a).length = i * n := by rw [hs, Nat.add_mul]; omega
    have h2 : (i + 1) * n + (enc x).length - (enc a).length = i * n + (enc x).length := by rw [hs, hs, Nat.add_mul]; omega
    have h3 : (enc a).take ((i + 1) * n) = enc a := List.take_of_length_le (by rw [hs, Nat.add_mul]; omega)
    have h4 : (enc a).drop ((i + 1) * n + (enc x).length) = [] := List.drop_eq_nil_of_le (by rw [hs, hs, Nat.add_mul]; omega)
    rw [h1, h2, h3, h4]
    simp
theorem splice_take {β : Type} (cur : List β) (n o : Nat) (news : List β) (h : o + news.length ≤ n) (hn : n ≤ cur.length) :
    (cur.take o ++ news ++ cur.drop (o + news.length)).take n = (cur.take n).take o ++ news ++ (cur.take n).drop (o + news.length) := by
  apply List.ext_getElem?
  intro j
  have h1 : (cur.take o).length = o := by simp; omega
  have h2 : ((cur.take n).take o).length = o := by simp; omega
  have h3 : (cur.take o ++ news).length = o + news.length := by simp; omega
  have h4 : ((cur.take n).take o ++ news).length = o + news.length := by simp; omega
  rw [List.getElem?_take]
  by_cases c1 : j < o
  · rw [if_pos (by omega), List.getElem?_append_left (by omega), List.getElem?_append_left (by omega), List.getElem?_append_left (by omega), List.getElem?_append_left (by omega)]
    simp only [List.getElem?_take, c1, if_true]
    rw [if_pos (by omega)]
  · by_cases c2 : j < o + news.length
    · rw [if_pos (by omega), List.getElem?_append_left (by omega), List.getElem?_append_right (by omega), List.getElem?_append_left (by omega), List.getElem?_append_right (by omega), h1, h2]
    · rw [List.getElem?_append_right (l₁ := cur.take o ++ news) (by omega), List.getElem?_append_right (l₁ := (cur.take n).take o ++ news) (by omega), h3, h4]
      simp only [List.getElem?_drop, List.getElem?_take]
      rw [show o + news.length + (j - (o + news.length)) = j by omega]
theorem splice_nest {β : Type} (xs : List β) (b s o : Nat) (news : List β) (h : o + news.length ≤ s) (hb : b + s ≤ xs.length) :
    xs.take b ++ (((xs.drop b).take s).take o ++ news ++ ((xs.drop b).take s).drop (o + news.length)) ++ xs.drop (b + s) = xs.take (b + o) ++ news ++ xs.drop (b + o + news.length) := by
  have e1 : xs.take (b + o) = xs.take b ++ ((xs.drop b).take s).take o := by
    rw [List.take_add, List.take_take, Nat.min_eq_left (by omega)]
  have e2 : xs.drop (b + o + news.length) = ((xs.drop b).take s).drop (o + news.length) ++ xs.drop (b + s) := by
    rw [show b + o + news.length = b + (o + news.length) by omega, ← List.drop_drop]
    conv => lhs; rw [← List.take_append_drop s (xs.drop b)]
    rw [List.drop_append_of_le_length (by simp; omega), List.drop_drop]
  rw [e1, e2]
  simp

theorem storeK_ok {P : Program} {T : Tys} (hT : TysOK P T) {base : Nat} {w0 : Start} {o : Oper} {t : Nat} {p x : Operand} (ho : o.op = .store t p x) {fr : Fr} {stk : List Fr} {m : Mem} {nx : Nat} {K : KO}
    (h : storeK T t p x fr stk m nx K) : EffOK P base w0 o fr stk m nx K := by
  rintro E gs w a hnx hS
  unfold storeK at h
  split at h
  · rename_i r h1
    obtain ⟨q, p', h, hp⟩ := op1_ok h
    obtain ⟨q', x', h, hx⟩ := op1_ok h
    obtain ⟨q2, h, hq⟩ := VC.and_ok h
    obtain ⟨h, hc⟩ := cellsOf_ok h
    split at h
    · rename_i hlen
      have hlen := Nat.eq_of_beq_eq_true hlen
      have fin : ∀ {b off : Nat} {cur : Array Value} {e : TypeId} (hpv : a.eval p = .pointer (some ⟨b, off, none⟩)) (hq2 : q2.ok) (hg : w.heap[b]? = some (.cells cur e (0, 0))) (hfit : off + x'.cells.length ≤ cur.size),
          (execOp a.eval o).run P w = .ok .skip (w.setRow b (cur.toList.take off ++ (a.eval x).cells.toList ++ cur.toList.drop (off + (a.eval x).cells.size)).toArray) ∧ RelL w E x'.cells (a.eval x).cells.toList := by
        intro b off cur e hpv hq2 hg hfit
        have hrx := hx w E _ (hq hq2).2 (ev_ok hS.top x)
        obtain ⟨hr1, hr2⟩ := hc hrx
        have hsz : (a.eval x).cells.size = x'.cells.length := by have := hr1.1; simp at this; omega
        refine ⟨?_, hr1⟩
        have := run_storeVar (P := P) (b := b) (off := off) hT h1 (a.eval x) (by omega) hr2 hg (by omega)
        simp [execOp, ho, Instr.storeAt, hpv, Instr.sureAddr, this]
      cases p' with
      | ptr id off =>
        simp only at h
        split at h
        · rename_i cs ty he
          obtain ⟨hfit, h⟩ := layK_ok h
          rw [setEK_eq] at h
          obtain ⟨hq2, h⟩ := VC.out_ok h
          have hrp := hp w E _ (hq hq2).1 (ev_ok hS.top p)
          have hm := mem_of_getE he
          obtain ⟨hid, ⟨b, vs, hb1, hb2, hb3⟩, _⟩ := hS.ents _ _ hm
          generalize hpv : a.eval p = pv at hrp
          cases hrp with
          | @ptr _ _ b' _ hn hb =>
            rw [hb1] at hb
            cases hb
            have hvs : vs.size = cs.length := by have := hb3.1; simp at this; omega
            obtain ⟨hrun, hrx⟩ := fin hpv hq2 hb2 (by omega)
            refine ⟨undef, _, .inr ⟨rfl, hrun⟩, .junk, fr, stk, _, E, _, h, hnx, ?_, .junk _⟩
            refine hS.turn hm (b := b) (by rw [hb1]; rfl) rfl rfl rfl (by simp) (fun k hk => setRow_other w b k _ hk) ⟨b, _, hb1, setRow_heap w b _ hb2, ?_⟩
            have g : Goes E E w (w.setRow b (vs.toList.take off ++ (a.eval x).cells.toList ++ vs.toList.drop (off + (a.eval x).cells.size)).toArray) :=
              ⟨fun _ _ => rfl, fun _ h => h, fun _ h => h, fun _ h => h, fun k hk => setRow_other w b k _ (hS.away hm (by rw [hb1]; rfl) hk)⟩
            have := (RelL.lay hb3 hrx hfit).mono g
            simpa using this
        · exact h.elim
      | eptr id i s off =>
        simp only at h
        split at h
        · rename_i α C l ty cap he
          split at h
          · rename_i hsz
            have hsz := Nat.eq_of_beq_eq_true hsz
            obtain ⟨hfit, h⟩ := layK_ok h
            obtain ⟨hq2, hi, hle, h⟩ := VC.out_ok h
            have h := h.out
            rw [setEK_eq] at h
            have hrp := hp w E _ (hq hq2).1 (ev_ok hS.top p)
            rw [← hsz] at hrp
            have hm := mem_of_getE he
            obtain ⟨hid, ⟨hs, h0, ⟨xs, hown, hrl⟩, hcap⟩, _⟩ := hS.ents _ _ hm
            generalize hpv : a.eval p = pv at hrp
            cases hrp with
            | @eptr _ _ b n c _ _ _ hn hb =>
              have hget : l.getD i.toNat C.d = l[i.toNat] := by simp [List.getD, hi]
              rw [hget] at hfit hle h
              rw [hs] at hfit
              obtain ⟨g', c', cur, hv, hbg, hheap, hnc, hcs, htake⟩ := ownsRow_slice hown (by omega)
              rw [hb] at hv
              cases hv
              have hxsl : xs.length = l.length * C.size := hown.1
              have hin : i.toNat * C.size + C.size ≤ l.length * C.size := by
                have : (i.toNat + 1) * C.size ≤ l.length * C.size := Nat.mul_le_mul_right _ hi
                rwa [Nat.add_mul, Nat.one_mul] at this
              have hcur : l.length * C.size ≤ cur.size := by rw [hcs]; exact Nat.mul_le_mul_right _ hnc
              have hm2 : c ≤ maxLen := by
                rcases hown.2 with ⟨hnil, _⟩ | ⟨_, _, _, hv2, _, _, _, hm2, _⟩
                · rw [hb] at hnil; cases hnil
                · rw [hb] at hv2; cases hv2; exact hm2
              obtain ⟨hrun, hrx⟩ := fin (b := b) (off := i.toNat * C.size + off) (cur := cur) (e := ty) hpv hq2 hheap (by omega)
              obtain ⟨news, hnews⟩ : ∃ news, news = (a.eval x).cells.toList := ⟨_, rfl⟩
              have hnl : (a.eval x).cells.size = news.length := by rw [hnews]; simp
              have hxl : x'.cells.length = news.length := by rw [hnews]; exact hrx.1
              rw [hnl, ← hnews] at hrun
              rw [← hnews] at hrx
              have himm : ∀ k, E.imm k → k ≠ b := fun k hk e => by subst e; exact ((hS.ents _ _ hm).2.2 k (by rw [hb]; rfl)).2.1 hk
              have hxs' : (cur.toList.take (i.toNat * C.size + off) ++ news ++ cur.toList.drop (i.toNat * C.size + off + news.length)).take (l.length * C.size) =
                  xs.take (i.toNat * C.size + off) ++ news ++ xs.drop (i.toNat * C.size + off + news.length) := by
                rw [← htake]
                exact splice_take _ _ _ _ (by omega) (by simpa using hcur)
              refine ⟨undef, _, .inr ⟨rfl, hrun⟩, .junk, fr, stk, _, E, _, h, hnx, ?_, .junk _⟩
              refine hS.turn hm (b := b) (by rw [hb]; rfl) rfl rfl rfl (by simp) (fun k hk => setRow_other w b k _ hk)
                ⟨hs, h0, ⟨xs.take (i.toNat * C.size + off) ++ news ++ xs.drop (i.toNat * C.size + off + news.length), ⟨?_, .inr ⟨b, c, _, ?_, hbg, setRow_heap w b _ hheap, by simpa using hnc, hm2, ?_, ?_⟩⟩, ?_⟩, hcap⟩
              · simp only [List.length_append, List.length_take, List.length_drop, List.length_set]
                omega
              · rw [hb]; simp
              · simp
                omega
              · rw [List.length_set]; exact hxs'
              · have g : Goes E.bare E.bare w (w.setRow b (cur.toList.take (i.toNat * C.size + off) ++ news ++ cur.toList.drop (i.toNat * C.size + off + news.length)).toArray) :=
                  Goes.bare (fun _ h => h) fun k hk => setRow_other w b k _ (himm k hk)
                refine RelL.mono ?_ g
                rw [lay_flat C.enc C.size hs _ l i.toNat hi]
                obtain ⟨ys, hys⟩ : ∃ ys, ys = (xs.drop (i.toNat * C.size)).take C.size := ⟨_, rfl⟩
                have hysl : ys.length = C.size := by rw [hys]; simp; omega
                have hel : RelL w E (C.enc l[i.toNat]) ys := by
                  refine ⟨by rw [hs, hysl], fun j hj1 hj2 => ?_⟩
                  have hj : j < C.size := by rw [hs] at hj1; exact hj1
                  obtain ⟨y, hy1, hy2⟩ := row_cells hs hown hrl hb i.toNat hi j hj
                  have hlt : i.toNat * C.size + j < xs.length := by omega
                  have := hown.cells (g := b) (by rw [hb]; rfl) (i.toNat * C.size + j) xs[i.toNat * C.size + j] (by simp [hlt])
                  rw [Addr.add_lit, Nat.zero_add, hy1] at this
                  have he2 : ys[j] = y := by
                    rw [Option.some.inj this]
                    simp [hys]
                  rw [he2]
                  exact hy2.unbare
                have hnew := hle.rel (RelL.lay hel hrx (by rw [hs]; exact hfit))
                have := RelL.lay hrl hnew (o := i.toNat * C.size) (by rw [hs, flatMap_len C.enc C.size hs]; exact hin)
                have hsp := splice_nest xs (i.toNat * C.size) C.size off news (by omega) (by omega)
                rw [← hys] at hsp
                have hl2 : (ys.take off ++ news ++ ys.drop (off + news.length)).length = C.size := by simp; omega
                rw [hl2, hsp] at this
                exact this
          · exact h.elim
        · exact h.elim
      | _ => exact False.elim h
    · exact h.elim
  · exact h.elim
end Go.SX
/- A verified symbolic executor for Go code in the model, part 10: appends. -/
namespace Go.SX
open Go.RowKit

def subFK (r : Nat) (fr : Fr) (k : Fr → Prop) : Prop := match fr with
  | [] => k []
  | (n, a) :: l => subFK r l fun l => force (AV.sub r .junk a) fun a => k ((n, a) :: l)
theorem subFK_eq (r : Nat) : ∀ (fr : Fr) (k : Fr → Prop), subFK r fr k = k (subF r .junk fr)
  | [], _ => rfl
  | (n, a) :: l, k => by simp only [subFK, subF, subFK_eq r l, force_eq]
def subLK (r : Nat) (l : List AV) (k : List AV → Prop) : Prop := match l with
  | [] => k []
  | a :: l => subLK r l fun l => force (AV.sub r .junk a) fun a => k (a :: l)
theorem subLK_eq (r : Nat) : ∀ (l : List AV) (k : List AV → Prop), subLK r l k = k (AV.subL r .junk l)
  | [], _ => by simp only [subLK, AV.subL]
  | a :: l, k => by simp only [subLK, AV.subL, subLK_eq r l, force_eq]
def subMK (r : Nat) (m : Mem) (k : Mem → Prop) : Prop := match m with
  | [] => k []
  | (n, e) :: l => subMK r l fun l => match e with
    | .box cs t => subLK r cs fun cs => k ((n, .box cs t) :: l)
    | .row C q t cap => k ((n, .row C q t cap) :: l)
    | .iter s p => k ((n, .iter s p) :: l)
    | .defer b => k ((n, .defer b) :: l)
    | .loop b st pend fr sz ps assign body df => subFK r fr fun fr => k ((n, .loop b st pend fr sz ps assign body df) :: l)
theorem subMK_eq (r : Nat) : ∀ (m : Mem) (k : Mem → Prop), subMK r m k = k (subM r .junk m)
  | [], _ => rfl
  | (n, e) :: l, k => by cases e <;> simp only [subMK, subM, subMK_eq r l, subLK_eq, subFK_eq, Ent.sub]
def subSK (r : Nat) (stk : List Fr) (k : List Fr → Prop) : Prop := match stk with
  | [] => k []
  | f :: l => subSK r l fun l => subFK r f fun f => k (f :: l)
theorem subSK_eq (r : Nat) : ∀ (stk : List Fr) (k : List Fr → Prop), subSK r stk k = k (stk.map (subF r .junk))
  | [], _ => rfl
  | f :: l, k => by simp only [subSK, subSK_eq r l, subFK_eq, List.map_cons]

def subFZ (r : Nat) (z : AV) (fr : Fr) (k : Fr → Prop) : Prop := match fr with
  | [] => k []
  | (n, a) :: l => subFZ r z l fun l => force (AV.sub r z a) fun a => k ((n, a) :: l)
theorem subFZ_eq (r : Nat) (z : AV) : ∀ (fr : Fr) (k : Fr → Prop), subFZ r z fr k = k (subF r z fr)
  | [], _ => rfl
  | (n, a) :: l, k => by simp only [subFZ, subF, subFZ_eq r z l, force_eq]
def subLZ (r : Nat) (z : AV) (l : List AV) (k : List AV → Prop) : Prop := match l with
  | [] => k []
  | a :: l => subLZ r z l fun l => force (AV.sub r z a) fun a => k (a :: l)
theorem subLZ_eq (r : Nat) (z : AV) : ∀ (l : List AV) (k : List AV → Prop), subLZ r z l k = k (AV.subL r z l)
  | [], _ => by simp only [subLZ, AV.subL]
  | a :: l, k => by simp only [subLZ, AV.subL, subLZ_eq r z l, force_eq]
def subMZ (r : Nat) (z : AV) (m : Mem) (k : Mem → Prop) : Prop := match m with
  | [] => k []
  | (n, e) :: l => subMZ r z l fun l => match e with
    | .box cs t => subLZ r z cs fun cs => k ((n, .box cs t) :: l)
    | .row C q t cap => k ((n, .row C q t cap) :: l)
    | .iter s p => k ((n, .iter s p) :: l)
    | .defer b => k ((n, .defer b) :: l)
    | .loop b st pend fr sz ps assign body df => subFZ r z fr fun fr => k ((n, .loop b st pend fr sz ps assign body df) :: l)
theorem subMZ_eq (r : Nat) (z : AV) : ∀ (m : Mem) (k : Mem → Prop), subMZ r z m k = k (subM r z m)
  | [], _ => rfl
  | (n, e) :: l, k => by cases e <;> simp only [subMZ, subM, subMZ_eq r z l, subLZ_eq, subFZ_eq, Ent.sub]
def subSZ (r : Nat) (z : AV) (stk : List Fr) (k : List Fr → Prop) : Prop := match stk with
  | [] => k []
  | f :: l => subSZ r z l fun l => subFZ r z f fun f => k (f :: l)
theorem subSZ_eq (r : Nat) (z : AV) : ∀ (stk : List Fr) (k : List Fr → Prop), subSZ r z stk k = k (stk.map (subF r z))
  | [], _ => rfl
  | f :: l, k => by simp only [subSZ, subSZ_eq r z l, subFZ_eq, List.map_cons]

def AV.flat1 : AV → Bool
  | .v y => match y with
    | .agg _ | .tuple _ => false
    | _ => true
  | .sb _ => true
  | _ => false
def flatL : List AV → Bool
  | [] => true
  | a :: l => match a.flat1 with | true => flatL l | false => false
theorem flat1_ok {x : AV} (h : x.flat1 = true) : x.cell1 = true ∧ ∀ {w : World} {E E' : Env} {v : Value}, Rel w E x v → Rel w E' x v := by
  cases x with
  | v y => exact ⟨h, fun hr => by rw [hr.v_inv]; exact .v _⟩
  | sb b => exact ⟨rfl, fun hr => by rw [hr.sb_inv]; exact .sb _⟩
  | _ => exact Bool.noConfusion h
theorem flatL_ok : ∀ {l : List AV}, flatL l = true → all1 l = true ∧ ∀ {w : World} {E E' : Env} {vs : List Value}, RelL w E l vs → RelL w E' l vs
  | [], _ => ⟨rfl, fun hr => by
    obtain rfl := List.eq_nil_of_length_eq_zero hr.1.symm
    exact RelL.nil _ _⟩
  | a :: l, h => by
    simp only [flatL] at h
    split at h
    · rename_i h1
      obtain ⟨c1, c2⟩ := flat1_ok h1
      obtain ⟨d1, d2⟩ := flatL_ok h
      refine ⟨by simp only [all1, c1]; exact d1, fun hr => ?_⟩
      obtain ⟨x, xs, rfl, e1, e2⟩ := hr.uncons
      exact RelL.cons (c2 e1) (d2 e2)
    · cases h
theorem flatL_append : ∀ (l r : List AV), flatL (l ++ r) = (flatL l && flatL r)
  | [], r => by simp [flatL]
  | a :: l, r => by
    simp only [List.cons_append, flatL]
    cases a.flat1 with
    | true => exact flatL_append l r
    | false => rfl
theorem flatL_flat {α : Type} {enc : α → List AV} (h : ∀ x, flatL (enc x) = true) : ∀ l : List α, flatL (l.flatMap enc) = true
  | [] => rfl
  | a :: l => by rw [List.flatMap_cons, flatL_append, h a, flatL_flat h l]; rfl
theorem flatMap_drop {α : Type} (enc : α → List AV) (n : Nat) (hs : ∀ x, (enc x).length = n) : ∀ (l : List α) (a : Nat), (l.drop a).flatMap enc = (l.flatMap enc).drop (a * n)
  | [], a => by simp
  | x :: l, 0 => by simp
  | x :: l, a + 1 => by
    rw [List.drop_succ_cons, List.flatMap_cons, flatMap_drop enc n hs l a, List.drop_append, List.drop_eq_nil_of_le (as := enc x) (by rw [hs, Nat.add_mul]; omega), List.nil_append, hs, show (a + 1) * n - n = a * n by rw [Nat.add_mul]; omega]
theorem flatMap_take {α : Type} (enc : α → List AV) (n : Nat) (hs : ∀ x, (enc x).length = n) : ∀ (l : List α) (a : Nat), (l.take a).flatMap enc = (l.flatMap enc).take (a * n)
  | [], a => by simp
  | x :: l, 0 => by simp
  | x :: l, a + 1 => by
    rw [List.take_succ_cons, List.flatMap_cons, List.flatMap_cons, flatMap_take enc n hs l a, List.take_append, List.take_of_length_le (l := enc x) (by rw [hs, Nat.add_mul]; omega), hs, show (a + 1) * n - n = a * n by rw [Nat.add_mul]; omega]
structure ExE {α : Type} (C : Cdc α) (cs : List AV) (k : List α → Prop) : Prop where
  of ::
  out : ∃ x, LeL cs (C.enc x) ∧ Run (k [x])
theorem ExE.mk {α : Type} {C : Cdc α} {cs : List AV} {k : List α → Prop} (x : α) (h : LeL cs (C.enc x)) (h2 : Run (k [x])) : ExE C cs k := ⟨⟨x, h, h2⟩⟩
theorem ExE.row {α : Type} {C : Cdc (List α)} {s : Nat} {en : α → List AV} {d : α} {l : List α} {c : Option Nat} {k : List (List α) → Prop} (hC : C.enc l = [.ro s en d l none]) (h : Run (k [l])) : ExE C [.ro s en d l c] k :=
  ⟨⟨l, by rw [hC]; exact .cons (.roCap _ _ _ _ _) .nil, h⟩⟩
def newsK {α : Type} (C : Cdc α) (m : Mem) (x : AV) (k : List α → Prop) : Prop := match x with
  | .bsl id n => match n, getE m id with
    | 1, some (.box cs _) => match all1 cs, Nat.beq cs.length C.size with
      | true, true => match C.sl with
        | false => LeL cs (C.enc (C.dec cs)) ∧ Run (k [C.dec cs])
        | true => ExE C cs k
      | _, _ => False
    | _, _ => False
  | .ro s en _ l2 _ z => match Nat.beq s C.size with
    | true => match z with
      | false => ∃ l3 : List α, (l2.flatMap en = l3.flatMap C.enc ∧ l3.length = l2.length ∧ ∀ x, all1 (C.enc x) = true) ∧ Run (k l3)
      | true => ∃ l3 : List α, (l2.flatMap en = l3.flatMap C.enc ∧ l3.length = l2.length ∧ ∀ x, flatL (C.enc x) = true) ∧ Run (k l3)
    | false => False
  | .view id sz lo u => match getE m id with
    | some (.row C2 l2 _ _) => match Nat.beq C2.size C.size, Nat.beq sz C.size, Nat.ble (lo + u) l2.length with
      | true, true, b => ∃ l3 : List α, (b = true ∧ ((l2.drop lo).take u).flatMap C2.enc = l3.flatMap C.enc ∧ l3.length = u ∧ ∀ x, all1 (C.enc x) = true) ∧ Run (k l3)
      | _, _, _ => False
    | _ => False
  | .own id => match getE m id with
    | some (.row C2 l2 _ _) => match Nat.beq C2.size C.size with
      | true => ∃ l3 : List α, (l2.flatMap C2.enc = l3.flatMap C.enc ∧ l3.length = l2.length ∧ ∀ x, all1 (C.enc x) = true) ∧ Run (k l3)
      | false => False
    | _ => False
  | .v (.slice none 0 _) => k []
  | _ => False
def NewsAt {α : Type} (C : Cdc α) (news : List α) (w : World) (E : Env) (v : Value) : Prop :=
  (news = [] ∧ ∃ c, v = .slice none 0 c) ∨ ∃ a c nv, v = .slice (some a) news.length c ∧ RelL w E.bare (news.flatMap C.enc) nv ∧ (∀ j u, nv[j]? = some u → w.cell? (a.add j) = some u) ∧ ∀ u ∈ nv, u.oneCell' = true

theorem all1_append : ∀ (l r : List AV), all1 (l ++ r) = (all1 l && all1 r)
  | [], r => by simp [all1]
  | a :: l, r => by
    simp only [List.cons_append, all1]
    cases a.cell1 with
    | true => exact all1_append l r
    | false => rfl
theorem all1_flat {α : Type} {enc : α → List AV} (h : ∀ x, all1 (enc x) = true) : ∀ l : List α, all1 (l.flatMap enc) = true
  | [] => rfl
  | a :: l => by rw [List.flatMap_cons, all1_append, h a, all1_flat h l]; rfl
theorem ones_of {w : World} {E : Env} {cs : List AV} {vs : List Value} (h : RelL w E cs vs) (h1 : all1 cs = true) : ∀ u ∈ vs, u.oneCell' = true := by
  intro u hu
  obtain ⟨i, hi, rfl⟩ := List.mem_iff_getElem.1 hu
  have hi2 : i < cs.length := by rw [h.1]; exact hi
  exact (cell1_ok (h.2 i hi2 hi) (all1_ok h1 i hi2)).1

theorem ro_news {w : World} {E : Env} {α : Type} {s : Nat} {en : α → List AV} {d : α} {l2 : List α} {cap : Option Nat} {z : Bool} {v : Value} (hv : Rel w E (.ro s en d l2 cap z) v) (hpos : 0 < s) :
    (l2 = [] ∧ ∃ c, v = .slice none 0 c) ∨ ∃ a c nv, v = .slice (some a) l2.length c ∧ RelL w (E.bz z) (l2.flatMap en) nv ∧ ∀ j u, nv[j]? = some u → w.cell? (a.add j) = some u := by
  cases hv with
  | roNil _ _ _ _ A c hs hc =>
    cases A with
    | none => exact .inl ⟨rfl, c, rfl⟩
    | some a => exact .inr ⟨a, c, [], rfl, RelL.nil _ _, by simp⟩
  | @ro _ _ _ _ _ _ _ b o c _ y hs hcap hlc him hc hr =>
    refine .inr ⟨⟨b, o, none⟩, c, (List.range (l2.length * s)).map fun q => y (q / s) (q % s), rfl, ⟨by simp [flatMap_len en s hs], fun i h1 h2 => ?_⟩, fun j u hj => ?_⟩
    · have hi : i < l2.length * s := by simpa using h2
      have hq : i / s < l2.length := (Nat.div_lt_iff_lt_mul hpos).2 hi
      have hm : i % s < s := Nat.mod_lt _ hpos
      have hg := flatMap_get en s hs l2 (i / s) (i % s) hq hm
      rw [Nat.mul_comm, Nat.div_add_mod] at hg
      have hm2 : i % s < (en l2[i / s]).length := by rw [hs]; exact hm
      rw [List.getElem?_eq_getElem h1, List.getElem?_eq_getElem hm2] at hg
      rw [Option.some.inj hg]
      simpa using hr (i / s) hq (i % s) hm2
    · simp only [List.getElem?_map] at hj
      have hj2 : j < l2.length * s := by
        rcases Nat.lt_or_ge j (l2.length * s) with h | h
        · exact h
        · simp [h] at hj
      have hju : y (j / s) (j % s) = u := by simpa [hj2] using hj
      have hcc := hc (j / s) (j % s) ((Nat.div_lt_iff_lt_mul hpos).2 hj2) (Nat.mod_lt _ hpos)
      rw [Nat.mul_comm (j / s), Nat.div_add_mod] at hcc
      rw [Addr.add_lit, hcc, hju]

theorem newsK_ok {α : Type} {C : Cdc α} (hpos : 0 < C.size) {m : Mem} {x : AV} {k : List α → Prop} (h : newsK C m x k) :
    ∃ news, k news ∧ ∀ base w0 E stk gs w v, SatM base w0 E stk gs m w → Rel w E x v → NewsAt C news w E v := by
  unfold newsK at h
  split at h
  · rename_i id n
    split at h
    · rename_i cs ty he
      split at h
      · rename_i h1 h2
        have h2 := Nat.eq_of_beq_eq_true h2
        have h : ∃ x, LeL cs (C.enc x) ∧ k [x] := by
          split at h
          · exact ⟨_, h.1, h.2.out⟩
          · obtain ⟨x, h1, h2⟩ := h.out
            exact ⟨x, h1, h2.out⟩
        obtain ⟨x, h, hk⟩ := h
        refine ⟨_, hk, fun base w0 E stk gs w v hS hv => .inr ?_⟩
        obtain ⟨hid, ⟨b, vs, hb1, hb2, hb3⟩, _⟩ := hS.ents _ _ (mem_of_getE he)
        cases hv with
        | @bsl _ _ b' _ hn hb =>
          rw [hb1] at hb
          cases hb
          refine ⟨⟨b, 0, none⟩, 1, vs.toList, rfl, by simpa using h.rel hb3, fun j u hj => ?_, ones_of hb3 h1⟩
          rw [Addr.add_lit]
          simp only [World.cell?, hb2]
          simpa using hj
      · exact h.elim
    · exact h.elim
  · rename_i β s en d l2 cap z
    split at h
    · rename_i hsz
      have hsz := Nat.eq_of_beq_eq_true hsz
      split at h
      · obtain ⟨l3, ⟨he, hl, ha⟩, h⟩ := h
        refine ⟨_, h.out, fun base w0 E stk gs w v hS hv => ?_⟩
        rcases ro_news hv (by omega) with ⟨h1, h2⟩ | ⟨a, c, nv, h1, h2, h3⟩
        · exact .inl ⟨List.eq_nil_of_length_eq_zero (by rw [hl, h1]; rfl), h2⟩
        · rw [he] at h2
          exact .inr ⟨a, c, nv, by rw [hl]; exact h1, h2, h3, ones_of h2 (all1_flat ha l3)⟩
      · obtain ⟨l3, ⟨he, hl, ha⟩, h⟩ := h
        refine ⟨_, h.out, fun base w0 E stk gs w v hS hv => ?_⟩
        obtain ⟨fa, fb⟩ := flatL_ok (flatL_flat ha l3)
        rcases ro_news hv (by omega) with ⟨h1, h2⟩ | ⟨a, c, nv, h1, h2, h3⟩
        · exact .inl ⟨List.eq_nil_of_length_eq_zero (by rw [hl, h1]; rfl), h2⟩
        · rw [he] at h2
          exact .inr ⟨a, c, nv, by rw [hl]; exact h1, fb h2, h3, ones_of h2 fa⟩
    · exact h.elim
  · rename_i id sz lo u
    split at h
    · rename_i β C2 l2 t2 cap he
      split at h
      · rename_i hsz hsz2
        have hsz := Nat.eq_of_beq_eq_true hsz
        have hsz2 := Nat.eq_of_beq_eq_true hsz2
        obtain ⟨l3, ⟨hbt, hen, hl, ha⟩, h⟩ := h
        have hlu : lo + u ≤ l2.length := Nat.le_of_ble_eq_true hbt
        refine ⟨_, h.out, fun base w0 E stk gs w v hS hv => ?_⟩
        obtain ⟨hid, ⟨hs2, h0, ⟨xs, hown, hrl⟩, hcap⟩, _⟩ := hS.ents _ _ (mem_of_getE he)
        cases hv with
        | @view _ _ A A' N c _ _ _ hn hs hle hA =>
          by_cases hu : u = 0
          · subst hu
            obtain rfl : l3 = [] := List.eq_nil_of_length_eq_zero hl
            cases A' with
            | none => exact .inl ⟨rfl, _, rfl⟩
            | some a => exact .inr ⟨a, _, [], rfl, RelL.nil _ _, by simp, by simp⟩
          · have hrl2 := (hrl.drop (lo * C2.size)).take (u * C2.size)
            rw [← flatMap_drop C2.enc C2.size hs2, ← flatMap_take C2.enc C2.size hs2, hen] at hrl2
            rcases hown.2 with ⟨hv, hn0⟩ | ⟨g, cc, cur, hv, hbg, hg, hnc, hcm, hcs, htake⟩
            · omega
            · have hv0 := hv
              rw [hs] at hv
              simp only [Value.slice.injEq] at hv
              obtain ⟨rfl, rfl, rfl⟩ := hv
              have hA := hA (by omega)
              simp only [Option.map_some, Addr.add_lit, Nat.zero_add] at hA
              rw [hA]
              refine .inr ⟨⟨g, lo * sz, none⟩, _, _, by rw [hl], hrl2, fun j w1 hj => ?_, ones_of hrl2 (all1_flat ha l3)⟩
              rw [List.getElem?_take] at hj
              split at hj
              · rw [List.getElem?_drop] at hj
                have := hown.cells (g := g) (by rw [hv0]; rfl) _ w1 hj
                rw [Addr.add_lit] at this ⊢
                rw [hsz2, ← hsz]
                simpa using this
              · cases hj
      · exact h.elim
    · exact h.elim
  · rename_i id
    split at h
    · rename_i β C2 l2 t2 cap he
      split at h
      · rename_i hsz
        have hsz := Nat.eq_of_beq_eq_true hsz
        obtain ⟨l3, ⟨hen, hl, ha⟩, h⟩ := h
        refine ⟨_, h.out, fun base w0 E stk gs w v hS hv => ?_⟩
        obtain ⟨hid, ⟨hs2, h0, ⟨xs, hown, hrl⟩, hcap⟩, _⟩ := hS.ents _ _ (mem_of_getE he)
        cases hv with
        | own hn _ =>
          rw [hen] at hrl
          rcases hown.2 with ⟨hv, hn0⟩ | ⟨g, cc, cur, hv, hbg, hg, hnc, hcm, hcs, htake⟩
          · exact .inl ⟨List.eq_nil_of_length_eq_zero (by rw [hl]; exact hn0), 0, hv⟩
          · refine .inr ⟨⟨g, 0, none⟩, cc, xs, by rw [hl]; exact hv, hrl, fun j u hj => ?_, ones_of hrl (all1_flat ha l3)⟩
            exact hown.cells (g := g) (by rw [hv]; rfl) j u hj
      · exact h.elim
    · exact h.elim
  · rename_i c
    refine ⟨_, h, fun base w0 E stk gs w v hS hv => .inl ⟨rfl, c, ?_⟩⟩
    rw [hv.v_inv]
  · exact h.elim

def appOwnK (m : Mem) (e : Nat) (re : TyR) (id : Nat) (x : AV) (p : VC) (fr : Fr) (stk : List Fr) (nx : Nat) (K : KO) : Prop := match getE m id with
  | some (.row C l ty cap) => match Nat.beq ty e, Nat.beq C.size re.size with
    | true, true => match C.kp with
     | true => p.out (newsK C m x fun news => (l.length + news.length) * re.bytes ≤ 140737488355328 ∧ Run (K (.sl (l.length + news.length)) fr stk m nx))
     | false => match C.pl with
      | false => p.out (newsK C m x fun news => subFK id fr fun fr => subSK id stk fun stk => subMK id m fun m => setEK id (.row C (l ++ news) e none) m fun m =>
        (l.length + news.length) * re.bytes ≤ 140737488355328 ∧ Run (K (.own id) fr stk m nx))
      | true => match cap with
        | some c => p.out (newsK C m x fun news => subFZ id (.view id C.size 0 l.length) fr fun fr => subSZ id (.view id C.size 0 l.length) stk fun stk => subMZ id (.view id C.size 0 l.length) m fun m => setEK id (.row C (l ++ news) e (some c)) m fun m =>
          (l.length + news.length ≤ c ∧ (l.length + news.length) * re.bytes ≤ 140737488355328) ∧ Run (K (.own id) fr stk m nx))
        | none => False
    | _, _ => False
  | _ => False
def appNilK (D : Cds) (m : Mem) (e : Nat) (re : TyR) (x : AV) (p : VC) (fr : Fr) (stk : List Fr) (nx : Nat) (K : KO) : Prop := match getC D e with
  | some c => p.out (newsK c.C m x fun news => news.length * re.bytes ≤ 140737488355328 ∧ Run (K (.own nx) fr stk ((nx, .row c.C news e none) :: m) (nx + 1)))
  | none => False
def appendK (T : Tys) (D : Cds) (args : List Operand) (ats : List Nat) (fr : Fr) (stk : List Fr) (m : Mem) (nx : Nat) (K : KO) : Prop := match args, ats with
  | [s, x], [t, t'] => match Nat.beq t' t, getT T t with
    | true, some r => match r.d with
      | .slice e => match getT T e with
        | some re => match Nat.beq re.zero.length re.size, Nat.ble 1 re.bytes with
          | true, true => op1 (ev fr s) fun p s => op1 (ev fr x) fun q x => p.and q fun p => match s with
            | .own id => appOwnK m e re id x p fr stk nx K
            | .v (.slice none 0 0) => appNilK D m e re x p fr stk nx K
            | _ => False
          | _, _ => False
        | none => False
      | _ => False
    | _, _ => False
  | _, _ => False

theorem run_app {P : Program} {T : Tys} (hT : TysOK P T) {t e : Nat} {r re : TyR} (h1 : getT T t = some r) (h2 : r.d = .slice e) (h3 : getT T e = some re) (hz : re.zero.length = re.size) (ty : Nat)
    {α : Type} {C : Cdc α} (hs : ∀ x, (C.enc x).length = C.size) (hpos : 0 < C.size) (hsz : C.size = re.size) {news : List α} {w : World} {E : Env} {vx : Value} (hx : NewsAt C news w E vx)
    {base n : Nat} {v : Value} {xs : List Value} (hown : w.ownsRow base e C.size v n xs) (hb : (n + news.length) * re.bytes ≤ 140737488355328) (hbp : 0 < re.bytes) (hbase : base ≤ w.heap.size) :
    ∃ v' w' nv, (Builtin.append_ #[t, t] ty #[v, vx]).run P w = .ok v' w' ∧ w'.ownsRow base e C.size v' (n + news.length) (xs ++ nv) ∧ w.grownBy w' v.ownBlock ∧ RelL w E.bare (news.flatMap C.enc) nv ∧
      (∀ b, blk v' = some b → blk v = some b ∨ w.heap.size ≤ b) ∧ (∀ A c, v = .slice A n c → n + news.length ≤ c → v' = .slice A (n + news.length) c) ∧ w'.ownsRow base e C.size v n xs := by
  have hd := (hT t r h1).desc
  rw [h2] at hd
  have hd : P.underlying t = some (.slice e) := hd
  obtain ⟨i, z, hi1, hi2, hi3, hi4, hi5, _⟩ := (hT e re h3).info
  rcases hx with ⟨rfl, c, rfl⟩ | ⟨a, c, nv, rfl, hr, hcell, hone⟩
  · refine ⟨v, w, [], ?_, by simpa using hown, ⟨rfl, rfl, rfl, Nat.le_refl _, fun _ _ _ => rfl⟩, RelL.nil _ _, fun b hb => .inl hb, fun A c h1 _ => h1, hown⟩
    rcases hown.2 with ⟨rfl, rfl⟩ | ⟨g, cap, cur, rfl, _, _, hnc, _⟩
    · simp [Builtin.append_, run_underlying hd, sizeOf, typeInfo, hi1, Builtin.lenOf, Builtin.firstCells]
    · simp [Builtin.append_, run_underlying hd, sizeOf, typeInfo, hi1, Builtin.lenOf, Builtin.firstCells, hnc, storeCells]
  · have hl : nv.length = news.length * C.size := by rw [← hr.1, flatMap_len C.enc C.size hs]
    have h63 : n + news.length ≤ maxLen := by
      have : n + news.length ≤ (n + news.length) * re.bytes := Nat.le_mul_of_pos_right _ hbp
      simp only [maxLen]; omega
    obtain ⟨v', w', hrun, ho, hg, hnil⟩ := run_append_own (P := P) w base t ty e i z C.size re.bytes hd hi1 hi4 (by rw [hi2, hsz]) hi3 (by rw [hi5, hsz]; simpa using hz) hpos v n xs hown a news.length c nv hl hcell hone h63 hb hbase
    refine ⟨v', w', nv, hrun, ho, hg, hr, ?_⟩
    have hls : nv.length = news.length * i.size := by rw [hl, hi2, hsz]
    have h63' : ((n + news.length : Nat) : Int) ≤ 9223372036854775807 := by simp only [maxLen] at h63; omega
    rcases hown.2 with ⟨hv, hn⟩ | ⟨g, cap, cur, hv, hbg, hgg, hnc, hcm, hcs, htake⟩
    · subst hv hn
      by_cases hm : news.length = 0
      · have e := hnil.2 ⟨rfl, hm⟩
        refine ⟨fun b hb3 => (by rw [e] at hb3; cases hb3), fun A c h1 _ => ?_, ⟨hown.1, .inl ⟨rfl, rfl⟩⟩⟩
        rw [e, hm]
        exact h1
      · have := run_append_nil (P := P) w t ty e i z hd hi1 hi4 a news.length c nv hls hcell (by omega) (by omega) (by rw [hi3]; simp only [Nat.zero_add] at hb; omega)
        rw [this] at hrun
        injection hrun with e1 e2
        refine ⟨fun b hb3 => ?_, fun A c h1 h2 => ?_, ⟨hown.1, .inl ⟨rfl, rfl⟩⟩⟩
        · rw [← e1] at hb3
          cases hb3
          exact .inr (Nat.le_refl _)
        · injection h1 with _ _ h3
          omega
    · subst hv
      by_cases hroom : n + news.length ≤ cap
      · have hfit : n * i.size + nv.length ≤ cur.size := by rw [hls, hcs, hsz, hi2, ← Nat.add_mul]; exact Nat.mul_le_mul_right _ hroom
        have := run_append_room (P := P) w t ty e i hd hi1 g n cap cur hgg a news.length c nv hls hcell hone hroom hfit
        rw [this] at hrun
        injection hrun with e1 e2
        refine ⟨fun b hb3 => ?_, fun A c h1 h2 => ?_, ⟨hown.1, ?_⟩⟩
        · rw [← e1] at hb3
          exact .inl hb3
        · rw [← e1]
          injection h1 with h3 _ h4
          rw [h3, h4]
        · rcases ho.2 with ⟨hv2, _⟩ | ⟨g2, cap2, cur2, hv2, hb2, hg2, _, hcm2, hcs2, ht2⟩
          · rw [← e1] at hv2; cases hv2
          · rw [← e1] at hv2
            injection hv2 with h3 _ h4
            injection h3 with h3
            injection h3 with h3
            subst h3 h4
            refine .inr ⟨g, cap, cur2, rfl, hb2, hg2, hnc, hcm2, hcs2, ?_⟩
            have h5 := congrArg (List.take (n * C.size)) ht2
            have h6 : (xs ++ nv).take (n * C.size) = xs := by rw [← hown.1]; exact List.take_left
            rw [List.take_take, Nat.min_eq_left (Nat.mul_le_mul_right _ (Nat.le_add_right _ _)), h6] at h5
            exact h5
      · have holds : ∀ j u, xs[j]? = some u → w.cell? ((⟨g, 0, none⟩ : Addr).add j) = some u := hown.cells (g := g) rfl
        have := run_append_grow (P := P) w t ty e i z hd hi1 hi4 ⟨g, 0, none⟩ n cap xs (by rw [hown.1, hi2, hsz]) holds a news.length c nv hls hcell (by omega) h63' (growslice_fits (by omega) (by rw [hi3]; exact hb))
        rw [this] at hrun
        injection hrun with e1 e2
        refine ⟨fun b hb3 => ?_, fun A c h1 h2 => ?_, ⟨hown.1, .inr ⟨g, cap, cur, rfl, hbg, ?_, hnc, hcm, hcs, htake⟩⟩⟩
        · rw [← e1] at hb3
          cases hb3
          exact .inr (Nat.le_refl _)
        · injection h1 with _ _ h4
          omega
        · rw [← e2]
          have hlt : g < w.drew.heap.size := hown.lt g rfl |>.2
          rw [RowKit.Below.heap_alloc w.drew _ g hlt]
          exact hgg
theorem ownsRow_blk {w : World} {base e size n : Nat} {v : Value} {xs : List Value} (h : w.ownsRow base e size v n xs) : (∀ b, v ≠ .pointer (some ⟨b, 0, none⟩)) ∧ blk v = v.ownBlock ∧ (∃ A m c, v = .slice A m c) ∧ ∀ b, blk v = some b → base ≤ b ∧ b < w.heap.size := by
  have hlt := h.lt
  rcases h.2 with ⟨rfl, rfl⟩ | ⟨g, cap, cur, rfl, _⟩
  · exact ⟨by simp, rfl, ⟨_, _, _, rfl⟩, by simp [blk]⟩
  · exact ⟨by simp, rfl, ⟨_, _, _, rfl⟩, fun b hb => hlt b hb⟩

section
variable {P : Program} {T : Tys} {base : Nat} {w0 : Start} {o : Oper} {fr : Fr} {stk : List Fr} {m : Mem} {nx : Nat} {K : KO}
theorem mem_uniq {n : Nat} {a b : Ent} : ∀ {m : Mem}, (m.map (·.1)).Nodup → (n, a) ∈ m → (n, b) ∈ m → a = b
  | [], _, h, _ => by cases h
  | (k, y) :: r, hn, h1, h2 => by
    rw [List.map_cons, List.nodup_cons] at hn
    rcases List.mem_cons.1 h1 with h1 | h1
    · rcases List.mem_cons.1 h2 with h2 | h2
      · rw [Prod.mk.injEq] at h1 h2; rw [h1.2, h2.2]
      · rw [Prod.mk.injEq] at h1
        exact absurd (List.mem_map_of_mem (f := (·.1)) h2) (by rw [show ((n, b) : Nat × Ent).1 = k from h1.1]; exact hn.1)
    · rcases List.mem_cons.1 h2 with h2 | h2
      · rw [Prod.mk.injEq] at h2
        exact absurd (List.mem_map_of_mem (f := (·.1)) h1) (by rw [show ((n, a) : Nat × Ent).1 = k from h2.1]; exact hn.1)
      · exact mem_uniq hn.2 h1 h2
theorem SatM.keepRow {E : Env} {gs : List (Array Value)} {w w' : World} (hS : SatM base w0 E stk gs m w) {n : Nat} {e : Ent} (hm : (n, e) ∈ m) (hg : w.grownBy w' (blk (E.h n))) (he : EntR base w' E n e) : SatM base w0 E stk gs m w' := by
  have hnb := (hS.ents _ _ hm).2.2
  have hold : ∀ b, E.imm b ∨ E.lnt b → w'.heap[b]? = w.heap[b]? := fun b hb => hg.block b (hS.old hb) fun e => by
    obtain ⟨a1, a2, a3⟩ := hnb b e.symm
    rcases hb with hb | hb
    · exact a2 hb
    · have := hS.keep.2.2 b hb; omega
  have g : Goes E E w w' := ⟨fun _ _ => rfl, fun _ h => h, fun _ h => h, fun _ h => h, hold⟩
  refine ⟨hS.below.trans ⟨hg.os, hg.tape, hg.output, hg.size, fun k hk => hg.block k (by have := hS.ge; omega) fun e => ?_⟩, hS.hb, fun b hb => Nat.lt_of_lt_of_le (hS.imm b hb) hg.size, hS.keep, fun b hb => (hold b (.inl (hS.keep.1 b hb))).trans (hS.same b hb), fun id e' he' => ?_, hS.disj, hS.len, fun i h1 h2 => (hS.stk i h1 h2).mono g⟩
  · have := (hnb k e.symm).1; omega
  · obtain ⟨a1, a2, a3⟩ := hS.ents _ _ he'
    refine ⟨a1, ?_, fun b hb => ⟨(a3 b hb).1, (a3 b hb).2.1, Nat.lt_of_lt_of_le (a3 b hb).2.2 hg.size⟩⟩
    by_cases hid : id = n
    · subst hid
      rw [mem_uniq hS.nodup he' hm]
      exact he
    · exact a2.mono g a1 fun b hb => hg.block b (a3 b hb).2.2 fun e => hS.apart he' hm hid hb e.symm
theorem appOwnK_ok (hT : TysOK P T) {t e : Nat} {r re : TyR} (h1 : getT T t = some r) (h2 : r.d = .slice e) (h3 : getT T e = some re) (hz : re.zero.length = re.size) (hbp : 0 < re.bytes)
    {n : Nat} {x : AV} {p : VC} (h : appOwnK m e re n x p fr stk nx K) {E : Env} {gs : List (Array Value)} {w : World} {a : Act} (hnx : E.under nx) (hS : SatM base w0 E (fr :: stk) (a.tmps :: gs) m w)
    {vs vx : Value} (hs' : p.ok → Rel w E (.own n) vs) (hx' : p.ok → Rel w E x vx) (hexec : ∀ v w', (Builtin.append_ #[t, t] o.type #[vs, vx]).run P w = .ok v w' → (execOp a.eval o).run P w = .ok (.value v) w') : EffAt P base w0 o K gs w a := by
  unfold appOwnK at h
  split at h
  · rename_i α C l ty cap he
    split at h
    · rename_i e1 e2
      have e1 := Nat.eq_of_beq_eq_true e1
      have e2 := Nat.eq_of_beq_eq_true e2
      split at h
      · obtain ⟨hp, h⟩ := VC.out_ok h
        have hm := mem_of_getE he
        obtain ⟨hid, ⟨hs, h0, ⟨xs, hown, hrl⟩, hcap⟩, hblk⟩ := hS.ents _ _ hm
        obtain ⟨news, h, hnews⟩ := newsK_ok h0 h
        obtain ⟨hb, h⟩ := h
        have h := h.out
        have hrs := hs' hp
        have hrx := hx' hp
        rw [e1] at hown
        have hev : vs = E.h n := by
          cases hrs with
          | own _ _ => rfl
        rw [hev] at hexec
        obtain ⟨v', w', nv, hrun, ho', hg, hrn, hvb, _, hkeep⟩ := run_app hT h1 h2 h3 hz o.type hs h0 e2 (hnews _ _ _ _ _ w _ hS hrx) hown hb hbp hS.ge
        obtain ⟨n1, n2, n3, n4⟩ := ownsRow_blk hown
        obtain ⟨m1, m2, ⟨A', k', c', m3⟩, m4⟩ := ownsRow_blk ho'
        have g : Goes E.bare E.bare w w' := Goes.bare (fun _ h => h) (fun k hk => hg.block k (hS.imm k hk) (fun e => (hblk k (by rw [n2]; exact e.symm)).2.1 hk))
        have hS' := hS.keepRow hm (by rw [n2]; exact hg) ⟨hs, h0, ⟨xs, by rw [e1]; exact hkeep, hrl.mono g⟩, hcap⟩
        refine ⟨v', w', .inl (hexec _ _ hrun), .sl (l.length + news.length), fr, stk, m, E, nx, h, hnx, hS', ?_⟩
        have hk : k' = l.length + news.length := by
          rcases ho'.2 with ⟨hv2, hn2⟩ | ⟨g2, cap2, cur2, hv2, _⟩
          · rw [m3] at hv2; injection hv2 with _ h5 _; omega
          · rw [m3] at hv2; injection hv2 with _ h5 _
        rw [m3, hk]
        exact .sl _ _ _
      split at h
      · rename_i hplf
        obtain ⟨hp, h⟩ := VC.out_ok h
        have hm := mem_of_getE he
        obtain ⟨hid, ⟨hs, h0, ⟨xs, hown, hrl⟩, hcap⟩, hblk⟩ := hS.ents _ _ hm
        obtain ⟨news, h, hnews⟩ := newsK_ok h0 h
        rw [subFK_eq, subSK_eq, subMK_eq, setEK_eq] at h
        obtain ⟨hb, h⟩ := h
        have h := h.out
        have hrs := hs' hp
        have hrx := hx' hp
        rw [e1] at hown
        have hev : vs = E.h n := by
          cases hrs with
          | own _ _ => rfl
        rw [hev] at hexec
        obtain ⟨v', w', nv, hrun, ho', hg, hrn, hvb, _⟩ := run_app hT h1 h2 h3 hz o.type hs h0 e2 (hnews _ _ _ _ _ w _ hS hrx) hown hb hbp hS.ge
        obtain ⟨n1, n2, n3, n4⟩ := ownsRow_blk hown
        obtain ⟨m1, m2, m3, m4⟩ := ownsRow_blk ho'
        have hE : ({ E with h := fun i => if i = n then v' else E.h i } : Env).h n = v' := by simp
        refine ⟨v', w', .inl (hexec _ _ hrun), .own n, _, _, _, { E with h := fun i => if i = n then v' else E.h i }, nx, h, hnx, ?_, ?_⟩
        · refine hS.row hm (E' := { E with h := fun i => if i = n then v' else E.h i }) (by simp) n1 (by rw [n2]; exact hg) (fun b hb2 => ?_) ⟨hs, h0, ⟨xs ++ nv, ?_, ?_⟩, by simp⟩
          · rw [hE] at hb2
            refine ⟨(m4 b hb2).1, fun hi => ?_, (m4 b hb2).2, hvb b hb2⟩
            rcases hvb b hb2 with h5 | h5
            · exact (hblk b h5).2.1 hi
            · have := hS.imm b hi; omega
          · rw [hE]; simpa using ho'
          · rw [List.flatMap_append]
            have g : Goes E.bare (Env.bare { E with h := fun i => if i = n then v' else E.h i }) w w' := Goes.bare (fun _ h => h) (fun k hk => hg.block k (hS.imm k hk) (fun e => (hblk k (by rw [n2]; exact e.symm)).2.1 hk))
            exact RelL.append (hrl.mono g) (hrn.mono g)
        · have := Rel.own (w := w') (E := { E with h := fun i => if i = n then v' else E.h i }) (id := n) hid (by rw [hE]; exact m3)
          rwa [hE] at this
      · rename_i hplt
        split at h
        · rename_i c
          obtain ⟨hp, h⟩ := VC.out_ok h
          have hm := mem_of_getE he
          obtain ⟨hid, ⟨hs, h0, ⟨xs, hown, hrl⟩, hcap⟩, hblk⟩ := hS.ents _ _ hm
          obtain ⟨news, h, hnews⟩ := newsK_ok h0 h
          rw [subFZ_eq, subSZ_eq, subMZ_eq, setEK_eq] at h
          obtain ⟨⟨hfit, hb⟩, h⟩ := h
          have h := h.out
          have hrs := hs' hp
          have hrx := hx' hp
          rw [e1] at hown
          have hev : vs = E.h n := by
            cases hrs with
            | own _ _ => rfl
          rw [hev] at hexec
          obtain ⟨v', w', nv, hrun, ho', hg, hrn, hvb, hroom, _⟩ := run_app hT h1 h2 h3 hz o.type hs h0 e2 (hnews _ _ _ _ _ w _ hS hrx) hown hb hbp hS.ge
          obtain ⟨n1, n2, n3, n4⟩ := ownsRow_blk hown
          obtain ⟨m1, m2, m3, m4⟩ := ownsRow_blk ho'
          have hE : ({ E with h := fun i => if i = n then v' else E.h i } : Env).h n = v' := by simp
          obtain ⟨A, N, hcv⟩ := hcap _ rfl
          have hN : N = l.length := by
            rcases hown.2 with ⟨hv, hn⟩ | ⟨g, cc, cur, hv, _⟩
            · rw [hcv] at hv
              injection hv with _ h2 _
              omega
            · rw [hcv] at hv
              injection hv with _ h2 _
          rw [hN] at hcv
          have hv' := hroom A c hcv hfit
          have hzz : Rel w' { E with h := fun i => if i = n then v' else E.h i } (.view n C.size 0 l.length) (E.h n) := by
            have q := Rel.view (w := w') (E := { E with h := fun i => if i = n then v' else E.h i }) (id := n) (A := A) (A' := A) (N := l.length + news.length) (c := c) (size := C.size) (lo := 0) (n := l.length) hid (by rw [hE]; exact hv') (by omega) fun _ => by
              cases A with
              | none => rfl
              | some a => simp [Addr.add]
            rw [hcv]
            simpa using q
          refine ⟨v', w', .inl (hexec _ _ hrun), .own n, _, _, _, { E with h := fun i => if i = n then v' else E.h i }, nx, h, hnx, ?_, ?_⟩
          · refine hS.rowZ _ hm (E' := { E with h := fun i => if i = n then v' else E.h i }) hzz (by simp) n1 (by rw [n2]; exact hg) (fun b hb2 => ?_) ⟨hs, h0, ⟨xs ++ nv, ?_, ?_⟩, fun q hq => ⟨A, l.length + news.length, by cases hq; rw [hE]; exact hv'⟩⟩
            · rw [hE] at hb2
              refine ⟨(m4 b hb2).1, fun hi => ?_, (m4 b hb2).2, hvb b hb2⟩
              rcases hvb b hb2 with h5 | h5
              · exact (hblk b h5).2.1 hi
              · have := hS.imm b hi; omega
            · rw [hE]; simpa using ho'
            · rw [List.flatMap_append]
              have g : Goes E.bare (Env.bare { E with h := fun i => if i = n then v' else E.h i }) w w' := Goes.bare (fun _ h => h) (fun k hk => hg.block k (hS.imm k hk) (fun e => (hblk k (by rw [n2]; exact e.symm)).2.1 hk))
              exact RelL.append (hrl.mono g) (hrn.mono g)
          · have := Rel.own (w := w') (E := { E with h := fun i => if i = n then v' else E.h i }) (id := n) hid (by rw [hE]; exact m3)
            rwa [hE] at this
        · exact h.elim
    · exact h.elim
  · exact h.elim
theorem appNil_core (hT : TysOK P T) {D : Cds} (hD : CdsOK T D) {t e : Nat} {r re : TyR} (h1 : getT T t = some r) (h2 : r.d = .slice e) (h3 : getT T e = some re) (hz : re.zero.length = re.size) (hbp : 0 < re.bytes)
    {c : Cd} (hc : getC D e = some c) {news : List c.α} (hb : news.length * re.bytes ≤ 140737488355328) {n : Nat} {m : Mem} {E : Env} {stk : List Fr} {gs : List (Array Value)} {w : World} (hn : ¬ E.dom n) (hS : SatM base w0 E stk gs m w)
    {vx : Value} (hx : NewsAt c.C news w E vx) (ty : Nat) : ∃ v' w', (Builtin.append_ #[t, t] ty #[.slice none 0 0, vx]).run P w = .ok v' w' ∧ SatM base w0 (E.add n v') stk gs ((n, .row c.C news e none) :: m) w' ∧ Rel w' (E.add n v') (.own n) v' := by
  obtain ⟨clen, cpos, rc, hrc1, hrc2, hrc3⟩ := hD e c hc
  rw [h3] at hrc1
  cases hrc1
  obtain ⟨v', w', nv, hrun, ho', hg, hrn, hvb, _⟩ := run_app hT h1 h2 h3 hz ty clen cpos hrc2.symm hx (World.ownsRow_nil w base e c.C.size) (by simpa using hb) hbp hS.ge
  obtain ⟨m1, m2, m3, m4⟩ := ownsRow_blk ho'
  have hSN : SatM base w0 (E.add n v') stk gs ((n, .row c.C news e none) :: m) w' := by
    have hw : ∀ k, k < w.heap.size → w'.heap[k]? = w.heap[k]? := fun k hk => hg.block k hk (by simp [Value.ownBlock])
    have g : Goes E (E.add n v') w w' := Goes.add hn v' fun b hb => hw b (hS.old hb)
    refine ⟨hS.below.trans ⟨hg.os, hg.tape, hg.output, hg.size, fun k hk => hw k (by have := hS.ge; omega)⟩, hS.hb, fun b hb => Nat.lt_of_lt_of_le (hS.imm b hb) hg.size, hS.keep, fun b hb => (g.hw b (.inl (hS.keep.1 b hb))).trans (hS.same b hb), fun id e' he' => ?_, ?_, hS.len, fun i h1 h2 => (hS.stk i h1 h2).mono g⟩
    · rcases List.mem_cons.1 he' with heq | hm
      · cases heq
        refine ⟨.inl rfl, ⟨clen, cpos, ⟨nv, by rw [Env.add_h]; simpa using ho', hrn.mono (Goes.bare g.hi fun b hb => g.hw b (.inl hb))⟩, by simp⟩, fun b hb => ?_⟩
        rw [Env.add_h] at hb
        refine ⟨(m4 b hb).1, fun hc => ?_, (m4 b hb).2⟩
        rcases hvb b hb with h5 | h5
        · cases h5
        · have := hS.imm b hc; omega
      · obtain ⟨h1, h2, h3⟩ := hS.ents id e' hm
        refine ⟨.inr h1, h2.mono g h1 fun b hb => hw b (h3 b hb).2.2, fun b hb => ?_⟩
        rw [E.add_old hn v' h1] at hb
        obtain ⟨a1, a2, a3⟩ := h3 b hb
        exact ⟨a1, a2, Nat.lt_of_lt_of_le a3 hg.size⟩
    · refine List.pairwise_cons.2 ⟨fun q hq => ?_, ?_⟩
      · obtain ⟨h1, _, h3⟩ := hS.ents q.1 q.2 hq
        refine ⟨fun e => hn (by have e : n = q.1 := e; rw [e]; exact h1), fun b hb hb2 => ?_⟩
        rw [Env.add_h] at hb
        rw [E.add_old hn v' h1] at hb2
        rcases hvb b hb with h5 | h5
        · cases h5
        · have := (h3 _ hb2).2.2; omega
      · refine hS.disj.imp_of_mem fun {p q} hp hq ⟨a1, a2⟩ => ⟨a1, fun b hb => ?_⟩
        rw [E.add_old hn v' (hS.ents q.1 q.2 hq).1]
        rw [E.add_old hn v' (hS.ents p.1 p.2 hp).1] at hb
        exact a2 b hb
  refine ⟨v', w', hrun, hSN, ?_⟩
  have := Rel.own (w := w') (E := E.add n v') (id := n) (.inl rfl) (by rw [Env.add_h]; exact m3)
  rwa [Env.add_h] at this
theorem appNilK_ok (hT : TysOK P T) {D : Cds} (hD : CdsOK T D) {t e : Nat} {r re : TyR} (h1 : getT T t = some r) (h2 : r.d = .slice e) (h3 : getT T e = some re) (hz : re.zero.length = re.size) (hbp : 0 < re.bytes)
    {x : AV} {p : VC} (h : appNilK D m e re x p fr stk nx K) {E : Env} {gs : List (Array Value)} {w : World} {a : Act} (hnx : E.under nx) (hS : SatM base w0 E (fr :: stk) (a.tmps :: gs) m w)
    {vs vx : Value} (hs' : p.ok → Rel w E (.v (.slice none 0 0)) vs) (hx' : p.ok → Rel w E x vx) (hexec : ∀ v w', (Builtin.append_ #[t, t] o.type #[vs, vx]).run P w = .ok v w' → (execOp a.eval o).run P w = .ok (.value v) w') : EffAt P base w0 o K gs w a := by
  unfold appNilK at h
  split at h
  · rename_i c hc
    obtain ⟨hp, h⟩ := VC.out_ok h
    obtain ⟨_, cpos, _⟩ := hD e c hc
    obtain ⟨news, h, hnews⟩ := newsK_ok cpos h
    obtain ⟨hb, h⟩ := h
    have h := h.out
    rw [(hs' hp).v_inv] at hexec
    obtain ⟨v', w', hrun, hSN, hrel⟩ := appNil_core hT hD h1 h2 h3 hz hbp hc hb hnx.fresh hS (hnews _ _ _ _ _ w _ hS (hx' hp)) o.type
    exact ⟨v', w', .inl (hexec _ _ hrun), .own nx, fr, stk, _, E.add nx v', _, h, hnx.add _, hSN, hrel⟩
  · exact h.elim
theorem appendK_ok (hT : TysOK P T) {D : Cds} (hD : CdsOK T D) {args : Array Operand} {ats : Array TypeId} (ho : o.op = .call ⟨.builtin .append, args, ats⟩)
    (h : appendK T D args.toList ats.toList fr stk m nx K) : EffOK P base w0 o fr stk m nx K := by
  rintro E gs w a hnx hS
  unfold appendK at h
  split at h
  · rename_i s x t t' hargs hats
    have hargs' : args = #[s, x] := by cases args; simpa using hargs
    have hats' : ats = #[t, t'] := by cases ats; simpa using hats
    split at h
    · rename_i r htt h1
      have htt := Nat.eq_of_beq_eq_true htt
      split at h
      · rename_i e h2
        split at h
        · rename_i re h3
          split at h
          · rename_i hz hbp
            have hz := Nat.eq_of_beq_eq_true hz
            have hbp := Nat.le_of_ble_eq_true hbp
            obtain ⟨p, s', h, hs'⟩ := op1_ok h
            obtain ⟨q, x', h, hx'⟩ := op1_ok h
            obtain ⟨p', h, hp'⟩ := VC.and_ok h
            have hexec : ∀ v w', (Builtin.append_ #[t, t] o.type #[a.eval s, a.eval x]).run P w = .ok v w' → (execOp a.eval o).run P w = .ok (.value v) w' := fun v w' hr => by
              simp only [execOp, ho, hargs', hats', htt, resolve, invoke, builtin, Sem.run_bind, Sem.run_pure, Result.andThen_ok, List.map_toArray, List.map_cons, List.map_nil]
              rw [hr]; rfl
            split at h
            · exact appOwnK_ok hT h1 h2 h3 hz hbp h hnx hS (fun hp => hs' w E _ (hp' hp).1 (ev_ok hS.top s)) (fun hp => hx' w E _ (hp' hp).2 (ev_ok hS.top x)) hexec
            · exact appNilK_ok hT hD h1 h2 h3 hz hbp h hnx hS (fun hp => hs' w E _ (hp' hp).1 (ev_ok hS.top s)) (fun hp => hx' w E _ (hp' hp).2 (ev_ok hS.top x)) hexec
            · exact h.elim
          · exact h.elim
        · exact h.elim
      · exact h.elim
    · exact h.elim
  · exact h.elim
end
end Go.SX
