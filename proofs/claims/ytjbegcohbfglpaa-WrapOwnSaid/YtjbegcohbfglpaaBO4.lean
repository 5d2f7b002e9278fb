/- A verified symbolic executor for Go code in the model, contracts and plain laws that the proofs lean on, BO4. -/
import Derived.Test.YtjbegcohbfglpaaBO3
set_option linter.unusedVariables false
set_option linter.unusedSimpArgs false
/- A verified symbolic executor for Go code in the model: contracts of functions that write into a row of the caller's. -/
namespace Go.SX
open Go.RowKit

section
variable {base : Nat} {w0 : Start} {w w' : World} {E : Env} {stk : List Fr} {gs : List (Array Value)} {m : Mem}
theorem SatM.wrote (h : SatM base w0 E stk gs m w) {id : Nat} {e e' : Ent} (hm : (id, e) ∈ m) (hg : w.grownBy w' (blk (E.h id))) (he : EntR base w' E id e') : SatM base w0 E stk gs (setE id e' m) w' := by
  obtain ⟨hid, _, h3⟩ := h.ents id e hm
  have hw : ∀ k, k < w.heap.size → blk (E.h id) ≠ some k → w'.heap[k]? = w.heap[k]? := fun k h1 h2 => hg.block k h1 fun e => h2 e.symm
  have g : Goes E E w w' := ⟨fun _ _ => rfl, fun _ h => h, fun _ h => h, fun _ h => h, fun k hk => hw k (h.old hk) (fun e => by
    obtain ⟨a1, a2, _⟩ := h3 k e
    exact hk.elim a2 fun hl => by have := h.keep.2.2 _ hl; omega)⟩
  refine ⟨h.below.trans ⟨hg.os, hg.tape, hg.output, hg.size, fun k hk => hw k (by have := h.ge; omega) (fun e => by have := (h3 k e).1; omega)⟩, h.hb, fun k hk => Nat.lt_of_lt_of_le (h.imm k hk) hg.size, h.keep,
    fun b hb => (g.hw b (.inl (h.keep.1 b hb))).trans (h.same b hb), fun i x hx => ?_, ?_, h.len, fun i h1 h2 => (h.stk i h1 h2).mono g⟩
  · by_cases hi : i = id
    · subst hi
      obtain rfl := setE_self h.nodup hx
      exact ⟨hid, he, fun k hk => ⟨(h3 k hk).1, (h3 k hk).2.1, Nat.lt_of_lt_of_le (h3 k hk).2.2 hg.size⟩⟩
    · have hx := setE_other h.nodup hx hi
      obtain ⟨a1, a2, a3⟩ := h.ents i x hx
      exact ⟨a1, a2.mono g a1 fun k hk => hw k (a3 k hk).2.2 (fun e => h.apart hm hx (Ne.symm hi) e hk), fun k hk => ⟨(a3 k hk).1, (a3 k hk).2.1, Nat.lt_of_lt_of_le (a3 k hk).2.2 hg.size⟩⟩
  · rw [disj_names, setE_names, ← disj_names]; exact h.disj
end

inductive LeC : AV → AV → Prop
  | v (x : Value) : LeC (.v x) (.v x)
  | sb (x : Bool) : LeC (.sb x) (.sb x)
  | fn (f : Nat) : LeC (.fn f []) (.fn f [])
  | junk (a : AV) : LeC a .junk
theorem LeC.rel {a b : AV} (h : LeC a b) {w w' : World} {E E' : Env} {v : Value} (hr : Rel w E a v) : Rel w' E' b v := by
  cases h with
  | v x => rw [hr.v_inv]; exact .v _
  | sb x => cases hr; exact .sb _
  | fn f =>
    cases hr with
    | fn _ hl hh => exact .fn f (by simpa using hl) fun i h1 => by simp at h1
  | junk a => exact .junk _
inductive LeCL : List AV → List AV → Prop
  | nil : LeCL [] []
  | cons {a b : AV} {l r : List AV} (h : LeC a b) (hl : LeCL l r) : LeCL (a :: l) (b :: r)
theorem LeCL.rel {a b : List AV} (h : LeCL a b) {w w' : World} {E E' : Env} {vs : List Value} (hr : RelL w E a vs) : RelL w' E' b vs := by
  induction h generalizing vs with
  | nil =>
    obtain rfl : vs = [] := List.eq_nil_of_length_eq_zero hr.1.symm
    exact RelL.nil _ _
  | cons h _ ih =>
    obtain ⟨x, xs, rfl, h1, h2⟩ := hr.uncons
    exact RelL.cons (h.rel h1) (ih h2)
def Env.none : Env := Env.of fun _ => False
structure ConW (P : Program) (f : Nat) {α : Type} (C : Cdc α) (t : Nat) {ι : Type} (A : ι → List AV) (F : ι → List α → List α) (pre : ι → List α → Prop) : Prop where
  bodied : Bodied P f
  calls : ∀ i l, pre i l → ∀ (w : World) (base : Nat) (v : Value) (xs : List Value) (vs : Array Value), base ≤ w.heap.size → (∀ x, (C.enc x).length = C.size) → 0 < C.size → (∀ x, flatL (C.enc x) = true) →
    w.ownsRow base t C.size v l.length xs → RelL w Env.none (l.flatMap C.enc) xs → (∀ b, blk v = some b → base ≤ b ∧ b < w.heap.size) → RelL w Env.none (A i) vs.toList → CallsIn Fence.wide 0 P f (#[v] ++ vs) w fun
    | .returned u, w' => u = .tuple #[] ∧ w.grownBy w' (blk v) ∧ ∃ xs', w'.ownsRow base t C.size v (F i l).length xs' ∧ RelL w' Env.none ((F i l).flatMap C.enc) xs'
    | _, _ => False
def conWS {α : Type} (C : Cdc α) (t : Nat) {ι : Type} (A : ι → List AV) (F : ι → List α → List α) (pre : ι → List α → Prop) : List AV → Fr → List Fr → Mem → Nat → KO → Prop := fun args fr stk m nx K => match args with
  | .own id :: rest => ∃ (i : ι) (l : List α) (cap : Option Nat), (getE m id = some (.row C l t cap) ∧ LeCL rest (A i) ∧ pre i l ∧ ∀ x, flatL (C.enc x) = true) ∧ Run (setEK id (.row C (F i l) t cap) m fun m' => K (.tup []) fr stk m' nx)
  | _ => False
theorem Goes.none {w w' : World} : Goes Env.none Env.none w w' := ⟨fun _ h => False.elim h, fun _ h => False.elim h, fun _ h => False.elim h, fun _ h => False.elim h, fun _ hb => hb.elim False.elim False.elim⟩
theorem flat_rel {α : Type} {C : Cdc α} (hf : ∀ x, flatL (C.enc x) = true) {l : List α} {w : World} {E E' : Env} {xs : List Value} (h : RelL w E (l.flatMap C.enc) xs) : RelL w E' (l.flatMap C.enc) xs := (flatL_ok (flatL_flat hf l)).2 h
section
variable {P : Program}
theorem ConW.spec {f : Nat} {α : Type} {C : Cdc α} {t : Nat} {ι : Type} {A : ι → List AV} {F : ι → List α → List α} {pre : ι → List α → Prop} (h : ConW P f C t A F pre) : SpecOK P f (conWS C t A F pre) := by
  intro args fr stk m nx K hS base w0 E gs w tm vs hnx hSat hr
  unfold conWS at hS
  split at hS
  · rename_i id rest
    obtain ⟨i, l, cap, ⟨he, hle, hpre, hflat⟩, hk⟩ := hS
    have hk := hk.out
    rw [setEK_eq] at hk
    have hm := mem_of_getE he
    obtain ⟨hid, ⟨hs, h0, ⟨xs, hown, hrl⟩, hcap⟩, hblk⟩ := hSat.ents _ _ hm
    obtain ⟨v, vl, hvs, hv, hrest⟩ := hr.uncons
    have hv2 : v = E.h id := by cases hv; rfl
    subst hv2
    have hvs2 : vs = #[E.h id] ++ vl.toArray := by
      apply Array.ext'
      rw [hvs]
      simp
    refine ⟨h.bodied, ?_⟩
    rw [hvs2]
    refine CallsIn.mono (h.calls i l hpre w base (E.h id) xs vl.toArray hSat.ge hs h0 hflat hown (flat_rel hflat hrl) (fun b hb => ⟨(hblk b hb).1, (hblk b hb).2.2⟩) (hle.rel hrest)) fun e w' he2 => ?_
    cases e with
    | returned u =>
      obtain ⟨rfl, hg, xs', h1, h2⟩ := he2
      have hS' := hSat.wrote hm hg (e' := .row C (F i l) t cap) ⟨hs, h0, ⟨xs', h1, flat_rel hflat h2⟩, hcap⟩
      exact ⟨.tup [], fr, stk, _, E, nx, hk, hnx, hS', .tup rfl fun i h1 => by simp at h1⟩
    | panicked c => exact he2.elim
    | outgrown => exact he2.elim
  · exact hS.elim
theorem GamOK.spec {f : Nat} {S : List AV → Fr → List Fr → Mem → Nat → KO → Prop} {l : Gam} (h : SpecOK P f S) (hl : GamOK P l) : GamOK P ((f, .spec S) :: l) := fun u q hq => by
  simp only [getG] at hq
  split at hq
  · rename_i e
    obtain rfl := Nat.eq_of_beq_eq_true e
    obtain rfl := Option.some.inj hq
    exact h
  · exact hl u q hq
theorem GamOK.conw {f : Nat} {α : Type} {C : Cdc α} {t : Nat} {ι : Type} {A : ι → List AV} {F : ι → List α → List α} {pre : ι → List α → Prop} {l : Gam} (h : ConW P f C t A F pre) (hl : GamOK P l) : GamOK P ((f, .spec (conWS C t A F pre)) :: l) := GamOK.spec h.spec hl
theorem ConW.of (hmo : P.follows .mixedOrders = true) {T : Tys} (hT : TysOK P T) {D : Cds} (hD : CdsOK T D) {G : Gam} (hG : GamOK P G) (k : Nat) (J : List Nat) {f : Nat} {fn : Func} {code : Code} (h1 : P.funcs[f]? = some fn) (h2 : fn.body = some code) (h3 : (fn.name == "runtime.NumGoroutine") = false)
    {α : Type} {C : Cdc α} {t : Nat} {ι : Type} {A : ι → List AV} {F : ι → List α → List α} {pre : ι → List α → Prop} (hlen : ∀ i, Nat.ble (A i).length.succ fn.ntmps = true) (hA : ∀ i, LeCL (A i) (A i))
    (h : ∀ i l, pre i l → Run (argsK (.own 0 :: A i) 0 fun f0 => cwp ⟨T, D, G, (callX T D G k).2, (callX T D G k).1, J, fn.ntmps, none⟩ code [] f0 [[(0, .own 0)]] [(0, .row C l t none)] 1 fun e df f2 s2 m2 nx2 => retK T fn e df f2 s2 m2 nx2 fun x fr _ m _ =>
      (getS fr 0 = .own 0 ∧ x = .tup []) ∧ ∃ (l' : List α) (cap : Option Nat), getE m 0 = some (.row C l' t cap) ∧ l' = F i l)) :
    ConW P f C t A F pre := by
  obtain ⟨hF, hH⟩ := callX_ok hmo hT hD hG k
  refine ⟨⟨fn, code, h1, h2, h3⟩, fun i l hpre w base v xs vs hb hs h0 hflat hown hrl hblk hr => ?_⟩
  have hi := (h i l hpre).out
  rw [argsK_eq] at hi
  let fz : Nat → Prop := fun b => b < w.heap.size ∧ blk v ≠ some b
  let E0 : Env := ⟨fun _ => v, fun id => id = 0, fz, fun _ => False⟩
  have hnil : v = .slice none 0 0 ∨ ∃ g n c, v = .slice (some ⟨g, 0, none⟩) n c := by
    rcases hown.2 with ⟨hv, _⟩ | ⟨g, c, cur, hv, _⟩
    · exact .inl hv
    · exact .inr ⟨g, _, c, hv⟩
  have hsl : ∃ A n c, E0.h 0 = .slice A n c := by
    rcases hnil with h | ⟨g, n, c, h⟩
    · exact ⟨none, 0, 0, h⟩
    · exact ⟨some ⟨g, 0, none⟩, n, c, h⟩
  have hown0 : Rel w E0 (.own 0) v := .own (E := E0) rfl hsl
  have hS : SatM base ⟨w, fz⟩ E0 [[(0, .own 0)]] [#[v]] [(0, .row C l t none)] w := ⟨Below.refl _ _, hb, fun b hb => hb.1, ⟨fun _ h => h, fun _ h => .inl h, fun _ h => False.elim h⟩, fun _ _ => rfl, fun id e he => by
    simp only [List.mem_singleton, Prod.mk.injEq] at he
    obtain ⟨rfl, rfl⟩ := he
    exact ⟨rfl, ⟨hs, h0, ⟨xs, hown, flat_rel hflat hrl⟩, fun m hm => by cases hm⟩, fun b hb => ⟨(hblk b hb).1, fun hc => hc.2 hb, (hblk b hb).2⟩⟩, List.pairwise_singleton _ _, rfl, fun j h1 h2 => by
    obtain rfl : j = 0 := by simpa using h1
    intro t
    simp only [List.getElem_cons_zero]
    rw [getS_cons]
    split
    · rename_i e
      subst e
      exact hown0
    · exact .junk _⟩
  have hr2 : RelL w E0 (.own 0 :: A i) (#[v] ++ vs).toList := by
    rw [Array.toList_append]
    exact RelL.cons hown0 ((hA i).rel hr)
  refine CallsIn.mono (inline_ok hmo (c := ⟨T, D, G, (callX T D G k).2, (callX T D G k).1, J, fn.ntmps, none⟩) hG.cons' hT hD (hH none) hF rfl h1 h2 rfl (by have := Nat.le_of_ble_eq_true (hlen i); simpa using this) hi (fun id hd => by have : id = 0 := hd; omega) hS hr2) fun e w' he => ?_
  cases e with
  | returned u =>
    obtain ⟨x, fr', stk', m', E', nx', ⟨⟨hfr, rfl⟩, l', cap, hge, rfl⟩, hnx', hS', hx⟩ := he
    have hm := mem_of_getE hge
    obtain ⟨hid, ⟨_, _, ⟨xs', hown', hrl'⟩, _⟩, hblk'⟩ := hS'.ents _ _ hm
    have hv' : E'.h 0 = v := by
      have := hS'.stk 0 (by simp) (by simp) 0
      simp only [List.getElem_cons_zero] at this
      rw [hfr] at this
      have h5 : (#[v] : Array Value).getD 0 undef = v := rfl
      rw [h5] at this
      cases this
      rfl
    rw [hv'] at hown'
    refine ⟨?_, ⟨hS'.below.os, hS'.below.tape, hS'.below.output, hS'.below.size, fun b hb hne => hS'.same b ⟨hb, fun e => hne e.symm⟩⟩, xs', hown', flat_rel hflat hrl'⟩
    cases hx with
    | tup hl hh =>
      rename_i vs'
      have : vs' = #[] := Array.eq_empty_of_size_eq_zero hl.symm
      rw [this]
  | panicked c => exact he.elim
  | outgrown => exact he.elim
end
end Go.SX
/- Plain lemmas on lists. -/
namespace Go.SX.Plain
theorem take_map {α β : Type} (f : α → β) (l : List α) (d : α) {i : Nat} (h : i < l.length) : (l.map f).take i ++ [f (l.getD i d)] = (l.map f).take (i + 1) := by
  have h2 : i < (l.map f).length := by simpa using h
  rw [List.take_succ_eq_append_getElem h2]
  simp [List.getD_eq_getElem?_getD, h]
theorem take_one {α : Type} (l : List α) (d : α) {i : Nat} (h : i < l.length) : l.take i ++ [l.getD i d] = l.take (i + 1) := by
  rw [List.take_succ_eq_append_getElem h]
  simp [List.getD_eq_getElem?_getD, h]
theorem take_all {α : Type} (l : List α) {i : Nat} (h : l.length ≤ i) : l.take i = l := List.take_of_length_le h
end Go.SX.Plain
/- Stable sorting, told plainly. No program here. -/
namespace Go.SX.Plain
section
variable {α : Type}
def insR (lt : α → α → Bool) (x : α) : List α → List α
  | [] => [x]
  | y :: l => if (y :: l).all (lt x) = true then x :: y :: l else y :: insR lt x l
def mrg (lt : α → α → Bool) (A B : List α) : List α := B.foldl (fun acc x => insR lt x acc) A
def isort (lt : α → α → Bool) (l : List α) : List α := mrg lt [] l
def Srt (lt : α → α → Bool) (l : List α) : Prop := l.Pairwise fun x y => lt y x = false
structure Ord (lt : α → α → Bool) : Prop where
  asym : ∀ x y, lt x y = true → lt y x = false
  trans : ∀ x y z, lt x y = true → lt z y = false → lt x z = true
section
variable {lt : α → α → Bool}
theorem insR_all {x : α} {l : List α} (h : ∀ z ∈ l, lt x z = true) : insR lt x l = x :: l := by
  cases l with
  | nil => rfl
  | cons y l =>
    rw [insR, if_pos (List.all_eq_true.2 h)]
theorem insR_right {x : α} {B : List α} (h : ∀ z ∈ B, lt x z = true) : ∀ X : List α, insR lt x (X ++ B) = insR lt x X ++ B
  | [] => by
    rw [List.nil_append, insR_all h]
    rfl
  | y :: X => by
    rw [List.cons_append, insR, insR]
    have e : ((y :: (X ++ B)).all (lt x)) = ((y :: X).all (lt x)) := by
      have hB : B.all (lt x) = true := List.all_eq_true.2 h
      rw [List.all_cons, List.all_append, hB, Bool.and_true, List.all_cons]
    rw [e]
    split
    · rfl
    · rw [insR_right h X]
      rfl
theorem insR_left {x : α} {Z : List α} : ∀ (M : List α), (∀ z ∈ M, lt x z = false) → insR lt x (M ++ Z) = M ++ insR lt x Z
  | [], _ => rfl
  | y :: M, h => by
    have hy := h y List.mem_cons_self
    rw [List.cons_append, insR, if_neg (by rw [List.all_cons, hy, Bool.false_and]; decide), insR_left M fun z hz => h z (List.mem_cons_of_mem _ hz)]
    rfl
theorem insR_split {x : α} {p q : List α} (hp : ∀ z ∈ p, lt x z = false) (hq : ∀ z ∈ q, lt x z = true) : insR lt x (p ++ q) = p ++ x :: q := by
  rw [insR_left p hp, insR_all hq]
theorem insR_last {x z : α} {p q : List α} (hz : lt x z = false) (hq : ∀ y ∈ q, lt x y = true) : insR lt x (p ++ [z] ++ q) = p ++ [z] ++ x :: q := by
  rw [insR_right hq]
  have : ∀ p : List α, insR lt x (p ++ [z]) = p ++ [z] ++ [x] := by
    intro p
    induction p with
    | nil =>
      rw [List.nil_append, insR, if_neg (by rw [List.all_cons, hz, Bool.false_and]; decide)]
      rfl
    | cons y p ih =>
      rw [List.cons_append, insR, if_neg (by rw [List.all_cons, List.all_append, List.all_cons, hz]; simp), ih]
      rfl
  rw [this p, List.append_assoc]
  rfl
theorem insR_len (x : α) : ∀ l : List α, (insR lt x l).length = l.length + 1
  | [] => rfl
  | y :: l => by
    rw [insR]
    split
    · rfl
    · simp [insR_len x l]
theorem mem_insR {x z : α} : ∀ {l : List α}, z ∈ insR lt x l ↔ z = x ∨ z ∈ l
  | [] => by simp [insR]
  | y :: l => by
    rw [insR]
    split
    · simp
    · rw [List.mem_cons, mem_insR, List.mem_cons]
      constructor
      · rintro (h | h | h)
        · exact .inr (.inl h)
        · exact .inl h
        · exact .inr (.inr h)
      · rintro (h | h | h)
        · exact .inr (.inl h)
        · exact .inl h
        · exact .inr (.inr h)
theorem mrg_cons (A : List α) (x : α) (B : List α) : mrg lt A (x :: B) = mrg lt (insR lt x A) B := rfl
theorem mrg_app (A B C : List α) : mrg lt A (B ++ C) = mrg lt (mrg lt A B) C := List.foldl_append ..
theorem mrg_len : ∀ (B A : List α), (mrg lt A B).length = A.length + B.length
  | [], A => rfl
  | x :: B, A => by
    rw [mrg_cons, mrg_len B, insR_len, List.length_cons]
    omega
theorem mem_mrg {z : α} : ∀ {B A : List α}, z ∈ mrg lt A B ↔ z ∈ A ∨ z ∈ B
  | [], A => by simp [mrg]
  | x :: B, A => by
    rw [mrg_cons, mem_mrg, mem_insR, List.mem_cons]
    constructor
    · rintro ((h | h) | h)
      · exact .inr (.inl h)
      · exact .inl h
      · exact .inr (.inr h)
    · rintro (h | h | h)
      · exact .inl (.inr h)
      · exact .inl (.inl h)
      · exact .inr h
theorem mrg_right {B2 : List α} : ∀ (B1 A1 : List α), (∀ y ∈ B1, ∀ z ∈ B2, lt y z = true) → mrg lt (A1 ++ B2) B1 = mrg lt A1 B1 ++ B2
  | [], _, _ => rfl
  | y :: B1, A1, h => by
    rw [mrg_cons, mrg_cons, insR_right (h y List.mem_cons_self), mrg_right B1 _ fun x hx => h x (List.mem_cons_of_mem _ hx)]
theorem mrg_left {M : List α} : ∀ (B Z : List α), (∀ y ∈ B, ∀ z ∈ M, lt y z = false) → mrg lt (M ++ Z) B = M ++ mrg lt Z B
  | [], _, _ => rfl
  | y :: B, Z, h => by
    rw [mrg_cons, mrg_cons, insR_left M (h y List.mem_cons_self), mrg_left B _ fun x hx => h x (List.mem_cons_of_mem _ hx)]
theorem mrg_split {A1 A2 B1 B2 : List α} (h1 : ∀ y ∈ B1, ∀ z ∈ A2, lt y z = true) (h2 : ∀ y ∈ B2, ∀ z ∈ A1, lt y z = false) (h3 : ∀ y ∈ B2, ∀ z ∈ B1, lt y z = false) :
    mrg lt (A1 ++ A2) (B1 ++ B2) = mrg lt A1 B1 ++ mrg lt A2 B2 := by
  rw [mrg_app, mrg_right B1 A1 h1, mrg_left B2 A2]
  intro y hy z hz
  rcases mem_mrg.1 hz with hz | hz
  · exact h2 y hy z hz
  · exact h3 y hy z hz
theorem isort_self : ∀ (l acc : List α), Srt lt (acc ++ l) → mrg lt acc l = acc ++ l
  | [], acc, _ => by simp [mrg]
  | x :: l, acc, h => by
    have hx : ∀ z ∈ acc, lt x z = false := fun z hz => (List.pairwise_append.1 h).2.2 z hz x List.mem_cons_self
    have e : insR lt x acc = acc ++ [x] := by
      have := insR_split (lt := lt) (x := x) (p := acc) (q := []) hx (fun z hz => by cases hz)
      simpa using this
    rw [mrg_cons, e, isort_self l (acc ++ [x]) (by rw [List.append_assoc]; exact h), List.append_assoc]
    rfl
theorem isort_srt {l : List α} (h : Srt lt l) : isort lt l = l := isort_self l [] h
end
section
variable {lt : α → α → Bool} (O : Ord lt)
include O
theorem srt_split {x : α} : ∀ {l : List α}, Srt lt l → ∃ p q, l = p ++ q ∧ (∀ z ∈ p, lt x z = false) ∧ ∀ z ∈ q, lt x z = true
  | [], _ => ⟨[], [], rfl, ⟨fun _ h => (List.not_mem_nil h).elim, fun _ h => (List.not_mem_nil h).elim⟩⟩
  | y :: l, h => by
    obtain ⟨h1, h2⟩ := List.pairwise_cons.1 h
    cases hy : lt x y with
    | true =>
      refine ⟨[], y :: l, rfl, fun z h => by (cases h), fun z hz => ?_⟩
      rcases List.mem_cons.1 hz with rfl | hz
      · exact hy
      · exact O.trans x y z hy (h1 z hz)
    | false =>
      obtain ⟨p, q, rfl, hp, hq⟩ := srt_split h2
      refine ⟨y :: p, q, rfl, fun z hz => ?_, hq⟩
      rcases List.mem_cons.1 hz with rfl | hz
      · exact hy
      · exact hp z hz
theorem insR_srt {x : α} {l : List α} (h : Srt lt l) : Srt lt (insR lt x l) := by
  obtain ⟨p, q, rfl, hp, hq⟩ := srt_split O (x := x) h
  rw [insR_split hp hq]
  obtain ⟨a1, a2, a3⟩ := List.pairwise_append.1 h
  refine List.pairwise_append.2 ⟨a1, List.pairwise_cons.2 ⟨fun z hz => O.asym _ _ (hq z hz), a2⟩, fun z hz y hy => ?_⟩
  rcases List.mem_cons.1 hy with rfl | hy
  · exact hp z hz
  · exact a3 z hz y hy
theorem mrg_srt : ∀ {B A : List α}, Srt lt A → Srt lt (mrg lt A B)
  | [], _, h => h
  | x :: B, A, h => by
    rw [mrg_cons]
    exact mrg_srt (insR_srt O h)
theorem ins_comm {x y : α} {l : List α} (h : Srt lt l) (hxy : lt x y = true) : insR lt y (insR lt x l) = insR lt x (insR lt y l) := by
  obtain ⟨p, q, rfl, hp, hq⟩ := srt_split O (x := x) h
  obtain ⟨_, a2, _⟩ := List.pairwise_append.1 h
  obtain ⟨r, t, rfl, hr, ht⟩ := srt_split O (x := y) a2
  have hyp : ∀ z ∈ p, lt y z = false := fun z hz => by
    cases hc : lt y z with
    | false => rfl
    | true =>
      have := O.trans y z x hc (hp z hz)
      rw [O.asym _ _ hxy] at this
      cases this
  rw [insR_split hp hq, ← List.append_assoc p r t]
  have e1 : insR lt y (p ++ r ++ t) = p ++ r ++ y :: t := insR_split (fun z hz => by
    rcases List.mem_append.1 hz with hz | hz
    · exact hyp z hz
    · exact hr z hz) ht
  have e2 : insR lt y (p ++ x :: (r ++ t)) = p ++ x :: (r ++ y :: t) := by
    rw [show p ++ x :: (r ++ t) = (p ++ x :: r) ++ t by simp, insR_split (fun z hz => by
      rcases List.mem_append.1 hz with hz | hz
      · exact hyp z hz
      · rcases List.mem_cons.1 hz with rfl | hz
        · exact O.asym _ _ hxy
        · exact hr z hz) ht]
    simp
  rw [e1, e2, List.append_assoc, insR_split hp fun z hz => by
    rcases List.mem_append.1 hz with hz | hz
    · exact hq z (List.mem_append_left _ hz)
    · rcases List.mem_cons.1 hz with rfl | hz
      · exact hxy
      · exact hq z (List.mem_append_right _ hz)]
theorem mrg_ins {x : α} : ∀ (q acc : List α), Srt lt acc → (∀ z ∈ q, lt x z = true) → mrg lt (insR lt x acc) q = insR lt x (mrg lt acc q)
  | [], _, _, _ => rfl
  | z :: q, acc, h, hq => by
    rw [mrg_cons, mrg_cons, ins_comm O h (hq z List.mem_cons_self), mrg_ins q _ (insR_srt O h) fun y hy => hq y (List.mem_cons_of_mem _ hy)]
theorem mrg_insR {x : α} {l acc : List α} (hl : Srt lt l) (ha : Srt lt acc) : mrg lt acc (insR lt x l) = insR lt x (mrg lt acc l) := by
  obtain ⟨p, q, rfl, hp, hq⟩ := srt_split O (x := x) hl
  rw [insR_split hp hq, mrg_app, mrg_cons, mrg_ins O q _ (mrg_srt O ha) hq, mrg_app]
theorem mrg_isort {acc : List α} (ha : Srt lt acc) : ∀ l : List α, mrg lt acc (isort lt l) = mrg lt acc l := by
  intro l
  have key : ∀ (r l : List α), Srt lt l → mrg lt acc (mrg lt l r) = mrg lt (mrg lt acc l) r := by
    intro r
    induction r with
    | nil => intro l _; rfl
    | cons x r ih =>
      intro l hl
      rw [mrg_cons, mrg_cons, ih _ (insR_srt O hl), mrg_insR O hl ha]
  exact key l [] List.Pairwise.nil
theorem isort_app (l r : List α) : isort lt (l ++ r) = mrg lt (isort lt l) (isort lt r) := by
  have h := mrg_isort O (acc := isort lt l) (mrg_srt O List.Pairwise.nil) r
  exact (mrg_app _ _ _).trans h.symm
end
end
end Go.SX.Plain
/- Swaps, rotations, merges in place, told plainly. No program here. -/
namespace Go.SX.Plain
section
variable {α : Type} {d : α}
theorem getD_mid (A : List α) (x : α) (B : List α) {i : Nat} (h : i = A.length) : (A ++ x :: B).getD i d = x := by
  subst h
  simp [List.getD_eq_getElem?_getD]
theorem set_mid (A : List α) (x y : α) (B : List α) {i : Nat} (h : i = A.length) : (A ++ x :: B).set i y = A ++ y :: B := by
  subst h
  simp
theorem swap_mid (A : List α) (z x : α) (B : List α) {j : Nat} (h : j = A.length + 1) :
    (((A ++ z :: x :: B).set j ((A ++ z :: x :: B).getD (j - 1) d)).set (j - 1) ((A ++ z :: x :: B).getD j d)) = A ++ x :: z :: B := by
  have e1 : (A ++ z :: x :: B).getD (j - 1) d = z := getD_mid A z _ (by omega)
  have e2 : (A ++ z :: x :: B).getD j d = x := by
    rw [show A ++ z :: x :: B = (A ++ [z]) ++ x :: B by simp]
    exact getD_mid _ x B (by simp; omega)
  rw [e1, e2, show A ++ z :: x :: B = (A ++ [z]) ++ x :: B by simp, set_mid _ _ _ _ (by simp; omega), show A ++ [z] ++ z :: B = A ++ z :: z :: B by simp, set_mid _ _ _ _ (by omega)]
theorem swap_mid' (A : List α) (z x : α) (B : List α) {j : Nat} (h : j = A.length + 1) :
    (((A ++ z :: x :: B).set (j - 1) ((A ++ z :: x :: B).getD j d)).set j ((A ++ z :: x :: B).getD (j - 1) d)) = A ++ x :: z :: B := by
  rw [List.set_comm _ _ (by omega)]
  exact swap_mid A z x B h
theorem swap_two (A : List α) (x : α) (B : List α) (y : α) (C : List α) {i j : Nat} (hi : i = A.length) (hj : j = A.length + 1 + B.length) :
    (((A ++ x :: (B ++ y :: C)).set i ((A ++ x :: (B ++ y :: C)).getD j d)).set j ((A ++ x :: (B ++ y :: C)).getD i d)) = A ++ y :: (B ++ x :: C) := by
  have e1 : (A ++ x :: (B ++ y :: C)).getD i d = x := getD_mid A x _ hi
  have e2 : (A ++ x :: (B ++ y :: C)).getD j d = y := by
    rw [show A ++ x :: (B ++ y :: C) = (A ++ x :: B) ++ y :: C by simp]
    exact getD_mid _ y C (by simp; omega)
  rw [e1, e2, set_mid _ _ _ _ hi, show A ++ y :: (B ++ y :: C) = (A ++ y :: B) ++ y :: C by simp, set_mid _ _ _ _ (by simp; omega)]
  simp
def seg (l : List α) (a b : Nat) : List α := (l.drop a).take (b - a)
theorem seg_len {l : List α} {a b : Nat} (h : b ≤ l.length) : (seg l a b).length = b - a := by
  unfold seg
  simp only [List.length_take, List.length_drop]
  omega
theorem seg_app (l : List α) {a b c : Nat} (h1 : a ≤ b) (h2 : b ≤ c) : seg l a b ++ seg l b c = seg l a c := by
  unfold seg
  rw [show c - a = (b - a) + (c - b) by omega, List.take_add, List.drop_drop, show a + (b - a) = b by omega]
theorem seg_zero (l : List α) (b : Nat) : seg l 0 b = l.take b := by simp [seg]
theorem seg_end (l : List α) (a : Nat) : seg l a l.length = l.drop a := by
  unfold seg
  rw [List.take_of_length_le (by simp)]
theorem take_seg_drop (l : List α) {a b : Nat} (h : a ≤ b) (hb : b ≤ l.length) : l.take a ++ seg l a b ++ l.drop b = l := by
  rw [← seg_zero, seg_app l (Nat.zero_le _) h, ← seg_end, seg_app l (Nat.zero_le _) hb, seg_end]
  rfl
theorem seg_get (l : List α) {a b i : Nat} (h : i < b - a) : (seg l a b).getD i d = l.getD (a + i) d := by
  unfold seg
  simp only [List.getD_eq_getElem?_getD, List.getElem?_take, List.getElem?_drop, if_pos h]
theorem seg_mid (p X r : List α) {a b : Nat} (ha : a = p.length) (hb : b = p.length + X.length) : seg (p ++ (X ++ r)) a b = X := by
  subst ha hb
  unfold seg
  rw [List.drop_left, show p.length + X.length - p.length = X.length by omega, List.take_left]
def swpR (l : List α) (a b n : Nat) : List α := l.take a ++ (seg l b (b + n) ++ (seg l (a + n) b ++ (seg l a (a + n) ++ l.drop (b + n))))
theorem swpR_eq (p X q Y r : List α) {a b n : Nat} (ha : a = p.length) (hX : X.length = n) (hY : Y.length = n) (hb : b = p.length + X.length + q.length) : swpR (p ++ (X ++ (q ++ (Y ++ r)))) a b n = p ++ (Y ++ (q ++ (X ++ r))) := by
  unfold swpR
  have e1 : (p ++ (X ++ (q ++ (Y ++ r)))).take a = p := by rw [ha]; exact List.take_left
  have e2 : seg (p ++ (X ++ (q ++ (Y ++ r)))) b (b + n) = Y := by
    rw [show p ++ (X ++ (q ++ (Y ++ r))) = (p ++ X ++ q) ++ (Y ++ r) by simp]
    exact seg_mid _ Y r (by simp; omega) (by simp; omega)
  have e3 : seg (p ++ (X ++ (q ++ (Y ++ r)))) (a + n) b = q := by
    rw [show p ++ (X ++ (q ++ (Y ++ r))) = (p ++ X) ++ (q ++ (Y ++ r)) by simp]
    exact seg_mid _ q _ (by simp; omega) (by simp; omega)
  have e4 : seg (p ++ (X ++ (q ++ (Y ++ r)))) a (a + n) = X := seg_mid p X _ ha (by omega)
  have e5 : (p ++ (X ++ (q ++ (Y ++ r)))).drop (b + n) = r := by
    rw [show p ++ (X ++ (q ++ (Y ++ r))) = (p ++ X ++ q ++ Y) ++ r by simp]
    rw [List.drop_left' (by simp; omega)]
  rw [e1, e2, e3, e4, e5]
theorem parts5 (l : List α) {a b n : Nat} (h1 : a + n ≤ b) (h2 : b + n ≤ l.length) : l = l.take a ++ (seg l a (a + n) ++ (seg l (a + n) b ++ (seg l b (b + n) ++ l.drop (b + n)))) := by
  conv => lhs; rw [← take_seg_drop l (a := a) (b := b + n) (by omega) h2, ← seg_app l (a := a) (b := b) (c := b + n) (by omega) (by omega), ← seg_app l (a := a) (b := a + n) (c := b) (by omega) h1]
  simp
def swpK (l : List α) (a b n k : Nat) : List α := l.take a ++ ((seg l b (b + k) ++ seg l (a + k) (a + n)) ++ (seg l (a + n) b ++ ((seg l a (a + k) ++ seg l (b + k) (b + n)) ++ l.drop (b + n))))
theorem swpK_zero (l : List α) {a b n : Nat} (h1 : a + n ≤ b) (h2 : b + n ≤ l.length) : swpK l a b n 0 = l := by
  conv => rhs; rw [parts5 l h1 h2]
  unfold swpK
  have e : ∀ x, seg l x (x + 0) = [] := fun x => by simp [seg]
  rw [e, e]
  simp
theorem swpK_end (l : List α) (a b n : Nat) : swpK l a b n n = swpR l a b n := by
  unfold swpK swpR
  have e : ∀ x, seg l x x = [] := fun x => by simp [seg]
  rw [e, e]
  simp
theorem seg_head (l : List α) {a b : Nat} (h : a < b) (hb : b ≤ l.length) : seg l a b = l.getD a d :: seg l (a + 1) b := by
  rw [← seg_app l (a := a) (b := a + 1) (c := b) (by omega) (by omega)]
  have : seg l a (a + 1) = [l.getD a d] := by
    unfold seg
    have ha : a < l.length := by omega
    rw [show a + 1 - a = 1 by omega, List.drop_eq_getElem_cons ha]
    show [l[a]] = _
    simp [List.getD_eq_getElem?_getD, ha]
  rw [this]
  rfl
theorem seg_snoc (l : List α) {a b : Nat} (h : a ≤ b) (hb : b < l.length) : seg l a (b + 1) = seg l a b ++ [l.getD b d] := by
  rw [← seg_app l (a := a) (b := b) (c := b + 1) h (by omega), seg_head (d := d) l (a := b) (b := b + 1) (by omega) (by omega)]
  have : seg l (b + 1) (b + 1) = [] := by simp [seg]
  rw [this]
theorem swpK_len (l : List α) {a b n k : Nat} (h1 : a + n ≤ b) (h2 : b + n ≤ l.length) (hk : k ≤ n) : (swpK l a b n k).length = l.length := by
  unfold swpK
  simp only [List.length_append, List.length_take, List.length_drop]
  rw [seg_len (by omega), seg_len (by omega), seg_len (by omega), seg_len (by omega), seg_len (by omega)]
  omega
theorem swpK_step (l : List α) {a b n k : Nat} (h1 : a + n ≤ b) (h2 : b + n ≤ l.length) (hk : k < n) {i j : Nat} (hi : i = a + k) (hj : j = b + k) :
    (((swpK l a b n k).set i ((swpK l a b n k).getD j d)).set j ((swpK l a b n k).getD i d)) = swpK l a b n (k + 1) := by
  have e : swpK l a b n k = (l.take a ++ seg l b (b + k)) ++ l.getD (a + k) d :: ((seg l (a + k + 1) (a + n) ++ seg l (a + n) b ++ seg l a (a + k)) ++ l.getD (b + k) d :: (seg l (b + k + 1) (b + n) ++ l.drop (b + n))) := by
    unfold swpK
    rw [seg_head (d := d) l (a := a + k) (b := a + n) (by omega) (by omega), seg_head (d := d) l (a := b + k) (b := b + n) (by omega) (by omega)]
    simp
  rw [e, swap_two _ _ _ _ _ (by simp [seg_len (l := l) (a := b) (b := b + k) (by omega)]; omega) (by
    simp only [List.length_append, List.length_take]
    rw [seg_len (by omega), seg_len (by omega), seg_len (by omega), seg_len (by omega)]
    omega)]
  unfold swpK
  rw [show b + (k + 1) = b + k + 1 by omega, show a + (k + 1) = a + k + 1 by omega, seg_snoc (d := d) l (a := b) (b := b + k) (by omega) (by omega), seg_snoc (d := d) l (a := a) (b := a + k) (by omega) (by omega)]
  simp
def rotR (l : List α) (a m b : Nat) : List α := l.take a ++ (seg l m b ++ (seg l a m ++ l.drop b))
theorem rotR_len (l : List α) {a m b : Nat} (h1 : a ≤ m) (h2 : m ≤ b) (h3 : b ≤ l.length) : (rotR l a m b).length = l.length := by
  unfold rotR
  simp only [List.length_append, List.length_take, List.length_drop]
  rw [seg_len (by omega), seg_len (by omega)]
  omega
structure Rot (l : List α) (a m b : Nat) (pre U V post : List α) : Prop where
  goal : rotR l a m b = pre ++ (V ++ (U ++ post))
  at_m : pre.length + U.length = m
  u : 0 < U.length
  v : 0 < V.length
  len : pre.length + U.length + V.length + post.length = l.length
theorem Rot.start (l : List α) {a m b : Nat} (h1 : a < m) (h2 : m < b) (h3 : b ≤ l.length) : Rot l a m b (l.take a) (seg l a m) (seg l m b) (l.drop b) :=
  ⟨rfl, by rw [seg_len (by omega), List.length_take]; omega, by rw [seg_len (by omega)]; omega, by rw [seg_len h3]; omega, by rw [seg_len (by omega), seg_len h3, List.length_take, List.length_drop]; omega⟩
theorem Rot.cur (l : List α) {a m b : Nat} (h1 : a < m) (h2 : m < b) (h3 : b ≤ l.length) : l.take a ++ (seg l a m ++ (seg l m b ++ l.drop b)) = l := by
  have := take_seg_drop l (a := a) (b := b) (by omega) h3
  rw [← seg_app l (a := a) (b := m) (c := b) (by omega) (by omega)] at this
  simpa using this
section
variable {l pre U V post : List α} {a m b : Nat}
theorem Rot.more (h : Rot l a m b pre U V post) (hg : V.length < U.length) : Rot l a m b (pre ++ V) (U.drop V.length) (U.take V.length) post ∧
    swpR (pre ++ (U ++ (V ++ post))) (m - U.length) m V.length = (pre ++ V) ++ (U.drop V.length ++ (U.take V.length ++ post)) := by
  have hm := h.at_m
  have hv := h.v
  have hlen := h.len
  refine ⟨⟨?_, ?_, ?_, ?_, ?_⟩, ?_⟩
  · rw [h.goal, List.append_assoc, ← List.append_assoc (U.take _), List.take_append_drop]
  · simp; omega
  · simp; omega
  · simp; omega
  · simp; omega
  · have e : pre ++ (U ++ (V ++ post)) = pre ++ (U.take V.length ++ (U.drop V.length ++ (V ++ post))) := by rw [← List.append_assoc (U.take _), List.take_append_drop]
    rw [e, swpR_eq pre (U.take V.length) (U.drop V.length) V post (by omega) (by simp; omega) rfl (by simp; omega)]
    simp
theorem Rot.less (h : Rot l a m b pre U V post) (hg : U.length < V.length) : Rot l a m b pre (V.drop (V.length - U.length)) (V.take (V.length - U.length)) (U ++ post) ∧
    swpR (pre ++ (U ++ (V ++ post))) (m - U.length) (m + V.length - U.length) U.length = pre ++ (V.drop (V.length - U.length) ++ (V.take (V.length - U.length) ++ (U ++ post))) := by
  have hm := h.at_m
  have hu := h.u
  have hlen := h.len
  refine ⟨⟨?_, ?_, ?_, ?_, ?_⟩, ?_⟩
  · rw [h.goal, ← List.append_assoc (V.take _), List.take_append_drop]
  · simp; omega
  · simp; omega
  · simp; omega
  · simp; omega
  · have e : pre ++ (U ++ (V ++ post)) = pre ++ (U ++ (V.take (V.length - U.length) ++ (V.drop (V.length - U.length) ++ post))) := by rw [← List.append_assoc (V.take _), List.take_append_drop]
    rw [e, swpR_eq pre U (V.take (V.length - U.length)) (V.drop (V.length - U.length)) post (by omega) rfl (by simp; omega) (by simp; omega)]
theorem Rot.done (h : Rot l a m b pre U V post) (hg : U.length = V.length) : swpR (pre ++ (U ++ (V ++ post))) (m - U.length) m U.length = rotR l a m b := by
  have hm := h.at_m
  have e : pre ++ (U ++ (V ++ post)) = pre ++ (U ++ ([] ++ (V ++ post))) := rfl
  rw [e, swpR_eq pre U [] V post (by omega) rfl hg.symm (by simp; omega), h.goal]
  rfl
end
end
end Go.SX.Plain
/- Merging in place by halves, told plainly. No program here. -/
namespace Go.SX.Plain
section
variable {α : Type} {d : α} {lt : α → α → Bool}
theorem Ord.le_lt (O : Ord lt) {z y x : α} (h1 : lt y z = false) (h2 : lt y x = true) : lt z x = true := by
  cases h : lt z x with
  | true => rfl
  | false =>
    have := O.trans y x z h2 h
    rw [h1] at this
    cases this
theorem Ord.le_trans (O : Ord lt) {x y z : α} (h1 : lt y x = false) (h2 : lt z y = false) : lt z x = false := by
  cases h : lt z x with
  | false => rfl
  | true =>
    have := O.le_lt h2 h
    rw [h1] at this
    cases this
theorem Ord.irrefl (O : Ord lt) (x : α) : lt x x = false := by
  cases h : lt x x with
  | false => rfl
  | true =>
    have := O.asym x x h
    rw [h] at this
    cases this
theorem seg_at {l : List α} {a b i : Nat} (h : i < (seg l a b).length) : (seg l a b)[i] = l.getD (a + i) d ∧ i < b - a := by
  have hi : i < b - a := by
    have : (seg l a b).length ≤ b - a := by unfold seg; exact List.length_take_le _ _
    omega
  refine ⟨?_, hi⟩
  have := seg_get (d := d) l (a := a) (b := b) hi
  rw [List.getD_eq_getElem?_getD, List.getElem?_eq_getElem h] at this
  exact this
theorem mem_seg {l : List α} {a b : Nat} {x : α} (h : x ∈ seg l a b) : ∃ i, a ≤ i ∧ i < b ∧ x = l.getD i d := by
  obtain ⟨i, hi, rfl⟩ := List.getElem_of_mem h
  obtain ⟨h1, h2⟩ := seg_at (d := d) hi
  exact ⟨a + i, by omega, by omega, h1⟩
theorem srt_at {l : List α} {a b : Nat} (O : Ord lt) (h : Srt lt (seg l a b)) (hb : b ≤ l.length) {i j : Nat} (hi : a ≤ i) (hij : i ≤ j) (hj : j < b) : lt (l.getD j d) (l.getD i d) = false := by
  by_cases he : i = j
  · subst he; exact O.irrefl _
  · have hl := seg_len (l := l) (a := a) hb
    have := List.pairwise_iff_getElem.1 h (i - a) (j - a) (by omega) (by omega) (by omega)
    rw [(seg_at (d := d) _).1, (seg_at (d := d) _).1, show a + (j - a) = j by omega, show a + (i - a) = i by omega] at this
    exact this
theorem srt_seg {l : List α} {a b i j : Nat} (h : Srt lt (seg l a b)) (hi : a ≤ i) (hij : i ≤ j) (hj : j ≤ b) : Srt lt (seg l i j) := by
  rw [← seg_app l (b := j) (by omega) hj, ← seg_app l hi hij] at h
  exact (List.pairwise_append.1 (List.pairwise_append.1 h).1).2.1
def symR (lt : α → α → Bool) (l : List α) (a m b : Nat) : List α := l.take a ++ (mrg lt (seg l a m) (seg l m b) ++ l.drop b)
theorem symR_eq (p X Y r : List α) {a m b : Nat} (ha : a = p.length) (hm : m = p.length + X.length) (hb : b = p.length + X.length + Y.length) : symR lt (p ++ (X ++ (Y ++ r))) a m b = p ++ (mrg lt X Y ++ r) := by
  unfold symR
  have e1 : (p ++ (X ++ (Y ++ r))).take a = p := by rw [ha]; exact List.take_left
  have e2 : seg (p ++ (X ++ (Y ++ r))) a m = X := seg_mid p X _ ha hm
  have e3 : seg (p ++ (X ++ (Y ++ r))) m b = Y := by
    rw [show p ++ (X ++ (Y ++ r)) = (p ++ X) ++ (Y ++ r) by simp]
    exact seg_mid _ Y r (by simp; omega) (by simp; omega)
  have e4 : (p ++ (X ++ (Y ++ r))).drop b = r := by
    rw [show p ++ (X ++ (Y ++ r)) = (p ++ X ++ Y) ++ r by simp, List.drop_left' (by simp; omega)]
  rw [e1, e2, e3, e4]
theorem symR_len (l : List α) {a m b : Nat} (h1 : a ≤ m) (h2 : m ≤ b) (h3 : b ≤ l.length) : (symR lt l a m b).length = l.length := by
  unfold symR
  simp only [List.length_append, List.length_take, List.length_drop]
  rw [mrg_len, seg_len (by omega), seg_len (by omega)]
  omega
theorem rotR_left (l : List α) {m b : Nat} (h1 : m ≤ b) (h2 : b ≤ l.length) : rotR l m m b = l := by
  unfold rotR
  have e : seg l m m = [] := by simp [seg]
  have := take_seg_drop l h1 h2
  rw [e]
  simpa using this
theorem rotR_right (l : List α) {a m : Nat} (h1 : a ≤ m) (h2 : m ≤ l.length) : rotR l a m m = l := by
  unfold rotR
  have e : seg l m m = [] := by simp [seg]
  have := take_seg_drop l h1 h2
  rw [e]
  simpa using this
theorem sym_one {l : List α} {a m b i : Nat} (hm : m = a + 1) (hmi : m ≤ i) (hib : i ≤ b) (hb : b ≤ l.length) (hs : Srt lt (seg l m b)) (h1 : ∀ h, m ≤ h → h < i → lt (l.getD h d) (l.getD a d) = true) (h2 : ∀ h, i ≤ h → h < b → lt (l.getD h d) (l.getD a d) = false) :
    symR lt l a m b = l.take a ++ (seg l m i ++ l.getD a d :: (seg l i b ++ l.drop b)) := by
  unfold symR
  have e : seg l a m = [] ++ [l.getD a d] := by
    rw [hm, seg_head (d := d) l (by omega) (by omega)]
    simp [seg]
  rw [e, ← seg_app l hmi hib, mrg_split]
  · have e1 : mrg lt [] (seg l m i) = seg l m i := isort_srt (srt_seg hs (Nat.le_refl _) hmi hib)
    have e2 : mrg lt [l.getD a d] (seg l i b) = l.getD a d :: seg l i b := by
      have h := mrg_left (lt := lt) (M := [l.getD a d]) (seg l i b) [] fun y hy z hz => by
        obtain ⟨j, q1, q2, rfl⟩ := mem_seg (d := d) hy
        rw [List.mem_singleton.1 hz]
        exact h2 j q1 q2
      rw [List.append_nil] at h
      rw [h, show mrg lt [] (seg l i b) = seg l i b from isort_srt (srt_seg hs hmi hib (Nat.le_refl _))]
      rfl
    rw [e1, e2]
    simp
  · intro y hy z hz
    obtain ⟨j, q1, q2, rfl⟩ := mem_seg (d := d) hy
    rw [List.mem_singleton.1 hz]
    exact h1 j q1 q2
  · intro y _ z hz
    cases hz
  · intro y hy z hz
    rw [← seg_app l hmi hib] at hs
    exact (List.pairwise_append.1 hs).2.2 z hz y hy
theorem sym_last {l : List α} {a m b i : Nat} (hm : b = m + 1) (hai : a ≤ i) (him : i ≤ m) (hb : b ≤ l.length) (h1 : ∀ h, a ≤ h → h < i → lt (l.getD m d) (l.getD h d) = false) (h2 : ∀ h, i ≤ h → h < m → lt (l.getD m d) (l.getD h d) = true) :
    symR lt l a m b = l.take a ++ (seg l a i ++ l.getD m d :: (seg l i m ++ l.drop b)) := by
  unfold symR
  have e : seg l m b = [l.getD m d] := by
    rw [hm, seg_head (d := d) l (by omega) (by omega)]
    simp [seg]
  rw [e, ← seg_app l hai him, mrg_cons, insR_split]
  · show _ ++ ((seg l a i ++ l.getD m d :: seg l i m) ++ _) = _
    simp
  · intro z hz
    obtain ⟨j, q1, q2, rfl⟩ := mem_seg (d := d) hz
    exact h1 j q1 q2
  · intro z hz
    obtain ⟨j, q1, q2, rfl⟩ := mem_seg (d := d) hz
    exact h2 j q1 q2
structure Cut (lt : α → α → Bool) (d : α) (l : List α) (a m b mid s : Nat) : Prop where
  am : a < m
  mb : m < b
  len : b ≤ l.length
  hmid : mid = (a + b) / 2
  as' : a ≤ s
  sm : s ≤ m
  sn : s ≤ mid
  me : mid + m - s ≤ b
  lo : ∀ c, a ≤ c → c < s → mid + m - 1 - c < b → lt (l.getD (mid + m - 1 - c) d) (l.getD c d) = false
  hi : ∀ c, s ≤ c → c < m → m ≤ mid + m - 1 - c → c < mid → lt (l.getD (mid + m - 1 - c) d) (l.getD c d) = true
theorem Cut.mid (O : Ord lt) {l : List α} {a m b mid s : Nat} (h : Cut lt d l a m b mid s) (hA : Srt lt (seg l a m)) (hB : Srt lt (seg l m b)) :
    symR lt l a m b = symR lt (symR lt (rotR l s m (mid + m - s)) a s mid) mid (mid + m - s) b := by
  obtain ⟨am, mb, len, hmid, as', sm, sn, me, lo, hi⟩ := h
  have e0 : ∃ e, e = mid + m - s := ⟨_, rfl⟩
  obtain ⟨e, he⟩ := e0
  rw [← he] at me ⊢
  have hme : m ≤ e := by omega
  have r1 : rotR l s m e = l.take a ++ (seg l a s ++ (seg l m e ++ (seg l s m ++ (seg l e b ++ l.drop b)))) := by
    unfold rotR
    have q1 : l.take s = l.take a ++ seg l a s := by
      rw [← seg_zero, ← seg_zero, seg_app l (Nat.zero_le _) as']
    have q2 : l.drop e = seg l e b ++ l.drop b := by
      rw [← seg_end, ← seg_end, seg_app l me len]
    rw [q1, q2]
    simp
  have l1 := seg_len (l := l) (a := a) (b := s) (by omega)
  have l2 := seg_len (l := l) (a := m) (b := e) (by omega)
  have l3 := seg_len (l := l) (a := s) (b := m) (by omega)
  have l4 := seg_len (l := l) (a := e) (b := b) (by omega)
  have l5 : (l.take a).length = a := by rw [List.length_take]; omega
  rw [r1, symR_eq _ (seg l a s) (seg l m e) _ (by omega) (by omega) (by omega)]
  rw [show l.take a ++ (mrg lt (seg l a s) (seg l m e) ++ (seg l s m ++ (seg l e b ++ l.drop b))) = (l.take a ++ mrg lt (seg l a s) (seg l m e)) ++ (seg l s m ++ (seg l e b ++ l.drop b)) by simp]
  rw [symR_eq _ (seg l s m) (seg l e b) _ (by rw [List.length_append, mrg_len]; omega) (by rw [List.length_append, mrg_len]; omega) (by rw [List.length_append, mrg_len]; omega)]
  unfold symR
  rw [← seg_app l as' sm, ← seg_app l hme me, mrg_split]
  · simp
  · intro y hy z hz
    obtain ⟨j, q1, q2, rfl⟩ := mem_seg (d := d) hy
    obtain ⟨i, q3, q4, rfl⟩ := mem_seg (d := d) hz
    have hc := hi s (Nat.le_refl _) (by omega) (by omega) (by omega)
    have h1 := srt_at (d := d) O hB len (i := j) (j := mid + m - 1 - s) (by omega) (by omega) (by omega)
    have h2 := srt_at (d := d) O hA (by omega) (i := s) (j := i) (by omega) q3 q4
    exact O.trans _ _ _ (O.le_lt h1 hc) h2
  · intro y hy z hz
    obtain ⟨j, q1, q2, rfl⟩ := mem_seg (d := d) hy
    obtain ⟨i, q3, q4, rfl⟩ := mem_seg (d := d) hz
    have hc := lo (s - 1) (by omega) (by omega) (by omega)
    rw [show mid + m - 1 - (s - 1) = e by omega] at hc
    have h1 := srt_at (d := d) O hB len (i := e) (j := j) (by omega) q1 q2
    have h2 := srt_at (d := d) O hA (by omega) (i := i) (j := s - 1) q3 (by omega) (by omega)
    exact O.le_trans (O.le_trans h2 hc) h1
  · intro y hy z hz
    rw [← seg_app l hme me] at hB
    exact (List.pairwise_append.1 hB).2.2 z hz y hy
theorem symR_nil_left (O : Ord lt) {l : List α} {a b : Nat} (h : a ≤ b) (hb : b ≤ l.length) (hs : Srt lt (seg l a b)) : symR lt l a a b = l := by
  have _ := O
  unfold symR
  have e : seg l a a = [] := by simp [seg]
  rw [e, show mrg lt [] (seg l a b) = seg l a b from isort_srt hs]
  have := take_seg_drop l h hb
  simpa using this
theorem symR_nil_right {l : List α} {a m : Nat} (h : a ≤ m) (hm : m ≤ l.length) : symR lt l a m m = l := by
  unfold symR
  have e : seg l m m = [] := by simp [seg]
  rw [e]
  have := take_seg_drop l h hm
  simpa [mrg] using this
end
end Go.SX.Plain
/- A stable sort by blocks, told plainly. No program here. -/
namespace Go.SX.Plain
section
variable {α : Type} {lt : α → α → Bool}
def insS (lt : α → α → Bool) (l : List α) (a b : Nat) : List α := l.take a ++ (isort lt (seg l a b) ++ l.drop b)
theorem isort_len (l : List α) : (isort lt l).length = l.length := by
  unfold isort
  rw [mrg_len]
  simp
theorem insS_eq (p X r : List α) {a b : Nat} (ha : a = p.length) (hb : b = p.length + X.length) : insS lt (p ++ (X ++ r)) a b = p ++ (isort lt X ++ r) := by
  unfold insS
  rw [seg_mid p X r ha hb, show (p ++ (X ++ r)).take a = p by rw [ha]; exact List.take_left, show (p ++ (X ++ r)).drop b = r by rw [← List.append_assoc, List.drop_left' (by simp; omega)]]
theorem insS_len (l : List α) {a b : Nat} (h1 : a ≤ b) (h2 : b ≤ l.length) : (insS lt l a b).length = l.length := by
  unfold insS
  simp only [List.length_append, List.length_take, List.length_drop]
  rw [isort_len, seg_len h2]
  omega
def bso (lt : α → α → Bool) (bs : Nat) : Nat → List α → List α
  | 0, _ => []
  | f + 1, l => if l.length ≤ bs then isort lt l else isort lt (l.take bs) ++ bso lt bs f (l.drop bs)
theorem bso_fuel {bs : Nat} (hb : 0 < bs) : ∀ (f g : Nat) (l : List α), l.length < f → l.length < g → bso lt bs f l = bso lt bs g l
  | 0, _, _, h, _ => by omega
  | _ + 1, 0, _, _, h => by omega
  | f + 1, g + 1, l, hf, hg => by
    simp only [bso]
    split
    · rfl
    · rw [bso_fuel hb f g (l.drop bs) (by rw [List.length_drop]; omega) (by rw [List.length_drop]; omega)]
def bsort (lt : α → α → Bool) (bs : Nat) (l : List α) : List α := bso lt bs (l.length + 1) l
theorem bsort_small {bs : Nat} {l : List α} (h : l.length ≤ bs) : bsort lt bs l = isort lt l := by
  unfold bsort
  rw [bso, if_pos h]
theorem bsort_nil (bs : Nat) : bsort lt bs [] = [] := by
  rw [bsort_small (Nat.zero_le _)]
  rfl
theorem bsort_cons {bs : Nat} (hb : 0 < bs) {X : List α} (hX : X.length = bs) (r : List α) : bsort lt bs (X ++ r) = isort lt X ++ bsort lt bs r := by
  by_cases hr : r = []
  · subst hr
    rw [List.append_nil, bsort_small (by omega), bsort_nil, List.append_nil]
  · have : 0 < r.length := List.length_pos_iff.2 hr
    unfold bsort
    rw [bso, if_neg (by rw [List.length_append]; omega), List.take_left' hX, List.drop_left' hX]
    rw [bso_fuel hb _ (r.length + 1) r (by rw [List.length_append]; omega) (by omega)]
theorem bsort_app {bs : Nat} (hb : 0 < bs) (r : List α) : ∀ (k : Nat) (P : List α), P.length = k * bs → bsort lt bs (P ++ r) = bsort lt bs P ++ bsort lt bs r
  | 0, P, h => by
    obtain rfl : P = [] := List.eq_nil_of_length_eq_zero (by omega)
    rw [bsort_nil]
    rfl
  | k + 1, P, h => by
    have hP : P = P.take bs ++ P.drop bs := (List.take_append_drop bs P).symm
    have h1 : (P.take bs).length = bs := by rw [List.length_take, h, Nat.add_mul]; omega
    have h2 : (P.drop bs).length = k * bs := by rw [List.length_drop, h, Nat.add_mul]; omega
    rw [hP, List.append_assoc, bsort_cons hb h1, bsort_cons hb h1, bsort_app hb r k _ h2, List.append_assoc]
theorem bsort_len {bs : Nat} (hb : 0 < bs) : ∀ (f : Nat) (l : List α), l.length < f → (bso lt bs f l).length = l.length
  | 0, _, h => by omega
  | f + 1, l, h => by
    simp only [bso]
    split
    · exact isort_len l
    · rw [List.length_append, isort_len, bsort_len hb f _ (by rw [List.length_drop]; omega), List.length_take, List.length_drop]
      omega
theorem bsort_length {bs : Nat} (hb : 0 < bs) (l : List α) : (bsort lt bs l).length = l.length := bsort_len hb _ l (by omega)
def ph1 (lt : α → α → Bool) (l : List α) (a : Nat) : List α := bsort lt 20 (l.take a) ++ l.drop a
def ph2 (lt : α → α → Bool) (l : List α) (bs a : Nat) : List α := bsort lt (2 * bs) (l.take a) ++ bsort lt bs (l.drop a)
theorem ph1_len (l : List α) (a : Nat) : (ph1 lt l a).length = l.length := by
  unfold ph1
  rw [List.length_append, bsort_length (by decide), List.length_take, List.length_drop]
  omega
theorem ph2_len (l : List α) {bs : Nat} (hb : 0 < bs) (a : Nat) : (ph2 lt l bs a).length = l.length := by
  unfold ph2
  rw [List.length_append, bsort_length (by omega), bsort_length hb, List.length_take, List.length_drop]
  omega
theorem take_seg (l : List α) {a b : Nat} (h : a ≤ b) : l.take b = l.take a ++ seg l a b := by
  rw [← seg_zero, ← seg_zero, seg_app l (Nat.zero_le _) h]
theorem drop_seg (l : List α) {a b : Nat} (h : a ≤ b) (hb : b ≤ l.length) : l.drop a = seg l a b ++ l.drop b := by
  rw [← seg_end, ← seg_end, seg_app l h hb]
theorem ph1_step (l : List α) {a k : Nat} (hk : a = k * 20) (h : a + 20 ≤ l.length) : insS lt (ph1 lt l a) a (a + 20) = ph1 lt l (a + 20) := by
  have hl : (l.take a).length = a := by rw [List.length_take]; omega
  have hs := seg_len (l := l) (a := a) (b := a + 20) h
  unfold ph1
  rw [drop_seg l (a := a) (b := a + 20) (by omega) h, insS_eq _ _ _ (by rw [bsort_length (by decide), hl]) (by rw [bsort_length (by decide), hl, hs]; omega), take_seg l (a := a) (b := a + 20) (by omega), bsort_app (by decide) _ k _ (by rw [hl, hk]), bsort_small (l := seg l a (a + 20)) (by omega), List.append_assoc]
theorem ph1_end (l : List α) {a k : Nat} (hk : a = k * 20) (h1 : a ≤ l.length) (h2 : l.length < a + 20) : insS lt (ph1 lt l a) a l.length = bsort lt 20 l := by
  have hl : (l.take a).length = a := by rw [List.length_take]; omega
  unfold ph1
  have e : l.drop a = l.drop a ++ [] := by simp
  rw [e, insS_eq _ _ _ (by rw [bsort_length (by decide), hl]) (by rw [bsort_length (by decide), hl, List.length_drop]; omega), List.append_nil]
  conv => rhs; rw [← List.take_append_drop a l]
  rw [bsort_app (by decide) _ k _ (by rw [hl, hk]), bsort_small (l := l.drop a) (by rw [List.length_drop]; omega)]
theorem ph2_parts (O : Ord lt) (l : List α) {bs a b : Nat} (hb : 0 < bs) (h1 : a + bs ≤ b) (h2 : b ≤ l.length) (h3 : b ≤ a + 2 * bs) (h4 : b = l.length ∨ b = a + 2 * bs) (hle : a ≤ l.length) :
    ph2 lt l bs a = bsort lt (2 * bs) (l.take a) ++ (isort lt (seg l a (a + bs)) ++ (isort lt (seg l (a + bs) b) ++ bsort lt bs (l.drop b))) ∧ Srt lt (seg (ph2 lt l bs a) a (a + bs)) ∧ Srt lt (seg (ph2 lt l bs a) (a + bs) b) ∧
    symR lt (ph2 lt l bs a) a (a + bs) b = bsort lt (2 * bs) (l.take a) ++ (isort lt (seg l a b) ++ bsort lt bs (l.drop b)) := by
  have hl : (l.take a).length = a := by rw [List.length_take]; omega
  have s1 := seg_len (l := l) (a := a) (b := a + bs) (by omega)
  have s2 := seg_len (l := l) (a := a + bs) (b := b) h2
  have e : ph2 lt l bs a = bsort lt (2 * bs) (l.take a) ++ (isort lt (seg l a (a + bs)) ++ (isort lt (seg l (a + bs) b) ++ bsort lt bs (l.drop b))) := by
    unfold ph2
    rw [drop_seg l (a := a) (b := a + bs) (by omega) (by omega), bsort_cons hb (by omega), drop_seg l (a := a + bs) (b := b) h1 h2]
    rcases h4 with h4 | h4
    · have : l.drop b = [] := List.drop_eq_nil_of_le (by omega)
      rw [this, bsort_nil, List.append_nil, List.append_nil, bsort_small (l := seg l (a + bs) b) (bs := bs) (by omega)]
    · rw [bsort_cons hb (by omega)]
  have p1 : (bsort lt (2 * bs) (l.take a)).length = a := by rw [bsort_length (by omega), hl]
  have p2 : (isort lt (seg l a (a + bs))).length = bs := by rw [isort_len]; omega
  have p3 : (isort lt (seg l (a + bs) b)).length = b - (a + bs) := by rw [isort_len]; omega
  refine ⟨e, ?_, ?_, ?_⟩
  · rw [e, seg_mid _ _ _ (by omega) (by omega)]
    exact mrg_srt O List.Pairwise.nil
  · rw [e, ← List.append_assoc, seg_mid _ _ _ (by rw [List.length_append]; omega) (by rw [List.length_append]; omega)]
    exact mrg_srt O List.Pairwise.nil
  · rw [e, symR_eq _ _ _ _ (by omega) (by omega) (by omega), ← isort_app O, seg_app l (by omega) h1]
theorem ph2_step (O : Ord lt) (l : List α) {bs a k : Nat} (hb : 0 < bs) (hk : a = k * (2 * bs)) (h : a + 2 * bs ≤ l.length) : symR lt (ph2 lt l bs a) a (a + bs) (a + 2 * bs) = ph2 lt l bs (a + 2 * bs) := by
  have hl : (l.take a).length = a := by rw [List.length_take]; omega
  have s := seg_len (l := l) (a := a) (b := a + 2 * bs) h
  rw [(ph2_parts O l hb (b := a + 2 * bs) (by omega) h (Nat.le_refl _) (.inr rfl) (by omega)).2.2.2]
  unfold ph2
  rw [take_seg l (a := a) (b := a + 2 * bs) (by omega), bsort_app (by omega) _ k _ (by rw [hl, hk]), bsort_small (l := seg l a (a + 2 * bs)) (by omega), List.append_assoc]
theorem ph2_last (O : Ord lt) (l : List α) {bs a k : Nat} (hb : 0 < bs) (hk : a = k * (2 * bs)) (h1 : a + bs < l.length) (h2 : l.length < a + 2 * bs) : symR lt (ph2 lt l bs a) a (a + bs) l.length = bsort lt (2 * bs) l := by
  have hl : (l.take a).length = a := by rw [List.length_take]; omega
  rw [(ph2_parts O l hb (b := l.length) (by omega) (Nat.le_refl _) (by omega) (.inl rfl) (by omega)).2.2.2, List.drop_length, bsort_nil, List.append_nil, seg_end]
  conv => rhs; rw [← List.take_append_drop a l]
  rw [bsort_app (by omega) _ k _ (by rw [hl, hk]), bsort_small (l := l.drop a) (by rw [List.length_drop]; omega)]
theorem ph2_end (l : List α) {bs a k : Nat} (hb : 0 < bs) (hk : a = k * (2 * bs)) (h0 : a ≤ l.length) (h1 : l.length ≤ a + bs) : ph2 lt l bs a = bsort lt (2 * bs) l := by
  have hl : (l.take a).length = a := by rw [List.length_take]; omega
  conv => rhs; rw [← List.take_append_drop a l]
  unfold ph2
  rw [bsort_app (by omega) _ k _ (by rw [hl, hk]), bsort_small (l := l.drop a) (bs := bs) (by rw [List.length_drop]; omega), bsort_small (l := l.drop a) (bs := 2 * bs) (by rw [List.length_drop]; omega)]
end
end Go.SX.Plain
namespace Go.SX.Plain
section
variable {α : Type} {d : α} {lt : α → α → Bool}
theorem insS_self (l : List α) (a : Nat) : insS lt l a a = l := by
  unfold insS
  have e : seg l a a = [] := by simp [seg]
  rw [e]
  exact List.take_append_drop a l
theorem insS_one (l : List α) (a : Nat) : insS lt l a (a + 1) = l := by
  by_cases h : a < l.length
  · unfold insS
    have e : seg l a (a + 1) = [l[a]] := by
      unfold seg
      rw [show a + 1 - a = 1 by omega, List.drop_eq_getElem_cons h]
      rfl
    rw [e]
    show l.take a ++ l[a] :: l.drop (a + 1) = l
    rw [← List.drop_eq_getElem_cons h, List.take_append_drop]
  · unfold insS seg
    rw [List.take_of_length_le (by omega), List.drop_eq_nil_of_le (by omega), List.drop_eq_nil_of_le (by omega)]
    show l ++ (isort lt (List.take _ []) ++ []) = l
    rw [List.take_nil]
    show l ++ ([] ++ []) = l
    simp
structure Ins (lt : α → α → Bool) (d : α) (l : List α) (a i : Nat) (P Q : List α) : Prop where
  parts : P ++ Q = isort lt (seg l a i)
  more : ∀ z ∈ Q, lt (l.getD i d) z = true
def insC (d : α) (l : List α) (a i : Nat) (P Q : List α) : List α := l.take a ++ (P ++ l.getD i d :: (Q ++ l.drop (i + 1)))
theorem Ins.start (l : List α) {a i : Nat} (ha : a ≤ i) (hi : i < l.length) : Ins lt d l a i (isort lt (seg l a i)) [] ∧ insC d l a i (isort lt (seg l a i)) [] = insS lt l a i := by
  refine ⟨⟨List.append_nil _, fun z hz => by cases hz⟩, ?_⟩
  unfold insC insS
  rw [List.drop_eq_getElem_cons hi]
  simp [List.getD_eq_getElem?_getD, hi]
theorem Ins.len {l : List α} {a i : Nat} {P Q : List α} (h : Ins lt d l a i P Q) (ha : a ≤ i) (hi : i < l.length) : P.length + Q.length = i - a ∧ (insC d l a i P Q).length = l.length := by
  have := congrArg List.length h.parts
  rw [List.length_append, isort_len, seg_len (by omega)] at this
  refine ⟨this, ?_⟩
  unfold insC
  simp only [List.length_append, List.length_take, List.length_drop, List.length_cons]
  omega
theorem Ins.at {l : List α} {a i : Nat} {P Q : List α} (h : Ins lt d l a i P Q) (ha : a ≤ i) (hi : i < l.length) : (insC d l a i P Q).getD (a + P.length) d = l.getD i d := by
  unfold insC
  rw [← List.append_assoc]
  exact getD_mid _ _ _ (by rw [List.length_append, List.length_take]; omega)
theorem Ins.at1 {l : List α} {a i : Nat} {P Q : List α} {z : α} (ha : a ≤ i) (hi : i < l.length) : (insC d l a i (P ++ [z]) Q).getD (a + P.length) d = z := by
  unfold insC
  rw [show l.take a ++ (P ++ [z] ++ l.getD i d :: (Q ++ l.drop (i + 1))) = (l.take a ++ P) ++ z :: (l.getD i d :: (Q ++ l.drop (i + 1))) by simp]
  exact getD_mid _ _ _ (by rw [List.length_append, List.length_take]; omega)
theorem Ins.step {l : List α} {a i : Nat} {P Q : List α} {z : α} (h : Ins lt d l a i (P ++ [z]) Q) (hz : lt (l.getD i d) z = true) : Ins lt d l a i P (z :: Q) :=
  ⟨by rw [← h.parts]; simp, fun y hy => by
    rcases List.mem_cons.1 hy with rfl | hy
    · exact hz
    · exact h.more y hy⟩
theorem insC_swap {l : List α} {a i : Nat} {P Q : List α} {z : α} (ha : a ≤ i) (hi : i < l.length) {j : Nat} (hj : j = a + P.length + 1) :
    ((insC d l a i (P ++ [z]) Q).set j ((insC d l a i (P ++ [z]) Q).getD (j - 1) d)).set (j - 1) ((insC d l a i (P ++ [z]) Q).getD j d) = insC d l a i P (z :: Q) := by
  have e : insC d l a i (P ++ [z]) Q = (l.take a ++ P) ++ z :: l.getD i d :: (Q ++ l.drop (i + 1)) := by unfold insC; simp
  rw [e, swap_mid _ _ _ _ (by rw [List.length_append, List.length_take]; omega)]
  unfold insC
  simp
theorem Ins.stop {l : List α} {a i : Nat} {P Q : List α} (h : Ins lt d l a i P Q) (ha : a ≤ i) (hi : i < l.length) (hP : P = [] ∨ ∃ P' z, P = P' ++ [z] ∧ lt (l.getD i d) z = false) : insC d l a i P Q = insS lt l a (i + 1) := by
  have e : isort lt (seg l a (i + 1)) = insR lt (l.getD i d) (P ++ Q) := by
    rw [seg_snoc (d := d) l ha hi, h.parts]
    exact mrg_app _ _ _
  have e2 : insR lt (l.getD i d) (P ++ Q) = P ++ l.getD i d :: Q := by
    rcases hP with rfl | ⟨P', z, rfl, hz⟩
    · exact insR_all h.more
    · exact insR_last hz h.more
  unfold insC insS
  rw [e, e2]
  simp
end
end Go.SX.Plain
/- Spans, and their orders, told plainly. No program here. -/
namespace Go.SX.Plain
structure Spn where
  frm : Int
  to : Int
  kind : Int
  val : Int
  deriving DecidableEq
abbrev zS : Spn := ⟨0, 0, 0, 0⟩
def cmpI (a b : Int) : Int := if a < b then -1 else if b < a then 1 else 0
def orL : List Int → Int
  | [] => 0
  | x :: l => if x ≠ 0 then x else orL l
def cmpO (x y : Spn) : Int := orL [cmpI x.frm y.frm, cmpI y.to x.to]
def cmpM (x y : Spn) : Int := orL [cmpI x.frm y.frm, cmpI y.to x.to, cmpI x.kind y.kind]
def ltO (x y : Spn) : Bool := decide (cmpO x y < 0)
def ltM (x y : Spn) : Bool := decide (cmpM x y < 0)
theorem cmpI_cases (a b : Int) : (a < b ∧ cmpI a b = -1) ∨ (b < a ∧ cmpI a b = 1) ∨ (a = b ∧ cmpI a b = 0) := by
  unfold cmpI
  split
  · exact .inl ⟨by assumption, rfl⟩
  · split
    · exact .inr (.inl ⟨by assumption, rfl⟩)
    · exact .inr (.inr ⟨by omega, rfl⟩)
theorem cmpO_lt (x y : Spn) : cmpO x y < 0 ↔ x.frm < y.frm ∨ (x.frm = y.frm ∧ y.to < x.to) := by
  unfold cmpO orL orL orL
  rcases cmpI_cases x.frm y.frm with ⟨h1, h2⟩ | ⟨h1, h2⟩ | ⟨h1, h2⟩ <;> rcases cmpI_cases y.to x.to with ⟨h3, h4⟩ | ⟨h3, h4⟩ | ⟨h3, h4⟩ <;> simp [h2, h4] <;> omega
theorem ltO_iff (x y : Spn) : ltO x y = true ↔ x.frm < y.frm ∨ (x.frm = y.frm ∧ y.to < x.to) := by rw [ltO, decide_eq_true_iff, cmpO_lt]
theorem ordO : Ord ltO := ⟨fun x y h => by
  rw [ltO_iff] at h
  cases hc : ltO y x with
  | false => rfl
  | true => rw [ltO_iff] at hc; omega, fun x y z h1 h2 => by
  rw [ltO_iff] at h1 ⊢
  have h3 : ¬ (ltO z y = true) := by rw [h2]; decide
  rw [ltO_iff] at h3
  omega⟩
end Go.SX.Plain
/- Contracts of cmp.Compare, cmp.Or, style's order of spans. -/
namespace Go.SX.Try
open Go.Proofs Go.Proofs.Try Go.SX.Plain
set_option maxRecDepth 100000
set_option maxHeartbeats 0
set_option linter.unusedSimpArgs false
theorem ncast (n : Nat) : @NatCast.natCast Int instNatCastInt n = (n : Int) := rfl
theorem q_isNaN : fact 78 f78 := ⟨by kernel_rfl, rfl, by kernel_rfl⟩
theorem q_compare : fact 71 f71 := ⟨by kernel_rfl, rfl, by kernel_rfl⟩
theorem q_cor : fact 70 f70 := ⟨by kernel_rfl, rfl, by kernel_rfl⟩
theorem q_outer1 : fact 69 f69 := ⟨by kernel_rfl, rfl, by kernel_rfl⟩
abbrev spAV (x : Spn) : List AV := [.v (.int .i64 x.frm), .v (.int .i64 x.to), .v (.int .i64 x.kind), .v (.int .i64 x.val)]
def C_spn : Cdc Spn where
  size := 4
  enc := spAV
  dec l := match l with
    | [.v (.int _ a), .v (.int _ b), .v (.int _ c), .v (.int _ d)] => ⟨a, b, c, d⟩
    | _ => ⟨0, 0, 0, 0⟩
  d := ⟨0, 0, 0, 0⟩
def D_int : Cds := [(3, ⟨Int, C_int⟩)]
theorem D_int_ok : CdsOK T D_int := .cons ⟨fun _ => rfl, by decide, _, rfl, rfl, by decide⟩ .nil
theorem con_compare : Con prog 71 (fun ((a, b) : Int × Int) => [.v (.int .i64 a), .v (.int .i64 b)]) (fun (a, b) => .v (.int .i64 (cmpI a b))) (fun _ => True) := by
  refine Con.of (by kernel_rfl) T_ok CdsOK.nil (.inl (J := []) q_isNaN.1 q_isNaN.2.1 q_isNaN.2.2 .nil) 5 [] q_compare.1 q_compare.2.1 q_compare.2.2 (fun _ => rfl) fun i _ => ?_
  obtain ⟨a, b⟩ := i
  repeat' (first | (with_reducible first | exact fun h => h | refine ExE.row (by with_unfolding_all rfl) ?_ | refine And.intro ?_ ?_) | ((with_reducible intro hq); first | exact bne1 hq (by with_reducible assumption) | exact bne1 (by with_reducible assumption) hq | ((simp only [*, BB, cond_true, cond_false, reduceCtorEq] at hq); done) | (revert hq; with_reducible intro _)) | (with_reducible first | exact True.intro | rfl | refine EntLe.row ?_ | exact LeN.ro rfl | exact LeN.rptr | assumption) | ((with_reducible first | refine WkX.chk ?_ | refine Wk.chk ?_ | refine LeL.chk ?_ | refine LeF.chk ?_ | refine Run.mk ?_); (conv => whnf)) | ((with_reducible show LeO _ _); first | refine LeO.ro ?_ | refine LeO.roCap ?_ | refine LeO.nil ?_ (fun _ => rfl)) | ((with_reducible show LeR _ _ _); first | refine LeR.own rfl rfl rfl ?_ | refine LeR.view rfl rfl rfl ?_ ?_ | refine LeR.ro ?_ | refine LeR.roCap ?_ | refine LeR.nil ?_ (fun _ => rfl)) | ((with_reducible first | show drawOK _ _ = true | show lateOK _ _ = true | show drawOK2 _ _ = true | show drawOK3 _ _ = true); kernel_rfl))
  all_goals first
    | (unfold cmpI; simp_all; done)
    | (unfold cmpI; simp_all; omega)
    | trace_state
theorem con_or : Con prog 70 (fun l : List Int => [.ro 1 C_int.enc C_int.d l none true]) (fun l => .v (.int .i64 (orL l))) (fun l => l.length ≤ 1100000) := by
  refine Con.of (by kernel_rfl) T_ok CdsOK.nil .nil 3 [] q_cor.1 q_cor.2.1 q_cor.2.2 (fun _ => rfl) fun l hl => ?_
  have hl : l.length ≤ 1100000 := hl
  repeat' (first | (with_reducible first | exact fun h => h | refine ExE.row (by with_unfolding_all rfl) ?_ | refine And.intro ?_ ?_) | ((with_reducible intro hq); first | exact bne1 hq (by with_reducible assumption) | exact bne1 (by with_reducible assumption) hq | ((simp only [*, BB, cond_true, cond_false, reduceCtorEq] at hq); done) | (revert hq; with_reducible intro _)) | (with_reducible first | exact True.intro | rfl | refine EntLe.row ?_ | exact LeN.ro rfl | exact LeN.rptr | assumption) | ((with_reducible first | refine WkX.chk ?_ | refine Wk.chk ?_ | refine LeL.chk ?_ | refine LeF.chk ?_ | refine Run.mk ?_); (conv => whnf)) | ((with_reducible show LeO _ _); first | refine LeO.ro ?_ | refine LeO.roCap ?_ | refine LeO.nil ?_ (fun _ => rfl)) | ((with_reducible show LeR _ _ _); first | refine LeR.own rfl rfl rfl ?_ | refine LeR.view rfl rfl rfl ?_ ?_ | refine LeR.ro ?_ | refine LeR.roCap ?_ | refine LeR.nil ?_ (fun _ => rfl)) | ((with_reducible first | show drawOK _ _ = true | show lateOK _ _ = true | show drawOK2 _ _ = true | show drawOK3 _ _ = true); kernel_rfl))
  refine loopI Nat [] (fun k => [(8, .v (.int .i64 (k : Nat)))]) (fun _ => []) (fun k => k ≤ l.length ∧ orL l = orL (l.drop k)) (fun k => l.length - k) 0 ⟨Nat.zero_le _, rfl⟩ (Wk.chk ?_) fun k hk => ?_
  · ((conv => whnf); repeat' (first | (with_reducible first | exact fun h => h | refine ExE.row (by with_unfolding_all rfl) ?_ | refine And.intro ?_ ?_) | ((with_reducible intro hq); first | exact bne1 hq (by with_reducible assumption) | exact bne1 (by with_reducible assumption) hq | ((simp only [*, BB, cond_true, cond_false, reduceCtorEq] at hq); done) | (revert hq; with_reducible intro _)) | (with_reducible first | exact True.intro | rfl | refine EntLe.row ?_ | exact LeN.ro rfl | exact LeN.rptr | assumption) | ((with_reducible first | refine WkX.chk ?_ | refine Wk.chk ?_ | refine LeL.chk ?_ | refine LeF.chk ?_ | refine Run.mk ?_); (conv => whnf)) | ((with_reducible show LeO _ _); first | refine LeO.ro ?_ | refine LeO.roCap ?_ | refine LeO.nil ?_ (fun _ => rfl)) | ((with_reducible show LeR _ _ _); first | refine LeR.own rfl rfl rfl ?_ | refine LeR.view rfl rfl rfl ?_ ?_ | refine LeR.ro ?_ | refine LeR.roCap ?_ | refine LeR.nil ?_ (fun _ => rfl)) | ((with_reducible first | show drawOK _ _ = true | show lateOK _ _ = true | show drawOK2 _ _ = true | show drawOK3 _ _ = true); kernel_rfl)))
    all_goals rfl
  obtain ⟨hk1, hk2⟩ := hk
  have e1 : ((k : Int)).toNat = k := Int.toNat_natCast _
  have hd : C_int.d = 0 := rfl
  have hs : k < l.length → orL (l.drop k) = if l.getD k 0 ≠ 0 then l.getD k 0 else orL (l.drop (k + 1)) := fun h => by
    rw [List.drop_eq_getElem_cons h, orL]
    simp [List.getD_eq_getElem?_getD, h]
  repeat' (first | (with_reducible first | refine ex_of (α := Nat) (k + 1) ⟨⟨?_, ?_⟩, ?_⟩ ?_ | exact fun h => h | refine ExE.row (by with_unfolding_all rfl) ?_ | refine And.intro ?_ ?_) | ((with_reducible intro hq); first | exact bne1 hq (by with_reducible assumption) | exact bne1 (by with_reducible assumption) hq | ((simp only [*, BB, cond_true, cond_false, reduceCtorEq] at hq); done) | (revert hq; with_reducible intro _)) | (with_reducible first | exact True.intro | rfl | refine EntLe.row ?_ | exact LeN.ro rfl | exact LeN.rptr | assumption) | ((with_reducible first | refine WkX.chk ?_ | refine Wk.chk ?_ | refine LeL.chk ?_ | refine LeF.chk ?_ | refine Run.mk ?_); (conv => whnf)) | ((with_reducible show LeO _ _); first | refine LeO.ro ?_ | refine LeO.roCap ?_ | refine LeO.nil ?_ (fun _ => rfl)) | ((with_reducible show LeR _ _ _); first | refine LeR.own rfl rfl rfl ?_ | refine LeR.view rfl rfl rfl ?_ ?_ | refine LeR.ro ?_ | refine LeR.roCap ?_ | refine LeR.nil ?_ (fun _ => rfl)) | ((with_reducible first | show drawOK _ _ = true | show lateOK _ _ = true | show drawOK2 _ _ = true | show drawOK3 _ _ = true); kernel_rfl))
  all_goals (try simp only [e1, hd, decide_eq_true_eq, decide_eq_false_iff_not, bne_iff_ne, ne_eq] at *)
  all_goals first
    | omega
    | (apply Fits.i64 <;> omega)
    | (rw [hk2, hs (by omega), if_pos (by assumption)]; done)
    | (rw [hk2, hs (by omega)]; simp_all; done)
    | (rw [hk2, List.drop_eq_nil_of_le (by omega)]; rfl)
    | trace_state
theorem con_outer1 : Con prog 69 (fun ((x, y) : Spn × Spn) => [.agg (spAV x), .agg (spAV y)]) (fun (x, y) => .v (.int .i64 (cmpO x y))) (fun _ => True) := by
  refine Con.of (by kernel_rfl) T_ok D_int_ok (.con con_compare (.con con_or .nil)) 3 [] q_outer1.1 q_outer1.2.1 q_outer1.2.2 (fun _ => rfl) fun i _ => ?_
  obtain ⟨x, y⟩ := i
  repeat' (first | (with_reducible first | refine ⟨(_, _), ⟨(.cons (.v _) (.cons (.v _) .nil)), ?_⟩, ?_⟩ | refine ⟨_, ⟨(.cons (.lent _ _ _ _ _ _) .nil), ?_⟩, ?_⟩ | exact fun h => h | refine ExE.row (by with_unfolding_all rfl) ?_ | refine And.intro ?_ ?_) | ((with_reducible intro hq); first | exact bne1 hq (by with_reducible assumption) | exact bne1 (by with_reducible assumption) hq | ((simp only [*, BB, cond_true, cond_false, reduceCtorEq] at hq); done) | (revert hq; with_reducible intro _)) | (with_reducible first | exact True.intro | rfl | refine EntLe.row ?_ | exact LeN.ro rfl | exact LeN.rptr | assumption) | ((with_reducible first | refine WkX.chk ?_ | refine Wk.chk ?_ | refine LeL.chk ?_ | refine LeF.chk ?_ | refine Run.mk ?_); (conv => whnf)) | ((with_reducible show LeO _ _); first | refine LeO.ro ?_ | refine LeO.roCap ?_ | refine LeO.nil ?_ (fun _ => rfl)) | ((with_reducible show LeR _ _ _); first | refine LeR.own rfl rfl rfl ?_ | refine LeR.view rfl rfl rfl ?_ ?_ | refine LeR.ro ?_ | refine LeR.roCap ?_ | refine LeR.nil ?_ (fun _ => rfl)) | ((with_reducible first | show drawOK _ _ = true | show lateOK _ _ = true | show drawOK2 _ _ = true | show drawOK3 _ _ = true); kernel_rfl))
  all_goals first
    | rfl
    | (show (2 : Nat) ≤ 1100000; decide)
end Go.SX.Try
/- Contracts of the library's swaps, rotations, insertions of spans. -/
namespace Go.SX.Try
open Go.Proofs Go.Proofs.Try Go.SX.Plain
set_option maxRecDepth 100000
set_option maxHeartbeats 0
set_option linter.unusedSimpArgs false
theorem q_swapR : fact 82 f82 := ⟨by kernel_rfl, rfl, by kernel_rfl⟩
theorem q_rotateS : fact 81 f81 := ⟨by kernel_rfl, rfl, by kernel_rfl⟩
theorem conW_swap : ConW prog 82 C_spn 50 (fun ((a, b, n) : Int × Int × Int) => [.v (.int .i64 a), .v (.int .i64 b), .v (.int .i64 n), .junk]) (fun (a, b, n) l => swpR l a.toNat b.toNat n.toNat)
    (fun (a, b, n) l => (0 ≤ a ∧ 0 ≤ n ∧ a + n ≤ b ∧ b + n ≤ l.length) ∧ l.length ≤ 1100000) := by
  refine ConW.of (by kernel_rfl) T_ok CdsOK.nil .nil 3 [] q_swapR.1 q_swapR.2.1 q_swapR.2.2 (fun _ => rfl) (fun _ => .cons (.v _) (.cons (.v _) (.cons (.v _) (.cons (.junk _) .nil)))) fun i l hi => ?_
  obtain ⟨a, b, n⟩ := i
  obtain ⟨⟨h1, h2, h3, h4⟩, h5⟩ := hi
  obtain ⟨a, rfl⟩ := Int.eq_ofNat_of_zero_le h1
  obtain ⟨n, rfl⟩ := Int.eq_ofNat_of_zero_le h2
  obtain ⟨b, rfl⟩ := Int.eq_ofNat_of_zero_le (show 0 ≤ b by omega)
  simp only [Int.toNat_natCast]
  repeat' (first | (with_reducible first | exact fun h => h | refine ExE.row (by with_unfolding_all rfl) ?_ | refine And.intro ?_ ?_) | ((with_reducible intro hq); first | exact bne1 hq (by with_reducible assumption) | exact bne1 (by with_reducible assumption) hq | ((simp only [*, BB, cond_true, cond_false, reduceCtorEq] at hq); done) | (revert hq; with_reducible intro _)) | (with_reducible first | exact True.intro | rfl | refine EntLe.row ?_ | exact LeN.ro rfl | exact LeN.rptr | assumption) | ((with_reducible first | refine WkX.chk ?_ | refine Wk.chk ?_ | refine LeL.chk ?_ | refine LeF.chk ?_ | refine Run.mk ?_); (conv => whnf)) | ((with_reducible show LeO _ _); first | refine LeO.ro ?_ | refine LeO.roCap ?_ | refine LeO.nil ?_ (fun _ => rfl)) | ((with_reducible show LeR _ _ _); first | refine LeR.own rfl rfl rfl ?_ | refine LeR.view rfl rfl rfl ?_ ?_ | refine LeR.ro ?_ | refine LeR.roCap ?_ | refine LeR.nil ?_ (fun _ => rfl)) | ((with_reducible first | show drawOK _ _ = true | show lateOK _ _ = true | show drawOK2 _ _ = true | show drawOK3 _ _ = true); kernel_rfl))
  refine loopI Nat [] (fun k => [(10, .v (.int .i64 (k : Nat)))]) (fun k => [(0, .row C_spn (swpK l a b n k) 50 none)]) (fun k => k ≤ n) (fun k => n - k) 0 (Nat.zero_le _) (Wk.chk ?_) fun k hk => ?_
  · ((conv => whnf); repeat' (first | (with_reducible first | exact fun h => h | refine ExE.row (by with_unfolding_all rfl) ?_ | refine And.intro ?_ ?_) | ((with_reducible intro hq); first | exact bne1 hq (by with_reducible assumption) | exact bne1 (by with_reducible assumption) hq | ((simp only [*, BB, cond_true, cond_false, reduceCtorEq] at hq); done) | (revert hq; with_reducible intro _)) | (with_reducible first | exact True.intro | rfl | refine EntLe.row ?_ | exact LeN.ro rfl | exact LeN.rptr | assumption) | ((with_reducible first | refine WkX.chk ?_ | refine Wk.chk ?_ | refine LeL.chk ?_ | refine LeF.chk ?_ | refine Run.mk ?_); (conv => whnf)) | ((with_reducible show LeO _ _); first | refine LeO.ro ?_ | refine LeO.roCap ?_ | refine LeO.nil ?_ (fun _ => rfl)) | ((with_reducible show LeR _ _ _); first | refine LeR.own rfl rfl rfl ?_ | refine LeR.view rfl rfl rfl ?_ ?_ | refine LeR.ro ?_ | refine LeR.roCap ?_ | refine LeR.nil ?_ (fun _ => rfl)) | ((with_reducible first | show drawOK _ _ = true | show lateOK _ _ = true | show drawOK2 _ _ = true | show drawOK3 _ _ = true); kernel_rfl)))
    all_goals first
      | rfl
      | (rw [swpK_zero l (by omega) (by omega)]; done)
      | trace_state
  have hk : k ≤ n := hk
  have hlen := swpK_len l (a := a) (b := b) (n := n) (k := k) (by omega) (by omega) hk
  have e1 : (((a : Int) + (k : Int))).toNat = a + k := by omega
  have e2 : (((b : Int) + (k : Int))).toNat = b + k := by omega
  have hd : C_spn.d = zS := rfl
  have hst := fun h => swpK_step (d := zS) l (a := a) (b := b) (n := n) (k := k) (by omega) (by omega) h (i := a + k) (j := b + k) rfl rfl
  repeat' (first | (with_reducible first | refine ex_of (α := Nat) (k + 1) ⟨?_, ?_⟩ ?_ | exact fun h => h | refine ExE.row (by with_unfolding_all rfl) ?_ | refine And.intro ?_ ?_) | ((with_reducible intro hq); first | exact bne1 hq (by with_reducible assumption) | exact bne1 (by with_reducible assumption) hq | ((simp only [*, BB, cond_true, cond_false, reduceCtorEq] at hq); done) | (revert hq; with_reducible intro _)) | (with_reducible first | exact True.intro | rfl | refine EntLe.row ?_ | exact LeN.ro rfl | exact LeN.rptr | assumption) | ((with_reducible first | refine WkX.chk ?_ | refine Wk.chk ?_ | refine LeL.chk ?_ | refine LeF.chk ?_ | refine Run.mk ?_); (conv => whnf)) | ((with_reducible show LeO _ _); first | refine LeO.ro ?_ | refine LeO.roCap ?_ | refine LeO.nil ?_ (fun _ => rfl)) | ((with_reducible show LeR _ _ _); first | refine LeR.own rfl rfl rfl ?_ | refine LeR.view rfl rfl rfl ?_ ?_ | refine LeR.ro ?_ | refine LeR.roCap ?_ | refine LeR.nil ?_ (fun _ => rfl)) | ((with_reducible first | show drawOK _ _ = true | show lateOK _ _ = true | show drawOK2 _ _ = true | show drawOK3 _ _ = true); kernel_rfl))
  all_goals (try simp only [e1, e2, hd, hlen, List.length_set, decide_eq_true_eq, decide_eq_false_iff_not] at *)
  all_goals first
    | omega
    | (apply Fits.i64 <;> omega)
    | rfl
    | (rw [← hst (by omega)]; rfl)
    | (refine ⟨_, _, rfl, ?_⟩; obtain rfl : k = n := by omega
       exact swpK_end _ _ _ _)
    | trace_state
theorem conW_rotate : ConW prog 81 C_spn 50 (fun ((a, m, b) : Int × Int × Int) => [.v (.int .i64 a), .v (.int .i64 m), .v (.int .i64 b), .junk]) (fun (a, m, b) l => rotR l a.toNat m.toNat b.toNat)
    (fun (a, m, b) l => (0 ≤ a ∧ a < m ∧ m < b ∧ b ≤ l.length) ∧ l.length ≤ 1100000) := by
  refine ConW.of (by kernel_rfl) T_ok CdsOK.nil (.conw conW_swap .nil) 3 [] q_rotateS.1 q_rotateS.2.1 q_rotateS.2.2 (fun _ => rfl) (fun _ => .cons (.v _) (.cons (.v _) (.cons (.v _) (.cons (.junk _) .nil)))) fun i l hi => ?_
  obtain ⟨a, m, b⟩ := i
  obtain ⟨⟨h1, h2, h3, h4⟩, h5⟩ := hi
  obtain ⟨a, rfl⟩ := Int.eq_ofNat_of_zero_le h1
  obtain ⟨m, rfl⟩ := Int.eq_ofNat_of_zero_le (show 0 ≤ m by omega)
  obtain ⟨b, rfl⟩ := Int.eq_ofNat_of_zero_le (show 0 ≤ b by omega)
  simp only [Int.toNat_natCast]
  repeat' (first | (with_reducible first | exact fun h => h | refine ExE.row (by with_unfolding_all rfl) ?_ | refine And.intro ?_ ?_) | ((with_reducible intro hq); first | exact bne1 hq (by with_reducible assumption) | exact bne1 (by with_reducible assumption) hq | ((simp only [*, BB, cond_true, cond_false, reduceCtorEq] at hq); done) | (revert hq; with_reducible intro _)) | (with_reducible first | exact True.intro | rfl | refine EntLe.row ?_ | exact LeN.ro rfl | exact LeN.rptr | assumption) | ((with_reducible first | refine WkX.chk ?_ | refine Wk.chk ?_ | refine LeL.chk ?_ | refine LeF.chk ?_ | refine Run.mk ?_); (conv => whnf)) | ((with_reducible show LeO _ _); first | refine LeO.ro ?_ | refine LeO.roCap ?_ | refine LeO.nil ?_ (fun _ => rfl)) | ((with_reducible show LeR _ _ _); first | refine LeR.own rfl rfl rfl ?_ | refine LeR.view rfl rfl rfl ?_ ?_ | refine LeR.ro ?_ | refine LeR.roCap ?_ | refine LeR.nil ?_ (fun _ => rfl)) | ((with_reducible first | show drawOK _ _ = true | show lateOK _ _ = true | show drawOK2 _ _ = true | show drawOK3 _ _ = true); kernel_rfl))
  any_goals (apply Fits.i64 <;> omega)
  have hst := Rot.start l (a := a) (m := m) (b := b) (by omega) (by omega) (by omega)
  have hcu := Rot.cur l (a := a) (m := m) (b := b) (by omega) (by omega) (by omega)
  refine loopI (List Spn × List Spn × List Spn × List Spn) [] (fun | (_, U, V, _) => [(10, .v (.int .i64 (U.length : Nat))), (11, .v (.int .i64 (V.length : Nat)))]) (fun | (pre, U, V, post) => [(0, .row C_spn (pre ++ (U ++ (V ++ post))) 50 none)]) (fun | (pre, U, V, post) => Rot l a m b pre U V post) (fun | (_, U, V, _) => U.length + V.length)
    (l.take a, seg l a m, seg l m b, l.drop b) hst (Wk.chk ?_) fun x hx => ?_
  · ((conv => whnf); repeat' (first | (with_reducible first | exact fun h => h | refine ExE.row (by with_unfolding_all rfl) ?_ | refine And.intro ?_ ?_) | ((with_reducible intro hq); first | exact bne1 hq (by with_reducible assumption) | exact bne1 (by with_reducible assumption) hq | ((simp only [*, BB, cond_true, cond_false, reduceCtorEq] at hq); done) | (revert hq; with_reducible intro _)) | (with_reducible first | exact True.intro | rfl | refine EntLe.row ?_ | exact LeN.ro rfl | exact LeN.rptr | assumption) | ((with_reducible first | refine WkX.chk ?_ | refine Wk.chk ?_ | refine LeL.chk ?_ | refine LeF.chk ?_ | refine Run.mk ?_); (conv => whnf)) | ((with_reducible show LeO _ _); first | refine LeO.ro ?_ | refine LeO.roCap ?_ | refine LeO.nil ?_ (fun _ => rfl)) | ((with_reducible show LeR _ _ _); first | refine LeR.own rfl rfl rfl ?_ | refine LeR.view rfl rfl rfl ?_ ?_ | refine LeR.ro ?_ | refine LeR.roCap ?_ | refine LeR.nil ?_ (fun _ => rfl)) | ((with_reducible first | show drawOK _ _ = true | show lateOK _ _ = true | show drawOK2 _ _ = true | show drawOK3 _ _ = true); kernel_rfl)))
    all_goals first
      | rfl
      | (rw [hcu]; done)
      | (rw [seg_len (by omega)]; omega)
      | trace_state
  obtain ⟨pre, U, V, post⟩ := x
  have hx : Rot l a m b pre U V post := hx
  have r1 := hx.at_m
  have r2 := hx.u
  have r3 := hx.v
  have r4 := hx.len
  have hcl : (pre ++ (U ++ (V ++ post))).length = l.length := by simp; omega
  have e1 : ((m : Int) - (U.length : Int)).toNat = m - U.length := by omega
  have e2 : ((m : Int) + (V.length : Int) - (U.length : Int)).toNat = m + V.length - U.length := by omega
  rcases Nat.lt_trichotomy U.length V.length with hc | hc | hc
  · obtain ⟨g1, g2⟩ := hx.less hc
    have k1 : ((U.length : Int) != (V.length : Int)) = true := by rw [bne_iff_ne]; omega
    have k2 : decide ((V.length : Int) < (U.length : Int)) = false := decide_eq_false (by omega)
    repeat' (first | (with_reducible first | refine ⟨(_, _, _), _, _, ⟨(by with_unfolding_all exact rfl), (.cons (.v _) (.cons (.v _) (.cons (.v _) (.cons (.junk _) .nil)))), ?_, fun _ => (by with_unfolding_all exact rfl)⟩, ?_⟩ | refine ex_of (α := List Spn × List Spn × List Spn × List Spn) (pre, V.drop (V.length - U.length), V.take (V.length - U.length), U ++ post) ⟨g1, ?_⟩ ?_ | exact fun h => h | refine ExE.row (by with_unfolding_all rfl) ?_ | refine And.intro ?_ ?_) | ((with_reducible intro hq); first | exact bne1 hq (by with_reducible assumption) | exact bne1 (by with_reducible assumption) hq | ((simp only [*, BB, cond_true, cond_false, reduceCtorEq] at hq); done) | (revert hq; with_reducible intro _)) | (with_reducible first | exact True.intro | rfl | refine EntLe.row ?_ | exact LeN.ro rfl | exact LeN.rptr | assumption) | ((with_reducible first | refine WkX.chk ?_ | refine Wk.chk ?_ | refine LeL.chk ?_ | refine LeF.chk ?_ | refine Run.mk ?_); (conv => whnf)) | ((with_reducible show LeO _ _); first | refine LeO.ro ?_ | refine LeO.roCap ?_ | refine LeO.nil ?_ (fun _ => rfl)) | ((with_reducible show LeR _ _ _); first | refine LeR.own rfl rfl rfl ?_ | refine LeR.view rfl rfl rfl ?_ ?_ | refine LeR.ro ?_ | refine LeR.roCap ?_ | refine LeR.nil ?_ (fun _ => rfl)) | ((with_reducible first | show drawOK _ _ = true | show lateOK _ _ = true | show drawOK2 _ _ = true | show drawOK3 _ _ = true); kernel_rfl))
    all_goals (try dsimp only)
    all_goals (try simp only [ncast])
    all_goals first
      | omega
      | (apply Fits.i64 <;> omega)
      | rfl
      | (rw [hcl]; omega)
      | (simp only [List.length_drop, List.length_take]; omega)
      | (rw [e1, e2, Int.toNat_natCast]; exact g2)
      | (rw [e1, Int.toNat_natCast, Int.toNat_natCast]; exact g2)
      | (rw [e1, Int.toNat_natCast, Int.toNat_natCast, ← List.append_assoc]; exact g2)
      | (refine ⟨_, _, rfl, ?_⟩; rw [e1, Int.toNat_natCast, Int.toNat_natCast]; exact g2)
      | trace_state
  · have k1 : ((U.length : Int) != (V.length : Int)) = false := by rw [hc]; simp
    have g2 := hx.done hc
    repeat' (first | (with_reducible first | refine ⟨(_, _, _), _, _, ⟨(by with_unfolding_all exact rfl), (.cons (.v _) (.cons (.v _) (.cons (.v _) (.cons (.junk _) .nil)))), ?_, fun _ => (by with_unfolding_all exact rfl)⟩, ?_⟩ | exact fun h => h | refine ExE.row (by with_unfolding_all rfl) ?_ | refine And.intro ?_ ?_) | ((with_reducible intro hq); first | exact bne1 hq (by with_reducible assumption) | exact bne1 (by with_reducible assumption) hq | ((simp only [*, BB, cond_true, cond_false, reduceCtorEq] at hq); done) | (revert hq; with_reducible intro _)) | (with_reducible first | exact True.intro | rfl | refine EntLe.row ?_ | exact LeN.ro rfl | exact LeN.rptr | assumption) | ((with_reducible first | refine WkX.chk ?_ | refine Wk.chk ?_ | refine LeL.chk ?_ | refine LeF.chk ?_ | refine Run.mk ?_); (conv => whnf)) | ((with_reducible show LeO _ _); first | refine LeO.ro ?_ | refine LeO.roCap ?_ | refine LeO.nil ?_ (fun _ => rfl)) | ((with_reducible show LeR _ _ _); first | refine LeR.own rfl rfl rfl ?_ | refine LeR.view rfl rfl rfl ?_ ?_ | refine LeR.ro ?_ | refine LeR.roCap ?_ | refine LeR.nil ?_ (fun _ => rfl)) | ((with_reducible first | show drawOK _ _ = true | show lateOK _ _ = true | show drawOK2 _ _ = true | show drawOK3 _ _ = true); kernel_rfl))
    all_goals (try dsimp only)
    all_goals (try simp only [ncast])
    all_goals first
      | omega
      | (apply Fits.i64 <;> omega)
      | rfl
      | (rw [hcl]; omega)
      | (simp only [List.length_drop, List.length_take]; omega)
      | (rw [e1, e2, Int.toNat_natCast]; exact g2)
      | (rw [e1, Int.toNat_natCast, Int.toNat_natCast]; exact g2)
      | (rw [e1, Int.toNat_natCast, Int.toNat_natCast, ← List.append_assoc]; exact g2)
      | (refine ⟨_, _, rfl, ?_⟩; rw [e1, Int.toNat_natCast, Int.toNat_natCast]; exact g2)
      | trace_state
  · obtain ⟨g1, g2⟩ := hx.more hc
    have k1 : ((U.length : Int) != (V.length : Int)) = true := by rw [bne_iff_ne]; omega
    have k2 : decide ((V.length : Int) < (U.length : Int)) = true := decide_eq_true (by omega)
    repeat' (first | (with_reducible first | refine ⟨(_, _, _), _, _, ⟨(by with_unfolding_all exact rfl), (.cons (.v _) (.cons (.v _) (.cons (.v _) (.cons (.junk _) .nil)))), ?_, fun _ => (by with_unfolding_all exact rfl)⟩, ?_⟩ | refine ex_of (α := List Spn × List Spn × List Spn × List Spn) (pre ++ V, U.drop V.length, U.take V.length, post) ⟨g1, ?_⟩ ?_ | exact fun h => h | refine ExE.row (by with_unfolding_all rfl) ?_ | refine And.intro ?_ ?_) | ((with_reducible intro hq); first | exact bne1 hq (by with_reducible assumption) | exact bne1 (by with_reducible assumption) hq | ((simp only [*, BB, cond_true, cond_false, reduceCtorEq] at hq); done) | (revert hq; with_reducible intro _)) | (with_reducible first | exact True.intro | rfl | refine EntLe.row ?_ | exact LeN.ro rfl | exact LeN.rptr | assumption) | ((with_reducible first | refine WkX.chk ?_ | refine Wk.chk ?_ | refine LeL.chk ?_ | refine LeF.chk ?_ | refine Run.mk ?_); (conv => whnf)) | ((with_reducible show LeO _ _); first | refine LeO.ro ?_ | refine LeO.roCap ?_ | refine LeO.nil ?_ (fun _ => rfl)) | ((with_reducible show LeR _ _ _); first | refine LeR.own rfl rfl rfl ?_ | refine LeR.view rfl rfl rfl ?_ ?_ | refine LeR.ro ?_ | refine LeR.roCap ?_ | refine LeR.nil ?_ (fun _ => rfl)) | ((with_reducible first | show drawOK _ _ = true | show lateOK _ _ = true | show drawOK2 _ _ = true | show drawOK3 _ _ = true); kernel_rfl))
    all_goals (try dsimp only)
    all_goals (try simp only [ncast])
    all_goals first
      | omega
      | (apply Fits.i64 <;> omega)
      | rfl
      | (rw [hcl]; omega)
      | (simp only [List.length_drop, List.length_take]; omega)
      | (rw [e1, e2, Int.toNat_natCast]; exact g2)
      | (rw [e1, Int.toNat_natCast, Int.toNat_natCast]; exact g2)
      | (rw [e1, Int.toNat_natCast, Int.toNat_natCast, ← List.append_assoc]; exact g2)
      | (refine ⟨_, _, rfl, ?_⟩; rw [e1, Int.toNat_natCast, Int.toNat_natCast]; exact g2)
      | trace_state
end Go.SX.Try
/- Contract of the library's sort by insertion, of spans. -/
namespace Go.SX.Try
open Go.Proofs Go.Proofs.Try Go.SX.Plain
set_option maxRecDepth 100000
set_option maxHeartbeats 0
set_option linter.unusedSimpArgs false
theorem q_insertS : fact 79 f79 := ⟨by kernel_rfl, rfl, by kernel_rfl⟩
theorem conW_insertion : ConW prog 79 C_spn 50 (fun ((a, b) : Int × Int) => [.v (.int .i64 a), .v (.int .i64 b), .fn 69 []]) (fun (a, b) l => insS ltO l a.toNat b.toNat)
    (fun (a, b) l => (0 ≤ a ∧ a ≤ b ∧ b ≤ l.length) ∧ l.length ≤ 1100000) := by
  refine ConW.of (by kernel_rfl) T_ok CdsOK.nil (.con con_outer1 .nil) 3 [] q_insertS.1 q_insertS.2.1 q_insertS.2.2 (fun _ => rfl) (fun _ => .cons (.v _) (.cons (.v _) (.cons (.fn _) .nil))) fun i l hi => ?_
  obtain ⟨a, b⟩ := i
  obtain ⟨⟨h1, h2, h3⟩, h5⟩ := hi
  obtain ⟨a, rfl⟩ := Int.eq_ofNat_of_zero_le h1
  obtain ⟨b, rfl⟩ := Int.eq_ofNat_of_zero_le (show 0 ≤ b by omega)
  simp only [Int.toNat_natCast]
  by_cases hab : a = b
  · subst hab
    have hlt : decide ((a : Int) + 1 < (a : Int)) = false := decide_eq_false (by omega)
    repeat' (first | (with_reducible first | exact fun h => h | refine ExE.row (by with_unfolding_all rfl) ?_ | refine And.intro ?_ ?_) | ((with_reducible intro hq); first | exact bne1 hq (by with_reducible assumption) | exact bne1 (by with_reducible assumption) hq | ((simp only [*, BB, cond_true, cond_false, reduceCtorEq] at hq); done) | (revert hq; with_reducible intro _)) | (with_reducible first | exact True.intro | rfl | refine EntLe.row ?_ | exact LeN.ro rfl | exact LeN.rptr | assumption) | ((with_reducible first | refine WkX.chk ?_ | refine Wk.chk ?_ | refine LeL.chk ?_ | refine LeF.chk ?_ | refine Run.mk ?_); (conv => whnf)) | ((with_reducible show LeO _ _); first | refine LeO.ro ?_ | refine LeO.roCap ?_ | refine LeO.nil ?_ (fun _ => rfl)) | ((with_reducible show LeR _ _ _); first | refine LeR.own rfl rfl rfl ?_ | refine LeR.view rfl rfl rfl ?_ ?_ | refine LeR.ro ?_ | refine LeR.roCap ?_ | refine LeR.nil ?_ (fun _ => rfl)) | ((with_reducible first | show drawOK _ _ = true | show lateOK _ _ = true | show drawOK2 _ _ = true | show drawOK3 _ _ = true); kernel_rfl))
    any_goals (apply Fits.i64 <;> omega)
    refine loopI Unit [] (fun _ => [(8, .v (.int .i64 ((a : Int) + 1)))]) (fun _ => []) (fun _ => True) (fun _ => 0) () trivial (Wk.chk ?_) fun _ _ => ?_
    · ((conv => whnf); repeat' (first | (with_reducible first | exact fun h => h | refine ExE.row (by with_unfolding_all rfl) ?_ | refine And.intro ?_ ?_) | ((with_reducible intro hq); first | exact bne1 hq (by with_reducible assumption) | exact bne1 (by with_reducible assumption) hq | ((simp only [*, BB, cond_true, cond_false, reduceCtorEq] at hq); done) | (revert hq; with_reducible intro _)) | (with_reducible first | exact True.intro | rfl | refine EntLe.row ?_ | exact LeN.ro rfl | exact LeN.rptr | assumption) | ((with_reducible first | refine WkX.chk ?_ | refine Wk.chk ?_ | refine LeL.chk ?_ | refine LeF.chk ?_ | refine Run.mk ?_); (conv => whnf)) | ((with_reducible show LeO _ _); first | refine LeO.ro ?_ | refine LeO.roCap ?_ | refine LeO.nil ?_ (fun _ => rfl)) | ((with_reducible show LeR _ _ _); first | refine LeR.own rfl rfl rfl ?_ | refine LeR.view rfl rfl rfl ?_ ?_ | refine LeR.ro ?_ | refine LeR.roCap ?_ | refine LeR.nil ?_ (fun _ => rfl)) | ((with_reducible first | show drawOK _ _ = true | show lateOK _ _ = true | show drawOK2 _ _ = true | show drawOK3 _ _ = true); kernel_rfl)))
      all_goals rfl
    repeat' (first | (with_reducible first | exact fun h => h | refine ExE.row (by with_unfolding_all rfl) ?_ | refine And.intro ?_ ?_) | ((with_reducible intro hq); first | exact bne1 hq (by with_reducible assumption) | exact bne1 (by with_reducible assumption) hq | ((simp only [*, BB, cond_true, cond_false, reduceCtorEq] at hq); done) | (revert hq; with_reducible intro _)) | (with_reducible first | exact True.intro | rfl | refine EntLe.row ?_ | exact LeN.ro rfl | exact LeN.rptr | assumption) | ((with_reducible first | refine WkX.chk ?_ | refine Wk.chk ?_ | refine LeL.chk ?_ | refine LeF.chk ?_ | refine Run.mk ?_); (conv => whnf)) | ((with_reducible show LeO _ _); first | refine LeO.ro ?_ | refine LeO.roCap ?_ | refine LeO.nil ?_ (fun _ => rfl)) | ((with_reducible show LeR _ _ _); first | refine LeR.own rfl rfl rfl ?_ | refine LeR.view rfl rfl rfl ?_ ?_ | refine LeR.ro ?_ | refine LeR.roCap ?_ | refine LeR.nil ?_ (fun _ => rfl)) | ((with_reducible first | show drawOK _ _ = true | show lateOK _ _ = true | show drawOK2 _ _ = true | show drawOK3 _ _ = true); kernel_rfl))
    all_goals first
      | rfl
      | (refine ⟨_, _, rfl, ?_⟩; rw [insS_self]; done)
      | trace_state
  repeat' (first | (with_reducible first | exact fun h => h | refine ExE.row (by with_unfolding_all rfl) ?_ | refine And.intro ?_ ?_) | ((with_reducible intro hq); first | exact bne1 hq (by with_reducible assumption) | exact bne1 (by with_reducible assumption) hq | ((simp only [*, BB, cond_true, cond_false, reduceCtorEq] at hq); done) | (revert hq; with_reducible intro _)) | (with_reducible first | exact True.intro | rfl | refine EntLe.row ?_ | exact LeN.ro rfl | exact LeN.rptr | assumption) | ((with_reducible first | refine WkX.chk ?_ | refine Wk.chk ?_ | refine LeL.chk ?_ | refine LeF.chk ?_ | refine Run.mk ?_); (conv => whnf)) | ((with_reducible show LeO _ _); first | refine LeO.ro ?_ | refine LeO.roCap ?_ | refine LeO.nil ?_ (fun _ => rfl)) | ((with_reducible show LeR _ _ _); first | refine LeR.own rfl rfl rfl ?_ | refine LeR.view rfl rfl rfl ?_ ?_ | refine LeR.ro ?_ | refine LeR.roCap ?_ | refine LeR.nil ?_ (fun _ => rfl)) | ((with_reducible first | show drawOK _ _ = true | show lateOK _ _ = true | show drawOK2 _ _ = true | show drawOK3 _ _ = true); kernel_rfl))
  any_goals (apply Fits.i64 <;> omega)
  refine loopI Nat [] (fun i => [(8, .v (.int .i64 (i : Nat)))]) (fun i => [(0, .row C_spn (insS ltO l a i) 50 none)]) (fun i => a + 1 ≤ i ∧ i ≤ b) (fun i => b - i) (a + 1) ⟨Nat.le_refl _, by omega⟩ (Wk.chk ?_) fun i hi => ?_
  · ((conv => whnf); repeat' (first | (with_reducible first | exact fun h => h | refine ExE.row (by with_unfolding_all rfl) ?_ | refine And.intro ?_ ?_) | ((with_reducible intro hq); first | exact bne1 hq (by with_reducible assumption) | exact bne1 (by with_reducible assumption) hq | ((simp only [*, BB, cond_true, cond_false, reduceCtorEq] at hq); done) | (revert hq; with_reducible intro _)) | (with_reducible first | exact True.intro | rfl | refine EntLe.row ?_ | exact LeN.ro rfl | exact LeN.rptr | assumption) | ((with_reducible first | refine WkX.chk ?_ | refine Wk.chk ?_ | refine LeL.chk ?_ | refine LeF.chk ?_ | refine Run.mk ?_); (conv => whnf)) | ((with_reducible show LeO _ _); first | refine LeO.ro ?_ | refine LeO.roCap ?_ | refine LeO.nil ?_ (fun _ => rfl)) | ((with_reducible show LeR _ _ _); first | refine LeR.own rfl rfl rfl ?_ | refine LeR.view rfl rfl rfl ?_ ?_ | refine LeR.ro ?_ | refine LeR.roCap ?_ | refine LeR.nil ?_ (fun _ => rfl)) | ((with_reducible first | show drawOK _ _ = true | show lateOK _ _ = true | show drawOK2 _ _ = true | show drawOK3 _ _ = true); kernel_rfl)))
    all_goals first
      | rfl
      | (rw [insS_one]; done)
      | trace_state
  obtain ⟨hi1, hi2⟩ := hi
  have hlen := insS_len (lt := ltO) l (a := a) (b := i) (by omega) (by omega)
  by_cases hib : i < b
  · have hlt : decide ((i : Int) < (b : Int)) = true := decide_eq_true (by omega)
    obtain ⟨g1, g2⟩ := Ins.start (lt := ltO) (d := zS) l (a := a) (i := i) (by omega) (by omega)
    repeat' (first | (with_reducible first | exact fun h => h | refine ExE.row (by with_unfolding_all rfl) ?_ | refine And.intro ?_ ?_) | ((with_reducible intro hq); first | exact bne1 hq (by with_reducible assumption) | exact bne1 (by with_reducible assumption) hq | ((simp only [*, BB, cond_true, cond_false, reduceCtorEq] at hq); done) | (revert hq; with_reducible intro _)) | (with_reducible first | exact True.intro | rfl | refine EntLe.row ?_ | exact LeN.ro rfl | exact LeN.rptr | assumption) | ((with_reducible first | refine WkX.chk ?_ | refine Wk.chk ?_ | refine LeL.chk ?_ | refine LeF.chk ?_ | refine Run.mk ?_); (conv => whnf)) | ((with_reducible show LeO _ _); first | refine LeO.ro ?_ | refine LeO.roCap ?_ | refine LeO.nil ?_ (fun _ => rfl)) | ((with_reducible show LeR _ _ _); first | refine LeR.own rfl rfl rfl ?_ | refine LeR.view rfl rfl rfl ?_ ?_ | refine LeR.ro ?_ | refine LeR.roCap ?_ | refine LeR.nil ?_ (fun _ => rfl)) | ((with_reducible first | show drawOK _ _ = true | show lateOK _ _ = true | show drawOK2 _ _ = true | show drawOK3 _ _ = true); kernel_rfl))
    refine loopI (List Spn × List Spn) [] (fun | (P, _) => [(9, .v (.int .i64 ((a + P.length : Nat) : Int)))]) (fun | (P, Q) => [(0, .row C_spn (insC zS l a i P Q) 50 none)]) (fun | (P, Q) => Ins ltO zS l a i P Q) (fun | (P, _) => P.length) (isort ltO (seg l a i), []) g1 (Wk.chk ?_) fun x hx => ?_
    · ((conv => whnf); repeat' (first | (with_reducible first | exact fun h => h | refine ExE.row (by with_unfolding_all rfl) ?_ | refine And.intro ?_ ?_) | ((with_reducible intro hq); first | exact bne1 hq (by with_reducible assumption) | exact bne1 (by with_reducible assumption) hq | ((simp only [*, BB, cond_true, cond_false, reduceCtorEq] at hq); done) | (revert hq; with_reducible intro _)) | (with_reducible first | exact True.intro | rfl | refine EntLe.row ?_ | exact LeN.ro rfl | exact LeN.rptr | assumption) | ((with_reducible first | refine WkX.chk ?_ | refine Wk.chk ?_ | refine LeL.chk ?_ | refine LeF.chk ?_ | refine Run.mk ?_); (conv => whnf)) | ((with_reducible show LeO _ _); first | refine LeO.ro ?_ | refine LeO.roCap ?_ | refine LeO.nil ?_ (fun _ => rfl)) | ((with_reducible show LeR _ _ _); first | refine LeR.own rfl rfl rfl ?_ | refine LeR.view rfl rfl rfl ?_ ?_ | refine LeR.ro ?_ | refine LeR.roCap ?_ | refine LeR.nil ?_ (fun _ => rfl)) | ((with_reducible first | show drawOK _ _ = true | show lateOK _ _ = true | show drawOK2 _ _ = true | show drawOK3 _ _ = true); kernel_rfl)))
      all_goals first
        | rfl
        | (rw [isort_len, seg_len (by omega), show a + (i - a) = i by omega]; done)
        | (rw [g2]; done)
        | trace_state
    obtain ⟨P, Q⟩ := x
    have hx : Ins ltO zS l a i P Q := hx
    obtain ⟨n1, n2⟩ := hx.len (by omega) (by omega)
    have hd : C_spn.d = zS := rfl
    rcases List.eq_nil_or_concat P with rfl | ⟨P, z, rfl⟩
    · have hgt : decide ((a : Int) < ((a + ([] : List Spn).length : Nat) : Int)) = false := decide_eq_false (by simp)
      have hst := hx.stop (by omega) (by omega) (.inl rfl)
      repeat' (first | (with_reducible first | refine ⟨(_, _), ⟨(.cons (.agg (.cons (.v _) (.cons (.v _) (.cons (.v _) (.cons (.v _) .nil))))) (.cons (.agg (.cons (.v _) (.cons (.v _) (.cons (.v _) (.cons (.v _) .nil))))) .nil)), ?_⟩, ?_⟩ | refine ex_of (α := Nat) (i + 1) ⟨?_, ?_⟩ ?_ | exact fun h => h | refine ExE.row (by with_unfolding_all rfl) ?_ | refine And.intro ?_ ?_) | ((with_reducible intro hq); first | exact bne1 hq (by with_reducible assumption) | exact bne1 (by with_reducible assumption) hq | ((simp only [*, BB, cond_true, cond_false, reduceCtorEq] at hq); done) | (revert hq; with_reducible intro _)) | (with_reducible first | exact True.intro | rfl | refine EntLe.row ?_ | exact LeN.ro rfl | exact LeN.rptr | assumption) | ((with_reducible first | refine WkX.chk ?_ | refine Wk.chk ?_ | refine LeL.chk ?_ | refine LeF.chk ?_ | refine Run.mk ?_); (conv => whnf)) | ((with_reducible show LeO _ _); first | refine LeO.ro ?_ | refine LeO.roCap ?_ | refine LeO.nil ?_ (fun _ => rfl)) | ((with_reducible show LeR _ _ _); first | refine LeR.own rfl rfl rfl ?_ | refine LeR.view rfl rfl rfl ?_ ?_ | refine LeR.ro ?_ | refine LeR.roCap ?_ | refine LeR.nil ?_ (fun _ => rfl)) | ((with_reducible first | show drawOK _ _ = true | show lateOK _ _ = true | show drawOK2 _ _ = true | show drawOK3 _ _ = true); kernel_rfl))
      all_goals first
        | omega
        | (apply Fits.i64 <;> omega)
        | (show b - (i + 1) < b - i; omega)
        | (rw [hst]; done)
        | trace_state
    rw [List.concat_eq_append] at hx n1 n2 ⊢
    have hpl : ((P ++ [z]).length : Nat) = P.length + 1 := by simp
    have hgt : decide ((a : Int) < ((a + (P ++ [z]).length : Nat) : Int)) = true := decide_eq_true (by omega)
    have e1 : (((a + (P ++ [z]).length : Nat) : Int)).toNat = a + P.length + 1 := by omega
    have e2 : (((a + (P ++ [z]).length : Nat) : Int) - 1).toNat = a + P.length := by omega
    have ga := hx.at (by omega) (by omega)
    rw [hpl, ← Nat.add_assoc] at ga
    have gz := Ins.at1 (d := zS) (l := l) (a := a) (i := i) (P := P) (z := z) (Q := Q) (by omega) (by omega)
    have hsw := insC_swap (d := zS) (l := l) (a := a) (i := i) (P := P) (z := z) (Q := Q) (by omega) (by omega) (j := a + P.length + 1) rfl
    rw [show a + P.length + 1 - 1 = a + P.length by omega] at hsw
    have kc : (decide ((a : Int) < ((a + (P ++ [z]).length : Nat) : Int)) && decide (cmpO ((insC zS l a i (P ++ [z]) Q).getD (((a + (P ++ [z]).length : Nat) : Int)).toNat C_spn.d) ((insC zS l a i (P ++ [z]) Q).getD ((((a + (P ++ [z]).length : Nat) : Int) - 1)).toNat C_spn.d) < 0)) = ltO (l.getD i zS) z := by
      rw [hgt, e1, e2, hd, ga, gz]
      rfl
    cases hc : ltO (l.getD i zS) z with
    | true =>
      have hst := hx.step hc
      rw [hc] at kc
      repeat' (first | (with_reducible first | refine ⟨(_, _), ⟨(.cons (.agg (.cons (.v _) (.cons (.v _) (.cons (.v _) (.cons (.v _) .nil))))) (.cons (.agg (.cons (.v _) (.cons (.v _) (.cons (.v _) (.cons (.v _) .nil))))) .nil)), ?_⟩, ?_⟩ | refine ex_of (α := List Spn × List Spn) (P, z :: Q) ⟨hst, ?_⟩ ?_ | exact fun h => h | refine ExE.row (by with_unfolding_all rfl) ?_ | refine And.intro ?_ ?_) | ((with_reducible intro hq); first | exact bne1 hq (by with_reducible assumption) | exact bne1 (by with_reducible assumption) hq | ((simp only [*, BB, cond_true, cond_false, reduceCtorEq] at hq); done) | (revert hq; with_reducible intro _)) | (with_reducible first | exact True.intro | rfl | refine EntLe.row ?_ | exact LeN.ro rfl | exact LeN.rptr | assumption) | ((with_reducible first | refine WkX.chk ?_ | refine Wk.chk ?_ | refine LeL.chk ?_ | refine LeF.chk ?_ | refine Run.mk ?_); (conv => whnf)) | ((with_reducible show LeO _ _); first | refine LeO.ro ?_ | refine LeO.roCap ?_ | refine LeO.nil ?_ (fun _ => rfl)) | ((with_reducible show LeR _ _ _); first | refine LeR.own rfl rfl rfl ?_ | refine LeR.view rfl rfl rfl ?_ ?_ | refine LeR.ro ?_ | refine LeR.roCap ?_ | refine LeR.nil ?_ (fun _ => rfl)) | ((with_reducible first | show drawOK _ _ = true | show lateOK _ _ = true | show drawOK2 _ _ = true | show drawOK3 _ _ = true); kernel_rfl))
      all_goals (try simp only [e1, e2, hd, n2, List.length_set])
      all_goals first
        | omega
        | rfl
        | (apply Fits.i64 <;> omega)
        | (show P.length < (P ++ [z]).length; omega)
        | exact hsw
        | trace_state
    | false =>
      have hst := hx.stop (by omega) (by omega) (.inr ⟨P, z, rfl, hc⟩)
      rw [hc] at kc
      repeat' (first | (with_reducible first | refine ⟨(_, _), ⟨(.cons (.agg (.cons (.v _) (.cons (.v _) (.cons (.v _) (.cons (.v _) .nil))))) (.cons (.agg (.cons (.v _) (.cons (.v _) (.cons (.v _) (.cons (.v _) .nil))))) .nil)), ?_⟩, ?_⟩ | refine ex_of (α := Nat) (i + 1) ⟨?_, ?_⟩ ?_ | exact fun h => h | refine ExE.row (by with_unfolding_all rfl) ?_ | refine And.intro ?_ ?_) | ((with_reducible intro hq); first | exact bne1 hq (by with_reducible assumption) | exact bne1 (by with_reducible assumption) hq | ((simp only [*, BB, cond_true, cond_false, reduceCtorEq] at hq); done) | (revert hq; with_reducible intro _)) | (with_reducible first | exact True.intro | rfl | refine EntLe.row ?_ | exact LeN.ro rfl | exact LeN.rptr | assumption) | ((with_reducible first | refine WkX.chk ?_ | refine Wk.chk ?_ | refine LeL.chk ?_ | refine LeF.chk ?_ | refine Run.mk ?_); (conv => whnf)) | ((with_reducible show LeO _ _); first | refine LeO.ro ?_ | refine LeO.roCap ?_ | refine LeO.nil ?_ (fun _ => rfl)) | ((with_reducible show LeR _ _ _); first | refine LeR.own rfl rfl rfl ?_ | refine LeR.view rfl rfl rfl ?_ ?_ | refine LeR.ro ?_ | refine LeR.roCap ?_ | refine LeR.nil ?_ (fun _ => rfl)) | ((with_reducible first | show drawOK _ _ = true | show lateOK _ _ = true | show drawOK2 _ _ = true | show drawOK3 _ _ = true); kernel_rfl))
      all_goals (try simp only [e1, e2, hd, n2, List.length_set])
      all_goals first
        | omega
        | rfl
        | (apply Fits.i64 <;> omega)
        | (show b - (i + 1) < b - i; omega)
        | (rw [hst]; done)
        | trace_state
  obtain rfl : i = b := by omega
  have hlt : decide ((i : Int) < (i : Int)) = false := decide_eq_false (by omega)
  repeat' (first | (with_reducible first | exact fun h => h | refine ExE.row (by with_unfolding_all rfl) ?_ | refine And.intro ?_ ?_) | ((with_reducible intro hq); first | exact bne1 hq (by with_reducible assumption) | exact bne1 (by with_reducible assumption) hq | ((simp only [*, BB, cond_true, cond_false, reduceCtorEq] at hq); done) | (revert hq; with_reducible intro _)) | (with_reducible first | exact True.intro | rfl | refine EntLe.row ?_ | exact LeN.ro rfl | exact LeN.rptr | assumption) | ((with_reducible first | refine WkX.chk ?_ | refine Wk.chk ?_ | refine LeL.chk ?_ | refine LeF.chk ?_ | refine Run.mk ?_); (conv => whnf)) | ((with_reducible show LeO _ _); first | refine LeO.ro ?_ | refine LeO.roCap ?_ | refine LeO.nil ?_ (fun _ => rfl)) | ((with_reducible show LeR _ _ _); first | refine LeR.own rfl rfl rfl ?_ | refine LeR.view rfl rfl rfl ?_ ?_ | refine LeR.ro ?_ | refine LeR.roCap ?_ | refine LeR.nil ?_ (fun _ => rfl)) | ((with_reducible first | show drawOK _ _ = true | show lateOK _ _ = true | show drawOK2 _ _ = true | show drawOK3 _ _ = true); kernel_rfl))
  all_goals first
    | rfl
    | exact ⟨_, _, rfl, rfl⟩
    | trace_state
end Go.SX.Try
/- The searches and moves of the merge in place, told plainly. No program here. -/
namespace Go.SX.Plain
section
variable {α : Type} {d : α} {lt : α → α → Bool}
structure Bs1 (lt : α → α → Bool) (d : α) (l : List α) (a m b i j : Nat) : Prop where
  mi : m ≤ i
  ij : i ≤ j
  jb : j ≤ b
  lo : ∀ h, m ≤ h → h < i → lt (l.getD h d) (l.getD a d) = true
  hi : ∀ h, j ≤ h → h < b → lt (l.getD h d) (l.getD a d) = false
theorem Bs1.start (l : List α) {a m b : Nat} (h : m ≤ b) : Bs1 lt d l a m b m b := ⟨Nat.le_refl _, h, Nat.le_refl _, fun h h1 h2 => by omega, fun h h1 h2 => by omega⟩
theorem Bs1.up (O : Ord lt) {l : List α} {a m b i j h : Nat} (H : Bs1 lt d l a m b i j) (hb : b ≤ l.length) (hs : Srt lt (seg l m b)) (hh : h = (i + j) / 2) (hij : i < j) (hc : lt (l.getD h d) (l.getD a d) = true) : Bs1 lt d l a m b (h + 1) j := by
  obtain ⟨mi, ij, jb, lo, hi⟩ := H
  refine ⟨by omega, by omega, jb, fun k h1 h2 => ?_, hi⟩
  exact O.le_lt (srt_at O hs hb (i := k) (j := h) h1 (by omega) (by omega)) hc
theorem Bs1.down (O : Ord lt) {l : List α} {a m b i j h : Nat} (H : Bs1 lt d l a m b i j) (hb : b ≤ l.length) (hs : Srt lt (seg l m b)) (hh : h = (i + j) / 2) (hij : i < j) (hc : lt (l.getD h d) (l.getD a d) = false) : Bs1 lt d l a m b i h := by
  obtain ⟨mi, ij, jb, lo, hi⟩ := H
  refine ⟨mi, by omega, by omega, lo, fun k h1 h2 => ?_⟩
  exact O.le_trans hc (srt_at O hs hb (i := h) (j := k) (by omega) h1 h2)
def mov1 (d : α) (l : List α) (a k : Nat) : List α := l.take a ++ (seg l (a + 1) (k + 1) ++ l.getD a d :: l.drop (k + 1))
theorem mov1_start {l : List α} {a : Nat} (h : a < l.length) : mov1 d l a a = l := by
  unfold mov1
  have e : seg l (a + 1) (a + 1) = [] := by simp [seg]
  rw [e, List.nil_append]
  have := List.drop_eq_getElem_cons h
  rw [show l.getD a d = l[a] by simp [List.getD_eq_getElem?_getD, h], ← this, List.take_append_drop]
theorem mov1_len {l : List α} {a k : Nat} (h1 : a ≤ k) (h2 : k < l.length) : (mov1 d l a k).length = l.length := by
  unfold mov1
  simp only [List.length_append, List.length_take, List.length_drop, List.length_cons, seg_len (show k + 1 ≤ l.length by omega)]
  omega
theorem mov1_step {l : List α} {a k : Nat} (h1 : a ≤ k) (h2 : k + 1 < l.length) :
    ((mov1 d l a k).set k ((mov1 d l a k).getD (k + 1) d)).set (k + 1) ((mov1 d l a k).getD k d) = mov1 d l a (k + 1) := by
  have e : mov1 d l a k = (l.take a ++ seg l (a + 1) (k + 1)) ++ l.getD a d :: l.getD (k + 1) d :: l.drop (k + 1 + 1) := by
    unfold mov1
    rw [List.drop_eq_getElem_cons h2, show l.getD (k + 1) d = l[k + 1] by simp [List.getD_eq_getElem?_getD, h2]]
    simp
  have hl : (l.take a ++ seg l (a + 1) (k + 1)).length = k := by
    rw [List.length_append, List.length_take, seg_len (by omega)]; omega
  have hs := swap_mid' (d := d) (l.take a ++ seg l (a + 1) (k + 1)) (l.getD a d) (l.getD (k + 1) d) (l.drop (k + 1 + 1)) (j := k + 1) (by omega)
  rw [← e, show k + 1 - 1 = k by omega] at hs
  rw [hs]
  unfold mov1
  rw [seg_snoc (d := d) l (show a + 1 ≤ k + 1 by omega) h2]
  simp
theorem Bs1.done {l : List α} {a m b i : Nat} (H : Bs1 lt d l a m b i i) (hm : m = a + 1) (hb : b ≤ l.length) (hs : Srt lt (seg l m b)) : mov1 d l a (i - 1) = symR lt l a m b := by
  obtain ⟨mi, ij, jb, lo, hi⟩ := H
  rw [sym_one hm mi jb hb hs lo hi]
  unfold mov1
  rw [show i - 1 + 1 = i by omega, ← hm, drop_seg l jb hb]
structure Bs2 (lt : α → α → Bool) (d : α) (l : List α) (a m i j : Nat) : Prop where
  ai : a ≤ i
  ij : i ≤ j
  jm : j ≤ m
  lo : ∀ h, a ≤ h → h < i → lt (l.getD m d) (l.getD h d) = false
  hi : ∀ h, j ≤ h → h < m → lt (l.getD m d) (l.getD h d) = true
theorem Bs2.start (l : List α) {a m : Nat} (h : a ≤ m) : Bs2 lt d l a m a m := ⟨Nat.le_refl _, h, Nat.le_refl _, fun h h1 h2 => by omega, fun h h1 h2 => by omega⟩
theorem Bs2.up (O : Ord lt) {l : List α} {a m i j h : Nat} (H : Bs2 lt d l a m i j) (hb : m ≤ l.length) (hs : Srt lt (seg l a m)) (hh : h = (i + j) / 2) (hij : i < j) (hc : lt (l.getD m d) (l.getD h d) = false) : Bs2 lt d l a m (h + 1) j := by
  obtain ⟨ai, ij, jm, lo, hi⟩ := H
  refine ⟨by omega, by omega, jm, fun k h1 h2 => ?_, hi⟩
  exact O.le_trans (srt_at O hs hb (i := k) (j := h) h1 (by omega) (by omega)) hc
theorem Bs2.down (O : Ord lt) {l : List α} {a m i j h : Nat} (H : Bs2 lt d l a m i j) (hb : m ≤ l.length) (hs : Srt lt (seg l a m)) (hh : h = (i + j) / 2) (hij : i < j) (hc : lt (l.getD m d) (l.getD h d) = true) : Bs2 lt d l a m i h := by
  obtain ⟨ai, ij, jm, lo, hi⟩ := H
  refine ⟨ai, by omega, by omega, lo, fun k h1 h2 => ?_⟩
  exact O.trans _ _ _ hc (srt_at O hs hb (i := h) (j := k) (by omega) h1 h2)
def mov2 (d : α) (l : List α) (m k : Nat) : List α := l.take k ++ l.getD m d :: (seg l k m ++ l.drop (m + 1))
theorem mov2_start {l : List α} {m : Nat} (h : m < l.length) : mov2 d l m m = l := by
  unfold mov2
  have e : seg l m m = [] := by simp [seg]
  rw [e, List.nil_append]
  have := List.drop_eq_getElem_cons h
  rw [show l.getD m d = l[m] by simp [List.getD_eq_getElem?_getD, h], ← this, List.take_append_drop]
theorem mov2_len {l : List α} {m k : Nat} (h1 : k ≤ m) (h2 : m < l.length) : (mov2 d l m k).length = l.length := by
  unfold mov2
  simp only [List.length_append, List.length_take, List.length_drop, List.length_cons, seg_len (show m ≤ l.length by omega)]
  omega
theorem mov2_step {l : List α} {m k : Nat} (h1 : k + 1 ≤ m) (h2 : m < l.length) :
    ((mov2 d l m (k + 1)).set (k + 1) ((mov2 d l m (k + 1)).getD k d)).set k ((mov2 d l m (k + 1)).getD (k + 1) d) = mov2 d l m k := by
  have e : mov2 d l m (k + 1) = l.take k ++ l.getD k d :: l.getD m d :: (seg l (k + 1) m ++ l.drop (m + 1)) := by
    unfold mov2
    rw [← seg_zero, ← seg_zero, seg_snoc (d := d) l (Nat.zero_le _) (by omega)]
    simp
  have hl : (l.take k).length = k := by rw [List.length_take]; omega
  have hs := swap_mid (d := d) (l.take k) (l.getD k d) (l.getD m d) (seg l (k + 1) m ++ l.drop (m + 1)) (j := k + 1) (by omega)
  rw [← e, show k + 1 - 1 = k by omega] at hs
  rw [hs]
  unfold mov2
  rw [seg_head (d := d) l (show k < m by omega) (by omega)]
  simp
theorem Bs2.done {l : List α} {a m b i : Nat} (H : Bs2 lt d l a m i i) (hm : b = m + 1) (hb : b ≤ l.length) : mov2 d l m i = symR lt l a m b := by
  obtain ⟨ai, ij, jm, lo, hi⟩ := H
  rw [sym_last hm ai jm hb lo hi]
  unfold mov2
  rw [hm, take_seg l ai]
  simp
structure Bs3 (lt : α → α → Bool) (d : α) (l : List α) (a m b mid s r : Nat) : Prop where
  as' : a ≤ s
  sr : s ≤ r
  rm : r ≤ m
  rn : r ≤ mid
  me : mid + m ≤ b + s
  lo : ∀ c, a ≤ c → c < s → mid + m - 1 - c < b → lt (l.getD (mid + m - 1 - c) d) (l.getD c d) = false
  hi : ∀ c, r ≤ c → c < m → m ≤ mid + m - 1 - c → c < mid → lt (l.getD (mid + m - 1 - c) d) (l.getD c d) = true
theorem Bs3.start1 (l : List α) {a m b mid : Nat} (hmid : mid = (a + b) / 2) (h : mid < m) (hmb : m < b) : Bs3 lt d l a m b mid (mid + m - b) mid :=
  ⟨by omega, by omega, by omega, by omega, by omega, fun c h1 h2 h3 => by omega, fun c h1 h2 h3 h4 => by omega⟩
theorem Bs3.start2 (l : List α) {a m b mid : Nat} (hmid : mid = (a + b) / 2) (h : m ≤ mid) (ham : a < m) : Bs3 lt d l a m b mid a m :=
  ⟨by omega, by omega, by omega, by omega, by omega, fun c h1 h2 h3 => by omega, fun c h1 h2 h3 h4 => by omega⟩
theorem Bs3.up (O : Ord lt) {l : List α} {a m b mid s r c : Nat} (H : Bs3 lt d l a m b mid s r) (hb : b ≤ l.length) (hmb : m < b) (hA : Srt lt (seg l a m)) (hB : Srt lt (seg l m b)) (hc : c = (s + r) / 2) (hsr : s < r) (hcc : lt (l.getD (mid + m - 1 - c) d) (l.getD c d) = false) :
    Bs3 lt d l a m b mid (c + 1) r := by
  obtain ⟨as', sr, rm, rn, me, lo, hi⟩ := H
  refine ⟨by omega, by omega, rm, rn, by omega, fun k h1 h2 h3 => ?_, hi⟩
  have q1 := srt_at (d := d) O hA (by omega) (i := k) (j := c) h1 (by omega) (by omega)
  have q2 := srt_at (d := d) O hB hb (i := mid + m - 1 - c) (j := mid + m - 1 - k) (by omega) (by omega) h3
  exact O.le_trans (O.le_trans q1 hcc) q2
theorem Bs3.down (O : Ord lt) {l : List α} {a m b mid s r c : Nat} (H : Bs3 lt d l a m b mid s r) (hb : b ≤ l.length) (hmb : m < b) (hA : Srt lt (seg l a m)) (hB : Srt lt (seg l m b)) (hc : c = (s + r) / 2) (hsr : s < r) (hcc : lt (l.getD (mid + m - 1 - c) d) (l.getD c d) = true) :
    Bs3 lt d l a m b mid s c := by
  obtain ⟨as', sr, rm, rn, me, lo, hi⟩ := H
  refine ⟨as', by omega, by omega, by omega, me, lo, fun k h1 h2 h3 h4 => ?_⟩
  have q1 := srt_at (d := d) O hA (by omega) (i := c) (j := k) (by omega) h1 h2
  have q2 := srt_at (d := d) O hB hb (i := mid + m - 1 - k) (j := mid + m - 1 - c) h3 (by omega) (by omega)
  exact O.trans _ _ _ (O.le_lt q2 hcc) q1
theorem Bs3.cut {l : List α} {a m b mid s : Nat} (H : Bs3 lt d l a m b mid s s) (hmid : mid = (a + b) / 2) (ham : a < m) (hmb : m < b) (hb : b ≤ l.length) : Cut lt d l a m b mid s := by
  obtain ⟨as', sr, rm, rn, me, lo, hi⟩ := H
  exact ⟨ham, hmb, hb, hmid, as', rm, rn, by omega, lo, hi⟩
theorem Cut.segs {l : List α} {a m b mid s e : Nat} (h : Cut lt d l a m b mid s) (he : e = mid + m - s) (hA : Srt lt (seg l a m)) (hB : Srt lt (seg l m b)) :
    (Srt lt (seg (rotR l s m e) a s) ∧ Srt lt (seg (rotR l s m e) s mid)) ∧ Srt lt (seg (symR lt (rotR l s m e) a s mid) mid e) ∧ Srt lt (seg (symR lt (rotR l s m e) a s mid) e b) := by
  obtain ⟨am, mb, len, hmid, as', sm, sn, me, lo, hi⟩ := h
  rw [← he] at me
  have hme : m ≤ e := by omega
  have r1 : rotR l s m e = l.take a ++ (seg l a s ++ (seg l m e ++ (seg l s m ++ (seg l e b ++ l.drop b)))) := by
    unfold rotR
    have q1 : l.take s = l.take a ++ seg l a s := by
      rw [← seg_zero, ← seg_zero, seg_app l (Nat.zero_le _) as']
    have q2 : l.drop e = seg l e b ++ l.drop b := by
      rw [← seg_end, ← seg_end, seg_app l me len]
    rw [q1, q2]
    simp
  have l1 := seg_len (l := l) (a := a) (b := s) (by omega)
  have l2 := seg_len (l := l) (a := m) (b := e) (by omega)
  have l3 := seg_len (l := l) (a := s) (b := m) (by omega)
  have l4 := seg_len (l := l) (a := e) (b := b) (by omega)
  have l5 : (l.take a).length = a := by rw [List.length_take]; omega
  rw [r1, symR_eq _ (seg l a s) (seg l m e) _ (by omega) (by omega) (by omega)]
  rw [seg_mid (l.take a) (seg l a s) _ (by omega) (by omega)]
  rw [show l.take a ++ (seg l a s ++ (seg l m e ++ (seg l s m ++ (seg l e b ++ l.drop b)))) = (l.take a ++ seg l a s) ++ (seg l m e ++ (seg l s m ++ (seg l e b ++ l.drop b))) by simp]
  rw [seg_mid (l.take a ++ seg l a s) (seg l m e) _ (by rw [List.length_append]; omega) (by rw [List.length_append]; omega)]
  rw [show l.take a ++ (mrg lt (seg l a s) (seg l m e) ++ (seg l s m ++ (seg l e b ++ l.drop b))) = (l.take a ++ mrg lt (seg l a s) (seg l m e)) ++ (seg l s m ++ (seg l e b ++ l.drop b)) by simp]
  rw [seg_mid (l.take a ++ mrg lt (seg l a s) (seg l m e)) (seg l s m) _ (by rw [List.length_append, mrg_len]; omega) (by rw [List.length_append, mrg_len]; omega)]
  rw [show (l.take a ++ mrg lt (seg l a s) (seg l m e)) ++ (seg l s m ++ (seg l e b ++ l.drop b)) = ((l.take a ++ mrg lt (seg l a s) (seg l m e)) ++ seg l s m) ++ (seg l e b ++ l.drop b) by simp]
  rw [seg_mid ((l.take a ++ mrg lt (seg l a s) (seg l m e)) ++ seg l s m) (seg l e b) _ (by simp only [List.length_append, mrg_len]; omega) (by simp only [List.length_append, mrg_len]; omega)]
  exact ⟨⟨srt_seg hA (Nat.le_refl _) as' sm, srt_seg hB (Nat.le_refl _) hme me⟩, srt_seg hA as' sm (Nat.le_refl _), srt_seg hB hme me (Nat.le_refl _)⟩
end
end Go.SX.Plain
/- Contract of the library's merge in place, of spans: one, and a sorted row. -/
namespace Go.SX.Try
open Go.Proofs Go.Proofs.Try Go.SX.Plain
set_option maxRecDepth 100000
set_option maxHeartbeats 0
set_option linter.unusedSimpArgs false
theorem Fits.u64 {x : Int} (h : 0 ≤ x) (h' : x ≤ 18446744073709551615) : Fits .u64 x := ⟨IntWalk.u64_in x ⟨h, h'⟩⟩
theorem q_symM : fact 80 f80 := ⟨by kernel_rfl, rfl, by kernel_rfl⟩
abbrev symA : Int × Int × Int → List AV := fun (a, m, b) => [.v (.int .i64 a), .v (.int .i64 m), .v (.int .i64 b), .fn 69 []]
abbrev symF : Int × Int × Int → List Spn → List Spn := fun (a, m, b) l => symR ltO l a.toNat m.toNat b.toNat
abbrev symP : Int × Int × Int → List Spn → Prop := fun (a, m, b) l => ((0 ≤ a ∧ a < m ∧ m < b ∧ b ≤ l.length) ∧ l.length ≤ 1100000) ∧ Srt ltO (seg l a.toNat m.toNat) ∧ Srt ltO (seg l m.toNat b.toNat)
theorem half_eq (i j : Nat) : (((i : Int) + (j : Int)) / 2 ^ (1 : Int).toNat) = (((i + j) / 2 : Nat) : Int) := by
  rw [show (2 : Int) ^ (1 : Int).toNat = 2 from rfl]
  omega
theorem conW_sym1 : ConW prog 80 C_spn 50 symA symF (fun i l => symP i l ∧ i.2.1 = i.1 + 1) := by
  refine ConW.of (by kernel_rfl) T_ok CdsOK.nil (.con con_outer1 .nil) 3 [5] q_symM.1 q_symM.2.1 q_symM.2.2 (fun _ => rfl) (fun _ => .cons (.v _) (.cons (.v _) (.cons (.v _) (.cons (.fn _) .nil)))) fun i l hi => ?_
  obtain ⟨a, m, b⟩ := i
  obtain ⟨⟨⟨⟨h1, h2, h3, h4⟩, h5⟩, hA, hB⟩, hN⟩ := hi
  obtain ⟨a, rfl⟩ := Int.eq_ofNat_of_zero_le h1
  obtain ⟨m, rfl⟩ := Int.eq_ofNat_of_zero_le (show 0 ≤ m by omega)
  obtain ⟨b, rfl⟩ := Int.eq_ofNat_of_zero_le (show 0 ≤ b by omega)
  simp only [Int.toNat_natCast] at hA hB ⊢
  have hd : C_spn.d = zS := rfl
  have ea : ((a : Int)).toNat = a := Int.toNat_natCast _
  have em : ((m : Int)).toNat = m := Int.toNat_natCast _
  have hN : (m : Int) = (a : Int) + 1 := hN
  have hm1 : m = a + 1 := by omega
  have k1 : ((m : Int) - (a : Int) == 1) = true := by rw [beq_iff_eq]; omega
  repeat' (first | (with_reducible first | exact fun h => h | refine ExE.row (by with_unfolding_all rfl) ?_ | refine And.intro ?_ ?_) | ((with_reducible intro hq); first | exact bne1 hq (by with_reducible assumption) | exact bne1 (by with_reducible assumption) hq | ((simp only [*, BB, cond_true, cond_false, reduceCtorEq] at hq); done) | (revert hq; with_reducible intro _)) | (with_reducible first | exact True.intro | rfl | refine EntLe.row ?_ | exact LeN.ro rfl | exact LeN.rptr | assumption) | ((with_reducible first | refine WkX.chk ?_ | refine Wk.chk ?_ | refine LeL.chk ?_ | refine LeF.chk ?_ | refine Run.mk ?_); (conv => whnf)) | ((with_reducible show LeO _ _); first | refine LeO.ro ?_ | refine LeO.roCap ?_ | refine LeO.nil ?_ (fun _ => rfl)) | ((with_reducible show LeR _ _ _); first | refine LeR.own rfl rfl rfl ?_ | refine LeR.view rfl rfl rfl ?_ ?_ | refine LeR.ro ?_ | refine LeR.roCap ?_ | refine LeR.nil ?_ (fun _ => rfl)) | ((with_reducible first | show drawOK _ _ = true | show lateOK _ _ = true | show drawOK2 _ _ = true | show drawOK3 _ _ = true); kernel_rfl))
  any_goals (apply Fits.i64 <;> omega)
  refine loopI (Nat × Nat) [] (fun | (i, j) => [(10, .v (.int .i64 (i : Nat))), (11, .v (.int .i64 (j : Nat)))]) (fun _ => []) (fun | (i, j) => Bs1 ltO zS l a m b i j) (fun | (i, j) => j - i) (m, b) (Bs1.start l (by omega)) (Wk.chk ?_) fun x hx => ?_
  · ((conv => whnf); repeat' (first | (with_reducible first | exact fun h => h | refine ExE.row (by with_unfolding_all rfl) ?_ | refine And.intro ?_ ?_) | ((with_reducible intro hq); first | exact bne1 hq (by with_reducible assumption) | exact bne1 (by with_reducible assumption) hq | ((simp only [*, BB, cond_true, cond_false, reduceCtorEq] at hq); done) | (revert hq; with_reducible intro _)) | (with_reducible first | exact True.intro | rfl | refine EntLe.row ?_ | exact LeN.ro rfl | exact LeN.rptr | assumption) | ((with_reducible first | refine WkX.chk ?_ | refine Wk.chk ?_ | refine LeL.chk ?_ | refine LeF.chk ?_ | refine Run.mk ?_); (conv => whnf)) | ((with_reducible show LeO _ _); first | refine LeO.ro ?_ | refine LeO.roCap ?_ | refine LeO.nil ?_ (fun _ => rfl)) | ((with_reducible show LeR _ _ _); first | refine LeR.own rfl rfl rfl ?_ | refine LeR.view rfl rfl rfl ?_ ?_ | refine LeR.ro ?_ | refine LeR.roCap ?_ | refine LeR.nil ?_ (fun _ => rfl)) | ((with_reducible first | show drawOK _ _ = true | show lateOK _ _ = true | show drawOK2 _ _ = true | show drawOK3 _ _ = true); kernel_rfl)))
    all_goals rfl
  obtain ⟨i, j⟩ := x
  have hx : Bs1 ltO zS l a m b i j := hx
  obtain ⟨b1, b2, b3, _, _⟩ := id hx
  by_cases hij : i < j
  · have hlt : decide ((i : Int) < (j : Int)) = true := decide_eq_true (by omega)
    repeat' (first | (with_reducible first | exact fun h => h | refine ExE.row (by with_unfolding_all rfl) ?_ | refine And.intro ?_ ?_) | ((with_reducible intro hq); first | exact bne1 hq (by with_reducible assumption) | exact bne1 (by with_reducible assumption) hq | ((simp only [*, BB, cond_true, cond_false, reduceCtorEq] at hq); done) | (revert hq; with_reducible intro _)) | (with_reducible first | exact True.intro | rfl | refine EntLe.row ?_ | exact LeN.ro rfl | exact LeN.rptr | assumption) | ((with_reducible first | refine WkX.chk ?_ | refine Wk.chk ?_ | refine LeL.chk ?_ | refine LeF.chk ?_ | refine Run.mk ?_); (conv => whnf)) | ((with_reducible show LeO _ _); first | refine LeO.ro ?_ | refine LeO.roCap ?_ | refine LeO.nil ?_ (fun _ => rfl)) | ((with_reducible show LeR _ _ _); first | refine LeR.own rfl rfl rfl ?_ | refine LeR.view rfl rfl rfl ?_ ?_ | refine LeR.ro ?_ | refine LeR.roCap ?_ | refine LeR.nil ?_ (fun _ => rfl)) | ((with_reducible first | show drawOK _ _ = true | show lateOK _ _ = true | show drawOK2 _ _ = true | show drawOK3 _ _ = true); kernel_rfl))
    refine joinI Nat [] (fun h => [(12, .v (.int .i64 (h : Nat)))]) (fun _ => []) (fun h => h = (i + j) / 2) ?_ fun h hh => ?_
    · repeat' (first | (with_reducible first | refine ex_of (α := Nat) ((i + j) / 2) rfl ?_ | exact fun h => h | refine ExE.row (by with_unfolding_all rfl) ?_ | refine And.intro ?_ ?_) | ((with_reducible intro hq); first | exact bne1 hq (by with_reducible assumption) | exact bne1 (by with_reducible assumption) hq | ((simp only [*, BB, cond_true, cond_false, reduceCtorEq] at hq); done) | (revert hq; with_reducible intro _)) | (with_reducible first | exact True.intro | rfl | refine EntLe.row ?_ | exact LeN.ro rfl | exact LeN.rptr | assumption) | ((with_reducible first | refine WkX.chk ?_ | refine Wk.chk ?_ | refine LeL.chk ?_ | refine LeF.chk ?_ | refine Run.mk ?_); (conv => whnf)) | ((with_reducible show LeO _ _); first | refine LeO.ro ?_ | refine LeO.roCap ?_ | refine LeO.nil ?_ (fun _ => rfl)) | ((with_reducible show LeR _ _ _); first | refine LeR.own rfl rfl rfl ?_ | refine LeR.view rfl rfl rfl ?_ ?_ | refine LeR.ro ?_ | refine LeR.roCap ?_ | refine LeR.nil ?_ (fun _ => rfl)) | ((with_reducible first | show drawOK _ _ = true | show lateOK _ _ = true | show drawOK2 _ _ = true | show drawOK3 _ _ = true); kernel_rfl))
      all_goals first
        | (apply Fits.i64 <;> omega)
        | (rw [half_eq]; apply Fits.i64 <;> omega)
        | (apply Go.SX.Try.Fits.u64 <;> omega)
        | omega
        | decide
        | exact congrArg (fun z => AV.v (Value.int IntKind.i64 z)) (half_eq i j)
        | exact half_eq i j
        | trace_state
    have hh : h = (i + j) / 2 := hh
    obtain ⟨u1, u2⟩ : i ≤ h ∧ h < j := by omega
    have e0 : ((h : Int)).toNat = h := Int.toNat_natCast _
    have kc : decide (cmpO (l.getD ((h : Int)).toNat C_spn.d) (l.getD ((a : Int)).toNat C_spn.d) < 0) = ltO (l.getD h zS) (l.getD a zS) := by
      rw [e0, ea, hd]
      rfl
    cases hc : ltO (l.getD h zS) (l.getD a zS) with
    | true =>
      rw [hc] at kc
      have hx2 := hx.up ordO (by omega) hB hh hij hc
      clear hh
      repeat' (first | (with_reducible first | refine ⟨(_, _), ⟨(.cons (.agg (.cons (.v _) (.cons (.v _) (.cons (.v _) (.cons (.v _) .nil))))) (.cons (.agg (.cons (.v _) (.cons (.v _) (.cons (.v _) (.cons (.v _) .nil))))) .nil)), ?_⟩, ?_⟩ | refine ex_of (α := Nat × Nat) (h + 1, j) ⟨hx2, ?_⟩ ?_ | exact fun h => h | refine ExE.row (by with_unfolding_all rfl) ?_ | refine And.intro ?_ ?_) | ((with_reducible intro hq); first | exact bne1 hq (by with_reducible assumption) | exact bne1 (by with_reducible assumption) hq | ((simp only [*, BB, cond_true, cond_false, reduceCtorEq] at hq); done) | (revert hq; with_reducible intro _)) | (with_reducible first | exact True.intro | rfl | refine EntLe.row ?_ | exact LeN.ro rfl | exact LeN.rptr | assumption) | ((with_reducible first | refine WkX.chk ?_ | refine Wk.chk ?_ | refine LeL.chk ?_ | refine LeF.chk ?_ | refine Run.mk ?_); (conv => whnf)) | ((with_reducible show LeO _ _); first | refine LeO.ro ?_ | refine LeO.roCap ?_ | refine LeO.nil ?_ (fun _ => rfl)) | ((with_reducible show LeR _ _ _); first | refine LeR.own rfl rfl rfl ?_ | refine LeR.view rfl rfl rfl ?_ ?_ | refine LeR.ro ?_ | refine LeR.roCap ?_ | refine LeR.nil ?_ (fun _ => rfl)) | ((with_reducible first | show drawOK _ _ = true | show lateOK _ _ = true | show drawOK2 _ _ = true | show drawOK3 _ _ = true); kernel_rfl))
      all_goals first
        | omega
        | rfl
        | (apply Fits.i64 <;> omega)
        | (show j - (h + 1) < j - i; omega)
        | trace_state
    | false =>
      rw [hc] at kc
      have hx2 := hx.down ordO (by omega) hB hh hij hc
      clear hh
      repeat' (first | (with_reducible first | refine ⟨(_, _), ⟨(.cons (.agg (.cons (.v _) (.cons (.v _) (.cons (.v _) (.cons (.v _) .nil))))) (.cons (.agg (.cons (.v _) (.cons (.v _) (.cons (.v _) (.cons (.v _) .nil))))) .nil)), ?_⟩, ?_⟩ | refine ex_of (α := Nat × Nat) (i, h) ⟨hx2, ?_⟩ ?_ | exact fun h => h | refine ExE.row (by with_unfolding_all rfl) ?_ | refine And.intro ?_ ?_) | ((with_reducible intro hq); first | exact bne1 hq (by with_reducible assumption) | exact bne1 (by with_reducible assumption) hq | ((simp only [*, BB, cond_true, cond_false, reduceCtorEq] at hq); done) | (revert hq; with_reducible intro _)) | (with_reducible first | exact True.intro | rfl | refine EntLe.row ?_ | exact LeN.ro rfl | exact LeN.rptr | assumption) | ((with_reducible first | refine WkX.chk ?_ | refine Wk.chk ?_ | refine LeL.chk ?_ | refine LeF.chk ?_ | refine Run.mk ?_); (conv => whnf)) | ((with_reducible show LeO _ _); first | refine LeO.ro ?_ | refine LeO.roCap ?_ | refine LeO.nil ?_ (fun _ => rfl)) | ((with_reducible show LeR _ _ _); first | refine LeR.own rfl rfl rfl ?_ | refine LeR.view rfl rfl rfl ?_ ?_ | refine LeR.ro ?_ | refine LeR.roCap ?_ | refine LeR.nil ?_ (fun _ => rfl)) | ((with_reducible first | show drawOK _ _ = true | show lateOK _ _ = true | show drawOK2 _ _ = true | show drawOK3 _ _ = true); kernel_rfl))
      all_goals first
        | omega
        | rfl
        | (apply Fits.i64 <;> omega)
        | (show h - i < j - i; omega)
        | trace_state
  obtain rfl : i = j := by omega
  have hlt : decide ((i : Int) < (i : Int)) = false := decide_eq_false (by omega)
  have hdn := hx.done hm1 (by omega) hB
  repeat' (first | (with_reducible first | exact fun h => h | refine ExE.row (by with_unfolding_all rfl) ?_ | refine And.intro ?_ ?_) | ((with_reducible intro hq); first | exact bne1 hq (by with_reducible assumption) | exact bne1 (by with_reducible assumption) hq | ((simp only [*, BB, cond_true, cond_false, reduceCtorEq] at hq); done) | (revert hq; with_reducible intro _)) | (with_reducible first | exact True.intro | rfl | refine EntLe.row ?_ | exact LeN.ro rfl | exact LeN.rptr | assumption) | ((with_reducible first | refine WkX.chk ?_ | refine Wk.chk ?_ | refine LeL.chk ?_ | refine LeF.chk ?_ | refine Run.mk ?_); (conv => whnf)) | ((with_reducible show LeO _ _); first | refine LeO.ro ?_ | refine LeO.roCap ?_ | refine LeO.nil ?_ (fun _ => rfl)) | ((with_reducible show LeR _ _ _); first | refine LeR.own rfl rfl rfl ?_ | refine LeR.view rfl rfl rfl ?_ ?_ | refine LeR.ro ?_ | refine LeR.roCap ?_ | refine LeR.nil ?_ (fun _ => rfl)) | ((with_reducible first | show drawOK _ _ = true | show lateOK _ _ = true | show drawOK2 _ _ = true | show drawOK3 _ _ = true); kernel_rfl))
  refine loopI Nat [] (fun k => [(13, .v (.int .i64 (k : Nat)))]) (fun k => [(0, .row C_spn (mov1 zS l a k) 50 none)]) (fun k => a ≤ k ∧ k ≤ i - 1) (fun k => i - 1 - k) a ⟨Nat.le_refl _, by omega⟩ (Wk.chk ?_) fun k hk => ?_
  · ((conv => whnf); repeat' (first | (with_reducible first | exact fun h => h | refine ExE.row (by with_unfolding_all rfl) ?_ | refine And.intro ?_ ?_) | ((with_reducible intro hq); first | exact bne1 hq (by with_reducible assumption) | exact bne1 (by with_reducible assumption) hq | ((simp only [*, BB, cond_true, cond_false, reduceCtorEq] at hq); done) | (revert hq; with_reducible intro _)) | (with_reducible first | exact True.intro | rfl | refine EntLe.row ?_ | exact LeN.ro rfl | exact LeN.rptr | assumption) | ((with_reducible first | refine WkX.chk ?_ | refine Wk.chk ?_ | refine LeL.chk ?_ | refine LeF.chk ?_ | refine Run.mk ?_); (conv => whnf)) | ((with_reducible show LeO _ _); first | refine LeO.ro ?_ | refine LeO.roCap ?_ | refine LeO.nil ?_ (fun _ => rfl)) | ((with_reducible show LeR _ _ _); first | refine LeR.own rfl rfl rfl ?_ | refine LeR.view rfl rfl rfl ?_ ?_ | refine LeR.ro ?_ | refine LeR.roCap ?_ | refine LeR.nil ?_ (fun _ => rfl)) | ((with_reducible first | show drawOK _ _ = true | show lateOK _ _ = true | show drawOK2 _ _ = true | show drawOK3 _ _ = true); kernel_rfl)))
    all_goals first
      | rfl
      | (rw [mov1_start (by omega)]; done)
  obtain ⟨c1, c2⟩ := hk
  have hln := mov1_len (d := zS) (l := l) (a := a) (k := k) c1 (by omega)
  have e1 : ((k : Int)).toNat = k := Int.toNat_natCast _
  have e2 : ((k : Int) + 1).toNat = k + 1 := by omega
  have hst := mov1_step (d := zS) (l := l) (a := a) (k := k) c1
  repeat' (first | (with_reducible first | refine ex_of (α := Nat) (k + 1) ⟨?_, ?_⟩ ?_ | exact fun h => h | refine ExE.row (by with_unfolding_all rfl) ?_ | refine And.intro ?_ ?_) | ((with_reducible intro hq); first | exact bne1 hq (by with_reducible assumption) | exact bne1 (by with_reducible assumption) hq | ((simp only [*, BB, cond_true, cond_false, reduceCtorEq] at hq); done) | (revert hq; with_reducible intro _)) | (with_reducible first | exact True.intro | rfl | refine EntLe.row ?_ | exact LeN.ro rfl | exact LeN.rptr | assumption) | ((with_reducible first | refine WkX.chk ?_ | refine Wk.chk ?_ | refine LeL.chk ?_ | refine LeF.chk ?_ | refine Run.mk ?_); (conv => whnf)) | ((with_reducible show LeO _ _); first | refine LeO.ro ?_ | refine LeO.roCap ?_ | refine LeO.nil ?_ (fun _ => rfl)) | ((with_reducible show LeR _ _ _); first | refine LeR.own rfl rfl rfl ?_ | refine LeR.view rfl rfl rfl ?_ ?_ | refine LeR.ro ?_ | refine LeR.roCap ?_ | refine LeR.nil ?_ (fun _ => rfl)) | ((with_reducible first | show drawOK _ _ = true | show lateOK _ _ = true | show drawOK2 _ _ = true | show drawOK3 _ _ = true); kernel_rfl))
  all_goals (try simp only [e1, e2, hd, hln, List.length_set, decide_eq_true_eq, decide_eq_false_iff_not] at *)
  all_goals first
    | omega
    | rfl
    | (apply Fits.i64 <;> omega)
    | (show i - 1 - (k + 1) < i - 1 - k; omega)
    | exact hst (by omega)
    | (refine ⟨_, _, rfl, ?_⟩; obtain rfl : k = i - 1 := by omega
       exact hdn)
    | trace_state
end Go.SX.Try
/- Contract of the library's merge in place, of spans: a sorted row, and one. -/
namespace Go.SX.Try
open Go.Proofs Go.Proofs.Try Go.SX.Plain
set_option maxRecDepth 100000
set_option maxHeartbeats 0
set_option linter.unusedSimpArgs false
theorem conW_sym2 : ConW prog 80 C_spn 50 symA symF (fun i l => symP i l ∧ ¬ i.2.1 = i.1 + 1 ∧ i.2.2 = i.2.1 + 1) := by
  refine ConW.of (by kernel_rfl) T_ok CdsOK.nil (.con con_outer1 .nil) 3 [17] q_symM.1 q_symM.2.1 q_symM.2.2 (fun _ => rfl) (fun _ => .cons (.v _) (.cons (.v _) (.cons (.v _) (.cons (.fn _) .nil)))) fun i l hi => ?_
  obtain ⟨a, m, b⟩ := i
  obtain ⟨⟨⟨⟨h1, h2, h3, h4⟩, h5⟩, hA, hB⟩, hN⟩ := hi
  obtain ⟨a, rfl⟩ := Int.eq_ofNat_of_zero_le h1
  obtain ⟨m, rfl⟩ := Int.eq_ofNat_of_zero_le (show 0 ≤ m by omega)
  obtain ⟨b, rfl⟩ := Int.eq_ofNat_of_zero_le (show 0 ≤ b by omega)
  simp only [Int.toNat_natCast] at hA hB ⊢
  have hd : C_spn.d = zS := rfl
  have ea : ((a : Int)).toNat = a := Int.toNat_natCast _
  have em : ((m : Int)).toNat = m := Int.toNat_natCast _
  have hN : ¬ (m : Int) = (a : Int) + 1 ∧ (b : Int) = (m : Int) + 1 := hN
  have k1 : ((m : Int) - (a : Int) == 1) = false := by rw [Bool.eq_false_iff, Ne, beq_iff_eq]; omega
  have hm2 : b = m + 1 := by omega
  have k2 : ((b : Int) - (m : Int) == 1) = true := by rw [beq_iff_eq]; omega
  repeat' (first | (with_reducible refine And.intro ?_ ?_) | ((with_reducible intro hq); first | exact bne1 hq (by with_reducible assumption) | exact bne1 (by with_reducible assumption) hq | (revert hq; with_reducible intro _)) | ((with_reducible refine Run.mk ?_); (conv => whnf)))
  any_goals (apply Fits.i64 <;> omega)
  refine loopI (Nat × Nat) [] (fun | (i, j) => [(14, .v (.int .i64 (i : Nat))), (15, .v (.int .i64 (j : Nat)))]) (fun _ => []) (fun | (i, j) => Bs2 ltO zS l a m i j) (fun | (i, j) => j - i) (a, m) (Bs2.start l (by omega)) (Wk.chk ?_) fun x hx => ?_
  · ((conv => whnf); repeat' (first | (with_reducible first | refine And.intro ?_ ?_ | exact True.intro | rfl | refine EntLe.row ?_) | ((with_reducible refine Run.mk ?_); (conv => whnf))))
    all_goals rfl
  obtain ⟨i, j⟩ := x
  have hx : Bs2 ltO zS l a m i j := hx
  obtain ⟨b1, b2, b3, _, _⟩ := id hx
  by_cases hij : i < j
  · have hlt : decide ((i : Int) < (j : Int)) = true := decide_eq_true (by omega)
    repeat' (first | (with_reducible refine And.intro ?_ ?_) | ((with_reducible intro hq); first | exact bne1 (by with_reducible assumption) hq | (revert hq; with_reducible intro _)) | ((with_reducible refine Run.mk ?_); (conv => whnf)))
    refine joinI Nat [] (fun h => [(16, .v (.int .i64 (h : Nat)))]) (fun _ => []) (fun h => h = (i + j) / 2) ?_ fun h hh => ?_
    · repeat' (first | (with_reducible first | refine ex_of (α := Nat) ((i + j) / 2) rfl ?_ | refine And.intro ?_ ?_ | exact True.intro | rfl | refine EntLe.row ?_) | ((with_reducible first | refine Wk.chk ?_ | refine Run.mk ?_); (conv => whnf)))
      all_goals first
        | (apply Fits.i64 <;> omega)
        | (rw [half_eq]; apply Fits.i64 <;> omega)
        | (apply Go.SX.Try.Fits.u64 <;> omega)
        | omega
        | decide
        | exact half_eq i j
    have hh : h = (i + j) / 2 := hh
    obtain ⟨u1, u2⟩ : i ≤ h ∧ h < j := by omega
    have e0 : ((h : Int)).toNat = h := Int.toNat_natCast _
    have kc : (!decide (cmpO (l.getD ((m : Int)).toNat C_spn.d) (l.getD ((h : Int)).toNat C_spn.d) < 0)) = !ltO (l.getD m zS) (l.getD h zS) := by
      rw [e0, em, hd]
      rfl
    cases hc : ltO (l.getD m zS) (l.getD h zS) with
    | true =>
      rw [hc] at kc
      have kc : (!decide (cmpO (l.getD ((m : Int)).toNat C_spn.d) (l.getD ((h : Int)).toNat C_spn.d) < 0)) = false := kc
      have hx2 := hx.down ordO (by omega) hA hh hij hc
      clear hh
      repeat' (first | (with_reducible first | refine ⟨(_, _), ⟨(.cons (.agg (.cons (.v _) (.cons (.v _) (.cons (.v _) (.cons (.v _) .nil))))) (.cons (.agg (.cons (.v _) (.cons (.v _) (.cons (.v _) (.cons (.v _) .nil))))) .nil)), ?_⟩, ?_⟩ | refine ex_of (α := Nat × Nat) (i, h) ⟨hx2, ?_⟩ ?_ | refine And.intro ?_ ?_) | ((with_reducible intro hq); first | exact bne1 hq (by with_reducible assumption) | (revert hq; with_reducible intro _)) | (with_reducible first | exact True.intro | rfl | refine EntLe.row ?_) | ((with_reducible first | refine Wk.chk ?_ | refine Run.mk ?_); (conv => whnf)) | ((with_reducible show drawOK _ _ = true); kernel_rfl))
      all_goals first
        | omega
        | (show h - i < j - i; omega)
    | false =>
      rw [hc] at kc
      have kc : (!decide (cmpO (l.getD ((m : Int)).toNat C_spn.d) (l.getD ((h : Int)).toNat C_spn.d) < 0)) = true := kc
      have hx2 := hx.up ordO (by omega) hA hh hij hc
      clear hh
      repeat' (first | (with_reducible first | refine ⟨(_, _), ⟨(.cons (.agg (.cons (.v _) (.cons (.v _) (.cons (.v _) (.cons (.v _) .nil))))) (.cons (.agg (.cons (.v _) (.cons (.v _) (.cons (.v _) (.cons (.v _) .nil))))) .nil)), ?_⟩, ?_⟩ | refine ex_of (α := Nat × Nat) (h + 1, j) ⟨hx2, ?_⟩ ?_ | refine And.intro ?_ ?_) | ((with_reducible intro hq); first | exact bne1 (by with_reducible assumption) hq | (revert hq; with_reducible intro _)) | (with_reducible first | exact True.intro | rfl | refine EntLe.row ?_) | ((with_reducible first | refine Wk.chk ?_ | refine Run.mk ?_); (conv => whnf)) | ((with_reducible show drawOK _ _ = true); kernel_rfl))
      all_goals first
        | omega
        | (apply Fits.i64 <;> omega)
        | (show j - (h + 1) < j - i; omega)
  obtain rfl : i = j := by omega
  have hlt : decide ((i : Int) < (i : Int)) = false := decide_eq_false (by omega)
  have hdn := hx.done hm2 (by omega)
  repeat' (first | (with_reducible refine And.intro ?_ ?_) | ((with_reducible intro hq); first | exact bne1 hq (by with_reducible assumption) | (revert hq; with_reducible intro _)) | ((with_reducible refine Run.mk ?_); (conv => whnf)))
  refine loopI Nat [] (fun k => [(17, .v (.int .i64 (k : Nat)))]) (fun k => [(0, .row C_spn (mov2 zS l m k) 50 none)]) (fun k => i ≤ k ∧ k ≤ m) (fun k => k - i) m ⟨by omega, Nat.le_refl _⟩ (Wk.chk ?_) fun k hk => ?_
  · ((conv => whnf); repeat' (first | (with_reducible first | refine And.intro ?_ ?_ | exact True.intro | rfl | refine EntLe.row ?_) | ((with_reducible refine Run.mk ?_); (conv => whnf))))
    all_goals (rw [mov2_start (by omega)]; done)
  obtain ⟨c1, c2⟩ := hk
  have hln := mov2_len (d := zS) (l := l) (m := m) (k := k) c2 (by omega)
  have e1 : ((k : Int)).toNat = k := Int.toNat_natCast _
  have e2 : ((k : Int) - 1).toNat = k - 1 := by omega
  have hst : i < k → ((mov2 zS l m k).set k ((mov2 zS l m k).getD (k - 1) zS)).set (k - 1) ((mov2 zS l m k).getD k zS) = mov2 zS l m (k - 1) := fun h => by
    obtain ⟨q, rfl⟩ : ∃ q, k = q + 1 := ⟨k - 1, by omega⟩
    exact mov2_step (by omega) (by omega)
  repeat' (first | (with_reducible first | refine ex_of (α := Nat) (k - 1) ⟨?_, ?_⟩ ?_ | refine And.intro ?_ ?_ | intro _ | exact True.intro | rfl | refine EntLe.row ?_) | ((with_reducible first | refine Wk.chk ?_ | refine LeL.chk ?_ | refine Run.mk ?_); (conv => whnf)) | ((with_reducible first | show drawOK _ _ = true | show lateOK _ _ = true); kernel_rfl))
  all_goals (try simp only [e1, e2, hd, hln, List.length_set, decide_eq_true_eq, decide_eq_false_iff_not] at *)
  all_goals first
    | omega
    | rfl
    | (apply Fits.i64 <;> omega)
    | exact hst (by omega)
    | (refine ⟨_, _, rfl, ?_⟩; obtain rfl : k = i := by omega
       exact hdn)
end Go.SX.Try
/- Contract of the library's merge in place, of spans: two halves; all cases. -/
namespace Go.SX.Try
open Go.Proofs Go.Proofs.Try Go.SX.Plain
set_option maxRecDepth 100000
set_option maxHeartbeats 0
set_option linter.unusedSimpArgs false
theorem conW_sym3 {N : Nat} (ih : ConW prog 80 C_spn 50 symA symF (fun i l => symP i l ∧ i.2.2 - i.1 ≤ (N : Int))) : ConW prog 80 C_spn 50 symA symF (fun i l => symP i l ∧ (¬ i.2.1 = i.1 + 1 ∧ ¬ i.2.2 = i.2.1 + 1) ∧ i.2.2 - i.1 ≤ ((N + 1 : Nat) : Int)) := by
  refine ConW.of (by kernel_rfl) T_ok CdsOK.nil (.con con_outer1 (.conw ih (.conw conW_rotate .nil))) 3 [25, 32, 35, 41, 43] q_symM.1 q_symM.2.1 q_symM.2.2 (fun _ => rfl) (fun _ => .cons (.v _) (.cons (.v _) (.cons (.v _) (.cons (.fn _) .nil)))) fun i l hi => ?_
  obtain ⟨a, m, b⟩ := i
  obtain ⟨⟨⟨⟨h1, h2, h3, h4⟩, h5⟩, hA, hB⟩, hN⟩ := hi
  obtain ⟨a, rfl⟩ := Int.eq_ofNat_of_zero_le h1
  obtain ⟨m, rfl⟩ := Int.eq_ofNat_of_zero_le (show 0 ≤ m by omega)
  obtain ⟨b, rfl⟩ := Int.eq_ofNat_of_zero_le (show 0 ≤ b by omega)
  simp only [Int.toNat_natCast] at hA hB ⊢
  have hd : C_spn.d = zS := rfl
  have ea : ((a : Int)).toNat = a := Int.toNat_natCast _
  have em : ((m : Int)).toNat = m := Int.toNat_natCast _
  have eb : ((b : Int)).toNat = b := Int.toNat_natCast _
  have hN : (¬ (m : Int) = (a : Int) + 1 ∧ ¬ (b : Int) = (m : Int) + 1) ∧ (b : Int) - (a : Int) ≤ ((N + 1 : Nat) : Int) := hN
  have k1 : ((m : Int) - (a : Int) == 1) = false := by rw [Bool.eq_false_iff, Ne, beq_iff_eq]; omega
  have k2 : ((b : Int) - (m : Int) == 1) = false := by rw [Bool.eq_false_iff, Ne, beq_iff_eq]; omega
  repeat' (first | (with_reducible refine And.intro ?_ ?_) | ((with_reducible intro hq); first | exact bne1 hq (by with_reducible assumption) | (revert hq; with_reducible intro _)) | ((with_reducible refine Run.mk ?_); (conv => whnf)))
  any_goals (apply Fits.i64 <;> omega)
  refine joinI Nat [] (fun h => [(18, .v (.int .i64 (h : Nat)))]) (fun _ => []) (fun h => h = (a + b) / 2) ?_ fun mid hmid => ?_
  · repeat' (first | (with_reducible first | refine ex_of (α := Nat) ((a + b) / 2) rfl ?_ | refine And.intro ?_ ?_ | exact True.intro | rfl | refine EntLe.row ?_) | ((with_reducible first | refine Wk.chk ?_ | refine Run.mk ?_); (conv => whnf)))
    all_goals first
      | (apply Fits.i64 <;> omega)
      | (rw [half_eq]; apply Fits.i64 <;> omega)
      | (apply Go.SX.Try.Fits.u64 <;> omega)
      | omega
      | decide
      | exact half_eq a b
  have hmid : mid = (a + b) / 2 := hmid
  obtain ⟨u1, u2⟩ : a ≤ mid ∧ mid < b := by omega
  have hN2 : b - a ≤ N + 1 := by omega
  have hle : b ≤ l.length := by omega
  have hst1 := fun h => Bs3.start1 (lt := ltO) (d := zS) l (a := a) (m := m) hmid h (show m < b by omega)
  have hst2 := fun h => Bs3.start2 (lt := ltO) (d := zS) l (a := a) (m := m) (b := b) hmid h (show a < m by omega)
  have hcut := fun s (h : Bs3 ltO zS l a m b mid s s) => h.cut hmid (by omega) (by omega) hle
  have hb1 : mid - a ≤ N ∧ b - mid ≤ N := by omega
  clear hmid
  repeat' (first | (with_reducible refine And.intro ?_ ?_) | ((with_reducible refine Run.mk ?_); (conv => whnf)))
  any_goals (apply Fits.i64 <;> omega)
  refine joinI (Nat × Nat) [] (fun | (s, r) => [(20, .v (.int .i64 (s : Nat))), (21, .v (.int .i64 (r : Nat)))]) (fun _ => []) (fun | (s, r) => Bs3 ltO zS l a m b mid s r) ?_ fun x hx => ?_
  · by_cases hmm : mid < m
    · have e1 : (mid : Int) + (m : Int) - (b : Int) = ((mid + m - b : Nat) : Int) := by omega
      repeat' (first | (with_reducible first | refine ex_of (α := Nat × Nat) (mid + m - b, mid) (hst1 hmm) ?_ | refine And.intro ?_ ?_ | intro _ | exact True.intro | rfl | refine EntLe.row ?_ | assumption) | ((with_reducible first | refine Wk.chk ?_ | refine Run.mk ?_); (conv => whnf)))
      all_goals first
        | (apply Fits.i64 <;> omega)
        | (exfalso; simp_all; omega)
    · repeat' (first | (with_reducible first | refine ex_of (α := Nat × Nat) (a, m) (hst2 (by omega)) ?_ | refine And.intro ?_ ?_ | intro _ | exact True.intro | rfl | refine EntLe.row ?_) | ((with_reducible first | refine Wk.chk ?_ | refine Run.mk ?_); (conv => whnf)))
      all_goals first
        | (apply Fits.i64 <;> omega)
        | (exfalso; simp_all; omega)
  clear hst1 hst2
  obtain ⟨s0, r0⟩ := x
  have hx : Bs3 ltO zS l a m b mid s0 r0 := hx
  repeat' (first | (with_reducible refine And.intro ?_ ?_) | ((with_reducible refine Run.mk ?_); (conv => whnf)))
  any_goals (apply Fits.i64 <;> omega)
  refine loopI (Nat × Nat) [] (fun | (s, r) => [(20, .v (.int .i64 (s : Nat))), (21, .v (.int .i64 (r : Nat)))]) (fun _ => []) (fun | (s, r) => Bs3 ltO zS l a m b mid s r) (fun | (s, r) => r - s) (s0, r0) hx (Wk.chk ?_) fun x hx => ?_
  · ((conv => whnf); repeat' (first | (with_reducible first | refine And.intro ?_ ?_ | exact True.intro | rfl | refine EntLe.row ?_) | ((with_reducible refine Run.mk ?_); (conv => whnf))))
    all_goals rfl
  obtain ⟨s, r⟩ := x
  have hx : Bs3 ltO zS l a m b mid s r := hx
  obtain ⟨b1, b2, b3, b4, b5, _, _⟩ := id hx
  by_cases hij : s < r
  · have hlt : decide ((s : Int) < (r : Int)) = true := decide_eq_true (by omega)
    repeat' (first | (with_reducible refine And.intro ?_ ?_) | ((with_reducible intro hq); first | exact bne1 (by with_reducible assumption) hq | (revert hq; with_reducible intro _)) | ((with_reducible refine Run.mk ?_); (conv => whnf)))
    refine joinI Nat [] (fun h => [(23, .v (.int .i64 (h : Nat)))]) (fun _ => []) (fun h => h = (s + r) / 2) ?_ fun c hh => ?_
    · repeat' (first | (with_reducible first | refine ex_of (α := Nat) ((s + r) / 2) rfl ?_ | refine And.intro ?_ ?_ | exact True.intro | rfl | refine EntLe.row ?_) | ((with_reducible first | refine Wk.chk ?_ | refine Run.mk ?_); (conv => whnf)))
      all_goals first
        | (apply Fits.i64 <;> omega)
        | (rw [half_eq]; apply Fits.i64 <;> omega)
        | (apply Go.SX.Try.Fits.u64 <;> omega)
        | omega
        | decide
        | exact half_eq s r
    have hh : c = (s + r) / 2 := hh
    obtain ⟨u3, u4⟩ : s ≤ c ∧ c < r := by omega
    have e0 : ((c : Int)).toNat = c := Int.toNat_natCast _
    have e3 : ((mid : Int) + (m : Int) - 1 - (c : Int)).toNat = mid + m - 1 - c := by omega
    have kc : (!decide (cmpO (l.getD ((mid : Int) + (m : Int) - 1 - (c : Int)).toNat C_spn.d) (l.getD ((c : Int)).toNat C_spn.d) < 0)) = !ltO (l.getD (mid + m - 1 - c) zS) (l.getD c zS) := by
      rw [e0, e3, hd]
      rfl
    cases hc : ltO (l.getD (mid + m - 1 - c) zS) (l.getD c zS) with
    | true =>
      rw [hc] at kc
      have kc : (!decide (cmpO (l.getD ((mid : Int) + (m : Int) - 1 - (c : Int)).toNat C_spn.d) (l.getD ((c : Int)).toNat C_spn.d) < 0)) = false := kc
      have hx2 := hx.down ordO hle (by omega) hA hB hh hij hc
      clear hh
      repeat' (first | (with_reducible first | refine ⟨(_, _), ⟨(.cons (.agg (.cons (.v _) (.cons (.v _) (.cons (.v _) (.cons (.v _) .nil))))) (.cons (.agg (.cons (.v _) (.cons (.v _) (.cons (.v _) (.cons (.v _) .nil))))) .nil)), ?_⟩, ?_⟩ | refine ex_of (α := Nat × Nat) (s, c) ⟨hx2, ?_⟩ ?_ | refine And.intro ?_ ?_) | ((with_reducible intro hq); first | exact bne1 hq (by with_reducible assumption) | (revert hq; with_reducible intro _)) | (with_reducible first | exact True.intro | rfl | refine EntLe.row ?_) | ((with_reducible first | refine Wk.chk ?_ | refine Run.mk ?_); (conv => whnf)) | ((with_reducible show drawOK _ _ = true); kernel_rfl))
      all_goals first
        | omega
        | (apply Fits.i64 <;> omega)
        | (show c - s < r - s; omega)
    | false =>
      rw [hc] at kc
      have kc : (!decide (cmpO (l.getD ((mid : Int) + (m : Int) - 1 - (c : Int)).toNat C_spn.d) (l.getD ((c : Int)).toNat C_spn.d) < 0)) = true := kc
      have hx2 := hx.up ordO hle (by omega) hA hB hh hij hc
      clear hh
      repeat' (first | (with_reducible first | refine ⟨(_, _), ⟨(.cons (.agg (.cons (.v _) (.cons (.v _) (.cons (.v _) (.cons (.v _) .nil))))) (.cons (.agg (.cons (.v _) (.cons (.v _) (.cons (.v _) (.cons (.v _) .nil))))) .nil)), ?_⟩, ?_⟩ | refine ex_of (α := Nat × Nat) (c + 1, r) ⟨hx2, ?_⟩ ?_ | refine And.intro ?_ ?_) | ((with_reducible intro hq); first | exact bne1 (by with_reducible assumption) hq | (revert hq; with_reducible intro _)) | (with_reducible first | exact True.intro | rfl | refine EntLe.row ?_) | ((with_reducible first | refine Wk.chk ?_ | refine Run.mk ?_); (conv => whnf)) | ((with_reducible show drawOK _ _ = true); kernel_rfl))
      all_goals first
        | omega
        | (apply Fits.i64 <;> omega)
        | (show r - (c + 1) < r - s; omega)
  obtain rfl : s = r := by omega
  have hlt : decide ((s : Int) < (s : Int)) = false := decide_eq_false (by omega)
  have hC := hcut s hx
  have eE : (mid : Int) + (m : Int) - (s : Int) = ((mid + m - s : Nat) : Int) := by omega
  obtain ⟨e, he⟩ : ∃ e, e = mid + m - s := ⟨_, rfl⟩
  rw [← he] at eE
  have hmidE := hC.mid ordO hA hB
  rw [← he] at hmidE
  obtain ⟨⟨g1, g2⟩, g3, g4⟩ := hC.segs he hA hB
  have hl1 := rotR_len l (a := s) (m := m) (b := e) (by omega) (by omega) (by omega)
  have hl2 := symR_len (lt := ltO) (rotR l s m e) (a := a) (m := s) (b := mid) (by omega) (by omega) (by omega)
  obtain ⟨R1, hR1⟩ : ∃ R1, R1 = rotR l s m e := ⟨_, rfl⟩
  obtain ⟨R2, hR2⟩ : ∃ R2, R2 = symR ltO R1 a s mid := ⟨_, rfl⟩
  rw [← hR1] at hmidE g1 g2 g3 g4 hl1 hl2
  rw [← hR2] at hmidE g3 g4 hl2
  have es : ((s : Int)).toNat = s := Int.toNat_natCast _
  have ee : ((e : Int)).toNat = e := Int.toNat_natCast _
  have emi : ((mid : Int)).toNat = mid := Int.toNat_natCast _
  repeat' (first | (with_reducible refine And.intro ?_ ?_) | ((with_reducible intro hq); first | exact bne1 hq (by with_reducible assumption) | (revert hq; with_reducible intro _)) | ((with_reducible refine Run.mk ?_); (conv => whnf)))
  any_goals (apply Fits.i64 <;> omega)
  refine joinI Unit [] (fun _ => [(24, .v (.int .i64 (e : Nat)))]) (fun _ => [(0, .row C_spn R1 50 none)]) (fun _ => True) ?_ fun _ _ => ?_
  · by_cases hr : s < m ∧ m < e
    · obtain ⟨r1, r2⟩ := hr
      have k3 : decide ((s : Int) < (m : Int)) = true := decide_eq_true (by omega)
      have k4 : decide ((m : Int) < (mid : Int) + (m : Int) - (s : Int)) = true := decide_eq_true (by omega)
      repeat' (first | (with_reducible first | refine ⟨(_, _, _), _, _, ⟨(by with_unfolding_all exact rfl), (.cons (.v _) (.cons (.v _) (.cons (.v _) (.cons (.junk _) .nil)))), ?_, fun _ => (by with_unfolding_all exact rfl)⟩, ?_⟩ | refine ex_of () trivial ?_ | exact fun h => h | refine And.intro ?_ ?_ | intro _ | exact True.intro | rfl | refine EntLe.row ?_ | assumption) | ((with_reducible first | refine Wk.chk ?_ | refine Run.mk ?_); (conv => whnf)))
      all_goals (try simp only [ncast, eE, es, em, ee])
      all_goals first
        | omega
        | exact hR1.symm
        | (exfalso; simp_all; done)
    · have hq : R1 = l := by
        rw [hR1]
        by_cases h : s = m
        · subst h; exact rotR_left l (by omega) (by omega)
        · obtain rfl : e = m := by omega
          exact rotR_right l (by omega) (by omega)
      have k3 : (decide ((s : Int) < (m : Int)) && decide ((m : Int) < (mid : Int) + (m : Int) - (s : Int))) = false := by
        rw [Bool.eq_false_iff, Ne, Bool.and_eq_true, decide_eq_true_eq, decide_eq_true_eq]; omega
      repeat' (first | (with_reducible first | refine ex_of () trivial ?_ | exact fun h => h | refine And.intro ?_ ?_) | ((with_reducible intro hq); first | exact bne1 hq (by with_reducible assumption) | (revert hq; with_reducible intro _)) | (with_reducible first | exact True.intro | rfl | refine EntLe.row ?_ | assumption) | ((with_reducible first | refine Wk.chk ?_ | refine Run.mk ?_); (conv => whnf)))
      all_goals exact hq.symm
  repeat' ((with_reducible refine Run.mk ?_); (conv => whnf))
  refine joinI Unit [] (fun _ => []) (fun _ => [(0, .row C_spn R2 50 none)]) (fun _ => True) ?_ fun _ _ => ?_
  · by_cases hr : a < s ∧ s < mid
    · obtain ⟨r1, r2⟩ := hr
      have k3 : decide ((a : Int) < (s : Int)) = true := decide_eq_true (by omega)
      have k4 : decide ((s : Int) < (mid : Int)) = true := decide_eq_true (by omega)
      repeat' (first | (with_reducible first | refine ⟨(_, _, _), _, _, ⟨(by with_unfolding_all exact rfl), (.cons (.v _) (.cons (.v _) (.cons (.v _) (.cons (.fn _) .nil)))), ?_, fun _ => (by with_unfolding_all exact rfl)⟩, ?_⟩ | refine ex_of () trivial ?_ | exact fun h => h | refine And.intro ?_ ?_ | intro _ | exact True.intro | rfl | refine EntLe.row ?_ | assumption) | ((with_reducible first | refine Wk.chk ?_ | refine Run.mk ?_); (conv => whnf)))
      all_goals (try simp only [ncast, es, emi, ea])
      all_goals first
        | omega
        | exact hR2.symm
        | (exfalso; simp_all; done)
    · have hq : R2 = R1 := by
        rw [hR2]
        by_cases h : s = mid
        · subst h; exact symR_nil_right (by omega) (by omega)
        · obtain rfl : s = a := by omega
          exact symR_nil_left ordO (by omega) (by omega) g2
      have k3 : (decide ((a : Int) < (s : Int)) && decide ((s : Int) < (mid : Int))) = false := by
        rw [Bool.eq_false_iff, Ne, Bool.and_eq_true, decide_eq_true_eq, decide_eq_true_eq]; omega
      repeat' (first | (with_reducible first | refine ex_of () trivial ?_ | exact fun h => h | refine And.intro ?_ ?_) | ((with_reducible intro hq); first | exact bne1 hq (by with_reducible assumption) | (revert hq; with_reducible intro _)) | (with_reducible first | exact True.intro | rfl | refine EntLe.row ?_ | assumption) | ((with_reducible first | refine Wk.chk ?_ | refine Run.mk ?_); (conv => whnf)))
      all_goals exact hq.symm
  by_cases hr : mid < e ∧ e < b
  · obtain ⟨r1, r2⟩ := hr
    have k3 : decide ((mid : Int) < (e : Int)) = true := decide_eq_true (by omega)
    have k4 : decide ((e : Int) < (b : Int)) = true := decide_eq_true (by omega)
    repeat' (first | (with_reducible first | refine ⟨(_, _, _), _, _, ⟨(by with_unfolding_all exact rfl), (.cons (.v _) (.cons (.v _) (.cons (.v _) (.cons (.fn _) .nil)))), ?_, fun _ => (by with_unfolding_all exact rfl)⟩, ?_⟩ | exact fun h => h | refine And.intro ?_ ?_ | intro _ | rfl | assumption) | ((with_reducible refine Run.mk ?_); (conv => whnf)))
    all_goals (try simp only [ncast, ee, emi, eb])
    all_goals first
      | omega
      | rfl
      | (refine ⟨_, _, rfl, ?_⟩; exact hmidE.symm)
      | (exfalso; simp_all; done)
  · have hq : symR ltO R2 mid e b = R2 := by
      by_cases h : e = b
      · subst h; exact symR_nil_right (by omega) (by omega)
      · obtain rfl : e = mid := by omega
        exact symR_nil_left ordO (by omega) (by omega) g4
    rw [hq] at hmidE
    have k3 : (decide ((mid : Int) < (e : Int)) && decide ((e : Int) < (b : Int))) = false := by
      rw [Bool.eq_false_iff, Ne, Bool.and_eq_true, decide_eq_true_eq, decide_eq_true_eq]; omega
    repeat' (first | (with_reducible first | exact fun h => h | refine And.intro ?_ ?_) | ((with_reducible intro hq); first | exact bne1 hq (by with_reducible assumption) | (revert hq; with_reducible intro _)) | (with_reducible first | rfl | assumption) | ((with_reducible refine Run.mk ?_); (conv => whnf)))
    all_goals first
      | rfl
      | (refine ⟨_, _, rfl, ?_⟩; exact hmidE.symm)
theorem conW_cases {P : Program} {f : Nat} {α : Type} {C : Cdc α} {t : Nat} {ι : Type} {A : ι → List AV} {F : ι → List α → List α} {p q : ι → List α → Prop} (h1 : ConW P f C t A F p) (h2 : ConW P f C t A F q) {r : ι → List α → Prop} (h : ∀ i l, r i l → p i l ∨ q i l) : ConW P f C t A F r :=
  ⟨h1.bodied, fun i l hr => (h i l hr).elim (h1.calls i l) (h2.calls i l)⟩
theorem conW_symN : ∀ N : Nat, ConW prog 80 C_spn 50 symA symF (fun i l => symP i l ∧ i.2.2 - i.1 ≤ (N : Int))
  | 0 => conW_cases conW_sym1 conW_sym1 fun i l h => by
    obtain ⟨a, m, b⟩ := i
    obtain ⟨⟨⟨⟨h1, h2, h3, h4⟩, h5⟩, _⟩, h6⟩ := h
    have h6 : b - a ≤ ((0 : Nat) : Int) := h6
    exfalso; omega
  | N + 1 => by
    refine conW_cases conW_sym1 (conW_cases conW_sym2 (conW_sym3 (conW_symN N)) fun i l h => h) (q := fun i l => (symP i l ∧ ¬ i.2.1 = i.1 + 1 ∧ i.2.2 = i.2.1 + 1) ∨ (symP i l ∧ (¬ i.2.1 = i.1 + 1 ∧ ¬ i.2.2 = i.2.1 + 1) ∧ i.2.2 - i.1 ≤ ((N + 1 : Nat) : Int))) fun i l h => ?_
    by_cases c1 : i.2.1 = i.1 + 1
    · exact .inl ⟨h.1, c1⟩
    · by_cases c2 : i.2.2 = i.2.1 + 1
      · exact .inr (.inl ⟨h.1, c1, c2⟩)
      · exact .inr (.inr ⟨h.1, ⟨c1, c2⟩, h.2⟩)
theorem conW_sym : ConW prog 80 C_spn 50 symA symF symP := conW_cases (conW_symN 1100000) conW_sym1 fun i l h => .inl ⟨h, by
  obtain ⟨a, m, b⟩ := i
  obtain ⟨⟨⟨h1, h2, h3, h4⟩, h5⟩, _⟩ := h
  show b - a ≤ _
  omega⟩
end Go.SX.Try
/- Contract of the library's stable sort, of spans. -/
namespace Go.SX.Try
open Go.Proofs Go.Proofs.Try Go.SX.Plain
set_option maxRecDepth 100000
set_option maxHeartbeats 0
set_option linter.unusedSimpArgs false
theorem q_stableS : fact 77 f77 := ⟨by kernel_rfl, rfl, by kernel_rfl⟩
theorem q_sortStableS : fact 68 f68 := ⟨by kernel_rfl, rfl, by kernel_rfl⟩
theorem conW_stable : ConW prog 77 C_spn 50 (fun n : Int => [.v (.int .i64 n), .fn 69 []]) (fun _ l => isort ltO l)
    (fun n l => n = l.length ∧ l.length ≤ 1100000) := by
  refine ConW.of (by kernel_rfl) T_ok CdsOK.nil (.conw conW_insertion (.conw conW_sym .nil)) 3 [] q_stableS.1 q_stableS.2.1 q_stableS.2.2 (fun _ => rfl) (fun _ => .cons (.v _) (.cons (.fn _) .nil)) fun n l hi => ?_
  obtain ⟨rfl, hl⟩ := hi
  repeat' ((with_reducible refine Run.mk ?_); (conv => whnf))
  refine loopI Nat [] (fun k => [(7, .v (.int .i64 ((k * 20 : Nat) : Int))), (8, .v (.int .i64 (((k * 20 : Nat) : Int) + 20)))]) (fun k => [(0, .row C_spn (ph1 ltO l (k * 20)) 50 none)]) (fun k => k * 20 ≤ l.length) (fun k => l.length - k) 0 (by omega) (Wk.chk ?_) fun k hk => ?_
  · ((conv => whnf); repeat' (first | (with_reducible first | refine And.intro ?_ ?_ | exact True.intro | rfl | refine EntLe.row ?_) | ((with_reducible refine Run.mk ?_); (conv => whnf))))
    all_goals rfl
  have hk : k * 20 ≤ l.length := hk
  have hpl := ph1_len (lt := ltO) l (k * 20)
  by_cases hkn : k * 20 + 20 ≤ l.length
  · have hle : decide (((k * 20 : Nat) : Int) + 20 ≤ (l.length : Int)) = true := decide_eq_true (by omega)
    have hst := ph1_step (lt := ltO) l (a := k * 20) (k := k) rfl hkn
    have e1 : (((k * 20 : Nat) : Int) + 20).toNat = k * 20 + 20 := by omega
    have e2 : (((k * 20 : Nat) : Int)).toNat = k * 20 := by omega
    have e3 : ((k + 1) * 20 : Nat) = k * 20 + 20 := by omega
    repeat' (first | (with_reducible first | refine ⟨(_, _), _, _, ⟨(by with_unfolding_all exact rfl), (.cons (.v _) (.cons (.v _) (.cons (.fn _) .nil))), ?_, fun _ => (by with_unfolding_all exact rfl)⟩, ?_⟩ | refine ex_of (α := Nat) (k + 1) ⟨?_, ?_⟩ ?_ | refine And.intro ?_ ?_) | ((with_reducible intro hq); first | exact bne1 (by with_reducible assumption) hq | (revert hq; with_reducible intro _)) | (with_reducible first | exact True.intro | rfl | refine EntLe.row ?_) | ((with_reducible first | refine Wk.chk ?_ | refine Run.mk ?_); (conv => whnf)))
    all_goals (try simp only [ncast, e1, e2, e3, hst, hpl])
    all_goals first
      | omega
      | (apply Fits.i64 <;> omega)
  have hle : decide (((k * 20 : Nat) : Int) + 20 ≤ (l.length : Int)) = false := decide_eq_false (by omega)
  have hst := ph1_end (lt := ltO) l (a := k * 20) (k := k) rfl hk (by omega)
  have e2 : (((k * 20 : Nat) : Int)).toNat = k * 20 := by omega
  have e4 : ((l.length : Nat) : Int).toNat = l.length := Int.toNat_natCast _
  repeat' (first | (with_reducible first | refine ⟨(_, _), _, _, ⟨(by with_unfolding_all exact rfl), (.cons (.v _) (.cons (.v _) (.cons (.fn _) .nil))), ?_, fun _ => (by with_unfolding_all exact rfl)⟩, ?_⟩ | refine And.intro ?_ ?_) | ((with_reducible intro hq); first | exact bne1 hq (by with_reducible assumption) | (revert hq; with_reducible intro _)) | ((with_reducible refine Run.mk ?_); (conv => whnf)))
  any_goals (try simp only [ncast, hpl])
  any_goals omega
  refine loopI Nat [] (fun bs => [(6, .v (.int .i64 (bs : Nat)))]) (fun bs => [(0, .row C_spn (bsort ltO bs l) 50 none)]) (fun bs => 20 ≤ bs ∧ bs ≤ 2200020) (fun bs => l.length - bs) 20 (by omega) (Wk.chk ?_) fun bs hbs => ?_
  · ((conv => whnf); repeat' (first | (with_reducible first | refine And.intro ?_ ?_ | exact True.intro | rfl | refine EntLe.row ?_) | ((with_reducible refine Run.mk ?_); (conv => whnf))))
    all_goals first
      | rfl
      | (simp only [ncast, e2, e4, hst]; done)
  obtain ⟨hb1, hb2⟩ := hbs
  by_cases hbn : bs < l.length
  · have hlt : decide ((bs : Int) < (l.length : Int)) = true := decide_eq_true (by omega)
    repeat' (first | (with_reducible refine And.intro ?_ ?_) | ((with_reducible intro hq); first | exact bne1 (by with_reducible assumption) hq | (revert hq; with_reducible intro _)) | ((with_reducible refine Run.mk ?_); (conv => whnf)))
    all_goals (try (apply Fits.i64 <;> omega))
    refine loopI (Nat × Nat) [] (fun | (_, a) => [(7, .v (.int .i64 (a : Nat))), (8, .v (.int .i64 ((a : Int) + 2 * (bs : Int))))]) (fun | (_, a) => [(0, .row C_spn (ph2 ltO l bs a) 50 none)]) (fun | (k, a) => a = k * (2 * bs) ∧ a ≤ l.length) (fun | (_, a) => l.length - a) (0, 0) ⟨by omega, by omega⟩ (Wk.chk ?_) fun x hx => ?_
    · ((conv => whnf); repeat' (first | (with_reducible first | refine And.intro ?_ ?_ | exact True.intro | rfl | refine EntLe.row ?_) | ((with_reducible refine Run.mk ?_); (conv => whnf))))
      all_goals first
        | rfl
        | (simp; done)
    obtain ⟨k, a⟩ := x
    obtain ⟨ha, hk⟩ : a = k * (2 * bs) ∧ a ≤ l.length := hx
    have ha1 : a + 2 * bs = (k + 1) * (2 * bs) := by rw [Nat.add_mul, ← ha]; omega
    have hpl := ph2_len (lt := ltO) l (bs := bs) (by omega) a
    have e1 : ((a : Nat) : Int).toNat = a := Int.toNat_natCast _
    have e2 : (((a : Nat) : Int) + (bs : Int)).toNat = a + bs := by omega
    have e3 : (((a : Nat) : Int) + 2 * (bs : Int)).toNat = a + 2 * bs := by omega
    by_cases hkn : a + 2 * bs ≤ l.length
    · have hle : decide (((a : Nat) : Int) + 2 * (bs : Int) ≤ (l.length : Int)) = true := decide_eq_true (by omega)
      have hst := ph2_step ordO l (bs := bs) (a := a) (k := k) (by omega) ha hkn
      obtain ⟨_, s1, s2, _⟩ := ph2_parts ordO l (bs := bs) (a := a) (b := a + 2 * bs) (by omega) (by omega) hkn (by omega) (.inr rfl) hk
      repeat' (first | (with_reducible first | refine ⟨(_, _, _), _, _, ⟨(by with_unfolding_all exact rfl), (.cons (.v _) (.cons (.v _) (.cons (.v _) (.cons (.fn _) .nil)))), ?_, fun _ => (by with_unfolding_all exact rfl)⟩, ?_⟩ | refine ex_of (α := Nat × Nat) (k + 1, a + 2 * bs) ⟨⟨ha1, ?_⟩, ?_⟩ ?_ | refine And.intro ?_ ?_) | ((with_reducible intro hq); first | exact bne1 (by with_reducible assumption) hq | (revert hq; with_reducible intro _)) | (with_reducible first | exact True.intro | rfl | refine EntLe.row ?_ | assumption) | ((with_reducible first | refine Wk.chk ?_ | refine Run.mk ?_); (conv => whnf)))
      all_goals (try simp only [ncast, e1, e2, e3, hst, hpl])
      all_goals first
        | omega
        | assumption
        | (apply Fits.i64 <;> omega)
    have hle : decide (((a : Nat) : Int) + 2 * (bs : Int) ≤ (l.length : Int)) = false := decide_eq_false (by omega)
    by_cases hm : a + bs < l.length
    · have hlt2 : decide (((a : Nat) : Int) + (bs : Int) < (l.length : Int)) = true := decide_eq_true (by omega)
      have hst := ph2_last ordO l (bs := bs) (a := a) (k := k) (by omega) ha hm (by omega)
      obtain ⟨_, s1, s2, _⟩ := ph2_parts ordO l (bs := bs) (a := a) (b := l.length) (by omega) (by omega) (Nat.le_refl _) (by omega) (.inl rfl) hk
      repeat' (first | (with_reducible first | refine ⟨(_, _, _), _, _, ⟨(by with_unfolding_all exact rfl), (.cons (.v _) (.cons (.v _) (.cons (.v _) (.cons (.fn _) .nil)))), ?_, fun _ => (by with_unfolding_all exact rfl)⟩, ?_⟩ | refine ex_of (α := Nat) (2 * bs) ⟨⟨?_, ?_⟩, ?_⟩ ?_ | refine And.intro ?_ ?_) | ((with_reducible intro hq); first | exact bne1 hq (by with_reducible assumption) | exact bne1 (by with_reducible assumption) hq | (revert hq; with_reducible intro _)) | (with_reducible first | exact True.intro | rfl | refine EntLe.row ?_) | ((with_reducible first | refine Wk.chk ?_ | refine Run.mk ?_); (conv => whnf)))
      all_goals (try simp only [ncast, e1, e2, e3, e4, hst, hpl])
      all_goals first
        | omega
        | assumption
        | (apply Fits.i64 <;> omega)
    · have hlt2 : decide (((a : Nat) : Int) + (bs : Int) < (l.length : Int)) = false := decide_eq_false (by omega)
      have hst := ph2_end (lt := ltO) l (bs := bs) (a := a) (k := k) (by omega) ha hk (by omega)
      repeat' (first | (with_reducible first | refine ex_of (α := Nat) (2 * bs) ⟨⟨?_, ?_⟩, ?_⟩ ?_ | refine And.intro ?_ ?_) | ((with_reducible intro hq); first | exact bne1 hq (by with_reducible assumption) | (revert hq; with_reducible intro _)) | (with_reducible first | exact True.intro | rfl | refine EntLe.row ?_ | assumption) | ((with_reducible first | refine Wk.chk ?_ | refine Run.mk ?_); (conv => whnf)))
      all_goals (try simp only [ncast, e1, e2, e3, e4, hst, hpl])
      all_goals first
        | omega
        | (apply Fits.i64 <;> omega)
  have hlt : decide ((bs : Int) < (l.length : Int)) = false := decide_eq_false (by omega)
  have hend := bsort_small (lt := ltO) (bs := bs) (l := l) (by omega)
  repeat' (first | (with_reducible refine And.intro ?_ ?_) | ((with_reducible intro hq); first | exact bne1 hq (by with_reducible assumption) | (revert hq; with_reducible intro _)) | (with_reducible rfl) | ((with_reducible refine Run.mk ?_); (conv => whnf)))
  all_goals first
    | rfl
    | (refine ⟨_, _, rfl, ?_⟩; exact hend)
theorem conW_sortStable : ConW prog 68 C_spn 50 (fun _ : Unit => [.fn 69 []]) (fun _ l => isort ltO l) (fun _ l => l.length ≤ 1100000) := by
  refine ConW.of (by kernel_rfl) T_ok CdsOK.nil (.conw conW_stable .nil) 3 [] q_sortStableS.1 q_sortStableS.2.1 q_sortStableS.2.2 (fun _ => rfl) (fun _ => .cons (.fn _) .nil) fun n l hi => ?_
  have hl : l.length ≤ 1100000 := hi
  repeat' (first | (with_reducible first | refine ⟨_, _, _, ⟨(by with_unfolding_all exact rfl), (.cons (.v _) (.cons (.fn _) .nil)), ?_, fun _ => (by with_unfolding_all exact rfl)⟩, ?_⟩ | refine And.intro ?_ ?_ | rfl | assumption) | ((with_reducible refine Run.mk ?_); (conv => whnf)))
  all_goals first
    | rfl
    | exact ⟨_, _, rfl, rfl⟩
end Go.SX.Try
/- Contract of style's order of a text's spans. -/
namespace Go.SX.Try
open Go.Proofs Go.Proofs.Try Go.SX.Plain
set_option maxRecDepth 100000
set_option maxHeartbeats 0
set_option linter.unusedSimpArgs false
theorem q_clone : fact 67 f67 := ⟨by kernel_rfl, rfl, by kernel_rfl⟩
theorem q_souter : fact 58 f58 := ⟨by kernel_rfl, rfl, by kernel_rfl⟩
abbrev spR (l : List Spn) : AV := .ro 4 C_spn.enc C_spn.d l none true
abbrev spO (l : List Spn) : AV := .ro 4 C_spn.enc C_spn.d l none
abbrev txAV (s : ByteArray) (l : List Spn) : AV := .agg [.v (.string s), spR l]
def D_spn : Cds := [(50, ⟨Spn, C_spn⟩)]
theorem D_spn_ok : CdsOK T D_spn := .cons ⟨fun _ => rfl, by decide, _, rfl, rfl, by decide⟩ .nil
theorem con_souter : Con prog 58 (fun ((s, l) : ByteArray × List Spn) => [txAV s l]) (fun (_, l) => spO (isort ltO l)) (fun (_, l) => l.length ≤ 1100000) := by
  refine Con.of (by kernel_rfl) T_ok D_spn_ok (.inl (J := []) q_clone.1 q_clone.2.1 q_clone.2.2 (.conw conW_sortStable .nil)) 5 [] q_souter.1 q_souter.2.1 q_souter.2.2 (fun _ => rfl) fun i hi => ?_
  obtain ⟨s, l⟩ := i
  have hl : l.length ≤ 1100000 := hi
  repeat' (first | (with_reducible first | refine ⟨(), _, _, ⟨(by with_unfolding_all exact rfl), (.cons (.fn _) .nil), ?_, fun _ => (by with_unfolding_all exact rfl)⟩, ?_⟩ | refine ex_of (α := List Spn) l ⟨rfl, rfl, fun _ => rfl⟩ ?_ | exact fun h => h | refine ExE.row (by with_unfolding_all rfl) ?_ | refine And.intro ?_ ?_) | ((with_reducible intro hq); first | exact bne1 hq (by with_reducible assumption) | exact bne1 (by with_reducible assumption) hq | ((simp only [*, BB, cond_true, cond_false, reduceCtorEq] at hq); done) | (revert hq; with_reducible intro _)) | (with_reducible first | exact True.intro | rfl | refine EntLe.row ?_ | exact LeN.ro rfl | exact LeN.rptr | assumption) | ((with_reducible first | refine WkX.chk ?_ | refine Wk.chk ?_ | refine LeL.chk ?_ | refine LeF.chk ?_ | refine Run.mk ?_); (conv => whnf)) | ((with_reducible show LeO _ _); first | refine LeO.ro ?_ | refine LeO.roCap ?_ | refine LeO.nil ?_ (fun _ => rfl)) | ((with_reducible show LeR _ _ _); first | refine LeR.own rfl rfl rfl ?_ | refine LeR.view rfl rfl rfl ?_ ?_ | refine LeR.ro ?_ | refine LeR.roCap ?_ | refine LeR.nil ?_ (fun _ => rfl)) | ((with_reducible first | show drawOK _ _ = true | show lateOK _ _ = true | show drawOK2 _ _ = true | show drawOK3 _ _ = true); kernel_rfl))
  all_goals first
    | rfl
    | assumption
    | (show (0 + l.length) * 32 ≤ 140737488355328; omega)
    | (show ([] : List Spn).length ≤ 1100000; decide)
    | (obtain rfl : l = [] := (by assumption : _ → l = []) (by assumption)
       rfl)
    | trace_state
end Go.SX.Try
/- Chapter 7, told plainly: which spans are right, how signs look. No program here. -/
namespace Go.SX.Plain
structure Atr where
  bold : Bool
  italic : Bool
  under : Bool
  strike : Bool
  colour : Int
  deriving DecidableEq
abbrev zA : Atr := ⟨false, false, false, false, 0⟩
def withinB (x y : Spn) : Bool := decide (y.frm ≤ x.frm) && decide (x.to ≤ y.to)
def crossB (x y : Spn) : Bool := decide (x.frm < y.to) && decide (y.frm < x.to) && !withinB x y && !withinB y x
def rightB (x : Spn) (n : Int) : Bool := decide (0 ≤ x.frm) && decide (x.frm < x.to) && decide (x.to ≤ n) && decide (1 ≤ x.kind) && decide (x.kind ≤ 5) && (if x.kind = 5 then decide (0 ≤ x.val) && decide (x.val ≤ 16777215) else decide (x.val = 0))
def aloneTo (l : List Spn) (x : Spn) (k : Nat) : Bool := (l.take k).all fun y => !crossB x y
def okTo (l : List Spn) (n : Int) : Nat → Bool
  | 0 => true
  | i + 1 => okTo l n i && rightB (l.getD i zS) n && aloneTo l (l.getD i zS) i
def spansB (l : List Spn) (n : Int) : Bool := okTo l n l.length
def chkN (size : Nat) (l : List Spn) (n : Int) : Int := if 4096 < size then 3 else if 256 < l.length then 2 else if spansB l n then 0 else 23
theorem okTo_mono {l : List Spn} {n : Int} {i j : Nat} (h : i ≤ j) (hj : okTo l n j = true) : okTo l n i = true := by
  induction j with
  | zero => obtain rfl : i = 0 := by omega
            exact hj
  | succ j ih =>
    rcases Nat.lt_or_ge i (j + 1) with h1 | h1
    · rw [okTo, Bool.and_eq_true, Bool.and_eq_true] at hj
      exact ih (by omega) hj.1.1
    · obtain rfl : i = j + 1 := by omega
      exact hj
theorem okTo_false {l : List Spn} {n : Int} {i j : Nat} (h : i ≤ j) (hi : okTo l n i = false) : okTo l n j = false := by
  cases hj : okTo l n j with
  | false => rfl
  | true => rw [okTo_mono h hj] at hi; cases hi
theorem okTo_at {l : List Spn} {n : Int} {i j : Nat} (h : i < j) (hj : okTo l n j = true) : rightB (l.getD i zS) n = true ∧ aloneTo l (l.getD i zS) i = true := by
  have := okTo_mono (show i + 1 ≤ j from h) hj
  rw [okTo, Bool.and_eq_true, Bool.and_eq_true] at this
  exact ⟨this.1.2, this.2⟩
theorem aloneTo_succ {l : List Spn} {x : Spn} {k : Nat} (hk : k < l.length) : aloneTo l x (k + 1) = (aloneTo l x k && !crossB x (l.getD k zS)) := by
  unfold aloneTo
  rw [← take_one l zS hk, List.all_append]
  simp
theorem aloneTo_false {l : List Spn} {x : Spn} {i j : Nat} (h : i ≤ j) (hi : aloneTo l x i = false) : aloneTo l x j = false := by
  unfold aloneTo at *
  rw [List.all_eq_false] at *
  obtain ⟨y, h1, h2⟩ := hi
  exact ⟨y, (List.take_subset_take_left l h) h1, h2⟩
theorem spans_right {l : List Spn} {n : Int} (h : spansB l n = true) {x : Spn} (hx : x ∈ l) : rightB x n = true := by
  obtain ⟨i, hi, rfl⟩ := List.getElem_of_mem hx
  have := (okTo_at hi h).1
  simpa [List.getD_eq_getElem?_getD, hi] using this
theorem right_bd {x : Spn} {n : Int} (h : rightB x n = true) : (0 ≤ x.frm ∧ x.frm < x.to ∧ x.to ≤ n) ∧ (1 ≤ x.kind ∧ x.kind ≤ 5) ∧ 0 ≤ x.val ∧ x.val ≤ 16777215 := by
  unfold rightB at h
  simp only [Bool.and_eq_true, decide_eq_true_eq] at h
  obtain ⟨⟨⟨⟨⟨h1, h2⟩, h3⟩, h4⟩, h5⟩, h6⟩ := h
  refine ⟨⟨h1, h2, h3⟩, ⟨h4, h5⟩, ?_⟩
  split at h6
  · simpa using h6
  · rw [decide_eq_true_eq] at h6; omega
def setA (a : Atr) (x : Spn) : Atr :=
  if x.kind = 1 then { a with bold := true } else if x.kind = 2 then { a with italic := true } else if x.kind = 3 then { a with under := true } else if x.kind = 4 then { a with strike := true } else { a with colour := x.val + 1 }
def pntTo (l : List Atr) (x : Spn) (a i : Nat) : List Atr := l.take a ++ ((seg l a i).map (fun z => setA z x) ++ l.drop i)
def pnt (l : List Atr) (x : Spn) : List Atr := pntTo l x x.frm.toNat x.to.toNat
def lookTo (n : Nat) (l : List Spn) (i : Nat) : List Atr := (l.take i).foldl pnt (List.replicate n zA)
def looksL (n : Nat) (l : List Spn) : List Atr := lookTo n (isort ltO l) (isort ltO l).length
def InL (l : List Spn) (n : Nat) : Prop := ∀ x ∈ l, 0 ≤ x.frm ∧ x.frm < x.to ∧ x.to ≤ n
theorem InL.at {l : List Spn} {n : Nat} (h : InL l n) {i : Nat} (hi : i < l.length) : 0 ≤ (l.getD i zS).frm ∧ (l.getD i zS).frm < (l.getD i zS).to ∧ (l.getD i zS).to ≤ n := by
  have := h l[i] (List.getElem_mem hi)
  simpa [List.getD_eq_getElem?_getD, hi] using this
theorem InL.isort {l : List Spn} {n : Nat} (h : InL l n) : InL (isort ltO l) n := fun x hx => by
  rcases mem_mrg.1 hx with h1 | h1
  · cases h1
  · exact h x h1
theorem spans_in {l : List Spn} {n : Nat} (h : spansB l n = true) : InL l n := fun _ hx => (right_bd (spans_right h hx)).1
def hasS (k : Nat) (x : Spn) : Bool := decide (x.frm ≤ k) && decide ((k : Int) < x.to)
def lookF (k : Nat) (l : List Spn) : Atr := (l.filter (hasS k)).foldl setA zA
end Go.SX.Plain
/- Chapter 7, told plainly: the innermost colour; the document's way of telling a look. No program here. -/
namespace Go.SX.Plain
section
variable {α : Type} {lt : α → α → Bool}
def innS (x : Spn) : Option Spn → Option Spn
  | none => some x
  | some y => if withinB x y = true then some x else some y
end
def colB (x : Spn) : Bool := !(decide (x.kind = 1) || decide (x.kind = 2) || decide (x.kind = 3) || decide (x.kind = 4))
def colS (a : Atr) (o : Option Spn) (x : Spn) : Atr × Option Spn := match o with
  | none => (setA a x, some x)
  | some y => if withinB x y = true then (setA a x, some x) else (a, o)
def refS (k : Nat) (s : Atr × Option Spn) (x : Spn) : Atr × Option Spn :=
  if hasS k x = true then (if colB x = true then colS s.1 s.2 x else (setA s.1 x, s.2)) else s
def refF (k : Nat) (l : List Spn) : Atr × Option Spn := l.foldl (refS k) (zA, none)
end Go.SX.Plain
/- Clusters, told plainly: the way the program goes about it. No program here. -/
namespace Go.SX.Plain

structure Clu where
  «at» : Int
  len : Int
  frm : Int
  to : Int
  cells : Int
  deriving DecidableEq
structure Grp where
  c : Clu
  first : Int
  last : Int
  arrow : Bool
def Grp.zero : Grp := ⟨⟨0, 0, 0, 0, 0⟩, 0, 0, false⟩
def takesB (g : Grp) (r : Int) : Bool :=
  if widthI r = 0 ∧ controlB r = false then !controlB g.first
  else if flagB r = true then flagB g.first && decide (g.c.to - g.c.frm = 1)
  else decide (widthI r = 2) && decide (g.last = 0x200D) && decide (widthI g.first = 2)
def addG (g : Grp) (r n : Int) : Grp :=
  if g.c.to = g.c.frm then ⟨⟨g.c.at, g.c.len + n, g.c.frm, g.c.to + 1, widthI r⟩, r, r, decide (0x2190 ≤ r) && decide (r ≤ 0x2BFF)⟩
  else if flagB r = true ∨ (g.arrow = true ∧ r = 0xFE0F) then ⟨⟨g.c.at, g.c.len + n, g.c.frm, g.c.to + 1, 2⟩, g.first, r, g.arrow⟩
  else ⟨⟨g.c.at, g.c.len + n, g.c.frm, g.c.to + 1, g.c.cells⟩, g.first, r, g.arrow⟩
def signOut (begun : Bool) (g : Grp) (was : Int) : List Clu := if begun = true ∧ takesB g was = false then [g.c] else []
def signGrp (begun : Bool) (g : Grp) (at' was e : Int) : Grp :=
  if begun = true ∧ takesB g was = false then addG ⟨⟨at', 0, g.c.to, g.c.to, 0⟩, 0, 0, false⟩ was (e - at') else addG g was (e - at')
def restGo (s : ByteArray) : Nat → Nat → Int → Int → Bool → Grp → List Clu
  | 0, _, at', was, begun, g => if s.size = 0 then [] else signOut begun g was ++ [(signGrp begun g at' was s.size).c]
  | k + 1, pos, at', was, begun, g =>
    if pos < s.size then
      if 0 < pos then signOut begun g was ++ restGo s k (pos + (Utf8.decode s pos).2) pos (Utf8.decode s pos).1 true (signGrp begun g at' was pos)
      else restGo s k (pos + (Utf8.decode s pos).2) pos (Utf8.decode s pos).1 begun g
    else if s.size = 0 then [] else signOut begun g was ++ [(signGrp begun g at' was s.size).c]
theorem restGo_fuel (s : ByteArray) : ∀ (k k' pos : Nat) (at' was : Int) (begun : Bool) (g : Grp), s.size - pos ≤ k → s.size - pos ≤ k' → restGo s k pos at' was begun g = restGo s k' pos at' was begun g
  | 0, 0, _, _, _, _, _, _, _ => rfl
  | 0, k' + 1, pos, _, _, _, _, h, _ => by simp only [restGo]; rw [if_neg (show ¬ pos < s.size by omega)]
  | k + 1, 0, pos, _, _, _, _, _, h => by simp only [restGo]; rw [if_neg (show ¬ pos < s.size by omega)]
  | k + 1, k' + 1, pos, at', was, begun, g, h, h' => by
    simp only [restGo]
    split
    · have := width_pos s pos
      rw [restGo_fuel s k k' _ _ _ true _ (by omega) (by omega), restGo_fuel s k k' _ _ _ begun _ (by omega) (by omega)]
    · rfl
def rest (s : ByteArray) (pos : Nat) (at' was : Int) (begun : Bool) (g : Grp) : List Clu := restGo s (s.size - pos) pos at' was begun g
theorem rest_end {s : ByteArray} {pos : Nat} (h : ¬ pos < s.size) (at' was : Int) (begun : Bool) (g : Grp) : rest s pos at' was begun g = if s.size = 0 then [] else signOut begun g was ++ [(signGrp begun g at' was s.size).c] := by
  unfold rest
  rw [show s.size - pos = 0 by omega]
  rfl
theorem rest_step {s : ByteArray} {pos : Nat} (h : pos < s.size) (at' was : Int) (begun : Bool) (g : Grp) : rest s pos at' was begun g =
    if 0 < pos then signOut begun g was ++ rest s (pos + (Utf8.decode s pos).2) pos (Utf8.decode s pos).1 true (signGrp begun g at' was pos)
    else rest s (pos + (Utf8.decode s pos).2) pos (Utf8.decode s pos).1 begun g := by
  unfold rest
  obtain ⟨k, hk⟩ : ∃ k, s.size - pos = k + 1 := ⟨s.size - pos - 1, by omega⟩
  rw [hk]
  simp only [restGo]
  rw [if_pos h]
  have := width_pos s pos
  rw [restGo_fuel s k (s.size - (pos + (Utf8.decode s pos).2)) _ _ _ true _ (by omega) (Nat.le_refl _), restGo_fuel s k (s.size - (pos + (Utf8.decode s pos).2)) _ _ _ begun _ (by omega) (Nat.le_refl _)]
def clusters (s : ByteArray) : List Clu := rest s 0 0 0 false Grp.zero
end Go.SX.Plain
/- The parts of a text, told plainly. No program here. -/
namespace Go.SX.Plain

structure Part where
  c : Clu
  first : Int
  fin : Bool
  blank : Bool
  wide : Bool
  dash : Bool
  opening : Bool
  closing : Bool
def blanks : ByteArray := { data := #[9, 32, 225, 154, 128, 226, 129, 159, 227, 128, 128] }
def dashes : ByteArray := { data := #[45, 226, 128, 144, 226, 128, 146, 226, 128, 147, 226, 128, 148] }
def openings : ByteArray := { data := #[40, 91, 123, 227, 128, 136, 227, 128, 138, 227, 128, 140, 227, 128, 142, 227, 128, 144, 227, 128, 148, 239, 188, 136, 239, 188, 187, 239, 189, 155] }
def closings : ByteArray := { data := #[33, 41, 44, 46, 58, 59, 63, 93, 125, 227, 128, 129, 227, 128, 130, 227, 128, 137, 227, 128, 139, 227, 128, 141, 227, 128, 143, 227, 128, 145, 227, 128, 149, 227, 131, 188, 239, 188, 129, 239, 188, 137, 239, 188, 140, 239, 188, 142, 239, 188, 154, 239, 188, 155, 239, 188, 159, 239, 188, 189, 239, 189, 157] }
def firstOf (s : ByteArray) (c : Clu) : Int := if 0 < (s.extract c.at.toNat (c.at + c.len).toNat).size then (Utf8.decode (s.extract c.at.toNat (c.at + c.len).toNat) 0).1 else 0
def blankB (r : Int) : Bool := oneB r blanks || (decide (0x2000 ≤ r) && decide (r ≤ 0x2006)) || (decide (0x2008 ≤ r) && decide (r ≤ 0x200A))
def partOfR (c : Clu) (r : Int) : Part := ⟨c, r, r == 10, blankB r, (c.cells == 2) && !blankB r, oneB r dashes, oneB r openings, oneB r closings⟩
def partOf (s : ByteArray) (c : Clu) : Part := partOfR c (firstOf s c)
def parts (s : ByteArray) : List Part := (clusters s).map (partOf s)
def preG (begun : Bool) (g : Grp) (at' was : Int) : Grp := if begun = true ∧ takesB g was = false then ⟨⟨at', 0, g.c.to, g.c.to, 0⟩, 0, 0, false⟩ else g
theorem signGrp_eq (begun : Bool) (g : Grp) (at' was e : Int) : signGrp begun g at' was e = addG (preG begun g at' was) was (e - at') := by unfold signGrp preG; split <;> rfl
theorem takes_1 {a b c d e f l : Int} {ar : Bool} {r : Int} (h : (widthI r == 0 && !controlB r) = true) : (!controlB f) = takesB ⟨⟨a, b, c, d, e⟩, f, l, ar⟩ r := by
  simp only [Bool.and_eq_true, beq_iff_eq, Bool.not_eq_true'] at h
  unfold takesB; rw [if_pos h]
theorem takes_n {r : Int} (h : (widthI r == 0 && !controlB r) = false ∨ (widthI r == 0) = false) : ¬ (widthI r = 0 ∧ controlB r = false) := by
  rintro ⟨h1, h2⟩
  rcases h with h | h <;> simp [h1, h2] at h
theorem takes_2 {a b c d e f l : Int} {ar : Bool} {r : Int} (h : (widthI r == 0 && !controlB r) = false ∨ (widthI r == 0) = false) (hf : flagB r = true) : (flagB f && d - c == 1) = takesB ⟨⟨a, b, c, d, e⟩, f, l, ar⟩ r := by
  unfold takesB; rw [if_neg (takes_n h), if_pos hf, Bool.eq_iff_iff]; simp
theorem takes_3 {a b c d e f l : Int} {ar : Bool} {r : Int} (h : (widthI r == 0 && !controlB r) = false ∨ (widthI r == 0) = false) (hf : flagB r = false) : (widthI r == 2 && l == 8205 && widthI f == 2) = takesB ⟨⟨a, b, c, d, e⟩, f, l, ar⟩ r := by
  unfold takesB; rw [if_neg (takes_n h), if_neg (by simp [hf]), Bool.eq_iff_iff]; simp
theorem takes_4 {a b c d e f l : Int} {ar : Bool} {r : Int} (h : (widthI r == 0 && !controlB r) = false ∨ (widthI r == 0) = false) (hf : flagB r = false) (h2 : (widthI r == 2 && l == 8205) = false) : (bif widthI r == 2 && l == 8205 then false else false) = takesB ⟨⟨a, b, c, d, e⟩, f, l, ar⟩ r := by
  rw [← takes_3 h hf, h2]; rfl
theorem add_1 {a b c d e f l : Int} {ar : Bool} {r n : Int} (h : (d == c) = true) : addG ⟨⟨a, b, c, d, e⟩, f, l, ar⟩ r n = ⟨⟨a, b + n, c, d + 1, widthI r⟩, r, r, decide (0x2190 ≤ r) && decide (r ≤ 0x2BFF)⟩ := by
  unfold addG; rw [if_pos (by simpa using h)]
theorem add_2 {a b c d e f l : Int} {ar : Bool} {r n : Int} (h : (d == c) = false) (h2 : (flagB r || ar && r == 65039) = true) : addG ⟨⟨a, b, c, d, e⟩, f, l, ar⟩ r n = ⟨⟨a, b + n, c, d + 1, 2⟩, f, r, ar⟩ := by
  unfold addG; rw [if_neg (by simpa using h), if_pos (by simpa using h2)]
theorem add_3 {a b c d e f l : Int} {ar : Bool} {r n : Int} (h : (d == c) = false) (h2 : (flagB r || ar && r == 65039) = false) : addG ⟨⟨a, b, c, d, e⟩, f, l, ar⟩ r n = ⟨⟨a, b + n, c, d + 1, e⟩, f, r, ar⟩ := by
  unfold addG; rw [if_neg (by simpa using h), if_neg (by simpa using h2)]
theorem add_inj {a b c d e f l : Int} {ar : Bool} {r n : Int} {a2 b2 c2 d2 e2 f2 l2 : Int} {r2 : Bool} (h : addG ⟨⟨a, b, c, d, e⟩, f, l, ar⟩ r n = ⟨⟨a2, b2, c2, d2, e2⟩, f2, l2, r2⟩) :
    ((d == c) = true → widthI r = e2 ∧ r = f2 ∧ r = l2 ∧ (decide (0x2190 ≤ r) && decide (r ≤ 0x2BFF)) = r2) ∧
    ((d == c) = false → (flagB r || ar && r == 65039) = true → 2 = e2 ∧ f = f2 ∧ r = l2 ∧ ar = r2) ∧
    ((d == c) = false → (flagB r || ar && r == 65039) = false → e = e2 ∧ f = f2 ∧ r = l2 ∧ ar = r2) := by
  refine ⟨fun h1 => ?_, fun h1 h2 => ?_, fun h1 h2 => ?_⟩
  · rw [add_1 h1] at h; simp only [Grp.mk.injEq, Clu.mk.injEq] at h; exact ⟨h.1.2.2.2.2, h.2⟩
  · rw [add_2 h1 h2] at h; simp only [Grp.mk.injEq, Clu.mk.injEq] at h; exact ⟨h.1.2.2.2.2, h.2⟩
  · rw [add_3 h1 h2] at h; simp only [Grp.mk.injEq, Clu.mk.injEq] at h; exact ⟨h.1.2.2.2.2, h.2⟩
structure St40 where
  pos : Nat
  «at» : Int
  was : Int
  begun : Bool
  g : Grp
  l : List Part
def St40.next (s : ByteArray) (i : St40) : St40 :=
  if 0 < i.pos then ⟨i.pos + (Utf8.decode s i.pos).2, i.pos, (Utf8.decode s i.pos).1, true, signGrp i.begun i.g i.at i.was i.pos, i.l ++ (signOut i.begun i.g i.was).map (partOf s)⟩
  else ⟨i.pos + (Utf8.decode s i.pos).2, i.pos, (Utf8.decode s i.pos).1, i.begun, i.g, i.l⟩
structure Inv40 (s : ByteArray) (i : St40) : Prop where
  start : i.pos = 0 → i.begun = false ∧ i.g = Grp.zero ∧ i.at = 0 ∧ i.l = []
  low : 0 < i.pos → 0 ≤ i.at ∧ i.at < i.pos
  place : 0 ≤ i.g.c.at ∧ 0 ≤ i.g.c.len ∧ i.g.c.at + i.g.c.len = i.at
  signs : 0 ≤ i.g.c.frm ∧ i.g.c.frm ≤ i.g.c.to ∧ i.g.c.to ≤ i.at
  full : i.begun = true → i.g.c.frm < i.g.c.to
  told : (i.l.length : Int) ≤ i.g.c.frm
  all : parts s = i.l ++ (rest s i.pos i.at i.was i.begun i.g).map (partOf s)
  bound : i.pos ≤ s.size
theorem Inv40.zero (s : ByteArray) : Inv40 s ⟨0, 0, 0, false, Grp.zero, []⟩ :=
  ⟨fun _ => ⟨rfl, rfl, rfl, rfl⟩, fun h => absurd h (Nat.lt_irrefl _), by simp [Grp.zero], by simp [Grp.zero], by simp, by simp [Grp.zero], by simp [parts, clusters], Nat.zero_le _⟩
theorem width_le {s : ByteArray} {pos : Nat} (h : pos < s.size) : pos + (Utf8.decode s pos).2 ≤ s.size := by
  unfold Utf8.decode
  simp only
  split
  · simp; omega
  · split
    · rename_i h1
      simp only [Bool.and_eq_true, decide_eq_true_eq] at h1
      split <;> simp only <;> omega
    · split
      · rename_i h1
        simp only [Bool.and_eq_true, decide_eq_true_eq] at h1
        split <;> simp only <;> omega
      · split
        · rename_i h1
          simp only [Bool.and_eq_true, decide_eq_true_eq] at h1
          split <;> simp only <;> omega
        · simp only; omega
theorem addG_c (g : Grp) (r n : Int) : (addG g r n).c.at = g.c.at ∧ (addG g r n).c.len = g.c.len + n ∧ (addG g r n).c.frm = g.c.frm ∧ (addG g r n).c.to = g.c.to + 1 := by
  unfold addG
  split
  · exact ⟨rfl, rfl, rfl, rfl⟩
  · split <;> exact ⟨rfl, rfl, rfl, rfl⟩
theorem Inv40.next {s : ByteArray} {i : St40} (h : Inv40 s i) (hp : i.pos < s.size) : Inv40 s (i.next s) := by
  have hw := width_pos s i.pos
  have hl := width_le hp
  obtain ⟨start, low, place, signs, full, told, all, bound⟩ := h
  unfold St40.next
  by_cases h0 : 0 < i.pos
  · rw [if_pos h0]
    obtain ⟨l1, l2⟩ := low h0
    have hrest := rest_step hp i.at i.was i.begun i.g
    rw [if_pos h0] at hrest
    obtain ⟨p1, p2, p3⟩ := place
    obtain ⟨s1, s2, s3⟩ := signs
    by_cases hc : i.begun = true ∧ takesB i.g i.was = false
    · have hg : signGrp i.begun i.g i.at i.was i.pos = addG ⟨⟨i.at, 0, i.g.c.to, i.g.c.to, 0⟩, 0, 0, false⟩ i.was (i.pos - i.at) := by unfold signGrp; rw [if_pos hc]
      have ho : signOut i.begun i.g i.was = [i.g.c] := by unfold signOut; rw [if_pos hc]
      obtain ⟨a1, a2, a3, a4⟩ := addG_c ⟨⟨i.at, 0, i.g.c.to, i.g.c.to, 0⟩, 0, 0, false⟩ i.was (i.pos - i.at)
      simp only at a1 a2 a3 a4
      have hf := full hc.1
      refine ⟨fun h => ?_, fun _ => ?_, ?_, ?_, fun _ => ?_, ?_, ?_, hl⟩
      · simp only at h; omega
      · simp only; omega
      · simp only [hg, a1, a2]; omega
      · simp only [hg, a3, a4]; omega
      · simp only [hg, a3, a4]; omega
      · simp only [hg, a3, ho, List.length_append, List.length_map, List.length_cons, List.length_nil]; omega
      · simp only; rw [all, hrest, List.map_append, List.append_assoc]
    · have hg : signGrp i.begun i.g i.at i.was i.pos = addG i.g i.was (i.pos - i.at) := by unfold signGrp; rw [if_neg hc]
      have ho : signOut i.begun i.g i.was = [] := by unfold signOut; rw [if_neg hc]
      obtain ⟨a1, a2, a3, a4⟩ := addG_c i.g i.was (i.pos - i.at)
      refine ⟨fun h => ?_, fun _ => ?_, ?_, ?_, fun _ => ?_, ?_, ?_, hl⟩
      · simp only at h; omega
      · simp only; omega
      · simp only [hg, a1, a2]; omega
      · simp only [hg, a3, a4]; omega
      · simp only [hg, a3, a4]; omega
      · simp only [hg, a3, ho, List.length_append, List.length_map, List.length_nil]; omega
      · simp only; rw [all, hrest, List.map_append, List.append_assoc]
  · rw [if_neg h0]
    obtain ⟨b1, b2, b3, b4⟩ := start (by omega)
    have hrest := rest_step hp i.at i.was i.begun i.g
    rw [if_neg h0] at hrest
    refine ⟨fun h => ?_, fun _ => ?_, ?_, ?_, fun h => ?_, told, ?_, hl⟩
    · simp only at h; omega
    · simp only; omega
    · simp only [b2, Grp.zero]; omega
    · simp only [b2, Grp.zero]; omega
    · simp only [b1] at h; cases h
    · simp only; rw [all, hrest]
theorem Inv40.pre {s : ByteArray} {i : St40} (h : Inv40 s i) (hp : 0 < i.pos) {g : Grp} (hg : g = preG i.begun i.g i.at i.was) :
    0 ≤ g.c.at ∧ 0 ≤ g.c.len ∧ g.c.at + g.c.len = i.at ∧ 0 ≤ g.c.frm ∧ g.c.frm ≤ g.c.to ∧ g.c.to ≤ i.at := by
  obtain ⟨l1, l2⟩ := h.low hp
  obtain ⟨p1, p2, p3⟩ := h.place
  obtain ⟨s1, s2, s3⟩ := h.signs
  subst hg
  unfold preG
  split
  · simp only; omega
  · omega
theorem St40.next_pos {s : ByteArray} {i : St40} (hp : 0 < i.pos) {g : Grp} {l : List Part} (hg : g = preG i.begun i.g i.at i.was) (hl : l = i.l ++ (signOut i.begun i.g i.was).map (partOf s)) :
    i.next s = ⟨i.pos + (Utf8.decode s i.pos).2, i.pos, (Utf8.decode s i.pos).1, true, addG g i.was (i.pos - i.at), l⟩ := by
  unfold St40.next
  rw [if_pos hp, signGrp_eq, ← hg, ← hl]
theorem St40.next_zero {s : ByteArray} {i : St40} (hp : ¬ 0 < i.pos) : i.next s = ⟨i.pos + (Utf8.decode s i.pos).2, i.pos, (Utf8.decode s i.pos).1, i.begun, i.g, i.l⟩ := by
  unfold St40.next
  rw [if_neg hp]
theorem St40.next_lt {s : ByteArray} {i : St40} (hp : i.pos < s.size) : s.size - (i.next s).pos < s.size - i.pos := by
  have := width_pos s i.pos
  unfold St40.next
  split <;> simp only <;> omega
end Go.SX.Plain
/- The document's signs (chapter 1), plainly: one sign out of bytes. No program here. -/
namespace Go.SX.Plain
def bt (s : ByteArray) (i : Nat) : Int := (bytesL s).getD i 0
theorem bt_nat (s : ByteArray) (i : Nat) : bt s i = ((s.get! i).toNat : Int) := by
  unfold bt
  rw [bytesL_get]
  congr 2
  cases s with
  | mk d =>
    show d.toList.getD i 0 = d[i]!
    simp [List.getD_eq_getElem?_getD, getElem!_def]
    cases d[i]? <;> rfl
theorem bt_bd (s : ByteArray) (i : Nat) : 0 ≤ bt s i ∧ bt s i ≤ 255 := by
  rw [bt_nat]
  have := (s.get! i).toNat_lt
  omega
def longI (c : Int) : Int := if c < 128 then 1 else if 194 ≤ c ∧ c ≤ 223 then 2 else if 224 ≤ c ∧ c ≤ 239 then 3 else if 240 ≤ c ∧ c ≤ 244 then 4 else 0
def secondB (c d : Int) : Bool :=
  if c = 224 then decide (160 ≤ d) && decide (d ≤ 191)
  else if c = 237 then decide (128 ≤ d) && decide (d ≤ 159)
  else if c = 240 then decide (144 ≤ d) && decide (d ≤ 191)
  else if c = 244 then decide (128 ≤ d) && decide (d ≤ 143)
  else decide (128 ≤ d) && decide (d ≤ 191)
def moreB (s : ByteArray) (i : Nat) : Bool := decide (i < s.size) && (decide (128 ≤ bt s i) && decide (bt s i ≤ 191))
structure Sgn where
  «at» : Int
  len : Int
  rune : Int
  bad : Bool
def sgnAt (s : ByteArray) (i : Nat) : Sgn := ⟨i, (Utf8.decode s i).2, (Utf8.decode s i).1, decide (Utf8.decode s i = (65533, 1))⟩
section
variable {s : ByteArray} {i : Nat}
theorem dec_1 (h : longI (bt s i) = 1) : Utf8.decode s i = ((bt s i).toNat, 1) := by
  have hb := bt_bd s i
  have h0 : bt s i < 128 := by
    unfold longI at h
    repeat' split at h
    all_goals omega
  rw [bt_nat] at h0 ⊢
  unfold Utf8.decode
  simp only [Nat.add_zero]
  rw [if_pos (by omega)]
  simp
theorem dec_0 (h : longI (bt s i) = 0) : Utf8.decode s i = (65533, 1) := by
  have hb := bt_bd s i
  have h0 : 128 ≤ bt s i ∧ (bt s i < 194 ∨ 244 < bt s i) := by
    unfold longI at h
    repeat' split at h
    all_goals omega
  rw [bt_nat] at h0
  unfold Utf8.decode Utf8.runeError Utf8.valid
  simp only [Nat.add_zero]
  rw [if_neg (by omega)]
  simp only [Bool.and_eq_true, decide_eq_true_eq, beq_iff_eq, Bool.or_eq_true]
  repeat' split
  all_goals first
    | rfl
    | (exfalso; omega)
theorem second_no (hn : 2 ≤ longI (bt s i)) (h : ¬ i + 1 < s.size ∨ secondB (bt s i) (bt s (i + 1)) = false) : Utf8.decode s i = (65533, 1) := by
  have h0 : 194 ≤ bt s i ∧ bt s i ≤ 244 := by
    unfold longI at hn
    repeat' split at hn
    all_goals omega
  have hs : ¬ i + 1 < s.size ∨ (bt s i = 224 → bt s (i + 1) < 160 ∨ 191 < bt s (i + 1)) ∧ (bt s i = 237 → bt s (i + 1) < 128 ∨ 159 < bt s (i + 1)) ∧ (bt s i = 240 → bt s (i + 1) < 144 ∨ 191 < bt s (i + 1)) ∧ (bt s i = 244 → bt s (i + 1) < 128 ∨ 143 < bt s (i + 1)) ∧
      (bt s i ≠ 224 → bt s i ≠ 237 → bt s i ≠ 240 → bt s i ≠ 244 → bt s (i + 1) < 128 ∨ 191 < bt s (i + 1)) := by
    refine h.imp (fun h => h) fun h => ?_
    unfold secondB at h
    repeat' split at h
    all_goals
      simp only [Bool.and_eq_false_iff, decide_eq_false_iff_not] at h
      refine ⟨?_, ?_, ?_, ?_, ?_⟩ <;> intros <;> omega
  clear h hn
  have hb1 := bt_bd s (i + 1)
  simp only [bt_nat] at h0 hs hb1
  unfold Utf8.decode Utf8.runeError Utf8.valid
  simp only [Nat.add_zero]
  rw [if_neg (by omega)]
  simp only [Bool.and_eq_true, decide_eq_true_eq, beq_iff_eq, Bool.or_eq_true]
  repeat' split
  all_goals first
    | rfl
    | (exfalso; omega)
theorem second_yes (h : secondB (bt s i) (bt s (i + 1)) = true) : 128 ≤ bt s (i + 1) ∧ bt s (i + 1) ≤ 191 ∧ (bt s i = 224 → 160 ≤ bt s (i + 1)) ∧ (bt s i = 237 → bt s (i + 1) ≤ 159) ∧ (bt s i = 240 → 144 ≤ bt s (i + 1)) ∧ (bt s i = 244 → bt s (i + 1) ≤ 143) := by
  unfold secondB at h
  repeat' split at h
  all_goals
    simp only [Bool.and_eq_true, decide_eq_true_eq] at h
    refine ⟨?_, ?_, ?_, ?_, ?_, ?_⟩ <;> intros <;> omega
theorem more_no2 (hn : 3 ≤ longI (bt s i)) (h : moreB s (i + 2) = false) : Utf8.decode s i = (65533, 1) := by
  have h0 : 224 ≤ bt s i ∧ bt s i ≤ 244 := by
    unfold longI at hn
    repeat' split at hn
    all_goals omega
  have hs : ¬ i + 2 < s.size ∨ bt s (i + 2) < 128 ∨ 191 < bt s (i + 2) := by
    unfold moreB at h
    simp only [Bool.and_eq_false_iff, decide_eq_false_iff_not] at h
    omega
  clear h hn
  simp only [bt_nat] at h0 hs
  unfold Utf8.decode Utf8.runeError Utf8.valid
  simp only [Nat.add_zero]
  rw [if_neg (by omega)]
  simp only [Bool.and_eq_true, decide_eq_true_eq, beq_iff_eq, Bool.or_eq_true]
  repeat' split
  all_goals first
    | rfl
    | (exfalso; omega)
theorem more_no3 (hn : 4 ≤ longI (bt s i)) (h : moreB s (i + 3) = false) : Utf8.decode s i = (65533, 1) := by
  have h0 : 240 ≤ bt s i ∧ bt s i ≤ 244 := by
    unfold longI at hn
    repeat' split at hn
    all_goals omega
  have hs : ¬ i + 3 < s.size ∨ bt s (i + 3) < 128 ∨ 191 < bt s (i + 3) := by
    unfold moreB at h
    simp only [Bool.and_eq_false_iff, decide_eq_false_iff_not] at h
    omega
  clear h hn
  simp only [bt_nat] at h0 hs
  unfold Utf8.decode Utf8.runeError Utf8.valid
  simp only [Nat.add_zero]
  rw [if_neg (by omega)]
  simp only [Bool.and_eq_true, decide_eq_true_eq, beq_iff_eq, Bool.or_eq_true]
  repeat' split
  all_goals first
    | rfl
    | (exfalso; omega)
theorem moreB_yes {k : Nat} (h : moreB s k = true) : k < s.size ∧ 128 ≤ bt s k ∧ bt s k ≤ 191 := by
  unfold moreB at h
  simpa [and_assoc] using h
theorem pair_eq {a b n m : Nat} (h : a = b) (h2 : n = m) : (a, n) = (b, m) := by rw [h, h2]
theorem dec_2 (hn : longI (bt s i) = 2) (h1 : i + 1 < s.size) (h2 : secondB (bt s i) (bt s (i + 1)) = true) : Utf8.decode s i = ((bt s (i + 1) - 128 + 64 * (bt s i - 192)).toNat, 2) ∧ 0 ≤ bt s (i + 1) - 128 + 64 * (bt s i - 192) ∧ bt s (i + 1) - 128 + 64 * (bt s i - 192) ≤ 1114111 := by
  have h0 : 194 ≤ bt s i ∧ bt s i ≤ 223 := by
    unfold longI at hn
    repeat' split at hn
    all_goals omega
  obtain ⟨a1, a2, _⟩ := second_yes h2
  refine ⟨?_, by omega, by omega⟩
  clear hn h2
  simp only [bt_nat] at *
  unfold Utf8.decode Utf8.runeError Utf8.valid
  simp only [Nat.add_zero]
  rw [if_neg (by omega)]
  simp only [Bool.and_eq_true, decide_eq_true_eq, beq_iff_eq, Bool.or_eq_true]
  rw [if_pos (by omega), if_pos (by omega)]
  refine pair_eq ?_ rfl
  omega
theorem dec_3 (hn : longI (bt s i) = 3) (h1 : i + 1 < s.size) (h2 : secondB (bt s i) (bt s (i + 1)) = true) (h3 : moreB s (i + 2) = true) :
    Utf8.decode s i = ((64 * (bt s (i + 1) - 128) + (bt s (i + 2) - 128) + 4096 * (bt s i - 224)).toNat, 3) ∧ 0 ≤ 64 * (bt s (i + 1) - 128) + (bt s (i + 2) - 128) + 4096 * (bt s i - 224) ∧ 64 * (bt s (i + 1) - 128) + (bt s (i + 2) - 128) + 4096 * (bt s i - 224) ≤ 1114111 := by
  have h0 : 224 ≤ bt s i ∧ bt s i ≤ 239 := by
    unfold longI at hn
    repeat' split at hn
    all_goals omega
  obtain ⟨a1, a2, a3, a4, _, _⟩ := second_yes h2
  obtain ⟨b1, b2, b3⟩ := moreB_yes h3
  refine ⟨?_, by omega, by omega⟩
  clear hn h2 h3
  simp only [bt_nat] at *
  unfold Utf8.decode Utf8.runeError Utf8.valid
  simp only [Nat.add_zero]
  rw [if_neg (by omega)]
  simp only [Bool.and_eq_true, decide_eq_true_eq, beq_iff_eq, Bool.or_eq_true]
  rw [if_neg (by omega), if_pos (by omega), if_pos (by omega)]
  refine pair_eq ?_ rfl
  omega
theorem dec_4 (hn : longI (bt s i) = 4) (h1 : i + 1 < s.size) (h2 : secondB (bt s i) (bt s (i + 1)) = true) (h3 : moreB s (i + 2) = true) (h4 : moreB s (i + 3) = true) :
    Utf8.decode s i = ((64 * (64 * (bt s (i + 1) - 128) + (bt s (i + 2) - 128)) + (bt s (i + 3) - 128) + 262144 * (bt s i - 240)).toNat, 4) ∧ 0 ≤ 64 * (64 * (bt s (i + 1) - 128) + (bt s (i + 2) - 128)) + (bt s (i + 3) - 128) + 262144 * (bt s i - 240) ∧
      64 * (64 * (bt s (i + 1) - 128) + (bt s (i + 2) - 128)) + (bt s (i + 3) - 128) + 262144 * (bt s i - 240) ≤ 1114111 := by
  have h0 : 240 ≤ bt s i ∧ bt s i ≤ 244 := by
    unfold longI at hn
    repeat' split at hn
    all_goals omega
  obtain ⟨a1, a2, _, _, a5, a6⟩ := second_yes h2
  obtain ⟨b1, b2, b3⟩ := moreB_yes h3
  obtain ⟨c1, c2, c3⟩ := moreB_yes h4
  refine ⟨?_, by omega, by omega⟩
  clear hn h2 h3 h4
  simp only [bt_nat] at *
  unfold Utf8.decode Utf8.runeError Utf8.valid
  simp only [Nat.add_zero]
  rw [if_neg (by omega)]
  simp only [Bool.and_eq_true, decide_eq_true_eq, beq_iff_eq, Bool.or_eq_true]
  rw [if_neg (by omega), if_neg (by omega), if_pos (by omega), if_pos (by omega)]
  refine pair_eq ?_ rfl
  omega
end
theorem longI_cases (c : Int) : longI c = 0 ∨ longI c = 1 ∨ longI c = 2 ∨ longI c = 3 ∨ longI c = 4 := by
  unfold longI
  repeat' split
  all_goals simp
def restR (s : ByteArray) (i : Nat) : Nat → Int
  | 0 => 0
  | 1 => 0
  | 2 => bt s (i + 1) - 128
  | k + 1 => 64 * restR s i k + (bt s (i + k) - 128)
end Go.SX.Plain
/- Clusters as the document finds them, and that the program finds the same. No program here. -/
namespace Go.SX.Plain
def rl (s : ByteArray) : List Int := (signsFrom s 0).map fun p => (p.2 : Int)
def al (s : ByteArray) : List Int := (signsFrom s 0).map (fun p => (p.1 : Int)) ++ [(s.size : Int)]
def joinsB (l : List Int) (f k : Nat) : Bool :=
  if (widthI (l.getD k 0) == 0 && !controlB (l.getD k 0) && !controlB (l.getD f 0)) = true then true
  else if (widthI (l.getD k 0) == 2 && l.getD (k - 1) 0 == 8205 && widthI (l.getD f 0) == 2) = true then true
  else flagB (l.getD k 0) && decide (k = f + 1) && flagB (l.getD f 0)
def arrowB (r : Int) : Bool := decide (0x2190 ≤ r) && decide (r ≤ 0x2BFF)
def variant (l : List Int) (f : Nat) : Nat → Bool
  | 0 => false
  | k + 1 => variant l f k || (decide (f < k) && l.getD k 0 == 65039)
def cellsR (l : List Int) (f t : Nat) : Int :=
  if 1 < t - f ∧ flagB (l.getD f 0) = true ∧ flagB (l.getD (f + 1) 0) = true then 2
  else if arrowB (l.getD f 0) = true ∧ variant l f t = true then 2
  else widthI (l.getD f 0)
def gAt (l a : List Int) (f t : Nat) : Grp := ⟨⟨a.getD f 0, a.getD t 0 - a.getD f 0, f, t, cellsR l f t⟩, l.getD f 0, l.getD (t - 1) 0, arrowB (l.getD f 0)⟩
def remGo (l a : List Int) : Nat → Nat → Nat → List Clu
  | 0, f, t => [(gAt l a f t).c]
  | k + 1, f, t => if t < l.length then (if joinsB l f t = true then remGo l a k f (t + 1) else (gAt l a f t).c :: remGo l a k t (t + 1)) else [(gAt l a f t).c]
def rem (l a : List Int) (f t : Nat) : List Clu := remGo l a (l.length - t) f t
theorem rem_join {l a : List Int} {f t : Nat} (h : t < l.length) (hj : joinsB l f t = true) : rem l a f t = rem l a f (t + 1) := by
  unfold rem
  rw [show l.length - t = (l.length - (t + 1)) + 1 by omega]
  simp only [remGo]
  rw [if_pos h, if_pos hj]
theorem rem_part {l a : List Int} {f t : Nat} (h : t < l.length) (hj : joinsB l f t = false) : rem l a f t = (gAt l a f t).c :: rem l a t (t + 1) := by
  unfold rem
  rw [show l.length - t = (l.length - (t + 1)) + 1 by omega]
  simp only [remGo]
  rw [if_pos h, if_neg (by rw [hj]; exact Bool.false_ne_true)]
theorem rem_end {l a : List Int} {f t : Nat} (h : ¬ t < l.length) : rem l a f t = [(gAt l a f t).c] := by
  unfold rem
  rw [show l.length - t = 0 by omega]
  rfl
theorem flag_width {r : Int} (h : flagB r = true) : widthI r = 1 ∧ controlB r = false := by
  unfold flagB at h
  have h := of_decide_eq_true h
  unfold flagP at h
  have h1 : nothingB r = false := by
    unfold nothingB
    refine decide_eq_false ?_
    unfold nothingP
    omega
  have h2 : wideB r = false := by
    unfold wideB
    refine decide_eq_false ?_
    unfold wideP
    omega
  refine ⟨by unfold widthI; rw [h1, h2]; rfl, ?_⟩
  unfold controlB
  refine decide_eq_false ?_
  unfold controlP
  omega
theorem flag_arrow {r : Int} (h : flagB r = true) : arrowB r = false := by
  unfold flagB at h
  have h := of_decide_eq_true h
  unfold flagP at h
  unfold arrowB
  simp only [Bool.and_eq_false_iff, decide_eq_false_iff_not]
  omega
theorem takes_joins (l a : List Int) {f t : Nat} (h : f < t) : takesB (gAt l a f t) (l.getD t 0) = joinsB l f t := by
  unfold takesB joinsB gAt
  simp only
  generalize l.getD t 0 = r
  generalize l.getD f 0 = x
  generalize l.getD (t - 1) 0 = z
  by_cases h0 : widthI r = 0 ∧ controlB r = false
  · have hf : flagB r = false := by
      cases hc : flagB r with
      | false => rfl
      | true => have := (flag_width hc).1; omega
    rw [if_pos h0, h0.1, h0.2, hf]
    cases controlB x <;> simp
  · rw [if_neg h0, if_neg (show ¬ (widthI r == 0 && !controlB r && !controlB x) = true by
      intro hc
      simp only [Bool.and_eq_true, beq_iff_eq, Bool.not_eq_true'] at hc
      exact h0 hc.1)]
    cases hc : flagB r with
    | true =>
      have := (flag_width hc).1
      rw [if_pos rfl, if_neg (show ¬ (widthI r == 2 && z == 8205 && widthI x == 2) = true by rw [this]; simp)]
      rw [Bool.eq_iff_iff]
      simp only [Bool.and_eq_true, decide_eq_true_eq, true_and]
      constructor
      · rintro ⟨h1, h2⟩; exact ⟨by omega, h1⟩
      · rintro ⟨h1, h2⟩; exact ⟨h2, by omega⟩
    | false =>
      rw [if_neg Bool.false_ne_true, Bool.eq_iff_iff]
      simp
theorem joins_flag {l : List Int} {f t : Nat} (hj : joinsB l f t = true) (hf : flagB (l.getD t 0) = true) : t = f + 1 ∧ flagB (l.getD f 0) = true := by
  have h1 := flag_width hf
  unfold joinsB at hj
  rw [if_neg (by rw [h1.1]; simp), if_neg (by rw [h1.1]; simp)] at hj
  simp only [Bool.and_eq_true, decide_eq_true_eq] at hj
  exact ⟨hj.1.2, hj.2⟩
theorem variant_one (l : List Int) (f : Nat) : ∀ k, k ≤ f + 1 → variant l f k = false
  | 0, _ => rfl
  | k + 1, h => by
    simp only [variant]
    rw [variant_one l f k (by omega)]
    simp only [Bool.false_or, Bool.and_eq_false_iff, decide_eq_false_iff_not]
    exact .inl (by omega)
theorem add_one (l a : List Int) (f : Nat) : addG ⟨⟨a.getD f 0, 0, f, f, 0⟩, 0, 0, false⟩ (l.getD f 0) (a.getD (f + 1) 0 - a.getD f 0) = gAt l a f (f + 1) := by
  unfold addG gAt
  rw [if_pos rfl]
  have hc : cellsR l f (f + 1) = widthI (l.getD f 0) := by
    unfold cellsR
    rw [if_neg (by omega), if_neg (by rw [variant_one l f _ (Nat.le_refl _)]; simp)]
  rw [hc]
  simp only [arrowB, Int.zero_add, Nat.add_sub_cancel]
  rfl
theorem cellsR_np {l : List Int} {f : Nat} (h : ¬ (flagB (l.getD f 0) = true ∧ flagB (l.getD (f + 1) 0) = true)) (t : Nat) : cellsR l f t = if arrowB (l.getD f 0) = true ∧ variant l f t = true then 2 else widthI (l.getD f 0) := by
  unfold cellsR
  rw [if_neg (fun h2 => h h2.2)]
theorem add_more (l a : List Int) {f t : Nat} (h : f < t) (hj : joinsB l f t = true) : addG (gAt l a f t) (l.getD t 0) (a.getD (t + 1) 0 - a.getD t 0) = gAt l a f (t + 1) := by
  have hne : ¬ ((t : Int) = f) := by omega
  have hcells : cellsR l f (t + 1) = if flagB (l.getD t 0) = true ∨ (arrowB (l.getD f 0) = true ∧ l.getD t 0 = 0xFE0F) then 2 else cellsR l f t := by
    by_cases hf : flagB (l.getD t 0) = true
    · obtain ⟨rfl, hff⟩ := joins_flag hj hf
      rw [if_pos (.inl hf)]
      unfold cellsR
      rw [if_pos ⟨by omega, hff, hf⟩]
    · by_cases hp : flagB (l.getD f 0) = true ∧ flagB (l.getD (f + 1) 0) = true
      · have ht : t ≠ f + 1 := fun e => hf (e ▸ hp.2)
        have hna := flag_arrow hp.1
        rw [if_neg (by rintro (h1 | h1); exact hf h1; rw [hna] at h1; exact absurd h1.1 Bool.false_ne_true)]
        unfold cellsR
        rw [if_pos ⟨by omega, hp⟩, if_pos ⟨by omega, hp⟩]
      · rw [cellsR_np hp, cellsR_np hp]
        by_cases ha : arrowB (l.getD f 0) = true
        · by_cases hv : l.getD t 0 = 0xFE0F
          · have hvar : variant l f (t + 1) = true := by
              simp only [variant, hv]
              simp [h]
            have h1 : arrowB (l.getD f 0) = true ∧ variant l f (t + 1) = true := ⟨ha, hvar⟩
            have h2 : flagB (l.getD t 0) = true ∨ (arrowB (l.getD f 0) = true ∧ l.getD t 0 = 0xFE0F) := .inr ⟨ha, hv⟩
            rw [if_pos h1, if_pos h2]
          · have h2 : ¬ (flagB (l.getD t 0) = true ∨ (arrowB (l.getD f 0) = true ∧ l.getD t 0 = 0xFE0F)) := fun h => h.elim hf fun h => hv h.2
            have : variant l f (t + 1) = variant l f t := by
              simp only [variant]
              have : (l.getD t 0 == 65039) = false := by simpa using hv
              rw [this]; simp
            rw [this, if_neg h2]
        · have h1 : ¬ (arrowB (l.getD f 0) = true ∧ variant l f (t + 1) = true) := fun h => ha h.1
          have h2 : ¬ (flagB (l.getD t 0) = true ∨ (arrowB (l.getD f 0) = true ∧ l.getD t 0 = 0xFE0F)) := fun h => h.elim hf fun h => ha h.1
          have h3 : ¬ (arrowB (l.getD f 0) = true ∧ variant l f t = true) := fun h => ha h.1
          rw [if_neg h1, if_neg h2, if_neg h3]
  unfold addG
  rw [if_neg (by simp only [gAt]; exact hne)]
  have hs : (if flagB (l.getD t 0) = true ∨ ((gAt l a f t).arrow = true ∧ l.getD t 0 = 0xFE0F) then (2 : Int) else (gAt l a f t).c.cells) = cellsR l f (t + 1) := hcells.symm
  have hlen : a.getD t 0 - a.getD f 0 + (a.getD (t + 1) 0 - a.getD t 0) = a.getD (t + 1) 0 - a.getD f 0 := by omega
  split
  · rename_i hc
    rw [if_pos hc] at hs
    simp only [gAt] at hs ⊢
    rw [← hs]
    simp only [hlen, Nat.add_sub_cancel]
    rfl
  · rename_i hc
    rw [if_neg hc] at hs
    simp only [gAt] at hs ⊢
    rw [hs]
    simp only [hlen, Nat.add_sub_cancel]
    rfl

def nextPos (s : ByteArray) : List (Nat × Nat) → Nat
  | [] => s.size
  | p :: _ => p.1
def procL (s : ByteArray) : List (Nat × Nat) → Bool → Grp → List Clu
  | [], b, g => if b = true then [g.c] else []
  | (p, r) :: t, b, g => signOut b g r ++ procL s t true (signGrp b g p r (nextPos s t))
theorem rest_proc (s : ByteArray) : ∀ (k pos : Nat) (a w : Nat) (b : Bool) (g : Grp), s.size - pos ≤ k → 0 < pos → pos ≤ s.size → rest s pos a w b g = procL s ((a, w) :: signsFrom s pos) b g
  | k, pos, a, w, b, g, hk, h0, hp => by
    by_cases h : pos < s.size
    · obtain ⟨k', rfl⟩ : ∃ k', k = k' + 1 := ⟨k - 1, by omega⟩
      have hw := width_pos s pos
      have hl := width_le h
      rw [rest_step h, if_pos h0, signsFrom_step h, rest_proc s k' _ _ _ _ _ (by omega) (by omega) hl]
      rfl
    · rw [rest_end h, if_neg (by omega), signsFrom_end h]
      rfl
theorem clusters_proc (s : ByteArray) : clusters s = procL s (signsFrom s 0) false Grp.zero := by
  unfold clusters
  by_cases h : 0 < s.size
  · have hl := width_le h
    have hw := width_pos s 0
    rw [rest_step h, if_neg (Nat.lt_irrefl _), signsFrom_step h]
    have := rest_proc s s.size (0 + (Utf8.decode s 0).2) 0 (Utf8.decode s 0).1 false Grp.zero (by omega) (by omega) hl
    exact this
  · rw [rest_end h, if_pos (by omega), signsFrom_end h]
    rfl
theorem rl_len (s : ByteArray) : (rl s).length = (signsFrom s 0).length := by simp [rl]
theorem al_len (s : ByteArray) : (al s).length = (signsFrom s 0).length + 1 := by simp [al]
theorem rl_get (s : ByteArray) {i : Nat} (h : i < (signsFrom s 0).length) : (rl s).getD i 0 = ((signsFrom s 0)[i]).2 := by
  simp [rl, List.getD_eq_getElem?_getD, h]
theorem al_get (s : ByteArray) {i : Nat} (h : i < (signsFrom s 0).length) : (al s).getD i 0 = ((signsFrom s 0)[i]).1 := by
  simp [al, List.getD_eq_getElem?_getD, List.getElem?_append, h]
theorem al_next (s : ByteArray) {i : Nat} (h : i ≤ (signsFrom s 0).length) : (al s).getD i 0 = nextPos s ((signsFrom s 0).drop i) := by
  by_cases hi : i < (signsFrom s 0).length
  · rw [al_get s hi, List.drop_eq_getElem_cons hi]; rfl
  · have : i = (signsFrom s 0).length := by omega
    rw [List.drop_of_length_le (by omega)]
    simp [al, List.getD_eq_getElem?_getD, this, nextPos]
theorem proc_rem (s : ByteArray) : ∀ (k f t : Nat), (signsFrom s 0).length - t ≤ k → f < t → t ≤ (signsFrom s 0).length → procL s ((signsFrom s 0).drop t) true (gAt (rl s) (al s) f t) = rem (rl s) (al s) f t
  | k, f, t, hk, hf, ht => by
    by_cases h : t < (signsFrom s 0).length
    · obtain ⟨k', rfl⟩ : ∃ k', k = k' + 1 := ⟨k - 1, by omega⟩
      have hr := rl_get s h
      have ha := al_get s h
      have hn := al_next s (i := t + 1) h
      rw [List.drop_eq_getElem_cons h]
      obtain ⟨hd, hd2⟩ : ∃ q, q = (signsFrom s 0)[t] := ⟨_, rfl⟩
      rw [← hd2] at hr ha ⊢
      obtain ⟨p, r⟩ := hd
      simp only at hr ha
      simp only [procL]
      rw [← hr, ← ha, ← hn]
      have htj := takes_joins (rl s) (al s) hf (t := t)
      cases hj : joinsB (rl s) f t with
      | true =>
        have ho : signOut true (gAt (rl s) (al s) f t) ((rl s).getD t 0) = [] := by unfold signOut; rw [htj, hj]; simp
        have hg : signGrp true (gAt (rl s) (al s) f t) ((al s).getD t 0) ((rl s).getD t 0) ((al s).getD (t + 1) 0) = gAt (rl s) (al s) f (t + 1) := by
          unfold signGrp
          rw [if_neg (by rw [htj, hj]; simp)]
          exact add_more _ _ hf hj
        rw [ho, hg, List.nil_append, rem_join (by rw [rl_len]; exact h) hj]
        exact proc_rem s k' f (t + 1) (by omega) (by omega) h
      | false =>
        have ho : signOut true (gAt (rl s) (al s) f t) ((rl s).getD t 0) = [(gAt (rl s) (al s) f t).c] := by unfold signOut; rw [htj, hj]; simp
        have hg : signGrp true (gAt (rl s) (al s) f t) ((al s).getD t 0) ((rl s).getD t 0) ((al s).getD (t + 1) 0) = gAt (rl s) (al s) t (t + 1) := by
          unfold signGrp
          rw [if_pos (by rw [htj, hj]; simp)]
          exact add_one _ _ t
        rw [ho, hg, rem_part (by rw [rl_len]; exact h) hj]
        rw [proc_rem s k' t (t + 1) (by omega) (by omega) h]
        rfl
    · rw [List.drop_of_length_le (by omega), rem_end (by rw [rl_len]; exact h)]
      rfl
theorem clusters_rem (s : ByteArray) : clusters s = if 0 < (signsFrom s 0).length then rem (rl s) (al s) 0 1 else [] := by
  rw [clusters_proc]
  by_cases h : 0 < (signsFrom s 0).length
  · rw [if_pos h, ← proc_rem s _ 0 1 (Nat.le_refl _) (by omega) h]
    have hr := rl_get s h
    have ha := al_get s h
    have hn := al_next s (i := 1) h
    have hd0 : (signsFrom s 0) = (signsFrom s 0)[0] :: (signsFrom s 0).drop 1 := by
      have := List.drop_eq_getElem_cons h
      simpa using this
    have h00 : ((signsFrom s 0)[0]).1 = 0 := by
      have hz : 0 < s.size := by
        rcases Nat.lt_or_ge 0 s.size with h1 | h1
        · exact h1
        · rw [signsFrom_end (by omega)] at h; simp at h
      have := signsFrom_step hz
      simp only [this]
      rfl
    obtain ⟨q, hq⟩ : ∃ q, q = (signsFrom s 0)[0] := ⟨_, rfl⟩
    rw [← hq] at hr ha hd0 h00
    rw [hd0]
    obtain ⟨p, r⟩ := q
    simp only at hr ha h00
    simp only [procL]
    have ho : signOut false Grp.zero (r : Int) = [] := rfl
    rw [ho, List.nil_append, ← hr, ← ha, List.drop_succ_cons, List.drop_zero, ← hn]
    have : signGrp false Grp.zero ((al s).getD 0 0) ((rl s).getD 0 0) ((al s).getD 1 0) = gAt (rl s) (al s) 0 1 := by
      unfold signGrp
      rw [if_neg (by simp)]
      have := add_one (rl s) (al s) 0
      rw [show (al s).getD 0 0 = 0 by rw [ha, h00]; rfl] at this ⊢
      exact this
    rw [this]
  · rw [if_neg h]
    have : signsFrom s 0 = [] := List.eq_nil_of_length_eq_zero (by omega)
    rw [this]
    rfl
def remAt (l a : List Int) (f : Nat) : List Clu := if f < l.length then rem l a f (f + 1) else []
theorem signsGo_lt (s : ByteArray) : ∀ (k pos : Nat), ∀ p ∈ signsGo s k pos, p.1 < s.size
  | 0, _, p, h => by simp [signsGo] at h
  | k + 1, pos, p, h => by
    simp only [signsGo] at h
    split at h
    · rcases List.mem_cons.1 h with rfl | h
      · assumption
      · exact signsGo_lt s k _ p h
    · cases h
theorem al_bd (s : ByteArray) (i : Nat) : 0 ≤ (al s).getD i 0 ∧ (al s).getD i 0 ≤ s.size := by
  by_cases h : i < (signsFrom s 0).length
  · rw [al_get s h]
    have := signsGo_lt s _ _ _ (List.getElem_mem h)
    omega
  · by_cases h2 : i = (signsFrom s 0).length
    · rw [al_next s (by omega), List.drop_of_length_le (by omega)]
      simp [nextPos]
    · have : (al s).getD i 0 = 0 := by
        rw [List.getD_eq_getElem?_getD, List.getElem?_eq_none (by rw [al_len]; omega)]; rfl
      omega
end Go.SX.Plain
/- Signs in a part of a text; where signs stand. No program here. -/
namespace Go.SX.Plain
theorem bt_extract {s : ByteArray} {p e k : Nat} (h : p + k < e) (he : e ≤ s.size) : bt (s.extract p e) k = bt s (p + k) := by
  unfold bt
  rw [bytesL_get, bytesL_get]
  congr 2
  rw [ByteArray.data_extract]
  have h1 : p + k < s.data.size := by have : s.data.size = s.size := rfl; omega
  have h2 : k < (s.data.extract p e).size := by simp; omega
  simp [List.getD_eq_getElem?_getD, h1]
  rw [List.getElem?_take, if_pos (by omega), List.getElem?_drop]
  simp [h1]
theorem size_extract' {s : ByteArray} {p e : Nat} (he : e ≤ s.size) : (s.extract p e).size = e - p := by
  simp [ByteArray.size_extract]; omega
theorem second_no2 {s : ByteArray} {i : Nat} (hn : 2 ≤ longI (bt s i)) (h : ¬ (i + 1 < s.size ∧ secondB (bt s i) (bt s (i + 1)) = true)) : Utf8.decode s i = (65533, 1) := by
  refine second_no hn ?_
  by_cases h1 : i + 1 < s.size
  · right
    cases h2 : secondB (bt s i) (bt s (i + 1)) with
    | false => rfl
    | true => exact absurd ⟨h1, h2⟩ h
  · exact .inl h1
theorem decode_extract {s : ByteArray} {p e : Nat} (hpe : p < e) (he : e ≤ s.size) (hw : p + (Utf8.decode s p).2 ≤ e) : Utf8.decode (s.extract p e) 0 = Utf8.decode s p := by
  have hsz := size_extract' (p := p) he
  have b0 : bt (s.extract p e) 0 = bt s p := by rw [bt_extract (by omega) he]; rfl
  have bk : ∀ k, p + k < e → bt (s.extract p e) k = bt s (p + k) := fun k h => bt_extract h he
  have mk : ∀ k, p + k < e → moreB (s.extract p e) (0 + k) = moreB s (p + k) := fun k h => by
    unfold moreB
    rw [Nat.zero_add, bk k h, hsz, decide_eq_true (show k < e - p by omega), decide_eq_true (show p + k < s.size by omega)]
  have mno : ∀ k, ¬ p + k < e → moreB (s.extract p e) (0 + k) = false := fun k h => by
    unfold moreB
    rw [Nat.zero_add, hsz, decide_eq_false (show ¬ k < e - p by omega)]; rfl
  rcases longI_cases (bt s p) with h | h | h
  · rw [dec_0 h, dec_0 (by rw [b0]; exact h)]
  · rw [dec_1 h, dec_1 (by rw [b0]; exact h), b0]
  · by_cases h2 : p + 1 < s.size ∧ secondB (bt s p) (bt s (p + 1)) = true
    · by_cases hp1 : p + 1 < e
      · have hx2 : 0 + 1 < (s.extract p e).size ∧ secondB (bt (s.extract p e) 0) (bt (s.extract p e) (0 + 1)) = true := by
          rw [b0, bk (0 + 1) (by omega), hsz]; exact ⟨by omega, h2.2⟩
        rcases h with h | h | h
        · rw [(dec_2 h h2.1 h2.2).1, (dec_2 (by rw [b0]; exact h) hx2.1 hx2.2).1, b0, bk (0 + 1) (by omega)]
        · by_cases m2 : moreB s (p + 2) = true
          · have hd := (dec_3 h h2.1 h2.2 m2).1
            rw [hd] at hw
            simp only at hw
            rw [hd, (dec_3 (by rw [b0]; exact h) hx2.1 hx2.2 (by rw [mk 2 (by omega)]; exact m2)).1, b0, bk (0 + 1) (by omega), bk (0 + 2) (by omega)]
          · have m2 : moreB s (p + 2) = false := by simpa using m2
            rw [more_no2 (by omega) m2, more_no2 (by rw [b0]; omega)]
            by_cases hp2 : p + 2 < e
            · rw [mk 2 hp2]; exact m2
            · exact mno 2 hp2
        · by_cases m2 : moreB s (p + 2) = true
          · by_cases m3 : moreB s (p + 3) = true
            · have hd := (dec_4 h h2.1 h2.2 m2 m3).1
              rw [hd] at hw
              simp only at hw
              rw [hd, (dec_4 (by rw [b0]; exact h) hx2.1 hx2.2 (by rw [mk 2 (by omega)]; exact m2) (by rw [mk 3 (by omega)]; exact m3)).1, b0, bk (0 + 1) (by omega), bk (0 + 2) (by omega), bk (0 + 3) (by omega)]
            · have m3 : moreB s (p + 3) = false := by simpa using m3
              rw [more_no3 (by omega) m3, more_no3 (by rw [b0]; omega)]
              by_cases hp3 : p + 3 < e
              · rw [mk 3 hp3]; exact m3
              · exact mno 3 hp3
          · have m2 : moreB s (p + 2) = false := by simpa using m2
            rw [more_no2 (by omega) m2, more_no2 (by rw [b0]; omega)]
            by_cases hp2 : p + 2 < e
            · rw [mk 2 hp2]; exact m2
            · exact mno 2 hp2
      · have h4 : p + 1 = e := by omega
        rw [second_no2 (s := s.extract p e) (i := 0) (by rw [b0]; omega) (by rw [hsz]; rintro ⟨h5, _⟩; omega)]
        rcases h with h | h | h
        · rw [(dec_2 h h2.1 h2.2).1] at hw; simp only at hw; omega
        · by_cases m2 : moreB s (p + 2) = true
          · rw [(dec_3 h h2.1 h2.2 m2).1] at hw; simp only at hw; omega
          · exact (more_no2 (by omega) (by simpa using m2)).symm
        · by_cases m2 : moreB s (p + 2) = true
          · by_cases m3 : moreB s (p + 3) = true
            · rw [(dec_4 h h2.1 h2.2 m2 m3).1] at hw; simp only at hw; omega
            · exact (more_no3 (by omega) (by simpa using m3)).symm
          · exact (more_no2 (by omega) (by simpa using m2)).symm
    · rw [second_no2 (by omega) h2, second_no2 (by rw [b0]; omega)]
      rw [b0, hsz]
      rintro ⟨h3, h4⟩
      rw [bk (0 + 1) (by omega)] at h4
      exact h2 ⟨by omega, h4⟩
def runes' (s : ByteArray) : List Int := ((signsFrom s 0).map fun p => sgnAt s p.1).map (·.rune)
theorem signsGo_chain (s : ByteArray) : ∀ (k pos : Nat), s.size - pos ≤ k → ∀ i (h : i < (signsGo s k pos).length), ((signsGo s k pos)[i]).1 < s.size ∧ ((signsGo s k pos)[i]).2 = (Utf8.decode s ((signsGo s k pos)[i]).1).1 ∧
    nextPos s ((signsGo s k pos).drop (i + 1)) = ((signsGo s k pos)[i]).1 + (Utf8.decode s ((signsGo s k pos)[i]).1).2
  | 0, pos, _, i, h => by simp [signsGo] at h
  | k + 1, pos, hk, i, h => by
    by_cases hp : pos < s.size
    · have hw := width_pos s pos
      have hwl := width_le hp
      have e : signsGo s (k + 1) pos = (pos, (Utf8.decode s pos).1) :: signsGo s k (pos + (Utf8.decode s pos).2) := by simp only [signsGo]; rw [if_pos hp]
      cases i with
      | zero =>
        simp only [e, List.getElem_cons_zero, List.drop_succ_cons, List.drop_zero]
        refine ⟨hp, trivial, ?_⟩
        by_cases hp2 : pos + (Utf8.decode s pos).2 < s.size
        · obtain ⟨k', rfl⟩ : ∃ k', k = k' + 1 := ⟨k - 1, by omega⟩
          simp only [signsGo]
          rw [if_pos hp2]; rfl
        · have : signsGo s k (pos + (Utf8.decode s pos).2) = [] := by
            cases k with
            | zero => rfl
            | succ k => simp only [signsGo]; rw [if_neg hp2]
          rw [this]
          simp only [nextPos]
          omega
      | succ i =>
        simp only [e, List.getElem_cons_succ, List.drop_succ_cons]
        exact signsGo_chain s k _ (by omega) i (by rw [e] at h; simpa using h)
    · simp only [signsGo, if_neg hp] at h
      simp at h
theorem rl_dec (s : ByteArray) {i : Nat} (h : i < (rl s).length) : ∃ p : Nat, (al s).getD i 0 = p ∧ p < s.size ∧ (rl s).getD i 0 = ((Utf8.decode s p).1 : Int) ∧ (al s).getD (i + 1) 0 = ((p + (Utf8.decode s p).2 : Nat) : Int) := by
  rw [rl_len] at h
  obtain ⟨h1, h2, h3⟩ := signsGo_chain s _ _ (by omega) i h
  refine ⟨((signsFrom s 0)[i]).1, al_get s h, h1, ?_, ?_⟩
  · rw [rl_get s h]; exact congrArg Int.ofNat h2
  · rw [al_next s h]
    exact congrArg Int.ofNat h3
theorem al_mono (s : ByteArray) : ∀ {j i : Nat}, i ≤ j → j ≤ (rl s).length → (al s).getD i 0 ≤ (al s).getD j 0
  | 0, i, h, _ => by rw [show i = 0 by omega]; exact Int.le_refl _
  | j + 1, i, h, hj => by
    by_cases he : i = j + 1
    · rw [he]; exact Int.le_refl _
    · obtain ⟨p, h1, h2, h3, h4⟩ := rl_dec s (i := j) (by omega)
      have := al_mono s (i := i) (j := j) (by omega) (by omega)
      rw [h4]; omega
end Go.SX.Plain
/- The signs of a text, plainly. No program here. -/
namespace Go.SX.Plain
def sgns (s : ByteArray) : List Sgn := (signsFrom s 0).map fun p => sgnAt s p.1
def runes (s : ByteArray) : List Int := (sgns s).map (·.rune)
theorem signsGo_len (s : ByteArray) : ∀ (k pos : Nat), s.size - pos ≤ k → (signsGo s k pos).length ≤ s.size - pos
  | 0, _, _ => by simp [signsGo]
  | k + 1, pos, h => by
    simp only [signsGo]
    split
    · have := width_pos s pos
      have ih := signsGo_len s k (pos + (Utf8.decode s pos).2) (by omega)
      simp only [List.length_cons]; omega
    · simp
theorem sgns_len (s : ByteArray) : (sgns s).length ≤ s.size := by
  simp only [sgns, signsFrom, List.length_map]
  exact signsGo_len s _ _ (by omega)
end Go.SX.Plain
/- Places by signs, cuts by signs. No program here. -/
namespace Go.SX.Plain
def sgN (s : ByteArray) : Nat := (rl s).length
def posS (s : ByteArray) (i : Nat) : Nat := ((al s).getD i 0).toNat
theorem sgns_len' (s : ByteArray) : (sgns s).length = sgN s := by simp [sgns, sgN, rl]
theorem sgN_le (s : ByteArray) : sgN s ≤ s.size := by rw [← sgns_len']; exact sgns_len s
theorem al_pos (s : ByteArray) (i : Nat) : (al s).getD i 0 = (posS s i : Nat) := by
  have := al_bd s i
  unfold posS
  omega
theorem posS_le (s : ByteArray) (i : Nat) : posS s i ≤ s.size := by
  have := al_bd s i
  unfold posS
  omega
theorem posS_zero (s : ByteArray) : posS s 0 = 0 := by
  unfold posS
  rw [al_next s (Nat.zero_le _), List.drop_zero]
  by_cases h : 0 < s.size
  · rw [signsFrom_step h]
    rfl
  · rw [signsFrom_end h]
    simp only [nextPos]
    omega
theorem posS_mono (s : ByteArray) {i j : Nat} (h : i ≤ j) (hj : j ≤ sgN s) : posS s i ≤ posS s j := by
  have := al_mono s h hj
  have h1 := al_pos s i
  have h2 := al_pos s j
  omega
theorem posS_end (s : ByteArray) : posS s (sgN s) = s.size := by
  have h : sgN s = (signsFrom s 0).length := rl_len s
  unfold posS
  rw [h, al_next s (Nat.le_refl _), List.drop_length]
  simp only [nextPos]
  omega
theorem sgns_at (s : ByteArray) {i : Nat} (h : i < sgN s) : (sgns s).getD i ⟨0, 0, 0, false⟩ = sgnAt s (posS s i) ∧ posS s i < s.size ∧ posS s (i + 1) = posS s i + (Utf8.decode s (posS s i)).2 := by
  obtain ⟨p, h1, h2, h3, h4⟩ := rl_dec s h
  have e1 := al_pos s i
  have e2 := al_pos s (i + 1)
  have hp : posS s i = p := by omega
  refine ⟨?_, by omega, by rw [hp]; omega⟩
  have hl : i < (signsFrom s 0).length := by rw [← rl_len]; exact h
  have := al_get s hl
  have h5 : ((signsFrom s 0)[i]).1 = p := by omega
  rw [hp, ← h5]
  simp [sgns, List.getD_eq_getElem?_getD, hl]
def cutE (s : ByteArray) (f t : Int) : Int := if 0 ≤ f ∧ f ≤ t ∧ t ≤ sgN s then 0 else 1
def cutT (s : ByteArray) (f t : Int) : ByteArray := if 0 ≤ f ∧ f ≤ t ∧ t ≤ sgN s then s.extract (posS s f.toNat) (posS s t.toNat) else ByteArray.empty
def plE (s : ByteArray) (a : Int) : Int := if 0 ≤ a ∧ a ≤ sgN s then 0 else 1
def plN (s : ByteArray) (a : Int) : Int := if 0 ≤ a ∧ a ≤ sgN s then (posS s a.toNat : Nat) else 0
end Go.SX.Plain
/- Contracts of the document's chapter 1: long, second, rest, more, one. -/
namespace Go.SX.Try
open Go.Proofs Go.Proofs.Try Go.SX.Plain
set_option maxRecDepth 100000
set_option maxHeartbeats 0
set_option linter.unusedSimpArgs false
abbrev sgAV (x : Sgn) : List AV := [.v (.int .i64 x.at), .v (.int .i64 x.len), .v (.int .i64 x.rune), .sb x.bad]
end Go.SX.Try
/- Contract of the document's chapter 1: Signs. -/
namespace Go.SX.Try
open Go.Proofs Go.Proofs.Try Go.SX.Plain
set_option maxRecDepth 100000
set_option maxHeartbeats 0
set_option linter.unusedSimpArgs false
def C_sgn : Cdc Sgn where
  size := 4
  enc := sgAV
  dec l := match l with
    | [.v (.int _ a), .v (.int _ b), .v (.int _ c), d] => ⟨a, b, c, bOf d⟩
    | _ => ⟨0, 0, 0, false⟩
  d := ⟨0, 0, 0, false⟩
end Go.SX.Try
/- Contracts of the document's chapter 1: Count, Place, Cut by signs. -/
namespace Go.SX.Try
open Go.Proofs Go.Proofs.Try Go.SX.Plain
set_option maxRecDepth 100000
set_option maxHeartbeats 0
set_option linter.unusedSimpArgs false
end Go.SX.Try
