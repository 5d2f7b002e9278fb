/- The law StyleJoins: whatever the input, it answers true and its arguments read as they did. Its condition: what it reads is of bulk at most 1048576. -/
import Derived.Test.YtkbeigcmdlhdbaaFStyleJoinsP1
import Derived.Test.YtkbeigcmdlhdbaaRows
import Derived.WalkKit
import Derived.ProofKit
import Derived.OpenShut
import Derived.ShutString
import Derived.ChangeOld
import Derived.Below
import Derived.SizedLaws
import Derived.JoinedCond
namespace Go.Proofs.Ytkbeigcmdlhdbaa.styleJoins
open Go.ChangeShapes Go.WideShapes Go.ChangeAt Go.RowKit
open Go.ChangeMaps (open_string shut_string)
set_option linter.unusedVariables false
theorem own : ownKnob Try.prog.godebug = none := by kernel_rfl
theorem laidOut : laidOutB Try.prog = true := by kernel_rfl
set_option maxRecDepth 100000 in
theorem text_bulk {H : Type} {encH : TypeId × Value → H} {w : World} {E : SX.Env} (hl : ∀ b, b < w.heap.size → E.lnt b) {cs : Array Value} {y : DataW H} {p : List MemPlace} (hT : DataW.Trod encH Try.prog w 0 (fun _ => true) true 24 (.agg cs) y p) :
    ∃ (s : ByteArray) (l : List SX.Plain.Spn), SX.Rel w E (SX.Try.txAV s l) (.agg cs) ∧ s.size + l.length ≤ Rows.uptoBulk y := by
  obtain ⟨fuel, hf⟩ := hT
  have hf : DataW.trod encH Try.prog w 0 (fun _ => true) true fuel 24 cs.toList = some (y, p) := hf
  obtain ⟨⟨s, l, _⟩, hr⟩ := (SX.Try.reads_text (E := E) hl).out _ _ _ hf
  refine ⟨s, l, .agg (by simpa using hr.1) fun i h1 h2 => hr.2 i h1 (by simpa using h2), ?_⟩
  obtain ⟨xs, m, _, hxe, hcl, hxl, hfl⟩ := DataW.trod_struct Try.underlying24 hf
  rw [SX.Try.cells_text] at hcl
  have hc0 : 0 < cs.size := by simpa using (show 0 < cs.toList.length by omega)
  have hc1 : 1 < cs.size := by simpa using (show 1 < cs.toList.length by omega)
  have hv0 := hr.2 0 (by simp) (by rw [hcl]; decide)
  have hv0 : SX.Rel w E (.v (.string s)) cs[0] := by simpa using hv0
  have hv1 := hr.2 1 (by simp) (by rw [hcl]; decide)
  have hv1 : SX.Rel w E (SX.Try.spR l) cs[1] := by simpa using hv1
  have hd0 : (cs.toList.drop 0).take 1 = [cs[0]] := by
    rw [List.drop_eq_getElem_cons (by rw [hcl]; decide)]
    simp
  have hd1 : (cs.toList.drop 1).take 1 = [cs[1]] := by
    rw [List.drop_eq_getElem_cons (by rw [hcl]; decide)]
    simp
  have h0 : DataW.trod encH Try.prog w 0 (fun _ => true) true m 9 [cs[0]] = xs[0]? := by
    rw [← hd0]
    exact hfl 0 _ rfl
  have h1 : DataW.trod encH Try.prog w 0 (fun _ => true) true m 22 [cs[1]] = xs[1]? := by
    rw [← hd1]
    exact hfl 1 _ rfl
  have hxl : xs.length = 2 := hxl
  obtain ⟨x0, x1, rfl⟩ : ∃ x0 x1, xs = [x0, x1] := by
    match xs, hxl with
    | [x0, x1], _ => exact ⟨x0, x1, rfl⟩
  have h0 : DataW.trod encH Try.prog w 0 (fun _ => true) true m 9 [cs[0]] = some x0 := h0
  have h1 : DataW.trod encH Try.prog w 0 (fun _ => true) true m 22 [cs[1]] = some x1 := h1
  have hy : y = .agg [x0.1, x1.1] := congrArg Prod.fst hxe
  have b0 : s.size ≤ Rows.uptoBulk x0.1 := by
    obtain ⟨a, ha, hx, _⟩ := DataW.trod_string Try.underlying9 h0
    rw [hv0.v_inv] at ha
    simp only [List.cons.injEq, Value.string.injEq, and_true] at ha
    subst ha
    rw [hx]
    simp only [Rows.uptoBulk]
    have e : s.data.toList.length = s.size := by rw [Array.length_toList]; rfl
    omega
  have b1 : l.length ≤ Rows.uptoBulk x1.1 := by
    rcases Deep.open_slice Try.underlying22 h1 with ⟨hc, _⟩ | ⟨a, len, cap, m', n', D, Pl, hc, _, hlc, _, hm, hx, _⟩
    · have hc : cs[1] = .slice none 0 0 := by simpa using hc
      rw [hc] at hv1
      cases hv1
      simp
    · have hc : cs[1] = .slice (some a) len cap := by simpa using hc
      rw [hc] at hv1
      have hlen : l.length ≤ len := by
        cases hv1 with
        | roNil => simp
        | ro => exact Nat.le_refl _
      rw [hx]
      simp only [Rows.uptoBulk]
      have hall : ∀ (L : List (DataW H)), L.length ≤ Rows.uptoBulkAll L := by
        intro L
        induction L with
        | nil => exact Nat.le_refl _
        | cons d r ih =>
          simp only [Rows.uptoBulkAll, List.length_cons]
          have : 1 ≤ Rows.uptoBulk d := by
            cases d with
            | lit x => cases x <;> simp [Rows.uptoBulk]
            | _ => simp [Rows.uptoBulk]
          omega
      have := hall ((List.range len).map D)
      rw [List.length_map, List.length_range] at this
      omega
  rw [hy]
  simp only [Rows.uptoBulk, Rows.uptoBulkAll]
  omega
theorem walk (c0 : Array Value) (s0 : ByteArray) (l0 : List SX.Plain.Spn) (c1 : Array Value) (s1 : ByteArray) (l1 : List SX.Plain.Spn) (w : World) (u0 : s0.size ≤ 1100000) (w0 : SX.Rel w (SX.Env.arg (fun _ => False) w.heap.size) (SX.Try.txAV s0 l0) (.agg c0)) (z0 : l0.length * 32 ≤ 140737488351232) (w1 : SX.Rel w (SX.Env.arg (fun _ => False) w.heap.size) (SX.Try.txAV s1 l1) (.agg c1)) (z1 : l1.length * 32 ≤ 140737488351232) : Calls Try.prog 7 #[.agg c0, .agg c1] w fun e w' => e = .returned (.bool true) ∧ Below w.heap.size w w' := by
  refine (CallsIn.calls (SX.Try.con_styleJoins.calls (s0, l0, s1, l1) ⟨u0, z0, z1⟩ w (fun _ => False) #[.agg c0, .agg c1] (fun _ h => h.elim) (SX.RelL.cons w0 (SX.RelL.cons w1 (SX.RelL.nil _ _)))) room_wide).mono ?_
  intro e w' h
  cases e with
  | returned v =>
    obtain ⟨_, _, _, _, hB, hv⟩ := h
    exact ⟨congrArg Ending.returned hv.v_inv, hB⟩
  | panicked c => exact h.elim
  | outgrown => exact h.elim
set_option maxRecDepth 100000 in
theorem lifted (os : Os) (started : os.Started) (H : Type) (enc : TypeId × Value → H) (F : Stop.Interp) :
    ReturnsInHanded {} Try.checked os 7 .any ((Rows.OpenSpec.upto Rows.styleJoinsSpec).pre6 enc Try.prog Try.f7 Rows.styleJoinsUptoRow.domain false) (((Rows.OpenSpec.upto Rows.styleJoinsSpec).at F).post enc Try.prog Try.f7 false true false false) := by
  refine returnsInHanded_of_cond (C := Try.checked) (s := Rows.OpenSpec.upto Rows.styleJoinsSpec) (k := Rows.uptoSmall) rfl own started (by kernel_rfl) Try.func7
    (OpenSpec.witness (enc := enc) (C := Try.checked) (s := Rows.OpenSpec.upto Rows.styleJoinsSpec) (k := Rows.uptoSmall) rfl false ⟨#[], #[.agg #[.string ByteArray.empty, .slice none 0 0], .agg #[.string ByteArray.empty, .slice none 0 0]], []⟩ 8 (by kernel_rfl) (by kernel_rfl) (by kernel_rfl)
      (x := ([.agg [.lit (.string []), .nil], .agg [.lit (.string []), .nil]], [], [])) (by kernel_rfl) rfl (by kernel_rfl)) ?_
  intro W base args ds gs before hval0 hW hcnd hk _
  have hval : ∀ (j : Nat) t v, Try.f7.params[j]? = some t → args[j]? = some v → Value.okWide Try.prog W .any base t v := hval0
  have hW' := hW
  obtain ⟨p, q, hA0, hV, rfl, hfz, hnd⟩ := hW
  have hA : DataW.TrodAll enc Try.prog W 0 (fun _ => true) true Try.f7.params.toList args.toList ds p := hA0
  rw [Try.params7] at hA hval
  obtain ⟨v0, vs0, d0, ds0, p0, q0, hargs, rfl, rfl, h0, r0⟩ := trodAll_cons hA
  obtain ⟨v1, vs1, d1, ds1, p1, q1, rfl, rfl, rfl, h1, r1⟩ := trodAll_cons r0
  obtain ⟨rfl, rfl, rfl⟩ := trodAll_nil r1
  obtain rfl : args = #[v0, v1] := by cases args; simp_all
  obtain ⟨rfl, rfl⟩ := trodVars_none hV
  obtain ⟨c0, rfl, _⟩ := okWide_struct Try.underlying24 (hval 0 24 v0 rfl rfl)
  have k0 := h0
  have lt0 : ∀ x ∈ p0, x.block < W.heap.size := by obtain ⟨m, hm⟩ := k0; exact DataW.trod_lt m _ _ _ hm
  obtain ⟨s0, l0, w0, z0⟩ := text_bulk (E := SX.Env.arg (fun _ => False) W.heap.size) (fun _ h => h) h0
  obtain ⟨c1, rfl, _⟩ := okWide_struct Try.underlying24 (hval 1 24 v1 rfl rfl)
  have k1 := h1
  have lt1 : ∀ x ∈ p1, x.block < W.heap.size := by obtain ⟨m, hm⟩ := k1; exact DataW.trod_lt m _ _ _ hm
  obtain ⟨s1, l1, w1, z1⟩ := text_bulk (E := SX.Env.arg (fun _ => False) W.heap.size) (fun _ h => h) h1
  clear hA0 hval0
  have hb : Rows.uptoBulkAll _ ≤ 1048576 := of_decide_eq_true hk
  simp only [Rows.uptoBulkAll, List.cons_append, List.nil_append, List.append_nil] at hb
  refine (walk c0 s0 l0 c1 s1 l1 W (by omega) w0 (by omega) w1 (by omega)).mono fun e W' ⟨he, bel⟩ => ?_
  subst he
  exact ⟨_, rfl, _, _, _, [], _, [], hW', trodAll_mk1 (shut_bool Try.underlying4 _), (trodAll_cons_mk (Below.trod laidOut (by kernel_rfl) (of_decide_eq_true (by kernel_rfl)) k0 bel lt0) (trodAll_cons_mk (Below.trod laidOut (by kernel_rfl) (of_decide_eq_true (by kernel_rfl)) k1 bel lt1) trodAll_mk0)), rfl, bel.frame _, fun h => by cases h⟩
theorem over : Rows.styleJoinsUptoRow.holds Try.pinned (Rows.OpenSpec.upto Rows.styleJoinsSpec) :=
  OpenClaim.holds_of_cond 7 Try.f7 rfl rfl rfl rfl rfl rfl rfl ⟨rfl, rfl, rfl, rfl, rfl⟩ rfl rfl rfl rfl rfl (by kernel_rfl) Try.func7 (by kernel_rfl)
    (of_decide_eq_true (by kernel_rfl)) (by unfold Func.isWrapper; first | (rw [if_pos (by decide +kernel)]; kernel_rfl) | (rw [if_neg (by decide +kernel)]; exact ⟨rfl, rfl⟩))
    (fun os started H enc _ F => lifted os started H enc F)
theorem proved : Rows.StyleJoinsUptoSaid := over
#print axioms proved
end Go.Proofs.Ytkbeigcmdlhdbaa.styleJoins
namespace Go.Proofs.Ytkbeigcmdlhdbaa
theorem styleJoins_holds : Rows.StyleJoinsUptoSaid := styleJoins.proved
end Go.Proofs.Ytkbeigcmdlhdbaa
