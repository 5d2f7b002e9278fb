/- The law StyleNormal: whatever the input, it answers true and its arguments read as they did. No condition. -/
import Derived.Test.YtkbeigcmdlhdbaaBN7
import Derived.Test.YtkbeigcmdlhdbaaRows
import Derived.WalkKit
import Derived.ProofKit
import Derived.OpenShut
import Derived.ShutString
import Derived.ChangeOld
import Derived.Below
import Derived.SizedLaws
namespace Go.Proofs.Ytkbeigcmdlhdbaa.styleNormal
open Go.ChangeShapes Go.WideShapes Go.ChangeAt Go.RowKit
open Go.ChangeMaps (open_string shut_string)
set_option linter.unusedVariables false
theorem own : ownKnob Try.prog.godebug = none := by kernel_rfl
theorem laidOut : laidOutB Try.prog = true := by kernel_rfl
theorem walk (c0 : Array Value) (s0 : ByteArray) (l0 : List SX.Plain.Spn) (c1 : Array Value) (x1 : SX.Plain.Spn) (w : World) (w0 : SX.Rel w (SX.Env.arg (fun _ => False) w.heap.size) (SX.Try.txAV s0 l0) (.agg c0)) (z0 : l0.length * 32 ≤ 140737488351232) (w1 : SX.Rel w (SX.Env.arg (fun _ => False) w.heap.size) (.agg (SX.Try.spAV x1)) (.agg c1)) : Calls Try.prog 14 #[.agg c0, .agg c1] w fun e w' => e = .returned (.bool true) ∧ Below w.heap.size w w' := by
  refine (CallsIn.calls (SX.Try.con_styleNormal.calls (s0, l0, x1) z0 w (fun _ => False) #[.agg c0, .agg c1] (fun _ h => h.elim) (SX.RelL.cons w0 (SX.RelL.cons w1 (SX.RelL.nil _ _)))) room_wide).mono ?_
  intro e w' h
  cases e with
  | returned v =>
    obtain ⟨_, _, _, _, hB, hv⟩ := h
    exact ⟨congrArg Ending.returned hv.v_inv, hB⟩
  | panicked c => exact h.elim
  | outgrown => exact h.elim
set_option maxRecDepth 100000 in
theorem lifted (os : Os) (started : os.Started) (H : Type) (enc : TypeId × Value → H) :
    ReturnsInHanded {} Try.checked os 14 .any (Rows.styleNormalSpec.pre6 enc Try.prog Try.f14 Rows.styleNormalRow.domain false) (Rows.styleNormalSpec.post enc Try.prog Try.f14 false true false false) := by
  refine returnsInHanded_of_change_sized (C := Try.checked) own started (by kernel_rfl) Try.func14
    (ChangeSpec.witness6 (enc := enc) (C := Try.checked) false ⟨#[], #[.agg #[.string ByteArray.empty, .slice none 0 0], .agg #[.int .i64 0, .int .i64 0, .int .i64 0, .int .i64 0]], []⟩ 8 (by kernel_rfl) (by kernel_rfl) (by kernel_rfl) (by kernel_rfl)) ?_
  intro W base args ds gs before hval0 hW hcnd hsz0 _
  have hsz : (DataW.weightsEach Try.prog (Try.f14.params.toList ++ Rows.styleNormalSpec.plain.varTypes Try.prog) (ds ++ gs)).all (· ≤ reachBytes) = true := hsz0
  have hval : ∀ (j : Nat) t v, Try.f14.params[j]? = some t → args[j]? = some v → Value.okWide Try.prog W .any base t v := hval0
  have hW' := hW
  obtain ⟨p, q, hA0, hV, rfl, hfz, hnd⟩ := hW
  have hA : DataW.TrodAll enc Try.prog W 0 (fun _ => true) true Try.f14.params.toList args.toList ds p := hA0
  rw [Try.params14] at hA hval hsz
  obtain ⟨v0, vs0, d0, ds0, p0, q0, hargs, rfl, rfl, h0, r0⟩ := trodAll_cons hA
  obtain ⟨v1, vs1, d1, ds1, p1, q1, rfl, rfl, rfl, h1, r1⟩ := trodAll_cons r0
  obtain ⟨rfl, rfl, rfl⟩ := trodAll_nil r1
  obtain rfl : args = #[v0, v1] := by cases args; simp_all
  obtain ⟨rfl, rfl⟩ := trodVars_none hV
  obtain ⟨c0, rfl, _⟩ := okWide_struct Try.underlying24 (hval 0 24 v0 rfl rfl)
  have k0 := h0
  have lt0 : ∀ x ∈ p0, x.block < W.heap.size := by obtain ⟨m, hm⟩ := k0; exact DataW.trod_lt m _ _ _ hm
  obtain ⟨s0, l0, w0, z0⟩ := SX.Try.text_arg (E := SX.Env.arg (fun _ => False) W.heap.size) (fun _ h => h) h0 (List.all_eq_true.2 fun n hn => List.all_eq_true.1 hsz n (DataW.weights_mem_each (j := 0) rfl rfl n hn))
  obtain ⟨c1, rfl, _⟩ := okWide_struct Try.underlying71 (hval 1 71 v1 rfl rfl)
  have k1 := h1
  have lt1 : ∀ x ∈ p1, x.block < W.heap.size := by obtain ⟨m, hm⟩ := k1; exact DataW.trod_lt m _ _ _ hm
  obtain ⟨x1, w1⟩ := SX.Try.span_arg (E := SX.Env.arg (fun _ => False) W.heap.size) h1
  clear hA0 hval0 hsz0 hsz
  refine (walk c0 s0 l0 c1 x1 W w0 z0 w1).mono fun e W' ⟨he, bel⟩ => ?_
  subst he
  exact ⟨_, rfl, _, _, _, [], _, [], hW', trodAll_mk1 (shut_bool Try.underlying4 _), (trodAll_cons_mk (Below.trod laidOut (by kernel_rfl) (of_decide_eq_true (by kernel_rfl)) k0 bel lt0) (trodAll_cons_mk (Below.trod laidOut (by kernel_rfl) (of_decide_eq_true (by kernel_rfl)) k1 bel lt1) trodAll_mk0)), rfl, bel.frame _, fun h => by cases h⟩
theorem over : Rows.styleNormalRow.holds Try.pinned (OpenSpec.ofChange Rows.styleNormalSpec) :=
  OpenClaim.holds_of_wide 14 Try.f14 rfl rfl rfl rfl rfl rfl rfl ⟨rfl, rfl, rfl, rfl, rfl⟩ rfl rfl rfl rfl rfl (by kernel_rfl) Try.func14 (by kernel_rfl)
    (of_decide_eq_true (by kernel_rfl)) (by unfold Func.isWrapper; first | (rw [if_pos (by decide +kernel)]; kernel_rfl) | (rw [if_neg (by decide +kernel)]; exact ⟨rfl, rfl⟩))
    (fun os started H enc _ => lifted os started H enc)
theorem proved : Rows.StyleNormalSaid := over
#print axioms proved
end Go.Proofs.Ytkbeigcmdlhdbaa.styleNormal
namespace Go.Proofs.Ytkbeigcmdlhdbaa
theorem styleNormal_holds : Rows.StyleNormalSaid := styleNormal.proved
end Go.Proofs.Ytkbeigcmdlhdbaa
