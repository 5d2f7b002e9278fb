/- The law StyleMakes: whatever the input, it answers true and its arguments read as they did. No condition. -/
import Derived.Test.YtkbeigcmdlhdbaaFStyleMakesP1
import Derived.Test.YtkbeigcmdlhdbaaRows
import Derived.WalkKit
import Derived.ProofKit
import Derived.OpenShut
import Derived.ShutString
import Derived.ChangeOld
import Derived.Below
import Derived.SizedLaws
namespace Go.Proofs.Ytkbeigcmdlhdbaa.styleMakes
open Go.ChangeShapes Go.WideShapes Go.ChangeAt Go.RowKit
open Go.ChangeMaps (open_string shut_string)
set_option linter.unusedVariables false
theorem own : ownKnob Try.prog.godebug = none := by kernel_rfl
theorem laidOut : laidOutB Try.prog = true := by kernel_rfl
theorem walk (a0 : ByteArray) (a1 : Option Addr) (n1 b1 : Nat) (l1 : List SX.Plain.Rn) (w : World) (w1 : SX.Rel w (SX.Env.arg (fun _ => False) w.heap.size) (SX.Try.rnR l1) (.slice a1 n1 b1)) : Calls Try.prog 11 #[.string a0, .slice a1 n1 b1] w fun e w' => e = .returned (.bool true) ∧ Below w.heap.size w w' := by
  refine (CallsIn.calls (SX.Try.con_styleMakes.calls (a0, l1) trivial w (fun _ => False) #[.string a0, .slice a1 n1 b1] (fun _ h => h.elim) (SX.RelL.cons (.v _) (SX.RelL.cons w1 (SX.RelL.nil _ _)))) room_wide).mono ?_
  intro e w' h
  cases e with
  | returned v =>
    obtain ⟨_, _, _, _, hB, hv⟩ := h
    exact ⟨congrArg Ending.returned hv.v_inv, hB⟩
  | panicked c => exact h.elim
  | outgrown => exact h.elim
set_option maxRecDepth 100000 in
theorem lifted (os : Os) (started : os.Started) (H : Type) (enc : TypeId × Value → H) :
    ReturnsInHanded {} Try.checked os 11 .any (Rows.styleMakesSpec.pre6 enc Try.prog Try.f11 Rows.styleMakesRow.domain false) (Rows.styleMakesSpec.post enc Try.prog Try.f11 false true false false) := by
  refine returnsInHanded_of_change_sized (C := Try.checked) own started (by kernel_rfl) Try.func11
    (ChangeSpec.witness6 (enc := enc) (C := Try.checked) false ⟨#[], #[.string ByteArray.empty, .slice none 0 0], []⟩ 8 (by kernel_rfl) (by kernel_rfl) (by kernel_rfl) (by kernel_rfl)) ?_
  intro W base args ds gs before hval0 hW hcnd hsz0 _
  have hsz : (DataW.weightsEach Try.prog (Try.f11.params.toList ++ Rows.styleMakesSpec.plain.varTypes Try.prog) (ds ++ gs)).all (· ≤ reachBytes) = true := hsz0
  have hval : ∀ (j : Nat) t v, Try.f11.params[j]? = some t → args[j]? = some v → Value.okWide Try.prog W .any base t v := hval0
  have hW' := hW
  obtain ⟨p, q, hA0, hV, rfl, hfz, hnd⟩ := hW
  have hA : DataW.TrodAll enc Try.prog W 0 (fun _ => true) true Try.f11.params.toList args.toList ds p := hA0
  rw [Try.params11] at hA hval hsz
  obtain ⟨v0, vs0, d0, ds0, p0, q0, hargs, rfl, rfl, h0, r0⟩ := trodAll_cons hA
  obtain ⟨v1, vs1, d1, ds1, p1, q1, rfl, rfl, rfl, h1, r1⟩ := trodAll_cons r0
  obtain ⟨rfl, rfl, rfl⟩ := trodAll_nil r1
  obtain rfl : args = #[v0, v1] := by cases args; simp_all
  obtain ⟨rfl, rfl⟩ := trodVars_none hV
  obtain ⟨a0, rfl, rfl, rfl, y0⟩ := open_string Try.underlying9 (hval 0 9 v0 rfl rfl) h0
  obtain ⟨a1, n1, b1, rfl⟩ := okWide_slice Try.underlying50 (hval 1 50 v1 rfl rfl)
  have k1 := h1
  have lt1 : ∀ x ∈ p1, x.block < W.heap.size := by obtain ⟨m, hm⟩ := k1; exact DataW.trod_lt m _ _ _ hm
  obtain ⟨l1, w1⟩ := SX.Reads.arg (E := SX.Env.arg (fun _ => False) W.heap.size) Try.underlying50 (SX.Try.reads_runs7 fun _ h => h) h1
  clear hA0 hval0 hsz0 hsz
  refine (walk a0 a1 n1 b1 l1 W w1).mono fun e W' ⟨he, bel⟩ => ?_
  subst he
  exact ⟨_, rfl, _, _, _, [], _, [], hW', trodAll_mk1 (shut_bool Try.underlying4 _), (trodAll_cons_mk (shut_string Try.underlying9 y0) (trodAll_cons_mk (Below.trod laidOut (by kernel_rfl) (of_decide_eq_true (by kernel_rfl)) k1 bel lt1) trodAll_mk0)), rfl, bel.frame _, fun h => by cases h⟩
theorem over : Rows.styleMakesRow.holds Try.pinned (OpenSpec.ofChange Rows.styleMakesSpec) :=
  OpenClaim.holds_of_wide 11 Try.f11 rfl rfl rfl rfl rfl rfl rfl ⟨rfl, rfl, rfl, rfl, rfl⟩ rfl rfl rfl rfl rfl (by kernel_rfl) Try.func11 (by kernel_rfl)
    (of_decide_eq_true (by kernel_rfl)) (by unfold Func.isWrapper; first | (rw [if_pos (by decide +kernel)]; kernel_rfl) | (rw [if_neg (by decide +kernel)]; exact ⟨rfl, rfl⟩))
    (fun os started H enc _ => lifted os started H enc)
theorem proved : Rows.StyleMakesSaid := over
#print axioms proved
end Go.Proofs.Ytkbeigcmdlhdbaa.styleMakes
namespace Go.Proofs.Ytkbeigcmdlhdbaa
theorem styleMakes_holds : Rows.StyleMakesSaid := styleMakes.proved
end Go.Proofs.Ytkbeigcmdlhdbaa
