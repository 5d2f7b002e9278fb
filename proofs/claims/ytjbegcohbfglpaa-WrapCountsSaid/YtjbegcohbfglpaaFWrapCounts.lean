/- The law WrapCounts: whatever the input, it answers true and its arguments read as they did. No condition. -/
import Derived.Test.YtjbegcohbfglpaaBC6
import Derived.Test.YtjbegcohbfglpaaRows
import Derived.WalkKit
import Derived.ProofKit
import Derived.OpenShut
import Derived.ShutString
import Derived.ChangeOld
import Derived.Below
import Derived.SizedLaws
namespace Go.Proofs.Ytjbegcohbfglpaa.wrapCounts
open Go.ChangeShapes Go.WideShapes Go.ChangeAt Go.RowKit
open Go.ChangeMaps (open_string shut_string)
set_option linter.unusedVariables false
theorem own : ownKnob Try.prog.godebug = none := by kernel_rfl
theorem laidOut : laidOutB Try.prog = true := by kernel_rfl
theorem walk (a0 : ByteArray) (a1 : Int) (a2 : Option Addr) (n2 c2 : Nat) (l2 : List (Int)) (w : World) (w2 : SX.Rel w (SX.Env.arg (fun _ => False) w.heap.size) (.ro 1 SX.Try.C_int.enc SX.Try.C_int.d l2 none true) (.slice a2 n2 c2)) : Calls Try.prog 3 #[.string a0, .int .i64 a1, .slice a2 n2 c2] w fun e w' => e = .returned (.bool true) ∧ Below w.heap.size w w' := by
  refine (CallsIn.calls (SX.Try.con_wrapCounts.calls (a0, a1, l2) trivial w (fun _ => False) #[.string a0, .int .i64 a1, .slice a2 n2 c2] (fun _ h => h.elim) (SX.RelL.cons (.v _) (SX.RelL.cons (.v _) (SX.RelL.cons w2 (SX.RelL.nil _ _))))) room_wide).mono ?_
  intro e w' h
  cases e with
  | returned v =>
    obtain ⟨_, _, _, _, hB, hv⟩ := h
    exact ⟨congrArg Ending.returned hv.v_inv, hB⟩
  | panicked c => exact h.elim
  | outgrown => exact h.elim
set_option maxRecDepth 100000 in
theorem lifted (os : Os) (started : os.Started) (H : Type) (enc : TypeId × Value → H) :
    ReturnsInHanded {} Try.checked os 3 .any (Rows.wrapCountsSpec.pre6 enc Try.prog Try.f3 Rows.wrapCountsRow.domain false) (Rows.wrapCountsSpec.post enc Try.prog Try.f3 false true false false) := by
  refine returnsInHanded_of_change_sized (C := Try.checked) own started (by kernel_rfl) Try.func3
    (ChangeSpec.witness6 (enc := enc) (C := Try.checked) false ⟨#[], #[.string ByteArray.empty, .int .i64 0, .slice none 0 0], []⟩ 8 (by kernel_rfl) (by kernel_rfl) (by kernel_rfl) (by kernel_rfl)) ?_
  intro W base args ds gs before hval0 hW hcnd hsz0 _
  have hsz : (DataW.weightsEach Try.prog (Try.f3.params.toList ++ Rows.wrapCountsSpec.plain.varTypes Try.prog) (ds ++ gs)).all (· ≤ reachBytes) = true := hsz0
  have hval : ∀ (j : Nat) t v, Try.f3.params[j]? = some t → args[j]? = some v → Value.okWide Try.prog W .any base t v := hval0
  have hW' := hW
  obtain ⟨p, q, hA0, hV, rfl, hfz, hnd⟩ := hW
  have hA : DataW.TrodAll enc Try.prog W 0 (fun _ => true) true Try.f3.params.toList args.toList ds p := hA0
  rw [Try.params3] at hA hval hsz
  obtain ⟨v0, vs0, d0, ds0, p0, q0, hargs, rfl, rfl, h0, r0⟩ := trodAll_cons hA
  obtain ⟨v1, vs1, d1, ds1, p1, q1, rfl, rfl, rfl, h1, r1⟩ := trodAll_cons r0
  obtain ⟨v2, vs2, d2, ds2, p2, q2, rfl, rfl, rfl, h2, r2⟩ := trodAll_cons r1
  obtain ⟨rfl, rfl, rfl⟩ := trodAll_nil r2
  obtain rfl : args = #[v0, v1, v2] := by cases args; simp_all
  obtain ⟨rfl, rfl⟩ := trodVars_none hV
  obtain ⟨a0, rfl, rfl, rfl, y0⟩ := open_string Try.underlying9 (hval 0 9 v0 rfl rfl) h0
  obtain ⟨a1, rfl, rfl, rfl, w1⟩ := open_int Try.underlying3 (hval 1 3 v1 rfl rfl) h1
  obtain ⟨a2, n2, c2, rfl⟩ := okWide_slice Try.underlying22 (hval 2 22 v2 rfl rfl)
  have k2 := h2
  have lt2 : ∀ x ∈ p2, x.block < W.heap.size := by obtain ⟨m, hm⟩ := k2; exact DataW.trod_lt m _ _ _ hm
  obtain ⟨l2, w2⟩ := SX.Reads.arg (E := SX.Env.arg (fun _ => False) W.heap.size) Try.underlying22 (SX.Try.reads_ints fun _ h => h) h2
  clear hA0 hval0 hsz0 hsz
  refine (walk a0 a1 a2 n2 c2 l2 W w2).mono fun e W' ⟨he, bel⟩ => ?_
  subst he
  exact ⟨_, rfl, _, _, _, [], _, [], hW', trodAll_mk1 (shut_bool Try.underlying4 _), (trodAll_cons_mk (shut_string Try.underlying9 y0) (trodAll_cons_mk (shut_int Try.underlying3 w1) (trodAll_cons_mk (Below.trod laidOut (by kernel_rfl) (of_decide_eq_true (by kernel_rfl)) k2 bel lt2) trodAll_mk0))), rfl, bel.frame _, fun h => by cases h⟩
theorem over : Rows.wrapCountsRow.holds Try.pinned (OpenSpec.ofChange Rows.wrapCountsSpec) :=
  OpenClaim.holds_of_wide 3 Try.f3 rfl rfl rfl rfl rfl rfl rfl ⟨rfl, rfl, rfl, rfl, rfl⟩ rfl rfl rfl rfl rfl (by kernel_rfl) Try.func3 (by kernel_rfl)
    (of_decide_eq_true (by kernel_rfl)) (by unfold Func.isWrapper; first | (rw [if_pos (by decide +kernel)]; kernel_rfl) | (rw [if_neg (by decide +kernel)]; exact ⟨rfl, rfl⟩))
    (fun os started H enc _ => lifted os started H enc)
theorem proved : Rows.WrapCountsSaid := over
#print axioms proved
end Go.Proofs.Ytjbegcohbfglpaa.wrapCounts
namespace Go.Proofs.Ytjbegcohbfglpaa
theorem wrapCounts_holds : Rows.WrapCountsSaid := wrapCounts.proved
end Go.Proofs.Ytjbegcohbfglpaa
