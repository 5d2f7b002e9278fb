/- A verified symbolic executor for Go code in the model, contracts and plain laws that the proofs lean on, FStyleJoinsP1. -/
import Derived.Test.YtkbeigcmdlhdbaaBJ6
set_option linter.unusedVariables false
set_option linter.unusedSimpArgs false
/- A verified symbolic executor for Go code in the model: contracts that hand out an own row, nil also. -/
namespace Go.SX
open Go.RowKit
inductive IsRow (m : Mem) {α : Type} (C : Cdc α) (l : List α) (t : Nat) : AV → Prop
  | own {n : Nat} {l' : List α} {cap : Option Nat} (he : getE m n = some (.row C l' t cap)) (hl : l' = l) : IsRow m C l t (.own n)
  | nil (hs : ∀ x, (C.enc x).length = C.size) (h0 : 0 < C.size) (hl : l = []) : IsRow m C l t (.v (.slice none 0 0))
section
variable {P : Program}
theorem ConO.ofN (hmo : P.follows .mixedOrders = true) {T : Tys} (hT : TysOK P T) {D : Cds} (hD : CdsOK T D) {G : Gam} (hG : GamOK P G) (k : Nat) (J : List Nat) {f : Nat} {fn : Func} {code : Code} (h1 : P.funcs[f]? = some fn) (h2 : fn.body = some code) (h3 : (fn.name == "runtime.NumGoroutine") = false)
    {ι α : Type} {A : ι → List AV} {C : Cdc α} {L : ι → List α} {t : Nat} {pre : ι → Prop} (hlen : ∀ i, Nat.ble (A i).length fn.ntmps = true)
    (h : ∀ i, pre i → Run (argsK (A i) 0 fun f0 => cwp ⟨T, D, G, (callX T D G k).2, (callX T D G k).1, J, fn.ntmps, none⟩ code [] f0 [[]] [] 0 fun e df f2 s2 m2 nx2 => retK T fn e df f2 s2 m2 nx2 fun x _ _ m _ => IsRow m C (L i) t x)) :
    ConO P f A C L t pre := by
  obtain ⟨hF, hH⟩ := callX_ok hmo hT hD hG k
  refine ⟨⟨fn, code, h1, h2, h3⟩, fun i hi w imm vs himm hr => ?_⟩
  have hi := (h i hi).out
  rw [argsK_eq] at hi
  have hS : SatM w.heap.size ⟨w, imm⟩ (Env.arg imm w.heap.size) [[]] [#[]] [] w := ⟨Below.refl _ _, Nat.le_refl _, himm, ⟨fun _ h => h, fun _ h => .inl h, fun _ h => h⟩, fun _ _ => rfl, fun id e he => by simp at he, .nil, rfl, fun i h1 h2 => by
    have : i = 0 := by simp at h1; omega
    subst this
    exact fun t => .junk _⟩
  refine CallsIn.mono (inline_ok hmo (c := ⟨T, D, G, (callX T D G k).2, (callX T D G k).1, J, fn.ntmps, none⟩) hG.cons' hT hD (hH none) hF rfl h1 h2 rfl (Nat.le_of_ble_eq_true (hlen i)) hi (fun id hd => False.elim hd) hS hr) fun e w' he => ?_
  cases e with
  | returned v =>
    obtain ⟨x, fr', stk', m', E', nx', hk, hnx', hS', hx⟩ := he
    refine ⟨E'.imm, fun b hb => hS'.keep.1 b hb, fun b hb => hS'.keep.2.1 b hb, fun b hb => hS'.imm b hb, hS'.below, ?_⟩
    cases hk with
    | @own n l' cap he hl =>
      subst hl
      have hm := mem_of_getE he
      obtain ⟨hid, ⟨hs, h0, ⟨xs, hown, hrl⟩, hcap⟩, hblk⟩ := hS'.ents _ _ hm
      cases hx with
      | own _ _ => exact ⟨hs, h0, ⟨xs, hown, hrl.mono Goes.unname⟩, hblk⟩
    | nil hs h0 hl =>
      rw [hl, hx.v_inv]
      exact ⟨hs, h0, ⟨[], ⟨by simp, .inl ⟨rfl, rfl⟩⟩, RelL.nil _ _⟩, fun b hb => by cases hb⟩
  | panicked c => exact he.elim
  | outgrown => exact he.elim
end
end Go.SX
/- Contracts that hand out own rows: slices.Clone of spans; the document's moved. -/
namespace Go.SX.Try
open Go.Proofs Go.Proofs.Try Go.SX.Plain
set_option maxRecDepth 100000
set_option maxHeartbeats 0
set_option linter.unusedSimpArgs false
theorem cono_clone : ConO prog 73 (fun l : List Spn => [spR l]) C_spn (fun l => l) 71 (fun l => l.length ≤ 1100000) := by
  refine ConO.ofN (by kernel_rfl) T_ok D_spn_ok .nil 3 [] q_clone.1 q_clone.2.1 q_clone.2.2 (fun _ => rfl) fun l hl => ?_
  have hl : l.length ≤ 1100000 := hl
  repeat' (first | (with_reducible refine ex_of (α := List Spn) l ⟨rfl, rfl, fun _ => rfl⟩ ?_) | (with_reducible refine IsRow.own rfl ?_) | (with_reducible refine IsRow.nil (fun _ => rfl) (by decide) ?_) | (with_reducible first | exact fun h => h | refine ExE.row (by with_unfolding_all rfl) ?_ | refine And.intro ?_ ?_) | ((with_reducible intro hq); first | exact bne1 hq (by with_reducible assumption) | exact bne1 (by with_reducible assumption) hq | ((simp only [*, BB, cond_true, cond_false, reduceCtorEq] at hq); done) | (revert hq; with_reducible intro _)) | (with_reducible first | exact True.intro | rfl | refine EntLe.row ?_ | exact LeN.ro rfl | exact LeN.rptr | assumption) | ((with_reducible first | refine WkX.chk ?_ | refine Wk.chk ?_ | refine LeL.chk ?_ | refine LeF.chk ?_ | refine Run.mk ?_); (conv => whnf)) | ((with_reducible show LeO _ _); first | refine LeO.ro ?_ | refine LeO.roCap ?_ | refine LeO.nil ?_ (fun _ => rfl)) | ((with_reducible show LeR _ _ _); first | refine LeR.own rfl rfl rfl ?_ | refine LeR.view rfl rfl rfl ?_ ?_ | refine LeR.ro ?_ | refine LeR.roCap ?_ | refine LeR.nil ?_ (fun _ => rfl)) | ((with_reducible first | show drawOK _ _ = true | show lateOK _ _ = true | show drawOK2 _ _ = true | show drawOK3 _ _ = true); kernel_rfl))
  all_goals first
    | rfl
    | assumption
    | (show (0 + l.length) * 32 ≤ 140737488355328; omega)
    | (obtain rfl : l = [] := (by assumption : _ → l = []) (by assumption)
       rfl)
    | trace_state
theorem cono_rmoved : ConO prog 63 (fun ((l, k) : List Spn × Int) => [spR l, .v (.int .i64 k)]) C_spn (fun (l, k) => shTo k l l.length) 71 (fun (l, k) => (0 ≤ k ∧ k ≤ 10000) ∧ l.length ≤ 1100000 ∧ InL l 10000) := by
  refine ConO.ofN (by kernel_rfl) T_ok D_spn_ok .nil 3 [] q_rmoved.1 q_rmoved.2.1 q_rmoved.2.2 (fun _ => rfl) fun i hi => ?_
  obtain ⟨l, k⟩ := i
  obtain ⟨⟨h1, h2⟩, h3, hin⟩ : (0 ≤ k ∧ k ≤ 10000) ∧ l.length ≤ 1100000 ∧ InL l 10000 := hi
  have hd : C_spn.d = zS := rfl
  repeat' (first | (with_reducible first | exact fun h => h | refine ExE.row (by with_unfolding_all rfl) ?_ | refine And.intro ?_ ?_) | ((with_reducible intro hq); first | exact bne1 hq (by with_reducible assumption) | exact bne1 (by with_reducible assumption) hq | ((simp only [*, BB, cond_true, cond_false, reduceCtorEq] at hq); done) | (revert hq; with_reducible intro _)) | (with_reducible first | exact True.intro | rfl | refine EntLe.row ?_ | exact LeN.ro rfl | exact LeN.rptr | assumption) | ((with_reducible first | refine WkX.chk ?_ | refine Wk.chk ?_ | refine LeL.chk ?_ | refine LeF.chk ?_ | refine Run.mk ?_); (conv => whnf)) | ((with_reducible show LeO _ _); first | refine LeO.ro ?_ | refine LeO.roCap ?_ | refine LeO.nil ?_ (fun _ => rfl)) | ((with_reducible show LeR _ _ _); first | refine LeR.own rfl rfl rfl ?_ | refine LeR.view rfl rfl rfl ?_ ?_ | refine LeR.ro ?_ | refine LeR.roCap ?_ | refine LeR.nil ?_ (fun _ => rfl)) | ((with_reducible first | show drawOK _ _ = true | show lateOK _ _ = true | show drawOK2 _ _ = true | show drawOK3 _ _ = true); kernel_rfl))
  refine loopI Nat [] (fun j => [(6, .v (.int .i64 (j : Nat))), (5, .own 1)]) (fun j => [(1, .row C_spn (shTo k l j) 71 none)]) (fun j => j ≤ l.length) (fun j => l.length - j) 0 (Nat.zero_le _) (Wk.chk ?_) fun j hj => ?_
  · ((conv => whnf); repeat' (first | (with_reducible first | exact fun h => h | refine ExE.row (by with_unfolding_all rfl) ?_ | refine And.intro ?_ ?_) | ((with_reducible intro hq); first | exact bne1 hq (by with_reducible assumption) | exact bne1 (by with_reducible assumption) hq | ((simp only [*, BB, cond_true, cond_false, reduceCtorEq] at hq); done) | (revert hq; with_reducible intro _)) | (with_reducible first | exact True.intro | rfl | refine EntLe.row ?_ | exact LeN.ro rfl | exact LeN.rptr | assumption) | ((with_reducible first | refine WkX.chk ?_ | refine Wk.chk ?_ | refine LeL.chk ?_ | refine LeF.chk ?_ | refine Run.mk ?_); (conv => whnf)) | ((with_reducible show LeO _ _); first | refine LeO.ro ?_ | refine LeO.roCap ?_ | refine LeO.nil ?_ (fun _ => rfl)) | ((with_reducible show LeR _ _ _); first | refine LeR.own rfl rfl rfl ?_ | refine LeR.view rfl rfl rfl ?_ ?_ | refine LeR.ro ?_ | refine LeR.roCap ?_ | refine LeR.nil ?_ (fun _ => rfl)) | ((with_reducible first | show drawOK _ _ = true | show lateOK _ _ = true | show drawOK2 _ _ = true | show drawOK3 _ _ = true); kernel_rfl)))
    all_goals rfl
  have hj : j ≤ l.length := hj
  have e1 : ((j : Int)).toNat = j := Int.toNat_natCast _
  have hsl := shTo_len (k := k) hj
  by_cases hjl : j < l.length
  · have hlt : decide ((j : Int) < (l.length : Int)) = true := decide_eq_true (by omega)
    have hxb := hin.at hjl
    have hst := (shTo_step (k := k) hjl).symm
    have hxx : l.getD ((j : Int)).toNat C_spn.d = l.getD j zS := by rw [e1, hd]
    repeat' (first | (with_reducible refine ex_of (α := Nat) (j + 1) ⟨?_, ?_⟩ ?_) | (with_reducible first | exact fun h => h | refine ExE.row (by with_unfolding_all rfl) ?_ | refine And.intro ?_ ?_) | ((with_reducible intro hq); first | exact bne1 hq (by with_reducible assumption) | exact bne1 (by with_reducible assumption) hq | ((simp only [*, BB, cond_true, cond_false, reduceCtorEq] at hq); done) | (revert hq; with_reducible intro _)) | (with_reducible first | exact True.intro | rfl | refine EntLe.row ?_ | exact LeN.ro rfl | exact LeN.rptr | assumption) | ((with_reducible first | refine WkX.chk ?_ | refine Wk.chk ?_ | refine LeL.chk ?_ | refine LeF.chk ?_ | refine Run.mk ?_); (conv => whnf)) | ((with_reducible show LeO _ _); first | refine LeO.ro ?_ | refine LeO.roCap ?_ | refine LeO.nil ?_ (fun _ => rfl)) | ((with_reducible show LeR _ _ _); first | refine LeR.own rfl rfl rfl ?_ | refine LeR.view rfl rfl rfl ?_ ?_ | refine LeR.ro ?_ | refine LeR.roCap ?_ | refine LeR.nil ?_ (fun _ => rfl)) | ((with_reducible first | show drawOK _ _ = true | show lateOK _ _ = true | show drawOK2 _ _ = true | show drawOK3 _ _ = true); kernel_rfl))
    all_goals first
      | omega
      | rfl
      | (apply Fits.i64 <;> omega)
      | (rw [hxx]; apply Fits.i64 <;> omega)
      | (show l.length - (j + 1) < l.length - j; omega)
      | (show ((shTo k l j).length + 1) * 32 ≤ 140737488355328; omega)
      | exact hst
      | trace_state
  have hlt : decide ((j : Int) < (l.length : Int)) = false := decide_eq_false (by omega)
  have hjj : j = l.length := by omega
  subst hjj
  repeat' (first | (with_reducible refine IsRow.own rfl ?_) | (with_reducible refine IsRow.nil (fun _ => rfl) (by decide) ?_) | (with_reducible first | exact fun h => h | refine ExE.row (by with_unfolding_all rfl) ?_ | refine And.intro ?_ ?_) | ((with_reducible intro hq); first | exact bne1 hq (by with_reducible assumption) | exact bne1 (by with_reducible assumption) hq | ((simp only [*, BB, cond_true, cond_false, reduceCtorEq] at hq); done) | (revert hq; with_reducible intro _)) | (with_reducible first | exact True.intro | rfl | refine EntLe.row ?_ | exact LeN.ro rfl | exact LeN.rptr | assumption) | ((with_reducible first | refine WkX.chk ?_ | refine Wk.chk ?_ | refine LeL.chk ?_ | refine LeF.chk ?_ | refine Run.mk ?_); (conv => whnf)) | ((with_reducible show LeO _ _); first | refine LeO.ro ?_ | refine LeO.roCap ?_ | refine LeO.nil ?_ (fun _ => rfl)) | ((with_reducible show LeR _ _ _); first | refine LeR.own rfl rfl rfl ?_ | refine LeR.view rfl rfl rfl ?_ ?_ | refine LeR.ro ?_ | refine LeR.roCap ?_ | refine LeR.nil ?_ (fun _ => rfl)) | ((with_reducible first | show drawOK _ _ = true | show lateOK _ _ = true | show drawOK2 _ _ = true | show drawOK3 _ _ = true); kernel_rfl))
  all_goals first
    | rfl
    | trace_state
end Go.SX.Try
/- Plain law: two styled texts joined. -/
namespace Go.SX.Plain
set_option linter.unusedSimpArgs false
section
variable (s : ByteArray) (l : List Spn) (s2 : ByteArray) (l2 : List Spn)
def joinE : Int :=
  if chkN s.size l (sgN s : Nat) ≠ 0 then chkN s.size l (sgN s : Nat)
  else if chkN s2.size l2 (sgN s2 : Nat) ≠ 0 then chkN s2.size l2 (sgN s2 : Nat)
  else if 4096 < s.size + s2.size then 3
  else if meltB s s2 = true then 22
  else if 256 < l.length + l2.length then 2
  else 0
def joinT : ByteArray := if joinE s l s2 l2 = 0 then s ++ s2 else ByteArray.empty
def joinL : List Spn := if joinE s l s2 l2 = 0 then l ++ shTo (sgN s : Nat) l2 l2.length else []
end
section
variable {s : ByteArray} {l : List Spn} {s2 : ByteArray} {l2 : List Spn}
theorem joinE_1 (h1 : ¬ chkN s.size l (sgN s : Nat) = 0) : joinE s l s2 l2 = chkN s.size l (sgN s : Nat) := by
  unfold joinE; rw [if_pos h1]
theorem joinE_2 (h1 : chkN s.size l (sgN s : Nat) = 0) (h2 : ¬ chkN s2.size l2 (sgN s2 : Nat) = 0) : joinE s l s2 l2 = chkN s2.size l2 (sgN s2 : Nat) := by
  unfold joinE; rw [if_neg (fun h => h h1), if_pos h2]
theorem joinE_3 (h1 : chkN s.size l (sgN s : Nat) = 0) (h2 : chkN s2.size l2 (sgN s2 : Nat) = 0) (h3 : 4096 < s.size + s2.size) : joinE s l s2 l2 = 3 := by
  unfold joinE; rw [if_neg (fun h => h h1), if_neg (fun h => h h2), if_pos h3]
theorem joinE_4 (h1 : chkN s.size l (sgN s : Nat) = 0) (h2 : chkN s2.size l2 (sgN s2 : Nat) = 0) (h3 : ¬ 4096 < s.size + s2.size) (h4 : meltB s s2 = true) : joinE s l s2 l2 = 22 := by
  unfold joinE; rw [if_neg (fun h => h h1), if_neg (fun h => h h2), if_neg h3, if_pos h4]
theorem joinE_5 (h1 : chkN s.size l (sgN s : Nat) = 0) (h2 : chkN s2.size l2 (sgN s2 : Nat) = 0) (h3 : ¬ 4096 < s.size + s2.size) (h4 : meltB s s2 = false) (h5 : 256 < l.length + l2.length) : joinE s l s2 l2 = 2 := by
  unfold joinE; rw [if_neg (fun h => h h1), if_neg (fun h => h h2), if_neg h3, if_neg (by rw [h4]; decide), if_pos h5]
theorem joinE_6 (h1 : chkN s.size l (sgN s : Nat) = 0) (h2 : chkN s2.size l2 (sgN s2 : Nat) = 0) (h3 : ¬ 4096 < s.size + s2.size) (h4 : meltB s s2 = false) (h5 : ¬ 256 < l.length + l2.length) : joinE s l s2 l2 = 0 := by
  unfold joinE; rw [if_neg (fun h => h h1), if_neg (fun h => h h2), if_neg h3, if_neg (by rw [h4]; decide), if_neg h5]
theorem joinE_zero (h : joinE s l s2 l2 = 0) : chkN s.size l (sgN s : Nat) = 0 ∧ chkN s2.size l2 (sgN s2 : Nat) = 0 := by
  by_cases h1 : chkN s.size l (sgN s : Nat) = 0
  case neg => exact absurd (joinE_1 (s2 := s2) (l2 := l2) h1 ▸ h) h1
  by_cases h2 : chkN s2.size l2 (sgN s2 : Nat) = 0
  case neg => exact absurd (joinE_2 h1 h2 ▸ h) h2
  exact ⟨h1, h2⟩
theorem joinT_no (h : ¬ joinE s l s2 l2 = 0) : joinT s l s2 l2 = ByteArray.empty := if_neg h
theorem joinL_no (h : ¬ joinE s l s2 l2 = 0) : joinL s l s2 l2 = [] := if_neg h
theorem joinT_yes (h : joinE s l s2 l2 = 0) : joinT s l s2 l2 = s ++ s2 := if_pos h
theorem joinL_yes (h : joinE s l s2 l2 = 0) : joinL s l s2 l2 = l ++ shTo (sgN s : Nat) l2 l2.length := if_pos h
theorem frontT_all (s : ByteArray) : frontT s (sgN s : Nat) = s := by
  unfold frontT
  rw [Int.toNat_natCast, posS_end]
  exact ByteArray.extract_zero_size
theorem restT_all (s : ByteArray) : restT s (sgN s : Nat) = ByteArray.empty := by
  unfold restT
  rw [Int.toNat_natCast, posS_end]
  exact ByteArray.extract_same
theorem melt_nil (a : ByteArray) : meltB a ByteArray.empty = false := by
  rw [melt_iff, ByteArray.append_empty]
  have h : sgns ByteArray.empty = [] := sgnsF_end (s := ByteArray.empty) (pos := 0) (by decide)
  rw [h]
  simp
theorem newT_all (s s2 : ByteArray) : newT s (sgN s : Nat) (sgN s : Nat) s2 = s ++ s2 := by
  unfold newT
  rw [frontT_all, restT_all, ByteArray.append_empty]
theorem mvS_all {n k : Int} {x : Spn} (h1 : x.frm < n) (h2 : x.to ≤ n) : mvS n n k x = x := by
  obtain ⟨a, b, c, d⟩ := x
  simp only [mvS, bgn, eds]
  simp only at h1 h2
  rw [if_neg (by omega), if_neg (by omega), if_pos h2]
theorem filter_map_id {g : Spn → Spn} {p : Spn → Bool} : ∀ (S : List Spn), (∀ x ∈ S, g x = x ∧ p x = true) → (S.map g).filter p = S
  | [], _ => rfl
  | x :: S, h => by
    have hx := h x (List.mem_cons_self ..)
    rw [List.map_cons, hx.1, List.filter_cons_of_pos hx.2, filter_map_id S fun y hy => h y (List.mem_cons_of_mem _ hy)]
theorem out_all {S : List Spn} {n : Nat} {k : Int} (h : InL S n) : outTo (mvS n n k) S S.length = S := by
  unfold outTo
  rw [List.take_length]
  refine filter_map_id S fun x hx => ?_
  have := h x hx
  exact ⟨mvS_all (by omega) (by omega), decide_eq_true (by omega)⟩
theorem may_all (n : Nat) : mayB n n n = true := by
  unfold mayB
  rw [decide_eq_true (by omega : (0 : Int) ≤ n), decide_eq_true (Int.le_refl _)]
  rfl
theorem newL_all (h : InL l (sgN s)) : (newL l (sgN s : Nat) (sgN s : Nat) s2 l2).length = l.length + l2.length := by
  unfold newL
  have h4 : (isort ltO l).length = l.length := isort_len l
  rw [out_all h.isort, List.length_append, shTo_len (Nat.le_refl _), h4]
theorem spl_join (h : chkN s.size l (sgN s : Nat) = 0 → InL l (sgN s)) : splE s l (sgN s : Nat) (sgN s : Nat) s2 l2 = joinE s l s2 l2 := by
  by_cases h1 : chkN s.size l (sgN s : Nat) = 0
  case neg => rw [splE_1 h1, joinE_1 h1]
  by_cases h2 : chkN s2.size l2 (sgN s2 : Nat) = 0
  case neg => rw [splE_2 h1 h2, joinE_2 h1 h2]
  have h3 := may_all (sgN s)
  have hs : (newT s (sgN s : Nat) (sgN s : Nat) s2).size = s.size + s2.size := by rw [newT_all, app_size]
  by_cases h4 : 4096 < s.size + s2.size
  · rw [splE_4 h1 h2 h3 (by omega), joinE_3 h1 h2 h4]
  have h5 : meltB (frontT s (sgN s : Nat) ++ s2) (restT s (sgN s : Nat)) = false := by rw [restT_all]; exact melt_nil _
  cases h6 : meltB s s2 with
  | true => rw [splE_5 h1 h2 h3 (by omega) (.inl (by rw [frontT_all]; exact h6)), joinE_4 h1 h2 h4 h6]
  | false =>
    have h6' : meltB (frontT s (sgN s : Nat)) s2 = false := by rw [frontT_all]; exact h6
    have hl := newL_all (s2 := s2) (l2 := l2) (h h1)
    by_cases h7 : 256 < l.length + l2.length
    · rw [splE_6 h1 h2 h3 (by omega) h6' h5 (by omega), joinE_5 h1 h2 h4 h6 h7]
    · rw [splE_7 h1 h2 h3 (by omega) h6' h5 (by omega), joinE_6 h1 h2 h4 h6 h7]
theorem sh_zero (l : List Spn) : shTo 0 l l.length = l := by
  unfold shTo
  rw [List.take_length]
  have h : shS 0 = id := by
    funext x
    obtain ⟨a, b, c, d⟩ := x
    simp [shS]
  rw [h, List.map_id]
theorem joinL_len : (joinL s l s2 l2).length ≤ 256 := by
  by_cases h : joinE s l s2 l2 = 0
  · rw [joinL_yes h, List.length_append, shTo_len (Nat.le_refl _)]
    by_cases h7 : 256 < l.length + l2.length
    · exfalso
      unfold joinE at h
      by_cases a1 : chkN s.size l (sgN s : Nat) ≠ 0
      · rw [if_pos a1] at h; exact a1 h
      rw [if_neg a1] at h
      by_cases a2 : chkN s2.size l2 (sgN s2 : Nat) ≠ 0
      · rw [if_pos a2] at h; exact a2 h
      rw [if_neg a2] at h
      by_cases a4 : 4096 < s.size + s2.size
      · rw [if_pos a4] at h; cases h
      rw [if_neg a4] at h
      by_cases a5 : meltB s s2 = true
      · rw [if_pos a5] at h; cases h
      rw [if_neg a5, if_pos h7] at h
      cases h
    · omega
  · rw [joinL_no h]
    decide
end
end Go.SX.Plain
/- Contract of style.Join. -/
namespace Go.SX.Try
open Go.Proofs Go.Proofs.Try Go.SX.Plain
set_option maxRecDepth 100000
set_option maxHeartbeats 0
set_option linter.unusedSimpArgs false
theorem q_sjoin : fact 29 f29 := ⟨by kernel_rfl, rfl, by kernel_rfl⟩
theorem con_sjoin : Con prog 29 (fun ((s, l, s2, l2) : ByteArray × List Spn × ByteArray × List Spn) => [txAV s l, txAV s2 l2])
    (fun (s, l, s2, l2) => .tup [txO (joinT s l s2 l2) (joinL s l s2 l2), .v (.int .i64 (joinE s l s2 l2))]) (fun _ => True) := by
  refine Con.of (by kernel_rfl) T_ok D_spn_ok (.cono cono_clone (.con con_scheck (.con con_umelts (.con con_ucount .nil)))) 5 [] q_sjoin.1 q_sjoin.2.1 q_sjoin.2.2 (fun _ => rfl) fun i _ => ?_
  obtain ⟨s, l, s2, l2⟩ := i
  repeat' (first | (with_reducible first | exact fun h => h | refine ExE.row (by with_unfolding_all rfl) ?_ | refine And.intro ?_ ?_) | ((with_reducible intro hq); first | exact bne1 hq (by with_reducible assumption) | exact bne1 (by with_reducible assumption) hq | ((simp only [*, BB, cond_true, cond_false, reduceCtorEq] at hq); done) | (revert hq; with_reducible intro _)) | (with_reducible first | exact True.intro | rfl | refine EntLe.row ?_ | exact LeN.ro rfl | exact LeN.rptr | assumption) | ((with_reducible first | refine WkX.chk ?_ | refine Wk.chk ?_ | refine LeL.chk ?_ | refine LeF.chk ?_ | refine Run.mk ?_); (conv => whnf)) | ((with_reducible show LeO _ _); first | refine LeO.ro ?_ | refine LeO.roCap ?_ | refine LeO.nil ?_ (fun _ => rfl)) | ((with_reducible show LeR _ _ _); first | refine LeR.own rfl rfl rfl ?_ | refine LeR.view rfl rfl rfl ?_ ?_ | refine LeR.ro ?_ | refine LeR.roCap ?_ | refine LeR.nil ?_ (fun _ => rfl)) | ((with_reducible first | show drawOK _ _ = true | show lateOK _ _ = true | show drawOK2 _ _ = true | show drawOK3 _ _ = true); kernel_rfl))
  refine loopI Nat [] (fun i => [(17, .v (.int .i64 (i : Nat)))]) (fun _ => []) (fun i => i ≤ 2 ∧ (1 ≤ i → chkN s.size l (sgN s : Nat) = 0) ∧ (2 ≤ i → chkN s2.size l2 (sgN s2 : Nat) = 0)) (fun i => 2 - i) 0 ⟨by omega, by omega, by omega⟩ (Wk.chk ?_) fun i hx => ?_
  · ((conv => whnf); repeat' (first | (with_reducible first | exact fun h => h | refine ExE.row (by with_unfolding_all rfl) ?_ | refine And.intro ?_ ?_) | ((with_reducible intro hq); first | exact bne1 hq (by with_reducible assumption) | exact bne1 (by with_reducible assumption) hq | ((simp only [*, BB, cond_true, cond_false, reduceCtorEq] at hq); done) | (revert hq; with_reducible intro _)) | (with_reducible first | exact True.intro | rfl | refine EntLe.row ?_ | exact LeN.ro rfl | exact LeN.rptr | assumption) | ((with_reducible first | refine WkX.chk ?_ | refine Wk.chk ?_ | refine LeL.chk ?_ | refine LeF.chk ?_ | refine Run.mk ?_); (conv => whnf)) | ((with_reducible show LeO _ _); first | refine LeO.ro ?_ | refine LeO.roCap ?_ | refine LeO.nil ?_ (fun _ => rfl)) | ((with_reducible show LeR _ _ _); first | refine LeR.own rfl rfl rfl ?_ | refine LeR.view rfl rfl rfl ?_ ?_ | refine LeR.ro ?_ | refine LeR.roCap ?_ | refine LeR.nil ?_ (fun _ => rfl)) | ((with_reducible first | show drawOK _ _ = true | show lateOK _ _ = true | show drawOK2 _ _ = true | show drawOK3 _ _ = true); kernel_rfl)))
    all_goals rfl
  obtain ⟨hi, hc1, hc2⟩ := hx
  obtain rfl | rfl | rfl : i = 0 ∨ i = 1 ∨ i = 2 := by omega
  · have kb : decide (((0 : Nat) : Int) < ((2 : Nat) : Int)) = true := rfl
    by_cases h1 : chkN s.size l (sgN s : Nat) = 0
    · have k1 : (chkN s.size l (sgN s : Nat) != 0) = false := by rw [h1]; rfl
      repeat' (first | (with_reducible refine ⟨(s, l), ⟨(.cons (.agg (.cons (.v _) (.cons (.lent _ _ _ _ _ _) .nil))) .nil), ?_⟩, ?_⟩) | (with_reducible refine ex_of (α := Nat) 1 ⟨⟨?_, fun _ => h1, ?_⟩, ?_⟩ ?_) | (with_reducible first | exact fun h => h | refine ExE.row (by with_unfolding_all rfl) ?_ | refine And.intro ?_ ?_) | ((with_reducible intro hq); first | exact bne1 hq (by with_reducible assumption) | exact bne1 (by with_reducible assumption) hq | ((simp only [*, BB, cond_true, cond_false, reduceCtorEq] at hq); done) | (revert hq; with_reducible intro _)) | (with_reducible first | exact True.intro | rfl | refine EntLe.row ?_ | exact LeN.ro rfl | exact LeN.rptr | assumption) | ((with_reducible first | refine WkX.chk ?_ | refine Wk.chk ?_ | refine LeL.chk ?_ | refine LeF.chk ?_ | refine Run.mk ?_); (conv => whnf)) | ((with_reducible show LeO _ _); first | refine LeO.ro ?_ | refine LeO.roCap ?_ | refine LeO.nil ?_ (fun _ => rfl)) | ((with_reducible show LeR _ _ _); first | refine LeR.own rfl rfl rfl ?_ | refine LeR.view rfl rfl rfl ?_ ?_ | refine LeR.ro ?_ | refine LeR.roCap ?_ | refine LeR.nil ?_ (fun _ => rfl)) | ((with_reducible first | show drawOK _ _ = true | show lateOK _ _ = true | show drawOK2 _ _ = true | show drawOK3 _ _ = true); kernel_rfl))
      all_goals first
        | omega
        | rfl
        | (apply Fits.i64 <;> omega)
        | decide
        | trace_state
    · have k1 : (chkN s.size l (sgN s : Nat) != 0) = true := by simpa using h1
      have hE := joinE_1 (s2 := s2) (l2 := l2) h1
      have hT := joinT_no (s := s) (l := l) (s2 := s2) (l2 := l2) (by rw [hE]; exact h1)
      have hL := joinL_no (s := s) (l := l) (s2 := s2) (l2 := l2) (by rw [hE]; exact h1)
      repeat' (first | (with_reducible refine ⟨(s, l), ⟨(.cons (.agg (.cons (.v _) (.cons (.lent _ _ _ _ _ _) .nil))) .nil), ?_⟩, ?_⟩) | (with_reducible first | exact fun h => h | refine ExE.row (by with_unfolding_all rfl) ?_ | refine And.intro ?_ ?_) | ((with_reducible intro hq); first | exact bne1 hq (by with_reducible assumption) | exact bne1 (by with_reducible assumption) hq | ((simp only [*, BB, cond_true, cond_false, reduceCtorEq] at hq); done) | (revert hq; with_reducible intro _)) | (with_reducible first | exact True.intro | rfl | refine EntLe.row ?_ | exact LeN.ro rfl | exact LeN.rptr | assumption) | ((with_reducible first | refine WkX.chk ?_ | refine Wk.chk ?_ | refine LeL.chk ?_ | refine LeF.chk ?_ | refine Run.mk ?_); (conv => whnf)) | ((with_reducible show LeO _ _); first | refine LeO.ro ?_ | refine LeO.roCap ?_ | refine LeO.nil ?_ (fun _ => rfl)) | ((with_reducible show LeR _ _ _); first | refine LeR.own rfl rfl rfl ?_ | refine LeR.view rfl rfl rfl ?_ ?_ | refine LeR.ro ?_ | refine LeR.roCap ?_ | refine LeR.nil ?_ (fun _ => rfl)) | ((with_reducible first | show drawOK _ _ = true | show lateOK _ _ = true | show drawOK2 _ _ = true | show drawOK3 _ _ = true); kernel_rfl))
      all_goals first
        | exact hE.symm
        | exact hT.symm
        | exact hL.symm
        | decide
        | trace_state
  · have kb : decide (((1 : Nat) : Int) < ((2 : Nat) : Int)) = true := rfl
    have h1 := hc1 (Nat.le_refl _)
    by_cases h2 : chkN s2.size l2 (sgN s2 : Nat) = 0
    · have k1 : (chkN s2.size l2 (sgN s2 : Nat) != 0) = false := by rw [h2]; rfl
      repeat' (first | (with_reducible refine ⟨(s2, l2), ⟨(.cons (.agg (.cons (.v _) (.cons (.lent _ _ _ _ _ _) .nil))) .nil), ?_⟩, ?_⟩) | (with_reducible refine ex_of (α := Nat) 2 ⟨⟨?_, fun _ => h1, fun _ => h2⟩, ?_⟩ ?_) | (with_reducible first | exact fun h => h | refine ExE.row (by with_unfolding_all rfl) ?_ | refine And.intro ?_ ?_) | ((with_reducible intro hq); first | exact bne1 hq (by with_reducible assumption) | exact bne1 (by with_reducible assumption) hq | ((simp only [*, BB, cond_true, cond_false, reduceCtorEq] at hq); done) | (revert hq; with_reducible intro _)) | (with_reducible first | exact True.intro | rfl | refine EntLe.row ?_ | exact LeN.ro rfl | exact LeN.rptr | assumption) | ((with_reducible first | refine WkX.chk ?_ | refine Wk.chk ?_ | refine LeL.chk ?_ | refine LeF.chk ?_ | refine Run.mk ?_); (conv => whnf)) | ((with_reducible show LeO _ _); first | refine LeO.ro ?_ | refine LeO.roCap ?_ | refine LeO.nil ?_ (fun _ => rfl)) | ((with_reducible show LeR _ _ _); first | refine LeR.own rfl rfl rfl ?_ | refine LeR.view rfl rfl rfl ?_ ?_ | refine LeR.ro ?_ | refine LeR.roCap ?_ | refine LeR.nil ?_ (fun _ => rfl)) | ((with_reducible first | show drawOK _ _ = true | show lateOK _ _ = true | show drawOK2 _ _ = true | show drawOK3 _ _ = true); kernel_rfl))
      all_goals first
        | omega
        | rfl
        | (apply Fits.i64 <;> omega)
        | decide
        | trace_state
    · have k1 : (chkN s2.size l2 (sgN s2 : Nat) != 0) = true := by simpa using h2
      have hE := joinE_2 h1 h2
      have hT := joinT_no (s := s) (l := l) (s2 := s2) (l2 := l2) (by rw [hE]; exact h2)
      have hL := joinL_no (s := s) (l := l) (s2 := s2) (l2 := l2) (by rw [hE]; exact h2)
      repeat' (first | (with_reducible refine ⟨(s2, l2), ⟨(.cons (.agg (.cons (.v _) (.cons (.lent _ _ _ _ _ _) .nil))) .nil), ?_⟩, ?_⟩) | (with_reducible first | exact fun h => h | refine ExE.row (by with_unfolding_all rfl) ?_ | refine And.intro ?_ ?_) | ((with_reducible intro hq); first | exact bne1 hq (by with_reducible assumption) | exact bne1 (by with_reducible assumption) hq | ((simp only [*, BB, cond_true, cond_false, reduceCtorEq] at hq); done) | (revert hq; with_reducible intro _)) | (with_reducible first | exact True.intro | rfl | refine EntLe.row ?_ | exact LeN.ro rfl | exact LeN.rptr | assumption) | ((with_reducible first | refine WkX.chk ?_ | refine Wk.chk ?_ | refine LeL.chk ?_ | refine LeF.chk ?_ | refine Run.mk ?_); (conv => whnf)) | ((with_reducible show LeO _ _); first | refine LeO.ro ?_ | refine LeO.roCap ?_ | refine LeO.nil ?_ (fun _ => rfl)) | ((with_reducible show LeR _ _ _); first | refine LeR.own rfl rfl rfl ?_ | refine LeR.view rfl rfl rfl ?_ ?_ | refine LeR.ro ?_ | refine LeR.roCap ?_ | refine LeR.nil ?_ (fun _ => rfl)) | ((with_reducible first | show drawOK _ _ = true | show lateOK _ _ = true | show drawOK2 _ _ = true | show drawOK3 _ _ = true); kernel_rfl))
      all_goals first
        | exact hE.symm
        | exact hT.symm
        | exact hL.symm
        | decide
        | trace_state
  have kb : decide (((2 : Nat) : Int) < ((2 : Nat) : Int)) = false := rfl
  have h1 := hc1 (by omega)
  have h2 := hc2 (by omega)
  clear hc1 hc2
  have ok1 := OkT.of h1
  have ok2 := OkT.of h2
  have hs := ok1.size
  have hs2 := ok2.size
  have hn := sgN_le s
  have hn2 := sgN_le s2
  have hl := ok1.len
  have hl2 := ok2.len
  have hsz : (s ++ s2).size = s.size + s2.size := app_size _ _
  by_cases h3 : 4096 < s.size + s2.size
  · have hE := joinE_3 h1 h2 h3
    have hT := joinT_no (s := s) (l := l) (s2 := s2) (l2 := l2) (by rw [hE]; decide)
    have hL := joinL_no (s := s) (l := l) (s2 := s2) (l2 := l2) (by rw [hE]; decide)
    have k2 : decide ((4096 : Int) < (s.size : Int) + (s2.size : Int)) = true := decide_eq_true (by omega)
    repeat' (first | (with_reducible first | exact fun h => h | refine ExE.row (by with_unfolding_all rfl) ?_ | refine And.intro ?_ ?_) | ((with_reducible intro hq); first | exact bne1 hq (by with_reducible assumption) | exact bne1 (by with_reducible assumption) hq | ((simp only [*, BB, cond_true, cond_false, reduceCtorEq] at hq); done) | (revert hq; with_reducible intro _)) | (with_reducible first | exact True.intro | rfl | refine EntLe.row ?_ | exact LeN.ro rfl | exact LeN.rptr | assumption) | ((with_reducible first | refine WkX.chk ?_ | refine Wk.chk ?_ | refine LeL.chk ?_ | refine LeF.chk ?_ | refine Run.mk ?_); (conv => whnf)) | ((with_reducible show LeO _ _); first | refine LeO.ro ?_ | refine LeO.roCap ?_ | refine LeO.nil ?_ (fun _ => rfl)) | ((with_reducible show LeR _ _ _); first | refine LeR.own rfl rfl rfl ?_ | refine LeR.view rfl rfl rfl ?_ ?_ | refine LeR.ro ?_ | refine LeR.roCap ?_ | refine LeR.nil ?_ (fun _ => rfl)) | ((with_reducible first | show drawOK _ _ = true | show lateOK _ _ = true | show drawOK2 _ _ = true | show drawOK3 _ _ = true); kernel_rfl))
    all_goals first
      | (apply Fits.i64 <;> omega)
      | exact hE.symm
      | exact hT.symm
      | exact hL.symm
      | trace_state
  have k2 : decide ((4096 : Int) < (s.size : Int) + (s2.size : Int)) = false := decide_eq_false (by omega)
  have hms := Bool.eq_false_or_eq_true (meltB s s2)
  rcases hms with h4 | h4
  · have hE := joinE_4 (l := l) (l2 := l2) h1 h2 h3 h4
    have hT := joinT_no (s := s) (l := l) (s2 := s2) (l2 := l2) (by rw [hE]; decide)
    have hL := joinL_no (s := s) (l := l) (s2 := s2) (l2 := l2) (by rw [hE]; decide)
    repeat' (first | (with_reducible refine ⟨(_, _), ⟨(.cons (.v _) (.cons (.v _) .nil)), ?_⟩, ?_⟩) | (with_reducible first | exact fun h => h | refine ExE.row (by with_unfolding_all rfl) ?_ | refine And.intro ?_ ?_) | ((with_reducible intro hq); first | exact bne1 hq (by with_reducible assumption) | exact bne1 (by with_reducible assumption) hq | ((simp only [*, BB, cond_true, cond_false, reduceCtorEq] at hq); done) | (revert hq; with_reducible intro _)) | (with_reducible first | exact True.intro | rfl | refine EntLe.row ?_ | exact LeN.ro rfl | exact LeN.rptr | assumption) | ((with_reducible first | refine WkX.chk ?_ | refine Wk.chk ?_ | refine LeL.chk ?_ | refine LeF.chk ?_ | refine Run.mk ?_); (conv => whnf)) | ((with_reducible show LeO _ _); first | refine LeO.ro ?_ | refine LeO.roCap ?_ | refine LeO.nil ?_ (fun _ => rfl)) | ((with_reducible show LeR _ _ _); first | refine LeR.own rfl rfl rfl ?_ | refine LeR.view rfl rfl rfl ?_ ?_ | refine LeR.ro ?_ | refine LeR.roCap ?_ | refine LeR.nil ?_ (fun _ => rfl)) | ((with_reducible first | show drawOK _ _ = true | show lateOK _ _ = true | show drawOK2 _ _ = true | show drawOK3 _ _ = true); kernel_rfl))
    all_goals first
      | omega
      | (apply Fits.i64 <;> omega)
      | (dsimp only; omega)
      | exact hE.symm
      | exact hT.symm
      | exact hL.symm
      | trace_state
  by_cases h5 : 256 < l.length + l2.length
  · have hE := joinE_5 (l := l) (l2 := l2) h1 h2 h3 h4 h5
    have hT := joinT_no (s := s) (l := l) (s2 := s2) (l2 := l2) (by rw [hE]; decide)
    have hL := joinL_no (s := s) (l := l) (s2 := s2) (l2 := l2) (by rw [hE]; decide)
    have k3 : decide ((256 : Int) < (l.length : Int) + (l2.length : Int)) = true := decide_eq_true (by omega)
    repeat' (first | (with_reducible refine ⟨(_, _), ⟨(.cons (.v _) (.cons (.v _) .nil)), ?_⟩, ?_⟩) | (with_reducible first | exact fun h => h | refine ExE.row (by with_unfolding_all rfl) ?_ | refine And.intro ?_ ?_) | ((with_reducible intro hq); first | exact bne1 hq (by with_reducible assumption) | exact bne1 (by with_reducible assumption) hq | ((simp only [*, BB, cond_true, cond_false, reduceCtorEq] at hq); done) | (revert hq; with_reducible intro _)) | (with_reducible first | exact True.intro | rfl | refine EntLe.row ?_ | exact LeN.ro rfl | exact LeN.rptr | assumption) | ((with_reducible first | refine WkX.chk ?_ | refine Wk.chk ?_ | refine LeL.chk ?_ | refine LeF.chk ?_ | refine Run.mk ?_); (conv => whnf)) | ((with_reducible show LeO _ _); first | refine LeO.ro ?_ | refine LeO.roCap ?_ | refine LeO.nil ?_ (fun _ => rfl)) | ((with_reducible show LeR _ _ _); first | refine LeR.own rfl rfl rfl ?_ | refine LeR.view rfl rfl rfl ?_ ?_ | refine LeR.ro ?_ | refine LeR.roCap ?_ | refine LeR.nil ?_ (fun _ => rfl)) | ((with_reducible first | show drawOK _ _ = true | show lateOK _ _ = true | show drawOK2 _ _ = true | show drawOK3 _ _ = true); kernel_rfl))
    all_goals first
      | omega
      | (apply Fits.i64 <;> omega)
      | (dsimp only; omega)
      | exact hE.symm
      | exact hT.symm
      | exact hL.symm
      | trace_state
  have k3 : decide ((256 : Int) < (l.length : Int) + (l2.length : Int)) = false := decide_eq_false (by omega)
  have hE := joinE_6 (l := l) (l2 := l2) h1 h2 h3 h4 h5
  have hT := joinT_yes hE
  have hL := joinL_yes hE
  have hd : C_spn.d = zS := rfl
  have hin2 := spans_in ok2.spans
  repeat' (first | (with_reducible refine ⟨(_, _), ⟨(.cons (.v _) (.cons (.v _) .nil)), ?_⟩, ?_⟩) | (with_reducible refine ⟨_, ⟨(.cons (.v _) .nil), ?_⟩, ?_⟩) | (with_reducible refine ⟨l, ⟨(.cons (.lent _ _ _ _ _ _) .nil), ?_⟩, ?_⟩) | (with_reducible first | exact fun h => h | refine ExE.row (by with_unfolding_all rfl) ?_ | refine And.intro ?_ ?_) | ((with_reducible intro hq); first | exact bne1 hq (by with_reducible assumption) | exact bne1 (by with_reducible assumption) hq | ((simp only [*, BB, cond_true, cond_false, reduceCtorEq] at hq); done) | (revert hq; with_reducible intro _)) | (with_reducible first | exact True.intro | rfl | refine EntLe.row ?_ | exact LeN.ro rfl | exact LeN.rptr | assumption) | ((with_reducible first | refine WkX.chk ?_ | refine Wk.chk ?_ | refine LeL.chk ?_ | refine LeF.chk ?_ | refine Run.mk ?_); (conv => whnf)) | ((with_reducible show LeO _ _); first | refine LeO.ro ?_ | refine LeO.roCap ?_ | refine LeO.nil ?_ (fun _ => rfl)) | ((with_reducible show LeR _ _ _); first | refine LeR.own rfl rfl rfl ?_ | refine LeR.view rfl rfl rfl ?_ ?_ | refine LeR.ro ?_ | refine LeR.roCap ?_ | refine LeR.nil ?_ (fun _ => rfl)) | ((with_reducible first | show drawOK _ _ = true | show lateOK _ _ = true | show drawOK2 _ _ = true | show drawOK3 _ _ = true); kernel_rfl))
  all_goals (try (first | omega | (apply Fits.i64 <;> omega) | (dsimp only; omega)))
  refine loopI Nat [62, 63] (fun j => [(70, .v (.int .i64 (j : Nat)))]) (fun j => [(4, .row C_spn (l ++ shTo (sgN s : Nat) l2 j) 71 none)]) (fun j => j ≤ l2.length) (fun j => l2.length - j) 0 (Nat.zero_le _) (Wk.chk ?_) fun j hj => ?_
  · ((conv => whnf); repeat' (first | (with_reducible first | exact fun h => h | refine ExE.row (by with_unfolding_all rfl) ?_ | refine And.intro ?_ ?_) | ((with_reducible intro hq); first | exact bne1 hq (by with_reducible assumption) | exact bne1 (by with_reducible assumption) hq | ((simp only [*, BB, cond_true, cond_false, reduceCtorEq] at hq); done) | (revert hq; with_reducible intro _)) | (with_reducible first | exact True.intro | rfl | refine EntLe.row ?_ | exact LeN.ro rfl | exact LeN.rptr | assumption) | ((with_reducible first | refine WkX.chk ?_ | refine Wk.chk ?_ | refine LeL.chk ?_ | refine LeF.chk ?_ | refine Run.mk ?_); (conv => whnf)) | ((with_reducible show LeO _ _); first | refine LeO.ro ?_ | refine LeO.roCap ?_ | refine LeO.nil ?_ (fun _ => rfl)) | ((with_reducible show LeR _ _ _); first | refine LeR.own rfl rfl rfl ?_ | refine LeR.view rfl rfl rfl ?_ ?_ | refine LeR.ro ?_ | refine LeR.roCap ?_ | refine LeR.nil ?_ (fun _ => rfl)) | ((with_reducible first | show drawOK _ _ = true | show lateOK _ _ = true | show drawOK2 _ _ = true | show drawOK3 _ _ = true); kernel_rfl)))
    all_goals first
      | rfl
      | (simp [shTo]; done)
      | trace_state
  have hj : j ≤ l2.length := hj
  have e1 : ((j : Int)).toNat = j := Int.toNat_natCast _
  have hsl := shTo_len (k := (sgN s : Nat)) hj
  by_cases hjl : j < l2.length
  · have hlt : decide ((j : Int) < (l2.length : Int)) = true := decide_eq_true (by omega)
    have hxb := hin2.at hjl
    have hst := shTo_step (k := (sgN s : Nat)) hjl
    have hxx : l2.getD ((j : Int)).toNat C_spn.d = l2.getD j zS := by rw [e1, hd]
    have hst2 : l ++ shTo (sgN s : Nat) l2 j ++ [shS (sgN s : Nat) (l2.getD j zS)] = l ++ shTo (sgN s : Nat) l2 (j + 1) := by rw [hst, List.append_assoc]
    repeat' (first | (with_reducible refine ex_of (α := Nat) (j + 1) ⟨?_, ?_⟩ ?_) | (with_reducible first | exact fun h => h | refine ExE.row (by with_unfolding_all rfl) ?_ | refine And.intro ?_ ?_) | ((with_reducible intro hq); first | exact bne1 hq (by with_reducible assumption) | exact bne1 (by with_reducible assumption) hq | ((simp only [*, BB, cond_true, cond_false, reduceCtorEq] at hq); done) | (revert hq; with_reducible intro _)) | (with_reducible first | exact True.intro | rfl | refine EntLe.row ?_ | exact LeN.ro rfl | exact LeN.rptr | assumption) | ((with_reducible first | refine WkX.chk ?_ | refine Wk.chk ?_ | refine LeL.chk ?_ | refine LeF.chk ?_ | refine Run.mk ?_); (conv => whnf)) | ((with_reducible show LeO _ _); first | refine LeO.ro ?_ | refine LeO.roCap ?_ | refine LeO.nil ?_ (fun _ => rfl)) | ((with_reducible show LeR _ _ _); first | refine LeR.own rfl rfl rfl ?_ | refine LeR.view rfl rfl rfl ?_ ?_ | refine LeR.ro ?_ | refine LeR.roCap ?_ | refine LeR.nil ?_ (fun _ => rfl)) | ((with_reducible first | show drawOK _ _ = true | show lateOK _ _ = true | show drawOK2 _ _ = true | show drawOK3 _ _ = true); kernel_rfl))
    all_goals first
      | omega
      | rfl
      | (apply Fits.i64 <;> omega)
      | (rw [hxx]; apply Fits.i64 <;> omega)
      | (show l2.length - (j + 1) < l2.length - j; omega)
      | (show ((l ++ shTo (sgN s : Nat) l2 j).length + 1) * 32 ≤ 140737488355328; rw [List.length_append]; omega)
      | exact hst2
      | trace_state
  have hlt : decide ((j : Int) < (l2.length : Int)) = false := decide_eq_false (by omega)
  have hjj : j = l2.length := by omega
  subst hjj
  repeat' (first | (with_reducible first | exact fun h => h | refine ExE.row (by with_unfolding_all rfl) ?_ | refine And.intro ?_ ?_) | ((with_reducible intro hq); first | exact bne1 hq (by with_reducible assumption) | exact bne1 (by with_reducible assumption) hq | ((simp only [*, BB, cond_true, cond_false, reduceCtorEq] at hq); done) | (revert hq; with_reducible intro _)) | (with_reducible first | exact True.intro | rfl | refine EntLe.row ?_ | exact LeN.ro rfl | exact LeN.rptr | assumption) | ((with_reducible first | refine WkX.chk ?_ | refine Wk.chk ?_ | refine LeL.chk ?_ | refine LeF.chk ?_ | refine Run.mk ?_); (conv => whnf)) | ((with_reducible show LeO _ _); first | refine LeO.ro ?_ | refine LeO.roCap ?_ | refine LeO.nil ?_ (fun _ => rfl)) | ((with_reducible show LeR _ _ _); first | refine LeR.own rfl rfl rfl ?_ | refine LeR.view rfl rfl rfl ?_ ?_ | refine LeR.ro ?_ | refine LeR.roCap ?_ | refine LeR.nil ?_ (fun _ => rfl)) | ((with_reducible first | show drawOK _ _ = true | show lateOK _ _ = true | show drawOK2 _ _ = true | show drawOK3 _ _ = true); kernel_rfl))
  all_goals first
    | exact hE.symm
    | exact hT.symm
    | exact hL.symm
    | trace_state
end Go.SX.Try
/- Contract of the document's Join. -/
namespace Go.SX.Try
open Go.Proofs Go.Proofs.Try Go.SX.Plain
set_option maxRecDepth 100000
set_option maxHeartbeats 0
set_option linter.unusedSimpArgs false
theorem q_rjoin7 : fact 30 f30 := ⟨by kernel_rfl, rfl, by kernel_rfl⟩
theorem con_rjoin7 : Con prog 30 (fun ((s, l, s2, l2) : ByteArray × List Spn × ByteArray × List Spn) => [txAV s l, txAV s2 l2])
    (fun (s, l, s2, l2) => .tup [txO (joinT s l s2 l2) (joinL s l s2 l2), .v (.int .i64 (joinE s l s2 l2))]) (fun (s, _, _, _) => s.size ≤ 1100000) := by
  refine Con.of (by kernel_rfl) T_ok D_spn_ok (.cono cono_rmoved (.con con_rcount (.con con_rsplice .nil))) 5 [] q_rjoin7.1 q_rjoin7.2.1 q_rjoin7.2.2 (fun _ => rfl) fun i hi => ?_
  obtain ⟨s, l, s2, l2⟩ := i
  have hi : s.size ≤ 1100000 := hi
  have hsp : splE s l (sgN s : Nat) (sgN s : Nat) s2 l2 = joinE s l s2 l2 := spl_join fun h => spans_in (OkT.of h).spans
  by_cases h0 : joinE s l s2 l2 = 0
  case neg =>
    have k1 : (splE s l (sgN s : Nat) (sgN s : Nat) s2 l2 != 0) = true := by rw [hsp]; simpa using h0
    have hT := joinT_no h0
    have hL := joinL_no h0
    repeat' (first | (with_reducible refine ⟨_, ⟨(.cons (.v _) .nil), ?_⟩, ?_⟩) | (with_reducible refine ⟨(s, l, _, _, s2, l2), ⟨(.cons (.agg (.cons (.v _) (.cons (.lent _ _ _ _ _ _) .nil))) (.cons (.v _) (.cons (.v _) (.cons (.agg (.cons (.v _) (.cons (.lent _ _ _ _ _ _) .nil))) .nil)))), ?_⟩, ?_⟩) | (with_reducible first | exact fun h => h | refine ExE.row (by with_unfolding_all rfl) ?_ | refine And.intro ?_ ?_) | ((with_reducible intro hq); first | exact bne1 hq (by with_reducible assumption) | exact bne1 (by with_reducible assumption) hq | ((simp only [*, BB, cond_true, cond_false, reduceCtorEq] at hq); done) | (revert hq; with_reducible intro _)) | (with_reducible first | exact True.intro | rfl | refine EntLe.row ?_ | exact LeN.ro rfl | exact LeN.rptr | assumption) | ((with_reducible first | refine WkX.chk ?_ | refine Wk.chk ?_ | refine LeL.chk ?_ | refine LeF.chk ?_ | refine Run.mk ?_); (conv => whnf)) | ((with_reducible show LeO _ _); first | refine LeO.ro ?_ | refine LeO.roCap ?_ | refine LeO.nil ?_ (fun _ => rfl)) | ((with_reducible show LeR _ _ _); first | refine LeR.own rfl rfl rfl ?_ | refine LeR.view rfl rfl rfl ?_ ?_ | refine LeR.ro ?_ | refine LeR.roCap ?_ | refine LeR.nil ?_ (fun _ => rfl)) | ((with_reducible first | show drawOK _ _ = true | show lateOK _ _ = true | show drawOK2 _ _ = true | show drawOK3 _ _ = true); kernel_rfl))
    all_goals first
      | omega
      | exact hi
      | exact hsp
      | exact hsp.symm
      | exact hT.symm
      | exact hL.symm
      | trace_state
  have k1 : (splE s l (sgN s : Nat) (sgN s : Nat) s2 l2 != 0) = false := by rw [hsp, h0]; rfl
  have hT := joinT_yes h0
  have hL := joinL_yes h0
  have hsT : splT s l (sgN s : Nat) (sgN s : Nat) s2 l2 = s ++ s2 := by rw [splT_yes (by rw [hsp]; exact h0), newT_all]
  obtain ⟨z1, z2⟩ := joinE_zero h0
  have ok1 := OkT.of z1
  have ok2 := OkT.of z2
  have hn := sgN_le s
  have hn2 := sgN_le s2
  have hs := ok1.size
  have hs2 := ok2.size
  have hl := ok1.len
  have hl2 := ok2.len
  have i1 : InL l 10000 := fun x hx => by have := spans_in ok1.spans x hx; omega
  have i2 : InL l2 10000 := fun x hx => by have := spans_in ok2.spans x hx; omega
  have hsz : shTo 0 l l.length = l := sh_zero l
  have hsn := shTo_len (l := l2) (k := (sgN s : Nat)) (Nat.le_refl _)
  repeat' (first | (with_reducible refine ⟨_, ⟨(.cons (.v _) .nil), ?_⟩, ?_⟩) | (with_reducible refine ⟨(s, l, _, _, s2, l2), ⟨(.cons (.agg (.cons (.v _) (.cons (.lent _ _ _ _ _ _) .nil))) (.cons (.v _) (.cons (.v _) (.cons (.agg (.cons (.v _) (.cons (.lent _ _ _ _ _ _) .nil))) .nil)))), ?_⟩, ?_⟩) | (with_reducible refine ⟨(l, 0), ⟨(.cons (.lent _ _ _ _ _ _) (.cons (.v _) .nil)), ?_⟩, ?_⟩) | (with_reducible refine ⟨(l2, _), ⟨(.cons (.lent _ _ _ _ _ _) (.cons (.v _) .nil)), ?_⟩, ?_⟩) | (with_reducible refine ex_of (α := List Spn) (shTo (sgN s : Nat) l2 l2.length) ⟨rfl, rfl, fun _ => rfl⟩ ?_) | (with_reducible first | exact fun h => h | refine ExE.row (by with_unfolding_all rfl) ?_ | refine And.intro ?_ ?_) | ((with_reducible intro hq); first | exact bne1 hq (by with_reducible assumption) | exact bne1 (by with_reducible assumption) hq | ((simp only [*, BB, cond_true, cond_false, reduceCtorEq] at hq); done) | (revert hq; with_reducible intro _)) | (with_reducible first | exact True.intro | rfl | refine EntLe.row ?_ | exact LeN.ro rfl | exact LeN.rptr | assumption) | ((with_reducible first | refine WkX.chk ?_ | refine Wk.chk ?_ | refine LeL.chk ?_ | refine LeF.chk ?_ | refine Run.mk ?_); (conv => whnf)) | ((with_reducible show LeO _ _); first | refine LeO.ro ?_ | refine LeO.roCap ?_ | refine LeO.nil ?_ (fun _ => rfl)) | ((with_reducible show LeR _ _ _); first | refine LeR.own rfl rfl rfl ?_ | refine LeR.view rfl rfl rfl ?_ ?_ | refine LeR.ro ?_ | refine LeR.roCap ?_ | refine LeR.nil ?_ (fun _ => rfl)) | ((with_reducible first | show drawOK _ _ = true | show lateOK _ _ = true | show drawOK2 _ _ = true | show drawOK3 _ _ = true); kernel_rfl))
  all_goals first
    | omega
    | exact hi
    | exact i1
    | exact i2
    | (apply Fits.i64 <;> omega)
    | (dsimp only; omega)
    | (show ((shTo 0 l l.length).length + (shTo (sgN s : Nat) l2 l2.length).length) * 32 ≤ 140737488355328; rw [hsz]; omega)
    | exact hsT.trans hT.symm
    | (show shTo 0 l l.length ++ shTo (sgN s : Nat) l2 l2.length = joinL s l s2 l2; rw [hsz]; exact hL.symm)
    | trace_state
end Go.SX.Try
/- The law StyleJoins: true, where the first text is no longer than 1100000 bytes. -/
namespace Go.SX.Try
open Go.Proofs Go.Proofs.Try Go.SX.Plain
set_option maxRecDepth 100000
set_option maxHeartbeats 0
set_option linter.unusedSimpArgs false
theorem q_styleJoins : fact 7 f7 := ⟨by kernel_rfl, rfl, by kernel_rfl⟩
theorem con_styleJoins : Con prog 7 (fun ((s, l, s2, l2) : ByteArray × List Spn × ByteArray × List Spn) => [txAV s l, txAV s2 l2]) (fun _ => .v (.bool true))
    (fun (s, l, _, l2) => s.size ≤ 1100000 ∧ l.length * 32 ≤ 140737488351232 ∧ l2.length * 32 ≤ 140737488351232) := by
  refine Con.of (by kernel_rfl) T_ok D_spnP_ok (.inl (J := []) q_lend.1 q_lend.2.1 q_lend.2.2 (.inl (J := []) q_back.1 q_back.2.1 q_back.2.2 (.con con_sjoin (.con con_rjoin7 (.con con_sameSpans (.con con_sameText (.con con_head7 .nil))))))) 5 [] q_styleJoins.1 q_styleJoins.2.1 q_styleJoins.2.2 (fun _ => rfl) fun i hi => ?_
  obtain ⟨s, l, s2, l2⟩ := i
  obtain ⟨hsz, hl, hl2⟩ : s.size ≤ 1100000 ∧ l.length * 32 ≤ 140737488351232 ∧ l2.length * 32 ≤ 140737488351232 := hi
  have hln : (l ++ [mrk]).length = l.length + 1 := by simp
  have hln2 : (l2 ++ [mrk]).length = l2.length + 1 := by simp
  have e3 : ((l.length : Int) + 3).toNat = l.length + 3 := by omega
  have e4 : ((l2.length : Int) + 3).toNat = l2.length + 3 := by omega
  have hvl : (((l ++ [mrk]).drop 0).take l.length) = l := by rw [List.drop_zero]; exact snoc_take l mrk
  have hvl2 : (((l2 ++ [mrk]).drop 0).take l2.length) = l2 := by rw [List.drop_zero]; exact snoc_take l2 mrk
  have hll : decide (l = l) = true := decide_eq_true rfl
  have hll2 : decide (l2 = l2) = true := decide_eq_true rfl
  have hE4 : (decide (l = l) && spEqB ((l ++ [mrk]).getD (((0 : Nat) : Int) + (l.length : Int)).toNat C_spnP.d) mrk) = true := by
    rw [hll, show (((0 : Nat) : Int) + (l.length : Int)).toNat = l.length by omega, snoc_at, spEqB_eq]
    simp
  have hE9 : (decide (l2 = l2) && spEqB ((l2 ++ [mrk]).getD (((0 : Nat) : Int) + (l2.length : Int)).toNat C_spnP.d) mrk) = true := by
    rw [hll2, show (((0 : Nat) : Int) + (l2.length : Int)).toNat = l2.length by omega, snoc_at, spEqB_eq]
    simp
  have hspl := joinL_len (s := s) (l := l) (s2 := s2) (l2 := l2)
  have hTT : (decide (joinT s l s2 l2 = joinT s l s2 l2) && decide (joinL s l s2 l2 = joinL s l s2 l2)) = true := by simp
  have hEE : (joinE s l s2 l2 == joinE s l s2 l2) = true := by simp
  repeat' (first | (with_reducible refine ex_of (α := List Spn) l ⟨rfl, rfl, fun _ => rfl⟩ ?_) | (with_reducible refine ex_of (α := List Spn) l2 ⟨rfl, rfl, fun _ => rfl⟩ ?_) | (with_reducible refine ⟨(s, l, s2, l2), ⟨.cons (.agg (.cons (.v _) (.cons (le_view (by with_unfolding_all exact rfl) (by with_unfolding_all exact rfl) (by with_unfolding_all exact rfl) ?_ ?_) .nil))) (.cons (.agg (.cons (.v _) (.cons (le_view (by with_unfolding_all exact rfl) (by with_unfolding_all exact rfl) (by with_unfolding_all exact rfl) ?_ ?_) .nil))) .nil), ?_⟩, ?_⟩) | (with_reducible refine ⟨(s, l, s2, l2), ⟨(.cons (.agg (.cons (.v _) (.cons (.lent _ _ _ _ _ _) .nil))) (.cons (.agg (.cons (.v _) (.cons (.lent _ _ _ _ _ _) .nil))) .nil)), ?_⟩, ?_⟩) | (with_reducible refine ⟨(l, l), ⟨.cons (le_view (by with_unfolding_all exact rfl) (by with_unfolding_all exact rfl) (by with_unfolding_all exact rfl) ?_ ?_) (.cons (.lent _ _ _ _ _ _) .nil), ?_⟩, ?_⟩) | (with_reducible first | exact fun h => h | refine ExE.row (by with_unfolding_all rfl) ?_ | refine And.intro ?_ ?_) | ((with_reducible intro hq); first | exact bne1 hq (by with_reducible assumption) | exact bne1 (by with_reducible assumption) hq | ((simp only [*, BB, cond_true, cond_false, reduceCtorEq] at hq); done) | (revert hq; with_reducible intro _)) | (with_reducible first | exact True.intro | rfl | refine EntLe.row ?_ | exact LeN.ro rfl | exact LeN.rptr | assumption) | ((with_reducible first | refine WkX.chk ?_ | refine Wk.chk ?_ | refine LeL.chk ?_ | refine LeF.chk ?_ | refine Run.mk ?_); (conv => whnf)) | ((with_reducible show LeO _ _); first | refine LeO.ro ?_ | refine LeO.roCap ?_ | refine LeO.nil ?_ (fun _ => rfl)) | ((with_reducible show LeR _ _ _); first | refine LeR.own rfl rfl rfl ?_ | refine LeR.view rfl rfl rfl ?_ ?_ | refine LeR.ro ?_ | refine LeR.roCap ?_ | refine LeR.nil ?_ (fun _ => rfl)) | ((with_reducible first | show drawOK _ _ = true | show lateOK _ _ = true | show drawOK2 _ _ = true | show drawOK3 _ _ = true); kernel_rfl))
  all_goals (try first | omega | (apply Fits.i64 <;> omega) | exact hvl | exact hvl2 | (dsimp only; omega) | (simp only [List.length_append, List.length_cons, List.length_nil, List.length_replicate, e3, e4]; omega) | rfl)
  refine loopI Nat [] (fun i => [(7, .v (.int .i64 (i : Nat))), (6, .sb true)]) (fun i => [(4, .row C_spnP (bkTo ovr (l ++ [mrk]) i) 71 (some ((l.length : Int) + 3).toNat))]) (fun i => i ≤ l.length + 1) (fun i => l.length + 1 - i) 0 (Nat.zero_le _) (Wk.chk ?_) fun i hi => ?_
  · ((conv => whnf); repeat' (first | (with_reducible first | exact fun h => h | refine ExE.row (by with_unfolding_all rfl) ?_ | refine And.intro ?_ ?_) | ((with_reducible intro hq); first | exact bne1 hq (by with_reducible assumption) | exact bne1 (by with_reducible assumption) hq | ((simp only [*, BB, cond_true, cond_false, reduceCtorEq] at hq); done) | (revert hq; with_reducible intro _)) | (with_reducible first | exact True.intro | rfl | refine EntLe.row ?_ | exact LeN.ro rfl | exact LeN.rptr | assumption) | ((with_reducible first | refine WkX.chk ?_ | refine Wk.chk ?_ | refine LeL.chk ?_ | refine LeF.chk ?_ | refine Run.mk ?_); (conv => whnf)) | ((with_reducible show LeO _ _); first | refine LeO.ro ?_ | refine LeO.roCap ?_ | refine LeO.nil ?_ (fun _ => rfl)) | ((with_reducible show LeR _ _ _); first | refine LeR.own rfl rfl rfl ?_ | refine LeR.view rfl rfl rfl ?_ ?_ | refine LeR.ro ?_ | refine LeR.roCap ?_ | refine LeR.nil ?_ (fun _ => rfl)) | ((with_reducible first | show drawOK _ _ = true | show lateOK _ _ = true | show drawOK2 _ _ = true | show drawOK3 _ _ = true); kernel_rfl)))
    all_goals first
      | rfl
      | exact hE4
      | (rw [bk_zero]; rfl)
      | trace_state
  have hi : i ≤ l.length + 1 := hi
  have hbl := bk_len ovr (R := l ++ [mrk]) (i := i) (by omega)
  by_cases hil : i < l.length + 1
  · have hlt : decide ((i : Int) < ((((l.length : Int) + 1).toNat : Nat) : Int)) = true := decide_eq_true (by omega)
    have hst := bk_step ovr (R := l ++ [mrk]) (i := i) (by omega)
    have hst' : (bkTo ovr (l ++ [mrk]) i).set (((0 : Nat) : Int) + (i : Int)).toNat ovr = bkTo ovr (l ++ [mrk]) (i + 1) := by rw [show (((0 : Nat) : Int) + (i : Int)).toNat = i by omega]; exact hst
    repeat' (first | (with_reducible refine ex_of (α := Nat) (i + 1) ⟨?_, ?_⟩ ?_) | (with_reducible first | exact fun h => h | refine ExE.row (by with_unfolding_all rfl) ?_ | refine And.intro ?_ ?_) | ((with_reducible intro hq); first | exact bne1 hq (by with_reducible assumption) | exact bne1 (by with_reducible assumption) hq | ((simp only [*, BB, cond_true, cond_false, reduceCtorEq] at hq); done) | (revert hq; with_reducible intro _)) | (with_reducible first | exact True.intro | rfl | refine EntLe.row ?_ | exact LeN.ro rfl | exact LeN.rptr | assumption) | ((with_reducible first | refine WkX.chk ?_ | refine Wk.chk ?_ | refine LeL.chk ?_ | refine LeF.chk ?_ | refine Run.mk ?_); (conv => whnf)) | ((with_reducible show LeO _ _); first | refine LeO.ro ?_ | refine LeO.roCap ?_ | refine LeO.nil ?_ (fun _ => rfl)) | ((with_reducible show LeR _ _ _); first | refine LeR.own rfl rfl rfl ?_ | refine LeR.view rfl rfl rfl ?_ ?_ | refine LeR.ro ?_ | refine LeR.roCap ?_ | refine LeR.nil ?_ (fun _ => rfl)) | ((with_reducible first | show drawOK _ _ = true | show lateOK _ _ = true | show drawOK2 _ _ = true | show drawOK3 _ _ = true); kernel_rfl))
    all_goals first
      | omega
      | (apply Fits.i64 <;> omega)
      | (dsimp only; omega)
      | (with_reducible rfl)
      | (dsimp only [C_spn]; done)
      | exact hst'
      | trace_state
  have hlt : decide ((i : Int) < ((((l.length : Int) + 1).toNat : Nat) : Int)) = false := decide_eq_false (by omega)
  repeat' (first | (with_reducible refine ex_of (α := List Spn) l ⟨rfl, rfl, fun _ => rfl⟩ ?_) | (with_reducible refine ex_of (α := List Spn) l2 ⟨rfl, rfl, fun _ => rfl⟩ ?_) | (with_reducible refine ⟨(s, l, s2, l2), ⟨.cons (.agg (.cons (.v _) (.cons (le_view (by with_unfolding_all exact rfl) (by with_unfolding_all exact rfl) (by with_unfolding_all exact rfl) ?_ ?_) .nil))) (.cons (.agg (.cons (.v _) (.cons (le_view (by with_unfolding_all exact rfl) (by with_unfolding_all exact rfl) (by with_unfolding_all exact rfl) ?_ ?_) .nil))) .nil), ?_⟩, ?_⟩) | (with_reducible refine ⟨(s, l, s2, l2), ⟨(.cons (.agg (.cons (.v _) (.cons (.lent _ _ _ _ _ _) .nil))) (.cons (.agg (.cons (.v _) (.cons (.lent _ _ _ _ _ _) .nil))) .nil)), ?_⟩, ?_⟩) | (with_reducible refine ⟨(l, l), ⟨.cons (le_view (by with_unfolding_all exact rfl) (by with_unfolding_all exact rfl) (by with_unfolding_all exact rfl) ?_ ?_) (.cons (.lent _ _ _ _ _ _) .nil), ?_⟩, ?_⟩) | (with_reducible refine ⟨(l2, l2), ⟨.cons (le_view (by with_unfolding_all exact rfl) (by with_unfolding_all exact rfl) (by with_unfolding_all exact rfl) ?_ ?_) (.cons (.lent _ _ _ _ _ _) .nil), ?_⟩, ?_⟩) | (with_reducible refine ⟨(_, _, _, _), ⟨(.cons (.agg (.cons (.v _) (.cons (.lent _ _ _ _ _ _) .nil))) (.cons (.agg (.cons (.v _) (.cons (.lent _ _ _ _ _ _) .nil))) .nil)), ?_⟩, ?_⟩) | (with_reducible refine ⟨(), ⟨.nil, ?_⟩, ?_⟩) | (with_reducible first | exact fun h => h | refine ExE.row (by with_unfolding_all rfl) ?_ | refine And.intro ?_ ?_) | ((with_reducible intro hq); first | exact bne1 hq (by with_reducible assumption) | exact bne1 (by with_reducible assumption) hq | ((simp only [*, BB, cond_true, cond_false, reduceCtorEq] at hq); done) | (revert hq; with_reducible intro _)) | (with_reducible first | exact True.intro | rfl | refine EntLe.row ?_ | exact LeN.ro rfl | exact LeN.rptr | assumption) | ((with_reducible first | refine WkX.chk ?_ | refine Wk.chk ?_ | refine LeL.chk ?_ | refine LeF.chk ?_ | refine Run.mk ?_); (conv => whnf)) | ((with_reducible show LeO _ _); first | refine LeO.ro ?_ | refine LeO.roCap ?_ | refine LeO.nil ?_ (fun _ => rfl)) | ((with_reducible show LeR _ _ _); first | refine LeR.own rfl rfl rfl ?_ | refine LeR.view rfl rfl rfl ?_ ?_ | refine LeR.ro ?_ | refine LeR.roCap ?_ | refine LeR.nil ?_ (fun _ => rfl)) | ((with_reducible first | show drawOK _ _ = true | show lateOK _ _ = true | show drawOK2 _ _ = true | show drawOK3 _ _ = true); kernel_rfl))
  all_goals (try first | omega | (apply Fits.i64 <;> omega) | exact hvl | exact hvl2 | (dsimp only; omega) | (simp only [List.length_append, List.length_cons, List.length_nil, List.length_replicate, e3, e4]; omega) | rfl)
  refine loopI Nat [] (fun i => [(7, .v (.int .i64 (i : Nat))), (6, .sb true)]) (fun i => [(9, .row C_spnP (bkTo ovr (l2 ++ [mrk]) i) 71 (some ((l2.length : Int) + 3).toNat))]) (fun i => i ≤ l2.length + 1) (fun i => l2.length + 1 - i) 0 (Nat.zero_le _) (Wk.chk ?_) fun i hi => ?_
  · ((conv => whnf); repeat' (first | (with_reducible first | exact fun h => h | refine ExE.row (by with_unfolding_all rfl) ?_ | refine And.intro ?_ ?_) | ((with_reducible intro hq); first | exact bne1 hq (by with_reducible assumption) | exact bne1 (by with_reducible assumption) hq | ((simp only [*, BB, cond_true, cond_false, reduceCtorEq] at hq); done) | (revert hq; with_reducible intro _)) | (with_reducible first | exact True.intro | rfl | refine EntLe.row ?_ | exact LeN.ro rfl | exact LeN.rptr | assumption) | ((with_reducible first | refine WkX.chk ?_ | refine Wk.chk ?_ | refine LeL.chk ?_ | refine LeF.chk ?_ | refine Run.mk ?_); (conv => whnf)) | ((with_reducible show LeO _ _); first | refine LeO.ro ?_ | refine LeO.roCap ?_ | refine LeO.nil ?_ (fun _ => rfl)) | ((with_reducible show LeR _ _ _); first | refine LeR.own rfl rfl rfl ?_ | refine LeR.view rfl rfl rfl ?_ ?_ | refine LeR.ro ?_ | refine LeR.roCap ?_ | refine LeR.nil ?_ (fun _ => rfl)) | ((with_reducible first | show drawOK _ _ = true | show lateOK _ _ = true | show drawOK2 _ _ = true | show drawOK3 _ _ = true); kernel_rfl)))
    all_goals first
      | rfl
      | exact hE9
      | (rw [bk_zero]; rfl)
      | trace_state
  have hi : i ≤ l2.length + 1 := hi
  have hbl := bk_len ovr (R := l2 ++ [mrk]) (i := i) (by omega)
  by_cases hil : i < l2.length + 1
  · have hlt : decide ((i : Int) < ((((l2.length : Int) + 1).toNat : Nat) : Int)) = true := decide_eq_true (by omega)
    have hst := bk_step ovr (R := l2 ++ [mrk]) (i := i) (by omega)
    have hst' : (bkTo ovr (l2 ++ [mrk]) i).set (((0 : Nat) : Int) + (i : Int)).toNat ovr = bkTo ovr (l2 ++ [mrk]) (i + 1) := by rw [show (((0 : Nat) : Int) + (i : Int)).toNat = i by omega]; exact hst
    repeat' (first | (with_reducible refine ex_of (α := Nat) (i + 1) ⟨?_, ?_⟩ ?_) | (with_reducible first | exact fun h => h | refine ExE.row (by with_unfolding_all rfl) ?_ | refine And.intro ?_ ?_) | ((with_reducible intro hq); first | exact bne1 hq (by with_reducible assumption) | exact bne1 (by with_reducible assumption) hq | ((simp only [*, BB, cond_true, cond_false, reduceCtorEq] at hq); done) | (revert hq; with_reducible intro _)) | (with_reducible first | exact True.intro | rfl | refine EntLe.row ?_ | exact LeN.ro rfl | exact LeN.rptr | assumption) | ((with_reducible first | refine WkX.chk ?_ | refine Wk.chk ?_ | refine LeL.chk ?_ | refine LeF.chk ?_ | refine Run.mk ?_); (conv => whnf)) | ((with_reducible show LeO _ _); first | refine LeO.ro ?_ | refine LeO.roCap ?_ | refine LeO.nil ?_ (fun _ => rfl)) | ((with_reducible show LeR _ _ _); first | refine LeR.own rfl rfl rfl ?_ | refine LeR.view rfl rfl rfl ?_ ?_ | refine LeR.ro ?_ | refine LeR.roCap ?_ | refine LeR.nil ?_ (fun _ => rfl)) | ((with_reducible first | show drawOK _ _ = true | show lateOK _ _ = true | show drawOK2 _ _ = true | show drawOK3 _ _ = true); kernel_rfl))
    all_goals first
      | omega
      | (apply Fits.i64 <;> omega)
      | (dsimp only; omega)
      | (with_reducible rfl)
      | (dsimp only [C_spn]; done)
      | exact hst'
      | trace_state
  have hlt : decide ((i : Int) < ((((l2.length : Int) + 1).toNat : Nat) : Int)) = false := decide_eq_false (by omega)
  repeat' (first | (with_reducible refine ex_of (α := List Spn) l ⟨rfl, rfl, fun _ => rfl⟩ ?_) | (with_reducible refine ex_of (α := List Spn) l2 ⟨rfl, rfl, fun _ => rfl⟩ ?_) | (with_reducible refine ⟨(s, l, s2, l2), ⟨.cons (.agg (.cons (.v _) (.cons (le_view (by with_unfolding_all exact rfl) (by with_unfolding_all exact rfl) (by with_unfolding_all exact rfl) ?_ ?_) .nil))) (.cons (.agg (.cons (.v _) (.cons (le_view (by with_unfolding_all exact rfl) (by with_unfolding_all exact rfl) (by with_unfolding_all exact rfl) ?_ ?_) .nil))) .nil), ?_⟩, ?_⟩) | (with_reducible refine ⟨(s, l, s2, l2), ⟨(.cons (.agg (.cons (.v _) (.cons (.lent _ _ _ _ _ _) .nil))) (.cons (.agg (.cons (.v _) (.cons (.lent _ _ _ _ _ _) .nil))) .nil)), ?_⟩, ?_⟩) | (with_reducible refine ⟨(l, l), ⟨.cons (le_view (by with_unfolding_all exact rfl) (by with_unfolding_all exact rfl) (by with_unfolding_all exact rfl) ?_ ?_) (.cons (.lent _ _ _ _ _ _) .nil), ?_⟩, ?_⟩) | (with_reducible refine ⟨(l2, l2), ⟨.cons (le_view (by with_unfolding_all exact rfl) (by with_unfolding_all exact rfl) (by with_unfolding_all exact rfl) ?_ ?_) (.cons (.lent _ _ _ _ _ _) .nil), ?_⟩, ?_⟩) | (with_reducible refine ⟨(_, _, _, _), ⟨(.cons (.agg (.cons (.v _) (.cons (.lent _ _ _ _ _ _) .nil))) (.cons (.agg (.cons (.v _) (.cons (.lent _ _ _ _ _ _) .nil))) .nil)), ?_⟩, ?_⟩) | (with_reducible refine ⟨(), ⟨.nil, ?_⟩, ?_⟩) | (with_reducible first | exact fun h => h | refine ExE.row (by with_unfolding_all rfl) ?_ | refine And.intro ?_ ?_) | ((with_reducible intro hq); first | exact bne1 hq (by with_reducible assumption) | exact bne1 (by with_reducible assumption) hq | ((simp only [*, BB, cond_true, cond_false, reduceCtorEq] at hq); done) | (revert hq; with_reducible intro _)) | (with_reducible first | exact True.intro | rfl | refine EntLe.row ?_ | exact LeN.ro rfl | exact LeN.rptr | assumption) | ((with_reducible first | refine WkX.chk ?_ | refine Wk.chk ?_ | refine LeL.chk ?_ | refine LeF.chk ?_ | refine Run.mk ?_); (conv => whnf)) | ((with_reducible show LeO _ _); first | refine LeO.ro ?_ | refine LeO.roCap ?_ | refine LeO.nil ?_ (fun _ => rfl)) | ((with_reducible show LeR _ _ _); first | refine LeR.own rfl rfl rfl ?_ | refine LeR.view rfl rfl rfl ?_ ?_ | refine LeR.ro ?_ | refine LeR.roCap ?_ | refine LeR.nil ?_ (fun _ => rfl)) | ((with_reducible first | show drawOK _ _ = true | show lateOK _ _ = true | show drawOK2 _ _ = true | show drawOK3 _ _ = true); kernel_rfl))
  all_goals first
    | omega
    | exact hTT
    | exact hEE
    | (dsimp only; omega)
    | rfl
    | (simp only [*, Bool.and_true, Bool.true_and]; done)
    | (rename_i hbad; rw [hTT, hEE] at hbad; cases hbad; done)
    | (simp [hTT, hEE]; done)
    | trace_state
end Go.SX.Try
