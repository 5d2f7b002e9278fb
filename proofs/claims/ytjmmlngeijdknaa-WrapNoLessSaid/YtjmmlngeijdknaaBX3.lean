/- A verified symbolic executor for Go code in the model, contracts and plain laws that the proofs lean on, part 3 of 7. -/
import Derived.Test.YtjmmlngeijdknaaBX2
import Derived.Test.YtjmmlngeijdknaaProg
import GoSem.Core.Utf8
set_option linter.unusedVariables false
set_option linter.unusedSimpArgs false
/- A verified symbolic executor for Go code in the model, part 19: functions; the handler of calls. -/
namespace Go.SX
open Go.RowKit

/-- The blocks of a function's ranges over functions are shut. -/
def marksK : Df → Mem → (Mem → Prop) → Prop
  | [], m, k => k m
  | (n, b) :: df, m, k => match getE m n with
    | some (.defer b') => b' = b ∧ Run (delEK n m fun m => marksK df m k)
    | _ => False
def resK (T : Tys) (m : Mem) (fr : Fr) : List ResultVar → (VC → List AV → Prop) → Prop
  | [], k => k none []
  | .tmp t :: r, k => op1 (getS fr t) fun p x => resK T m fr r fun q xs => p.and q fun p => k p (x :: xs)
  | .cell a t :: r, k => op1 (getS fr a) fun p x => loadK T m t x fun q x => p.and q fun p => resK T m fr r fun q xs => p.and q fun p => k p (x :: xs)
def oneK (xs : List AV) (k : AV → Prop) : Prop := match xs with
  | [x] => force x k
  | [] => k (.tup [])
  | a :: b :: l => k (.tup (a :: b :: l))
def retK (T : Tys) (fn : Func) (e : Ex) (df : Df) (fr : Fr) (stk : List Fr) (m : Mem) (nx : Nat) (K : KO) : Prop := match e with
  | .ex _ => False
  | _ => marksK df m fun m => resK T m fr fn.results.toList fun p xs => match stk with
    | fr' :: stk' => p.out (oneK xs fun x => K x fr' stk' m nx)
    | [] => False
def argsK : List AV → Nat → (Fr → Prop) → Prop
  | [], _, k => k []
  | x :: l, i, k => argsK l (i + 1) fun r => force x fun x => k ((i, x) :: r)
def argsF : List AV → Nat → Fr
  | [], _ => []
  | x :: l, i => (i, x) :: argsF l (i + 1)
theorem argsK_eq : ∀ (l : List AV) (i : Nat) (k : Fr → Prop), argsK l i k = k (argsF l i)
  | [], _, _ => rfl
  | x :: l, i, k => by simp only [argsK, argsF, argsK_eq l, force_eq]

section
variable {P : Program} {base : Nat} {w0 : Start}
theorem argsF_ok {w : World} {E : Env} : ∀ (l : List AV) (i : Nat) (vs : List Value) (t : Nat), RelL w E l vs → i ≤ t → Rel w E (getS (argsF l i) t) (vs.getD (t - i) undef)
  | [], i, vs, t, _, _ => .junk _
  | x :: l, i, vs, t, h, hit => by
    obtain ⟨v, vs, rfl, h1, h2⟩ := h.uncons
    simp only [argsF]
    rw [getS_cons]
    split
    · rename_i e
      subst e
      simpa using h1
    · rename_i hne
      have := argsF_ok l (i + 1) vs t h2 (by omega)
      have e1 : t - i = (t - (i + 1)) + 1 := by omega
      rw [e1]
      simpa using this
theorem argsF_fr {w : World} {E : Env} {l : List AV} {vs : Array Value} (h : RelL w E l vs.toList) (n : Nat) : FrR w E (argsF l 0) (vs ++ Array.replicate (n - vs.size) undef) := by
  intro t
  have := argsF_ok l 0 vs.toList t h (Nat.zero_le _)
  rcases Nat.lt_or_ge t vs.size with ht | ht
  · simpa [Array.getD_eq_getD_getElem?, Array.getElem?_append, ht] using this
  · have hj : getS (argsF l 0) t = .junk := by
      have : ∀ (l : List AV) (i : Nat), i + l.length ≤ t → getS (argsF l i) t = .junk := by
        intro l
        induction l with
        | nil => intro i _; rfl
        | cons x l ih =>
          intro i hi
          simp only [argsF]
          rw [getS_cons, if_neg (by simp at hi; omega)]
          exact ih (i + 1) (by simp at hi; omega)
      have hl := h.1
      exact this l 0 (by simp at hl ⊢; omega)
    rw [hj]
    exact .junk _
theorem asAddr_ok {t : Nat} {v r : Value} {w : World} (h : (Instr.loadAt t v).run P w = .ok r w) : (do loadVar t (← asAddr v) : Sem Value).run P w = .ok r w := by
  cases v with
  | pointer a =>
    cases a with
    | some a => exact h
    | none => simp [Instr.loadAt, Instr.sureAddr] at h
  | _ => simp [Instr.loadAt, Instr.sureAddr] at h
def resV (tm : Array Value) : ResultVar → Sem Value
  | .tmp t => pure (tm.getD t undef)
  | .cell a t => do loadVar t (← asAddr (tm.getD a undef))
theorem results_eq (fn : Func) (tm : Array Value) : results fn tm = (do let vs ← fn.results.mapM (resV tm); pure (if h : vs.size = 1 then vs[0] else .tuple vs)) := by
  unfold results
  have h : ∀ f : ResultVar → Sem Value, f = resV tm → (do let vs ← fn.results.mapM f; pure (if h : vs.size = 1 then vs[0] else .tuple vs) : Sem Value) = (do let vs ← fn.results.mapM (resV tm); pure (if h : vs.size = 1 then vs[0] else .tuple vs)) := by
    rintro f rfl
    rfl
  refine h _ (funext fun x => ?_)
  cases x <;> rfl
theorem resK_ok {T : Tys} (hT : TysOK P T) {m : Mem} {fr : Fr} : ∀ {rs : List ResultVar} {k : VC → List AV → Prop}, resK T m fr rs k → ∃ p xs, k p xs ∧ ∀ (E : Env) stk gs w (tm : Array Value), SatM base w0 E stk gs m w → FrR w E fr tm → p.ok →
    ∃ vs, RelL w E xs vs ∧ (rs.mapM (resV tm)).run P w = .ok vs w
  | [], k, h => ⟨none, [], h, fun E stk gs w tm _ _ _ => ⟨[], RelL.nil _ _, rfl⟩⟩
  | .tmp t :: r, k, h => by
    obtain ⟨p, x, h, hx⟩ := op1_ok h
    obtain ⟨q, xs, h, hr⟩ := resK_ok hT h
    obtain ⟨p', h, hp⟩ := VC.and_ok h
    refine ⟨p', _, h, fun E stk gs w tm hS hf hok => ?_⟩
    obtain ⟨vs, h1, h2⟩ := hr E stk gs w tm hS hf (hp hok).2
    refine ⟨_, RelL.cons (hx w E _ (hp hok).1 (hf t)) h1, ?_⟩
    simp only [List.mapM_cons, resV, Sem.run_bind, Sem.run_pure, Result.andThen_ok]
    rw [h2]
    rfl
  | .cell a t :: r, k, h => by
    obtain ⟨p, x, h, hx⟩ := op1_ok h
    obtain ⟨q, z, h, hz⟩ := loadK_ok hT h
    obtain ⟨p', h, hp⟩ := VC.and_ok h
    obtain ⟨q', xs, h, hr⟩ := resK_ok hT h
    obtain ⟨p'', h, hp'⟩ := VC.and_ok h
    refine ⟨p'', _, h, fun E stk gs w tm hS hf hok => ?_⟩
    obtain ⟨vs, h1, h2⟩ := hr E stk gs w tm hS hf (hp' hok).2
    obtain ⟨y, hy1, hy2⟩ := hz base w0 E stk gs w _ hS (hp (hp' hok).1).2 (hx w E _ (hp (hp' hok).1).1 (hf a))
    have hy1 := asAddr_ok hy1
    refine ⟨_, RelL.cons hy2 h1, ?_⟩
    simp only [List.mapM_cons, resV]
    rw [Sem.run_bind, hy1]
    simp only [Result.andThen_ok, Sem.run_bind]
    rw [h2]
    rfl
theorem oneK_ok {xs : List AV} {k : AV → Prop} (h : oneK xs k) : ∃ x, k x ∧ ∀ w E (vs : Array Value), RelL w E xs vs.toList → Rel w E x (if h : vs.size = 1 then vs[0] else .tuple vs) := by
  unfold oneK at h
  split at h
  · rename_i x
    rw [force_eq] at h
    refine ⟨x, h, fun w E vs hr => ?_⟩
    have hs : vs.size = 1 := by have := hr.1; simp at this; omega
    rw [dif_pos hs]
    exact hr.2 0 (by simp) (by simp; omega)
  · refine ⟨_, h, fun w E vs hr => ?_⟩
    have hs : vs.size = 0 := by have := hr.1; simp at this; omega
    rw [dif_neg (by omega)]
    exact .tup (by simp [hs]) fun i h1 => by simp at h1
  · rename_i a b l
    refine ⟨_, h, fun w E vs hr => ?_⟩
    have hs := hr.1
    simp at hs
    rw [dif_neg (by omega)]
    exact .tup (by simpa using hr.1) fun i h1 h2 => hr.2 i h1 (by simpa using h2)
theorem retK_ok {T : Tys} (hT : TysOK P T) {fn : Func} {F : Fence} {gs : List (Array Value)} {tm : Array Value} {fr : Fr} {stk : List Fr} {nx : Nat} {K : KO} {tmps : Array Value} {R : Ending → World → Prop} (hR : ∀ v w, ResOK base w0 gs tm K v w → R (.returned v) w) :
    ∀ (df : Df) {m : Mem} {E : Env} {w : World}, (marksK df m fun m => resK T m fr fn.results.toList fun p xs => match stk with
      | fr' :: stk' => p.out (oneK xs fun x => K x fr' stk' m nx)
      | [] => False) → E.under nx → SatM base w0 E (fr :: stk) (tmps :: tm :: gs) m w → LeavesInM F 0 P fn tmps R (marks df) .returning w
  | [], m, E, w, h, hnx, hS => by
    obtain ⟨p, xs, h, hr⟩ := resK_ok (base := base) (w0 := w0) (P := P) hT h
    cases stk with
    | nil => exact h.elim
    | cons fr' stk' =>
      obtain ⟨hp, h⟩ := VC.out_ok h
      obtain ⟨x, h, hx⟩ := oneK_ok h
      obtain ⟨vs, h1, h2⟩ := hr E _ _ w tmps hS hS.top hp
      refine ⟨if h : vs.toArray.size = 1 then vs.toArray[0] else .tuple vs.toArray, ?_, hR _ _ ⟨x, fr', stk', m, E, nx, h, hnx, hS.drop, hx w E _ h1⟩⟩
      rw [results_eq, Sem.run_bind]
      rw [← Array.toArray_toList (xs := fn.results), List.mapM_toArray]
      simp only [map_eq_pure_bind, Sem.run_bind]
      rw [h2]
      rfl
  | (n, b) :: df, m, E, w, h, hnx, hS => by
    simp only [marksK] at h
    split at h
    · rename_i b' he
      obtain ⟨hb, h⟩ := h
      have h := h.out
      rw [delEK_eq] at h
      subst hb
      have hm := mem_of_getE he
      obtain ⟨hid, ⟨h1, h2⟩, hblk⟩ := hS.ents _ _ hm
      refine ⟨by simp, .inl ⟨b', _, rfl, run_takeDeferred h2, ?_⟩⟩
      refine retK_ok hT hR df h hnx ?_
      have hS2 : SatM base w0 E (fr :: stk) (tmps :: tm :: gs) (delE n m) w := hS.less (delE_sub n m)
      have hnot : ∀ e, (n, e) ∉ delE n m := by
        intro e hc
        have hnd := hS.nodup
        have : ∀ m : Mem, (m.map (·.1)).Nodup → (n, e) ∉ delE n m := by
          intro m
          induction m with
          | nil => intro _ h; cases h
          | cons p r ih =>
            obtain ⟨k, x⟩ := p
            intro hn hc
            simp only [List.map_cons, List.nodup_cons] at hn
            simp only [delE] at hc
            cases hb : Nat.beq k n with
            | true =>
              rw [hb] at hc
              have := Nat.eq_of_beq_eq_true hb
              subst this
              exact hn.1 (List.mem_map.2 ⟨_, hc, rfl⟩)
            | false =>
              rw [hb] at hc
              rcases List.mem_cons.1 hc with heq | hc
              · cases heq; simp at hb
              · exact ih hn.2 hc
        exact this m hnd hc
      have hbb := hblk b' (by rw [h1]; rfl)
      have hw : ∀ k, k ≠ b' → (w.putObj b' (.deferred none)).heap[k]? = w.heap[k]? := fun k hk => World.putObj_heap_other hk
      have g : Goes E E w (w.putObj b' (.deferred none)) := ⟨fun _ _ => rfl, fun _ h => h, fun _ h => h, fun _ h => h, fun k hk => hw k fun e => by subst e; exact hk.elim (fun h => hbb.2.1 h) fun h => by have := hS2.keep.2.2 _ h; have := hbb.1; omega⟩
      refine ⟨hS2.below.trans ⟨rfl, rfl, rfl, by simp, fun k hk => hw k (by omega)⟩, hS2.hb, fun k hk => by simpa using hS2.imm k hk, hS2.keep, fun id e hide => ?_, hS2.disj, hS2.len, fun i h1 h2 => (hS2.stk i h1 h2).mono g⟩
      obtain ⟨q1, q2, q3⟩ := hS2.ents id e hide
      refine ⟨q1, q2.mono g q1 fun k hk => hw k fun e => ?_, fun k hk => by simpa using q3 k hk⟩
      subst e
      have hne : n ≠ id := fun e => by subst e; exact hnot _ hide
      exact hS.apart hm ((delE_sub n m).subset hide) hne (by rw [h1]; rfl) hk
    · exact h.elim
end
end Go.SX
/- A verified symbolic executor for Go code in the model, part 20: the handler of calls; contracts. -/
namespace Go.SX
open Go.RowKit

def appLK : List AV → List AV → (List AV → Prop) → Prop
  | [], r, k => k r
  | x :: l, r, k => appLK l r fun l => k (x :: l)
theorem appLK_eq : ∀ (l r : List AV) (k : List AV → Prop), appLK l r k = k (l ++ r)
  | [], _, _ => rfl
  | x :: l, r, k => by simp only [appLK, appLK_eq l, List.cons_append]

def conS {ι : Type} (A : ι → List AV) (R : ι → AV) (pre : ι → Prop) : List AV → Fr → List Fr → Mem → Nat → KO → Prop := fun args fr stk m nx K => ∃ i, (LeAL m args (A i) ∧ pre i) ∧ Run (K (R i) fr stk m nx)
/-- A method by pointer: its body is gone through; behind it the box's cells, the result are as told. -/
def methK (T : Tys) (D : Cds) (G : Gam) (H : Handler) (HF : HFun) (fn : Func) (c : Code) (J : List Nat) (spec : List AV → List AV → AV × List AV) (args : List AV) (fr : Fr) (stk : List Fr) (m : Mem) (nx : Nat) (K : KO) : Prop := match Nat.ble args.length fn.ntmps, args with
  | true, .ptr id off :: rest => match off, getE m id with
    | 0, some (.box cs ty) => match spec rest cs with
      | (X, cs') => setEK id (.box cs' ty) m fun m' => Run (argsK args 0 fun f0 => cwp ⟨T, D, G, H, HF, J, fn.ntmps, none⟩ c [] f0 (fr :: stk) m nx fun e df f2 s2 m2 nx2 => retK T fn e df f2 s2 m2 nx2 fun x fr3 stk3 m3 nx3 =>
          WkX x ⟨fr3, stk3, m3, nx3⟩ X ⟨fr, stk, m', nx⟩) ∧ Run (force X fun X => K X fr stk m' nx)
    | _, _ => False
  | _, _ => False
theorem methK_eq {T : Tys} {D : Cds} {G : Gam} {H : Handler} {HF : HFun} {fn : Func} {c : Code} {J : List Nat} {spec : List AV → List AV → AV × List AV} {args : List AV} {fr : Fr} {stk : List Fr} {m : Mem} {nx : Nat} {K : KO} (h : methK T D G H HF fn c J spec args fr stk m nx K) :
    args.length ≤ fn.ntmps ∧ ∃ X m', (argsK args 0 fun f0 => cwp ⟨T, D, G, H, HF, J, fn.ntmps, none⟩ c [] f0 (fr :: stk) m nx fun e df f2 s2 m2 nx2 => retK T fn e df f2 s2 m2 nx2 fun x fr3 stk3 m3 nx3 => WkX x ⟨fr3, stk3, m3, nx3⟩ X ⟨fr, stk, m', nx⟩) ∧ K X fr stk m' nx := by
  unfold methK at h
  split at h
  · rename_i hlen
    split at h
    · simp only [setEK_eq] at h
      have h2 := h.2.out
      rw [force_eq] at h2
      exact ⟨Nat.le_of_ble_eq_true hlen, _, _, h.1.out, h2⟩
    · exact h.elim
  · exact h.elim
/-- A function's call: its body is gone through, or its contract is used; a function's value; yield. -/
def callF1 (T : Tys) (D : Cds) (G : Gam) (H : Handler) (HF : HFun) : HFun := fun f args fr stk m nx K => match getG G f with
  | some (.inl fn c J) => match Nat.ble args.length fn.ntmps with
    | true => argsK args 0 fun f0 => cwp ⟨T, D, G, H, HF, J, fn.ntmps, none⟩ c [] f0 (fr :: stk) m nx fun e df f2 s2 m2 nx2 => retK T fn e df f2 s2 m2 nx2 K
    | false => False
  | some (.meth fn c J spec) => methK T D G H HF fn c J spec args fr stk m nx K
  | some (.pinl fn c J spec) => match Nat.ble args.length fn.ntmps with
    | true => Run (argsK args 0 fun f0 => cwp ⟨T, D, G, H, HF, J, fn.ntmps, none⟩ c [] f0 (fr :: stk) m nx fun e df f2 s2 m2 nx2 => retK T fn e df f2 s2 m2 nx2 fun x fr3 stk3 m3 nx3 =>
        WkX x ⟨fr3, stk3, m3, nx3⟩ (spec args) ⟨fr, stk, m, nx⟩) ∧ Run (force (spec args) fun X => K X fr stk m nx)
    | false => False
  | some (.spec S) => S args fr stk m nx K
  | some (.con A R pre) => conS A R pre args fr stk m nx K
  | none => False
def callH1 (T : Tys) (D : Cds) (G : Gam) (H : Handler) (HF : HFun) : Handler := fun f args fr stk m nx K => match f with
  | .fn g caps => appLK args caps fun args => HF g args fr stk m nx K
  | .yld n => yieldK T D G H HF [] n args fr stk m nx K
  | _ => False
def callX (T : Tys) (D : Cds) (G : Gam) : Nat → HFun × Handler
  | 0 => (fun _ _ _ _ _ _ _ => False, fun _ _ _ _ _ _ _ => False)
  | k + 1 => (callF1 T D G (callX T D G k).2 (callX T D G k).1, callH1 T D G (callX T D G k).2 (callX T D G k).1)

def SpecOK (P : Program) (f : Nat) (S : List AV → Fr → List Fr → Mem → Nat → KO → Prop) : Prop := ∀ (args : List AV) (fr : Fr) (stk : List Fr) (m : Mem) (nx : Nat) (K : KO), S args fr stk m nx K →
  ∀ (base : Nat) (w0 : Start) (E : Env) (gs : List (Array Value)) (w : World) (tm : Array Value) (vs : Array Value), E.under nx → SatM base w0 E (fr :: stk) (tm :: gs) m w → RelL w E args vs.toList →
    Bodied P f ∧ CallsIn Fence.wide 0 P f vs w fun
      | .returned v, w' => ResOK base w0 gs tm K v w'
      | _, _ => False
section
variable {P : Program}
theorem Con.spec {f : Nat} {ι : Type} {A : ι → List AV} {R : ι → AV} {pre : ι → Prop} (h : Con P f A R pre) : SpecOK P f (conS A R pre) := by
  rintro args fr stk m nx K ⟨i, ⟨hle, hpre⟩, hk⟩ base w0 E gs w tm vs hnx hS hr
  refine ⟨h.bodied, CallsIn.mono (h.calls i hpre w E.imm vs hS.imm (hle.rel hS hr)) fun e w' he => ?_⟩
  cases e with
  | returned v =>
    obtain ⟨imm', h1, h2, h3, h4, h5⟩ := he
    have hS' : SatM base w0 { E with imm := imm' } (fr :: stk) (tm :: gs) m w' := hS.goes h4 rfl rfl rfl h1 h2 h3
    exact ⟨R i, fr, stk, m, { E with imm := imm' }, nx, hk.out, hnx, hS', h5.mono Goes.named⟩
  | panicked c => exact he.elim
  | outgrown => exact he.elim

end
def GamOK (P : Program) (G : Gam) : Prop := ∀ f e, getG G f = some e → match e with
  | .inl fn c _ => P.funcs[f]? = some fn ∧ fn.body = some c ∧ (fn.name == "runtime.NumGoroutine") = false
  | .meth fn c _ _ => P.funcs[f]? = some fn ∧ fn.body = some c ∧ (fn.name == "runtime.NumGoroutine") = false
  | .pinl fn c _ _ => P.funcs[f]? = some fn ∧ fn.body = some c ∧ (fn.name == "runtime.NumGoroutine") = false
  | .spec S => SpecOK P f S
  | .con A R pre => Con P f A R pre
theorem GamOK.cons' {P : Program} {G : Gam} (h : GamOK P G) : ConOK P G := fun f _ A R pre hg => h f _ hg

section
variable {P : Program}
/-- A body that is gone through. -/
theorem inline_ok (hmo : P.follows .mixedOrders = true) {c : Cfg} (hG : ConOK P c.G) (hT : TysOK P c.T) (hD : CdsOK c.T c.D) (hH : HOK P (fen c.rd) 0 c.H) (hHF : HFOK P c.HF) (hrd : c.rd = none) {f : Nat} {fn : Func} {code : Code} (h1 : P.funcs[f]? = some fn) (h2 : fn.body = some code) (hsz : c.sz = fn.ntmps)
    {args : List AV} {fr : Fr} {stk : List Fr} {m : Mem} {nx : Nat} {K : KO} (hlen : args.length ≤ fn.ntmps) (h : cwp c code [] (argsF args 0) (fr :: stk) m nx fun e df f2 s2 m2 nx2 => retK c.T fn e df f2 s2 m2 nx2 K)
    {base : Nat} {w0 : Start} {E : Env} {gs : List (Array Value)} {w : World} {tm vs : Array Value} (hnx : E.under nx) (hS : SatM base w0 E (fr :: stk) (tm :: gs) m w) (hr : RelL w E args vs.toList) :
    CallsIn Fence.wide 0 P f vs w fun
      | .returned v, w' => ResOK base w0 gs tm K v w'
      | _, _ => False := by
  refine callsIn_of_wp_marks h1 h2 trivial ?_
  have hvs : vs.size ≤ fn.ntmps := by have := hr.1; simp at this; omega
  have hfen : fen c.rd = Fence.wide := by rw [hrd]; rfl
  have := cwp_ok (base := base) (w0 := w0) (gs := tm :: gs) hmo (fun f => hG f) hT hD hH hHF code (Q := bodyPostM Fence.wide 0 P fn fun
      | .returned v, w' => ResOK base w0 gs tm K v w'
      | _, _ => False) (a := { tmps := vs ++ Array.replicate (fn.ntmps - vs.size) undef, defers := [] }) h ⟨E, hnx, hS.push (argsF_fr hr fn.ntmps), by simp [hsz]; omega, rfl⟩ fun e a w he => ?_
  · rw [hfen] at this; exact this
  · obtain ⟨df, f2, s2, m2, nx2, hk, E2, hnx2, hS2, hz2, hd2⟩ := he
    cases e with
    | ex i => exact hk.elim
    | nrm =>
      show LeavesInM _ _ _ _ _ _ _ _ _
      rw [hd2]
      exact retK_ok hT (fun v w h => h) df hk hnx2 hS2
    | ret =>
      show LeavesInM _ _ _ _ _ _ _ _ _
      rw [hd2]
      exact retK_ok hT (fun v w h => h) df hk hnx2 hS2
theorem callX_ok (hmo : P.follows .mixedOrders = true) {T : Tys} (hT : TysOK P T) {D : Cds} (hD : CdsOK T D) {G : Gam} (hG : GamOK P G) : ∀ k, HFOK P (callX T D G k).1 ∧ ∀ r, HOK P (fen r) 0 (callX T D G k).2
  | 0 => ⟨fun f args fr stk m nx K h => h.elim, fun r f args fr stk m nx K h => h.elim⟩
  | k + 1 => by
    obtain ⟨hF, hH⟩ := callX_ok hmo hT hD hG k
    refine ⟨fun f args fr stk m nx K h base w0 E gs w tm vs hnx hS hr => ?_, fun r f args fr stk m nx K h base w0 E gs w tm fv vs hnx hS hfv hr => ?_⟩
    · simp only [callX, callF1] at h
      split at h
      · rename_i fn c J hg
        obtain ⟨h1, h2, h3⟩ := hG _ _ hg
        split at h
        · rename_i hlen
          have hlen := Nat.le_of_ble_eq_true hlen
          rw [argsK_eq] at h
          exact ⟨⟨fn, c, h1, h2, h3⟩, inline_ok hmo (c := ⟨T, D, G, (callX T D G k).2, (callX T D G k).1, J, fn.ntmps, none⟩) (fun f => hG.cons' f) hT hD (hH none) hF rfl h1 h2 rfl hlen h hnx hS hr⟩
        · exact h.elim
      · rename_i fn c J spec hg
        obtain ⟨h1, h2, h3⟩ := hG _ _ hg
        obtain ⟨hlen, X, m', hb, hk⟩ := methK_eq h
        rw [argsK_eq] at hb
        refine ⟨⟨fn, c, h1, h2, h3⟩, CallsIn.mono (inline_ok hmo (c := ⟨T, D, G, (callX T D G k).2, (callX T D G k).1, J, fn.ntmps, none⟩) (fun f => hG.cons' f) hT hD (hH none) hF rfl h1 h2 rfl hlen hb hnx hS hr) fun e w' he => ?_⟩
        cases e with
        | returned v =>
          obtain ⟨x, fr3, stk3, m3, E3, nx3, hw, hnx3, hS3, hx3⟩ := he
          obtain ⟨E4, a1, a2, a3⟩ := hw.out _ _ _ _ _ _ _ hnx3 hS3 hx3
          exact ⟨X, fr, stk, _, E4, nx, hk, a1, a2, a3⟩
        | panicked c => exact he.elim
        | outgrown => exact he.elim
      · rename_i fn c J spec hg
        obtain ⟨h1, h2, h3⟩ := hG _ _ hg
        split at h
        · rename_i hlen
          have hlen := Nat.le_of_ble_eq_true hlen
          obtain ⟨hb, hk⟩ := h
          have hb := hb.out
          have hk := hk.out
          rw [argsK_eq] at hb
          rw [force_eq] at hk
          refine ⟨⟨fn, c, h1, h2, h3⟩, CallsIn.mono (inline_ok hmo (c := ⟨T, D, G, (callX T D G k).2, (callX T D G k).1, J, fn.ntmps, none⟩) (fun f => hG.cons' f) hT hD (hH none) hF rfl h1 h2 rfl hlen hb hnx hS hr) fun e w' he => ?_⟩
          cases e with
          | returned v =>
            obtain ⟨x, fr3, stk3, m3, E3, nx3, hw, hnx3, hS3, hx3⟩ := he
            obtain ⟨E4, a1, a2, a3⟩ := hw.out _ _ _ _ _ _ _ hnx3 hS3 hx3
            exact ⟨_, fr, stk, _, E4, nx, hk, a1, a2, a3⟩
          | panicked c => exact he.elim
          | outgrown => exact he.elim
        · exact h.elim
      · rename_i S hg
        exact (hG _ _ hg) _ _ _ _ _ _ h base w0 E gs w tm vs hnx hS hr
      · rename_i A R pre hg
        exact Con.spec (hG _ _ hg) _ _ _ _ _ _ h base w0 E gs w tm vs hnx hS hr
      · exact h.elim
    · simp only [callX, callH1] at h
      split at h
      · rename_i g caps
        rw [appLK_eq] at h
        cases hfv with
        | @fn _ _ _ cv hl hh =>
          have hcaps : RelL w E caps cv.toList := ⟨by simpa using hl, fun i h1 h2 => by simpa using hh i h1 (by simpa using h2)⟩
          obtain ⟨hb, hc⟩ := hF _ _ _ _ _ _ _ h base w0 E gs w tm (vs ++ cv) hnx hS (by simpa using hr.append hcaps)
          simp only [callSem, Deferred.ofValue, Sem.run_bind, Sem.run_pure, Result.andThen_ok, invoke]
          have : (#[] ++ vs ++ cv : Array Value) = vs ++ cv := by simp
          rw [this, hb.run]
          exact callsIn_fen hc
      · rename_i n
        cases hfv with
        | @yld _ _ b hn hb =>
          obtain ⟨f, tmps, asq, bo, h1, h2⟩ := yieldK_ok hmo (fun f => hG.cons' f) hT hD hH hF h hb hnx hS hr
          simp only [callSem, Deferred.ofValue, Sem.run_bind, Sem.run_pure, Result.andThen_ok, invoke]
          have : (#[] ++ vs : Array Value) = vs := by simp
          rw [this, h1]
          rcases r with _ | ⟨_, q⟩
          · exact h2
          · exact h2
      · exact h.elim

/-- Own rows that nobody writes any more. -/
def Env.fro (E : Env) (m : Mem) : Nat → Prop := fun b => E.imm b ∨ ∃ id e, (id, e) ∈ m ∧ blk (E.h id) = some b
structure LeF (m : Mem) (x r : AV) : Prop where
  out : ∀ base w0 E stk gs w v, SatM base w0 E stk gs m w → Rel w E x v → Rel w (Env.of (E.fro m)) r v
inductive LeFL (m : Mem) : List AV → List AV → Prop
  | nil : LeFL m [] []
  | cons {a b : AV} {l r : List AV} (h : LeF m a b) (hl : LeFL m l r) : LeFL m (a :: l) (b :: r)
theorem LeFL.rel {m : Mem} {cs ds : List AV} (h : LeFL m cs ds) {base : Nat} {w0 : Start} {E : Env} {stk : List Fr} {gs : List (Array Value)} {w : World} (hS : SatM base w0 E stk gs m w) {vs : List Value} (hr : RelL w E cs vs) : RelL w (Env.of (E.fro m)) ds vs := by
  induction h generalizing vs with
  | nil =>
    obtain rfl : vs = [] := List.eq_nil_of_length_eq_zero hr.1.symm
    exact RelL.nil _ _
  | cons h _ ih =>
    obtain ⟨x, xs, rfl, h1, h2⟩ := hr.uncons
    exact RelL.cons (h.out _ _ _ _ _ _ _ hS h1) (ih h2)
theorem Goes.fro {E : Env} {m : Mem} {w : World} : Goes E.bare (Env.of (E.fro m)) w w := ⟨fun _ h => False.elim h, fun _ h => False.elim h, fun _ h => .inl h, fun _ h => False.elim h, fun b hb => rfl⟩
namespace LeF
variable {m : Mem}
theorem le {a b : AV} (h : Le a b) : LeF m a b := ⟨fun _ _ _ _ _ _ _ _ hr => (h.out _ _ _ hr).mono Goes.fro⟩
theorem v {x y : Value} (h : x = y) : LeF m (.v x) (.v y) := by subst h; exact le (.v _)
theorem sb {x y : Bool} (h : x = y) : LeF m (.sb x) (.sb y) := by subst h; exact le (.sb _)
theorem vb {x y : Bool} (h : x = y) : LeF m (.v (.bool x)) (.sb y) := by subst h; exact le (.vb _)
theorem ro {α : Type} {s : Nat} {en : α → List AV} {d : α} {l l' : List α} {c : Option Nat} (h : l = l') : LeF m (.ro s en d l c) (.ro s en d l' c) := by subst h; exact le (.ro _ _ _ _ _)
theorem roCap {α : Type} {s : Nat} {en : α → List AV} {d : α} {l l' : List α} {c : Option Nat} (h : l = l') : LeF m (.ro s en d l c) (.ro s en d l' none) := by subst h; exact le (.roCap _ _ _ _ _)
theorem nil {α : Type} {s : Nat} {en : α → List AV} {d : α} {l : List α} (h : l = []) (hs : ∀ x, (en x).length = s) : LeF m (.v (.slice none 0 0)) (.ro s en d l none) := by subst h; exact le (.nil _ _ _ hs)
theorem own {α : Type} {C : Cdc α} {l l' : List α} {t n : Nat} {cap : Option Nat} {d : α} (he : getE m n = some (.row C l t cap)) (h : l = l') : LeF m (.own n) (.ro C.size C.enc d l' none) := ⟨fun base w0 E stk gs w v hS hr => by
  subst h
  have hm := mem_of_getE he
  obtain ⟨hid, ⟨hs, h0, ⟨xs, hown, hrl⟩, hcap⟩, hblk⟩ := hS.ents _ _ hm
  cases hr with
  | own hn _ =>
    rcases hown.2 with ⟨hv, hn0⟩ | ⟨g, cc, cur, hv, hbg, hg, hnc, hcm, hcs, htake⟩
    · obtain rfl := List.eq_nil_of_length_eq_zero hn0
      rw [hv]
      exact .roNil _ _ _ _ _ _ hs (by simp)
    · rw [hv]
      have hle : l.length * C.size ≤ cur.size := by rw [hcs]; exact Nat.mul_le_mul_right _ hnc
      refine .ro (y := fun j k => xs.getD (j * C.size + k) undef) hs (by simp) hnc (.inl (.inr ⟨n, _, hm, by rw [hv]; rfl⟩)) (fun j k hj hk => ?_) fun j h1 k h2 => ?_
      · have hlt : j * C.size + k < xs.length := by
          rw [hown.1]
          calc j * C.size + k < j * C.size + C.size := by omega
            _ = (j + 1) * C.size := by rw [Nat.add_mul]; omega
            _ ≤ l.length * C.size := Nat.mul_le_mul_right _ (by omega)
        have := hown.cells (g := g) (by rw [hv]; rfl) (j * C.size + k) xs[j * C.size + k] (by simp [hlt])
        rw [Addr.add_lit] at this
        simpa [hlt] using this
      · have hk : k < C.size := by rw [← hs l[j]]; exact h2
        obtain ⟨y, hy1, hy2⟩ := row_cells hs hown hrl hv j h1 k hk
        have hlt : j * C.size + k < xs.length := by
          rw [hown.1]
          calc j * C.size + k < j * C.size + C.size := by omega
            _ = (j + 1) * C.size := by rw [Nat.add_mul]; omega
            _ ≤ l.length * C.size := Nat.mul_le_mul_right _ (by omega)
        have := hown.cells (g := g) (by rw [hv]; rfl) (j * C.size + k) xs[j * C.size + k] (by simp [hlt])
        rw [Addr.add_lit, Nat.zero_add, hy1] at this
        have he2 : xs.getD (j * C.size + k) undef = y := by rw [Option.some.inj this]; simp [hlt]
        rw [he2]
        exact hy2.mono Goes.fro⟩
theorem agg {l r : List AV} (h : LeFL m l r) : LeF m (.agg l) (.agg r) := ⟨fun _ _ _ _ _ _ _ hS hr => by
  cases hr with | agg hl hh =>
    have := h.rel hS (vs := _) ⟨by simpa using hl, fun i h1 h2 => hh i h1 (by simpa using h2)⟩
    exact .agg (by simpa using this.1) fun i h1 h2 => this.2 i h1 (by simpa using h2)⟩
theorem tup {l r : List AV} (h : LeFL m l r) : LeF m (.tup l) (.tup r) := ⟨fun _ _ _ _ _ _ _ hS hr => by
  cases hr with | tup hl hh =>
    have := h.rel hS (vs := _) ⟨by simpa using hl, fun i h1 h2 => hh i h1 (by simpa using h2)⟩
    exact .tup (by simpa using this.1) fun i h1 h2 => this.2 i h1 (by simpa using h2)⟩
end LeF

/-- **A contract, from the body gone through.** -/
theorem Con.of (hmo : P.follows .mixedOrders = true) {T : Tys} (hT : TysOK P T) {D : Cds} (hD : CdsOK T D) {G : Gam} (hG : GamOK P G) (k : Nat) (J : List Nat) {f : Nat} {fn : Func} {code : Code} (h1 : P.funcs[f]? = some fn) (h2 : fn.body = some code) (h3 : (fn.name == "runtime.NumGoroutine") = false)
    {ι : Type} {A : ι → List AV} {R : ι → AV} {pre : ι → Prop} (hlen : ∀ i, Nat.ble (A i).length fn.ntmps = true)
    (h : ∀ i, pre i → Run (argsK (A i) 0 fun f0 => cwp ⟨T, D, G, (callX T D G k).2, (callX T D G k).1, J, fn.ntmps, none⟩ code [] f0 [[]] [] 0 fun e df f2 s2 m2 nx2 => retK T fn e df f2 s2 m2 nx2 fun x _ _ m _ => LeF m x (R i))) :
    Con P f A R pre := by
  obtain ⟨hF, hH⟩ := callX_ok hmo hT hD hG k
  refine ⟨⟨fn, code, h1, h2, h3⟩, fun i hi w imm vs himm hr => ?_⟩
  have hi := (h i hi).out
  rw [argsK_eq] at hi
  have hS : SatM w.heap.size ⟨w, imm⟩ (Env.arg imm w.heap.size) [[]] [#[]] [] w := ⟨Below.refl _ _, Nat.le_refl _, himm, ⟨fun _ h => h, fun _ h => .inl h, fun _ h => h⟩, fun id e he => by simp at he, .nil, rfl, fun i h1 h2 => by
    have : i = 0 := by simp at h1; omega
    subst this
    exact fun t => .junk _⟩
  refine CallsIn.mono (inline_ok hmo (c := ⟨T, D, G, (callX T D G k).2, (callX T D G k).1, J, fn.ntmps, none⟩) (fun f => hG.cons' f) hT hD (hH none) hF rfl h1 h2 rfl (Nat.le_of_ble_eq_true (hlen i)) hi (fun id hd => False.elim hd) hS hr) fun e w' he => ?_
  cases e with
  | returned v =>
    obtain ⟨x, fr', stk', m', E', nx', hk, hnx', hS', hx⟩ := he
    refine ⟨E'.fro m', fun b hb => .inl (hS'.keep.1 b hb), fun b hb => ?_, fun b hb => ?_, hS'.below, hk.out _ _ _ _ _ _ _ hS' hx⟩
    · rcases hb with hb | ⟨id, e, hm, hb⟩
      · exact hS'.keep.2.1 b hb
      · exact .inr ((hS'.ents id e hm).2.2 b hb).1
    · rcases hb with hb | ⟨id, e, hm, hb⟩
      · exact hS'.imm b hb
      · exact ((hS'.ents id e hm).2.2 b hb).2.2
  | panicked c => exact he.elim
  | outgrown => exact he.elim
end
end Go.SX
/- A verified symbolic executor for Go code in the model, part 21: tables. -/
namespace Go.SX
open Go.RowKit

theorem TysOK.nil {P : Program} : TysOK P [] := fun t r h => by simp [getT] at h
theorem TysOK.cons {P : Program} {t : Nat} {r : TyR} {l : Tys} (h : TyOK P t r) (hl : TysOK P l) : TysOK P ((t, r) :: l) := fun u q hq => by
  simp only [getT] at hq
  split at hq
  · rename_i e
    obtain rfl := Nat.eq_of_beq_eq_true e
    obtain rfl := Option.some.inj hq
    exact h
  · exact hl u q hq
/-- The fields' types. -/
def FsOK (P : Program) (fs : List (Nat × Nat × Nat)) : Prop := ∀ f ∈ fs, ∃ i, P.info? f.2.2 = some i ∧ i.size = f.2.1
theorem FsOK.nil {P : Program} : FsOK P [] := fun f h => by cases h
theorem FsOK.cons {P : Program} {o n t : Nat} {l : List (Nat × Nat × Nat)} (i : TypeInfo) (h : P.info? t = some i) (h2 : i.size = n) (hl : FsOK P l) : FsOK P ((o, n, t) :: l) := fun f hf => by
  rcases List.mem_cons.1 hf with rfl | hf
  · exact ⟨i, h, h2⟩
  · exact hl f hf
theorem CdsOK.nil {T : Tys} : CdsOK T [] := fun t r h => by simp [getC] at h
theorem CdsOK.cons {T : Tys} {t : Nat} {r : Cd} {l : Cds} (h : CdOK T t r) (hl : CdsOK T l) : CdsOK T ((t, r) :: l) := fun u q hq => by
  simp only [getC] at hq
  split at hq
  · rename_i e
    obtain rfl := Nat.eq_of_beq_eq_true e
    obtain rfl := Option.some.inj hq
    exact h
  · exact hl u q hq
def codeOf (fn : Func) : Code := match fn.body with
  | some c => c
  | none => .skip
theorem GamOK.nil {P : Program} : GamOK P [] := fun t r h => by simp [getG] at h
theorem GamOK.inl {P : Program} {f : Nat} {fn : Func} {J : List Nat} {l : Gam} (h1 : P.funcs[f]? = some fn) (h2 : fn.body = some (codeOf fn)) (h3 : (fn.name == "runtime.NumGoroutine") = false) (hl : GamOK P l) : GamOK P ((f, .inl fn (codeOf fn) J) :: l) := fun u q hq => by
  simp only [getG] at hq
  split at hq
  · rename_i e
    obtain rfl := Nat.eq_of_beq_eq_true e
    obtain rfl := Option.some.inj hq
    exact ⟨h1, h2, h3⟩
  · exact hl u q hq
theorem GamOK.meth {P : Program} {f : Nat} {fn : Func} {J : List Nat} (spec : List AV → List AV → AV × List AV) {l : Gam} (h1 : P.funcs[f]? = some fn) (h2 : fn.body = some (codeOf fn)) (h3 : (fn.name == "runtime.NumGoroutine") = false) (hl : GamOK P l) : GamOK P ((f, .meth fn (codeOf fn) J spec) :: l) := fun u q hq => by
  simp only [getG] at hq
  split at hq
  · rename_i e
    obtain rfl := Nat.eq_of_beq_eq_true e
    obtain rfl := Option.some.inj hq
    exact ⟨h1, h2, h3⟩
  · exact hl u q hq
theorem GamOK.pinl {P : Program} {f : Nat} {fn : Func} {J : List Nat} (spec : List AV → AV) {l : Gam} (h1 : P.funcs[f]? = some fn) (h2 : fn.body = some (codeOf fn)) (h3 : (fn.name == "runtime.NumGoroutine") = false) (hl : GamOK P l) : GamOK P ((f, .pinl fn (codeOf fn) J spec) :: l) := fun u q hq => by
  simp only [getG] at hq
  split at hq
  · rename_i e
    obtain rfl := Nat.eq_of_beq_eq_true e
    obtain rfl := Option.some.inj hq
    exact ⟨h1, h2, h3⟩
  · exact hl u q hq
theorem GamOK.con {P : Program} {f : Nat} {ι : Type} {A : ι → List AV} {R : ι → AV} {pre : ι → Prop} {l : Gam} (h : Con P f A R pre) (hl : GamOK P l) : GamOK P ((f, .con A R pre) :: l) := fun u q hq => by
  simp only [getG] at hq
  split at hq
  · rename_i e
    obtain rfl := Nat.eq_of_beq_eq_true e
    obtain rfl := Option.some.inj hq
    exact h
  · exact hl u q hq
end Go.SX
/- A verified symbolic executor for Go code in the model, part 22: a state says less than another one, reckoned; results, reckoned. -/
namespace Go.SX
open Go.RowKit

theorem ex_eq {α : Type} {a : α} {P : α → Prop} (h : P a) : ∃ j, j = a ∧ P j := ⟨a, rfl, h⟩
theorem ex_of {α : Type} {P Q : α → Prop} (a : α) (h : P a) (h2 : Q a) : ∃ j, P j ∧ Q j := ⟨a, h, h2⟩
theorem bne1 {b : Bool} {p : Prop} (h : b = true) (h2 : b = false) : p := by rw [h] at h2; cases h2
def eqV (x y : Value) (k : Prop) : Prop := match x, y with
  | .int i a, .int j b => match kEq i j with
    | true => a = b ∧ Run k
    | false => False
  | .bool a, .bool b => a = b ∧ Run k
  | .string a, .string b => a = b ∧ Run k
  | x, y => x = y ∧ Run k
theorem eqV_ok {x y : Value} {k : Prop} (h : eqV x y k) : x = y ∧ k := by
  unfold eqV at h
  split at h
  · split at h
    · rename_i he
      rw [kEq_eq he, h.1]; exact ⟨rfl, h.2.out⟩
    · exact h.elim
  · rw [h.1]; exact ⟨rfl, h.2.out⟩
  · rw [h.1]; exact ⟨rfl, h.2.out⟩
  · exact ⟨h.1, h.2.out⟩
def beq2 (a b c d : Nat) : Bool := match Nat.beq a b with
  | true => Nat.beq c d
  | false => false
theorem beq2_ok {a b c d : Nat} (h : beq2 a b c d = true) : a = b ∧ c = d := by
  unfold beq2 at h
  split at h
  · rename_i h1; exact ⟨Nat.eq_of_beq_eq_true h1, Nat.eq_of_beq_eq_true h⟩
  · cases h
def idK (i j n : Nat) (k : Prop) : Prop := match Nat.beq i j with
  | true => match Nat.ble (i + 1) n with
    | true => k
    | false => False
  | false => False
theorem idK_ok {i j n : Nat} {k : Prop} (h : idK i j n k) : i = j ∧ i < n ∧ k := by
  unfold idK at h
  split at h
  · rename_i h1
    split at h
    · rename_i h2; exact ⟨Nat.eq_of_beq_eq_true h1, Nat.lt_of_succ_le (Nat.le_of_ble_eq_true h2), h⟩
    · exact h.elim
  · exact h.elim
mutual
/-- The first value says as much as the second one. -/
def leK (n : Nat) : AV → AV → Prop → Prop
  | a, .junk, k => k
  | a, .v y, k => match a with
    | .v x => eqV x y k
    | .sb x => match y with
      | .bool y => x = y ∧ Run k
      | _ => False
    | _ => False
  | a, .sb y, k => match a with
    | .sb x => x = y ∧ Run k
    | .v x => match x with
      | .bool x => x = y ∧ Run k
      | _ => False
    | _ => False
  | a, .ptr j p, k => match a with
    | .ptr i o => idK i j n (match Nat.beq o p with | true => k | false => False)
    | _ => False
  | a, .eptr j z s p, k => match a with
    | .eptr i y r o => idK i j n (match beq2 r s o p with | true => y = z ∧ Run k | false => False)
    | _ => False
  | a, .own j, k => match a with
    | .own i => idK i j n k
    | _ => False
  | a, .bsl j p, k => match a with
    | .bsl i o => idK i j n (match Nat.beq o p with | true => k | false => False)
    | _ => False
  | a, .yld j, k => match a with
    | .yld i => idK i j n k
    | _ => False
  | a, .view j z lo u, k => match a with
    | .view i y lo' u' => idK i j n (match Nat.beq y z with | true => (lo' = lo ∧ u' = u) ∧ Run k | false => False)
    | _ => False
  | a, .ro s e d l c z, k => force a fun a => LeN n a (.ro s e d l c z) ∧ Run k
  | a, .rptr s e d l i o z, k => force a fun a => LeN n a (.rptr s e d l i o z) ∧ Run k
  | a, .cnd c x, k => match a with
    | .cnd c' x' => c' = c ∧ Run (leK n x' x k)
    | _ => False
  | a, .agg l, k => match a with
    | .agg l' => leKL n l' l k
    | _ => False
  | a, .tup l, k => match a with
    | .tup l' => leKL n l' l k
    | _ => False
  | a, .fn f l, k => match a with
    | .fn g l' => match Nat.beq g f with
      | true => leKL n l' l k
      | false => False
    | _ => False
def leKL (n : Nat) : List AV → List AV → Prop → Prop
  | a, [], k => match a with
    | [] => k
    | _ :: _ => False
  | a, y :: b, k => match a with
    | [] => False
    | x :: a => leK n x y (leKL n a b k)
end
theorem LeN.cnd {n : Nat} {c : Bool} {x y : AV} (h : LeN n x y) : LeN n (.cnd c x) (.cnd c y) := ⟨fun _ _ _ hr => by
  cases hr with
  | cndT h1 => exact .cndT (h.out _ _ _ h1)
  | cndF => exact .cndF _⟩
mutual
theorem leK_ok {n : Nat} : ∀ {a b : AV} {k : Prop}, leK n a b k → LeN n a b ∧ k
  | a, .junk, k, h => ⟨.junk, by simpa only [leK] using h⟩
  | a, .v y, k, h => by
    unfold leK at h
    split at h
    · obtain ⟨h1, h2⟩ := eqV_ok h; exact ⟨.v h1, h2⟩
    · split at h
      · exact ⟨.bv h.1, h.2.out⟩
      · exact h.elim
    · exact h.elim
  | a, .sb y, k, h => by
    unfold leK at h
    split at h
    · exact ⟨.sb h.1, h.2.out⟩
    · split at h
      · exact ⟨.vb h.1, h.2.out⟩
      · exact h.elim
    · exact h.elim
  | a, .ptr j p, k, h => by
    unfold leK at h
    split at h
    · obtain ⟨e, h1, h2⟩ := idK_ok h
      split at h2
      · rename_i hb; obtain rfl := Nat.eq_of_beq_eq_true hb; subst e; exact ⟨.ptr h1, h2⟩
      · exact h2.elim
    · exact h.elim
  | a, .eptr j z s p, k, h => by
    unfold leK at h
    split at h
    · obtain ⟨e, h1, h2⟩ := idK_ok h
      split at h2
      · rename_i hb; obtain ⟨rfl, rfl⟩ := beq2_ok hb; obtain ⟨rfl, h3⟩ := h2; subst e; exact ⟨.eptr h1, h3.out⟩
      · exact h2.elim
    · exact h.elim
  | a, .own j, k, h => by
    unfold leK at h
    split at h
    · obtain ⟨e, h1, h2⟩ := idK_ok h; subst e; exact ⟨.own h1, h2⟩
    · exact h.elim
  | a, .bsl j p, k, h => by
    unfold leK at h
    split at h
    · obtain ⟨e, h1, h2⟩ := idK_ok h
      split at h2
      · rename_i hb; obtain rfl := Nat.eq_of_beq_eq_true hb; subst e; exact ⟨.bsl h1, h2⟩
      · exact h2.elim
    · exact h.elim
  | a, .yld j, k, h => by
    unfold leK at h
    split at h
    · obtain ⟨e, h1, h2⟩ := idK_ok h; subst e; exact ⟨.yld h1, h2⟩
    · exact h.elim
  | a, .view j z lo u, k, h => by
    unfold leK at h
    split at h
    · obtain ⟨e, h1, h2⟩ := idK_ok h
      split at h2
      · rename_i hb; obtain rfl := Nat.eq_of_beq_eq_true hb; obtain ⟨⟨h3, h4⟩, h5⟩ := h2; subst e; exact ⟨.view h1 h3 h4, h5.out⟩
      · exact h2.elim
    · exact h.elim
  | a, .ro s e d l c z, k, h => by simp only [leK, force_eq] at h; exact ⟨h.1, h.2.out⟩
  | a, .rptr s e d l i o z, k, h => by simp only [leK, force_eq] at h; exact ⟨h.1, h.2.out⟩
  | a, .cnd c x, k, h => by
    unfold leK at h
    split at h
    · obtain ⟨rfl, h⟩ := h
      obtain ⟨h1, h2⟩ := leK_ok h.out
      exact ⟨.cnd h1, h2⟩
    · exact h.elim
  | a, .agg l, k, h => by
    unfold leK at h
    split at h
    · obtain ⟨h1, h2⟩ := leKL_ok h; exact ⟨.agg h1, h2⟩
    · exact h.elim
  | a, .tup l, k, h => by
    unfold leK at h
    split at h
    · obtain ⟨h1, h2⟩ := leKL_ok h; exact ⟨.tup h1, h2⟩
    · exact h.elim
  | a, .fn f l, k, h => by
    unfold leK at h
    split at h
    · split at h
      · rename_i hb; obtain rfl := Nat.eq_of_beq_eq_true hb; obtain ⟨h1, h2⟩ := leKL_ok h; exact ⟨.fn h1, h2⟩
      · exact h.elim
    · exact h.elim
theorem leKL_ok {n : Nat} : ∀ {a b : List AV} {k : Prop}, leKL n a b k → LeNL n a b ∧ k
  | a, [], k, h => by
    unfold leKL at h
    split at h
    · exact ⟨.nil, h⟩
    · exact h.elim
  | a, y :: b, k, h => by
    unfold leKL at h
    split at h
    · exact h.elim
    · obtain ⟨h1, h⟩ := leK_ok h
      obtain ⟨h2, h⟩ := leKL_ok h
      exact ⟨.cons h1 h2, h⟩
end
def frK (n : Nat) (fr : Fr) : List Nat → Fr → Prop → Prop
  | _, [], k => k
  | ds, (t, x) :: l, k => match memN ds t with
    | true => frK n fr ds l k
    | false => leK n (getS fr t) x (frK n fr (t :: ds) l k)
theorem memN_cons {a : Nat} {l : List Nat} {t : Nat} (h : memN l t = false) (ha : a ≠ t) : memN (a :: l) t = false := by
  simp only [memN]
  split
  · rename_i e; exact absurd (Nat.eq_of_beq_eq_true e) ha
  · exact h
theorem frK_ok' {n : Nat} {fr : Fr} : ∀ {l : Fr} {ds : List Nat} {k : Prop}, frK n fr ds l k → (∀ t, memN ds t = false → LeN n (getS fr t) (getS l t)) ∧ k
  | [], ds, k, h => ⟨fun _ _ => .junk, h⟩
  | (t, x) :: l, ds, k, h => by
    simp only [frK] at h
    split at h
    · rename_i hd
      obtain ⟨h1, h2⟩ := frK_ok' h
      refine ⟨fun s hs => ?_, h2⟩
      rw [getS_cons]
      split
      · rename_i e; subst e; rw [hd] at hs; cases hs
      · exact h1 s hs
    · obtain ⟨h1, h⟩ := leK_ok h
      obtain ⟨h2, h⟩ := frK_ok' h
      refine ⟨fun s hs => ?_, h⟩
      rw [getS_cons]
      split
      · rename_i e; subst e; exact h1
      · rename_i e; exact h2 s (memN_cons hs e)
theorem frK_ok {n : Nat} {fr : Fr} {l : Fr} {k : Prop} (h : frK n fr [] l k) : FrLe n fr l ∧ k := by
  obtain ⟨h1, h2⟩ := frK_ok' h
  exact ⟨⟨fun t => h1 t rfl⟩, h2⟩
def stkK (n : Nat) : List Fr → List Fr → Prop → Prop
  | [], [], k => k
  | f :: l, g :: r, k => frK n f [] g (stkK n l r k)
  | _, _, _ => False
theorem stkK_ok {n : Nat} : ∀ {l r : List Fr} {k : Prop}, stkK n l r k → StkLe n l r ∧ k
  | [], [], k, h => ⟨.nil, h⟩
  | f :: l, g :: r, k, h => by
    obtain ⟨h1, h⟩ := frK_ok h
    obtain ⟨h2, h⟩ := stkK_ok h
    exact ⟨.cons h1 h2, h⟩
  | [], _ :: _, k, h => h.elim
  | _ :: _, [], k, h => h.elim
theorem EntLe.rowNone {n : Nat} {α : Type} {C : Cdc α} {l l' : List α} {t : Nat} {cap : Option Nat} (h : l = l') : EntLe n (.row C l t cap) (.row C l' t cap) := .row h
def entK (n : Nat) (e e' : Ent) (k : Prop) : Prop := match e, e' with
  | .box cs t, .box ds t' => match Nat.beq t t' with
    | true => leKL n cs ds k
    | false => False
  | .row C l t cap, .row C' l' t' cap' => EntLe n (.row C l t cap) (.row C' l' t' cap') ∧ Run k
  | .iter s p, .iter s' p' => s = s' ∧ p = p' ∧ Run k
  | .defer b, .defer b' => b = b' ∧ Run k
  | .loop b st pend fr sz ps as1 bo df, .loop b' st' pend' fr' sz' ps' as2 bo' df' => frK n fr [] fr' ((b = b' ∧ st = st' ∧ pend = pend' ∧ sz = sz') ∧ (ps = ps' ∧ as1 = as2 ∧ bo = bo') ∧ Run (idK df df' n k))
  | _, _ => False
theorem entK_ok {n : Nat} {e e' : Ent} {k : Prop} (h : entK n e e' k) : EntLe n e e' ∧ k := by
  unfold entK at h
  split at h
  · split at h
    · rename_i hb
      obtain rfl := Nat.eq_of_beq_eq_true hb
      obtain ⟨h1, h2⟩ := leKL_ok h
      exact ⟨.box h1, h2⟩
    · exact h.elim
  · exact ⟨h.1, h.2.out⟩
  · obtain ⟨rfl, rfl, h⟩ := h; exact ⟨.iter rfl, h.out⟩
  · obtain ⟨rfl, h⟩ := h; exact ⟨.defer, h.out⟩
  · obtain ⟨h1, ⟨e1, e2, e3, e4⟩, ⟨e5, e6, e7⟩, h3⟩ := frK_ok h
    subst e1 e2 e3 e4 e5 e6 e7
    obtain ⟨e8, h2, h4⟩ := idK_ok h3.out
    subst e8
    exact ⟨.loop h1 h2, h4⟩
  · exact h.elim
def memK (n : Nat) : Mem → Mem → Prop → Prop
  | _, [], k => k
  | [], _ :: _, _ => False
  | (i, e) :: m, (j, e') :: m', k => match Nat.beq i j with
    | true => match Nat.ble (i + 1) n with
      | true => entK n e e' (memK n m m' k)
      | false => False
    | false => memK n m ((j, e') :: m') k
theorem memK_ok {n : Nat} : ∀ {m m' : Mem} {k : Prop}, memK n m m' k → MemLe n m m' ∧ k
  | _, [], k, h => ⟨.nil, by rename_i m; cases m <;> exact h⟩
  | [], _ :: _, k, h => h.elim
  | (i, e) :: m, (j, e') :: m', k, h => by
    simp only [memK] at h
    split at h
    · rename_i hb
      obtain rfl := Nat.eq_of_beq_eq_true hb
      split at h
      · rename_i h2
        obtain ⟨h1, h⟩ := entK_ok h
        obtain ⟨h3, h⟩ := memK_ok h
        exact ⟨.keep h1 (Nat.lt_of_succ_le (Nat.le_of_ble_eq_true h2)) h3, h⟩
      · exact h.elim
    · obtain ⟨h3, h⟩ := memK_ok h
      exact ⟨.skip h3, h⟩
def wkK (A B : Sta) : Prop := match A, B with
  | ⟨fr, stk, m, _⟩, ⟨fr', stk', m', n⟩ => frK n fr [] fr' (stkK n stk stk' (memK n m m' True))
theorem Wk.chk {A B : Sta} (h : wkK A B) : Wk A B := by
  obtain ⟨fr, stk, m, nx⟩ := A
  obtain ⟨fr', stk', m', n⟩ := B
  obtain ⟨h1, h⟩ := frK_ok h
  obtain ⟨h2, h⟩ := stkK_ok h
  obtain ⟨h3, _⟩ := memK_ok h
  exact Wk.of h1 h2 h3
def wkxK (x : AV) (A : Sta) (X : AV) (B : Sta) : Prop := match A, B with
  | ⟨fr, stk, m, _⟩, ⟨fr', stk', m', n⟩ => leK n x X (frK n fr [] fr' (stkK n stk stk' (memK n m m' True)))
theorem WkX.chk {x X : AV} {A B : Sta} (h : wkxK x A X B) : WkX x A X B := by
  obtain ⟨fr, stk, m, nx⟩ := A
  obtain ⟨fr', stk', m', n⟩ := B
  obtain ⟨h0, h⟩ := leK_ok h
  obtain ⟨h1, h⟩ := frK_ok h
  obtain ⟨h2, h⟩ := stkK_ok h
  obtain ⟨h3, _⟩ := memK_ok h
  exact WkX.of h0 h1 h2 h3

/-- A row as a result: to be shown. -/
structure LeR (m : Mem) (a b : AV) : Prop where
  out : LeF m a b
theorem LeR.own {m : Mem} {α : Type} {C : Cdc α} {s : Nat} {en : α → List AV} {l l' : List α} {t n : Nat} {cap : Option Nat} {d : α} (he : getE m n = some (.row C l t cap)) (hs : C.size = s) (hen : C.enc = en) (h : l = l') : LeR m (.own n) (.ro s en d l' none) := ⟨by subst hs hen; exact .own he h⟩
theorem LeR.view {m : Mem} {α : Type} {C : Cdc α} {s : Nat} {en : α → List AV} {l l' : List α} {t n lo u : Nat} {cap : Option Nat} {d : α} (he : getE m n = some (.row C l t cap)) (hs : C.size = s) (hen : C.enc = en) (hlu : lo + u ≤ l.length) (h : (l.drop lo).take u = l') :
    LeR m (.view n s lo u) (.ro s en d l' none) := ⟨⟨fun base w0 E stk gs w v hS hr => by
  subst h
  exact view_rel hS he hs hen hlu hr (z := false) (fun g hg => .inl (.inr ⟨n, _, mem_of_getE he, hg⟩)) (fun _ h => .inl h)⟩⟩
theorem LeR.ro {m : Mem} {α : Type} {s : Nat} {en : α → List AV} {d : α} {l l' : List α} {c : Option Nat} (h : l = l') : LeR m (.ro s en d l c) (.ro s en d l' c) := ⟨.ro h⟩
theorem LeR.roCap {m : Mem} {α : Type} {s : Nat} {en : α → List AV} {d : α} {l l' : List α} {c : Option Nat} (h : l = l') : LeR m (.ro s en d l c) (.ro s en d l' none) := ⟨.roCap h⟩
theorem LeR.nil {m : Mem} {α : Type} {s : Nat} {en : α → List AV} {d : α} {l : List α} (h : l = []) (hs : ∀ x, (en x).length = s) : LeR m (.v (.slice none 0 0)) (.ro s en d l none) := ⟨.nil h hs⟩
theorem Le.bv {x y : Bool} (h : x = y) : Le (.sb x) (.v (.bool y)) := ⟨fun _ _ _ hr => by subst h; rw [hr.sb_inv]; exact .v _⟩
theorem Le.agg {cs ds : List AV} (h : LeL cs ds) : Le (.agg cs) (.agg ds) := ⟨fun w E v hr => by
  cases hr with
  | @agg _ _ vs hl hh =>
    have := h.rel (w := w) (E := E) (vs := vs.toList) ⟨by simpa using hl, fun i h1 h2 => by simpa using hh i h1 (by simpa using h2)⟩
    exact .agg (by simpa using this.1) fun i h1 h2 => this.2 i h1 (by simpa using h2)⟩
structure LeO (a b : AV) : Prop where
  out : Le a b
theorem LeO.ro {α : Type} {s : Nat} {en : α → List AV} {d : α} {l l' : List α} {c : Option Nat} (h : l = l') : LeO (.ro s en d l c) (.ro s en d l' c) := ⟨by subst h; exact .ro _ _ _ _ _⟩
theorem LeO.roCap {α : Type} {s : Nat} {en : α → List AV} {d : α} {l l' : List α} {c : Option Nat} (h : l = l') : LeO (.ro s en d l c) (.ro s en d l' none) := ⟨by subst h; exact .roCap _ _ _ _ _⟩
theorem LeO.nil {α : Type} {s : Nat} {en : α → List AV} {d : α} {l : List α} (h : l = []) (hs : ∀ x, (en x).length = s) : LeO (.v (.slice none 0 0)) (.ro s en d l none) := ⟨by subst h; exact .nil _ _ _ hs⟩
mutual
/-- A value that names nothing. -/
def lebK : AV → AV → Prop → Prop
  | a, .v y, k => match a with
    | .v x => eqV x y k
    | .sb x => match y with
      | .bool y => x = y ∧ Run k
      | _ => False
    | _ => False
  | a, .sb y, k => match a with
    | .sb x => x = y ∧ Run k
    | .v x => match x with
      | .bool x => x = y ∧ Run k
      | _ => False
    | _ => False
  | a, .agg l, k => match a with
    | .agg l' => lebKL l' l k
    | _ => False
  | a, .ro s e d l c z, k => force a fun a => LeO a (.ro s e d l c z) ∧ Run k
  | _, _, _ => False
def lebKL : List AV → List AV → Prop → Prop
  | a, [], k => match a with
    | [] => k
    | _ :: _ => False
  | a, y :: b, k => match a with
    | [] => False
    | x :: a => lebK x y (lebKL a b k)
end
theorem Le.v' {x y : Value} (h : x = y) : Le (.v x) (.v y) := by subst h; exact .v _
theorem Le.sb' {x y : Bool} (h : x = y) : Le (.sb x) (.sb y) := by subst h; exact .sb _
theorem Le.vb' {x y : Bool} (h : x = y) : Le (.v (.bool x)) (.sb y) := by subst h; exact .vb _
mutual
theorem lebK_ok : ∀ {a b : AV} {k : Prop}, lebK a b k → Le a b ∧ k
  | a, .v y, k, h => by
    unfold lebK at h
    split at h
    · obtain ⟨h1, h2⟩ := eqV_ok h; exact ⟨.v' h1, h2⟩
    · split at h
      · exact ⟨.bv h.1, h.2.out⟩
      · exact h.elim
    · exact h.elim
  | a, .sb y, k, h => by
    unfold lebK at h
    split at h
    · exact ⟨.sb' h.1, h.2.out⟩
    · split at h
      · exact ⟨.vb' h.1, h.2.out⟩
      · exact h.elim
    · exact h.elim
  | a, .ro s e d l c z, k, h => by simp only [lebK, force_eq] at h; exact ⟨h.1.out, h.2.out⟩
  | a, .view i s l n, k, h => by unfold lebK at h; exact h.elim
  | a, .agg l, k, h => by
    unfold lebK at h
    split at h
    · obtain ⟨h1, h2⟩ := lebKL_ok h; exact ⟨.agg h1, h2⟩
    · exact h.elim
  | a, .tup l, k, h => by unfold lebK at h; exact h.elim
  | a, .junk, k, h => by unfold lebK at h; exact h.elim
  | a, .cnd c x, k, h => by unfold lebK at h; exact h.elim
  | a, .ptr i o, k, h => by unfold lebK at h; exact h.elim
  | a, .eptr i o s p, k, h => by unfold lebK at h; exact h.elim
  | a, .rptr s e d l i o z, k, h => by unfold lebK at h; exact h.elim
  | a, .own i, k, h => by unfold lebK at h; exact h.elim
  | a, .bsl i n, k, h => by unfold lebK at h; exact h.elim
  | a, .fn f l, k, h => by unfold lebK at h; exact h.elim
  | a, .yld i, k, h => by unfold lebK at h; exact h.elim
theorem lebKL_ok : ∀ {a b : List AV} {k : Prop}, lebKL a b k → LeL a b ∧ k
  | a, [], k, h => by
    unfold lebKL at h
    split at h
    · exact ⟨.nil, h⟩
    · exact h.elim
  | a, y :: b, k, h => by
    unfold lebKL at h
    split at h
    · exact h.elim
    · obtain ⟨h1, h⟩ := lebK_ok h
      obtain ⟨h2, h⟩ := lebKL_ok h
      exact ⟨.cons h1 h2, h⟩
end
theorem LeL.chk {a b : List AV} (h : lebKL a b True) : LeL a b := (lebKL_ok h).1
/-- Numbers and truth values out of cells. -/
abbrev iOf (x : AV) : Int := match x with
  | .v (.int _ n) => n
  | _ => 0
abbrev bOf (x : AV) : Bool := match x with
  | .sb b => b
  | .v (.bool b) => b
  | _ => false
mutual
/-- A result, of what nobody writes any more. -/
def lefK (m : Mem) : AV → AV → Prop → Prop
  | a, .v y, k => match a with
    | .v x => eqV x y k
    | .sb x => match y with
      | .bool y => x = y ∧ Run k
      | _ => False
    | _ => False
  | a, .sb y, k => match a with
    | .sb x => x = y ∧ Run k
    | .v x => match x with
      | .bool x => x = y ∧ Run k
      | _ => False
    | _ => False
  | a, .ro s e d l c z, k => force a fun a => LeR m a (.ro s e d l c z) ∧ Run k
  | a, .agg l, k => match a with
    | .agg l' => lefKL m l' l k
    | _ => False
  | a, .tup l, k => match a with
    | .tup l' => lefKL m l' l k
    | _ => False
  | a, .junk, k => LeR m a .junk ∧ Run k
  | a, .cnd c x, k => LeR m a (.cnd c x) ∧ Run k
  | a, .ptr i o, k => LeR m a (.ptr i o) ∧ Run k
  | a, .eptr i o s p, k => LeR m a (.eptr i o s p) ∧ Run k
  | a, .rptr s e d l i o z, k => LeR m a (.rptr s e d l i o z) ∧ Run k
  | a, .view i s l u, k => LeR m a (.view i s l u) ∧ Run k
  | a, .own i, k => LeR m a (.own i) ∧ Run k
  | a, .bsl i n, k => LeR m a (.bsl i n) ∧ Run k
  | a, .fn f l, k => LeR m a (.fn f l) ∧ Run k
  | a, .yld i, k => LeR m a (.yld i) ∧ Run k
def lefKL (m : Mem) : List AV → List AV → Prop → Prop
  | a, [], k => match a with
    | [] => k
    | _ :: _ => False
  | a, y :: b, k => match a with
    | [] => False
    | x :: a => lefK m x y (lefKL m a b k)
end
theorem LeF.bv {m : Mem} {x y : Bool} (h : x = y) : LeF m (.sb x) (.v (.bool y)) := ⟨fun _ _ _ _ _ _ _ _ hr => by subst h; rw [hr.sb_inv]; exact .v _⟩
mutual
theorem lefK_ok {m : Mem} : ∀ {a b : AV} {k : Prop}, lefK m a b k → LeF m a b ∧ k
  | a, .v y, k, h => by
    unfold lefK at h
    split at h
    · obtain ⟨h1, h2⟩ := eqV_ok h; exact ⟨.v h1, h2⟩
    · split at h
      · exact ⟨.bv h.1, h.2.out⟩
      · exact h.elim
    · exact h.elim
  | a, .sb y, k, h => by
    unfold lefK at h
    split at h
    · exact ⟨.sb h.1, h.2.out⟩
    · split at h
      · exact ⟨.vb h.1, h.2.out⟩
      · exact h.elim
    · exact h.elim
  | a, .ro s e d l c z, k, h => by simp only [lefK, force_eq] at h; exact ⟨h.1.out, h.2.out⟩
  | a, .view i s l n, k, h => by simp only [lefK] at h; exact ⟨h.1.out, h.2.out⟩
  | a, .agg l, k, h => by
    unfold lefK at h
    split at h
    · obtain ⟨h1, h2⟩ := lefKL_ok h; exact ⟨.agg h1, h2⟩
    · exact h.elim
  | a, .tup l, k, h => by
    unfold lefK at h
    split at h
    · obtain ⟨h1, h2⟩ := lefKL_ok h; exact ⟨.tup h1, h2⟩
    · exact h.elim
  | a, .junk, k, h => by simp only [lefK] at h; exact ⟨h.1.out, h.2.out⟩
  | a, .cnd c x, k, h => by simp only [lefK] at h; exact ⟨h.1.out, h.2.out⟩
  | a, .ptr i o, k, h => by simp only [lefK] at h; exact ⟨h.1.out, h.2.out⟩
  | a, .eptr i o s p, k, h => by simp only [lefK] at h; exact ⟨h.1.out, h.2.out⟩
  | a, .rptr s e d l i o z, k, h => by simp only [lefK] at h; exact ⟨h.1.out, h.2.out⟩
  | a, .own i, k, h => by simp only [lefK] at h; exact ⟨h.1.out, h.2.out⟩
  | a, .bsl i n, k, h => by simp only [lefK] at h; exact ⟨h.1.out, h.2.out⟩
  | a, .fn f l, k, h => by simp only [lefK] at h; exact ⟨h.1.out, h.2.out⟩
  | a, .yld i, k, h => by simp only [lefK] at h; exact ⟨h.1.out, h.2.out⟩
theorem lefKL_ok {m : Mem} : ∀ {a b : List AV} {k : Prop}, lefKL m a b k → LeFL m a b ∧ k
  | a, [], k, h => by
    unfold lefKL at h
    split at h
    · exact ⟨.nil, h⟩
    · exact h.elim
  | a, y :: b, k, h => by
    unfold lefKL at h
    split at h
    · exact h.elim
    · obtain ⟨h1, h⟩ := lefK_ok h
      obtain ⟨h2, h⟩ := lefKL_ok h
      exact ⟨.cons h1 h2, h⟩
end
theorem LeF.chk {m : Mem} {a b : AV} (h : lefK m a b True) : LeF m a b := (lefK_ok h).1
end Go.SX
/- The types of the seat, as the executor is told them: printed by wip/sx/tools/gentab.py. -/
namespace Go.SX.Try
open Go.Proofs Go.Proofs.Try
def T : Tys := [(1, ⟨.other, 1, 8, [Value.nilFunc], false⟩),
  (2, ⟨.int .i64, 1, 8, [Value.int IntKind.i64 0], false⟩),
  (3, ⟨.int .i64, 1, 8, [Value.int IntKind.i64 0], false⟩),
  (4, ⟨.bool, 1, 1, [Value.bool false], false⟩),
  (5, ⟨.int .u8, 1, 1, [Value.int IntKind.u8 0], false⟩),
  (6, ⟨.int .u8, 1, 1, [Value.int IntKind.u8 0], false⟩),
  (7, ⟨.struct [(0, 1, 2), (1, 1, 3), (2, 1, 4), (3, 1, 6)], 4, 24, [Value.int IntKind.i64 0, Value.int IntKind.i64 0, Value.bool false, Value.int IntKind.u8 0], false⟩),
  (8, ⟨.struct [(0, 1, 2), (1, 1, 3), (2, 1, 4), (3, 1, 6)], 4, 24, [Value.int IntKind.i64 0, Value.int IntKind.i64 0, Value.bool false, Value.int IntKind.u8 0], false⟩),
  (9, ⟨.str, 1, 16, [Value.string { data := #[] }], false⟩),
  (10, ⟨.str, 1, 16, [Value.string { data := #[] }], false⟩),
  (11, ⟨.str, 1, 16, [Value.string { data := #[] }], false⟩),
  (12, ⟨.int .u64, 1, 8, [Value.int IntKind.u64 0], false⟩),
  (13, ⟨.struct [(0, 1, 9), (1, 1, 12)], 2, 24, [Value.string { data := #[] }, Value.int IntKind.u64 0], false⟩),
  (14, ⟨.struct [(0, 1, 9), (1, 1, 12)], 2, 24, [Value.string { data := #[] }, Value.int IntKind.u64 0], false⟩),
  (15, ⟨.other, 1, 8, [Value.pointer none], false⟩),
  (16, ⟨.other, 1, 8, [Value.pointer none], false⟩),
  (17, ⟨.other, 1, 8, [Value.pointer none], false⟩),
  (18, ⟨.struct [(0, 1, 17)], 1, 8, [Value.pointer none], false⟩),
  (19, ⟨.struct [(0, 1, 17)], 1, 8, [Value.pointer none], false⟩),
  (20, ⟨.other, 1, 16, [Value.nilIface], false⟩),
  (21, ⟨.int .i32, 1, 4, [Value.int IntKind.i32 0], false⟩),
  (22, ⟨.slice 54, 1, 24, [Value.slice none 0 0], false⟩),
  (23, ⟨.int .i64, 1, 8, [Value.int IntKind.i64 0], false⟩),
  (25, ⟨.other, 1, 8, [Value.nilFunc], false⟩),
  (26, ⟨.slice 92, 1, 24, [Value.slice none 0 0], false⟩),
  (28, ⟨.other, 1, 8, [Value.nilFunc], false⟩),
  (29, ⟨.other, 1, 8, [Value.nilFunc], false⟩),
  (30, ⟨.other, 1, 8, [Value.nilFunc], false⟩),
  (31, ⟨.other, 1, 8, [Value.nilFunc], false⟩),
  (32, ⟨.other, 1, 8, [Value.nilFunc], false⟩),
  (33, ⟨.other, 1, 8, [Value.nilFunc], false⟩),
  (34, ⟨.other, 1, 8, [Value.nilFunc], false⟩),
  (35, ⟨.other, 1, 8, [Value.nilFunc], false⟩),
  (36, ⟨.slice 9, 1, 24, [Value.slice none 0 0], false⟩),
  (38, ⟨.other, 1, 8, [Value.nilFunc], false⟩),
  (40, ⟨.other, 1, 8, [Value.nilFunc], false⟩),
  (41, ⟨.other, 1, 8, [Value.nilFunc], false⟩),
  (42, ⟨.other, 1, 8, [Value.nilFunc], false⟩),
  (43, ⟨.other, 1, 8, [Value.nilFunc], false⟩),
  (44, ⟨.other, 1, 8, [Value.nilFunc], false⟩),
  (46, ⟨.other, 1, 8, [Value.nilFunc], false⟩),
  (48, ⟨.other, 1, 8, [Value.nilFunc], false⟩),
  (49, ⟨.other, 1, 8, [Value.nilFunc], false⟩),
  (50, ⟨.slice 3, 1, 24, [Value.slice none 0 0], false⟩),
  (51, ⟨.other, 1, 8, [Value.nilFunc], false⟩),
  (52, ⟨.other, 1, 8, [Value.nilFunc], false⟩),
  (53, ⟨.struct [(0, 1, 3), (1, 1, 3)], 2, 16, [Value.int IntKind.i64 0, Value.int IntKind.i64 0], true⟩),
  (54, ⟨.struct [(0, 1, 3), (1, 1, 3)], 2, 16, [Value.int IntKind.i64 0, Value.int IntKind.i64 0], true⟩),
  (55, ⟨.other, 1, 8, [Value.nilFunc], false⟩),
  (56, ⟨.other, 1, 8, [Value.nilFunc], false⟩),
  (57, ⟨.other, 1, 8, [Value.nilFunc], false⟩),
  (59, ⟨.other, 1, 8, [Value.nilFunc], false⟩),
  (60, ⟨.other, 1, 8, [Value.nilFunc], false⟩),
  (61, ⟨.slice 68, 1, 24, [Value.slice none 0 0], false⟩),
  (62, ⟨.struct [(0, 1, 9), (1, 1, 61)], 2, 40, [Value.string { data := #[] }, Value.slice none 0 0], false⟩),
  (63, ⟨.struct [(0, 1, 9), (1, 1, 61)], 2, 40, [Value.string { data := #[] }, Value.slice none 0 0], false⟩),
  (64, ⟨.other, 1, 8, [Value.nilFunc], false⟩),
  (66, ⟨.other, 1, 8, [Value.nilFunc], false⟩),
  (67, ⟨.struct [(0, 1, 3), (1, 1, 3), (2, 1, 3), (3, 1, 3)], 4, 32, [Value.int IntKind.i64 0, Value.int IntKind.i64 0, Value.int IntKind.i64 0, Value.int IntKind.i64 0], true⟩),
  (68, ⟨.struct [(0, 1, 3), (1, 1, 3), (2, 1, 3), (3, 1, 3)], 4, 32, [Value.int IntKind.i64 0, Value.int IntKind.i64 0, Value.int IntKind.i64 0, Value.int IntKind.i64 0], true⟩),
  (69, ⟨.other, 1, 8, [Value.nilFunc], false⟩),
  (70, ⟨.other, 1, 8, [Value.nilFunc], false⟩),
  (71, ⟨.other, 1, 8, [Value.nilFunc], false⟩),
  (72, ⟨.slice 80, 1, 24, [Value.slice none 0 0], false⟩),
  (73, ⟨.other, 1, 8, [Value.nilFunc], false⟩),
  (75, ⟨.other, 1, 8, [Value.nilFunc], false⟩),
  (76, ⟨.slice 83, 1, 24, [Value.slice none 0 0], false⟩),
  (77, ⟨.struct [(0, 1, 3), (1, 1, 3), (2, 1, 3), (3, 1, 3), (4, 1, 3)], 5, 40, [Value.int IntKind.i64 0, Value.int IntKind.i64 0, Value.int IntKind.i64 0, Value.int IntKind.i64 0, Value.int IntKind.i64 0], true⟩),
  (78, ⟨.struct [(0, 1, 3), (1, 1, 3), (2, 1, 3), (3, 1, 3), (4, 1, 3)], 5, 40, [Value.int IntKind.i64 0, Value.int IntKind.i64 0, Value.int IntKind.i64 0, Value.int IntKind.i64 0, Value.int IntKind.i64 0], true⟩),
  (79, ⟨.struct [(0, 5, 78), (5, 1, 21), (6, 1, 4), (7, 1, 4), (8, 1, 4), (9, 1, 4), (10, 1, 4), (11, 1, 4)], 12, 56, [Value.int IntKind.i64 0, Value.int IntKind.i64 0, Value.int IntKind.i64 0, Value.int IntKind.i64 0, Value.int IntKind.i64 0, Value.int IntKind.i32 0, Value.bool false, Value.bool false, Value.bool false, Value.bool false, Value.bool false, Value.bool false], true⟩),
  (80, ⟨.struct [(0, 5, 78), (5, 1, 21), (6, 1, 4), (7, 1, 4), (8, 1, 4), (9, 1, 4), (10, 1, 4), (11, 1, 4)], 12, 56, [Value.int IntKind.i64 0, Value.int IntKind.i64 0, Value.int IntKind.i64 0, Value.int IntKind.i64 0, Value.int IntKind.i64 0, Value.int IntKind.i32 0, Value.bool false, Value.bool false, Value.bool false, Value.bool false, Value.bool false, Value.bool false], true⟩),
  (81, ⟨.other, 1, 8, [Value.nilFunc], false⟩),
  (82, ⟨.struct [(0, 1, 2), (1, 1, 3), (2, 1, 3), (3, 1, 4)], 4, 32, [Value.int IntKind.i64 0, Value.int IntKind.i64 0, Value.int IntKind.i64 0, Value.bool false], true⟩),
  (83, ⟨.struct [(0, 1, 2), (1, 1, 3), (2, 1, 3), (3, 1, 4)], 4, 32, [Value.int IntKind.i64 0, Value.int IntKind.i64 0, Value.int IntKind.i64 0, Value.bool false], true⟩),
  (84, ⟨.other, 1, 8, [Value.nilFunc], false⟩),
  (85, ⟨.other, 1, 8, [Value.nilFunc], false⟩),
  (86, ⟨.slice 103, 1, 24, [Value.slice none 0 0], false⟩),
  (87, ⟨.other, 1, 8, [Value.nilFunc], false⟩),
  (88, ⟨.other, 1, 8, [Value.nilFunc], false⟩),
  (90, ⟨.other, 1, 8, [Value.nilFunc], false⟩),
  (91, ⟨.other, 1, 8, [Value.nilFunc], false⟩),
  (92, ⟨.struct [(0, 1, 3), (1, 1, 3)], 2, 16, [Value.int IntKind.i64 0, Value.int IntKind.i64 0], true⟩),
  (93, ⟨.slice 72, 1, 24, [Value.slice none 0 0], false⟩),
  (95, ⟨.other, 1, 8, [Value.nilFunc], false⟩),
  (96, ⟨.other, 1, 8, [Value.nilFunc], false⟩),
  (98, ⟨.other, 1, 8, [Value.nilFunc], false⟩),
  (99, ⟨.other, 1, 8, [Value.nilFunc], false⟩),
  (101, ⟨.other, 1, 8, [Value.nilFunc], false⟩),
  (102, ⟨.struct [(0, 1, 3), (1, 1, 3), (2, 1, 3), (3, 1, 3)], 4, 32, [Value.int IntKind.i64 0, Value.int IntKind.i64 0, Value.int IntKind.i64 0, Value.int IntKind.i64 0], true⟩),
  (103, ⟨.struct [(0, 1, 3), (1, 1, 3), (2, 1, 3), (3, 1, 3)], 4, 32, [Value.int IntKind.i64 0, Value.int IntKind.i64 0, Value.int IntKind.i64 0, Value.int IntKind.i64 0], true⟩),
  (104, ⟨.other, 1, 8, [Value.nilFunc], false⟩),
  (105, ⟨.other, 1, 8, [Value.nilFunc], false⟩),
  (107, ⟨.other, 1, 8, [Value.nilFunc], false⟩),
  (108, ⟨.slice 78, 1, 24, [Value.slice none 0 0], false⟩),
  (109, ⟨.other, 1, 8, [Value.nilFunc], false⟩),
  (110, ⟨.other, 1, 8, [Value.nilFunc], false⟩),
  (111, ⟨.other, 1, 8, [Value.nilFunc], false⟩),
  (112, ⟨.slice 21, 1, 24, [Value.slice none 0 0], false⟩),
  (113, ⟨.other, 1, 8, [Value.nilFunc], false⟩),
  (114, ⟨.other, 1, 8, [Value.nilFunc], false⟩),
  (115, ⟨.other, 1, 8, [Value.nilFunc], false⟩),
  (116, ⟨.other, 1, 8, [Value.nilFunc], false⟩),
  (117, ⟨.other, 1, 8, [Value.nilFunc], false⟩),
  (118, ⟨.other, 1, 8, [Value.nilFunc], false⟩),
  (119, ⟨.other, 1, 8, [Value.nilFunc], false⟩),
  (120, ⟨.other, 1, 8, [Value.nilFunc], false⟩),
  (121, ⟨.other, 1, 8, [Value.nilFunc], false⟩),
  (122, ⟨.slice 124, 1, 24, [Value.slice none 0 0], false⟩),
  (123, ⟨.struct [(0, 1, 4), (1, 1, 4), (2, 1, 4), (3, 1, 4), (4, 1, 3)], 5, 16, [Value.bool false, Value.bool false, Value.bool false, Value.bool false, Value.int IntKind.i64 0], true⟩),
  (124, ⟨.struct [(0, 1, 4), (1, 1, 4), (2, 1, 4), (3, 1, 4), (4, 1, 3)], 5, 16, [Value.bool false, Value.bool false, Value.bool false, Value.bool false, Value.int IntKind.i64 0], true⟩),
  (125, ⟨.other, 1, 8, [Value.nilFunc], false⟩),
  (126, ⟨.other, 1, 8, [Value.nilFunc], false⟩),
  (127, ⟨.other, 1, 8, [Value.nilFunc], false⟩),
  (128, ⟨.other, 1, 8, [Value.nilFunc], false⟩),
  (129, ⟨.slice 131, 1, 24, [Value.slice none 0 0], false⟩),
  (130, ⟨.other, 1, 8, [Value.nilFunc], false⟩),
  (131, ⟨.struct [(0, 1, 3), (1, 1, 3), (2, 1, 3), (3, 1, 3), (4, 1, 3)], 5, 40, [Value.int IntKind.i64 0, Value.int IntKind.i64 0, Value.int IntKind.i64 0, Value.int IntKind.i64 0, Value.int IntKind.i64 0], true⟩),
  (132, ⟨.slice 135, 1, 24, [Value.slice none 0 0], false⟩),
  (133, ⟨.other, 1, 8, [Value.nilFunc], false⟩),
  (134, ⟨.struct [(0, 1, 3), (1, 1, 3), (2, 1, 3)], 3, 24, [Value.int IntKind.i64 0, Value.int IntKind.i64 0, Value.int IntKind.i64 0], true⟩),
  (135, ⟨.struct [(0, 1, 3), (1, 1, 3), (2, 1, 3)], 3, 24, [Value.int IntKind.i64 0, Value.int IntKind.i64 0, Value.int IntKind.i64 0], true⟩),
  (136, ⟨.other, 1, 8, [Value.nilFunc], false⟩),
  (137, ⟨.other, 1, 8, [Value.nilFunc], false⟩),
  (138, ⟨.array 4 3, 4, 32, [Value.int IntKind.i64 0, Value.int IntKind.i64 0, Value.int IntKind.i64 0, Value.int IntKind.i64 0], false⟩),
  (139, ⟨.other, 1, 8, [Value.nilFunc], false⟩),
  (140, ⟨.other, 1, 8, [Value.nilFunc], false⟩),
  (141, ⟨.other, 1, 8, [Value.nilFunc], false⟩),
  (142, ⟨.struct [(0, 1, 3), (1, 1, 3), (2, 1, 21), (3, 1, 4)], 4, 24, [Value.int IntKind.i64 0, Value.int IntKind.i64 0, Value.int IntKind.i32 0, Value.bool false], true⟩),
  (143, ⟨.struct [(0, 1, 3), (1, 1, 3), (2, 1, 21), (3, 1, 4)], 4, 24, [Value.int IntKind.i64 0, Value.int IntKind.i64 0, Value.int IntKind.i32 0, Value.bool false], true⟩),
  (144, ⟨.other, 1, 8, [Value.nilFunc], false⟩),
  (145, ⟨.other, 1, 8, [Value.nilFunc], false⟩),
  (146, ⟨.struct [(0, 5, 78), (5, 1, 21), (6, 1, 21), (7, 1, 4)], 8, 56, [Value.int IntKind.i64 0, Value.int IntKind.i64 0, Value.int IntKind.i64 0, Value.int IntKind.i64 0, Value.int IntKind.i64 0, Value.int IntKind.i32 0, Value.int IntKind.i32 0, Value.bool false], true⟩),
  (147, ⟨.struct [(0, 5, 78), (5, 1, 21), (6, 1, 21), (7, 1, 4)], 8, 56, [Value.int IntKind.i64 0, Value.int IntKind.i64 0, Value.int IntKind.i64 0, Value.int IntKind.i64 0, Value.int IntKind.i64 0, Value.int IntKind.i32 0, Value.int IntKind.i32 0, Value.bool false], true⟩),
  (148, ⟨.other, 1, 8, [Value.nilFunc], false⟩),
  (149, ⟨.other, 1, 8, [Value.nilFunc], false⟩),
  (150, ⟨.slice 63, 1, 24, [Value.slice none 0 0], false⟩),
  (151, ⟨.other, 1, 8, [Value.nilFunc], false⟩),
  (152, ⟨.other, 1, 8, [Value.nilFunc], false⟩),
  (153, ⟨.other, 1, 8, [Value.nilFunc], false⟩),
  (154, ⟨.other, 1, 8, [Value.pointer none], false⟩),
  (155, ⟨.other, 1, 8, [Value.nilFunc], false⟩),
  (156, ⟨.other, 1, 8, [Value.nilFunc], false⟩),
  (157, ⟨.other, 1, 8, [Value.nilFunc], false⟩),
  (158, ⟨.slice 161, 1, 24, [Value.slice none 0 0], false⟩),
  (159, ⟨.other, 1, 8, [Value.nilFunc], false⟩),
  (160, ⟨.struct [(0, 1, 3), (1, 1, 3), (2, 1, 3), (3, 1, 4)], 4, 32, [Value.int IntKind.i64 0, Value.int IntKind.i64 0, Value.int IntKind.i64 0, Value.bool false], true⟩),
  (161, ⟨.struct [(0, 1, 3), (1, 1, 3), (2, 1, 3), (3, 1, 4)], 4, 32, [Value.int IntKind.i64 0, Value.int IntKind.i64 0, Value.int IntKind.i64 0, Value.bool false], true⟩),
  (163, ⟨.other, 1, 8, [Value.nilFunc], false⟩),
  (164, ⟨.other, 1, 8, [Value.nilFunc], false⟩),
  (165, ⟨.other, 1, 8, [Value.nilFunc], false⟩),
  (166, ⟨.other, 1, 8, [Value.nilFunc], false⟩),
  (167, ⟨.other, 1, 8, [Value.nilFunc], false⟩),
  (168, ⟨.other, 1, 8, [Value.nilFunc], false⟩),
  (169, ⟨.other, 1, 8, [Value.nilFunc], false⟩),
  (170, ⟨.other, 1, 8, [Value.pointer none], false⟩),
  (171, ⟨.other, 1, 8, [Value.nilFunc], false⟩),
  (172, ⟨.other, 1, 8, [Value.nilFunc], false⟩),
  (173, ⟨.other, 1, 8, [Value.nilFunc], false⟩),
  (174, ⟨.other, 1, 8, [Value.nilFunc], false⟩),
  (175, ⟨.other, 1, 8, [Value.nilFunc], false⟩),
  (176, ⟨.slice 5, 1, 24, [Value.slice none 0 0], false⟩),
  (177, ⟨.other, 1, 8, [Value.nilFunc], false⟩),
  (178, ⟨.other, 1, 8, [Value.nilFunc], false⟩),
  (179, ⟨.other, 1, 8, [Value.nilFunc], false⟩),
  (180, ⟨.other, 1, 8, [Value.nilFunc], false⟩),
  (181, ⟨.other, 1, 8, [Value.nilFunc], false⟩),
  (182, ⟨.other, 1, 8, [Value.nilFunc], false⟩),
  (183, ⟨.other, 1, 8, [Value.nilFunc], false⟩),
  (184, ⟨.other, 1, 8, [Value.nilFunc], false⟩),
  (185, ⟨.other, 1, 8, [Value.nilFunc], false⟩),
  (186, ⟨.int .u64, 1, 8, [Value.int IntKind.u64 0], false⟩),
  (187, ⟨.struct [(0, 1, 17), (1, 1, 17), (2, 1, 17), (3, 1, 9)], 4, 40, [Value.pointer none, Value.pointer none, Value.pointer none, Value.string { data := #[] }], false⟩),
  (188, ⟨.struct [(0, 1, 17), (1, 1, 17), (2, 1, 17), (3, 1, 9)], 4, 40, [Value.pointer none, Value.pointer none, Value.pointer none, Value.string { data := #[] }], false⟩),
  (192, ⟨.other, 1, 8, [Value.nilFunc], false⟩),
  (193, ⟨.int .u32, 1, 4, [Value.int IntKind.u32 0], false⟩),
  (194, ⟨.int .u8, 1, 1, [Value.int IntKind.u8 0], false⟩),
  (195, ⟨.int .u8, 1, 1, [Value.int IntKind.u8 0], false⟩),
  (196, ⟨.other, 1, 8, [Value.nilFunc], false⟩),
  (197, ⟨.other, 1, 8, [Value.pointer none], false⟩),
  (198, ⟨.int .i32, 1, 4, [Value.int IntKind.i32 0], false⟩),
  (199, ⟨.int .i32, 1, 4, [Value.int IntKind.i32 0], false⟩),
  (200, ⟨.struct [(0, 1, 12), (1, 1, 12), (2, 1, 193), (3, 1, 194), (4, 1, 5), (5, 1, 5), (6, 1, 195), (7, 1, 196), (8, 1, 197), (9, 1, 198), (10, 1, 199)], 11, 48, [Value.int IntKind.u64 0, Value.int IntKind.u64 0, Value.int IntKind.u32 0, Value.int IntKind.u8 0, Value.int IntKind.u8 0, Value.int IntKind.u8 0, Value.int IntKind.u8 0, Value.nilFunc, Value.pointer none, Value.int IntKind.i32 0, Value.int IntKind.i32 0], false⟩),
  (201, ⟨.struct [(0, 1, 12), (1, 1, 12), (2, 1, 193), (3, 1, 194), (4, 1, 5), (5, 1, 5), (6, 1, 195), (7, 1, 196), (8, 1, 197), (9, 1, 198), (10, 1, 199)], 11, 48, [Value.int IntKind.u64 0, Value.int IntKind.u64 0, Value.int IntKind.u32 0, Value.int IntKind.u8 0, Value.int IntKind.u8 0, Value.int IntKind.u8 0, Value.int IntKind.u8 0, Value.nilFunc, Value.pointer none, Value.int IntKind.i32 0, Value.int IntKind.i32 0], false⟩)]
theorem i1 : prog.info? 1 = some Try.t1 := by kernel_rfl
theorem i2 : prog.info? 2 = some Try.t2 := by kernel_rfl
theorem i3 : prog.info? 3 = some Try.t3 := by kernel_rfl
theorem i4 : prog.info? 4 = some Try.t4 := by kernel_rfl
theorem i5 : prog.info? 5 = some Try.t5 := by kernel_rfl
theorem i6 : prog.info? 6 = some Try.t6 := by kernel_rfl
theorem i7 : prog.info? 7 = some Try.t7 := by kernel_rfl
theorem i8 : prog.info? 8 = some Try.t8 := by kernel_rfl
theorem i9 : prog.info? 9 = some Try.t9 := by kernel_rfl
theorem i10 : prog.info? 10 = some Try.t10 := by kernel_rfl
theorem i11 : prog.info? 11 = some Try.t11 := by kernel_rfl
theorem i12 : prog.info? 12 = some Try.t12 := by kernel_rfl
theorem i13 : prog.info? 13 = some Try.t13 := by kernel_rfl
theorem i14 : prog.info? 14 = some Try.t14 := by kernel_rfl
theorem i15 : prog.info? 15 = some Try.t15 := by kernel_rfl
theorem i16 : prog.info? 16 = some Try.t16 := by kernel_rfl
theorem i17 : prog.info? 17 = some Try.t17 := by kernel_rfl
theorem i18 : prog.info? 18 = some Try.t18 := by kernel_rfl
theorem i19 : prog.info? 19 = some Try.t19 := by kernel_rfl
theorem i20 : prog.info? 20 = some Try.t20 := by kernel_rfl
theorem i21 : prog.info? 21 = some Try.t21 := by kernel_rfl
theorem i22 : prog.info? 22 = some Try.t22 := by kernel_rfl
theorem i23 : prog.info? 23 = some Try.t23 := by kernel_rfl
theorem i25 : prog.info? 25 = some Try.t25 := by kernel_rfl
theorem i26 : prog.info? 26 = some Try.t26 := by kernel_rfl
theorem i28 : prog.info? 28 = some Try.t28 := by kernel_rfl
theorem i29 : prog.info? 29 = some Try.t29 := by kernel_rfl
theorem i30 : prog.info? 30 = some Try.t30 := by kernel_rfl
theorem i31 : prog.info? 31 = some Try.t31 := by kernel_rfl
theorem i32 : prog.info? 32 = some Try.t32 := by kernel_rfl
theorem i33 : prog.info? 33 = some Try.t33 := by kernel_rfl
theorem i34 : prog.info? 34 = some Try.t34 := by kernel_rfl
theorem i35 : prog.info? 35 = some Try.t35 := by kernel_rfl
theorem i36 : prog.info? 36 = some Try.t36 := by kernel_rfl
theorem i38 : prog.info? 38 = some Try.t38 := by kernel_rfl
theorem i40 : prog.info? 40 = some Try.t40 := by kernel_rfl
theorem i41 : prog.info? 41 = some Try.t41 := by kernel_rfl
theorem i42 : prog.info? 42 = some Try.t42 := by kernel_rfl
theorem i43 : prog.info? 43 = some Try.t43 := by kernel_rfl
theorem i44 : prog.info? 44 = some Try.t44 := by kernel_rfl
theorem i46 : prog.info? 46 = some Try.t46 := by kernel_rfl
theorem i48 : prog.info? 48 = some Try.t48 := by kernel_rfl
theorem i49 : prog.info? 49 = some Try.t49 := by kernel_rfl
theorem i50 : prog.info? 50 = some Try.t50 := by kernel_rfl
theorem i51 : prog.info? 51 = some Try.t51 := by kernel_rfl
theorem i52 : prog.info? 52 = some Try.t52 := by kernel_rfl
theorem i53 : prog.info? 53 = some Try.t53 := by kernel_rfl
theorem i54 : prog.info? 54 = some Try.t54 := by kernel_rfl
theorem i55 : prog.info? 55 = some Try.t55 := by kernel_rfl
theorem i56 : prog.info? 56 = some Try.t56 := by kernel_rfl
theorem i57 : prog.info? 57 = some Try.t57 := by kernel_rfl
theorem i59 : prog.info? 59 = some Try.t59 := by kernel_rfl
theorem i60 : prog.info? 60 = some Try.t60 := by kernel_rfl
theorem i61 : prog.info? 61 = some Try.t61 := by kernel_rfl
theorem i62 : prog.info? 62 = some Try.t62 := by kernel_rfl
theorem i63 : prog.info? 63 = some Try.t63 := by kernel_rfl
theorem i64 : prog.info? 64 = some Try.t64 := by kernel_rfl
theorem i66 : prog.info? 66 = some Try.t66 := by kernel_rfl
theorem i67 : prog.info? 67 = some Try.t67 := by kernel_rfl
theorem i68 : prog.info? 68 = some Try.t68 := by kernel_rfl
theorem i69 : prog.info? 69 = some Try.t69 := by kernel_rfl
theorem i70 : prog.info? 70 = some Try.t70 := by kernel_rfl
theorem i71 : prog.info? 71 = some Try.t71 := by kernel_rfl
theorem i72 : prog.info? 72 = some Try.t72 := by kernel_rfl
theorem i73 : prog.info? 73 = some Try.t73 := by kernel_rfl
theorem i75 : prog.info? 75 = some Try.t75 := by kernel_rfl
theorem i76 : prog.info? 76 = some Try.t76 := by kernel_rfl
theorem i77 : prog.info? 77 = some Try.t77 := by kernel_rfl
theorem i78 : prog.info? 78 = some Try.t78 := by kernel_rfl
theorem i79 : prog.info? 79 = some Try.t79 := by kernel_rfl
theorem i80 : prog.info? 80 = some Try.t80 := by kernel_rfl
theorem i81 : prog.info? 81 = some Try.t81 := by kernel_rfl
theorem i82 : prog.info? 82 = some Try.t82 := by kernel_rfl
theorem i83 : prog.info? 83 = some Try.t83 := by kernel_rfl
theorem i84 : prog.info? 84 = some Try.t84 := by kernel_rfl
theorem i85 : prog.info? 85 = some Try.t85 := by kernel_rfl
theorem i86 : prog.info? 86 = some Try.t86 := by kernel_rfl
theorem i87 : prog.info? 87 = some Try.t87 := by kernel_rfl
theorem i88 : prog.info? 88 = some Try.t88 := by kernel_rfl
theorem i90 : prog.info? 90 = some Try.t90 := by kernel_rfl
theorem i91 : prog.info? 91 = some Try.t91 := by kernel_rfl
theorem i92 : prog.info? 92 = some Try.t92 := by kernel_rfl
theorem i93 : prog.info? 93 = some Try.t93 := by kernel_rfl
theorem i95 : prog.info? 95 = some Try.t95 := by kernel_rfl
theorem i96 : prog.info? 96 = some Try.t96 := by kernel_rfl
theorem i98 : prog.info? 98 = some Try.t98 := by kernel_rfl
theorem i99 : prog.info? 99 = some Try.t99 := by kernel_rfl
theorem i101 : prog.info? 101 = some Try.t101 := by kernel_rfl
theorem i102 : prog.info? 102 = some Try.t102 := by kernel_rfl
theorem i103 : prog.info? 103 = some Try.t103 := by kernel_rfl
theorem i104 : prog.info? 104 = some Try.t104 := by kernel_rfl
theorem i105 : prog.info? 105 = some Try.t105 := by kernel_rfl
theorem i107 : prog.info? 107 = some Try.t107 := by kernel_rfl
theorem i108 : prog.info? 108 = some Try.t108 := by kernel_rfl
theorem i109 : prog.info? 109 = some Try.t109 := by kernel_rfl
theorem i110 : prog.info? 110 = some Try.t110 := by kernel_rfl
theorem i111 : prog.info? 111 = some Try.t111 := by kernel_rfl
theorem i112 : prog.info? 112 = some Try.t112 := by kernel_rfl
theorem i113 : prog.info? 113 = some Try.t113 := by kernel_rfl
theorem i114 : prog.info? 114 = some Try.t114 := by kernel_rfl
theorem i115 : prog.info? 115 = some Try.t115 := by kernel_rfl
theorem i116 : prog.info? 116 = some Try.t116 := by kernel_rfl
theorem i117 : prog.info? 117 = some Try.t117 := by kernel_rfl
theorem i118 : prog.info? 118 = some Try.t118 := by kernel_rfl
theorem i119 : prog.info? 119 = some Try.t119 := by kernel_rfl
theorem i120 : prog.info? 120 = some Try.t120 := by kernel_rfl
theorem i121 : prog.info? 121 = some Try.t121 := by kernel_rfl
theorem i122 : prog.info? 122 = some Try.t122 := by kernel_rfl
theorem i123 : prog.info? 123 = some Try.t123 := by kernel_rfl
theorem i124 : prog.info? 124 = some Try.t124 := by kernel_rfl
theorem i125 : prog.info? 125 = some Try.t125 := by kernel_rfl
theorem i126 : prog.info? 126 = some Try.t126 := by kernel_rfl
theorem i127 : prog.info? 127 = some Try.t127 := by kernel_rfl
theorem i128 : prog.info? 128 = some Try.t128 := by kernel_rfl
theorem i129 : prog.info? 129 = some Try.t129 := by kernel_rfl
theorem i130 : prog.info? 130 = some Try.t130 := by kernel_rfl
theorem i131 : prog.info? 131 = some Try.t131 := by kernel_rfl
theorem i132 : prog.info? 132 = some Try.t132 := by kernel_rfl
theorem i133 : prog.info? 133 = some Try.t133 := by kernel_rfl
theorem i134 : prog.info? 134 = some Try.t134 := by kernel_rfl
theorem i135 : prog.info? 135 = some Try.t135 := by kernel_rfl
theorem i136 : prog.info? 136 = some Try.t136 := by kernel_rfl
theorem i137 : prog.info? 137 = some Try.t137 := by kernel_rfl
theorem i138 : prog.info? 138 = some Try.t138 := by kernel_rfl
theorem i139 : prog.info? 139 = some Try.t139 := by kernel_rfl
theorem i140 : prog.info? 140 = some Try.t140 := by kernel_rfl
theorem i141 : prog.info? 141 = some Try.t141 := by kernel_rfl
theorem i142 : prog.info? 142 = some Try.t142 := by kernel_rfl
theorem i143 : prog.info? 143 = some Try.t143 := by kernel_rfl
theorem i144 : prog.info? 144 = some Try.t144 := by kernel_rfl
theorem i145 : prog.info? 145 = some Try.t145 := by kernel_rfl
theorem i146 : prog.info? 146 = some Try.t146 := by kernel_rfl
theorem i147 : prog.info? 147 = some Try.t147 := by kernel_rfl
theorem i148 : prog.info? 148 = some Try.t148 := by kernel_rfl
theorem i149 : prog.info? 149 = some Try.t149 := by kernel_rfl
theorem i150 : prog.info? 150 = some Try.t150 := by kernel_rfl
theorem i151 : prog.info? 151 = some Try.t151 := by kernel_rfl
theorem i152 : prog.info? 152 = some Try.t152 := by kernel_rfl
theorem i153 : prog.info? 153 = some Try.t153 := by kernel_rfl
theorem i154 : prog.info? 154 = some Try.t154 := by kernel_rfl
theorem i155 : prog.info? 155 = some Try.t155 := by kernel_rfl
theorem i156 : prog.info? 156 = some Try.t156 := by kernel_rfl
theorem i157 : prog.info? 157 = some Try.t157 := by kernel_rfl
theorem i158 : prog.info? 158 = some Try.t158 := by kernel_rfl
theorem i159 : prog.info? 159 = some Try.t159 := by kernel_rfl
theorem i160 : prog.info? 160 = some Try.t160 := by kernel_rfl
theorem i161 : prog.info? 161 = some Try.t161 := by kernel_rfl
theorem i163 : prog.info? 163 = some Try.t163 := by kernel_rfl
theorem i164 : prog.info? 164 = some Try.t164 := by kernel_rfl
theorem i165 : prog.info? 165 = some Try.t165 := by kernel_rfl
theorem i166 : prog.info? 166 = some Try.t166 := by kernel_rfl
theorem i167 : prog.info? 167 = some Try.t167 := by kernel_rfl
theorem i168 : prog.info? 168 = some Try.t168 := by kernel_rfl
theorem i169 : prog.info? 169 = some Try.t169 := by kernel_rfl
theorem i170 : prog.info? 170 = some Try.t170 := by kernel_rfl
theorem i171 : prog.info? 171 = some Try.t171 := by kernel_rfl
theorem i172 : prog.info? 172 = some Try.t172 := by kernel_rfl
theorem i173 : prog.info? 173 = some Try.t173 := by kernel_rfl
theorem i174 : prog.info? 174 = some Try.t174 := by kernel_rfl
theorem i175 : prog.info? 175 = some Try.t175 := by kernel_rfl
theorem i176 : prog.info? 176 = some Try.t176 := by kernel_rfl
theorem i177 : prog.info? 177 = some Try.t177 := by kernel_rfl
theorem i178 : prog.info? 178 = some Try.t178 := by kernel_rfl
theorem i179 : prog.info? 179 = some Try.t179 := by kernel_rfl
theorem i180 : prog.info? 180 = some Try.t180 := by kernel_rfl
theorem i181 : prog.info? 181 = some Try.t181 := by kernel_rfl
theorem i182 : prog.info? 182 = some Try.t182 := by kernel_rfl
theorem i183 : prog.info? 183 = some Try.t183 := by kernel_rfl
theorem i184 : prog.info? 184 = some Try.t184 := by kernel_rfl
theorem i185 : prog.info? 185 = some Try.t185 := by kernel_rfl
theorem i186 : prog.info? 186 = some Try.t186 := by kernel_rfl
theorem i187 : prog.info? 187 = some Try.t187 := by kernel_rfl
theorem i188 : prog.info? 188 = some Try.t188 := by kernel_rfl
theorem i192 : prog.info? 192 = some Try.t192 := by kernel_rfl
theorem i193 : prog.info? 193 = some Try.t193 := by kernel_rfl
theorem i194 : prog.info? 194 = some Try.t194 := by kernel_rfl
theorem i195 : prog.info? 195 = some Try.t195 := by kernel_rfl
theorem i196 : prog.info? 196 = some Try.t196 := by kernel_rfl
theorem i197 : prog.info? 197 = some Try.t197 := by kernel_rfl
theorem i198 : prog.info? 198 = some Try.t198 := by kernel_rfl
theorem i199 : prog.info? 199 = some Try.t199 := by kernel_rfl
theorem i200 : prog.info? 200 = some Try.t200 := by kernel_rfl
theorem i201 : prog.info? 201 = some Try.t201 := by kernel_rfl
theorem ty1 : TyOK prog 1 ⟨.other, 1, 8, [Value.nilFunc], false⟩ := ⟨⟨Try.t1, _, i1, rfl, rfl, rfl, rfl, nofun⟩, ⟨Try.t1.desc, by kernel_rfl, fun _ => nofun, fun _ _ => nofun⟩, nofun⟩
theorem ty2 : TyOK prog 2 ⟨.int .i64, 1, 8, [Value.int IntKind.i64 0], false⟩ := ⟨⟨Try.t2, _, i2, rfl, rfl, rfl, rfl, nofun⟩, (show prog.underlying 2 = some (.int .i64) from by kernel_rfl), nofun⟩
theorem ty3 : TyOK prog 3 ⟨.int .i64, 1, 8, [Value.int IntKind.i64 0], false⟩ := ⟨⟨Try.t3, _, i3, rfl, rfl, rfl, rfl, nofun⟩, (show prog.underlying 3 = some (.int .i64) from by kernel_rfl), nofun⟩
theorem ty4 : TyOK prog 4 ⟨.bool, 1, 1, [Value.bool false], false⟩ := ⟨⟨Try.t4, _, i4, rfl, rfl, rfl, rfl, nofun⟩, (show prog.underlying 4 = some .bool from by kernel_rfl), nofun⟩
theorem ty5 : TyOK prog 5 ⟨.int .u8, 1, 1, [Value.int IntKind.u8 0], false⟩ := ⟨⟨Try.t5, _, i5, rfl, rfl, rfl, rfl, nofun⟩, (show prog.underlying 5 = some (.int .u8) from by kernel_rfl), nofun⟩
theorem ty6 : TyOK prog 6 ⟨.int .u8, 1, 1, [Value.int IntKind.u8 0], false⟩ := ⟨⟨Try.t6, _, i6, rfl, rfl, rfl, rfl, nofun⟩, (show prog.underlying 6 = some (.int .u8) from by kernel_rfl), nofun⟩
theorem ty7 : TyOK prog 7 ⟨.struct [(0, 1, 2), (1, 1, 3), (2, 1, 4), (3, 1, 6)], 4, 24, [Value.int IntKind.i64 0, Value.int IntKind.i64 0, Value.bool false, Value.int IntKind.u8 0], false⟩ := ⟨⟨Try.t7, _, i7, rfl, rfl, rfl, rfl, fun _ => rfl⟩, ⟨match Try.t7.desc with | .struct f => f | _ => #[], by kernel_rfl, rfl, FsOK.cons Try.t2 i2 rfl (FsOK.cons Try.t3 i3 rfl (FsOK.cons Try.t4 i4 rfl (FsOK.cons Try.t6 i6 rfl FsOK.nil)))⟩, nofun⟩
theorem ty8 : TyOK prog 8 ⟨.struct [(0, 1, 2), (1, 1, 3), (2, 1, 4), (3, 1, 6)], 4, 24, [Value.int IntKind.i64 0, Value.int IntKind.i64 0, Value.bool false, Value.int IntKind.u8 0], false⟩ := ⟨⟨Try.t8, _, i8, rfl, rfl, rfl, rfl, fun _ => rfl⟩, ⟨match Try.t7.desc with | .struct f => f | _ => #[], by kernel_rfl, rfl, FsOK.cons Try.t2 i2 rfl (FsOK.cons Try.t3 i3 rfl (FsOK.cons Try.t4 i4 rfl (FsOK.cons Try.t6 i6 rfl FsOK.nil)))⟩, nofun⟩
theorem ty9 : TyOK prog 9 ⟨.str, 1, 16, [Value.string { data := #[] }], false⟩ := ⟨⟨Try.t9, _, i9, rfl, rfl, rfl, rfl, nofun⟩, (show prog.underlying 9 = some .string from by kernel_rfl), nofun⟩
theorem ty10 : TyOK prog 10 ⟨.str, 1, 16, [Value.string { data := #[] }], false⟩ := ⟨⟨Try.t10, _, i10, rfl, rfl, rfl, rfl, nofun⟩, (show prog.underlying 10 = some .string from by kernel_rfl), nofun⟩
theorem ty11 : TyOK prog 11 ⟨.str, 1, 16, [Value.string { data := #[] }], false⟩ := ⟨⟨Try.t11, _, i11, rfl, rfl, rfl, rfl, nofun⟩, (show prog.underlying 11 = some .string from by kernel_rfl), nofun⟩
theorem ty12 : TyOK prog 12 ⟨.int .u64, 1, 8, [Value.int IntKind.u64 0], false⟩ := ⟨⟨Try.t12, _, i12, rfl, rfl, rfl, rfl, nofun⟩, (show prog.underlying 12 = some (.int .u64) from by kernel_rfl), nofun⟩
theorem ty13 : TyOK prog 13 ⟨.struct [(0, 1, 9), (1, 1, 12)], 2, 24, [Value.string { data := #[] }, Value.int IntKind.u64 0], false⟩ := ⟨⟨Try.t13, _, i13, rfl, rfl, rfl, rfl, fun _ => rfl⟩, ⟨match Try.t13.desc with | .struct f => f | _ => #[], by kernel_rfl, rfl, FsOK.cons Try.t9 i9 rfl (FsOK.cons Try.t12 i12 rfl FsOK.nil)⟩, nofun⟩
theorem ty14 : TyOK prog 14 ⟨.struct [(0, 1, 9), (1, 1, 12)], 2, 24, [Value.string { data := #[] }, Value.int IntKind.u64 0], false⟩ := ⟨⟨Try.t14, _, i14, rfl, rfl, rfl, rfl, fun _ => rfl⟩, ⟨match Try.t13.desc with | .struct f => f | _ => #[], by kernel_rfl, rfl, FsOK.cons Try.t9 i9 rfl (FsOK.cons Try.t12 i12 rfl FsOK.nil)⟩, nofun⟩
theorem ty15 : TyOK prog 15 ⟨.other, 1, 8, [Value.pointer none], false⟩ := ⟨⟨Try.t15, _, i15, rfl, rfl, rfl, rfl, nofun⟩, ⟨Try.t15.desc, by kernel_rfl, fun _ => nofun, fun _ _ => nofun⟩, nofun⟩
theorem ty16 : TyOK prog 16 ⟨.other, 1, 8, [Value.pointer none], false⟩ := ⟨⟨Try.t16, _, i16, rfl, rfl, rfl, rfl, nofun⟩, ⟨Try.t16.desc, by kernel_rfl, fun _ => nofun, fun _ _ => nofun⟩, nofun⟩
theorem ty17 : TyOK prog 17 ⟨.other, 1, 8, [Value.pointer none], false⟩ := ⟨⟨Try.t17, _, i17, rfl, rfl, rfl, rfl, nofun⟩, ⟨Try.t17.desc, by kernel_rfl, fun _ => nofun, fun _ _ => nofun⟩, nofun⟩
theorem ty18 : TyOK prog 18 ⟨.struct [(0, 1, 17)], 1, 8, [Value.pointer none], false⟩ := ⟨⟨Try.t18, _, i18, rfl, rfl, rfl, rfl, fun _ => rfl⟩, ⟨match Try.t18.desc with | .struct f => f | _ => #[], by kernel_rfl, rfl, FsOK.cons Try.t17 i17 rfl FsOK.nil⟩, nofun⟩
theorem ty19 : TyOK prog 19 ⟨.struct [(0, 1, 17)], 1, 8, [Value.pointer none], false⟩ := ⟨⟨Try.t19, _, i19, rfl, rfl, rfl, rfl, fun _ => rfl⟩, ⟨match Try.t18.desc with | .struct f => f | _ => #[], by kernel_rfl, rfl, FsOK.cons Try.t17 i17 rfl FsOK.nil⟩, nofun⟩
theorem ty20 : TyOK prog 20 ⟨.other, 1, 16, [Value.nilIface], false⟩ := ⟨⟨Try.t20, _, i20, rfl, rfl, rfl, rfl, nofun⟩, ⟨Try.t20.desc, by kernel_rfl, fun _ => nofun, fun _ _ => nofun⟩, nofun⟩
theorem ty21 : TyOK prog 21 ⟨.int .i32, 1, 4, [Value.int IntKind.i32 0], false⟩ := ⟨⟨Try.t21, _, i21, rfl, rfl, rfl, rfl, nofun⟩, (show prog.underlying 21 = some (.int .i32) from by kernel_rfl), nofun⟩
theorem ty22 : TyOK prog 22 ⟨.slice 54, 1, 24, [Value.slice none 0 0], false⟩ := ⟨⟨Try.t22, _, i22, rfl, rfl, rfl, rfl, nofun⟩, (show prog.underlying 22 = some (.slice 54) from by kernel_rfl), nofun⟩
theorem ty23 : TyOK prog 23 ⟨.int .i64, 1, 8, [Value.int IntKind.i64 0], false⟩ := ⟨⟨Try.t23, _, i23, rfl, rfl, rfl, rfl, nofun⟩, (show prog.underlying 23 = some (.int .i64) from by kernel_rfl), nofun⟩
theorem ty25 : TyOK prog 25 ⟨.other, 1, 8, [Value.nilFunc], false⟩ := ⟨⟨Try.t25, _, i25, rfl, rfl, rfl, rfl, nofun⟩, ⟨Try.t25.desc, by kernel_rfl, fun _ => nofun, fun _ _ => nofun⟩, nofun⟩
theorem ty26 : TyOK prog 26 ⟨.slice 92, 1, 24, [Value.slice none 0 0], false⟩ := ⟨⟨Try.t26, _, i26, rfl, rfl, rfl, rfl, nofun⟩, (show prog.underlying 26 = some (.slice 92) from by kernel_rfl), nofun⟩
theorem ty28 : TyOK prog 28 ⟨.other, 1, 8, [Value.nilFunc], false⟩ := ⟨⟨Try.t28, _, i28, rfl, rfl, rfl, rfl, nofun⟩, ⟨Try.t28.desc, by kernel_rfl, fun _ => nofun, fun _ _ => nofun⟩, nofun⟩
theorem ty29 : TyOK prog 29 ⟨.other, 1, 8, [Value.nilFunc], false⟩ := ⟨⟨Try.t29, _, i29, rfl, rfl, rfl, rfl, nofun⟩, ⟨Try.t29.desc, by kernel_rfl, fun _ => nofun, fun _ _ => nofun⟩, nofun⟩
theorem ty30 : TyOK prog 30 ⟨.other, 1, 8, [Value.nilFunc], false⟩ := ⟨⟨Try.t30, _, i30, rfl, rfl, rfl, rfl, nofun⟩, ⟨Try.t30.desc, by kernel_rfl, fun _ => nofun, fun _ _ => nofun⟩, nofun⟩
theorem ty31 : TyOK prog 31 ⟨.other, 1, 8, [Value.nilFunc], false⟩ := ⟨⟨Try.t31, _, i31, rfl, rfl, rfl, rfl, nofun⟩, ⟨Try.t31.desc, by kernel_rfl, fun _ => nofun, fun _ _ => nofun⟩, nofun⟩
theorem ty32 : TyOK prog 32 ⟨.other, 1, 8, [Value.nilFunc], false⟩ := ⟨⟨Try.t32, _, i32, rfl, rfl, rfl, rfl, nofun⟩, ⟨Try.t32.desc, by kernel_rfl, fun _ => nofun, fun _ _ => nofun⟩, nofun⟩
theorem ty33 : TyOK prog 33 ⟨.other, 1, 8, [Value.nilFunc], false⟩ := ⟨⟨Try.t33, _, i33, rfl, rfl, rfl, rfl, nofun⟩, ⟨Try.t33.desc, by kernel_rfl, fun _ => nofun, fun _ _ => nofun⟩, nofun⟩
theorem ty34 : TyOK prog 34 ⟨.other, 1, 8, [Value.nilFunc], false⟩ := ⟨⟨Try.t34, _, i34, rfl, rfl, rfl, rfl, nofun⟩, ⟨Try.t34.desc, by kernel_rfl, fun _ => nofun, fun _ _ => nofun⟩, nofun⟩
theorem ty35 : TyOK prog 35 ⟨.other, 1, 8, [Value.nilFunc], false⟩ := ⟨⟨Try.t35, _, i35, rfl, rfl, rfl, rfl, nofun⟩, ⟨Try.t35.desc, by kernel_rfl, fun _ => nofun, fun _ _ => nofun⟩, nofun⟩
theorem ty36 : TyOK prog 36 ⟨.slice 9, 1, 24, [Value.slice none 0 0], false⟩ := ⟨⟨Try.t36, _, i36, rfl, rfl, rfl, rfl, nofun⟩, (show prog.underlying 36 = some (.slice 9) from by kernel_rfl), nofun⟩
theorem ty38 : TyOK prog 38 ⟨.other, 1, 8, [Value.nilFunc], false⟩ := ⟨⟨Try.t38, _, i38, rfl, rfl, rfl, rfl, nofun⟩, ⟨Try.t38.desc, by kernel_rfl, fun _ => nofun, fun _ _ => nofun⟩, nofun⟩
theorem ty40 : TyOK prog 40 ⟨.other, 1, 8, [Value.nilFunc], false⟩ := ⟨⟨Try.t40, _, i40, rfl, rfl, rfl, rfl, nofun⟩, ⟨Try.t40.desc, by kernel_rfl, fun _ => nofun, fun _ _ => nofun⟩, nofun⟩
theorem ty41 : TyOK prog 41 ⟨.other, 1, 8, [Value.nilFunc], false⟩ := ⟨⟨Try.t41, _, i41, rfl, rfl, rfl, rfl, nofun⟩, ⟨Try.t41.desc, by kernel_rfl, fun _ => nofun, fun _ _ => nofun⟩, nofun⟩
theorem ty42 : TyOK prog 42 ⟨.other, 1, 8, [Value.nilFunc], false⟩ := ⟨⟨Try.t42, _, i42, rfl, rfl, rfl, rfl, nofun⟩, ⟨Try.t42.desc, by kernel_rfl, fun _ => nofun, fun _ _ => nofun⟩, nofun⟩
theorem ty43 : TyOK prog 43 ⟨.other, 1, 8, [Value.nilFunc], false⟩ := ⟨⟨Try.t43, _, i43, rfl, rfl, rfl, rfl, nofun⟩, ⟨Try.t43.desc, by kernel_rfl, fun _ => nofun, fun _ _ => nofun⟩, nofun⟩
theorem ty44 : TyOK prog 44 ⟨.other, 1, 8, [Value.nilFunc], false⟩ := ⟨⟨Try.t44, _, i44, rfl, rfl, rfl, rfl, nofun⟩, ⟨Try.t44.desc, by kernel_rfl, fun _ => nofun, fun _ _ => nofun⟩, nofun⟩
theorem ty46 : TyOK prog 46 ⟨.other, 1, 8, [Value.nilFunc], false⟩ := ⟨⟨Try.t46, _, i46, rfl, rfl, rfl, rfl, nofun⟩, ⟨Try.t46.desc, by kernel_rfl, fun _ => nofun, fun _ _ => nofun⟩, nofun⟩
theorem ty48 : TyOK prog 48 ⟨.other, 1, 8, [Value.nilFunc], false⟩ := ⟨⟨Try.t48, _, i48, rfl, rfl, rfl, rfl, nofun⟩, ⟨Try.t48.desc, by kernel_rfl, fun _ => nofun, fun _ _ => nofun⟩, nofun⟩
theorem ty49 : TyOK prog 49 ⟨.other, 1, 8, [Value.nilFunc], false⟩ := ⟨⟨Try.t49, _, i49, rfl, rfl, rfl, rfl, nofun⟩, ⟨Try.t49.desc, by kernel_rfl, fun _ => nofun, fun _ _ => nofun⟩, nofun⟩
theorem ty50 : TyOK prog 50 ⟨.slice 3, 1, 24, [Value.slice none 0 0], false⟩ := ⟨⟨Try.t50, _, i50, rfl, rfl, rfl, rfl, nofun⟩, (show prog.underlying 50 = some (.slice 3) from by kernel_rfl), nofun⟩
theorem ty51 : TyOK prog 51 ⟨.other, 1, 8, [Value.nilFunc], false⟩ := ⟨⟨Try.t51, _, i51, rfl, rfl, rfl, rfl, nofun⟩, ⟨Try.t51.desc, by kernel_rfl, fun _ => nofun, fun _ _ => nofun⟩, nofun⟩
theorem ty52 : TyOK prog 52 ⟨.other, 1, 8, [Value.nilFunc], false⟩ := ⟨⟨Try.t52, _, i52, rfl, rfl, rfl, rfl, nofun⟩, ⟨Try.t52.desc, by kernel_rfl, fun _ => nofun, fun _ _ => nofun⟩, nofun⟩
theorem ty53 : TyOK prog 53 ⟨.struct [(0, 1, 3), (1, 1, 3)], 2, 16, [Value.int IntKind.i64 0, Value.int IntKind.i64 0], true⟩ := ⟨⟨Try.t53, _, i53, rfl, rfl, rfl, rfl, fun _ => rfl⟩, ⟨match Try.t53.desc with | .struct f => f | _ => #[], by kernel_rfl, rfl, FsOK.cons Try.t3 i3 rfl (FsOK.cons Try.t3 i3 rfl FsOK.nil)⟩, fun _ => ⟨by kernel_rfl, by kernel_rfl, by kernel_rfl⟩⟩
theorem ty54 : TyOK prog 54 ⟨.struct [(0, 1, 3), (1, 1, 3)], 2, 16, [Value.int IntKind.i64 0, Value.int IntKind.i64 0], true⟩ := ⟨⟨Try.t54, _, i54, rfl, rfl, rfl, rfl, fun _ => rfl⟩, ⟨match Try.t53.desc with | .struct f => f | _ => #[], by kernel_rfl, rfl, FsOK.cons Try.t3 i3 rfl (FsOK.cons Try.t3 i3 rfl FsOK.nil)⟩, fun _ => ⟨by kernel_rfl, by kernel_rfl, by kernel_rfl⟩⟩
theorem ty55 : TyOK prog 55 ⟨.other, 1, 8, [Value.nilFunc], false⟩ := ⟨⟨Try.t55, _, i55, rfl, rfl, rfl, rfl, nofun⟩, ⟨Try.t55.desc, by kernel_rfl, fun _ => nofun, fun _ _ => nofun⟩, nofun⟩
theorem ty56 : TyOK prog 56 ⟨.other, 1, 8, [Value.nilFunc], false⟩ := ⟨⟨Try.t56, _, i56, rfl, rfl, rfl, rfl, nofun⟩, ⟨Try.t56.desc, by kernel_rfl, fun _ => nofun, fun _ _ => nofun⟩, nofun⟩
theorem ty57 : TyOK prog 57 ⟨.other, 1, 8, [Value.nilFunc], false⟩ := ⟨⟨Try.t57, _, i57, rfl, rfl, rfl, rfl, nofun⟩, ⟨Try.t57.desc, by kernel_rfl, fun _ => nofun, fun _ _ => nofun⟩, nofun⟩
theorem ty59 : TyOK prog 59 ⟨.other, 1, 8, [Value.nilFunc], false⟩ := ⟨⟨Try.t59, _, i59, rfl, rfl, rfl, rfl, nofun⟩, ⟨Try.t59.desc, by kernel_rfl, fun _ => nofun, fun _ _ => nofun⟩, nofun⟩
theorem ty60 : TyOK prog 60 ⟨.other, 1, 8, [Value.nilFunc], false⟩ := ⟨⟨Try.t60, _, i60, rfl, rfl, rfl, rfl, nofun⟩, ⟨Try.t60.desc, by kernel_rfl, fun _ => nofun, fun _ _ => nofun⟩, nofun⟩
theorem ty61 : TyOK prog 61 ⟨.slice 68, 1, 24, [Value.slice none 0 0], false⟩ := ⟨⟨Try.t61, _, i61, rfl, rfl, rfl, rfl, nofun⟩, (show prog.underlying 61 = some (.slice 68) from by kernel_rfl), nofun⟩
theorem ty62 : TyOK prog 62 ⟨.struct [(0, 1, 9), (1, 1, 61)], 2, 40, [Value.string { data := #[] }, Value.slice none 0 0], false⟩ := ⟨⟨Try.t62, _, i62, rfl, rfl, rfl, rfl, fun _ => rfl⟩, ⟨match Try.t62.desc with | .struct f => f | _ => #[], by kernel_rfl, rfl, FsOK.cons Try.t9 i9 rfl (FsOK.cons Try.t61 i61 rfl FsOK.nil)⟩, nofun⟩
theorem ty63 : TyOK prog 63 ⟨.struct [(0, 1, 9), (1, 1, 61)], 2, 40, [Value.string { data := #[] }, Value.slice none 0 0], false⟩ := ⟨⟨Try.t63, _, i63, rfl, rfl, rfl, rfl, fun _ => rfl⟩, ⟨match Try.t62.desc with | .struct f => f | _ => #[], by kernel_rfl, rfl, FsOK.cons Try.t9 i9 rfl (FsOK.cons Try.t61 i61 rfl FsOK.nil)⟩, nofun⟩
theorem ty64 : TyOK prog 64 ⟨.other, 1, 8, [Value.nilFunc], false⟩ := ⟨⟨Try.t64, _, i64, rfl, rfl, rfl, rfl, nofun⟩, ⟨Try.t64.desc, by kernel_rfl, fun _ => nofun, fun _ _ => nofun⟩, nofun⟩
theorem ty66 : TyOK prog 66 ⟨.other, 1, 8, [Value.nilFunc], false⟩ := ⟨⟨Try.t66, _, i66, rfl, rfl, rfl, rfl, nofun⟩, ⟨Try.t66.desc, by kernel_rfl, fun _ => nofun, fun _ _ => nofun⟩, nofun⟩
theorem ty67 : TyOK prog 67 ⟨.struct [(0, 1, 3), (1, 1, 3), (2, 1, 3), (3, 1, 3)], 4, 32, [Value.int IntKind.i64 0, Value.int IntKind.i64 0, Value.int IntKind.i64 0, Value.int IntKind.i64 0], true⟩ := ⟨⟨Try.t67, _, i67, rfl, rfl, rfl, rfl, fun _ => rfl⟩, ⟨match Try.t67.desc with | .struct f => f | _ => #[], by kernel_rfl, rfl, FsOK.cons Try.t3 i3 rfl (FsOK.cons Try.t3 i3 rfl (FsOK.cons Try.t3 i3 rfl (FsOK.cons Try.t3 i3 rfl FsOK.nil)))⟩, fun _ => ⟨by kernel_rfl, by kernel_rfl, by kernel_rfl⟩⟩
theorem ty68 : TyOK prog 68 ⟨.struct [(0, 1, 3), (1, 1, 3), (2, 1, 3), (3, 1, 3)], 4, 32, [Value.int IntKind.i64 0, Value.int IntKind.i64 0, Value.int IntKind.i64 0, Value.int IntKind.i64 0], true⟩ := ⟨⟨Try.t68, _, i68, rfl, rfl, rfl, rfl, fun _ => rfl⟩, ⟨match Try.t67.desc with | .struct f => f | _ => #[], by kernel_rfl, rfl, FsOK.cons Try.t3 i3 rfl (FsOK.cons Try.t3 i3 rfl (FsOK.cons Try.t3 i3 rfl (FsOK.cons Try.t3 i3 rfl FsOK.nil)))⟩, fun _ => ⟨by kernel_rfl, by kernel_rfl, by kernel_rfl⟩⟩
theorem ty69 : TyOK prog 69 ⟨.other, 1, 8, [Value.nilFunc], false⟩ := ⟨⟨Try.t69, _, i69, rfl, rfl, rfl, rfl, nofun⟩, ⟨Try.t69.desc, by kernel_rfl, fun _ => nofun, fun _ _ => nofun⟩, nofun⟩
theorem ty70 : TyOK prog 70 ⟨.other, 1, 8, [Value.nilFunc], false⟩ := ⟨⟨Try.t70, _, i70, rfl, rfl, rfl, rfl, nofun⟩, ⟨Try.t70.desc, by kernel_rfl, fun _ => nofun, fun _ _ => nofun⟩, nofun⟩
theorem ty71 : TyOK prog 71 ⟨.other, 1, 8, [Value.nilFunc], false⟩ := ⟨⟨Try.t71, _, i71, rfl, rfl, rfl, rfl, nofun⟩, ⟨Try.t71.desc, by kernel_rfl, fun _ => nofun, fun _ _ => nofun⟩, nofun⟩
theorem ty72 : TyOK prog 72 ⟨.slice 80, 1, 24, [Value.slice none 0 0], false⟩ := ⟨⟨Try.t72, _, i72, rfl, rfl, rfl, rfl, nofun⟩, (show prog.underlying 72 = some (.slice 80) from by kernel_rfl), nofun⟩
theorem ty73 : TyOK prog 73 ⟨.other, 1, 8, [Value.nilFunc], false⟩ := ⟨⟨Try.t73, _, i73, rfl, rfl, rfl, rfl, nofun⟩, ⟨Try.t73.desc, by kernel_rfl, fun _ => nofun, fun _ _ => nofun⟩, nofun⟩
theorem ty75 : TyOK prog 75 ⟨.other, 1, 8, [Value.nilFunc], false⟩ := ⟨⟨Try.t75, _, i75, rfl, rfl, rfl, rfl, nofun⟩, ⟨Try.t75.desc, by kernel_rfl, fun _ => nofun, fun _ _ => nofun⟩, nofun⟩
theorem ty76 : TyOK prog 76 ⟨.slice 83, 1, 24, [Value.slice none 0 0], false⟩ := ⟨⟨Try.t76, _, i76, rfl, rfl, rfl, rfl, nofun⟩, (show prog.underlying 76 = some (.slice 83) from by kernel_rfl), nofun⟩
theorem ty77 : TyOK prog 77 ⟨.struct [(0, 1, 3), (1, 1, 3), (2, 1, 3), (3, 1, 3), (4, 1, 3)], 5, 40, [Value.int IntKind.i64 0, Value.int IntKind.i64 0, Value.int IntKind.i64 0, Value.int IntKind.i64 0, Value.int IntKind.i64 0], true⟩ := ⟨⟨Try.t77, _, i77, rfl, rfl, rfl, rfl, fun _ => rfl⟩, ⟨match Try.t77.desc with | .struct f => f | _ => #[], by kernel_rfl, rfl, FsOK.cons Try.t3 i3 rfl (FsOK.cons Try.t3 i3 rfl (FsOK.cons Try.t3 i3 rfl (FsOK.cons Try.t3 i3 rfl (FsOK.cons Try.t3 i3 rfl FsOK.nil))))⟩, fun _ => ⟨by kernel_rfl, by kernel_rfl, by kernel_rfl⟩⟩
theorem ty78 : TyOK prog 78 ⟨.struct [(0, 1, 3), (1, 1, 3), (2, 1, 3), (3, 1, 3), (4, 1, 3)], 5, 40, [Value.int IntKind.i64 0, Value.int IntKind.i64 0, Value.int IntKind.i64 0, Value.int IntKind.i64 0, Value.int IntKind.i64 0], true⟩ := ⟨⟨Try.t78, _, i78, rfl, rfl, rfl, rfl, fun _ => rfl⟩, ⟨match Try.t77.desc with | .struct f => f | _ => #[], by kernel_rfl, rfl, FsOK.cons Try.t3 i3 rfl (FsOK.cons Try.t3 i3 rfl (FsOK.cons Try.t3 i3 rfl (FsOK.cons Try.t3 i3 rfl (FsOK.cons Try.t3 i3 rfl FsOK.nil))))⟩, fun _ => ⟨by kernel_rfl, by kernel_rfl, by kernel_rfl⟩⟩
theorem ty79 : TyOK prog 79 ⟨.struct [(0, 5, 78), (5, 1, 21), (6, 1, 4), (7, 1, 4), (8, 1, 4), (9, 1, 4), (10, 1, 4), (11, 1, 4)], 12, 56, [Value.int IntKind.i64 0, Value.int IntKind.i64 0, Value.int IntKind.i64 0, Value.int IntKind.i64 0, Value.int IntKind.i64 0, Value.int IntKind.i32 0, Value.bool false, Value.bool false, Value.bool false, Value.bool false, Value.bool false, Value.bool false], true⟩ := ⟨⟨Try.t79, _, i79, rfl, rfl, rfl, rfl, fun _ => rfl⟩, ⟨match Try.t79.desc with | .struct f => f | _ => #[], by kernel_rfl, rfl, FsOK.cons Try.t78 i78 rfl (FsOK.cons Try.t21 i21 rfl (FsOK.cons Try.t4 i4 rfl (FsOK.cons Try.t4 i4 rfl (FsOK.cons Try.t4 i4 rfl (FsOK.cons Try.t4 i4 rfl (FsOK.cons Try.t4 i4 rfl (FsOK.cons Try.t4 i4 rfl FsOK.nil)))))))⟩, fun _ => ⟨by kernel_rfl, by kernel_rfl, by kernel_rfl⟩⟩
theorem ty80 : TyOK prog 80 ⟨.struct [(0, 5, 78), (5, 1, 21), (6, 1, 4), (7, 1, 4), (8, 1, 4), (9, 1, 4), (10, 1, 4), (11, 1, 4)], 12, 56, [Value.int IntKind.i64 0, Value.int IntKind.i64 0, Value.int IntKind.i64 0, Value.int IntKind.i64 0, Value.int IntKind.i64 0, Value.int IntKind.i32 0, Value.bool false, Value.bool false, Value.bool false, Value.bool false, Value.bool false, Value.bool false], true⟩ := ⟨⟨Try.t80, _, i80, rfl, rfl, rfl, rfl, fun _ => rfl⟩, ⟨match Try.t79.desc with | .struct f => f | _ => #[], by kernel_rfl, rfl, FsOK.cons Try.t78 i78 rfl (FsOK.cons Try.t21 i21 rfl (FsOK.cons Try.t4 i4 rfl (FsOK.cons Try.t4 i4 rfl (FsOK.cons Try.t4 i4 rfl (FsOK.cons Try.t4 i4 rfl (FsOK.cons Try.t4 i4 rfl (FsOK.cons Try.t4 i4 rfl FsOK.nil)))))))⟩, fun _ => ⟨by kernel_rfl, by kernel_rfl, by kernel_rfl⟩⟩
theorem ty81 : TyOK prog 81 ⟨.other, 1, 8, [Value.nilFunc], false⟩ := ⟨⟨Try.t81, _, i81, rfl, rfl, rfl, rfl, nofun⟩, ⟨Try.t81.desc, by kernel_rfl, fun _ => nofun, fun _ _ => nofun⟩, nofun⟩
theorem ty82 : TyOK prog 82 ⟨.struct [(0, 1, 2), (1, 1, 3), (2, 1, 3), (3, 1, 4)], 4, 32, [Value.int IntKind.i64 0, Value.int IntKind.i64 0, Value.int IntKind.i64 0, Value.bool false], true⟩ := ⟨⟨Try.t82, _, i82, rfl, rfl, rfl, rfl, fun _ => rfl⟩, ⟨match Try.t82.desc with | .struct f => f | _ => #[], by kernel_rfl, rfl, FsOK.cons Try.t2 i2 rfl (FsOK.cons Try.t3 i3 rfl (FsOK.cons Try.t3 i3 rfl (FsOK.cons Try.t4 i4 rfl FsOK.nil)))⟩, fun _ => ⟨by kernel_rfl, by kernel_rfl, by kernel_rfl⟩⟩
theorem ty83 : TyOK prog 83 ⟨.struct [(0, 1, 2), (1, 1, 3), (2, 1, 3), (3, 1, 4)], 4, 32, [Value.int IntKind.i64 0, Value.int IntKind.i64 0, Value.int IntKind.i64 0, Value.bool false], true⟩ := ⟨⟨Try.t83, _, i83, rfl, rfl, rfl, rfl, fun _ => rfl⟩, ⟨match Try.t82.desc with | .struct f => f | _ => #[], by kernel_rfl, rfl, FsOK.cons Try.t2 i2 rfl (FsOK.cons Try.t3 i3 rfl (FsOK.cons Try.t3 i3 rfl (FsOK.cons Try.t4 i4 rfl FsOK.nil)))⟩, fun _ => ⟨by kernel_rfl, by kernel_rfl, by kernel_rfl⟩⟩
theorem ty84 : TyOK prog 84 ⟨.other, 1, 8, [Value.nilFunc], false⟩ := ⟨⟨Try.t84, _, i84, rfl, rfl, rfl, rfl, nofun⟩, ⟨Try.t84.desc, by kernel_rfl, fun _ => nofun, fun _ _ => nofun⟩, nofun⟩
theorem ty85 : TyOK prog 85 ⟨.other, 1, 8, [Value.nilFunc], false⟩ := ⟨⟨Try.t85, _, i85, rfl, rfl, rfl, rfl, nofun⟩, ⟨Try.t85.desc, by kernel_rfl, fun _ => nofun, fun _ _ => nofun⟩, nofun⟩
theorem ty86 : TyOK prog 86 ⟨.slice 103, 1, 24, [Value.slice none 0 0], false⟩ := ⟨⟨Try.t86, _, i86, rfl, rfl, rfl, rfl, nofun⟩, (show prog.underlying 86 = some (.slice 103) from by kernel_rfl), nofun⟩
theorem ty87 : TyOK prog 87 ⟨.other, 1, 8, [Value.nilFunc], false⟩ := ⟨⟨Try.t87, _, i87, rfl, rfl, rfl, rfl, nofun⟩, ⟨Try.t87.desc, by kernel_rfl, fun _ => nofun, fun _ _ => nofun⟩, nofun⟩
theorem ty88 : TyOK prog 88 ⟨.other, 1, 8, [Value.nilFunc], false⟩ := ⟨⟨Try.t88, _, i88, rfl, rfl, rfl, rfl, nofun⟩, ⟨Try.t88.desc, by kernel_rfl, fun _ => nofun, fun _ _ => nofun⟩, nofun⟩
theorem ty90 : TyOK prog 90 ⟨.other, 1, 8, [Value.nilFunc], false⟩ := ⟨⟨Try.t90, _, i90, rfl, rfl, rfl, rfl, nofun⟩, ⟨Try.t90.desc, by kernel_rfl, fun _ => nofun, fun _ _ => nofun⟩, nofun⟩
theorem ty91 : TyOK prog 91 ⟨.other, 1, 8, [Value.nilFunc], false⟩ := ⟨⟨Try.t91, _, i91, rfl, rfl, rfl, rfl, nofun⟩, ⟨Try.t91.desc, by kernel_rfl, fun _ => nofun, fun _ _ => nofun⟩, nofun⟩
theorem ty92 : TyOK prog 92 ⟨.struct [(0, 1, 3), (1, 1, 3)], 2, 16, [Value.int IntKind.i64 0, Value.int IntKind.i64 0], true⟩ := ⟨⟨Try.t92, _, i92, rfl, rfl, rfl, rfl, fun _ => rfl⟩, ⟨match Try.t53.desc with | .struct f => f | _ => #[], by kernel_rfl, rfl, FsOK.cons Try.t3 i3 rfl (FsOK.cons Try.t3 i3 rfl FsOK.nil)⟩, fun _ => ⟨by kernel_rfl, by kernel_rfl, by kernel_rfl⟩⟩
theorem ty93 : TyOK prog 93 ⟨.slice 72, 1, 24, [Value.slice none 0 0], false⟩ := ⟨⟨Try.t93, _, i93, rfl, rfl, rfl, rfl, nofun⟩, (show prog.underlying 93 = some (.slice 72) from by kernel_rfl), nofun⟩
theorem ty95 : TyOK prog 95 ⟨.other, 1, 8, [Value.nilFunc], false⟩ := ⟨⟨Try.t95, _, i95, rfl, rfl, rfl, rfl, nofun⟩, ⟨Try.t95.desc, by kernel_rfl, fun _ => nofun, fun _ _ => nofun⟩, nofun⟩
theorem ty96 : TyOK prog 96 ⟨.other, 1, 8, [Value.nilFunc], false⟩ := ⟨⟨Try.t96, _, i96, rfl, rfl, rfl, rfl, nofun⟩, ⟨Try.t96.desc, by kernel_rfl, fun _ => nofun, fun _ _ => nofun⟩, nofun⟩
theorem ty98 : TyOK prog 98 ⟨.other, 1, 8, [Value.nilFunc], false⟩ := ⟨⟨Try.t98, _, i98, rfl, rfl, rfl, rfl, nofun⟩, ⟨Try.t98.desc, by kernel_rfl, fun _ => nofun, fun _ _ => nofun⟩, nofun⟩
theorem ty99 : TyOK prog 99 ⟨.other, 1, 8, [Value.nilFunc], false⟩ := ⟨⟨Try.t99, _, i99, rfl, rfl, rfl, rfl, nofun⟩, ⟨Try.t99.desc, by kernel_rfl, fun _ => nofun, fun _ _ => nofun⟩, nofun⟩
theorem ty101 : TyOK prog 101 ⟨.other, 1, 8, [Value.nilFunc], false⟩ := ⟨⟨Try.t101, _, i101, rfl, rfl, rfl, rfl, nofun⟩, ⟨Try.t101.desc, by kernel_rfl, fun _ => nofun, fun _ _ => nofun⟩, nofun⟩
theorem ty102 : TyOK prog 102 ⟨.struct [(0, 1, 3), (1, 1, 3), (2, 1, 3), (3, 1, 3)], 4, 32, [Value.int IntKind.i64 0, Value.int IntKind.i64 0, Value.int IntKind.i64 0, Value.int IntKind.i64 0], true⟩ := ⟨⟨Try.t102, _, i102, rfl, rfl, rfl, rfl, fun _ => rfl⟩, ⟨match Try.t102.desc with | .struct f => f | _ => #[], by kernel_rfl, rfl, FsOK.cons Try.t3 i3 rfl (FsOK.cons Try.t3 i3 rfl (FsOK.cons Try.t3 i3 rfl (FsOK.cons Try.t3 i3 rfl FsOK.nil)))⟩, fun _ => ⟨by kernel_rfl, by kernel_rfl, by kernel_rfl⟩⟩
theorem ty103 : TyOK prog 103 ⟨.struct [(0, 1, 3), (1, 1, 3), (2, 1, 3), (3, 1, 3)], 4, 32, [Value.int IntKind.i64 0, Value.int IntKind.i64 0, Value.int IntKind.i64 0, Value.int IntKind.i64 0], true⟩ := ⟨⟨Try.t103, _, i103, rfl, rfl, rfl, rfl, fun _ => rfl⟩, ⟨match Try.t102.desc with | .struct f => f | _ => #[], by kernel_rfl, rfl, FsOK.cons Try.t3 i3 rfl (FsOK.cons Try.t3 i3 rfl (FsOK.cons Try.t3 i3 rfl (FsOK.cons Try.t3 i3 rfl FsOK.nil)))⟩, fun _ => ⟨by kernel_rfl, by kernel_rfl, by kernel_rfl⟩⟩
theorem ty104 : TyOK prog 104 ⟨.other, 1, 8, [Value.nilFunc], false⟩ := ⟨⟨Try.t104, _, i104, rfl, rfl, rfl, rfl, nofun⟩, ⟨Try.t104.desc, by kernel_rfl, fun _ => nofun, fun _ _ => nofun⟩, nofun⟩
theorem ty105 : TyOK prog 105 ⟨.other, 1, 8, [Value.nilFunc], false⟩ := ⟨⟨Try.t105, _, i105, rfl, rfl, rfl, rfl, nofun⟩, ⟨Try.t105.desc, by kernel_rfl, fun _ => nofun, fun _ _ => nofun⟩, nofun⟩
theorem ty107 : TyOK prog 107 ⟨.other, 1, 8, [Value.nilFunc], false⟩ := ⟨⟨Try.t107, _, i107, rfl, rfl, rfl, rfl, nofun⟩, ⟨Try.t107.desc, by kernel_rfl, fun _ => nofun, fun _ _ => nofun⟩, nofun⟩
theorem ty108 : TyOK prog 108 ⟨.slice 78, 1, 24, [Value.slice none 0 0], false⟩ := ⟨⟨Try.t108, _, i108, rfl, rfl, rfl, rfl, nofun⟩, (show prog.underlying 108 = some (.slice 78) from by kernel_rfl), nofun⟩
theorem ty109 : TyOK prog 109 ⟨.other, 1, 8, [Value.nilFunc], false⟩ := ⟨⟨Try.t109, _, i109, rfl, rfl, rfl, rfl, nofun⟩, ⟨Try.t109.desc, by kernel_rfl, fun _ => nofun, fun _ _ => nofun⟩, nofun⟩
theorem ty110 : TyOK prog 110 ⟨.other, 1, 8, [Value.nilFunc], false⟩ := ⟨⟨Try.t110, _, i110, rfl, rfl, rfl, rfl, nofun⟩, ⟨Try.t109.desc, by kernel_rfl, fun _ => nofun, fun _ _ => nofun⟩, nofun⟩
theorem ty111 : TyOK prog 111 ⟨.other, 1, 8, [Value.nilFunc], false⟩ := ⟨⟨Try.t111, _, i111, rfl, rfl, rfl, rfl, nofun⟩, ⟨Try.t111.desc, by kernel_rfl, fun _ => nofun, fun _ _ => nofun⟩, nofun⟩
theorem ty112 : TyOK prog 112 ⟨.slice 21, 1, 24, [Value.slice none 0 0], false⟩ := ⟨⟨Try.t112, _, i112, rfl, rfl, rfl, rfl, nofun⟩, (show prog.underlying 112 = some (.slice 21) from by kernel_rfl), nofun⟩
theorem ty113 : TyOK prog 113 ⟨.other, 1, 8, [Value.nilFunc], false⟩ := ⟨⟨Try.t113, _, i113, rfl, rfl, rfl, rfl, nofun⟩, ⟨Try.t113.desc, by kernel_rfl, fun _ => nofun, fun _ _ => nofun⟩, nofun⟩
theorem ty114 : TyOK prog 114 ⟨.other, 1, 8, [Value.nilFunc], false⟩ := ⟨⟨Try.t114, _, i114, rfl, rfl, rfl, rfl, nofun⟩, ⟨Try.t114.desc, by kernel_rfl, fun _ => nofun, fun _ _ => nofun⟩, nofun⟩
theorem ty115 : TyOK prog 115 ⟨.other, 1, 8, [Value.nilFunc], false⟩ := ⟨⟨Try.t115, _, i115, rfl, rfl, rfl, rfl, nofun⟩, ⟨Try.t115.desc, by kernel_rfl, fun _ => nofun, fun _ _ => nofun⟩, nofun⟩
theorem ty116 : TyOK prog 116 ⟨.other, 1, 8, [Value.nilFunc], false⟩ := ⟨⟨Try.t116, _, i116, rfl, rfl, rfl, rfl, nofun⟩, ⟨Try.t116.desc, by kernel_rfl, fun _ => nofun, fun _ _ => nofun⟩, nofun⟩
theorem ty117 : TyOK prog 117 ⟨.other, 1, 8, [Value.nilFunc], false⟩ := ⟨⟨Try.t117, _, i117, rfl, rfl, rfl, rfl, nofun⟩, ⟨Try.t117.desc, by kernel_rfl, fun _ => nofun, fun _ _ => nofun⟩, nofun⟩
theorem ty118 : TyOK prog 118 ⟨.other, 1, 8, [Value.nilFunc], false⟩ := ⟨⟨Try.t118, _, i118, rfl, rfl, rfl, rfl, nofun⟩, ⟨Try.t118.desc, by kernel_rfl, fun _ => nofun, fun _ _ => nofun⟩, nofun⟩
theorem ty119 : TyOK prog 119 ⟨.other, 1, 8, [Value.nilFunc], false⟩ := ⟨⟨Try.t119, _, i119, rfl, rfl, rfl, rfl, nofun⟩, ⟨Try.t119.desc, by kernel_rfl, fun _ => nofun, fun _ _ => nofun⟩, nofun⟩
theorem ty120 : TyOK prog 120 ⟨.other, 1, 8, [Value.nilFunc], false⟩ := ⟨⟨Try.t120, _, i120, rfl, rfl, rfl, rfl, nofun⟩, ⟨Try.t120.desc, by kernel_rfl, fun _ => nofun, fun _ _ => nofun⟩, nofun⟩
theorem ty121 : TyOK prog 121 ⟨.other, 1, 8, [Value.nilFunc], false⟩ := ⟨⟨Try.t121, _, i121, rfl, rfl, rfl, rfl, nofun⟩, ⟨Try.t121.desc, by kernel_rfl, fun _ => nofun, fun _ _ => nofun⟩, nofun⟩
theorem ty122 : TyOK prog 122 ⟨.slice 124, 1, 24, [Value.slice none 0 0], false⟩ := ⟨⟨Try.t122, _, i122, rfl, rfl, rfl, rfl, nofun⟩, (show prog.underlying 122 = some (.slice 124) from by kernel_rfl), nofun⟩
theorem ty123 : TyOK prog 123 ⟨.struct [(0, 1, 4), (1, 1, 4), (2, 1, 4), (3, 1, 4), (4, 1, 3)], 5, 16, [Value.bool false, Value.bool false, Value.bool false, Value.bool false, Value.int IntKind.i64 0], true⟩ := ⟨⟨Try.t123, _, i123, rfl, rfl, rfl, rfl, fun _ => rfl⟩, ⟨match Try.t123.desc with | .struct f => f | _ => #[], by kernel_rfl, rfl, FsOK.cons Try.t4 i4 rfl (FsOK.cons Try.t4 i4 rfl (FsOK.cons Try.t4 i4 rfl (FsOK.cons Try.t4 i4 rfl (FsOK.cons Try.t3 i3 rfl FsOK.nil))))⟩, fun _ => ⟨by kernel_rfl, by kernel_rfl, by kernel_rfl⟩⟩
theorem ty124 : TyOK prog 124 ⟨.struct [(0, 1, 4), (1, 1, 4), (2, 1, 4), (3, 1, 4), (4, 1, 3)], 5, 16, [Value.bool false, Value.bool false, Value.bool false, Value.bool false, Value.int IntKind.i64 0], true⟩ := ⟨⟨Try.t124, _, i124, rfl, rfl, rfl, rfl, fun _ => rfl⟩, ⟨match Try.t123.desc with | .struct f => f | _ => #[], by kernel_rfl, rfl, FsOK.cons Try.t4 i4 rfl (FsOK.cons Try.t4 i4 rfl (FsOK.cons Try.t4 i4 rfl (FsOK.cons Try.t4 i4 rfl (FsOK.cons Try.t3 i3 rfl FsOK.nil))))⟩, fun _ => ⟨by kernel_rfl, by kernel_rfl, by kernel_rfl⟩⟩
theorem ty125 : TyOK prog 125 ⟨.other, 1, 8, [Value.nilFunc], false⟩ := ⟨⟨Try.t125, _, i125, rfl, rfl, rfl, rfl, nofun⟩, ⟨Try.t125.desc, by kernel_rfl, fun _ => nofun, fun _ _ => nofun⟩, nofun⟩
theorem ty126 : TyOK prog 126 ⟨.other, 1, 8, [Value.nilFunc], false⟩ := ⟨⟨Try.t126, _, i126, rfl, rfl, rfl, rfl, nofun⟩, ⟨Try.t126.desc, by kernel_rfl, fun _ => nofun, fun _ _ => nofun⟩, nofun⟩
theorem ty127 : TyOK prog 127 ⟨.other, 1, 8, [Value.nilFunc], false⟩ := ⟨⟨Try.t127, _, i127, rfl, rfl, rfl, rfl, nofun⟩, ⟨Try.t127.desc, by kernel_rfl, fun _ => nofun, fun _ _ => nofun⟩, nofun⟩
theorem ty128 : TyOK prog 128 ⟨.other, 1, 8, [Value.nilFunc], false⟩ := ⟨⟨Try.t128, _, i128, rfl, rfl, rfl, rfl, nofun⟩, ⟨Try.t128.desc, by kernel_rfl, fun _ => nofun, fun _ _ => nofun⟩, nofun⟩
theorem ty129 : TyOK prog 129 ⟨.slice 131, 1, 24, [Value.slice none 0 0], false⟩ := ⟨⟨Try.t129, _, i129, rfl, rfl, rfl, rfl, nofun⟩, (show prog.underlying 129 = some (.slice 131) from by kernel_rfl), nofun⟩
theorem ty130 : TyOK prog 130 ⟨.other, 1, 8, [Value.nilFunc], false⟩ := ⟨⟨Try.t130, _, i130, rfl, rfl, rfl, rfl, nofun⟩, ⟨Try.t130.desc, by kernel_rfl, fun _ => nofun, fun _ _ => nofun⟩, nofun⟩
theorem ty131 : TyOK prog 131 ⟨.struct [(0, 1, 3), (1, 1, 3), (2, 1, 3), (3, 1, 3), (4, 1, 3)], 5, 40, [Value.int IntKind.i64 0, Value.int IntKind.i64 0, Value.int IntKind.i64 0, Value.int IntKind.i64 0, Value.int IntKind.i64 0], true⟩ := ⟨⟨Try.t131, _, i131, rfl, rfl, rfl, rfl, fun _ => rfl⟩, ⟨match Try.t77.desc with | .struct f => f | _ => #[], by kernel_rfl, rfl, FsOK.cons Try.t3 i3 rfl (FsOK.cons Try.t3 i3 rfl (FsOK.cons Try.t3 i3 rfl (FsOK.cons Try.t3 i3 rfl (FsOK.cons Try.t3 i3 rfl FsOK.nil))))⟩, fun _ => ⟨by kernel_rfl, by kernel_rfl, by kernel_rfl⟩⟩
theorem ty132 : TyOK prog 132 ⟨.slice 135, 1, 24, [Value.slice none 0 0], false⟩ := ⟨⟨Try.t132, _, i132, rfl, rfl, rfl, rfl, nofun⟩, (show prog.underlying 132 = some (.slice 135) from by kernel_rfl), nofun⟩
theorem ty133 : TyOK prog 133 ⟨.other, 1, 8, [Value.nilFunc], false⟩ := ⟨⟨Try.t133, _, i133, rfl, rfl, rfl, rfl, nofun⟩, ⟨Try.t133.desc, by kernel_rfl, fun _ => nofun, fun _ _ => nofun⟩, nofun⟩
theorem ty134 : TyOK prog 134 ⟨.struct [(0, 1, 3), (1, 1, 3), (2, 1, 3)], 3, 24, [Value.int IntKind.i64 0, Value.int IntKind.i64 0, Value.int IntKind.i64 0], true⟩ := ⟨⟨Try.t134, _, i134, rfl, rfl, rfl, rfl, fun _ => rfl⟩, ⟨match Try.t134.desc with | .struct f => f | _ => #[], by kernel_rfl, rfl, FsOK.cons Try.t3 i3 rfl (FsOK.cons Try.t3 i3 rfl (FsOK.cons Try.t3 i3 rfl FsOK.nil))⟩, fun _ => ⟨by kernel_rfl, by kernel_rfl, by kernel_rfl⟩⟩
theorem ty135 : TyOK prog 135 ⟨.struct [(0, 1, 3), (1, 1, 3), (2, 1, 3)], 3, 24, [Value.int IntKind.i64 0, Value.int IntKind.i64 0, Value.int IntKind.i64 0], true⟩ := ⟨⟨Try.t135, _, i135, rfl, rfl, rfl, rfl, fun _ => rfl⟩, ⟨match Try.t134.desc with | .struct f => f | _ => #[], by kernel_rfl, rfl, FsOK.cons Try.t3 i3 rfl (FsOK.cons Try.t3 i3 rfl (FsOK.cons Try.t3 i3 rfl FsOK.nil))⟩, fun _ => ⟨by kernel_rfl, by kernel_rfl, by kernel_rfl⟩⟩
theorem ty136 : TyOK prog 136 ⟨.other, 1, 8, [Value.nilFunc], false⟩ := ⟨⟨Try.t136, _, i136, rfl, rfl, rfl, rfl, nofun⟩, ⟨Try.t136.desc, by kernel_rfl, fun _ => nofun, fun _ _ => nofun⟩, nofun⟩
theorem ty137 : TyOK prog 137 ⟨.other, 1, 8, [Value.nilFunc], false⟩ := ⟨⟨Try.t137, _, i137, rfl, rfl, rfl, rfl, nofun⟩, ⟨Try.t137.desc, by kernel_rfl, fun _ => nofun, fun _ _ => nofun⟩, nofun⟩
theorem ty138 : TyOK prog 138 ⟨.array 4 3, 4, 32, [Value.int IntKind.i64 0, Value.int IntKind.i64 0, Value.int IntKind.i64 0, Value.int IntKind.i64 0], false⟩ := ⟨⟨Try.t138, _, i138, rfl, rfl, rfl, rfl, fun _ => rfl⟩, (show prog.underlying 138 = some (.array 4 3) from by kernel_rfl), nofun⟩
theorem ty139 : TyOK prog 139 ⟨.other, 1, 8, [Value.nilFunc], false⟩ := ⟨⟨Try.t139, _, i139, rfl, rfl, rfl, rfl, nofun⟩, ⟨Try.t139.desc, by kernel_rfl, fun _ => nofun, fun _ _ => nofun⟩, nofun⟩
theorem ty140 : TyOK prog 140 ⟨.other, 1, 8, [Value.nilFunc], false⟩ := ⟨⟨Try.t140, _, i140, rfl, rfl, rfl, rfl, nofun⟩, ⟨Try.t139.desc, by kernel_rfl, fun _ => nofun, fun _ _ => nofun⟩, nofun⟩
theorem ty141 : TyOK prog 141 ⟨.other, 1, 8, [Value.nilFunc], false⟩ := ⟨⟨Try.t141, _, i141, rfl, rfl, rfl, rfl, nofun⟩, ⟨Try.t141.desc, by kernel_rfl, fun _ => nofun, fun _ _ => nofun⟩, nofun⟩
theorem ty142 : TyOK prog 142 ⟨.struct [(0, 1, 3), (1, 1, 3), (2, 1, 21), (3, 1, 4)], 4, 24, [Value.int IntKind.i64 0, Value.int IntKind.i64 0, Value.int IntKind.i32 0, Value.bool false], true⟩ := ⟨⟨Try.t142, _, i142, rfl, rfl, rfl, rfl, fun _ => rfl⟩, ⟨match Try.t142.desc with | .struct f => f | _ => #[], by kernel_rfl, rfl, FsOK.cons Try.t3 i3 rfl (FsOK.cons Try.t3 i3 rfl (FsOK.cons Try.t21 i21 rfl (FsOK.cons Try.t4 i4 rfl FsOK.nil)))⟩, fun _ => ⟨by kernel_rfl, by kernel_rfl, by kernel_rfl⟩⟩
theorem ty143 : TyOK prog 143 ⟨.struct [(0, 1, 3), (1, 1, 3), (2, 1, 21), (3, 1, 4)], 4, 24, [Value.int IntKind.i64 0, Value.int IntKind.i64 0, Value.int IntKind.i32 0, Value.bool false], true⟩ := ⟨⟨Try.t143, _, i143, rfl, rfl, rfl, rfl, fun _ => rfl⟩, ⟨match Try.t142.desc with | .struct f => f | _ => #[], by kernel_rfl, rfl, FsOK.cons Try.t3 i3 rfl (FsOK.cons Try.t3 i3 rfl (FsOK.cons Try.t21 i21 rfl (FsOK.cons Try.t4 i4 rfl FsOK.nil)))⟩, fun _ => ⟨by kernel_rfl, by kernel_rfl, by kernel_rfl⟩⟩
theorem ty144 : TyOK prog 144 ⟨.other, 1, 8, [Value.nilFunc], false⟩ := ⟨⟨Try.t144, _, i144, rfl, rfl, rfl, rfl, nofun⟩, ⟨Try.t144.desc, by kernel_rfl, fun _ => nofun, fun _ _ => nofun⟩, nofun⟩
theorem ty145 : TyOK prog 145 ⟨.other, 1, 8, [Value.nilFunc], false⟩ := ⟨⟨Try.t145, _, i145, rfl, rfl, rfl, rfl, nofun⟩, ⟨Try.t145.desc, by kernel_rfl, fun _ => nofun, fun _ _ => nofun⟩, nofun⟩
theorem ty146 : TyOK prog 146 ⟨.struct [(0, 5, 78), (5, 1, 21), (6, 1, 21), (7, 1, 4)], 8, 56, [Value.int IntKind.i64 0, Value.int IntKind.i64 0, Value.int IntKind.i64 0, Value.int IntKind.i64 0, Value.int IntKind.i64 0, Value.int IntKind.i32 0, Value.int IntKind.i32 0, Value.bool false], true⟩ := ⟨⟨Try.t146, _, i146, rfl, rfl, rfl, rfl, fun _ => rfl⟩, ⟨match Try.t146.desc with | .struct f => f | _ => #[], by kernel_rfl, rfl, FsOK.cons Try.t78 i78 rfl (FsOK.cons Try.t21 i21 rfl (FsOK.cons Try.t21 i21 rfl (FsOK.cons Try.t4 i4 rfl FsOK.nil)))⟩, fun _ => ⟨by kernel_rfl, by kernel_rfl, by kernel_rfl⟩⟩
theorem ty147 : TyOK prog 147 ⟨.struct [(0, 5, 78), (5, 1, 21), (6, 1, 21), (7, 1, 4)], 8, 56, [Value.int IntKind.i64 0, Value.int IntKind.i64 0, Value.int IntKind.i64 0, Value.int IntKind.i64 0, Value.int IntKind.i64 0, Value.int IntKind.i32 0, Value.int IntKind.i32 0, Value.bool false], true⟩ := ⟨⟨Try.t147, _, i147, rfl, rfl, rfl, rfl, fun _ => rfl⟩, ⟨match Try.t146.desc with | .struct f => f | _ => #[], by kernel_rfl, rfl, FsOK.cons Try.t78 i78 rfl (FsOK.cons Try.t21 i21 rfl (FsOK.cons Try.t21 i21 rfl (FsOK.cons Try.t4 i4 rfl FsOK.nil)))⟩, fun _ => ⟨by kernel_rfl, by kernel_rfl, by kernel_rfl⟩⟩
theorem ty148 : TyOK prog 148 ⟨.other, 1, 8, [Value.nilFunc], false⟩ := ⟨⟨Try.t148, _, i148, rfl, rfl, rfl, rfl, nofun⟩, ⟨Try.t148.desc, by kernel_rfl, fun _ => nofun, fun _ _ => nofun⟩, nofun⟩
theorem ty149 : TyOK prog 149 ⟨.other, 1, 8, [Value.nilFunc], false⟩ := ⟨⟨Try.t149, _, i149, rfl, rfl, rfl, rfl, nofun⟩, ⟨Try.t149.desc, by kernel_rfl, fun _ => nofun, fun _ _ => nofun⟩, nofun⟩
theorem ty150 : TyOK prog 150 ⟨.slice 63, 1, 24, [Value.slice none 0 0], false⟩ := ⟨⟨Try.t150, _, i150, rfl, rfl, rfl, rfl, nofun⟩, (show prog.underlying 150 = some (.slice 63) from by kernel_rfl), nofun⟩
theorem ty151 : TyOK prog 151 ⟨.other, 1, 8, [Value.nilFunc], false⟩ := ⟨⟨Try.t151, _, i151, rfl, rfl, rfl, rfl, nofun⟩, ⟨Try.t151.desc, by kernel_rfl, fun _ => nofun, fun _ _ => nofun⟩, nofun⟩
theorem ty152 : TyOK prog 152 ⟨.other, 1, 8, [Value.nilFunc], false⟩ := ⟨⟨Try.t152, _, i152, rfl, rfl, rfl, rfl, nofun⟩, ⟨Try.t152.desc, by kernel_rfl, fun _ => nofun, fun _ _ => nofun⟩, nofun⟩
theorem ty153 : TyOK prog 153 ⟨.other, 1, 8, [Value.nilFunc], false⟩ := ⟨⟨Try.t153, _, i153, rfl, rfl, rfl, rfl, nofun⟩, ⟨Try.t153.desc, by kernel_rfl, fun _ => nofun, fun _ _ => nofun⟩, nofun⟩
theorem ty154 : TyOK prog 154 ⟨.other, 1, 8, [Value.pointer none], false⟩ := ⟨⟨Try.t154, _, i154, rfl, rfl, rfl, rfl, nofun⟩, ⟨Try.t154.desc, by kernel_rfl, fun _ => nofun, fun _ _ => nofun⟩, nofun⟩
theorem ty155 : TyOK prog 155 ⟨.other, 1, 8, [Value.nilFunc], false⟩ := ⟨⟨Try.t155, _, i155, rfl, rfl, rfl, rfl, nofun⟩, ⟨Try.t155.desc, by kernel_rfl, fun _ => nofun, fun _ _ => nofun⟩, nofun⟩
theorem ty156 : TyOK prog 156 ⟨.other, 1, 8, [Value.nilFunc], false⟩ := ⟨⟨Try.t156, _, i156, rfl, rfl, rfl, rfl, nofun⟩, ⟨Try.t155.desc, by kernel_rfl, fun _ => nofun, fun _ _ => nofun⟩, nofun⟩
theorem ty157 : TyOK prog 157 ⟨.other, 1, 8, [Value.nilFunc], false⟩ := ⟨⟨Try.t157, _, i157, rfl, rfl, rfl, rfl, nofun⟩, ⟨Try.t157.desc, by kernel_rfl, fun _ => nofun, fun _ _ => nofun⟩, nofun⟩
theorem ty158 : TyOK prog 158 ⟨.slice 161, 1, 24, [Value.slice none 0 0], false⟩ := ⟨⟨Try.t158, _, i158, rfl, rfl, rfl, rfl, nofun⟩, (show prog.underlying 158 = some (.slice 161) from by kernel_rfl), nofun⟩
theorem ty159 : TyOK prog 159 ⟨.other, 1, 8, [Value.nilFunc], false⟩ := ⟨⟨Try.t159, _, i159, rfl, rfl, rfl, rfl, nofun⟩, ⟨Try.t159.desc, by kernel_rfl, fun _ => nofun, fun _ _ => nofun⟩, nofun⟩
theorem ty160 : TyOK prog 160 ⟨.struct [(0, 1, 3), (1, 1, 3), (2, 1, 3), (3, 1, 4)], 4, 32, [Value.int IntKind.i64 0, Value.int IntKind.i64 0, Value.int IntKind.i64 0, Value.bool false], true⟩ := ⟨⟨Try.t160, _, i160, rfl, rfl, rfl, rfl, fun _ => rfl⟩, ⟨match Try.t160.desc with | .struct f => f | _ => #[], by kernel_rfl, rfl, FsOK.cons Try.t3 i3 rfl (FsOK.cons Try.t3 i3 rfl (FsOK.cons Try.t3 i3 rfl (FsOK.cons Try.t4 i4 rfl FsOK.nil)))⟩, fun _ => ⟨by kernel_rfl, by kernel_rfl, by kernel_rfl⟩⟩
theorem ty161 : TyOK prog 161 ⟨.struct [(0, 1, 3), (1, 1, 3), (2, 1, 3), (3, 1, 4)], 4, 32, [Value.int IntKind.i64 0, Value.int IntKind.i64 0, Value.int IntKind.i64 0, Value.bool false], true⟩ := ⟨⟨Try.t161, _, i161, rfl, rfl, rfl, rfl, fun _ => rfl⟩, ⟨match Try.t160.desc with | .struct f => f | _ => #[], by kernel_rfl, rfl, FsOK.cons Try.t3 i3 rfl (FsOK.cons Try.t3 i3 rfl (FsOK.cons Try.t3 i3 rfl (FsOK.cons Try.t4 i4 rfl FsOK.nil)))⟩, fun _ => ⟨by kernel_rfl, by kernel_rfl, by kernel_rfl⟩⟩
theorem ty163 : TyOK prog 163 ⟨.other, 1, 8, [Value.nilFunc], false⟩ := ⟨⟨Try.t163, _, i163, rfl, rfl, rfl, rfl, nofun⟩, ⟨Try.t163.desc, by kernel_rfl, fun _ => nofun, fun _ _ => nofun⟩, nofun⟩
theorem ty164 : TyOK prog 164 ⟨.other, 1, 8, [Value.nilFunc], false⟩ := ⟨⟨Try.t164, _, i164, rfl, rfl, rfl, rfl, nofun⟩, ⟨Try.t164.desc, by kernel_rfl, fun _ => nofun, fun _ _ => nofun⟩, nofun⟩
theorem ty165 : TyOK prog 165 ⟨.other, 1, 8, [Value.nilFunc], false⟩ := ⟨⟨Try.t165, _, i165, rfl, rfl, rfl, rfl, nofun⟩, ⟨Try.t165.desc, by kernel_rfl, fun _ => nofun, fun _ _ => nofun⟩, nofun⟩
theorem ty166 : TyOK prog 166 ⟨.other, 1, 8, [Value.nilFunc], false⟩ := ⟨⟨Try.t166, _, i166, rfl, rfl, rfl, rfl, nofun⟩, ⟨Try.t166.desc, by kernel_rfl, fun _ => nofun, fun _ _ => nofun⟩, nofun⟩
theorem ty167 : TyOK prog 167 ⟨.other, 1, 8, [Value.nilFunc], false⟩ := ⟨⟨Try.t167, _, i167, rfl, rfl, rfl, rfl, nofun⟩, ⟨Try.t167.desc, by kernel_rfl, fun _ => nofun, fun _ _ => nofun⟩, nofun⟩
theorem ty168 : TyOK prog 168 ⟨.other, 1, 8, [Value.nilFunc], false⟩ := ⟨⟨Try.t168, _, i168, rfl, rfl, rfl, rfl, nofun⟩, ⟨Try.t168.desc, by kernel_rfl, fun _ => nofun, fun _ _ => nofun⟩, nofun⟩
theorem ty169 : TyOK prog 169 ⟨.other, 1, 8, [Value.nilFunc], false⟩ := ⟨⟨Try.t169, _, i169, rfl, rfl, rfl, rfl, nofun⟩, ⟨Try.t169.desc, by kernel_rfl, fun _ => nofun, fun _ _ => nofun⟩, nofun⟩
theorem ty170 : TyOK prog 170 ⟨.other, 1, 8, [Value.pointer none], false⟩ := ⟨⟨Try.t170, _, i170, rfl, rfl, rfl, rfl, nofun⟩, ⟨Try.t170.desc, by kernel_rfl, fun _ => nofun, fun _ _ => nofun⟩, nofun⟩
theorem ty171 : TyOK prog 171 ⟨.other, 1, 8, [Value.nilFunc], false⟩ := ⟨⟨Try.t171, _, i171, rfl, rfl, rfl, rfl, nofun⟩, ⟨Try.t171.desc, by kernel_rfl, fun _ => nofun, fun _ _ => nofun⟩, nofun⟩
theorem ty172 : TyOK prog 172 ⟨.other, 1, 8, [Value.nilFunc], false⟩ := ⟨⟨Try.t172, _, i172, rfl, rfl, rfl, rfl, nofun⟩, ⟨Try.t172.desc, by kernel_rfl, fun _ => nofun, fun _ _ => nofun⟩, nofun⟩
theorem ty173 : TyOK prog 173 ⟨.other, 1, 8, [Value.nilFunc], false⟩ := ⟨⟨Try.t173, _, i173, rfl, rfl, rfl, rfl, nofun⟩, ⟨Try.t173.desc, by kernel_rfl, fun _ => nofun, fun _ _ => nofun⟩, nofun⟩
theorem ty174 : TyOK prog 174 ⟨.other, 1, 8, [Value.nilFunc], false⟩ := ⟨⟨Try.t174, _, i174, rfl, rfl, rfl, rfl, nofun⟩, ⟨Try.t174.desc, by kernel_rfl, fun _ => nofun, fun _ _ => nofun⟩, nofun⟩
theorem ty175 : TyOK prog 175 ⟨.other, 1, 8, [Value.nilFunc], false⟩ := ⟨⟨Try.t175, _, i175, rfl, rfl, rfl, rfl, nofun⟩, ⟨Try.t175.desc, by kernel_rfl, fun _ => nofun, fun _ _ => nofun⟩, nofun⟩
theorem ty176 : TyOK prog 176 ⟨.slice 5, 1, 24, [Value.slice none 0 0], false⟩ := ⟨⟨Try.t176, _, i176, rfl, rfl, rfl, rfl, nofun⟩, (show prog.underlying 176 = some (.slice 5) from by kernel_rfl), nofun⟩
theorem ty177 : TyOK prog 177 ⟨.other, 1, 8, [Value.nilFunc], false⟩ := ⟨⟨Try.t177, _, i177, rfl, rfl, rfl, rfl, nofun⟩, ⟨Try.t177.desc, by kernel_rfl, fun _ => nofun, fun _ _ => nofun⟩, nofun⟩
theorem ty178 : TyOK prog 178 ⟨.other, 1, 8, [Value.nilFunc], false⟩ := ⟨⟨Try.t178, _, i178, rfl, rfl, rfl, rfl, nofun⟩, ⟨Try.t178.desc, by kernel_rfl, fun _ => nofun, fun _ _ => nofun⟩, nofun⟩
theorem ty179 : TyOK prog 179 ⟨.other, 1, 8, [Value.nilFunc], false⟩ := ⟨⟨Try.t179, _, i179, rfl, rfl, rfl, rfl, nofun⟩, ⟨Try.t179.desc, by kernel_rfl, fun _ => nofun, fun _ _ => nofun⟩, nofun⟩
theorem ty180 : TyOK prog 180 ⟨.other, 1, 8, [Value.nilFunc], false⟩ := ⟨⟨Try.t180, _, i180, rfl, rfl, rfl, rfl, nofun⟩, ⟨Try.t180.desc, by kernel_rfl, fun _ => nofun, fun _ _ => nofun⟩, nofun⟩
theorem ty181 : TyOK prog 181 ⟨.other, 1, 8, [Value.nilFunc], false⟩ := ⟨⟨Try.t181, _, i181, rfl, rfl, rfl, rfl, nofun⟩, ⟨Try.t181.desc, by kernel_rfl, fun _ => nofun, fun _ _ => nofun⟩, nofun⟩
theorem ty182 : TyOK prog 182 ⟨.other, 1, 8, [Value.nilFunc], false⟩ := ⟨⟨Try.t182, _, i182, rfl, rfl, rfl, rfl, nofun⟩, ⟨Try.t182.desc, by kernel_rfl, fun _ => nofun, fun _ _ => nofun⟩, nofun⟩
theorem ty183 : TyOK prog 183 ⟨.other, 1, 8, [Value.nilFunc], false⟩ := ⟨⟨Try.t183, _, i183, rfl, rfl, rfl, rfl, nofun⟩, ⟨Try.t183.desc, by kernel_rfl, fun _ => nofun, fun _ _ => nofun⟩, nofun⟩
theorem ty184 : TyOK prog 184 ⟨.other, 1, 8, [Value.nilFunc], false⟩ := ⟨⟨Try.t184, _, i184, rfl, rfl, rfl, rfl, nofun⟩, ⟨Try.t184.desc, by kernel_rfl, fun _ => nofun, fun _ _ => nofun⟩, nofun⟩
theorem ty185 : TyOK prog 185 ⟨.other, 1, 8, [Value.nilFunc], false⟩ := ⟨⟨Try.t185, _, i185, rfl, rfl, rfl, rfl, nofun⟩, ⟨Try.t185.desc, by kernel_rfl, fun _ => nofun, fun _ _ => nofun⟩, nofun⟩
theorem ty186 : TyOK prog 186 ⟨.int .u64, 1, 8, [Value.int IntKind.u64 0], false⟩ := ⟨⟨Try.t186, _, i186, rfl, rfl, rfl, rfl, nofun⟩, (show prog.underlying 186 = some (.int .u64) from by kernel_rfl), nofun⟩
theorem ty187 : TyOK prog 187 ⟨.struct [(0, 1, 17), (1, 1, 17), (2, 1, 17), (3, 1, 9)], 4, 40, [Value.pointer none, Value.pointer none, Value.pointer none, Value.string { data := #[] }], false⟩ := ⟨⟨Try.t187, _, i187, rfl, rfl, rfl, rfl, fun _ => rfl⟩, ⟨match Try.t187.desc with | .struct f => f | _ => #[], by kernel_rfl, rfl, FsOK.cons Try.t17 i17 rfl (FsOK.cons Try.t17 i17 rfl (FsOK.cons Try.t17 i17 rfl (FsOK.cons Try.t9 i9 rfl FsOK.nil)))⟩, nofun⟩
theorem ty188 : TyOK prog 188 ⟨.struct [(0, 1, 17), (1, 1, 17), (2, 1, 17), (3, 1, 9)], 4, 40, [Value.pointer none, Value.pointer none, Value.pointer none, Value.string { data := #[] }], false⟩ := ⟨⟨Try.t188, _, i188, rfl, rfl, rfl, rfl, fun _ => rfl⟩, ⟨match Try.t187.desc with | .struct f => f | _ => #[], by kernel_rfl, rfl, FsOK.cons Try.t17 i17 rfl (FsOK.cons Try.t17 i17 rfl (FsOK.cons Try.t17 i17 rfl (FsOK.cons Try.t9 i9 rfl FsOK.nil)))⟩, nofun⟩
theorem ty192 : TyOK prog 192 ⟨.other, 1, 8, [Value.nilFunc], false⟩ := ⟨⟨Try.t192, _, i192, rfl, rfl, rfl, rfl, nofun⟩, ⟨Try.t192.desc, by kernel_rfl, fun _ => nofun, fun _ _ => nofun⟩, nofun⟩
theorem ty193 : TyOK prog 193 ⟨.int .u32, 1, 4, [Value.int IntKind.u32 0], false⟩ := ⟨⟨Try.t193, _, i193, rfl, rfl, rfl, rfl, nofun⟩, (show prog.underlying 193 = some (.int .u32) from by kernel_rfl), nofun⟩
theorem ty194 : TyOK prog 194 ⟨.int .u8, 1, 1, [Value.int IntKind.u8 0], false⟩ := ⟨⟨Try.t194, _, i194, rfl, rfl, rfl, rfl, nofun⟩, (show prog.underlying 194 = some (.int .u8) from by kernel_rfl), nofun⟩
theorem ty195 : TyOK prog 195 ⟨.int .u8, 1, 1, [Value.int IntKind.u8 0], false⟩ := ⟨⟨Try.t195, _, i195, rfl, rfl, rfl, rfl, nofun⟩, (show prog.underlying 195 = some (.int .u8) from by kernel_rfl), nofun⟩
theorem ty196 : TyOK prog 196 ⟨.other, 1, 8, [Value.nilFunc], false⟩ := ⟨⟨Try.t196, _, i196, rfl, rfl, rfl, rfl, nofun⟩, ⟨Try.t196.desc, by kernel_rfl, fun _ => nofun, fun _ _ => nofun⟩, nofun⟩
theorem ty197 : TyOK prog 197 ⟨.other, 1, 8, [Value.pointer none], false⟩ := ⟨⟨Try.t197, _, i197, rfl, rfl, rfl, rfl, nofun⟩, ⟨Try.t197.desc, by kernel_rfl, fun _ => nofun, fun _ _ => nofun⟩, nofun⟩
theorem ty198 : TyOK prog 198 ⟨.int .i32, 1, 4, [Value.int IntKind.i32 0], false⟩ := ⟨⟨Try.t198, _, i198, rfl, rfl, rfl, rfl, nofun⟩, (show prog.underlying 198 = some (.int .i32) from by kernel_rfl), nofun⟩
theorem ty199 : TyOK prog 199 ⟨.int .i32, 1, 4, [Value.int IntKind.i32 0], false⟩ := ⟨⟨Try.t199, _, i199, rfl, rfl, rfl, rfl, nofun⟩, (show prog.underlying 199 = some (.int .i32) from by kernel_rfl), nofun⟩
theorem ty200 : TyOK prog 200 ⟨.struct [(0, 1, 12), (1, 1, 12), (2, 1, 193), (3, 1, 194), (4, 1, 5), (5, 1, 5), (6, 1, 195), (7, 1, 196), (8, 1, 197), (9, 1, 198), (10, 1, 199)], 11, 48, [Value.int IntKind.u64 0, Value.int IntKind.u64 0, Value.int IntKind.u32 0, Value.int IntKind.u8 0, Value.int IntKind.u8 0, Value.int IntKind.u8 0, Value.int IntKind.u8 0, Value.nilFunc, Value.pointer none, Value.int IntKind.i32 0, Value.int IntKind.i32 0], false⟩ := ⟨⟨Try.t200, _, i200, rfl, rfl, rfl, rfl, fun _ => rfl⟩, ⟨match Try.t200.desc with | .struct f => f | _ => #[], by kernel_rfl, rfl, FsOK.cons Try.t12 i12 rfl (FsOK.cons Try.t12 i12 rfl (FsOK.cons Try.t193 i193 rfl (FsOK.cons Try.t194 i194 rfl (FsOK.cons Try.t5 i5 rfl (FsOK.cons Try.t5 i5 rfl (FsOK.cons Try.t195 i195 rfl (FsOK.cons Try.t196 i196 rfl (FsOK.cons Try.t197 i197 rfl (FsOK.cons Try.t198 i198 rfl (FsOK.cons Try.t199 i199 rfl FsOK.nil))))))))))⟩, nofun⟩
theorem ty201 : TyOK prog 201 ⟨.struct [(0, 1, 12), (1, 1, 12), (2, 1, 193), (3, 1, 194), (4, 1, 5), (5, 1, 5), (6, 1, 195), (7, 1, 196), (8, 1, 197), (9, 1, 198), (10, 1, 199)], 11, 48, [Value.int IntKind.u64 0, Value.int IntKind.u64 0, Value.int IntKind.u32 0, Value.int IntKind.u8 0, Value.int IntKind.u8 0, Value.int IntKind.u8 0, Value.int IntKind.u8 0, Value.nilFunc, Value.pointer none, Value.int IntKind.i32 0, Value.int IntKind.i32 0], false⟩ := ⟨⟨Try.t201, _, i201, rfl, rfl, rfl, rfl, fun _ => rfl⟩, ⟨match Try.t200.desc with | .struct f => f | _ => #[], by kernel_rfl, rfl, FsOK.cons Try.t12 i12 rfl (FsOK.cons Try.t12 i12 rfl (FsOK.cons Try.t193 i193 rfl (FsOK.cons Try.t194 i194 rfl (FsOK.cons Try.t5 i5 rfl (FsOK.cons Try.t5 i5 rfl (FsOK.cons Try.t195 i195 rfl (FsOK.cons Try.t196 i196 rfl (FsOK.cons Try.t197 i197 rfl (FsOK.cons Try.t198 i198 rfl (FsOK.cons Try.t199 i199 rfl FsOK.nil))))))))))⟩, nofun⟩
theorem T_ok : TysOK prog T := .cons ty1 <| .cons ty2 <| .cons ty3 <| .cons ty4 <| .cons ty5 <| .cons ty6 <| .cons ty7 <| .cons ty8 <| .cons ty9 <| .cons ty10 <| .cons ty11 <| .cons ty12 <| .cons ty13 <| .cons ty14 <| .cons ty15 <| .cons ty16 <| .cons ty17 <| .cons ty18 <| .cons ty19 <| .cons ty20 <| .cons ty21 <| .cons ty22 <| .cons ty23 <| .cons ty25 <| .cons ty26 <| .cons ty28 <| .cons ty29 <| .cons ty30 <| .cons ty31 <| .cons ty32 <| .cons ty33 <| .cons ty34 <| .cons ty35 <| .cons ty36 <| .cons ty38 <| .cons ty40 <| .cons ty41 <| .cons ty42 <| .cons ty43 <| .cons ty44 <| .cons ty46 <| .cons ty48 <| .cons ty49 <| .cons ty50 <| .cons ty51 <| .cons ty52 <| .cons ty53 <| .cons ty54 <| .cons ty55 <| .cons ty56 <| .cons ty57 <| .cons ty59 <| .cons ty60 <| .cons ty61 <| .cons ty62 <| .cons ty63 <| .cons ty64 <| .cons ty66 <| .cons ty67 <| .cons ty68 <| .cons ty69 <| .cons ty70 <| .cons ty71 <| .cons ty72 <| .cons ty73 <| .cons ty75 <| .cons ty76 <| .cons ty77 <| .cons ty78 <| .cons ty79 <| .cons ty80 <| .cons ty81 <| .cons ty82 <| .cons ty83 <| .cons ty84 <| .cons ty85 <| .cons ty86 <| .cons ty87 <| .cons ty88 <| .cons ty90 <| .cons ty91 <| .cons ty92 <| .cons ty93 <| .cons ty95 <| .cons ty96 <| .cons ty98 <| .cons ty99 <| .cons ty101 <| .cons ty102 <| .cons ty103 <| .cons ty104 <| .cons ty105 <| .cons ty107 <| .cons ty108 <| .cons ty109 <| .cons ty110 <| .cons ty111 <| .cons ty112 <| .cons ty113 <| .cons ty114 <| .cons ty115 <| .cons ty116 <| .cons ty117 <| .cons ty118 <| .cons ty119 <| .cons ty120 <| .cons ty121 <| .cons ty122 <| .cons ty123 <| .cons ty124 <| .cons ty125 <| .cons ty126 <| .cons ty127 <| .cons ty128 <| .cons ty129 <| .cons ty130 <| .cons ty131 <| .cons ty132 <| .cons ty133 <| .cons ty134 <| .cons ty135 <| .cons ty136 <| .cons ty137 <| .cons ty138 <| .cons ty139 <| .cons ty140 <| .cons ty141 <| .cons ty142 <| .cons ty143 <| .cons ty144 <| .cons ty145 <| .cons ty146 <| .cons ty147 <| .cons ty148 <| .cons ty149 <| .cons ty150 <| .cons ty151 <| .cons ty152 <| .cons ty153 <| .cons ty154 <| .cons ty155 <| .cons ty156 <| .cons ty157 <| .cons ty158 <| .cons ty159 <| .cons ty160 <| .cons ty161 <| .cons ty163 <| .cons ty164 <| .cons ty165 <| .cons ty166 <| .cons ty167 <| .cons ty168 <| .cons ty169 <| .cons ty170 <| .cons ty171 <| .cons ty172 <| .cons ty173 <| .cons ty174 <| .cons ty175 <| .cons ty176 <| .cons ty177 <| .cons ty178 <| .cons ty179 <| .cons ty180 <| .cons ty181 <| .cons ty182 <| .cons ty183 <| .cons ty184 <| .cons ty185 <| .cons ty186 <| .cons ty187 <| .cons ty188 <| .cons ty192 <| .cons ty193 <| .cons ty194 <| .cons ty195 <| .cons ty196 <| .cons ty197 <| .cons ty198 <| .cons ty199 <| .cons ty200 <| .cons ty201 <| .nil
end Go.SX.Try
/- Chapter 2 told plainly: how many cells a rune has. No program here. -/
namespace Go.SX.Plain
def nothingP (r : Int) : Prop := (0 ≤ r ∧ r ≤ 31) ∨ (127 ≤ r ∧ r ≤ 159) ∨ (r = 173) ∨ (768 ≤ r ∧ r ≤ 879) ∨ (1155 ≤ r ∧ r ≤ 1161) ∨ (1425 ≤ r ∧ r ≤ 1469) ∨ (r = 1471) ∨ (1473 ≤ r ∧ r ≤ 1474) ∨ (1476 ≤ r ∧ r ≤ 1477) ∨ (r = 1479) ∨ (1552 ≤ r ∧ r ≤ 1562) ∨ (r = 1564) ∨ (1611 ≤ r ∧ r ≤ 1631) ∨ (r = 1648) ∨ (1750 ≤ r ∧ r ≤ 1756) ∨ (1759 ≤ r ∧ r ≤ 1764) ∨ (1767 ≤ r ∧ r ≤ 1768) ∨ (1770 ≤ r ∧ r ≤ 1773) ∨ (r = 3633) ∨ (3636 ≤ r ∧ r ≤ 3642) ∨ (3655 ≤ r ∧ r ≤ 3662) ∨ (4448 ≤ r ∧ r ≤ 4607) ∨ (6832 ≤ r ∧ r ≤ 6911) ∨ (7616 ≤ r ∧ r ≤ 7679) ∨ (8203 ≤ r ∧ r ≤ 8207) ∨ (8232 ≤ r ∧ r ≤ 8238) ∨ (8288 ≤ r ∧ r ≤ 8303) ∨ (8400 ≤ r ∧ r ≤ 8447) ∨ (12441 ≤ r ∧ r ≤ 12442) ∨ (65024 ≤ r ∧ r ≤ 65039) ∨ (65056 ≤ r ∧ r ≤ 65071) ∨ (r = 65279) ∨ (127995 ≤ r ∧ r ≤ 127999) ∨ (917504 ≤ r ∧ r ≤ 921599)
instance (r : Int) : Decidable (nothingP r) := by unfold nothingP; infer_instance
def nothingB (r : Int) : Bool := decide (nothingP r)
def wideP (r : Int) : Prop := (4352 ≤ r ∧ r ≤ 4447) ∨ (8986 ≤ r ∧ r ≤ 8987) ∨ (9001 ≤ r ∧ r ≤ 9002) ∨ (9193 ≤ r ∧ r ≤ 9196) ∨ (9748 ≤ r ∧ r ≤ 9749) ∨ (r = 9889) ∨ (r = 9989) ∨ (r = 10024) ∨ (r = 10060) ∨ (10067 ≤ r ∧ r ≤ 10069) ∨ (10133 ≤ r ∧ r ≤ 10135) ∨ (11035 ≤ r ∧ r ≤ 11036) ∨ (11904 ≤ r ∧ r ≤ 12350) ∨ (12353 ≤ r ∧ r ≤ 42191) ∨ (43360 ≤ r ∧ r ≤ 43391) ∨ (44032 ≤ r ∧ r ≤ 55203) ∨ (63744 ≤ r ∧ r ≤ 64255) ∨ (65072 ≤ r ∧ r ≤ 65135) ∨ (65281 ≤ r ∧ r ≤ 65376) ∨ (65504 ≤ r ∧ r ≤ 65510) ∨ (127744 ≤ r ∧ r ≤ 128591) ∨ (128640 ≤ r ∧ r ≤ 128767) ∨ (129280 ≤ r ∧ r ≤ 129535) ∨ (131072 ≤ r ∧ r ≤ 262141)
instance (r : Int) : Decidable (wideP r) := by unfold wideP; infer_instance
def wideB (r : Int) : Bool := decide (wideP r)
def controlP (r : Int) : Prop := (0 ≤ r ∧ r < 32) ∨ (127 ≤ r ∧ r ≤ 159) ∨ (r = 1564) ∨ (r = 8206) ∨ (r = 8207) ∨ (8232 ≤ r ∧ r ≤ 8238) ∨ (8294 ≤ r ∧ r ≤ 8297)
instance (r : Int) : Decidable (controlP r) := by unfold controlP; infer_instance
def controlB (r : Int) : Bool := decide (controlP r)

def flagP (r : Int) : Prop := 127462 ≤ r ∧ r ≤ 127487
instance (r : Int) : Decidable (flagP r) := by unfold flagP; infer_instance
def flagB (r : Int) : Bool := decide (flagP r)
def widthI (r : Int) : Int := if nothingB r then 0 else if wideB r then 2 else 1
end Go.SX.Plain
/- Contracts of chapter 2's small functions. -/
namespace Go.SX.Try
open Go.Proofs Go.Proofs.Try Go.SX.Plain
set_option linter.unusedSimpArgs false
set_option maxRecDepth 100000
set_option maxHeartbeats 4000000
def fact (f : Nat) (fn : Func) : Prop := prog.funcs[f]? = some fn ∧ fn.body = some (codeOf fn) ∧ (fn.name == "runtime.NumGoroutine") = false
theorem q_control : fact 114 f114 := ⟨by kernel_rfl, rfl, by kernel_rfl⟩
theorem q_flag : fact 115 f115 := ⟨by kernel_rfl, rfl, by kernel_rfl⟩
theorem q_nothing : fact 129 f129 := ⟨by kernel_rfl, rfl, by kernel_rfl⟩
theorem q_wide : fact 130 f130 := ⟨by kernel_rfl, rfl, by kernel_rfl⟩
theorem q_width : fact 113 f113 := ⟨by kernel_rfl, rfl, by kernel_rfl⟩

theorem con_flag : Con prog 115 (fun r : Int => [.v (.int .i32 r)]) (fun r => .sb (flagB r)) (fun _ => True) := by
  refine Con.of (by kernel_rfl) T_ok CdsOK.nil GamOK.nil 1 [] q_flag.1 q_flag.2.1 q_flag.2.2 (fun _ => rfl) fun r _ => ?_
  repeat' (first | (with_reducible exact fun h => h) | (with_reducible refine ExE.row (by with_unfolding_all rfl) ?_) | (with_reducible refine And.intro ?_ ?_) | ((with_reducible intro hq); first | (exact bne1 hq (by with_reducible assumption)) | (exact bne1 (by with_reducible assumption) hq) | ((simp only [*, Bool.and_true, Bool.true_and, Bool.and_false, Bool.false_and, Bool.or_true, Bool.true_or, Bool.or_false, Bool.false_or, Bool.not_true, Bool.not_false, Bool.true_eq_false, Bool.false_eq_true, cond_true, cond_false, Bool.cond_self, reduceCtorEq] at hq); done) | (revert hq; with_reducible intro _)) | (with_reducible exact True.intro) | (with_reducible rfl) | ((with_reducible refine WkX.chk ?_); (conv => whnf)) | ((with_reducible refine Wk.chk ?_); (conv => whnf)) | (with_reducible refine EntLe.row ?_) | (with_reducible exact LeN.ro rfl) | (with_reducible exact LeN.rptr) | ((with_reducible refine LeL.chk ?_); (conv => whnf)) | ((with_reducible show LeO _ _); (first | (refine LeO.ro ?_) | (refine LeO.roCap ?_) | (refine LeO.nil ?_ (fun _ => rfl)))) | ((with_reducible show LeR _ _ _); (first | (refine LeR.own rfl rfl rfl ?_) | (refine LeR.view rfl rfl rfl ?_ ?_) | (refine LeR.ro ?_) | (refine LeR.roCap ?_) | (refine LeR.nil ?_ (fun _ => rfl)))) | ((with_reducible refine LeF.chk ?_); (conv => whnf)) | (with_reducible assumption) | ((with_reducible refine Run.mk ?_); (conv => whnf)) | ((with_reducible show drawOK _ _ = true); kernel_rfl) | ((with_reducible show drawOK2 _ _ = true); kernel_rfl) | ((with_reducible show drawOK3 _ _ = true); kernel_rfl))
  all_goals rw [Bool.eq_iff_iff]
  all_goals simp only [flagB, true_iff, false_iff, Bool.or_eq_true, Bool.and_eq_true, decide_eq_true_eq, decide_eq_false_iff_not, Bool.and_eq_false_iff, beq_iff_eq, beq_eq_false_iff_ne, eq_self, iff_true, Bool.false_eq_true] at *
  all_goals unfold flagP
  all_goals omega

theorem con_control : Con prog 114 (fun r : Int => [.v (.int .i32 r)]) (fun r => .sb (controlB r)) (fun _ => True) := by
  refine Con.of (by kernel_rfl) T_ok CdsOK.nil GamOK.nil 1 [] q_control.1 q_control.2.1 q_control.2.2 (fun _ => rfl) fun r _ => ?_
  repeat' (first | (with_reducible exact fun h => h) | (with_reducible refine ExE.row (by with_unfolding_all rfl) ?_) | (with_reducible refine And.intro ?_ ?_) | ((with_reducible intro hq); first | (exact bne1 hq (by with_reducible assumption)) | (exact bne1 (by with_reducible assumption) hq) | ((simp only [*, Bool.and_true, Bool.true_and, Bool.and_false, Bool.false_and, Bool.or_true, Bool.true_or, Bool.or_false, Bool.false_or, Bool.not_true, Bool.not_false, Bool.true_eq_false, Bool.false_eq_true, cond_true, cond_false, Bool.cond_self, reduceCtorEq] at hq); done) | (revert hq; with_reducible intro _)) | (with_reducible exact True.intro) | (with_reducible rfl) | ((with_reducible refine WkX.chk ?_); (conv => whnf)) | ((with_reducible refine Wk.chk ?_); (conv => whnf)) | (with_reducible refine EntLe.row ?_) | (with_reducible exact LeN.ro rfl) | (with_reducible exact LeN.rptr) | ((with_reducible refine LeL.chk ?_); (conv => whnf)) | ((with_reducible show LeO _ _); (first | (refine LeO.ro ?_) | (refine LeO.roCap ?_) | (refine LeO.nil ?_ (fun _ => rfl)))) | ((with_reducible show LeR _ _ _); (first | (refine LeR.own rfl rfl rfl ?_) | (refine LeR.view rfl rfl rfl ?_ ?_) | (refine LeR.ro ?_) | (refine LeR.roCap ?_) | (refine LeR.nil ?_ (fun _ => rfl)))) | ((with_reducible refine LeF.chk ?_); (conv => whnf)) | (with_reducible assumption) | ((with_reducible refine Run.mk ?_); (conv => whnf)) | ((with_reducible show drawOK _ _ = true); kernel_rfl) | ((with_reducible show drawOK2 _ _ = true); kernel_rfl) | ((with_reducible show drawOK3 _ _ = true); kernel_rfl))
  all_goals rw [Bool.eq_iff_iff]
  all_goals simp only [controlB, true_iff, false_iff, Bool.or_eq_true, Bool.and_eq_true, decide_eq_true_eq, decide_eq_false_iff_not, Bool.and_eq_false_iff, beq_iff_eq, beq_eq_false_iff_ne, eq_self, iff_true, Bool.false_eq_true] at *
  all_goals unfold controlP
  all_goals omega

theorem con_wide : Con prog 130 (fun r : Int => [.v (.int .i32 r)]) (fun r => .sb (wideB r)) (fun _ => True) := by
  refine Con.of (by kernel_rfl) T_ok CdsOK.nil GamOK.nil 1 [] q_wide.1 q_wide.2.1 q_wide.2.2 (fun _ => rfl) fun r _ => ?_
  repeat' (first | (with_reducible exact fun h => h) | (with_reducible refine ExE.row (by with_unfolding_all rfl) ?_) | (with_reducible refine And.intro ?_ ?_) | ((with_reducible intro hq); first | (exact bne1 hq (by with_reducible assumption)) | (exact bne1 (by with_reducible assumption) hq) | ((simp only [*, Bool.and_true, Bool.true_and, Bool.and_false, Bool.false_and, Bool.or_true, Bool.true_or, Bool.or_false, Bool.false_or, Bool.not_true, Bool.not_false, Bool.true_eq_false, Bool.false_eq_true, cond_true, cond_false, Bool.cond_self, reduceCtorEq] at hq); done) | (revert hq; with_reducible intro _)) | (with_reducible exact True.intro) | (with_reducible rfl) | ((with_reducible refine WkX.chk ?_); (conv => whnf)) | ((with_reducible refine Wk.chk ?_); (conv => whnf)) | (with_reducible refine EntLe.row ?_) | (with_reducible exact LeN.ro rfl) | (with_reducible exact LeN.rptr) | ((with_reducible refine LeL.chk ?_); (conv => whnf)) | ((with_reducible show LeO _ _); (first | (refine LeO.ro ?_) | (refine LeO.roCap ?_) | (refine LeO.nil ?_ (fun _ => rfl)))) | ((with_reducible show LeR _ _ _); (first | (refine LeR.own rfl rfl rfl ?_) | (refine LeR.view rfl rfl rfl ?_ ?_) | (refine LeR.ro ?_) | (refine LeR.roCap ?_) | (refine LeR.nil ?_ (fun _ => rfl)))) | ((with_reducible refine LeF.chk ?_); (conv => whnf)) | (with_reducible assumption) | ((with_reducible refine Run.mk ?_); (conv => whnf)) | ((with_reducible show drawOK _ _ = true); kernel_rfl) | ((with_reducible show drawOK2 _ _ = true); kernel_rfl) | ((with_reducible show drawOK3 _ _ = true); kernel_rfl))
  all_goals rw [Bool.eq_iff_iff]
  all_goals simp only [wideB, true_iff, false_iff, Bool.or_eq_true, Bool.and_eq_true, decide_eq_true_eq, decide_eq_false_iff_not, Bool.and_eq_false_iff, beq_iff_eq, beq_eq_false_iff_ne, eq_self, iff_true, Bool.false_eq_true] at *
  all_goals unfold wideP
  all_goals omega

theorem con_nothing : Con prog 129 (fun r : Int => [.v (.int .i32 r)]) (fun r => .sb (nothingB r)) (fun _ => True) := by
  refine Con.of (by kernel_rfl) T_ok CdsOK.nil GamOK.nil 1 [] q_nothing.1 q_nothing.2.1 q_nothing.2.2 (fun _ => rfl) fun r _ => ?_
  repeat' (first | (with_reducible exact fun h => h) | (with_reducible refine ExE.row (by with_unfolding_all rfl) ?_) | (with_reducible refine And.intro ?_ ?_) | ((with_reducible intro hq); first | (exact bne1 hq (by with_reducible assumption)) | (exact bne1 (by with_reducible assumption) hq) | ((simp only [*, Bool.and_true, Bool.true_and, Bool.and_false, Bool.false_and, Bool.or_true, Bool.true_or, Bool.or_false, Bool.false_or, Bool.not_true, Bool.not_false, Bool.true_eq_false, Bool.false_eq_true, cond_true, cond_false, Bool.cond_self, reduceCtorEq] at hq); done) | (revert hq; with_reducible intro _)) | (with_reducible exact True.intro) | (with_reducible rfl) | ((with_reducible refine WkX.chk ?_); (conv => whnf)) | ((with_reducible refine Wk.chk ?_); (conv => whnf)) | (with_reducible refine EntLe.row ?_) | (with_reducible exact LeN.ro rfl) | (with_reducible exact LeN.rptr) | ((with_reducible refine LeL.chk ?_); (conv => whnf)) | ((with_reducible show LeO _ _); (first | (refine LeO.ro ?_) | (refine LeO.roCap ?_) | (refine LeO.nil ?_ (fun _ => rfl)))) | ((with_reducible show LeR _ _ _); (first | (refine LeR.own rfl rfl rfl ?_) | (refine LeR.view rfl rfl rfl ?_ ?_) | (refine LeR.ro ?_) | (refine LeR.roCap ?_) | (refine LeR.nil ?_ (fun _ => rfl)))) | ((with_reducible refine LeF.chk ?_); (conv => whnf)) | (with_reducible assumption) | ((with_reducible refine Run.mk ?_); (conv => whnf)) | ((with_reducible show drawOK _ _ = true); kernel_rfl) | ((with_reducible show drawOK2 _ _ = true); kernel_rfl) | ((with_reducible show drawOK3 _ _ = true); kernel_rfl))
  all_goals rw [Bool.eq_iff_iff]
  all_goals simp only [nothingB, true_iff, false_iff, Bool.or_eq_true, Bool.and_eq_true, decide_eq_true_eq, decide_eq_false_iff_not, Bool.and_eq_false_iff, beq_iff_eq, beq_eq_false_iff_ne, eq_self, iff_true, Bool.false_eq_true] at *
  all_goals unfold nothingP
  all_goals omega

theorem con_width : Con prog 113 (fun r : Int => [.v (.int .i32 r)]) (fun r => .v (.int .i64 (widthI r))) (fun _ => True) := by
  refine Con.of (by kernel_rfl) T_ok CdsOK.nil (.con con_nothing (.con con_wide GamOK.nil)) 2 [] q_width.1 q_width.2.1 q_width.2.2 (fun _ => rfl) fun r _ => ?_
  repeat' (first | (with_reducible refine ⟨_, ⟨.cons (.v _) .nil, trivial⟩, ?_⟩) | (with_reducible exact fun h => h) | (with_reducible refine ExE.row (by with_unfolding_all rfl) ?_) | (with_reducible refine And.intro ?_ ?_) | ((with_reducible intro hq); first | (exact bne1 hq (by with_reducible assumption)) | (exact bne1 (by with_reducible assumption) hq) | ((simp only [*, Bool.and_true, Bool.true_and, Bool.and_false, Bool.false_and, Bool.or_true, Bool.true_or, Bool.or_false, Bool.false_or, Bool.not_true, Bool.not_false, Bool.true_eq_false, Bool.false_eq_true, cond_true, cond_false, Bool.cond_self, reduceCtorEq] at hq); done) | (revert hq; with_reducible intro _)) | (with_reducible exact True.intro) | (with_reducible rfl) | ((with_reducible refine WkX.chk ?_); (conv => whnf)) | ((with_reducible refine Wk.chk ?_); (conv => whnf)) | (with_reducible refine EntLe.row ?_) | (with_reducible exact LeN.ro rfl) | (with_reducible exact LeN.rptr) | ((with_reducible refine LeL.chk ?_); (conv => whnf)) | ((with_reducible show LeO _ _); (first | (refine LeO.ro ?_) | (refine LeO.roCap ?_) | (refine LeO.nil ?_ (fun _ => rfl)))) | ((with_reducible show LeR _ _ _); (first | (refine LeR.own rfl rfl rfl ?_) | (refine LeR.view rfl rfl rfl ?_ ?_) | (refine LeR.ro ?_) | (refine LeR.roCap ?_) | (refine LeR.nil ?_ (fun _ => rfl)))) | ((with_reducible refine LeF.chk ?_); (conv => whnf)) | (with_reducible assumption) | ((with_reducible refine Run.mk ?_); (conv => whnf)) | ((with_reducible show drawOK _ _ = true); kernel_rfl) | ((with_reducible show drawOK2 _ _ = true); kernel_rfl) | ((with_reducible show drawOK3 _ _ = true); kernel_rfl))
  all_goals simp_all [widthI]
end Go.SX.Try
/- The signs of a text, told plainly. No program here. -/
namespace Go.SX.Plain

theorem width_pos (s : ByteArray) (pos : Nat) : 1 ≤ (Utf8.decode s pos).2 := by
  unfold Utf8.decode
  simp only
  repeat' split
  all_goals simp
/-- From a place on: place and rune of each sign. -/
def signsGo (s : ByteArray) : Nat → Nat → List (Nat × Nat)
  | 0, _ => []
  | k + 1, pos => if pos < s.size then (pos, (Utf8.decode s pos).1) :: signsGo s k (pos + (Utf8.decode s pos).2) else []
theorem signsGo_fuel (s : ByteArray) : ∀ (k k' pos : Nat), s.size - pos ≤ k → s.size - pos ≤ k' → signsGo s k pos = signsGo s k' pos
  | 0, 0, _, _, _ => rfl
  | 0, k' + 1, pos, h, _ => by simp only [signsGo]; rw [if_neg (by omega)]
  | k + 1, 0, pos, _, h => by simp only [signsGo]; rw [if_neg (by omega)]
  | k + 1, k' + 1, pos, h, h' => by
    simp only [signsGo]
    split
    · have := width_pos s pos
      rw [signsGo_fuel s k k' _ (by omega) (by omega)]
    · rfl
def signsFrom (s : ByteArray) (pos : Nat) : List (Nat × Nat) := signsGo s (s.size - pos) pos
theorem signsFrom_end {s : ByteArray} {pos : Nat} (h : ¬ pos < s.size) : signsFrom s pos = [] := by
  unfold signsFrom
  rw [show s.size - pos = 0 by omega]
  rfl
theorem signsFrom_step {s : ByteArray} {pos : Nat} (h : pos < s.size) : signsFrom s pos = (pos, (Utf8.decode s pos).1) :: signsFrom s (pos + (Utf8.decode s pos).2) := by
  unfold signsFrom
  obtain ⟨k, hk⟩ : ∃ k, s.size - pos = k + 1 := ⟨s.size - pos - 1, by omega⟩
  rw [hk]
  simp only [signsGo]
  rw [if_pos h]
  have := width_pos s pos
  rw [signsGo_fuel s k (s.size - (pos + (Utf8.decode s pos).2)) _ (by omega) (Nat.le_refl _)]
/-- Does a rune stand in a text? -/
def oneB (r : Int) (l : ByteArray) : Bool := (signsFrom l 0).any fun p => ((p.2 : Int) == r)
end Go.SX.Plain
/- Contracts of wrap's one. -/
namespace Go.SX.Try
open Go.Proofs Go.Proofs.Try Go.SX.Plain
theorem q_one : fact 74 f74 := ⟨by kernel_rfl, rfl, by kernel_rfl⟩
theorem con_one : Con prog 74 (fun ((r, l) : Int × ByteArray) => [.v (.int .i32 r), .v (.string l)]) (fun (r, l) => .sb (oneB r l)) (fun _ => True) := by
  refine Con.of (by kernel_rfl) T_ok CdsOK.nil GamOK.nil 2 [] q_one.1 q_one.2.1 q_one.2.2 (fun _ => rfl) fun i _ => ?_
  obtain ⟨r, l⟩ := i
  repeat' (first | (with_reducible exact fun h => h) | (with_reducible refine ExE.row (by with_unfolding_all rfl) ?_) | (with_reducible refine And.intro ?_ ?_) | ((with_reducible intro hq); first | (exact bne1 hq (by with_reducible assumption)) | (exact bne1 (by with_reducible assumption) hq) | ((simp only [*, Bool.and_true, Bool.true_and, Bool.and_false, Bool.false_and, Bool.or_true, Bool.true_or, Bool.or_false, Bool.false_or, Bool.not_true, Bool.not_false, Bool.true_eq_false, Bool.false_eq_true, cond_true, cond_false, Bool.cond_self, reduceCtorEq] at hq); done) | (revert hq; with_reducible intro _)) | (with_reducible exact True.intro) | (with_reducible rfl) | ((with_reducible refine WkX.chk ?_); (conv => whnf)) | ((with_reducible refine Wk.chk ?_); (conv => whnf)) | (with_reducible refine EntLe.row ?_) | (with_reducible exact LeN.ro rfl) | (with_reducible exact LeN.rptr) | ((with_reducible refine LeL.chk ?_); (conv => whnf)) | ((with_reducible show LeO _ _); (first | (refine LeO.ro ?_) | (refine LeO.roCap ?_) | (refine LeO.nil ?_ (fun _ => rfl)))) | ((with_reducible show LeR _ _ _); (first | (refine LeR.own rfl rfl rfl ?_) | (refine LeR.view rfl rfl rfl ?_ ?_) | (refine LeR.ro ?_) | (refine LeR.roCap ?_) | (refine LeR.nil ?_ (fun _ => rfl)))) | ((with_reducible refine LeF.chk ?_); (conv => whnf)) | (with_reducible assumption) | ((with_reducible refine Run.mk ?_); (conv => whnf)) | ((with_reducible show drawOK _ _ = true); kernel_rfl) | ((with_reducible show drawOK2 _ _ = true); kernel_rfl) | ((with_reducible show drawOK3 _ _ = true); kernel_rfl))
  refine loopI Nat [] (fun _ => []) (fun pos => [(0, .iter l pos)]) (fun pos => oneB r l = (signsFrom l pos).any (fun p => ((p.2 : Int) == r))) (fun pos => l.size - pos) 0 rfl (Wk.chk ?_) fun pos hpos => ?_
  · ((conv => whnf); repeat' (first | (with_reducible exact fun h => h) | (with_reducible refine ExE.row (by with_unfolding_all rfl) ?_) | (with_reducible refine And.intro ?_ ?_) | ((with_reducible intro hq); first | (exact bne1 hq (by with_reducible assumption)) | (exact bne1 (by with_reducible assumption) hq) | ((simp only [*, Bool.and_true, Bool.true_and, Bool.and_false, Bool.false_and, Bool.or_true, Bool.true_or, Bool.or_false, Bool.false_or, Bool.not_true, Bool.not_false, Bool.true_eq_false, Bool.false_eq_true, cond_true, cond_false, Bool.cond_self, reduceCtorEq] at hq); done) | (revert hq; with_reducible intro _)) | (with_reducible exact True.intro) | (with_reducible rfl) | ((with_reducible refine WkX.chk ?_); (conv => whnf)) | ((with_reducible refine Wk.chk ?_); (conv => whnf)) | (with_reducible refine EntLe.row ?_) | (with_reducible exact LeN.ro rfl) | (with_reducible exact LeN.rptr) | ((with_reducible refine LeL.chk ?_); (conv => whnf)) | ((with_reducible show LeO _ _); (first | (refine LeO.ro ?_) | (refine LeO.roCap ?_) | (refine LeO.nil ?_ (fun _ => rfl)))) | ((with_reducible show LeR _ _ _); (first | (refine LeR.own rfl rfl rfl ?_) | (refine LeR.view rfl rfl rfl ?_ ?_) | (refine LeR.ro ?_) | (refine LeR.roCap ?_) | (refine LeR.nil ?_ (fun _ => rfl)))) | ((with_reducible refine LeF.chk ?_); (conv => whnf)) | (with_reducible assumption) | ((with_reducible refine Run.mk ?_); (conv => whnf)) | ((with_reducible show drawOK _ _ = true); kernel_rfl) | ((with_reducible show drawOK2 _ _ = true); kernel_rfl) | ((with_reducible show drawOK3 _ _ = true); kernel_rfl)))
  repeat' (first | (with_reducible exact fun h => h) | (with_reducible refine ExE.row (by with_unfolding_all rfl) ?_) | (with_reducible refine And.intro ?_ ?_) | ((with_reducible intro hq); first | (exact bne1 hq (by with_reducible assumption)) | (exact bne1 (by with_reducible assumption) hq) | ((simp only [*, Bool.and_true, Bool.true_and, Bool.and_false, Bool.false_and, Bool.or_true, Bool.true_or, Bool.or_false, Bool.false_or, Bool.not_true, Bool.not_false, Bool.true_eq_false, Bool.false_eq_true, cond_true, cond_false, Bool.cond_self, reduceCtorEq] at hq); done) | (revert hq; with_reducible intro _)) | (with_reducible exact True.intro) | (with_reducible rfl) | ((with_reducible refine WkX.chk ?_); (conv => whnf)) | ((with_reducible refine Wk.chk ?_); (conv => whnf)) | (with_reducible refine EntLe.row ?_) | (with_reducible exact LeN.ro rfl) | (with_reducible exact LeN.rptr) | ((with_reducible refine LeL.chk ?_); (conv => whnf)) | ((with_reducible show LeO _ _); (first | (refine LeO.ro ?_) | (refine LeO.roCap ?_) | (refine LeO.nil ?_ (fun _ => rfl)))) | ((with_reducible show LeR _ _ _); (first | (refine LeR.own rfl rfl rfl ?_) | (refine LeR.view rfl rfl rfl ?_ ?_) | (refine LeR.ro ?_) | (refine LeR.roCap ?_) | (refine LeR.nil ?_ (fun _ => rfl)))) | ((with_reducible refine LeF.chk ?_); (conv => whnf)) | (with_reducible assumption) | ((with_reducible refine Run.mk ?_); (conv => whnf)) | ((with_reducible show drawOK _ _ = true); kernel_rfl) | ((with_reducible show drawOK2 _ _ = true); kernel_rfl) | ((with_reducible show drawOK3 _ _ = true); kernel_rfl))
  · rename_i hlt heq
    have heq : ((((Utf8.decode l pos).1 : Nat) : Int) == r) = true := heq
    rw [hpos, signsFrom_step hlt, List.any_cons, heq]
    rfl
  · rename_i hlt heq
    have heq : ((((Utf8.decode l pos).1 : Nat) : Int) == r) = false := heq
    refine ⟨pos + (Utf8.decode l pos).2, ⟨?_, ?_⟩, Wk.chk ?_⟩
    · rw [hpos, signsFrom_step hlt, List.any_cons, heq]
      rfl
    · have := width_pos l pos
      dsimp only
      omega
    · ((conv => whnf); repeat' (first | (with_reducible exact fun h => h) | (with_reducible refine ExE.row (by with_unfolding_all rfl) ?_) | (with_reducible refine And.intro ?_ ?_) | ((with_reducible intro hq); first | (exact bne1 hq (by with_reducible assumption)) | (exact bne1 (by with_reducible assumption) hq) | ((simp only [*, Bool.and_true, Bool.true_and, Bool.and_false, Bool.false_and, Bool.or_true, Bool.true_or, Bool.or_false, Bool.false_or, Bool.not_true, Bool.not_false, Bool.true_eq_false, Bool.false_eq_true, cond_true, cond_false, Bool.cond_self, reduceCtorEq] at hq); done) | (revert hq; with_reducible intro _)) | (with_reducible exact True.intro) | (with_reducible rfl) | ((with_reducible refine WkX.chk ?_); (conv => whnf)) | ((with_reducible refine Wk.chk ?_); (conv => whnf)) | (with_reducible refine EntLe.row ?_) | (with_reducible exact LeN.ro rfl) | (with_reducible exact LeN.rptr) | ((with_reducible refine LeL.chk ?_); (conv => whnf)) | ((with_reducible show LeO _ _); (first | (refine LeO.ro ?_) | (refine LeO.roCap ?_) | (refine LeO.nil ?_ (fun _ => rfl)))) | ((with_reducible show LeR _ _ _); (first | (refine LeR.own rfl rfl rfl ?_) | (refine LeR.view rfl rfl rfl ?_ ?_) | (refine LeR.ro ?_) | (refine LeR.roCap ?_) | (refine LeR.nil ?_ (fun _ => rfl)))) | ((with_reducible refine LeF.chk ?_); (conv => whnf)) | (with_reducible assumption) | ((with_reducible refine Run.mk ?_); (conv => whnf)) | ((with_reducible show drawOK _ _ = true); kernel_rfl) | ((with_reducible show drawOK2 _ _ = true); kernel_rfl) | ((with_reducible show drawOK3 _ _ = true); kernel_rfl)))
  · rename_i hlt
    rw [hpos, signsFrom_end hlt]
    rfl
end Go.SX.Try
/- Clusters, told plainly: the way the program goes about it. No program here. -/
namespace Go.SX.Plain

structure Clu where
  «at» : Int
  len : Int
  frm : Int
  to : Int
  cells : Int
  deriving DecidableEq
structure Grp where
  c : Clu
  first : Int
  last : Int
  arrow : Bool
def Grp.zero : Grp := ⟨⟨0, 0, 0, 0, 0⟩, 0, 0, false⟩
def takesB (g : Grp) (r : Int) : Bool :=
  if widthI r = 0 ∧ controlB r = false then !controlB g.first
  else if flagB r = true then flagB g.first && decide (g.c.to - g.c.frm = 1)
  else decide (widthI r = 2) && decide (g.last = 0x200D) && decide (widthI g.first = 2)
def addG (g : Grp) (r n : Int) : Grp :=
  if g.c.to = g.c.frm then ⟨⟨g.c.at, g.c.len + n, g.c.frm, g.c.to + 1, widthI r⟩, r, r, decide (0x2190 ≤ r) && decide (r ≤ 0x2BFF)⟩
  else if flagB r = true ∨ (g.arrow = true ∧ r = 0xFE0F) then ⟨⟨g.c.at, g.c.len + n, g.c.frm, g.c.to + 1, 2⟩, g.first, r, g.arrow⟩
  else ⟨⟨g.c.at, g.c.len + n, g.c.frm, g.c.to + 1, g.c.cells⟩, g.first, r, g.arrow⟩
/-- A sign that stood from at up to e: what is told now; the group behind it. -/
def signOut (begun : Bool) (g : Grp) (was : Int) : List Clu := if begun = true ∧ takesB g was = false then [g.c] else []
def signGrp (begun : Bool) (g : Grp) (at' was e : Int) : Grp :=
  if begun = true ∧ takesB g was = false then addG ⟨⟨at', 0, g.c.to, g.c.to, 0⟩, 0, 0, false⟩ was (e - at') else addG g was (e - at')
/-- What is still told, from a place on. -/
def restGo (s : ByteArray) : Nat → Nat → Int → Int → Bool → Grp → List Clu
  | 0, _, at', was, begun, g => if s.size = 0 then [] else signOut begun g was ++ [(signGrp begun g at' was s.size).c]
  | k + 1, pos, at', was, begun, g =>
    if pos < s.size then
      if 0 < pos then signOut begun g was ++ restGo s k (pos + (Utf8.decode s pos).2) pos (Utf8.decode s pos).1 true (signGrp begun g at' was pos)
      else restGo s k (pos + (Utf8.decode s pos).2) pos (Utf8.decode s pos).1 begun g
    else if s.size = 0 then [] else signOut begun g was ++ [(signGrp begun g at' was s.size).c]
theorem restGo_fuel (s : ByteArray) : ∀ (k k' pos : Nat) (at' was : Int) (begun : Bool) (g : Grp), s.size - pos ≤ k → s.size - pos ≤ k' → restGo s k pos at' was begun g = restGo s k' pos at' was begun g
  | 0, 0, _, _, _, _, _, _, _ => rfl
  | 0, k' + 1, pos, _, _, _, _, h, _ => by simp only [restGo]; rw [if_neg (show ¬ pos < s.size by omega)]
  | k + 1, 0, pos, _, _, _, _, _, h => by simp only [restGo]; rw [if_neg (show ¬ pos < s.size by omega)]
  | k + 1, k' + 1, pos, at', was, begun, g, h, h' => by
    simp only [restGo]
    split
    · have := width_pos s pos
      rw [restGo_fuel s k k' _ _ _ true _ (by omega) (by omega), restGo_fuel s k k' _ _ _ begun _ (by omega) (by omega)]
    · rfl
def rest (s : ByteArray) (pos : Nat) (at' was : Int) (begun : Bool) (g : Grp) : List Clu := restGo s (s.size - pos) pos at' was begun g
theorem rest_end {s : ByteArray} {pos : Nat} (h : ¬ pos < s.size) (at' was : Int) (begun : Bool) (g : Grp) : rest s pos at' was begun g = if s.size = 0 then [] else signOut begun g was ++ [(signGrp begun g at' was s.size).c] := by
  unfold rest
  rw [show s.size - pos = 0 by omega]
  rfl
theorem rest_step {s : ByteArray} {pos : Nat} (h : pos < s.size) (at' was : Int) (begun : Bool) (g : Grp) : rest s pos at' was begun g =
    if 0 < pos then signOut begun g was ++ rest s (pos + (Utf8.decode s pos).2) pos (Utf8.decode s pos).1 true (signGrp begun g at' was pos)
    else rest s (pos + (Utf8.decode s pos).2) pos (Utf8.decode s pos).1 begun g := by
  unfold rest
  obtain ⟨k, hk⟩ : ∃ k, s.size - pos = k + 1 := ⟨s.size - pos - 1, by omega⟩
  rw [hk]
  simp only [restGo]
  rw [if_pos h]
  have := width_pos s pos
  rw [restGo_fuel s k (s.size - (pos + (Utf8.decode s pos).2)) _ _ _ true _ (by omega) (Nat.le_refl _), restGo_fuel s k (s.size - (pos + (Utf8.decode s pos).2)) _ _ _ begun _ (by omega) (Nat.le_refl _)]
def clusters (s : ByteArray) : List Clu := rest s 0 0 0 false Grp.zero
end Go.SX.Plain
/- The parts of a text, told plainly. No program here. -/
namespace Go.SX.Plain

structure Part where
  c : Clu
  first : Int
  fin : Bool
  blank : Bool
  wide : Bool
  dash : Bool
  opening : Bool
  closing : Bool
def blanks : ByteArray := { data := #[9, 32, 225, 154, 128, 226, 129, 159, 227, 128, 128] }
def dashes : ByteArray := { data := #[45, 226, 128, 144, 226, 128, 146, 226, 128, 147, 226, 128, 148] }
def openings : ByteArray := { data := #[40, 91, 123, 227, 128, 136, 227, 128, 138, 227, 128, 140, 227, 128, 142, 227, 128, 144, 227, 128, 148, 239, 188, 136, 239, 188, 187, 239, 189, 155] }
def closings : ByteArray := { data := #[33, 41, 44, 46, 58, 59, 63, 93, 125, 227, 128, 129, 227, 128, 130, 227, 128, 137, 227, 128, 139, 227, 128, 141, 227, 128, 143, 227, 128, 145, 227, 128, 149, 227, 131, 188, 239, 188, 129, 239, 188, 137, 239, 188, 140, 239, 188, 142, 239, 188, 154, 239, 188, 155, 239, 188, 159, 239, 188, 189, 239, 189, 157] }
def firstOf (s : ByteArray) (c : Clu) : Int := if 0 < (s.extract c.at.toNat (c.at + c.len).toNat).size then (Utf8.decode (s.extract c.at.toNat (c.at + c.len).toNat) 0).1 else 0
def blankB (r : Int) : Bool := oneB r blanks || (decide (0x2000 ≤ r) && decide (r ≤ 0x2006)) || (decide (0x2008 ≤ r) && decide (r ≤ 0x200A))
def partOfR (c : Clu) (r : Int) : Part := ⟨c, r, r == 10, blankB r, (c.cells == 2) && !blankB r, oneB r dashes, oneB r openings, oneB r closings⟩
def partOf (s : ByteArray) (c : Clu) : Part := partOfR c (firstOf s c)
def parts (s : ByteArray) : List Part := (clusters s).map (partOf s)
def preG (begun : Bool) (g : Grp) (at' was : Int) : Grp := if begun = true ∧ takesB g was = false then ⟨⟨at', 0, g.c.to, g.c.to, 0⟩, 0, 0, false⟩ else g
theorem signGrp_eq (begun : Bool) (g : Grp) (at' was e : Int) : signGrp begun g at' was e = addG (preG begun g at' was) was (e - at') := by unfold signGrp preG; split <;> rfl
theorem takes_1 {a b c d e f l : Int} {ar : Bool} {r : Int} (h : (widthI r == 0 && !controlB r) = true) : (!controlB f) = takesB ⟨⟨a, b, c, d, e⟩, f, l, ar⟩ r := by
  simp only [Bool.and_eq_true, beq_iff_eq, Bool.not_eq_true'] at h
  unfold takesB; rw [if_pos h]
theorem takes_n {r : Int} (h : (widthI r == 0 && !controlB r) = false ∨ (widthI r == 0) = false) : ¬ (widthI r = 0 ∧ controlB r = false) := by
  rintro ⟨h1, h2⟩
  rcases h with h | h <;> simp [h1, h2] at h
theorem takes_2 {a b c d e f l : Int} {ar : Bool} {r : Int} (h : (widthI r == 0 && !controlB r) = false ∨ (widthI r == 0) = false) (hf : flagB r = true) : (flagB f && d - c == 1) = takesB ⟨⟨a, b, c, d, e⟩, f, l, ar⟩ r := by
  unfold takesB; rw [if_neg (takes_n h), if_pos hf, Bool.eq_iff_iff]; simp
theorem takes_3 {a b c d e f l : Int} {ar : Bool} {r : Int} (h : (widthI r == 0 && !controlB r) = false ∨ (widthI r == 0) = false) (hf : flagB r = false) : (widthI r == 2 && l == 8205 && widthI f == 2) = takesB ⟨⟨a, b, c, d, e⟩, f, l, ar⟩ r := by
  unfold takesB; rw [if_neg (takes_n h), if_neg (by simp [hf]), Bool.eq_iff_iff]; simp
theorem takes_4 {a b c d e f l : Int} {ar : Bool} {r : Int} (h : (widthI r == 0 && !controlB r) = false ∨ (widthI r == 0) = false) (hf : flagB r = false) (h2 : (widthI r == 2 && l == 8205) = false) : (bif widthI r == 2 && l == 8205 then false else false) = takesB ⟨⟨a, b, c, d, e⟩, f, l, ar⟩ r := by
  rw [← takes_3 h hf, h2]; rfl
theorem add_1 {a b c d e f l : Int} {ar : Bool} {r n : Int} (h : (d == c) = true) : addG ⟨⟨a, b, c, d, e⟩, f, l, ar⟩ r n = ⟨⟨a, b + n, c, d + 1, widthI r⟩, r, r, decide (0x2190 ≤ r) && decide (r ≤ 0x2BFF)⟩ := by
  unfold addG; rw [if_pos (by simpa using h)]
theorem add_2 {a b c d e f l : Int} {ar : Bool} {r n : Int} (h : (d == c) = false) (h2 : (flagB r || ar && r == 65039) = true) : addG ⟨⟨a, b, c, d, e⟩, f, l, ar⟩ r n = ⟨⟨a, b + n, c, d + 1, 2⟩, f, r, ar⟩ := by
  unfold addG; rw [if_neg (by simpa using h), if_pos (by simpa using h2)]
theorem add_3 {a b c d e f l : Int} {ar : Bool} {r n : Int} (h : (d == c) = false) (h2 : (flagB r || ar && r == 65039) = false) : addG ⟨⟨a, b, c, d, e⟩, f, l, ar⟩ r n = ⟨⟨a, b + n, c, d + 1, e⟩, f, r, ar⟩ := by
  unfold addG; rw [if_neg (by simpa using h), if_neg (by simpa using h2)]
theorem add_inj {a b c d e f l : Int} {ar : Bool} {r n : Int} {a2 b2 c2 d2 e2 f2 l2 : Int} {r2 : Bool} (h : addG ⟨⟨a, b, c, d, e⟩, f, l, ar⟩ r n = ⟨⟨a2, b2, c2, d2, e2⟩, f2, l2, r2⟩) :
    ((d == c) = true → widthI r = e2 ∧ r = f2 ∧ r = l2 ∧ (decide (0x2190 ≤ r) && decide (r ≤ 0x2BFF)) = r2) ∧
    ((d == c) = false → (flagB r || ar && r == 65039) = true → 2 = e2 ∧ f = f2 ∧ r = l2 ∧ ar = r2) ∧
    ((d == c) = false → (flagB r || ar && r == 65039) = false → e = e2 ∧ f = f2 ∧ r = l2 ∧ ar = r2) := by
  refine ⟨fun h1 => ?_, fun h1 h2 => ?_, fun h1 h2 => ?_⟩
  · rw [add_1 h1] at h; simp only [Grp.mk.injEq, Clu.mk.injEq] at h; exact ⟨h.1.2.2.2.2, h.2⟩
  · rw [add_2 h1 h2] at h; simp only [Grp.mk.injEq, Clu.mk.injEq] at h; exact ⟨h.1.2.2.2.2, h.2⟩
  · rw [add_3 h1 h2] at h; simp only [Grp.mk.injEq, Clu.mk.injEq] at h; exact ⟨h.1.2.2.2.2, h.2⟩
theorem out_1 {b : Bool} {g : Grp} {r : Int} (h : (b && !takesB g r) = true) : signOut b g r = [g.c] := by
  unfold signOut; rw [if_pos (by simpa using h)]
theorem out_0 {b : Bool} {g : Grp} {r : Int} (h : (b && !takesB g r) = false ∨ b = false) : signOut b g r = [] := by
  unfold signOut; rw [if_neg (by rcases h with h | h <;> simp_all)]
theorem pre_1 {b : Bool} {g : Grp} {a r : Int} (h : (b && !takesB g r) = true) : preG b g a r = ⟨⟨a, 0, g.c.to, g.c.to, 0⟩, 0, 0, false⟩ := by
  unfold preG; rw [if_pos (by simpa using h)]
theorem pre_0 {b : Bool} {g : Grp} {a r : Int} (h : (b && !takesB g r) = false ∨ b = false) : preG b g a r = g := by
  unfold preG; rw [if_neg (by rcases h with h | h <;> simp_all)]
/-- Where the going over stands. -/
structure St40 where
  pos : Nat
  «at» : Int
  was : Int
  begun : Bool
  g : Grp
  l : List Part
def St40.next (s : ByteArray) (i : St40) : St40 :=
  if 0 < i.pos then ⟨i.pos + (Utf8.decode s i.pos).2, i.pos, (Utf8.decode s i.pos).1, true, signGrp i.begun i.g i.at i.was i.pos, i.l ++ (signOut i.begun i.g i.was).map (partOf s)⟩
  else ⟨i.pos + (Utf8.decode s i.pos).2, i.pos, (Utf8.decode s i.pos).1, i.begun, i.g, i.l⟩
structure Inv40 (s : ByteArray) (i : St40) : Prop where
  start : i.pos = 0 → i.begun = false ∧ i.g = Grp.zero ∧ i.at = 0 ∧ i.l = []
  low : 0 < i.pos → 0 ≤ i.at ∧ i.at < i.pos
  place : 0 ≤ i.g.c.at ∧ 0 ≤ i.g.c.len ∧ i.g.c.at + i.g.c.len = i.at
  signs : 0 ≤ i.g.c.frm ∧ i.g.c.frm ≤ i.g.c.to ∧ i.g.c.to ≤ i.at
  full : i.begun = true → i.g.c.frm < i.g.c.to
  told : (i.l.length : Int) ≤ i.g.c.frm
  all : parts s = i.l ++ (rest s i.pos i.at i.was i.begun i.g).map (partOf s)
  bound : i.pos ≤ s.size
theorem Inv40.zero (s : ByteArray) : Inv40 s ⟨0, 0, 0, false, Grp.zero, []⟩ :=
  ⟨fun _ => ⟨rfl, rfl, rfl, rfl⟩, fun h => absurd h (Nat.lt_irrefl _), by simp [Grp.zero], by simp [Grp.zero], by simp, by simp [Grp.zero], by simp [parts, clusters], Nat.zero_le _⟩
theorem width_le {s : ByteArray} {pos : Nat} (h : pos < s.size) : pos + (Utf8.decode s pos).2 ≤ s.size := by
  unfold Utf8.decode
  simp only
  split
  · simp; omega
  · split
    · rename_i h1
      simp only [Bool.and_eq_true, decide_eq_true_eq] at h1
      split <;> simp only <;> omega
    · split
      · rename_i h1
        simp only [Bool.and_eq_true, decide_eq_true_eq] at h1
        split <;> simp only <;> omega
      · split
        · rename_i h1
          simp only [Bool.and_eq_true, decide_eq_true_eq] at h1
          split <;> simp only <;> omega
        · simp only; omega
theorem addG_c (g : Grp) (r n : Int) : (addG g r n).c.at = g.c.at ∧ (addG g r n).c.len = g.c.len + n ∧ (addG g r n).c.frm = g.c.frm ∧ (addG g r n).c.to = g.c.to + 1 := by
  unfold addG
  split
  · exact ⟨rfl, rfl, rfl, rfl⟩
  · split <;> exact ⟨rfl, rfl, rfl, rfl⟩
theorem Inv40.next {s : ByteArray} {i : St40} (h : Inv40 s i) (hp : i.pos < s.size) : Inv40 s (i.next s) := by
  have hw := width_pos s i.pos
  have hl := width_le hp
  obtain ⟨start, low, place, signs, full, told, all, bound⟩ := h
  unfold St40.next
  by_cases h0 : 0 < i.pos
  · rw [if_pos h0]
    obtain ⟨l1, l2⟩ := low h0
    have hrest := rest_step hp i.at i.was i.begun i.g
    rw [if_pos h0] at hrest
    obtain ⟨p1, p2, p3⟩ := place
    obtain ⟨s1, s2, s3⟩ := signs
    by_cases hc : i.begun = true ∧ takesB i.g i.was = false
    · have hg : signGrp i.begun i.g i.at i.was i.pos = addG ⟨⟨i.at, 0, i.g.c.to, i.g.c.to, 0⟩, 0, 0, false⟩ i.was (i.pos - i.at) := by unfold signGrp; rw [if_pos hc]
      have ho : signOut i.begun i.g i.was = [i.g.c] := by unfold signOut; rw [if_pos hc]
      obtain ⟨a1, a2, a3, a4⟩ := addG_c ⟨⟨i.at, 0, i.g.c.to, i.g.c.to, 0⟩, 0, 0, false⟩ i.was (i.pos - i.at)
      simp only at a1 a2 a3 a4
      have hf := full hc.1
      refine ⟨fun h => ?_, fun _ => ?_, ?_, ?_, fun _ => ?_, ?_, ?_, hl⟩
      · simp only at h; omega
      · simp only; omega
      · simp only [hg, a1, a2]; omega
      · simp only [hg, a3, a4]; omega
      · simp only [hg, a3, a4]; omega
      · simp only [hg, a3, ho, List.length_append, List.length_map, List.length_cons, List.length_nil]; omega
      · simp only; rw [all, hrest, List.map_append, List.append_assoc]
    · have hg : signGrp i.begun i.g i.at i.was i.pos = addG i.g i.was (i.pos - i.at) := by unfold signGrp; rw [if_neg hc]
      have ho : signOut i.begun i.g i.was = [] := by unfold signOut; rw [if_neg hc]
      obtain ⟨a1, a2, a3, a4⟩ := addG_c i.g i.was (i.pos - i.at)
      refine ⟨fun h => ?_, fun _ => ?_, ?_, ?_, fun _ => ?_, ?_, ?_, hl⟩
      · simp only at h; omega
      · simp only; omega
      · simp only [hg, a1, a2]; omega
      · simp only [hg, a3, a4]; omega
      · simp only [hg, a3, a4]; omega
      · simp only [hg, a3, ho, List.length_append, List.length_map, List.length_nil]; omega
      · simp only; rw [all, hrest, List.map_append, List.append_assoc]
  · rw [if_neg h0]
    obtain ⟨b1, b2, b3, b4⟩ := start (by omega)
    have hrest := rest_step hp i.at i.was i.begun i.g
    rw [if_neg h0] at hrest
    refine ⟨fun h => ?_, fun _ => ?_, ?_, ?_, fun h => ?_, told, ?_, hl⟩
    · simp only at h; omega
    · simp only; omega
    · simp only [b2, Grp.zero]; omega
    · simp only [b2, Grp.zero]; omega
    · simp only [b1] at h; cases h
    · simp only; rw [all, hrest]
theorem Inv40.pre {s : ByteArray} {i : St40} (h : Inv40 s i) (hp : 0 < i.pos) {g : Grp} (hg : g = preG i.begun i.g i.at i.was) :
    0 ≤ g.c.at ∧ 0 ≤ g.c.len ∧ g.c.at + g.c.len = i.at ∧ 0 ≤ g.c.frm ∧ g.c.frm ≤ g.c.to ∧ g.c.to ≤ i.at := by
  obtain ⟨l1, l2⟩ := h.low hp
  obtain ⟨p1, p2, p3⟩ := h.place
  obtain ⟨s1, s2, s3⟩ := h.signs
  subst hg
  unfold preG
  split
  · simp only; omega
  · omega
theorem St40.next_pos {s : ByteArray} {i : St40} (hp : 0 < i.pos) {g : Grp} {l : List Part} (hg : g = preG i.begun i.g i.at i.was) (hl : l = i.l ++ (signOut i.begun i.g i.was).map (partOf s)) :
    i.next s = ⟨i.pos + (Utf8.decode s i.pos).2, i.pos, (Utf8.decode s i.pos).1, true, addG g i.was (i.pos - i.at), l⟩ := by
  unfold St40.next
  rw [if_pos hp, signGrp_eq, ← hg, ← hl]
theorem St40.next_zero {s : ByteArray} {i : St40} (hp : ¬ 0 < i.pos) : i.next s = ⟨i.pos + (Utf8.decode s i.pos).2, i.pos, (Utf8.decode s i.pos).1, i.begun, i.g, i.l⟩ := by
  unfold St40.next
  rw [if_neg hp]
theorem St40.next_lt {s : ByteArray} {i : St40} (hp : i.pos < s.size) : s.size - (i.next s).pos < s.size - i.pos := by
  have := width_pos s i.pos
  unfold St40.next
  split <;> simp only <;> omega
end Go.SX.Plain
/- Contract of wrap's parts. -/
namespace Go.SX.Try
open Go.Proofs Go.Proofs.Try Go.SX.Plain
set_option maxRecDepth 100000
set_option maxHeartbeats 0
set_option linter.unusedSimpArgs false
def C_part : Cdc Part where
  size := 12
  enc p := [.v (.int .i64 p.c.at), .v (.int .i64 p.c.len), .v (.int .i64 p.c.frm), .v (.int .i64 p.c.to), .v (.int .i64 p.c.cells), .v (.int .i32 p.first), .sb p.fin, .sb p.blank, .sb p.wide, .sb p.dash, .sb p.opening, .sb p.closing]
  dec l := match l with
    | [.v (.int _ a), .v (.int _ b), .v (.int _ c), .v (.int _ d), .v (.int _ e), .v (.int _ f), g, h, i, j, k, l] => ⟨⟨a, b, c, d, e⟩, f, bOf g, bOf h, bOf i, bOf j, bOf k, bOf l⟩
    | _ => ⟨⟨0, 0, 0, 0, 0⟩, 0, false, false, false, false, false, false⟩
  d := ⟨⟨0, 0, 0, 0, 0⟩, 0, false, false, false, false, false, false⟩
def D_part : Cds := [(80, ⟨Part, C_part⟩)]
theorem D_part_ok : CdsOK T D_part := .cons ⟨fun _ => rfl, by decide, _, rfl, rfl, by decide⟩ .nil
theorem q_parts : fact 40 f40 := ⟨by kernel_rfl, rfl, by kernel_rfl⟩
theorem q_clusters : fact 62 f62 := ⟨by kernel_rfl, rfl, by kernel_rfl⟩
theorem q_clusters1 : fact 87 f87 := ⟨by kernel_rfl, rfl, by kernel_rfl⟩
theorem q_clusters11 : fact 88 f88 := ⟨by kernel_rfl, rfl, by kernel_rfl⟩
theorem q_takes : fact 89 f89 := ⟨by kernel_rfl, rfl, by kernel_rfl⟩
theorem q_add : fact 90 f90 := ⟨by kernel_rfl, rfl, by kernel_rfl⟩
def gAV : Grp → List AV
  | ⟨⟨a, b, c, d, e⟩, f, l, r⟩ => [.v (.int .i64 a), .v (.int .i64 b), .v (.int .i64 c), .v (.int .i64 d), .v (.int .i64 e), .v (.int .i32 f), .v (.int .i32 l), .sb r]
def gAV' (g : Grp) : List AV := [.v (.int .i64 g.c.at), .v (.int .i64 g.c.len), .v (.int .i64 g.c.frm), .v (.int .i64 g.c.to), .v (.int .i64 g.c.cells), .v (.int .i32 g.first), .v (.int .i32 g.last), .sb g.arrow]
def takesS (rest cs : List AV) : AV × List AV := match rest, cs with
  | [.v (.int _ r)], [.v (.int _ a), .v (.int _ b), .v (.int _ c), .v (.int _ d), .v (.int _ e), .v (.int _ f), .v (.int _ l), ar] => (.sb (takesB ⟨⟨a, b, c, d, e⟩, f, l, bOf ar⟩ r), cs)
  | _, _ => (.junk, cs)
def addS (rest cs : List AV) : AV × List AV := match rest, cs with
  | [.v (.int _ r), .v (.int _ n)], [.v (.int _ a), .v (.int _ b), .v (.int _ c), .v (.int _ d), .v (.int _ e), .v (.int _ f), .v (.int _ l), ar] => (.tup [], gAV' (addG ⟨⟨a, b, c, d, e⟩, f, l, bOf ar⟩ r n))
  | _, _ => (.junk, cs)
theorem con_parts : Con prog 40 (fun s : ByteArray => [.v (.string s)]) (fun s => .ro 12 C_part.enc C_part.d (parts s) none) (fun s => s.size ≤ 2000000) := by
  refine Con.of (by kernel_rfl) T_ok D_part_ok (.inl (J := []) q_clusters.1 q_clusters.2.1 q_clusters.2.2 (.inl (J := []) q_clusters1.1 q_clusters1.2.1 q_clusters1.2.2 (.inl (J := [5]) q_clusters11.1 q_clusters11.2.1 q_clusters11.2.2
    (.meth (J := []) takesS q_takes.1 q_takes.2.1 q_takes.2.2 (.meth (J := []) addS q_add.1 q_add.2.1 q_add.2.2
    (.con con_one (.con con_width (.con con_control (.con con_flag .nil))))))))) 9 [] q_parts.1 q_parts.2.1 q_parts.2.2 (fun _ => rfl) fun s hs => ?_
  repeat' (first | (with_reducible exact fun h => h) | (with_reducible refine ExE.row (by with_unfolding_all rfl) ?_) | (with_reducible refine And.intro ?_ ?_) | ((with_reducible intro hq); first | (exact bne1 hq (by with_reducible assumption)) | (exact bne1 (by with_reducible assumption) hq) | ((simp only [*, Bool.and_true, Bool.true_and, Bool.and_false, Bool.false_and, Bool.or_true, Bool.true_or, Bool.or_false, Bool.false_or, Bool.not_true, Bool.not_false, Bool.true_eq_false, Bool.false_eq_true, cond_true, cond_false, Bool.cond_self, reduceCtorEq] at hq); done) | (revert hq; with_reducible intro _)) | (with_reducible exact True.intro) | (with_reducible rfl) | ((with_reducible refine WkX.chk ?_); (conv => whnf)) | ((with_reducible refine Wk.chk ?_); (conv => whnf)) | (with_reducible refine EntLe.row ?_) | (with_reducible exact LeN.ro rfl) | (with_reducible exact LeN.rptr) | ((with_reducible refine LeL.chk ?_); (conv => whnf)) | ((with_reducible show LeO _ _); (first | (refine LeO.ro ?_) | (refine LeO.roCap ?_) | (refine LeO.nil ?_ (fun _ => rfl)))) | ((with_reducible show LeR _ _ _); (first | (refine LeR.own rfl rfl rfl ?_) | (refine LeR.view rfl rfl rfl ?_ ?_) | (refine LeR.ro ?_) | (refine LeR.roCap ?_) | (refine LeR.nil ?_ (fun _ => rfl)))) | ((with_reducible refine LeF.chk ?_); (conv => whnf)) | (with_reducible assumption) | ((with_reducible refine Run.mk ?_); (conv => whnf)) | ((with_reducible show drawOK _ _ = true); kernel_rfl) | ((with_reducible show drawOK2 _ _ = true); kernel_rfl) | ((with_reducible show drawOK3 _ _ = true); kernel_rfl))
  refine loopI St40 [] (fun _ => []) (fun | ⟨pos, at', was, begun, g, l⟩ => [(12, .iter s pos), (11, .box [.sb begun] 4), (10, .box [.v (.int .i32 was)] 21), (9, .box [.v (.int .i64 at')] 3), (8, .box (gAV g) 147), (2, .row C_part l 80 none)])
    (Inv40 s) (fun i => s.size - i.pos) ⟨0, 0, 0, false, Grp.zero, []⟩ (Inv40.zero s) (Wk.chk ?_) fun i hi => ?_
  · ((conv => whnf); repeat' (first | (with_reducible exact fun h => h) | (with_reducible refine ExE.row (by with_unfolding_all rfl) ?_) | (with_reducible refine And.intro ?_ ?_) | ((with_reducible intro hq); first | (exact bne1 hq (by with_reducible assumption)) | (exact bne1 (by with_reducible assumption) hq) | ((simp only [*, Bool.and_true, Bool.true_and, Bool.and_false, Bool.false_and, Bool.or_true, Bool.true_or, Bool.or_false, Bool.false_or, Bool.not_true, Bool.not_false, Bool.true_eq_false, Bool.false_eq_true, cond_true, cond_false, Bool.cond_self, reduceCtorEq] at hq); done) | (revert hq; with_reducible intro _)) | (with_reducible exact True.intro) | (with_reducible rfl) | ((with_reducible refine WkX.chk ?_); (conv => whnf)) | ((with_reducible refine Wk.chk ?_); (conv => whnf)) | (with_reducible refine EntLe.row ?_) | (with_reducible exact LeN.ro rfl) | (with_reducible exact LeN.rptr) | ((with_reducible refine LeL.chk ?_); (conv => whnf)) | ((with_reducible show LeO _ _); (first | (refine LeO.ro ?_) | (refine LeO.roCap ?_) | (refine LeO.nil ?_ (fun _ => rfl)))) | ((with_reducible show LeR _ _ _); (first | (refine LeR.own rfl rfl rfl ?_) | (refine LeR.view rfl rfl rfl ?_ ?_) | (refine LeR.ro ?_) | (refine LeR.roCap ?_) | (refine LeR.nil ?_ (fun _ => rfl)))) | ((with_reducible refine LeF.chk ?_); (conv => whnf)) | (with_reducible assumption) | ((with_reducible refine Run.mk ?_); (conv => whnf)) | ((with_reducible show drawOK _ _ = true); kernel_rfl) | ((with_reducible show drawOK2 _ _ = true); kernel_rfl) | ((with_reducible show drawOK3 _ _ = true); kernel_rfl)))
    all_goals rfl
  obtain ⟨pos, at', was, begun, ⟨⟨ca, cl, cf, ct, cc⟩, gf, gl, ga⟩, l⟩ := i
  repeat' (first | (with_reducible refine ⟨_, ⟨.cons (.v _) .nil, trivial⟩, ?_⟩) | (with_reducible refine ⟨(_, _), ⟨.cons (.v _) (.cons (.v _) .nil), trivial⟩, ?_⟩) | (with_reducible refine loopI Unit [] (fun _ => []) (fun _ => []) (fun _ => True) (fun _ => 0) () trivial ?_ fun _ _ => ?_) | (with_reducible exact fun h => h) | (with_reducible refine ExE.row (by with_unfolding_all rfl) ?_) | (with_reducible refine And.intro ?_ ?_) | ((with_reducible intro hq); first | (exact bne1 hq (by with_reducible assumption)) | (exact bne1 (by with_reducible assumption) hq) | ((simp only [*, Bool.and_true, Bool.true_and, Bool.and_false, Bool.false_and, Bool.or_true, Bool.true_or, Bool.or_false, Bool.false_or, Bool.not_true, Bool.not_false, Bool.true_eq_false, Bool.false_eq_true, cond_true, cond_false, Bool.cond_self, reduceCtorEq] at hq); done) | (revert hq; with_reducible intro _)) | (with_reducible exact True.intro) | (with_reducible rfl) | ((with_reducible refine WkX.chk ?_); (conv => whnf)) | ((with_reducible refine Wk.chk ?_); (conv => whnf)) | (with_reducible refine EntLe.row ?_) | (with_reducible exact LeN.ro rfl) | (with_reducible exact LeN.rptr) | ((with_reducible refine LeL.chk ?_); (conv => whnf)) | ((with_reducible show LeO _ _); (first | (refine LeO.ro ?_) | (refine LeO.roCap ?_) | (refine LeO.nil ?_ (fun _ => rfl)))) | ((with_reducible show LeR _ _ _); (first | (refine LeR.own rfl rfl rfl ?_) | (refine LeR.view rfl rfl rfl ?_ ?_) | (refine LeR.ro ?_) | (refine LeR.roCap ?_) | (refine LeR.nil ?_ (fun _ => rfl)))) | ((with_reducible refine LeF.chk ?_); (conv => whnf)) | (with_reducible assumption) | ((with_reducible refine Run.mk ?_); (conv => whnf)) | ((with_reducible show drawOK _ _ = true); kernel_rfl) | ((with_reducible show drawOK2 _ _ = true); kernel_rfl) | ((with_reducible show drawOK3 _ _ = true); kernel_rfl))
  · have low' : 0 < pos := by simp_all
    have hi' := hi
    obtain ⟨start, low, place, signs, full, told, all, bound⟩ := hi'
    have low := low low'
    dsimp only at low place signs full told bound
    refine joinI (Grp × List Part) [] (fun _ => []) (fun | (g, l) => [(8, .box (gAV g) 147), (2, .row C_part l 80 none)]) (fun j => j = (preG begun ⟨⟨ca, cl, cf, ct, cc⟩, gf, gl, ga⟩ at' was, l ++ (signOut begun ⟨⟨ca, cl, cf, ct, cc⟩, gf, gl, ga⟩ was).map (partOf s))) ?_ fun j hj => ?_
    ·     cases begun with
      | false =>
        have hp : preG false ⟨⟨ca, cl, cf, ct, cc⟩, gf, gl, ga⟩ at' was = ⟨⟨ca, cl, cf, ct, cc⟩, gf, gl, ga⟩ := rfl
        have ho : signOut false ⟨⟨ca, cl, cf, ct, cc⟩, gf, gl, ga⟩ was = [] := rfl
        rw [hp, ho]
        clear hp ho all hi full start
        repeat' (first | (with_reducible refine ex_eq ?_) | (with_reducible refine ⟨_, ⟨.cons (.v _) .nil, trivial⟩, ?_⟩) | (with_reducible refine ⟨(_, _), ⟨.cons (.v _) (.cons (.v _) .nil), trivial⟩, ?_⟩) | (with_reducible refine loopI Unit [] (fun _ => []) (fun _ => []) (fun _ => True) (fun _ => 0) () trivial ?_ fun _ _ => ?_) | (with_reducible exact fun h => h) | (with_reducible refine ExE.row (by with_unfolding_all rfl) ?_) | (with_reducible refine And.intro ?_ ?_) | ((with_reducible intro hq); first | (exact bne1 hq (by with_reducible assumption)) | (exact bne1 (by with_reducible assumption) hq) | ((simp only [*, Bool.and_true, Bool.true_and, Bool.and_false, Bool.false_and, Bool.or_true, Bool.true_or, Bool.or_false, Bool.false_or, Bool.not_true, Bool.not_false, Bool.true_eq_false, Bool.false_eq_true, cond_true, cond_false, Bool.cond_self, reduceCtorEq] at hq); done) | (revert hq; with_reducible intro _)) | (with_reducible exact True.intro) | (with_reducible rfl) | ((with_reducible refine WkX.chk ?_); (conv => whnf)) | ((with_reducible refine Wk.chk ?_); (conv => whnf)) | (with_reducible refine EntLe.row ?_) | (with_reducible exact LeN.ro rfl) | (with_reducible exact LeN.rptr) | ((with_reducible refine LeL.chk ?_); (conv => whnf)) | ((with_reducible show LeO _ _); (first | (refine LeO.ro ?_) | (refine LeO.roCap ?_) | (refine LeO.nil ?_ (fun _ => rfl)))) | ((with_reducible show LeR _ _ _); (first | (refine LeR.own rfl rfl rfl ?_) | (refine LeR.view rfl rfl rfl ?_ ?_) | (refine LeR.ro ?_) | (refine LeR.roCap ?_) | (refine LeR.nil ?_ (fun _ => rfl)))) | ((with_reducible refine LeF.chk ?_); (conv => whnf)) | (with_reducible assumption) | ((with_reducible refine Run.mk ?_); (conv => whnf)) | ((with_reducible show drawOK _ _ = true); kernel_rfl) | ((with_reducible show drawOK2 _ _ = true); kernel_rfl) | ((with_reducible show drawOK3 _ _ = true); kernel_rfl))
        all_goals (simp only [List.map_nil, List.append_nil]; done)
      | true =>
        cases htk : takesB ⟨⟨ca, cl, cf, ct, cc⟩, gf, gl, ga⟩ was with
        | true =>
          have hp : preG true ⟨⟨ca, cl, cf, ct, cc⟩, gf, gl, ga⟩ at' was = ⟨⟨ca, cl, cf, ct, cc⟩, gf, gl, ga⟩ := by simp [preG, htk]
          have ho : signOut true ⟨⟨ca, cl, cf, ct, cc⟩, gf, gl, ga⟩ was = [] := by simp [signOut, htk]
          rw [hp, ho]
          clear hp ho all hi full start
          repeat' (first | (with_reducible refine ex_eq ?_) | (with_reducible refine ⟨_, ⟨.cons (.v _) .nil, trivial⟩, ?_⟩) | (with_reducible refine ⟨(_, _), ⟨.cons (.v _) (.cons (.v _) .nil), trivial⟩, ?_⟩) | (with_reducible refine loopI Unit [] (fun _ => []) (fun _ => []) (fun _ => True) (fun _ => 0) () trivial ?_ fun _ _ => ?_) | (with_reducible exact fun h => h) | (with_reducible refine ExE.row (by with_unfolding_all rfl) ?_) | (with_reducible refine And.intro ?_ ?_) | ((with_reducible intro hq); first | (exact bne1 hq (by with_reducible assumption)) | (exact bne1 (by with_reducible assumption) hq) | ((simp only [*, Bool.and_true, Bool.true_and, Bool.and_false, Bool.false_and, Bool.or_true, Bool.true_or, Bool.or_false, Bool.false_or, Bool.not_true, Bool.not_false, Bool.true_eq_false, Bool.false_eq_true, cond_true, cond_false, Bool.cond_self, reduceCtorEq] at hq); done) | (revert hq; with_reducible intro _)) | (with_reducible exact True.intro) | (with_reducible rfl) | ((with_reducible refine WkX.chk ?_); (conv => whnf)) | ((with_reducible refine Wk.chk ?_); (conv => whnf)) | (with_reducible refine EntLe.row ?_) | (with_reducible exact LeN.ro rfl) | (with_reducible exact LeN.rptr) | ((with_reducible refine LeL.chk ?_); (conv => whnf)) | ((with_reducible show LeO _ _); (first | (refine LeO.ro ?_) | (refine LeO.roCap ?_) | (refine LeO.nil ?_ (fun _ => rfl)))) | ((with_reducible show LeR _ _ _); (first | (refine LeR.own rfl rfl rfl ?_) | (refine LeR.view rfl rfl rfl ?_ ?_) | (refine LeR.ro ?_) | (refine LeR.roCap ?_) | (refine LeR.nil ?_ (fun _ => rfl)))) | ((with_reducible refine LeF.chk ?_); (conv => whnf)) | (with_reducible assumption) | ((with_reducible refine Run.mk ?_); (conv => whnf)) | ((with_reducible show drawOK _ _ = true); kernel_rfl) | ((with_reducible show drawOK2 _ _ = true); kernel_rfl) | ((with_reducible show drawOK3 _ _ = true); kernel_rfl))
          all_goals (try dsimp only [C_part, bOf])
          all_goals first
            | omega
            | (refine Fits.i64 ?_ ?_ <;> omega)
            | (simp only [signAt]; done)
            | (with_reducible exact takes_1 (by assumption))
            | (with_reducible exact takes_2 (by first | exact .inl (by assumption) | exact .inr (by assumption)) (by assumption))
            | (with_reducible exact takes_3 (by first | exact .inl (by assumption) | exact .inr (by assumption)) (by assumption))
            | (with_reducible exact takes_4 (by first | exact .inl (by assumption) | exact .inr (by assumption)) (by assumption) (by assumption))
            | (simp only [List.map_nil, List.append_nil]; done)
            | ((with_reducible show (_ : Bool) = true); (first | (simp_all only [Bool.and_eq_true, and_self]; done) | (simp only [*, Bool.not_false, Bool.not_true, Bool.and_true, Bool.true_and]; done)))
            | (simp only [List.length_cons, List.length_nil]; omega)
            | skip
          all_goals simp only [List.map_cons, List.map_nil, partOf, firstOf, signAt]
          all_goals split
          all_goals first
            | contradiction
            | (simp only [partOfR, blankB, blanks, dashes, openings, closings]; done)
        | false =>
          have hp : preG true ⟨⟨ca, cl, cf, ct, cc⟩, gf, gl, ga⟩ at' was = ⟨⟨at', 0, ct, ct, 0⟩, 0, 0, false⟩ := by simp [preG, htk]
          have ho : signOut true ⟨⟨ca, cl, cf, ct, cc⟩, gf, gl, ga⟩ was = [⟨ca, cl, cf, ct, cc⟩] := by simp [signOut, htk]
          rw [hp, ho]
          have full := full rfl
          clear hp ho all hi start
          repeat' (first | (with_reducible refine ex_eq ?_) | (with_reducible refine ⟨_, ⟨.cons (.v _) .nil, trivial⟩, ?_⟩) | (with_reducible refine ⟨(_, _), ⟨.cons (.v _) (.cons (.v _) .nil), trivial⟩, ?_⟩) | (with_reducible refine loopI Unit [] (fun _ => []) (fun _ => []) (fun _ => True) (fun _ => 0) () trivial ?_ fun _ _ => ?_) | (with_reducible exact fun h => h) | (with_reducible refine ExE.row (by with_unfolding_all rfl) ?_) | (with_reducible refine And.intro ?_ ?_) | ((with_reducible intro hq); first | (exact bne1 hq (by with_reducible assumption)) | (exact bne1 (by with_reducible assumption) hq) | ((simp only [*, Bool.and_true, Bool.true_and, Bool.and_false, Bool.false_and, Bool.or_true, Bool.true_or, Bool.or_false, Bool.false_or, Bool.not_true, Bool.not_false, Bool.true_eq_false, Bool.false_eq_true, cond_true, cond_false, Bool.cond_self, reduceCtorEq] at hq); done) | (revert hq; with_reducible intro _)) | (with_reducible exact True.intro) | (with_reducible rfl) | ((with_reducible refine WkX.chk ?_); (conv => whnf)) | ((with_reducible refine Wk.chk ?_); (conv => whnf)) | (with_reducible refine EntLe.row ?_) | (with_reducible exact LeN.ro rfl) | (with_reducible exact LeN.rptr) | ((with_reducible refine LeL.chk ?_); (conv => whnf)) | ((with_reducible show LeO _ _); (first | (refine LeO.ro ?_) | (refine LeO.roCap ?_) | (refine LeO.nil ?_ (fun _ => rfl)))) | ((with_reducible show LeR _ _ _); (first | (refine LeR.own rfl rfl rfl ?_) | (refine LeR.view rfl rfl rfl ?_ ?_) | (refine LeR.ro ?_) | (refine LeR.roCap ?_) | (refine LeR.nil ?_ (fun _ => rfl)))) | ((with_reducible refine LeF.chk ?_); (conv => whnf)) | (with_reducible assumption) | ((with_reducible refine Run.mk ?_); (conv => whnf)) | ((with_reducible show drawOK _ _ = true); kernel_rfl) | ((with_reducible show drawOK2 _ _ = true); kernel_rfl) | ((with_reducible show drawOK3 _ _ = true); kernel_rfl))
          all_goals (try dsimp only [C_part, bOf])
          all_goals first
            | omega
            | (refine Fits.i64 ?_ ?_ <;> omega)
            | (simp only [signAt]; done)
            | (with_reducible exact takes_1 (by assumption))
            | (with_reducible exact takes_2 (by first | exact .inl (by assumption) | exact .inr (by assumption)) (by assumption))
            | (with_reducible exact takes_3 (by first | exact .inl (by assumption) | exact .inr (by assumption)) (by assumption))
            | (with_reducible exact takes_4 (by first | exact .inl (by assumption) | exact .inr (by assumption)) (by assumption) (by assumption))
            | (simp only [List.map_nil, List.append_nil]; done)
            | ((with_reducible show (_ : Bool) = true); (first | (simp_all only [Bool.and_eq_true, and_self]; done) | (simp only [*, Bool.not_false, Bool.not_true, Bool.and_true, Bool.true_and]; done)))
            | (simp only [List.length_cons, List.length_nil]; omega)
            | skip
          all_goals simp only [List.map_cons, List.map_nil, partOf, firstOf, signAt]
          all_goals split
          all_goals first
            | contradiction
            | (simp only [partOfR, blankB, blanks, dashes, openings, closings]; done)

    · obtain ⟨g', l'⟩ := j
      obtain ⟨hg, hl⟩ := Prod.mk.inj hj
      obtain ⟨p1, p2, p3, p4, p5, p6⟩ := hi.pre low' hg
      clear hj
      have hnext := St40.next_pos (s := s) (i := ⟨pos, at', was, begun, ⟨⟨ca, cl, cf, ct, cc⟩, gf, gl, ga⟩, l⟩) low' hg hl
      have hinv := hi.next (by assumption)
      have hlt := St40.next_lt (s := s) (i := ⟨pos, at', was, begun, ⟨⟨ca, cl, cf, ct, cc⟩, gf, gl, ga⟩, l⟩) (by assumption)
      rw [hnext] at hinv hlt
      clear hnext hg hl start full told all hi
      obtain ⟨⟨ca, cl, cf, ct, cc⟩, gf, gl, ga⟩ := g'
      dsimp only at p1 p2 p3 p4 p5 p6
      generalize hg2 : addG ⟨⟨ca, cl, cf, ct, cc⟩, gf, gl, ga⟩ was (↑pos - at') = g2 at hinv hlt
      obtain ⟨⟨a2, b2, c2, d2, e2⟩, f2, l2, r2⟩ := g2
      repeat' (first | (with_reducible refine ex_of _ ⟨hinv, hlt⟩ ?_) | (with_reducible refine ⟨_, ⟨.cons (.v _) .nil, trivial⟩, ?_⟩) | (with_reducible refine ⟨(_, _), ⟨.cons (.v _) (.cons (.v _) .nil), trivial⟩, ?_⟩) | (with_reducible refine loopI Unit [] (fun _ => []) (fun _ => []) (fun _ => True) (fun _ => 0) () trivial ?_ fun _ _ => ?_) | (with_reducible exact fun h => h) | (with_reducible refine ExE.row (by with_unfolding_all rfl) ?_) | (with_reducible refine And.intro ?_ ?_) | ((with_reducible intro hq); first | (exact bne1 hq (by with_reducible assumption)) | (exact bne1 (by with_reducible assumption) hq) | ((simp only [*, Bool.and_true, Bool.true_and, Bool.and_false, Bool.false_and, Bool.or_true, Bool.true_or, Bool.or_false, Bool.false_or, Bool.not_true, Bool.not_false, Bool.true_eq_false, Bool.false_eq_true, cond_true, cond_false, Bool.cond_self, reduceCtorEq] at hq); done) | (revert hq; with_reducible intro _)) | (with_reducible exact True.intro) | (with_reducible rfl) | ((with_reducible refine WkX.chk ?_); (conv => whnf)) | ((with_reducible refine Wk.chk ?_); (conv => whnf)) | (with_reducible refine EntLe.row ?_) | (with_reducible exact LeN.ro rfl) | (with_reducible exact LeN.rptr) | ((with_reducible refine LeL.chk ?_); (conv => whnf)) | ((with_reducible show LeO _ _); (first | (refine LeO.ro ?_) | (refine LeO.roCap ?_) | (refine LeO.nil ?_ (fun _ => rfl)))) | ((with_reducible show LeR _ _ _); (first | (refine LeR.own rfl rfl rfl ?_) | (refine LeR.view rfl rfl rfl ?_ ?_) | (refine LeR.ro ?_) | (refine LeR.roCap ?_) | (refine LeR.nil ?_ (fun _ => rfl)))) | ((with_reducible refine LeF.chk ?_); (conv => whnf)) | (with_reducible assumption) | ((with_reducible refine Run.mk ?_); (conv => whnf)) | ((with_reducible show drawOK _ _ = true); kernel_rfl) | ((with_reducible show drawOK2 _ _ = true); kernel_rfl) | ((with_reducible show drawOK3 _ _ = true); kernel_rfl))
      all_goals (try clear hinv hlt)
      all_goals (try dsimp only [bOf])
      all_goals first
        | omega
        | (refine Fits.i64 ?_ ?_ <;> omega)
        | (simp only [signAt]; done)
        | (rw [hg2]; done)
        | (rw [add_1 (by assumption)]; done)
        | (rw [add_2 (by assumption) (by assumption)]; done)
        | (rw [add_3 (by assumption) (by assumption)]; done)
        | ((with_reducible show (_ : Bool) = true); (first | (simp_all only [Bool.and_eq_true, and_self]; done) | (simp only [*, Bool.not_false, Bool.not_true, Bool.and_true, Bool.true_and]; done)))
  · have hnext := St40.next_zero (s := s) (i := ⟨pos, at', was, begun, ⟨⟨ca, cl, cf, ct, cc⟩, gf, gl, ga⟩, l⟩) (by simp_all)
    have hinv := hi.next (by assumption)
    have hlt := St40.next_lt (s := s) (i := ⟨pos, at', was, begun, ⟨⟨ca, cl, cf, ct, cc⟩, gf, gl, ga⟩, l⟩) (by assumption)
    rw [hnext] at hinv hlt
    refine ⟨_, ⟨hinv, hlt⟩, ?_⟩
    clear hinv hlt hnext
    repeat' (first | (with_reducible exact fun h => h) | (with_reducible refine ExE.row (by with_unfolding_all rfl) ?_) | (with_reducible refine And.intro ?_ ?_) | ((with_reducible intro hq); first | (exact bne1 hq (by with_reducible assumption)) | (exact bne1 (by with_reducible assumption) hq) | ((simp only [*, Bool.and_true, Bool.true_and, Bool.and_false, Bool.false_and, Bool.or_true, Bool.true_or, Bool.or_false, Bool.false_or, Bool.not_true, Bool.not_false, Bool.true_eq_false, Bool.false_eq_true, cond_true, cond_false, Bool.cond_self, reduceCtorEq] at hq); done) | (revert hq; with_reducible intro _)) | (with_reducible exact True.intro) | (with_reducible rfl) | ((with_reducible refine WkX.chk ?_); (conv => whnf)) | ((with_reducible refine Wk.chk ?_); (conv => whnf)) | (with_reducible refine EntLe.row ?_) | (with_reducible exact LeN.ro rfl) | (with_reducible exact LeN.rptr) | ((with_reducible refine LeL.chk ?_); (conv => whnf)) | ((with_reducible show LeO _ _); (first | (refine LeO.ro ?_) | (refine LeO.roCap ?_) | (refine LeO.nil ?_ (fun _ => rfl)))) | ((with_reducible show LeR _ _ _); (first | (refine LeR.own rfl rfl rfl ?_) | (refine LeR.view rfl rfl rfl ?_ ?_) | (refine LeR.ro ?_) | (refine LeR.roCap ?_) | (refine LeR.nil ?_ (fun _ => rfl)))) | ((with_reducible refine LeF.chk ?_); (conv => whnf)) | (with_reducible assumption) | ((with_reducible refine Run.mk ?_); (conv => whnf)) | ((with_reducible show drawOK _ _ = true); kernel_rfl) | ((with_reducible show drawOK2 _ _ = true); kernel_rfl) | ((with_reducible show drawOK3 _ _ = true); kernel_rfl))
    all_goals rfl
  · have hne : s.size ≠ 0 := by
      intro h
      have : s = ⟨#[]⟩ := by
        cases s with | mk d => have : d.size = 0 := h; simp_all
      simp_all
    have hi' := hi
    obtain ⟨start, low, place, signs, full, told, all, bound⟩ := hi'
    dsimp only at low place signs full told bound
    have hnp : ¬ pos < s.size := by assumption
    have low' : 0 < pos := by omega
    have low := low low'
    have hrest := rest_end hnp at' was begun ⟨⟨ca, cl, cf, ct, cc⟩, gf, gl, ga⟩
    rw [if_neg hne, signGrp_eq] at hrest
    dsimp only at all
    rw [hrest] at all
    clear hrest
    refine joinI (Grp × List Part) [] (fun _ => []) (fun | (g, l) => [(8, .box (gAV g) 147), (2, .row C_part l 80 none)]) (fun j => j = (preG begun ⟨⟨ca, cl, cf, ct, cc⟩, gf, gl, ga⟩ at' was, l ++ (signOut begun ⟨⟨ca, cl, cf, ct, cc⟩, gf, gl, ga⟩ was).map (partOf s))) ?_ fun j hj => ?_
    ·     cases begun with
      | false =>
        have hp : preG false ⟨⟨ca, cl, cf, ct, cc⟩, gf, gl, ga⟩ at' was = ⟨⟨ca, cl, cf, ct, cc⟩, gf, gl, ga⟩ := rfl
        have ho : signOut false ⟨⟨ca, cl, cf, ct, cc⟩, gf, gl, ga⟩ was = [] := rfl
        rw [hp, ho]
        clear hp ho all hi full start
        repeat' (first | (with_reducible refine ex_eq ?_) | (with_reducible refine ⟨_, ⟨.cons (.v _) .nil, trivial⟩, ?_⟩) | (with_reducible refine ⟨(_, _), ⟨.cons (.v _) (.cons (.v _) .nil), trivial⟩, ?_⟩) | (with_reducible refine loopI Unit [] (fun _ => []) (fun _ => []) (fun _ => True) (fun _ => 0) () trivial ?_ fun _ _ => ?_) | (with_reducible exact fun h => h) | (with_reducible refine ExE.row (by with_unfolding_all rfl) ?_) | (with_reducible refine And.intro ?_ ?_) | ((with_reducible intro hq); first | (exact bne1 hq (by with_reducible assumption)) | (exact bne1 (by with_reducible assumption) hq) | ((simp only [*, Bool.and_true, Bool.true_and, Bool.and_false, Bool.false_and, Bool.or_true, Bool.true_or, Bool.or_false, Bool.false_or, Bool.not_true, Bool.not_false, Bool.true_eq_false, Bool.false_eq_true, cond_true, cond_false, Bool.cond_self, reduceCtorEq] at hq); done) | (revert hq; with_reducible intro _)) | (with_reducible exact True.intro) | (with_reducible rfl) | ((with_reducible refine WkX.chk ?_); (conv => whnf)) | ((with_reducible refine Wk.chk ?_); (conv => whnf)) | (with_reducible refine EntLe.row ?_) | (with_reducible exact LeN.ro rfl) | (with_reducible exact LeN.rptr) | ((with_reducible refine LeL.chk ?_); (conv => whnf)) | ((with_reducible show LeO _ _); (first | (refine LeO.ro ?_) | (refine LeO.roCap ?_) | (refine LeO.nil ?_ (fun _ => rfl)))) | ((with_reducible show LeR _ _ _); (first | (refine LeR.own rfl rfl rfl ?_) | (refine LeR.view rfl rfl rfl ?_ ?_) | (refine LeR.ro ?_) | (refine LeR.roCap ?_) | (refine LeR.nil ?_ (fun _ => rfl)))) | ((with_reducible refine LeF.chk ?_); (conv => whnf)) | (with_reducible assumption) | ((with_reducible refine Run.mk ?_); (conv => whnf)) | ((with_reducible show drawOK _ _ = true); kernel_rfl) | ((with_reducible show drawOK2 _ _ = true); kernel_rfl) | ((with_reducible show drawOK3 _ _ = true); kernel_rfl))
        all_goals (simp only [List.map_nil, List.append_nil]; done)
      | true =>
        cases htk : takesB ⟨⟨ca, cl, cf, ct, cc⟩, gf, gl, ga⟩ was with
        | true =>
          have hp : preG true ⟨⟨ca, cl, cf, ct, cc⟩, gf, gl, ga⟩ at' was = ⟨⟨ca, cl, cf, ct, cc⟩, gf, gl, ga⟩ := by simp [preG, htk]
          have ho : signOut true ⟨⟨ca, cl, cf, ct, cc⟩, gf, gl, ga⟩ was = [] := by simp [signOut, htk]
          rw [hp, ho]
          clear hp ho all hi full start
          repeat' (first | (with_reducible refine ex_eq ?_) | (with_reducible refine ⟨_, ⟨.cons (.v _) .nil, trivial⟩, ?_⟩) | (with_reducible refine ⟨(_, _), ⟨.cons (.v _) (.cons (.v _) .nil), trivial⟩, ?_⟩) | (with_reducible refine loopI Unit [] (fun _ => []) (fun _ => []) (fun _ => True) (fun _ => 0) () trivial ?_ fun _ _ => ?_) | (with_reducible exact fun h => h) | (with_reducible refine ExE.row (by with_unfolding_all rfl) ?_) | (with_reducible refine And.intro ?_ ?_) | ((with_reducible intro hq); first | (exact bne1 hq (by with_reducible assumption)) | (exact bne1 (by with_reducible assumption) hq) | ((simp only [*, Bool.and_true, Bool.true_and, Bool.and_false, Bool.false_and, Bool.or_true, Bool.true_or, Bool.or_false, Bool.false_or, Bool.not_true, Bool.not_false, Bool.true_eq_false, Bool.false_eq_true, cond_true, cond_false, Bool.cond_self, reduceCtorEq] at hq); done) | (revert hq; with_reducible intro _)) | (with_reducible exact True.intro) | (with_reducible rfl) | ((with_reducible refine WkX.chk ?_); (conv => whnf)) | ((with_reducible refine Wk.chk ?_); (conv => whnf)) | (with_reducible refine EntLe.row ?_) | (with_reducible exact LeN.ro rfl) | (with_reducible exact LeN.rptr) | ((with_reducible refine LeL.chk ?_); (conv => whnf)) | ((with_reducible show LeO _ _); (first | (refine LeO.ro ?_) | (refine LeO.roCap ?_) | (refine LeO.nil ?_ (fun _ => rfl)))) | ((with_reducible show LeR _ _ _); (first | (refine LeR.own rfl rfl rfl ?_) | (refine LeR.view rfl rfl rfl ?_ ?_) | (refine LeR.ro ?_) | (refine LeR.roCap ?_) | (refine LeR.nil ?_ (fun _ => rfl)))) | ((with_reducible refine LeF.chk ?_); (conv => whnf)) | (with_reducible assumption) | ((with_reducible refine Run.mk ?_); (conv => whnf)) | ((with_reducible show drawOK _ _ = true); kernel_rfl) | ((with_reducible show drawOK2 _ _ = true); kernel_rfl) | ((with_reducible show drawOK3 _ _ = true); kernel_rfl))
          all_goals (try dsimp only [C_part, bOf])
          all_goals first
            | omega
            | (refine Fits.i64 ?_ ?_ <;> omega)
            | (simp only [signAt]; done)
            | (with_reducible exact takes_1 (by assumption))
            | (with_reducible exact takes_2 (by first | exact .inl (by assumption) | exact .inr (by assumption)) (by assumption))
            | (with_reducible exact takes_3 (by first | exact .inl (by assumption) | exact .inr (by assumption)) (by assumption))
            | (with_reducible exact takes_4 (by first | exact .inl (by assumption) | exact .inr (by assumption)) (by assumption) (by assumption))
            | (simp only [List.map_nil, List.append_nil]; done)
            | ((with_reducible show (_ : Bool) = true); (first | (simp_all only [Bool.and_eq_true, and_self]; done) | (simp only [*, Bool.not_false, Bool.not_true, Bool.and_true, Bool.true_and]; done)))
            | (simp only [List.length_cons, List.length_nil]; omega)
            | skip
          all_goals simp only [List.map_cons, List.map_nil, partOf, firstOf, signAt]
          all_goals split
          all_goals first
            | contradiction
            | (simp only [partOfR, blankB, blanks, dashes, openings, closings]; done)
        | false =>
          have hp : preG true ⟨⟨ca, cl, cf, ct, cc⟩, gf, gl, ga⟩ at' was = ⟨⟨at', 0, ct, ct, 0⟩, 0, 0, false⟩ := by simp [preG, htk]
          have ho : signOut true ⟨⟨ca, cl, cf, ct, cc⟩, gf, gl, ga⟩ was = [⟨ca, cl, cf, ct, cc⟩] := by simp [signOut, htk]
          rw [hp, ho]
          have full := full rfl
          clear hp ho all hi start
          repeat' (first | (with_reducible refine ex_eq ?_) | (with_reducible refine ⟨_, ⟨.cons (.v _) .nil, trivial⟩, ?_⟩) | (with_reducible refine ⟨(_, _), ⟨.cons (.v _) (.cons (.v _) .nil), trivial⟩, ?_⟩) | (with_reducible refine loopI Unit [] (fun _ => []) (fun _ => []) (fun _ => True) (fun _ => 0) () trivial ?_ fun _ _ => ?_) | (with_reducible exact fun h => h) | (with_reducible refine ExE.row (by with_unfolding_all rfl) ?_) | (with_reducible refine And.intro ?_ ?_) | ((with_reducible intro hq); first | (exact bne1 hq (by with_reducible assumption)) | (exact bne1 (by with_reducible assumption) hq) | ((simp only [*, Bool.and_true, Bool.true_and, Bool.and_false, Bool.false_and, Bool.or_true, Bool.true_or, Bool.or_false, Bool.false_or, Bool.not_true, Bool.not_false, Bool.true_eq_false, Bool.false_eq_true, cond_true, cond_false, Bool.cond_self, reduceCtorEq] at hq); done) | (revert hq; with_reducible intro _)) | (with_reducible exact True.intro) | (with_reducible rfl) | ((with_reducible refine WkX.chk ?_); (conv => whnf)) | ((with_reducible refine Wk.chk ?_); (conv => whnf)) | (with_reducible refine EntLe.row ?_) | (with_reducible exact LeN.ro rfl) | (with_reducible exact LeN.rptr) | ((with_reducible refine LeL.chk ?_); (conv => whnf)) | ((with_reducible show LeO _ _); (first | (refine LeO.ro ?_) | (refine LeO.roCap ?_) | (refine LeO.nil ?_ (fun _ => rfl)))) | ((with_reducible show LeR _ _ _); (first | (refine LeR.own rfl rfl rfl ?_) | (refine LeR.view rfl rfl rfl ?_ ?_) | (refine LeR.ro ?_) | (refine LeR.roCap ?_) | (refine LeR.nil ?_ (fun _ => rfl)))) | ((with_reducible refine LeF.chk ?_); (conv => whnf)) | (with_reducible assumption) | ((with_reducible refine Run.mk ?_); (conv => whnf)) | ((with_reducible show drawOK _ _ = true); kernel_rfl) | ((with_reducible show drawOK2 _ _ = true); kernel_rfl) | ((with_reducible show drawOK3 _ _ = true); kernel_rfl))
          all_goals (try dsimp only [C_part, bOf])
          all_goals first
            | omega
            | (refine Fits.i64 ?_ ?_ <;> omega)
            | (simp only [signAt]; done)
            | (with_reducible exact takes_1 (by assumption))
            | (with_reducible exact takes_2 (by first | exact .inl (by assumption) | exact .inr (by assumption)) (by assumption))
            | (with_reducible exact takes_3 (by first | exact .inl (by assumption) | exact .inr (by assumption)) (by assumption))
            | (with_reducible exact takes_4 (by first | exact .inl (by assumption) | exact .inr (by assumption)) (by assumption) (by assumption))
            | (simp only [List.map_nil, List.append_nil]; done)
            | ((with_reducible show (_ : Bool) = true); (first | (simp_all only [Bool.and_eq_true, and_self]; done) | (simp only [*, Bool.not_false, Bool.not_true, Bool.and_true, Bool.true_and]; done)))
            | (simp only [List.length_cons, List.length_nil]; omega)
            | skip
          all_goals simp only [List.map_cons, List.map_nil, partOf, firstOf, signAt]
          all_goals split
          all_goals first
            | contradiction
            | (simp only [partOfR, blankB, blanks, dashes, openings, closings]; done)

    · obtain ⟨g', l'⟩ := j
      obtain ⟨hg, hl⟩ := Prod.mk.inj hj
      obtain ⟨p1, p2, p3, p4, p5, p6⟩ := hi.pre low' hg
      clear hj
      rw [← hg, List.map_append, ← List.append_assoc, ← hl] at all
      have hlen : (l'.length : Int) ≤ ct := by
        rw [hl]
        unfold signOut
        split
        · have := full (by simp_all)
          simp only [List.length_append, List.length_map, List.length_cons, List.length_nil]; omega
        · simp only [List.length_append, List.length_map, List.length_nil]; omega
      clear hg hl start full told hi
      obtain ⟨⟨ca, cl, cf, ct, cc⟩, gf, gl, ga⟩ := g'
      dsimp only at p1 p2 p3 p4 p5 p6
      obtain ⟨q1, q2, q3, q4⟩ := addG_c ⟨⟨ca, cl, cf, ct, cc⟩, gf, gl, ga⟩ was (↑s.size - at')
      generalize hA : addG ⟨⟨ca, cl, cf, ct, cc⟩, gf, gl, ga⟩ was (↑s.size - at') = g2 at all q1 q2 q3 q4
      obtain ⟨⟨a2, b2, c2, d2, e2⟩, f2, l2, r2⟩ := g2
      dsimp only at q1 q2 q3 q4
      subst q1 q2 q3 q4
      obtain ⟨k1, k2, k3⟩ := add_inj hA
      repeat' (first | (with_reducible refine ⟨_, ⟨.cons (.v _) .nil, trivial⟩, ?_⟩) | (with_reducible refine ⟨(_, _), ⟨.cons (.v _) (.cons (.v _) .nil), trivial⟩, ?_⟩) | (with_reducible refine loopI Unit [] (fun _ => []) (fun _ => []) (fun _ => True) (fun _ => 0) () trivial ?_ fun _ _ => ?_) | (with_reducible exact fun h => h) | (with_reducible refine ExE.row (by with_unfolding_all rfl) ?_) | (with_reducible refine And.intro ?_ ?_) | ((with_reducible intro hq); first | (exact bne1 hq (by with_reducible assumption)) | (exact bne1 (by with_reducible assumption) hq) | ((simp only [*, Bool.and_true, Bool.true_and, Bool.and_false, Bool.false_and, Bool.or_true, Bool.true_or, Bool.or_false, Bool.false_or, Bool.not_true, Bool.not_false, Bool.true_eq_false, Bool.false_eq_true, cond_true, cond_false, Bool.cond_self, reduceCtorEq] at hq); done) | (revert hq; with_reducible intro _)) | (with_reducible exact True.intro) | (with_reducible rfl) | ((with_reducible refine WkX.chk ?_); (conv => whnf)) | ((with_reducible refine Wk.chk ?_); (conv => whnf)) | (with_reducible refine EntLe.row ?_) | (with_reducible exact LeN.ro rfl) | (with_reducible exact LeN.rptr) | ((with_reducible refine LeL.chk ?_); (conv => whnf)) | ((with_reducible show LeO _ _); (first | (refine LeO.ro ?_) | (refine LeO.roCap ?_) | (refine LeO.nil ?_ (fun _ => rfl)))) | ((with_reducible show LeR _ _ _); (first | (refine LeR.own rfl rfl rfl ?_) | (refine LeR.view rfl rfl rfl ?_ ?_) | (refine LeR.ro ?_) | (refine LeR.roCap ?_) | (refine LeR.nil ?_ (fun _ => rfl)))) | ((with_reducible refine LeF.chk ?_); (conv => whnf)) | (with_reducible assumption) | ((with_reducible refine Run.mk ?_); (conv => whnf)) | ((with_reducible show drawOK _ _ = true); kernel_rfl) | ((with_reducible show drawOK2 _ _ = true); kernel_rfl) | ((with_reducible show drawOK3 _ _ = true); kernel_rfl))
      all_goals (try dsimp only [C_part, bOf])
      all_goals (try simp only [hA] at *)
      all_goals first
        | omega
        | (refine Fits.i64 ?_ ?_ <;> omega)
        | (simp only [signAt]; done)
        | (with_reducible exact (k1 (by assumption)).1)
        | (with_reducible exact (k1 (by assumption)).2.1)
        | (with_reducible exact (k1 (by assumption)).2.2.1)
        | (with_reducible exact (k1 (by assumption)).2.2.2)
        | (with_reducible exact (k2 (by assumption) (by assumption)).1)
        | (with_reducible exact (k2 (by assumption) (by assumption)).2.1)
        | (with_reducible exact (k2 (by assumption) (by assumption)).2.2.1)
        | (with_reducible exact (k2 (by assumption) (by assumption)).2.2.2)
        | (with_reducible exact (k3 (by assumption) (by assumption)).1)
        | (with_reducible exact (k3 (by assumption) (by assumption)).2.1)
        | (with_reducible exact (k3 (by assumption) (by assumption)).2.2.1)
        | (with_reducible exact (k3 (by assumption) (by assumption)).2.2.2)
        | ((with_reducible show (_ : Bool) = true); (first | (simp_all only [Bool.and_eq_true, and_self]; done) | (simp only [*, Bool.not_false, Bool.not_true, Bool.and_true, Bool.true_and]; done)))
        | (simp only [List.length_cons, List.length_nil]; omega)
        | skip
      all_goals rw [all]
      all_goals simp only [List.map_cons, List.map_nil, partOf, firstOf, signAt]
      all_goals split
      all_goals first
        | contradiction
        | (simp only [partOfR, blankB, blanks, dashes, openings, closings]; done)
  · have : s.size = 0 := by
      have h : (!decide (s = ⟨#[]⟩)) = false := by assumption
      simp only [Bool.not_eq_false', decide_eq_true_eq] at h
      rw [h]; rfl
    have hrest := rest_end (s := s) (pos := pos) (by assumption) at' was begun ⟨⟨ca, cl, cf, ct, cc⟩, gf, gl, ga⟩
    rw [if_pos this] at hrest
    have all := hi.all
    dsimp only at all
    rw [hrest] at all
    rw [all]; simp
end Go.SX.Try
/- Where a text may be parted, told plainly. No program here. -/
namespace Go.SX.Plain
abbrev dPart : Part := ⟨⟨0, 0, 0, 0, 0⟩, 0, false, false, false, false, false, false⟩
/-- The kind of the place ahead of part i (1 ≤ i ≤ n); 0: none. -/
def kindAt (l : List Part) (i : Nat) : Int :=
  if (l.getD (i - 1) dPart).fin = true then 1
  else if i = l.length then 0
  else if ((l.getD i dPart).fin || (l.getD i dPart).blank) = true then 0
  else if (l.getD (i - 1) dPart).blank = true then 2
  else if ((l.getD (i - 1) dPart).dash && decide ((1 : Int) < (i : Int)) && !(l.getD (i - 2) dPart).blank && !(l.getD (i - 2) dPart).fin && !(l.getD (i - 2) dPart).dash) = true then 2
  else if (((l.getD (i - 1) dPart).wide || (l.getD i dPart).wide) && !(l.getD (i - 1) dPart).opening && !(l.getD i dPart).closing) = true then 2
  else 3
/-- The places ahead of part k: their parts' numbers. -/
def plcs (l : List Part) (k : Nat) : List Nat := ((List.range k).filter fun i => decide (0 < i) && decide (kindAt l i ≠ 0))
def atL (l : List Part) (k : Nat) : List Int := (plcs l k).map fun (i : Nat) => (i : Int)
def outL (l : List Part) (k : Nat) : List (Int × Int) := (plcs l k).map fun (i : Nat) => ((l.getD (i - 1) dPart).c.to, kindAt l i)
theorem plcs_one (l : List Part) : plcs l 1 = [] := rfl
theorem plcs_no {l : List Part} {k : Nat} (h : kindAt l k = 0) : plcs l (k + 1) = plcs l k := by
  simp [plcs, List.range_succ, List.filter_append, h]
theorem plcs_yes {l : List Part} {k : Nat} (h0 : 0 < k) (h : kindAt l k ≠ 0) : plcs l (k + 1) = plcs l k ++ [k] := by
  simp [plcs, List.range_succ, List.filter_append, h, h0]
theorem atL_no {l : List Part} {k : Nat} (h : kindAt l k = 0) : atL l (k + 1) = atL l k := by unfold atL; rw [plcs_no h]
theorem atL_yes {l : List Part} {k : Nat} (h0 : 0 < k) (h : kindAt l k ≠ 0) : atL l (k + 1) = atL l k ++ [(k : Int)] := by unfold atL; rw [plcs_yes h0 h]; simp
theorem outL_no {l : List Part} {k : Nat} (h : kindAt l k = 0) : outL l (k + 1) = outL l k := by unfold outL; rw [plcs_no h]
theorem outL_yes {l : List Part} {k : Nat} (h0 : 0 < k) (h : kindAt l k ≠ 0) : outL l (k + 1) = outL l k ++ [((l.getD (k - 1) dPart).c.to, kindAt l k)] := by unfold outL; rw [plcs_yes h0 h]; simp
theorem plcs_len (l : List Part) (k : Nat) : (plcs l k).length ≤ k := by
  unfold plcs
  exact Nat.le_trans (List.length_filter_le _ _) (by simp)
theorem atL_len (l : List Part) (k : Nat) : (atL l k).length ≤ k := by unfold atL; simpa using plcs_len l k
theorem outL_len (l : List Part) (k : Nat) : (outL l k).length ≤ k := by unfold outL; simpa using plcs_len l k
end Go.SX.Plain
/- Contract of wrap's places. -/
namespace Go.SX.Try
open Go.Proofs Go.Proofs.Try Go.SX.Plain
set_option maxRecDepth 100000
set_option maxHeartbeats 0
set_option linter.unusedSimpArgs false
def C_int : Cdc Int where
  size := 1
  enc p := [.v (.int .i64 p)]
  dec l := match l with
    | [.v (.int _ a)] => a
    | _ => 0
  d := 0
def C_brk : Cdc (Int × Int) where
  size := 2
  enc p := [.v (.int .i64 p.1), .v (.int .i64 p.2)]
  dec l := match l with
    | [.v (.int _ a), .v (.int _ b)] => (a, b)
    | _ => (0, 0)
  d := (0, 0)
def D_plc : Cds := [(3, ⟨Int, C_int⟩), (54, ⟨Int × Int, C_brk⟩), (80, ⟨Part, C_part⟩)]
theorem D_plc_ok : CdsOK T D_plc := .cons ⟨fun _ => rfl, by decide, _, rfl, rfl, by decide⟩ (.cons ⟨fun _ => rfl, by decide, _, rfl, rfl, by decide⟩ (.cons ⟨fun _ => rfl, by decide, _, rfl, rfl, by decide⟩ .nil))
theorem q_places : fact 41 f41 := ⟨by kernel_rfl, rfl, by kernel_rfl⟩
theorem q_places1 : fact 75 f75 := ⟨by kernel_rfl, rfl, by kernel_rfl⟩
theorem con_places : Con prog 41 (fun l : List Part => [.ro 12 C_part.enc C_part.d l none]) (fun l => .tup [.ro 1 C_int.enc C_int.d (atL l (l.length + 1)) none, .ro 2 C_brk.enc C_brk.d (outL l (l.length + 1)) none]) (fun l => l.length ≤ 2000000) := by
  refine Con.of (by kernel_rfl) T_ok D_plc_ok (.inl (J := []) q_places1.1 q_places1.2.1 q_places1.2.2 .nil) 4 [4] q_places.1 q_places.2.1 q_places.2.2 (fun _ => rfl) fun l hl => ?_
  repeat' (first | (with_reducible exact fun h => h) | (with_reducible refine ExE.row (by with_unfolding_all rfl) ?_) | (with_reducible refine And.intro ?_ ?_) | ((with_reducible intro hq); first | (exact bne1 hq (by with_reducible assumption)) | (exact bne1 (by with_reducible assumption) hq) | ((simp only [*, Bool.and_true, Bool.true_and, Bool.and_false, Bool.false_and, Bool.or_true, Bool.true_or, Bool.or_false, Bool.false_or, Bool.not_true, Bool.not_false, Bool.true_eq_false, Bool.false_eq_true, cond_true, cond_false, Bool.cond_self, reduceCtorEq] at hq); done) | (revert hq; with_reducible intro _)) | (with_reducible exact True.intro) | (with_reducible rfl) | ((with_reducible refine WkX.chk ?_); (conv => whnf)) | ((with_reducible refine Wk.chk ?_); (conv => whnf)) | (with_reducible refine EntLe.row ?_) | (with_reducible exact LeN.ro rfl) | (with_reducible exact LeN.rptr) | ((with_reducible refine LeL.chk ?_); (conv => whnf)) | ((with_reducible show LeO _ _); (first | (refine LeO.ro ?_) | (refine LeO.roCap ?_) | (refine LeO.nil ?_ (fun _ => rfl)))) | ((with_reducible show LeR _ _ _); (first | (refine LeR.own rfl rfl rfl ?_) | (refine LeR.view rfl rfl rfl ?_ ?_) | (refine LeR.ro ?_) | (refine LeR.roCap ?_) | (refine LeR.nil ?_ (fun _ => rfl)))) | ((with_reducible refine LeF.chk ?_); (conv => whnf)) | (with_reducible assumption) | ((with_reducible refine Run.mk ?_); (conv => whnf)) | ((with_reducible show drawOK _ _ = true); kernel_rfl) | ((with_reducible show drawOK2 _ _ = true); kernel_rfl) | ((with_reducible show drawOK3 _ _ = true); kernel_rfl))
  refine loopI Nat [] (fun i => [(5, .v (.int .i64 i))]) (fun i => [(1, .row C_int (atL l i) 3 none), (3, .row C_brk (outL l i) 54 none)])
    (fun i => 1 ≤ i ∧ (i ≤ l.length ∨ i = 1)) (fun i => l.length + 1 - i) 1 ⟨Nat.le_refl _, .inr rfl⟩ (Wk.chk ?_) fun i hi => ?_
  · ((conv => whnf); repeat' (first | (with_reducible exact fun h => h) | (with_reducible refine ExE.row (by with_unfolding_all rfl) ?_) | (with_reducible refine And.intro ?_ ?_) | ((with_reducible intro hq); first | (exact bne1 hq (by with_reducible assumption)) | (exact bne1 (by with_reducible assumption) hq) | ((simp only [*, Bool.and_true, Bool.true_and, Bool.and_false, Bool.false_and, Bool.or_true, Bool.true_or, Bool.or_false, Bool.false_or, Bool.not_true, Bool.not_false, Bool.true_eq_false, Bool.false_eq_true, cond_true, cond_false, Bool.cond_self, reduceCtorEq] at hq); done) | (revert hq; with_reducible intro _)) | (with_reducible exact True.intro) | (with_reducible rfl) | ((with_reducible refine WkX.chk ?_); (conv => whnf)) | ((with_reducible refine Wk.chk ?_); (conv => whnf)) | (with_reducible refine EntLe.row ?_) | (with_reducible exact LeN.ro rfl) | (with_reducible exact LeN.rptr) | ((with_reducible refine LeL.chk ?_); (conv => whnf)) | ((with_reducible show LeO _ _); (first | (refine LeO.ro ?_) | (refine LeO.roCap ?_) | (refine LeO.nil ?_ (fun _ => rfl)))) | ((with_reducible show LeR _ _ _); (first | (refine LeR.own rfl rfl rfl ?_) | (refine LeR.view rfl rfl rfl ?_ ?_) | (refine LeR.ro ?_) | (refine LeR.roCap ?_) | (refine LeR.nil ?_ (fun _ => rfl)))) | ((with_reducible refine LeF.chk ?_); (conv => whnf)) | (with_reducible assumption) | ((with_reducible refine Run.mk ?_); (conv => whnf)) | ((with_reducible show drawOK _ _ = true); kernel_rfl) | ((with_reducible show drawOK2 _ _ = true); kernel_rfl) | ((with_reducible show drawOK3 _ _ = true); kernel_rfl)))
    all_goals rfl
  obtain ⟨hi1, hi2⟩ := hi
  have ha := atL_len l i
  have ho := outL_len l i
  repeat' (first | (with_reducible exact fun h => h) | (with_reducible refine ExE.row (by with_unfolding_all rfl) ?_) | (with_reducible refine And.intro ?_ ?_) | ((with_reducible intro hq); first | (exact bne1 hq (by with_reducible assumption)) | (exact bne1 (by with_reducible assumption) hq) | ((simp only [*, Bool.and_true, Bool.true_and, Bool.and_false, Bool.false_and, Bool.or_true, Bool.true_or, Bool.or_false, Bool.false_or, Bool.not_true, Bool.not_false, Bool.true_eq_false, Bool.false_eq_true, cond_true, cond_false, Bool.cond_self, reduceCtorEq] at hq); done) | (revert hq; with_reducible intro _)) | (with_reducible exact True.intro) | (with_reducible rfl) | ((with_reducible refine WkX.chk ?_); (conv => whnf)) | ((with_reducible refine Wk.chk ?_); (conv => whnf)) | (with_reducible refine EntLe.row ?_) | (with_reducible exact LeN.ro rfl) | (with_reducible exact LeN.rptr) | ((with_reducible refine LeL.chk ?_); (conv => whnf)) | ((with_reducible show LeO _ _); (first | (refine LeO.ro ?_) | (refine LeO.roCap ?_) | (refine LeO.nil ?_ (fun _ => rfl)))) | ((with_reducible show LeR _ _ _); (first | (refine LeR.own rfl rfl rfl ?_) | (refine LeR.view rfl rfl rfl ?_ ?_) | (refine LeR.ro ?_) | (refine LeR.roCap ?_) | (refine LeR.nil ?_ (fun _ => rfl)))) | ((with_reducible refine LeF.chk ?_); (conv => whnf)) | (with_reducible assumption) | ((with_reducible refine Run.mk ?_); (conv => whnf)) | ((with_reducible show drawOK _ _ = true); kernel_rfl) | ((with_reducible show drawOK2 _ _ = true); kernel_rfl) | ((with_reducible show drawOK3 _ _ = true); kernel_rfl))
  · have hin : i < l.length := by simp_all
    have e1 : ((i : Int) - 1).toNat = i - 1 := by omega
    have e2 : ((i : Int)).toNat = i := by omega
    have e3 : ((i : Int) - 2).toNat = i - 2 := by omega
    have ed : C_part.d = dPart := rfl
    have hne : ¬ i = l.length := by omega
    refine joinI (List Int × List (Int × Int)) [] (fun _ => []) (fun | (a, o) => [(1, .row C_int a 3 none), (3, .row C_brk o 54 none)]) (fun j => j = (atL l (i + 1), outL l (i + 1))) ?_ fun j hj => ?_
    · repeat' (first | (with_reducible refine ex_eq ?_) | (with_reducible exact fun h => h) | (with_reducible refine ExE.row (by with_unfolding_all rfl) ?_) | (with_reducible refine And.intro ?_ ?_) | ((with_reducible intro hq); first | (exact bne1 hq (by with_reducible assumption)) | (exact bne1 (by with_reducible assumption) hq) | ((simp only [*, Bool.and_true, Bool.true_and, Bool.and_false, Bool.false_and, Bool.or_true, Bool.true_or, Bool.or_false, Bool.false_or, Bool.not_true, Bool.not_false, Bool.true_eq_false, Bool.false_eq_true, cond_true, cond_false, Bool.cond_self, reduceCtorEq] at hq); done) | (revert hq; with_reducible intro _)) | (with_reducible exact True.intro) | (with_reducible rfl) | ((with_reducible refine WkX.chk ?_); (conv => whnf)) | ((with_reducible refine Wk.chk ?_); (conv => whnf)) | (with_reducible refine EntLe.row ?_) | (with_reducible exact LeN.ro rfl) | (with_reducible exact LeN.rptr) | ((with_reducible refine LeL.chk ?_); (conv => whnf)) | ((with_reducible show LeO _ _); (first | (refine LeO.ro ?_) | (refine LeO.roCap ?_) | (refine LeO.nil ?_ (fun _ => rfl)))) | ((with_reducible show LeR _ _ _); (first | (refine LeR.own rfl rfl rfl ?_) | (refine LeR.view rfl rfl rfl ?_ ?_) | (refine LeR.ro ?_) | (refine LeR.roCap ?_) | (refine LeR.nil ?_ (fun _ => rfl)))) | ((with_reducible refine LeF.chk ?_); (conv => whnf)) | (with_reducible assumption) | ((with_reducible refine Run.mk ?_); (conv => whnf)) | ((with_reducible show drawOK _ _ = true); kernel_rfl) | ((with_reducible show drawOK2 _ _ = true); kernel_rfl) | ((with_reducible show drawOK3 _ _ = true); kernel_rfl))
      all_goals (try simp only [e1, e2, e3, ed, decide_eq_true_eq, decide_eq_false_iff_not] at *)
      all_goals first
        | omega
        | (refine Fits.i64 ?_ ?_ <;> omega)
        | (exfalso; omega)
        | (simp only [List.length_cons, List.length_nil]; omega)
        | ((with_reducible show (_ : Bool) = true); (first | (simp_all only [Bool.and_eq_true, and_self]; done) | (simp only [*, Bool.not_false, Bool.not_true, Bool.and_true, Bool.true_and]; done)))
        | (simp only [Bool.and_eq_true, decide_eq_true_eq] at *; omega)
        | (dsimp only [C_int]; done)
        | (dsimp only [C_brk, zeroAV]; done)
        | (rw [atL_no (by simp [kindAt, *, -List.getD_eq_getElem?_getD])]; done)
        | (rw [outL_no (by simp [kindAt, *, -List.getD_eq_getElem?_getD])]; done)
        | (rw [atL_yes (by omega) (by simp [kindAt, *, -List.getD_eq_getElem?_getD])]; dsimp only [C_int]; done)
        | (rw [outL_yes (by omega) (by simp [kindAt, *, -List.getD_eq_getElem?_getD])]; simp [kindAt, *, C_brk, zeroAV, -List.getD_eq_getElem?_getD]; done)
    · subst hj
      have hI : (1 ≤ i + 1 ∧ (i + 1 ≤ l.length ∨ i + 1 = 1)) ∧ l.length + 1 - (i + 1) < l.length + 1 - i := ⟨⟨by omega, by omega⟩, by omega⟩
      repeat' (first | (with_reducible refine ex_of (i + 1) hI ?_) | (with_reducible exact fun h => h) | (with_reducible refine ExE.row (by with_unfolding_all rfl) ?_) | (with_reducible refine And.intro ?_ ?_) | ((with_reducible intro hq); first | (exact bne1 hq (by with_reducible assumption)) | (exact bne1 (by with_reducible assumption) hq) | ((simp only [*, Bool.and_true, Bool.true_and, Bool.and_false, Bool.false_and, Bool.or_true, Bool.true_or, Bool.or_false, Bool.false_or, Bool.not_true, Bool.not_false, Bool.true_eq_false, Bool.false_eq_true, cond_true, cond_false, Bool.cond_self, reduceCtorEq] at hq); done) | (revert hq; with_reducible intro _)) | (with_reducible exact True.intro) | (with_reducible rfl) | ((with_reducible refine WkX.chk ?_); (conv => whnf)) | ((with_reducible refine Wk.chk ?_); (conv => whnf)) | (with_reducible refine EntLe.row ?_) | (with_reducible exact LeN.ro rfl) | (with_reducible exact LeN.rptr) | ((with_reducible refine LeL.chk ?_); (conv => whnf)) | ((with_reducible show LeO _ _); (first | (refine LeO.ro ?_) | (refine LeO.roCap ?_) | (refine LeO.nil ?_ (fun _ => rfl)))) | ((with_reducible show LeR _ _ _); (first | (refine LeR.own rfl rfl rfl ?_) | (refine LeR.view rfl rfl rfl ?_ ?_) | (refine LeR.ro ?_) | (refine LeR.roCap ?_) | (refine LeR.nil ?_ (fun _ => rfl)))) | ((with_reducible refine LeF.chk ?_); (conv => whnf)) | (with_reducible assumption) | ((with_reducible refine Run.mk ?_); (conv => whnf)) | ((with_reducible show drawOK _ _ = true); kernel_rfl) | ((with_reducible show drawOK2 _ _ = true); kernel_rfl) | ((with_reducible show drawOK3 _ _ = true); kernel_rfl))
      all_goals first
        | omega
        | (refine Fits.i64 ?_ ?_ <;> omega)
        | rfl
  all_goals
    have hge : l.length ≤ i := by
      have h : decide ((i : Int) < (l.length : Int)) = false := by assumption
      simp only [decide_eq_false_iff_not] at h
      omega
    have e1 : ((l.length : Int) - 1).toNat = l.length - 1 := by omega
    have ed : C_part.d = dPart := rfl
    have h0 : l.length = 0 → atL l (l.length + 1) = [] ∧ outL l (l.length + 1) = [] ∧ i = 1 := fun h => by rw [h]; exact ⟨rfl, rfl, by omega⟩
    have h1 : 0 < l.length → i = l.length := fun h => by omega
  all_goals (try simp only [e1, ed] at *)
  all_goals first
    | omega
    | (refine Fits.i64 ?_ ?_ <;> omega)
    | (exfalso; simp_all; omega)
    | (simp only [List.length_cons, List.length_nil]; omega)
    | ((with_reducible show (_ : Bool) = true); (first | (simp_all only [Bool.and_eq_true, and_self]; done) | (simp only [*, Bool.not_false, Bool.not_true, Bool.and_true, Bool.true_and]; done)))
    | (dsimp only [C_int]; done)
    | (dsimp only [C_brk, zeroAV]; done)
    | (exfalso; have h : decide (0 < (l.length : Int)) = true := by assumption
       simp only [decide_eq_true_eq] at h; have h2 : decide (0 < (l.length : Int)) = false := by assumption
       simp only [decide_eq_false_iff_not] at h2; omega)
    | (have h : decide (0 < (l.length : Int)) = true := by assumption
       simp only [decide_eq_true_eq] at h
       first
        | omega
        | (have h2 := h1 (by omega); subst h2
           first
            | (rw [atL_yes (by omega) (by simp_all [kindAt, -List.getD_eq_getElem?_getD])]; dsimp only [C_int]; done)
            | (rw [outL_yes (by omega) (by simp_all [kindAt, -List.getD_eq_getElem?_getD])]; simp_all [kindAt, C_brk, zeroAV, -List.getD_eq_getElem?_getD]; done)))
    | (exfalso
       have h : decide (0 < (l.length : Int)) = false := by assumption
       have h2 : (decide (0 < (l.length : Int)) && (l.getD (l.length - 1) dPart).fin) = true := by assumption
       rw [h] at h2; cases h2)
    | (have h2 : (decide (0 < (l.length : Int)) && (l.getD (l.length - 1) dPart).fin) = false := by assumption
       rcases Nat.eq_zero_or_pos l.length with hz | hz
       · obtain ⟨q1, q2, q3⟩ := h0 hz
         subst q3
         first
          | (rw [q1]; rfl)
          | (rw [q2]; rfl)
       · have q1 := h1 hz
         have h3 : (l.getD (l.length - 1) dPart).fin = false := by
           simp only [Bool.and_eq_false_iff, decide_eq_false_iff_not] at h2
           rcases h2 with h2 | h2
           · omega
           · exact h2
         subst q1
         first
          | rw [atL_no (by simp only [kindAt, h3]; simp)]
          | rw [outL_no (by simp only [kindAt, h3]; simp)])
end Go.SX.Try
