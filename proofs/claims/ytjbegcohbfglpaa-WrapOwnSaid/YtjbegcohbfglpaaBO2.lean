/- A verified symbolic executor for Go code in the model, contracts and plain laws that the proofs lean on, BO2. -/
import Derived.Test.YtjbegcohbfglpaaBO1
import GoSem.Core.Utf8
import Derived.Laws.IdiomStrings
import Derived.RangeFuncLeaves
import Derived.OrdersIn
set_option linter.unusedVariables false
set_option linter.unusedSimpArgs false
/- A verified symbolic executor for Go code in the model, part 11: iterators of strings, rows that are made. -/
namespace Go.SX
open Go.RowKit

section
variable {P : Program} {T : Tys} {base : Nat} {w0 : Start} {o : Oper} {fr : Fr} {stk : List Fr} {m : Mem} {nx : Nat} {K : KO}
def rangeK (T : Tys) (t : Nat) (x : Operand) (fr : Fr) (stk : List Fr) (m : Mem) (nx : Nat) (K : KO) : Prop := match getT T t with
  | some r => match r.d with
    | .str => op1 (ev fr x) fun p x => match x with
      | .v (.string s) => p.out (K (.ptr nx 0) fr stk ((nx, .iter s 0) :: m) (nx + 1))
      | _ => False
    | _ => False
  | none => False
theorem rangeK_ok (hT : TysOK P T) {t : Nat} {x : Operand} (ho : o.op = .range t x) (h : rangeK T t x fr stk m nx K) : EffOK P base w0 o fr stk m nx K := by
  rintro E gs w a hnx hS
  unfold rangeK at h
  split at h
  · rename_i r h1
    split at h
    · rename_i h2
      have hd := (hT t r h1).desc
      rw [h2] at hd
      have hd : P.underlying t = some .string := hd
      obtain ⟨p, x', h, hx⟩ := op1_ok h
      split at h
      · rename_i s
        obtain ⟨hp, h⟩ := VC.out_ok h
        have hxv := (hx w E _ hp (ev_ok hS.top x)).v_inv
        have hn := hnx.fresh
        refine ⟨_, _, .inl (by simp only [execOp, ho, Sem.run_bind, hxv, run_range_string w t s hd]; rfl), .ptr nx 0, fr, stk, _, E.add nx (.pointer (some ⟨w.heap.size, 0, none⟩)), _, h, hnx.add _, ?_, .ptr 0 (.inl rfl) (E.add_h _ _)⟩
        exact hS.alloc hn _ _ _ rfl ⟨w.heap.size, E.add_h _ _, World.iter_heap w s 0⟩
      · exact h.elim
    · exact h.elim
  · exact h.elim

abbrev signAt (s : ByteArray) (pos : Nat) : Nat × Nat := Utf8.decode s pos
def nextK (it : Operand) (fr : Fr) (stk : List Fr) (m : Mem) (nx : Nat) (K : KO) : Prop := op1 (ev fr it) fun p it => match it with
  | .ptr id off => match off, getE m id with
    | 0, some (.iter s pos) => p.out ((pos < s.size → Run (setEK id (.iter s (pos + (signAt s pos).2)) m fun m => K (.tup [.v (.bool true), .v (.int .i64 pos), .v (.int .i32 (signAt s pos).1)]) fr stk m nx)) ∧
        (¬ pos < s.size → Run (K (.tup [.v (.bool false)]) fr stk m nx)))
    | _, _ => False
  | _ => False
theorem run_next_some {w : World} {b pos : Nat} {s : ByteArray} (hb : w.heap[b]? = some (.stringIter s pos)) (h : pos < s.size) (ty : Nat) :
    (Instr.next (.pointer (some ⟨b, 0, none⟩)) true ty).run P w = .ok (.tuple #[.bool true, .int .i64 pos, .int .i32 (signAt s pos).1]) { w with heap := w.heap.setIfInBounds b (.stringIter s (pos + (signAt s pos).2)) } := by
  simp only [Instr.next, getObj, setObj, Sem.run_bind, Sem.run, hb, Result.andThen, h, if_true, signAt]
  simp [goInt]
theorem run_next_none {w : World} {b pos : Nat} {s : ByteArray} (hb : w.heap[b]? = some (.stringIter s pos)) (h : ¬ pos < s.size) (ty : Nat) :
    (Instr.next (.pointer (some ⟨b, 0, none⟩)) true ty).run P w = .ok (.tuple #[.bool false]) w := by
  simp [Instr.next, getObj, Sem.run, hb, h]
theorem tup3 {w : World} {E : Env} {a b c : Value} : Rel w E (.tup [.v a, .v b, .v c]) (.tuple #[a, b, c]) := .tup rfl fun i h1 h2 => by
  match i, h1 with
  | 0, _ => exact .v _
  | 1, _ => exact .v _
  | 2, _ => exact .v _
theorem nextK_ok {it : Operand} (ho : o.op = .next it true) (h : nextK it fr stk m nx K) : EffOK P base w0 o fr stk m nx K := by
  rintro E gs w a hnx hS
  unfold nextK at h
  obtain ⟨p, x', h, hx⟩ := op1_ok h
  split at h
  · rename_i n off
    split at h
    · rename_i s pos he
      obtain ⟨hp, hA, hB⟩ := VC.out_ok h
      have hr := hx w E _ hp (ev_ok hS.top it)
      have hm := mem_of_getE he
      obtain ⟨hid, ⟨b, hb1, hb2⟩, _⟩ := hS.ents _ _ hm
      generalize hpv : a.eval it = pv at hr
      cases hr with
      | @ptr _ _ b' _ hn hb =>
        rw [hb1] at hb
        cases hb
        by_cases hc : pos < s.size
        · have h := (hA hc).out
          rw [setEK_eq] at h
          refine ⟨_, _, .inl (by simp only [execOp, ho, Sem.run_bind, hpv, run_next_some hb2 hc]; rfl), _, fr, stk, _, E, _, h, hnx, ?_, tup3⟩
          have hlt : b < w.heap.size := by
            rcases Nat.lt_or_ge b w.heap.size with h | h
            · exact h
            · simp [Array.getElem?_eq_none h] at hb2
          exact hS.turn hm (b := b) (by rw [hb1]; rfl) rfl rfl rfl (by simp) (fun k hk => by simp [Ne.symm hk]) ⟨b, hb1, by simp [hlt]⟩
        · have h := (hB hc).out
          exact ⟨_, _, .inl (by simp only [execOp, ho, Sem.run_bind, hpv, run_next_none hb2 hc]; rfl), _, fr, stk, _, E, _, h, hnx, hS, .tup rfl fun i h1 h2 => by
            match i, h1 with
            | 0, _ => exact .v _⟩
    · exact h.elim
  · exact h.elim

def makeK (T : Tys) (D : Cds) (t : Nat) (len cap : Operand) (fr : Fr) (stk : List Fr) (m : Mem) (nx : Nat) (K : KO) : Prop := match getT T t with
  | some r => match r.d with
    | .slice e => match getT T e, getC D e with
      | some re, some c => match Nat.beq re.zero.length re.size with
        | true => op1 (ev fr len) fun p len => op1 (ev fr cap) fun q cap => p.and q fun p => match len, cap with
          | .v (.int _ L), .v (.int _ N) => p.out ((0 ≤ L ∧ L ≤ N ∧ N * re.bytes ≤ 281474976710656 ∧ LeL (zeroAV re.zero) (c.C.enc (c.C.dec (zeroAV re.zero)))) ∧
              Run (K (.own nx) fr stk ((nx, .row c.C (List.replicate L.toNat (c.C.dec (zeroAV re.zero))) e (match c.C.pl with | true => some N.toNat | false => none)) :: m) (nx + 1)))
          | _, _ => False
        | false => False
      | _, _ => False
    | _ => False
  | none => False
theorem makeK_ok (hT : TysOK P T) {D : Cds} (hD : CdsOK T D) {t : Nat} {len cap : Operand} (ho : o.op = .makeSlice t len cap) (h : makeK T D t len cap fr stk m nx K) : EffOK P base w0 o fr stk m nx K := by
  rintro E gs w a hnx hS
  unfold makeK at h
  split at h
  · rename_i r h1
    split at h
    · rename_i e h2
      have hd := (hT t r h1).desc
      rw [h2] at hd
      have hd : P.underlying t = some (.slice e) := hd
      split at h
      · rename_i re c h3 hc
        split at h
        · rename_i hz
          have hz := Nat.eq_of_beq_eq_true hz
          obtain ⟨p, x', h, hx⟩ := op1_ok h
          obtain ⟨q, y', h, hy⟩ := op1_ok h
          obtain ⟨p', h, hp'⟩ := VC.and_ok h
          split at h
          · rename_i kl L kc N _ _
            obtain ⟨hp, ⟨hL, hLN, hNb, hle⟩, h⟩ := VC.out_ok h
            have h := h.out
            have hlv := (hx w E _ (hp' hp).1 (ev_ok hS.top len)).v_inv
            have hcv := (hy w E _ (hp' hp).2 (ev_ok hS.top cap)).v_inv
            obtain ⟨clen, cpos, rc, hrc1, hrc2, hrc3⟩ := hD e c hc
            rw [h3] at hrc1
            cases hrc1
            obtain ⟨i, z, hi1, hi2, hi3, hi4, hi5, _⟩ := (hT e re h3).info
            have hN : N ≤ N * re.bytes := by
              have := Int.mul_le_mul_of_nonneg_left (show (1 : Int) ≤ re.bytes by omega) (show 0 ≤ N by omega)
              omega
            have hrun := run_make (P := P) w t e i z hd hi1 hi4 kl kc L N hL hLN (by rw [hi3, Int.mul_comm]; exact hNb) (by omega)
            have hn := hnx.fresh
            have hLN' : L.toNat ≤ N.toNat := by omega
            have hmul : L.toNat * c.C.size ≤ N.toNat * c.C.size := Nat.mul_le_mul_right _ hLN'
            have hsz : i.size = c.C.size := by rw [hi2, ← hrc2]
            have hlen : ((madeCells z.cells (N.toNat * c.C.size)).toList.take (L.toNat * c.C.size)).length = L.toNat * c.C.size := by
              rw [List.length_take, Array.length_toList, size_madeCells]; exact Nat.min_eq_left hmul
            refine ⟨_, _, .inl (by simp only [execOp, ho, Sem.run_bind, hlv, hcv, hrun]; rfl), .own nx, fr, stk, _, E.add nx (.slice (some ⟨w.heap.size, 0, none⟩) L.toNat N.toNat), _, h, hnx.add _, ?_, ?_⟩
            · refine hS.alloc hn _ _ _ rfl ⟨clen, cpos, ⟨(madeCells z.cells (N.toNat * c.C.size)).toList.take (L.toNat * c.C.size), ?_, ?_⟩, fun q hq => ?_⟩
              · rw [Env.add_h, List.length_replicate, hsz]
                refine ⟨hlen, .inr ⟨w.heap.size, N.toNat, _, rfl, hS.ge, heap_alloc_new w _, hLN', by simp only [maxLen]; omega, size_madeCells _ _, rfl⟩⟩
              · refine ⟨by rw [flatMap_len c.C.enc c.C.size clen, List.length_replicate, hlen], fun j h1 h2 => ?_⟩
                have hj : j < L.toNat * c.C.size := by rw [flatMap_len c.C.enc c.C.size clen] at h1; simpa using h1
                have hq : j / c.C.size < L.toNat := (Nat.div_lt_iff_lt_mul cpos).2 hj
                have hm : j % c.C.size < c.C.size := Nat.mod_lt _ cpos
                have hg := flatMap_get c.C.enc c.C.size clen (List.replicate L.toNat (c.C.dec (zeroAV re.zero))) (j / c.C.size) (j % c.C.size) (by simpa using hq) hm
                rw [Nat.mul_comm, Nat.div_add_mod, List.getElem_replicate] at hg
                have hm2 : j % c.C.size < (c.C.enc (c.C.dec (zeroAV re.zero))).length := by rw [clen]; exact hm
                rw [List.getElem?_eq_getElem h1, List.getElem?_eq_getElem hm2] at hg
                rw [Option.some.inj hg]
                have hzr := hle.rel (zeroAV_rel (w.alloc (.cells (madeCells z.cells (N.toNat * i.size)) e)) (E.add nx (.slice (some ⟨w.heap.size, 0, none⟩) L.toNat N.toNat)) re.zero)
                have hm3 : j % c.C.size < re.zero.length := by rw [hz, hrc2]; exact hm
                have := hzr.2 (j % c.C.size) hm2 hm3
                have hval : ((madeCells z.cells (N.toNat * c.C.size)).toList.take (L.toNat * c.C.size))[j] = re.zero[j % c.C.size] := by
                  have hzl : re.zero.length = c.C.size := by rw [hz, hrc2]
                  simp [madeCells, hi5]
                  simp only [hzl, List.getElem?_eq_getElem hm3, Option.getD_some]
                rw [hval]
                exact this
              · rw [Env.add_h]
                split at hq
                · cases hq
                  exact ⟨_, _, rfl⟩
                · cases hq
            · have := Rel.own (w := w.alloc (.cells (madeCells z.cells (N.toNat * i.size)) e)) (E := E.add nx (.slice (some ⟨w.heap.size, 0, none⟩) L.toNat N.toNat)) (id := nx) (.inl rfl) (by rw [Env.add_h]; exact ⟨_, _, _, rfl⟩)
              rwa [Env.add_h] at this
          · exact h.elim
        · exact h.elim
      · exact h.elim
    · exact h.elim
  · exact h.elim
theorem makeK_at (hT : TysOK P T) {D : Cds} (hD : CdsOK T D) {t : Nat} {len cap : Operand} (ho : o.op = .makeSlice t len cap) (h : makeK T D t len cap fr stk m nx K) : ∃ e' : Ent, K (.own nx) fr stk ((nx, e') :: m) (nx + 1) ∧
    ∀ (w : World) (E : Env) (a : Act), FrR w E fr a.tmps → ∃ (v : Value) (w' : World), (execOp a.eval o).run P w = .ok (.value v) w' ∧ ∀ (stk' : List Fr) (gs : List (Array Value)) (m' : Mem), SatM base w0 E stk' gs m' w → ¬ E.dom nx →
      SatM base w0 (E.add nx v) stk' gs ((nx, e') :: m') w' ∧ Rel w' (E.add nx v) (.own nx) v := by
  unfold makeK at h
  split at h
  · rename_i r h1
    split at h
    · rename_i e h2
      have hd := (hT t r h1).desc
      rw [h2] at hd
      have hd : P.underlying t = some (.slice e) := hd
      split at h
      · rename_i re c h3 hc
        split at h
        · rename_i hz
          have hz := Nat.eq_of_beq_eq_true hz
          obtain ⟨p, x', h, hx⟩ := op1_ok h
          obtain ⟨q, y', h, hy⟩ := op1_ok h
          obtain ⟨p', h, hp'⟩ := VC.and_ok h
          split at h
          · rename_i kl L kc N _ _
            obtain ⟨hp, ⟨hL, hLN, hNb, hle⟩, h⟩ := VC.out_ok h
            have h := h.out
            refine ⟨_, h, fun w E a hfr => ?_⟩
            have hlv := (hx w E _ (hp' hp).1 (ev_ok hfr len)).v_inv
            have hcv := (hy w E _ (hp' hp).2 (ev_ok hfr cap)).v_inv
            obtain ⟨clen, cpos, rc, hrc1, hrc2, hrc3⟩ := hD e c hc
            rw [h3] at hrc1
            cases hrc1
            obtain ⟨i, z, hi1, hi2, hi3, hi4, hi5, _⟩ := (hT e re h3).info
            have hN : N ≤ N * re.bytes := by
              have := Int.mul_le_mul_of_nonneg_left (show (1 : Int) ≤ re.bytes by omega) (show 0 ≤ N by omega)
              omega
            have hrun := run_make (P := P) w t e i z hd hi1 hi4 kl kc L N hL hLN (by rw [hi3, Int.mul_comm]; exact hNb) (by omega)
            have hLN' : L.toNat ≤ N.toNat := by omega
            have hmul : L.toNat * c.C.size ≤ N.toNat * c.C.size := Nat.mul_le_mul_right _ hLN'
            have hsz : i.size = c.C.size := by rw [hi2, ← hrc2]
            have hlen : ((madeCells z.cells (N.toNat * c.C.size)).toList.take (L.toNat * c.C.size)).length = L.toNat * c.C.size := by
              rw [List.length_take, Array.length_toList, size_madeCells]; exact Nat.min_eq_left hmul
            refine ⟨.slice (some ⟨w.heap.size, 0, none⟩) L.toNat N.toNat, _, (by simp only [execOp, ho, Sem.run_bind, hlv, hcv, hrun]; rfl), fun stk' gs m' hS hn => ⟨?_, ?_⟩⟩
            · refine hS.alloc hn _ _ _ rfl ⟨clen, cpos, ⟨(madeCells z.cells (N.toNat * c.C.size)).toList.take (L.toNat * c.C.size), ?_, ?_⟩, fun q hq => ?_⟩
              · rw [Env.add_h, List.length_replicate, hsz]
                refine ⟨hlen, .inr ⟨w.heap.size, N.toNat, _, rfl, hS.ge, heap_alloc_new w _, hLN', by simp only [maxLen]; omega, size_madeCells _ _, rfl⟩⟩
              · refine ⟨by rw [flatMap_len c.C.enc c.C.size clen, List.length_replicate, hlen], fun j h1 h2 => ?_⟩
                have hj : j < L.toNat * c.C.size := by rw [flatMap_len c.C.enc c.C.size clen] at h1; simpa using h1
                have hq : j / c.C.size < L.toNat := (Nat.div_lt_iff_lt_mul cpos).2 hj
                have hm : j % c.C.size < c.C.size := Nat.mod_lt _ cpos
                have hg := flatMap_get c.C.enc c.C.size clen (List.replicate L.toNat (c.C.dec (zeroAV re.zero))) (j / c.C.size) (j % c.C.size) (by simpa using hq) hm
                rw [Nat.mul_comm, Nat.div_add_mod, List.getElem_replicate] at hg
                have hm2 : j % c.C.size < (c.C.enc (c.C.dec (zeroAV re.zero))).length := by rw [clen]; exact hm
                rw [List.getElem?_eq_getElem h1, List.getElem?_eq_getElem hm2] at hg
                rw [Option.some.inj hg]
                have hzr := hle.rel (zeroAV_rel (w.alloc (.cells (madeCells z.cells (N.toNat * i.size)) e)) (E.add nx (.slice (some ⟨w.heap.size, 0, none⟩) L.toNat N.toNat)) re.zero)
                have hm3 : j % c.C.size < re.zero.length := by rw [hz, hrc2]; exact hm
                have := hzr.2 (j % c.C.size) hm2 hm3
                have hval : ((madeCells z.cells (N.toNat * c.C.size)).toList.take (L.toNat * c.C.size))[j] = re.zero[j % c.C.size] := by
                  have hzl : re.zero.length = c.C.size := by rw [hz, hrc2]
                  simp [madeCells, hi5]
                  simp only [hzl, List.getElem?_eq_getElem hm3, Option.getD_some]
                rw [hval]
                exact this
              · rw [Env.add_h]
                split at hq
                · cases hq
                  exact ⟨_, _, rfl⟩
                · cases hq
            · have := Rel.own (w := w.alloc (.cells (madeCells z.cells (N.toNat * i.size)) e)) (E := E.add nx (.slice (some ⟨w.heap.size, 0, none⟩) L.toNat N.toNat)) (id := nx) (.inl rfl) (by rw [Env.add_h]; exact ⟨_, _, _, rfl⟩)
              rwa [Env.add_h] at this
          · exact h.elim
        · exact h.elim
      · exact h.elim
    · exact h.elim
  · exact h.elim
def litEK (T : Tys) (D : Cds) (t : Nat) (fr : Fr) (stk : List Fr) (m : Mem) (nx : Nat) (K : KO) : Prop := match getT T t with
  | some r => match r.d with
    | .slice e => match getT T e, getC D e with
      | some _, some c => K (.own nx) fr stk ((nx, .row c.C [] e (match c.C.pl with | true => some 0 | false => none)) :: m) (nx + 1)
      | _, _ => False
    | _ => False
  | none => False
theorem litEK_ok (hT : TysOK P T) {D : Cds} (hD : CdsOK T D) {t : Nat} {ps : Array (Nat × Operand)} (hps : ps.toList = []) (ho : o.op = .buildSlice t 0 ps) (h : litEK T D t fr stk m nx K) : EffOK P base w0 o fr stk m nx K := by
  rintro E gs w a hnx hS
  unfold litEK at h
  split at h
  · rename_i r h1
    split at h
    · rename_i e h2
      have hd := (hT t r h1).desc
      rw [h2] at hd
      have hd : P.underlying t = some (.slice e) := hd
      split at h
      · rename_i re c h3 hc
        obtain ⟨clen, cpos, rc, hrc1, hrc2, hrc3⟩ := hD e c hc
        obtain rfl : ps = #[] := Array.toList_inj.1 hps
        have hrun : (Instr.buildSlice t 0 #[]).run P w = .ok (.slice (some ⟨w.heap.size, 0, none⟩) 0 0) (w.alloc (.cells #[] e)) := by
          simp only [Instr.buildSlice, Sem.run_bind, run_underlying hd, Result.andThen_ok, (hT e re h3).sizeOf w]
          simp [Instr.fill, newRow]
          congr 2
          exact Array.eq_empty_of_size_eq_zero (by simp)
        have hn := hnx.fresh
        refine ⟨.slice (some ⟨w.heap.size, 0, none⟩) 0 0, w.alloc (.cells #[] e), .inl (by simp only [execOp, ho, Sem.run_bind, List.map_toArray, List.map_nil, hrun]; rfl), .own nx, fr, stk, _, E.add nx (.slice (some ⟨w.heap.size, 0, none⟩) 0 0), _, h, hnx.add _, ?_, ?_⟩
        · refine hS.alloc hn _ _ _ rfl ⟨clen, cpos, ⟨[], ?_, RelL.nil _ _⟩, fun q hq => ?_⟩
          · rw [Env.add_h]
            refine ⟨by simp, .inr ⟨w.heap.size, 0, _, rfl, hS.ge, heap_alloc_new w _, Nat.le_refl _, by simp [maxLen], by simp, by simp⟩⟩
          · rw [Env.add_h]
            split at hq
            · cases hq
              exact ⟨_, _, rfl⟩
            · cases hq
        · have := Rel.own (w := w.alloc (.cells #[] e)) (E := E.add nx (.slice (some ⟨w.heap.size, 0, none⟩) 0 0)) (id := nx) (.inl rfl) (by rw [Env.add_h]; exact ⟨_, _, _, rfl⟩)
          rwa [Env.add_h] at this
      · exact h.elim
    · exact h.elim
  · exact h.elim
end
end Go.SX
/- Chapter 2 told plainly: how many cells a rune has. No program here. -/
namespace Go.SX.Plain
def nothingP (r : Int) : Prop := (0 ≤ r ∧ r ≤ 31) ∨ (127 ≤ r ∧ r ≤ 159) ∨ (r = 173) ∨ (768 ≤ r ∧ r ≤ 879) ∨ (1155 ≤ r ∧ r ≤ 1161) ∨ (1425 ≤ r ∧ r ≤ 1469) ∨ (r = 1471) ∨ (1473 ≤ r ∧ r ≤ 1474) ∨ (1476 ≤ r ∧ r ≤ 1477) ∨ (r = 1479) ∨ (1552 ≤ r ∧ r ≤ 1562) ∨ (r = 1564) ∨ (1611 ≤ r ∧ r ≤ 1631) ∨ (r = 1648) ∨ (1750 ≤ r ∧ r ≤ 1756) ∨ (1759 ≤ r ∧ r ≤ 1764) ∨ (1767 ≤ r ∧ r ≤ 1768) ∨ (1770 ≤ r ∧ r ≤ 1773) ∨ (r = 3633) ∨ (3636 ≤ r ∧ r ≤ 3642) ∨ (3655 ≤ r ∧ r ≤ 3662) ∨ (4448 ≤ r ∧ r ≤ 4607) ∨ (6832 ≤ r ∧ r ≤ 6911) ∨ (7616 ≤ r ∧ r ≤ 7679) ∨ (8203 ≤ r ∧ r ≤ 8207) ∨ (8232 ≤ r ∧ r ≤ 8238) ∨ (8288 ≤ r ∧ r ≤ 8303) ∨ (8400 ≤ r ∧ r ≤ 8447) ∨ (12441 ≤ r ∧ r ≤ 12442) ∨ (65024 ≤ r ∧ r ≤ 65039) ∨ (65056 ≤ r ∧ r ≤ 65071) ∨ (r = 65279) ∨ (127995 ≤ r ∧ r ≤ 127999) ∨ (917504 ≤ r ∧ r ≤ 921599)
instance (r : Int) : Decidable (nothingP r) := by unfold nothingP; infer_instance
def nothingB (r : Int) : Bool := decide (nothingP r)
def wideP (r : Int) : Prop := (4352 ≤ r ∧ r ≤ 4447) ∨ (8986 ≤ r ∧ r ≤ 8987) ∨ (9001 ≤ r ∧ r ≤ 9002) ∨ (9193 ≤ r ∧ r ≤ 9196) ∨ (9748 ≤ r ∧ r ≤ 9749) ∨ (r = 9889) ∨ (r = 9989) ∨ (r = 10024) ∨ (r = 10060) ∨ (10067 ≤ r ∧ r ≤ 10069) ∨ (10133 ≤ r ∧ r ≤ 10135) ∨ (11035 ≤ r ∧ r ≤ 11036) ∨ (11904 ≤ r ∧ r ≤ 12350) ∨ (12353 ≤ r ∧ r ≤ 42191) ∨ (43360 ≤ r ∧ r ≤ 43391) ∨ (44032 ≤ r ∧ r ≤ 55203) ∨ (63744 ≤ r ∧ r ≤ 64255) ∨ (65072 ≤ r ∧ r ≤ 65135) ∨ (65281 ≤ r ∧ r ≤ 65376) ∨ (65504 ≤ r ∧ r ≤ 65510) ∨ (127744 ≤ r ∧ r ≤ 128591) ∨ (128640 ≤ r ∧ r ≤ 128767) ∨ (129280 ≤ r ∧ r ≤ 129535) ∨ (131072 ≤ r ∧ r ≤ 262141)
instance (r : Int) : Decidable (wideP r) := by unfold wideP; infer_instance
def wideB (r : Int) : Bool := decide (wideP r)
def controlP (r : Int) : Prop := (0 ≤ r ∧ r < 32) ∨ (127 ≤ r ∧ r ≤ 159) ∨ (r = 1564) ∨ (r = 8206) ∨ (r = 8207) ∨ (8232 ≤ r ∧ r ≤ 8238) ∨ (8294 ≤ r ∧ r ≤ 8297)
instance (r : Int) : Decidable (controlP r) := by unfold controlP; infer_instance
def controlB (r : Int) : Bool := decide (controlP r)

def flagP (r : Int) : Prop := 127462 ≤ r ∧ r ≤ 127487
instance (r : Int) : Decidable (flagP r) := by unfold flagP; infer_instance
def flagB (r : Int) : Bool := decide (flagP r)
def widthI (r : Int) : Int := if nothingB r then 0 else if wideB r then 2 else 1
end Go.SX.Plain
/- The signs of a text, told plainly. No program here. -/
namespace Go.SX.Plain

theorem width_pos (s : ByteArray) (pos : Nat) : 1 ≤ (Utf8.decode s pos).2 := by
  unfold Utf8.decode
  simp only
  repeat' split
  all_goals simp
def signsGo (s : ByteArray) : Nat → Nat → List (Nat × Nat)
  | 0, _ => []
  | k + 1, pos => if pos < s.size then (pos, (Utf8.decode s pos).1) :: signsGo s k (pos + (Utf8.decode s pos).2) else []
theorem signsGo_fuel (s : ByteArray) : ∀ (k k' pos : Nat), s.size - pos ≤ k → s.size - pos ≤ k' → signsGo s k pos = signsGo s k' pos
  | 0, 0, _, _, _ => rfl
  | 0, k' + 1, pos, h, _ => by simp only [signsGo]; rw [if_neg (by omega)]
  | k + 1, 0, pos, _, h => by simp only [signsGo]; rw [if_neg (by omega)]
  | k + 1, k' + 1, pos, h, h' => by
    simp only [signsGo]
    split
    · have := width_pos s pos
      rw [signsGo_fuel s k k' _ (by omega) (by omega)]
    · rfl
def signsFrom (s : ByteArray) (pos : Nat) : List (Nat × Nat) := signsGo s (s.size - pos) pos
theorem signsFrom_end {s : ByteArray} {pos : Nat} (h : ¬ pos < s.size) : signsFrom s pos = [] := by
  unfold signsFrom
  rw [show s.size - pos = 0 by omega]
  rfl
theorem signsFrom_step {s : ByteArray} {pos : Nat} (h : pos < s.size) : signsFrom s pos = (pos, (Utf8.decode s pos).1) :: signsFrom s (pos + (Utf8.decode s pos).2) := by
  unfold signsFrom
  obtain ⟨k, hk⟩ : ∃ k, s.size - pos = k + 1 := ⟨s.size - pos - 1, by omega⟩
  rw [hk]
  simp only [signsGo]
  rw [if_pos h]
  have := width_pos s pos
  rw [signsGo_fuel s k (s.size - (pos + (Utf8.decode s pos).2)) _ (by omega) (Nat.le_refl _)]
def oneB (r : Int) (l : ByteArray) : Bool := (signsFrom l 0).any fun p => ((p.2 : Int) == r)
end Go.SX.Plain
/- A verified symbolic executor for Go code in the model, part E: rows that are made and never written: a string's bytes, literals. -/
namespace Go.SX
open Go.RowKit

theorem SatM.frozen {base : Nat} {w0 : Start} {E : Env} {stk : List Fr} {gs : List (Array Value)} {m : Mem} {w w' : World} (h : SatM base w0 E stk gs m w) (hB : Below w.heap.size w w') (hz : w.heap.size < w'.heap.size) :
    SatM base w0 { E with imm := fun b => E.imm b ∨ b = w.heap.size } stk gs m w' :=
  h.goes hB rfl rfl rfl (fun _ h => .inl h) (fun b hb => hb.elim .inl fun e => .inr (by omega)) (fun b hb => hb.elim (fun h1 => Nat.lt_of_lt_of_le (h.imm b h1) hB.size) fun e => by omega)
theorem RelL.len {w : World} {E : Env} {cs : List AV} {vs : List Value} (h : RelL w E cs vs) : cs.length = vs.length := h.1
theorem ro_of {w : World} {E : Env} {α : Type} {C : Cdc α} {l : List α} {xs : List Value} {b c : Nat} (hs : ∀ x, (C.enc x).length = C.size) (hlc : l.length ≤ c) (him : E.imm b) (hr : RelL w E.bare (l.flatMap C.enc) xs)
    (hc : ∀ i (h : i < xs.length), w.cell? ⟨b, i, none⟩ = some xs[i]) (d : α) : Rel w E (.ro C.size C.enc d l none) (.slice (some ⟨b, 0, none⟩) l.length c) := by
  have hlen : xs.length = l.length * C.size := by rw [← hr.1, flatMap_len C.enc C.size hs]
  have lt : ∀ j k, j < l.length → k < C.size → j * C.size + k < xs.length := fun j k hj hk => by
    rw [hlen]
    calc j * C.size + k < j * C.size + C.size := by omega
      _ = (j + 1) * C.size := by rw [Nat.add_mul]; omega
      _ ≤ l.length * C.size := Nat.mul_le_mul_right _ (by omega)
  refine .ro (y := fun j k => xs.getD (j * C.size + k) undef) hs (by simp) hlc (.inl him) (fun j k hj hk => ?_) fun j h1 k h2 => ?_
  · have := lt j k hj hk
    rw [Nat.zero_add, hc _ this]
    simp [this]
  · have hk : k < C.size := by rw [← hs l[j]]; exact h2
    have h3 := lt j k h1 hk
    have hg := flatMap_get C.enc C.size hs l j k h1 hk
    have h4 : j * C.size + k < (l.flatMap C.enc).length := by rw [hr.1]; exact h3
    rw [List.getElem?_eq_getElem h4, List.getElem?_eq_getElem h2] at hg
    rw [← Option.some.inj hg]
    have := hr.2 (j * C.size + k) h4 h3
    show Rel w E.bare _ _
    simpa [h3] using this

/-! ### The bytes of a string -/
def bytesL (s : ByteArray) : List Int := s.data.toList.map fun b => (b.toNat : Int)
def C_byte : Cdc Int where
  size := 1
  enc p := [.v (.int .u8 p)]
  dec l := match l with
    | [.v (.int _ a)] => a
    | _ => 0
  d := 0
theorem bytesL_len (s : ByteArray) : (bytesL s).length = s.size := by simp [bytesL]
theorem bytesL_get (s : ByteArray) (i : Nat) : (bytesL s).getD i 0 = ((s.data.toList.getD i 0).toNat : Int) := by
  simp only [bytesL, List.getD_eq_getElem?_getD, List.getElem?_map]
  cases s.data.toList[i]? <;> rfl
theorem bytesL_rel (w : World) (E : Env) (s : ByteArray) : RelL w E ((bytesL s).flatMap C_byte.enc) (s.data.toList.map fun b => Value.int .u8 (b.toNat : Int)) := by
  unfold bytesL
  generalize s.data.toList = l
  induction l with
  | nil => exact RelL.nil _ _
  | cons b l ih => exact RelL.cons (.v _) ih
/-! ### The runes of a string -/
def runesL (s : ByteArray) : List Int := (Plain.signsFrom s 0).map fun p => (p.2 : Int)
def C_run : Cdc Int where
  size := 1
  enc p := [.v (.int .i32 p)]
  dec l := match l with
    | [.v (.int _ a)] => a
    | _ => 0
  d := 0
theorem runesFrom_eq (s : ByteArray) : ∀ (k i : Nat) (acc : Array Value), (Conv.runesFrom s k i acc).toList = acc.toList ++ (Plain.signsGo s k i).map fun p => Value.int .i32 (p.2 : Int)
  | 0, i, acc => by simp [Conv.runesFrom, Plain.signsGo]
  | k + 1, i, acc => by
    unfold Conv.runesFrom
    simp only [Plain.signsGo]
    split
    · rw [runesFrom_eq s k]
      simp
    · simp
theorem runesL_vals (s : ByteArray) : (Conv.runesFrom s s.size 0 #[]).toList = (runesL s).map fun r => Value.int .i32 r := by
  rw [runesFrom_eq]
  simp [runesL, Plain.signsFrom]
theorem runesL_size (s : ByteArray) : (Conv.runesFrom s s.size 0 #[]).size = (runesL s).length := by
  rw [← Array.length_toList, runesL_vals, List.length_map]
theorem runesL_rel (w : World) (E : Env) (s : ByteArray) : RelL w E ((runesL s).flatMap C_run.enc) ((runesL s).map fun r => Value.int .i32 r) := by
  generalize runesL s = l
  induction l with
  | nil => exact RelL.nil _ _
  | cons b l ih => exact RelL.cons (.v _) ih
section
variable {P : Program} {T : Tys} {base : Nat} {w0 : Start} {o : Oper} {fr : Fr} {stk : List Fr} {m : Mem} {nx : Nat} {K : KO}
def bytesK (T : Tys) (src dst : Nat) (x : Operand) (fr : Fr) (stk : List Fr) (m : Mem) (nx : Nat) (K : KO) : Prop := match getT T src, getT T dst with
  | some rs, some r => match r.d with
    | .slice e => match getT T e with
      | some re => match re.d with
        | .int .u8 => op1 (ev fr x) fun p x => match x with
          | .v (.string s) => p.out (K (.ro C_byte.size C_byte.enc C_byte.d (bytesL s) none) fr stk m nx)
          | _ => False
        | .int .i32 => match rs.d with
          | .str => op1 (ev fr x) fun p x => match x with
            | .v (.string s) => p.out (s.size ≤ 70368744177664 ∧ Run (K (.ro C_run.size C_run.enc C_run.d (runesL s) none) fr stk m nx))
            | _ => False
          | _ => False
        | _ => False
      | none => False
    | _ => False
  | _, _ => False
theorem bytesK_ok (hT : TysOK P T) {src dst : Nat} {x : Operand} (ho : o.op = .convert src dst x) (h : bytesK T src dst x fr stk m nx K) : EffOK P base w0 o fr stk m nx K := by
  rintro E gs w a hnx hS
  unfold bytesK at h
  split at h
  · rename_i rs r h0 h1
    obtain ⟨us, hus⟩ := run_typed (hT src rs h0).desc
    split at h
    · rename_i e h2
      have hd := (hT dst r h1).desc
      rw [h2] at hd
      have hd : P.underlying dst = some (.slice e) := hd
      split at h
      · rename_i re h3
        split at h
        · rename_i h4
          have he := (hT e re h3).desc
          rw [h4] at he
          have he : P.underlying e = some (.int .u8) := he
          obtain ⟨p, x', h, hx⟩ := op1_ok h
          split at h
          · rename_i s
            obtain ⟨hp, h⟩ := VC.out_ok h
            have hxv := (hx w E _ hp (ev_ok hS.top x)).v_inv
            have hB : Below w.heap.size w (Lib.bytesWorld w e s) := ⟨rfl, rfl, rfl, by rw [Lib.bytesWorld_size]; omega, fun k hk => Lib.bytesWorld_at_old w e s k hk⟩
            have hS' := hS.frozen hB (by rw [Lib.bytesWorld_size]; omega)
            refine ⟨_, _, .inl (by simp only [execOp, ho, Sem.run_bind, hxv, Lib.run_convert_string_bytes w src dst e s hus hd he]; rfl), _, fr, stk, m, { E with imm := fun b => E.imm b ∨ b = w.heap.size }, nx, h, hnx, hS', ?_⟩
            have hsz : s.size = (bytesL s).length := (bytesL_len s).symm
            rw [show Value.slice (some ⟨w.heap.size, 0, none⟩) s.size (grownCap w s.size 0 e) = Value.slice (some ⟨w.heap.size, 0, none⟩) (bytesL s).length (grownCap w s.size 0 e) by rw [hsz]]
            refine ro_of (C := C_byte) (fun _ => rfl) (by rw [bytesL_len]; exact grownCap_ge w s.size 0 e) (Or.inr rfl) (bytesL_rel _ _ s) (fun i hi => ?_) _
            have hi' : i < s.size := by simpa using hi
            rw [Lib.bytesWorld_cell w e s i hi']
            simp [hi']
          · exact h.elim
        · rename_i h4
          have he := (hT e re h3).desc
          rw [h4] at he
          have he : P.underlying e = some (.int .i32) := he
          split at h
          case h_2 => exact h.elim
          rename_i h5
          have hs0 := (hT src rs h0).desc
          rw [h5] at hs0
          have hs0 : P.underlying src = some .string := hs0
          obtain ⟨p, x', h, hx⟩ := op1_ok h
          split at h
          · rename_i s
            obtain ⟨hp, h46, h⟩ := VC.out_ok h
            have hxv := (hx w E _ hp (ev_ok hS.top x)).v_inv
            have hsz := runesL_size s
            have hlen : (runesL s).length ≤ s.size := by
              have := size_runesFrom s s.size 0 #[]
              rw [← hsz]; simpa using this
            have hge := grownCap_ge w (Conv.runesFrom s s.size 0 #[]).size 0 e
            obtain ⟨w', hw'⟩ : ∃ w', w' = (w.drew.alloc (.cells (Conv.runesFrom s s.size 0 #[] ++ Array.replicate (grownCap w (Conv.runesFrom s s.size 0 #[]).size 0 e - (Conv.runesFrom s s.size 0 #[]).size) (.int .i32 0)) e)) := ⟨_, rfl⟩
            have hnew : w'.heap[w.heap.size]? = some (.cells (Conv.runesFrom s s.size 0 #[] ++ Array.replicate (grownCap w (Conv.runesFrom s s.size 0 #[]).size 0 e - (Conv.runesFrom s s.size 0 #[]).size) (.int .i32 0)) e) := by rw [hw']; exact heap_alloc_new w.drew _
            have hB : Below w.heap.size w w' := by rw [hw']; exact ⟨rfl, rfl, rfl, by simp [World.alloc, World.drew, -World.alloc_eq, -World.drew_eq], fun k hk => RowKit.Below.heap_alloc w.drew _ k hk⟩
            have hS' := hS.frozen hB (by rw [hw']; simp [World.alloc, World.drew, -World.alloc_eq, -World.drew_eq])
            refine ⟨_, w', .inl (by simp only [execOp, ho, Sem.run_bind, hxv, run_runes_of_string w src dst e s hs0 hd he (by omega)]; rw [hw']; rfl), _, fr, stk, m, { E with imm := fun b => E.imm b ∨ b = w.heap.size }, nx, h.out, hnx, hS', ?_⟩
            rw [hsz]
            refine ro_of (C := C_run) (fun _ => rfl) (by rw [hsz] at hge; exact hge) (Or.inr rfl) (runesL_rel _ _ s) (fun i hi => ?_) _
            have hi' : i < (runesL s).length := by simpa using hi
            have hi2 : i < (Conv.runesFrom s s.size 0 #[]).size := by omega
            simp only [World.cell?, hnew]
            rw [if_neg (by simp), Array.getElem?_append_left hi2, Array.getElem?_eq_getElem hi2]
            congr 1
            have := runesL_vals s
            simp only [← Array.getElem_toList, this]
          · exact h.elim
        · exact h.elim
      · exact h.elim
    · exact h.elim
  · exact h.elim

/-! ### Literals -/
def litsK {α : Type} (C : Cdc α) (fr : Fr) : Nat → List (Nat × Operand) → VC → (VC → List α → Prop) → Prop
  | _, [], p, k => k p []
  | j, (i, x) :: r, p, k => match Nat.beq i j with
    | true => op1 (ev fr x) fun q x => p.and q fun p => cellsOf x fun cs => match Nat.beq cs.length C.size with
      | true => LeL cs (C.enc (C.dec cs)) ∧ Run (litsK C fr (j + 1) r p fun p l => k p (C.dec cs :: l))
      | false => False
    | false => False
theorem litsK_ok {α : Type} {C : Cdc α} {fr : Fr} : ∀ {ps : List (Nat × Operand)} {j : Nat} {p : VC} {k : VC → List α → Prop}, litsK C fr j ps p k → ∃ q l, k q l ∧ l.length = ps.length ∧ (q.ok → p.ok) ∧ ps.map (·.1) = (List.range ps.length).map (j + ·) ∧
    ∀ (w : World) (E : Env) (a : Act), FrR w E fr a.tmps → q.ok → RelL w E.bare (l.flatMap C.enc) (ps.flatMap fun q => (a.eval q.2).cells.toList) ∧ ∀ q ∈ ps, (a.eval q.2).cells.size = C.size
  | [], j, p, k, h => ⟨p, [], h, rfl, fun h => h, rfl, fun w E a hf hq => ⟨RelL.nil _ _, fun q hq => by cases hq⟩⟩
  | (i, x) :: r, j, p, k, h => by
    simp only [litsK] at h
    split at h
    · rename_i hij
      obtain rfl := Nat.eq_of_beq_eq_true hij
      obtain ⟨q, x', h, hx⟩ := op1_ok h
      obtain ⟨p', h, hp'⟩ := VC.and_ok h
      obtain ⟨h, hc⟩ := cellsOf_ok h
      split at h
      · rename_i hlen
        have hlen := Nat.eq_of_beq_eq_true hlen
        obtain ⟨hle, h⟩ := h
        obtain ⟨q', l, hk, hl, hq, hm, hr⟩ := litsK_ok h.out
        refine ⟨q', _, hk, by simp [hl], fun h => (hp' (hq h)).1, ?_, fun w E a hf hok => ?_⟩
        · rw [List.map_cons, hm, List.length_cons, List.range_succ_eq_map]
          simp only [List.map_cons, List.map_map, Nat.add_zero, List.cons.injEq, true_and]
          apply List.map_congr_left
          intro a _
          simp only [Function.comp_apply]
          omega
        · obtain ⟨h1, h2⟩ := hr w E a hf hok
          have hv := hx w E _ (hp' (hq hok)).2 (ev_ok hf x)
          have hcells := (hc hv).1
          have hb : RelL w E.bare (C.enc (C.dec x'.cells)) (a.eval x).cells.toList := hle.rel hcells
          refine ⟨?_, fun q hq => ?_⟩
          · simp only [List.flatMap_cons]
            exact hb.append h1
          · rcases List.mem_cons.1 hq with rfl | hq
            · have := hcells.1
              simp at this
              show (a.eval x).cells.size = C.size
              omega
            · exact h2 q hq
      · exact h.elim
    · exact h.elim
theorem fill_seq (sz : Nat) : ∀ (ps : List (Nat × Value)) (j : Nat) (cells : Array Value), (∀ q ∈ ps, q.2.cells.size = sz) → ps.map (·.1) = (List.range ps.length).map (j + ·) → (j + ps.length) * sz ≤ cells.size →
    Instr.fill (fun i => some (i * sz, sz)) cells ps = some (cells.toList.take (j * sz) ++ ps.flatMap (fun q => q.2.cells.toList) ++ cells.toList.drop ((j + ps.length) * sz)).toArray
  | [], j, cells, _, _, _ => by simp [Instr.fill]
  | (i, v) :: r, j, cells, hs, hm, hz => by
    have hv := hs (i, v) List.mem_cons_self
    simp only at hv
    rw [List.length_cons, List.range_succ_eq_map] at hm
    simp only [List.map_cons, List.map_map, Nat.add_zero, List.cons.injEq] at hm
    obtain ⟨rfl, hm⟩ := hm
    simp only [List.length_cons] at hz
    have hz1 : i * sz + sz ≤ cells.size := by
      refine Nat.le_trans ?_ hz
      rw [show i + (r.length + 1) = (i + 1) + r.length by omega, Nat.add_mul, Nat.add_mul]
      omega
    simp only [Instr.fill]
    rw [if_neg (by simp [hv]; omega)]
    have hzi : v.cells.zipIdx = (v.cells.toList.zipIdx 0).toArray := by apply Array.ext'; simp
    rw [hzi, List.foldl_toArray, foldl_lay (i * sz) _ 0 _ (by simp [hv]; omega)]
    rw [fill_seq sz r (i + 1) _ (fun q hq => hs q (List.mem_cons_of_mem _ hq)) ?_ ?_]
    · congr 2
      simp only [Nat.add_zero, Array.length_toList, hv, List.flatMap_cons, List.length_cons]
      have e1 : (i + 1) * sz = i * sz + sz := by rw [Nat.add_mul]; omega
      have e2 : (i + (r.length + 1)) * sz = (i + 1 + r.length) * sz := by rw [show i + (r.length + 1) = i + 1 + r.length by omega]
      rw [e2]
      generalize hA : cells.toList.take (i * sz) = A
      have hAl : A.length = i * sz := by rw [← hA, List.length_take]; simp; omega
      generalize hB : v.cells.toList = B
      have hBl : B.length = sz := by rw [← hB]; simpa using hv
      have h1 : List.take ((i + 1) * sz) (A ++ B ++ cells.toList.drop (i * sz + sz)) = A ++ B := by
        rw [List.take_append_of_le_length (by simp [hAl, hBl]; omega), List.take_of_length_le (by simp [hAl, hBl]; omega)]
      have h2 : List.drop ((i + 1 + r.length) * sz) (A ++ B ++ cells.toList.drop (i * sz + sz)) = cells.toList.drop ((i + 1 + r.length) * sz) := by
        have hge : i * sz + sz ≤ (i + 1 + r.length) * sz := by rw [Nat.add_mul, e1]; omega
        rw [List.drop_append, List.drop_of_length_le (by simp [hAl, hBl]; omega), List.nil_append, List.drop_drop]
        congr 1
        simp [hAl, hBl]
        omega
      rw [h1, h2]
      simp
    · rw [hm]
      apply List.map_congr_left
      intro a _
      simp only [Function.comp_apply]
      omega
    · simp [hv]
      have e2 : (i + (r.length + 1)) * sz = (i + 1 + r.length) * sz := by rw [show i + (r.length + 1) = i + 1 + r.length by omega]
      rw [← e2]
      have : min (i * sz) cells.size = i * sz := by omega
      omega
def lit1 (T : Tys) (D : Cds) (t n : Nat) : Bool := match Nat.beq n 1 with
  | false => false
  | true => match getT T t with
    | some r => match r.d with
      | .slice e => match getC D e with
        | some c => match c.C.lit with
          | true => false
          | false => true
        | none => true
      | _ => true
    | none => true
def litNK (T : Tys) (D : Cds) (t n : Nat) (ps : List (Nat × Operand)) (fr : Fr) (stk : List Fr) (m : Mem) (nx : Nat) (K : KO) : Prop := match getT T t with
  | some r => match r.d with
    | .slice e => match getT T e, getC D e with
      | some re, some c => match Nat.beq ps.length n, Nat.ble (n * re.size) 16000000, Nat.ble 1 n with
        | true, true, true => litsK c.C fr 0 ps none fun p l => p.out (K (.ro c.C.size c.C.enc c.C.d l none) fr stk m nx)
        | _, _, _ => False
      | _, _ => False
    | _ => False
  | none => False
theorem litNK_ok (hT : TysOK P T) {D : Cds} (hD : CdsOK T D) {t n : Nat} {ps : Array (Nat × Operand)} (ho : o.op = .buildSlice t n ps) (h : litNK T D t n ps.toList fr stk m nx K) : EffOK P base w0 o fr stk m nx K := by
  rintro E gs w a hnx hS
  unfold litNK at h
  split at h
  · rename_i r h1
    split at h
    · rename_i e h2
      have hd := (hT t r h1).desc
      rw [h2] at hd
      have hd : P.underlying t = some (.slice e) := hd
      split at h
      · rename_i re c h3 hc
        obtain ⟨clen, cpos, rc, hrc1, hrc2, hrc3⟩ := hD e c hc
        rw [h3] at hrc1
        cases hrc1
        split at h
        · rename_i e1 e2 e3
          have e1 := Nat.eq_of_beq_eq_true e1
          have e2 := Nat.le_of_ble_eq_true e2
          have e3 := Nat.le_of_ble_eq_true e3
          obtain ⟨q, l, h, hl, _, hm, hr⟩ := litsK_ok h
          obtain ⟨hp, h⟩ := VC.out_ok h
          obtain ⟨hrel, hsz⟩ := hr w E a hS.top hp
          obtain ⟨z, hz1, hz2⟩ := (hT e re h3).zero
          have hb : ¬ (n * re.size > 2 ^ 24) := by omega
          have hne : ¬ (n * re.size = 0) := by
            rw [hrc2]
            have : 1 * 1 ≤ n * c.C.size := Nat.mul_le_mul e3 cpos
            omega
          have hlen : (ps.toList.flatMap fun q => (a.eval q.2).cells.toList).length = n * re.size := by
            rw [← hrel.1, flatMap_len c.C.enc c.C.size clen, hl, e1, hrc2]
          have hfill : Instr.fill (fun i => some (i * re.size, re.size)) ((Array.range (n * re.size)).map (z.cells[· % z.cells.size]!)) (ps.map fun (i, x) => (i, a.eval x)).toList = some (ps.toList.flatMap fun q => (a.eval q.2).cells.toList).toArray := by
            rw [fill_seq re.size _ 0 _ ?_ ?_ ?_]
            · have h0 : (0 + (ps.map fun (i, x) => (i, a.eval x)).toList.length) * re.size = n * re.size := by simp [← e1]
              have hdrop : List.drop (n * re.size) ((Array.range (n * re.size)).map (z.cells[· % z.cells.size]!)).toList = [] := List.drop_eq_nil_of_le (by simp)
              rw [h0, hdrop]
              simp [List.flatMap_map]
            · intro q hq
              simp only [Array.toList_map, List.mem_map] at hq
              obtain ⟨q', hq', rfl⟩ := hq
              rw [hrc2]
              exact hsz q' hq'
            · simp only [Array.toList_map, List.map_map, List.length_map]
              rw [← hm]
              rfl
            · simp [← e1]
          have hrun : (Instr.buildSlice t n (ps.map fun (i, x) => (i, a.eval x))).run P w = .ok (.slice (some ⟨w.heap.size, 0, none⟩) n n) (w.alloc (.cells (ps.toList.flatMap fun q => (a.eval q.2).cells.toList).toArray e)) := by
            simp only [Instr.buildSlice, Sem.run_bind, run_underlying hd, Result.andThen_ok, (hT e re h3).sizeOf w, if_neg hb, if_neg hne, hz2, Sem.run_pure]
            simp only [hfill]
            simp [newRow]
          have hB : Below w.heap.size w (w.alloc (.cells (ps.toList.flatMap fun q => (a.eval q.2).cells.toList).toArray e)) := (RowKit.Below.refl _ _).alloc (Nat.le_refl _) _
          have hS' := hS.frozen hB (by simp)
          refine ⟨_, _, .inl (by simp only [execOp, ho, Sem.run_bind]; rw [hrun]; rfl), _, fr, stk, m, { E with imm := fun b => E.imm b ∨ b = w.heap.size }, nx, h, hnx, hS', ?_⟩
          have hn : n = l.length := by rw [hl, e1]
          rw [hn]
          refine ro_of clen (Nat.le_refl _) (Or.inr rfl) (hrel.mono (Goes.bare (fun _ h => Or.inl h) fun b hb => hB.block b (hS.imm b hb))) (fun i hi => ?_) _
          have hnew := heap_alloc_new w (.cells (ps.toList.flatMap fun q => (a.eval q.2).cells.toList).toArray e)
          simp only [World.cell?, hnew]
          simp [hi]
        · exact h.elim
      · exact h.elim
    · exact h.elim
  · exact h.elim
def catK : List AV → List AV → (List AV → Prop) → Prop
  | [], r, k => k r
  | x :: l, r, k => catK l r fun l => k (x :: l)
theorem catK_eq : ∀ (l r : List AV) (k : List AV → Prop), catK l r k = k (l ++ r)
  | [], _, _ => rfl
  | x :: l, r, k => by simp only [catK, catK_eq l, List.cons_append]
def litBs (sz : Nat) (fr : Fr) : Nat → List (Nat × Operand) → VC → (VC → List AV → Prop) → Prop
  | _, [], p, k => k p []
  | j, (i, x) :: r, p, k => match Nat.beq i j with
    | true => op1 (ev fr x) fun q x => p.and q fun p => cellsOf x fun cs => match Nat.beq cs.length sz with
      | true => litBs sz fr (j + 1) r p fun p l => catK cs l fun l => k p l
      | false => False
    | false => False
theorem litBs_ok {sz : Nat} {fr : Fr} : ∀ {ps : List (Nat × Operand)} {j : Nat} {p : VC} {k : VC → List AV → Prop}, litBs sz fr j ps p k → ∃ q l, k q l ∧ (q.ok → p.ok) ∧ ps.map (·.1) = (List.range ps.length).map (j + ·) ∧
    ∀ (w : World) (E : Env) (a : Act), FrR w E fr a.tmps → q.ok → RelL w E l (ps.flatMap fun q => (a.eval q.2).cells.toList) ∧ ∀ q ∈ ps, (a.eval q.2).cells.size = sz
  | [], j, p, k, h => ⟨p, [], h, fun h => h, rfl, fun w E a hf hq => ⟨RelL.nil _ _, fun q hq => by cases hq⟩⟩
  | (i, x) :: r, j, p, k, h => by
    simp only [litBs] at h
    split at h
    · rename_i hij
      obtain rfl := Nat.eq_of_beq_eq_true hij
      obtain ⟨q, x', h, hx⟩ := op1_ok h
      obtain ⟨p', h, hp'⟩ := VC.and_ok h
      obtain ⟨h, hc⟩ := cellsOf_ok h
      split at h
      · rename_i hlen
        have hlen := Nat.eq_of_beq_eq_true hlen
        obtain ⟨q', l, hk, hq, hm, hr⟩ := litBs_ok h
        rw [catK_eq] at hk
        refine ⟨q', _, hk, fun h => (hp' (hq h)).1, ?_, fun w E a hf hok => ?_⟩
        · rw [List.map_cons, hm, List.length_cons, List.range_succ_eq_map]
          simp only [List.map_cons, List.map_map, Nat.add_zero, List.cons.injEq, true_and]
          apply List.map_congr_left
          intro a _
          simp only [Function.comp_apply]
          omega
        · obtain ⟨h1, h2⟩ := hr w E a hf hok
          have hv := hx w E _ (hp' (hq hok)).2 (ev_ok hf x)
          have hcells := (hc hv).1
          refine ⟨?_, fun q hq => ?_⟩
          · simp only [List.flatMap_cons]
            exact hcells.append h1
          · rcases List.mem_cons.1 hq with rfl | hq
            · have := hcells.1
              simp at this
              show (a.eval x).cells.size = sz
              omega
            · exact h2 q hq
      · exact h.elim
    · exact h.elim
def litBK (T : Tys) (t n : Nat) (ps : List (Nat × Operand)) (fr : Fr) (stk : List Fr) (m : Mem) (nx : Nat) (K : KO) : Prop := match getT T t with
  | some r => match r.d with
    | .slice e => match getT T e with
      | some re => match Nat.beq ps.length n, Nat.ble (n * re.size) 16000000, Nat.ble 1 (n * re.size) with
        | true, true, true => litBs re.size fr 0 ps none fun p l => p.out (K (.bsl nx n) fr stk ((nx, .box l e) :: m) (nx + 1))
        | _, _, _ => False
      | none => False
    | _ => False
  | none => False
theorem litBK_ok (hT : TysOK P T) {t n : Nat} {ps : Array (Nat × Operand)} (ho : o.op = .buildSlice t n ps) (h : litBK T t n ps.toList fr stk m nx K) : EffOK P base w0 o fr stk m nx K := by
  rintro E gs w a hnx hS
  unfold litBK at h
  split at h
  · rename_i r h1
    split at h
    · rename_i e h2
      have hd := (hT t r h1).desc
      rw [h2] at hd
      have hd : P.underlying t = some (.slice e) := hd
      split at h
      · rename_i re h3
        split at h
        · rename_i e1 e2 e3
          have e1 := Nat.eq_of_beq_eq_true e1
          have e2 := Nat.le_of_ble_eq_true e2
          have e3 := Nat.le_of_ble_eq_true e3
          obtain ⟨q, l, h, _, hm, hr⟩ := litBs_ok h
          obtain ⟨hp, h⟩ := VC.out_ok h
          obtain ⟨hrel, hsz⟩ := hr w E a hS.top hp
          obtain ⟨z, hz1, hz2⟩ := (hT e re h3).zero
          have hb : ¬ (n * re.size > 2 ^ 24) := by omega
          have hne : ¬ (n * re.size = 0) := by omega
          have hlen : (ps.toList.flatMap fun q => (a.eval q.2).cells.toList).length = n * re.size := by
            rw [← e1]
            clear hrel hm h e1 e2 e3 hb hne
            generalize ps.toList = L at hsz
            induction L with
            | nil => simp
            | cons x L ih =>
              simp only [List.flatMap_cons, List.length_append, List.length_cons, Nat.add_mul]
              rw [ih fun q hq => hsz q (List.mem_cons_of_mem _ hq)]
              have := hsz x (List.mem_cons_self ..)
              simp only [Array.length_toList]
              omega
          have hfill : Instr.fill (fun i => some (i * re.size, re.size)) ((Array.range (n * re.size)).map (z.cells[· % z.cells.size]!)) (ps.map fun (i, x) => (i, a.eval x)).toList = some (ps.toList.flatMap fun q => (a.eval q.2).cells.toList).toArray := by
            rw [fill_seq re.size _ 0 _ ?_ ?_ ?_]
            · have h0 : (0 + (ps.map fun (i, x) => (i, a.eval x)).toList.length) * re.size = n * re.size := by simp [← e1]
              have hdrop : List.drop (n * re.size) ((Array.range (n * re.size)).map (z.cells[· % z.cells.size]!)).toList = [] := List.drop_eq_nil_of_le (by simp)
              rw [h0, hdrop]
              simp [List.flatMap_map]
            · intro q hq
              simp only [Array.toList_map, List.mem_map] at hq
              obtain ⟨q', hq', rfl⟩ := hq
              exact hsz q' hq'
            · simp only [Array.toList_map, List.map_map, List.length_map]
              rw [← hm]
              rfl
            · simp [← e1]
          have hrun : (Instr.buildSlice t n (ps.map fun (i, x) => (i, a.eval x))).run P w = .ok (.slice (some ⟨w.heap.size, 0, none⟩) n n) (w.alloc (.cells (ps.toList.flatMap fun q => (a.eval q.2).cells.toList).toArray e)) := by
            simp only [Instr.buildSlice, Sem.run_bind, run_underlying hd, Result.andThen_ok, (hT e re h3).sizeOf w, if_neg hb, if_neg hne, hz2, Sem.run_pure]
            simp only [hfill]
            simp [newRow]
          have := hS.newBox hnx.fresh l (ps.toList.flatMap fun q => (a.eval q.2).cells.toList).toArray e (by simpa using hrel)
          exact ⟨_, _, .inl (by simp only [execOp, ho, Sem.run_bind]; rw [hrun]; rfl), _, fr, stk, _, E.add nx (.pointer (some ⟨w.heap.size, 0, none⟩)), _, h, hnx.add _, this.1, .bsl n (.inl rfl) (E.add_h _ _)⟩
        · exact h.elim
      · exact h.elim
    · exact h.elim
  · exact h.elim
def noCdc (T : Tys) (D : Cds) (t : Nat) : Bool := match getT T t with
  | some r => match r.d with
    | .slice e => match getC D e with
      | none => true
      | some _ => false
    | _ => false
  | none => false
/-! ### The same, without memory in sight (for regions that draw their order) -/
theorem litK_at (hT : TysOK P T) {t n : Nat} {ps : Array (Nat × Operand)} (ho : o.op = .buildSlice t n ps) (h : litK T t n ps.toList fr stk m nx K) : ∃ cs e, K (.bsl nx 1) fr stk ((nx, .box cs e) :: m) (nx + 1) ∧
    ∀ (w : World) (E : Env) (a : Act), FrR w E fr a.tmps → ∃ vs : Array Value, (execOp a.eval o).run P w = .ok (.value (.slice (some ⟨w.heap.size, 0, none⟩) 1 1)) (w.alloc (.cells vs e)) ∧ RelL w E cs vs.toList := by
  unfold litK at h
  split at h
  · rename_i r h1
    split at h
    · rename_i e h2
      split at h
      · rename_i re h3
        split at h
        · rename_i x hps
          obtain ⟨p, x', h, hx⟩ := op1_ok h
          obtain ⟨h, hc⟩ := cellsOf_ok h
          split at h
          · rename_i e1 e2 e3
            have e1 := Nat.eq_of_beq_eq_true e1
            have e2 := Nat.le_of_ble_eq_true e2
            have e3 := Nat.le_of_ble_eq_true e3
            obtain ⟨hp, h⟩ := VC.out_ok h
            refine ⟨_, _, h, fun w E a hf => ?_⟩
            have hr := hx w E _ hp (ev_ok hf x)
            have hcells := (hc hr).1
            have hps' : ps = #[(0, x)] := by cases ps; simpa using hps
            refine ⟨(a.eval x).cells, ?_, hcells⟩
            have hrun := run_buildSlice1 hT h1 h2 h3 (a.eval x) (by have := hcells.1; simp at this; omega) e2 e3 w
            simp only [execOp, ho, hps', List.map_toArray, List.map_cons, List.map_nil, Sem.run_bind]
            rw [hrun]
            rfl
          · exact h.elim
        · exact h.elim
      · exact h.elim
    · exact h.elim
  · exact h.elim
theorem litNK_at (hT : TysOK P T) {D : Cds} (hD : CdsOK T D) {t n : Nat} {ps : Array (Nat × Operand)} (ho : o.op = .buildSlice t n ps) (h : litNK T D t n ps.toList fr stk m nx K) : ∃ (c : Cd) (l : List c.α) (e : Nat), (∀ x, (c.C.enc x).length = c.C.size) ∧
    K (.ro c.C.size c.C.enc c.C.d l none) fr stk m nx ∧ ∀ (w : World) (E : Env) (a : Act), FrR w E fr a.tmps → ∃ vs : List Value, (execOp a.eval o).run P w = .ok (.value (.slice (some ⟨w.heap.size, 0, none⟩) l.length l.length)) (w.alloc (.cells vs.toArray e)) ∧ RelL w E.bare (l.flatMap c.C.enc) vs := by
  unfold litNK at h
  split at h
  · rename_i r h1
    split at h
    · rename_i e h2
      have hd := (hT t r h1).desc
      rw [h2] at hd
      have hd : P.underlying t = some (.slice e) := hd
      split at h
      · rename_i re c h3 hc
        obtain ⟨clen, cpos, rc, hrc1, hrc2, hrc3⟩ := hD e c hc
        rw [h3] at hrc1
        cases hrc1
        split at h
        · rename_i e1 e2 e3
          have e1 := Nat.eq_of_beq_eq_true e1
          have e2 := Nat.le_of_ble_eq_true e2
          have e3 := Nat.le_of_ble_eq_true e3
          obtain ⟨q, l, h, hl, _, hm, hr⟩ := litsK_ok h
          obtain ⟨hp, h⟩ := VC.out_ok h
          refine ⟨c, l, e, clen, h, fun w E a hf => ?_⟩
          obtain ⟨hrel, hsz⟩ := hr w E a hf hp
          obtain ⟨z, hz1, hz2⟩ := (hT e re h3).zero
          have hb : ¬ (n * re.size > 2 ^ 24) := by omega
          have hne : ¬ (n * re.size = 0) := by
            rw [hrc2]
            have : 1 * 1 ≤ n * c.C.size := Nat.mul_le_mul e3 cpos
            omega
          have hfill : Instr.fill (fun i => some (i * re.size, re.size)) ((Array.range (n * re.size)).map (z.cells[· % z.cells.size]!)) (ps.map fun (i, x) => (i, a.eval x)).toList = some (ps.toList.flatMap fun q => (a.eval q.2).cells.toList).toArray := by
            rw [fill_seq re.size _ 0 _ ?_ ?_ ?_]
            · have h0 : (0 + (ps.map fun (i, x) => (i, a.eval x)).toList.length) * re.size = n * re.size := by simp [← e1]
              have hdrop : List.drop (n * re.size) ((Array.range (n * re.size)).map (z.cells[· % z.cells.size]!)).toList = [] := List.drop_eq_nil_of_le (by simp)
              rw [h0, hdrop]
              simp [List.flatMap_map]
            · intro q hq
              simp only [Array.toList_map, List.mem_map] at hq
              obtain ⟨q', hq', rfl⟩ := hq
              rw [hrc2]
              exact hsz q' hq'
            · simp only [Array.toList_map, List.map_map, List.length_map]
              rw [← hm]
              rfl
            · simp [← e1]
          have hrun : (Instr.buildSlice t n (ps.map fun (i, x) => (i, a.eval x))).run P w = .ok (.slice (some ⟨w.heap.size, 0, none⟩) n n) (w.alloc (.cells (ps.toList.flatMap fun q => (a.eval q.2).cells.toList).toArray e)) := by
            simp only [Instr.buildSlice, Sem.run_bind, run_underlying hd, Result.andThen_ok, (hT e re h3).sizeOf w, if_neg hb, if_neg hne, hz2, Sem.run_pure]
            simp only [hfill]
            simp [newRow]
          have hn : l.length = n := by rw [hl, e1]
          refine ⟨_, by simp only [execOp, ho, Sem.run_bind]; rw [hrun, hn]; rfl, hrel⟩
        · exact h.elim
      · exact h.elim
    · exact h.elim
  · exact h.elim
end
end Go.SX
/- A verified symbolic executor for Go code in the model, part 12: operations with their guards; regions. -/
namespace Go.SX
open Go.RowKit

structure Wide (F : Fence) : Prop where
  fn : ∀ f, F.fn f
  depth : F.depth = none

def NextOK (F : Fence) (n : Nat) (P : Program) (R : Value → World → Prop) : Result Next → Prop
  | .ok (.value v) w => R v w
  | .ok .skip w => R undef w
  | .ok (.enter f args) w => CallsIn F (n - 1) P f args w fun
    | .returned v, w' => R v w'
    | _, _ => False
  | .ok (.row row args) w => RowsIn F (n - 1) P row args w R
  | .ok (.round l f tmps assign body) w => RoundIn F (n - 1) P l f tmps assign body w fun
    | .returned v, w' => R v w'
    | _, _ => False
  | _ => False
theorem NextOK.mono {F : Fence} {n : Nat} {P : Program} {R R' : Value → World → Prop} {r : Result Next} (h : NextOK F n P R r) (hr : ∀ v w, R v w → R' v w) : NextOK F n P R' r := by
  cases r with
  | ok x w =>
    cases x <;> simp only [NextOK] at h ⊢ <;> first
      | exact h.elim
      | exact hr _ _ h
      | exact h.mono hr
      | exact CallsIn.mono h (fun e w'' he => by cases e <;> first | exact hr _ _ he | exact he)
      | exact RoundIn.mono h (fun e w'' he => by cases e <;> first | exact hr _ _ he | exact he)
  | halt x w => simp only [NextOK] at h
theorem NextOK.upon {F : Fence} (W : Wide F) {n : Nat} {P : Program} {o : Oper} {a : Act} {next : Act → World → Prop} {Q : Exit → Act → World → Prop} {r : Result Next}
    (h : NextOK F n P (fun v w => next (a.put o.dst v) w) r) : o.uponIn F n P a next Q r := by
  have hd : F.depth.isSome = true → 1 ≤ n := fun h => by rw [W.depth] at h; cases h
  cases r with
  | ok x w =>
    cases x <;> simp only [NextOK] at h <;> simp only [Oper.uponIn] <;> first
      | exact h.elim
      | exact h
      | exact ⟨hd, h⟩
      | exact ⟨hd, CallsIn.mono h (fun e w'' he => by cases e <;> first | exact he | exact he.elim)⟩
      | exact ⟨hd, RoundIn.mono h (fun e w'' he => by cases e <;> first | exact he | exact he.elim)⟩
  | halt x w => simp only [NextOK] at h

def ResOK (base : Nat) (w0 : Start) (gs : List (Array Value)) (tm : Array Value) (K : KO) (v : Value) (w : World) : Prop :=
  ∃ x fr' stk' m' E' nx', K x fr' stk' m' nx' ∧ E'.under nx' ∧ SatM base w0 E' (fr' :: stk') (tm :: gs) m' w ∧ Rel w E' x v
def callSem (fv : Value) (vs : Array Value) : Sem Next := do
  let d ← Deferred.ofValue fv vs
  invoke d.target d.args
abbrev Handler := AV → List AV → Fr → List Fr → Mem → Nat → KO → Prop
def HOK (P : Program) (F : Fence) (n : Nat) (H : Handler) : Prop := ∀ (f : AV) (args : List AV) (fr : Fr) (stk : List Fr) (m : Mem) (nx : Nat) (K : KO), H f args fr stk m nx K →
  ∀ (base : Nat) (w0 : Start) (E : Env) (gs : List (Array Value)) (w : World) (tm : Array Value) (fv : Value) (vs : Array Value), E.under nx → SatM base w0 E (fr :: stk) (tm :: gs) m w → Rel w E f fv → RelL w E args vs.toList →
    NextOK F n P (ResOK base w0 gs tm K) ((callSem fv vs).run P w)

def adoptK (T : Tys) (D : Cds) (ty : Nat) (fr : Fr) (stk : List Fr) (m : Mem) (nx : Nat) (K : KO) : Prop := match getT T ty with
  | some r => match r.d with
    | .slice e => match getC D e with
      | some c => K (.own nx) fr stk ((nx, .row c.C [] e none) :: m) (nx + 1)
      | none => K (.v (.slice none 0 0)) fr stk m nx
    | _ => K (.v (.slice none 0 0)) fr stk m nx
  | none => K (.v (.slice none 0 0)) fr stk m nx
theorem adoptK_ok {P : Program} {T : Tys} {D : Cds} (hD : CdsOK T D) {base : Nat} {w0 : Start} {o : Oper} {ty : Nat} (ho : o.op = .assign (.const (.slice none 0 0))) {fr : Fr} {stk : List Fr} {m : Mem} {nx : Nat} {K : KO}
    (h : adoptK T D ty fr stk m nx K) : EffOK P base w0 o fr stk m nx K := by
  intro E gs w a hnx hS
  have hx : (execOp a.eval o).run P w = .ok (.value (.slice none 0 0)) w := by simp [execOp, ho, Act.eval]
  have plain : K (.v (.slice none 0 0)) fr stk m nx → EffAt P base w0 o K gs w a := fun h => ⟨_, w, .inl hx, _, fr, stk, m, E, nx, h, hnx, hS, .v _⟩
  unfold adoptK at h
  split at h
  · split at h
    · split at h
      · rename_i c hc
        obtain ⟨s1, r1⟩ := hS.newNil hnx.fresh (hD _ c hc)
        exact ⟨_, w, .inl hx, _, fr, stk, _, _, _, h, hnx.add _, s1, r1⟩
      · exact plain h
    · exact plain h
  · exact plain h

def nilEqK (T : Tys) (t : Nat) (x : Operand) (fr : Fr) (stk : List Fr) (m : Mem) (nx : Nat) (K : KO) : Prop := match getT T t with
  | some r => match r.d with
    | .slice _ => op1 (ev fr x) fun p x => match x with
      | .ro _ _ _ l _ _ => p.out (∀ b : Bool, (b = true → l = []) → Run (K (.sb b) fr stk m nx))
      | _ => False
    | _ => False
  | none => False
theorem run_equalIn_nil {P : Program} (w : World) (d t : Nat) {e : Nat} (hu : P.underlying t = some (.slice e)) (A : Option Addr) (n c : Nat) : (Op.equalIn (d + 1) t (.slice A n c) (.slice none 0 0)).run P w = .ok A.isNone w := by
  simp only [Op.equalIn, Sem.run_bind, run_underlying hu, Result.andThen_ok]
  cases A <;> rfl
theorem nilEqK_ok {P : Program} {T : Tys} (hT : TysOK P T) {base : Nat} {w0 : Start} {o : Oper} {t yt : Nat} {x : Operand} (ho : o.op = .binOp .eql t x (.const (.slice none 0 0)) yt) {fr : Fr} {stk : List Fr} {m : Mem} {nx : Nat} {K : KO}
    (h : nilEqK T t x fr stk m nx K) : EffOK P base w0 o fr stk m nx K := by
  intro E gs w a hnx hS
  unfold nilEqK at h
  split at h
  · rename_i r h1
    split at h
    · rename_i e h2
      have hd := (hT t r h1).desc
      rw [h2] at hd
      have hd : P.underlying t = some (.slice e) := hd
      obtain ⟨p, x', h, hx⟩ := op1_ok h
      split at h
      · rename_i α s en d l cap z
        obtain ⟨hp, h⟩ := VC.out_ok h
        have hr := hx w E _ hp (ev_ok hS.top x)
        have hs : ∃ (A : Option Addr) (c : Nat), a.eval x = .slice A l.length c ∧ (A = none → l = []) := by
          generalize a.eval x = vx at hr
          cases hr with
          | roNil _ _ _ _ A c _ _ => exact ⟨A, c, rfl, fun _ => rfl⟩
          | ro _ _ _ _ _ _ _ => exact ⟨_, _, rfl, fun h => by cases h⟩
        obtain ⟨A, c, hv, hn⟩ := hs
        have hb := (h A.isNone fun h => hn (by simpa using h)).out
        refine ⟨.bool A.isNone, w, .inl ?_, .sb A.isNone, fr, stk, m, E, nx, hb, hnx, hS, .sb _⟩
        have he : (Op.equal t (.slice A l.length c) (.slice none 0 0)).run P w = .ok A.isNone w := run_equalIn_nil w 9999 t hd A _ c
        have hg : (eqGuard .eql t x (.const (.slice none 0 0)) (.slice A l.length c) (.slice none 0 0)).run P w = .ok () w := rfl
        have hq : (binOp .eql t (.slice A l.length c) (.slice none 0 0)).run P w = .ok (.bool A.isNone) w := by
          show ((Op.equal t (.slice A l.length c) (.slice none 0 0)) >>= fun b => pure (Value.bool b) : Sem Value).run P w = _
          rw [Sem.run_bind, he]
          rfl
        have hc : a.eval (.const (.slice none 0 0)) = .slice none 0 0 := rfl
        simp only [execOp, ho, Sem.run_bind, hv, hc, hg, hq, Result.andThen_ok]
        rfl
      · exact h.elim
    · exact h.elim
  · exact h.elim

def isSl (T : Tys) (t : Nat) : Bool := match getT T t with
  | some r => match r.d with
    | .slice _ => true
    | _ => false
  | none => false
def opK (T : Tys) (D : Cds) (H : Handler) (o : Op) (ty : Nat) (fr : Fr) (stk : List Fr) (m : Mem) (nx : Nat) (K : KO) : Prop := match o with
  | .assign (.const (.slice none 0 0)) => adoptK T D ty fr stk m nx K
  | .binOp .eql t x (.const (.slice none 0 0)) _ => nilEqK T t x fr stk m nx K
  | .alloc t => allocK T D t fr stk m nx K
  | .box t x => boxK t x fr stk m nx K
  | .buildSlice t n ps => match lit1 T D t n with
    | true => litK T t n ps.toList fr stk m nx K
    | false => match n, ps.toList with
      | 0, [] => litEK T D t fr stk m nx K
      | n, l => match noCdc T D t with
        | true => litBK T t n l fr stk m nx K
        | false => litNK T D t n l fr stk m nx K
  | .convert s t x => match isSl T t with
    | true => bytesK T s t x fr stk m nx K
    | false => pop T m fr (.convert s t x) fun p z => p.out (K z fr stk m nx)
  | .store t p x => storeK T t p x fr stk m nx K
  | .range t x => rangeK T t x fr stk m nx K
  | .next it s => match s with
    | true => nextK it fr stk m nx K
    | false => False
  | .makeSlice t l c => makeK T D t l c fr stk m nx K
  | .call ⟨.builtin .append, args, ats⟩ => appendK T D args.toList ats.toList fr stk m nx K
  | .call ⟨.value f, args, _⟩ => op1 (ev fr f) fun p f => evL fr args.toList p fun p xs => p.out (H f xs fr stk m nx K)
  | o => pop T m fr o fun p z => p.out (K z fr stk m nx)

theorem EffOK.next {P : Program} {F : Fence} {n : Nat} {base : Nat} {w0 : Start} {o : Oper} {fr : Fr} {stk : List Fr} {m : Mem} {nx : Nat} {K : KO} (h : EffOK P base w0 o fr stk m nx K)
    {E : Env} {gs : List (Array Value)} {w : World} {a : Act} (hnx : E.under nx) (hS : SatM base w0 E (fr :: stk) (a.tmps :: gs) m w) : NextOK F n P (ResOK base w0 gs a.tmps K) ((execOp a.eval o).run P w) := by
  obtain ⟨v, w', hr, x, fr', stk', m', E', nx', h1, h2, h3, h4⟩ := h E gs w a hnx hS
  rcases hr with hr | ⟨rfl, hr⟩
  · rw [hr]; exact ⟨x, fr', stk', m', E', nx', h1, h2, h3, h4⟩
  · rw [hr]; exact ⟨x, fr', stk', m', E', nx', h1, h2, h3, h4⟩
theorem popEff {P : Program} {T : Tys} (hT : TysOK P T) {base : Nat} {w0 : Start} {o : Oper} {fr : Fr} {stk : List Fr} {m : Mem} {nx : Nat} {K : KO}
    (h : pop T m fr o.op fun p z => p.out (K z fr stk m nx)) : EffOK P base w0 o fr stk m nx K := by
  intro E gs w a hnx hS
  obtain ⟨p, z, h, hz⟩ := pop_ok hT h
  obtain ⟨hp, h⟩ := VC.out_ok h
  obtain ⟨y, h1, h2⟩ := hz _ _ _ _ _ w a hS hS.top hp
  exact ⟨y, w, .inl h1, z, fr, stk, m, E, nx, h, hnx, hS, h2⟩
theorem opK_ok {P : Program} {F : Fence} {n : Nat} {T : Tys} (hT : TysOK P T) {D : Cds} (hD : CdsOK T D) {H : Handler} (hH : HOK P F n H) {base : Nat} {w0 : Start} {o : Oper} {fr : Fr} {stk : List Fr} {m : Mem} {nx : Nat} {K : KO}
    (h : opK T D H o.op o.type fr stk m nx K) {E : Env} {gs : List (Array Value)} {w : World} {a : Act} (hnx : E.under nx) (hS : SatM base w0 E (fr :: stk) (a.tmps :: gs) m w) :
    (∀ c, o.op ≠ .defer c) ∧ NextOK F n P (ResOK base w0 gs a.tmps K) ((execOp a.eval o).run P w) := by
  unfold opK at h
  split at h
  · rename_i ho; exact ⟨by simp [ho], (adoptK_ok hD ho h).next hnx hS⟩
  · rename_i t x yt ho; exact ⟨by simp [ho], (nilEqK_ok hT ho h).next hnx hS⟩
  · rename_i t ho; exact ⟨by simp [ho], (allocK_ok hT hD ho h).next hnx hS⟩
  · rename_i t x ho; exact ⟨by simp [ho], (boxK_ok ho h).next hnx hS⟩
  · rename_i t k ps ho
    split at h
    · exact ⟨by simp [ho], (litK_ok hT ho h).next hnx hS⟩
    · split at h
      · rename_i hps _
        exact ⟨by simp [ho], (litEK_ok hT hD hps ho h).next hnx hS⟩
      · split at h
        · exact ⟨by simp [ho], (litBK_ok hT ho h).next hnx hS⟩
        · exact ⟨by simp [ho], (litNK_ok hT hD ho h).next hnx hS⟩
  · rename_i s t x ho
    split at h
    · exact ⟨by simp [ho], (bytesK_ok hT ho h).next hnx hS⟩
    · rw [← ho] at h
      exact ⟨by simp [ho], (popEff hT h).next hnx hS⟩
  · rename_i t p x ho; exact ⟨by simp [ho], (storeK_ok hT ho h).next hnx hS⟩
  · rename_i t x ho; exact ⟨by simp [ho], (rangeK_ok hT ho h).next hnx hS⟩
  · rename_i it s ho
    split at h
    · exact ⟨by simp [ho], (nextK_ok ho h).next hnx hS⟩
    · exact h.elim
  · rename_i t l c ho; exact ⟨by simp [ho], (makeK_ok hT hD ho h).next hnx hS⟩
  · rename_i args ats ho; exact ⟨by simp [ho], (appendK_ok hT hD ho h).next hnx hS⟩
  · rename_i f args ats ho
    obtain ⟨p, f', h, hf⟩ := op1_ok h
    obtain ⟨q, xs, h, hq, hxs⟩ := evL_ok h
    obtain ⟨hok, h⟩ := VC.out_ok h
    refine ⟨by simp [ho], ?_⟩
    have := hH _ _ _ _ _ _ _ h base w0 E gs w a.tmps (a.eval f) (args.map a.eval) hnx hS (hf w E _ (hq hok) (ev_ok hS.top f)) (by simpa using hxs w E a hS.top hok)
    simpa [execOp, ho, resolve, callSem] using this
  · rename_i hno1 hno2 hno3 hno4 hno5 hno6 hno7 hno8 hno9 hno10
    refine ⟨fun c hc => ?_, (popEff hT h).next hnx hS⟩
    rw [hc] at h
    exact h.elim

/-! ### Slots, guards -/
def putS (sz : Nat) (dst : Option Nat) (x : AV) (fr : Fr) (k : Fr → Prop) : Prop := match dst with
  | none => k fr
  | some d => match Nat.blt d sz with
    | true => k ((d, x) :: fr)
    | false => False
theorem FrR.put {w : World} {E : Env} {fr : Fr} {tm : Array Value} (h : FrR w E fr tm) {d : Nat} (hd : d < tm.size) {x : AV} {v : Value} (hx : Rel w E x v) : FrR w E ((d, x) :: fr) (tm.setIfInBounds d v) := by
  intro t
  rw [getS_cons]
  split
  · rename_i e
    subst e
    simpa [hd] using hx
  · rename_i e
    have := h t
    simpa [Array.getElem?_setIfInBounds, e] using this
theorem SatM.setTop {base : Nat} {w0 : Start} {w : World} {E : Env} {fr fr' : Fr} {stk : List Fr} {tm tm' : Array Value} {gs : List (Array Value)} {m : Mem} (h : SatM base w0 E (fr :: stk) (tm :: gs) m w) (hf : FrR w E fr' tm') :
    SatM base w0 E (fr' :: stk) (tm' :: gs) m w :=
  ⟨h.below, h.hb, h.imm, h.keep, h.same, h.ents, h.disj, by simpa using h.len, fun i h1 h2 => by
    cases i with
    | zero => exact hf
    | succ i => exact h.stk (i + 1) (by simpa using h1) (by simpa using h2)⟩
theorem putS_ok {base : Nat} {w0 : Start} {w : World} {E : Env} {fr : Fr} {stk : List Fr} {gs : List (Array Value)} {m : Mem} {a : Act} {sz : Nat} {dst : Option Nat} {x : AV} {k : Fr → Prop} (h : putS sz dst x fr k)
    (hS : SatM base w0 E (fr :: stk) (a.tmps :: gs) m w) (hz : a.tmps.size = sz) {v : Value} (hx : Rel w E x v) :
    ∃ fr', k fr' ∧ SatM base w0 E (fr' :: stk) ((a.put dst v).tmps :: gs) m w ∧ (a.put dst v).tmps.size = sz ∧ (a.put dst v).defers = a.defers := by
  unfold putS at h
  split at h
  · exact ⟨fr, h, hS, hz, rfl⟩
  · rename_i d
    split at h
    · rename_i hd
      have hd : d < a.tmps.size := by rw [hz]; exact Nat.lt_of_succ_le (Nat.le_of_ble_eq_true hd)
      exact ⟨_, h, hS.setTop (hS.top.put hd hx), by simp [Act.put, hz], rfl⟩
    · exact h.elim

def nthO : List Oper → Nat → Option Nat
  | [], _ => none
  | o :: _, 0 => o.dst
  | _ :: l, n + 1 => nthO l n
theorem nthO_ok : ∀ (l : List Oper) (n : Nat), nthO l n = (l[n]?).bind (·.dst)
  | [], n => by simp [nthO]
  | o :: l, 0 => rfl
  | o :: l, n + 1 => by simp [nthO, nthO_ok l n]
def isB (b want : Bool) : Bool := match b, want with
  | true, true => true
  | false, false => true
  | _, _ => false
def asB (b want : Bool) (k : Bool → Prop) : Prop := match want with
  | true => k b
  | false => k (!b)
def guardK (all : List Oper) (fr : Fr) (g : Option (Nat × Bool)) (kall knone : Prop) (ksym : Bool → Prop) : Prop := match g with
  | none => kall
  | some (j, want) => match nthO all j with
    | some d => match getS fr d with
      | .v (.bool b) => match isB b want with
        | true => kall
        | false => knone
      | .sb b => asB b want ksym
      | .cnd c y => match y with
        | .v (.bool b) => match isB b want with
          | true => ksym c
          | false => knone
        | .sb b => asB b want fun b => ksym (c && b)
        | _ => False
      | .v (.tuple _) => knone
      | _ => False
    | none => False
theorem guardK_ok {w : World} {E : Env} {fr : Fr} {a : Act} (hf : FrR w E fr a.tmps) {ops : Array Oper} {o : Oper} {kall knone : Prop} {ksym : Bool → Prop} (h : guardK ops.toList fr o.guard kall knone ksym) :
    (Region.wanted o (yielded ops a.tmps) = true ∧ kall) ∨ (Region.wanted o (yielded ops a.tmps) = false ∧ knone) ∨ ksym (Region.wanted o (yielded ops a.tmps)) := by
  unfold guardK at h
  split at h
  · rename_i hg
    exact .inl ⟨by simp [Region.wanted, hg], h⟩
  · rename_i j want hg
    split at h
    · rename_i d hd
      rw [nthO_ok] at hd
      have hd' : (ops[j]?).bind (·.dst) = some d := by simpa using hd
      have hr := hf d
      have hw : ∀ b, a.tmps.getD d undef = .bool b → Region.wanted o (yielded ops a.tmps) = (some b == some want) := fun b hb => by
        have : a.tmps[d]? = some (.bool b) := by
          rcases Nat.lt_or_ge d a.tmps.size with h | h
          · simp [h] at hb; simp [h, hb]
          · simp [h, undef] at hb
        simp [Region.wanted, hg, yielded, hd', this]
      have hu : a.tmps.getD d undef = undef → Region.wanted o (yielded ops a.tmps) = false := fun hb => by
        have : yielded ops a.tmps j = none := by
          simp only [yielded, hd', Option.bind_some]
          rcases Nat.lt_or_ge d a.tmps.size with h | h
          · simp [h] at hb; simp [h, hb, undef]
          · simp [h]
        simp [Region.wanted, hg, this]
      have has : ∀ b (k : Bool → Prop), asB b want k → k (some b == some want) := fun b k h => by
        unfold asB at h
        cases want <;> cases b <;> exact h
      split at h
      · rename_i b hs
        rw [hs] at hr
        have hw := hw b hr.v_inv
        split at h
        · rename_i hb
          exact .inl ⟨(by rw [hw]; cases b <;> cases want <;> first | rfl | (cases hb)), h⟩
        · rename_i hb
          exact .inr (.inl ⟨(by rw [hw]; cases b <;> cases want <;> first | rfl | (cases hb)), h⟩)
      · rename_i b hs
        rw [hs] at hr
        rw [hw b hr.sb_inv]
        exact .inr (.inr (has b _ h))
      · rename_i c y hs
        rw [hs] at hr
        split at h
        · rename_i b
          split at h
          · rename_i hb
            refine .inr (.inr ?_)
            generalize hv : a.tmps.getD d undef = v at hr
            cases hr with
            | cndT hy => rw [hw b (hv.trans hy.v_inv)]; cases b <;> cases want <;> first | exact h | cases hb
            | cndF => rw [hu hv]; exact h
          · rename_i hb
            refine .inr (.inl ⟨?_, h⟩)
            generalize hv : a.tmps.getD d undef = v at hr
            cases hr with
            | cndT hy => rw [hw b (hv.trans hy.v_inv)]; cases b <;> cases want <;> first | rfl | cases hb
            | cndF => exact hu hv
        · rename_i b
          refine .inr (.inr ?_)
          generalize hv : a.tmps.getD d undef = v at hr
          cases hr with
          | cndT hy => rw [hw b (hv.trans hy.sb_inv)]; exact has b (fun b => ksym (true && b)) h
          | cndF =>
            rw [hu hv]
            have := has b (fun b => ksym (false && b)) h
            exact this
        · exact h.elim
      · rename_i vs hs
        rw [hs] at hr
        refine .inr (.inl ⟨?_, h⟩)
        have hv := hr.v_inv
        have : yielded ops a.tmps j = none := by
          simp only [yielded, hd', Option.bind_some]
          rcases Nat.lt_or_ge d a.tmps.size with h | h
          · simp [h] at hv; simp [h, hv]
          · simp [h]
        simp [Region.wanted, hg, this]
      · exact h.elim
    · exact h.elim
end Go.SX
/- A verified symbolic executor for Go code in the model, part 13: regions in the text's order. -/
namespace Go.SX
open Go.RowKit

abbrev KS := Fr → List Fr → Mem → Nat → Prop
def Now (base : Nat) (w0 : Start) (gs : List (Array Value)) (sz : Nat) (df : List Deferred) (fr : Fr) (stk : List Fr) (m : Mem) (nx : Nat) (a : Act) (w : World) : Prop :=
  ∃ E : Env, E.under nx ∧ SatM base w0 E (fr :: stk) (a.tmps :: gs) m w ∧ a.tmps.size = sz ∧ a.defers = df
def Post (base : Nat) (w0 : Start) (gs : List (Array Value)) (sz : Nat) (df : List Deferred) (K : KS) (a : Act) (w : World) : Prop :=
  ∃ fr stk m nx, K fr stk m nx ∧ Now base w0 gs sz df fr stk m nx a w

def pureOp : Op → Bool
  | .move _ | .assign _ | .pick .. | .binOp .. | .unOp .. | .fieldAddr .. | .indexAddr .. | .load .. | .index .. | .slice .. | .field .. | .extract .. | .nilCheck _ | .convert .. | .makeInterface .. | .build .. | .makeFunc .. => true
  | .call ⟨.builtin .len, _, _⟩ | .call ⟨.builtin .max, _, _⟩ | .call ⟨.builtin .min, _, _⟩ => true
  | _ => false
def dumK (T : Tys) (ty : Nat) (k : AV → Prop) : Prop := match getT T ty with
  | some r => match r.d with
    | .bool => k (.v (.bool false))
    | .int i => k (.v (.int i 0))
    | .str => k (.v (.string ⟨#[]⟩))
    | _ => k .junk
  | none => k .junk
theorem dumK_ok {T : Tys} {ty : Nat} {k : AV → Prop} (h : dumK T ty k) : ∃ z, k z := by
  unfold dumK at h
  split at h
  · split at h <;> exact ⟨_, h⟩
  · exact ⟨_, h⟩
def isSk : AV → Bool
  | .v (.tuple _) => true
  | _ => false
def anySk (fr : Fr) : List Operand → Bool
  | [] => false
  | x :: l => match isSk (ev fr x) with | true => true | false => anySk fr l
def stepK (T : Tys) (D : Cds) (H : Handler) (all : List Oper) (sz : Nat) (o : Oper) (fr : Fr) (stk : List Fr) (m : Mem) (nx : Nat) (K : KS) : Prop :=
  guardK all fr o.guard
    (opK T D H o.op o.type fr stk m nx fun x fr stk m nx => putS sz o.dst x fr fun fr => K fr stk m nx)
    (putS sz o.dst (.v (.tuple #[])) fr fun fr => K fr stk m nx)
    (fun g => match pureOp o.op with
      | true => match anySk fr o.op.operands.toList with
        | true => dumK T o.type fun z => (g = true → False) ∧ Run (putS sz o.dst (.cnd g z) fr fun fr => K fr stk m nx)
        | false => pop T m fr o.op fun p z => p.under g (putS sz o.dst (.cnd g z) fr fun fr => K fr stk m nx)
      | false => (g = true → Run (opK T D H o.op o.type fr stk m nx fun x fr stk m nx => putS sz o.dst x fr fun fr => K fr stk m nx)) ∧
          (g = false → Run (putS sz o.dst (.v (.tuple #[])) fr fun fr => K fr stk m nx)))
def opsK0 (T : Tys) (D : Cds) (H : Handler) (all : List Oper) (sz : Nat) (l : List Oper) (fr : Fr) (stk : List Fr) (m : Mem) (nx : Nat) (K : KS) : Prop := match l with
  | [] => K fr stk m nx
  | o :: l => stepK T D H all sz o fr stk m nx fun fr stk m nx => opsK0 T D H all sz l fr stk m nx K
noncomputable def opsK (T : Tys) (D : Cds) (H : Handler) (all : List Oper) (sz : Nat) (l : List Oper) (fr : Fr) (stk : List Fr) (m : Mem) (nx : Nat) (K : KS) : Prop :=
  @List.brecOn Oper (fun _ => Fr → List Fr → Mem → Nat → Prop) l (opsK0._f T D H all sz K) fr stk m nx

section
variable {P : Program} {F : Fence} {n : Nat} {T : Tys} {D : Cds} {H : Handler} {base : Nat} {w0 : Start} {gs : List (Array Value)} {sz : Nat} {df : List Deferred}
theorem opPost (W : Wide F) (hT : TysOK P T) (hD : CdsOK T D) (hH : HOK P F n H) {o : Oper} {fr : Fr} {stk : List Fr} {m : Mem} {nx : Nat} {K : KS}
    (h : opK T D H o.op o.type fr stk m nx fun x fr stk m nx => putS sz o.dst x fr fun fr => K fr stk m nx) {a : Act} {w : World} (hN : Now base w0 gs sz df fr stk m nx a w)
    {next : Act → World → Prop} {Q : Exit → Act → World → Prop} (hn : ∀ a w, Post base w0 gs sz df K a w → next a w) : o.wpIn F n P a w next Q := by
  obtain ⟨E, hnx, hS, hz, hd⟩ := hN
  obtain ⟨h1, h2⟩ := opK_ok (F := F) (n := n) hT hD hH h hnx hS
  refine ⟨fun f _ => W.fn f, ?_⟩
  rw [Oper.semAt_eq _ _ _ h1]
  refine NextOK.upon W (h2.mono fun v w' hr => ?_)
  obtain ⟨x, fr', stk', m', E', nx', hk, hnx', hS', hx⟩ := hr
  obtain ⟨fr'', hk, hS'', hz', hd'⟩ := putS_ok hk hS' hz hx
  exact hn _ _ ⟨fr'', stk', m', nx', hk, E', hnx', hS'', hz', hd'.trans hd⟩
theorem skipPost {o : Oper} {fr : Fr} {stk : List Fr} {m : Mem} {nx : Nat} {K : KS} (h : putS sz o.dst (.v (.tuple #[])) fr fun fr => K fr stk m nx) {a : Act} {w : World} (hN : Now base w0 gs sz df fr stk m nx a w) :
    Post base w0 gs sz df K (a.put o.dst undef) w := by
  obtain ⟨E, hnx, hS, hz, hd⟩ := hN
  obtain ⟨fr'', hk, hS'', hz', hd'⟩ := putS_ok (v := undef) h hS hz (.v _)
  exact ⟨fr'', stk, m, nx, hk, E, hnx, hS'', hz', hd'.trans hd⟩
theorem pop_noDefer {m : Mem} {fr : Fr} {o : Op} {k : VC → AV → Prop} (h : pop T m fr o k) : ∀ c, o ≠ .defer c := by
  rintro c rfl
  exact h
theorem stepK_ok (W : Wide F) (hT : TysOK P T) (hD : CdsOK T D) (hH : HOK P F n H) {ops : Array Oper} {o : Oper} {fr : Fr} {stk : List Fr} {m : Mem} {nx : Nat} {K : KS}
    (h : stepK T D H ops.toList sz o fr stk m nx K) {a : Act} {w : World} (hN : Now base w0 gs sz df fr stk m nx a w) {next : Act → World → Prop} {Q : Exit → Act → World → Prop} (hn : ∀ a w, Post base w0 gs sz df K a w → next a w) :
    if Region.wanted o (yielded ops a.tmps) then o.wpIn F n P a w next Q else (∀ f, o.about P w a.eval = some f → F.fn f) ∧ next (a.put o.dst undef) w := by
  have hf : ∃ E, FrR w E fr a.tmps := let ⟨E, _, hS, _⟩ := hN; ⟨E, hS.top⟩
  obtain ⟨E0, hf⟩ := hf
  rcases guardK_ok hf h with ⟨hw, h⟩ | ⟨hw, h⟩ | h
  · rw [if_pos hw]
    exact opPost W hT hD hH h hN hn
  · rw [if_neg (by simp [hw])]
    exact ⟨fun f _ => W.fn f, hn _ _ (skipPost h hN)⟩
  · revert h
    generalize Region.wanted o (yielded ops a.tmps) = g
    intro h
    split at h
    · split at h
      · obtain ⟨z, hg, h⟩ := dumK_ok h
        have h := h.out
        obtain ⟨E, hnx, hS, hz, hd⟩ := hN
        cases g with
        | true => exact (hg rfl).elim
        | false =>
          rw [if_neg (by simp)]
          obtain ⟨fr'', hk, hS'', hz', hd'⟩ := putS_ok h hS hz (.cndF z)
          exact ⟨fun f _ => W.fn f, hn _ _ ⟨fr'', stk, m, nx, hk, E, hnx, hS'', hz', hd'.trans hd⟩⟩
      obtain ⟨E, hnx, hS, hz, hd⟩ := hN
      have hnd := pop_noDefer h
      obtain ⟨p, z, h, hpop⟩ := pop_ok (o := o) hT h
      obtain ⟨hp, h⟩ := VC.under_ok h
      cases g with
      | true =>
        obtain ⟨y, h1, h2⟩ := hpop _ _ _ _ _ w a hS hS.top (hp rfl)
        rw [if_pos rfl]
        refine ⟨fun f _ => W.fn f, ?_⟩
        rw [Oper.semAt_eq _ _ _ hnd, h1]
        obtain ⟨fr'', hk, hS'', hz', hd'⟩ := putS_ok h hS hz (.cndT h2)
        exact hn _ _ ⟨fr'', stk, m, nx, hk, E, hnx, hS'', hz', hd'.trans hd⟩
      | false =>
        rw [if_neg (by simp)]
        obtain ⟨fr'', hk, hS'', hz', hd'⟩ := putS_ok h hS hz (.cndF z)
        exact ⟨fun f _ => W.fn f, hn _ _ ⟨fr'', stk, m, nx, hk, E, hnx, hS'', hz', hd'.trans hd⟩⟩
    · cases g with
      | true =>
        rw [if_pos rfl]
        exact opPost W hT hD hH (h.1 rfl).out hN hn
      | false =>
        rw [if_neg (by simp)]
        exact ⟨fun f _ => W.fn f, hn _ _ (skipPost (h.2 rfl).out hN)⟩
theorem opsK_ok (W : Wide F) (hT : TysOK P T) (hD : CdsOK T D) (hH : HOK P F n H) {ops : Array Oper} {Q : Exit → Act → World → Prop} {K : KS} (hQ : ∀ a w, Post base w0 gs sz df K a w → Q .normal a w) :
    ∀ (l done : List Oper) (fr : Fr) (stk : List Fr) (m : Mem) (nx : Nat), done ++ l = ops.toList → opsK T D H ops.toList sz l fr stk m nx K → ∀ (a : Act) (w : World), Now base w0 gs sz df fr stk m nx a w →
      wpOpsIn F n P ops Q (List.range' done.length l.length) a w
  | [], done, fr, stk, m, nx, _, h, a, w, hN => hQ _ _ ⟨fr, stk, m, nx, h, hN⟩
  | o :: l, done, fr, stk, m, nx, he, h, a, w, hN => by
    have ho : ops[done.length]? = some o := by
      have : ops.toList[done.length]? = some o := by rw [← he]; simp
      simpa using this
    simp only [List.length_cons, List.range'_succ, wpOpsIn, ho]
    refine stepK_ok (next := wpOpsIn F n P ops Q (List.range' (done.length + 1) l.length)) (Q := Q) W hT hD hH h hN fun a' w' hp => ?_
    obtain ⟨fr', stk', m', nx', hk, hN'⟩ := hp
    have := opsK_ok W hT hD hH hQ l (done ++ [o]) fr' stk' m' nx' (by simpa using he) hk a' w' hN'
    simpa using this
theorem regionK_ok (W : Wide F) (hT : TysOK P T) (hD : CdsOK T D) (hH : HOK P F n H) {id : Nat} {ops : Array Oper} {Q : Exit → Act → World → Prop} {K : KS} (hQ : ∀ a w, Post base w0 gs sz df K a w → Q .normal a w)
    {fr : Fr} {stk : List Fr} {m : Mem} {nx : Nat} (h : opsK T D H ops.toList sz ops.toList fr stk m nx K) {a : Act} {w : World} (hN : Now base w0 gs sz df fr stk m nx a w) : (Code.region id ops false).wpIn F n P Q a w := by
  refine wpIn_region ?_
  have := opsK_ok W hT hD hH hQ ops.toList [] fr stk m nx rfl h a w hN
  simpa [List.range_eq_range'] using this
end
end Go.SX
/- A verified symbolic executor for Go code in the model, part 14: states that say less. -/
namespace Go.SX
open Go.RowKit

structure Sta : Type 1 where
  fr : Fr
  stk : List Fr
  m : Mem
  nx : Nat
structure Wk (A B : Sta) : Prop where
  out : ∀ base w0 E gs tm w, E.under A.nx → SatM base w0 E (A.fr :: A.stk) (tm :: gs) A.m w → ∃ E' : Env, E'.under B.nx ∧ SatM base w0 E' (B.fr :: B.stk) (tm :: gs) B.m w

def Env.cut (E : Env) (n : Nat) : Env := { E with dom := fun id => E.dom id ∧ id < n }
structure LeN (n : Nat) (a b : AV) : Prop where
  out : ∀ w E v, Rel w E a v → Rel w (E.cut n) b v
inductive LeNL (n : Nat) : List AV → List AV → Prop
  | nil : LeNL n [] []
  | cons {a b : AV} {l r : List AV} (h : LeN n a b) (hl : LeNL n l r) : LeNL n (a :: l) (b :: r)
theorem LeNL.rel {n : Nat} {cs ds : List AV} (h : LeNL n cs ds) {w : World} {E : Env} {vs : List Value} (hr : RelL w E cs vs) : RelL w (E.cut n) ds vs := by
  induction h generalizing vs with
  | nil =>
    obtain rfl : vs = [] := List.eq_nil_of_length_eq_zero hr.1.symm
    exact RelL.nil _ _
  | cons h _ ih =>
    obtain ⟨x, xs, rfl, h1, h2⟩ := hr.uncons
    exact RelL.cons (h.out _ _ _ h1) (ih h2)

namespace LeN
variable {n : Nat}
theorem junk {a : AV} : LeN n a .junk := ⟨fun _ _ _ _ => .junk _⟩
theorem v {x y : Value} (h : x = y) : LeN n (.v x) (.v y) := ⟨fun _ _ _ hr => by rw [hr.v_inv, h]; exact .v _⟩
theorem sb {x y : Bool} (h : x = y) : LeN n (.sb x) (.sb y) := ⟨fun _ _ _ hr => by rw [hr.sb_inv, h]; exact .sb _⟩
theorem vb {x y : Bool} (h : x = y) : LeN n (.v (.bool x)) (.sb y) := ⟨fun _ _ _ hr => by rw [hr.v_inv, h]; exact .sb _⟩
theorem bv {x y : Bool} (h : x = y) : LeN n (.sb x) (.v (.bool y)) := ⟨fun _ _ _ hr => by rw [hr.sb_inv, h]; exact .v _⟩
theorem ptr {i o : Nat} (h : i < n) : LeN n (.ptr i o) (.ptr i o) := ⟨fun _ _ _ hr => by cases hr with | ptr _ h1 h2 => exact .ptr _ ⟨h1, h⟩ h2⟩
theorem eptr {i : Nat} {j : Int} {s o : Nat} (h : i < n) : LeN n (.eptr i j s o) (.eptr i j s o) := ⟨fun _ _ _ hr => by cases hr with | eptr _ _ _ h1 h2 => exact .eptr _ _ _ ⟨h1, h⟩ h2⟩
theorem own {i : Nat} (h : i < n) : LeN n (.own i) (.own i) := ⟨fun _ E _ hr => by cases hr with | own h1 h2 => exact Rel.own (E := E.cut n) ⟨h1, h⟩ h2⟩
theorem sl {k : Nat} : LeN n (.sl k) (.sl k) := ⟨fun _ _ _ hr => by cases hr with | sl _ A c => exact .sl _ A c⟩
theorem bsl {i k : Nat} (h : i < n) : LeN n (.bsl i k) (.bsl i k) := ⟨fun _ _ _ hr => by cases hr with | bsl _ h1 h2 => exact .bsl _ ⟨h1, h⟩ h2⟩
theorem yld {i : Nat} (h : i < n) : LeN n (.yld i) (.yld i) := ⟨fun _ _ _ hr => by cases hr with | yld h1 h2 => exact .yld ⟨h1, h⟩ h2⟩
theorem ro {α : Type} {s : Nat} {en : α → List AV} {d : α} {l l' : List α} {c : Option Nat} {z : Bool} (h : l = l') : LeN n (.ro s en d l c z) (.ro s en d l' c z) := ⟨fun _ _ _ hr => by
  subst h
  cases hr with
  | roNil _ _ _ _ A c hs hc => exact .roNil _ _ _ _ _ _ hs hc
  | ro y hs hcap hlc him hc hr => exact .ro y hs hcap hlc him hc hr⟩
theorem roCap {α : Type} {s : Nat} {en : α → List AV} {d : α} {l l' : List α} {c : Option Nat} (h : l = l') : LeN n (.ro s en d l c) (.ro s en d l' none) := ⟨fun w E v hr => by
  subst h
  exact ((Le.roCap s en d l c).out w E v hr).mono ⟨fun _ h => False.elim h, fun _ h => False.elim h, fun _ h => h, fun _ h => False.elim h, fun _ _ => rfl⟩⟩
theorem view {i s lo u lo' u' : Nat} (h : i < n) (h1 : lo = lo') (h2 : u = u') : LeN n (.view i s lo u) (.view i s lo' u') := ⟨fun _ _ _ hr => by
  subst h1 h2
  cases hr with | view a1 a2 a3 a4 => exact .view ⟨a1, h⟩ a2 a3 a4⟩
theorem nil {α : Type} {s : Nat} {en : α → List AV} {d : α} {l : List α} {z : Bool} (h : l = []) (hs : ∀ x, (en x).length = s) : LeN n (.v (.slice none 0 0)) (.ro s en d l none z) := ⟨fun w E v hr => by
  subst h
  rw [hr.v_inv]; exact .roNil _ _ _ _ _ _ hs (by simp)⟩
theorem rptr {α : Type} {s : Nat} {en : α → List AV} {d : α} {l : List α} {i : Int} {o : Nat} {z : Bool} : LeN n (.rptr s en d l i o z) (.rptr s en d l i o z) := ⟨fun _ _ _ hr => by
  cases hr with | rptr _ _ y hs h1 h2 hc hr => exact .rptr _ _ y hs h1 h2 hc hr⟩
theorem agg {l r : List AV} (h : LeNL n l r) : LeN n (.agg l) (.agg r) := ⟨fun _ _ _ hr => by
  cases hr with | agg hl hh =>
    have := h.rel (vs := _) ⟨by simpa using hl, fun i h1 h2 => hh i h1 (by simpa using h2)⟩
    exact .agg (by simpa using this.1) fun i h1 h2 => this.2 i h1 (by simpa using h2)⟩
theorem tup {l r : List AV} (h : LeNL n l r) : LeN n (.tup l) (.tup r) := ⟨fun _ _ _ hr => by
  cases hr with | tup hl hh =>
    have := h.rel (vs := _) ⟨by simpa using hl, fun i h1 h2 => hh i h1 (by simpa using h2)⟩
    exact .tup (by simpa using this.1) fun i h1 h2 => this.2 i h1 (by simpa using h2)⟩
theorem fn {f : Nat} {l r : List AV} (h : LeNL n l r) : LeN n (.fn f l) (.fn f r) := ⟨fun _ _ _ hr => by
  cases hr with | fn _ hl hh =>
    have := h.rel (vs := _) ⟨by simpa using hl, fun i h1 h2 => hh i h1 (by simpa using h2)⟩
    exact .fn f (by simpa using this.1) fun i h1 h2 => this.2 i h1 (by simpa using h2)⟩
end LeN

structure FrLe (n : Nat) (fr fr' : Fr) : Prop where
  out : ∀ t, LeN n (getS fr t) (getS fr' t)
theorem FrLe.nil {n : Nat} {fr : Fr} : FrLe n fr [] := ⟨fun _ => .junk⟩
theorem FrLe.cons {n : Nat} {fr : Fr} {t : Nat} {x : AV} {l : Fr} (h : LeN n (getS fr t) x) (hl : FrLe n fr l) : FrLe n fr ((t, x) :: l) := ⟨fun s => by
  rw [getS_cons]
  split
  · rename_i e; subst e; exact h
  · exact hl.out s⟩
theorem FrLe.rel {n : Nat} {fr fr' : Fr} (h : FrLe n fr fr') {w : World} {E : Env} {tm : Array Value} (hr : FrR w E fr tm) : FrR w (E.cut n) fr' tm := fun t => (h.out t).out _ _ _ (hr t)
inductive StkLe (n : Nat) : List Fr → List Fr → Prop
  | nil : StkLe n [] []
  | cons {f g : Fr} {l r : List Fr} (h : FrLe n f g) (hl : StkLe n l r) : StkLe n (f :: l) (g :: r)
theorem StkLe.rel {n : Nat} {l r : List Fr} (h : StkLe n l r) {w : World} {E : Env} {gs : List (Array Value)} (hl : l.length = gs.length) (hr : ∀ i (h1 : i < l.length) (h2 : i < gs.length), FrR w E l[i] gs[i]) :
    r.length = gs.length ∧ ∀ i (h1 : i < r.length) (h2 : i < gs.length), FrR w (E.cut n) r[i] gs[i] := by
  induction h generalizing gs with
  | nil => exact ⟨hl, fun i h1 => by simp at h1⟩
  | cons h _ ih =>
    cases gs with
    | nil => simp at hl
    | cons g gs =>
      obtain ⟨a, b⟩ := ih (gs := gs) (by simpa using hl) fun i h1 h2 => hr (i + 1) (by simpa using h1) (by simpa using h2)
      refine ⟨by simpa using a, fun i h1 h2 => ?_⟩
      cases i with
      | zero => exact h.rel (hr 0 (by simp) (by simp))
      | succ i => exact b i (by simpa using h1) (by simpa using h2)
inductive EntLe (n : Nat) : Ent → Ent → Prop
  | box {cs ds : List AV} {t : Nat} (h : LeNL n cs ds) : EntLe n (.box cs t) (.box ds t)
  | row {α : Type} {C : Cdc α} {l l' : List α} {t : Nat} {cap : Option Nat} (h : l = l') : EntLe n (.row C l t cap) (.row C l' t cap)
  | iter {s : ByteArray} {p q : Nat} (h : p = q) : EntLe n (.iter s p) (.iter s q)
  | defer {b : Nat} : EntLe n (.defer b) (.defer b)
  | loop {b : Nat} {st : LoopState} {pend : Option Code} {fr fr' : Fr} {sz : Nat} {ps : List Nat} {as' bo : Code} {df : Nat} (h : FrLe n fr fr') (hd : df < n) : EntLe n (.loop b st pend fr sz ps as' bo df) (.loop b st pend fr' sz ps as' bo df)
theorem EntLe.rel {n : Nat} {e e' : Ent} (h : EntLe n e e') {base : Nat} {w : World} {E : Env} {id : Nat} (hr : EntR base w E id e) : EntR base w (E.cut n) id e' := by
  cases h with
  | box h => obtain ⟨b, vs, h1, h2, h3⟩ := hr; exact ⟨b, vs, h1, h2, h.rel h3⟩
  | row h => subst h; exact hr
  | iter h => subst h; exact hr
  | «defer» => exact hr
  | loop h hd => obtain ⟨d, fn, tm, h1, h2, h3, h4, h5, h6⟩ := hr; exact ⟨d, fn, tm, h1, h2, ⟨h3, hd⟩, h.rel h4, h5, h6⟩
inductive MemLe (n : Nat) : Mem → Mem → Prop
  | nil {m : Mem} : MemLe n m []
  | keep {i : Nat} {e e' : Ent} {m m' : Mem} (h : EntLe n e e') (hi : i < n) (hl : MemLe n m m') : MemLe n ((i, e) :: m) ((i, e') :: m')
  | skip {p : Nat × Ent} {m m' : Mem} (hl : MemLe n m m') : MemLe n (p :: m) m'
theorem MemLe.mem {n : Nat} {m m' : Mem} (h : MemLe n m m') : ∀ id e', (id, e') ∈ m' → ∃ e, (id, e) ∈ m ∧ EntLe n e e' ∧ id < n := by
  induction h with
  | nil => intro id e' h; cases h
  | keep h hi _ ih =>
    intro id e' hm
    rcases List.mem_cons.1 hm with heq | hm
    · cases heq; exact ⟨_, List.mem_cons_self, h, hi⟩
    · obtain ⟨e, h1, h2⟩ := ih id e' hm; exact ⟨e, List.mem_cons_of_mem _ h1, h2⟩
  | skip _ ih =>
    intro id e' hm
    obtain ⟨e, h1, h2⟩ := ih id e' hm
    exact ⟨e, List.mem_cons_of_mem _ h1, h2⟩
theorem MemLe.names {n : Nat} {m m' : Mem} (h : MemLe n m m') : (m'.map (·.1)).Sublist (m.map (·.1)) := by
  induction h with
  | nil => exact List.nil_sublist _
  | keep _ _ _ ih => exact ih.cons_cons _
  | skip _ ih => exact ih.cons _

theorem Wk.of {fr fr' : Fr} {stk stk' : List Fr} {m m' : Mem} {nx n : Nat} (hf : FrLe n fr fr') (hs : StkLe n stk stk') (hm : MemLe n m m') : Wk ⟨fr, stk, m, nx⟩ ⟨fr', stk', m', n⟩ := ⟨by
  intro base w0 E gs tm w hnx hS
  have hst := hs.rel (w := w) (E := E) (gs := gs) (by simpa using hS.len) fun i h1 h2 => hS.stk (i + 1) (by simpa using h1) (by simpa using h2)
  refine ⟨E.cut n, fun id hd => hd.2, hS.below, hS.hb, hS.imm, hS.keep, hS.same, fun id e' he' => ?_, ?_, by simpa using hst.1, fun i h1 h2 => ?_⟩
  · obtain ⟨e, h1, h2, h3⟩ := hm.mem id e' he'
    obtain ⟨a, b, c⟩ := hS.ents id e h1
    exact ⟨⟨a, h3⟩, h2.rel b, c⟩
  · rw [disj_names]
    have := (disj_names (E := E)).1 hS.disj
    exact this.sublist hm.names
  · cases i with
    | zero => exact hf.rel hS.top
    | succ i => exact hst.2 i (by simpa using h1) (by simpa using h2)⟩
structure WkX (x : AV) (A : Sta) (X : AV) (B : Sta) : Prop where
  out : ∀ base w0 E gs tm w v, E.under A.nx → SatM base w0 E (A.fr :: A.stk) (tm :: gs) A.m w → Rel w E x v → ∃ E' : Env, E'.under B.nx ∧ SatM base w0 E' (B.fr :: B.stk) (tm :: gs) B.m w ∧ Rel w E' X v
theorem WkX.of {x X : AV} {fr fr' : Fr} {stk stk' : List Fr} {m m' : Mem} {nx n : Nat} (hx : LeN n x X) (hf : FrLe n fr fr') (hs : StkLe n stk stk') (hm : MemLe n m m') : WkX x ⟨fr, stk, m, nx⟩ X ⟨fr', stk', m', n⟩ := ⟨by
  intro base w0 E gs tm w v hnx hS hv
  have hst := hs.rel (w := w) (E := E) (gs := gs) (by simpa using hS.len) fun i h1 h2 => hS.stk (i + 1) (by simpa using h1) (by simpa using h2)
  refine ⟨E.cut n, fun id hd => hd.2, ⟨hS.below, hS.hb, hS.imm, hS.keep, hS.same, fun id e' he' => ?_, ?_, by simpa using hst.1, fun i h1 h2 => ?_⟩, hx.out w E v hv⟩
  · obtain ⟨e, h1, h2, h3⟩ := hm.mem id e' he'
    obtain ⟨a, b, c⟩ := hS.ents id e h1
    exact ⟨⟨a, h3⟩, h2.rel b, c⟩
  · rw [disj_names]
    have := (disj_names (E := E)).1 hS.disj
    exact this.sublist hm.names
  · cases i with
    | zero => exact hf.rel hS.top
    | succ i => exact hst.2 i (by simpa using h1) (by simpa using h2)⟩
theorem Wk.refl (A : Sta) : Wk A A := ⟨fun _ _ E _ _ _ h1 h2 => ⟨E, h1, h2⟩⟩
theorem Wk.trans {A B C : Sta} (h : Wk A B) (h' : Wk B C) : Wk A C := ⟨fun b w0 E gs tm w h1 h2 => let ⟨E', a, c⟩ := h.out b w0 E gs tm w h1 h2; h'.out b w0 E' gs tm w a c⟩
theorem Wk.now {A B : Sta} (h : Wk A B) {base : Nat} {w0 : Start} {gs : List (Array Value)} {sz : Nat} {df : List Deferred} {a : Act} {w : World} (hN : Now base w0 gs sz df A.fr A.stk A.m A.nx a w) : Now base w0 gs sz df B.fr B.stk B.m B.nx a w := by
  obtain ⟨E, h1, h2, h3⟩ := hN
  obtain ⟨E', h4, h5⟩ := h.out _ _ _ _ _ _ h1 h2
  exact ⟨E', h4, h5, h3⟩
def nfF : Fr → (Fr → Prop) → Prop
  | [], k => k []
  | (n, a) :: l, k => nfF l fun l => force a fun a => k ((n, a) :: l)
theorem nfF_eq : ∀ (f : Fr) (k : Fr → Prop), nfF f k = k f
  | [], _ => rfl
  | (n, a) :: l, k => by simp only [nfF, nfF_eq l, force_eq]
def nfG : List Fr → (List Fr → Prop) → Prop
  | [], k => k []
  | f :: l, k => nfG l fun l => nfF f fun f => k (f :: l)
theorem nfG_eq : ∀ (l : List Fr) (k : List Fr → Prop), nfG l k = k l
  | [], _ => rfl
  | f :: l, k => by simp only [nfG, nfG_eq l, nfF_eq]
def nfL : List AV → (List AV → Prop) → Prop
  | [], k => k []
  | a :: l, k => nfL l fun l => force a fun a => k (a :: l)
theorem nfL_eq : ∀ (l : List AV) (k : List AV → Prop), nfL l k = k l
  | [], _ => rfl
  | a :: l, k => by simp only [nfL, nfL_eq l, force_eq]
def nfM : Mem → (Mem → Prop) → Prop
  | [], k => k []
  | (n, e) :: l, k => nfM l fun l => match e with
    | .box cs t => nfL cs fun cs => k ((n, .box cs t) :: l)
    | .row C q t cap => k ((n, .row C q t cap) :: l)
    | .iter s p => k ((n, .iter s p) :: l)
    | .defer b => k ((n, .defer b) :: l)
    | .loop b st pend fr sz ps assign body df => nfF fr fun fr => k ((n, .loop b st pend fr sz ps assign body df) :: l)
theorem nfM_eq : ∀ (m : Mem) (k : Mem → Prop), nfM m k = k m
  | [], _ => rfl
  | (n, e) :: l, k => by cases e <;> simp only [nfM, nfM_eq l, nfL_eq, nfF_eq]
def nfS (A : Sta) (k : Fr → List Fr → Mem → Nat → Prop) : Prop := match A with
  | ⟨fr, stk, m, nx⟩ => nfF fr fun fr => nfG stk fun stk => nfM m fun m => k fr stk m nx
theorem nfS_eq (A : Sta) (k : Fr → List Fr → Mem → Nat → Prop) : nfS A k = k A.fr A.stk A.m A.nx := by simp only [nfS, nfF_eq, nfG_eq, nfM_eq]
end Go.SX
/- A verified symbolic executor for Go code in the model, drawn regions 1: operations that hang on nothing but their operands. -/
namespace Go.SX
open Go.RowKit

def Agree (fr fr' : Fr) (x : Operand) : Prop := ev fr' x = ev fr x
theorem ev_congr {fr fr' : Fr} {x : Operand} (h : ∀ t, x = .tmp t → getS fr' t = getS fr t) : ev fr' x = ev fr x := by
  cases x with
  | tmp t => exact h t rfl
  | const v => cases v <;> rfl
  | global g => rfl
  | func f => rfl
theorem evL_congr {fr fr' : Fr} : ∀ (l : List Operand) (p : VC) (k : VC → List AV → Prop), (∀ x ∈ l, ev fr' x = ev fr x) → evL fr' l p k = evL fr l p k
  | [], _, _, _ => rfl
  | x :: l, p, k, h => by
    simp only [evL, h x (by simp)]
    congr 1
    funext q x
    congr 1
    funext p
    exact evL_congr l p _ fun x hx => h x (by simp [hx])
theorem opt1_congr {fr fr' : Fr} (o : Option Operand) (k : VC → Option Int → Prop) (h : ∀ x ∈ o.toList, ev fr' x = ev fr x) : opt1 fr' o k = opt1 fr o k := by
  cases o with
  | none => rfl
  | some x => simp only [opt1, h x (by simp)]
theorem buildK_congr {T : Tys} {fs : List (Nat × Nat × Nat)} {fr fr' : Fr} : ∀ (ps : List (Nat × Operand)) (cs : List AV) (p : VC) (k : VC → AV → Prop), (∀ x ∈ ps.map (·.2), ev fr' x = ev fr x) → buildK T fs fr' ps cs p k = buildK T fs fr ps cs p k
  | [], _, _, _, _ => rfl
  | (i, x) :: ps, cs, p, k, h => by
    simp only [buildK, h x (by simp)]
    congr 1
    funext o n t
    congr 1
    funext q x
    congr 1
    funext p
    congr 1
    funext xs
    cases Nat.beq xs.length n with
    | false => rfl
    | true =>
      simp only
      congr 1
      funext cs
      exact buildK_congr ps cs p k fun x hx => h x (by simp at hx ⊢; exact .inr hx)
theorem pop_congr {T : Tys} {m : Mem} {fr fr' : Fr} {o : Op} {k : VC → AV → Prop} (h : ∀ x ∈ o.operands.toList, ev fr' x = ev fr x) : pop T m fr' o k = pop T m fr o k := by
  unfold pop
  split
  · rename_i x; simp only [h x (by simp [Op.operands])]
  · rename_i x; simp only [h x (by simp [Op.operands])]
  · rename_i c a b; simp only [pickK, h c (by simp [Op.operands]), h a (by simp [Op.operands]), h b (by simp [Op.operands])]
  · rename_i op t x y yt; simp only [h x (by simp [Op.operands]), h y (by simp [Op.operands])]
  · rename_i op t x; simp only [h x (by simp [Op.operands])]
  · rename_i s x f; simp only [h x (by simp [Op.operands])]
  · rename_i t x i; simp only [h x (by simp [Op.operands]), h i (by simp [Op.operands])]
  · rename_i t x; simp only [h x (by simp [Op.operands])]
  · rename_i t x i; simp only [h x (by simp [Op.operands]), h i (by simp [Op.operands])]
  · rename_i t x lo hi mx
    simp only [sliceK, h x (by simp [Op.operands])]
    congr 1
    funext p x
    rw [opt1_congr lo _ fun y hy => h y (by simp [Op.operands] at hy ⊢; simp [hy])]
    congr 1
    funext q lo
    congr 1
    funext p
    rw [opt1_congr hi _ fun y hy => h y (by simp [Op.operands] at hy ⊢; simp [hy])]
    congr 1
    funext q hi
    congr 1
    funext p
    rw [opt1_congr mx _ fun y hy => h y (by simp [Op.operands] at hy ⊢; simp [hy])]
  · rename_i t x f; simp only [h x (by simp [Op.operands])]
  · rename_i x n; simp only [h x (by simp [Op.operands])]
  · rename_i x; simp only [h x (by simp [Op.operands])]
  · rename_i s d x; simp only [h x (by simp [Op.operands])]
  · rename_i t x; simp only [h x (by simp [Op.operands])]
  · rename_i t ps
    simp only [buildTopK]
    split
    · split
      · exact buildK_congr _ _ _ _ fun x hx => h x (by simpa [Op.operands] using hx)
      · rfl
      · rfl
    · rfl
  · rename_i f first caps
    rw [evL_congr caps.toList _ _ fun x hx => h x (by simp [Op.operands] at hx ⊢; exact .inr hx)]
  · rename_i args ats
    split
    · rename_i x t ts hx hts
      simp only [h x (by simp [Op.operands, Call.operands, hx])]
    · rfl
  · rename_i args ats
    split
    · rename_i x y hx
      simp only [h x (by simp [Op.operands, Call.operands, hx]), h y (by simp [Op.operands, Call.operands, hx])]
    · rfl
  · rename_i args ats
    split
    · rename_i x y hx
      simp only [h x (by simp [Op.operands, Call.operands, hx]), h y (by simp [Op.operands, Call.operands, hx])]
    · rfl
  · rfl
end Go.SX
/- A verified symbolic executor for Go code in the model, drawn regions 2: light operations. -/
namespace Go.SX
open Go.RowKit

def Bodied (P : Program) (f : Nat) : Prop := ∃ fn c, P.funcs[f]? = some fn ∧ fn.body = some c ∧ (fn.name == "runtime.NumGoroutine") = false
theorem Bodied.run {P : Program} {f : Nat} (h : Bodied P f) (args : Array Value) (w : World) : (callFunc f args).run P w = .ok (.enter f args) w := by
  obtain ⟨fn, c, h1, h2, h3⟩ := h
  simpa [callFunc, h1, h2] using h3
def Env.of (imm : Nat → Prop) : Env := ⟨fun _ => undef, fun _ => False, imm, fun _ => False⟩
def Env.arg (imm : Nat → Prop) (n : Nat) : Env := ⟨fun _ => undef, fun _ => False, imm, fun b => b < n⟩
theorem Goes.unname {E : Env} {w : World} : Goes E.bare (Env.of E.imm) w w := ⟨fun _ h => False.elim h, fun _ h => False.elim h, fun _ h => h, fun _ h => False.elim h, fun _ _ => rfl⟩
theorem Goes.lends {E : Env} {w : World} {n : Nat} : Goes E.bare (Env.arg E.imm n) w w := ⟨fun _ h => False.elim h, fun _ h => False.elim h, fun _ h => h, fun _ h => False.elim h, fun _ _ => rfl⟩
theorem Goes.named {E : Env} {w : World} {imm : Nat → Prop} : Goes (Env.of imm) { E with imm := imm } w w := ⟨fun _ h => False.elim h, fun _ h => False.elim h, fun _ h => h, fun _ h => False.elim h, fun _ _ => rfl⟩

structure LeA (m : Mem) (a b : AV) : Prop where
  out : ∀ base w0 E stk gs w v, SatM base w0 E stk gs m w → Rel w E a v → Rel w (Env.arg E.imm w.heap.size) b v
inductive LeAL (m : Mem) : List AV → List AV → Prop
  | nil : LeAL m [] []
  | cons {a b : AV} {l r : List AV} (h : LeA m a b) (hl : LeAL m l r) : LeAL m (a :: l) (b :: r)
theorem LeAL.rel {m : Mem} {cs ds : List AV} (h : LeAL m cs ds) {base : Nat} {w0 : Start} {E : Env} {stk : List Fr} {gs : List (Array Value)} {w : World} (hS : SatM base w0 E stk gs m w) {vs : List Value} (hr : RelL w E cs vs) : RelL w (Env.arg E.imm w.heap.size) ds vs := by
  induction h generalizing vs with
  | nil =>
    obtain rfl : vs = [] := List.eq_nil_of_length_eq_zero hr.1.symm
    exact RelL.nil _ _
  | cons h _ ih =>
    obtain ⟨x, xs, rfl, h1, h2⟩ := hr.uncons
    exact RelL.cons (h.out _ _ _ _ _ _ _ hS h1) (ih h2)
theorem view_rel {m : Mem} {α : Type} {C : Cdc α} {s : Nat} {en : α → List AV} {l : List α} {t n lo u : Nat} {cap : Option Nat} {d : α} {base : Nat} {w0 : Start} {E E2 : Env} {stk : List Fr} {gs : List (Array Value)} {w : World} {v : Value} (hS : SatM base w0 E stk gs m w)
    (he : getE m n = some (.row C l t cap)) (hC : C.size = s) (hen : C.enc = en) (hlu : lo + u ≤ l.length) (hr : Rel w E (.view n s lo u) v) {z : Bool} (hok : ∀ g, blk (E.h n) = some g → E2.ok z g) (himm : ∀ b, E.imm b → E2.imm b) :
    Rel w E2 (.ro s en d ((l.drop lo).take u) none z) v := by
  subst hC hen
  have hm := mem_of_getE he
  obtain ⟨hid, ⟨hs, h0, ⟨xs, hown, hrl⟩, hcap⟩, hblk⟩ := hS.ents _ _ hm
  cases hr with
  | @view _ _ A A' N c _ _ _ hn hs2 hle hA =>
    have hlen : ((l.drop lo).take u).length = u := by simp; omega
    by_cases hu : u = 0
    · subst hu
      rw [List.take_zero]
      exact .roNil _ _ _ _ _ _ hs (by simp)
    · rcases hown.2 with ⟨hv, hn0⟩ | ⟨g, cc, cur, hv, hbg, hg, hnc, hcm, hcs, htake⟩
      · omega
      · have hv0 := hv
        rw [hs2] at hv
        simp only [Value.slice.injEq] at hv
        obtain ⟨rfl, rfl, rfl⟩ := hv
        have hA := hA (by omega)
        simp only [Option.map_some, Addr.add_lit, Nat.zero_add] at hA
        rw [hA]
        have hcell := fun i (hi : i < l.length) j (hj : j < C.size) => row_cells hs hown hrl hv0 i hi j hj
        have := Rel.ro (w := w) (E := E2) (size := C.size) (enc := C.enc) (d := d) (l := (l.drop lo).take u) (cap := none) (b := g) (o := lo * C.size) (c := c - lo) (z := z)
          (fun j k => if hj : lo + j < l.length then if hk : k < C.size then Classical.choose (hcell (lo + j) hj k hk) else undef else undef) hs (by simp) (by rw [hlen]; omega) (hok g (by rw [hs2]; rfl))
          (fun j k hj hk => by
            rw [hlen] at hj
            have hj2 : lo + j < l.length := by omega
            simp only [hj2, hk, dif_pos]
            rw [show lo * C.size + (j * C.size + k) = (lo + j) * C.size + k by rw [Nat.add_mul]; omega]
            exact (Classical.choose_spec (hcell (lo + j) hj2 k hk)).1)
          (fun j hj k hk => by
            have hj2 : lo + j < l.length := by rw [hlen] at hj; omega
            have he2 : ((l.drop lo).take u)[j] = l[lo + j] := by simp
            have hk2 : k < C.size := by rw [← hs l[lo + j], ← he2]; exact hk
            simp only [hj2, hk2, dif_pos, he2]
            exact (Classical.choose_spec (hcell (lo + j) hj2 k hk2)).2.mono ⟨fun _ h => False.elim h, fun _ h => False.elim h, himm, fun _ h => False.elim h, fun _ _ => rfl⟩)
        rwa [hlen] at this
namespace LeA
variable {m : Mem}
theorem le {a b : AV} (h : Le a b) : LeA m a b := ⟨fun _ _ _ _ _ _ _ _ hr => (h.out _ _ _ hr).mono Goes.lends⟩
theorem v (x : Value) : LeA m (.v x) (.v x) := le (.v x)
theorem sb (x : Bool) : LeA m (.sb x) (.sb x) := le (.sb x)
theorem vb (x : Bool) : LeA m (.v (.bool x)) (.sb x) := le (.vb x)
theorem roCap {α : Type} (s : Nat) (en : α → List AV) (d : α) (l : List α) (c : Option Nat) : LeA m (.ro s en d l c) (.ro s en d l none) := le (.roCap s en d l c)
theorem ro {α : Type} (s : Nat) (en : α → List AV) (d : α) (l : List α) (c : Option Nat) : LeA m (.ro s en d l c) (.ro s en d l c) := le (.ro s en d l c)
theorem goes {E : Env} {w : World} {z : Bool} {n : Nat} (h : ∀ b, E.lnt b → b < n) : Goes (E.bz z) ((Env.arg E.imm n).bz true) w w := by
  cases z with
  | true => exact ⟨fun _ h => False.elim h, fun _ h => False.elim h, fun _ h => h, h, fun _ _ => rfl⟩
  | false => exact ⟨fun _ h => False.elim h, fun _ h => False.elim h, fun _ h => h, fun _ h => False.elim h, fun _ _ => rfl⟩
theorem lent {α : Type} (s : Nat) (en : α → List AV) (d : α) (l : List α) (c : Option Nat) (z : Bool) : LeA m (.ro s en d l c z) (.ro s en d l none true) := ⟨fun base w0 E stk gs w v hS hr => by
  have hl : ∀ b, E.lnt b → b < w.heap.size := fun b hb => hS.old (.inr hb)
  cases hr with
  | roNil _ _ _ _ A c hs hc => exact .roNil _ _ _ _ _ _ hs (by simp)
  | ro y hs hcap hlc him hc hr => exact .ro y hs (by simp) hlc (him.or.imp id (hl _)) hc fun j h1 k h2 => (hr j h1 k h2).mono (goes hl)⟩
theorem nil {α : Type} (s : Nat) (en : α → List AV) (d : α) {z : Bool} (hs : ∀ x, (en x).length = s) : LeA m (.v (.slice none 0 0)) (.ro s en d [] none z) := ⟨fun _ _ _ _ _ _ _ _ hr => by
  rw [hr.v_inv]; exact .roNil _ _ _ _ _ _ hs (by simp)⟩
theorem view {α : Type} {C : Cdc α} {s : Nat} {en : α → List AV} {l : List α} {t n lo u : Nat} {cap : Option Nat} {d : α} (he : getE m n = some (.row C l t cap)) (hC : C.size = s) (hen : C.enc = en) (hlu : lo + u ≤ l.length) :
    LeA m (.view n s lo u) (.ro s en d ((l.drop lo).take u) none true) := ⟨fun base w0 E stk gs w v hS hr =>
  view_rel hS he hC hen hlu hr (z := true) (fun g hg => .inr ((hS.ents _ _ (mem_of_getE he)).2.2 g hg).2.2) (fun _ h => h)⟩
theorem own {α : Type} {C : Cdc α} {s : Nat} {en : α → List AV} {l : List α} {t n : Nat} {cap : Option Nat} {d : α} (he : getE m n = some (.row C l t cap)) (hC : C.size = s) (hen : C.enc = en) :
    LeA m (.own n) (.ro s en d l none true) := ⟨fun base w0 E stk gs w v hS hr => by
  have hm := mem_of_getE he
  obtain ⟨hid, ⟨hs, h0, ⟨xs, hown, hrl⟩, hcap⟩, hblk⟩ := hS.ents _ _ hm
  have h := (view (m := m) (d := d) he hC hen (lo := 0) (u := l.length) (by simp)).out base w0 E stk gs w v hS
  rw [List.drop_zero, List.take_length] at h
  cases hr with
  | own hn _ =>
    rcases hown.2 with ⟨hv, hn0⟩ | ⟨g, cc, cur, hv, hbg, hg, hnc, hcm, hcs, htake⟩
    · rw [hv] at h ⊢
      rw [hn0] at h
      exact h (by simpa using Rel.view (w := w) (size := s) (lo := 0) (n := 0) hn hv (Nat.le_refl _) (fun h => by omega))
    · rw [hv] at h ⊢
      exact h (by simpa using Rel.view (w := w) (size := s) (lo := 0) (n := l.length) (A' := some ⟨g, 0, none⟩) hn hv (by omega) (fun _ => by simp [Addr.add]))⟩
theorem agg {l r : List AV} (h : LeAL m l r) : LeA m (.agg l) (.agg r) := ⟨fun _ _ _ _ _ _ _ hS hr => by
  cases hr with | agg hl hh =>
    have := h.rel hS (vs := _) ⟨by simpa using hl, fun i h1 h2 => hh i h1 (by simpa using h2)⟩
    exact .agg (by simpa using this.1) fun i h1 h2 => this.2 i h1 (by simpa using h2)⟩
end LeA
structure Con (P : Program) (f : Nat) {ι : Type} (A : ι → List AV) (R : ι → AV) (pre : ι → Prop) : Prop where
  bodied : Bodied P f
  calls : ∀ i, pre i → ∀ (w : World) (imm : Nat → Prop) (vs : Array Value), (∀ b, imm b → b < w.heap.size) → RelL w (Env.arg imm w.heap.size) (A i) vs.toList → CallsIn Fence.wide 0 P f vs w fun
    | .returned v, w' => ∃ imm', (∀ b, imm b → imm' b) ∧ (∀ b, imm' b → imm b ∨ w.heap.size ≤ b) ∧ (∀ b, imm' b → b < w'.heap.size) ∧ Below w.heap.size w w' ∧ Rel w' (Env.of imm') (R i) v
    | _, _ => False
structure OwnV (base : Nat) (w : World) (imm : Nat → Prop) {α : Type} (C : Cdc α) (l : List α) (t : Nat) (v : Value) : Prop where
  size : ∀ x, (C.enc x).length = C.size
  pos : 0 < C.size
  own : ∃ xs, w.ownsRow base t C.size v l.length xs ∧ RelL w (Env.of imm) (l.flatMap C.enc) xs
  blk : ∀ b, blk v = some b → base ≤ b ∧ ¬ imm b ∧ b < w.heap.size
structure ConO (P : Program) (f : Nat) {ι α : Type} (A : ι → List AV) (C : Cdc α) (L : ι → List α) (t : Nat) (pre : ι → Prop) : Prop where
  bodied : Bodied P f
  calls : ∀ i, pre i → ∀ (w : World) (imm : Nat → Prop) (vs : Array Value), (∀ b, imm b → b < w.heap.size) → RelL w (Env.arg imm w.heap.size) (A i) vs.toList → CallsIn Fence.wide 0 P f vs w fun
    | .returned v, w' => ∃ imm', (∀ b, imm b → imm' b) ∧ (∀ b, imm' b → imm b ∨ w.heap.size ≤ b) ∧ (∀ b, imm' b → b < w'.heap.size) ∧ Below w.heap.size w w' ∧ OwnV w.heap.size w' imm' C (L i) t v
    | _, _ => False
theorem SatM.put {base : Nat} {w0 : Start} {w : World} {E : Env} {stk : List Fr} {gs : List (Array Value)} {m : Mem} (h : SatM base w0 E stk gs m w) {n : Nat} (hn : ¬ E.dom n) (e : Ent) (v : Value) (hv : ∀ b, SX.blk v = some b → base ≤ b ∧ ¬ E.imm b ∧ b < w.heap.size)
    (hd : ∀ id e', (id, e') ∈ m → ∀ b, SX.blk v = some b → SX.blk (E.h id) ≠ some b) (he : EntR base w (E.add n v) n e) :
    SatM base w0 (E.add n v) stk gs ((n, e) :: m) w := by
  have g : Goes E (E.add n v) w w := Goes.add hn v fun _ _ => rfl
  refine ⟨h.below, h.hb, h.imm, h.keep, h.same, fun id e' he' => ?_, ?_, h.len, fun i h1 h2 => (h.stk i h1 h2).mono g⟩
  · rcases List.mem_cons.1 he' with heq | hm
    · cases heq
      exact ⟨by simp [Env.add], he, fun b hb => by rw [E.add_h] at hb; exact hv b hb⟩
    · obtain ⟨h1, h2, h3⟩ := h.ents id e' hm
      refine ⟨Or.inr h1, h2.mono g h1 fun _ _ => rfl, fun b hb => ?_⟩
      rw [E.add_old hn v h1] at hb
      exact h3 b hb
  · refine List.pairwise_cons.2 ⟨fun q hq => ?_, ?_⟩
    · obtain ⟨h1, _, h3⟩ := h.ents q.1 q.2 hq
      refine ⟨fun e => hn (by have e : n = q.1 := e; rw [e]; exact h1), fun b hb hb2 => ?_⟩
      rw [E.add_h] at hb
      rw [E.add_old hn v h1] at hb2
      exact hd q.1 q.2 hq b hb hb2
    · refine h.disj.imp_of_mem fun {p q} hp hq ⟨a1, a2⟩ => ⟨a1, fun b hb => ?_⟩
      rw [E.add_old hn v (h.ents q.1 q.2 hq).1]
      rw [E.add_old hn v (h.ents p.1 p.2 hp).1] at hb
      exact a2 b hb
theorem SatM.newOwn {base : Nat} {w0 : Start} {w w' : World} {E : Env} {stk : List Fr} {gs : List (Array Value)} {m : Mem} (h : SatM base w0 E stk gs m w) (hB : Below w.heap.size w w') {imm' : Nat → Prop}
    (hi : ∀ b, E.imm b → imm' b) (hi2 : ∀ b, imm' b → E.imm b ∨ w.heap.size ≤ b) (hi3 : ∀ b, imm' b → b < w'.heap.size) {n : Nat} (hn : ¬ E.dom n) {α : Type} {C : Cdc α} {l : List α} {t : Nat} {v : Value} (ho : OwnV w.heap.size w' imm' C l t v) :
    SatM base w0 (Env.add { E with imm := imm' } n v) stk gs ((n, .row C l t none) :: m) w' ∧ Rel w' (Env.add { E with imm := imm' } n v) (.own n) v := by
  have hS : SatM base w0 { E with imm := imm' } stk gs m w' := h.goes hB rfl rfl rfl hi hi2 hi3
  obtain ⟨hs, h0, ⟨xs, hown, hrl⟩, hbl⟩ := ho
  have hge := h.ge
  have hsl : ∃ A n c, v = .slice A n c := by
    rcases hown.2 with ⟨hv, _⟩ | ⟨g, c, cur, hv, _⟩
    · exact ⟨_, _, _, hv⟩
    · exact ⟨_, _, _, hv⟩
  refine ⟨hS.put (n := n) hn _ v (fun b hb => ?_) (fun id e' he' b hb hb2 => ?_) ?_, ?_⟩
  · obtain ⟨a1, a2, a3⟩ := hbl b hb
    exact ⟨Nat.le_trans hge a1, a2, a3⟩
  · have := ((h.ents id e' he').2.2 b hb2).2.2
    have := (hbl b hb).1
    omega
  · refine ⟨hs, h0, ⟨xs, ?_, hrl.mono ⟨fun _ h => False.elim h, fun _ h => False.elim h, fun _ h => h, fun _ h => False.elim h, fun _ _ => rfl⟩⟩, fun m hm => by cases hm⟩
    rw [Env.add_h]
    refine ⟨hown.1, ?_⟩
    rcases hown.2 with hn | ⟨gg, c, cur, hv, hb, rest⟩
    · exact .inl hn
    · exact .inr ⟨gg, c, cur, hv, Nat.le_trans hge hb, rest⟩
  · have := Rel.own (w := w') (E := Env.add { E with imm := imm' } n v) (id := n) (.inl rfl) (by rw [Env.add_h]; exact hsl)
    rwa [Env.add_h] at this
inductive Cal : Type 1
  | inl (fn : Func) (c : Code) (J : List Nat)
  | spec (S : List AV → Fr → List Fr → Mem → Nat → KO → Prop)
  | meth (fn : Func) (c : Code) (J : List Nat) (spec : List AV → List AV → AV × List AV)
  | pinl (fn : Func) (c : Code) (J : List Nat) (spec : List AV → AV)
  | con {ι : Type} (A : ι → List AV) (R : ι → AV) (pre : ι → Prop)
  | cono {ι α : Type} (A : ι → List AV) (C : Cdc α) (L : ι → List α) (t : Nat) (pre : ι → Prop)
abbrev Gam := List (Nat × Cal)
def getG : Gam → Nat → Option Cal
  | [], _ => none
  | (k, e) :: r, n => match Nat.beq k n with | true => some e | false => getG r n

def ConOK (P : Program) (G : Gam) : Prop := (∀ f {ι : Type} (A : ι → List AV) (R : ι → AV) (pre : ι → Prop), getG G f = some (.con A R pre) → Con P f A R pre) ∧
  ∀ f {ι α : Type} (A : ι → List AV) (C : Cdc α) (L : ι → List α) (t : Nat) (pre : ι → Prop), getG G f = some (.cono A C L t pre) → ConO P f A C L t pre

/-! ### Guards, again -/
def guardVal (all : List Oper) (fr : Fr) (g : Option (Nat × Bool)) : Option (Bool × Bool) := match g with
  | none => some (true, true)
  | some (j, want) => match nthO all j with
    | some d => match getS fr d with
      | .v (.bool b) => some (true, isB b want)
      | .sb b => some (false, match want with | true => b | false => !b)
      | .cnd c y => match y with
        | .v (.bool b) => match isB b want with
          | true => some (false, c)
          | false => some (true, false)
        | .sb b => some (false, c && match want with | true => b | false => !b)
        | _ => none
      | .v (.tuple _) => some (true, false)
      | _ => none
    | none => none
theorem guardK_val {all : List Oper} {fr : Fr} {g : Option (Nat × Bool)} {ka kn : Prop} {ks : Bool → Prop} (h : guardK all fr g ka kn ks) :
    ∃ l b, guardVal all fr g = some (l, b) ∧ ((l = true ∧ b = true ∧ ka) ∨ (l = true ∧ b = false ∧ kn) ∨ (l = false ∧ ks b)) := by
  unfold guardK at h
  unfold guardVal
  split at h
  · exact ⟨true, true, rfl, .inl ⟨rfl, rfl, h⟩⟩
  · rename_i j want
    split at h
    · rename_i d hd
      try simp only [hd]
      split at h
      · rename_i b hs
        try simp only [hs]
        split at h
        · rename_i hb; exact ⟨true, true, by rw [hb], .inl ⟨rfl, rfl, h⟩⟩
        · rename_i hb; exact ⟨true, false, by rw [hb], .inr (.inl ⟨rfl, rfl, h⟩)⟩
      · rename_i b hs
        try simp only [hs]
        exact ⟨false, _, rfl, .inr (.inr ⟨rfl, by cases want <;> exact h⟩)⟩
      · rename_i c y hs
        try simp only [hs]
        split at h
        · rename_i b
          split at h
          · rename_i hb; (try simp only [hb]); exact ⟨false, c, rfl, .inr (.inr ⟨rfl, h⟩)⟩
          · rename_i hb; (try simp only [hb]); exact ⟨true, false, rfl, .inr (.inl ⟨rfl, rfl, h⟩)⟩
        · rename_i b
          exact ⟨false, _, rfl, .inr (.inr ⟨rfl, by cases want <;> exact h⟩)⟩
        · exact h.elim
      · rename_i vs hs
        try simp only [hs]
        exact ⟨true, false, rfl, .inr (.inl ⟨rfl, rfl, h⟩)⟩
      · exact h.elim
    · exact h.elim
theorem guardK_of_val {all : List Oper} {fr : Fr} {g : Option (Nat × Bool)} {l b : Bool} (h : guardVal all fr g = some (l, b)) : guardK all fr g (b = true) (b = false) (fun x => x = b) := by
  unfold guardVal at h
  unfold guardK
  split at h
  · cases h; rfl
  · rename_i j want
    split at h
    · rename_i d hd
      try simp only [hd]
      split at h
      · rename_i c hs
        try simp only [hs]
        cases h
        cases hb : isB c want <;> rfl
      · rename_i c hs
        try simp only [hs]
        cases h
        cases want <;> rfl
      · rename_i c y hs
        try simp only [hs]
        split at h
        · rename_i q
          split at h
          · rename_i hb; (try simp only [hb]); cases h; rfl
          · rename_i hb; (try simp only [hb]); cases h; rfl
        · rename_i q
          cases h
          cases want <;> rfl
        · cases h
      · rename_i vs hs
        try simp only [hs]
        cases h
        rfl
      · cases h
    · cases h
theorem guardVal_ok {w : World} {E : Env} {fr : Fr} {a : Act} (hf : FrR w E fr a.tmps) {ops : Array Oper} {o : Oper} {l b : Bool} (h : guardVal ops.toList fr o.guard = some (l, b)) : Region.wanted o (yielded ops a.tmps) = b := by
  rcases guardK_ok hf (guardK_of_val h) with ⟨h1, h2⟩ | ⟨h1, h2⟩ | h
  · rw [h1, h2]
  · rw [h1, h2]
  · exact h

def slotsOf (all : List Oper) (o : Oper) : List Nat := (o.op.operands.toList.filterMap fun | .tmp t => some t | _ => none) ++ (match o.guard with
  | none => []
  | some (j, _) => (nthO all j).toList)
theorem guardVal_congr {all : List Oper} {o : Oper} {fr fr' : Fr} (h : ∀ t ∈ slotsOf all o, getS fr' t = getS fr t) : guardVal all fr' o.guard = guardVal all fr o.guard := by
  unfold guardVal
  split
  · rfl
  · rename_i j want hg
    split
    · rename_i d hd
      rw [h d (by simp [slotsOf, hg, hd])]
    · rfl
theorem ops_congr {all : List Oper} {o : Oper} {fr fr' : Fr} (h : ∀ t ∈ slotsOf all o, getS fr' t = getS fr t) : ∀ x ∈ o.op.operands.toList, ev fr' x = ev fr x := fun x hx =>
  ev_congr fun t ht => h t (List.mem_append_left _ (List.mem_filterMap.2 ⟨x, hx, by rw [ht]⟩))

/-! ### Light operations -/
def nilArg : List Operand → Bool
  | [.const (.slice none 0 0), _] => true
  | _ => false
def isLight (G : Gam) (o : Op) : Bool := match o with
  | .call ⟨.builtin .append, args, _⟩ => nilArg args.toList
  | .alloc _ => true
  | .buildSlice .. => true
  | .makeSlice .. => true
  | .call ⟨.value (.func g), _, _⟩ => match getG G g with
    | some (.con _ _ _) => true
    | some (.cono _ _ _ _ _) => true
    | _ => false
  | o => pureOp o
def fnCon (x : AV) : Option Nat := match x with
  | .fn g caps => match caps with
    | [] => some g
    | _ :: _ => none
  | _ => none
theorem fnCon_eq {x : AV} {g : Nat} (h : fnCon x = some g) : x = .fn g [] := by
  unfold fnCon at h
  split at h
  · split at h
    · cases h; rfl
    · cases h
  · cases h
def fnConC (x : AV) : Bool := match x with
  | .cnd _ y => (fnCon y).isSome
  | x => (fnCon x).isSome
def isLightF (G : Gam) (fr : Fr) (o : Op) : Bool := match o with
  | .call ⟨.value (.tmp t), _, _⟩ => fnConC (getS fr t)
  | o => isLight G o
def plainT (D : Cds) (r : TyR) : Bool := match r.d with
  | .slice e => match getC D e with
    | some _ => false
    | none => true
  | _ => true
def appNL (T : Tys) (D : Cds) (m : Mem) (args : List Operand) (ats : List Nat) (fr : Fr) (A : Mem) (nx : Nat) (k : AV → Mem → Nat → Prop) : Prop := match args, ats with
  | [.const (.slice none 0 0), x], [t, t'] => match Nat.beq t' t, getT T t with
    | true, some r => match r.d with
      | .slice e => match getT T e with
        | some re => match Nat.beq re.zero.length re.size, Nat.ble 1 re.bytes with
          | true, true => op1 (ev fr x) fun p x => match getC D e with
            | some c => p.out (newsK c.C m x fun news => news.length * re.bytes ≤ 140737488355328 ∧ Run (k (.own nx) ((nx, .row c.C news e none) :: A) (nx + 1)))
            | none => False
          | _, _ => False
        | none => False
      | _ => False
    | _, _ => False
  | _, _ => False
theorem appNL_congr {T : Tys} {D : Cds} {m : Mem} {args : List Operand} {ats : List Nat} {fr fr' : Fr} {A : Mem} {nx : Nat} {k : AV → Mem → Nat → Prop} (h : ∀ x ∈ args, ev fr' x = ev fr x) : appNL T D m args ats fr' A nx k = appNL T D m args ats fr A nx k := by
  unfold appNL
  split
  · rename_i x t t'
    rw [h x (by simp)]
  · rfl
def appKL (T : Tys) (m : Mem) (args : List Operand) (ats : List Nat) (fr : Fr) (A : Mem) (nx : Nat) (k : AV → Mem → Nat → Prop) : Prop := match args, ats with
  | [s, x], [t, t'] => match Nat.beq t' t, getT T t with
    | true, some r => match r.d with
      | .slice e => match getT T e with
        | some re => match Nat.beq re.zero.length re.size, Nat.ble 1 re.bytes with
          | true, true => op1 (ev fr s) fun p s => op1 (ev fr x) fun q x => p.and q fun p => match s with
            | .own id => match getE m id with
              | some (.row C l ty _) => match Nat.beq ty e, Nat.beq C.size re.size, Nat.ble 1 C.size with
                | true, true, true => p.out (newsK C m x fun news => (l.length + news.length) * re.bytes ≤ 140737488355328 ∧ Run (k (.sl (l.length + news.length)) A nx))
                | _, _, _ => False
              | _ => False
            | _ => False
          | _, _ => False
        | none => False
      | _ => False
    | _, _ => False
  | _, _ => False
theorem appKL_congr {T : Tys} {m : Mem} {args : List Operand} {ats : List Nat} {fr fr' : Fr} {A : Mem} {nx : Nat} {k : AV → Mem → Nat → Prop} (h : ∀ x ∈ args, ev fr' x = ev fr x) : appKL T m args ats fr' A nx k = appKL T m args ats fr A nx k := by
  unfold appKL
  split
  · rename_i s x t t'
    rw [h s (by simp), h x (by simp)]
  · rfl
def execL (T : Tys) (D : Cds) (G : Gam) (m : Mem) (o : Op) (fr : Fr) (A : Mem) (nx : Nat) (k : AV → Mem → Nat → Prop) : Prop := match o with
  | .call ⟨.builtin .append, args, ats⟩ => match nilArg args.toList with
    | true => appNL T D m args.toList ats.toList fr A nx k
    | false => appKL T m args.toList ats.toList fr A nx k
  | .alloc t => match getT T t with
    | some r => match plainT D r with
      | true => zeroK r.zero fun z => k (.ptr nx 0) ((nx, .box z t) :: A) (nx + 1)
      | false => False
    | none => False
  | .buildSlice t n ps => match lit1 T D t n with
    | true => litK T t n ps.toList fr [] A nx fun x _ _ A nx => k x A nx
    | false => litNK T D t n ps.toList fr [] A nx fun x _ _ A nx => k x A nx
  | .makeSlice t len cap => makeK T D t len cap fr [] A nx fun x _ _ A nx => k x A nx
  | .call ⟨.value (.func g), args, _⟩ => match getG G g with
    | some (.con A' R pre) => evL fr args.toList none fun p xs => p.out (∃ i, (LeAL m xs (A' i) ∧ pre i) ∧ Run (force (R i) fun x => k x A nx))
    | some (.cono A' C L t pre) => evL fr args.toList none fun p xs => p.out (∃ i, (LeAL m xs (A' i) ∧ pre i) ∧ Run (k (.own nx) ((nx, .row C (L i) t none) :: A) (nx + 1)))
    | _ => False
  | .call ⟨.value (.tmp t), args, _⟩ => op1 (getS fr t) fun q y => match fnCon y with
    | some g => match getG G g with
      | some (.con A' R pre) => evL fr args.toList q fun p xs => p.out (∃ i, (LeAL m xs (A' i) ∧ pre i) ∧ Run (force (R i) fun x => k x A nx))
      | _ => False
    | none => False
  | o => pop T m fr o fun p z => p.out (k z A nx)
def lightK (T : Tys) (D : Cds) (G : Gam) (all : List Oper) (sz : Nat) (m : Mem) (o : Oper) (fr : Fr) (A : Mem) (nx : Nat) (K : Mem → Fr → Nat → Prop) : Prop :=
  guardK all fr o.guard
    (execL T D G m o.op fr A nx fun x A nx => putS sz o.dst x fr fun fr => K A fr nx)
    (putS sz o.dst (.v (.tuple #[])) fr fun fr => K A fr nx)
    (fun g => match pureOp o.op with
      | true => match anySk fr o.op.operands.toList with
        | true => dumK T o.type fun z => (g = true → False) ∧ Run (putS sz o.dst (.cnd g z) fr fun fr => K A fr nx)
        | false => pop T m fr o.op fun p z => p.under g (putS sz o.dst (.cnd g z) fr fun fr => K A fr nx)
      | false => (g = true → Run (execL T D G m o.op fr A nx fun x A nx => putS sz o.dst x fr fun fr => K A fr nx)) ∧ (g = false → Run (putS sz o.dst (.v (.tuple #[])) fr fun fr => K A fr nx)))
def kpRow (m : Mem) (x : AV) : Bool := match x with
  | .own id => match getE m id with
    | some (.row C _ _ _) => C.kp
    | _ => false
  | _ => false
def keepArg (m : Mem) (fr : Fr) (o : Op) : Bool := match o with
  | .call ⟨.builtin .append, args, _⟩ => match args.toList with
    | [.tmp t, _] => match getS fr t with
      | .cnd _ x => kpRow m x
      | x => kpRow m x
    | _ => false
  | _ => false
def lightQ (G : Gam) (m : Mem) (fr : Fr) (o : Op) : Bool := match isLightF G fr o with
  | true => true
  | false => keepArg m fr o
def lightsK (T : Tys) (D : Cds) (G : Gam) (all : List Oper) (sz : Nat) (m : Mem) : List Oper → Fr → Mem → Nat → (List Oper → Mem → Fr → Nat → Prop) → Prop
  | [], fr, A, nx, K => K [] A fr nx
  | o :: l, fr, A, nx, K => match lightQ G m fr o.op with
    | true => lightK T D G all sz m o fr A nx fun A fr nx => lightsK T D G all sz m l fr A nx K
    | false => K (o :: l) A fr nx

def numOp (o : Op) : Bool := match o with
  | .move _ => true
  | .binOp .. => true
  | .unOp .. => true
  | .fieldAddr .. => true
  | _ => false
theorem pop_mem {T : Tys} {m m' : Mem} {fr : Fr} {o : Op} {k : VC → AV → Prop} (h : numOp o = true) : pop T m fr o k = pop T m' fr o k := by
  unfold numOp at h
  split at h
  · rfl
  · rfl
  · rfl
  · rfl
  · cases h
def boxOp (fr : Fr) (o : Op) : Bool := match o with
  | .load _ x => match ev fr x with
    | .ptr _ _ => true
    | _ => false
  | _ => false
def BoxLe (m m2 : Mem) : Prop := ∀ id cs t, getE m id = some (.box cs t) → getE m2 id = some (.box cs t)
abbrev MemOK (m m2 : Mem) (fr : Fr) (o : Op) : Prop := m2 = m ∨ numOp o = true ∨ (boxOp fr o = true ∧ BoxLe m m2)
theorem MemOK.only {m m2 : Mem} {fr : Fr} {o : Op} (h : MemOK m m2 fr o) (h1 : numOp o = false) (h2 : boxOp fr o = false) : m2 = m := by
  rcases h with h | h | ⟨h, _⟩
  · exact h
  · rw [h1] at h; cases h
  · rw [h2] at h; cases h
theorem boxOp_congr {fr fr' : Fr} {o : Op} (h : ∀ x ∈ o.operands.toList, ev fr' x = ev fr x) : boxOp fr' o = boxOp fr o := by
  cases o with
  | load t x =>
    simp only [boxOp]
    rw [h x (by simp [Op.operands])]
  | _ => rfl
theorem MemOK.congr {m m2 : Mem} {fr fr' : Fr} {o : Op} (hm : MemOK m m2 fr o) (h : ∀ x ∈ o.operands.toList, ev fr' x = ev fr x) : MemOK m m2 fr' o := by
  rcases hm with hm | hm | ⟨hm, hb⟩
  · exact .inl hm
  · exact .inr (.inl hm)
  · exact .inr (.inr ⟨by rw [boxOp_congr h]; exact hm, hb⟩)
theorem pop_box {T : Tys} {m : Mem} {fr : Fr} {o : Op} {k : VC → AV → Prop} (hb : boxOp fr o = true) (h : pop T m fr o k) : ∃ id cs t, getE m id = some (.box cs t) ∧ pop T [(id, .box cs t)] fr o k := by
  unfold boxOp at hb
  split at hb
  · rename_i t x
    split at hb
    · rename_i id off he
      simp only [pop, he, op1, loadK] at h ⊢
      split at h
      · rename_i r hr
        split at h
        · rename_i cs t' hg
          refine ⟨id, cs, t', hg, ?_⟩
          have hbq : Nat.beq id id = true := Nat.beq_refl id
          simp only [getE, hbq]
          exact h
        · exact h.elim
      · exact h.elim
    · cases hb
  · cases hb
structure LStep : Type 1 where
  x : AV
  al : Option (Nat × Ent)
def LStep.mem (s : LStep) : Mem := s.al.toList
def frPut (dst : Option Nat) (x : AV) (fr : Fr) : Fr := match dst with
  | some d => (d, x) :: fr
  | none => fr
theorem putS_eq {sz : Nat} {dst : Option Nat} {x : AV} {fr : Fr} {k : Fr → Prop} (h : putS sz dst x fr k) : (∀ d, dst = some d → d < sz) ∧ k (frPut dst x fr) := by
  unfold putS at h
  split at h
  · exact ⟨by simp, h⟩
  · rename_i d
    split at h
    · rename_i hd
      exact ⟨fun e he => by cases he; exact Nat.lt_of_succ_le (Nat.le_of_ble_eq_true hd), h⟩
    · exact h.elim

section
variable {P : Program} {F : Fence} {n : Nat} {base : Nat} {w0 : Start} {stk : List Fr} {m : Mem}
def LFact (P : Program) (F : Fence) (n : Nat) (base : Nat) (w0 : Start) (stk : List Fr) (m : Mem) (ops : Array Oper) (o : Oper) (fr : Fr) (s : LStep) : Prop :=
  ∀ (m2 : Mem), MemOK m m2 fr o.op → ∀ (fr' : Fr), (∀ t ∈ slotsOf ops.toList o, getS fr' t = getS fr t) → ∀ (E : Env) (A : Mem) (gs : List (Array Value)) (w : World) (a : Act), SatM base w0 E (fr' :: stk) (a.tmps :: gs) (A ++ m2) w → (∀ p, s.al = some p → ¬ E.dom p.1) →
    ∀ (next : Act → World → Prop) (Q : Exit → Act → World → Prop),
      (∀ v w' E', (∀ id, E'.dom id → E.dom id ∨ ∃ e, s.al = some (id, e)) → SatM base w0 E' (fr' :: stk) (a.tmps :: gs) (s.mem ++ (A ++ m2)) w' → Rel w' E' s.x v → next (a.put o.dst v) w') →
      if Region.wanted o (yielded ops a.tmps) then o.wpIn F n P a w next Q else (∀ f, o.about P w a.eval = some f → F.fn f) ∧ next (a.put o.dst undef) w
theorem SatM.right {E : Env} {stk : List Fr} {gs : List (Array Value)} {A m : Mem} {w : World} (h : SatM base w0 E stk gs (A ++ m) w) : SatM base w0 E stk gs m w := h.less (List.sublist_append_right _ _)
theorem evL_ops {fr fr' : Fr} {all : List Oper} {o : Oper} {f : Operand} {args : Array Operand} {ats : Array TypeId} (ho : o.op = .call ⟨.value f, args, ats⟩) (h : ∀ t ∈ slotsOf all o, getS fr' t = getS fr t) : ∀ x ∈ args.toList, ev fr' x = ev fr x := fun x hx =>
  ops_congr h x (by rw [ho]; simp only [Op.operands, Call.operands]; simp at hx ⊢; exact .inr hx)
def restr (l : List Nat) (fr : Fr) : Fr := l.map fun t => (t, getS fr t)
theorem getS_restr (fr : Fr) (t : Nat) : ∀ l : List Nat, getS (restr l fr) t = if t ∈ l then getS fr t else .junk
  | [] => rfl
  | a :: l => by
    simp only [restr, List.map_cons]
    rw [getS_cons]
    by_cases h : a = t
    · subst h; simp
    · rw [if_neg h]
      have := getS_restr fr t l
      simp only [restr] at this
      rw [this]
      simp [Ne.symm h]
theorem FrR.restr {w : World} {E : Env} {fr fr' : Fr} {tm : Array Value} {l : List Nat} (h : FrR w E fr' tm) (ha : ∀ t ∈ l, getS fr' t = getS fr t) : FrR w E (restr l fr) tm := fun t => by
  rw [getS_restr]
  split
  · rename_i ht; rw [← ha t ht]; exact h t
  · exact .junk _
theorem restr_agree (l : List Nat) (fr : Fr) : ∀ t ∈ l, getS (SX.restr l fr) t = getS fr t := fun t ht => by rw [getS_restr, if_pos ht]
theorem pop_ok2 {T : Tys} (hT : TysOK P T) {m : Mem} {fr : Fr} {o : Oper} {k : VC → AV → Prop} (h : pop T m fr o.op k) :
    ∃ p z, k p z ∧ ∀ m2, MemOK m m2 fr o.op → ∀ base w0 E stk gs w (a : Act), SatM base w0 E stk gs m2 w → FrR w E fr a.tmps → p.ok → ∃ y, (execOp a.eval o).run P w = .ok (.value y) w ∧ Rel w E z y := by
  cases hn : numOp o.op with
  | true =>
    rw [pop_mem (m' := []) hn] at h
    obtain ⟨p, z, h, hz⟩ := pop_ok hT h
    exact ⟨p, z, h, fun m2 _ base w0 E stk gs w a hS hf hp => hz base w0 E stk gs w a (hS.less (List.nil_sublist _)) hf hp⟩
  | false =>
    cases hx : boxOp fr o.op with
    | true =>
      obtain ⟨id, cs, t, hg, hp⟩ := pop_box hx h
      obtain ⟨p, z, h, hz⟩ := pop_ok hT hp
      refine ⟨p, z, h, fun m2 hm base w0 E stk gs w a hS hf hp => hz base w0 E stk gs w a (hS.less ?_) hf hp⟩
      have hg2 : getE m2 id = some (.box cs t) := by
        rcases hm with rfl | hm | ⟨_, hm⟩
        · exact hg
        · rw [hn] at hm; cases hm
        · exact hm _ _ _ hg
      exact List.singleton_sublist.2 (mem_of_getE hg2)
    | false =>
      obtain ⟨p, z, h, hz⟩ := pop_ok hT h
      refine ⟨p, z, h, fun m2 hm base w0 E stk gs w a hS hf hp => ?_⟩
      obtain rfl := MemOK.only hm hn hx
      exact hz base w0 E stk gs w a hS hf hp
theorem litK_congr {T : Tys} {t n : Nat} {ps : List (Nat × Operand)} {fr fr' : Fr} {stk : List Fr} {A : Mem} {nx : Nat} {k : AV → Mem → Nat → Prop} (h : ∀ x ∈ ps.map (·.2), ev fr' x = ev fr x) :
    (litK T t n ps fr' stk A nx fun x _ _ A nx => k x A nx) = litK T t n ps fr stk A nx fun x _ _ A nx => k x A nx := by
  unfold litK
  split
  · split
    · split
      · split
        · rename_i x
          rw [h x (by simp)]
        · rfl
      · rfl
    · rfl
  · rfl
theorem litsK_congr {α : Type} {C : Cdc α} {fr fr' : Fr} : ∀ (ps : List (Nat × Operand)) (j : Nat) (p : VC) (k : VC → List α → Prop), (∀ x ∈ ps.map (·.2), ev fr' x = ev fr x) → litsK C fr' j ps p k = litsK C fr j ps p k
  | [], _, _, _, _ => rfl
  | (i, x) :: ps, j, p, k, h => by
    simp only [litsK, h x (by simp)]
    cases Nat.beq i j with
    | false => rfl
    | true =>
      simp only
      congr 1
      funext q x
      congr 1
      funext p
      congr 1
      funext cs
      cases Nat.beq cs.length C.size with
      | false => rfl
      | true =>
        simp only
        congr 2
        exact litsK_congr ps (j + 1) p _ fun x hx => h x (by simp at hx ⊢; exact .inr hx)
theorem litNK_congr {T : Tys} {D : Cds} {t n : Nat} {ps : List (Nat × Operand)} {fr fr' : Fr} {stk : List Fr} {A : Mem} {nx : Nat} {k : AV → Mem → Nat → Prop} (h : ∀ x ∈ ps.map (·.2), ev fr' x = ev fr x) :
    (litNK T D t n ps fr' stk A nx fun x _ _ A nx => k x A nx) = litNK T D t n ps fr stk A nx fun x _ _ A nx => k x A nx := by
  unfold litNK
  split
  · split
    · split
      · split
        · rw [litsK_congr ps _ _ _ h]
        · rfl
      · rfl
    · rfl
  · rfl
theorem makeK_congr {T : Tys} {D : Cds} {t : Nat} {len cap : Operand} {fr fr' : Fr} {stk : List Fr} {A : Mem} {nx : Nat} {k : AV → Mem → Nat → Prop} (h1 : ev fr' len = ev fr len) (h2 : ev fr' cap = ev fr cap) :
    (makeK T D t len cap fr' stk A nx fun x _ _ A nx => k x A nx) = makeK T D t len cap fr stk A nx fun x _ _ A nx => k x A nx := by
  unfold makeK
  rw [h1, h2]
theorem execL_ok (W : Wide F) {T : Tys} (hT : TysOK P T) {D : Cds} (hD : CdsOK T D) {G : Gam} (hG : ConOK P G) {ops : Array Oper} {o : Oper} {fr : Fr} {A0 : Mem} {nx : Nat} {k : AV → Mem → Nat → Prop}
    (hfen : ∀ {f args w R}, CallsIn Fence.wide 0 P f args w R → CallsIn F (n - 1) P f args w R) (h : execL T D G m o.op fr A0 nx k) : ∃ (s : LStep) (nx' : Nat), k s.x (s.mem ++ A0) nx' ∧ ((s.al = none ∧ nx' = nx) ∨ (∃ e, s.al = some (nx, e) ∧ nx' = nx + 1)) ∧
      ∀ (m2 : Mem), MemOK m m2 fr o.op → ∀ (fr' : Fr), (∀ t ∈ slotsOf ops.toList o, getS fr' t = getS fr t) → ∀ (E : Env) (A : Mem) (gs : List (Array Value)) (w : World) (a : Act), SatM base w0 E (fr' :: stk) (a.tmps :: gs) (A ++ m2) w → (∀ p, s.al = some p → ¬ E.dom p.1) →
        ∀ (next : Act → World → Prop) (Q : Exit → Act → World → Prop),
          (∀ v w' E', (∀ id, E'.dom id → E.dom id ∨ ∃ e, s.al = some (id, e)) → SatM base w0 E' (fr' :: stk) (a.tmps :: gs) (s.mem ++ (A ++ m2)) w' → Rel w' E' s.x v → next (a.put o.dst v) w') → o.wpIn F n P a w next Q := by
  unfold execL at h
  split at h
  · rename_i args ats ho
    have hsl : ∀ x ∈ args.toList, ev (SX.restr (slotsOf ops.toList o) fr) x = ev fr x := fun x hx => ops_congr (restr_agree _ fr) x (by rw [ho]; simp only [Op.operands, Call.operands]; simp at hx ⊢; exact hx)
    split at h
    case h_2 =>
      rw [← appKL_congr hsl] at h
      unfold appKL at h
      split at h
      · rename_i s x t t' hargs hats
        have hargs' : args = #[s, x] := by cases args; simpa using hargs
        have hats' : ats = #[t, t'] := by cases ats; simpa using hats
        split at h
        · rename_i r htt h1
          have htt := Nat.eq_of_beq_eq_true htt
          split at h
          · rename_i e h2
            split at h
            · rename_i re h3
              split at h
              · rename_i hz hbp
                have hz := Nat.eq_of_beq_eq_true hz
                have hbp := Nat.le_of_ble_eq_true hbp
                obtain ⟨p, s', h, hs'⟩ := op1_ok h
                obtain ⟨q, x', h, hx'⟩ := op1_ok h
                obtain ⟨p', h, hp'⟩ := VC.and_ok h
                split at h
                · rename_i id _h1 _h0
                  split at h
                  · rename_i α C l ty cap he
                    split at h
                    · rename_i e1 e2 h0
                      have e1 := Nat.eq_of_beq_eq_true e1
                      have e2 := Nat.eq_of_beq_eq_true e2
                      have h0 := Nat.le_of_ble_eq_true h0
                      obtain ⟨hp, h⟩ := VC.out_ok h
                      obtain ⟨news, h, hnews⟩ := newsK_ok h0 h
                      obtain ⟨hb, h⟩ := h
                      refine ⟨⟨.sl (l.length + news.length), none⟩, nx, h.out, .inl ⟨rfl, rfl⟩, fun m2 hm2 fr' hag E A gs w a hS hdom next Q hn => ?_⟩
                      have hm2 : m2 = m := hm2.only (by rw [ho]; rfl) (by rw [ho]; rfl)
                      subst hm2
                      have hSr := hS.right
                      have hm := mem_of_getE he
                      obtain ⟨hid, ⟨hs, h0', ⟨xs, hown, hrl⟩, hcap⟩, hblk⟩ := hSr.ents _ _ hm
                      have hrs := hs' w E _ (hp' hp).1 (ev_ok (hS.top.restr hag) s)
                      have hrx := hx' w E _ (hp' hp).2 (ev_ok (hS.top.restr hag) x)
                      rw [e1] at hown
                      have hev : a.eval s = E.h id := by
                        generalize a.eval s = z at hrs
                        cases hrs with
                        | own _ _ => rfl
                      obtain ⟨v', w', nv, hrun, ho', hg, hrn, hvb, _, hkeep⟩ := run_app hT h1 h2 h3 hz o.type hs h0' e2 (hnews _ _ _ _ _ w _ hSr hrx) hown hb hbp hSr.ge
                      obtain ⟨n1, n2, n3, n4⟩ := ownsRow_blk hown
                      obtain ⟨m1, m2', ⟨A', k', c', m3⟩, m4⟩ := ownsRow_blk ho'
                      have g : Goes E.bare E.bare w w' := Goes.bare (fun _ h => h) (fun k hk => hg.block k (hSr.imm k hk) (fun e => (hblk k (by rw [n2]; exact e.symm)).2.1 hk))
                      have hS' := hS.keepRow (List.mem_append_right _ hm) (by rw [n2]; exact hg) ⟨hs, h0', ⟨xs, by rw [e1]; exact hkeep, hrl.mono g⟩, hcap⟩
                      have hexec : (execOp a.eval o).run P w = .ok (.value v') w' := by
                        simp only [execOp, ho, hargs', hats', htt, resolve, invoke, builtin, Sem.run_bind, Sem.run_pure, Result.andThen_ok, List.map_toArray, List.map_cons, List.map_nil]
                        rw [hev, hrun]; rfl
                      refine ⟨fun f _ => W.fn f, ?_⟩
                      rw [Oper.semAt_eq _ _ _ (by simp [ho]), hexec]
                      refine hn _ _ _ (fun id hd => .inl hd) hS' ?_
                      have hk : k' = l.length + news.length := by
                        rcases ho'.2 with ⟨hv2, hn2⟩ | ⟨g2, cap2, cur2, hv2, _⟩
                        · rw [m3] at hv2; injection hv2 with _ h5 _; omega
                        · rw [m3] at hv2; injection hv2 with _ h5 _
                      rw [m3, hk]
                      exact .sl _ _ _
                    · exact h.elim
                  · exact h.elim
                · exact h.elim
              · exact h.elim
            · exact h.elim
          · exact h.elim
        · exact h.elim
      · exact h.elim
    rw [← appNL_congr hsl] at h
    unfold appNL at h
    split at h
    · rename_i x t t' hargs hats
      have hargs' : args = #[.const (.slice none 0 0), x] := by cases args; simpa using hargs
      have hats' : ats = #[t, t'] := by cases ats; simpa using hats
      split at h
      · rename_i r htt h1
        have htt := Nat.eq_of_beq_eq_true htt
        split at h
        · rename_i e h2
          split at h
          · rename_i re h3
            split at h
            · rename_i hz hbp
              have hz := Nat.eq_of_beq_eq_true hz
              have hbp := Nat.le_of_ble_eq_true hbp
              obtain ⟨q, x', h, hx'⟩ := op1_ok h
              split at h
              · rename_i c hc
                obtain ⟨hp, h⟩ := VC.out_ok h
                obtain ⟨_, cpos, _⟩ := hD e c hc
                obtain ⟨news, h, hnews⟩ := newsK_ok cpos h
                obtain ⟨hb, h⟩ := h
                refine ⟨⟨.own nx, some (nx, .row c.C news e none)⟩, nx + 1, h.out, .inr ⟨_, rfl, rfl⟩, fun m2 hm2 fr' hag E A gs w a hS hdom next Q hn => ?_⟩
                have hm2 : m2 = m := hm2.only (by rw [ho]; rfl) (by rw [ho]; rfl)
                subst hm2
                obtain ⟨v', w', hrun, hSN, hrel⟩ := appNil_core hT hD h1 h2 h3 hz hbp hc hb (hdom _ rfl) hS (hnews _ _ _ _ _ w _ hS.right (hx' w E _ hp (ev_ok (hS.top.restr hag) x))) o.type
                have hexec : (execOp a.eval o).run P w = .ok (.value v') w' := by
                  simp only [execOp, ho, hargs', hats', htt, resolve, invoke, builtin, Sem.run_bind, Sem.run_pure, Result.andThen_ok, List.map_toArray, List.map_cons, List.map_nil]
                  show ((Builtin.append_ #[t, t] o.type #[.slice none 0 0, a.eval x]).run P w).andThen _ = _
                  rw [hrun]; rfl
                refine ⟨fun f _ => W.fn f, ?_⟩
                rw [Oper.semAt_eq _ _ _ (by simp [ho]), hexec]
                refine hn _ _ _ (fun id hd => ?_) hSN hrel
                rcases hd with hd | hd
                · exact .inr ⟨_, by rw [hd]⟩
                · exact .inl hd
              · exact h.elim
            · exact h.elim
          · exact h.elim
        · exact h.elim
      · exact h.elim
    · exact h.elim
  · rename_i t ho
    split at h
    · rename_i r h1
      split at h
      · rw [zeroK_eq] at h
        refine ⟨⟨.ptr nx 0, some (nx, .box (zeroAV r.zero) t)⟩, nx + 1, h, .inr ⟨_, rfl, rfl⟩, fun m2 hm2 fr' hag E A gs w a hS hdom next Q hn => ?_⟩
        have hm2 : m2 = m := hm2.only (by rw [ho]; rfl) (by rw [ho]; rfl)
        subst hm2
        obtain ⟨z, hz1, hz2⟩ := (hT t r h1).zero
        have hrun : (execOp a.eval o).run P w = .ok (.value (.pointer (some ⟨w.heap.size, 0, none⟩))) (w.alloc (.cells z.cells t)) := by
          simp [execOp, ho, Instr.alloc, hz2, run_newVar]
        refine ⟨fun f _ => W.fn f, ?_⟩
        rw [Oper.semAt_eq _ _ _ (by simp [ho]), hrun]
        have := hS.newBox (n := nx) (hdom _ rfl) (zeroAV r.zero) z.cells t (by rw [hz1]; simpa using zeroAV_rel w E r.zero)
        refine hn _ _ _ (fun id hd => ?_) this.1 this.2
        rcases hd with hd | hd
        · exact .inr ⟨_, by rw [hd]⟩
        · exact .inl hd
      · exact h.elim
    · exact h.elim
  · rename_i t n' ps ho
    have hsl : ∀ x ∈ ps.toList.map (·.2), ev (SX.restr (slotsOf ops.toList o) fr) x = ev fr x := fun x hx => ops_congr (restr_agree _ fr) x (by rw [ho]; simp only [Op.operands]; simpa using hx)
    split at h
    · rw [← litK_congr hsl] at h
      obtain ⟨cs, e, hk, hr⟩ := litK_at hT ho h
      refine ⟨⟨.bsl nx 1, some (nx, .box cs e)⟩, nx + 1, hk, .inr ⟨_, rfl, rfl⟩, fun m2 hm2 fr' hag E A gs w a hS hdom next Q hn => ?_⟩
      have hm2 : m2 = m := hm2.only (by rw [ho]; rfl) (by rw [ho]; rfl)
      subst hm2
      obtain ⟨vs, hrun, hrel⟩ := hr w E a (hS.top.restr hag)
      refine ⟨fun f _ => W.fn f, ?_⟩
      rw [Oper.semAt_eq _ _ _ (by simp [ho]), hrun]
      have := hS.newBox (n := nx) (hdom _ rfl) cs vs e hrel
      refine hn _ _ _ (fun id hd => ?_) this.1 (.bsl 1 (.inl rfl) (E.add_h _ _))
      rcases hd with hd | hd
      · exact .inr ⟨_, by rw [hd]⟩
      · exact .inl hd
    · rw [← litNK_congr hsl] at h
      obtain ⟨c, l, e, clen, hk, hr⟩ := litNK_at hT hD ho h
      refine ⟨⟨.ro c.C.size c.C.enc c.C.d l none, none⟩, nx, hk, .inl ⟨rfl, rfl⟩, fun m2 hm2 fr' hag E A gs w a hS hdom next Q hn => ?_⟩
      have hm2 : m2 = m := hm2.only (by rw [ho]; rfl) (by rw [ho]; rfl)
      subst hm2
      obtain ⟨vs, hrun, hrel⟩ := hr w E a (hS.top.restr hag)
      refine ⟨fun f _ => W.fn f, ?_⟩
      rw [Oper.semAt_eq _ _ _ (by simp [ho]), hrun]
      have hB : Below w.heap.size w (w.alloc (.cells vs.toArray e)) := (RowKit.Below.refl _ _).alloc (Nat.le_refl _) _
      have hS' := hS.frozen hB (by simp)
      refine hn _ _ { E with imm := fun b => E.imm b ∨ b = w.heap.size } (fun id hd => .inl hd) hS' ?_
      refine ro_of clen (Nat.le_refl _) (Or.inr rfl) (hrel.mono (Goes.bare (fun _ h => Or.inl h) fun b hb => hB.block b (hS.imm b hb))) (fun i hi => ?_) _
      have hnew := heap_alloc_new w (.cells vs.toArray e)
      simp only [World.cell?, hnew]
      simp
  · rename_i t len cap ho
    have hsl : ∀ x ∈ o.op.operands.toList, ev (SX.restr (slotsOf ops.toList o) fr) x = ev fr x := fun x hx => ops_congr (restr_agree _ fr) x hx
    rw [← makeK_congr (hsl len (by rw [ho]; simp [Op.operands])) (hsl cap (by rw [ho]; simp [Op.operands]))] at h
    obtain ⟨e', hk, hr⟩ := makeK_at (base := base) (w0 := w0) hT hD ho h
    refine ⟨⟨.own nx, some (nx, e')⟩, nx + 1, hk, .inr ⟨_, rfl, rfl⟩, fun m2 hm2 fr' hag E A gs w a hS hdom next Q hn => ?_⟩
    have hm2 : m2 = m := hm2.only (by rw [ho]; rfl) (by rw [ho]; rfl)
    subst hm2
    obtain ⟨v, w', hrun, hsat⟩ := hr w E a (hS.top.restr hag)
    obtain ⟨s1, s2⟩ := hsat _ _ _ hS (hdom _ rfl)
    refine ⟨fun f _ => W.fn f, ?_⟩
    rw [Oper.semAt_eq _ _ _ (by simp [ho]), hrun]
    refine hn _ _ _ (fun id hd => ?_) s1 s2
    rcases hd with hd | hd
    · exact .inr ⟨_, by rw [hd]⟩
    · exact .inl hd
  · rename_i g args ats ho
    split at h
    · rename_i ι A' R pre hg
      have hc := hG.1 g A' R pre hg
      have hsl : ∀ x ∈ args.toList, ev (SX.restr (slotsOf ops.toList o) fr) x = ev fr x := evL_ops ho (restr_agree _ fr)
      rw [← evL_congr args.toList none _ hsl] at h
      obtain ⟨p, xs, h, hp, hxs⟩ := evL_ok h
      obtain ⟨hok, i, ⟨hle, hpre⟩, h⟩ := VC.out_ok h
      have h := h.out
      rw [force_eq] at h
      refine ⟨⟨R i, none⟩, nx, h, .inl ⟨rfl, rfl⟩, fun m2 hm2 fr' hag E A gs w a hS hdom next Q hn => ?_⟩
      have hm2 : m2 = m := hm2.only (by rw [ho]; rfl) (by rw [ho]; rfl)
      subst hm2
      refine ⟨fun f _ => W.fn f, ?_⟩
      rw [Oper.semAt_eq _ _ _ (by simp [ho])]
      have hrel : RelL w E xs (args.map a.eval).toList := by simpa using hxs w E a (hS.top.restr hag) hok
      have hrun : (execOp a.eval o).run P w = .ok (.enter g (args.map a.eval)) w := by
        simp only [execOp, ho, resolve, Act.eval, Deferred.ofValue, Sem.run_bind, Sem.run_pure, Result.andThen_ok, invoke]
        have : (#[] ++ Array.map a.eval args ++ #[] : Array Value) = Array.map a.eval args := by simp
        rw [this]
        exact hc.bodied.run _ _
      rw [hrun]
      refine NextOK.upon W (r := .ok (.enter g (args.map a.eval)) w) ?_
      refine hfen (CallsIn.mono (hc.calls i hpre w E.imm _ hS.imm (hle.rel hS.right hrel)) fun e w' he => ?_)
      cases e with
      | returned v =>
        obtain ⟨imm', h1, h2, h3, h4, h5⟩ := he
        exact hn v w' { E with imm := imm' } (fun id hd => .inl hd) (hS.goes h4 rfl rfl rfl h1 h2 h3) (h5.mono Goes.named)
      | panicked c => exact he.elim
      | outgrown => exact he.elim
    · rename_i ι α A' C L t pre hg
      have hc := hG.2 g A' C L t pre hg
      have hsl : ∀ x ∈ args.toList, ev (SX.restr (slotsOf ops.toList o) fr) x = ev fr x := evL_ops ho (restr_agree _ fr)
      rw [← evL_congr args.toList none _ hsl] at h
      obtain ⟨p, xs, h, hp, hxs⟩ := evL_ok h
      obtain ⟨hok, i, ⟨hle, hpre⟩, h⟩ := VC.out_ok h
      have h := h.out
      refine ⟨⟨.own nx, some (nx, .row C (L i) t none)⟩, nx + 1, h, .inr ⟨_, rfl, rfl⟩, fun m2 hm2 fr' hag E A gs w a hS hdom next Q hn => ?_⟩
      have hm2 : m2 = m := hm2.only (by rw [ho]; rfl) (by rw [ho]; rfl)
      subst hm2
      refine ⟨fun f _ => W.fn f, ?_⟩
      rw [Oper.semAt_eq _ _ _ (by simp [ho])]
      have hrel : RelL w E xs (args.map a.eval).toList := by simpa using hxs w E a (hS.top.restr hag) hok
      have hrun : (execOp a.eval o).run P w = .ok (.enter g (args.map a.eval)) w := by
        simp only [execOp, ho, resolve, Act.eval, Deferred.ofValue, Sem.run_bind, Sem.run_pure, Result.andThen_ok, invoke]
        have : (#[] ++ Array.map a.eval args ++ #[] : Array Value) = Array.map a.eval args := by simp
        rw [this]
        exact hc.bodied.run _ _
      rw [hrun]
      refine NextOK.upon W (r := .ok (.enter g (args.map a.eval)) w) ?_
      refine hfen (CallsIn.mono (hc.calls i hpre w E.imm _ hS.imm (hle.rel hS.right hrel)) fun e w' he => ?_)
      cases e with
      | returned v =>
        obtain ⟨imm', h1, h2, h3, h4, h5⟩ := he
        obtain ⟨s1, s2⟩ := hS.newOwn h4 h1 h2 h3 (hdom _ rfl) h5
        refine hn v w' _ (fun id hd => ?_) s1 s2
        rcases hd with hd | hd
        · exact .inr ⟨_, by rw [hd]⟩
        · exact .inl hd
      | panicked c => exact he.elim
      | outgrown => exact he.elim
    · exact h.elim
  · rename_i t args ats ho
    obtain ⟨q, y, h, hy⟩ := op1_ok h
    split at h
    · rename_i g hfc
      have hy2 := fnCon_eq hfc
      subst hy2
      split at h
      · rename_i ι A' R pre hg
        have hc := hG.1 g A' R pre hg
        have hsl : ∀ x ∈ args.toList, ev (SX.restr (slotsOf ops.toList o) fr) x = ev fr x := evL_ops ho (restr_agree _ fr)
        rw [← evL_congr args.toList q _ hsl] at h
        obtain ⟨p, xs, h, hp, hxs⟩ := evL_ok h
        obtain ⟨hok, i, ⟨hle, hpre⟩, h⟩ := VC.out_ok h
        have h := h.out
        rw [force_eq] at h
        refine ⟨⟨R i, none⟩, nx, h, .inl ⟨rfl, rfl⟩, fun m2 hm2 fr' hag E A gs w a hS hdom next Q hn => ?_⟩
        have hm2 : m2 = m := hm2.only (by rw [ho]; rfl) (by rw [ho]; rfl)
        subst hm2
        refine ⟨fun f _ => W.fn f, ?_⟩
        rw [Oper.semAt_eq _ _ _ (by simp [ho])]
        have hrel : RelL w E xs (args.map a.eval).toList := by simpa using hxs w E a (hS.top.restr hag) hok
        have hv : a.tmps.getD t undef = .func (.func g) #[] #[] := by
          have h1 := hS.top t
          rw [hag t (by simp [slotsOf, ho, Op.operands, Call.operands])] at h1
          have h2 := hy w E _ (hp hok) h1
          generalize a.tmps.getD t undef = z at h2 ⊢
          cases h2 with
          | fn _ hl hh =>
            rename_i vs'
            have : vs' = #[] := Array.eq_empty_of_size_eq_zero (by simpa using hl.symm)
            rw [this]
        have hrun : (execOp a.eval o).run P w = .ok (.enter g (args.map a.eval)) w := by
          simp only [execOp, ho, resolve, Act.eval, hv, Deferred.ofValue, Sem.run_bind, Sem.run_pure, Result.andThen_ok, invoke]
          have : (#[] ++ Array.map a.eval args ++ #[] : Array Value) = Array.map a.eval args := by simp
          rw [this]
          exact hc.bodied.run _ _
        rw [hrun]
        refine NextOK.upon W (r := .ok (.enter g (args.map a.eval)) w) ?_
        refine hfen (CallsIn.mono (hc.calls i hpre w E.imm _ hS.imm (hle.rel hS.right hrel)) fun e w' he => ?_)
        cases e with
        | returned v =>
          obtain ⟨imm', h1, h2, h3, h4, h5⟩ := he
          exact hn v w' { E with imm := imm' } (fun id hd => .inl hd) (hS.goes h4 rfl rfl rfl h1 h2 h3) (h5.mono Goes.named)
        | panicked c => exact he.elim
        | outgrown => exact he.elim
      · exact h.elim
    · exact h.elim
  · have hsl := ops_congr (o := o) (restr_agree (slotsOf ops.toList o) fr)
    rw [← pop_congr hsl] at h
    have hnd := pop_noDefer h
    obtain ⟨p, z, h, hz⟩ := pop_ok2 hT h
    obtain ⟨hp, h⟩ := VC.out_ok h
    refine ⟨⟨z, none⟩, nx, h, .inl ⟨rfl, rfl⟩, fun m2 hm2 fr' hag E A gs w a hS hdom next Q hn => ?_⟩
    obtain ⟨y, h1, h2⟩ := hz m2 (hm2.congr hsl) _ _ _ _ _ w a hS.right (hS.top.restr hag) hp
    refine ⟨fun f _ => W.fn f, ?_⟩
    rw [Oper.semAt_eq _ _ _ hnd, h1]
    exact hn _ _ _ (fun id hd => .inl hd) hS h2
end
end Go.SX
/- A verified symbolic executor for Go code in the model, drawn regions 3: a chain of light operations; frames and memory by the set of those done. -/
namespace Go.SX
open Go.RowKit

section
variable {P : Program} {F : Fence} {n : Nat} {base : Nat} {w0 : Start} {stk : List Fr} {m : Mem}
def FenOK (P : Program) (F : Fence) (n : Nat) : Prop := ∀ {f args w R}, CallsIn Fence.wide 0 P f args w R → CallsIn F (n - 1) P f args w R
theorem lightK_ok (W : Wide F) {T : Tys} (hT : TysOK P T) {D : Cds} (hD : CdsOK T D) {G : Gam} (hG : ConOK P G) (hfen : FenOK P F n) {ops : Array Oper} {sz : Nat} {o : Oper} {fr : Fr} {A0 : Mem} {nx : Nat} {K : Mem → Fr → Nat → Prop}
    (h : lightK T D G ops.toList sz m o fr A0 nx K) : ∃ (s : LStep) (nx' : Nat), LFact P F n base w0 stk m ops o fr s ∧ (∀ d, o.dst = some d → d < sz) ∧ K (s.mem ++ A0) (frPut o.dst s.x fr) nx' ∧ ((s.al = none ∧ nx' = nx) ∨ (∃ e, s.al = some (nx, e) ∧ nx' = nx + 1)) := by
  obtain ⟨l, b, hv, hc⟩ := guardK_val h
  have wan : ∀ {fr' : Fr} {E : Env} {w : World} {a : Act}, (∀ t ∈ slotsOf ops.toList o, getS fr' t = getS fr t) → FrR w E fr' a.tmps → Region.wanted o (yielded ops a.tmps) = b := fun hag hf => guardVal_ok hf ((guardVal_congr hag).trans hv)
  have exec : b = true → (execL T D G m o.op fr A0 nx fun x A nx => putS sz o.dst x fr fun fr => K A fr nx) → ∃ (s : LStep) (nx' : Nat), LFact P F n base w0 stk m ops o fr s ∧ (∀ d, o.dst = some d → d < sz) ∧ K (s.mem ++ A0) (frPut o.dst s.x fr) nx' ∧ ((s.al = none ∧ nx' = nx) ∨ (∃ e, s.al = some (nx, e) ∧ nx' = nx + 1)) := fun hb h => by
    obtain ⟨s, nx', hk, hal, hf⟩ := execL_ok (base := base) (w0 := w0) (stk := stk) (ops := ops) W hT hD hG hfen h
    obtain ⟨hd, hk⟩ := putS_eq hk
    refine ⟨s, nx', fun m2 hm2 fr' hag E A gs w a hS hdom next Q hn => ?_, hd, hk, hal⟩
    rw [wan hag hS.top, hb, if_pos rfl]
    exact hf m2 hm2 fr' hag E A gs w a hS hdom next Q hn
  have skip : b = false → (putS sz o.dst (.v (.tuple #[])) fr fun fr => K A0 fr nx) → ∃ (s : LStep) (nx' : Nat), LFact P F n base w0 stk m ops o fr s ∧ (∀ d, o.dst = some d → d < sz) ∧ K (s.mem ++ A0) (frPut o.dst s.x fr) nx' ∧ ((s.al = none ∧ nx' = nx) ∨ (∃ e, s.al = some (nx, e) ∧ nx' = nx + 1)) := fun hb h => by
    obtain ⟨hd, hk⟩ := putS_eq h
    refine ⟨⟨.v (.tuple #[]), none⟩, nx, fun m2 hm2 fr' hag E A gs w a hS hdom next Q hn => ?_, hd, hk, .inl ⟨rfl, rfl⟩⟩
    rw [wan hag hS.top, hb, if_neg (by simp)]
    exact ⟨fun f _ => W.fn f, hn _ _ E (fun id h => .inl h) hS (.v _)⟩
  rcases hc with ⟨_, hb, h⟩ | ⟨_, hb, h⟩ | ⟨_, h⟩
  · exact exec hb h
  · exact skip hb h
  · split at h
    · split at h
      · obtain ⟨z, hg, h⟩ := dumK_ok h
        obtain ⟨hd, hk⟩ := putS_eq h.out
        refine ⟨⟨.cnd b z, none⟩, nx, fun m2 hm2 fr' hag E A gs w a hS hdom next Q hn => ?_, hd, hk, .inl ⟨rfl, rfl⟩⟩
        rw [wan hag hS.top]
        cases b with
        | true => exact (hg rfl).elim
        | false =>
          rw [if_neg (by simp)]
          exact ⟨fun f _ => W.fn f, hn _ _ E (fun id h => .inl h) hS (.cndF _)⟩
      have hsl := ops_congr (o := o) (restr_agree (slotsOf ops.toList o) fr)
      rw [← pop_congr hsl] at h
      have hnd := pop_noDefer h
      obtain ⟨p, z, h, hz⟩ := pop_ok2 hT h
      obtain ⟨hp, h⟩ := VC.under_ok h
      obtain ⟨hd, hk⟩ := putS_eq h
      refine ⟨⟨.cnd b z, none⟩, nx, fun m2 hm2 fr' hag E A gs w a hS hdom next Q hn => ?_, hd, hk, .inl ⟨rfl, rfl⟩⟩
      rw [wan hag hS.top]
      cases b with
      | true =>
        obtain ⟨y, h1, h2⟩ := hz m2 (hm2.congr hsl) _ _ _ _ _ w a hS.right (hS.top.restr hag) (hp rfl)
        rw [if_pos rfl]
        refine ⟨fun f _ => W.fn f, ?_⟩
        rw [Oper.semAt_eq _ _ _ hnd, h1]
        exact hn _ _ E (fun id h => .inl h) hS (.cndT h2)
      | false =>
        rw [if_neg (by simp)]
        exact ⟨fun f _ => W.fn f, hn _ _ E (fun id h => .inl h) hS (.cndF _)⟩
    · cases b with
      | true => exact exec rfl (h.1 rfl).out
      | false => exact skip rfl (h.2 rfl).out

inductive LChain (P : Program) (F : Fence) (n : Nat) (base : Nat) (w0 : Start) (stk : List Fr) (m : Mem) (ops : Array Oper) (sz : Nat) : Fr → Nat → List Oper → List LStep → Prop
  | nil {fr : Fr} {nx : Nat} : LChain P F n base w0 stk m ops sz fr nx [] []
  | cons {fr : Fr} {nx nx' : Nat} {o : Oper} {s : LStep} {l : List Oper} {ss : List LStep} (h : LFact P F n base w0 stk m ops o fr s) (hd : ∀ d, o.dst = some d → d < sz)
      (ha : (s.al = none ∧ nx' = nx) ∨ (∃ e, s.al = some (nx, e) ∧ nx' = nx + 1)) (hl : LChain P F n base w0 stk m ops sz (frPut o.dst s.x fr) nx' l ss) : LChain P F n base w0 stk m ops sz fr nx (o :: l) (s :: ss)
def frS (S : Nat → Bool) : Nat → List Oper → List LStep → Fr → Fr
  | i, o :: l, s :: ss, fr => frS S (i + 1) l ss (if S i then frPut o.dst s.x fr else fr)
  | _, _, _, fr => fr
def alS (S : Nat → Bool) : Nat → List LStep → Mem → Mem
  | i, s :: ss, A => alS S (i + 1) ss (if S i then s.mem ++ A else A)
  | _, [], A => A
def nxS : Nat → List LStep → Nat
  | nx, s :: ss => nxS (match s.al with | some _ => nx + 1 | none => nx) ss
  | nx, [] => nx
theorem lightsK_ok (W : Wide F) {T : Tys} (hT : TysOK P T) {D : Cds} (hD : CdsOK T D) {G : Gam} (hG : ConOK P G) (hfen : FenOK P F n) {ops : Array Oper} {sz : Nat} : ∀ {l : List Oper} {fr : Fr} {A0 : Mem} {nx : Nat} {K : List Oper → Mem → Fr → Nat → Prop} (i : Nat),
    lightsK T D G ops.toList sz m l fr A0 nx K → ∃ (ls : List Oper) (ss : List LStep) (tl : List Oper), l = ls ++ tl ∧ ls.length = ss.length ∧ LChain P F n base w0 stk m ops sz fr nx ls ss ∧ K tl (alS (fun _ => true) i ss A0) (frS (fun _ => true) i ls ss fr) (nxS nx ss)
  | [], fr, A0, nx, K, i, h => ⟨[], [], [], rfl, rfl, .nil, h⟩
  | o :: l, fr, A0, nx, K, i, h => by
    simp only [lightsK] at h
    split at h
    · obtain ⟨s, nx', h1, h2, h3, h4⟩ := lightK_ok (base := base) (w0 := w0) (stk := stk) W hT hD hG hfen h
      obtain ⟨ls, ss, tl, e1, e2, e3, e4⟩ := lightsK_ok W hT hD hG hfen (i + 1) h3
      refine ⟨o :: ls, s :: ss, tl, by rw [e1]; rfl, by simp [e2], .cons h1 h2 h4 e3, ?_⟩
      simp only [alS, frS, if_true, nxS]
      have : (match s.al with | some _ => nx + 1 | none => nx) = nx' := by
        rcases h4 with ⟨a, b⟩ | ⟨e, a, b⟩
        · rw [a, b]
        · rw [a, b]
      rw [this]
      exact e4
    · exact ⟨[], [], o :: l, rfl, rfl, .nil, h⟩

theorem getS_frPut (dst : Option Nat) (x : AV) {fr fr' : Fr} {t : Nat} (h : dst ≠ some t → getS fr t = getS fr' t) : getS (frPut dst x fr) t = getS (frPut dst x fr') t := by
  cases dst with
  | none => exact h (by simp)
  | some d =>
    simp only [frPut]
    rw [getS_cons, getS_cons]
    by_cases e : d = t
    · rw [if_pos e, if_pos e]
    · rw [if_neg e, if_neg e]; exact h (by simpa using e)
theorem getS_frPut_ne (dst : Option Nat) (x : AV) (fr : Fr) {t : Nat} (h : dst ≠ some t) : getS (frPut dst x fr) t = getS fr t := by
  cases dst with
  | none => rfl
  | some d => simp only [frPut]; rw [getS_cons, if_neg (by simpa using h)]
theorem frS_congr {S S' : Nat → Bool} {t : Nat} : ∀ (l : List Oper) (ss : List LStep) (i : Nat) (fr fr' : Fr), getS fr t = getS fr' t → (∀ j o, l[j]? = some o → o.dst = some t → S (i + j) = S' (i + j)) → getS (frS S i l ss fr) t = getS (frS S' i l ss fr') t
  | [], ss, i, fr, fr', h, _ => by cases ss <;> exact h
  | o :: l, [], i, fr, fr', h, _ => h
  | o :: l, s :: ss, i, fr, fr', h, hw => by
    simp only [frS]
    refine frS_congr l ss (i + 1) _ _ ?_ fun j o' hj hd => by
      have := hw (j + 1) o' (by simpa using hj) hd
      rwa [show i + 1 + j = i + (j + 1) by omega]
    by_cases hd : o.dst = some t
    · have := hw 0 o (by simp) hd
      simp only [Nat.add_zero] at this
      rw [this]
      by_cases hS : S' i = true
      · rw [if_pos hS, if_pos hS]; exact getS_frPut _ _ fun _ => h
      · rw [if_neg hS, if_neg hS]; exact h
    · have e1 : getS (if S i then frPut o.dst s.x fr else fr) t = getS fr t := by split; exact getS_frPut_ne _ _ _ hd; rfl
      have e2 : getS (if S' i then frPut o.dst s.x fr' else fr') t = getS fr' t := by split; exact getS_frPut_ne _ _ _ hd; rfl
      rw [e1, e2, h]
theorem LChain.at {ops : Array Oper} {sz : Nat} {fr : Fr} {nx : Nat} {l : List Oper} {ss : List LStep} (h : LChain P F n base w0 stk m ops sz fr nx l ss) : ∀ (k i : Nat) (o : Oper), l[k]? = some o → ∃ s, ss[k]? = some s ∧
    LFact P F n base w0 stk m ops o (frS (fun j => decide (j < i + k)) i l ss fr) s ∧ (∀ d, o.dst = some d → d < sz) ∧ ∀ t, o.dst = some t → getS (frS (fun j => decide (j < i + k + 1)) i l ss fr) t = s.x := by
  induction h with
  | nil => intro k i o hk; simp at hk
  | @cons fr nx nx' o' s l ss h hd ha hl ih =>
    intro k i o hk
    cases k with
    | zero =>
      simp at hk
      subst hk
      have none : ∀ (l : List Oper) (ss : List LStep) (i : Nat) (b : Nat) (fr : Fr), b ≤ i → frS (fun j => decide (j < b)) i l ss fr = fr := by
        intro l
        induction l with
        | nil => intro ss i b fr _; cases ss <;> rfl
        | cons o l ih =>
          intro ss i b fr hb
          cases ss with
          | nil => rfl
          | cons s ss =>
            simp only [frS]
            rw [if_neg (by simp; omega)]
            exact ih ss (i + 1) b fr (by omega)
      refine ⟨s, rfl, ?_, hd, fun t ht => ?_⟩
      · simp only [frS, Nat.add_zero]
        rw [if_neg (by simp), none _ _ _ _ _ (by omega)]
        exact h
      · simp only [frS, Nat.add_zero]
        rw [if_pos (by simp), none _ _ _ _ _ (by omega), ht]
        simp [frPut, getS_cons]
    | succ k =>
      obtain ⟨s', e1, e2, e3, e4⟩ := ih k (i + 1) o (by simpa using hk)
      refine ⟨s', by simpa using e1, ?_, e3, fun t ht => ?_⟩
      · simp only [frS]
        rw [if_pos (by simp <;> omega), show i + (k + 1) = i + 1 + k by omega]
        exact e2
      · simp only [frS]
        rw [if_pos (by simp <;> omega), show i + (k + 1) + 1 = i + 1 + k + 1 by omega]
        exact e4 t ht
end
end Go.SX
/- A verified symbolic executor for Go code in the model, drawn regions 4: whatever the order. -/
namespace Go.SX
open Go.RowKit

/-! ### What must come before what -/
def maskOf (after : List Edge) (acc : List Nat) (s : Nat) : Nat := match after with
  | [] => s
  | e :: l => maskOf l acc (if Region.binds .any e then s ||| 2 ^ e.on ||| acc.getD e.on 0 else s)
def masks : List Oper → List Nat → List Nat
  | [], acc => acc
  | o :: l, acc => masks l (acc ++ [maskOf o.after.toList acc 0])
theorem maskOf_bit {acc : List Nat} {k : Nat} : ∀ (l : List Edge) (s : Nat), (maskOf l acc s).testBit k = true → s.testBit k = true ∨ ∃ e ∈ l, Region.binds .any e = true ∧ (k = e.on ∨ (acc.getD e.on 0).testBit k = true)
  | [], s, h => .inl h
  | e :: l, s, h => by
    simp only [maskOf] at h
    rcases maskOf_bit l _ h with h | ⟨e', he, hb, hk⟩
    · split at h
      · rename_i hb
        rw [Nat.testBit_or, Nat.testBit_or] at h
        simp only [Bool.or_eq_true] at h
        rcases h with (h | h) | h
        · exact .inl h
        · rw [Nat.testBit_two_pow] at h
          exact .inr ⟨e, by simp, hb, .inl (by simpa using (of_decide_eq_true h).symm)⟩
        · exact .inr ⟨e, by simp, hb, .inr h⟩
      · exact .inl h
    · exact .inr ⟨e', by simp [he], hb, hk⟩
theorem masks_get : ∀ (l done : List Oper) (acc : List Nat), acc.length = done.length → (∀ i o, done[i]? = some o → acc.getD i 0 = maskOf o.after.toList (acc.take i) 0) →
    ∀ i o, (done ++ l)[i]? = some o → (masks l acc).getD i 0 = maskOf o.after.toList ((masks l acc).take i) 0
  | [], done, acc, hl, h, i, o, ho => by simp at ho; exact h i o ho
  | p :: l, done, acc, hl, h, i, o, ho => by
    simp only [masks]
    refine masks_get l (done ++ [p]) (acc ++ [maskOf p.after.toList acc 0]) (by simp [hl]) (fun j q hj => ?_) i o (by simpa using ho)
    by_cases hlt : j < done.length
    · rw [List.getElem?_append_left hlt] at hj
      have := h j q hj
      rw [List.take_append_of_le_length (by omega)]
      rw [← this]
      simp [List.getD, List.getElem?_append_left (show j < acc.length by omega)]
    · have hj2 : j = done.length := by
        rcases Nat.lt_or_ge j (done ++ [p]).length with h' | h'
        · simp at h'; omega
        · simp [List.getElem?_eq_none h'] at hj
      subst hj2
      simp at hj
      subst hj
      rw [← hl]
      simp
def Closed (all : List Oper) (S : Nat → Bool) : Prop := ∀ i o, all[i]? = some o → S i = true → ∀ e ∈ o.after.toList, Region.binds .any e = true → S e.on = true
theorem mask_closed {all : List Oper} {S : Nat → Bool} (hS : Closed all S) : ∀ (i : Nat) (o : Oper), all[i]? = some o → (∀ e ∈ o.after.toList, Region.binds .any e = true → S e.on = true) → ∀ k, ((masks all []).getD i 0).testBit k = true → S k = true := by
  intro i
  induction i using Nat.strongRecOn with
  | _ i ih =>
    intro o ho hp k hk
    rw [masks_get all [] [] rfl (fun i o h => by simp at h) i o ho] at hk
    rcases maskOf_bit _ _ hk with h | ⟨e, he, hb, h | h⟩
    · simp at h
    · rw [h]; exact hp e he hb
    · have hon := hp e he hb
      by_cases hlt : e.on < i
      · have hget : ((masks all []).take i).getD e.on 0 = (masks all []).getD e.on 0 := by simp [List.getD, hlt]
        rw [hget] at h
        have hlt2 : e.on < all.length := by
          have : i < all.length := by
            rcases Nat.lt_or_ge i all.length with h' | h'
            · exact h'
            · simp [List.getElem?_eq_none h'] at ho
          omega
        exact ih e.on hlt all[e.on] (by simp [hlt2]) (hS e.on all[e.on] (by simp [hlt2]) hon) k h
      · have : ((masks all []).take i).getD e.on 0 = 0 := by
          simp only [List.getD]
          rw [List.getElem?_eq_none (by simp; omega)]
          rfl
        rw [this] at h
        simp at h

def optIn (d : Option Nat) (l : List Nat) : Bool := match d with
  | none => false
  | some d => memNat l d
where memNat : List Nat → Nat → Bool
  | [], _ => false
  | a :: l, n => match Nat.beq a n with | true => true | false => memNat l n
theorem memNat_iff : ∀ (l : List Nat) (n : Nat), optIn.memNat l n = true ↔ n ∈ l
  | [], n => by simp [optIn.memNat]
  | a :: l, n => by
    simp only [optIn.memNat]
    cases h : Nat.beq a n with
    | true => obtain rfl := Nat.eq_of_beq_eq_true h; simp
    | false =>
      have : a ≠ n := fun e => by subst e; simp at h
      simp [memNat_iff l n, Ne.symm this]
theorem blt_iff {a b : Nat} : Nat.blt a b = true ↔ a < b := ⟨fun h => Nat.lt_of_succ_le (Nat.le_of_ble_eq_true h), fun h => Nat.ble_eq_true_of_le h⟩
def meet (all : List Oper) (a b : Oper) : Bool := optIn a.dst (slotsOf all b ++ b.dst.toList) || optIn b.dst (slotsOf all a)
def drawOK (all : List Oper) (k0 : Nat) : Bool :=
  (all.zipIdx.all fun q => q.1.after.toList.all fun e => !Region.binds .any e || Nat.blt e.on q.2) &&
  all.zipIdx.all fun q => all.zipIdx.all fun p => !Nat.blt p.2 q.2 || (Nat.blt q.2 k0 && !meet all p.1 q.1) || ((masks all []).getD q.2 0).testBit p.2
theorem drawOK_edge {all : List Oper} {k0 : Nat} (h : drawOK all k0 = true) {j : Nat} {o : Oper} (hj : all[j]? = some o) : ∀ e ∈ o.after.toList, Region.binds .any e = true → e.on < j := by
  simp only [drawOK, Bool.and_eq_true, List.all_eq_true] at h
  intro e he hb
  have hm : (o, j) ∈ all.zipIdx := List.mem_zipIdx_iff_getElem?.2 hj
  have := h.1 (o, j) hm e he
  simp only [hb, Bool.not_true, Bool.false_or] at this
  exact blt_iff.1 this
theorem drawOK_bit {all : List Oper} {k0 : Nat} (h : drawOK all k0 = true) {i j : Nat} {a b : Oper} (hi : all[i]? = some a) (hj : all[j]? = some b) (hij : i < j) (hc : k0 ≤ j ∨ meet all a b = true) : ((masks all []).getD j 0).testBit i = true := by
  simp only [drawOK, Bool.and_eq_true, List.all_eq_true] at h
  have hm : (b, j) ∈ all.zipIdx := List.mem_zipIdx_iff_getElem?.2 hj
  have hm2 : (a, i) ∈ all.zipIdx := List.mem_zipIdx_iff_getElem?.2 hi
  have := h.2 (b, j) hm (a, i) hm2
  simp only [Bool.or_eq_true, Bool.and_eq_true, Bool.not_eq_true'] at this
  rcases this with (h1 | ⟨h1, h2⟩) | h1
  · exfalso
    have : Nat.blt i j = true := blt_iff.2 hij
    rw [h1] at this; cases this
  · exfalso
    rcases hc with hc | hc
    · have : j < k0 := blt_iff.1 h1
      omega
    · rw [h2] at hc; cases hc
  · exact h1
end Go.SX
/- A verified symbolic executor for Go code in the model, drawn regions 5: a region that draws its order. -/
namespace Go.SX
open Go.RowKit

section
variable {P : Program} {F : Fence} {n : Nat} {base : Nat} {w0 : Start} {stk : List Fr} {m : Mem} {gs : List (Array Value)}
theorem SatM.perm {E : Env} {stk : List Fr} {gs : List (Array Value)} {m m' : Mem} {w : World} (h : SatM base w0 E stk gs m w) (hp : m.Perm m') : SatM base w0 E stk gs m' w :=
  ⟨h.below, h.hb, h.imm, h.keep, h.same, fun id e he => h.ents id e (hp.mem_iff.2 he), (hp.pairwise_iff (fun {_ _} ⟨a, b⟩ => ⟨Ne.symm a, fun c hc hd => b c hd hc⟩)).1 h.disj, h.len, h.stk⟩
theorem SatM.drew {E : Env} {stk : List Fr} {gs : List (Array Value)} {m : Mem} {w : World} (h : SatM base w0 E stk gs m w) (k : Nat) : SatM base w0 E stk gs m { w with drawn := k } :=
  h.goes (w' := { w with drawn := k }) ⟨rfl, rfl, rfl, Nat.le_refl _, fun _ _ => rfl⟩ rfl rfl rfl (fun _ h => h) (fun _ h => .inl h) h.imm
theorem alS_perm {S S' : Nat → Bool} {i : Nat} (hS : S i = false) (hS' : S' i = true) (hne : ∀ j, j ≠ i → S' j = S j) : ∀ (ss : List LStep) (k : Nat) (A A' : Mem), k ≤ i → A'.Perm A → ∀ s, ss[i - k]? = some s → (alS S' k ss A').Perm (s.mem ++ alS S k ss A) := by
  have same : ∀ (ss : List LStep) (k : Nat) (A A' : Mem), i < k → A'.Perm A → (alS S' k ss A').Perm (alS S k ss A) := by
    intro ss
    induction ss with
    | nil => intro k A A' _ h; exact h
    | cons s ss ih =>
      intro k A A' hk h
      simp only [alS]
      refine ih (k + 1) _ _ (by omega) ?_
      rw [hne k (by omega)]
      split
      · exact h.append_left _
      · exact h
  have front : ∀ (ss : List LStep) (k : Nat) (A B : Mem), (alS S k ss (B ++ A)).Perm (B ++ alS S k ss A) := by
    intro ss
    induction ss with
    | nil => intro k A B; exact List.Perm.refl _
    | cons s ss ih =>
      intro k A B
      simp only [alS]
      split
      · have e1 : (alS S (k + 1) ss (s.mem ++ (B ++ A))).Perm (s.mem ++ alS S (k + 1) ss (B ++ A)) := ih _ _ _
        have e2 : (alS S (k + 1) ss (s.mem ++ A)).Perm (s.mem ++ alS S (k + 1) ss A) := ih _ _ _
        have e3 : (alS S (k + 1) ss (B ++ A)).Perm (B ++ alS S (k + 1) ss A) := ih _ _ _
        refine e1.trans ((e3.append_left _).trans ?_)
        refine List.Perm.trans ?_ (e2.symm.append_left _)
        rw [← List.append_assoc, ← List.append_assoc]
        exact (List.perm_append_comm).append_right _
      · exact ih _ _ _
  intro ss
  induction ss with
  | nil => intro k A A' _ _ s hs; simp at hs
  | cons s0 ss ih =>
    intro k A A' hk h s hs
    simp only [alS]
    by_cases hki : k = i
    · subst hki
      simp at hs
      subst hs
      rw [if_pos hS', if_neg (by simp [hS])]
      exact (same ss (k + 1) (s0.mem ++ A) _ (by omega) (h.append_left _)).trans (front _ _ _ _)
    · rw [hne k hki]
      have hs' : ss[i - (k + 1)]? = some s := by
        rw [show i - k = (i - (k + 1)) + 1 by omega] at hs
        simpa using hs
      refine ih (k + 1) _ _ (by omega) ?_ s hs'
      split
      · exact h.append_left _
      · exact h
theorem alS_congr {S S' : Nat → Bool} : ∀ (ss : List LStep) (k : Nat) (A : Mem), (∀ j, k ≤ j → j < k + ss.length → S j = S' j) → alS S k ss A = alS S' k ss A
  | [], _, _, _ => rfl
  | s :: ss, k, A, h => by
    simp only [alS]
    rw [h k (by omega) (by simp)]
    exact alS_congr ss (k + 1) _ fun j h1 h2 => h j (by omega) (by simp; omega)
theorem LChain.ids {ops : Array Oper} {sz : Nat} {fr : Fr} {nx : Nat} {l : List Oper} {ss : List LStep} (h : LChain P F n base w0 stk m ops sz fr nx l ss) :
    (∀ (j : Nat) (s : LStep) (p : Nat × Ent), ss[j]? = some s → s.al = some p → nx ≤ p.1 ∧ p.1 < nxS nx ss) ∧ (∀ (i j : Nat) (s s' : LStep) (p p' : Nat × Ent), i < j → ss[i]? = some s → ss[j]? = some s' → s.al = some p → s'.al = some p' → p.1 < p'.1) ∧ nx ≤ nxS nx ss := by
  induction h with
  | nil => exact ⟨fun j s p h => by simp at h, fun i j s s' p p' _ h => by simp at h, Nat.le_refl _⟩
  | @cons fr nx nx' o s l ss h hd ha hl ih =>
    obtain ⟨i1, i2, i3⟩ := ih
    have hnx : nxS nx (s :: ss) = nxS nx' ss := by
      simp only [nxS]
      rcases ha with ⟨a, b⟩ | ⟨e, a, b⟩
      · rw [a, b]
      · rw [a, b]
    have hle : nx ≤ nx' := by rcases ha with ⟨_, b⟩ | ⟨_, _, b⟩ <;> omega
    rw [hnx]
    refine ⟨fun j q p hj hp => ?_, fun i j q q' p p' hij hi hj hp hp' => ?_, by omega⟩
    · cases j with
      | zero =>
        simp at hj
        subst hj
        rcases ha with ⟨a, b⟩ | ⟨e, a, b⟩
        · rw [a] at hp; cases hp
        · rw [a] at hp; cases hp; simp only; omega
      | succ j =>
        have := i1 j q p (by simpa using hj) hp
        omega
    · cases i with
      | zero =>
        simp at hi
        subst hi
        cases j with
        | zero => omega
        | succ j =>
          have := i1 j q' p' (by simpa using hj) hp'
          rcases ha with ⟨a, b⟩ | ⟨e, a, b⟩
          · rw [a] at hp; cases hp
          · rw [a] at hp; cases hp; simp only; omega
      | succ i =>
        cases j with
        | zero => omega
        | succ j => exact i2 i j q q' p p' (by omega) (by simpa using hi) (by simpa using hj) hp hp'
def cnt (S : Nat → Bool) : Nat → Nat
  | 0 => 0
  | k + 1 => cnt S k + if S k then 0 else 1
theorem cnt_set {S S' : Nat → Bool} {i : Nat} (hS : S i = false) (hS' : S' i = true) (hne : ∀ j, j ≠ i → S' j = S j) : ∀ k, i < k → cnt S' k + 1 = cnt S k
  | 0, h => by omega
  | k + 1, h => by
    simp only [cnt]
    by_cases hk : k = i
    · subst hk
      have : cnt S' k = cnt S k := by
        have : ∀ q, q ≤ k → cnt S' q = cnt S q := by
          intro q
          induction q with
          | zero => intro _; rfl
          | succ q ih => intro hq; simp only [cnt]; rw [ih (by omega), hne q (by omega)]
        exact this k (Nat.le_refl _)
      rw [this, hS, hS']
      simp
    · have := cnt_set hS hS' hne k (by omega)
      rw [hne k hk]
      omega
theorem cnt_pos {S : Nat → Bool} {i : Nat} (hS : S i = false) : ∀ k, i < k → 0 < cnt S k
  | 0, h => by omega
  | k + 1, h => by
    simp only [cnt]
    by_cases hk : k = i
    · subst hk; rw [hS]; simp
    · have := cnt_pos hS k (by omega); omega

variable {ops : Array Oper} {sz : Nat} {Q : Exit → Act → World → Prop}
def lst (l : Array Bool) (j : Nat) : Bool := l.getD j false
theorem lst_set {l : Array Bool} {i j : Nat} (hi : i < l.size) : lst (l.setIfInBounds i true) j = (lst l j || j == i) := by
  unfold lst
  by_cases h : i = j
  · subst h; simp [hi]
  · rw [getD_set_ne false h]
    have : (j == i) = false := by simpa using fun e => h e.symm
    rw [this, Bool.or_false]
theorem ready_iff {l : Array Bool} (hl : l.size = ops.size) {j : Nat} : j ∈ Region.ready .any ops l ↔ lst l j = false ∧ ∃ o, ops.toList[j]? = some o ∧ ∀ e ∈ o.after.toList, Region.binds .any e = true → lst l e.on = true := by
  rw [mem_ready]
  constructor
  · rintro ⟨h1, o, h2, h3⟩
    refine ⟨?_, o, by simpa using h2, fun e he hb => h3 e (by simpa using he) hb⟩
    unfold lst
    by_cases hj : j < l.size
    · simpa [hj] using h1
    · simp [hj]
  · rintro ⟨h1, o, h2, h3⟩
    refine ⟨?_, o, by simpa using h2, fun e he hb => h3 e (by simpa using he) hb⟩
    have hj : j < l.size := by
      rw [hl]
      rcases Nat.lt_or_ge j ops.size with h | h
      · exact h
      · simp [h] at h2
    unfold lst at h1
    simpa [hj] using h1
theorem wpOpIn_of {i : Nat} {o : Oper} (ho : ops[i]? = some o) {K : Act → World → Prop} {a : Act} {w : World}
    (h : if Region.wanted o (yielded ops a.tmps) then o.wpIn F n P a w K Q else (∀ f, o.about P w a.eval = some f → F.fn f) ∧ K (a.put o.dst undef) w) : wpOpIn F n P ops Q i K a w := by
  unfold wpOpIn
  simp only [ho]
  exact h
theorem tail_ok (W : Wide F) {T : Tys} (hT : TysOK P T) {D : Cds} (hD : CdsOK T D) {H : Handler} (hH : HOK P F n H) {k0 : Nat} (hchk : drawOK ops.toList k0 = true) {df : List Deferred} {K : KS} (hQ : ∀ a w, Post base w0 gs sz df K a w → Q .normal a w) :
    ∀ (l done : List Oper) (fr : Fr) (stk : List Fr) (m : Mem) (nx : Nat), done ++ l = ops.toList → k0 ≤ done.length → opsK T D H ops.toList sz l fr stk m nx K → ∀ (a : Act) (w : World), Now base w0 gs sz df fr stk m nx a w →
      ∀ (fuel : Nat) (listed : Array Bool), l.length ≤ fuel → listed.size = ops.size → (∀ j, j < ops.size → lst listed j = decide (j < done.length)) → wpAnyIn F n P .any ops Q fuel listed a w
  | [], done, fr, stk, m, nx, he, _, h, a, w, hN, fuel, listed, _, hsz, hl => by
    have hq : Q .normal a w := hQ _ _ ⟨fr, stk, m, nx, h, hN⟩
    have hr : Region.ready .any ops listed = [] := by
      apply List.eq_nil_iff_forall_not_mem.2
      intro j hj
      obtain ⟨h1, o, h2, _⟩ := (ready_iff hsz).1 hj
      have hlen : j < ops.size := by
        rcases Nat.lt_or_ge j ops.size with h | h
        · exact h
        · simp [h] at h2
      have hd : done.length = ops.size := by have := congrArg List.length he; simpa using this
      rw [hl j hlen] at h1
      simp at h1
      omega
    cases fuel with
    | zero => exact ⟨hr, hq⟩
    | succ fuel => exact ⟨fun _ => hq, fun i hi => by rw [hr] at hi; cases hi⟩
  | o :: l, done, fr, stk, m, nx, he, hk, h, a, w, hN, fuel, listed, hf, hsz, hl => by
    cases fuel with
    | zero => simp at hf
    | succ fuel =>
      have hlen : done.length < ops.size := by have := congrArg List.length he; simp at this; omega
      have hget : ops.toList[done.length]? = some o := by rw [← he]; simp
      have hclosed : Closed ops.toList (lst listed) := fun i o' hi hS e hee hb => by
        have hei := drawOK_edge hchk hi e hee hb
        have hin : i < ops.size := by
          rcases Nat.lt_or_ge i ops.size with h | h
          · exact h
          · simp [h] at hi
        rw [hl i hin] at hS
        rw [hl e.on (by omega)]
        simp at hS ⊢
        omega
      have hready : done.length ∈ Region.ready .any ops listed := (ready_iff hsz).2 ⟨by rw [hl _ hlen]; simp, o, hget, fun e hee hb => by
        have := drawOK_edge hchk hget e hee hb
        rw [hl e.on (by omega)]; simp; omega⟩
      refine ⟨fun h0 => (by rw [h0] at hready; cases hready), fun i hi => ?_⟩
      obtain ⟨h1, o', h2, h3⟩ := (ready_iff hsz).1 hi
      have hin : i < ops.size := by
        rcases Nat.lt_or_ge i ops.size with h | h
        · exact h
        · simp [h] at h2
      have hge : done.length ≤ i := by rw [hl i hin] at h1; simpa using h1
      have heq : i = done.length := by
        rcases Nat.lt_or_ge done.length i with hlt | hle
        · exfalso
          have hb := drawOK_bit hchk hget h2 hlt (.inl (by omega))
          have := mask_closed hclosed i o' h2 h3 _ hb
          rw [hl _ hlen] at this
          simp at this
        · omega
      subst heq
      have ho : ops[done.length]? = some o := by simpa using hget
      refine wpOpIn_of ho (stepK_ok W hT hD hH h hN fun a' w' hp => ?_)
      obtain ⟨fr', stk', m', nx', hk', hN'⟩ := hp
      refine tail_ok W hT hD hH hchk hQ l (done ++ [o]) fr' stk' m' nx' (by simpa using he) (by simp; omega) hk' a' w' hN' fuel _ (by simpa using hf) (by simpa using hsz) fun j hj => ?_
      rw [lst_set (by rw [hsz]; exact hlen), hl j hj, Bool.eq_iff_iff]
      simp only [Bool.or_eq_true, decide_eq_true_eq, beq_iff_eq, List.length_append, List.length_cons, List.length_nil]
      omega
end
end Go.SX
/- A verified symbolic executor for Go code in the model, drawn regions 7: two last stores, in either order. -/
namespace Go.SX
open Go.RowKit

def twoLast (k0 : Nat) (tl : List Oper) : Bool := match tl with
  | [a, b] => match a.op, b.op with
    | .store .., .store .. => !(b.after.toList.any fun e => Nat.beq e.on k0)
    | _, _ => false
  | _ => false
def drawOK2 (all : List Oper) (k0 : Nat) : Bool :=
  (all.zipIdx.all fun q => q.1.after.toList.all fun e => !Region.binds .any e || Nat.blt e.on q.2) &&
  all.zipIdx.all fun q => all.zipIdx.all fun p => !Nat.blt p.2 q.2 || (Nat.blt q.2 k0 && !meet all p.1 q.1) || !Nat.blt p.2 k0 || ((masks all []).getD q.2 0).testBit p.2
theorem drawOK2_edge {all : List Oper} {k0 : Nat} (h : drawOK2 all k0 = true) {j : Nat} {o : Oper} (hj : all[j]? = some o) : ∀ e ∈ o.after.toList, Region.binds .any e = true → e.on < j := by
  simp only [drawOK2, Bool.and_eq_true, List.all_eq_true] at h
  intro e he hb
  have hm : (o, j) ∈ all.zipIdx := List.mem_zipIdx_iff_getElem?.2 hj
  have := h.1 (o, j) hm e he
  simp only [hb, Bool.not_true, Bool.false_or] at this
  exact blt_iff.1 this
theorem drawOK2_bit {all : List Oper} {k0 : Nat} (h : drawOK2 all k0 = true) {i j : Nat} {a b : Oper} (hi : all[i]? = some a) (hj : all[j]? = some b) (hij : i < j) (hik : i < k0) (hc : k0 ≤ j ∨ meet all a b = true) : ((masks all []).getD j 0).testBit i = true := by
  simp only [drawOK2, Bool.and_eq_true, List.all_eq_true] at h
  have hm : (b, j) ∈ all.zipIdx := List.mem_zipIdx_iff_getElem?.2 hj
  have hm2 : (a, i) ∈ all.zipIdx := List.mem_zipIdx_iff_getElem?.2 hi
  have := h.2 (b, j) hm (a, i) hm2
  simp only [Bool.or_eq_true, Bool.and_eq_true, Bool.not_eq_true'] at this
  rcases this with ((h1 | ⟨h1, h2⟩) | h1) | h1
  · exfalso
    have : Nat.blt i j = true := blt_iff.2 hij
    rw [h1] at this; cases this
  · exfalso
    rcases hc with hc | hc
    · have : j < k0 := blt_iff.1 h1
      omega
    · rw [h2] at hc; cases hc
  · exfalso
    have : Nat.blt i k0 = true := blt_iff.2 hik
    rw [h1] at this; cases this
  · exact h1
section
variable {P : Program} {F : Fence} {n : Nat} {base : Nat} {w0 : Start} {gs : List (Array Value)} {ops : Array Oper} {sz : Nat} {Q : Exit → Act → World → Prop}
theorem all_done {listed : Array Bool} (hsz : listed.size = ops.size) (hall : ∀ j, j < ops.size → lst listed j = true) : Region.ready .any ops listed = [] := by
  apply List.eq_nil_iff_forall_not_mem.2
  intro j hj
  obtain ⟨h1, o, h2, _⟩ := (ready_iff hsz).1 hj
  have hlen : j < ops.size := by
    rcases Nat.lt_or_ge j ops.size with h | h
    · exact h
    · simp [h] at h2
  rw [hall j hlen] at h1; cases h1
theorem one_left (W : Wide F) {T : Tys} (hT : TysOK P T) {D : Cds} (hD : CdsOK T D) {H : Handler} (hH : HOK P F n H) {df : List Deferred} {K : KS} (hQ : ∀ a w, Post base w0 gs sz df K a w → Q .normal a w)
    (hedge : ∀ j o, ops.toList[j]? = some o → ∀ e ∈ o.after.toList, Region.binds .any e = true → e.on < j) {i : Nat} {o : Oper} (hi : ops.toList[i]? = some o) {fr : Fr} {stk : List Fr} {m : Mem} {nx : Nat} (h : opsK T D H ops.toList sz [o] fr stk m nx K)
    {a : Act} {w : World} (hN : Now base w0 gs sz df fr stk m nx a w) {fuel : Nat} {listed : Array Bool} (hsz : listed.size = ops.size) (hl : ∀ j, j < ops.size → lst listed j = !(j == i)) : wpAnyIn F n P .any ops Q (fuel + 1) listed a w := by
  have hin : i < ops.size := by
    rcases Nat.lt_or_ge i ops.size with h | h
    · exact h
    · simp [h] at hi
  have hready : i ∈ Region.ready .any ops listed := (ready_iff hsz).2 ⟨by rw [hl _ hin]; simp, o, hi, fun e hee hb => by
    have := hedge i o hi e hee hb
    rw [hl e.on (by omega)]; simp; omega⟩
  refine ⟨fun h0 => (by rw [h0] at hready; cases hready), fun j hj => ?_⟩
  obtain ⟨h1, o', h2, _⟩ := (ready_iff hsz).1 hj
  have hjn : j < ops.size := by
    rcases Nat.lt_or_ge j ops.size with h | h
    · exact h
    · simp [h] at h2
  have hji : j = i := by rw [hl j hjn] at h1; simpa using h1
  subst hji
  have ho : ops[j]? = some o := by simpa using hi
  refine wpOpIn_of ho (stepK_ok W hT hD hH h hN fun a' w' hp => ?_)
  obtain ⟨fr', stk', m', nx', hk', hN'⟩ := hp
  have hr := all_done (ops := ops) (listed := listed.setIfInBounds j true) (by simpa using hsz) fun q hq => by
    rw [lst_set (by rw [hsz]; exact hin), hl q hq]
    cases hqj : q == j <;> simp
  have hq : Q .normal a' w' := hQ _ _ ⟨fr', stk', m', nx', hk', hN'⟩
  cases fuel with
  | zero => exact ⟨hr, hq⟩
  | succ fuel => exact ⟨fun _ => hq, fun q hq => by rw [hr] at hq; cases hq⟩
theorem two_left (W : Wide F) {T : Tys} (hT : TysOK P T) {D : Cds} (hD : CdsOK T D) {H : Handler} (hH : HOK P F n H) {df : List Deferred} {K : KS} (hQ : ∀ a w, Post base w0 gs sz df K a w → Q .normal a w)
    (hedge : ∀ j o, ops.toList[j]? = some o → ∀ e ∈ o.after.toList, Region.binds .any e = true → e.on < j) {i : Nat} {o1 o2 : Oper} (h1 : ops.toList[i]? = some o1) (h2 : ops.toList[i + 1]? = some o2) {fr : Fr} {stk : List Fr} {m : Mem} {nx : Nat}
    (k1 : opsK T D H ops.toList sz [o1, o2] fr stk m nx K) (k2 : opsK T D H ops.toList sz [o2, o1] fr stk m nx K)
    {a : Act} {w : World} (hN : Now base w0 gs sz df fr stk m nx a w) {fuel : Nat} {listed : Array Bool} (hsz : listed.size = ops.size) (hn : ops.size = i + 2) (hl : ∀ j, j < ops.size → lst listed j = decide (j < i)) : wpAnyIn F n P .any ops Q (fuel + 2) listed a w := by
  have hready : i ∈ Region.ready .any ops listed := (ready_iff hsz).2 ⟨by rw [hl _ (by omega)]; simp, o1, h1, fun e hee hb => by
    have := hedge i o1 h1 e hee hb
    rw [hl e.on (by omega)]; simp; omega⟩
  refine ⟨fun h0 => (by rw [h0] at hready; cases hready), fun j hj => ?_⟩
  obtain ⟨g1, o', g2, _⟩ := (ready_iff hsz).1 hj
  have hjn : j < ops.size := by
    rcases Nat.lt_or_ge j ops.size with h | h
    · exact h
    · simp [h] at g2
  have hge : i ≤ j := by rw [hl j hjn] at g1; simpa using g1
  have hset : ∀ q, lst (listed.setIfInBounds j true) q = (lst listed q || q == j) := fun q => lst_set (by rw [hsz]; exact hjn)
  rcases Nat.lt_or_ge i j with hlt | hle
  · obtain rfl : j = i + 1 := by omega
    have ho : ops[i + 1]? = some o2 := by simpa using h2
    refine wpOpIn_of ho (stepK_ok W hT hD hH k2 hN fun a' w' hp => ?_)
    obtain ⟨fr', stk', m', nx', hk', hN'⟩ := hp
    refine one_left W hT hD hH hQ hedge h1 hk' hN' (by simpa using hsz) fun q hq => ?_
    rw [hset, hl q hq, Bool.eq_iff_iff]
    simp only [Bool.or_eq_true, decide_eq_true_eq, beq_iff_eq, Bool.not_eq_true', beq_eq_false_iff_ne]
    omega
  · obtain rfl : j = i := by omega
    have ho : ops[j]? = some o1 := by simpa using h1
    refine wpOpIn_of ho (stepK_ok W hT hD hH k1 hN fun a' w' hp => ?_)
    obtain ⟨fr', stk', m', nx', hk', hN'⟩ := hp
    refine one_left W hT hD hH hQ hedge h2 hk' hN' (by simpa using hsz) fun q hq => ?_
    rw [hset, hl q hq, Bool.eq_iff_iff]
    simp only [Bool.or_eq_true, decide_eq_true_eq, beq_iff_eq, Bool.not_eq_true', beq_eq_false_iff_ne]
    omega
end
end Go.SX
/- A verified symbolic executor for Go code in the model, drawn regions 6: the whole region. -/
namespace Go.SX
open Go.RowKit

theorem least (p : Nat → Prop) (h : ∃ k, p k) : ∃ k, p k ∧ ∀ j, p j → k ≤ j := by
  obtain ⟨k, hk⟩ := h
  induction k using Nat.strongRecOn with
  | _ k ih =>
    by_cases h : ∃ j, j < k ∧ p j
    · obtain ⟨j, h1, h2⟩ := h; exact ih j h1 h2
    · exact ⟨k, hk, fun j hj => Nat.le_of_not_lt fun hlt => h ⟨j, hlt, hj⟩⟩
def appMK : Mem → Mem → (Mem → Prop) → Prop
  | [], m, k => k m
  | p :: l, m, k => appMK l m fun m => k (p :: m)
theorem appMK_eq : ∀ (A m : Mem) (k : Mem → Prop), appMK A m k = k (A ++ m)
  | [], _, _ => rfl
  | p :: l, m, k => by simp only [appMK, appMK_eq l, List.cons_append]
def drawK (T : Tys) (D : Cds) (G : Gam) (H : Handler) (sz : Nat) (ops : List Oper) (fr : Fr) (stk : List Fr) (m : Mem) (nx : Nat) (K : KS) : Prop :=
  lightsK T D G ops sz m ops fr [] nx fun tl A fr nx => match twoLast (ops.length - tl.length) tl with
    | false => drawOK ops (ops.length - tl.length) = true ∧ Run (appMK A m fun m => opsK T D H ops sz tl fr stk m nx K)
    | true => drawOK2 ops (ops.length - tl.length) = true ∧ ∃ S : Sta, Run (appMK A m fun m => opsK T D H ops sz tl fr stk m nx fun fr stk m nx => Wk ⟨fr, stk, m, nx⟩ S) ∧
        Run (appMK A m fun m => opsK T D H ops sz tl.reverse fr stk m nx fun fr stk m nx => Wk ⟨fr, stk, m, nx⟩ S) ∧ Run (nfS S K)

section
variable {P : Program} {F : Fence} {n : Nat} {base : Nat} {w0 : Start} {stk : List Fr} {m : Mem} {gs : List (Array Value)} {ops : Array Oper} {sz : Nat} {Q : Exit → Act → World → Prop}
theorem FrR.congr {w : World} {E : Env} {fr fr' : Fr} {tm : Array Value} (h : FrR w E fr tm) (he : ∀ t, getS fr' t = getS fr t) : FrR w E fr' tm := fun t => by rw [he]; exact h t
theorem FrR.put' {w : World} {E : Env} {fr fr' : Fr} {tm : Array Value} (h : FrR w E fr tm) {d : Nat} (hd : d < tm.size) {v : Value} (he : ∀ t, t ≠ d → getS fr' t = getS fr t) (hx : Rel w E (getS fr' d) v) : FrR w E fr' (tm.setIfInBounds d v) := fun t => by
  by_cases e : t = d
  · subst e; simpa [hd] using hx
  · rw [he t e]
    have := h t
    simpa [Array.getElem?_setIfInBounds, Ne.symm e] using this
theorem frS_none {S : Nat → Bool} (h : ∀ j, S j = false) : ∀ (l : List Oper) (ss : List LStep) (i : Nat) (fr : Fr), frS S i l ss fr = fr
  | [], ss, _, _ => by cases ss <;> rfl
  | _ :: _, [], _, _ => rfl
  | o :: l, s :: ss, i, fr => by simp only [frS]; rw [if_neg (by simp [h])]; exact frS_none h l ss _ _
theorem alS_none {S : Nat → Bool} (h : ∀ j, S j = false) : ∀ (ss : List LStep) (i : Nat) (A : Mem), alS S i ss A = A
  | [], _, _ => rfl
  | s :: ss, i, A => by simp only [alS]; rw [if_neg (by simp [h])]; exact alS_none h ss _ _
theorem cnt_below {S : Nat → Bool} {d : Nat} : ∀ k, (∀ j, j < k → S j = decide (j < d)) → cnt S k = k - d
  | 0, _ => by simp [cnt]
  | k + 1, h => by
    simp only [cnt]
    rw [cnt_below k fun j hj => h j (by omega), h k (by omega)]
    by_cases hk : k < d
    · rw [if_pos (by simpa using hk)]; omega
    · rw [if_neg (by simpa using hk)]; omega

theorem light_ok (W : Wide F) {T : Tys} (hT : TysOK P T) {D : Cds} (hD : CdsOK T D) {H : Handler} (hH : HOK P F n H) {fr : Fr} {nx : Nat} {ls tl : List Oper} {ss : List LStep} {df : List Deferred}
    (he : ops.toList = ls ++ tl) (hlen : ls.length = ss.length) (hch : LChain P F n base w0 stk m ops sz fr nx ls ss) (hedge : ∀ j o, ops.toList[j]? = some o → ∀ e ∈ o.after.toList, Region.binds .any e = true → e.on < j)
    (hbit : ∀ i j a b, ops.toList[i]? = some a → ops.toList[j]? = some b → i < j → i < ls.length → (ls.length ≤ j ∨ meet ops.toList a b = true) → ((masks ops.toList []).getD j 0).testBit i = true)
    (hend : ∀ a w, Now base w0 gs sz df (frS (fun _ => true) 0 ls ss fr) stk (alS (fun _ => true) 0 ss [] ++ m) (nxS nx ss) a w → ∀ (fuel : Nat) (listed : Array Bool), tl.length ≤ fuel → listed.size = ops.size → (∀ j, j < ops.size → lst listed j = decide (j < ls.length)) → wpAnyIn F n P .any ops Q fuel listed a w) :
    ∀ (fuel : Nat) (listed : Array Bool) (a : Act) (w : World), listed.size = ops.size → Closed ops.toList (lst listed) → (∀ j, ls.length ≤ j → lst listed j = false) → cnt (lst listed) ops.size ≤ fuel →
      (∃ E : Env, (∀ id, E.dom id → id < nx ∨ ∃ j s e, lst listed j = true ∧ ss[j]? = some s ∧ s.al = some (id, e)) ∧ SatM base w0 E (frS (lst listed) 0 ls ss fr :: stk) (a.tmps :: gs) (alS (lst listed) 0 ss [] ++ m) w ∧ a.tmps.size = sz ∧ a.defers = df) →
      wpAnyIn F n P .any ops Q fuel listed a w := by
  have hsize : ops.size = ls.length + tl.length := by have := congrArg List.length he; simpa using this
  have hget : ∀ j o, ls[j]? = some o → ops.toList[j]? = some o := fun j o hj => by
    rw [he, List.getElem?_append_left]
    · exact hj
    · rcases Nat.lt_or_ge j ls.length with h | h
      · exact h
      · simp [h] at hj
  have hinj : ∀ (j : Nat) (o : Oper), ls[j]? = some o → j < ls.length := fun j o hj => by
    rcases Nat.lt_or_ge j ls.length with h | h
    · exact h
    · simp [h] at hj
  have fin : ∀ (fuel : Nat) (listed : Array Bool) (a : Act) (w : World), listed.size = ops.size → (∀ j, ls.length ≤ j → lst listed j = false) → cnt (lst listed) ops.size ≤ fuel →
      (∃ E : Env, (∀ id, E.dom id → id < nx ∨ ∃ j s e, lst listed j = true ∧ ss[j]? = some s ∧ s.al = some (id, e)) ∧ SatM base w0 E (frS (lst listed) 0 ls ss fr :: stk) (a.tmps :: gs) (alS (lst listed) 0 ss [] ++ m) w ∧ a.tmps.size = sz ∧ a.defers = df) →
      (∀ j, j < ls.length → lst listed j = true) → wpAnyIn F n P .any ops Q fuel listed a w := by
    intro fuel listed a w hsz htail hcnt hst hall
    obtain ⟨E, hdom, hS, hz, hd⟩ := hst
    have hl : ∀ j, j < ops.size → lst listed j = decide (j < ls.length) := fun j _ => by
      by_cases hj : j < ls.length
      · rw [hall j hj]; simp [hj]
      · rw [htail j (by omega)]; simp [hj]
    have hc := cnt_below ops.size hl
    obtain ⟨i1, i2, i3⟩ := hch.ids
    have hal : alS (lst listed) 0 ss [] = alS (fun _ => true) 0 ss [] := alS_congr ss 0 [] fun j _ h2 => hall j (by omega)
    have hfr : ∀ t, getS (frS (fun _ => true) 0 ls ss fr) t = getS (frS (lst listed) 0 ls ss fr) t := fun t => frS_congr ls ss 0 fr fr rfl fun j o hj _ => by rw [Nat.zero_add, hall j (hinj j o hj)]
    rw [hal] at hS
    refine hend a w ⟨E, fun id hid => ?_, hS.setTop (hS.top.congr hfr), hz, hd⟩ fuel listed (by omega) hsz hl
    rcases hdom id hid with h | ⟨j, s, e, _, h2, h3⟩
    · omega
    · exact (i1 j s _ h2 h3).2
  intro fuel
  induction fuel with
  | zero =>
    intro listed a w hsz hcl htail hcnt hst
    by_cases hall : ∀ j, j < ls.length → lst listed j = true
    · exact fin 0 listed a w hsz htail hcnt hst hall
    · exfalso
      simp only [Classical.not_forall] at hall
      obtain ⟨j, hj, hf⟩ := hall
      have := cnt_pos (S := lst listed) (by simpa using hf) ops.size (by omega)
      omega
  | succ fuel ih =>
    intro listed a w hsz hcl htail hcnt hst
    by_cases hall : ∀ j, j < ls.length → lst listed j = true
    · exact fin (fuel + 1) listed a w hsz htail hcnt hst hall
    · simp only [Classical.not_forall] at hall
      obtain ⟨j0, hj0, hf0⟩ := hall
      have hf0 : lst listed j0 = false := by simpa using hf0
      refine ⟨fun hr => ?_, fun i hi => ?_⟩
      · exfalso
        obtain ⟨k, ⟨hk1, hk2⟩, hmin⟩ := least (fun k => k < ls.length ∧ lst listed k = false) ⟨j0, hj0, hf0⟩
        have hok : ls[k]? = some ls[k] := by simp [hk1]
        have : k ∈ Region.ready .any ops listed := (ready_iff hsz).2 ⟨hk2, _, hget k _ hok, fun e hee hb => by
          have hlt := hedge _ _ (hget k _ hok) e hee hb
          cases hv : lst listed e.on with
          | true => rfl
          | false => have := hmin e.on ⟨by omega, hv⟩; omega⟩
        rw [hr] at this
        cases this
      · obtain ⟨h1, o, h2, h3⟩ := (ready_iff hsz).1 hi
        have hbits := mask_closed hcl i o h2 h3
        have hin : i < ops.size := by
          rcases Nat.lt_or_ge i ops.size with h | h
          · exact h
          · simp [h] at h2
        have hil : i < ls.length := by
          rcases Nat.lt_or_ge i ls.length with h | h
          · exact h
          · exfalso
            have hok : ls[j0]? = some ls[j0] := by simp [hj0]
            have := hbits j0 (hbit _ _ _ _ (hget j0 _ hok) h2 (by omega) hj0 (.inl h))
            rw [hf0] at this; cases this
        have hol : ls[i]? = some o := by
          rw [he, List.getElem?_append_left hil] at h2
          exact h2
        obtain ⟨s, hs, hfact, hdst, hval⟩ := hch.at i 0 o hol
        simp only [Nat.zero_add] at hfact hval
        -- what writes an operand's slot
        have later : ∀ j o', ls[j]? = some o' → i < j → meet ops.toList o o' = true → lst listed j = false := fun j o' hj hij hm => by
          cases hv : lst listed j with
          | false => rfl
          | true =>
            have hb := hbit _ _ _ _ h2 (hget j o' hj) hij hil (.inr hm)
            have := mask_closed hcl j o' (hget j o' hj) (fun e hee hbb => hcl j o' (hget j o' hj) hv e hee hbb) i hb
            rw [h1] at this; cases this
        have earlier : ∀ j o', ls[j]? = some o' → j < i → meet ops.toList o' o = true → lst listed j = true := fun j o' hj hij hm => hbits j (hbit _ _ _ _ (hget j o' hj) h2 hij (by omega) (.inr hm))
        obtain ⟨E, hdom, hS, hz, hd⟩ := hst
        have hag : ∀ t ∈ slotsOf ops.toList o, getS (frS (lst listed) 0 ls ss fr) t = getS (frS (fun j => decide (j < i)) 0 ls ss fr) t := fun t ht =>
          frS_congr ls ss 0 fr fr rfl fun j o' hj hdd => by
            rw [Nat.zero_add]
            rcases Nat.lt_trichotomy j i with h | h | h
            · rw [earlier j o' hj h (by simp only [meet, hdd, optIn, Bool.or_eq_true]; exact .inl ((memNat_iff _ _).2 (List.mem_append_left _ ht)))]
              simp [h]
            · subst h; rw [h1]; simp
            · rw [later j o' hj h (by simp only [meet, hdd, optIn, Bool.or_eq_true]; exact .inr ((memNat_iff _ _).2 ht))]
              simp; omega
        obtain ⟨i1, i2, i3⟩ := hch.ids
        have hnew : ∀ p, s.al = some p → ¬ E.dom p.1 := fun p hp hc => by
          rcases hdom _ hc with h | ⟨j, s', e, g1, g2, g3⟩
          · have := (i1 i s p hs hp).1; omega
          · rcases Nat.lt_trichotomy j i with h | h | h
            · have := i2 j i s' s _ _ h g2 hs g3 hp; simp at this
            · subst h; rw [h1] at g1; cases g1
            · have := i2 i j s s' _ _ h hs g2 hp g3; simp at this
        have ho : ops[i]? = some o := by simpa using h2
        refine wpOpIn_of ho (hfact m (.inl rfl) _ hag E (alS (lst listed) 0 ss []) gs w a hS hnew _ _ fun v w' E' hdom' hS' hx => ?_)
        have hset : ∀ j, lst (listed.setIfInBounds i true) j = (lst listed j || j == i) := fun j => lst_set (by rw [hsz]; exact hin)
        have hne : ∀ j, j ≠ i → lst (listed.setIfInBounds i true) j = lst listed j := fun j hj => by rw [hset]; simp [hj]
        have hi' : lst (listed.setIfInBounds i true) i = true := by rw [hset]; simp
        refine ih _ _ _ (by simpa using hsz) (fun q o' hq hv e hee hb => ?_) (fun j hj => by rw [hne j (by omega)]; exact htail j hj) ?_ ?_
        · rw [hset]
          by_cases hqi : q = i
          · subst hqi
            rw [h2] at hq
            cases hq
            rw [h3 e hee hb]; simp
          · rw [hne q hqi] at hv
            rw [hcl q o' hq hv e hee hb]; simp
        · have := cnt_set (S := lst listed) (S' := lst (listed.setIfInBounds i true)) h1 hi' hne ops.size hin
          omega
        · refine ⟨E', fun id hid => ?_, ?_, ?_, ?_⟩
          · rcases hdom' id hid with h | ⟨e, h⟩
            · rcases hdom id h with h | ⟨j, s', e, g1, g2, g3⟩
              · exact .inl h
              · exact .inr ⟨j, s', e, by rw [hset, g1]; simp, g2, g3⟩
            · exact .inr ⟨i, s, e, hi', hs, h⟩
          · have hperm := (alS_perm (S := lst listed) (S' := lst (listed.setIfInBounds i true)) h1 hi' hne ss 0 [] [] (Nat.zero_le _) (List.Perm.refl _) s (by simpa using hs)).append_right m
            rw [List.append_assoc] at hperm
            refine (SatM.setTop (hS'.perm hperm.symm) ?_)
            cases hod : o.dst with
            | none =>
              refine hS'.top.congr fun t => frS_congr ls ss 0 fr fr rfl fun j o' hj hdd => ?_
              rw [Nat.zero_add]
              exact hne j fun e => by subst e; rw [hol] at hj; cases hj; rw [hod] at hdd; cases hdd
            | some d =>
              refine FrR.put' hS'.top (by rw [hz]; exact hdst d hod) (fun t ht => frS_congr ls ss 0 fr fr rfl fun j o' hj hdd => ?_) ?_
              · rw [Nat.zero_add]
                exact hne j fun e => by subst e; rw [hol] at hj; cases hj; rw [hod] at hdd; cases hdd; exact ht rfl
              · have : getS (frS (lst (listed.setIfInBounds i true)) 0 ls ss fr) d = s.x := by
                  rw [← hval d hod]
                  refine frS_congr ls ss 0 fr fr rfl fun j o' hj hdd => ?_
                  rw [Nat.zero_add]
                  rcases Nat.lt_trichotomy j i with h | h | h
                  · rw [hne j (by omega), earlier j o' hj h (by simp only [meet, hdd, optIn, Bool.or_eq_true]; exact .inl ((memNat_iff _ _).2 (List.mem_append_right _ (by simp [hod]))))]
                    simp; omega
                  · subst h; rw [hi']; simp
                  · rw [hne j (by omega), later j o' hj h (by simp only [meet, hod, optIn, Bool.or_eq_true]; exact .inl ((memNat_iff _ _).2 (List.mem_append_right _ (by simp [hdd]))))]
                    simp; omega
                rw [this]
                exact hx
          · cases hod : o.dst <;> simp [Act.put, hz]
          · cases hod : o.dst <;> simp [Act.put, hd]
end
end Go.SX
/- A verified symbolic executor for Go code in the model, drawn regions 8: a first store that may come ahead of loads. -/
namespace Go.SX
open Go.RowKit

def updM (U : Mem → Mem) (t : Bool) (A : Mem) : Mem := if t then U A else A
section
variable {P : Program} {F : Fence} {n : Nat} {base : Nat} {w0 : Start} {stk : List Fr} {m : Mem} {gs : List (Array Value)} {ops : Array Oper} {sz : Nat} {Q : Exit → Act → World → Prop}
theorem lightE_ok (W : Wide F) {T : Tys} (hT : TysOK P T) {D : Cds} (hD : CdsOK T D) {H : Handler} (hH : HOK P F n H) {fr : Fr} {nx : Nat} {ls : List Oper} {o1 o2 : Oper} {ss : List LStep} {df : List Deferred} {K : KS}
    (he : ops.toList = ls ++ [o1, o2]) (hlen : ls.length = ss.length) (hch : LChain P F n base w0 stk m ops sz fr nx ls ss) (hedge : ∀ j o, ops.toList[j]? = some o → ∀ e ∈ o.after.toList, Region.binds .any e = true → e.on < j)
    (hbit : ∀ i j a b, ops.toList[i]? = some a → ops.toList[j]? = some b → i < j → (ls.length < j ∨ meet ops.toList a b = true) → ((masks ops.toList []).getD j 0).testBit i = true)
    {U : Mem → Mem} {V : Mem → Prop} (hU : ∀ A' A B : Mem, A'.Perm (B ++ A) → V A → ((B ++ U A).map (·.1)).Nodup → (U A').Perm (B ++ U A)) (hVm : ∀ A' A B : Mem, A'.Perm (B ++ A) → V A → V A') (hd1 : o1.dst = none)
    (hstore : ∀ (S : Nat → Bool) (E : Env) (w : World) (a : Act), (∀ t ∈ slotsOf ops.toList o1, getS (frS S 0 ls ss fr) t = getS (frS (fun _ => true) 0 ls ss fr) t) →
      (∀ id, E.dom id → id < nx ∨ ∃ j s e, S j = true ∧ ss[j]? = some s ∧ s.al = some (id, e)) → SatM base w0 E (frS S 0 ls ss fr :: stk) (a.tmps :: gs) (alS S 0 ss [] ++ m) w →
      ∀ (next : Act → World → Prop) (Q : Exit → Act → World → Prop), (∀ v w', V (alS S 0 ss []) → SatM base w0 E (frS S 0 ls ss fr :: stk) (a.tmps :: gs) (U (alS S 0 ss []) ++ m) w' → next (a.put o1.dst v) w') →
      if Region.wanted o1 (yielded ops a.tmps) then o1.wpIn F n P a w next Q else (∀ f, o1.about P w a.eval = some f → F.fn f) ∧ next (a.put o1.dst undef) w)
    (hk : opsK T D H ops.toList sz [o2] (frS (fun _ => true) 0 ls ss fr) stk (U (alS (fun _ => true) 0 ss []) ++ m) (nxS nx ss) K) (hQ : ∀ a w, Post base w0 gs sz df K a w → Q .normal a w) :
    ∀ (fuel : Nat) (listed : Array Bool) (a : Act) (w : World), listed.size = ops.size → Closed ops.toList (lst listed) → (∀ j, ls.length < j → lst listed j = false) → cnt (lst listed) ops.size ≤ fuel →
      (lst listed ls.length = true → V (alS (lst listed) 0 ss [])) → (∃ E : Env, (∀ id, E.dom id → id < nx ∨ ∃ j s e, lst listed j = true ∧ ss[j]? = some s ∧ s.al = some (id, e)) ∧ SatM base w0 E (frS (lst listed) 0 ls ss fr :: stk) (a.tmps :: gs) (updM U (lst listed ls.length) (alS (lst listed) 0 ss []) ++ m) w ∧ a.tmps.size = sz ∧ a.defers = df) → wpAnyIn F n P .any ops Q fuel listed a w := by
  have hsize : ops.size = ls.length + 2 := by have := congrArg List.length he; simpa using this
  have hget : ∀ j o, ls[j]? = some o → ops.toList[j]? = some o := fun j o hj => by
    rw [he, List.getElem?_append_left]
    · exact hj
    · rcases Nat.lt_or_ge j ls.length with h | h
      · exact h
      · simp [h] at hj
  have hinj : ∀ (j : Nat) (o : Oper), ls[j]? = some o → j < ls.length := fun j o hj => by
    rcases Nat.lt_or_ge j ls.length with h | h
    · exact h
    · simp [h] at hj
  have g1 : ops.toList[ls.length]? = some o1 := by rw [he]; simp
  have g2 : ops.toList[ls.length + 1]? = some o2 := by rw [he]; simp
  obtain ⟨i1, i2, i3⟩ := hch.ids
  intro fuel
  induction fuel with
  | zero =>
    intro listed a w hsz hcl htail hcnt hV hst
    exfalso
    have := cnt_pos (S := lst listed) (htail (ls.length + 1) (by omega)) ops.size (by omega)
    omega
  | succ fuel ih =>
    intro listed a w hsz hcl htail hcnt hV hst
    by_cases hall : ∀ j, j < ls.length + 1 → lst listed j = true
    · obtain ⟨E, hdom, hS, hz, hd⟩ := hst
      have hal : alS (lst listed) 0 ss [] = alS (fun _ => true) 0 ss [] := alS_congr ss 0 [] fun j _ h2 => hall j (by omega)
      have hfr : ∀ t, getS (frS (fun _ => true) 0 ls ss fr) t = getS (frS (lst listed) 0 ls ss fr) t := fun t => frS_congr ls ss 0 fr fr rfl fun j o hj _ => by rw [Nat.zero_add, hall j (by have := hinj j o hj; omega)]
      rw [hal, hall _ (Nat.lt_succ_self _)] at hS
      refine one_left W hT hD hH hQ hedge g2 hk ⟨E, fun id hid => ?_, hS.setTop (hS.top.congr hfr), hz, hd⟩ hsz fun j hj => ?_
      · rcases hdom id hid with h | ⟨j, s, e, _, h2, h3⟩
        · omega
        · exact (i1 j s _ h2 h3).2
      · by_cases hjj : j = ls.length + 1
        · rw [hjj, htail _ (by omega)]; simp
        · rw [hall j (by omega)]; simp [hjj]
    · simp only [Classical.not_forall] at hall
      obtain ⟨j0, hj0, hf0⟩ := hall
      have hf0 : lst listed j0 = false := by simpa using hf0
      have hgo : ∀ j, j < ls.length + 1 → ∃ o, ops.toList[j]? = some o := fun j hj => ⟨_, List.getElem?_eq_getElem (by simp; omega)⟩
      refine ⟨fun hr => ?_, fun i hi => ?_⟩
      · exfalso
        obtain ⟨k, ⟨hk1, hk2⟩, hmin⟩ := least (fun k => k < ls.length + 1 ∧ lst listed k = false) ⟨j0, hj0, hf0⟩
        obtain ⟨ok, hok⟩ := hgo k hk1
        have : k ∈ Region.ready .any ops listed := (ready_iff hsz).2 ⟨hk2, _, hok, fun e hee hb => by
          have hlt := hedge _ _ hok e hee hb
          cases hv : lst listed e.on with
          | true => rfl
          | false => have := hmin e.on ⟨by omega, hv⟩; omega⟩
        rw [hr] at this
        cases this
      obtain ⟨h1, o, h2, h3⟩ := (ready_iff hsz).1 hi
      have hbits := mask_closed hcl i o h2 h3
      have hin : i < ops.size := by
        rcases Nat.lt_or_ge i ops.size with h | h
        · exact h
        · simp [h] at h2
      have hile : i < ls.length + 1 := by
        rcases Nat.lt_or_ge i (ls.length + 1) with h | h
        · exact h
        · exfalso
          obtain ⟨oj, hoj⟩ := hgo j0 hj0
          have := hbits j0 (hbit _ _ _ _ hoj h2 (by omega) (.inl (by omega)))
          rw [hf0] at this; cases this
      by_cases hieq : i = ls.length
      · subst hieq
        rw [g1] at h2
        cases h2
        obtain ⟨E, hdom, hS, hz, hd⟩ := hst
        rw [h1] at hS
        have ho : ops[ls.length]? = some o1 := by simpa using g1
        have hset : ∀ j, lst (listed.setIfInBounds ls.length true) j = (lst listed j || j == ls.length) := fun j => lst_set (by rw [hsz]; exact hin)
        have hne : ∀ j, j ≠ ls.length → lst (listed.setIfInBounds ls.length true) j = lst listed j := fun j hj => by rw [hset]; simp [hj]
        have hi' : lst (listed.setIfInBounds ls.length true) ls.length = true := by rw [hset]; simp
        have hal : alS (lst (listed.setIfInBounds ls.length true)) 0 ss [] = alS (lst listed) 0 ss [] := alS_congr ss 0 [] fun j _ h2 => hne j (by omega)
        have hfr : ∀ t, getS (frS (lst (listed.setIfInBounds ls.length true)) 0 ls ss fr) t = getS (frS (lst listed) 0 ls ss fr) t := fun t => frS_congr ls ss 0 fr fr rfl fun j o hj _ => by
          rw [Nat.zero_add, hne j (by have := hinj j o hj; omega)]
        refine wpOpIn_of ho (hstore (lst listed) E w a (fun t ht => frS_congr ls ss 0 fr fr rfl fun j o' hj hdd => ?_) hdom hS _ _ fun v w' hv hS' => ?_)
        · rw [Nat.zero_add]
          exact hbits j (hbit _ _ _ _ (hget j o' hj) g1 (hinj j o' hj) (.inr (by simp only [meet, hdd, optIn, Bool.or_eq_true]; exact .inl ((memNat_iff _ _).2 (List.mem_append_left _ ht)))))
        · refine ih _ _ _ (by simpa using hsz) (fun q o' hq hv e hee hb => ?_) (fun j hj => by rw [hne j (by omega)]; exact htail j hj) ?_ (fun _ => by rw [hal]; exact hv) ?_
          · rw [hset]
            by_cases hqi : q = ls.length
            · subst hqi
              rw [g1] at hq
              cases hq
              rw [h3 e hee hb]; simp
            · rw [hne q hqi] at hv
              rw [hcl q o' hq hv e hee hb]; simp
          · have := cnt_set (S := lst listed) (S' := lst (listed.setIfInBounds ls.length true)) h1 hi' hne ops.size hin
            omega
          · refine ⟨E, fun id hid => ?_, ?_, ?_, ?_⟩
            · rcases hdom id hid with h | ⟨j, s', e, g1, g2, g3⟩
              · exact .inl h
              · exact .inr ⟨j, s', e, by rw [hset, g1]; simp, g2, g3⟩
            · rw [hal, hi']
              have := hS'.setTop (hS'.top.congr hfr)
              simpa [Act.put, hd1, updM] using this
            · simp [Act.put, hd1, hz]
            · simp [Act.put, hd1, hd]
      · have hil : i < ls.length := by omega
        have hol : ls[i]? = some o := by
          rw [he, List.getElem?_append_left hil] at h2
          exact h2
        obtain ⟨s, hs, hfact, hdst, hval⟩ := hch.at i 0 o hol
        simp only [Nat.zero_add] at hfact hval
        -- what writes an operand's slot
        have later : ∀ j o', ls[j]? = some o' → i < j → meet ops.toList o o' = true → lst listed j = false := fun j o' hj hij hm => by
          cases hv : lst listed j with
          | false => rfl
          | true =>
            have hb := hbit _ _ _ _ h2 (hget j o' hj) hij (.inr hm)
            have := mask_closed hcl j o' (hget j o' hj) (fun e hee hbb => hcl j o' (hget j o' hj) hv e hee hbb) i hb
            rw [h1] at this; cases this
        have earlier : ∀ j o', ls[j]? = some o' → j < i → meet ops.toList o' o = true → lst listed j = true := fun j o' hj hij hm => hbits j (hbit _ _ _ _ (hget j o' hj) h2 hij (.inr hm))
        obtain ⟨E, hdom, hS, hz, hd⟩ := hst
        have hag : ∀ t ∈ slotsOf ops.toList o, getS (frS (lst listed) 0 ls ss fr) t = getS (frS (fun j => decide (j < i)) 0 ls ss fr) t := fun t ht =>
          frS_congr ls ss 0 fr fr rfl fun j o' hj hdd => by
            rw [Nat.zero_add]
            rcases Nat.lt_trichotomy j i with h | h | h
            · rw [earlier j o' hj h (by simp only [meet, hdd, optIn, Bool.or_eq_true]; exact .inl ((memNat_iff _ _).2 (List.mem_append_left _ ht)))]
              simp [h]
            · subst h; rw [h1]; simp
            · rw [later j o' hj h (by simp only [meet, hdd, optIn, Bool.or_eq_true]; exact .inr ((memNat_iff _ _).2 ht))]
              simp; omega
        obtain ⟨i1, i2, i3⟩ := hch.ids
        have hnew : ∀ p, s.al = some p → ¬ E.dom p.1 := fun p hp hc => by
          rcases hdom _ hc with h | ⟨j, s', e, g1, g2, g3⟩
          · have := (i1 i s p hs hp).1; omega
          · rcases Nat.lt_trichotomy j i with h | h | h
            · have := i2 j i s' s _ _ h g2 hs g3 hp; simp at this
            · subst h; rw [h1] at g1; cases g1
            · have := i2 i j s s' _ _ h hs g2 hp g3; simp at this
        have ho : ops[i]? = some o := by simpa using h2
        refine wpOpIn_of ho (hfact m (.inl rfl) _ hag E (updM U (lst listed ls.length) (alS (lst listed) 0 ss [])) gs w a hS hnew _ _ fun v w' E' hdom' hS' hx => ?_)
        have hset : ∀ j, lst (listed.setIfInBounds i true) j = (lst listed j || j == i) := fun j => lst_set (by rw [hsz]; exact hin)
        have hne : ∀ j, j ≠ i → lst (listed.setIfInBounds i true) j = lst listed j := fun j hj => by rw [hset]; simp [hj]
        have hi' : lst (listed.setIfInBounds i true) i = true := by rw [hset]; simp
        refine ih _ _ _ (by simpa using hsz) (fun q o' hq hv e hee hb => ?_) (fun j hj => by rw [hne j (by omega)]; exact htail j hj) ?_ ?_ ?_
        · rw [hset]
          by_cases hqi : q = i
          · subst hqi
            rw [h2] at hq
            cases hq
            rw [h3 e hee hb]; simp
          · rw [hne q hqi] at hv
            rw [hcl q o' hq hv e hee hb]; simp
        · have := cnt_set (S := lst listed) (S' := lst (listed.setIfInBounds i true)) h1 hi' hne ops.size hin
          omega
        · intro ht
          rw [hne _ (by omega)] at ht
          exact hVm _ _ _ (alS_perm (S := lst listed) (S' := lst (listed.setIfInBounds i true)) h1 hi' hne ss 0 [] [] (Nat.zero_le _) (List.Perm.refl _) s (by simpa using hs)) (hV ht)
        · refine ⟨E', fun id hid => ?_, ?_, ?_, ?_⟩
          · rcases hdom' id hid with h | ⟨e, h⟩
            · rcases hdom id h with h | ⟨j, s', e, g1, g2, g3⟩
              · exact .inl h
              · exact .inr ⟨j, s', e, by rw [hset, g1]; simp, g2, g3⟩
            · exact .inr ⟨i, s, e, hi', hs, h⟩
          · have hperm := alS_perm (S := lst listed) (S' := lst (listed.setIfInBounds i true)) h1 hi' hne ss 0 [] [] (Nat.zero_le _) (List.Perm.refl _) s (by simpa using hs)
            have hk' : lst (listed.setIfInBounds i true) ls.length = lst listed ls.length := hne _ (by omega)
            have hup : (updM U (lst listed ls.length) (alS (lst (listed.setIfInBounds i true)) 0 ss [])).Perm (s.mem ++ updM U (lst listed ls.length) (alS (lst listed) 0 ss [])) := by
              cases ht : lst listed ls.length with
              | false => exact hperm
              | true => exact hU _ _ _ hperm (hV ht) (by
                  have hnd := hS'.nodup
                  rw [ht] at hnd
                  simp only [updM, if_true] at hnd
                  simpa only [updM, if_true, ← List.append_assoc, List.map_append] using (List.nodup_append.1 (by simpa only [← List.append_assoc, List.map_append] using hnd)).1)
            have hup := hup.append_right m
            rw [List.append_assoc] at hup
            rw [hk']
            refine (SatM.setTop (hS'.perm hup.symm) ?_)
            cases hod : o.dst with
            | none =>
              refine hS'.top.congr fun t => frS_congr ls ss 0 fr fr rfl fun j o' hj hdd => ?_
              rw [Nat.zero_add]
              exact hne j fun e => by subst e; rw [hol] at hj; cases hj; rw [hod] at hdd; cases hdd
            | some d =>
              refine FrR.put' hS'.top (by rw [hz]; exact hdst d hod) (fun t ht => frS_congr ls ss 0 fr fr rfl fun j o' hj hdd => ?_) ?_
              · rw [Nat.zero_add]
                exact hne j fun e => by subst e; rw [hol] at hj; cases hj; rw [hod] at hdd; cases hdd; exact ht rfl
              · have : getS (frS (lst (listed.setIfInBounds i true)) 0 ls ss fr) d = s.x := by
                  rw [← hval d hod]
                  refine frS_congr ls ss 0 fr fr rfl fun j o' hj hdd => ?_
                  rw [Nat.zero_add]
                  rcases Nat.lt_trichotomy j i with h | h | h
                  · rw [hne j (by omega), earlier j o' hj h (by simp only [meet, hdd, optIn, Bool.or_eq_true]; exact .inl ((memNat_iff _ _).2 (List.mem_append_right _ (by simp [hod]))))]
                    simp; omega
                  · subst h; rw [hi']; simp
                  · rw [hne j (by omega), later j o' hj h (by simp only [meet, hod, optIn, Bool.or_eq_true]; exact .inl ((memNat_iff _ _).2 (List.mem_append_right _ (by simp [hdd]))))]
                    simp; omega
                rw [this]
                exact hx
          · cases hod : o.dst <;> simp [Act.put, hz]
          · cases hod : o.dst <;> simp [Act.put, hd]
end
end Go.SX
