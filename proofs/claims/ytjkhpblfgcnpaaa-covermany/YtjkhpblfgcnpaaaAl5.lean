/- The abstract layer, part 5: stores, append, calls. -/
import Derived.Test.YtjkhpblfgcnpaaaAl4
import Derived.Laws.CopyRow
set_option linter.unusedVariables false
namespace Go.AL
variable {P : Program}

def cellOk : SV → Bool
  | .sc v => v.oneCell'
  | .slice _ _ _ => true
  | .ref _ => true
  | .ptr _ _ => true
  | .func _ _ _ => true
  | .slc _ _ _ _ _ => true
  | _ => false

def elemOk (x : SV) : Bool := x.cells.all cellOk

theorem oneCell_of {st : St} {σ : Sig} {w : World} {x : SV} {v : Value} (h : cellOk x = true) (r : Rep st σ w x v) : v.oneCell' = true := by
  cases r <;> first | rfl | exact h | cases h

theorem repL_one {st : St} {σ : Sig} {w : World} {l : List SV} {vs : Array Value} (h : l.all cellOk = true) (r : RepL st σ w l vs) : ∀ v ∈ vs.toList, v.oneCell' = true := by
  intro v hv
  obtain ⟨i, hi⟩ := List.getElem?_of_mem hv
  have hlt : i < vs.size := by have := lt_of_get hi; simpa using this
  have h1 := r.2 i (by rw [← r.1]; exact hlt)
  have h2 : vs.getD i default = v := by
    rw [Array.getElem?_toList] at hi
    rw [Array.getD_eq_getD_getElem?, hi]; rfl
  rw [h2] at h1
  refine oneCell_of (x := l.getD i .any) ?_ h1
  have hi' : i < l.length := by rw [← r.1]; exact hlt
  rw [List.all_eq_true] at h
  simp only [List.getD_eq_getElem?_getD, List.getElem?_eq_getElem hi', Option.getD_some]
  exact h _ (List.getElem_mem hi')

theorem put_none (a : Act) (v : Value) : a.put none v = a := rfl

theorem aop_skip {o : Oper} {K : SV → St → Prop} {env : List SV} {st : St} (hd : o.dst = none)
    (h : ∀ σ w (a : Act), Inv st σ w → RepEnv st σ w env a.tmps → ∃ w' st' σ', (execOp a.eval o).run P w = .ok .skip w' ∧ K .any st' ∧ Inv st' σ' w' ∧ Ext st σ w st' σ' w') :
    AOp P o K env st := by
  intro σ w a hI hR
  obtain ⟨w', st', σ', hrun, hk, hI', hX⟩ := h σ w a hI hR
  unfold Oper.wp
  rw [hrun]
  exact ⟨undef, .any, st', σ', rfl, hk, hI', .any _, hX⟩

theorem repL_row {st : St} {σ : Sig} {w : World} {l xs : List SV} {cs vs : Array Value} (off : Nat) (h1 : RepL st σ w l cs) (h2 : RepL st σ w xs vs) (h : off + xs.length ≤ l.length) :
    RepL st σ w (splice l off xs) (cs.toList.take off ++ vs.toList ++ cs.toList.drop (off + vs.toList.length)).toArray := by
  have e : (cs.toList.take off ++ vs.toList ++ cs.toList.drop (off + vs.toList.length)).toArray.size = cs.size := by simp [h1.1, h2.1]; omega
  refine ⟨by rw [e, length_splice _ _ _ h]; exact h1.1, fun i hi => ?_⟩
  rw [length_splice _ _ _ h] at hi
  rw [getD_splice _ _ _ h]
  rw [Array.getD_eq_getD_getElem?, List.getElem?_toArray, List.append_assoc]
  by_cases c1 : i < off
  · rw [if_neg (by omega), List.getElem?_append_left (by simp [h1.1]; omega), List.getElem?_take, if_pos c1, Array.getElem?_toList, ← Array.getD_eq_getD_getElem?]
    exact h1.2 i hi
  · rw [List.getElem?_append_right (by simp [h1.1]; omega)]
    simp only [List.length_take, Array.length_toList, h1.1, Nat.min_eq_left (show off ≤ l.length by omega)]
    by_cases c2 : i < off + xs.length
    · rw [if_pos (by omega), List.getElem?_append_left (by simp [h2.1]; omega), Array.getElem?_toList, ← Array.getD_eq_getD_getElem?]
      exact h2.2 _ (by omega)
    · rw [if_neg (by omega), List.getElem?_append_right (by simp [h2.1]; omega), List.getElem?_drop, Array.getElem?_toList, ← Array.getD_eq_getD_getElem?]
      simp only [Array.length_toList]
      rw [show off + vs.size + (i - off - vs.size) = i by have := h2.1; omega]
      exact h1.2 i hi

theorem aop_store {o : Oper} {t : TypeId} {x y : Operand} {id off n : Nat} {l : List SV} {K : SV → St → Prop} {env : List SV} {st : St}
    (ho : o.op = .store t x y) (hd : o.dst = none) (hx : ev env x = .ptr id off) (hl : st[id]? = some (.cells l)) (ht : aSize P t = some n) (hs : shapeOk (ev env y) = true)
    (hn : (ev env y).cells.length = n) (hok : elemOk (ev env y) = true) (hle : off + n ≤ l.length)
    (hk : K .any (st.set id (.cells (splice l off (ev env y).cells)))) : AOp P o K env st :=
  aop_skip hd fun σ w a hI hR => by
    have hr := rep_ev hR x
    rw [hx] at hr
    generalize hv : a.eval x = v at hr
    cases hr with
    | ptr id off b hkk hb =>
      obtain ⟨b', cs, T, h1, h2, h3, h4, h5⟩ := hI.cells id l hl
      rw [h1] at hb; cases hb
      have hy := rep_cells hs (rep_ev hR y)
      have hrow := repL_row off (cs := cs) ⟨h3, h4⟩ hy (by omega)
      have hst := run_storeCells_at (P := P) b off T (a.eval y).cells.toList 0 cs w h2 (by simp [hy.1, h3]; omega) (repL_one hok hy)
      simp only [Nat.add_zero] at hst
      have hoth : ∀ c, c ≠ b → (w.setRow b (cs.toList.take off ++ (a.eval y).cells.toList ++ cs.toList.drop (off + (a.eval y).cells.toList.length)).toArray).heap[c]? = w.heap[c]? :=
        fun c hc => setRow_other _ _ _ _ hc
      refine ⟨w.setRow b (cs.toList.take off ++ (a.eval y).cells.toList ++ cs.toList.drop (off + (a.eval y).cells.toList.length)).toArray, _, σ, ?_, hk, hI.write hl h1 h5 rfl rfl rfl (by simp) hoth (setRow_heap w b cs _ T _ h2) hrow.1 hrow.2, Ext.write hI hl h1 h5 rfl rfl rfl (by simp) hoth⟩
      have hne : (a.eval y).cells.size = n := by rw [hy.1, hn]
      simp [execOp, ho, hv, Instr.storeAt, Instr.sureAddr, storeVar, run_sizeOf' ht, hne]
      simp at hst
      simp [hst, hne]

/-! Calls. -/

def aBody (P : Program) (f : FuncId) : Bool := match P.funcs[f]? with
  | some fn => fn.body.isSome && !(fn.name == "runtime.NumGoroutine")
  | none => false

theorem run_callFunc {f : FuncId} (h : aBody P f = true) (args : Array Value) (w : World) : (callFunc f args).run P w = .ok (.enter f args) w := by
  unfold aBody at h
  cases hf : P.funcs[f]? with
  | none => simp [hf] at h
  | some fn =>
    simp only [hf, Bool.and_eq_true] at h
    obtain ⟨h1, h2⟩ := h
    have h3 : fn.body.isNone = false := by cases hb : fn.body <;> simp [hb] at h1 ⊢
    have h4 : (fn.name == "runtime.NumGoroutine") = false := by simpa using h2
    simp only [callFunc, Sem.run_bind, run_program, Result.andThen_ok, hf, h3, h4]
    simp

theorem aop_call {o : Oper} {c : Operand} {f : FuncId} {first captured : List SV} {args : Array Operand} {ts : Array TypeId} {K : SV → St → Prop} {env : List SV} {st : St}
    (ho : o.op = .call { callee := .value c, args := args, argTypes := ts }) (hc : ev env c = .func (.func f) first captured) (hb : aBody P f = true)
    (h : ACalls P f (first ++ args.toList.map (ev env) ++ captured) K st) : AOp P o K env st := by
  intro σ w a hI hR
  have hr := rep_ev hR c
  rw [hc] at hr
  generalize hv : a.eval c = v at hr
  cases hr with
  | func fn first captured vf vc h1 h2 r1 r2 =>
    have hrun : (execOp a.eval o).run P w = .ok (.enter f (vf ++ args.map a.eval ++ vc)) w := by
      simp [execOp, ho, resolve, hv, Deferred.ofValue, invoke, run_callFunc hb]
    unfold Oper.wp
    rw [hrun]
    refine (h σ w _ hI ⟨by simp [h1, h2], fun i hi => ?_⟩).mono ?_
    · simp only [List.length_append, List.length_map, Array.length_toList] at hi
      rw [Array.getD_eq_getD_getElem?, List.getD_eq_getElem?_getD]
      by_cases c1 : i < first.length
      · rw [List.append_assoc, List.getElem?_append_left c1, Array.append_assoc, Array.getElem?_append_left (by omega)]
        have := r1 i c1
        rw [Array.getD_eq_getD_getElem?, List.getD_eq_getElem?_getD] at this
        have hs : i < vf.size := by omega
        simpa [hs] using this
      · by_cases c2 : i < first.length + args.size
        · rw [List.append_assoc, List.getElem?_append_right (by omega), List.getElem?_append_left (by simp; omega), Array.append_assoc, Array.getElem?_append_right (by omega), Array.getElem?_append_left (by simp; omega)]
          have hlt : i - first.length < args.size := by omega
          have := rep_ev hR args[i - first.length]
          rw [h1]
          simpa [hlt] using this
        · rw [List.getElem?_append_right (by simp; omega), Array.getElem?_append_right (by simp; omega)]
          have := r2 (i - (first.length + args.size)) (by omega)
          rw [Array.getD_eq_getD_getElem?, List.getD_eq_getElem?_getD] at this
          have hs : i - (first.length + args.size) < vc.size := by omega
          simpa [h1, hs] using this
    · rintro e w' ⟨v, x, st', σ', rfl, hk, hI', hr', hX⟩
      exact ⟨v, x, st', σ', rfl, hk, hI', hr', hX⟩

end Go.AL
