/- The abstract layer, part 7: functions: their entry, their results, what is forgotten at their end. -/
import Derived.Test.YtjkhpblfgcnpaaaA1
set_option linter.unusedVariables false
namespace Go.AL
variable {P : Program}

/-- Of which objects a value speaks. -/
inductive Ids (n : Nat) : SV → Prop where
  | any : Ids n .any
  | sc (v : Value) : Ids n (.sc v)
  | slice (m : Mode) (z : Nat) (l : List SV) (hm : ∀ id ver, m = .own id ver → id < n) (h : ∀ i j, i < l.length → j < z → Ids n ((l.getD i .any).cells.getD j .any)) : Ids n (.slice m z l)
  | ref (l : List SV) (h : ∀ i, i < l.length → Ids n (l.getD i .any)) : Ids n (.ref l)
  | ptr (id off : Nat) (h : id < n) : Ids n (.ptr id off)
  | func (fn : Fn) (l k : List SV) (h : ∀ i, i < l.length → Ids n (l.getD i .any)) (h' : ∀ i, i < k.length → Ids n (k.getD i .any)) : Ids n (.func fn l k)
  | agg (l : List SV) (h : ∀ i, i < l.length → Ids n (l.getD i .any)) : Ids n (.agg l)
  | tuple (l : List SV) (h : ∀ i, i < l.length → Ids n (l.getD i .any)) : Ids n (.tuple l)
  | gd (g : Bool) (x : SV) (h : g = true → Ids n x) : Ids n (.gd g x)
  | slc (id z off len cap : Nat) (h : id < n) : Ids n (.slc id z off len cap)
  | mp (id : Nat) (h : id < n) : Ids n (.mp id)

theorem Rep.ids {st : St} {σ : Sig} {w : World} {x : SV} {v : Value} (h : Rep st σ w x v) : Ids st.length x := by
  induction h with
  | any v => exact .any
  | sc v => exact .sc v
  | nil m z hm =>
    refine .slice m z [] (fun id ver e => ?_) (fun i j hi => absurd hi (Nat.not_lt_zero _))
    subst e
    obtain ⟨v0, h1, _⟩ := hm
    exact lt_of_get h1
  | slice m z l a cap vals hcap hsp hz hc hr hm ih =>
    refine .slice m z l (fun id ver e => ?_) ih
    subst e
    obtain ⟨v0, h1, _⟩ := hm
    exact lt_of_get h1
  | ref cells b o vals hc hr ih => exact .ref cells ih
  | ptr id off b hk hb =>
    obtain ⟨l, hl⟩ := hk
    exact .ptr id off (lt_of_get hl)
  | func fn first captured vf vc h1 h2 _ _ i1 i2 => exact .func fn first captured i1 i2
  | agg l vs h _ ih => exact .agg l ih
  | tuple l vs h _ ih => exact .tuple l ih
  | gd g x v _ h' ih => exact .gd g x ih
  | slc id z off len cap b hk hb hc =>
    obtain ⟨l, hl⟩ := hk
    exact .slc id z off len cap (lt_of_get hl)
  | mp id b hk hb =>
    obtain ⟨l, hl⟩ := hk
    exact .mp id (lt_of_get hl)

/-- Of which objects an object speaks. -/
def ObIds (n : Nat) : Ob → Prop
  | .cells l => ∀ j, j < l.length → Ids n (l.getD j .any)
  | .map es => ∀ j, j < es.length → Ids n (es.getD j (.any, .any)).1 ∧ Ids n (es.getD j (.any, .any)).2
  | .tok _ => True

theorem Inv.obIds {st : St} {σ : Sig} {w : World} (hI : Inv st σ w) (id : Nat) (o : Ob) (h : st[id]? = some o) : ObIds st.length o := by
  cases o with
  | cells l =>
    obtain ⟨b, cs, T, _, _, _, h4, _⟩ := hI.cells id l h
    exact fun j hj => (h4 j hj).ids
  | map es =>
    obtain ⟨b, en, c, _, _, h4, _⟩ := hI.maps id es h
    exact fun j hj => ⟨(h4.2.1 j hj).1.ids, (h4.2.1 j hj).2.ids⟩
  | tok v => trivial

theorem Rep.drop {s1 ex : St} {σ : Sig} {w : World} {x : SV} {v : Value} (h : Rep (s1 ++ ex) σ w x v) : Ids s1.length x → Rep s1 σ w x v := by
  induction h with
  | any v => exact fun _ => .any v
  | sc v => exact fun _ => .sc v
  | nil m z hm =>
    intro hi
    refine .nil m z ?_
    cases hi with
    | slice m z l hm2 _ =>
      cases m with
      | imm => trivial
      | full => trivial
      | own id ver =>
        obtain ⟨v0, h1, h2⟩ := hm
        exact ⟨v0, by rw [List.getElem?_append_left (hm2 id ver rfl)] at h1; exact h1, h2⟩
  | slice m z l a cap vals hcap hsp hz hc hr hm ih =>
    intro hi
    cases hi with
    | slice m z l hm2 hel =>
      refine .slice m z l a cap vals hcap hsp hz hc (fun i j hi hj => ih i j hi hj (hel i j hi hj)) ?_
      cases m with
      | imm => trivial
      | full => exact hm
      | own id ver =>
        obtain ⟨v0, h1, h2, h3⟩ := hm
        exact ⟨v0, by rw [List.getElem?_append_left (hm2 id ver rfl)] at h1; exact h1, h2, h3⟩
  | ref cells b o vals hc hr ih =>
    intro hi
    cases hi with
    | ref l hel => exact .ref cells b o vals hc (fun j hj => ih j hj (hel j hj))
  | ptr id off b hk hb =>
    intro hi
    cases hi with
    | ptr id off h =>
      obtain ⟨l, hl⟩ := hk
      exact .ptr id off b ⟨l, by rw [List.getElem?_append_left h] at hl; exact hl⟩ hb
  | func fn first captured vf vc h1 h2 _ _ i1 i2 =>
    intro hi
    cases hi with
    | func fn l k a b => exact .func fn first captured vf vc h1 h2 (fun i hi => i1 i hi (a i hi)) (fun i hi => i2 i hi (b i hi))
  | agg l vs h _ ih =>
    intro hi
    cases hi with
    | agg l hel => exact .agg l vs h (fun i hi => ih i hi (hel i hi))
  | tuple l vs h _ ih =>
    intro hi
    cases hi with
    | tuple l hel => exact .tuple l vs h (fun i hi => ih i hi (hel i hi))
  | gd g x v _ h' ih =>
    intro hi
    cases hi with
    | gd g x hel => exact .gd g x v (fun e => ih e (hel e)) h'
  | slc id z off len cap b hk hb hc =>
    intro hi
    cases hi with
    | slc id z off len cap h =>
      obtain ⟨l, hl⟩ := hk
      exact .slc id z off len cap b ⟨l, by rw [List.getElem?_append_left h] at hl; exact hl⟩ hb hc
  | mp id b hk hb =>
    intro hi
    cases hi with
    | mp id h =>
      obtain ⟨l, hl⟩ := hk
      exact .mp id b ⟨l, by rw [List.getElem?_append_left h] at hl; exact hl⟩ hb

theorem Inv.drop {s1 ex : St} {σ : Sig} {w : World} (h : Inv (s1 ++ ex) σ w) (hc : ∀ (id : Nat) (o : Ob), s1[id]? = some o → ObIds s1.length o) : Inv s1 σ w where
  cells := fun id l hl => by
    have hlt := lt_of_get hl
    obtain ⟨b, cs, T, h1, h2, h3, h4, h5⟩ := h.cells id l (by rw [List.getElem?_append_left hlt]; exact hl)
    exact ⟨b, cs, T, h1, h2, h3, fun j hj => (h4 j hj).drop (hc id _ hl j hj), h5⟩
  tok := fun id v b hl hb => h.tok id v b (by rw [List.getElem?_append_left (lt_of_get hl)]; exact hl) hb
  inj := fun i j b hi hj h1 h2 => h.inj i j b (by simp; omega) (by simp; omega) h1 h2
  fresh := h.fresh
  maps := fun id l hl => by
    have hlt := lt_of_get hl
    obtain ⟨b, en, c, h1, h2, h3, h4⟩ := h.maps id l (by rw [List.getElem?_append_left hlt]; exact hl)
    exact ⟨b, en, c, h1, h2, ⟨h3.1, fun j hj => ⟨(h3.2.1 j hj).1.drop (hc id _ hl j hj).1, (h3.2.1 j hj).2.drop (hc id _ hl j hj).2⟩, h3.2.2⟩, h4⟩

theorem Ext.drop {s0 s1 ex : St} {σ σ' : Sig} {w w' : World} (h : Ext s0 σ w (s1 ++ ex) σ' w') (hl : s0.length ≤ s1.length) : Ext s0 σ w s1 σ' w' where
  os := h.os
  tape := h.tape
  output := h.output
  size := h.size
  lock := h.lock
  all := h.all
  kcells := fun id l hid => by
    obtain ⟨⟨l', h1⟩, h2⟩ := h.kcells id l hid
    have hlt : id < s1.length := Nat.lt_of_lt_of_le (lt_of_get hid) hl
    exact ⟨⟨l', by rw [List.getElem?_append_left hlt] at h1; exact h1⟩, h2⟩
  ktok := fun id v hid => by
    obtain ⟨v', h1, h2, h3⟩ := h.ktok id v hid
    have hlt : id < s1.length := Nat.lt_of_lt_of_le (lt_of_get hid) hl
    exact ⟨v', by rw [List.getElem?_append_left hlt] at h1; exact h1, h2, h3⟩
  kmaps := fun id l hid => by
    obtain ⟨⟨l', h1⟩, h2⟩ := h.kmaps id l hid
    have hlt : id < s1.length := Nat.lt_of_lt_of_le (lt_of_get hid) hl
    exact ⟨⟨l', by rw [List.getElem?_append_left hlt] at h1; exact h1⟩, h2⟩

/-! Results. -/

def aRes1 (P : Program) (env : List SV) (st : St) : ResultVar → Option SV
  | .tmp t => some (env.getD t .any)
  | .cell a T => match env.getD a .any with
    | .ptr id off => match st[id]? with
      | some (.cells l) => cellsOf P T (l.drop off)
      | _ => none
    | .ref l => cellsOf P T l
    | _ => none

def aResL (P : Program) (env : List SV) (st : St) : List ResultVar → Option (List SV)
  | [] => some []
  | r :: rs => (aRes1 P env st r).bind fun x => (aResL P env st rs).map (x :: ·)

def oneOf : List SV → SV
  | [x] => x
  | l => .tuple l

theorem run_res1 {st : St} {σ : Sig} {w : World} {env : List SV} {a : Array Value} (hI : Inv st σ w) (hR : RepEnv st σ w env a) {r : ResultVar} {x : SV} (h : aRes1 P env st r = some x) :
    ∃ v, (match r with | .tmp t => pure (a.getD t undef) | .cell p t => do loadVar t (← asAddr (a.getD p undef)) : Sem Value).run P w = .ok v w ∧ Rep st σ w x v := by
  cases r with
  | tmp t => injection h with h; subst h; exact ⟨_, rfl, hR.get t⟩
  | cell p T =>
    simp only [aRes1] at h
    have hr := hR.get p
    split at h
    · rename_i id off hp
      rw [hp] at hr
      generalize hv : a.getD p undef = v at hr
      split at h
      · rename_i l hl
        cases hr with
        | ptr id off b hkk hb =>
          obtain ⟨b', cs, T', h1, h2, h3, h4, h5⟩ := hI.cells id l hl
          rw [h1] at hb; cases hb
          obtain ⟨v, h6, h7⟩ := run_loadVar_cells (st := st) (σ := σ) (w := w) b off (fun j => cs.getD (off + j) default) h (fun j hj => by
            simp at hj
            have : off + j < cs.size := by omega
            simp [World.cell?, h2, Array.getD, this]) (fun j hj => by
            simp at hj
            have := h4 (off + j) (by omega)
            simpa [List.getD_eq_getElem?_getD] using this)
          exact ⟨v, by simp [hv, asAddr, h6], h7⟩
      · cases h
    · rename_i l hp
      rw [hp] at hr
      generalize hv : a.getD p undef = v at hr
      cases hr with
      | ref cells b o vals hc hr =>
        obtain ⟨v, h1, h2⟩ := run_loadVar_cells b o vals h (fun j hj => (hc j hj).1) hr
        exact ⟨v, by simp [hv, asAddr, h1], h2⟩
    · cases h

theorem run_resL {st : St} {σ : Sig} {w : World} {env : List SV} {a : Array Value} (hI : Inv st σ w) (hR : RepEnv st σ w env a) : ∀ (rs : List ResultVar) (l : List SV), aResL P env st rs = some l →
    ∃ vs : List Value, (rs.mapM (fun r => (match r with | .tmp t => pure (a.getD t undef) | .cell p t => do loadVar t (← asAddr (a.getD p undef)) : Sem Value))).run P w = .ok vs w ∧ vs.length = l.length ∧
      ∀ i, i < l.length → Rep st σ w (l.getD i .any) (vs.getD i default)
  | [], l, h => by injection h with h; subst h; exact ⟨[], rfl, rfl, fun i hi => absurd hi (Nat.not_lt_zero _)⟩
  | r :: rs, l, h => by
    simp only [aResL] at h
    cases hx : aRes1 P env st r with
    | none => simp [hx] at h
    | some x =>
      cases hl : aResL P env st rs with
      | none => simp [hx, hl] at h
      | some l' =>
        simp [hx, hl] at h
        subst h
        obtain ⟨v, h1, h2⟩ := run_res1 hI hR hx
        obtain ⟨vs, h3, h4, h5⟩ := run_resL hI hR rs l' hl
        refine ⟨v :: vs, ?_, by simp [h4], fun i hi => ?_⟩
        · simp only [List.mapM_cons, Sem.run_bind, h1, Result.andThen_ok, h3, Sem.run_pure]
        · cases i with
          | zero => exact h2
          | succ i => simpa using h5 i (by simpa using hi)

theorem run_results {st : St} {σ : Sig} {w : World} {env : List SV} {a : Array Value} {fn : Func} (hI : Inv st σ w) (hR : RepEnv st σ w env a) {l : List SV} (h : aResL P env st fn.results.toList = some l) :
    ∃ v, (results fn a).run P w = .ok v w ∧ Rep st σ w (oneOf l) v := by
  obtain ⟨vs, h1, h2, h3⟩ := run_resL (P := P) hI hR _ l h
  have h1' : (fn.results.mapM (fun r => (match r with | .tmp t => pure (a.getD t undef) | .cell p t => do loadVar t (← asAddr (a.getD p undef)) : Sem Value))).run P w = .ok vs.toArray w := by
    rw [Array.mapM_eq_mapM_toList]
    simp only [Sem.run_map, h1, Result.andThen_ok]
  have h4 : (results fn a).run P w = .ok (if h : vs.toArray.size = 1 then vs.toArray[0] else .tuple vs.toArray) w := by
    unfold results
    simp only [Sem.run_bind, Sem.run_pure]
    exact congrArg (fun r => Result.andThen r (fun a w' => Result.ok (if h : a.size = 1 then a[0] else Value.tuple a) w')) h1'
  refine ⟨_, h4, ?_⟩
  by_cases hc : ∃ x, l = [x]
  · obtain ⟨x, rfl⟩ := hc
    have hv : ∃ v, vs = [v] := by
      cases vs with
      | nil => simp at h2
      | cons v r => cases r with
        | nil => exact ⟨v, rfl⟩
        | cons _ _ => simp at h2
    obtain ⟨v, rfl⟩ := hv
    simpa [oneOf] using h3 0 (by simp)
  · have hne : ¬ vs.toArray.size = 1 := by
      intro e
      have e' : l.length = 1 := by rw [← h2]; simpa using e
      exact hc (List.length_eq_one_iff.1 e')
    rw [dif_neg hne]
    have ho : oneOf l = .tuple l := by
      unfold oneOf
      split
      · exact absurd ⟨_, rfl⟩ hc
      · rfl
    rw [ho]
    refine .tuple l _ (by simpa using h2) fun i hi => ?_
    have := h3 i hi
    simpa [Array.getD_eq_getD_getElem?, List.getD_eq_getElem?_getD] using this

/-- What a body must come to: the results stand in the frame. -/
def RetQ (P : Program) (fn : Func) (K : SV → St → Prop) : Exit → List SV → St → Prop := fun e env st =>
  (match e with | .normal => True | .ret => True | _ => False) ∧ ∃ l, aResL P env st fn.results.toList = some l ∧ K (oneOf l) st

theorem acalls_of {f : FuncId} {fn : Func} {c : Code} {args : List SV} {K : SV → St → Prop} {st : St} (hf : P.funcs[f]? = some fn) (hb : fn.body = some c)
    (h : AWp P c (RetQ P fn K) (args ++ List.replicate (fn.ntmps - args.length) .any) st) : ACalls P f args K st := by
  intro σ w vs hI hR
  refine calls_of_wp hf hb (wp_mono (h σ w { tmps := vs ++ Array.replicate (fn.ntmps - vs.size) undef, defers := [] } hI ⟨by simp [hR.1], fun i hi => ?_⟩ rfl) fun e a' w' hp => ?_)
  · rw [Array.getD_eq_getD_getElem?, List.getD_eq_getElem?_getD]
    by_cases c1 : i < args.length
    · rw [List.getElem?_append_left c1, Array.getElem?_append_left (by rw [hR.1]; exact c1)]
      have := hR.2 i c1
      rwa [Array.getD_eq_getD_getElem?, List.getD_eq_getElem?_getD] at this
    · rw [List.getElem?_append_right (by omega), List.getElem?_replicate]
      split <;> exact .any _
  · obtain ⟨hd, env', st', σ', ⟨he, l, hl, hk⟩, hI', hR', hX⟩ := hp
    obtain ⟨v, h1, h2⟩ := run_results (P := P) hI' hR' hl
    cases e <;> simp only at he <;> exact ⟨hd, v, h1, v, _, st', σ', rfl, hk, hI', h2, hX⟩

/-- What the call made is forgotten, but for what its result says. -/
theorem acalls_drop {f : FuncId} {args : List SV} {K : SV → St → Prop} {st : St}
    (h : ACalls P f args (fun x s => ∃ s1 ex, s = s1 ++ ex ∧ st.length ≤ s1.length ∧ (∀ (id : Nat) (o : Ob), s1[id]? = some o → ObIds s1.length o) ∧ Ids s1.length (norm x) ∧ K (norm x) s1) st) :
    ACalls P f args K st := by
  intro σ w vs hI hR
  refine (h σ w vs hI hR).mono ?_
  rintro e w' ⟨v, x, st', σ', rfl, ⟨s1, ex, rfl, hl, hc, hids, hk⟩, hI', hr, hX⟩
  exact ⟨v, norm x, s1, σ', rfl, hk, hI'.drop hc, hr.norm.drop hids, hX.drop hl⟩

/-- The same where nothing that was there has turned. -/
theorem acalls_pure {f : FuncId} {args : List SV} {K : SV → St → Prop} {st : St}
    (h : ACalls P f args (fun x s => ∃ ex, s = st ++ ex ∧ Ids st.length (norm x) ∧ K (norm x) st) st) : ACalls P f args K st := by
  intro σ w vs hI hR
  refine acalls_drop (h.mono ?_) σ w vs hI hR
  rintro x s ⟨ex, rfl, hids, hk⟩
  exact ⟨st, ex, rfl, Nat.le_refl _, hI.obIds, hids, hk⟩

end Go.AL
set_option linter.unusedVariables false
namespace Go.AL
variable {P : Program}

theorem ap_indexAddr_slc {o : Oper} {t e : TypeId} {x y : Operand} {k : IntKind} {i : Int} {id z off len cap : Nat} {ρ : Operand → SV} {st : St}
    (ho : o.op = .indexAddr t x y) (hx : ρ x = .slc id z off len cap) (hy : ρ y = .sc (.int k i)) (he : aElem P t = some e) (hz : aSize P e = some z)
    (h0 : 0 ≤ i) (hi : i < len) : APure P o ρ st (.ptr id (off + i.toNat * z)) := by
  intro σ w a hI hR
  have hr := hR x (by simp [ho, Op.operands])
  rw [hx] at hr
  have e2 := rep_sc (by have := hR y (by simp [ho, Op.operands]); rw [hy] at this; exact this)
  generalize hv : a.eval x = v at hr
  cases hr with
  | slc id z off len cap b hk hb hc =>
    exact ⟨_, by simp [execOp, ho, hv, e2, Instr.indexAt, asIntOf, run_underlying (und_slice he), h0, hi, run_sizeOf' hz, addr_add], .ptr id _ b hk hb⟩

theorem ap_len_slc {o : Oper} {t e : TypeId} {x : Operand} {id z off len cap : Nat} {ρ : Operand → SV} {st : St}
    (ho : o.op = .call { callee := .builtin .len, args := #[x], argTypes := #[t] }) (hx : ρ x = .slc id z off len cap) (he : aElem P t = some e) : APure P o ρ st (.sc (.int .i64 len)) := by
  intro σ w a hI hR
  have hr := hR x (by simp [ho, Op.operands, Call.operands])
  rw [hx] at hr
  generalize hv : a.eval x = v at hr
  cases hr with
  | slc id z off len cap b hk hb hc =>
    exact ⟨_, by simp [execOp, ho, resolve, invoke, builtin, hv, Builtin.len_, run_underlying (und_slice he), goInt], .sc _⟩

theorem ap_slice_slc {o : Oper} {t e : TypeId} {x : Operand} {lo hi : Option Operand} {nl nh : Int} {id z off len cap : Nat} {ρ : Operand → SV} {st : St}
    (ho : o.op = .slice t x lo hi none) (hx : ρ x = .slc id z off len cap) (he : aElem P t = some e) (hz : aSize P e = some z)
    (hl : bound ρ lo 0 = some nl) (hh : bound ρ hi len = some nh) (h0 : 0 ≤ nl) (h1 : nl ≤ nh) (h2 : nh ≤ cap) :
    APure P o ρ st (.slc id z (if cap = nl.toNat then off else off + nl.toNat * z) (nh.toNat - nl.toNat) (cap - nl.toNat)) := by
  intro σ w a hI hR
  have hr := hR x (by simp [ho, Op.operands])
  rw [hx] at hr
  generalize hv : a.eval x = v at hr
  cases hr with
  | slc id z off len cap b hk hb hc =>
    refine ⟨.slice (some (if cap = nl.toNat then ⟨b, off, none⟩ else (⟨b, off, none⟩ : Addr).add (nl.toNat * z))) (nh.toNat - nl.toNat) (cap - nl.toNat), ?_, ?_⟩
    · have eh : (match hi.map a.eval with | some v => Instr.sliceBound v cap .sliceAcap | none => pure len).run P w = .ok nh.toNat w := by
        cases hi with
        | none => simp [bound] at hh; subst hh; simp
        | some y => exact run_bound (P := P) (hR y (by simp [ho, Op.operands])) (y := y) (n := nh) (by simpa [bound] using hh) (by omega) _ h2 _
      have hb : (Instr.sliceBounds true len cap (lo.map a.eval) (hi.map a.eval) none).run P w = .ok (nl.toNat, nh.toNat, cap) w := by
        cases lo with
        | none => simp [bound] at hl; subst hl; cases hi <;> simp [Instr.sliceBounds] at eh ⊢ <;> simp [eh]
        | some y =>
          have el := run_bound (P := P) (hR y (by simp [ho, Op.operands])) (y := y) (n := nl) (by simpa [bound] using hl) h0 nh.toNat (by omega) .sliceB
          cases hi <;> simp [Instr.sliceBounds] at eh ⊢ <;> simp [eh, el]
      simp [execOp, ho, hv, Instr.sliceAt, Instr.slice, run_underlying (und_slice he), hb, run_sizeOf' hz]
      split <;> rfl
    · by_cases c : cap = nl.toNat
      · rw [if_pos c, if_pos c]; exact .slc id z off _ _ b hk hb (by omega)
      · rw [if_neg c, if_neg c, addr_add]; exact .slc id z _ _ _ b hk hb (by omega)

theorem flat_len {z : Nat} : ∀ (l : List SV), (∀ x ∈ l, x.cells.length = z) → (l.flatMap SV.cells).length = l.length * z
  | [], _ => by simp
  | x :: r, h => by
    rw [List.flatMap_cons, List.length_append, flat_len r (fun y hy => h y (by simp [hy])), h x (by simp), List.length_cons, Nat.add_mul, Nat.one_mul, Nat.add_comm]

theorem flat_get {z : Nat} : ∀ (l : List SV) (i j : Nat), (∀ x ∈ l, x.cells.length = z) → i < l.length → j < z → (l.flatMap SV.cells).getD (i * z + j) .any = (l.getD i .any).cells.getD j .any
  | [], i, j, _, hi, _ => absurd hi (Nat.not_lt_zero _)
  | x :: r, i, j, h, hi, hj => by
    have hx := h x (by simp)
    rw [List.flatMap_cons, List.getD_eq_getElem?_getD]
    cases i with
    | zero =>
      rw [Nat.zero_mul, Nat.zero_add, List.getElem?_append_left (by omega)]
      simp [List.getD_eq_getElem?_getD]
    | succ i =>
      have e : (i + 1) * z + j = x.cells.length + (i * z + j) := by rw [hx, Nat.add_mul, Nat.one_mul]; omega
      rw [e, List.getElem?_append_right (by omega), Nat.add_sub_cancel_left, ← List.getD_eq_getElem?_getD, flat_get r i j (fun y hy => h y (by simp [hy])) (by simpa using hi) hj]
      simp

/-- The first cells of a slice that is read. -/
theorem load_first {st : St} {σ : Sig} {w : World} {m : Mode} {z : Nat} {l : List SV} {a : Option Addr} {len cap : Nat} (h : Rep st σ w (.slice m z l) (.slice a len cap)) (n : Nat) (hn : n ≤ l.length) :
    (∃ cs : Array Value, (Builtin.firstCells z n (.slice a len cap)).run P w = .ok cs w ∧ RepL st σ w ((l.take n).flatMap SV.cells) cs) ∧ ∀ x ∈ l, x.cells.length = z := by
  obtain ⟨ad, cap', he, hcap⟩ := rep_slice_form h
  cases he
  have hsub := rep_sub h 0 n cap (Nat.zero_le _) hn (by omega) (Nat.le_refl _) .imm (.inl rfl)
  have hz : ∀ x ∈ l, x.cells.length = z := by
    intro x hx
    obtain ⟨_, _, _, _, h4⟩ := load_slice (P := P) h
    obtain ⟨i, hi⟩ := List.getElem?_of_mem hx
    have := h4 i (lt_of_get hi)
    rwa [List.getD_eq_getElem?_getD, hi] at this
  refine ⟨?_, hz⟩
  obtain ⟨cs, h1, h2, h3, h4⟩ := load_slice (P := P) hsub
  simp only [List.drop_zero, Nat.sub_zero] at h1 h2 h3 h4
  have hlen : (l.take n).length = n := by simp; omega
  rw [hlen] at h1 h2 h3
  have hz' : ∀ x ∈ l.take n, x.cells.length = z := fun x hx => hz x (List.mem_of_mem_take hx)
  refine ⟨cs, ?_, ?_, fun p hp => ?_⟩
  · have e : (Builtin.firstCells z n (.slice a l.length cap)) = (Builtin.firstCells z n (.slice (if cap = 0 then a else a.map (·.add (0 * z))) n cap)) := by
      have : (if cap = 0 then a else a.map (·.add (0 * z))) = a := by
        split
        · rfl
        · cases a <;> simp [Addr.add]
      rw [this]
      cases a <;> rfl
    rw [e]; exact h1
  · rw [h2, flat_len _ hz', hlen]
  · rw [flat_len _ hz', hlen] at hp
    have hz0 : 0 < z := by
      rcases Nat.eq_zero_or_pos z with h | h
      · subst h; simp at hp
      · exact h
    have hi : p / z < n := by rw [Nat.div_lt_iff_lt_mul hz0]; exact hp
    have hj : p % z < z := Nat.mod_lt _ hz0
    have := h3 (p / z) (p % z) hi hj
    rw [← flat_get (l.take n) (p / z) (p % z) hz' (by omega) hj] at this
    rwa [Nat.mul_comm (p / z) z, Nat.div_add_mod] at this

/-- The cells that an object's slice begins with. -/
theorem load_obj {st : St} {σ : Sig} {w : World} (hI : Inv st σ w) {id b : Nat} {l : List SV} (hl : st[id]? = some (.cells l)) (hb : σ.μ id = some b) (off n len cap z : Nat) (hn : off + n * z ≤ l.length) :
    ∃ cs : Array Value, (Builtin.firstCells z n (.slice (some ⟨b, off, none⟩) len cap)).run P w = .ok cs w ∧ RepL st σ w ((l.drop off).take (n * z)) cs := by
  obtain ⟨b', cs, T, h1, h2, h3, h4, h5⟩ := hI.cells id l hl
  rw [h1] at hb; cases hb
  have hrun := run_loadCells (P := P) (w := w) ⟨b, off, none⟩ (n * z) (fun p => cs.getD (off + p) default) (fun p hp => by
    rw [addr_add]
    have : off + p < cs.size := by omega
    simp [World.cell?, h2, Array.getD, this])
  refine ⟨_, by simpa [Builtin.firstCells] using hrun, by simp; omega, fun p hp => ?_⟩
  have hp' : p < n * z := by simp at hp; omega
  have := h4 (off + p) (by omega)
  simpa [Array.getD_eq_getD_getElem?, hp', List.getD_eq_getElem?_getD, List.getElem?_take] using this

/-- Storing a row of cells into an object. -/
theorem store_obj {st : St} {σ : Sig} {w : World} (hI : Inv st σ w) {id b : Nat} {l xs : List SV} {vs : Array Value} (hl : st[id]? = some (.cells l)) (hb : σ.μ id = some b) (off : Nat)
    (hx : RepL st σ w xs vs) (hok : xs.all cellOk = true) (hle : off + xs.length ≤ l.length) :
    ∃ w', (storeCells ⟨b, off, none⟩ vs.toList).run P w = .ok () w' ∧ Inv (st.set id (.cells (splice l off xs))) σ w' ∧ Ext st σ w (st.set id (.cells (splice l off xs))) σ w' := by
  obtain ⟨b', cs, T, h1, h2, h3, h4, h5⟩ := hI.cells id l hl
  rw [h1] at hb; cases hb
  have hrow := repL_row off (cs := cs) ⟨h3, h4⟩ hx hle
  have hst := run_storeCells_at (P := P) b off T vs.toList 0 cs w h2 (by simp [hx.1, h3]; omega) (repL_one hok hx)
  simp only [Nat.add_zero] at hst
  have hoth : ∀ c, c ≠ b → (w.setRow b (cs.toList.take off ++ vs.toList ++ cs.toList.drop (off + vs.toList.length)).toArray).heap[c]? = w.heap[c]? := fun c hc => setRow_other _ _ _ _ hc
  exact ⟨_, hst, hI.write hl h1 h5 rfl rfl rfl (by simp) hoth (setRow_heap w b cs _ T _ h2) hrow.1 hrow.2, Ext.write hI hl h1 h5 rfl rfl rfl (by simp) hoth⟩

/-- 'copy(dst, src)' into an object, from a slice that is read. -/
theorem aop_copy_slice {o : Oper} {t : TypeId} {ts : TypeId} {e : TypeId} {x y : Operand} {id z off len cap : Nat} {m : Mode} {ys l : List SV} {K : SV → St → Prop} {env : List SV} {st : St}
    (ho : o.op = .call { callee := .builtin .copy, args := #[x, y], argTypes := #[t, ts] }) (hx : ev env x = .slc id z off len cap) (hy : ev env y = .slice m z ys) (hl : st[id]? = some (.cells l))
    (he : aElem P t = some e) (hz : aSize P e = some z) (hle : off + (min ys.length len) * z ≤ l.length) (hok : ∀ s ∈ ys, elemOk s = true)
    (hk : K (.sc (.int .i64 (min ys.length len : Nat))) (st.set id (.cells (splice l off ((ys.take (min ys.length len)).flatMap SV.cells))))) : AOp P o K env st :=
  aop_value fun σ w a hI hR => by
    have r1 := rep_ev hR x
    rw [hx] at r1
    have r2 := rep_ev hR y
    rw [hy] at r2
    generalize hv : a.eval x = v at r1
    generalize hu : a.eval y = u at r2
    obtain ⟨ay, cy, rfl, hcy⟩ := rep_slice_form r2
    cases r1 with
    | slc id z off len cap b hkk hb hc =>
      obtain ⟨⟨cs, g1, g2⟩, g3⟩ := load_first (P := P) r2 (min ys.length len) (Nat.min_le_left _ _)
      have hlen : ((ys.take (min ys.length len)).flatMap SV.cells).length = (min ys.length len) * z := by
        rw [flat_len _ (fun s hs => g3 s (List.mem_of_mem_take hs)), List.length_take, Nat.min_eq_left (Nat.min_le_left _ _)]
      obtain ⟨w', k1, k2, k3⟩ := store_obj (P := P) hI hl hb off g2 (by
        rw [List.all_eq_true]
        intro s hs
        rw [List.mem_flatMap] at hs
        obtain ⟨q, hq, hs⟩ := hs
        have := hok q (List.mem_of_mem_take hq)
        unfold elemOk at this
        rw [List.all_eq_true] at this
        exact this s hs) (by rw [hlen]; exact hle)
      refine ⟨.int .i64 (min ys.length len : Nat), w', _, _, σ, ?_, hk, k2, .sc _, k3⟩
      have hm : Nat.min ys.length len = min ys.length len := rfl
      simp [execOp, ho, resolve, invoke, builtin, hv, hu, Builtin.copy_, run_underlying (und_slice he), Builtin.lenOf, run_sizeOf' hz, hm, g1, k1, goInt]

/-- 'copy(dst, src)' within objects. -/
theorem aop_copy_slc {o : Oper} {t : TypeId} {ts : TypeId} {e : TypeId} {x y : Operand} {id z off len cap id' off' len' cap' : Nat} {l l' : List SV} {K : SV → St → Prop} {env : List SV} {st : St}
    (ho : o.op = .call { callee := .builtin .copy, args := #[x, y], argTypes := #[t, ts] }) (hx : ev env x = .slc id z off len cap) (hy : ev env y = .slc id' z off' len' cap') (hl : st[id]? = some (.cells l))
    (hl' : st[id']? = some (.cells l')) (he : aElem P t = some e) (hz : aSize P e = some z) (hle : off + (min len' len) * z ≤ l.length) (hle' : off' + (min len' len) * z ≤ l'.length)
    (hok : ((l'.drop off').take ((min len' len) * z)).all cellOk = true)
    (hk : K (.sc (.int .i64 (min len' len : Nat))) (st.set id (.cells (splice l off ((l'.drop off').take ((min len' len) * z)))))) : AOp P o K env st :=
  aop_value fun σ w a hI hR => by
    have r1 := rep_ev hR x
    rw [hx] at r1
    have r2 := rep_ev hR y
    rw [hy] at r2
    generalize hv : a.eval x = v at r1
    generalize hu : a.eval y = u at r2
    cases r1 with
    | slc id z off len cap b hkk hb hc =>
      cases r2 with
      | slc id' z off' len' cap' b' hkk' hb' hc' =>
        obtain ⟨cs, g1, g2⟩ := load_obj (P := P) hI hl' hb' off' (min len' len) len' cap' z hle'
        obtain ⟨w', k1, k2, k3⟩ := store_obj (P := P) hI hl hb off g2 hok (by simp; omega)
        refine ⟨.int .i64 (min len' len : Nat), w', _, _, σ, ?_, hk, k2, .sc _, k3⟩
        have hm : Nat.min len' len = min len' len := rfl
        simp [execOp, ho, resolve, invoke, builtin, hv, hu, Builtin.copy_, run_underlying (und_slice he), Builtin.lenOf, run_sizeOf' hz, hm, g1, k1, goInt]


def zeroL (zs : List SV) : Nat → List SV
  | 0 => []
  | n + 1 => zs ++ zeroL zs n

theorem zeroL_len (zs : List SV) : ∀ n, (zeroL zs n).length = n * zs.length
  | 0 => by simp [zeroL]
  | n + 1 => by rw [zeroL, List.length_append, zeroL_len zs n, Nat.add_mul, Nat.one_mul, Nat.add_comm]

theorem zeroL_get (zs : List SV) (hz : 0 < zs.length) : ∀ (n p : Nat), p < n * zs.length → (zeroL zs n).getD p .any = zs.getD (p % zs.length) .any
  | 0, p, h => by omega
  | n + 1, p, h => by
    rw [zeroL, List.getD_eq_getElem?_getD]
    by_cases c : p < zs.length
    · rw [List.getElem?_append_left c, Nat.mod_eq_of_lt c, List.getD_eq_getElem?_getD]
    · have h2 : p - zs.length < n * zs.length := by rw [Nat.add_mul, Nat.one_mul] at h; omega
      rw [List.getElem?_append_right (Nat.not_lt.1 c), ← List.getD_eq_getElem?_getD, zeroL_get zs hz n _ h2]
      congr 1
      exact (Nat.mod_eq_sub_mod (Nat.not_lt.1 c)).symm

theorem repL_zero {st : St} {σ : Sig} {w : World} (v : Value) (n : Nat) : RepL st σ w (zeroL (v.cells.toList.map svOf) n) (Builtin.zeroCells v.cells n) := by
  refine ⟨by rw [size_zeroCells, zeroL_len]; simp, fun p hp => ?_⟩
  rw [zeroL_len] at hp
  have hz : 0 < (v.cells.toList.map svOf).length := by
    rcases Nat.eq_zero_or_pos (v.cells.toList.map svOf).length with h | h
    · rw [h] at hp; simp at hp
    · exact h
  rw [zeroL_get _ hz _ _ hp]
  have hz' : 0 < v.cells.size := by simpa using hz
  have hm : p % v.cells.size < v.cells.size := Nat.mod_lt _ hz'
  have hp' : p < n * v.cells.size := by simpa using hp
  have := (repL_svOf (st := st) (σ := σ) (w := w) v.cells).2 (p % v.cells.size) (by simpa using hm)
  simpa [Builtin.zeroCells, Array.getD_eq_getD_getElem?, hp', hm] using this

/-- 'clear(s)'. -/
theorem aop_clear {o : Oper} {t e : TypeId} {x : Operand} {id z off len cap : Nat} {l zs : List SV} {K : SV → St → Prop} {env : List SV} {st : St}
    (ho : o.op = .call { callee := .builtin .clear, args := #[x], argTypes := #[t] }) (hx : ev env x = .slc id z off len cap) (hl : st[id]? = some (.cells l))
    (he : aElem P t = some e) (hzs : aZero P e = some zs) (hle : off + len * zs.length ≤ l.length) (hok : zs.all cellOk = true)
    (hk : K .any (if len = 0 then st else st.set id (.cells (splice l off (zeroL zs len))))) : AOp P o K env st :=
  aop_value fun σ w a hI hR => by
    have r1 := rep_ev hR x
    rw [hx] at r1
    generalize hv : a.eval x = v at r1
    obtain ⟨i, zv, h1, h2, rfl⟩ := zero_of hzs
    cases r1 with
    | slc id z off len cap b hkk hb hc =>
      by_cases h0 : len = 0
      · subst h0
        rw [if_pos rfl] at hk
        exact ⟨.tuple #[], w, _, st, σ, by simp [execOp, ho, resolve, invoke, builtin, hv, Builtin.clear_, run_underlying (und_slice he)], hk, hI, .any _, Ext.refl _ _ _⟩
      · rw [if_neg h0] at hk
        obtain ⟨w', k1, k2, k3⟩ := store_obj (P := P) hI hl hb off (repL_zero (st := st) (σ := σ) (w := w) zv len) (by
          rw [List.all_eq_true] at hok ⊢
          intro s hs
          obtain ⟨p, hp⟩ := List.getElem?_of_mem hs
          have hlt := lt_of_get hp
          rw [zeroL_len] at hlt
          have hz : 0 < (zv.cells.toList.map svOf).length := by
            rcases Nat.eq_zero_or_pos (zv.cells.toList.map svOf).length with h | h
            · rw [h] at hlt; simp at hlt
            · exact h
          have h3 := zeroL_get _ hz _ _ hlt
          rw [List.getD_eq_getElem?_getD, hp] at h3
          simp only [Option.getD_some] at h3
          rw [h3, List.getD_eq_getElem?_getD, List.getElem?_eq_getElem (Nat.mod_lt _ hz)]
          exact hok _ (List.getElem_mem _)) (by rw [zeroL_len]; exact hle)
        refine ⟨.tuple #[], w', _, _, σ, ?_, hk, k2, .any _, k3⟩
        obtain ⟨n, rfl⟩ : ∃ n, len = n + 1 := ⟨len - 1, by omega⟩
        simp [execOp, ho, resolve, invoke, builtin, hv, Builtin.clear_, run_underlying (und_slice he), run_zero' h1 h2, k1]

/-- A slice that a function made, once nobody writes it any more. -/
def chunk (ag : Bool) (z : Nat) (l : List SV) (off i : Nat) : SV := if ag then .agg ((l.drop (off + i * z)).take z) else l.getD (off + i) .any
def chunks (ag : Bool) (z off len : Nat) (l : List SV) : List SV := (List.range len).map (chunk ag z l off)

theorem acalls_freeze {f : FuncId} {args : List SV} {K : SV → St → Prop} {st : St} (ag : Bool)
    (h : ACalls P f args (fun x s => ∃ ex id z off len cap l, x = .slc id z off len cap ∧ s = st ++ ex ∧ st.length ≤ id ∧ s[id]? = some (.cells l) ∧ off + len * z ≤ l.length ∧ (ag = false → z = 1) ∧
      (ag = false → ∀ y ∈ l, y.cells = [y]) ∧ (∀ y ∈ (l.drop off).take (len * z), Ids st.length y) ∧ K (.slice .imm z (chunks ag z off len l)) st) st) : ACalls P f args K st := by
  intro σ w vs hI hR
  refine (h σ w vs hI hR).mono ?_
  rintro e w' ⟨v, x, s, σ', rfl, ⟨ex, id, z, off, len, cap, l, rfl, rfl, hid, hl, hle, hz1, hag, hids, hk⟩, hI', hr, hX⟩
  cases hr with
  | slc id z off len cap b hkk hb hc =>
    obtain ⟨b', cs, T, h1, h2, h3, h4, h5⟩ := hI'.cells id l hl
    rw [h1] at hb; cases hb
    have hIst : Inv st σ' w' := hI'.drop hI.obIds
    have hXst : Ext st σ w st σ' w' := hX.drop (Nat.le_refl _)
    -- the block is locked
    have hnb : ∀ i, i < st.length → σ'.μ i ≠ some b := fun i hi hm => by
      have := hI'.inj i id b (by simp; omega) (lt_of_get hl) hm h1
      omega
    have hblt := lt_of_some h2
    have hX2 : Ext st σ' w' st (σ'.setLock b .all) w' := by
      refine ⟨rfl, rfl, rfl, Nat.le_refl _, fun c o v hlk hcl => ⟨?_, hcl⟩, fun c hcl hlk => ⟨?_, rfl⟩, fun _ l h => ⟨⟨l, h⟩, rfl⟩, fun i v h => ⟨v, h, Nat.le_refl _, fun _ => ⟨rfl, fun c hc => ⟨?_, rfl⟩⟩⟩, fun _ l h => ⟨⟨l, h⟩, rfl⟩⟩
      · simp only [Sig.setLock]
        split
        · trivial
        · exact hlk
      · have : c ≠ b := by rintro rfl; rw [h5] at hlk; cases hlk
        simp only [Sig.setLock, if_neg this]
      · have : c ≠ b := by rintro rfl; exact hnb i (lt_of_get h) hc
        simp only [Sig.setLock, if_neg this]
    have hI2 : Inv st (σ'.setLock b .all) w' := by
      refine ⟨fun i l hl => ?_, fun i v c h hc => ?_, hIst.inj, fun c hc => ?_, fun i l hl => ?_⟩
      · obtain ⟨c, cs, T, q1, q2, q3, q4, q5⟩ := hIst.cells i l hl
        have : c ≠ b := by rintro rfl; exact hnb i (lt_of_get hl) q1
        exact ⟨c, cs, T, q1, q2, q3, fun j hj => (q4 j hj).ext hX2, by simp only [Sig.setLock, if_neg this]; exact q5⟩
      · obtain ⟨q1, q2⟩ := hIst.tok i v c h hc
        have : c ≠ b := by rintro rfl; exact hnb i (lt_of_get h) hc
        exact ⟨q1, by simp only [Sig.setLock, if_neg this]; exact q2⟩
      · have : c ≠ b := by omega
        simp only [Sig.setLock, if_neg this]; exact hIst.fresh c hc
      · obtain ⟨c, en, cl, q1, q2, q3, q4⟩ := hIst.maps i l hl
        have : c ≠ b := by rintro rfl; exact hnb i (lt_of_get hl) q1
        exact ⟨c, en, cl, q1, q2, q3.ext hX2, by simp only [Sig.setLock, if_neg this]; exact q4⟩
    refine ⟨.slice (some ⟨b, off, none⟩) len cap, _, st, σ'.setLock b .all, rfl, hk, hI2, ?_, hXst.trans hX2⟩
    have hlen : (chunks ag z off len l).length = len := by simp [chunks]
    have hget : ∀ i, i < len → (chunks ag z off len l).getD i .any = chunk ag z l off i := fun i hi => by simp [chunks, List.getD_eq_getElem?_getD, hi]
    have hcells : ∀ i, i < len → (chunk ag z l off i).cells.length = z ∧ ∀ j, j < z → (chunk ag z l off i).cells.getD j .any = l.getD (off + i * z + j) .any := by
      intro i hi
      have hlt : off + (i + 1) * z ≤ l.length := by
        have : (i + 1) * z ≤ len * z := Nat.mul_le_mul_right z hi
        omega
      rw [Nat.add_mul, Nat.one_mul] at hlt
      unfold chunk
      cases ag with
      | true =>
        simp only [if_true, SV.cells]
        refine ⟨by simp; omega, fun j hj => ?_⟩
        simp [List.getD_eq_getElem?_getD, hj]
      | false =>
        have hz := hz1 rfl
        subst hz
        simp only [Bool.false_eq_true, if_false]
        have hmem : l.getD (off + i) .any ∈ l := by
          rw [List.getD_eq_getElem?_getD, List.getElem?_eq_getElem (by omega)]; exact List.getElem_mem _
        rw [hag rfl _ hmem]
        refine ⟨rfl, fun j hj => ?_⟩
        obtain rfl : j = 0 := by omega
        simp
    have key : Rep st (σ'.setLock b .all) w' (.slice .imm z (chunks ag z off len l)) (.slice (some ⟨b, off, none⟩) (chunks ag z off len l).length cap) := by
      refine .slice .imm z _ ⟨b, off, none⟩ cap (fun i j => cs.getD (off + i * z + j) default) (by omega) (fun _ => rfl) (fun i hi => ?_) (fun i j hi hj => ⟨?_, ?_⟩) (fun i j hi hj => ?_) trivial
      · rw [hlen] at hi; rw [hget i hi]; exact (hcells i hi).1
      · rw [hlen] at hi
        have hlt := idx_lt hi hj
        have hs : off + i * z + j < cs.size := by omega
        simp [World.cell?, h2, Array.getD, hs]
      · simp only [Sig.setLock, if_true]; trivial
      · rw [hlen] at hi
        have hlt := idx_lt hi hj
        rw [hget i hi, (hcells i hi).2 j hj]
        have hj' : off + i * z + j < l.length := by omega
        have h6 := h4 _ hj'
        have hmem : l.getD (off + i * z + j) .any ∈ l := by
          rw [List.getD_eq_getElem?_getD, List.getElem?_eq_getElem hj']; exact List.getElem_mem _
        have hmem' : l.getD (off + i * z + j) .any ∈ (l.drop off).take (len * z) := by
          refine List.mem_iff_getElem?.2 ⟨i * z + j, ?_⟩
          rw [List.getElem?_take, if_pos (by omega), List.getElem?_drop, ← Nat.add_assoc, List.getD_eq_getElem?_getD, List.getElem?_eq_getElem hj']
          rfl
        exact (h6.drop (hids _ hmem')).ext hX2
    rw [hlen] at key
    exact key


theorem aop_makeSlice {o : Oper} {t e : TypeId} {x y : Operand} {k k' : IntKind} {n m : Int} {z by' : Nat} {zs : List SV} {K : SV → St → Prop} {env : List SV} {st : St}
    (ho : o.op = .makeSlice t x y) (hx : ev env x = .sc (.int k n)) (hy : ev env y = .sc (.int k' m)) (he : aElem P t = some e) (hz : aSize P e = some z) (hzs : aZero P e = some zs) (hzl : zs.length = z)
    (hby : aBytes P e = some by') (h0 : 0 ≤ n) (h1 : n ≤ m) (h2 : m ≤ 4611686018427387904) (hb : m.toNat * by' ≤ 281474976710656)
    (hk : K (.slc st.length z 0 n.toNat m.toNat) (st ++ [.cells (zeroL zs m.toNat)])) : AOp P o K env st :=
  aop_value fun σ w a hI hR => by
    have e1 := rep_sc (by have := rep_ev hR x; rw [hx] at this; exact this)
    have e2 := rep_sc (by have := rep_ev hR y; rw [hy] at this; exact this)
    obtain ⟨i, v, hi, hv, rfl⟩ := zero_of hzs
    have hvz : v.cells.size = z := by simpa using hzl
    obtain ⟨σ', g1, g2, g3⟩ := new_ob hI _ _ e (repL_zero (st := st) (σ := σ) (w := w) v m.toNat)
    refine ⟨.slice (some ⟨w.heap.size, 0, none⟩) n.toNat m.toNat, _, _, _, σ', ?_, hk, g1, ?_, g2⟩
    · have hbi : i.bytes = by' := bytes_of hby hi
      have w1 : IntKind.i64.wrap n = n := by rw [IntKind.wrap_i64]; omega
      have w2 : IntKind.i64.wrap m = m := by rw [IntKind.wrap_i64]; omega
      have t1 : ¬ ((i.bytes : Int) * m > 281474976710656) := by
        rw [hbi]
        obtain ⟨q, rfl⟩ := Int.eq_ofNat_of_zero_le (show 0 ≤ m by omega)
        have : q * by' ≤ 281474976710656 := by simpa using hb
        have h3 : (by' : Int) * (q : Int) = ((q * by' : Nat) : Int) := by rw [Nat.mul_comm]; simp
        rw [h3]
        omega
      have c1 : ¬ m < 0 := by omega
      have c2 : ¬ n < 0 := by omega
      have c3 : ¬ m < n := by omega
      have c4 : ¬ (281474976710656 < (i.bytes : Int) * m) := t1
      have harr : ∀ zz : Array Value, (zz = if m.toNat * z = 0 then #[] else v.cells) → (Array.range (m.toNat * z)).map (fun j => zz[j % zz.size]!) = Builtin.zeroCells v.cells m.toNat := by
        intro zz hzz
        unfold Builtin.zeroCells
        rw [hvz]
        by_cases q : m.toNat * z = 0
        · rw [q]; simp
        · rw [hzz, if_neg q, hvz]
      simp [execOp, ho, e1, e2, Instr.makeSlice, run_underlying (und_slice he), asInt, asIntOf, run_typeInfo' hi, w1, w2, c1, c2, c3, c4, run_sizeOf' hz]
      by_cases q : m.toNat * z = 0
      · have h3 := harr #[] (by rw [if_pos q])
        simp [q] at h3 ⊢
        rw [← h3]
        simp [newRow]
      · have h3 := harr v.cells (by rw [if_neg q])
        simp [q, run_zero' hi hv]
        rw [h3]
        simp [newRow]
    · have : ∀ {sv : SV} {u : Value}, Rep (st ++ [.cells (zeroL (v.cells.toList.map svOf) m.toNat)]) σ' { w with heap := w.heap.push (.cells (Builtin.zeroCells v.cells m.toNat) e) } sv u → sv = .ptr st.length 0 → u = .pointer (some ⟨w.heap.size, 0, none⟩) →
          Rep (st ++ [.cells (zeroL (v.cells.toList.map svOf) m.toNat)]) σ' { w with heap := w.heap.push (.cells (Builtin.zeroCells v.cells m.toNat) e) } (.slc st.length z 0 n.toNat m.toNat) (.slice (some ⟨w.heap.size, 0, none⟩) n.toNat m.toNat) := by
        intro sv u hr hs hu
        subst hs
        cases hr with
        | ptr id off b hkk hb => cases hu; exact .slc _ _ _ _ _ _ hkk hb (by omega)
      exact this g3 rfl rfl

/-- An append to an empty slice, into memory that may be written. -/
theorem aop_append_ob {o : Oper} {t e tx ex : TypeId} {z z0 by' : Nat} {m : Mode} {x y : Operand} {xs zs : List SV} {K : SV → St → Prop} {env : List SV} {st : St}
    (ho : o.op = .call { callee := .builtin .append, args := #[x, y], argTypes := #[t, tx] }) (hx : ev env x = .slice .full z0 []) (hy : ev env y = .slice m z xs) (hne : xs ≠ [])
    (he : aElem P t = some e) (hxe : aElem P tx = some ex) (hz : aSize P e = some z) (hzs : aZero P e = some zs) (hzl : zs.length = z) (hby : aBytes P e = some by')
    (hb : (2 * xs.length + 192) * by' ≤ 281474976710656) (hn : xs.length < 4611686018427387904)
    (hk : ∀ cap, xs.length ≤ cap → K (.slc st.length z 0 xs.length cap) (st ++ [.cells (xs.flatMap SV.cells ++ zeroL zs (cap - xs.length))])) : AOp P o K env st :=
  aop_value fun σ w a hI hR => by
    have r1 := rep_ev hR x
    rw [hx] at r1
    have r2 := rep_ev hR y
    rw [hy] at r2
    generalize hv : a.eval x = v at r1
    generalize hu : a.eval y = u at r2
    have r1' := rep_nil_z (z' := z) r1 (.inl rfl)
    obtain ⟨ad, cap, rfl, hcap⟩ := rep_slice_form r1'
    obtain ⟨ax, cx, rfl, hcx⟩ := rep_slice_form r2
    have hcl : cap = 0 := by
      cases r1' with
      | nil m z hm => rfl
      | slice m z l a cap vals hcap hsp hzz hc hr hm => exact hm
    subst hcl
    have hpos : 0 < xs.length := List.length_pos_iff.2 hne
    obtain ⟨i, v, hi, hzv, rfl⟩ := zero_of hzs
    have hvz : v.cells.size = z := by simpa using hzl
    have hd : Ext st σ w st σ { w with drawn := w.drawn + 1 } := Ext.drew _
    obtain ⟨old, o1, o2, _⟩ := load_slice (P := P) (r1'.ext hd)
    obtain ⟨⟨new, n1, n2⟩, n3⟩ := load_first (P := P) (r2.ext hd) xs.length (Nat.le_refl _)
    rw [List.take_length] at n2
    have ho0 : old = #[] := by
      have : old.size = 0 := by simpa using o2
      exact Array.eq_empty_of_size_eq_zero this
    subst ho0
    obtain ⟨newCap, g1, g2⟩ := run_append_grows (w := w) (ty := o.type) he hxe hz hi hzv o1 n1 (by simpa using hpos) (Nat.le_refl _) (by rw [bytes_of hby hi]; simpa using hb) (by simpa using hn)
    simp only [List.length_nil, Nat.zero_add, Array.empty_append] at g1 g2
    have hId := hI.drew (w.drawn + 1)
    have hrl : RepL st σ { w with drawn := w.drawn + 1 } (xs.flatMap SV.cells ++ zeroL (v.cells.toList.map svOf) (newCap - xs.length)) (new ++ Builtin.zeroCells v.cells (newCap - xs.length)) := by
      have hz0 := repL_zero (st := st) (σ := σ) (w := { w with drawn := w.drawn + 1 }) v (newCap - xs.length)
      refine ⟨by rw [Array.size_append, List.length_append, n2.1, hz0.1], fun p hp => ?_⟩
      rw [List.length_append] at hp
      rw [Array.getD_eq_getD_getElem?, List.getD_eq_getElem?_getD]
      by_cases c : p < (xs.flatMap SV.cells).length
      · rw [List.getElem?_append_left c, Array.getElem?_append_left (by rw [n2.1]; exact c), ← Array.getD_eq_getD_getElem?, ← List.getD_eq_getElem?_getD]
        exact n2.2 p c
      · rw [List.getElem?_append_right (Nat.not_lt.1 c), Array.getElem?_append_right (by rw [n2.1]; exact Nat.not_lt.1 c), ← Array.getD_eq_getD_getElem?, ← List.getD_eq_getElem?_getD, n2.1]
        exact hz0.2 _ (by omega)
    obtain ⟨σ', k1, k2, k3⟩ := new_ob hId _ _ e hrl
    refine ⟨.slice (some ⟨w.heap.size, 0, none⟩) xs.length newCap, _, _, _, σ', ?_, hk newCap g1, k1, ?_, hd.trans k2⟩
    · simp only [execOp, ho, resolve, invoke, builtin]
      simp [hv, hu, g2]
      try rfl
    · generalize hsv : SV.ptr st.length 0 = sv at k3
      generalize huu : Value.pointer (some ⟨({ w with drawn := w.drawn + 1 } : World).heap.size, 0, none⟩) = uu at k3
      cases k3 with
      | ptr id off b hkk hb => cases hsv; cases huu; exact .slc _ _ _ _ _ _ hkk hb g1
      | _ => cases hsv

end Go.AL
namespace Go.AL
open Go

variable {P : Program}

def nilConst : Operand → Bool
  | .const (.slice none 0 0) => true
  | .const (.pointer none) => true
  | _ => false

/-- Is the underlying type a pointer type? -/
def aIsPtr (P : Program) (t : TypeId) : Bool := match P.underlying t with | some (.pointer _) => true | _ => false

def nilV (op : BinOp) : SV → SV
  | .slice _ _ _ => .sc (.bool (op matches .neq))
  | .slc _ _ _ _ _ => .sc (.bool (op matches .neq))
  | .ref _ => .sc (.bool (op matches .neq))
  | .ptr _ _ => .sc (.bool (op matches .neq))
  | .sc (.pointer none) => .sc (.bool (op matches .eql))
  | _ => .any

def nilOk (P : Program) (op : BinOp) (t : TypeId) (y : Operand) (x : SV) : Prop :=
  (op = .eql ∨ op = .neq) ∧ match x with
  | .slice _ _ l => y = .const (.slice none 0 0) ∧ l ≠ [] ∧ (aElem P t).isSome = true
  | .slc _ _ _ _ _ => y = .const (.slice none 0 0) ∧ (aElem P t).isSome = true
  | .ref _ => y = .const (.pointer none) ∧ aIsPtr P t = true
  | .ptr _ _ => y = .const (.pointer none) ∧ aIsPtr P t = true
  | .sc (.pointer none) => y = .const (.pointer none) ∧ aIsPtr P t = true
  | _ => False

theorem und_ptr' {t : TypeId} (h : aIsPtr P t = true) : ∃ e, P.underlying t = some (.pointer e) := by
  unfold aIsPtr at h
  split at h
  · rename_i e he; exact ⟨e, he⟩
  · cases h

theorem run_equalIn_slice (w : World) (d : Nat) {t e : TypeId} {a : Addr} {n c : Nat} (h : P.underlying t = some (.slice e)) : (Op.equalIn (d + 1) t (.slice (some a) n c) (.slice none 0 0)).run P w = .ok false w := by
  simp [Op.equalIn, run_underlying h]
theorem run_equal_slice (w : World) {t e : TypeId} {a : Addr} {n c : Nat} (h : P.underlying t = some (.slice e)) : (Op.equal t (.slice (some a) n c) (.slice none 0 0)).run P w = .ok false w := run_equalIn_slice w 9999 h
theorem run_equalIn_ptr (w : World) (d : Nat) {t e : TypeId} {a : Option Addr} (h : P.underlying t = some (.pointer e)) : (Op.equalIn (d + 1) t (.pointer a) (.pointer none)).run P w = .ok a.isNone w := by
  cases a <;> simp [Op.equalIn, run_underlying h]
theorem run_equal_ptr (w : World) {t e : TypeId} {a : Option Addr} (h : P.underlying t = some (.pointer e)) : (Op.equal t (.pointer a) (.pointer none)).run P w = .ok a.isNone w := run_equalIn_ptr w 9999 h

theorem ap_nil {o : Oper} {op : BinOp} {t u : TypeId} {x y : Operand} {ρ : Operand → SV} {st : St}
    (ho : o.op = .binOp op t x y u) (h : nilOk P op t y (ρ x)) : APure P o ρ st (nilV op (ρ x)) := by
  intro σ w a hI hR
  have hr := hR x (by simp [ho, Op.operands])
  obtain ⟨hop, h⟩ := h
  have ec : ∀ v, a.eval (.const v) = v := fun _ => rfl
  generalize hv : a.eval x = v at hr
  generalize hx : ρ x = X at hr h
  split at h
  · obtain ⟨rfl, hl, he⟩ := h
    have hu := und_slice (Option.some_get he).symm
    cases hr with
    | nil m z hm => exact (hl rfl).elim
    | slice m z l ad cap vals hcap hsp hzz hc hr hm =>
      rcases hop with rfl | rfl
      · exact ⟨.bool false, by simp [execOp, ho, hv, ec, eqGuard, binOp, run_equal_slice w hu], .sc _⟩
      · exact ⟨.bool true, by simp [execOp, ho, hv, ec, eqGuard, binOp, run_equal_slice w hu], .sc _⟩
  · obtain ⟨rfl, he⟩ := h
    have hu := und_slice (Option.some_get he).symm
    cases hr with
    | slc id z off len cap b hk hb hc =>
      rcases hop with rfl | rfl
      · exact ⟨.bool false, by simp [execOp, ho, hv, ec, eqGuard, binOp, run_equal_slice w hu], .sc _⟩
      · exact ⟨.bool true, by simp [execOp, ho, hv, ec, eqGuard, binOp, run_equal_slice w hu], .sc _⟩
  · obtain ⟨rfl, he⟩ := h
    obtain ⟨e, hu⟩ := und_ptr' he
    cases hr with
    | ref cells b o' vals hc hr =>
      rcases hop with rfl | rfl
      · exact ⟨.bool false, by simp [execOp, ho, hv, ec, eqGuard, binOp, run_equal_ptr w hu], .sc _⟩
      · exact ⟨.bool true, by simp [execOp, ho, hv, ec, eqGuard, binOp, run_equal_ptr w hu], .sc _⟩
  · obtain ⟨rfl, he⟩ := h
    obtain ⟨e, hu⟩ := und_ptr' he
    cases hr with
    | ptr id off b hk hb =>
      rcases hop with rfl | rfl
      · exact ⟨.bool false, by simp [execOp, ho, hv, ec, eqGuard, binOp, run_equal_ptr w hu], .sc _⟩
      · exact ⟨.bool true, by simp [execOp, ho, hv, ec, eqGuard, binOp, run_equal_ptr w hu], .sc _⟩
  · obtain ⟨rfl, he⟩ := h
    obtain ⟨e, hu⟩ := und_ptr' he
    cases hr with
    | sc v =>
      rcases hop with rfl | rfl
      · exact ⟨.bool true, by simp [execOp, ho, hv, ec, eqGuard, binOp, run_equal_ptr w hu], .sc _⟩
      · exact ⟨.bool false, by simp [execOp, ho, hv, ec, eqGuard, binOp, run_equal_ptr w hu], .sc _⟩
  · exact h.elim

def aInt (P : Program) (t : TypeId) : Option IntKind := match P.underlying t with | some (.int k) => some k | _ => none

theorem und_int {t : TypeId} {k : IntKind} (h : aInt P t = some k) : P.underlying t = some (.int k) := by
  unfold aInt at h
  split at h
  · rename_i e; cases h; exact e
  · cases h

def convV (P : Program) (u : TypeId) : SV → SV
  | .sc (.int _ n) => .sc (match aInt P u with | some k => .int k (k.wrap n) | none => undef)
  | _ => .any
def convOk (P : Program) (t u : TypeId) : SV → Prop
  | .sc (.int _ _) => (aInt P t).isSome = true ∧ (aInt P u).isSome = true
  | _ => False

theorem ap_conv {o : Oper} {t u : TypeId} {x : Operand} {ρ : Operand → SV} {st : St} (ho : o.op = .convert t u x) (h : convOk P t u (ρ x)) : APure P o ρ st (convV P u (ρ x)) := by
  intro σ w a hI hR
  have hr := hR x (by simp [ho, Op.operands])
  generalize hv : a.eval x = v at hr
  generalize hx : ρ x = X at hr h
  unfold convOk at h
  split at h
  · rename_i k n
    obtain ⟨h1, h2⟩ := h
    have e1 := und_int (Option.some_get h1).symm
    cases h3 : aInt P u with
    | none => rw [h3] at h2; cases h2
    | some k' =>
      have e2 := und_int h3
      have ev := rep_sc hr
      refine ⟨.int k' (k'.wrap n), by simp [execOp, ho, hv, ev, convert, run_underlying e1, run_underlying e2, Conv.intToInt], ?_⟩
      simp only [convV, h3]
      exact .sc _
  · exact h.elim

end Go.AL
set_option linter.unusedVariables false
namespace Go.AL
variable {P : Program}

def strip : SV → SV
  | .gd _ x => x
  | x => x

def binIntV (op : BinOp) (k : IntKind) (a b : Int) : Value :=
  match op with
  | .add => .int k (k.wrap (a + b))
  | .sub => .int k (k.wrap (a - b))
  | .mul => .int k (k.wrap (a * b))
  | .quo => .int k (k.wrap (a.tdiv b))
  | .rem => .int k (a.tmod b)
  | .eql => .bool (a == b)
  | .neq => .bool (a != b)
  | .lss => .bool (decide (a < b))
  | .leq => .bool (decide (a ≤ b))
  | .gtr => .bool (decide (b < a))
  | .geq => .bool (decide (b ≤ a))
  | .and => .int k (k.wrap ((BitVec.ofInt k.bits a &&& BitVec.ofInt k.bits b).toNat : Int))
  | .or => .int k (k.wrap ((BitVec.ofInt k.bits a ||| BitVec.ofInt k.bits b).toNat : Int))
  | .xor => .int k (k.wrap ((BitVec.ofInt k.bits a ^^^ BitVec.ofInt k.bits b).toNat : Int))
  | .andNot => .int k (k.wrap ((BitVec.ofInt k.bits a &&& ~~~BitVec.ofInt k.bits b).toNat : Int))
  | .shl => .int k (k.wrap (a * 2 ^ min b.toNat k.bits))
  | .shr => .int k (a.fdiv (2 ^ min b.toNat k.bits))

def binIntOk (op : BinOp) (b : Int) : Prop :=
  match op with
  | .quo => b ≠ 0
  | .rem => b ≠ 0
  | .shl | .shr => 0 ≤ b
  | _ => True

theorem binInt_of {op : BinOp} {k : IntKind} {a b : Int} (h : binIntOk op b) : binInt op k a b = some (binIntV op k a b) := by
  cases op <;> first | rfl | exact h.elim | (simp only [binIntOk] at h; simp [binInt, binIntV, h]; done) | (simp only [binIntOk] at h; simp only [binInt, binIntV]; rw [if_neg (by omega)])

def binStrV (op : BinOp) (a b : ByteArray) : Value :=
  match op with
  | .eql => .bool (a.toList == b.toList)
  | .neq => .bool !(a.toList == b.toList)
  | .add => .string (a ++ b)
  | _ => undef

def binStrOk (op : BinOp) (a b : ByteArray) : Prop :=
  match op with
  | .eql => True
  | .neq => True
  | .add => a.size + b.size ≤ 9223372036854775807
  | _ => False

theorem binStr_of {op : BinOp} {a b : ByteArray} (h : binStrOk op a b) : binStr op a b = some (binStrV op a b) := by
  cases op <;> first | rfl | exact h.elim | (simp only [binStrOk] at h; simp [binStr, binStrV, h])

def binV (op : BinOp) : SV → SV → SV
  | .sc (.int k m), .sc (.int _ n) => .sc (binIntV op k m n)
  | .sc (.string m), .sc (.string n) => .sc (binStrV op m n)
  | .sc (.bool m), .sc (.bool n) => .sc (.bool (m == n))
  | _, _ => .any

def binOk (P : Program) (op : BinOp) (t : TypeId) : SV → SV → Prop
  | .sc (.int k m), .sc (.int k' n) => k = k' ∧ binIntOk op n
  | .sc (.string m), .sc (.string n) => binStrOk op m n
  | .sc (.bool m), .sc (.bool n) => op = .eql ∧ P.underlying t = some .bool
  | _, _ => False

def unV (op : UnOp) : SV → SV
  | .sc (.bool m) => .sc (.bool (!m))
  | .sc (.int k m) => .sc (.int k (k.wrap (0 - m)))
  | _ => .any

def unOk (op : UnOp) : SV → Prop
  | .sc (.bool m) => op = .not
  | .sc (.int k m) => op = .neg
  | _ => False

def objAt (st : St) (id : Nat) : List SV := match st[id]? with | some (.cells l) => l | _ => []
def isObj (st : St) (id : Nat) : Prop := match st[id]? with | some (.cells l) => True | _ => False

theorem obj_of {st : St} {id : Nat} (h : isObj st id) : st[id]? = some (.cells (objAt st id)) := by
  unfold isObj at h
  unfold objAt
  split at h
  · rename_i l hl; rw [hl]
  · exact h.elim

def loadV (P : Program) (t : TypeId) (st : St) : SV → SV
  | .ref l => (cellsOf P t l).getD .any
  | .ptr id off => (cellsOf P t ((objAt st id).drop off)).getD .any
  | _ => .any

def loadOk (P : Program) (t : TypeId) (st : St) : SV → Prop
  | .ref l => (cellsOf P t l).isSome = true
  | .ptr id off => isObj st id ∧ (cellsOf P t ((objAt st id).drop off)).isSome = true
  | _ => False

def fieldV (P : Program) (t : TypeId) (f : Nat) : SV → SV
  | .ref l => .ref ((l.drop ((aField P t f).getD (0, 0)).1).take ((aField P t f).getD (0, 0)).2)
  | .ptr id i => .ptr id (i + ((aField P t f).getD (0, 0)).1)
  | _ => .any

def fieldOk (P : Program) (t : TypeId) (f : Nat) : SV → Prop
  | .ref l => (aField P t f).isSome = true ∧ ((aField P t f).getD (0, 0)).2 ≠ 0
  | .ptr id i => (aField P t f).isSome = true ∧ ((aField P t f).getD (0, 0)).2 ≠ 0
  | _ => False

def idxV : SV → SV → SV
  | .slice m z l, .sc (.int k i) => .ref (l.getD i.toNat .any).cells
  | .slc id z off len cap, .sc (.int k i) => .ptr id (off + i.toNat * z)
  | _, _ => .any

def idxOk (P : Program) (t : TypeId) : SV → SV → Prop
  | .slice m z l, .sc (.int k i) => (aElem P t).bind (aSize P) = some z ∧ 0 ≤ i ∧ i < l.length
  | .slc id z off len cap, .sc (.int k i) => (aElem P t).bind (aSize P) = some z ∧ 0 ≤ i ∧ i < len
  | _, _ => False

def bndI (ρ : Operand → SV) (x : Option Operand) (d : Nat) : Int := (bound ρ x d).getD 0

def cutV (ρ : Operand → SV) (lo hi mx : Option Operand) : SV → SV
  | .slice m z l => .slice (if mx.isSome then .full else .imm) z ((l.take (bndI ρ hi l.length).toNat).drop (bndI ρ lo 0).toNat)
  | .sc (.string s) => .sc (.string (s.extract (bndI ρ lo 0).toNat (bndI ρ hi s.size).toNat))
  | .slc id z off len cap => .slc id z (if cap = (bndI ρ lo 0).toNat then off else off + (bndI ρ lo 0).toNat * z) ((bndI ρ hi len).toNat - (bndI ρ lo 0).toNat) (cap - (bndI ρ lo 0).toNat)
  | _ => .any

def cutOk (P : Program) (t : TypeId) (ρ : Operand → SV) (lo hi mx : Option Operand) : SV → Prop
  | .slice m z l => ((aElem P t).bind (aSize P) = some z ∨ (l = [] ∧ (m = .full ∨ m = .imm) ∧ ((aElem P t).bind (aSize P)).isSome = true)) ∧ (bound ρ lo 0).isSome = true ∧ (bound ρ hi l.length).isSome = true ∧ 0 ≤ bndI ρ lo 0 ∧ bndI ρ lo 0 ≤ bndI ρ hi l.length ∧
      bndI ρ hi l.length ≤ l.length ∧ (mx.isSome = true → hi.isSome = true ∧ bound ρ mx 0 = bound ρ hi l.length)
  | .sc (.string s) => mx = none ∧ P.underlying t = some .string ∧ (bound ρ lo 0).isSome = true ∧ (bound ρ hi s.size).isSome = true ∧ 0 ≤ bndI ρ lo 0 ∧ bndI ρ lo 0 ≤ bndI ρ hi s.size ∧
      bndI ρ hi s.size ≤ s.size
  | .slc id z off len cap => mx = none ∧ (aElem P t).bind (aSize P) = some z ∧ (bound ρ lo 0).isSome = true ∧ (bound ρ hi len).isSome = true ∧ 0 ≤ bndI ρ lo 0 ∧ bndI ρ lo 0 ≤ bndI ρ hi len ∧ bndI ρ hi len ≤ cap
  | _ => False

def lenV : SV → SV
  | .slice m z l => .sc (.int .i64 l.length)
  | .sc (.string s) => .sc (.int .i64 s.size)
  | .slc id z off len cap => .sc (.int .i64 len)
  | _ => .any

def lenOk (P : Program) (t : TypeId) : SV → Prop
  | .slice m z l => (aElem P t).isSome = true
  | .sc (.string s) => P.underlying t = some .string
  | .slc id z off len cap => (aElem P t).isSome = true
  | _ => False

def extV (i : Nat) : SV → SV
  | .tuple l => l.getD i .any
  | _ => .any

def extOk (i : Nat) : SV → Prop
  | .tuple l => i < l.length
  | _ => False

inductive Kd where
  | pure
  | pick (c x y : Operand)
  | eff

def callKind (b : Callee) : Kd := match b with | .builtin .len => .pure | _ => .eff

def kindOf : Op → Kd
  | .move _ | .assign _ | .convert _ _ _ | .extract _ _ | .binOp _ _ _ _ _ | .unOp _ _ _ | .makeFunc _ _ _ | .load _ _ | .fieldAddr _ _ _ | .indexAddr _ _ _ | .slice _ _ _ _ _ => .pure
  | .pick c x y => .pick c x y
  | .call c => callKind c.callee
  | _ => .eff

def lenCallV (ρ : Operand → SV) : List Operand → SV
  | [x] => lenV (ρ x)
  | _ => .any

def lenCallOk (P : Program) (ρ : Operand → SV) : List Operand → List TypeId → Prop
  | [x], [t] => lenOk P t (ρ x)
  | _, _ => False

def valCore (P : Program) (st : St) (ρ : Operand → SV) : Op → SV
  | .move x => ρ x
  | .assign x => ρ x
  | .extract x i => extV i (ρ x)
  | .binOp op _ x y _ => if nilConst y then nilV op (ρ x) else binV op (ρ x) (ρ y)
  | .unOp op _ x => unV op (ρ x)
  | .convert _ u x => convV P u (ρ x)
  | .makeFunc fn first captured => .func fn (first.toList.map ρ) (captured.toList.map ρ)
  | .load t x => loadV P t st (ρ x)
  | .fieldAddr t x f => fieldV P t f (ρ x)
  | .indexAddr _ x y => idxV (ρ x) (ρ y)
  | .slice _ x lo hi mx => cutV ρ lo hi mx (ρ x)
  | .call c => lenCallV ρ c.args.toList
  | _ => .any

def okCore (P : Program) (st : St) (ρ : Operand → SV) : Op → Prop
  | .move x => True
  | .assign x => True
  | .extract x i => extOk i (ρ x)
  | .binOp op t x y _ => if nilConst y then nilOk P op t y (ρ x) else binOk P op t (ρ x) (ρ y)
  | .unOp op _ x => unOk op (ρ x)
  | .convert t u x => convOk P t u (ρ x)
  | .makeFunc fn first captured => True
  | .load t x => loadOk P t st (ρ x)
  | .fieldAddr t x f => fieldOk P t f (ρ x)
  | .indexAddr t x y => idxOk P t (ρ x) (ρ y)
  | .slice t x lo hi mx => cutOk P t ρ lo hi mx (ρ x)
  | .call c => lenCallOk P ρ c.args.toList c.argTypes.toList
  | _ => False

theorem bind_elem {t : TypeId} {z : Nat} (h : (aElem P t).bind (aSize P) = some z) : ∃ e, aElem P t = some e ∧ aSize P e = some z := by
  cases he : aElem P t with
  | none => simp [he] at h
  | some e => rw [he] at h; exact ⟨e, rfl, h⟩

theorem getD_of {α : Type} {x : Option α} {d : α} (h : x.isSome = true) : x = some (x.getD d) := by cases x <;> first | rfl | cases h

theorem pure_of {o : Oper} {ρ : Operand → SV} {st : St} (hk : kindOf o.op = .pure) (h : okCore P st ρ o.op) : APure P o ρ st (valCore P st ρ o.op) := by
  generalize hop : o.op = op at h hk ⊢
  cases op with
  | move x => exact ap_move hop
  | assign x => exact ap_assign hop
  | extract x i =>
    simp only [okCore, valCore] at h ⊢
    unfold extOk at h
    split at h
    · rename_i l hx; simp only [hx, extV]; exact ap_extract hop hx h
    · exact h.elim
  | binOp op t x y u =>
    simp only [okCore, valCore] at h ⊢
    by_cases hn : nilConst y = true
    · rw [if_pos hn] at h ⊢
      exact ap_nil hop h
    rw [if_neg hn] at h ⊢
    unfold binOk at h
    split at h
    · rename_i h1 h2; obtain ⟨rfl, h⟩ := h; simp only [h1, h2, binV]; exact ap_binInt hop h1 h2 (binInt_of h)
    · rename_i h1 h2; simp only [h1, h2, binV]; exact ap_binStr hop h1 h2 (binStr_of h)
    · rename_i h1 h2; obtain ⟨rfl, h⟩ := h; simp only [h1, h2, binV]; exact ap_binBool hop h1 h2 h
    · exact h.elim
  | unOp op t x =>
    simp only [okCore, valCore] at h ⊢
    unfold unOk at h
    split at h
    · rename_i h1; subst h; simp only [h1, unV]; exact ap_not hop h1
    · rename_i h1; subst h; simp only [h1, unV]; exact ap_neg hop h1
    · exact h.elim
  | convert t u x => exact ap_conv hop h
  | makeFunc fn first captured => exact ap_makeFunc hop
  | load t x =>
    simp only [okCore, valCore] at h ⊢
    unfold loadOk at h
    split at h
    · rename_i h1; simp only [h1, loadV]; exact ap_load_ref hop h1 (getD_of h)
    · rename_i h1; simp only [h1, loadV]; exact ap_load_ptr hop h1 (obj_of h.1) (getD_of h.2)
    · exact h.elim
  | fieldAddr t x f =>
    simp only [okCore, valCore] at h ⊢
    unfold fieldOk at h
    split at h
    · rename_i h1; simp only [h1, fieldV]; exact ap_fieldAddr_ref hop h1 (by rw [getD_of (d := (0, 0)) h.1]; rfl) h.2
    · rename_i h1; simp only [h1, fieldV]; exact ap_fieldAddr_ptr hop h1 (by rw [getD_of (d := (0, 0)) h.1]; rfl) h.2
    · exact h.elim
  | indexAddr t x y =>
    simp only [okCore, valCore] at h ⊢
    unfold idxOk at h
    split at h
    · rename_i h1 h2
      obtain ⟨h3, h4, h5⟩ := h
      obtain ⟨e, h6, h7⟩ := bind_elem h3
      simp only [h1, h2, idxV]
      exact ap_indexAddr hop h1 h2 h6 h7 h4 h5
    · rename_i h1 h2
      obtain ⟨h3, h4, h5⟩ := h
      obtain ⟨e, h6, h7⟩ := bind_elem h3
      simp only [h1, h2, idxV]
      exact ap_indexAddr_slc hop h1 h2 h6 h7 h4 h5
    · exact h.elim
  | slice t x lo hi mx =>
    simp only [okCore, valCore] at h ⊢
    unfold cutOk at h
    split at h
    · rename_i h1
      obtain ⟨h3, h4, h5, h6, h7, h8, h9⟩ := h
      simp only [h1, cutV]
      rcases h3 with h3 | ⟨rfl, hm, h3⟩
      rotate_left
      · -- an empty slice: whatever its elements' size is told to be
        obtain ⟨z', h3⟩ := Option.isSome_iff_exists.1 h3
        obtain ⟨e, h10, h11⟩ := bind_elem h3
        rename_i m z _
        have hl : ([] : List SV).length = 0 := rfl
        rw [hl] at h5 h7 h8 h9
        have n0 : bndI ρ lo 0 = 0 := by omega
        have n1 : bndI ρ hi 0 = 0 := by omega
        intro σ w a hI hR
        have key : ∀ ρ' : Operand → SV, (∀ y, y ∈ o.op.operands → Rep st σ w (ρ' y) (a.eval y)) → ρ' x = .slice m z' [] → (∀ y ∈ lo.toList ++ hi.toList ++ mx.toList, ρ' y = ρ y) → ∃ v, (execOp a.eval o).run P w = .ok (.value v) w ∧
            Rep st σ w (.slice (if mx.isSome then .full else .imm) z []) v := by
          intro ρ' hR' hx' hsame
          have b1 : ∀ (q : Option Operand) (d : Nat), (∀ y ∈ q.toList, ρ' y = ρ y) → bound ρ' q d = bound ρ q d := by
            intro q d hq
            cases q with
            | none => rfl
            | some y => simp only [bound, hq y (by simp)]
          have e1 := b1 lo 0 (fun y hy => hsame y (by simp at hy ⊢; simp [hy]))
          have e2 := b1 hi 0 (fun y hy => hsame y (by simp at hy ⊢; simp [hy]))
          have e3 := b1 mx 0 (fun y hy => hsame y (by simp at hy ⊢; simp [hy]))
          have f1 : bound ρ' lo 0 = some (0 : Int) := by rw [e1, getD_of (d := 0) h4]; exact congrArg some n0
          have f2 : bound ρ' hi 0 = some (0 : Int) := by rw [e2, getD_of (d := 0) h5]; exact congrArg some n1
          cases mx with
          | none =>
            obtain ⟨v, k1, k2⟩ := ap_slice (P := P) (st := st) hop hx' h10 h11 f1 f2 (Int.le_refl _) (Int.le_refl _) (by simp) σ w a hI hR'
            exact ⟨v, k1, rep_nil_z k2 (.inr rfl)⟩
          | some mx =>
            obtain ⟨h12, h13⟩ := h9 rfl
            cases hi with
            | none => cases h12
            | some hi =>
              obtain ⟨v, k1, k2⟩ := ap_slice3 (P := P) (st := st) hop hx' h10 h11 f1 f2 (by rw [e3, h13, ← e2]; exact f2) (Int.le_refl _) (Int.le_refl _) (by simp) σ w a hI hR'
              exact ⟨v, k1, rep_nil_z k2 (.inl rfl)⟩
        have hxr := hR x (by simp [hop, Op.operands])
        rw [h1] at hxr
        have hconf : ∀ y ∈ lo.toList ++ hi.toList ++ mx.toList, y ≠ x := by
          have nb : ∀ (q : Option Operand) (d : Nat), (bound ρ q d).isSome = true → ∀ y ∈ q.toList, y ≠ x := by
            intro q d hq y hy e
            cases q with
            | none => simp at hy
            | some u =>
              simp at hy
              subst hy; subst e
              simp [bound, h1] at hq
          intro y hy
          simp only [List.mem_append] at hy
          rcases hy with (hy | hy) | hy
          · exact nb lo 0 h4 y hy
          · exact nb hi _ h5 y hy
          · cases mx with
            | none => simp at hy
            | some q =>
              obtain ⟨_, h13⟩ := h9 rfl
              exact nb (some q) 0 (by rw [h13]; exact h5) y hy
        have key2 := key (fun y => open Classical in if y = x then .slice m z' [] else ρ y) (fun y hy => by
          by_cases e : y = x
          · rw [if_pos e, e]; exact rep_nil_z hxr (by exact hm)
          · rw [if_neg e]; exact hR y hy) (if_pos rfl) (fun y hy => if_neg (hconf y hy))
        simpa [n0, n1] using key2
      obtain ⟨e, h10, h11⟩ := bind_elem h3
      cases mx with
      | none => exact ap_slice hop h1 h10 h11 (getD_of h4) (getD_of h5) h6 h7 h8
      | some mx =>
        obtain ⟨h12, h13⟩ := h9 rfl
        cases hi with
        | none => cases h12
        | some hi => exact ap_slice3 hop h1 h10 h11 (getD_of h4) (by simpa [bound, bndI] using getD_of (d := 0) h5) (by rw [h13]; simpa [bound, bndI] using getD_of (d := 0) h5) h6 h7 h8
    · rename_i h1
      obtain ⟨rfl, h3, h4, h5, h6, h7, h8⟩ := h
      simp only [h1, cutV]
      exact ap_slice_str hop h1 h3 (getD_of h4) (getD_of h5) h6 h7 h8
    · rename_i h1
      obtain ⟨rfl, h3, h4, h5, h6, h7, h8⟩ := h
      obtain ⟨e, h10, h11⟩ := bind_elem h3
      simp only [h1, cutV]
      exact ap_slice_slc hop h1 h10 h11 (getD_of h4) (getD_of h5) h6 h7 h8
    · exact h.elim
  | call c =>
    simp only [kindOf, callKind] at hk
    split at hk
    · rename_i hc
      obtain ⟨callee, ⟨args⟩, ⟨ts⟩⟩ := c
      simp only at hc
      subst hc
      simp only [okCore, valCore, lenCallOk, lenCallV] at h ⊢
      split at h
      · unfold lenOk at h
        split at h
        · rename_i h3; simp only [h3, lenV]; exact ap_len_slice hop h3 (getD_of (d := 0) h)
        · rename_i h3; simp only [h3, lenV]; exact ap_len_str hop h3 h
        · rename_i h3; simp only [h3, lenV]; exact ap_len_slc hop h3 (getD_of (d := 0) h)
        · exact h.elim
      · exact h.elim
    · cases hk
  | _ => first | cases hk | exact h.elim


/-! A choice between two. -/

def pickB (t : Bool) : SV → SV → SV
  | .sc (.bool a), .sc (.bool b) => .sc (.bool (bif t then a else b))
  | x, y => if t then x else y

def pickV : SV → SV → SV → SV
  | .sc (.bool t), x, y => pickB t (strip x) (strip y)
  | _, _, _ => .any

def gIf (p : Prop) : SV → Prop
  | .gd g _ => p → g = true
  | _ => True

def pickOk : SV → SV → SV → Prop
  | .sc (.bool t), x, y => gIf (t = true) x ∧ gIf (t = false) y
  | _, _, _ => False

theorem rep_strip {st : St} {σ : Sig} {w : World} {x : SV} {v : Value} {p : Prop} (h : Rep st σ w x v) (hg : gIf p x) (hp : p) : Rep st σ w (strip x) v := by
  cases x with
  | gd g y => cases h with | gd g x v h h' => exact h (hg hp)
  | _ => exact h

theorem rep_pickB {st : St} {σ : Sig} {w : World} {t : Bool} {x y : SV} {v : Value} (h : Rep st σ w (if t then x else y) v) : Rep st σ w (pickB t x y) v := by
  unfold pickB
  split
  · cases t <;> exact h
  · exact h

theorem ap_pick' {o : Oper} {c x y : Operand} {ρ : Operand → SV} {st : St} (ho : o.op = .pick c x y) (h : pickOk (ρ c) (ρ x) (ρ y)) : APure P o ρ st (pickV (ρ c) (ρ x) (ρ y)) := by
  intro σ w a hI hR
  have rc := hR c (by simp [ho, Op.operands])
  have rx := hR x (by simp [ho, Op.operands])
  have ry := hR y (by simp [ho, Op.operands])
  unfold pickOk at h
  split at h
  · rename_i t hc
    rw [hc] at rc
    have e := rep_sc rc
    refine ⟨if t then a.eval x else a.eval y, by cases t <;> simp [execOp, ho, e, asBool], ?_⟩
    rw [hc]
    refine rep_pickB ?_
    cases t
    · exact rep_strip ry h.2 rfl
    · exact rep_strip rx h.1 rfl
  · exact h.elim

/-! Guards. -/

def gVal (want : Bool) : SV → Bool
  | .sc (.bool b) => b == want
  | .gd g (.sc (.bool b)) => g && (b == want)
  | _ => false

def gValOk : SV → Prop
  | .sc (.bool b) => True
  | .gd g (.sc (.bool b)) => True
  | _ => False

def gAll (p : Prop) (env : List SV) : List Operand → Prop
  | [] => True
  | y :: r => gIf p (ev env y) ∧ gAll p env r

theorem gAll_mem {p : Prop} {env : List SV} : ∀ (l : List Operand), gAll p env l → ∀ y ∈ l, gIf p (ev env y)
  | [], _, y, h => by cases h
  | x :: r, h, y, hy => by
    cases hy with
    | head => exact h.1
    | tail _ hm => exact gAll_mem r h.2 y hm

theorem yield_gVal {ops : Array Oper} {env : List SV} {j d : Nat} {want : Bool} {st : St} {σ : Sig} {w : World} {t : Array Value} (hd : (ops[j]?).bind (·.dst) = some d) (h : gValOk (env.getD d .any))
    (hR : RepEnv st σ w env t) : (yielded ops t j == some want) = gVal want (env.getD d .any) := by
  have hr := hR.get d
  unfold gValOk at h
  have key : ∀ b, t.getD d undef = .bool b → yielded ops t j = some b := by
    intro b hv
    have hlt : d < t.size := by
      rcases Nat.lt_or_ge d t.size with g | g
      · exact g
      · simp [Array.getD, Nat.not_lt.2 g, undef] at hv
    have : t[d]? = some (.bool b) := by simp [Array.getD, hlt] at hv; simp [hlt, hv]
    simp [yielded, hd, this]
  split at h
  · rename_i b hb
    rw [hb] at hr ⊢
    rw [key b (rep_sc hr)]
    rfl
  · rename_i g b hb
    rw [hb] at hr ⊢
    cases hr with
    | gd g x v h1 h2 =>
      cases g with
      | true =>
        rw [key b (rep_sc (h1 rfl))]
        simp [gVal]
      | false =>
        have hu := h2 rfl
        have : yielded ops t j = none := by
          unfold yielded
          rw [hd]
          simp only [Option.bind_some]
          cases ht : t[d]? with
          | none => rfl
          | some v =>
            have : t.getD d undef = v := by rw [Array.getD_eq_getD_getElem?, ht]; rfl
            rw [this] at hu
            subst hu
            rfl
        rw [this]
        simp [gVal]
  · exact h.elim

def opTmps : List Operand → List Nat
  | [] => []
  | .tmp t :: r => t :: opTmps r
  | _ :: r => opTmps r

theorem mem_opTmps {t : Nat} : ∀ {l : List Operand}, t ∈ opTmps l → Operand.tmp t ∈ l
  | .tmp d :: r, h => by
    simp only [opTmps, List.mem_cons] at h
    rcases h with rfl | h
    · exact List.mem_cons_self
    · exact List.mem_cons_of_mem _ (mem_opTmps h)
  | .const v :: r, h => List.mem_cons_of_mem _ (mem_opTmps (l := r) h)
  | .global v :: r, h => List.mem_cons_of_mem _ (mem_opTmps (l := r) h)
  | .func v :: r, h => List.mem_cons_of_mem _ (mem_opTmps (l := r) h)

def stripAt (s : List Nat) : Nat → List SV → List SV
  | _, [] => []
  | k, x :: r => (if s.contains k then strip x else x) :: stripAt s (k + 1) r

theorem length_stripAt (s : List Nat) : ∀ (k : Nat) (l : List SV), (stripAt s k l).length = l.length
  | _, [] => rfl
  | k, x :: r => by simp [stripAt, length_stripAt s (k + 1) r]

theorem getD_stripAt (s : List Nat) : ∀ (k : Nat) (l : List SV) (i : Nat), i < l.length → (stripAt s k l).getD i .any = if s.contains (k + i) then strip (l.getD i .any) else l.getD i .any
  | k, x :: r, 0, h => rfl
  | k, x :: r, i + 1, h => by
    have := getD_stripAt s (k + 1) r i (by simpa using h)
    simp only [stripAt, List.getD_cons_succ, this, show k + 1 + i = k + (i + 1) by omega]

theorem rep_stripAt {p : Prop} (hp : p) {st : St} {σ : Sig} {w : World} {t : Array Value} {l : List Operand} {env : List SV} (h : RepEnv st σ w env t) (hg : gAll p env l) :
    RepEnv st σ w (stripAt (opTmps l) 0 env) t := by
  refine ⟨by rw [length_stripAt]; exact h.1, fun i hi => ?_⟩
  rw [length_stripAt] at hi
  rw [getD_stripAt _ _ _ _ hi, Nat.zero_add]
  split
  · rename_i hc
    have hm := mem_opTmps (l := l) (t := i) (by simpa using hc)
    exact rep_strip (h.2 i hi) (gAll_mem l hg _ hm) hp
  · exact h.2 i hi

/-! Operations that do more than reckon. -/

def storeSpec (P : Program) (t : TypeId) (st : St) (y : SV) : SV → (St → Prop) → Prop
  | .ptr id off, K => isObj st id ∧ aSize P t = some y.cells.length ∧ shapeOk y = true ∧ elemOk y = true ∧ off + y.cells.length ≤ (objAt st id).length ∧
      K (st.set id (.cells (splice (objAt st id) off y.cells)))
  | _, _ => False

/-- An append of slices of type t, of elements of z cells, n of them in the end, may be. -/
structure AppOk (P : Program) (t tx : TypeId) (z n : Nat) : Prop where
  ok : n < 4611686018427387904 ∧ ∃ e ex zs by', aElem P t = some e ∧ aElem P tx = some ex ∧ aSize P e = some z ∧ aZero P e = some zs ∧ zs.length = z ∧ aBytes P e = some by' ∧ (2 * n + 192) * by' ≤ 281474976710656

def tokAt (st : St) (id ver : Nat) : Prop := st[id]? = some (.tok ver)

def appSpec (P : Program) (t tx : TypeId) (st : St) : SV → SV → (SV → St → Prop) → Prop
  | .slice .full z0 l, .slice m z xs, K => (l = [] ∨ z0 = z) ∧ AppOk P t tx z (l.length + xs.length) ∧ K (.slice (.own st.length 0) z (l ++ xs)) (st ++ [.tok 0])
  | .slice (.own id ver) z l, .slice m z1 xs, K => (xs = [] ∨ z1 = z) ∧ tokAt st id ver ∧ AppOk P t tx z (l.length + xs.length) ∧
      (∀ s ∈ xs, elemOk s = true) ∧ K (.slice (.own id (ver + 1)) z (l ++ xs)) (st.set id (.tok (ver + 1)))
  | _, _, _ => False

def callSpec (P : Program) (args : List SV) (st : St) : SV → (SV → St → Prop) → Prop
  | .func (.func f) first captured, K => aBody P f = true ∧ ACalls P f (first ++ args ++ captured) K st
  | _, _ => False

def zerosOf (P : Program) (t : TypeId) : List SV := ((aElem P t).bind (aZero P)).getD []

def appObSpec (P : Program) (t tx : TypeId) (st : St) : SV → SV → (SV → St → Prop) → Prop
  | .slice .full z0 [], .slice m z xs, K => xs ≠ [] ∧ AppOk P t tx z xs.length ∧ ∀ cap, xs.length ≤ cap → K (.slc st.length z 0 xs.length cap) (st ++ [.cells (xs.flatMap SV.cells ++ zeroL (zerosOf P t) (cap - xs.length))])
  | _, _, _ => False

def copySpec (P : Program) (t : TypeId) (st : St) : SV → SV → (SV → St → Prop) → Prop
  | .slc id z off len cap, .slice m z' ys, K => z = z' ∧ isObj st id ∧ (aElem P t).bind (aSize P) = some z ∧ off + (min ys.length len) * z ≤ (objAt st id).length ∧ (∀ s ∈ ys, elemOk s = true) ∧
      K (.sc (.int .i64 (min ys.length len : Nat))) (st.set id (.cells (splice (objAt st id) off ((ys.take (min ys.length len)).flatMap SV.cells))))
  | .slc id z off len cap, .slc id' z' off' len' cap', K => z = z' ∧ isObj st id ∧ isObj st id' ∧ (aElem P t).bind (aSize P) = some z ∧ off + (min len' len) * z ≤ (objAt st id).length ∧
      off' + (min len' len) * z ≤ (objAt st id').length ∧ (((objAt st id').drop off').take ((min len' len) * z)).all cellOk = true ∧
      K (.sc (.int .i64 (min len' len : Nat))) (st.set id (.cells (splice (objAt st id) off (((objAt st id').drop off').take ((min len' len) * z)))))
  | _, _, _ => False

def clearSpec (P : Program) (t : TypeId) (st : St) : SV → (SV → St → Prop) → Prop
  | .slc id z off len cap, K => isObj st id ∧ (aElem P t).isSome = true ∧ ((aElem P t).bind (aZero P)).isSome = true ∧ off + len * (zerosOf P t).length ≤ (objAt st id).length ∧ (zerosOf P t).all cellOk = true ∧
      K .any (if len = 0 then st else st.set id (.cells (splice (objAt st id) off (zeroL (zerosOf P t) len))))
  | _, _ => False

def makeSpec (P : Program) (t : TypeId) (st : St) : SV → SV → (SV → St → Prop) → Prop
  | .sc (.int k n), .sc (.int k' m), K => ((aElem P t).bind (aSize P)).isSome = true ∧ ((aElem P t).bind (aZero P)).map List.length = (aElem P t).bind (aSize P) ∧ ((aElem P t).bind (aBytes P)).isSome = true ∧
      0 ≤ n ∧ n ≤ m ∧ m ≤ 4611686018427387904 ∧ m.toNat * ((aElem P t).bind (aBytes P)).getD 0 ≤ 281474976710656 ∧
      K (.slc st.length (((aElem P t).bind (aSize P)).getD 0) 0 n.toNat m.toNat) (st ++ [.cells (zeroL (zerosOf P t) m.toNat)])
  | _, _, _ => False

def biSpec (P : Program) (o : Oper) (ob : Bool) (env : List SV) (st : St) (K : SV → St → Prop) : Builtin → List Operand → List TypeId → Prop
  | .append, [x, y], [t, tx] => if ob then appObSpec P t tx st (ev env x) (ev env y) K else appSpec P t tx st (ev env x) (ev env y) K
  | .copy, [x, y], [t, _] => copySpec P t st (ev env x) (ev env y) K
  | .clear, [x], [t] => clearSpec P t st (ev env x) K
  | _, _, _ => AOp P o K env st

def calleeSpec (P : Program) (o : Oper) (ob : Bool) (env : List SV) (st : St) (K : SV → St → Prop) (args : List Operand) (ts : List TypeId) : Callee → Prop
  | .value f => callSpec P (args.map (ev env)) st (ev env f) K
  | .builtin b => biSpec P o ob env st K b args ts
  | .invoke _ _ => AOp P o K env st

theorem zeros_of {t e : TypeId} {zs : List SV} (h1 : aElem P t = some e) (h2 : aZero P e = some zs) : zerosOf P t = zs := by simp [zerosOf, h1, h2]

/-- M: the slots whose new variables are objects. -/
def effSpec (P : Program) (M : List Nat) (o : Oper) (env : List SV) (st : St) (K : SV → St → Prop) : Prop :=
  match o.op with
  | .store t x y => o.dst = none ∧ storeSpec P t st (ev env y) (ev env x) (K .any ·)
  | .box t x => shapeOk (ev env x) = true ∧ if M.contains (o.dst.getD 0) then K (.ptr st.length 0) (st ++ [.cells (ev env x).cells]) else K (.ref (ev env x).cells) st
  | .alloc t => (aZero P t).isSome = true ∧ K (.ptr st.length 0) (st ++ [.cells ((aZero P t).getD [])])
  | .build t parts => aFieldsOk P t = true ∧ (aBuild P t (parts.toList.map fun p => (p.1, ev env p.2))).isSome = true ∧ K (.agg ((aBuild P t (parts.toList.map fun p => (p.1, ev env p.2))).getD [])) st
  | .buildSlice t len parts => ((aElem P t).bind (aSize P)).isSome = true ∧ ((aElem P t).bind (aZero P)).map List.length = (aElem P t).bind (aSize P) ∧ parts.toList.map (·.1) = List.range len ∧
      len * ((aElem P t).bind (aSize P)).getD 0 ≤ 16777216 ∧ (∀ p ∈ parts.toList, shapeOk (ev env p.2) = true ∧ (ev env p.2).cells.length = ((aElem P t).bind (aSize P)).getD 0) ∧
      K (.slice .full (((aElem P t).bind (aSize P)).getD 0) (parts.toList.map fun p => norm (ev env p.2))) st
  | .makeSlice t x y => makeSpec P t st (ev env x) (ev env y) K
  | .call c => calleeSpec P o (M.contains (o.dst.getD 0)) env st K c.args.toList c.argTypes.toList c.callee
  | _ => AOp P o K env st

theorem aop_eff {M : List Nat} {o : Oper} {env : List SV} {st : St} {K : SV → St → Prop} (h : effSpec P M o env st K) : AOp P o K env st := by
  unfold effSpec at h
  split at h
  case h_1 t x y ho =>
    obtain ⟨hd, h⟩ := h
    unfold storeSpec at h
    split at h
    · rename_i h1; obtain ⟨h2, h3, h4, h5, h6, h7⟩ := h; exact aop_store ho hd h1 (obj_of h2) h3 h4 rfl h5 h6 h7
    · exact h.elim
  case h_2 t x ho =>
    obtain ⟨h1, h2⟩ := h
    split at h2
    · exact aop_box_ob ho h1 h2
    · exact aop_box ho h1 h2
  case h_3 t ho => exact aop_alloc ho (getD_of h.1) h.2
  case h_4 t parts ho => exact aop_build ho h.1 (getD_of h.2.1) h.2.2
  case h_5 t len parts ho =>
    obtain ⟨h1, h2, h3, h4, h5, h6⟩ := h
    have h1 := getD_of (d := 0) h1
    generalize (((aElem P t).bind (aSize P)).getD 0) = z at h1 h4 h5 h6
    rw [h1] at h2
    obtain ⟨e, h7, h8⟩ := bind_elem h1
    rw [h7] at h2
    simp only [Option.bind_some] at h2
    cases hz : aZero P e with
    | none => simp [hz] at h2
    | some zs =>
      rw [hz] at h2
      exact aop_buildSlice ho h7 h8 hz (by simpa using h2) h3 h4 h5 h6
  case h_6 t x y ho =>
    unfold makeSpec at h
    split at h
    · rename_i h1 h2
      obtain ⟨g1, g2, g3, g4, g5, g6, g7, g8⟩ := h
      have g1 := getD_of (d := 0) g1
      have g3 := getD_of (d := 0) g3
      generalize (((aElem P t).bind (aSize P)).getD 0) = z at g1 g8
      generalize (((aElem P t).bind (aBytes P)).getD 0) = by' at g3 g7
      rw [g1] at g2
      obtain ⟨e, g9, g10⟩ := bind_elem g1
      rw [g9] at g2 g3
      simp only [Option.bind_some] at g2 g3
      cases hz : aZero P e with
      | none => simp [hz] at g2
      | some zs =>
        rw [hz] at g2
        rw [zeros_of g9 hz] at g8
        exact aop_makeSlice ho h1 h2 g9 g10 hz (by simpa using g2) g3 g4 g5 g6 g7 g8
    · exact h.elim
  case h_7 c ho =>
    obtain ⟨callee, ⟨args⟩, ⟨ts⟩⟩ := c
    unfold calleeSpec at h
    simp only at h
    split at h
    · unfold callSpec at h
      split at h
      · rename_i h1; exact aop_call ho h1 h.1 h.2
      · exact h.elim
    · unfold biSpec at h
      split at h
      · split at h
        · unfold appObSpec at h
          split at h
          · rename_i h1 h2
            obtain ⟨h3, ⟨h11, e, ex, zs, by', h4, h5, h6, h7, h8, h9, h10⟩, h12⟩ := h
            rw [zeros_of h4 h7] at h12
            exact aop_append_ob ho h1 h2 h3 h4 h5 h6 h7 h8 h9 h10 h11 h12
          · exact h.elim
        · unfold appSpec at h
          split at h
          · rename_i h1 h2
            obtain ⟨h3, ⟨h11, e, ex, zs, by', h4, h5, h6, h7, h8, h9, h10⟩, h12⟩ := h
            exact aop_append_full ho h1 h2 h3 (.inr rfl) h4 h5 h6 h7 h8 h9 h10 h11 h12
          · rename_i h1 h2
            obtain ⟨h3, h3', ⟨h11, e, ex, zs, by', h4, h5, h6, h7, h8, h9, h10⟩, h12, h13⟩ := h
            exact aop_append_own ho h1 h2 h3 h3' h4 h5 h6 h7 h8 h9 h10 h11 h12 h13
          · exact h.elim
      · unfold copySpec at h
        split at h
        · rename_i h1 h2
          obtain ⟨rfl, g1, g2, g3, g4, g5⟩ := h
          obtain ⟨e, g6, g7⟩ := bind_elem g2
          exact aop_copy_slice ho h1 h2 (obj_of g1) g6 g7 g3 g4 g5
        · rename_i h1 h2
          obtain ⟨rfl, g1, g2, g3, g4, g5, g6, g7⟩ := h
          obtain ⟨e, g8, g9⟩ := bind_elem g3
          exact aop_copy_slc ho h1 h2 (obj_of g1) (obj_of g2) g8 g9 g4 g5 g6 g7
        · exact h.elim
      · unfold clearSpec at h
        split at h
        · rename_i h1
          obtain ⟨g1, g2, g3, g4, g5, g6⟩ := h
          have g2 := getD_of (d := 0) g2
          generalize (aElem P _).getD 0 = e at g2
          rw [g2] at g3
          simp only [Option.bind_some] at g3
          have g3 := getD_of (d := []) g3
          rw [zeros_of g2 g3] at g4 g5 g6
          exact aop_clear ho h1 (obj_of g1) g2 g3 g4 g5 g6
        · exact h.elim
      · exact h
    · exact h
  all_goals exact h

/-! Lists of operations. ds: the slots that the region's operations write. -/

def gSlot (ds : List (Option Tmp)) (j : Nat) (env : List SV) : SV :=
  match ds[j]? with
  | some (some d) => env.getD d .any
  | _ => .any

def kdSpec (P : Program) (M : List Nat) (o : Oper) (env : List SV) (st : St) (next : List SV → St → Prop) : Kd → Prop
  | .pure => okCore P st (ev env) o.op ∧ next (putE env o.dst (valCore P st (ev env) o.op)) st
  | .pick c x y => pickOk (ev env c) (ev env x) (ev env y) ∧ next (putE env o.dst (pickV (ev env c) (ev env x) (ev env y))) st
  | .eff => effSpec P M o env st fun x s => next (putE env o.dst x) s

def gdSpec (P : Program) (M : List Nat) (o : Oper) (env : List SV) (st : St) (g : Bool) (next : List SV → St → Prop) : Kd → Prop
  | .pure => gAll (g = true) env o.op.operands.toList ∧ (g = true → okCore P st (fun y => strip (ev env y)) o.op) ∧
      next (putE env o.dst (.gd g (valCore P st (fun y => strip (ev env y)) o.op))) st
  | .pick c x y => gIf (g = true) (ev env c) ∧ (g = true → pickOk (strip (ev env c)) (ev env x) (ev env y)) ∧
      next (putE env o.dst (.gd g (pickV (strip (ev env c)) (ev env x) (ev env y)))) st
  | .eff => gAll (g = true) env o.op.operands.toList ∧ (g = true → effSpec P M o (stripAt (opTmps o.op.operands.toList) 0 env) st fun x s => next (putE env o.dst x) s) ∧
      (g = false → next (putE env o.dst .any) st)

def opsSpec (P : Program) (M : List Nat) (ds : List (Option Tmp)) : List Oper → List SV → St → (List SV → St → Prop) → Prop
  | [], env, st, K => K env st
  | o :: r, env, st, K => match o.guard with
    | none => kdSpec P M o env st (fun e s => opsSpec P M ds r e s K) (kindOf o.op)
    | some (j, want) => gValOk (gSlot ds j env) ∧ gdSpec P M o env st (gVal want (gSlot ds j env)) (fun e s => opsSpec P M ds r e s K) (kindOf o.op)

theorem gSlot_some {ops : Array Oper} {j : Nat} {env : List SV} (h : gValOk (gSlot (ops.toList.map (·.dst)) j env)) :
    ∃ d, (ops[j]?).bind (·.dst) = some d ∧ gSlot (ops.toList.map (·.dst)) j env = env.getD d .any := by
  unfold gSlot at h ⊢
  simp only [List.getElem?_map, Array.getElem?_toList] at h ⊢
  cases ho : ops[j]? with
  | none => rw [ho] at h; exact h.elim
  | some o =>
    rw [ho] at h
    cases hd : o.dst with
    | none => simp [hd] at h; exact h.elim
    | some d => exact ⟨d, by simp [hd], by simp [hd]⟩

theorem pure_run {st : St} {env : List SV} {o : Oper} {K : SV → St → Prop} (hk : kindOf o.op = .pure) (h : okCore P st (ev env) o.op) (hn : K (valCore P st (ev env) o.op) st) : AOp P o K env st :=
  aop_of_pure (pure_of hk h) hn

theorem kindOf_pick {op : Op} {c x y : Operand} (h : kindOf op = .pick c x y) : op = .pick c x y := by
  cases op <;> simp only [kindOf] at h <;> (try cases h) <;> (try rfl)
  rename_i c'
  simp only [callKind] at h
  split at h <;> cases h

theorem aops_spec {M : List Nat} {ops : Array Oper} {K : List SV → St → Prop} : ∀ (n : Nat) (l : List Oper) (env : List SV) (st : St), ops.toList.drop n = l →
    opsSpec P M (ops.toList.map (·.dst)) l env st K → AOps P ops ((List.range' n l.length)) K env st
  | n, [], env, st, _, h => aops_nil h
  | n, o :: r, env, st, hl, h => by
    have ho : ops[n]? = some o := by
      have : (ops.toList.drop n)[0]? = some o := by rw [hl]; rfl
      rw [List.getElem?_drop, Nat.add_zero, Array.getElem?_toList] at this
      exact this
    have hr : ops.toList.drop (n + 1) = r := by rw [← List.drop_drop, hl]; rfl
    have ih := fun env st => aops_spec (M := M) (K := K) (n + 1) r env st hr
    simp only [List.length_cons, List.range'_succ]
    simp only [opsSpec] at h
    split at h
    · rename_i hg
      refine aops_cons ho hg ?_
      cases hk : kindOf o.op with
      | pure => rw [hk] at h; exact pure_run hk h.1 (ih _ _ h.2)
      | pick c x y => rw [hk] at h; exact aop_of_pure (ap_pick' (kindOf_pick hk) h.1) (ih _ _ h.2)
      | eff => rw [hk] at h; exact AOp.mono (aop_eff (by exact h)) fun x s h => ih _ _ h
    · rename_i j want hg
      obtain ⟨h1, h2⟩ := h
      obtain ⟨d, hd, he⟩ := gSlot_some h1
      rw [he] at h1 h2
      intro σ w a hI hR hdf
      have hy := yield_gVal (want := want) hd h1 hR
      simp only [wpOps, ho, Region.wanted, hg, hy]
      generalize hgv : gVal want (env.getD d .any) = g at h2
      cases g with
      | true =>
        simp only [if_true]
        have pureCase : ∀ (X : SV) (ρ : Operand → SV), (∀ y, y ∈ o.op.operands → Rep st σ w (ρ y) (a.eval y)) → APure P o ρ st X → AOps P ops (List.range' (n + 1) r.length) K (putE env o.dst (.gd true X)) st →
            o.wp P a w (wpOps P ops (fun e a' w' => e = .normal ∧ Post K st σ w a' w') (List.range' (n + 1) r.length)) (fun e a' w' => e = .normal ∧ Post K st σ w a' w') := by
          intro X ρ hρ hap hk
          obtain ⟨v, hrun, hrep⟩ := hap σ w a hI hρ
          unfold Oper.wp
          rw [hrun]
          exact hk σ w _ hI (rep_put hR _ (.gd true X v (fun _ => hrep) (fun e => by cases e))) (by rw [put_defers]; exact hdf)
        cases hk : kindOf o.op with
        | pure =>
          rw [hk] at h2
          obtain ⟨g1, g2, g3⟩ := h2
          exact .inl (pureCase _ _ (fun y hy => rep_strip (rep_ev hR y) (gAll_mem _ g1 y (by simpa using hy)) rfl) (pure_of hk (g2 rfl)) (ih _ _ g3))
        | pick c x y =>
          rw [hk] at h2
          obtain ⟨g1, g2, g3⟩ := h2
          have hop := kindOf_pick hk
          refine .inl ?_
          obtain ⟨v, hrun, hrep⟩ : ∃ v, (execOp a.eval o).run P w = .ok (.value v) w ∧ Rep st σ w (pickV (strip (ev env c)) (ev env x) (ev env y)) v := by
            have rc := rep_strip (rep_ev hR c) g1 rfl
            have h := g2 rfl
            unfold pickOk at h
            split at h
            · rename_i t hc
              rw [hc] at rc
              have e := rep_sc rc
              refine ⟨if t then a.eval x else a.eval y, by cases t <;> simp [execOp, hop, e, asBool], ?_⟩
              rw [hc]
              refine rep_pickB ?_
              cases t
              · exact rep_strip (rep_ev hR y) h.2 rfl
              · exact rep_strip (rep_ev hR x) h.1 rfl
            · exact h.elim
          unfold Oper.wp
          rw [hrun]
          exact ih _ _ g3 σ w _ hI (rep_put hR _ (.gd true _ v (fun _ => hrep) (fun e => by cases e))) (by rw [put_defers]; exact hdf)
        | eff =>
          rw [hk] at h2
          obtain ⟨g1, g2, g3⟩ := h2
          refine .inl (upon_mono ?_ (fun _ _ _ h => h.elim) (aop_eff (g2 rfl) σ w a hI (rep_stripAt rfl hR g1)))
          rintro a' w' ⟨v, y, st', σ', rfl, hn, hI', hr', hX⟩
          refine wpOps_mono (fun e a w hp => ⟨hp.1, hp.2.ext hX⟩) _ _ _ (ih _ _ hn σ' w' _ hI' (rep_put (hR.ext hX) _ hr') ?_)
          rw [put_defers]; exact hdf
      | false =>
        simp only [Bool.false_eq_true, if_false]
        cases hk : kindOf o.op with
        | pure =>
          rw [hk] at h2
          exact ih _ _ h2.2.2 σ w _ hI (rep_put hR _ (.gd false _ _ (fun e => by cases e) (fun _ => rfl))) (by rw [put_defers]; exact hdf)
        | pick c x y =>
          rw [hk] at h2
          exact ih _ _ h2.2.2 σ w _ hI (rep_put hR _ (.gd false _ _ (fun e => by cases e) (fun _ => rfl))) (by rw [put_defers]; exact hdf)
        | eff =>
          rw [hk] at h2
          exact ih _ _ (h2.2.2 rfl) σ w _ hI (rep_put hR _ (.any _)) (by rw [put_defers]; exact hdf)

theorem awp_region_spec (M : List Nat) {id : Nat} {ops : Array Oper} {Q : Exit → List SV → St → Prop} {env : List SV} {st : St} (h : opsSpec P M (ops.toList.map (·.dst)) ops.toList env st (Q .normal)) :
    AWp P (.region id ops false) Q env st := by
  refine awp_region ?_
  have := aops_spec (P := P) 0 ops.toList env st rfl h
  rw [List.range_eq_range']
  simpa using this

/-- What code asks, up to its loops and its regions that draw. -/
def codeSpec (P : Program) (M : List Nat) : Code → (Exit → List SV → St → Prop) → List SV → St → Prop
  | .skip, Q, env, st => Q .normal env st
  | .region _ ops false, Q, env, st => opsSpec P M (ops.toList.map (·.dst)) ops.toList env st (Q .normal)
  | .seq a b, Q, env, st => codeSpec P M a (thenQ (codeSpec P M b Q) Q) env st
  | .cond c x y, Q, env, st => ∃ t, ev env c = .sc (.bool t) ∧ (t = true → codeSpec P M x Q env st) ∧ (t = false → codeSpec P M y Q env st)
  | .block id c, Q, env, st => codeSpec P M c (blockQ id Q) env st
  | .exit id, Q, env, st => Q (.exit id) env st
  | .ret, Q, env, st => Q .ret env st
  | .label _, Q, env, st => Q .normal env st
  | c, Q, env, st => AWp P c Q env st

theorem awp_spec {M : List Nat} : ∀ (c : Code) {Q : Exit → List SV → St → Prop} {env : List SV} {st : St}, codeSpec P M c Q env st → AWp P c Q env st := by
  intro c
  induction c with
  | skip => exact fun h => awp_skip h
  | region id ops draw =>
    intro Q env st h
    cases draw with
    | false => exact awp_region_spec M h
    | true => exact h
  | seq a b iha ihb =>
    intro Q env st h
    refine awp_seq ((iha h).mono fun e env st he => ?_)
    cases e <;> first | exact ihb he | exact he
  | cond c x y ihx ihy =>
    intro Q env st h
    obtain ⟨t, h1, h2, h3⟩ := h
    exact awp_cond h1 (fun e => ihx (h2 e)) (fun e => ihy (h3 e))
  | block id c ih => exact fun h => awp_block (ih h)
  | exit id => exact fun h => awp_exit h
  | ret => exact fun h => awp_ret h
  | label l => exact fun h => awp_label h
  | _ => exact fun h => h

end Go.AL
