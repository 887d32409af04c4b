/- The abstract layer, part 7: functions: their entry, their results, what is forgotten at their end. -/
import Derived.Test.YtjkhpblfgcnpaaaAl6
set_option linter.unusedVariables false
namespace Go.AL
variable {P : Program}

/-- Of which objects a value speaks. -/
inductive Ids (n : Nat) : SV → Prop where
  | any : Ids n .any
  | sc (v : Value) : Ids n (.sc v)
  | slice (m : Mode) (z : Nat) (l : List SV) (hm : ∀ id ver, m = .own id ver → id < n) (h : ∀ i j, i < l.length → j < z → Ids n ((l.getD i .any).cells.getD j .any)) : Ids n (.slice m z l)
  | ref (l : List SV) (h : ∀ i, i < l.length → Ids n (l.getD i .any)) : Ids n (.ref l)
  | ptr (id off : Nat) (h : id < n) : Ids n (.ptr id off)
  | func (fn : Fn) (l k : List SV) (h : ∀ i, i < l.length → Ids n (l.getD i .any)) (h' : ∀ i, i < k.length → Ids n (k.getD i .any)) : Ids n (.func fn l k)
  | agg (l : List SV) (h : ∀ i, i < l.length → Ids n (l.getD i .any)) : Ids n (.agg l)
  | tuple (l : List SV) (h : ∀ i, i < l.length → Ids n (l.getD i .any)) : Ids n (.tuple l)
  | gd (g : Bool) (x : SV) (h : g = true → Ids n x) : Ids n (.gd g x)
  | slc (id z off len cap : Nat) (h : id < n) : Ids n (.slc id z off len cap)

theorem Rep.ids {st : St} {σ : Sig} {w : World} {x : SV} {v : Value} (h : Rep st σ w x v) : Ids st.length x := by
  induction h with
  | any v => exact .any
  | sc v => exact .sc v
  | nil m z hm =>
    refine .slice m z [] (fun id ver e => ?_) (fun i j hi => absurd hi (Nat.not_lt_zero _))
    subst e
    obtain ⟨v0, h1, _⟩ := hm
    exact lt_of_get h1
  | slice m z l a cap vals hcap hsp hz hc hr hm ih =>
    refine .slice m z l (fun id ver e => ?_) ih
    subst e
    obtain ⟨v0, h1, _⟩ := hm
    exact lt_of_get h1
  | ref cells b o vals hc hr ih => exact .ref cells ih
  | ptr id off b hk hb =>
    obtain ⟨l, hl⟩ := hk
    exact .ptr id off (lt_of_get hl)
  | func fn first captured vf vc h1 h2 _ _ i1 i2 => exact .func fn first captured i1 i2
  | agg l vs h _ ih => exact .agg l ih
  | tuple l vs h _ ih => exact .tuple l ih
  | gd g x v _ h' ih => exact .gd g x ih
  | slc id z off len cap b hk hb hc =>
    obtain ⟨l, hl⟩ := hk
    exact .slc id z off len cap (lt_of_get hl)

theorem Rep.drop {s1 ex : St} {σ : Sig} {w : World} {x : SV} {v : Value} (h : Rep (s1 ++ ex) σ w x v) : Ids s1.length x → Rep s1 σ w x v := by
  induction h with
  | any v => exact fun _ => .any v
  | sc v => exact fun _ => .sc v
  | nil m z hm =>
    intro hi
    refine .nil m z ?_
    cases hi with
    | slice m z l hm2 _ =>
      cases m with
      | imm => trivial
      | full => trivial
      | own id ver =>
        obtain ⟨v0, h1, h2⟩ := hm
        exact ⟨v0, by rw [List.getElem?_append_left (hm2 id ver rfl)] at h1; exact h1, h2⟩
  | slice m z l a cap vals hcap hsp hz hc hr hm ih =>
    intro hi
    cases hi with
    | slice m z l hm2 hel =>
      refine .slice m z l a cap vals hcap hsp hz hc (fun i j hi hj => ih i j hi hj (hel i j hi hj)) ?_
      cases m with
      | imm => trivial
      | full => exact hm
      | own id ver =>
        obtain ⟨v0, h1, h2, h3⟩ := hm
        exact ⟨v0, by rw [List.getElem?_append_left (hm2 id ver rfl)] at h1; exact h1, h2, h3⟩
  | ref cells b o vals hc hr ih =>
    intro hi
    cases hi with
    | ref l hel => exact .ref cells b o vals hc (fun j hj => ih j hj (hel j hj))
  | ptr id off b hk hb =>
    intro hi
    cases hi with
    | ptr id off h =>
      obtain ⟨l, hl⟩ := hk
      exact .ptr id off b ⟨l, by rw [List.getElem?_append_left h] at hl; exact hl⟩ hb
  | func fn first captured vf vc h1 h2 _ _ i1 i2 =>
    intro hi
    cases hi with
    | func fn l k a b => exact .func fn first captured vf vc h1 h2 (fun i hi => i1 i hi (a i hi)) (fun i hi => i2 i hi (b i hi))
  | agg l vs h _ ih =>
    intro hi
    cases hi with
    | agg l hel => exact .agg l vs h (fun i hi => ih i hi (hel i hi))
  | tuple l vs h _ ih =>
    intro hi
    cases hi with
    | tuple l hel => exact .tuple l vs h (fun i hi => ih i hi (hel i hi))
  | gd g x v _ h' ih =>
    intro hi
    cases hi with
    | gd g x hel => exact .gd g x v (fun e => ih e (hel e)) h'
  | slc id z off len cap b hk hb hc =>
    intro hi
    cases hi with
    | slc id z off len cap h =>
      obtain ⟨l, hl⟩ := hk
      exact .slc id z off len cap b ⟨l, by rw [List.getElem?_append_left h] at hl; exact hl⟩ hb hc

theorem Inv.drop {s1 ex : St} {σ : Sig} {w : World} (h : Inv (s1 ++ ex) σ w) (hc : ∀ (id : Nat) (l : List SV), s1[id]? = some (.cells l) → ∀ j, j < l.length → Ids s1.length (l.getD j .any)) : Inv s1 σ w where
  cells := fun id l hl => by
    have hlt := lt_of_get hl
    obtain ⟨b, cs, T, h1, h2, h3, h4, h5⟩ := h.cells id l (by rw [List.getElem?_append_left hlt]; exact hl)
    exact ⟨b, cs, T, h1, h2, h3, fun j hj => (h4 j hj).drop (hc id l hl j hj), h5⟩
  tok := fun id v b hl hb => h.tok id v b (by rw [List.getElem?_append_left (lt_of_get hl)]; exact hl) hb
  inj := fun i j b hi hj h1 h2 => h.inj i j b (by simp; omega) (by simp; omega) h1 h2
  fresh := h.fresh

theorem Ext.drop {s0 s1 ex : St} {σ σ' : Sig} {w w' : World} (h : Ext s0 σ w (s1 ++ ex) σ' w') (hl : s0.length ≤ s1.length) : Ext s0 σ w s1 σ' w' where
  os := h.os
  tape := h.tape
  output := h.output
  size := h.size
  lock := h.lock
  all := h.all
  kcells := fun id l hid => by
    obtain ⟨⟨l', h1⟩, h2⟩ := h.kcells id l hid
    have hlt : id < s1.length := Nat.lt_of_lt_of_le (lt_of_get hid) hl
    exact ⟨⟨l', by rw [List.getElem?_append_left hlt] at h1; exact h1⟩, h2⟩
  ktok := fun id v hid => by
    obtain ⟨v', h1, h2, h3⟩ := h.ktok id v hid
    have hlt : id < s1.length := Nat.lt_of_lt_of_le (lt_of_get hid) hl
    exact ⟨v', by rw [List.getElem?_append_left hlt] at h1; exact h1, h2, h3⟩

/-! Results. -/

def aRes1 (P : Program) (env : List SV) (st : St) : ResultVar → Option SV
  | .tmp t => some (env.getD t .any)
  | .cell a T => match env.getD a .any with
    | .ptr id off => match st[id]? with
      | some (.cells l) => cellsOf P T (l.drop off)
      | _ => none
    | .ref l => cellsOf P T l
    | _ => none

def aResL (P : Program) (env : List SV) (st : St) : List ResultVar → Option (List SV)
  | [] => some []
  | r :: rs => (aRes1 P env st r).bind fun x => (aResL P env st rs).map (x :: ·)

def oneOf : List SV → SV
  | [x] => x
  | l => .tuple l

theorem run_res1 {st : St} {σ : Sig} {w : World} {env : List SV} {a : Array Value} (hI : Inv st σ w) (hR : RepEnv st σ w env a) {r : ResultVar} {x : SV} (h : aRes1 P env st r = some x) :
    ∃ v, (match r with | .tmp t => pure (a.getD t undef) | .cell p t => do loadVar t (← asAddr (a.getD p undef)) : Sem Value).run P w = .ok v w ∧ Rep st σ w x v := by
  cases r with
  | tmp t => injection h with h; subst h; exact ⟨_, rfl, hR.get t⟩
  | cell p T =>
    simp only [aRes1] at h
    have hr := hR.get p
    split at h
    · rename_i id off hp
      rw [hp] at hr
      generalize hv : a.getD p undef = v at hr
      split at h
      · rename_i l hl
        cases hr with
        | ptr id off b hkk hb =>
          obtain ⟨b', cs, T', h1, h2, h3, h4, h5⟩ := hI.cells id l hl
          rw [h1] at hb; cases hb
          obtain ⟨v, h6, h7⟩ := run_loadVar_cells (st := st) (σ := σ) (w := w) b off (fun j => cs.getD (off + j) default) h (fun j hj => by
            simp at hj
            have : off + j < cs.size := by omega
            simp [World.cell?, h2, Array.getD, this]) (fun j hj => by
            simp at hj
            have := h4 (off + j) (by omega)
            simpa [List.getD_eq_getElem?_getD] using this)
          exact ⟨v, by simp [hv, asAddr, h6], h7⟩
      · cases h
    · rename_i l hp
      rw [hp] at hr
      generalize hv : a.getD p undef = v at hr
      cases hr with
      | ref cells b o vals hc hr =>
        obtain ⟨v, h1, h2⟩ := run_loadVar_cells b o vals h (fun j hj => (hc j hj).1) hr
        exact ⟨v, by simp [hv, asAddr, h1], h2⟩
    · cases h

theorem run_resL {st : St} {σ : Sig} {w : World} {env : List SV} {a : Array Value} (hI : Inv st σ w) (hR : RepEnv st σ w env a) : ∀ (rs : List ResultVar) (l : List SV), aResL P env st rs = some l →
    ∃ vs : List Value, (rs.mapM (fun r => (match r with | .tmp t => pure (a.getD t undef) | .cell p t => do loadVar t (← asAddr (a.getD p undef)) : Sem Value))).run P w = .ok vs w ∧ vs.length = l.length ∧
      ∀ i, i < l.length → Rep st σ w (l.getD i .any) (vs.getD i default)
  | [], l, h => by injection h with h; subst h; exact ⟨[], rfl, rfl, fun i hi => absurd hi (Nat.not_lt_zero _)⟩
  | r :: rs, l, h => by
    simp only [aResL] at h
    cases hx : aRes1 P env st r with
    | none => simp [hx] at h
    | some x =>
      cases hl : aResL P env st rs with
      | none => simp [hx, hl] at h
      | some l' =>
        simp [hx, hl] at h
        subst h
        obtain ⟨v, h1, h2⟩ := run_res1 hI hR hx
        obtain ⟨vs, h3, h4, h5⟩ := run_resL hI hR rs l' hl
        refine ⟨v :: vs, ?_, by simp [h4], fun i hi => ?_⟩
        · simp only [List.mapM_cons, Sem.run_bind, h1, Result.andThen_ok, h3, Sem.run_pure]
        · cases i with
          | zero => exact h2
          | succ i => simpa using h5 i (by simpa using hi)

theorem run_results {st : St} {σ : Sig} {w : World} {env : List SV} {a : Array Value} {fn : Func} (hI : Inv st σ w) (hR : RepEnv st σ w env a) {l : List SV} (h : aResL P env st fn.results.toList = some l) :
    ∃ v, (results fn a).run P w = .ok v w ∧ Rep st σ w (oneOf l) v := by
  obtain ⟨vs, h1, h2, h3⟩ := run_resL (P := P) hI hR _ l h
  have h1' : (fn.results.mapM (fun r => (match r with | .tmp t => pure (a.getD t undef) | .cell p t => do loadVar t (← asAddr (a.getD p undef)) : Sem Value))).run P w = .ok vs.toArray w := by
    rw [Array.mapM_eq_mapM_toList]
    simp only [Sem.run_map, h1, Result.andThen_ok]
  have h4 : (results fn a).run P w = .ok (if h : vs.toArray.size = 1 then vs.toArray[0] else .tuple vs.toArray) w := by
    unfold results
    simp only [Sem.run_bind, Sem.run_pure]
    exact congrArg (fun r => Result.andThen r (fun a w' => Result.ok (if h : a.size = 1 then a[0] else Value.tuple a) w')) h1'
  refine ⟨_, h4, ?_⟩
  by_cases hc : ∃ x, l = [x]
  · obtain ⟨x, rfl⟩ := hc
    have hv : ∃ v, vs = [v] := by
      cases vs with
      | nil => simp at h2
      | cons v r => cases r with
        | nil => exact ⟨v, rfl⟩
        | cons _ _ => simp at h2
    obtain ⟨v, rfl⟩ := hv
    simpa [oneOf] using h3 0 (by simp)
  · have hne : ¬ vs.toArray.size = 1 := by
      intro e
      have e' : l.length = 1 := by rw [← h2]; simpa using e
      exact hc (List.length_eq_one_iff.1 e')
    rw [dif_neg hne]
    have ho : oneOf l = .tuple l := by
      unfold oneOf
      split
      · exact absurd ⟨_, rfl⟩ hc
      · rfl
    rw [ho]
    refine .tuple l _ (by simpa using h2) fun i hi => ?_
    have := h3 i hi
    simpa [Array.getD_eq_getD_getElem?, List.getD_eq_getElem?_getD] using this

/-- What a body must come to: the results stand in the frame. -/
def RetQ (P : Program) (fn : Func) (K : SV → St → Prop) : Exit → List SV → St → Prop := fun e env st =>
  (match e with | .normal => True | .ret => True | _ => False) ∧ ∃ l, aResL P env st fn.results.toList = some l ∧ K (oneOf l) st

theorem acalls_of {f : FuncId} {fn : Func} {c : Code} {args : List SV} {K : SV → St → Prop} {st : St} (hf : P.funcs[f]? = some fn) (hb : fn.body = some c)
    (h : AWp P c (RetQ P fn K) (args ++ List.replicate (fn.ntmps - args.length) .any) st) : ACalls P f args K st := by
  intro σ w vs hI hR
  refine calls_of_wp hf hb (wp_mono (h σ w { tmps := vs ++ Array.replicate (fn.ntmps - vs.size) undef, defers := [] } hI ⟨by simp [hR.1], fun i hi => ?_⟩ rfl) fun e a' w' hp => ?_)
  · rw [Array.getD_eq_getD_getElem?, List.getD_eq_getElem?_getD]
    by_cases c1 : i < args.length
    · rw [List.getElem?_append_left c1, Array.getElem?_append_left (by rw [hR.1]; exact c1)]
      have := hR.2 i c1
      rwa [Array.getD_eq_getD_getElem?, List.getD_eq_getElem?_getD] at this
    · rw [List.getElem?_append_right (by omega), List.getElem?_replicate]
      split <;> exact .any _
  · obtain ⟨hd, env', st', σ', ⟨he, l, hl, hk⟩, hI', hR', hX⟩ := hp
    obtain ⟨v, h1, h2⟩ := run_results (P := P) hI' hR' hl
    cases e <;> simp only at he <;> exact ⟨hd, v, h1, v, _, st', σ', rfl, hk, hI', h2, hX⟩

/-- What the call made is forgotten, but for what its result says. -/
theorem acalls_drop {f : FuncId} {args : List SV} {K : SV → St → Prop} {st : St}
    (h : ACalls P f args (fun x s => ∃ s1 ex, s = s1 ++ ex ∧ st.length ≤ s1.length ∧ (∀ (id : Nat) (l : List SV), s1[id]? = some (.cells l) → ∀ j, j < l.length → Ids s1.length (l.getD j .any)) ∧ Ids s1.length (norm x) ∧ K (norm x) s1) st) :
    ACalls P f args K st := by
  intro σ w vs hI hR
  refine (h σ w vs hI hR).mono ?_
  rintro e w' ⟨v, x, st', σ', rfl, ⟨s1, ex, rfl, hl, hc, hids, hk⟩, hI', hr, hX⟩
  exact ⟨v, norm x, s1, σ', rfl, hk, hI'.drop hc, hr.norm.drop hids, hX.drop hl⟩

/-- The same where nothing that was there has turned. -/
theorem acalls_pure {f : FuncId} {args : List SV} {K : SV → St → Prop} {st : St}
    (h : ACalls P f args (fun x s => ∃ ex, s = st ++ ex ∧ Ids st.length (norm x) ∧ K (norm x) st) st) : ACalls P f args K st := by
  intro σ w vs hI hR
  refine acalls_drop (h.mono ?_) σ w vs hI hR
  rintro x s ⟨ex, rfl, hids, hk⟩
  exact ⟨st, ex, rfl, Nat.le_refl _, fun id l hl j hj => (by
    obtain ⟨b, cs, T, _, _, _, h4, _⟩ := hI.cells id l hl
    exact (h4 j hj).ids), hids, hk⟩

end Go.AL
