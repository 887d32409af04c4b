/- The abstract layer, part 7: functions: their entry, their results, what is forgotten at their end. -/
import Derived.Test.YtcanmhognofheaaA1
import Derived.Laws.BytesString
import Derived.DeepKeys3
import Derived.MapKept
import Derived.Laws.StructEq
set_option linter.all false
set_option linter.unusedVariables false
namespace Go.AL
variable {P : Program}
inductive Ids (n : Nat) : SV → Prop where
  | any : Ids n .any
  | sc (v : Value) : Ids n (.sc v)
  | slice (m : Mode) (z : Nat) (l : List SV) (hm : ∀ id ver,m = .own id ver → id < n) (h : ∀ i j,i < l.length → j < z → Ids n ((l.getD i .any).cells.getD j .any)) : Ids n (.slice m z l)
  | ref (l : List SV) (h : ∀ i,i < l.length → Ids n (l.getD i .any)) : Ids n (.ref l)
  | ptr (id off : Nat) (h : id < n) : Ids n (.ptr id off)
  | func (fn : Fn) (l k : List SV) (h : ∀ i,i < l.length → Ids n (l.getD i .any)) (h' : ∀ i,i < k.length → Ids n (k.getD i .any)) : Ids n (.func fn l k)
  | agg (l : List SV) (h : ∀ i,i < l.length → Ids n (l.getD i .any)) : Ids n (.agg l)
  | tuple (l : List SV) (h : ∀ i,i < l.length → Ids n (l.getD i .any)) : Ids n (.tuple l)
  | gd (g : Bool) (x : SV) (h : g = true → Ids n x) : Ids n (.gd g x)
  | slc (id z off len cap : Nat) (h : id < n) : Ids n (.slc id z off len cap)
  | mp (id : Nat) (h : id < n) : Ids n (.mp id)
  | stamp (id j : Nat) (h : id < n) : Ids n (.stamp id j)
  | arr (id ver m : Nat) (h : id < n) : Ids n (.arr id ver m)
  | aptr (id ver off : Nat) (h : id < n) : Ids n (.aptr id ver off)
theorem Rep.ids {st : St} {σ : Sig} {w : World} {x : SV} {v : Value} (h : Rep st σ w x v) : Ids st.length x := by
  induction h with
  | any v => exact .any
  | sc v => exact .sc v
  | nil m z hm =>
    refine .slice m z [] (fun id ver e => ?_) (fun i j hi => absurd hi (Nat.not_lt_zero _))
    subst e
    obtain ⟨v0,h1,_⟩ := hm
    exact lt_of_get h1
  | slice m z l a cap vals hcap hsp hz hc hr hm ih =>
    refine .slice m z l (fun id ver e => ?_) ih
    subst e
    obtain ⟨v0,h1,_⟩ := hm
    exact lt_of_get h1
  | ref cells b o vals hc hr ih => exact .ref cells ih
  | ptr id off b hk hb =>
    obtain ⟨l,hl⟩ := hk
    exact .ptr id off (lt_of_get hl)
  | func fn first captured vf vc h1 h2 _ _ i1 i2 => exact .func fn first captured i1 i2
  | agg l vs h _ ih => exact .agg l ih
  | tuple l vs h _ ih => exact .tuple l ih
  | gd g x v _ h' ih => exact .gd g x ih
  | slc id z off len cap b hk hb hc =>
    obtain ⟨l,hl⟩ := hk
    exact .slc id z off len cap (lt_of_get hl)
  | mp id b hk hb =>
    obtain ⟨l,hl⟩ := hk
    exact .mp id (lt_of_get hl)
  | stamp id j b ents clock hk hb hh hj =>
    obtain ⟨l,hl⟩ := hk
    exact .stamp id j (lt_of_get hl)
  | arr id ver n v0 z cs v ho hk hv h => exact .arr id ver n (lt_of_get hk)
  | aptr id ver off v0 z cs v ho hk hv h => exact .aptr id ver off (lt_of_get hk)
def ObIds (n : Nat) : Ob → Prop
  | .cells l => ∀ j,j < l.length → Ids n (l.getD j .any)
  | .map es => ∀ j,j < es.length → Ids n (es.getD j (default,.any)).2
  | .tok _ => True
  | .glob _ _ => True
  | .arr _ _ l => ∀ j,j < l.length → Ids n (l.getD j .any)
theorem Inv.obIds {st : St} {σ : Sig} {w : World} (hI : Inv st σ w) (id : Nat) (o : Ob) (h : st[id]? = some o) : ObIds st.length o := by
  cases o with
  | cells l =>
    obtain ⟨b,cs,T,_,_,_,h4,_⟩ := hI.cells id l h
    exact fun j hj => (h4 j hj).ids
  | map es =>
    obtain ⟨b,en,c,_,_,h4,_⟩ := hI.maps id es h
    exact fun j hj => (h4.2.1 j hj).2.ids
  | tok v => trivial
  | glob _ _ => trivial
  | arr v z cs =>
    rcases hI.arrs id v z cs h with ⟨_,rfl⟩ | ⟨b,vals,T,_,_,_,h4,_⟩
    · exact fun j hj => absurd hj (Nat.not_lt_zero _)
    · exact fun j hj => (h4 j hj).ids
theorem Rep.drop {s1 ex : St} {σ : Sig} {w : World} {x : SV} {v : Value} (h : Rep (s1 ++ ex) σ w x v) : Ids s1.length x → Rep s1 σ w x v := by
  induction h with
  | any v => exact fun _ => .any v
  | sc v => exact fun _ => .sc v
  | nil m z hm =>
    intro hi
    refine .nil m z ?_
    cases hi with
    | slice m z l hm2 _ =>
      cases m with
      | imm => trivial
      | full => trivial
      | own id ver =>
        obtain ⟨v0,h1,h2⟩ := hm
        exact ⟨v0,by rw [List.getElem?_append_left (hm2 id ver rfl)] at h1; exact h1,h2⟩
  | slice m z l a cap vals hcap hsp hz hc hr hm ih =>
    intro hi
    cases hi with
    | slice m z l hm2 hel =>
      refine .slice m z l a cap vals hcap hsp hz hc (fun i j hi hj => ih i j hi hj (hel i j hi hj)) ?_
      cases m with
      | imm => trivial
      | full => exact hm
      | own id ver =>
        obtain ⟨v0,h1,h2,h3⟩ := hm
        exact ⟨v0,by rw [List.getElem?_append_left (hm2 id ver rfl)] at h1; exact h1,h2,h3⟩
  | ref cells b o vals hc hr ih =>
    intro hi
    cases hi with
    | ref l hel => exact .ref cells b o vals hc (fun j hj => ih j hj (hel j hj))
  | ptr id off b hk hb =>
    intro hi
    cases hi with
    | ptr id off h =>
      obtain ⟨l,hl⟩ := hk
      exact .ptr id off b ⟨l,by rw [List.getElem?_append_left h] at hl; exact hl⟩ hb
  | func fn first captured vf vc h1 h2 _ _ i1 i2 =>
    intro hi
    cases hi with
    | func fn l k a b => exact .func fn first captured vf vc h1 h2 (fun i hi => i1 i hi (a i hi)) (fun i hi => i2 i hi (b i hi))
  | agg l vs h _ ih =>
    intro hi
    cases hi with
    | agg l hel => exact .agg l vs h (fun i hi => ih i hi (hel i hi))
  | tuple l vs h _ ih =>
    intro hi
    cases hi with
    | tuple l hel => exact .tuple l vs h (fun i hi => ih i hi (hel i hi))
  | gd g x v _ h' ih =>
    intro hi
    cases hi with
    | gd g x hel => exact .gd g x v (fun e => ih e (hel e)) h'
  | slc id z off len cap b hk hb hc =>
    intro hi
    cases hi with
    | slc id z off len cap h =>
      obtain ⟨l,hl⟩ := hk
      exact .slc id z off len cap b ⟨l,by rw [List.getElem?_append_left h] at hl; exact hl⟩ hb hc
  | mp id b hk hb =>
    intro hi
    cases hi with
    | mp id h =>
      obtain ⟨l,hl⟩ := hk
      exact .mp id b ⟨l,by rw [List.getElem?_append_left h] at hl; exact hl⟩ hb
  | stamp id j b ents clock hk hb hh hj =>
    intro hi
    cases hi with
    | stamp id j h =>
      obtain ⟨l,hl⟩ := hk
      exact .stamp id j b ents clock ⟨l,by rw [List.getElem?_append_left h] at hl; exact hl⟩ hb hh hj
  | arr id ver n v0 z cs v ho hk hv h =>
    intro hi
    cases hi with
    | arr _ _ _ hlt => exact .arr id ver n v0 z cs v ho (by rw [List.getElem?_append_left hlt] at hk; exact hk) hv h
  | aptr id ver off v0 z cs v ho hk hv h =>
    intro hi
    cases hi with
    | aptr _ _ _ hlt => exact .aptr id ver off v0 z cs v ho (by rw [List.getElem?_append_left hlt] at hk; exact hk) hv h
theorem Inv.drop {s1 ex : St} {σ : Sig} {w : World} (h : Inv (s1 ++ ex) σ w) (hc : ∀ (id : Nat) (o : Ob),s1[id]? = some o → ObIds s1.length o) : Inv s1 σ w where
  cells := fun id l hl => by
    have hlt := lt_of_get hl
    obtain ⟨b,cs,T,h1,h2,h3,h4,h5⟩ := h.cells id l (by rw [List.getElem?_append_left hlt]; exact hl)
    exact ⟨b,cs,T,h1,h2,h3,fun j hj => (h4 j hj).drop (hc id _ hl j hj),h5⟩
  tok := fun id v b hl hb => h.tok id v b (by rw [List.getElem?_append_left (lt_of_get hl)]; exact hl) hb
  inj := fun i j b hi hj h1 h2 => h.inj i j b (by simp; omega) (by simp; omega) h1 h2
  fresh := h.fresh
  arrs := fun id v z cs hk => by
    have hlt := lt_of_get hk
    refine (h.arrs id v z cs (by rw [List.getElem?_append_left hlt]; exact hk)).imp (fun h => h) fun ⟨b,vals,T,h1,h2,h3,h4,h5⟩ => ?_
    exact ⟨b,vals,T,h1,h2,h3,fun j hj => (h4 j hj).drop (hc id _ hk j hj),h5⟩
  maps := fun id l hl => by
    have hlt := lt_of_get hl
    obtain ⟨b,en,c,h1,h2,h3,h4⟩ := h.maps id l (by rw [List.getElem?_append_left hlt]; exact hl)
    exact ⟨b,en,c,h1,h2,⟨h3.1,fun j hj => ⟨(h3.2.1 j hj).1,(h3.2.1 j hj).2.drop (hc id _ hl j hj)⟩,h3.2.2⟩,h4⟩
  globs := fun id b v hl => h.globs id b v (by rw [List.getElem?_append_left (lt_of_get hl)]; exact hl)
theorem Ext.drop {s0 s1 ex : St} {σ σ' : Sig} {w w' : World} (h : Ext s0 σ w (s1 ++ ex) σ' w') (hl : s0.length ≤ s1.length) : Ext s0 σ w s1 σ' w' where
  os := h.os
  tape := h.tape
  output := h.output
  size := h.size
  lock := h.lock
  all := h.all
  kcells := fun id l hid => by
    obtain ⟨⟨l',h1⟩,h2⟩ := h.kcells id l hid
    have hlt : id < s1.length := Nat.lt_of_lt_of_le (lt_of_get hid) hl
    exact ⟨⟨l',by rw [List.getElem?_append_left hlt] at h1; exact h1⟩,h2⟩
  ktok := fun id v hid => by
    obtain ⟨v',h1,h2,h3⟩ := h.ktok id v hid
    have hlt : id < s1.length := Nat.lt_of_lt_of_le (lt_of_get hid) hl
    exact ⟨v',by rw [List.getElem?_append_left hlt] at h1; exact h1,h2,h3⟩
  karrs := fun id v z c hid => by
    obtain ⟨v',c',h1,h2,h3⟩ := h.karrs id v z c hid
    have hlt : id < s1.length := Nat.lt_of_lt_of_le (lt_of_get hid) hl
    exact ⟨v',c',by rw [List.getElem?_append_left hlt] at h1; exact h1,h2,h3⟩
  kmaps := fun id l hid => by
    obtain ⟨⟨l',h1⟩,h2,h3⟩ := h.kmaps id l hid
    have hlt : id < s1.length := Nat.lt_of_lt_of_le (lt_of_get hid) hl
    exact ⟨⟨l',by rw [List.getElem?_append_left hlt] at h1; exact h1⟩,h2,h3⟩
def aRes1 (P : Program) (env : List SV) (st : St) : ResultVar → Option SV
  | .tmp t => some (env.getD t .any)
  | .cell a T => match env.getD a .any with
    | .ptr id off => match st[id]? with
      | some (.cells l) => cellsOf P T (l.drop off)
      | _ => none
    | .ref l => cellsOf P T l
    | _ => none
def aResL (P : Program) (env : List SV) (st : St) : List ResultVar → Option (List SV)
  | [] => some []
  | r :: rs => (aRes1 P env st r).bind fun x => (aResL P env st rs).map (x :: ·)
def oneOf : List SV → SV
  | [x] => x
  | l => .tuple l
theorem run_res1 {st : St} {σ : Sig} {w : World} {env : List SV} {a : Array Value} (hI : Inv st σ w) (hR : RepEnv st σ w env a) {r : ResultVar} {x : SV} (h : aRes1 P env st r = some x) :
    ∃ v,(match r with | .tmp t => pure (a.getD t undef) | .cell p t => do loadVar t (← asAddr (a.getD p undef)) : Sem Value).run P w = .ok v w ∧ Rep st σ w x v := by
  cases r with
  | tmp t => injection h with h; subst h; exact ⟨_,rfl,hR.get t⟩
  | cell p T =>
    simp only [aRes1] at h
    have hr := hR.get p
    split at h
    · rename_i id off hp
      rw [hp] at hr
      generalize hv : a.getD p undef = v at hr
      split at h
      · rename_i l hl
        cases hr with
        | ptr id off b hkk hb =>
          obtain ⟨b',cs,T',h1,h2,h3,h4,h5⟩ := hI.cells id l hl
          rw [h1] at hb; cases hb
          obtain ⟨v,h6,h7⟩ := run_loadVar_cells (st := st) (σ := σ) (w := w) b off (fun j => cs.getD (off + j) default) h (fun j hj => by
            simp at hj
            have : off + j < cs.size := by omega
            simp [World.cell?,h2,Array.getD,this]) (fun j hj => by
            simp at hj
            have := h4 (off + j) (by omega)
            simpa [List.getD_eq_getElem?_getD] using this)
          exact ⟨v,by simp [hv,asAddr,h6],h7⟩
      · cases h
    · rename_i l hp
      rw [hp] at hr
      generalize hv : a.getD p undef = v at hr
      cases hr with
      | ref cells b o vals hc hr =>
        obtain ⟨v,h1,h2⟩ := run_loadVar_cells b o vals h (fun j hj => (hc j hj).1) hr
        exact ⟨v,by simp [hv,asAddr,h1],h2⟩
    · cases h
theorem run_resL {st : St} {σ : Sig} {w : World} {env : List SV} {a : Array Value} (hI : Inv st σ w) (hR : RepEnv st σ w env a) : ∀ (rs : List ResultVar) (l : List SV),aResL P env st rs = some l →
    ∃ vs : List Value,(rs.mapM (fun r => (match r with | .tmp t => pure (a.getD t undef) | .cell p t => do loadVar t (← asAddr (a.getD p undef)) : Sem Value))).run P w = .ok vs w ∧ vs.length = l.length ∧
      ∀ i,i < l.length → Rep st σ w (l.getD i .any) (vs.getD i default)
  | [],l,h => by injection h with h; subst h; exact ⟨[],rfl,rfl,fun i hi => absurd hi (Nat.not_lt_zero _)⟩
  | r :: rs,l,h => by
    simp only [aResL] at h
    cases hx : aRes1 P env st r with
    | none => simp [hx] at h
    | some x =>
      cases hl : aResL P env st rs with
      | none => simp [hx,hl] at h
      | some l' =>
        simp [hx,hl] at h
        subst h
        obtain ⟨v,h1,h2⟩ := run_res1 hI hR hx
        obtain ⟨vs,h3,h4,h5⟩ := run_resL hI hR rs l' hl
        refine ⟨v :: vs,?_,by simp [h4],fun i hi => ?_⟩
        · simp only [List.mapM_cons,Sem.run_bind,h1,Result.andThen_ok,h3,Sem.run_pure]
        · cases i with
          | zero => exact h2
          | succ i => simpa using h5 i (by simpa using hi)
theorem run_results {st : St} {σ : Sig} {w : World} {env : List SV} {a : Array Value} {fn : Func} (hI : Inv st σ w) (hR : RepEnv st σ w env a) {l : List SV} (h : aResL P env st fn.results.toList = some l) :
    ∃ v,(results fn a).run P w = .ok v w ∧ Rep st σ w (oneOf l) v := by
  obtain ⟨vs,h1,h2,h3⟩ := run_resL (P := P) hI hR _ l h
  have h1' : (fn.results.mapM (fun r => (match r with | .tmp t => pure (a.getD t undef) | .cell p t => do loadVar t (← asAddr (a.getD p undef)) : Sem Value))).run P w = .ok vs.toArray w := by
    rw [Array.mapM_eq_mapM_toList]
    simp only [Sem.run_map,h1,Result.andThen_ok]
  have h4 : (results fn a).run P w = .ok (if h : vs.toArray.size = 1 then vs.toArray[0] else .tuple vs.toArray) w := by
    unfold results
    simp only [Sem.run_bind,Sem.run_pure]
    exact congrArg (fun r => Result.andThen r (fun a w' => Result.ok (if h : a.size = 1 then a[0] else Value.tuple a) w')) h1'
  refine ⟨_,h4,?_⟩
  by_cases hc : ∃ x,l = [x]
  · obtain ⟨x,rfl⟩ := hc
    have hv : ∃ v,vs = [v] := by
      cases vs with
      | nil => simp at h2
      | cons v r => cases r with
        | nil => exact ⟨v,rfl⟩
        | cons _ _ => simp at h2
    obtain ⟨v,rfl⟩ := hv
    simpa [oneOf] using h3 0 (by simp)
  · have hne : ¬ vs.toArray.size = 1 := by
      intro e
      have e' : l.length = 1 := by rw [← h2]; simpa using e
      exact hc (List.length_eq_one_iff.1 e')
    rw [dif_neg hne]
    have ho : oneOf l = .tuple l := by
      unfold oneOf
      split
      · exact absurd ⟨_,rfl⟩ hc
      · rfl
    rw [ho]
    refine .tuple l _ (by simpa using h2) fun i hi => ?_
    have := h3 i hi
    simpa [Array.getD_eq_getD_getElem?,List.getD_eq_getElem?_getD] using this
def RetQ (P : Program) (fn : Func) (K : SV → St → Prop) : Exit → List SV → St → Prop := fun e env st =>
  (match e with | .normal => True | .ret => True | _ => False) ∧ ∃ l,aResL P env st fn.results.toList = some l ∧ K (oneOf l) st
theorem acalls_of {f : FuncId} {fn : Func} {c : Code} {args : List SV} {K : SV → St → Prop} {st : St} (hf : P.funcs[f]? = some fn) (hb : fn.body = some c)
    (h : AWp P c (RetQ P fn K) (args ++ List.replicate (fn.ntmps - args.length) .any) st) : ACalls P f args K st := by
  intro σ w vs hI hR
  refine calls_of_wp hf hb (wp_mono (h σ w { tmps := vs ++ Array.replicate (fn.ntmps - vs.size) undef,defers := [] } hI ⟨by simp [hR.1],fun i hi => ?_⟩ rfl) fun e a' w' hp => ?_)
  · rw [Array.getD_eq_getD_getElem?,List.getD_eq_getElem?_getD]
    by_cases c1 : i < args.length
    · rw [List.getElem?_append_left c1,Array.getElem?_append_left (by rw [hR.1]; exact c1)]
      have := hR.2 i c1
      rwa [Array.getD_eq_getD_getElem?,List.getD_eq_getElem?_getD] at this
    · rw [List.getElem?_append_right (by omega),List.getElem?_replicate]
      split <;> exact .any _
  · obtain ⟨hd,env',st',σ',⟨he,l,hl,hk⟩,hI',hR',hX⟩ := hp
    obtain ⟨v,h1,h2⟩ := run_results (P := P) hI' hR' hl
    cases e <;> simp only at he <;> exact ⟨hd,v,h1,v,_,st',σ',rfl,hk,hI',h2,hX⟩
theorem acalls_drop {f : FuncId} {args : List SV} {K : SV → St → Prop} {st : St}
    (h : ACalls P f args (fun x s => ∃ s1 ex,s = s1 ++ ex ∧ st.length ≤ s1.length ∧ (∀ (id : Nat) (o : Ob),s1[id]? = some o → ObIds s1.length o) ∧ Ids s1.length (norm x) ∧ K (norm x) s1) st) :
    ACalls P f args K st := by
  intro σ w vs hI hR
  refine (h σ w vs hI hR).mono ?_
  rintro e w' ⟨v,x,st',σ',rfl,⟨s1,ex,rfl,hl,hc,hids,hk⟩,hI',hr,hX⟩
  exact ⟨v,norm x,s1,σ',rfl,hk,hI'.drop hc,hr.norm.drop hids,hX.drop hl⟩
theorem acalls_pure {f : FuncId} {args : List SV} {K : SV → St → Prop} {st : St}
    (h : ACalls P f args (fun x s => ∃ ex,s = st ++ ex ∧ Ids st.length (norm x) ∧ K (norm x) st) st) : ACalls P f args K st := by
  intro σ w vs hI hR
  refine acalls_drop (h.mono ?_) σ w vs hI hR
  rintro x s ⟨ex,rfl,hids,hk⟩
  exact ⟨st,ex,rfl,Nat.le_refl _,hI.obIds,hids,hk⟩
end Go.AL
namespace Go.AL
variable {P : Program}
theorem ap_indexAddr_slc {o : Oper} {t e : TypeId} {x y : Operand} {k : IntKind} {i : Int} {id z off len cap : Nat} {ρ : Operand → SV} {st : St}
    (ho : o.op = .indexAddr t x y) (hx : ρ x = .slc id z off len cap) (hy : ρ y = .sc (.int k i)) (he : aElem P t = some e) (hz : aSize P e = some z)
    (h0 : 0 ≤ i) (hi : i < len) : APure P o ρ st (.ptr id (off + i.toNat * z)) := by
  intro σ w a hI hR
  have hr := hR x (by simp [ho,Op.operands])
  rw [hx] at hr
  have e2 := rep_sc (by have := hR y (by simp [ho,Op.operands]); rw [hy] at this; exact this)
  generalize hv : a.eval x = v at hr
  cases hr with
  | slc id z off len cap b hk hb hc =>
    exact ⟨_,by simp [execOp,ho,hv,e2,Instr.indexAt,asIntOf,run_underlying (und_slice he),h0,hi,run_sizeOf' hz,addr_add],.ptr id _ b hk hb⟩
theorem ap_len_slc {o : Oper} {t e : TypeId} {x : Operand} {id z off len cap : Nat} {ρ : Operand → SV} {st : St}
    (ho : o.op = .call { callee := .builtin .len,args := #[x],argTypes := #[t] }) (hx : ρ x = .slc id z off len cap) (he : aElem P t = some e) : APure P o ρ st (.sc (.int .i64 len)) := by
  intro σ w a hI hR
  have hr := hR x (by simp [ho,Op.operands,Call.operands])
  rw [hx] at hr
  generalize hv : a.eval x = v at hr
  cases hr with
  | slc id z off len cap b hk hb hc =>
    exact ⟨_,by simp [execOp,ho,resolve,invoke,builtin,hv,Builtin.len_,run_underlying (und_slice he),goInt],.sc _⟩
theorem ap_slice_slc {o : Oper} {t e : TypeId} {x : Operand} {lo hi : Option Operand} {nl nh : Int} {id z off len cap : Nat} {ρ : Operand → SV} {st : St}
    (ho : o.op = .slice t x lo hi none) (hx : ρ x = .slc id z off len cap) (he : aElem P t = some e) (hz : aSize P e = some z)
    (hl : bound ρ lo 0 = some nl) (hh : bound ρ hi len = some nh) (h0 : 0 ≤ nl) (h1 : nl ≤ nh) (h2 : nh ≤ cap) :
    APure P o ρ st (.slc id z (if cap = nl.toNat then off else off + nl.toNat * z) (nh.toNat - nl.toNat) (cap - nl.toNat)) := by
  intro σ w a hI hR
  have hr := hR x (by simp [ho,Op.operands])
  rw [hx] at hr
  generalize hv : a.eval x = v at hr
  cases hr with
  | slc id z off len cap b hk hb hc =>
    refine ⟨.slice (some (if cap = nl.toNat then ⟨b,off,none⟩ else (⟨b,off,none⟩ : Addr).add (nl.toNat * z))) (nh.toNat - nl.toNat) (cap - nl.toNat),?_,?_⟩
    · have eh : (match hi.map a.eval with | some v => Instr.sliceBound v cap .sliceAcap | none => pure len).run P w = .ok nh.toNat w := by
        cases hi with
        | none => simp [bound] at hh; subst hh; simp
        | some y => exact run_bound (P := P) (hR y (by simp [ho,Op.operands])) (y := y) (n := nh) (by simpa [bound] using hh) (by omega) _ h2 _
      have hb : (Instr.sliceBounds true len cap (lo.map a.eval) (hi.map a.eval) none).run P w = .ok (nl.toNat,nh.toNat,cap) w := by
        cases lo with
        | none => simp [bound] at hl; subst hl; cases hi <;> simp [Instr.sliceBounds] at eh ⊢ <;> simp [eh]
        | some y =>
          have el := run_bound (P := P) (hR y (by simp [ho,Op.operands])) (y := y) (n := nl) (by simpa [bound] using hl) h0 nh.toNat (by omega) .sliceB
          cases hi <;> simp [Instr.sliceBounds] at eh ⊢ <;> simp [eh,el]
      simp [execOp,ho,hv,Instr.sliceAt,Instr.slice,run_underlying (und_slice he),hb,run_sizeOf' hz]
      split <;> rfl
    · by_cases c : cap = nl.toNat
      · rw [if_pos c,if_pos c]; exact .slc id z off _ _ b hk hb (by omega)
      · rw [if_neg c,if_neg c,addr_add]; exact .slc id z _ _ _ b hk hb (by omega)
theorem flat_len {z : Nat} : ∀ (l : List SV),(∀ x ∈ l,x.cells.length = z) → (l.flatMap SV.cells).length = l.length * z
  | [],_ => by simp
  | x :: r,h => by
    rw [List.flatMap_cons,List.length_append,flat_len r (fun y hy => h y (by simp [hy])),h x (by simp),List.length_cons,Nat.add_mul,Nat.one_mul,Nat.add_comm]
theorem flat_get {z : Nat} : ∀ (l : List SV) (i j : Nat),(∀ x ∈ l,x.cells.length = z) → i < l.length → j < z → (l.flatMap SV.cells).getD (i * z + j) .any = (l.getD i .any).cells.getD j .any
  | [],i,j,_,hi,_ => absurd hi (Nat.not_lt_zero _)
  | x :: r,i,j,h,hi,hj => by
    have hx := h x (by simp)
    rw [List.flatMap_cons,List.getD_eq_getElem?_getD]
    cases i with
    | zero =>
      rw [Nat.zero_mul,Nat.zero_add,List.getElem?_append_left (by omega)]
      simp [List.getD_eq_getElem?_getD]
    | succ i =>
      have e : (i + 1) * z + j = x.cells.length + (i * z + j) := by rw [hx,Nat.add_mul,Nat.one_mul]; omega
      rw [e,List.getElem?_append_right (by omega),Nat.add_sub_cancel_left,← List.getD_eq_getElem?_getD,flat_get r i j (fun y hy => h y (by simp [hy])) (by simpa using hi) hj]
      simp
theorem load_first {st : St} {σ : Sig} {w : World} {m : Mode} {z : Nat} {l : List SV} {a : Option Addr} {len cap : Nat} (h : Rep st σ w (.slice m z l) (.slice a len cap)) (n : Nat) (hn : n ≤ l.length) :
    (∃ cs : Array Value,(Builtin.firstCells z n (.slice a len cap)).run P w = .ok cs w ∧ RepL st σ w ((l.take n).flatMap SV.cells) cs) ∧ ∀ x ∈ l,x.cells.length = z := by
  obtain ⟨ad,cap',he,hcap⟩ := rep_slice_form h
  cases he
  have hsub := rep_sub h 0 n cap (Nat.zero_le _) hn (by omega) (Nat.le_refl _) .imm (.inl rfl)
  have hz : ∀ x ∈ l,x.cells.length = z := by
    intro x hx
    obtain ⟨_,_,_,_,h4⟩ := load_slice (P := P) h
    obtain ⟨i,hi⟩ := List.getElem?_of_mem hx
    have := h4 i (lt_of_get hi)
    rwa [List.getD_eq_getElem?_getD,hi] at this
  refine ⟨?_,hz⟩
  obtain ⟨cs,h1,h2,h3,h4⟩ := load_slice (P := P) hsub
  simp only [List.drop_zero,Nat.sub_zero] at h1 h2 h3 h4
  have hlen : (l.take n).length = n := by simp; omega
  rw [hlen] at h1 h2 h3
  have hz' : ∀ x ∈ l.take n,x.cells.length = z := fun x hx => hz x (List.mem_of_mem_take hx)
  refine ⟨cs,?_,?_,fun p hp => ?_⟩
  · have e : (Builtin.firstCells z n (.slice a l.length cap)) = (Builtin.firstCells z n (.slice (if cap = 0 then a else a.map (·.add (0 * z))) n cap)) := by
      have : (if cap = 0 then a else a.map (·.add (0 * z))) = a := by
        split
        · rfl
        · cases a <;> simp [Addr.add]
      rw [this]
      cases a <;> rfl
    rw [e]; exact h1
  · rw [h2,flat_len _ hz',hlen]
  · rw [flat_len _ hz',hlen] at hp
    have hz0 : 0 < z := by
      rcases Nat.eq_zero_or_pos z with h | h
      · subst h; simp at hp
      · exact h
    have hi : p / z < n := by rw [Nat.div_lt_iff_lt_mul hz0]; exact hp
    have hj : p % z < z := Nat.mod_lt _ hz0
    have := h3 (p / z) (p % z) hi hj
    rw [← flat_get (l.take n) (p / z) (p % z) hz' (by omega) hj] at this
    rwa [Nat.mul_comm (p / z) z,Nat.div_add_mod] at this
theorem load_obj {st : St} {σ : Sig} {w : World} (hI : Inv st σ w) {id b : Nat} {l : List SV} (hl : st[id]? = some (.cells l)) (hb : σ.μ id = some b) (off n len cap z : Nat) (hn : off + n * z ≤ l.length) :
    ∃ cs : Array Value,(Builtin.firstCells z n (.slice (some ⟨b,off,none⟩) len cap)).run P w = .ok cs w ∧ RepL st σ w ((l.drop off).take (n * z)) cs := by
  obtain ⟨b',cs,T,h1,h2,h3,h4,h5⟩ := hI.cells id l hl
  rw [h1] at hb; cases hb
  have hrun := run_loadCells (P := P) (w := w) ⟨b,off,none⟩ (n * z) (fun p => cs.getD (off + p) default) (fun p hp => by
    rw [addr_add]
    have : off + p < cs.size := by omega
    simp [World.cell?,h2,Array.getD,this])
  refine ⟨_,by simpa [Builtin.firstCells] using hrun,by simp; omega,fun p hp => ?_⟩
  have hp' : p < n * z := by simp at hp; omega
  have := h4 (off + p) (by omega)
  simpa [Array.getD_eq_getD_getElem?,hp',List.getD_eq_getElem?_getD,List.getElem?_take] using this
theorem store_obj {st : St} {σ : Sig} {w : World} (hI : Inv st σ w) {id b : Nat} {l xs : List SV} {vs : Array Value} (hl : st[id]? = some (.cells l)) (hb : σ.μ id = some b) (off : Nat)
    (hx : RepL st σ w xs vs) (hok : xs.all cellOk = true) (hle : off + xs.length ≤ l.length) :
    ∃ w',(storeCells ⟨b,off,none⟩ vs.toList).run P w = .ok () w' ∧ Inv (st.set id (.cells (splice l off xs))) σ w' ∧ Ext st σ w (st.set id (.cells (splice l off xs))) σ w' := by
  obtain ⟨b',cs,T,h1,h2,h3,h4,h5⟩ := hI.cells id l hl
  rw [h1] at hb; cases hb
  have hrow := repL_row off (cs := cs) ⟨h3,h4⟩ hx hle
  have hst := run_storeCells_at (P := P) b off T vs.toList 0 cs w h2 (by simp [hx.1,h3]; omega) (repL_one hok hx)
  simp only [Nat.add_zero] at hst
  have hoth : ∀ c,c ≠ b → (w.setRow b (cs.toList.take off ++ vs.toList ++ cs.toList.drop (off + vs.toList.length)).toArray).heap[c]? = w.heap[c]? := fun c hc => setRow_other _ _ _ _ hc
  exact ⟨_,hst,hI.write hl h1 h5 rfl rfl rfl (by simp) hoth (setRow_heap w b cs _ T _ h2) hrow.1 hrow.2,Ext.write hI hl h1 h5 rfl rfl rfl (by simp) hoth⟩
theorem aop_copy_slice {o : Oper} {t : TypeId} {ts : TypeId} {e : TypeId} {x y : Operand} {id z off len cap : Nat} {m : Mode} {ys l : List SV} {K : SV → St → Prop} {env : List SV} {st : St}
    (ho : o.op = .call { callee := .builtin .copy,args := #[x,y],argTypes := #[t,ts] }) (hx : ev env x = .slc id z off len cap) (hy : ev env y = .slice m z ys) (hl : st[id]? = some (.cells l))
    (he : aElem P t = some e) (hz : aSize P e = some z) (hle : off + (min ys.length len) * z ≤ l.length) (hok : ∀ s ∈ ys,elemOk s = true)
    (hk : K (.sc (.int .i64 (min ys.length len : Nat))) (st.set id (.cells (splice l off ((ys.take (min ys.length len)).flatMap SV.cells))))) : AOp P o K env st :=
  aop_value fun σ w a hI hR => by
    have r1 := rep_ev hR x
    rw [hx] at r1
    have r2 := rep_ev hR y
    rw [hy] at r2
    generalize hv : a.eval x = v at r1
    generalize hu : a.eval y = u at r2
    obtain ⟨ay,cy,rfl,hcy⟩ := rep_slice_form r2
    cases r1 with
    | slc id z off len cap b hkk hb hc =>
      obtain ⟨⟨cs,g1,g2⟩,g3⟩ := load_first (P := P) r2 (min ys.length len) (Nat.min_le_left _ _)
      have hlen : ((ys.take (min ys.length len)).flatMap SV.cells).length = (min ys.length len) * z := by
        rw [flat_len _ (fun s hs => g3 s (List.mem_of_mem_take hs)),List.length_take,Nat.min_eq_left (Nat.min_le_left _ _)]
      obtain ⟨w',k1,k2,k3⟩ := store_obj (P := P) hI hl hb off g2 (by
        rw [List.all_eq_true]
        intro s hs
        rw [List.mem_flatMap] at hs
        obtain ⟨q,hq,hs⟩ := hs
        have := hok q (List.mem_of_mem_take hq)
        unfold elemOk at this
        rw [List.all_eq_true] at this
        exact this s hs) (by rw [hlen]; exact hle)
      refine ⟨.int .i64 (min ys.length len : Nat),w',_,_,σ,?_,hk,k2,.sc _,k3⟩
      have hm : Nat.min ys.length len = min ys.length len := rfl
      simp [execOp,ho,resolve,invoke,builtin,hv,hu,Builtin.copy_,run_underlying (und_slice he),Builtin.lenOf,run_sizeOf' hz,hm,g1,k1,goInt]
theorem aop_copy_slc {o : Oper} {t : TypeId} {ts : TypeId} {e : TypeId} {x y : Operand} {id z off len cap id' off' len' cap' : Nat} {l l' : List SV} {K : SV → St → Prop} {env : List SV} {st : St}
    (ho : o.op = .call { callee := .builtin .copy,args := #[x,y],argTypes := #[t,ts] }) (hx : ev env x = .slc id z off len cap) (hy : ev env y = .slc id' z off' len' cap') (hl : st[id]? = some (.cells l))
    (hl' : st[id']? = some (.cells l')) (he : aElem P t = some e) (hz : aSize P e = some z) (hle : off + (min len' len) * z ≤ l.length) (hle' : off' + (min len' len) * z ≤ l'.length)
    (hok : ((l'.drop off').take ((min len' len) * z)).all cellOk = true)
    (hk : K (.sc (.int .i64 (min len' len : Nat))) (st.set id (.cells (splice l off ((l'.drop off').take ((min len' len) * z)))))) : AOp P o K env st :=
  aop_value fun σ w a hI hR => by
    have r1 := rep_ev hR x
    rw [hx] at r1
    have r2 := rep_ev hR y
    rw [hy] at r2
    generalize hv : a.eval x = v at r1
    generalize hu : a.eval y = u at r2
    cases r1 with
    | slc id z off len cap b hkk hb hc =>
      cases r2 with
      | slc id' z off' len' cap' b' hkk' hb' hc' =>
        obtain ⟨cs,g1,g2⟩ := load_obj (P := P) hI hl' hb' off' (min len' len) len' cap' z hle'
        obtain ⟨w',k1,k2,k3⟩ := store_obj (P := P) hI hl hb off g2 hok (by simp; omega)
        refine ⟨.int .i64 (min len' len : Nat),w',_,_,σ,?_,hk,k2,.sc _,k3⟩
        have hm : Nat.min len' len = min len' len := rfl
        simp [execOp,ho,resolve,invoke,builtin,hv,hu,Builtin.copy_,run_underlying (und_slice he),Builtin.lenOf,run_sizeOf' hz,hm,g1,k1,goInt]
def zeroL (zs : List SV) : Nat → List SV
  | 0 => []
  | n + 1 => zs ++ zeroL zs n
theorem zeroL_len (zs : List SV) : ∀ n,(zeroL zs n).length = n * zs.length
  | 0 => by simp [zeroL]
  | n + 1 => by rw [zeroL,List.length_append,zeroL_len zs n,Nat.add_mul,Nat.one_mul,Nat.add_comm]
theorem zeroL_get (zs : List SV) (hz : 0 < zs.length) : ∀ (n p : Nat),p < n * zs.length → (zeroL zs n).getD p .any = zs.getD (p % zs.length) .any
  | 0,p,h => by omega
  | n + 1,p,h => by
    rw [zeroL,List.getD_eq_getElem?_getD]
    by_cases c : p < zs.length
    · rw [List.getElem?_append_left c,Nat.mod_eq_of_lt c,List.getD_eq_getElem?_getD]
    · have h2 : p - zs.length < n * zs.length := by rw [Nat.add_mul,Nat.one_mul] at h; omega
      rw [List.getElem?_append_right (Nat.not_lt.1 c),← List.getD_eq_getElem?_getD,zeroL_get zs hz n _ h2]
      congr 1
      exact (Nat.mod_eq_sub_mod (Nat.not_lt.1 c)).symm
theorem repL_zero {st : St} {σ : Sig} {w : World} (v : Value) (n : Nat) : RepL st σ w (zeroL (v.cells.toList.map svOf) n) (Builtin.zeroCells v.cells n) := by
  refine ⟨by rw [size_zeroCells,zeroL_len]; simp,fun p hp => ?_⟩
  rw [zeroL_len] at hp
  have hz : 0 < (v.cells.toList.map svOf).length := by
    rcases Nat.eq_zero_or_pos (v.cells.toList.map svOf).length with h | h
    · rw [h] at hp; simp at hp
    · exact h
  rw [zeroL_get _ hz _ _ hp]
  have hz' : 0 < v.cells.size := by simpa using hz
  have hm : p % v.cells.size < v.cells.size := Nat.mod_lt _ hz'
  have hp' : p < n * v.cells.size := by simpa using hp
  have := (repL_svOf (st := st) (σ := σ) (w := w) v.cells).2 (p % v.cells.size) (by simpa using hm)
  simpa [Builtin.zeroCells,Array.getD_eq_getD_getElem?,hp',hm] using this
theorem aop_clear {o : Oper} {t e : TypeId} {x : Operand} {id z off len cap : Nat} {l zs : List SV} {K : SV → St → Prop} {env : List SV} {st : St}
    (ho : o.op = .call { callee := .builtin .clear,args := #[x],argTypes := #[t] }) (hx : ev env x = .slc id z off len cap) (hl : st[id]? = some (.cells l))
    (he : aElem P t = some e) (hzs : aZero P e = some zs) (hle : off + len * zs.length ≤ l.length) (hok : zs.all cellOk = true)
    (hk : K .any (if len = 0 then st else st.set id (.cells (splice l off (zeroL zs len))))) : AOp P o K env st :=
  aop_value fun σ w a hI hR => by
    have r1 := rep_ev hR x
    rw [hx] at r1
    generalize hv : a.eval x = v at r1
    obtain ⟨i,zv,h1,h2,rfl⟩ := zero_of hzs
    cases r1 with
    | slc id z off len cap b hkk hb hc =>
      by_cases h0 : len = 0
      · subst h0
        rw [if_pos rfl] at hk
        exact ⟨.tuple #[],w,_,st,σ,by simp [execOp,ho,resolve,invoke,builtin,hv,Builtin.clear_,run_underlying (und_slice he)],hk,hI,.any _,Ext.refl _ _ _⟩
      · rw [if_neg h0] at hk
        obtain ⟨w',k1,k2,k3⟩ := store_obj (P := P) hI hl hb off (repL_zero (st := st) (σ := σ) (w := w) zv len) (by
          rw [List.all_eq_true] at hok ⊢
          intro s hs
          obtain ⟨p,hp⟩ := List.getElem?_of_mem hs
          have hlt := lt_of_get hp
          rw [zeroL_len] at hlt
          have hz : 0 < (zv.cells.toList.map svOf).length := by
            rcases Nat.eq_zero_or_pos (zv.cells.toList.map svOf).length with h | h
            · rw [h] at hlt; simp at hlt
            · exact h
          have h3 := zeroL_get _ hz _ _ hlt
          rw [List.getD_eq_getElem?_getD,hp] at h3
          simp only [Option.getD_some] at h3
          rw [h3,List.getD_eq_getElem?_getD,List.getElem?_eq_getElem (Nat.mod_lt _ hz)]
          exact hok _ (List.getElem_mem _)) (by rw [zeroL_len]; exact hle)
        refine ⟨.tuple #[],w',_,_,σ,?_,hk,k2,.any _,k3⟩
        obtain ⟨n,rfl⟩ : ∃ n,len = n + 1 := ⟨len - 1,by omega⟩
        simp [execOp,ho,resolve,invoke,builtin,hv,Builtin.clear_,run_underlying (und_slice he),run_zero' h1 h2,k1]
def chunk (ag : Bool) (z : Nat) (l : List SV) (off i : Nat) : SV := if ag then .agg ((l.drop (off + i * z)).take z) else l.getD (off + i) .any
def chunks (ag : Bool) (z off len : Nat) (l : List SV) : List SV := (List.range len).map (chunk ag z l off)
theorem acalls_freeze {f : FuncId} {args : List SV} {K : SV → St → Prop} {st : St} (ag : Bool)
    (h : ACalls P f args (fun x s => ∃ ex id z off len cap l,x = .slc id z off len cap ∧ s = st ++ ex ∧ st.length ≤ id ∧ s[id]? = some (.cells l) ∧ off + len * z ≤ l.length ∧ (ag = false → z = 1) ∧
      (ag = false → ∀ y ∈ l,y.cells = [y]) ∧ (∀ y ∈ (l.drop off).take (len * z),Ids st.length y) ∧ K (.slice .imm z (chunks ag z off len l)) st) st) : ACalls P f args K st := by
  intro σ w vs hI hR
  refine (h σ w vs hI hR).mono ?_
  rintro e w' ⟨v,x,s,σ',rfl,⟨ex,id,z,off,len,cap,l,rfl,rfl,hid,hl,hle,hz1,hag,hids,hk⟩,hI',hr,hX⟩
  cases hr with
  | slc id z off len cap b hkk hb hc =>
    obtain ⟨b',cs,T,h1,h2,h3,h4,h5⟩ := hI'.cells id l hl
    rw [h1] at hb; cases hb
    have hIst : Inv st σ' w' := hI'.drop hI.obIds
    have hXst : Ext st σ w st σ' w' := hX.drop (Nat.le_refl _)
    have hnb : ∀ i,i < st.length → σ'.μ i ≠ some b := fun i hi hm => by
      have := hI'.inj i id b (by simp; omega) (lt_of_get hl) hm h1
      omega
    have hblt := lt_of_some h2
    have hX2 : Ext st σ' w' st (σ'.setLock b .all) w' := by
      refine ⟨rfl,rfl,rfl,Nat.le_refl _,fun c o v hlk hcl => ⟨?_,hcl⟩,fun c hcl hlk => ⟨?_,rfl⟩,fun _ l h => ⟨⟨l,h⟩,rfl⟩,fun i v h => ⟨v,h,Nat.le_refl _,fun _ => ⟨rfl,fun c hc => ⟨?_,rfl⟩⟩⟩,fun _ v _ c h => ⟨v,c,h,Nat.le_refl _,fun _ => ⟨rfl,rfl,fun _ vals _ _ _ hh => ⟨vals,hh,rfl⟩⟩⟩,fun _ l h => ⟨⟨l,h⟩,rfl,fun b e c _ hh => ⟨e,c,hh,Nat.le_refl _,fun _ _ => rfl⟩⟩⟩
      · simp only [Sig.setLock]
        split
        · trivial
        · exact hlk
      · have : c ≠ b := by rintro rfl; rw [h5] at hlk; cases hlk
        simp only [Sig.setLock,if_neg this]
      · have : c ≠ b := by rintro rfl; exact hnb i (lt_of_get h) hc
        simp only [Sig.setLock,if_neg this]
    have hI2 : Inv st (σ'.setLock b .all) w' := by
      refine ⟨fun i l hl => ?_,fun i v c h hc => ?_,hIst.inj,fun c hc => ?_,fun i v z cs' hc' => ?_,fun i l hl => ?_,hIst.globs_ext hX2 fun _ _ _ h => ⟨h,rfl⟩⟩
      · obtain ⟨c,cs,T,q1,q2,q3,q4,q5⟩ := hIst.cells i l hl
        have : c ≠ b := by rintro rfl; exact hnb i (lt_of_get hl) q1
        exact ⟨c,cs,T,q1,q2,q3,fun j hj => (q4 j hj).ext hX2,by simp only [Sig.setLock,if_neg this]; exact q5⟩
      · obtain ⟨q1,q2⟩ := hIst.tok i v c h hc
        have : c ≠ b := by rintro rfl; exact hnb i (lt_of_get h) hc
        exact ⟨q1,by simp only [Sig.setLock,if_neg this]; exact q2⟩
      · have : c ≠ b := by omega
        simp only [Sig.setLock,if_neg this]; exact hIst.fresh c hc
      · refine (hIst.arrs i v z cs' hc').imp (fun h => h) fun ⟨c,vals,T,q1,q2,q3,q4,q5⟩ => ?_
        have : c ≠ b := by rintro rfl; exact hnb i (lt_of_get hc') q1
        exact ⟨c,vals,T,q1,q2,q3,fun j hj => (q4 j hj).ext hX2,by simp only [Sig.setLock,if_neg this]; exact q5⟩
      · obtain ⟨c,en,cl,q1,q2,q3,q4⟩ := hIst.maps i l hl
        have : c ≠ b := by rintro rfl; exact hnb i (lt_of_get hl) q1
        exact ⟨c,en,cl,q1,q2,q3.ext hX2,by simp only [Sig.setLock,if_neg this]; exact q4⟩
    refine ⟨.slice (some ⟨b,off,none⟩) len cap,_,st,σ'.setLock b .all,rfl,hk,hI2,?_,hXst.trans hX2⟩
    have hlen : (chunks ag z off len l).length = len := by simp [chunks]
    have hget : ∀ i,i < len → (chunks ag z off len l).getD i .any = chunk ag z l off i := fun i hi => by simp [chunks,List.getD_eq_getElem?_getD,hi]
    have hcells : ∀ i,i < len → (chunk ag z l off i).cells.length = z ∧ ∀ j,j < z → (chunk ag z l off i).cells.getD j .any = l.getD (off + i * z + j) .any := by
      intro i hi
      have hlt : off + (i + 1) * z ≤ l.length := by
        have : (i + 1) * z ≤ len * z := Nat.mul_le_mul_right z hi
        omega
      rw [Nat.add_mul,Nat.one_mul] at hlt
      unfold chunk
      cases ag with
      | true =>
        simp only [if_true,SV.cells]
        refine ⟨by simp; omega,fun j hj => ?_⟩
        simp [List.getD_eq_getElem?_getD,hj]
      | false =>
        have hz := hz1 rfl
        subst hz
        simp only [Bool.false_eq_true,if_false]
        have hmem : l.getD (off + i) .any ∈ l := by
          rw [List.getD_eq_getElem?_getD,List.getElem?_eq_getElem (by omega)]; exact List.getElem_mem _
        rw [hag rfl _ hmem]
        refine ⟨rfl,fun j hj => ?_⟩
        obtain rfl : j = 0 := by omega
        simp
    have key : Rep st (σ'.setLock b .all) w' (.slice .imm z (chunks ag z off len l)) (.slice (some ⟨b,off,none⟩) (chunks ag z off len l).length cap) := by
      refine .slice .imm z _ ⟨b,off,none⟩ cap (fun i j => cs.getD (off + i * z + j) default) (by omega) (fun _ => rfl) (fun i hi => ?_) (fun i j hi hj => ⟨?_,?_⟩) (fun i j hi hj => ?_) trivial
      · rw [hlen] at hi; rw [hget i hi]; exact (hcells i hi).1
      · rw [hlen] at hi
        have hlt := idx_lt hi hj
        have hs : off + i * z + j < cs.size := by omega
        simp [World.cell?,h2,Array.getD,hs]
      · simp only [Sig.setLock,if_true]; trivial
      · rw [hlen] at hi
        have hlt := idx_lt hi hj
        rw [hget i hi,(hcells i hi).2 j hj]
        have hj' : off + i * z + j < l.length := by omega
        have h6 := h4 _ hj'
        have hmem : l.getD (off + i * z + j) .any ∈ l := by
          rw [List.getD_eq_getElem?_getD,List.getElem?_eq_getElem hj']; exact List.getElem_mem _
        have hmem' : l.getD (off + i * z + j) .any ∈ (l.drop off).take (len * z) := by
          refine List.mem_iff_getElem?.2 ⟨i * z + j,?_⟩
          rw [List.getElem?_take,if_pos (by omega),List.getElem?_drop,← Nat.add_assoc,List.getD_eq_getElem?_getD,List.getElem?_eq_getElem hj']
          rfl
        exact (h6.drop (hids _ hmem')).ext hX2
    rw [hlen] at key
    exact key
theorem aop_makeSlice {o : Oper} {t e : TypeId} {x y : Operand} {k k' : IntKind} {n m : Int} {z by' : Nat} {zs : List SV} {K : SV → St → Prop} {env : List SV} {st : St}
    (ho : o.op = .makeSlice t x y) (hx : ev env x = .sc (.int k n)) (hy : ev env y = .sc (.int k' m)) (he : aElem P t = some e) (hz : aSize P e = some z) (hzs : aZero P e = some zs) (hzl : zs.length = z)
    (hby : aBytes P e = some by') (h0 : 0 ≤ n) (h1 : n ≤ m) (h2 : m ≤ 4611686018427387904) (hb : m.toNat * by' ≤ 281474976710656)
    (hk : K (.slc st.length z 0 n.toNat m.toNat) (st ++ [.cells (zeroL zs m.toNat)])) : AOp P o K env st :=
  aop_value fun σ w a hI hR => by
    have e1 := rep_sc (by have := rep_ev hR x; rw [hx] at this; exact this)
    have e2 := rep_sc (by have := rep_ev hR y; rw [hy] at this; exact this)
    obtain ⟨i,v,hi,hv,rfl⟩ := zero_of hzs
    have hvz : v.cells.size = z := by simpa using hzl
    obtain ⟨σ',g1,g2,g3⟩ := new_ob hI _ _ e (repL_zero (st := st) (σ := σ) (w := w) v m.toNat)
    refine ⟨.slice (some ⟨w.heap.size,0,none⟩) n.toNat m.toNat,_,_,_,σ',?_,hk,g1,?_,g2⟩
    · have hbi : i.bytes = by' := bytes_of hby hi
      have w1 : IntKind.i64.wrap n = n := by rw [IntKind.wrap_i64]; omega
      have w2 : IntKind.i64.wrap m = m := by rw [IntKind.wrap_i64]; omega
      have t1 : ¬ ((i.bytes : Int) * m > 281474976710656) := by
        rw [hbi]
        obtain ⟨q,rfl⟩ := Int.eq_ofNat_of_zero_le (show 0 ≤ m by omega)
        have : q * by' ≤ 281474976710656 := by simpa using hb
        have h3 : (by' : Int) * (q : Int) = ((q * by' : Nat) : Int) := by rw [Nat.mul_comm]; simp
        rw [h3]
        omega
      have c1 : ¬ m < 0 := by omega
      have c2 : ¬ n < 0 := by omega
      have c3 : ¬ m < n := by omega
      have c4 : ¬ (281474976710656 < (i.bytes : Int) * m) := t1
      have harr : ∀ zz : Array Value,(zz = if m.toNat * z = 0 then #[] else v.cells) → (Array.range (m.toNat * z)).map (fun j => zz[j % zz.size]!) = Builtin.zeroCells v.cells m.toNat := by
        intro zz hzz
        unfold Builtin.zeroCells
        rw [hvz]
        by_cases q : m.toNat * z = 0
        · rw [q]; simp
        · rw [hzz,if_neg q,hvz]
      simp [execOp,ho,e1,e2,Instr.makeSlice,run_underlying (und_slice he),asInt,asIntOf,run_typeInfo' hi,w1,w2,c1,c2,c3,c4,run_sizeOf' hz]
      by_cases q : m.toNat * z = 0
      · have h3 := harr #[] (by rw [if_pos q])
        simp [q] at h3 ⊢
        rw [← h3]
        simp [newRow]
      · have h3 := harr v.cells (by rw [if_neg q])
        simp [q,run_zero' hi hv]
        rw [h3]
        simp [newRow]
    · have : ∀ {sv : SV} {u : Value},Rep (st ++ [.cells (zeroL (v.cells.toList.map svOf) m.toNat)]) σ' { w with heap := w.heap.push (.cells (Builtin.zeroCells v.cells m.toNat) e) } sv u → sv = .ptr st.length 0 → u = .pointer (some ⟨w.heap.size,0,none⟩) →
          Rep (st ++ [.cells (zeroL (v.cells.toList.map svOf) m.toNat)]) σ' { w with heap := w.heap.push (.cells (Builtin.zeroCells v.cells m.toNat) e) } (.slc st.length z 0 n.toNat m.toNat) (.slice (some ⟨w.heap.size,0,none⟩) n.toNat m.toNat) := by
        intro sv u hr hs hu
        subst hs
        cases hr with
        | ptr id off b hkk hb => cases hu; exact .slc _ _ _ _ _ _ hkk hb (by omega)
      exact this g3 rfl rfl
theorem aop_append_ob {o : Oper} {t e tx ex : TypeId} {z z0 by' : Nat} {m : Mode} {x y : Operand} {xs zs : List SV} {K : SV → St → Prop} {env : List SV} {st : St}
    (ho : o.op = .call { callee := .builtin .append,args := #[x,y],argTypes := #[t,tx] }) (hx : ev env x = .slice .full z0 []) (hy : ev env y = .slice m z xs) (hne : xs ≠ [])
    (he : aElem P t = some e) (hxe : aElem P tx = some ex) (hz : aSize P e = some z) (hzs : aZero P e = some zs) (hzl : zs.length = z) (hby : aBytes P e = some by')
    (hb : (2 * xs.length + 192) * by' ≤ 281474976710656) (hn : xs.length < 4611686018427387904)
    (hk : ∀ cap,xs.length ≤ cap → K (.slc st.length z 0 xs.length cap) (st ++ [.cells (xs.flatMap SV.cells ++ zeroL zs (cap - xs.length))])) : AOp P o K env st :=
  aop_value fun σ w a hI hR => by
    have r1 := rep_ev hR x
    rw [hx] at r1
    have r2 := rep_ev hR y
    rw [hy] at r2
    generalize hv : a.eval x = v at r1
    generalize hu : a.eval y = u at r2
    have r1' := rep_nil_z (z' := z) r1 (.inl rfl)
    obtain ⟨ad,cap,rfl,hcap⟩ := rep_slice_form r1'
    obtain ⟨ax,cx,rfl,hcx⟩ := rep_slice_form r2
    have hcl : cap = 0 := by
      cases r1' with
      | nil m z hm => rfl
      | slice m z l a cap vals hcap hsp hzz hc hr hm => exact hm
    subst hcl
    have hpos : 0 < xs.length := List.length_pos_iff.2 hne
    obtain ⟨i,v,hi,hzv,rfl⟩ := zero_of hzs
    have hvz : v.cells.size = z := by simpa using hzl
    have hd : Ext st σ w st σ { w with drawn := w.drawn + 1 } := Ext.drew _
    obtain ⟨old,o1,o2,_⟩ := load_slice (P := P) (r1'.ext hd)
    obtain ⟨⟨new,n1,n2⟩,n3⟩ := load_first (P := P) (r2.ext hd) xs.length (Nat.le_refl _)
    rw [List.take_length] at n2
    have ho0 : old = #[] := by
      have : old.size = 0 := by simpa using o2
      exact Array.eq_empty_of_size_eq_zero this
    subst ho0
    obtain ⟨newCap,g1,g2⟩ := run_append_grows (w := w) (ty := o.type) he hxe hz hi hzv o1 n1 (by simpa using hpos) (Nat.le_refl _) (by rw [bytes_of hby hi]; simpa using hb) (by simpa using hn)
    simp only [List.length_nil,Nat.zero_add,Array.empty_append] at g1 g2
    have hId := hI.drew (w.drawn + 1)
    have hrl : RepL st σ { w with drawn := w.drawn + 1 } (xs.flatMap SV.cells ++ zeroL (v.cells.toList.map svOf) (newCap - xs.length)) (new ++ Builtin.zeroCells v.cells (newCap - xs.length)) := by
      have hz0 := repL_zero (st := st) (σ := σ) (w := { w with drawn := w.drawn + 1 }) v (newCap - xs.length)
      refine ⟨by rw [Array.size_append,List.length_append,n2.1,hz0.1],fun p hp => ?_⟩
      rw [List.length_append] at hp
      rw [Array.getD_eq_getD_getElem?,List.getD_eq_getElem?_getD]
      by_cases c : p < (xs.flatMap SV.cells).length
      · rw [List.getElem?_append_left c,Array.getElem?_append_left (by rw [n2.1]; exact c),← Array.getD_eq_getD_getElem?,← List.getD_eq_getElem?_getD]
        exact n2.2 p c
      · rw [List.getElem?_append_right (Nat.not_lt.1 c),Array.getElem?_append_right (by rw [n2.1]; exact Nat.not_lt.1 c),← Array.getD_eq_getD_getElem?,← List.getD_eq_getElem?_getD,n2.1]
        exact hz0.2 _ (by omega)
    obtain ⟨σ',k1,k2,k3⟩ := new_ob hId _ _ e hrl
    refine ⟨.slice (some ⟨w.heap.size,0,none⟩) xs.length newCap,_,_,_,σ',?_,hk newCap g1,k1,?_,hd.trans k2⟩
    · simp only [execOp,ho,resolve,invoke,builtin]
      simp [hv,hu,g2]
      try rfl
    · generalize hsv : SV.ptr st.length 0 = sv at k3
      generalize huu : Value.pointer (some ⟨({ w with drawn := w.drawn + 1 } : World).heap.size,0,none⟩) = uu at k3
      cases k3 with
      | ptr id off b hkk hb => cases hsv; cases huu; exact .slc _ _ _ _ _ _ hkk hb g1
      | _ => cases hsv
end Go.AL
namespace Go.AL
open Go
variable {P : Program}
def nilConst : Operand → Bool
  | .const (.slice none 0 0) => true
  | .const (.pointer none) => true
  | .const .nilFunc => true
  | .const (.map none) => true
  | _ => false
def aIsFunc (P : Program) (t : TypeId) : Bool := match P.underlying t with | some (.func _ _ _) => true | _ => false
def aIsMap (P : Program) (t : TypeId) : Bool := match P.underlying t with | some (.map _ _) => true | _ => false
def aIsPtr (P : Program) (t : TypeId) : Bool := match P.underlying t with | some (.pointer _) => true | _ => false
def nilV (op : BinOp) : SV → SV
  | .slice _ _ _ => .sc (.bool (op matches .neq))
  | .slc _ _ _ _ _ => .sc (.bool (op matches .neq))
  | .ref _ => .sc (.bool (op matches .neq))
  | .ptr _ _ => .sc (.bool (op matches .neq))
  | .sc (.pointer none) => .sc (.bool (op matches .eql))
  | .func _ _ _ => .sc (.bool (op matches .neq))
  | .sc .nilFunc => .sc (.bool (op matches .eql))
  | .mp _ => .sc (.bool (op matches .neq))
  | .sc (.map none) => .sc (.bool (op matches .eql))
  | _ => .any
def nilOk (P : Program) (op : BinOp) (t : TypeId) (y : Operand) (x : SV) : Prop :=
  (op = .eql ∨ op = .neq) ∧ match x with
  | .slice _ _ l => y = .const (.slice none 0 0) ∧ l ≠ [] ∧ (aElem P t).isSome = true
  | .slc _ _ _ _ _ => y = .const (.slice none 0 0) ∧ (aElem P t).isSome = true
  | .ref _ => y = .const (.pointer none) ∧ aIsPtr P t = true
  | .ptr _ _ => y = .const (.pointer none) ∧ aIsPtr P t = true
  | .sc (.pointer none) => y = .const (.pointer none) ∧ aIsPtr P t = true
  | .func _ _ _ => y = .const .nilFunc ∧ aIsFunc P t = true
  | .sc .nilFunc => y = .const .nilFunc ∧ aIsFunc P t = true
  | .mp _ => y = .const (.map none) ∧ aIsMap P t = true
  | .sc (.map none) => y = .const (.map none) ∧ aIsMap P t = true
  | _ => False
theorem und_ptr' {t : TypeId} (h : aIsPtr P t = true) : ∃ e,P.underlying t = some (.pointer e) := by
  unfold aIsPtr at h
  split at h
  · rename_i e he; exact ⟨e,he⟩
  · cases h
theorem run_equalIn_slice (w : World) (d : Nat) {t e : TypeId} {a : Addr} {n c : Nat} (h : P.underlying t = some (.slice e)) : (Op.equalIn (d + 1) t (.slice (some a) n c) (.slice none 0 0)).run P w = .ok false w := by
  simp [Op.equalIn,run_underlying h]
theorem run_equal_slice (w : World) {t e : TypeId} {a : Addr} {n c : Nat} (h : P.underlying t = some (.slice e)) : (Op.equal t (.slice (some a) n c) (.slice none 0 0)).run P w = .ok false w := run_equalIn_slice w 9999 h
theorem run_equalIn_ptr (w : World) (d : Nat) {t e : TypeId} {a : Option Addr} (h : P.underlying t = some (.pointer e)) : (Op.equalIn (d + 1) t (.pointer a) (.pointer none)).run P w = .ok a.isNone w := by
  cases a <;> simp [Op.equalIn,run_underlying h]
theorem run_equal_ptr (w : World) {t e : TypeId} {a : Option Addr} (h : P.underlying t = some (.pointer e)) : (Op.equal t (.pointer a) (.pointer none)).run P w = .ok a.isNone w := run_equalIn_ptr w 9999 h
theorem und_func' {t : TypeId} (h : aIsFunc P t = true) : ∃ a b c,P.underlying t = some (.func a b c) := by
  unfold aIsFunc at h
  split at h
  · rename_i a b c he; exact ⟨a,b,c,he⟩
  · cases h
theorem und_map' {t : TypeId} (h : aIsMap P t = true) : ∃ a b,P.underlying t = some (.map a b) := by
  unfold aIsMap at h
  split at h
  · rename_i a b he; exact ⟨a,b,he⟩
  · cases h
theorem run_equalIn_func (w : World) (d : Nat) {t : TypeId} {p q : Array TypeId} {c : Bool} {f : Fn} {x y : Array Value} (h : P.underlying t = some (.func p q c)) : (Op.equalIn (d + 1) t (.func f x y) .nilFunc).run P w = .ok false w := by
  simp [Op.equalIn,run_underlying h]
theorem run_equalIn_func0 (w : World) (d : Nat) {t : TypeId} {p q : Array TypeId} {c : Bool} (h : P.underlying t = some (.func p q c)) : (Op.equalIn (d + 1) t .nilFunc .nilFunc).run P w = .ok true w := by
  simp [Op.equalIn,run_underlying h]
theorem run_equalIn_map (w : World) (d : Nat) {t k e : TypeId} {b : Option Nat} (h : P.underlying t = some (.map k e)) : (Op.equalIn (d + 1) t (.map b) (.map none)).run P w = .ok b.isNone w := by
  cases b <;> simp [Op.equalIn,run_underlying h]
theorem run_equal_func (w : World) {t : TypeId} {p q : Array TypeId} {c : Bool} {f : Fn} {x y : Array Value} (h : P.underlying t = some (.func p q c)) : (Op.equal t (.func f x y) .nilFunc).run P w = .ok false w := run_equalIn_func w 9999 h
theorem run_equal_func0 (w : World) {t : TypeId} {p q : Array TypeId} {c : Bool} (h : P.underlying t = some (.func p q c)) : (Op.equal t .nilFunc .nilFunc).run P w = .ok true w := run_equalIn_func0 w 9999 h
theorem run_equal_map (w : World) {t k e : TypeId} {b : Option Nat} (h : P.underlying t = some (.map k e)) : (Op.equal t (.map b) (.map none)).run P w = .ok b.isNone w := run_equalIn_map w 9999 h
theorem ap_nil {o : Oper} {op : BinOp} {t u : TypeId} {x y : Operand} {ρ : Operand → SV} {st : St}
    (ho : o.op = .binOp op t x y u) (h : nilOk P op t y (ρ x)) : APure P o ρ st (nilV op (ρ x)) := by
  intro σ w a hI hR
  have hr := hR x (by simp [ho,Op.operands])
  obtain ⟨hop,h⟩ := h
  have ec : ∀ v,a.eval (.const v) = v := fun _ => rfl
  generalize hv : a.eval x = v at hr
  generalize hx : ρ x = X at hr h
  split at h
  · obtain ⟨rfl,hl,he⟩ := h
    have hu := und_slice (Option.some_get he).symm
    cases hr with
    | nil m z hm => exact (hl rfl).elim
    | slice m z l ad cap vals hcap hsp hzz hc hr hm =>
      rcases hop with rfl | rfl
      · exact ⟨.bool false,by simp [execOp,ho,hv,ec,eqGuard,binOp,run_equal_slice w hu],.sc _⟩
      · exact ⟨.bool true,by simp [execOp,ho,hv,ec,eqGuard,binOp,run_equal_slice w hu],.sc _⟩
  · obtain ⟨rfl,he⟩ := h
    have hu := und_slice (Option.some_get he).symm
    cases hr with
    | slc id z off len cap b hk hb hc =>
      rcases hop with rfl | rfl
      · exact ⟨.bool false,by simp [execOp,ho,hv,ec,eqGuard,binOp,run_equal_slice w hu],.sc _⟩
      · exact ⟨.bool true,by simp [execOp,ho,hv,ec,eqGuard,binOp,run_equal_slice w hu],.sc _⟩
  · obtain ⟨rfl,he⟩ := h
    obtain ⟨e,hu⟩ := und_ptr' he
    cases hr with
    | ref cells b o' vals hc hr =>
      rcases hop with rfl | rfl
      · exact ⟨.bool false,by simp [execOp,ho,hv,ec,eqGuard,binOp,run_equal_ptr w hu],.sc _⟩
      · exact ⟨.bool true,by simp [execOp,ho,hv,ec,eqGuard,binOp,run_equal_ptr w hu],.sc _⟩
  · obtain ⟨rfl,he⟩ := h
    obtain ⟨e,hu⟩ := und_ptr' he
    cases hr with
    | ptr id off b hk hb =>
      rcases hop with rfl | rfl
      · exact ⟨.bool false,by simp [execOp,ho,hv,ec,eqGuard,binOp,run_equal_ptr w hu],.sc _⟩
      · exact ⟨.bool true,by simp [execOp,ho,hv,ec,eqGuard,binOp,run_equal_ptr w hu],.sc _⟩
  · obtain ⟨rfl,he⟩ := h
    obtain ⟨e,hu⟩ := und_ptr' he
    cases hr with
    | sc v =>
      rcases hop with rfl | rfl
      · exact ⟨.bool true,by simp [execOp,ho,hv,ec,eqGuard,binOp,run_equal_ptr w hu],.sc _⟩
      · exact ⟨.bool false,by simp [execOp,ho,hv,ec,eqGuard,binOp,run_equal_ptr w hu],.sc _⟩
  · obtain ⟨rfl,he⟩ := h
    obtain ⟨p,q,c,hu⟩ := und_func' he
    cases hr with
    | func fn first captured vf vc h1 h2 i1 i2 =>
      rcases hop with rfl | rfl
      · exact ⟨.bool false,by simp [execOp,ho,hv,ec,eqGuard,binOp,run_equal_func w hu],.sc _⟩
      · exact ⟨.bool true,by simp [execOp,ho,hv,ec,eqGuard,binOp,run_equal_func w hu],.sc _⟩
  · obtain ⟨rfl,he⟩ := h
    obtain ⟨p,q,c,hu⟩ := und_func' he
    cases hr with
    | sc v =>
      rcases hop with rfl | rfl
      · exact ⟨.bool true,by simp [execOp,ho,hv,ec,eqGuard,binOp,run_equal_func0 w hu],.sc _⟩
      · exact ⟨.bool false,by simp [execOp,ho,hv,ec,eqGuard,binOp,run_equal_func0 w hu],.sc _⟩
  · obtain ⟨rfl,he⟩ := h
    obtain ⟨k,e,hu⟩ := und_map' he
    cases hr with
    | mp id b hk hb =>
      rcases hop with rfl | rfl
      · exact ⟨.bool false,by simp [execOp,ho,hv,ec,eqGuard,binOp,run_equal_map w hu],.sc _⟩
      · exact ⟨.bool true,by simp [execOp,ho,hv,ec,eqGuard,binOp,run_equal_map w hu],.sc _⟩
  · obtain ⟨rfl,he⟩ := h
    obtain ⟨k,e,hu⟩ := und_map' he
    cases hr with
    | sc v =>
      rcases hop with rfl | rfl
      · exact ⟨.bool true,by simp [execOp,ho,hv,ec,eqGuard,binOp,run_equal_map w hu],.sc _⟩
      · exact ⟨.bool false,by simp [execOp,ho,hv,ec,eqGuard,binOp,run_equal_map w hu],.sc _⟩
  · exact h.elim
def aInt (P : Program) (t : TypeId) : Option IntKind := match P.underlying t with | some (.int k) => some k | _ => none
theorem und_int {t : TypeId} {k : IntKind} (h : aInt P t = some k) : P.underlying t = some (.int k) := by
  unfold aInt at h
  split at h
  · rename_i e; cases h; exact e
  · cases h
def aIsText (P : Program) (t : TypeId) : Bool := match P.underlying t with | some .string => true | _ => false
theorem und_str {t : TypeId} (h : aIsText P t = true) : P.underlying t = some .string := by
  unfold aIsText at h
  split at h
  · assumption
  · cases h
def byteI : SV → Int
  | .sc (.int .u8 n) => n
  | _ => 0
def isByte : SV → Bool
  | .sc (.int .u8 _) => true
  | _ => false
def bytesV (xs : List SV) : ByteArray := (xs.map byteI).foldl (fun r n => r.push (UInt8.ofNat n.toNat)) ByteArray.empty
theorem load_bytes {st : St} {σ : Sig} {w : World} {m : Mode} {z : Nat} {l : List SV} {v : Value} (h : Rep st σ w (.slice m z l) v) (hb : l.all isByte = true) : (Conv.bytesToString v).run P w = .ok (.string (bytesV l)) w ∧ ∃ a n c,v = .slice a n c := by
  cases h with
  | nil m z hm => exact ⟨rfl,_,_,_,rfl⟩
  | slice m z l ad cap vals hcap hsp hz hc hr hm =>
    refine ⟨?_,_,_,_,rfl⟩
    have hby : ∀ i,i < l.length → l.getD i .any = .sc (.int .u8 (byteI (l.getD i .any))) := by
      intro i hi
      have hm : l.getD i .any ∈ l := by simp [List.getD_eq_getElem?_getD,hi]
      have := List.all_eq_true.1 hb _ hm
      generalize l.getD i .any = x at this
      unfold isByte at this
      split at this
      · rfl
      · cases this
    have hval : ∀ i,i < l.length → vals i 0 = .int .u8 (byteI (l.getD i .any)) ∧ z = 1 := by
      intro i hi
      have e := hby i hi
      have hz1 := hz i hi
      rw [e] at hz1
      have hz1 : z = 1 := hz1.symm
      have hr1 := hr i 0 hi (by omega)
      rw [e] at hr1
      have hr1 : Rep st σ w (.sc (.int .u8 (byteI (l.getD i .any)))) (vals i 0) := hr1
      exact ⟨rep_sc hr1,hz1⟩
    have hrun := run_loadCells (P := P) (w := w) ad l.length (fun p => vals p 0) (fun p hp => by
      have hsp' := hsp (by rintro rfl; simp at hp)
      obtain ⟨b,o,sp⟩ := ad
      simp only at hsp'
      subst hsp'
      have hz1 := (hval p hp).2
      have := (hc p 0 hp (by omega)).1
      rw [addr_add]
      simp only at this
      rw [hz1,Nat.mul_one,Nat.add_zero] at this
      exact this)
    refine run_bytesToString w ad l.length cap (l.map byteI) (hrun.trans ?_)
    congr 2
    apply List.ext_getElem?
    intro i
    by_cases hi : i < l.length
    · have := (hval i hi).1
      simp [hi,this,List.getD_eq_getElem?_getD]
    · rw [List.getElem?_eq_none (by simp; omega),List.getElem?_eq_none (by simp; omega)]
def convV (P : Program) (u : TypeId) : SV → SV
  | .sc (.int _ n) => .sc (match aInt P u with | some k => .int k (k.wrap n) | none => .string (Utf8.encode n))
  | .slice _ _ xs => .sc (.string (bytesV xs))
  | _ => .any
def convOk (P : Program) (t u : TypeId) : SV → Prop
  | .sc (.int _ _) => (aInt P t).isSome = true ∧ ((aInt P u).isSome = true ∨ aIsText P u = true)
  | .slice _ _ xs => (aElem P t).bind (aInt P) = some .u8 ∧ aIsText P u = true ∧ xs.all isByte = true
  | _ => False
theorem ap_conv {o : Oper} {t u : TypeId} {x : Operand} {ρ : Operand → SV} {st : St} (ho : o.op = .convert t u x) (h : convOk P t u (ρ x)) : APure P o ρ st (convV P u (ρ x)) := by
  intro σ w a hI hR
  have hr := hR x (by simp [ho,Op.operands])
  generalize hv : a.eval x = v at hr
  generalize hx : ρ x = X at hr h
  unfold convOk at h
  split at h
  · rename_i k n
    obtain ⟨h1,h2⟩ := h
    have e1 := und_int (Option.some_get h1).symm
    cases h3 : aInt P u with
    | none =>
      rw [h3] at h2
      rcases h2 with h2 | h2
      · cases h2
      have e2 := und_str h2
      have ev := rep_sc hr
      refine ⟨.string (Utf8.encode n),?_,?_⟩
      · simp [execOp,ho,hv,ev,convert,run_underlying e1,run_underlying e2,Conv.intToString]
      · simp only [convV,h3]
        exact .sc _
    | some k' =>
      have e2 := und_int h3
      have ev := rep_sc hr
      refine ⟨.int k' (k'.wrap n),by simp [execOp,ho,hv,ev,convert,run_underlying e1,run_underlying e2,Conv.intToInt],?_⟩
      simp only [convV,h3]
      exact .sc _
  · rename_i m z xs
    obtain ⟨h1,h2,h3⟩ := h
    obtain ⟨e,he1,he2⟩ : ∃ e,aElem P t = some e ∧ aInt P e = some .u8 := by
      cases he : aElem P t with
      | none => rw [he] at h1; cases h1
      | some e => rw [he] at h1; exact ⟨e,rfl,h1⟩
    obtain ⟨hl,a0,n0,c0,rfl⟩ := load_bytes (P := P) hr h3
    refine ⟨.string (bytesV xs),?_,.sc _⟩
    have := run_convert_bytes_string w t u e a0 n0 c0 (und_slice he1) (und_int he2) (und_str h2)
    simp [execOp,ho,hv,this,hl]
  · exact h.elim
end Go.AL
namespace Go.AL
variable {P : Program}
open Go.MapKept
def keyFits (d : TypeDesc) : Value → Bool
  | .int k _ => match d with | .int k' => decide (k = k') | _ => false
  | .string _ => match d with | .string => true | _ => false
  | .bool _ => match d with | .bool => true | _ => false
  | _ => false
theorem keyFits_is {d : TypeDesc} {k : Value} (h : keyFits d k = true) : IsKey d k := by
  unfold keyFits at h
  split at h <;> (try split at h) <;> simp_all [IsKey]
def keyEq1 : Value → Value → Bool
  | .int k a,.int k' b => decide (k = k') && decide (a = b)
  | .string a,.string b => a == b
  | .bool a,.bool b => a == b
  | _,_ => false
def keyEqs : List Value → List Value → Bool
  | [],[] => true
  | a :: r,b :: s => keyEq1 a b && keyEqs r s
  | _,_ => false
def keyEq : Value → Value → Bool
  | .agg a,.agg b => keyEqs a.toList b.toList
  | a,b => keyEq1 a b
theorem keyEq_fits {d : TypeDesc} {a b : Value} (ha : keyFits d a = true) : keyEq a b = keyEq1 a b := by
  cases a <;> first | rfl | cases ha
theorem keyEq1_iff {d : TypeDesc} {a b : Value} (ha : keyFits d a = true) (hb : keyFits d b = true) : keyEq a b = true ↔ a = b := by
  rw [keyEq_fits ha]
  cases a <;> cases b <;> simp_all [keyEq1,keyFits,bytes_beq]
def wideT (P : Program) (kt : TypeId) : Bool := (match P.underlying kt with | some (.array _ _) | some (.struct _) => true | _ => false) && (P.keyTypeAt 8 kt && P.tiled 8 kt)
def keyGood (P : Program) (kt : TypeId) (d : TypeDesc) (v : Value) : Bool := keyFits d v || (wideT P kt && (Go.keyOf P kt v).isSome)
theorem keyEqs_cells : ∀ (a b : List Lit),keyEqs (a.map Lit.toCell) (b.map Lit.toCell) = true ↔ a.map Lit.toCell = b.map Lit.toCell
  | [],[] => by simp [keyEqs]
  | [],_ :: _ => by simp [keyEqs]
  | _ :: _,[] => by simp [keyEqs]
  | x :: r,y :: s => by
    have ih := keyEqs_cells r s
    have h1 : keyEq1 x.toCell y.toCell = true ↔ x.toCell = y.toCell := by
      cases x <;> cases y <;> simp [Lit.toCell,keyEq1,bytes_beq]
    simp only [List.map_cons,keyEqs,Bool.and_eq_true,ih,h1,List.cons.injEq]
theorem wide_of {kt : TypeId} (h : wideT P kt = true) : (match P.underlying kt with | some (.array _ _) | some (.struct _) => true | _ => false) = true ∧ P.keyTypeAt 8 kt = true ∧ P.tiled 8 kt = true := by
  unfold wideT at h
  simp only [Bool.and_eq_true] at h
  exact ⟨h.1,h.2.1,h.2.2⟩
theorem wide_cells {kt : TypeId} (h : wideT P kt = true) {v : Value} {l : Lit} (hk : Go.keyOf P kt v = some l) : ∃ L : List Lit,v = .agg (L.map Lit.toCell).toArray ∧ P.keyLits (P.types.size + 1) kt (L.map Lit.toCell) = some L ∧ l = .string (keyBytes L) := by
  obtain ⟨h1,h2,h3⟩ := wide_of h
  obtain ⟨xs,L,rfl,k1,k2⟩ := keyOf_top h1 hk
  have c := cells_of_lits 8 kt h3 _ _ _ k1
  refine ⟨L,?_,by rw [← c]; exact k1,k2⟩
  rw [← c]
theorem wide_not_fits {kt : TypeId} {d : TypeDesc} (hd : P.underlying kt = some d) (h : wideT P kt = true) (v : Value) : keyFits d v = false := by
  obtain ⟨h1,_,_⟩ := wide_of h
  rw [hd] at h1
  cases d <;> first | (cases v <;> rfl) | (simp at h1)
theorem keyEq_iff {kt : TypeId} {d : TypeDesc} (hd : P.underlying kt = some d) {a b : Value} (ha : keyGood P kt d a = true) (hb : keyGood P kt d b = true) : keyEq a b = true ↔ a = b := by
  by_cases hw : wideT P kt = true
  · simp only [keyGood,wide_not_fits hd hw,Bool.false_or,Bool.and_eq_true] at ha hb
    obtain ⟨la,ha⟩ := Option.isSome_iff_exists.1 ha.2
    obtain ⟨lb,hb⟩ := Option.isSome_iff_exists.1 hb.2
    obtain ⟨A,rfl,_⟩ := wide_cells hw ha
    obtain ⟨B,rfl,_⟩ := wide_cells hw hb
    simp only [keyEq,keyEqs_cells,Value.agg.injEq,List.toArray_eq_iff] <;> simp
  · simp only [keyGood,hw,Bool.false_and,Bool.or_false] at ha hb
    exact keyEq1_iff ha hb
def aMap (P : Program) (t : TypeId) : Option (TypeId × TypeDesc × TypeId) := match P.underlying t with
  | some (.map k e) => match P.underlying k with | some d => some (k,d,e) | none => none
  | _ => none
theorem aMap_of {t k e : TypeId} {d : TypeDesc} (h : aMap P t = some (k,d,e)) : P.underlying t = some (.map k e) ∧ P.underlying k = some d := by
  unfold aMap at h
  split at h
  · split at h
    · cases h; exact ⟨‹_›,‹_›⟩
    · cases h
  · cases h
def mapAt (st : St) (id : Nat) : Option (List (Value × SV)) := match st[id]? with | some (.map es) => some es | _ => none
theorem mapAt_of {st : St} {id : Nat} {es : List (Value × SV)} (h : mapAt st id = some es) : st[id]? = some (.map es) := by
  unfold mapAt at h
  split at h
  · cases h; assumption
  · cases h
def keyIdx (es : List (Value × SV)) (k : Value) : Option Nat := es.findIdx? fun p => keyEq k p.1
theorem MapRep.get {st : St} {σ : Sig} {w : World} {es : List (Value × SV)} {ents : Array MapEntry} {clock : Nat} (h : MapRep st σ w es ents clock) {j : Nat} (hj : j < es.length) :
    ∃ e p,ents[j]? = some e ∧ es[j]? = some p ∧ e.key = p.1 ∧ Rep st σ w p.2 e.val := by
  have hj' : j < ents.size := by rw [h.1]; exact hj
  obtain ⟨h1,h2⟩ := h.2.1 j hj
  refine ⟨ents[j],es[j],by simp [hj'],by simp [hj],?_,?_⟩
  · simpa [Array.getD,hj',List.getD_eq_getElem?_getD,hj] using h1
  · simpa [Array.getD,hj',List.getD_eq_getElem?_getD,hj] using h2
theorem sameNow_fits {d : TypeDesc} {a b : Value} (ha : keyFits d a = true) (hb : keyFits d b = true) : Instr.sameNow d a b = some (keyEq a b) := by
  rw [keyEq_fits ha]
  cases d <;> cases a <;> cases b <;> simp_all [keyFits,keyEq1,Instr.sameNow] <;> rfl
theorem findNow_rep {d : TypeDesc} {k : Value} (hk : keyFits d k = true) : ∀ (l : List MapEntry) (es : List (Value × SV)) (i : Nat),l.map (·.key) = es.map (·.1) → es.all (fun p => keyFits d p.1) = true →
    Instr.findNow d k l i = some ((keyIdx es k).map fun j => (i + j,(l.getD j default).val))
  | [],[],i,_,_ => rfl
  | e :: l,p :: es,i,h,hf => by
    simp only [List.map_cons,List.cons.injEq] at h
    simp only [List.all_cons,Bool.and_eq_true] at hf
    have ih := findNow_rep hk l es (i + 1) h.2 hf.2
    simp only [Instr.findNow,h.1,sameNow_fits hk hf.1]
    unfold keyIdx at ih ⊢
    rw [List.findIdx?_cons]
    cases hb : keyEq k p.1 with
    | true => simp
    | false =>
      simp only [ih,Bool.false_eq_true,if_false,Option.map_map]
      congr 2
      funext j
      simp only [Function.comp,List.getD_cons_succ]
      congr 1
      omega
theorem keys_of {st : St} {σ : Sig} {w : World} {es : List (Value × SV)} {ents : Array MapEntry} {clock : Nat} (h : MapRep st σ w es ents clock) : ents.toList.map (·.key) = es.map (·.1) := by
  refine List.ext_getElem (by simp [h.1]) fun j h1 h2 => ?_
  have hj : j < es.length := by simpa using h2
  obtain ⟨e,p,q1,q2,q3,_⟩ := h.get hj
  have hj' : j < ents.size := by rw [h.1]; exact hj
  rw [List.getElem_map,List.getElem_map]
  have e1 : ents.toList[j] = e := by
    rw [Array.getElem?_eq_getElem hj'] at q1
    simpa using Option.some.inj q1
  have e2 : es[j] = p := by rw [List.getElem?_eq_getElem hj] at q2; exact Option.some.inj q2
  rw [e1,e2,q3]
theorem findAsking_rep {kt : TypeId} {k : Value} {w : World} (good : Value → Prop) (heq : ∀ x,good x → (Op.equal kt k x).run P w = .ok (keyEq k x) w) : ∀ (l : List MapEntry) (es : List (Value × SV)) (i : Nat),l.map (·.key) = es.map (·.1) → (∀ p ∈ es,good p.1) →
    (Instr.findAsking kt k l i).run P w = .ok ((keyIdx es k).map fun j => (i + j,(l.getD j default).val)) w
  | [],[],i,_,_ => by simp [Instr.findAsking,keyIdx]
  | e :: l,p :: es,i,h,hf => by
    simp only [List.map_cons,List.cons.injEq] at h
    have ih := findAsking_rep good heq l es (i + 1) h.2 (fun q hq => hf q (by simp [hq]))
    have hp := heq p.1 (hf p (by simp))
    unfold keyIdx at ih ⊢
    rw [List.findIdx?_cons]
    cases hb : keyEq k p.1 with
    | true =>
      rw [hb] at hp
      simp [Instr.findAsking,h.1,hp,Result.andThen]
    | false =>
      rw [hb] at hp
      simp only [Instr.findAsking,h.1,Sem.run_bind,hp,Result.andThen,Bool.false_eq_true,if_false,ih,Option.map_map]
      congr 2
      funext j
      simp only [Function.comp,List.getD_cons_succ]
      congr 1
      omega
theorem run_find {st : St} {σ : Sig} {w : World} {es : List (Value × SV)} {ents : Array MapEntry} {clock : Nat} (h : MapRep st σ w es ents clock) {kt : TypeId} {d : TypeDesc} (hd : P.underlying kt = some d) {k : Value}
    (hk : keyGood P kt d k = true) (hf : es.all (fun p => keyGood P kt d p.1) = true) :
    (Instr.findKey kt k ents.toList).run P w = .ok ((keyIdx es k).map fun j => (j,(ents.getD j default).val)) w := by
  have e0 : (fun j => (0 + j,(ents.toList.getD j default).val)) = fun j => (j,(ents.getD j default).val) := by
    funext j
    simp [Array.getD_eq_getD_getElem?,List.getD_eq_getElem?_getD]
  by_cases hw : wideT P kt = true
  · obtain ⟨h1,h2,h3⟩ := wide_of hw
    have hk' := hk
    simp only [keyGood,wide_not_fits hd hw,Bool.false_or,Bool.and_eq_true] at hk'
    obtain ⟨lk,hlk⟩ := Option.isSome_iff_exists.1 hk'.2
    rw [run_findKey_eq w h1,← e0]
    refine findAsking_rep (fun v => keyGood P kt d v = true) (fun x hx => ?_) _ _ 0 (keys_of h) (fun p hp => List.all_eq_true.1 hf p hp)
    have hx' := hx
    simp only [keyGood,wide_not_fits hd hw,Bool.false_or,Bool.and_eq_true] at hx'
    obtain ⟨lx,hlx⟩ := Option.isSome_iff_exists.1 hx'.2
    obtain ⟨r,hr,hiff⟩ := run_equal_deep w (m := 8) (by omega) h2 h1 hlk hlx
    have : r = keyEq k x := by
      rw [Bool.eq_iff_iff,hiff,keyEq_iff hd hk hx]
      constructor
      · intro e; subst e; exact keyOf_inj_deep h3 h1 hlk hlx
      · intro e; subst e; rw [hlk] at hlx; exact Option.some.inj hlx
    rw [← this]
    exact hr
  · simp only [keyGood,hw,Bool.false_and,Bool.or_false] at hk hf
    have := run_findKey (w := w) hd (findNow_rep hk ents.toList es 0 (keys_of h) hf)
    rw [this,e0]
theorem run_check {w : World} {kt : TypeId} {d : TypeDesc} {k : Value} (hd : P.underlying kt = some d) (hk : keyGood P kt d k = true) (e : Bool) : (Instr.checkKey e 10000 kt k).run P w = .ok () w := by
  by_cases hw : wideT P kt = true
  · obtain ⟨h1,h2,h3⟩ := wide_of hw
    simp only [keyGood,wide_not_fits hd hw,Bool.false_or,Bool.and_eq_true] at hk
    obtain ⟨lk,hlk⟩ := Option.isSome_iff_exists.1 hk.2
    exact (deep_law (m := 8) (by omega) h2 h3 h1).check w e hlk
  · simp only [keyGood,hw,Bool.false_and,Bool.or_false] at hk
    exact run_checkKey hd (keyFits_is hk) e 9999
def zeroSV (P : Program) (t : TypeId) : Option SV := (aZero P t).bind fun zs => match (P.info? t).bind (·.zero) with | some (.agg _) => some (.agg zs) | some v => some (svOf v) | none => none
theorem run_zeroSV {t : TypeId} {z : SV} (h : zeroSV P t = some z) (st : St) (σ : Sig) (w : World) : ∃ v,(zeroValue t).run P w = .ok v w ∧ Rep st σ w z v := by
  unfold zeroSV at h
  cases hz : aZero P t with
  | none => rw [hz] at h; cases h
  | some zs =>
    rw [hz] at h
    obtain ⟨i,v,h1,h2,rfl⟩ := zero_of hz
    refine ⟨v,run_zero' h1 h2 w,?_⟩
    simp only [h1,Option.bind_some,h2] at h
    cases v with
    | agg cs =>
      simp only at h
      cases h
      exact .agg _ _ (repL_svOf (st := st) (σ := σ) (w := w) cs).1 (repL_svOf cs).2
    | _ => simp only at h; cases h; exact rep_svOf _
def scs : List SV → Option (List Value)
  | [] => some []
  | .sc v :: r => (scs r).map (v :: ·)
  | _ => none
theorem scs_spec : ∀ {l : List SV} {vs : List Value},scs l = some vs → l = vs.map SV.sc
  | [],vs,h => by cases h; rfl
  | .sc v :: r,vs,h => by
    simp only [scs] at h
    cases hr : scs r with
    | none => rw [hr] at h; cases h
    | some us =>
      rw [hr] at h
      cases h
      rw [scs_spec hr]
      rfl
  | .any :: _,_,h | .slice _ _ _ :: _,_,h | .ref _ :: _,_,h | .ptr _ _ :: _,_,h | .func _ _ _ :: _,_,h | .agg _ :: _,_,h | .tuple _ :: _,_,h | .gd _ _ :: _,_,h | .slc _ _ _ _ _ :: _,_,h | .mp _ :: _,_,h | .stamp _ _ :: _,_,h | .arr _ _ _ :: _,_,h | .aptr _ _ _ :: _,_,h => by cases h
def keyOf : SV → Option Value
  | .sc v => some v
  | .agg l => (scs l).map fun vs => .agg vs.toArray
  | _ => none
theorem rep_keyOf {st : St} {σ : Sig} {w : World} {x : SV} {k v : Value} (h : keyOf x = some k) (r : Rep st σ w x v) : v = k := by
  unfold keyOf at h
  split at h
  · cases h; exact rep_sc r
  · rename_i l
    cases hl : scs l with
    | none => rw [hl] at h; cases h
    | some vs =>
      rw [hl] at h
      cases h
      have hs := scs_spec hl
      subst hs
      cases r with
      | agg _ us hz hr =>
        congr 1
        refine Array.ext (by simpa using hz) fun i h1 h2 => ?_
        have h3 : i < vs.length := by simpa using h2
        have := hr i (by simpa using h3)
        simp only [List.getD_eq_getElem?_getD,List.getElem?_map,List.getElem?_eq_getElem h3,Option.map_some,Option.getD_some] at this
        have e := rep_sc this
        simpa [Array.getD,h1] using e
  · cases h
def mapGet (P : Program) (t : TypeId) (st : St) (x k : SV) : Option (SV × Bool) :=
  match x,keyOf k,aMap P t with
  | .mp id,some kv,some (kt,d,e) => match mapAt st id,zeroSV P e with
    | some es,some z => if keyGood P kt d kv && es.all (fun p => keyGood P kt d p.1) then
        match keyIdx es kv with
        | some j => some ((es.getD j (default,.any)).2,true)
        | none => some (z,false)
      else none
    | _,_ => none
  | .sc (.map none),some kv,some (kt,d,e) => match zeroSV P e with
    | some z => if keyGood P kt d kv then some (z,false) else none
    | none => none
  | _,_,_ => none
theorem keyIdx_lt {es : List (Value × SV)} {k : Value} {j : Nat} (h : keyIdx es k = some j) : j < es.length := by
  unfold keyIdx at h
  rw [List.findIdx?_eq_some_iff_getElem] at h
  exact h.1
theorem MapRep.at {st : St} {σ : Sig} {w : World} {es : List (Value × SV)} {ents : Array MapEntry} {clock : Nat} (h : MapRep st σ w es ents clock) {j : Nat} (hj : j < es.length) :
    Rep st σ w (es.getD j (default,.any)).2 (ents.getD j default).val := (h.2.1 j hj).2
theorem run_lookup {st : St} {σ : Sig} {w : World} (hI : Inv st σ w) {t : TypeId} {x k y : SV} {b : Bool} {vx vk : Value} (h : mapGet P t st x k = some (y,b)) (hx : Rep st σ w x vx) (hk : Rep st σ w k vk) (ok : Bool) :
    ∃ v,(Instr.lookup t vx vk ok).run P w = .ok (if ok then .tuple #[v,.bool b] else v) w ∧ Rep st σ w y v := by
  unfold mapGet at h
  split at h
  · rename_i id kv kt d e hkv hmt
    obtain ⟨m1,m2⟩ := aMap_of hmt
    have ek := rep_keyOf hkv hk
    subst ek
    split at h
    · rename_i es z hes hz
      split at h
      · rename_i hf
        rw [Bool.and_eq_true] at hf
        cases hx with
        | mp id b' hkk hb =>
          obtain ⟨b2,ents,clock,q1,q2,q3,_⟩ := hI.maps id es (mapAt_of hes)
          rw [hb] at q1; cases q1
          have hfind := run_find (P := P) q3 m2 hf.1 hf.2
          obtain ⟨vz,z1,z2⟩ := run_zeroSV hz st σ w
          split at h
          · rename_i j hj
            cases h
            rw [hj] at hfind
            refine ⟨(ents.getD j default).val,?_,q3.at (keyIdx_lt hj)⟩
            simp [Instr.lookup,run_underlying m1,Result.andThen,MapKept.run_getObj_map q2,run_check m2 hf.1,hfind]
          · rename_i hj
            cases h
            rw [hj] at hfind
            refine ⟨vz,?_,z2⟩
            simp [Instr.lookup,run_underlying m1,Result.andThen,MapKept.run_getObj_map q2,run_check m2 hf.1,hfind,z1]
      · cases h
    · cases h
  · rename_i kv kt d e hkv hmt
    obtain ⟨m1,m2⟩ := aMap_of hmt
    have ek := rep_keyOf hkv hk
    subst ek
    have ex := rep_sc hx
    subst ex
    split at h
    · rename_i z hz
      split at h
      · rename_i hf
        cases h
        obtain ⟨vz,z1,z2⟩ := run_zeroSV hz st σ w
        have hfind : (Instr.findKey kt vk []).run P w = .ok none w := run_findKey m2 rfl
        refine ⟨vz,?_,z2⟩
        simp [Instr.lookup,run_underlying m1,Result.andThen,run_check m2 hf,hfind,z1]
      · cases h
    · cases h
  · cases h
theorem Ext.newMap {st : St} {σ : Sig} {w : World} (b : Option Nat) (es : List (Value × SV)) : Ext st σ w (st ++ [.map es]) (σ.setMu st.length b) w := Ext.newOb _ _
theorem Inv.newMap {st : St} {σ : Sig} {w : World} (hI : Inv st σ w) {b : Nat} {es : List (Value × SV)} {ents : Array MapEntry} {clock : Nat}
    (hb : w.heap[b]? = some (.map ents clock)) (hl : σ.lock b = .upto 0) (hno : ∀ i,i < st.length → σ.μ i ≠ some b) (hr : MapRep st σ w es ents clock) : Inv (st ++ [.map es]) (σ.setMu st.length (some b)) w where
  cells := fun id l' hl' => by
    by_cases e : id = st.length
    · subst e; simp at hl'
    · have hlt : id < st.length := by have := lt_of_get hl'; simp at this; omega
      rw [List.getElem?_append_left hlt] at hl'
      obtain ⟨c,cs,T,h1,h2,h3,h4,h5⟩ := hI.cells id l' hl'
      exact ⟨c,cs,T,by simp only [Sig.setMu,if_neg e]; exact h1,h2,h3,fun j hj => (h4 j hj).ext (Ext.newOb _ _),h5⟩
  tok := fun id v c h hc => by
    by_cases e : id = st.length
    · subst e; simp at h
    · have hlt : id < st.length := by have := lt_of_get h; simp at this; omega
      rw [List.getElem?_append_left hlt] at h
      simp only [Sig.setMu,if_neg e] at hc
      exact hI.tok id v c h hc
  inj := fun i j c hi hj h1 h2 => by
    simp at hi hj
    by_cases e : i = st.length <;> by_cases e' : j = st.length
    · omega
    · simp only [Sig.setMu,if_pos e] at h1
      simp only [Sig.setMu,if_neg e'] at h2
      cases h1
      exact absurd h2 (hno j (by omega))
    · simp only [Sig.setMu,if_pos e'] at h2
      simp only [Sig.setMu,if_neg e] at h1
      cases h2
      exact absurd h1 (hno i (by omega))
    · simp only [Sig.setMu,if_neg e] at h1
      simp only [Sig.setMu,if_neg e'] at h2
      exact hI.inj i j c (by omega) (by omega) h1 h2
  fresh := hI.fresh
  arrs := fun id v z cs' hc => by
    by_cases e : id = st.length
    · subst e; simp at hc
    · have hlt : id < st.length := by have := lt_of_get hc; simp at this; omega
      rw [List.getElem?_append_left hlt] at hc
      refine (hI.arrs id v z cs' hc).imp (fun ⟨h1,h2⟩ => ⟨by simp only [Sig.setMu,if_neg e]; exact h1,h2⟩) fun ⟨c,vals,T,h1,h2,h3,h4,h5⟩ => ?_
      exact ⟨c,vals,T,by simp only [Sig.setMu,if_neg e]; exact h1,h2,h3,fun j hj => (h4 j hj).ext (Ext.newOb _ _),h5⟩
  maps := fun id l' hl' => by
    by_cases e : id = st.length
    · subst e
      simp at hl'
      subst hl'
      exact ⟨b,ents,clock,by simp only [Sig.setMu,if_true],hb,hr.ext (Ext.newOb _ _),hl⟩
    · have hlt : id < st.length := by have := lt_of_get hl'; simp at this; omega
      rw [List.getElem?_append_left hlt] at hl'
      obtain ⟨c,en,cl,h1,h2,h3,h4⟩ := hI.maps id l' hl'
      exact ⟨c,en,cl,by simp only [Sig.setMu,if_neg e]; exact h1,h2,h3.ext (Ext.newOb _ _),h4⟩
  globs := hI.globs_ext (Ext.newOb _ _) (glob_app (fun id hid => by simp only [Sig.setMu,if_neg (show ¬ id = st.length by omega)]) (fun b v h => by cases h))
theorem new_map {st : St} {σ : Sig} {w : World} (hI : Inv st σ w) (es : List (Value × SV)) (ents : Array MapEntry) (clock : Nat) (hr : MapRep st σ w es ents clock) :
    ∃ σ',Inv (st ++ [.map es]) σ' { w with heap := w.heap.push (.map ents clock) } ∧ Ext st σ w (st ++ [.map es]) σ' { w with heap := w.heap.push (.map ents clock) } ∧
      Rep (st ++ [.map es]) σ' { w with heap := w.heap.push (.map ents clock) } (.mp st.length) (.map (some w.heap.size)) := by
  have hX := Ext.alloc hI (.map ents clock) (.upto 0)
  have hI1 := hI.alloc (.map ents clock) (.upto 0)
  have hX2 : Ext st (σ.setLock w.heap.size (.upto 0)) { w with heap := w.heap.push (.map ents clock) } (st ++ [.map es]) ((σ.setLock w.heap.size (.upto 0)).setMu st.length (some w.heap.size)) { w with heap := w.heap.push (.map ents clock) } := Ext.newOb _ _
  refine ⟨_,Inv.newMap hI1 (by simp) (by simp [Sig.setLock]) (fun i hi h => ?_) (hr.ext hX),hX.trans hX2,?_⟩
  · have := hI.mu_lt hi h
    omega
  · exact .mp _ _ ⟨es,by simp⟩ (by simp [Sig.setMu])
theorem mapRep_nil (st : St) (σ : Sig) (w : World) : MapRep st σ w [] #[] 0 :=
  ⟨rfl,fun j hj => absurd hj (Nat.not_lt_zero _),fun j hj => absurd hj (Nat.not_lt_zero _),fun i j hi => absurd hi (Nat.not_lt_zero _)⟩
theorem aop_makeMap {o : Oper} {t : TypeId} {K : SV → St → Prop} {env : List SV} {st : St} (ho : o.op = .makeMap t none) (hk : K (.mp st.length) (st ++ [.map []])) : AOp P o K env st :=
  aop_value fun σ w a hI hR => by
    obtain ⟨σ',h1,h2,h3⟩ := new_map hI [] #[] 0 (mapRep_nil st σ w)
    exact ⟨_,_,_,_,σ',by simp [execOp,ho,Instr.makeMap],hk,h1,h3,h2⟩
theorem Ext.mapWrite {st : St} {σ : Sig} {w w' : World} {id b : Nat} {es es' : List (Value × SV)} {ents ents' : Array MapEntry} {clock clock' : Nat} (hI : Inv st σ w) (hid : st[id]? = some (.map es)) (hb : σ.μ id = some b)
    (hl : σ.lock b = .upto 0) (hos : w'.os = w.os) (htape : w'.tape = w.tape) (hout : w'.output = w.output) (hsz : w'.heap.size = w.heap.size)
    (hoth : ∀ c,c ≠ b → w'.heap[c]? = w.heap[c]?) (hw : w.heap[b]? = some (.map ents clock)) (hw' : w'.heap[b]? = some (.map ents' clock')) (hge : ents.size ≤ ents'.size)
    (hborn : ∀ j,j < ents.size → (ents'.getD j default).born = (ents.getD j default).born) : Ext st σ w (st.set id (.map es')) σ w' where
  os := hos
  tape := htape
  output := hout
  size := by omega
  lock := fun c o v h k => by
    by_cases e : c = b
    · subst e
      rw [hl] at h
      exact absurd h (Nat.not_lt_zero _)
    · refine ⟨h,?_⟩
      unfold World.cell? at *
      simp only [hoth c e]; exact k
  all := fun c hc h => by
    have e : c ≠ b := by rintro rfl; rw [hl] at h; cases h
    exact ⟨rfl,hoth c e⟩
  kcells := fun j x h => by
    have hne : j ≠ id := by rintro rfl; rw [hid] at h; cases h
    exact ⟨⟨x,by rw [set_get_ne hne]; exact h⟩,rfl⟩
  ktok := fun j v h => by
    have hne : j ≠ id := by rintro rfl; rw [hid] at h; cases h
    refine ⟨v,by rw [set_get_ne hne]; exact h,Nat.le_refl _,fun _ => ⟨rfl,fun c hc => ?_⟩⟩
    have e : c ≠ b := by rintro rfl; exact hne (hI.inj j id c (lt_of_get h) (lt_of_get hid) hc hb)
    exact ⟨rfl,hoth c e⟩
  karrs := fun j v z x h => by
    have hne : j ≠ id := by rintro rfl; rw [hid] at h; cases h
    refine ⟨v,x,by rw [set_get_ne hne]; exact h,Nat.le_refl _,fun _ => ⟨rfl,rfl,fun c vals T fr hc hh => ⟨vals,?_,rfl⟩⟩⟩
    rw [hoth c (by rintro rfl; exact hne (hI.inj j id c (lt_of_get h) (lt_of_get hid) hc hb))]; exact hh
  kmaps := fun j x h => by
    by_cases hne : j = id
    · subst hne
      refine ⟨⟨es',set_get (lt_of_get hid)⟩,rfl,fun c e cl hc hh => ?_⟩
      rw [hb] at hc; cases hc
      rw [hw] at hh; cases hh
      exact ⟨ents',clock',hw',hge,hborn⟩
    · refine ⟨⟨x,by rw [set_get_ne hne]; exact h⟩,rfl,fun c e cl hc hh => ⟨e,cl,?_,Nat.le_refl _,fun _ _ => rfl⟩⟩
      rw [hoth c (by rintro rfl; exact hne (hI.inj j id c (lt_of_get h) (lt_of_get hid) hc hb))]; exact hh
theorem Inv.mapWrite {st : St} {σ : Sig} {w w' : World} {id b : Nat} {es es' : List (Value × SV)} {ents ents' : Array MapEntry} {clock clock' : Nat} (hI : Inv st σ w) (hid : st[id]? = some (.map es)) (hb : σ.μ id = some b)
    (hl : σ.lock b = .upto 0) (hos : w'.os = w.os) (htape : w'.tape = w.tape) (hout : w'.output = w.output) (hsz : w'.heap.size = w.heap.size)
    (hoth : ∀ c,c ≠ b → w'.heap[c]? = w.heap[c]?) (hw : w.heap[b]? = some (.map ents clock)) (hw' : w'.heap[b]? = some (.map ents' clock')) (hge : ents.size ≤ ents'.size)
    (hborn : ∀ j,j < ents.size → (ents'.getD j default).born = (ents.getD j default).born) (hr : MapRep st σ w es' ents' clock') : Inv (st.set id (.map es')) σ w' where
  cells := fun j x h => by
    have k := Ext.mapWrite (es' := es') hI hid hb hl hos htape hout hsz hoth hw hw' hge hborn
    have hne : j ≠ id := by rintro rfl; rw [set_get (lt_of_get hid)] at h; cases h
    rw [set_get_ne hne] at h
    obtain ⟨c,cs',T',h1,h2,h3,h4,h5⟩ := hI.cells j x h
    have e : c ≠ b := by rintro rfl; exact hne (hI.inj j id c (lt_of_get h) (lt_of_get hid) h1 hb)
    exact ⟨c,cs',T',h1,by rw [hoth c e]; exact h2,h3,fun i hi => (h4 i hi).ext k,h5⟩
  tok := fun j v c h hc => by
    have hne : j ≠ id := by rintro rfl; rw [set_get (lt_of_get hid)] at h; cases h
    rw [set_get_ne hne] at h
    obtain ⟨h1,h2⟩ := hI.tok j v c h hc
    exact ⟨by omega,h2⟩
  inj := fun i j c hi hj h1 h2 => by simp at hi hj; exact hI.inj i j c hi hj h1 h2
  fresh := fun c hc => hI.fresh c (by omega)
  arrs := fun j v z x h => by
    have k := Ext.mapWrite (es' := es') hI hid hb hl hos htape hout hsz hoth hw hw' hge hborn
    have hne : j ≠ id := by rintro rfl; rw [set_get (lt_of_get hid)] at h; cases h
    rw [set_get_ne hne] at h
    refine (hI.arrs j v z x h).imp (fun h => h) fun ⟨c,vals,T',h1,h2,h3,h4,h5⟩ => ?_
    have e : c ≠ b := by rintro rfl; exact hne (hI.inj j id c (lt_of_get h) (lt_of_get hid) h1 hb)
    exact ⟨c,vals,T',h1,by rw [hoth c e]; exact h2,h3,fun i hi => (h4 i hi).ext k,h5⟩
  maps := fun j x h => by
    have k := Ext.mapWrite (es' := es') hI hid hb hl hos htape hout hsz hoth hw hw' hge hborn
    by_cases hne : j = id
    · subst hne
      rw [set_get (lt_of_get hid)] at h
      cases h
      exact ⟨b,ents',clock',hb,hw',hr.ext k,hl⟩
    · rw [set_get_ne hne] at h
      obtain ⟨c,en,cl,h1,h2,h3,h4⟩ := hI.maps j x h
      have e : c ≠ b := by rintro rfl; exact hne (hI.inj j id c (lt_of_get h) (lt_of_get hid) h1 hb)
      exact ⟨c,en,cl,h1,by rw [hoth c e]; exact h2,h3.ext k,h4⟩
  globs := hI.globs_ext (Ext.mapWrite (es' := es') hI hid hb hl hos htape hout hsz hoth hw hw' hge hborn) (glob_set (fun _ _ => rfl) (fun b v h => by cases h))
def mapPut (es : List (Value × SV)) (k : Value) (x : SV) : List (Value × SV) :=
  match keyIdx es k with
  | some j => es.set j ((es.getD j (default,.any)).1,x)
  | none => es ++ [(k,x)]
theorem mapRep_set {st : St} {σ : Sig} {w : World} {es : List (Value × SV)} {ents : Array MapEntry} {clock : Nat} (h : MapRep st σ w es ents clock) {j : Nat} (hj : j < es.length) {x : SV} {v : Value} (hx : Rep st σ w x v)
    (f : MapEntry → MapEntry) (hk : ∀ e,ents[j]? = some e → (f e).key = e.key) (hv : ∀ e,(f e).val = v) (hbn : ∀ e,(f e).born = e.born) :
    MapRep st σ w (es.set j ((es.getD j (default,.any)).1,x)) (ents.modify j f) clock ∧ ∀ i,i < ents.size → ((ents.modify j f).getD i default).born = (ents.getD i default).born := by
  have hj' : j < ents.size := by rw [h.1]; exact hj
  have hget : ∀ i,i < ents.size → (ents.modify j f).getD i default = if i = j then f (ents.getD i default) else ents.getD i default := by
    intro i hi
    simp only [Array.getD_eq_getD_getElem?,Array.getElem?_modify,Array.getElem?_eq_getElem hi]
    by_cases e : j = i
    · subst e; simp
    · rw [if_neg e,if_neg (fun e2 => e e2.symm)]
  have hb2 : ∀ i,i < ents.size → ((ents.modify j f).getD i default).born = (ents.getD i default).born := by
    intro i hi
    rw [hget i hi]
    split
    · rw [hbn]
    · rfl
  refine ⟨⟨by simp [h.1],fun i hi => ?_,fun i hi => ?_,fun a b ha hb e => ?_⟩,hb2⟩
  · simp only [List.length_set] at hi
    have hi' : i < ents.size := by rw [h.1]; exact hi
    obtain ⟨h1,h2⟩ := h.2.1 i hi
    rw [hget i hi']
    by_cases e : i = j
    · subst e
      simp only [if_true,List.getD_eq_getElem?_getD,List.getElem?_set_self hi,Option.getD_some]
      refine ⟨?_,by rw [hv]; exact hx⟩
      rw [hk _ (by simp [hi',Array.getD])]
      simpa [List.getD_eq_getElem?_getD] using h1
    · rw [if_neg e]
      simp only [List.getD_eq_getElem?_getD,List.getElem?_set_ne (show j ≠ i from fun e2 => e e2.symm)]
      exact ⟨by simpa [List.getD_eq_getElem?_getD] using h1,by simpa [List.getD_eq_getElem?_getD] using h2⟩
  · simp only [Array.size_modify] at hi
    rw [hb2 i hi]; exact h.2.2.1 i hi
  · simp only [Array.size_modify] at ha hb
    rw [hb2 a ha,hb2 b hb] at e
    exact h.2.2.2 a b ha hb e
theorem mapRep_push {st : St} {σ : Sig} {w : World} {es : List (Value × SV)} {ents : Array MapEntry} {clock : Nat} (h : MapRep st σ w es ents clock) {k : Value} {x : SV} {v : Value} (hx : Rep st σ w x v) :
    MapRep st σ w (es ++ [(k,x)]) (ents.push { key := k,val := v,born := clock }) (clock + 1) ∧ ∀ i,i < ents.size → ((ents.push { key := k,val := v,born := clock }).getD i default).born = (ents.getD i default).born := by
  have hget : ∀ i,i < ents.size → (ents.push { key := k,val := v,born := clock }).getD i default = ents.getD i default := by
    intro i hi
    simp [Array.getD_eq_getD_getElem?,Array.getElem?_push,show ¬ i = ents.size by omega]
  have hlast : (ents.push { key := k,val := v,born := clock }).getD ents.size default = { key := k,val := v,born := clock } := by
    simp [Array.getD_eq_getD_getElem?]
  refine ⟨⟨by simp [h.1],fun i hi => ?_,fun i hi => ?_,fun a b ha hb e => ?_⟩,fun i hi => by rw [hget i hi]⟩
  · by_cases e : i < es.length
    · rw [hget i (by rw [h.1]; exact e),List.getD_eq_getElem?_getD,List.getElem?_append_left e,← List.getD_eq_getElem?_getD]
      exact h.2.1 i e
    · obtain rfl : i = es.length := by simp at hi; omega
      rw [← h.1,hlast,h.1,List.getD_eq_getElem?_getD,List.getElem?_append_right (Nat.le_refl _)]
      simp
      exact hx
  · simp only [Array.size_push] at hi
    by_cases e : i < ents.size
    · rw [hget i e]; have := h.2.2.1 i e; omega
    · obtain rfl : i = ents.size := by omega
      rw [hlast]; exact Nat.lt_succ_self _
  · simp only [Array.size_push] at ha hb
    by_cases e1 : a < ents.size <;> by_cases e2 : b < ents.size
    · rw [hget a e1,hget b e2] at e; exact h.2.2.2 a b e1 e2 e
    · obtain rfl : b = ents.size := by omega
      rw [hget a e1,hlast] at e
      have := h.2.2.1 a e1
      simp only at e
      omega
    · obtain rfl : a = ents.size := by omega
      rw [hget b e2,hlast] at e
      have := h.2.2.1 b e2
      simp only at e
      omega
    · omega
theorem run_stays {kt : TypeId} {d : TypeDesc} {k : Value} (hd : P.underlying kt = some d) (h : keyGood P kt d k = true) (w : World) : (Instr.keyThatStays k k).run P w = .ok k w := by
  by_cases hw : wideT P kt = true
  · obtain ⟨h1,h2,h3⟩ := wide_of hw
    simp only [keyGood,wide_not_fits hd hw,Bool.false_or,Bool.and_eq_true] at h
    obtain ⟨lk,hlk⟩ := Option.isSome_iff_exists.1 h.2
    exact (deep_law (m := 8) (by omega) h2 h3 h1).stays w hlk
  · simp only [keyGood,hw,Bool.false_and,Bool.or_false] at h
    have : ∀ n,Instr.sameBits n k k = true := fun n => by cases k <;> simp_all [keyFits,Instr.sameBits,bytes_beq]
    simp [Instr.keyThatStays,this]
def mapOk (P : Program) (t : TypeId) (st : St) (x k : SV) : Option (Nat × List (Value × SV) × Value × TypeId) :=
  match x,keyOf k,aMap P t with
  | .mp id,some kv,some (kt,d,e) => match mapAt st id with
    | some es => if keyGood P kt d kv && es.all (fun p => keyGood P kt d p.1) then some (id,es,kv,e) else none
    | none => none
  | _,_,_ => none
theorem key_at {st : St} {σ : Sig} {w : World} {es : List (Value × SV)} {ents : Array MapEntry} {clock : Nat} (h : MapRep st σ w es ents clock) {kt : TypeId} {d : TypeDesc} {k : Value} (hd : P.underlying kt = some d) (hk : keyGood P kt d k = true) (hf : es.all (fun p => keyGood P kt d p.1) = true)
    {j : Nat} (hj : keyIdx es k = some j) : ∃ e,ents[j]? = some e ∧ e.key = k ∧ (es.getD j (default,.any)).1 = k := by
  have hlt := keyIdx_lt hj
  obtain ⟨e,p,q1,q2,q3,_⟩ := h.get hlt
  unfold keyIdx at hj
  rw [List.findIdx?_eq_some_iff_getElem] at hj
  obtain ⟨_,hp,_⟩ := hj
  have e1 : es[j] = p := by rw [List.getElem?_eq_getElem hlt] at q2; exact Option.some.inj q2
  rw [e1] at hp
  have := (keyEq_iff hd hk (List.all_eq_true.1 hf p (List.mem_of_getElem? q2))).1 hp
  refine ⟨e,q1,by rw [q3,this],?_⟩
  rw [List.getD_eq_getElem?_getD,q2]
  exact this.symm
theorem run_mapPut {st : St} {σ : Sig} {w : World} (hI : Inv st σ w) {t e : TypeId} {x k y : SV} {id : Nat} {es : List (Value × SV)} {kv : Value} {vx vk vy : Value} (h : mapOk P t st x k = some (id,es,kv,e)) (hx : Rep st σ w x vx) (hk : Rep st σ w k vk)
    (hy : Rep st σ w y vy) : ∃ w',(Instr.mapUpdate t vx vk vy).run P w = .ok () w' ∧ Inv (st.set id (.map (mapPut es kv y))) σ w' ∧ Ext st σ w (st.set id (.map (mapPut es kv y))) σ w' := by
  unfold mapOk at h
  split at h
  · rename_i id' kv' kt d e' hkv hmt
    obtain ⟨m1,m2⟩ := aMap_of hmt
    have ek := rep_keyOf hkv hk
    subst ek
    split at h
    · rename_i es' hes
      split at h
      · rename_i hf
        rw [Bool.and_eq_true] at hf
        cases h
        cases hx with
        | mp _ b' hkk hb =>
          have hid := mapAt_of hes
          obtain ⟨b2,ents,clock,q1,q2,q3,q4⟩ := hI.maps id es hid
          rw [hb] at q1; cases q1
          have hfind := run_find (P := P) q3 m2 hf.1 hf.2
          have hoth : ∀ (o : Obj) c,c ≠ b' → (w.heap.setIfInBounds b' o)[c]? = w.heap[c]? := fun o c hc => by rw [Array.getElem?_setIfInBounds_ne (Ne.symm hc)]
          have hset : ∀ (o : Obj),(w.heap.setIfInBounds b' o)[b']? = some o := fun o => by simp [lt_of_some q2]
          unfold mapPut
          cases hj : keyIdx es kv with
          | some j =>
            rw [hj] at hfind
            obtain ⟨en,r1,r2,r3⟩ := key_at q3 m2 hf.1 hf.2 hj
            obtain ⟨g1,g2⟩ := mapRep_set q3 (keyIdx_lt hj) hy (fun e => { e with key := kv,val := vy }) (fun e he => by rw [r1] at he; cases he; exact r2.symm) (fun _ => rfl) (fun _ => rfl)
            refine ⟨{ w with heap := w.heap.setIfInBounds b' (.map (ents.modify j fun e => { e with key := kv,val := vy }) clock) },?_,?_,?_⟩
            · simp [Instr.mapUpdate,run_underlying m1,Result.andThen,MapKept.run_getObj_map q2,run_check m2 hf.1,hfind,r1,r2,run_stays m2 hf.1,run_setObj_map _ q2]
            · exact hI.mapWrite hid hb q4 rfl rfl rfl (by simp) (hoth _) q2 (hset _) (by simp) g2 g1
            · exact Ext.mapWrite hI hid hb q4 rfl rfl rfl (by simp) (hoth _) q2 (hset _) (by simp) g2
          | none =>
            rw [hj] at hfind
            obtain ⟨g1,g2⟩ := mapRep_push q3 (k := kv) hy
            refine ⟨{ w with heap := w.heap.setIfInBounds b' (.map (ents.push { key := kv,val := vy,born := clock }) (clock + 1)) },?_,?_,?_⟩
            · simp [Instr.mapUpdate,run_underlying m1,Result.andThen,MapKept.run_getObj_map q2,run_check m2 hf.1,hfind,run_setObj_map _ q2]
            · exact hI.mapWrite hid hb q4 rfl rfl rfl (by simp) (hoth _) q2 (hset _) (by simp) g2 g1
            · exact Ext.mapWrite hI hid hb q4 rfl rfl rfl (by simp) (hoth _) q2 (hset _) (by simp) g2
      · cases h
    · cases h
  · cases h
theorem run_mapEntry {st : St} {σ : Sig} {w : World} (hI : Inv st σ w) {t e : TypeId} {x k z : SV} {id : Nat} {es : List (Value × SV)} {kv : Value} {vx vk : Value} (h : mapOk P t st x k = some (id,es,kv,e)) (hz : zeroSV P e = some z)
    (hx : Rep st σ w x vx) (hk : Rep st σ w k vk) :
    (∀ j,keyIdx es kv = some j → ∃ w' v born,(Instr.mapEntry t vx vk).run P w = .ok (.tuple #[v,.int .i64 born]) w' ∧ Inv st σ w' ∧ Ext st σ w st σ w' ∧ Rep st σ w' (es.getD j (default,.any)).2 v ∧ Rep st σ w' (.stamp id j) (.int .i64 born)) ∧
    (keyIdx es kv = none → ∃ w' v born,(Instr.mapEntry t vx vk).run P w = .ok (.tuple #[v,.int .i64 born]) w' ∧ Inv (st.set id (.map (es ++ [(kv,z)]))) σ w' ∧ Ext st σ w (st.set id (.map (es ++ [(kv,z)]))) σ w' ∧
      Rep (st.set id (.map (es ++ [(kv,z)]))) σ w' z v ∧ Rep (st.set id (.map (es ++ [(kv,z)]))) σ w' (.stamp id es.length) (.int .i64 born)) := by
  unfold mapOk at h
  split at h
  · rename_i id' kv' kt d e' hkv hmt
    obtain ⟨m1,m2⟩ := aMap_of hmt
    have ek := rep_keyOf hkv hk
    subst ek
    split at h
    · rename_i es' hes
      split at h
      · rename_i hf
        rw [Bool.and_eq_true] at hf
        cases h
        cases hx with
        | mp _ b' hkk hb =>
          have hid := mapAt_of hes
          obtain ⟨b2,ents,clock,q1,q2,q3,q4⟩ := hI.maps id es hid
          rw [hb] at q1; cases q1
          have hfind := run_find (P := P) q3 m2 hf.1 hf.2
          obtain ⟨vz,z1,z2⟩ := run_zeroSV hz st σ w
          have hoth : ∀ (o : Obj) c,c ≠ b' → (w.heap.setIfInBounds b' o)[c]? = w.heap[c]? := fun o c hc => by rw [Array.getElem?_setIfInBounds_ne (Ne.symm hc)]
          have hset : ∀ (o : Obj),(w.heap.setIfInBounds b' o)[b']? = some o := fun o => by simp [lt_of_some q2]
          refine ⟨fun j hj => ?_,fun hj => ?_⟩
          · rw [hj] at hfind
            obtain ⟨en,r1,r2,r3⟩ := key_at q3 m2 hf.1 hf.2 hj
            have hlt := keyIdx_lt hj
            have hsame : es.set j ((es.getD j (default,.any)).1,(es.getD j (default,.any)).2) = es := by
              refine List.ext_getElem? fun i => ?_
              by_cases e : j = i
              · subst e; rw [List.getElem?_set_self hlt]; simp [List.getD_eq_getElem?_getD,hlt]
              · rw [List.getElem?_set_ne e]
            have hval : ∀ e : MapEntry,ents[j]? = some e → e.val = (ents.getD j default).val := fun e he => by rw [Array.getD_eq_getD_getElem?,he]; rfl
            have hrep : MapRep st σ w es (ents.modify j fun e => { e with key := kv }) clock ∧ ∀ i,i < ents.size → ((ents.modify j fun e => { e with key := kv }).getD i default).born = (ents.getD i default).born := by
              have h1 : ents.modify j (fun e => { e with key := kv }) = ents.modify j (fun e => { e with key := kv,val := (ents.getD j default).val }) := by
                refine Array.ext_getElem? fun i => ?_
                simp only [Array.getElem?_modify]
                by_cases e : j = i
                · subst e; simp only [if_true,r1,Option.map_some,hval en r1]
                · rw [if_neg e,if_neg e]
              rw [h1]
              have := mapRep_set q3 hlt (q3.at hlt) (fun e => { e with key := kv,val := (ents.getD j default).val }) (fun e he => by rw [r1] at he; cases he; exact r2.symm) (fun _ => rfl) (fun _ => rfl)
              rw [hsame] at this
              exact this
            have hst : st.set id (.map es) = st := by
              refine List.ext_getElem? fun i => ?_
              by_cases e : id = i
              · subst e; rw [List.getElem?_set_self (lt_of_get hid),hid]
              · rw [List.getElem?_set_ne e]
            have hX := Ext.mapWrite (w' := { w with heap := w.heap.setIfInBounds b' (.map (ents.modify j fun e => { e with key := kv }) clock) }) (es' := es) hI hid hb q4 rfl rfl rfl (by simp) (hoth _) q2 (hset _) (by simp) hrep.2
            have hI2 := hI.mapWrite (w' := { w with heap := w.heap.setIfInBounds b' (.map (ents.modify j fun e => { e with key := kv }) clock) }) hid hb q4 rfl rfl rfl (by simp) (hoth _) q2 (hset _) (by simp) hrep.2 hrep.1
            rw [hst] at hX hI2
            refine ⟨_,(ents.getD j default).val,(ents.getD j default).born,?_,hI2,hX,(q3.at hlt).ext hX,(Rep.stamp id j b' ents clock ⟨es,hid⟩ hb q2 (by rw [q3.1]; exact hlt)).ext hX⟩
            simp [Instr.mapEntry,run_underlying m1,Result.andThen,MapKept.run_getObj_map q2,run_check m2 hf.1,hfind,r1,r2,run_stays m2 hf.1,run_setObj_map _ q2,goInt,Array.getD_eq_getD_getElem?]
          · rw [hj] at hfind
            obtain ⟨g1,g2⟩ := mapRep_push q3 (k := kv) z2
            have hX := Ext.mapWrite (w' := { w with heap := w.heap.setIfInBounds b' (.map (ents.push { key := kv,val := vz,born := clock }) (clock + 1)) }) (es' := es ++ [(kv,z)]) hI hid hb q4 rfl rfl rfl (by simp) (hoth _) q2 (hset _) (by simp) g2
            have hI2 := hI.mapWrite (w' := { w with heap := w.heap.setIfInBounds b' (.map (ents.push { key := kv,val := vz,born := clock }) (clock + 1)) }) hid hb q4 rfl rfl rfl (by simp) (hoth _) q2 (hset _) (by simp) g2 g1
            refine ⟨_,vz,clock,?_,hI2,hX,z2.ext hX,?_⟩
            · simp [Instr.mapEntry,run_underlying m1,Result.andThen,MapKept.run_getObj_map q2,run_check m2 hf.1,hfind,run_setObj_map _ q2,goInt,z1]
            · have := Rep.stamp (st := st.set id (.map (es ++ [(kv,z)]))) (σ := σ) (w := { w with heap := w.heap.setIfInBounds b' (.map (ents.push { key := kv,val := vz,born := clock }) (clock + 1)) }) id es.length b' (ents.push { key := kv,val := vz,born := clock }) (clock + 1)
                ⟨_,set_get (lt_of_get hid)⟩ hb (hset _) (by simp [q3.1])
              have e : ((ents.push { key := kv,val := vz,born := clock }).getD es.length default).born = clock := by rw [← q3.1]; simp [Array.getD_eq_getD_getElem?]
              rw [e] at this
              exact this
      · cases h
    · cases h
  · cases h
theorem run_entryStore {st : St} {σ : Sig} {w : World} (hI : Inv st σ w) {t : TypeId} {id j : Nat} {es : List (Value × SV)} {y : SV} {vx vs vy : Value} (hes : mapAt st id = some es) (hj : j < es.length)
    (hx : Rep st σ w (.mp id) vx) (hs : Rep st σ w (.stamp id j) vs) (hy : Rep st σ w y vy) :
    ∃ w',(Instr.entryStore t vx vs vy).run P w = .ok () w' ∧ Inv (st.set id (.map (es.set j ((es.getD j (default,.any)).1,y)))) σ w' ∧ Ext st σ w (st.set id (.map (es.set j ((es.getD j (default,.any)).1,y)))) σ w' := by
  have hid := mapAt_of hes
  cases hx with
  | mp _ b' hkk hb =>
    obtain ⟨b2,ents,clock,q1,q2,q3,q4⟩ := hI.maps id es hid
    rw [hb] at q1; cases q1
    cases hs with
    | stamp _ _ b3 ents3 clock3 _ hb3 hh3 hj3 =>
      rw [hb] at hb3; cases hb3
      rw [q2] at hh3; cases hh3
      have hfi : ents.findIdx? (fun e => ((e.born : Int) == ((ents.getD j default).born : Int))) = some j := by
        rw [Array.findIdx?_eq_some_iff_getElem]
        refine ⟨hj3,by simp [Array.getD,hj3],fun i hi => ?_⟩
        have : i < ents.size := by omega
        have hne : ¬ (ents.getD i default).born = (ents.getD j default).born := fun e => by have := q3.2.2.2 i j this hj3 e; omega
        simp only [Array.getD,this,hj3,dif_pos] at hne
        simp only [beq_eq_false_iff_ne,ne_eq,Bool.not_eq_true]
        intro e
        apply hne
        simp only [Array.getD,hj3,dif_pos] at e
        exact_mod_cast e
      rw [Array.getD_eq_getD_getElem?] at hfi
      have hoth : ∀ (o : Obj) c,c ≠ b' → (w.heap.setIfInBounds b' o)[c]? = w.heap[c]? := fun o c hc => by rw [Array.getElem?_setIfInBounds_ne (Ne.symm hc)]
      have hset : ∀ (o : Obj),(w.heap.setIfInBounds b' o)[b']? = some o := fun o => by simp [lt_of_some q2]
      obtain ⟨g1,g2⟩ := mapRep_set q3 hj hy (fun e => { e with val := vy }) (fun e _ => rfl) (fun _ => rfl) (fun _ => rfl)
      refine ⟨{ w with heap := w.heap.setIfInBounds b' (.map (ents.modify j fun e => { e with val := vy }) clock) },?_,?_,?_⟩
      · simp [Instr.entryStore,Result.andThen,MapKept.run_getObj_map q2,asInt,asIntOf,hfi,run_setObj_map _ q2]
      · exact hI.mapWrite hid hb q4 rfl rfl rfl (by simp) (hoth _) q2 (hset _) (by simp) g2 g1
      · exact Ext.mapWrite hI hid hb q4 rfl rfl rfl (by simp) (hoth _) q2 (hset _) (by simp) g2
theorem ap_lookup {o : Oper} {t : TypeId} {x k : Operand} {ok : Bool} {y : SV} {b : Bool} {ρ : Operand → SV} {st : St} (ho : o.op = .lookup t x k ok) (h : mapGet P t st (ρ x) (ρ k) = some (y,b)) :
    APure P o ρ st (if ok then .tuple [y,.sc (.bool b)] else y) := by
  intro σ w a hI hR
  obtain ⟨v,h1,h2⟩ := run_lookup (P := P) hI h (hR x (by simp [ho,Op.operands])) (hR k (by simp [ho,Op.operands])) ok
  refine ⟨if ok then .tuple #[v,.bool b] else v,by simp [execOp,ho,h1],?_⟩
  cases ok with
  | false => exact h2
  | true =>
    refine .tuple _ _ rfl fun i hi => ?_
    match i,hi with
    | 0,_ => exact h2
    | 1,_ => exact .sc _
theorem ap_len_map {o : Oper} {t : TypeId} {x : Operand} {id : Nat} {es : List (Value × SV)} {ρ : Operand → SV} {st : St} (ho : o.op = .call { callee := .builtin .len,args := #[x],argTypes := #[t] }) (hx : ρ x = .mp id)
    (hm : (aMap P t).isSome = true) (hes : mapAt st id = some es) : APure P o ρ st (.sc (.int .i64 es.length)) := by
  intro σ w a hI hR
  have hr := hR x (by simp [ho,Op.operands,Call.operands])
  rw [hx] at hr
  obtain ⟨⟨kt,d,e⟩,hm⟩ := Option.isSome_iff_exists.1 hm
  obtain ⟨m1,_⟩ := aMap_of hm
  generalize hv : a.eval x = v at hr
  cases hr with
  | mp _ b hkk hb =>
    obtain ⟨b2,ents,clock,q1,q2,q3,_⟩ := hI.maps id es (mapAt_of hes)
    rw [hb] at q1; cases q1
    exact ⟨_,by simp [execOp,ho,resolve,invoke,builtin,hv,Builtin.len_,run_underlying m1,MapKept.run_getObj_map q2,goInt,q3.1],.sc _⟩
theorem aop_mapUpdate {o : Oper} {t e : TypeId} {x k y : Operand} {id : Nat} {es : List (Value × SV)} {kv : Value} {K : SV → St → Prop} {env : List SV} {st : St} (ho : o.op = .mapUpdate t x k y ∨ o.op = .insert t x k y) (hd : o.dst = none)
    (h : mapOk P t st (ev env x) (ev env k) = some (id,es,kv,e)) (hk : K .any (st.set id (.map (mapPut es kv (ev env y))))) : AOp P o K env st :=
  aop_skip hd fun σ w a hI hR => by
    obtain ⟨w',h1,h2,h3⟩ := run_mapPut (P := P) hI h (rep_ev hR x) (rep_ev hR k) (rep_ev hR y)
    refine ⟨w',_,σ,?_,hk,h2,h3⟩
    rcases ho with ho | ho <;> simp [execOp,ho,h1]
theorem aop_mapEntry {o : Oper} {t e : TypeId} {x k : Operand} {z : SV} {id : Nat} {es : List (Value × SV)} {kv : Value} {K : SV → St → Prop} {env : List SV} {st : St} (ho : o.op = .mapEntry t x k)
    (h : mapOk P t st (ev env x) (ev env k) = some (id,es,kv,e)) (hz : zeroSV P e = some z) (h1 : ∀ j,keyIdx es kv = some j → K (.tuple [(es.getD j (default,.any)).2,.stamp id j]) st)
    (h2 : keyIdx es kv = none → K (.tuple [z,.stamp id es.length]) (st.set id (.map (es ++ [(kv,z)])))) : AOp P o K env st :=
  aop_value fun σ w a hI hR => by
    obtain ⟨g1,g2⟩ := run_mapEntry (P := P) hI h hz (rep_ev hR x) (rep_ev hR k)
    cases hj : keyIdx es kv with
    | some j =>
      obtain ⟨w',v,born,r1,r2,r3,r4,r5⟩ := g1 j hj
      refine ⟨.tuple #[v,.int .i64 born],w',_,_,σ,by simp [execOp,ho,r1],h1 j hj,r2,?_,r3⟩
      refine .tuple _ _ rfl fun i hi => ?_
      match i,hi with
      | 0,_ => exact r4
      | 1,_ => exact r5
    | none =>
      obtain ⟨w',v,born,r1,r2,r3,r4,r5⟩ := g2 hj
      refine ⟨.tuple #[v,.int .i64 born],w',_,_,σ,by simp [execOp,ho,r1],h2 hj,r2,?_,r3⟩
      refine .tuple _ _ rfl fun i hi => ?_
      match i,hi with
      | 0,_ => exact r4
      | 1,_ => exact r5
theorem aop_entryStore {o : Oper} {t : TypeId} {x s y : Operand} {id j : Nat} {es : List (Value × SV)} {K : SV → St → Prop} {env : List SV} {st : St} (ho : o.op = .entryStore t x s y) (hd : o.dst = none)
    (hx : ev env x = .mp id) (hs : ev env s = .stamp id j) (hes : mapAt st id = some es) (hj : j < es.length) (hk : K .any (st.set id (.map (es.set j ((es.getD j (default,.any)).1,ev env y))))) : AOp P o K env st :=
  aop_skip hd fun σ w a hI hR => by
    have hrx := rep_ev hR x
    have hrs := rep_ev hR s
    rw [hx] at hrx
    rw [hs] at hrs
    obtain ⟨w',h1,h2,h3⟩ := run_entryStore (P := P) (t := t) hI hes hj hrx hrs (rep_ev hR y)
    exact ⟨w',_,σ,by simp [execOp,ho,h1],hk,h2,h3⟩
end Go.AL
namespace Go.AL
variable {P : Program}
def arrAt (st : St) (id : Nat) : Option (Nat × Nat × List SV) := match st[id]? with | some (.arr v z cs) => some (v,z,cs) | _ => none
theorem Ext.arrWrite {st : St} {σ : Sig} {w w' : World} {id b ver ver' z : Nat} {cs cs' : List SV} {vals vals' : Array Value} {T : TypeId} (hI : Inv st σ w) (hid : st[id]? = some (.arr ver z cs))
    (hb : σ.μ id = some b) (hh : w.heap[b]? = some (.cells vals T (0,0))) (hh' : w'.heap[b]? = some (.cells vals' T (0,0))) (hvs : vals'.size = vals.size) (hv : ver ≤ ver') (hlen : ver' = ver → cs'.length = cs.length)
    (hl : σ.lock b = .upto 0) (hos : w'.os = w.os) (htape : w'.tape = w.tape) (hout : w'.output = w.output) (hsz : w'.heap.size = w.heap.size)
    (hoth : ∀ c,c ≠ b → w'.heap[c]? = w.heap[c]?) : Ext st σ w (st.set id (.arr ver' z cs')) σ w' where
  os := hos
  tape := htape
  output := hout
  size := by omega
  lock := fun c o v h k => by
    by_cases e : c = b
    · subst e
      rw [hl] at h
      exact absurd h (Nat.not_lt_zero _)
    · refine ⟨h,?_⟩
      unfold World.cell? at *
      simp only [hoth c e]; exact k
  all := fun c hc h => by
    have e : c ≠ b := by rintro rfl; rw [hl] at h; cases h
    exact ⟨rfl,hoth c e⟩
  kcells := fun j x h => by
    have hne : j ≠ id := by rintro rfl; rw [hid] at h; cases h
    exact ⟨⟨x,by rw [set_get_ne hne]; exact h⟩,rfl⟩
  ktok := fun j v h => by
    have hne : j ≠ id := by rintro rfl; rw [hid] at h; cases h
    refine ⟨v,by rw [set_get_ne hne]; exact h,Nat.le_refl _,fun _ => ⟨rfl,fun c hc => ?_⟩⟩
    have e : c ≠ b := by rintro rfl; exact hne (hI.inj j id c (lt_of_get h) (lt_of_get hid) hc hb)
    exact ⟨rfl,hoth c e⟩
  karrs := fun j v z1 x h => by
    by_cases hne : j = id
    · subst hne
      rw [hid] at h; cases h
      refine ⟨ver',cs',set_get (lt_of_get hid),hv,fun e => ⟨rfl,hlen e,fun c vs T' fr hc hhc => ?_⟩⟩
      rw [hb] at hc; cases hc
      rw [hh] at hhc; cases hhc
      exact ⟨vals',hh',hvs⟩
    · refine ⟨v,x,by rw [set_get_ne hne]; exact h,Nat.le_refl _,fun _ => ⟨rfl,rfl,fun c vals T fr hc hh => ⟨vals,?_,rfl⟩⟩⟩
      rw [hoth c (by rintro rfl; exact hne (hI.inj j id c (lt_of_get h) (lt_of_get hid) hc hb))]; exact hh
  kmaps := fun j x h => by
    have hne : j ≠ id := by rintro rfl; rw [hid] at h; cases h
    refine ⟨⟨x,by rw [set_get_ne hne]; exact h⟩,rfl,fun c e cl hc hh => ⟨e,cl,?_,Nat.le_refl _,fun _ _ => rfl⟩⟩
    rw [hoth c (by rintro rfl; exact hne (hI.inj j id c (lt_of_get h) (lt_of_get hid) hc hb))]; exact hh
theorem Inv.arrWrite {st : St} {σ : Sig} {w w' : World} {id b ver ver' z : Nat} {cs cs' : List SV} {vals vals' : Array Value} {T : TypeId} (hI : Inv st σ w) (hid : st[id]? = some (.arr ver z cs))
    (hb : σ.μ id = some b) (hh : w.heap[b]? = some (.cells vals T (0,0))) (hh' : w'.heap[b]? = some (.cells vals' T (0,0))) (hvs : vals'.size = vals.size) (hv : ver ≤ ver') (hlen : ver' = ver → cs'.length = cs.length)
    (hl : σ.lock b = .upto 0) (hos : w'.os = w.os) (htape : w'.tape = w.tape) (hout : w'.output = w.output) (hsz : w'.heap.size = w.heap.size)
    (hoth : ∀ c,c ≠ b → w'.heap[c]? = w.heap[c]?)
    (hcs : cs'.length ≤ vals'.size) (hr : ∀ j,j < cs'.length → Rep st σ w (cs'.getD j .any) (vals'.getD j default)) : Inv (st.set id (.arr ver' z cs')) σ w' where
  cells := fun j x h => by
    have k := Ext.arrWrite (ver' := ver') (cs' := cs') hI hid hb hh hh' hvs hv hlen hl hos htape hout hsz hoth
    have hne : j ≠ id := by rintro rfl; rw [set_get (lt_of_get hid)] at h; cases h
    rw [set_get_ne hne] at h
    obtain ⟨c,cs',T',h1,h2,h3,h4,h5⟩ := hI.cells j x h
    have e : c ≠ b := by rintro rfl; exact hne (hI.inj j id c (lt_of_get h) (lt_of_get hid) h1 hb)
    exact ⟨c,cs',T',h1,by rw [hoth c e]; exact h2,h3,fun i hi => (h4 i hi).ext k,h5⟩
  tok := fun j v c h hc => by
    have hne : j ≠ id := by rintro rfl; rw [set_get (lt_of_get hid)] at h; cases h
    rw [set_get_ne hne] at h
    obtain ⟨h1,h2⟩ := hI.tok j v c h hc
    exact ⟨by omega,h2⟩
  inj := fun i j c hi hj h1 h2 => by simp at hi hj; exact hI.inj i j c hi hj h1 h2
  fresh := fun c hc => hI.fresh c (by omega)
  arrs := fun j v z1 x h => by
    have k := Ext.arrWrite (ver' := ver') (cs' := cs') hI hid hb hh hh' hvs hv hlen hl hos htape hout hsz hoth
    by_cases hne : j = id
    · subst hne
      rw [set_get (lt_of_get hid)] at h
      cases h
      exact .inr ⟨b,vals',T,hb,hh',hcs,fun i hi => (hr i hi).ext k,hl⟩
    · rw [set_get_ne hne] at h
      refine (hI.arrs j v z1 x h).imp (fun h => h) fun ⟨c,vals,T',h1,h2,h3,h4,h5⟩ => ?_
      have e : c ≠ b := by rintro rfl; exact hne (hI.inj j id c (lt_of_get h) (lt_of_get hid) h1 hb)
      exact ⟨c,vals,T',h1,by rw [hoth c e]; exact h2,h3,fun i hi => (h4 i hi).ext k,h5⟩
  maps := fun j x h => by
    have k := Ext.arrWrite (ver' := ver') (cs' := cs') hI hid hb hh hh' hvs hv hlen hl hos htape hout hsz hoth
    have hne : j ≠ id := by rintro rfl; rw [set_get (lt_of_get hid)] at h; cases h
    rw [set_get_ne hne] at h
    obtain ⟨c,es,cl,h1,h2,h3,h4⟩ := hI.maps j x h
    have e : c ≠ b := by rintro rfl; exact hne (hI.inj j id c (lt_of_get h) (lt_of_get hid) h1 hb)
    exact ⟨c,es,cl,h1,by rw [hoth c e]; exact h2,h3.ext k,h4⟩
  globs := hI.globs_ext (Ext.arrWrite (ver' := ver') (cs' := cs') hI hid hb hh hh' hvs hv hlen hl hos htape hout hsz hoth) (glob_set (fun _ _ => rfl) (fun b v h => by cases h))
theorem Ext.arrNew {st : St} {σ : Sig} {w : World} {id ver z : Nat} {cs cs' : List SV} (hid : st[id]? = some (.arr ver z cs)) (b : Option Nat) :
    Ext st σ w (st.set id (.arr (ver + 1) z cs')) (σ.setMu id b) w where
  os := rfl
  tape := rfl
  output := rfl
  size := Nat.le_refl _
  lock := fun _ _ _ h k => ⟨h,k⟩
  all := fun _ _ h => ⟨rfl,rfl⟩
  kcells := fun j l h => by
    have hne : j ≠ id := by rintro rfl; rw [hid] at h; cases h
    exact ⟨⟨l,by rw [set_get_ne hne]; exact h⟩,by simp only [Sig.setMu,if_neg hne]⟩
  ktok := fun j v h => by
    have hne : j ≠ id := by rintro rfl; rw [hid] at h; cases h
    exact ⟨v,by rw [set_get_ne hne]; exact h,Nat.le_refl _,fun _ => ⟨by simp only [Sig.setMu,if_neg hne],fun _ _ => ⟨rfl,rfl⟩⟩⟩
  karrs := fun j v z1 c h => by
    by_cases hne : j = id
    · subst hne
      rw [hid] at h; cases h
      exact ⟨ver + 1,cs',set_get (lt_of_get hid),Nat.le_succ _,fun e => by omega⟩
    · exact ⟨v,c,by rw [set_get_ne hne]; exact h,Nat.le_refl _,fun _ => ⟨by simp only [Sig.setMu,if_neg hne],rfl,fun _ vals _ _ _ hh => ⟨vals,hh,rfl⟩⟩⟩
  kmaps := fun j l h => by
    have hne : j ≠ id := by rintro rfl; rw [hid] at h; cases h
    exact ⟨⟨l,by rw [set_get_ne hne]; exact h⟩,by simp only [Sig.setMu,if_neg hne],fun b e c _ hh => ⟨e,c,hh,Nat.le_refl _,fun _ _ => rfl⟩⟩
theorem Inv.arrNew {st : St} {σ : Sig} {w : World} {id ver z : Nat} {cs cs' : List SV} (hI : Inv st σ w) (hid : st[id]? = some (.arr ver z cs)) (b : Option Nat)
    (hb : (b = none ∧ cs' = []) ∨ ∃ c vals T,b = some c ∧ w.heap[c]? = some (.cells vals T (0,0)) ∧ cs'.length ≤ vals.size ∧ (∀ j,j < cs'.length → Rep st σ w (cs'.getD j .any) (vals.getD j default)) ∧ σ.lock c = .upto 0)
    (hno : ∀ c,b = some c → ∀ i,i < st.length → i ≠ id → σ.μ i ≠ some c) : Inv (st.set id (.arr (ver + 1) z cs')) (σ.setMu id b) w where
  cells := fun j l hl => by
    have hne : j ≠ id := by rintro rfl; rw [set_get (lt_of_get hid)] at hl; cases hl
    rw [set_get_ne hne] at hl
    obtain ⟨b,cs,T,h1,h2,h3,h4,h5⟩ := hI.cells j l hl
    exact ⟨b,cs,T,by simp only [Sig.setMu,if_neg hne]; exact h1,h2,h3,fun k hk => (h4 k hk).ext (Ext.arrNew hid _),h5⟩
  tok := fun j v c h hc => by
    have hne : j ≠ id := by rintro rfl; rw [set_get (lt_of_get hid)] at h; cases h
    rw [set_get_ne hne] at h
    simp only [Sig.setMu,if_neg hne] at hc
    exact hI.tok j v c h hc
  inj := fun i j c hi hj h1 h2 => by
    simp at hi hj
    by_cases e : i = id <;> by_cases e' : j = id
    · omega
    · simp only [Sig.setMu,if_pos e] at h1
      simp only [Sig.setMu,if_neg e'] at h2
      exact absurd h2 (hno c h1 j (by omega) e')
    · simp only [Sig.setMu,if_pos e'] at h2
      simp only [Sig.setMu,if_neg e] at h1
      exact absurd h1 (hno c h2 i (by omega) e)
    · simp only [Sig.setMu,if_neg e] at h1
      simp only [Sig.setMu,if_neg e'] at h2
      exact hI.inj i j c (by omega) (by omega) h1 h2
  fresh := hI.fresh
  arrs := fun j v z1 x hc => by
    by_cases hne : j = id
    · subst hne
      rw [set_get (lt_of_get hid)] at hc
      cases hc
      refine hb.imp (fun ⟨h1,h2⟩ => ⟨by simp only [Sig.setMu,if_true]; exact h1,h2⟩) fun ⟨c,vals,T,h1,h2,h3,h4,h5⟩ => ?_
      exact ⟨c,vals,T,by simp only [Sig.setMu,if_true]; exact h1,h2,h3,fun k hk => (h4 k hk).ext (Ext.arrNew hid _),h5⟩
    · rw [set_get_ne hne] at hc
      refine (hI.arrs j v z1 x hc).imp (fun ⟨h1,h2⟩ => ⟨by simp only [Sig.setMu,if_neg hne]; exact h1,h2⟩) fun ⟨b,vals,T,h1,h2,h3,h4,h5⟩ => ?_
      exact ⟨b,vals,T,by simp only [Sig.setMu,if_neg hne]; exact h1,h2,h3,fun k hk => (h4 k hk).ext (Ext.arrNew hid _),h5⟩
  maps := fun j l hl => by
    have hne : j ≠ id := by rintro rfl; rw [set_get (lt_of_get hid)] at hl; cases hl
    rw [set_get_ne hne] at hl
    obtain ⟨b,es,c,h1,h2,h3,h4⟩ := hI.maps j l hl
    exact ⟨b,es,c,by simp only [Sig.setMu,if_neg hne]; exact h1,h2,h3.ext (Ext.arrNew hid _),h4⟩
  globs := hI.globs_ext (Ext.arrNew hid b) (glob_set (fun j hj => by simp only [Sig.setMu,if_neg hj]) (fun b v h => by cases h))
theorem Inv.newArr {st : St} {σ : Sig} {w : World} (hI : Inv st σ w) (z : Nat) : Inv (st ++ [.arr 0 z []]) (σ.setMu st.length none) w where
  cells := fun id l' hl' => by
    by_cases e : id = st.length
    · subst e; simp at hl'
    · have hlt : id < st.length := by have := lt_of_get hl'; simp at this; omega
      rw [List.getElem?_append_left hlt] at hl'
      obtain ⟨c,cs,T,h1,h2,h3,h4,h5⟩ := hI.cells id l' hl'
      exact ⟨c,cs,T,by simp only [Sig.setMu,if_neg e]; exact h1,h2,h3,fun j hj => (h4 j hj).ext (Ext.newOb _ _),h5⟩
  tok := fun id v c h hc => by
    by_cases e : id = st.length
    · subst e; simp at h
    · have hlt : id < st.length := by have := lt_of_get h; simp at this; omega
      rw [List.getElem?_append_left hlt] at h
      simp only [Sig.setMu,if_neg e] at hc
      exact hI.tok id v c h hc
  inj := fun i j c hi hj h1 h2 => by
    simp at hi hj
    by_cases e : i = st.length <;> by_cases e' : j = st.length
    · omega
    · simp only [Sig.setMu,if_pos e] at h1; cases h1
    · simp only [Sig.setMu,if_pos e'] at h2; cases h2
    · simp only [Sig.setMu,if_neg e] at h1
      simp only [Sig.setMu,if_neg e'] at h2
      exact hI.inj i j c (by omega) (by omega) h1 h2
  fresh := hI.fresh
  arrs := fun id v z cs' hc => by
    by_cases e : id = st.length
    · subst e
      simp at hc
      obtain ⟨rfl,rfl,rfl⟩ := hc
      exact .inl ⟨by simp only [Sig.setMu,if_true],rfl⟩
    · have hlt : id < st.length := by have := lt_of_get hc; simp at this; omega
      rw [List.getElem?_append_left hlt] at hc
      refine (hI.arrs id v z cs' hc).imp (fun ⟨h1,h2⟩ => ⟨by simp only [Sig.setMu,if_neg e]; exact h1,h2⟩) fun ⟨c,vals,T,h1,h2,h3,h4,h5⟩ => ?_
      exact ⟨c,vals,T,by simp only [Sig.setMu,if_neg e]; exact h1,h2,h3,fun j hj => (h4 j hj).ext (Ext.newOb _ _),h5⟩
  maps := fun id l' hl' => by
    by_cases e : id = st.length
    · subst e; simp at hl'
    · have hlt : id < st.length := by have := lt_of_get hl'; simp at this; omega
      rw [List.getElem?_append_left hlt] at hl'
      obtain ⟨c,es,cl,h1,h2,h3,h4⟩ := hI.maps id l' hl'
      exact ⟨c,es,cl,by simp only [Sig.setMu,if_neg e]; exact h1,h2,h3.ext (Ext.newOb _ _),h4⟩
  globs := hI.globs_ext (Ext.newOb _ _) (glob_app (fun id hid => by simp only [Sig.setMu,if_neg (show ¬ id = st.length by omega)]) (fun b v h => by cases h))
theorem ap_indexAddr_arr {o : Oper} {t e : TypeId} {x y : Operand} {k : IntKind} {i : Int} {id ver n z z' : Nat} {cs : List SV} {ρ : Operand → SV} {st : St}
    (ho : o.op = .indexAddr t x y) (hx : ρ x = .arr id ver n) (hy : ρ y = .sc (.int k i)) (hid : st[id]? = some (.arr ver z' cs)) (he : aElem P t = some e) (hz : aSize P e = some z)
    (h0 : 0 ≤ i) (hi : i < n) : APure P o ρ st (.aptr id ver (i.toNat * z)) := by
  intro σ w a hI hR
  have hr := hR x (by simp [ho,Op.operands])
  rw [hx] at hr
  have e2 := rep_sc (by have := hR y (by simp [ho,Op.operands]); rw [hy] at this; exact this)
  generalize hv : a.eval x = v at hr
  cases hr with
  | arr id ver n v0 z cs v hoc hk hv' h =>
    rw [hid] at hk; cases hk
    obtain ⟨q1,q2⟩ := h rfl
    rcases q2 with ⟨_,rfl,_⟩ | ⟨b,cap,vals,T,r1,rfl,r3,r4,r5⟩
    · omega
    · exact ⟨_,by simp [execOp,ho,hv,e2,Instr.indexAt,asIntOf,run_underlying (und_slice he),h0,hi,run_sizeOf' hz,addr_add],.aptr id _ _ _ _ _ _ rfl hid (Nat.le_refl _) fun _ => ⟨b,r1,rfl⟩⟩
theorem ap_len_arr {o : Oper} {t e : TypeId} {x : Operand} {id ver n z : Nat} {cs : List SV} {ρ : Operand → SV} {st : St}
    (ho : o.op = .call { callee := .builtin .len,args := #[x],argTypes := #[t] }) (hx : ρ x = .arr id ver n) (hid : st[id]? = some (.arr ver z cs)) (he : aElem P t = some e) :
    APure P o ρ st (.sc (.int .i64 n)) := by
  intro σ w a hI hR
  have hr := hR x (by simp [ho,Op.operands,Call.operands])
  rw [hx] at hr
  generalize hv : a.eval x = v at hr
  cases hr with
  | arr id ver n v0 z cs v hoc hk hv' h =>
    rw [hid] at hk; cases hk
    obtain ⟨q1,q2⟩ := h rfl
    rcases q2 with ⟨_,rfl,ad,rfl⟩ | ⟨b,cap,vals,T,r1,rfl,r3,r4,r5⟩
    · exact ⟨_,by simp [execOp,ho,resolve,invoke,builtin,hv,Builtin.len_,run_underlying (und_slice he),goInt],.sc _⟩
    · exact ⟨_,by simp [execOp,ho,resolve,invoke,builtin,hv,Builtin.len_,run_underlying (und_slice he),goInt],.sc _⟩
theorem ap_fieldAddr_aptr {o : Oper} {t : TypeId} {f off size : Nat} {x : Operand} {id ver i z : Nat} {cs : List SV} {ρ : Operand → SV} {st : St}
    (ho : o.op = .fieldAddr t x f) (hx : ρ x = .aptr id ver i) (hid : st[id]? = some (.arr ver z cs)) (hf : aField P t f = some (off,size)) (h0 : size ≠ 0) : APure P o ρ st (.aptr id ver (i + off)) := by
  intro σ w a hI hR
  have hr := hR x (by simp [ho,Op.operands])
  rw [hx] at hr
  generalize hv : a.eval x = v at hr
  cases hr with
  | aptr id ver i v0 z cs v hoc hk hv' h =>
    rw [hid] at hk; cases hk
    obtain ⟨b,q1,rfl⟩ := h rfl
    exact ⟨_,by simp [execOp,ho,hv,run_fieldAt' hf h0],.aptr id _ _ _ _ _ _ rfl hid (Nat.le_refl _) fun _ => ⟨b,q1,rfl⟩⟩
theorem ap_load_aptr {o : Oper} {t : TypeId} {x : Operand} {id ver off z : Nat} {cs : List SV} {y : SV} {ρ : Operand → SV} {st : St}
    (ho : o.op = .load t x) (hx : ρ x = .aptr id ver off) (hid : st[id]? = some (.arr ver z cs)) (hy : cellsOf P t (cs.drop off) = some y) : APure P o ρ st y := by
  intro σ w a hI hR
  have hr := hR x (by simp [ho,Op.operands])
  rw [hx] at hr
  generalize hv : a.eval x = v at hr
  cases hr with
  | aptr id ver i v0 z cs v hoc hk hv' h =>
    rw [hid] at hk; cases hk
    obtain ⟨b,q1,rfl⟩ := h rfl
    rcases hI.arrs id ver z cs hid with ⟨h1,rfl⟩ | ⟨b',vals,T,h1,h2,h3,h4,h5⟩
    · rw [q1] at h1; cases h1
    · rw [q1] at h1; cases h1
      obtain ⟨v,h6,h7⟩ := run_loadVar_cells (st := st) (σ := σ) (w := w) b off (fun j => vals.getD (off + j) default) hy (fun j hj => by
        simp at hj
        have : off + j < vals.size := by omega
        simp [World.cell?,h2,Array.getD,this]) (fun j hj => by
        simp at hj
        have := h4 (off + j) (by omega)
        simpa [List.getD_eq_getElem?_getD] using this)
      exact ⟨v,by simp [execOp,ho,hv,Instr.loadAt,Instr.sureAddr,h6],h7⟩
theorem ap_slice_arr {o : Oper} {t e : TypeId} {x : Operand} {lo hi : Option Operand} {nh : Int} {id ver n z z' : Nat} {cs : List SV} {ρ : Operand → SV} {st : St}
    (ho : o.op = .slice t x lo hi none) (hx : ρ x = .arr id ver n) (hid : st[id]? = some (.arr ver z' cs)) (he : aElem P t = some e) (hz : aSize P e = some z)
    (hl : bound ρ lo 0 = some 0) (hh : bound ρ hi n = some nh) (h0 : 0 ≤ nh) (h1 : nh ≤ n) : APure P o ρ st (.arr id ver nh.toNat) := by
  intro σ w a hI hR
  have hr := hR x (by simp [ho,Op.operands])
  rw [hx] at hr
  generalize hv : a.eval x = v at hr
  cases hr with
  | arr id ver n v0 z0 cs v hoc hk hv' h =>
    rw [hid] at hk; cases hk
    obtain ⟨q1,q2⟩ := h rfl
    have key : ∀ (ad : Option Addr) (cap : Nat),v = .slice ad n cap → n ≤ cap → (execOp a.eval o).run P w = .ok (.value (.slice (if cap = 0 then ad else ad.map (·.add 0)) nh.toNat cap)) w := by
      intro ad cap hvv hcap
      subst hvv
      have eh : (match hi.map a.eval with | some v => Instr.sliceBound v cap .sliceAcap | none => pure n).run P w = .ok nh.toNat w := by
        cases hi with
        | none => simp [bound] at hh; subst hh; simp
        | some y => exact run_bound (P := P) (hR y (by simp [ho,Op.operands])) (y := y) (n := nh) (by simpa [bound] using hh) (by omega) _ (by omega) _
      have hb : (Instr.sliceBounds true n cap (lo.map a.eval) (hi.map a.eval) none).run P w = .ok (0,nh.toNat,cap) w := by
        cases lo with
        | none => cases hi <;> simp [Instr.sliceBounds] at eh ⊢ <;> simp [eh]
        | some y =>
          have el := run_bound (P := P) (hR y (by simp [ho,Op.operands])) (y := y) (n := (0 : Int)) (by simpa [bound] using hl) (by omega) nh.toNat (by omega) .sliceB
          simp only [Int.toNat_zero] at el
          cases hi <;> simp [Instr.sliceBounds] at eh ⊢ <;> simp [eh,el]
      simp [execOp,ho,hv,Instr.sliceAt,Instr.slice,run_underlying (und_slice he),hb,run_sizeOf' hz]
    rcases q2 with ⟨p1,rfl,ad,rfl⟩ | ⟨b,cap,vals,T,r1,rfl,r3,r4,r5⟩
    · refine ⟨_,key ad 0 rfl (Nat.le_refl _),?_⟩
      obtain rfl : nh = 0 := by omega
      exact .arr id ver 0 ver z' cs _ rfl hid (Nat.le_refl _) fun _ => ⟨by omega,.inl ⟨p1,rfl,_,rfl⟩⟩
    · refine ⟨_,key _ cap rfl r3,?_⟩
      refine .arr id ver _ ver z' cs _ rfl hid (Nat.le_refl _) fun _ => ⟨Nat.le_trans (Nat.mul_le_mul_right z' (by omega)) q1,.inr ⟨b,cap,vals,T,r1,?_,by omega,r4,r5⟩⟩
      split
      · rfl
      · rfl
theorem aop_store_arr {o : Oper} {t : TypeId} {x y : Operand} {id ver off z n : Nat} {cs : List SV} {K : SV → St → Prop} {env : List SV} {st : St}
    (ho : o.op = .store t x y) (hd : o.dst = none) (hx : ev env x = .aptr id ver off) (hid : st[id]? = some (.arr ver z cs)) (ht : aSize P t = some n) (hs : shapeOk (ev env y) = true)
    (hn : (ev env y).cells.length = n) (hok : elemOk (ev env y) = true) (hle : off + n ≤ cs.length)
    (hk : K .any (st.set id (.arr ver z (splice cs off (ev env y).cells)))) : AOp P o K env st :=
  aop_skip hd fun σ w a hI hR => by
    have hr := rep_ev hR x
    rw [hx] at hr
    generalize hv : a.eval x = v at hr
    cases hr with
    | aptr id ver off v0 z cs v hoc hkk hv' h =>
      rw [hid] at hkk; cases hkk
      obtain ⟨b,q1,rfl⟩ := h rfl
      have hy := rep_cells hs (rep_ev hR y)
      have hne : (a.eval y).cells.size = n := by rw [hy.1,hn]
      rcases hI.arrs id ver z cs hid with ⟨h1,rfl⟩ | ⟨b',vals,T,h1,h2,h3,h4,h5⟩
      · rw [q1] at h1; cases h1
      · rw [q1] at h1; cases h1
        have hst := run_storeCells_at (P := P) b off T (a.eval y).cells.toList 0 vals w h2 (by simp [hy.1]; omega) (repL_one hok hy)
        simp only [Nat.add_zero] at hst
        let arr := (vals.toList.take off ++ (a.eval y).cells.toList ++ vals.toList.drop (off + (a.eval y).cells.toList.length)).toArray
        have harr : arr.size = vals.size := by simp [arr,hy.1]; omega
        have hoth : ∀ c,c ≠ b → (w.setRow b arr).heap[c]? = w.heap[c]? := fun c hc => setRow_other _ _ _ _ hc
        have hh' : (w.setRow b arr).heap[b]? = some (.cells arr T (0,0)) := setRow_heap w b vals arr T _ h2
        have hsl : (splice cs off (ev env y).cells).length = cs.length := length_splice _ _ _ (by omega)
        have hrow : ∀ j,j < (splice cs off (ev env y).cells).length → Rep st σ w ((splice cs off (ev env y).cells).getD j .any) (arr.getD j default) := by
          intro j hj
          rw [hsl] at hj
          rw [getD_splice _ _ _ (by omega)]
          rw [Array.getD_eq_getD_getElem?]
          simp only [arr,List.getElem?_toArray,List.append_assoc]
          by_cases c : j < off
          · rw [if_neg (by omega),List.getElem?_append_left (by simp; omega),List.getElem?_take,if_pos c,Array.getElem?_toList,← Array.getD_eq_getD_getElem?]
            exact h4 j hj
          · rw [List.getElem?_append_right (by simp; omega)]
            have e1 : (vals.toList.take off).length = off := by simp; omega
            rw [e1]
            by_cases c2 : j < off + (ev env y).cells.length
            · rw [if_pos ⟨by omega,c2⟩,List.getElem?_append_left (by simp [hy.1]; omega),Array.getElem?_toList,← Array.getD_eq_getD_getElem?]
              exact hy.2 (j - off) (by omega)
            · rw [if_neg (by omega),List.getElem?_append_right (by simp [hy.1]; omega),List.getElem?_drop]
              have e2 : off + (a.eval y).cells.toList.length + (j - off - (a.eval y).cells.toList.length) = j := by simp [hy.1]; omega
              rw [e2,Array.getElem?_toList,← Array.getD_eq_getD_getElem?]
              exact h4 j hj
        refine ⟨w.setRow b arr,_,σ,?_,hk,Inv.arrWrite hI hid q1 h2 hh' harr (Nat.le_refl _) (fun _ => hsl) h5 rfl rfl rfl (by simp) hoth (by rw [hsl,harr]; exact h3) hrow,
          Ext.arrWrite hI hid q1 h2 hh' harr (Nat.le_refl _) (fun _ => hsl) h5 rfl rfl rfl (by simp) hoth⟩
        simp [execOp,ho,hv,Instr.storeAt,Instr.sureAddr,storeVar,run_sizeOf' ht,hne]
        simp at hst
        simp [hst,hne,arr]
structure SrcOk (P : Program) (st : St) (σ : Sig) (w : World) (z : Nat) (xs : List SV) (u : Value) : Prop where
  form : ∃ a c,u = .slice a xs.length c ∧ xs.length ≤ c
  load : ∃ new : Array Value,(Builtin.firstCells z xs.length u).run P w = .ok new w ∧ RepL st σ w (xs.flatMap SV.cells) new
  loadD : ∃ new : Array Value,(Builtin.firstCells z xs.length u).run P w.drew = .ok new w.drew ∧ RepL st σ w.drew (xs.flatMap SV.cells) new
  size : ∀ x ∈ xs,x.cells.length = z
theorem SrcOk.of_slice {z z1 : Nat} {mx : Mode} {xs : List SV} {st : St} {σ : Sig} {w : World} {u : Value} (r2 : Rep st σ w (.slice mx z1 xs) u) (hz1 : xs = [] ∨ z1 = z) : SrcOk P st σ w z xs u := by
  have r2' := rep_imm_z r2 hz1
  obtain ⟨ax,cx,rfl,hcx⟩ := rep_slice_form r2'
  obtain ⟨⟨new,n1,n2⟩,n3⟩ := load_first (P := P) r2' xs.length (Nat.le_refl _)
  obtain ⟨⟨newd,d1,d2⟩,_⟩ := load_first (P := P) (r2'.ext (Ext.drew _)) xs.length (Nat.le_refl _)
  rw [List.take_length] at n2 d2
  exact ⟨⟨ax,cx,rfl,hcx⟩,⟨new,n1,n2⟩,⟨newd,d1,d2⟩,n3⟩
def chunksOf (z n : Nat) (cs : List SV) : List SV := if z = 1 then cs.take n else (List.range n).map fun i => .agg ((cs.drop (i * z)).take z)
theorem SrcOk.of_arrZ {id ver n z : Nat} {cs xs : List SV} {st : St} {σ : Sig} {w : World} {u : Value} (hI : Inv st σ w) (r : Rep st σ w (.arr id ver n) u) (hid : st[id]? = some (.arr ver z cs)) (hxl : xs.length = n) (hfl : xs.flatMap SV.cells = cs.take (n * z)) (hsz : ∀ x ∈ xs,x.cells.length = z) : SrcOk P st σ w z xs u := by
  cases r with
  | arr id ver n v0 z0 cs0 v hoc hkk hv' h =>
  rw [hid] at hkk; cases hkk
  obtain ⟨q1,q2⟩ := h rfl
  subst hxl
  rcases q2 with ⟨_,h0,ad,rfl⟩ | ⟨b,cap,vals,T,m1,rfl,m3,m4,m5⟩
  · obtain rfl : xs = [] := List.eq_nil_of_length_eq_zero h0
    have hrun : ∀ w : World,(Builtin.firstCells z 0 (.slice ad 0 0)).run P w = .ok #[] w := fun w => by
      cases ad with
      | none => rfl
      | some ad =>
        have := run_loadCells (P := P) (w := w) ad 0 (fun _ => default) (fun p hp => absurd hp (Nat.not_lt_zero _))
        simpa [Builtin.firstCells] using this
    exact ⟨⟨ad,0,by simp,by simp⟩,⟨#[],hrun w,by simp,fun i hi => by simp at hi⟩,⟨#[],hrun w.drew,by simp,fun i hi => by simp at hi⟩,hsz⟩
  · rcases hI.arrs id ver z cs hid with ⟨h1,_⟩ | ⟨b',vals',T',h1,h2,h3,h4,h5⟩
    · rw [m1] at h1; cases h1
    · rw [m1] at h1; cases h1
      rw [m4] at h2; cases h2
      have hcz : xs.length * z ≤ cap * z := Nat.mul_le_mul_right z m3
      have hcell : ∀ p,p < xs.length * z → w.cell? ⟨b,p,none⟩ = some (vals.getD p default) := fun p hp => by
        have : p < vals.size := by omega
        simp [World.cell?,m4,Array.getD,this]
      have hrun : ∀ w' : World,(∀ p,p < xs.length * z → w'.cell? ⟨b,p,none⟩ = some (vals.getD p default)) → (Builtin.firstCells z xs.length (.slice (some ⟨b,0,none⟩) xs.length cap)).run P w' = .ok ((List.range (xs.length * z)).map fun p => vals.getD p default).toArray w' := fun w' hc => by
        have := run_loadCells (P := P) (w := w') ⟨b,0,none⟩ (xs.length * z) (fun p => vals.getD p default) (fun p hp => by rw [addr_add,Nat.zero_add]; exact hc p hp)
        simpa [Builtin.firstCells] using this
      have hrep : RepL st σ w (cs.take (xs.length * z)) ((List.range (xs.length * z)).map fun p => vals.getD p default).toArray := by
        refine ⟨by simp; omega,fun p hp => ?_⟩
        have hp' : p < xs.length * z := by rw [List.length_take] at hp; omega
        have := h4 p (by omega)
        simpa [Array.getD_eq_getD_getElem?,hp',List.getD_eq_getElem?_getD,List.getElem?_take] using this
      exact ⟨⟨_,cap,rfl,m3⟩,⟨_,hrun w hcell,by rw [hfl]; exact hrep⟩,⟨_,hrun w.drew hcell,by rw [hfl]; exact ⟨hrep.1,fun i hi => (hrep.2 i hi).ext (Ext.drew _)⟩⟩,hsz⟩
theorem append_arr {ty t e tx ex : TypeId} {z by' id ver n : Nat} {cs xs zs : List SV} {st : St} {σ : Sig} {w : World} {v u : Value} (hI : Inv st σ w)
    (r1 : Rep st σ w (.arr id ver n) v) (r2 : SrcOk P st σ w z xs u) (hid : st[id]? = some (.arr ver z cs))
    (he : aElem P t = some e) (hxe : aElem P tx = some ex) (hz : aSize P e = some z) (hzs : aZero P e = some zs) (hzl : zs.length = z) (hby : aBytes P e = some by')
    (hb : (2 * (n + xs.length) + 192) * by' ≤ 281474976710656) (hn : n + xs.length < 4611686018427387904) (hok : ∀ s ∈ xs,elemOk s = true) :
    ∃ v' w' σ',(Builtin.append_ #[t,tx] ty #[v,u]).run P w = .ok v' w' ∧ Inv (st.set id (.arr (ver + 1) z (cs.take (n * z) ++ xs.flatMap SV.cells))) σ' w' ∧
      Rep (st.set id (.arr (ver + 1) z (cs.take (n * z) ++ xs.flatMap SV.cells))) σ' w' (.arr id (ver + 1) (n + xs.length)) v' ∧ Ext st σ w (st.set id (.arr (ver + 1) z (cs.take (n * z) ++ xs.flatMap SV.cells))) σ' w' := by
    obtain ⟨ax,cx,rfl,hcx⟩ := r2.form
    have hlt := lt_of_get hid
    cases r1 with
    | arr id ver n v0 z0 cs0 v hoc hkk hv' h =>
    rw [hid] at hkk; cases hkk
    obtain ⟨q1,q2⟩ := h rfl
    have hset : ∀ cs',(st.set id (.arr (ver + 1) z cs'))[id]? = some (.arr (ver + 1) z cs') := fun _ => set_get hlt
    have hdx : Ext st σ w st σ w.drew := Ext.drew _
    obtain ⟨ad,cap,hvv,hcap,hold⟩ : ∃ ad cap,v = .slice ad n cap ∧ n ≤ cap ∧ ∃ old : Array Value,(Builtin.firstCells z n (.slice ad n cap)).run P w.drew = .ok old w.drew ∧ RepL st σ w (cs.take (n * z)) old := by
      rcases q2 with ⟨_,rfl,ad,rfl⟩ | ⟨b,cap,vals,T,m1,rfl,m3,m4,m5⟩
      · refine ⟨ad,0,rfl,Nat.le_refl _,#[],?_,by simp,fun i hi => by simp at hi⟩
        cases ad with
        | none => rfl
        | some ad =>
          have := run_loadCells (P := P) (w := w.drew) ad 0 (fun _ => default) (fun p hp => absurd hp (Nat.not_lt_zero _))
          simpa [Builtin.firstCells] using this
      · refine ⟨_,cap,rfl,m3,?_⟩
        rcases hI.arrs id ver z cs hid with ⟨h1,_⟩ | ⟨b',vals',T',h1,h2,h3,h4,h5⟩
        · rw [m1] at h1; cases h1
        · rw [m1] at h1; cases h1
          rw [m4] at h2; cases h2
          have hrun := run_loadCells (P := P) (w := w.drew) ⟨b,0,none⟩ (n * z) (fun p => vals.getD p default) (fun p hp => by
            rw [addr_add]
            have : p < vals.size := by omega
            show World.cell? w _ = _
            simp [World.cell?,m4,Array.getD,this])
          refine ⟨_,by simpa [Builtin.firstCells] using hrun,by simp; omega,fun p hp => ?_⟩
          have hp' : p < n * z := by simp at hp; omega
          have := h4 p (by omega)
          simpa [Array.getD_eq_getD_getElem?,hp',List.getD_eq_getElem?_getD,List.getElem?_take] using this
    obtain ⟨old,hold,hro⟩ := hold
    subst hvv
    obtain ⟨new,n1,n2⟩ := r2.load
    obtain ⟨newd,d1,d2⟩ := r2.loadD
    have n3 := r2.size
    have hyl := flat_len xs n3
    have hcat : ∀ (st' : St) (σ' : Sig) (w' : World) (A B R : Array Value),RepL st' σ' w' (cs.take (n * z)) A → RepL st' σ' w' (xs.flatMap SV.cells) B → (∀ j,j < n * z + xs.length * z → R[j]? = (A ++ B)[j]?) →
        ∀ j,j < (cs.take (n * z) ++ xs.flatMap SV.cells).length → Rep st' σ' w' ((cs.take (n * z) ++ xs.flatMap SV.cells).getD j .any) (R.getD j default) := by
      intro st' σ' w' A B R hA hB hR j hj
      have hj' : j < n * z + xs.length * z := by rw [List.length_append,hyl,List.length_take] at hj; omega
      have hAs : A.size = n * z := by rw [hA.1]; simp; omega
      rw [Array.getD_eq_getD_getElem?,hR j hj',List.getD_eq_getElem?_getD]
      have hl1 : (cs.take (n * z)).length = n * z := by simp; omega
      by_cases c : j < n * z
      · rw [List.getElem?_append_left (by omega),Array.getElem?_append_left (by omega),← List.getD_eq_getElem?_getD,← Array.getD_eq_getD_getElem?]
        exact hA.2 j (by omega)
      · rw [List.getElem?_append_right (by omega),Array.getElem?_append_right (by omega),hl1,hAs,← List.getD_eq_getElem?_getD,← Array.getD_eq_getD_getElem?]
        exact hB.2 (j - n * z) (by omega)
    have hlen : (cs.take (n * z) ++ xs.flatMap SV.cells).length = (n + xs.length) * z := by simp [hyl,Nat.add_mul]; omega
    by_cases hg : cap < n + xs.length
    · obtain ⟨i,zv,hi,hzv,hvz⟩ := aZero_size hzs hzl
      obtain ⟨newCap,g1,g2⟩ := run_append_grows (P := P) (w := w) (ty := ty) he hxe hz hi hzv hold d1 hg hcap (by rw [bytes_of hby hi]; exact hb) hn
      have hId := hI.drew (w.drawn + 1)
      let cells := old ++ newd ++ Builtin.zeroCells zv.cells (newCap - (n + xs.length))
      have hX1 := Ext.alloc hId (.cells cells e) (.upto 0)
      have hI1 := hId.alloc (.cells cells e) (.upto 0)
      have hos : old.size = n * z := by rw [hro.1]; simp; omega
      have hcs : cells.size = newCap * z := by
        simp only [cells,Array.size_append,hos,d2.1,hyl,size_zeroCells,hvz]
        rw [← Nat.add_mul,← Nat.add_mul]
        congr 1
        omega
      have hh : (cutW w (.cells cells e)).heap[w.heap.size]? = some (.cells cells e (0,0)) := by simp [cutW]
      have hX2 := Ext.arrNew (σ := σ.setLock w.heap.size (.upto 0)) (w := cutW w (.cells cells e)) (cs' := cs.take (n * z) ++ xs.flatMap SV.cells) hid (some w.heap.size)
      have hA := hdx.trans hX1
      have hI2 := Inv.arrNew (cs' := cs.take (n * z) ++ xs.flatMap SV.cells) hI1 hid (some w.heap.size) (.inr ⟨w.heap.size,cells,e,rfl,hh,by rw [hlen,hcs]; exact Nat.mul_le_mul_right z g1,
        hcat _ _ _ old newd cells ⟨hro.1,fun i hi => (hro.2 i hi).ext hA⟩ ⟨d2.1,fun i hi => (d2.2 i hi).ext hX1⟩ (fun j hj => by
          simp only [cells]
          rw [Array.getElem?_append_left (by simp [hos,d2.1,hyl]; omega)]),by simp [Sig.setLock]⟩) (fun c hc i hi hne h => by
          cases hc
          have := hI.mu_lt hi h
          omega)
      refine ⟨_,_,_,g2,hI2,?_,hA.trans hX2⟩
      exact .arr id (ver + 1) _ (ver + 1) z _ _ rfl (hset _) (Nat.le_refl _) fun _ => ⟨by rw [hlen]; exact Nat.le_refl _,.inr ⟨w.heap.size,newCap,cells,e,by simp [Sig.setMu],rfl,g1,hh,by rw [hcs]; exact Nat.le_refl _⟩⟩
    · rcases q2 with ⟨m1,rfl,ad',hve⟩ | ⟨b,cap',vals,T,m1,hve,m3,m4,m5⟩
      · -- nothing to nothing
        have hx0 : xs = [] := by
          cases hve
          exact List.length_eq_zero_iff.1 (by omega)
        subst hx0
        cases hve
        have hns : new = #[] := by have := n2.1; simpa using this
        subst hns
        have hX := Ext.arrNew (σ := σ) (w := w) (cs' := cs.take (0 * z) ++ [].flatMap SV.cells) hid none
        refine ⟨.slice ad 0 0,w,σ.setMu id none,?_,Inv.arrNew hI hid none (.inl ⟨rfl,by simp⟩) (fun c hc => by cases hc),?_,hX⟩
        · simp at n1
          cases ad <;> simp [Builtin.append_,run_underlying (und_slice he),run_underlying (und_slice hxe),run_sizeOf' hz,Builtin.lenOf,n1,storeCells]
        · exact .arr id (ver + 1) _ (ver + 1) z _ _ rfl (hset _) (Nat.le_refl _) fun _ => ⟨by simp,.inl ⟨by simp [Sig.setMu],rfl,ad,rfl⟩⟩
      · -- in place
        cases hve
        rcases hI.arrs id ver z cs hid with ⟨h1,_⟩ | ⟨b',vals',T',h1,h2,h3,h4,h5⟩
        · rw [m1] at h1; cases h1
        rw [m1] at h1; cases h1
        rw [m4] at h2; cases h2
        have hns : new.size = xs.length * z := by rw [n2.1,hyl]
        have hle : n * z + new.size ≤ vals.size := by
          have : (n + xs.length) * z ≤ cap * z := Nat.mul_le_mul_right z (by omega)
          rw [Nat.add_mul] at this
          omega
        have hone : ∀ v ∈ new.toList,v.oneCell' = true := repL_one (by
          rw [List.all_eq_true]
          intro s hs
          rw [List.mem_flatMap] at hs
          obtain ⟨q,hq,hs⟩ := hs
          have := hok q hq
          unfold elemOk at this
          rw [List.all_eq_true] at this
          exact this s hs) n2
        have hst := run_storeCells_at (P := P) b (n * z) T new.toList 0 vals w m4 (by simpa using hle) hone
        simp only [Nat.add_zero,Array.length_toList] at hst
        let arr := (vals.toList.take (n * z) ++ new.toList ++ vals.toList.drop (n * z + new.size)).toArray
        have harr : arr.size = vals.size := by simp [arr]; omega
        have hoth : ∀ c,c ≠ b → (w.setRow b arr).heap[c]? = w.heap[c]? := fun c hc => setRow_other _ _ _ _ hc
        have hh' : (w.setRow b arr).heap[b]? = some (.cells arr T (0,0)) := setRow_heap w b vals arr T _ m4
        have hA : RepL st σ w (cs.take (n * z)) (vals.toList.take (n * z)).toArray := by
          refine ⟨by simp; omega,fun i hi => ?_⟩
          have hi' : i < n * z := by simp at hi; omega
          have := h4 i (by omega)
          simpa [Array.getD_eq_getD_getElem?,List.getD_eq_getElem?_getD,List.getElem?_take,hi'] using this
        have hrow := hcat st σ w _ new arr hA n2 (fun j hj => by
          simp only [arr,List.getElem?_toArray]
          rw [List.getElem?_append_left (by simp [hns]; omega)]
          rw [show ((vals.toList.take (n * z)).toArray ++ new) = (vals.toList.take (n * z) ++ new.toList).toArray by simp]
          simp)
        have hX := Ext.arrWrite (ver' := ver + 1) (cs' := cs.take (n * z) ++ xs.flatMap SV.cells) hI hid m1 m4 hh' harr (Nat.le_succ _) (fun e => by omega) h5 rfl rfl rfl (by simp) hoth
        have hcs' : (cs.take (n * z) ++ xs.flatMap SV.cells).length ≤ arr.size := by rw [hlen,harr,Nat.add_mul]; omega
        have hI' := Inv.arrWrite (ver' := ver + 1) (cs' := cs.take (n * z) ++ xs.flatMap SV.cells) hI hid m1 m4 hh' harr (Nat.le_succ _) (fun e => by omega) h5 rfl rfl rfl (by simp) hoth hcs' hrow
        refine ⟨.slice (some ⟨b,0,none⟩) (n + xs.length) cap,w.setRow b arr,σ,?_,hI',?_,hX⟩
        · have hle2 : n + xs.length ≤ cap := by omega
          simp [Builtin.append_,run_underlying (und_slice he),run_underlying (und_slice hxe),run_sizeOf' hz,Builtin.lenOf,hle2,n1,addr_add]
          simp at hst
          simp [hst,arr]
        · exact .arr id (ver + 1) _ (ver + 1) z _ _ rfl (hset _) (Nat.le_refl _) fun _ => ⟨by rw [hlen]; exact Nat.le_refl _,.inr ⟨b,cap,arr,T,m1,rfl,by omega,hh',by rw [harr]; exact m5⟩⟩
theorem aop_append_arr {o : Oper} {t e tx ex : TypeId} {z z1 by' id ver n : Nat} {mx : Mode} {x y : Operand} {cs xs zs : List SV} {K : SV → St → Prop} {env : List SV} {st : St}
    (ho : o.op = .call { callee := .builtin .append,args := #[x,y],argTypes := #[t,tx] }) (hx : ev env x = .arr id ver n) (hy : ev env y = .slice mx z1 xs)
    (hz1 : xs = [] ∨ z1 = z) (hid : st[id]? = some (.arr ver z cs))
    (he : aElem P t = some e) (hxe : aElem P tx = some ex) (hz : aSize P e = some z) (hzs : aZero P e = some zs) (hzl : zs.length = z) (hby : aBytes P e = some by')
    (hb : (2 * (n + xs.length) + 192) * by' ≤ 281474976710656) (hn : n + xs.length < 4611686018427387904) (hok : ∀ s ∈ xs,elemOk s = true)
    (hk : K (.arr id (ver + 1) (n + xs.length)) (st.set id (.arr (ver + 1) z (cs.take (n * z) ++ xs.flatMap SV.cells)))) : AOp P o K env st :=
  aop_value fun σ w a hI hR => by
    have r1 := rep_ev hR x
    rw [hx] at r1
    have r2 := rep_ev hR y
    rw [hy] at r2
    obtain ⟨v',w',σ',g1,g2,g3,g4⟩ := append_arr (P := P) (ty := o.type) hI r1 (.of_slice r2 hz1) hid he hxe hz hzs hzl hby hb hn hok
    refine ⟨v',w',_,_,σ',?_,hk,g2,g3,g4⟩
    simp [execOp,ho,resolve,invoke,builtin,g1]
theorem rep_newArr {st : St} {σ : Sig} {w : World} {z z' : Nat} {v : Value} (h : Rep st σ w (.slice .full z' []) v) : Rep (st ++ [.arr 0 z []]) (σ.setMu st.length none) w (.arr st.length 0 0) v := by
  have key : (∃ a,v = .slice a 0 0) := by
    generalize hl : ([] : List SV) = l at h
    generalize hx : SV.slice .full z' l = x at h
    cases h with
    | nil m z hm => cases hx; exact ⟨none,rfl⟩
    | slice m z l a cap vals hcap hsp hzz hc hr hm =>
      cases hx
      subst hl
      have hm' : cap = 0 := hm
      subst hm'
      exact ⟨some a,rfl⟩
    | _ => cases hx
  obtain ⟨a,rfl⟩ := key
  exact .arr st.length 0 0 0 z [] _ rfl (by simp) (Nat.le_refl _) fun _ => ⟨by simp,.inl ⟨by simp [Sig.setMu],rfl,a,rfl⟩⟩
theorem aop_append_mk {o : Oper} {t e tx ex : TypeId} {z z0 z1 by' : Nat} {mx : Mode} {x y : Operand} {xs zs : List SV} {K : SV → St → Prop} {env : List SV} {st : St}
    (ho : o.op = .call { callee := .builtin .append,args := #[x,y],argTypes := #[t,tx] }) (hx : ev env x = .slice .full z0 []) (hy : ev env y = .slice mx z1 xs)
    (hz1 : xs = [] ∨ z1 = z)
    (he : aElem P t = some e) (hxe : aElem P tx = some ex) (hz : aSize P e = some z) (hzs : aZero P e = some zs) (hzl : zs.length = z) (hby : aBytes P e = some by')
    (hb : (2 * xs.length + 192) * by' ≤ 281474976710656) (hn : xs.length < 4611686018427387904) (hok : ∀ s ∈ xs,elemOk s = true)
    (hk : K (.arr st.length 1 xs.length) (st ++ [.arr 1 z (xs.flatMap SV.cells)])) : AOp P o K env st :=
  aop_value fun σ w a hI hR => by
    have r1 := rep_ev hR x
    rw [hx] at r1
    have r2 := rep_ev hR y
    rw [hy] at r2
    have hX : Ext st σ w (st ++ [.arr 0 z []]) (σ.setMu st.length none) w := Ext.newOb _ none
    obtain ⟨v',w',σ',g1,g2,g3,g4⟩ := append_arr (P := P) (ty := o.type) (hI.newArr z) (rep_newArr (z := z) r1) (.of_slice (r2.ext hX) hz1) (by simp : (st ++ [Ob.arr 0 z []])[st.length]? = some (.arr 0 z [])) he hxe hz hzs hzl hby (by simpa using hb) (by simpa using hn) hok
    have e : (st ++ [Ob.arr 0 z []]).set st.length (.arr (0 + 1) z (List.take (0 * z) [] ++ xs.flatMap SV.cells)) = st ++ [.arr 1 z (xs.flatMap SV.cells)] := by simp
    rw [e] at g2 g3 g4
    simp only [Nat.zero_add] at g3
    refine ⟨v',w',_,_,σ',?_,hk,g2,g3,hX.trans g4⟩
    simp [execOp,ho,resolve,invoke,builtin,g1]
theorem aop_append_mkA {o : Oper} {t e tx ex : TypeId} {z0 z by' id ver n : Nat} {x y : Operand} {cs zs xs : List SV} {K : SV → St → Prop} {env : List SV} {st : St}
    (ho : o.op = .call { callee := .builtin .append,args := #[x,y],argTypes := #[t,tx] }) (hx : ev env x = .slice .full z0 []) (hy : ev env y = .arr id ver n)
    (hid : st[id]? = some (.arr ver z cs)) (hxl : xs.length = n) (hfl : xs.flatMap SV.cells = cs.take (n * z)) (hsz : ∀ x ∈ xs,x.cells.length = z)
    (he : aElem P t = some e) (hxe : aElem P tx = some ex) (hz : aSize P e = some z) (hzs : aZero P e = some zs) (hzl : zs.length = z) (hby : aBytes P e = some by')
    (hb : (2 * n + 192) * by' ≤ 281474976710656) (hn : n < 4611686018427387904) (hok : ∀ s ∈ xs,elemOk s = true)
    (hk : K (.arr st.length 1 n) (st ++ [.arr 1 z (cs.take (n * z))])) : AOp P o K env st :=
  aop_value fun σ w a hI hR => by
    have r1 := rep_ev hR x
    rw [hx] at r1
    have r2 := rep_ev hR y
    rw [hy] at r2
    have hX : Ext st σ w (st ++ [.arr 0 z []]) (σ.setMu st.length none) w := Ext.newOb _ none
    obtain ⟨v',w',σ',g1,g2,g3,g4⟩ := append_arr (P := P) (ty := o.type) (hI.newArr z) (rep_newArr (z := z) r1)
      (SrcOk.of_arrZ (hI.newArr z) (r2.ext hX) (by rw [List.getElem?_append_left (lt_of_get hid)]; exact hid) hxl hfl hsz) (by simp : (st ++ [Ob.arr 0 z []])[st.length]? = some (.arr 0 z [])) he hxe hz hzs hzl hby (by simpa [hxl] using hb) (by simpa [hxl] using hn) hok
    have e : (st ++ [Ob.arr 0 z []]).set st.length (.arr (0 + 1) z (List.take (0 * z) [] ++ xs.flatMap SV.cells)) = st ++ [.arr 1 z (cs.take (n * z))] := by simp [hfl]
    rw [e] at g2 g3 g4
    simp only [Nat.zero_add,hxl] at g3
    refine ⟨v',w',_,_,σ',?_,hk,g2,g3,hX.trans g4⟩
    simp [execOp,ho,resolve,invoke,builtin,g1]
theorem run_append_num {w : World} {t e tx : TypeId} {z n : Nat} {k k2 : IntKind} {a : Option Addr} {zv : Value} {i : TypeInfo}
    (he : aElem P t = some e) (hx : P.underlying tx = some (.int k2)) (hz : aSize P e = some z) (hi : P.info? e = some i) (hzv : i.zero = some zv)
    (h0 : 0 < n) (hz0 : 0 < z) (hb : (2 * n + 192) * i.bytes ≤ 281474976710656) (hn : n < 4611686018427387904) (ty : TypeId) :
    ∃ newCap,n ≤ newCap ∧ (Builtin.append_ #[t,tx] ty #[.slice a 0 0,.int k (n : Int)]).run P w =
      .ok (.slice (some ⟨w.heap.size,0,none⟩) n newCap) (cutW w (.cells (#[] ++ Builtin.zeroCells zv.cells n ++ Builtin.zeroCells zv.cells (newCap - n)) e)) := by
  have w1 : IntKind.i64.wrap (n : Int) = n := by rw [IntKind.wrap_i64]; omega
  have h1 : ¬ (n = 0) := by omega
  have h6 : ¬ ((n : Int) < 0) := by omega
  have h3 : ¬ Builtin.nextslicecap n 0 * i.bytes > 2 ^ 48 := by
    have := Nat.mul_le_mul_right i.bytes (nextcap_le n 0 h0)
    omega
  have h8 : n * i.bytes ≤ 281474976710656 := by
    have := Nat.mul_le_mul_right i.bytes (show n ≤ 2 * n + 192 by omega)
    omega
  have h7 : ¬ ((281474976710656 : Int) < (n : Int) * (i.bytes : Int)) := by
    rw [← Int.natCast_mul]; omega
  have h9 : ¬ (n * z = 0) := by
    have := Nat.mul_pos h0 hz0
    omega
  have hz1 : ¬ z = 0 := by omega
  have hf : (Question.appendCap n 0 e).forced = false := rfl
  refine ⟨(Question.appendCap n 0 e).cut (w.tape w.drawn (.appendCap n 0 e)),by simp [Question.cut],?_⟩
  have h4 : ¬ (281474976710656 < Builtin.nextslicecap n 0 * i.bytes) := by omega
  have h5 : ¬ (9223372036854775807 < (n : Int)) := by omega
  have hold' : (Builtin.firstCells z 0 (.slice a 0 0)).run P w.drew = .ok #[] w.drew := by
    cases a with
    | none => rfl
    | some ad =>
      have := run_loadCells (P := P) (w := w.drew) ad 0 (fun _ => default) (fun p hp => absurd hp (Nat.not_lt_zero _))
      simpa [Builtin.firstCells] using this
  simp [Builtin.append_,run_underlying (und_slice he),run_sizeOf' hz,run_underlying hx,asInt,asIntOf,w1,h6,h7,h9,h1,run_typeInfo' hi,h4,h5,hf,hold',run_zero' hi hzv,newRow,cutW]
  rfl
theorem aop_append_num {o : Oper} {t e tx : TypeId} {z z0 by' n : Nat} {k k2 : IntKind} {x y : Operand} {zs : List SV} {K : SV → St → Prop} {env : List SV} {st : St}
    (ho : o.op = .call { callee := .builtin .append,args := #[x,y],argTypes := #[t,tx] }) (hx : ev env x = .slice .full z0 [] ∨ ∃ ad,ev env x = .sc (.slice ad 0 0)) (hy : ev env y = .sc (.int k (n : Int)))
    (he : aElem P t = some e) (hxe : P.underlying tx = some (.int k2)) (hz : aSize P e = some z) (hzs : aZero P e = some zs) (hzl : zs.length = z) (hby : aBytes P e = some by')
    (h0 : 0 < n) (hz0 : 0 < z) (hb : (2 * n + 192) * by' ≤ 281474976710656) (hn : n < 4611686018427387904)
    (hk : K (.arr st.length 1 n) (st ++ [.arr 1 z (zeroL zs n)])) : AOp P o K env st :=
  aop_value fun σ w a hI hR => by
    have r1 := rep_ev hR x
    have e2 := rep_sc (by have := rep_ev hR y; rw [hy] at this; exact this)
    have hX : Ext st σ w (st ++ [.arr 0 z []]) (σ.setMu st.length none) w := Ext.newOb _ none
    have hI0 := hI.newArr z
    obtain ⟨ad,hv⟩ : ∃ ad,a.eval x = .slice ad 0 0 := by
      rcases hx with hx | ⟨ad,hx⟩
      rotate_left
      · rw [hx] at r1
        exact ⟨ad,rep_sc r1⟩
      rw [hx] at r1
      generalize hl : ([] : List SV) = l at r1
      generalize hxx : SV.slice .full z0 l = xx at r1
      generalize a.eval x = vx at r1
      cases r1 with
      | nil m z hm => cases hxx; exact ⟨none,rfl⟩
      | slice m z l a cap vals hcap hsp hzz hc hr hm =>
        cases hxx
        subst hl
        have hm' : cap = 0 := hm
        subst hm'
        exact ⟨some a,rfl⟩
      | _ => cases hxx
    obtain ⟨i,zv,hi,hzv,hzeq⟩ := zero_of hzs
    have hvz : zv.cells.size = z := by rw [hzeq] at hzl; simpa using hzl
    obtain ⟨newCap,g1,g2⟩ := run_append_num (P := P) (w := w) (ty := o.type) (a := ad) (k := k) he hxe hz hi hzv h0 hz0 (by rw [bytes_of hby hi]; exact hb) hn
    have hid : (st ++ [Ob.arr 0 z []])[st.length]? = some (.arr 0 z []) := by simp
    have hId := hI0.drew (w.drawn + 1)
    let cells := #[] ++ Builtin.zeroCells zv.cells n ++ Builtin.zeroCells zv.cells (newCap - n)
    have hdx : Ext (st ++ [Ob.arr 0 z []]) (σ.setMu st.length none) w (st ++ [Ob.arr 0 z []]) (σ.setMu st.length none) w.drew := Ext.drew _
    have hX1 := Ext.alloc hId (.cells cells e) (.upto 0)
    have hI1 := hId.alloc (.cells cells e) (.upto 0)
    have hlen : (zeroL zs n).length = n * z := by rw [zeroL_len,hzl]
    have hcs : cells.size = newCap * z := by
      simp only [cells,Array.size_append,size_zeroCells,hvz,Array.size_empty,Nat.zero_add]
      rw [← Nat.add_mul]; congr 1; omega
    have hh : (cutW w (.cells cells e)).heap[w.heap.size]? = some (.cells cells e (0,0)) := by simp [cutW]
    have hX2 := Ext.arrNew (σ := (σ.setMu st.length none).setLock w.heap.size (.upto 0)) (w := cutW w (.cells cells e)) (cs' := zeroL zs n) hid (some w.heap.size)
    have hrz := repL_zero (st := (st ++ [Ob.arr 0 z []]))  (σ := (σ.setMu st.length none).setLock w.heap.size (.upto 0)) (w := cutW w (.cells cells e)) zv n
    rw [← hzeq] at hrz
    have hA := hdx.trans hX1
    have hI2 := Inv.arrNew (cs' := zeroL zs n) hI1 hid (some w.heap.size) (.inr ⟨w.heap.size,cells,e,rfl,hh,by rw [hlen,hcs]; exact Nat.mul_le_mul_right z g1,
        fun j hj => by
          have := hrz.2 j hj
          have hj' : j < n * z := by rw [hlen] at hj; exact hj
          have e3 : cells.getD j default = (Builtin.zeroCells zv.cells n).getD j default := by
            simp only [cells,Array.getD_eq_getD_getElem?]
            rw [Array.getElem?_append_left (by simp [size_zeroCells,hvz]; omega)]
            simp
          rw [e3]
          exact this,by simp [Sig.setLock]⟩) (fun c hc i hi hne h => by
          cases hc
          have := hI0.mu_lt hi h
          omega)
    have eS : (st ++ [Ob.arr 0 z []]).set st.length (.arr (0 + 1) z (zeroL zs n)) = st ++ [.arr 1 z (zeroL zs n)] := by simp
    rw [eS] at hI2 hX2
    refine ⟨.slice (some ⟨w.heap.size,0,none⟩) n newCap,cutW w (.cells cells e),_,_,_,?_,hk,hI2,?_,hX.trans (hA.trans hX2)⟩
    · have hy2 : a.eval y = .int k (n : Int) := e2
      simp [execOp,ho,resolve,invoke,builtin,hv,hy2,g2,cells]
    · exact .arr st.length 1 _ 1 z (zeroL zs n) _ rfl (by simp) (Nat.le_refl _) fun _ => ⟨by rw [hlen]; exact Nat.le_refl _,.inr ⟨w.heap.size,newCap,cells,e,by simp [Sig.setMu],rfl,g1,hh,by rw [hcs]; exact Nat.le_refl _⟩⟩
theorem run_buildSlice {o : Oper} {t e : TypeId} {len z : Nat} {parts : Array (Nat × Operand)} {zs : List SV} {env : List SV} {st : St} {σ : Sig} {w : World} {a : Act}
    (ho : o.op = .buildSlice t len parts) (he : aElem P t = some e) (hz : aSize P e = some z) (hzero : aZero P e = some zs) (hidx : parts.toList.map (·.1) = List.range len) (hle : len * z ≤ 16777216)
    (hs : ∀ p ∈ parts.toList,shapeOk (ev env p.2) = true ∧ (ev env p.2).cells.length = z) (hR : RepEnv st σ w env a.tmps) :
    ∃ rs : Array Value,(execOp a.eval o).run P w = .ok (.value (.slice (some ⟨w.heap.size,0,none⟩) len len)) { w with heap := w.heap.push (.cells rs e) } ∧ rs.size = len * z ∧
      ∀ j,j < (parts.toList.flatMap fun p => (norm (ev env p.2)).cells).length → Rep st σ w ((parts.toList.flatMap fun p => (norm (ev env p.2)).cells).getD j .any) (rs.getD j default) := by
    obtain ⟨ti,tv,h1,h2,rfl⟩ := zero_of hzero
    have hlen : parts.toList.length = len := by have := congrArg List.length hidx; simpa using this
    let vs := parts.toList.map fun p => a.eval p.2
    have hvl : vs.length = len := by simp [vs,← hlen]
    have hvz : ∀ v ∈ vs,v.cells.size = z := by
      intro v hv
      obtain ⟨p,hp,rfl⟩ := List.mem_map.1 hv
      obtain ⟨c1,c2⟩ := hs p hp
      exact repL_list c1 (rep_ev hR _) c2
    let cs0 : Array Value := (Array.range (len * z)).map ((if len * z = 0 then #[] else tv.cells)[· % (if len * z = 0 then #[] else tv.cells).size]!)
    obtain ⟨rs,f1,f2,f3,f4⟩ := fill_range (z := z) vs 0 cs0 hvz (by simp [cs0,hvl])
    have hparts : (parts.map fun p => (p.1,a.eval p.2)).toList = (vs.zipIdx 0).map fun p => (p.2,p.1) := by
      apply List.ext_getElem?
      intro i
      simp only [Array.toList_map,List.getElem?_map,List.getElem?_zipIdx,vs,Nat.zero_add]
      cases hp : parts.toList[i]? with
      | none => simp
      | some p =>
        have : (parts.toList.map (·.1))[i]? = some p.1 := by simp [hp]
        rw [hidx] at this
        have hi := lt_of_get this
        simp at hi
        rw [List.getElem?_range hi] at this
        simp at this
        simp [this]
    refine ⟨rs,?_,by rw [f2]; simp [cs0],fun j hj => ?_⟩
    · have h16 : ¬ 16777216 < len * z := by omega
      by_cases h0 : len * z = 0
      · have e0 : cs0 = (Array.range (len * z)).map ((#[] : Array Value)[· % (#[] : Array Value).size]!) := by simp [cs0,h0]
        rw [e0,← hparts] at f1
        simp [execOp,ho,Instr.buildSlice,run_underlying (und_slice he),run_sizeOf' hz,h16]
        simp [h0] at f1 ⊢
        simp [f1,newRow]
      · have e0 : cs0 = (Array.range (len * z)).map (tv.cells[· % tv.cells.size]!) := by simp only [cs0,if_neg h0]
        rw [e0,← hparts] at f1
        simp [execOp,ho,Instr.buildSlice,run_underlying (und_slice he),run_sizeOf' hz,h16]
        simp [h0,run_zero' h1 h2] at f1 ⊢
        simp [f1,newRow]
    · have e : (parts.toList.flatMap fun p => (norm (ev env p.2)).cells) = (parts.toList.map fun p => norm (ev env p.2)).flatMap SV.cells := by rw [List.flatMap_map]
      rw [e] at hj ⊢
      have hxz : ∀ x ∈ (parts.toList.map fun p => norm (ev env p.2)),x.cells.length = z := fun x hx => by
        obtain ⟨p,hp,rfl⟩ := List.mem_map.1 hx
        rw [cells_norm]
        exact (hs p hp).2
      have hxl : (parts.toList.map fun p => norm (ev env p.2)).length = len := by simp [← hlen]
      rw [flat_len _ hxz,hxl] at hj
      have hz0 : 0 < z := by
        rcases Nat.eq_zero_or_pos z with h | h
        · subst h; omega
        · exact h
      have hi : j / z < len := by rw [Nat.div_lt_iff_lt_mul hz0]; exact hj
      have hjm : j % z < z := Nat.mod_lt _ hz0
      have hg := flat_get _ (j / z) (j % z) hxz (by rw [hxl]; exact hi) hjm
      have hv := f4 (j / z) (j % z) (by rw [hvl]; exact hi) hjm
      rw [Nat.zero_add] at hv
      rw [Nat.mul_comm,Nat.div_add_mod] at hg hv
      rw [hg,Array.getD_eq_getD_getElem?,hv,← Array.getD_eq_getD_getElem?]
      have hi' : j / z < parts.toList.length := by omega
      have hp := hs (parts.toList[j / z]) (List.getElem_mem _)
      have hrep := rep_cells (shapeOk_norm hp.1) (rep_ev hR (parts.toList[j / z]).2).norm
      have hr2 := hrep.2 (j % z) (by rw [cells_norm,hp.2]; exact hjm)
      have e1 : (parts.toList.map fun p => norm (ev env p.2)).getD (j / z) .any = norm (ev env (parts.toList[j / z]).2) := by simp only [List.getD_eq_getElem?_getD,List.getElem?_map,List.getElem?_eq_getElem hi']; rfl
      have e2 : vs.getD (j / z) default = a.eval (parts.toList[j / z]).2 := by simp only [vs,List.getD_eq_getElem?_getD,List.getElem?_map,List.getElem?_eq_getElem hi']; rfl
      rw [e1,e2]
      exact hr2
theorem aop_buildSlice_arr {o : Oper} {t e : TypeId} {len z : Nat} {parts : Array (Nat × Operand)} {zs : List SV} {K : SV → St → Prop} {env : List SV} {st : St}
    (ho : o.op = .buildSlice t len parts) (he : aElem P t = some e) (hz : aSize P e = some z) (hzero : aZero P e = some zs) (hidx : parts.toList.map (·.1) = List.range len) (hle : len * z ≤ 16777216)
    (hs : ∀ p ∈ parts.toList,shapeOk (ev env p.2) = true ∧ (ev env p.2).cells.length = z)
    (hk : K (.arr st.length 1 len) (st ++ [.arr 1 z (parts.toList.flatMap fun p => (norm (ev env p.2)).cells)])) : AOp P o K env st :=
  aop_value fun σ w a hI hR => by
    obtain ⟨rs,g1,g2,g3⟩ := run_buildSlice (P := P) ho he hz hzero hidx hle hs hR
    have hlen : parts.toList.length = len := by have := congrArg List.length hidx; simpa using this
    have hcl : (parts.toList.flatMap fun p => (norm (ev env p.2)).cells).length = len * z := by
      have e : (parts.toList.flatMap fun p => (norm (ev env p.2)).cells) = (parts.toList.map fun p => norm (ev env p.2)).flatMap SV.cells := by rw [List.flatMap_map]
      rw [e,flat_len _ (z := z) (fun x hx => by
        obtain ⟨p,hp,rfl⟩ := List.mem_map.1 hx
        rw [cells_norm]
        exact (hs p hp).2)]
      simp [← hlen]
    have hX0 : Ext st σ w (st ++ [.arr 0 z []]) (σ.setMu st.length none) w := Ext.newOb _ none
    have hI0 := hI.newArr z
    have hX1 := Ext.alloc hI0 (.cells rs e) (.upto 0)
    have hI1 := hI0.alloc (.cells rs e) (.upto 0)
    have hid : (st ++ [Ob.arr 0 z []])[st.length]? = some (.arr 0 z []) := by simp
    have hX2 := Ext.arrNew (σ := (σ.setMu st.length none).setLock w.heap.size (.upto 0)) (w := { w with heap := w.heap.push (.cells rs e) }) (cs' := parts.toList.flatMap fun p => (norm (ev env p.2)).cells) hid (some w.heap.size)
    have hI2 := Inv.arrNew (cs' := parts.toList.flatMap fun p => (norm (ev env p.2)).cells) hI1 hid (some w.heap.size) (.inr ⟨w.heap.size,rs,e,rfl,by simp,by rw [hcl,g2]; exact Nat.le_refl _,
      fun j hj => ((g3 j hj).ext hX0).ext hX1,by simp [Sig.setLock]⟩) (fun c hc i hi hne h => by
        cases hc
        have hi' : i < st.length := by simp at hi; omega
        simp only [Sig.setLock,Sig.setMu,if_neg (show ¬ i = st.length by omega)] at h
        have := hI.mu_lt hi' h
        omega)
    have es : (st ++ [Ob.arr 0 z []]).set st.length (.arr (0 + 1) z (parts.toList.flatMap fun p => (norm (ev env p.2)).cells)) = st ++ [.arr 1 z (parts.toList.flatMap fun p => (norm (ev env p.2)).cells)] := by simp
    rw [es] at hX2 hI2
    refine ⟨_,_,_,_,_,g1,hk,hI2,?_,(hX0.trans hX1).trans hX2⟩
    exact .arr st.length 1 len 1 z _ _ rfl List.getElem?_concat_length (Nat.le_refl _) fun _ => ⟨by rw [hcl]; exact Nat.le_refl _,.inr ⟨w.heap.size,len,rs,e,by simp [Sig.setMu],rfl,Nat.le_refl _,by simp,by rw [g2]; exact Nat.le_refl _⟩⟩
theorem awp_arr {c : Code} {Q : Exit → List SV → St → Prop} {env : List SV} {st : St} (d z z' : Nat) (he : env.getD d .any = .slice .full z' [])
    (h : AWp P c Q (env.set d (.arr st.length 0 0)) (st ++ [.arr 0 z []])) : AWp P c Q env st := by
  intro σ w t hI hR D hd
  have hX : Ext st σ w (st ++ [.arr 0 z []]) (σ.setMu st.length none) w := Ext.newOb _ none
  have hI' := hI.newArr z
  have hr := hR.get d
  rw [he] at hr
  have hr2 := rep_newArr (z := z) hr
  have hR' : RepEnv (st ++ [.arr 0 z []]) (σ.setMu st.length none) w (env.set d (.arr st.length 0 0)) t.tmps := by
    have h4 := hR.ext hX
    refine ⟨by simpa using h4.1,fun i hi => ?_⟩
    simp only [List.length_set] at hi
    by_cases e : d = i
    · subst e; simpa [List.getD_eq_getElem?_getD,hi] using hr2
    · have := h4.2 i hi
      simpa [List.getD_eq_getElem?_getD,List.getElem?_set_ne e] using this
  exact wp_mono (h _ _ t hI' hR' hd) fun e a w hp => hp.ext hX
def aArr (P : Program) (t : TypeId) : Option (Nat × Nat) := match P.underlying t with
  | some (.array n e) => (aSize P e).map fun z => (n,z)
  | _ => none
def aArr1 (P : Program) (t : TypeId) : Option Nat := match P.underlying t with
  | some (.array n e) => if aAgg P e = some false then (match aSize P e with | some 1 => some n | _ => none) else none
  | _ => none
theorem aArr_of {t : TypeId} {n z : Nat} (h : aArr P t = some (n,z)) : ∃ e,P.underlying t = some (.array n e) ∧ aSize P e = some z := by
  unfold aArr at h
  split at h
  · rename_i m e hu
    cases hs : aSize P e with
    | none => rw [hs] at h; cases h
    | some y => rw [hs] at h; cases h; exact ⟨e,hu,hs⟩
  · cases h
theorem aArr1_of {t : TypeId} {n : Nat} (h : aArr1 P t = some n) : ∃ e,P.underlying t = some (.array n e) ∧ aSize P e = some 1 ∧ aAgg P e = some false := by
  unfold aArr1 at h
  split at h
  · rename_i m e hu
    split at h
    · rename_i ha
      split at h
      · rename_i hs; cases h; exact ⟨e,hu,hs,ha⟩
      · cases h
    · cases h
  · cases h
theorem ap_indexAddr_ptr {o : Oper} {t : TypeId} {x y : Operand} {k : IntKind} {i : Int} {id off n z : Nat} {ρ : Operand → SV} {st : St}
    (ho : o.op = .indexAddr t x y) (hx : ρ x = .ptr id off) (hy : ρ y = .sc (.int k i)) (ha : aArr P t = some (n,z)) (h0 : 0 ≤ i) (hi : i < n) : APure P o ρ st (.ptr id (off + i.toNat * z)) := by
  intro σ w a hI hR
  obtain ⟨e,hu,hz⟩ := aArr_of ha
  have hr := hR x (by simp [ho,Op.operands])
  rw [hx] at hr
  have e2 := rep_sc (by have := hR y (by simp [ho,Op.operands]); rw [hy] at this; exact this)
  generalize hv : a.eval x = v at hr
  cases hr with
  | ptr id off b hk hb =>
    exact ⟨_,by simp [execOp,ho,hv,e2,Instr.indexAt,Instr.sureAddr,asIntOf,run_underlying hu,h0,hi,run_sizeOf' hz,addr_add],.ptr id _ b hk hb⟩
theorem ap_slice_ptr {o : Oper} {t : TypeId} {x : Operand} {id off n z : Nat} {ρ : Operand → SV} {st : St}
    (ho : o.op = .slice t x none none none) (hx : ρ x = .ptr id off) (ha : aArr P t = some (n,z)) : APure P o ρ st (.slc id z off n n) := by
  intro σ w a hI hR
  obtain ⟨e,hu,hz⟩ := aArr_of ha
  have hr := hR x (by simp [ho,Op.operands])
  rw [hx] at hr
  generalize hv : a.eval x = v at hr
  cases hr with
  | ptr id off b hk hb =>
    have hb' : (Instr.sliceBounds false n n none none none).run P w = .ok (0,n,n) w := by simp [Instr.sliceBounds]
    have ha0 : (⟨b,off,none⟩ : Addr).add 0 = ⟨b,off,none⟩ := by rw [addr_add]; simp
    refine ⟨.slice (some ⟨b,off,none⟩) n n,?_,.slc id z off _ _ b hk hb (Nat.le_refl _)⟩
    simp [execOp,ho,hv,Instr.sliceAt,Instr.sureAddr,run_underlying hu,hb',run_sizeOf' hz,ha0]
theorem run_part1 {e : TypeId} {xs : Array Value} {off : Nat} {w : World} (ha : aAgg P e = some false) (h : off < xs.size) : (part e xs off).run P w = .ok (xs.getD off default) w := by
  have hx : xs[off]? = some (xs.getD off default) := by simp [Array.getD,h]
  simp only [part,Sem.run_bind,run_isAgg' ha,Result.andThen,Bool.false_eq_true,if_false,hx]
  rfl
theorem ap_index_agg {o : Oper} {t : TypeId} {x y : Operand} {k : IntKind} {i : Int} {l : List SV} {n : Nat} {ρ : Operand → SV} {st : St}
    (ho : o.op = .index t x y) (hx : ρ x = .agg l) (hy : ρ y = .sc (.int k i)) (ha : aArr1 P t = some n) (h0 : 0 ≤ i) (hi : i < n) (hl : n ≤ l.length) : APure P o ρ st (l.getD i.toNat .any) := by
  intro σ w a hI hR
  obtain ⟨e,hu,hz,hag⟩ := aArr1_of ha
  have hr := hR x (by simp [ho,Op.operands])
  rw [hx] at hr
  have e2 := rep_sc (by have := hR y (by simp [ho,Op.operands]); rw [hy] at this; exact this)
  generalize hv : a.eval x = v at hr
  cases hr with
  | agg l vs hs r =>
    have hlt : i.toNat < vs.size := by omega
    refine ⟨vs.getD i.toNat default,?_,r i.toNat (by omega)⟩
    have hp : (part e vs (i.toNat * 1)).run P w = .ok (vs.getD i.toNat default) w := by rw [Nat.mul_one]; exact run_part1 hag hlt
    simp [execOp,ho,hv,e2,Instr.index,asIntOf,run_underlying hu,h0,hi,run_sizeOf' hz] at hp ⊢
    rw [hp]; rfl
theorem ap_index_str {o : Oper} {t : TypeId} {x y : Operand} {k : IntKind} {i : Int} {s : ByteArray} {ρ : Operand → SV} {st : St}
    (ho : o.op = .index t x y) (hx : ρ x = .sc (.string s)) (hy : ρ y = .sc (.int k i)) (hu : P.underlying t = some .string) (h0 : 0 ≤ i) (hi : i < s.size) : APure P o ρ st (.sc (.int .u8 ((s.get! i.toNat).toNat : Int))) := by
  intro σ w a hI hR
  have e1 := rep_sc (by have := hR x (by simp [ho,Op.operands]); rw [hx] at this; exact this)
  have e2 := rep_sc (by have := hR y (by simp [ho,Op.operands]); rw [hy] at this; exact this)
  have hlt : i.toNat < s.size := by omega
  refine ⟨.int .u8 ((s.get! i.toNat).toNat : Int),?_,.sc _⟩
  have hb : s[i.toNat]? = some (s.get! i.toNat) := by
    rw [getElem?_pos s i.toNat hlt]
    congr 1
    show s.data[i.toNat] = s.data[i.toNat]!
    rw [getElem!_pos]
  simp [execOp,ho,e1,e2,Instr.index,asIntOf,run_underlying hu,h0,hb]
theorem aop_cap {o : Oper} {t : TypeId} {e : TypeId} {z : Nat} {x : Operand} {l : List SV} {K : SV → St → Prop} {env : List SV} {st : St}
    (ho : o.op = .call { callee := .builtin .cap,args := #[x],argTypes := #[t] }) (hx : ev env x = .slice .full z l) (he : aElem P t = some e) (hk : K (.sc (.int .i64 l.length)) st) : AOp P o K env st :=
  aop_value fun σ w a hI hR => by
    have hr := rep_ev hR x
    rw [hx] at hr
    generalize hv : a.eval x = v at hr
    cases hr with
    | nil m z hm => exact ⟨.int .i64 0,w,_,_,σ,by simp [execOp,ho,resolve,invoke,builtin,hv,Builtin.cap_,run_underlying (und_slice he),goInt],hk,hI,.sc _,Ext.refl _ _ _⟩
    | slice m z l ad cap vals hcap hsp hzz hc hr hm =>
      have hm' : cap = l.length := hm
      subst hm'
      exact ⟨.int .i64 l.length,w,_,_,σ,by simp [execOp,ho,resolve,invoke,builtin,hv,Builtin.cap_,run_underlying (und_slice he),goInt],hk,hI,.sc _,Ext.refl _ _ _⟩
theorem ap_len_sc {o : Oper} {t e : TypeId} {x : Operand} {ad : Option Addr} {n c : Nat} {ρ : Operand → SV} {st : St} (ho : o.op = .call { callee := .builtin .len,args := #[x],argTypes := #[t] }) (hx : ρ x = .sc (.slice ad n c)) (he : aElem P t = some e) :
    APure P o ρ st (.sc (.int .i64 n)) := fun σ w a hI hR => by
  have e := rep_sc (by have := hR x (by simp [ho,Op.operands,Call.operands]); rw [hx] at this; exact this)
  exact ⟨_,by simp [execOp,ho,resolve,invoke,builtin,e,Builtin.len_,run_underlying (und_slice he),goInt],.sc _⟩
theorem aop_cap_sc {o : Oper} {t e : TypeId} {x : Operand} {ad : Option Addr} {n c : Nat} {K : SV → St → Prop} {env : List SV} {st : St} (ho : o.op = .call { callee := .builtin .cap,args := #[x],argTypes := #[t] }) (hx : ev env x = .sc (.slice ad n c)) (he : aElem P t = some e)
    (hk : K (.sc (.int .i64 c)) st) : AOp P o K env st := aop_value fun σ w a hI hR => by
  have e := rep_sc (by have := rep_ev hR x; rw [hx] at this; exact this)
  exact ⟨.int .i64 c,w,_,_,σ,by simp [execOp,ho,resolve,invoke,builtin,e,Builtin.cap_,run_underlying (und_slice he),goInt],hk,hI,.sc _,Ext.refl _ _ _⟩
theorem ap_slice_sc {o : Oper} {t e : TypeId} {z : Nat} {x : Operand} {lo hi : Option Operand} {ad : Option Addr} {ρ : Operand → SV} {st : St} (ho : o.op = .slice t x lo hi none) (hx : ρ x = .sc (.slice ad 0 0)) (he : aElem P t = some e) (hz : aSize P e = some z)
    (hl : bound ρ lo 0 = some 0) (hh : bound ρ hi 0 = some 0) : APure P o ρ st (.sc (.slice ad 0 0)) := by
  intro σ w a hI hR
  have hv := rep_sc (by have := hR x (by simp [ho,Op.operands]); rw [hx] at this; exact this)
  have eh : (match hi.map a.eval with | some v => Instr.sliceBound v 0 .sliceAcap | none => pure 0).run P w = .ok 0 w := by
    cases hi with
    | none => simp
    | some y => exact run_bound (P := P) (hR y (by simp [ho,Op.operands])) (y := y) (n := (0 : Int)) (by simpa [bound] using hh) (by omega) _ (by omega) _
  have hb : (Instr.sliceBounds true 0 0 (lo.map a.eval) (hi.map a.eval) none).run P w = .ok (0,0,0) w := by
    cases lo with
    | none => cases hi <;> simp [Instr.sliceBounds] at eh ⊢ <;> simp [eh]
    | some y =>
      have el := run_bound (P := P) (hR y (by simp [ho,Op.operands])) (y := y) (n := (0 : Int)) (by simpa [bound] using hl) (by omega) 0 (by omega) .sliceB
      simp only [Int.toNat_zero] at el
      cases hi <;> simp [Instr.sliceBounds] at eh ⊢ <;> simp [eh,el]
  exact ⟨.slice ad 0 0,by simp [execOp,ho,hv,Instr.sliceAt,Instr.slice,run_underlying (und_slice he),hb,run_sizeOf' hz],.sc _⟩
end Go.AL
namespace Go.AL
variable {P : Program}
def strip : SV → SV
  | .gd _ x => x
  | x => x
def binIntV (op : BinOp) (k : IntKind) (a b : Int) : Value :=
  match op with
  | .add => .int k (k.wrap (a + b))
  | .sub => .int k (k.wrap (a - b))
  | .mul => .int k (k.wrap (a * b))
  | .quo => .int k (k.wrap (a.tdiv b))
  | .rem => .int k (a.tmod b)
  | .eql => .bool (a == b)
  | .neq => .bool (a != b)
  | .lss => .bool (decide (a < b))
  | .leq => .bool (decide (a ≤ b))
  | .gtr => .bool (decide (b < a))
  | .geq => .bool (decide (b ≤ a))
  | .and => .int k (k.wrap ((BitVec.ofInt k.bits a &&& BitVec.ofInt k.bits b).toNat : Int))
  | .or => .int k (k.wrap ((BitVec.ofInt k.bits a ||| BitVec.ofInt k.bits b).toNat : Int))
  | .xor => .int k (k.wrap ((BitVec.ofInt k.bits a ^^^ BitVec.ofInt k.bits b).toNat : Int))
  | .andNot => .int k (k.wrap ((BitVec.ofInt k.bits a &&& ~~~BitVec.ofInt k.bits b).toNat : Int))
  | .shl => .int k (k.wrap (a * 2 ^ min b.toNat k.bits))
  | .shr => .int k (a.fdiv (2 ^ min b.toNat k.bits))
def binIntOk (op : BinOp) (b : Int) : Prop :=
  match op with
  | .quo => b ≠ 0
  | .rem => b ≠ 0
  | .shl | .shr => 0 ≤ b
  | _ => True
theorem binInt_of {op : BinOp} {k : IntKind} {a b : Int} (h : binIntOk op b) : binInt op k a b = some (binIntV op k a b) := by
  cases op <;> first | rfl | exact h.elim | (simp only [binIntOk] at h; simp [binInt,binIntV,h]; done) | (simp only [binIntOk] at h; simp only [binInt,binIntV]; rw [if_neg (by omega)])
def binStrV (op : BinOp) (a b : ByteArray) : Value :=
  match op with
  | .eql => .bool (a.toList == b.toList)
  | .neq => .bool !(a.toList == b.toList)
  | .add => .string (a ++ b)
  | _ => undef
def binStrOk (op : BinOp) (a b : ByteArray) : Prop :=
  match op with
  | .eql => True
  | .neq => True
  | .add => a.size + b.size ≤ 9223372036854775807
  | _ => False
theorem binStr_of {op : BinOp} {a b : ByteArray} (h : binStrOk op a b) : binStr op a b = some (binStrV op a b) := by
  cases op <;> first | rfl | exact h.elim | (simp only [binStrOk] at h; simp [binStr,binStrV,h])
def boolV : BinOp → Bool → Bool
  | .neq,b => !b
  | _,b => b
def isEq : BinOp → Prop
  | .eql => True
  | .neq => True
  | _ => False
def svEq : SV → SV → Bool
  | .sc (.int _ a),.sc (.int _ b) => a == b
  | .sc (.bool a),.sc (.bool b) => a == b
  | .sc (.string a),.sc (.string b) => a.toList == b.toList
  | _,_ => false
def svsEq : List SV → List SV → Bool
  | [],[] => true
  | a :: r,b :: s => svEq a b && svsEq r s
  | _,_ => false
def scEqOk (P : Program) (t : TypeId) : SV → SV → Prop
  | .sc (.int k _),.sc (.int k' _) => k = k' ∧ P.underlying t = some (.int k)
  | .sc (.bool _),.sc (.bool _) => P.underlying t = some .bool
  | .sc (.string _),.sc (.string _) => P.underlying t = some .string
  | _,_ => False
def eqFsOk (P : Program) : Nat → List Field → List SV → List SV → Prop
  | _,[],[],[] => True
  | i, f :: fs, a :: r, b :: s => (f.name ≠ "_" ∧ f.offset = i ∧ aAgg P f.type = some false ∧ scEqOk P f.type a b) ∧ eqFsOk P (i + 1) fs r s
  | _,_,_,_ => False
def aggEqOk (P : Program) (t : TypeId) (a b : List SV) : Prop :=
  P.underlying t = some (.struct (P.fieldsOf t)) ∧ P.stoodInHeld t = false ∧ P.eqGuardType P.depth t = false ∧ eqFsOk P 0 (P.fieldsOf t).toList a b
theorem run_scEq {d : Nat} {t : TypeId} {x y : SV} (h : scEqOk P t x y) {st : St} {σ : Sig} {w : World} {v v' : Value} (h1 : Rep st σ w x v) (h2 : Rep st σ w y v') : (Op.equalIn (d + 1) t v v').run P w = .ok (svEq x y) w := by
  unfold scEqOk at h
  split at h
  · obtain ⟨rfl,h⟩ := h
    rw [rep_sc h1,rep_sc h2]
    exact run_equalIn_int w d t _ _ _ _ h
  · rw [rep_sc h1,rep_sc h2]; exact run_equalIn_bool' w d t _ _ h
  · rw [rep_sc h1,rep_sc h2]; exact run_equalIn_string w d t _ _ h
  · exact h.elim
theorem run_eqFs {d : Nat} {st : St} {σ : Sig} {w : World} {xs ys : Array Value} : ∀ (fs : List Field) (i : Nat) (a b : List SV),eqFsOk P i fs a b → xs.size = i + a.length → ys.size = i + b.length →
    (∀ j,j < a.length → Rep st σ w (a.getD j .any) (xs.getD (i + j) default)) → (∀ j,j < b.length → Rep st σ w (b.getD j .any) (ys.getD (i + j) default)) →
    (Op.eqFields (d + 1) xs ys fs).run P w = .ok (svsEq a b) w
  | [],_,[],[],_,_,_,_,_ => by simp [Op.eqFields,svsEq]
  | [],_,_ :: _,_,h,_,_,_,_ => h.elim
  | [],_,[],_ :: _,h,_,_,_,_ => h.elim
  | _ :: _,_,[],_,h,_,_,_,_ => h.elim
  | _ :: _,_,_ :: _,[],h,_,_,_,_ => h.elim
  | f :: fs,i,x :: a,y :: b,h,hx,hy,h1,h2 => by
    obtain ⟨⟨hn,ho,ha,hs⟩,hr⟩ := h
    simp only [List.length_cons] at hx hy h1 h2
    have ih := run_eqFs (d := d) (w := w) (st := st) (σ := σ) (xs := xs) (ys := ys) fs (i + 1) a b hr (by omega) (by omega)
      (fun j hj => by have := h1 (j + 1) (by omega); rw [List.getD_cons_succ] at this; rw [show i + 1 + j = i + (j + 1) by omega]; exact this)
      (fun j hj => by have := h2 (j + 1) (by omega); rw [List.getD_cons_succ] at this; rw [show i + 1 + j = i + (j + 1) by omega]; exact this)
    have q1 := h1 0 (by omega)
    have q2 := h2 0 (by omega)
    rw [List.getD_cons_zero,Nat.add_zero] at q1 q2
    have e := run_scEq (d := d) hs q1 q2
    have p1 := run_part1 (P := P) (e := f.type) (xs := xs) (off := f.offset) (w := w) ha (by omega)
    have p2 := run_part1 (P := P) (e := f.type) (xs := ys) (off := f.offset) (w := w) ha (by omega)
    rw [ho] at p1 p2
    simp only [Op.eqFields,hn,ne_eq,not_false_eq_true,if_true,Sem.run_bind,ho,p1,p2,Result.andThen_ok,e,svsEq]
    cases svEq x y with
    | false => simp
    | true => simpa using ih
def binV (op : BinOp) : SV → SV → SV
  | .sc (.int k m),.sc (.int _ n) => .sc (binIntV op k m n)
  | .sc (.string m),.sc (.string n) => .sc (binStrV op m n)
  | .sc (.bool m),.sc (.bool n) => .sc (.bool (boolV op (m == n)))
  | .agg a,.agg b => .sc (.bool (boolV op (svsEq a b)))
  | _,_ => .any
def kindsOk : BinOp → IntKind → IntKind → Prop
  | .shl,_,_ => True
  | .shr,_,_ => True
  | _,k,k' => k = k'
theorem kindsOk_of {op : BinOp} {k k' : IntKind} (h : k = k') : kindsOk op k k' := by cases op <;> first | exact h | trivial
theorem kinds_eq {op : BinOp} {k k' : IntKind} (hs : ¬ (op = .shl ∨ op = .shr)) (h : kindsOk op k k') : k = k' := by
  cases op <;> first | exact h | exact absurd (.inl rfl) hs | exact absurd (.inr rfl) hs
theorem ap_shift {o : Oper} {op : BinOp} {t u : TypeId} {x y : Operand} {k k' : IntKind} {m n : Int} {ρ : Operand → SV} {st : St}
    (ho : o.op = .binOp op t x y u) (hs : op = .shl ∨ op = .shr) (hx : ρ x = .sc (.int k m)) (hy : ρ y = .sc (.int k' n)) (h0 : binIntOk op n) : APure P o ρ st (.sc (binIntV op k m n)) :=
  (fun σ w a hI hR => by
    have h1 := hR x (by simp [ho,Op.operands])
    have h2 := hR y (by simp [ho,Op.operands])
    rw [hx] at h1
    rw [hy] at h2
    have e1 := rep_sc h1
    have e2 := rep_sc h2
    rcases hs with rfl | rfl
    · have h0 : (0 : Int) ≤ n := h0
      exact ⟨_,by simp [execOp,ho,e1,e2,eqGuard,binOp,Op.shift,Int.not_lt.2 h0,binIntV],.sc _⟩
    · have h0 : (0 : Int) ≤ n := h0
      exact ⟨_,by simp [execOp,ho,e1,e2,eqGuard,binOp,Op.shift,Int.not_lt.2 h0,binIntV],.sc _⟩)
def binOk (P : Program) (op : BinOp) (t : TypeId) : SV → SV → Prop
  | .sc (.int k m),.sc (.int k' n) => kindsOk op k k' ∧ binIntOk op n
  | .sc (.string m),.sc (.string n) => binStrOk op m n
  | .sc (.bool m),.sc (.bool n) => isEq op ∧ P.underlying t = some .bool
  | .agg a,.agg b => isEq op ∧ aggEqOk P t a b
  | _,_ => False
theorem ap_binBoolE {o : Oper} {t u : TypeId} {op : BinOp} {x y : Operand} {m n : Bool} {ρ : Operand → SV} {st : St}
    (ho : o.op = .binOp op t x y u) (hop : isEq op) (hx : ρ x = .sc (.bool m)) (hy : ρ y = .sc (.bool n)) (ht : P.underlying t = some .bool) : APure P o ρ st ((.sc (.bool (boolV op (m == n))))) :=
  (fun σ w a hI hR => by
    have h1 := hR x (by simp [ho,Op.operands])
    have h2 := hR y (by simp [ho,Op.operands])
    rw [hx] at h1
    rw [hy] at h2
    have e1 := rep_sc h1
    have e2 := rep_sc h2
    unfold isEq at hop
    split at hop
    · exact ⟨.bool _,by simp [execOp,ho,e1,e2,eqGuard,run_eql_bool w t m n ht,boolV],.sc _⟩
    · exact ⟨.bool _,by simp [execOp,ho,e1,e2,eqGuard,run_neq_bool w t m n ht,boolV],.sc _⟩
    · exact hop.elim)
theorem ap_binAgg {o : Oper} {t u : TypeId} {op : BinOp} {x y : Operand} {l r : List SV} {ρ : Operand → SV} {st : St}
    (ho : o.op = .binOp op t x y u) (hop : isEq op) (hx : ρ x = .agg l) (hy : ρ y = .agg r) (ht : aggEqOk P t l r) : APure P o ρ st ((.sc (.bool (boolV op (svsEq l r))))) :=
  (fun σ w a hI hR => by
    have h1 := hR x (by simp [ho,Op.operands])
    have h2 := hR y (by simp [ho,Op.operands])
    rw [hx] at h1
    rw [hy] at h2
    obtain ⟨t1,t2,t3,t4⟩ := ht
    generalize hv1 : a.eval x = v1 at h1
    generalize hv2 : a.eval y = v2 at h2
    generalize hX : SV.agg l = X at h1
    generalize hY : SV.agg r = Y at h2
    cases h1 with
    | agg l' vs a1 a2 =>
      cases h2 with
      | agg r' us b1 b2 =>
        cases hX; cases hY
        have e := run_eqFs (d := 9998) (P := P) (w := w) (st := st) (σ := σ) (xs := vs) (ys := us) _ 0 l r t4 (by omega) (by omega) (fun j hj => by rw [Nat.zero_add]; exact a2 j hj) (fun j hj => by rw [Nat.zero_add]; exact b2 j hj)
        have e2 : (Op.equalIn 10000 t (.agg vs) (.agg us)).run P w = .ok (svsEq l r) w := by
          rw [show (10000 : Nat) = 9999 + 1 from rfl,run_equalIn_struct w 9999 t vs us t1 t2]
          exact e
        have g := run_eqGuard_agg w op t x y vs us t3
        unfold isEq at hop
        split at hop
        · exact ⟨.bool _,by simp [execOp,ho,hv1,hv2,g,run_eql_struct,e2,Result.andThen,boolV],.sc _⟩
        · exact ⟨.bool _,by simp [execOp,ho,hv1,hv2,g,run_neq_struct,e2,Result.andThen,boolV],.sc _⟩
        · exact hop.elim
      | _ => cases hY
    | _ => cases hX)
def unV (op : UnOp) : SV → SV
  | .sc (.bool m) => .sc (.bool (!m))
  | .sc (.int k m) => .sc (.int k (k.wrap (0 - m)))
  | _ => .any
def unOk (op : UnOp) : SV → Prop
  | .sc (.bool m) => op = .not
  | .sc (.int k m) => op = .neg
  | _ => False
def objAt (st : St) (id : Nat) : List SV := match st[id]? with | some (.cells l) => l | _ => []
def isObj (st : St) (id : Nat) : Prop := match st[id]? with | some (.cells l) => True | _ => False
theorem obj_of {st : St} {id : Nat} (h : isObj st id) : st[id]? = some (.cells (objAt st id)) := by
  unfold isObj at h
  unfold objAt
  split at h
  · rename_i l hl; rw [hl]
  · exact h.elim
def arrOk (st : St) (id ver : Nat) : Prop := match st[id]? with | some (.arr v z cs) => v = ver | _ => False
def arrZ (st : St) (id : Nat) : Nat := match st[id]? with | some (.arr v z cs) => z | _ => 0
def arrC (st : St) (id : Nat) : List SV := match st[id]? with | some (.arr v z cs) => cs | _ => []
theorem arrOk_of {st : St} {id ver : Nat} (h : arrOk st id ver) : st[id]? = some (.arr ver (arrZ st id) (arrC st id)) := by
  unfold arrOk at h
  unfold arrZ arrC
  split at h
  · rename_i v z cs hl; subst h; rw [hl]
  · exact h.elim
def loadV (P : Program) (t : TypeId) (st : St) : SV → SV
  | .ref l => (cellsOf P t l).getD .any
  | .ptr id off => (cellsOf P t ((objAt st id).drop off)).getD .any
  | .aptr id ver off => (cellsOf P t ((arrC st id).drop off)).getD .any
  | _ => .any
def loadOk (P : Program) (t : TypeId) (st : St) : SV → Prop
  | .ref l => (cellsOf P t l).isSome = true
  | .ptr id off => isObj st id ∧ (cellsOf P t ((objAt st id).drop off)).isSome = true
  | .aptr id ver off => arrOk st id ver ∧ (cellsOf P t ((arrC st id).drop off)).isSome = true
  | _ => False
def fieldV (P : Program) (t : TypeId) (f : Nat) : SV → SV
  | .ref l => .ref ((l.drop ((aField P t f).getD (0,0)).1).take ((aField P t f).getD (0,0)).2)
  | .ptr id i => .ptr id (i + ((aField P t f).getD (0,0)).1)
  | .aptr id ver i => .aptr id ver (i + ((aField P t f).getD (0,0)).1)
  | _ => .any
def fieldOk (P : Program) (t : TypeId) (st : St) (f : Nat) : SV → Prop
  | .ref l => (aField P t f).isSome = true ∧ ((aField P t f).getD (0,0)).2 ≠ 0
  | .ptr id i => (aField P t f).isSome = true ∧ ((aField P t f).getD (0,0)).2 ≠ 0
  | .aptr id ver i => arrOk st id ver ∧ (aField P t f).isSome = true ∧ ((aField P t f).getD (0,0)).2 ≠ 0
  | _ => False
def idxV (P : Program) (t : TypeId) (st : St) : SV → SV → SV
  | .slice m z l,.sc (.int k i) => .ref (l.getD i.toNat .any).cells
  | .slc id z off len cap,.sc (.int k i) => .ptr id (off + i.toNat * z)
  | .arr id ver n,.sc (.int k i) => .aptr id ver (i.toNat * arrZ st id)
  | .ptr id off,.sc (.int k i) => .ptr id (off + i.toNat * ((aArr P t).getD (0,0)).2)
  | _,_ => .any
def ixV : SV → SV → SV
  | .agg l,.sc (.int k i) => l.getD i.toNat .any
  | .sc (.string s),.sc (.int k i) => .sc (.int .u8 ((s.get! i.toNat).toNat : Int))
  | _,_ => .any
def ixOk (P : Program) (t : TypeId) : SV → SV → Prop
  | .agg l,.sc (.int k i) => (aArr1 P t).isSome = true ∧ 0 ≤ i ∧ i < (aArr1 P t).getD 0 ∧ (aArr1 P t).getD 0 ≤ l.length
  | .sc (.string s),.sc (.int k i) => P.underlying t = some .string ∧ 0 ≤ i ∧ i < s.size
  | _,_ => False
def idxOk (P : Program) (t : TypeId) (st : St) : SV → SV → Prop
  | .slice m z l,.sc (.int k i) => (aElem P t).bind (aSize P) = some z ∧ 0 ≤ i ∧ i < l.length
  | .slc id z off len cap,.sc (.int k i) => (aElem P t).bind (aSize P) = some z ∧ 0 ≤ i ∧ i < len
  | .arr id ver n,.sc (.int k i) => arrOk st id ver ∧ (aElem P t).bind (aSize P) = some (arrZ st id) ∧ 0 ≤ i ∧ i < n
  | .ptr id off,.sc (.int k i) => (aArr P t).isSome = true ∧ 0 ≤ i ∧ i < ((aArr P t).getD (0,0)).1
  | _,_ => False
def bndI (ρ : Operand → SV) (x : Option Operand) (d : Nat) : Int := (bound ρ x d).getD 0
def cutV (P : Program) (t : TypeId) (ρ : Operand → SV) (lo hi mx : Option Operand) : SV → SV
  | .slice m z l => .slice (if mx.isSome then .full else .imm) z ((l.take (bndI ρ hi l.length).toNat).drop (bndI ρ lo 0).toNat)
  | .sc (.string s) => .sc (.string (s.extract (bndI ρ lo 0).toNat (bndI ρ hi s.size).toNat))
  | .slc id z off len cap => .slc id z (if cap = (bndI ρ lo 0).toNat then off else off + (bndI ρ lo 0).toNat * z) ((bndI ρ hi len).toNat - (bndI ρ lo 0).toNat) (cap - (bndI ρ lo 0).toNat)
  | .arr id ver n => .arr id ver (bndI ρ hi n).toNat
  | .sc (.slice a n c) => .sc (.slice a 0 0)
  | .ptr id off => match lo with
    | none => .slc id ((aArr P t).getD (0,0)).2 off ((aArr P t).getD (0,0)).1 ((aArr P t).getD (0,0)).1
    | some y => .slc id ((aArr P t).getD (0,0)).2 (if ((aArr P t).getD (0,0)).1 = (bndI ρ (some y) 0).toNat then off else off + (bndI ρ (some y) 0).toNat * ((aArr P t).getD (0,0)).2) (((aArr P t).getD (0,0)).1 - (bndI ρ (some y) 0).toNat) (((aArr P t).getD (0,0)).1 - (bndI ρ (some y) 0).toNat)
  | _ => .any
theorem ap_slice_ptrL {o : Oper} {t : TypeId} {x y : Operand} {nl : Int} {id off n z : Nat} {ρ : Operand → SV} {st : St}
    (ho : o.op = .slice t x (some y) none none) (hx : ρ x = .ptr id off) (ha : aArr P t = some (n,z)) (hl : bound ρ (some y) 0 = some nl) (h0 : 0 ≤ nl) (h1 : nl ≤ n) :
    APure P o ρ st (.slc id z (if n = nl.toNat then off else off + nl.toNat * z) (n - nl.toNat) (n - nl.toNat)) := by
  intro σ w a hI hR
  obtain ⟨e,hu,hz⟩ := aArr_of ha
  have hr := hR x (by simp [ho,Op.operands])
  rw [hx] at hr
  generalize hv : a.eval x = v at hr
  cases hr with
  | ptr id off b hk hb =>
    have el := run_bound (P := P) (w := w) (hR y (by simp [ho,Op.operands])) (y := y) (n := nl) hl h0 n h1 .sliceB
    have hb' : (Instr.sliceBounds false n n (some (a.eval y)) none none).run P w = .ok (nl.toNat,n,n) w := by simp [Instr.sliceBounds,el]
    refine ⟨.slice (some (if n = nl.toNat then ⟨b,off,none⟩ else (⟨b,off,none⟩ : Addr).add (nl.toNat * z))) (n - nl.toNat) (n - nl.toNat),?_,?_⟩
    · simp [execOp,ho,hv,Instr.sliceAt,Instr.sureAddr,run_underlying hu,hb',run_sizeOf' hz]
    · by_cases c : n = nl.toNat
      · rw [if_pos c,if_pos c]; exact .slc id z off _ _ b hk hb (Nat.le_refl _)
      · rw [if_neg c,if_neg c,addr_add]; exact .slc id z _ _ _ b hk hb (Nat.le_refl _)
def cutOk (P : Program) (t : TypeId) (st : St) (ρ : Operand → SV) (lo hi mx : Option Operand) : SV → Prop
  | .slice m z l => ((aElem P t).bind (aSize P) = some z ∨ (l = [] ∧ (m = .full ∨ m = .imm) ∧ ((aElem P t).bind (aSize P)).isSome = true)) ∧ (bound ρ lo 0).isSome = true ∧ (bound ρ hi l.length).isSome = true ∧ 0 ≤ bndI ρ lo 0 ∧ bndI ρ lo 0 ≤ bndI ρ hi l.length ∧
      bndI ρ hi l.length ≤ l.length ∧ (mx.isSome = true → hi.isSome = true ∧ bound ρ mx 0 = bound ρ hi l.length)
  | .sc (.string s) => mx = none ∧ P.underlying t = some .string ∧ (bound ρ lo 0).isSome = true ∧ (bound ρ hi s.size).isSome = true ∧ 0 ≤ bndI ρ lo 0 ∧ bndI ρ lo 0 ≤ bndI ρ hi s.size ∧
      bndI ρ hi s.size ≤ s.size
  | .slc id z off len cap => mx = none ∧ (aElem P t).bind (aSize P) = some z ∧ (bound ρ lo 0).isSome = true ∧ (bound ρ hi len).isSome = true ∧ 0 ≤ bndI ρ lo 0 ∧ bndI ρ lo 0 ≤ bndI ρ hi len ∧ bndI ρ hi len ≤ cap
  | .arr id ver n => mx = none ∧ arrOk st id ver ∧ ((aElem P t).bind (aSize P)).isSome = true ∧ bound ρ lo 0 = some 0 ∧ (bound ρ hi n).isSome = true ∧ 0 ≤ bndI ρ hi n ∧ bndI ρ hi n ≤ n
  | .sc (.slice a n c) => mx = none ∧ n = 0 ∧ c = 0 ∧ ((aElem P t).bind (aSize P)).isSome = true ∧ bound ρ lo 0 = some 0 ∧ bound ρ hi 0 = some 0
  | .ptr id off => mx = none ∧ hi = none ∧ (aArr P t).isSome = true ∧ (lo.isSome = true → (bound ρ lo 0).isSome = true ∧ 0 ≤ bndI ρ lo 0 ∧ bndI ρ lo 0 ≤ ((aArr P t).getD (0,0)).1)
  | _ => False
def lenV (st : St) : SV → SV
  | .slice m z l => .sc (.int .i64 l.length)
  | .sc (.slice a n c) => .sc (.int .i64 n)
  | .sc (.string s) => .sc (.int .i64 s.size)
  | .slc id z off len cap => .sc (.int .i64 len)
  | .mp id => .sc (.int .i64 ((mapAt st id).getD []).length)
  | .arr id ver n => .sc (.int .i64 n)
  | _ => .any
def lenOk (P : Program) (t : TypeId) (st : St) : SV → Prop
  | .mp id => (aMap P t).isSome = true ∧ (mapAt st id).isSome = true
  | .slice m z l => (aElem P t).isSome = true
  | .sc (.string s) => P.underlying t = some .string
  | .slc id z off len cap => (aElem P t).isSome = true
  | .arr id ver n => arrOk st id ver ∧ (aElem P t).isSome = true
  | .sc (.slice a n c) => (aElem P t).isSome = true
  | _ => False
def extV (i : Nat) : SV → SV
  | .tuple l => l.getD i .any
  | _ => .any
def extOk (i : Nat) : SV → Prop
  | .tuple l => i < l.length
  | _ => False
def addrOk (st : St) : SV → Prop
  | .ref _ => True
  | .ptr _ _ => True
  | .aptr id ver _ => arrOk st id ver
  | _ => False
theorem ap_nilCheck {o : Oper} {x : Operand} {ρ : Operand → SV} {st : St} (ho : o.op = .nilCheck x) (h : addrOk st (ρ x)) : APure P o ρ st (ρ x) := by
  intro σ w a hI hR
  have hr := hR x (by simp [ho,Op.operands])
  have key : ∀ ad,a.eval x = .pointer (some ad) → (execOp a.eval o).run P w = .ok (.value (a.eval x)) w := fun ad hv => by simp [execOp,ho,hv]
  have hp : ∃ ad,a.eval x = .pointer (some ad) := by
    generalize hv : a.eval x = v at hr
    unfold addrOk at h
    split at h
    · rename_i hx
      rw [hx] at hr
      cases hr with
      | ref cells b o' vals hc hr' => exact ⟨_,rfl⟩
    · rename_i hx
      rw [hx] at hr
      cases hr with
      | ptr id off b hk hb => exact ⟨_,rfl⟩
    · rename_i hx
      rw [hx] at hr
      cases hr with
      | aptr id ver off v0 z cs v hoc hk hv' h' =>
        have := arrOk_of h
        rw [this] at hk; cases hk
        obtain ⟨b,q1,rfl⟩ := h' rfl
        exact ⟨_,rfl⟩
    · exact h.elim
  obtain ⟨ad,hv⟩ := hp
  exact ⟨_,key ad hv,hr⟩
inductive Kd where
  | pure
  | pick (c x y : Operand)
  | eff
def maxV : SV → SV → SV
  | .sc (.int k m),.sc (.int _ n) => .sc (.int k (if n > m then n else m))
  | _,_ => .any
def maxOk : SV → SV → Prop
  | .sc (.int _ _),.sc (.int _ _) => True
  | _,_ => False
theorem ap_max {o : Oper} {x y : Operand} {ts : Array TypeId} {ρ : Operand → SV} {st : St} (ho : o.op = .call { callee := .builtin .max,args := #[x,y],argTypes := ts }) (h : maxOk (ρ x) (ρ y)) : APure P o ρ st (maxV (ρ x) (ρ y)) := by
  intro σ w a hI hR
  have r1 := hR x (by simp [ho,Op.operands,Call.operands])
  have r2 := hR y (by simp [ho,Op.operands,Call.operands])
  unfold maxOk at h
  split at h
  · rename_i k m k' n h1 h2
    rw [h1] at r1
    rw [h2] at r2
    have e1 := rep_sc r1
    have e2 := rep_sc r2
    refine ⟨.int k (if n > m then n else m),by simp [execOp,ho,resolve,invoke,builtin,e1,e2,Builtin.max_,Builtin.max2],?_⟩
    rw [h1,h2]
    exact .sc _
  · exact h.elim
def callKind (b : Callee) : Kd := match b with | .builtin .len => .pure | .builtin .max => .pure | _ => .eff
def kindOf : Op → Kd
  | .move _ | .assign _ | .nilCheck _ | .lookup _ _ _ _ | .convert _ _ _ | .extract _ _ | .binOp _ _ _ _ _ | .unOp _ _ _ | .makeFunc _ _ _ | .load _ _ | .fieldAddr _ _ _ | .field _ _ _ | .indexAddr _ _ _ | .index _ _ _ | .slice _ _ _ _ _ => .pure
  | .pick c x y => .pick c x y
  | .call c => callKind c.callee
  | _ => .eff
def lenCallV (st : St) (ρ : Operand → SV) : List Operand → SV
  | [x] => lenV st (ρ x)
  | _ => .any
def lenCallOk (P : Program) (st : St) (ρ : Operand → SV) : List Operand → List TypeId → Prop
  | [x],[t] => lenOk P t st (ρ x)
  | _,_ => False
def biV (st : St) (ρ : Operand → SV) (b : Callee) (args : List Operand) : SV := match b with
  | .builtin .max => (match args with | [x,y] => maxV (ρ x) (ρ y) | _ => .any)
  | _ => lenCallV st ρ args
def biOk (P : Program) (st : St) (ρ : Operand → SV) (b : Callee) (args : List Operand) (ts : List TypeId) : Prop := match b with
  | .builtin .max => (match args with | [x,y] => maxOk (ρ x) (ρ y) | _ => False)
  | _ => lenCallOk P st ρ args ts
def fldV (P : Program) (t : TypeId) (f : Nat) : SV → SV
  | .agg l => match aFieldT P t f with | some (off,_) => l.getD off .any | none => .any
  | _ => .any
def fldOk (P : Program) (t : TypeId) (f : Nat) : SV → Prop
  | .agg l => match aFieldT P t f with | some (off,u) => aAgg P u = some false ∧ off < l.length | none => False
  | _ => False
def convS (P : Program) (st : St) (u : TypeId) : SV → SV
  | .slc id _ off len _ => .sc (.string (bytesV (((objAt st id).drop off).take len)))
  | x => convV P u x
def convT (P : Program) (t : TypeId) (st : St) (u : TypeId) : SV → Prop
  | .slc id _ off len _ => isObj st id ∧ off + len ≤ (objAt st id).length ∧ (aElem P t).bind (aInt P) = some .u8 ∧ aIsText P u = true ∧ (((objAt st id).drop off).take len).all isByte = true
  | x => convOk P t u x
theorem ap_convS {o : Oper} {t u : TypeId} {x : Operand} {ρ : Operand → SV} {st : St} (ho : o.op = .convert t u x) (h : convT P t st u (ρ x)) : APure P o ρ st (convS P st u (ρ x)) := by
  unfold convT at h
  split at h
  · rename_i id z off len cap hx
    obtain ⟨g1,g2,g3,g4,g5⟩ := h
    intro σ w a hI hR
    have hr := hR x (by simp [ho,Op.operands])
    rw [hx] at hr ⊢
    generalize hv : a.eval x = v at hr
    obtain ⟨e,he1,he2⟩ : ∃ e,aElem P t = some e ∧ aInt P e = some .u8 := by
      cases he : aElem P t with
      | none => rw [he] at g3; cases g3
      | some e => rw [he] at g3; exact ⟨e,rfl,g3⟩
    cases hr with
    | slc id z off len cap b hk hb hc =>
      obtain ⟨b',cs,T,h1,h2,h3,h4,h5⟩ := hI.cells id _ (obj_of g1)
      rw [h1] at hb; cases hb
      generalize hl : objAt st id = l at *
      have hrun := run_loadCells (P := P) (w := w) ⟨b,off,none⟩ len (fun p => cs.getD (off + p) default) (fun p hp => by
        rw [addr_add]
        have : off + p < cs.size := by omega
        simp [World.cell?,h2,Array.getD,this])
      have hby : ∀ p,p < len → cs.getD (off + p) default = .int .u8 (byteI (l.getD (off + p) .any)) := by
        intro p hp
        have hm : l.getD (off + p) .any ∈ (l.drop off).take len := by
          have : ((l.drop off).take len)[p]? = some (l.getD (off + p) .any) := by
            rw [List.getElem?_take,if_pos hp,List.getElem?_drop,List.getD_eq_getElem?_getD,List.getElem?_eq_getElem (by omega)]; rfl
          exact List.mem_of_getElem? this
        have hb := List.all_eq_true.1 g5 _ hm
        have hr := h4 (off + p) (by omega)
        generalize l.getD (off + p) .any = y at hb hr
        unfold isByte at hb
        split at hb
        · exact rep_sc hr
        · cases hb
      have hconv : (Conv.bytesToString (.slice (some ⟨b,off,none⟩) len cap)).run P w = .ok (.string (bytesV ((l.drop off).take len))) w := by
        refine run_bytesToString w ⟨b,off,none⟩ len cap (((l.drop off).take len).map byteI) (hrun.trans ?_)
        congr 2
        apply List.ext_getElem?
        intro i
        by_cases hi : i < len
        · have hp := hby i hi
          have hlt : off + i < l.length := by omega
          have hlt2 : off + i < cs.size := by omega
          rw [List.getD_eq_getElem?_getD,List.getElem?_eq_getElem hlt] at hp
          simp only [Array.getD_eq_getD_getElem?,Array.getElem?_eq_getElem hlt2,Option.getD_some] at hp
          simp [hi,hlt,hlt2,hp]
        · rw [List.getElem?_eq_none (by simp; omega),List.getElem?_eq_none (by simp; omega)]
      refine ⟨.string (bytesV ((l.drop off).take len)),?_,?_⟩
      · have := run_convert_bytes_string w t u e (some ⟨b,off,none⟩) len cap (und_slice he1) (und_int he2) (und_str g4)
        simp [execOp,ho,hv,this,hconv]
      · show Rep st σ w (.sc (.string (bytesV (((objAt st id).drop off).take len)))) _
        rw [hl]
        exact .sc _
  · rename_i hne
    have : convS P st u (ρ x) = convV P u (ρ x) := by
      unfold convS
      split
      · rename_i hx; exact absurd hx (hne _ _ _ _ _)
      · rfl
    rw [this]
    exact ap_conv ho h
def valCore (P : Program) (st : St) (ρ : Operand → SV) : Op → SV
  | .move x => ρ x
  | .assign x => ρ x
  | .nilCheck x => ρ x
  | .extract x i => extV i (ρ x)
  | .binOp op _ x y _ => if nilConst y then nilV op (ρ x) else binV op (ρ x) (ρ y)
  | .unOp op _ x => unV op (ρ x)
  | .convert _ u x => convS P st u (ρ x)
  | .makeFunc fn first captured => .func fn (first.toList.map ρ) (captured.toList.map ρ)
  | .load t x => loadV P t st (ρ x)
  | .fieldAddr t x f => fieldV P t f (ρ x)
  | .field t x f => fldV P t f (ρ x)
  | .indexAddr t x y => idxV P t st (ρ x) (ρ y)
  | .index _ x y => ixV (ρ x) (ρ y)
  | .slice t x lo hi mx => cutV P t ρ lo hi mx (ρ x)
  | .call c => biV st ρ c.callee c.args.toList
  | .lookup t x k ok => match mapGet P t st (ρ x) (ρ k) with | some (y,b) => if ok then .tuple [y,.sc (.bool b)] else y | none => .any
  | _ => .any
def okCore (P : Program) (st : St) (ρ : Operand → SV) : Op → Prop
  | .move x => True
  | .assign x => True
  | .nilCheck x => addrOk st (ρ x)
  | .extract x i => extOk i (ρ x)
  | .binOp op t x y _ => if nilConst y then nilOk P op t y (ρ x) else binOk P op t (ρ x) (ρ y)
  | .unOp op _ x => unOk op (ρ x)
  | .convert t u x => convT P t st u (ρ x)
  | .makeFunc fn first captured => True
  | .load t x => loadOk P t st (ρ x)
  | .fieldAddr t x f => fieldOk P t st f (ρ x)
  | .field t x f => fldOk P t f (ρ x)
  | .indexAddr t x y => idxOk P t st (ρ x) (ρ y)
  | .index t x y => ixOk P t (ρ x) (ρ y)
  | .slice t x lo hi mx => cutOk P t st ρ lo hi mx (ρ x)
  | .call c => biOk P st ρ c.callee c.args.toList c.argTypes.toList
  | .lookup t x k ok => (mapGet P t st (ρ x) (ρ k)).isSome = true
  | _ => False
theorem bind_elem {t : TypeId} {z : Nat} (h : (aElem P t).bind (aSize P) = some z) : ∃ e,aElem P t = some e ∧ aSize P e = some z := by
  cases he : aElem P t with
  | none => simp [he] at h
  | some e => rw [he] at h; exact ⟨e,rfl,h⟩
theorem getD_of {α : Type} {x : Option α} {d : α} (h : x.isSome = true) : x = some (x.getD d) := by cases x <;> first | rfl | cases h
theorem pure_of {o : Oper} {ρ : Operand → SV} {st : St} (hk : kindOf o.op = .pure) (h : okCore P st ρ o.op) : APure P o ρ st (valCore P st ρ o.op) := by
  generalize hop : o.op = op at h hk ⊢
  cases op with
  | move x => exact ap_move hop
  | assign x => exact ap_assign hop
  | nilCheck x => exact ap_nilCheck hop h
  | extract x i =>
    simp only [okCore,valCore] at h ⊢
    unfold extOk at h
    split at h
    · rename_i l hx; simp only [hx,extV]; exact ap_extract hop hx h
    · exact h.elim
  | binOp op t x y u =>
    simp only [okCore,valCore] at h ⊢
    by_cases hn : nilConst y = true
    · rw [if_pos hn] at h ⊢
      exact ap_nil hop h
    rw [if_neg hn] at h ⊢
    unfold binOk at h
    split at h
    · rename_i h1 h2; obtain ⟨hq,h⟩ := h; simp only [h1,h2,binV]
      by_cases hs : op = .shl ∨ op = .shr
      · exact ap_shift hop hs h1 h2 h
      · have hq := kinds_eq hs hq; subst hq; exact ap_binInt hop h1 h2 (binInt_of h)
    · rename_i h1 h2; simp only [h1,h2,binV]; exact ap_binStr hop h1 h2 (binStr_of h)
    · rename_i h1 h2; obtain ⟨he,h⟩ := h; simp only [h1,h2,binV]; exact ap_binBoolE hop he h1 h2 h
    · rename_i h1 h2; obtain ⟨he,h⟩ := h; simp only [h1,h2,binV]; exact ap_binAgg hop he h1 h2 h
    · exact h.elim
  | unOp op t x =>
    simp only [okCore,valCore] at h ⊢
    unfold unOk at h
    split at h
    · rename_i h1; subst h; simp only [h1,unV]; exact ap_not hop h1
    · rename_i h1; subst h; simp only [h1,unV]; exact ap_neg hop h1
    · exact h.elim
  | convert t u x => exact ap_convS hop h
  | lookup t x k ok =>
    simp only [okCore,valCore] at h ⊢
    obtain ⟨⟨y,b⟩,hy⟩ := Option.isSome_iff_exists.1 h
    rw [hy]
    exact ap_lookup hop hy
  | makeFunc fn first captured => exact ap_makeFunc hop
  | load t x =>
    simp only [okCore,valCore] at h ⊢
    unfold loadOk at h
    split at h
    · rename_i h1; simp only [h1,loadV]; exact ap_load_ref hop h1 (getD_of h)
    · rename_i h1; simp only [h1,loadV]; exact ap_load_ptr hop h1 (obj_of h.1) (getD_of h.2)
    · rename_i h1; simp only [h1,loadV]; exact ap_load_aptr hop h1 (arrOk_of h.1) (getD_of h.2)
    · exact h.elim
  | fieldAddr t x f =>
    simp only [okCore,valCore] at h ⊢
    unfold fieldOk at h
    split at h
    · rename_i h1; simp only [h1,fieldV]; exact ap_fieldAddr_ref hop h1 (by rw [getD_of (d := (0,0)) h.1]; rfl) h.2
    · rename_i h1; simp only [h1,fieldV]; exact ap_fieldAddr_ptr hop h1 (by rw [getD_of (d := (0,0)) h.1]; rfl) h.2
    · rename_i h1; simp only [h1,fieldV]; exact ap_fieldAddr_aptr hop h1 (arrOk_of h.1) (by rw [getD_of (d := (0,0)) h.2.1]; rfl) h.2.2
    · exact h.elim
  | field t x f =>
    simp only [okCore,valCore] at h ⊢
    generalize hx : ρ x = X at h ⊢
    cases X with
    | agg l =>
      simp only [fldOk,fldV] at h ⊢
      cases hf : aFieldT P t f with
      | none => rw [hf] at h; exact h.elim
      | some q => rw [hf] at h; exact ap_field hop hx hf h.1 h.2
    | _ => exact h.elim
  | indexAddr t x y =>
    simp only [okCore,valCore] at h ⊢
    unfold idxOk at h
    split at h
    · rename_i h1 h2
      obtain ⟨h3,h4,h5⟩ := h
      obtain ⟨e,h6,h7⟩ := bind_elem h3
      simp only [h1,h2,idxV]
      exact ap_indexAddr hop h1 h2 h6 h7 h4 h5
    · rename_i h1 h2
      obtain ⟨h3,h4,h5⟩ := h
      obtain ⟨e,h6,h7⟩ := bind_elem h3
      simp only [h1,h2,idxV]
      exact ap_indexAddr_slc hop h1 h2 h6 h7 h4 h5
    · rename_i h1 h2
      obtain ⟨h0,h3,h4,h5⟩ := h
      obtain ⟨e,h6,h7⟩ := bind_elem h3
      simp only [h1,h2,idxV]
      exact ap_indexAddr_arr hop h1 h2 (arrOk_of h0) h6 h7 h4 h5
    · rename_i h1 h2
      obtain ⟨h3,h4,h5⟩ := h
      simp only [h1,h2,idxV]
      exact ap_indexAddr_ptr hop h1 h2 (getD_of (d := (0,0)) h3) h4 h5
    · exact h.elim
  | index t x y =>
    simp only [okCore,valCore] at h ⊢
    unfold ixOk at h
    split at h
    · rename_i h1 h2
      obtain ⟨h3,h4,h5,h6⟩ := h
      simp only [h1,h2,ixV]
      exact ap_index_agg hop h1 h2 (getD_of (d := 0) h3) h4 h5 h6
    · rename_i h1 h2
      obtain ⟨h3,h4,h5⟩ := h
      simp only [h1,h2,ixV]
      exact ap_index_str hop h1 h2 h3 h4 h5
    · exact h.elim
  | slice t x lo hi mx =>
    simp only [okCore,valCore] at h ⊢
    unfold cutOk at h
    split at h
    · rename_i h1
      obtain ⟨h3,h4,h5,h6,h7,h8,h9⟩ := h
      simp only [h1,cutV]
      rcases h3 with h3 | ⟨rfl,hm,h3⟩
      rotate_left
      · -- an empty slice: whatever its elements' size is told to be
        obtain ⟨z',h3⟩ := Option.isSome_iff_exists.1 h3
        obtain ⟨e,h10,h11⟩ := bind_elem h3
        rename_i m z _
        have hl : ([] : List SV).length = 0 := rfl
        rw [hl] at h5 h7 h8 h9
        have n0 : bndI ρ lo 0 = 0 := by omega
        have n1 : bndI ρ hi 0 = 0 := by omega
        intro σ w a hI hR
        have key : ∀ ρ' : Operand → SV,(∀ y,y ∈ o.op.operands → Rep st σ w (ρ' y) (a.eval y)) → ρ' x = .slice m z' [] → (∀ y ∈ lo.toList ++ hi.toList ++ mx.toList,ρ' y = ρ y) → ∃ v,(execOp a.eval o).run P w = .ok (.value v) w ∧
            Rep st σ w (.slice (if mx.isSome then .full else .imm) z []) v := by
          intro ρ' hR' hx' hsame
          have b1 : ∀ (q : Option Operand) (d : Nat),(∀ y ∈ q.toList,ρ' y = ρ y) → bound ρ' q d = bound ρ q d := by
            intro q d hq
            cases q with
            | none => rfl
            | some y => simp only [bound,hq y (by simp)]
          have e1 := b1 lo 0 (fun y hy => hsame y (by simp at hy ⊢; simp [hy]))
          have e2 := b1 hi 0 (fun y hy => hsame y (by simp at hy ⊢; simp [hy]))
          have e3 := b1 mx 0 (fun y hy => hsame y (by simp at hy ⊢; simp [hy]))
          have f1 : bound ρ' lo 0 = some (0 : Int) := by rw [e1,getD_of (d := 0) h4]; exact congrArg some n0
          have f2 : bound ρ' hi 0 = some (0 : Int) := by rw [e2,getD_of (d := 0) h5]; exact congrArg some n1
          cases mx with
          | none =>
            obtain ⟨v,k1,k2⟩ := ap_slice (P := P) (st := st) hop hx' h10 h11 f1 f2 (Int.le_refl _) (Int.le_refl _) (by simp) σ w a hI hR'
            exact ⟨v,k1,rep_nil_z k2 (.inr rfl)⟩
          | some mx =>
            obtain ⟨h12,h13⟩ := h9 rfl
            cases hi with
            | none => cases h12
            | some hi =>
              obtain ⟨v,k1,k2⟩ := ap_slice3 (P := P) (st := st) hop hx' h10 h11 f1 f2 (by rw [e3,h13,← e2]; exact f2) (Int.le_refl _) (Int.le_refl _) (by simp) σ w a hI hR'
              exact ⟨v,k1,rep_nil_z k2 (.inl rfl)⟩
        have hxr := hR x (by simp [hop,Op.operands])
        rw [h1] at hxr
        have hconf : ∀ y ∈ lo.toList ++ hi.toList ++ mx.toList,y ≠ x := by
          have nb : ∀ (q : Option Operand) (d : Nat),(bound ρ q d).isSome = true → ∀ y ∈ q.toList,y ≠ x := by
            intro q d hq y hy e
            cases q with
            | none => simp at hy
            | some u =>
              simp at hy
              subst hy; subst e
              simp [bound,h1] at hq
          intro y hy
          simp only [List.mem_append] at hy
          rcases hy with (hy | hy) | hy
          · exact nb lo 0 h4 y hy
          · exact nb hi _ h5 y hy
          · cases mx with
            | none => simp at hy
            | some q =>
              obtain ⟨_,h13⟩ := h9 rfl
              exact nb (some q) 0 (by rw [h13]; exact h5) y hy
        have key2 := key (fun y => open Classical in if y = x then .slice m z' [] else ρ y) (fun y hy => by
          by_cases e : y = x
          · rw [if_pos e,e]; exact rep_nil_z hxr (by exact hm)
          · rw [if_neg e]; exact hR y hy) (if_pos rfl) (fun y hy => if_neg (hconf y hy))
        simpa [n0,n1] using key2
      obtain ⟨e,h10,h11⟩ := bind_elem h3
      cases mx with
      | none => exact ap_slice hop h1 h10 h11 (getD_of h4) (getD_of h5) h6 h7 h8
      | some mx =>
        obtain ⟨h12,h13⟩ := h9 rfl
        cases hi with
        | none => cases h12
        | some hi => exact ap_slice3 hop h1 h10 h11 (getD_of h4) (by simpa [bound,bndI] using getD_of (d := 0) h5) (by rw [h13]; simpa [bound,bndI] using getD_of (d := 0) h5) h6 h7 h8
    · rename_i h1
      obtain ⟨rfl,h3,h4,h5,h6,h7,h8⟩ := h
      simp only [h1,cutV]
      exact ap_slice_str hop h1 h3 (getD_of h4) (getD_of h5) h6 h7 h8
    · rename_i h1
      obtain ⟨rfl,h3,h4,h5,h6,h7,h8⟩ := h
      obtain ⟨e,h10,h11⟩ := bind_elem h3
      simp only [h1,cutV]
      exact ap_slice_slc hop h1 h10 h11 (getD_of h4) (getD_of h5) h6 h7 h8
    · rename_i h1
      obtain ⟨rfl,h2,h3,h4,h5,h6,h7⟩ := h
      obtain ⟨z',h3⟩ := Option.isSome_iff_exists.1 h3
      obtain ⟨e,h10,h11⟩ := bind_elem h3
      simp only [h1,cutV]
      exact ap_slice_arr hop h1 (arrOk_of h2) h10 h11 h4 (getD_of h5) h6 h7
    · rename_i h1
      obtain ⟨rfl,rfl,rfl,h3,h4,h5⟩ := h
      obtain ⟨z',h3⟩ := Option.isSome_iff_exists.1 h3
      obtain ⟨e,h10,h11⟩ := bind_elem h3
      simp only [h1,cutV]
      exact ap_slice_sc hop h1 h10 h11 h4 h5
    · rename_i h1
      obtain ⟨rfl,rfl,h2,h3⟩ := h
      obtain ⟨⟨n,z⟩,h2⟩ := Option.isSome_iff_exists.1 h2
      cases lo with
      | none =>
        simp only [h1,cutV,h2,Option.getD_some]
        exact ap_slice_ptr hop h1 h2
      | some y =>
        obtain ⟨h4,h5,h6⟩ := h3 rfl
        obtain ⟨nl,h4⟩ := Option.isSome_iff_exists.1 h4
        rw [h2] at h6
        simp only [bndI,h4,Option.getD_some] at h5 h6
        simp only [h1,cutV,h2,Option.getD_some,bndI,h4]
        exact ap_slice_ptrL hop h1 h2 h4 h5 h6
    · exact h.elim
  | call c =>
    simp only [kindOf,callKind] at hk
    split at hk
    · rename_i hc
      obtain ⟨callee,⟨args⟩,⟨ts⟩⟩ := c
      simp only at hc
      subst hc
      simp only [okCore,valCore,biOk,biV,lenCallOk,lenCallV] at h ⊢
      split at h
      · unfold lenOk at h
        split at h
        · rename_i h3
          obtain ⟨es,hes⟩ := Option.isSome_iff_exists.1 h.2
          simp only [h3,lenV,hes,Option.getD_some]
          exact ap_len_map hop h3 h.1 hes
        · rename_i h3; simp only [h3,lenV]; exact ap_len_slice hop h3 (getD_of (d := 0) h)
        · rename_i h3; simp only [h3,lenV]; exact ap_len_str hop h3 h
        · rename_i h3; simp only [h3,lenV]; exact ap_len_slc hop h3 (getD_of (d := 0) h)
        · rename_i h3; simp only [h3,lenV]; exact ap_len_arr hop h3 (arrOk_of h.1) (getD_of (d := 0) h.2)
        · rename_i h3; simp only [h3,lenV]; exact ap_len_sc hop h3 (getD_of (d := 0) h)
        · exact h.elim
      · exact h.elim
    · rename_i hc
      obtain ⟨callee,⟨args⟩,⟨ts⟩⟩ := c
      simp only at hc
      subst hc
      simp only [okCore,valCore,biOk,biV] at h ⊢
      split at h
      · exact ap_max hop h
      · exact h.elim
    · cases hk
  | _ => first | cases hk | exact h.elim
def pickB (t : Bool) : SV → SV → SV
  | .sc (.bool a),.sc (.bool b) => .sc (.bool (bif t then a else b))
  | x,y => if t then x else y
def pickV : SV → SV → SV → SV
  | .sc (.bool t),x,y => pickB t (strip x) (strip y)
  | _,_,_ => .any
def gIf (p : Prop) : SV → Prop
  | .gd g _ => p → g = true
  | _ => True
def pickOk : SV → SV → SV → Prop
  | .sc (.bool t),x,y => gIf (t = true) x ∧ gIf (t = false) y
  | _,_,_ => False
theorem rep_strip {st : St} {σ : Sig} {w : World} {x : SV} {v : Value} {p : Prop} (h : Rep st σ w x v) (hg : gIf p x) (hp : p) : Rep st σ w (strip x) v := by
  cases x with
  | gd g y => cases h with | gd g x v h h' => exact h (hg hp)
  | _ => exact h
theorem rep_pickB {st : St} {σ : Sig} {w : World} {t : Bool} {x y : SV} {v : Value} (h : Rep st σ w (if t then x else y) v) : Rep st σ w (pickB t x y) v := by
  unfold pickB
  split
  · cases t <;> exact h
  · exact h
theorem ap_pick' {o : Oper} {c x y : Operand} {ρ : Operand → SV} {st : St} (ho : o.op = .pick c x y) (h : pickOk (ρ c) (ρ x) (ρ y)) : APure P o ρ st (pickV (ρ c) (ρ x) (ρ y)) := by
  intro σ w a hI hR
  have rc := hR c (by simp [ho,Op.operands])
  have rx := hR x (by simp [ho,Op.operands])
  have ry := hR y (by simp [ho,Op.operands])
  unfold pickOk at h
  split at h
  · rename_i t hc
    rw [hc] at rc
    have e := rep_sc rc
    refine ⟨if t then a.eval x else a.eval y,by cases t <;> simp [execOp,ho,e,asBool],?_⟩
    rw [hc]
    refine rep_pickB ?_
    cases t
    · exact rep_strip ry h.2 rfl
    · exact rep_strip rx h.1 rfl
  · exact h.elim
def gVal (want : Bool) : SV → Bool
  | .sc (.bool b) => b == want
  | .gd g (.sc (.bool b)) => g && (b == want)
  | _ => false
def gValOk : SV → Prop
  | .sc (.bool b) => True
  | .gd g (.sc (.bool b)) => True
  | .gd false _ => True
  | _ => False
theorem gVal_f (c : Bool) (x : SV) : gVal c (.gd false x) = false := by
  unfold gVal
  split
  · rename_i h; cases h
  · rename_i h; cases h; rfl
  · rfl
theorem gValOk_f (x : SV) : gValOk (.gd false x) = True := by
  unfold gValOk
  split
  · rfl
  · rfl
  · rfl
  · rename_i h1 h2 h3; exact absurd rfl (h3 x)
def gAll (p : Prop) (env : List SV) : List Operand → Prop
  | [] => True
  | y :: r => gIf p (ev env y) ∧ gAll p env r
theorem gAll_mem {p : Prop} {env : List SV} : ∀ (l : List Operand),gAll p env l → ∀ y ∈ l,gIf p (ev env y)
  | [],_,y,h => by cases h
  | x :: r,h,y,hy => by
    cases hy with
    | head => exact h.1
    | tail _ hm => exact gAll_mem r h.2 y hm
theorem yield_gVal {ops : Array Oper} {env : List SV} {j d : Nat} {want : Bool} {st : St} {σ : Sig} {w : World} {t : Array Value} (hd : (ops[j]?).bind (·.dst) = some d) (h : gValOk (env.getD d .any))
    (hR : RepEnv st σ w env t) : (yielded ops t j == some want) = gVal want (env.getD d .any) := by
  have hr := hR.get d
  unfold gValOk at h
  have key : ∀ b,t.getD d undef = .bool b → yielded ops t j = some b := by
    intro b hv
    have hlt : d < t.size := by
      rcases Nat.lt_or_ge d t.size with g | g
      · exact g
      · simp [Array.getD,Nat.not_lt.2 g,undef] at hv
    have : t[d]? = some (.bool b) := by simp [Array.getD,hlt] at hv; simp [hlt,hv]
    simp [yielded,hd,this]
  split at h
  · rename_i b hb
    rw [hb] at hr ⊢
    rw [key b (rep_sc hr)]
    rfl
  · rename_i g b hb
    rw [hb] at hr ⊢
    cases hr with
    | gd g x v h1 h2 =>
      cases g with
      | true =>
        rw [key b (rep_sc (h1 rfl))]
        simp [gVal]
      | false =>
        have hu := h2 rfl
        have : yielded ops t j = none := by
          unfold yielded
          rw [hd]
          simp only [Option.bind_some]
          cases ht : t[d]? with
          | none => rfl
          | some v =>
            have : t.getD d undef = v := by rw [Array.getD_eq_getD_getElem?,ht]; rfl
            rw [this] at hu
            subst hu
            rfl
        rw [this]
        simp [gVal]
  · rename_i x hn hb
    rw [hb] at hr ⊢
    rw [gVal_f]
    cases hr with
    | gd g x v h1 h2 =>
      have hu := h2 rfl
      have : yielded ops t j = none := by
        unfold yielded
        rw [hd]
        simp only [Option.bind_some]
        cases ht : t[d]? with
        | none => rfl
        | some v =>
          have : t.getD d undef = v := by rw [Array.getD_eq_getD_getElem?,ht]; rfl
          rw [this] at hu
          subst hu
          rfl
      rw [this]
      rfl
  · exact h.elim
def opTmps : List Operand → List Nat
  | [] => []
  | .tmp t :: r => t :: opTmps r
  | _ :: r => opTmps r
theorem mem_opTmps {t : Nat} : ∀ {l : List Operand},t ∈ opTmps l → Operand.tmp t ∈ l
  | .tmp d :: r,h => by
    simp only [opTmps,List.mem_cons] at h
    rcases h with rfl | h
    · exact List.mem_cons_self
    · exact List.mem_cons_of_mem _ (mem_opTmps h)
  | .const v :: r,h => List.mem_cons_of_mem _ (mem_opTmps (l := r) h)
  | .global v :: r,h => List.mem_cons_of_mem _ (mem_opTmps (l := r) h)
  | .func v :: r,h => List.mem_cons_of_mem _ (mem_opTmps (l := r) h)
def stripAt (s : List Nat) : Nat → List SV → List SV
  | _,[] => []
  | k,x :: r => (if s.contains k then strip x else x) :: stripAt s (k + 1) r
theorem length_stripAt (s : List Nat) : ∀ (k : Nat) (l : List SV),(stripAt s k l).length = l.length
  | _,[] => rfl
  | k,x :: r => by simp [stripAt,length_stripAt s (k + 1) r]
theorem getD_stripAt (s : List Nat) : ∀ (k : Nat) (l : List SV) (i : Nat),i < l.length → (stripAt s k l).getD i .any = if s.contains (k + i) then strip (l.getD i .any) else l.getD i .any
  | k,x :: r,0,h => rfl
  | k,x :: r,i + 1,h => by
    have := getD_stripAt s (k + 1) r i (by simpa using h)
    simp only [stripAt,List.getD_cons_succ,this,show k + 1 + i = k + (i + 1) by omega]
theorem rep_stripAt {p : Prop} (hp : p) {st : St} {σ : Sig} {w : World} {t : Array Value} {l : List Operand} {env : List SV} (h : RepEnv st σ w env t) (hg : gAll p env l) :
    RepEnv st σ w (stripAt (opTmps l) 0 env) t := by
  refine ⟨by rw [length_stripAt]; exact h.1,fun i hi => ?_⟩
  rw [length_stripAt] at hi
  rw [getD_stripAt _ _ _ _ hi,Nat.zero_add]
  split
  · rename_i hc
    have hm := mem_opTmps (l := l) (t := i) (by simpa using hc)
    exact rep_strip (h.2 i hi) (gAll_mem l hg _ hm) hp
  · exact h.2 i hi
def storeSpec (P : Program) (t : TypeId) (st : St) (y : SV) : SV → (St → Prop) → Prop
  | .ptr id off,K => isObj st id ∧ aSize P t = some y.cells.length ∧ shapeOk y = true ∧ elemOk y = true ∧ off + y.cells.length ≤ (objAt st id).length ∧
      K (st.set id (.cells (splice (objAt st id) off y.cells)))
  | .aptr id ver off,K => arrOk st id ver ∧ aSize P t = some y.cells.length ∧ shapeOk y = true ∧ elemOk y = true ∧ off + y.cells.length ≤ (arrC st id).length ∧
      K (st.set id (.arr ver (arrZ st id) (splice (arrC st id) off y.cells)))
  | _,_ => False
structure AppOk (P : Program) (t tx : TypeId) (z n : Nat) : Prop where
  ok : n < 4611686018427387904 ∧ ∃ e ex zs by',aElem P t = some e ∧ aElem P tx = some ex ∧ aSize P e = some z ∧ aZero P e = some zs ∧ zs.length = z ∧ aBytes P e = some by' ∧ (2 * n + 192) * by' ≤ 281474976710656
def tokAt (st : St) (id ver : Nat) : Prop := st[id]? = some (.tok ver)
def appSpec (P : Program) (t tx : TypeId) (st : St) : SV → SV → (SV → St → Prop) → Prop
  | .slice .full z0 l,.slice m z xs,K => (l = [] ∨ z0 = z) ∧ AppOk P t tx z (l.length + xs.length) ∧ K (.slice (.own st.length 0) z (l ++ xs)) (st ++ [.tok 0])
  | .slice (.own id ver) z l,.slice m z1 xs,K => (xs = [] ∨ z1 = z) ∧ tokAt st id ver ∧ AppOk P t tx z (l.length + xs.length) ∧
      (∀ s ∈ xs,elemOk s = true) ∧ K (.slice (.own id (ver + 1)) z (l ++ xs)) (st.set id (.tok (ver + 1)))
  | .arr id ver n,.slice m z1 xs,K => (xs = [] ∨ z1 = arrZ st id) ∧ arrOk st id ver ∧ AppOk P t tx (arrZ st id) (n + xs.length) ∧
      (∀ s ∈ xs,elemOk s = true) ∧ K (.arr id (ver + 1) (n + xs.length)) (st.set id (.arr (ver + 1) (arrZ st id) ((arrC st id).take (n * arrZ st id) ++ xs.flatMap SV.cells)))
  | _,_,_ => False
def callSpec (P : Program) (args : List SV) (st : St) : SV → (SV → St → Prop) → Prop
  | .func (.func f) first captured,K => aBody P f = true ∧ ACalls P f (first ++ args ++ captured) K st
  | _,_ => False
def zerosOf (P : Program) (t : TypeId) : List SV := ((aElem P t).bind (aZero P)).getD []
def appObSpec (P : Program) (t tx : TypeId) (st : St) : SV → SV → (SV → St → Prop) → Prop
  | .slice .full z0 [],.slice m z xs,K => xs ≠ [] ∧ AppOk P t tx z xs.length ∧ ∀ cap,xs.length ≤ cap → K (.slc st.length z 0 xs.length cap) (st ++ [.cells (xs.flatMap SV.cells ++ zeroL (zerosOf P t) (cap - xs.length))])
  | _,_,_ => False
def NumOk (P : Program) (t tx : TypeId) (n z : Nat) (zs : List SV) : Prop := ∃ e by' k2,aElem P t = some e ∧ P.underlying tx = some (.int k2) ∧ aSize P e = some z ∧ aZero P e = some zs ∧ zs.length = z ∧ aBytes P e = some by' ∧
  0 < n ∧ 0 < z ∧ (2 * n + 192) * by' ≤ 281474976710656 ∧ n < 4611686018427387904
def appMkSpec (P : Program) (t tx : TypeId) (st : St) (x y : SV) (K : SV → St → Prop) : Prop :=
  match x,y with
  | .slice .full z0 [],.slice m z xs => AppOk P t tx z xs.length ∧ (∀ s ∈ xs,elemOk s = true) ∧ K (.arr st.length 1 xs.length) (st ++ [.arr 1 z (xs.flatMap SV.cells)])
  | .slice .full z0 [],.arr id ver n => arrOk st id ver ∧ (chunksOf (arrZ st id) n (arrC st id)).length = n ∧ (chunksOf (arrZ st id) n (arrC st id)).flatMap SV.cells = (arrC st id).take (n * arrZ st id) ∧
      (∀ x ∈ chunksOf (arrZ st id) n (arrC st id),x.cells.length = arrZ st id ∧ elemOk x = true) ∧ AppOk P t tx (arrZ st id) n ∧ K (.arr st.length 1 n) (st ++ [.arr 1 (arrZ st id) ((arrC st id).take (n * arrZ st id))])
  | .slice .full z0 [],.sc (.int k m) => 0 ≤ m ∧ NumOk P t tx m.toNat (((aElem P t).bind (aSize P)).getD 0) (zerosOf P t) ∧ K (.arr st.length 1 m.toNat) (st ++ [.arr 1 (((aElem P t).bind (aSize P)).getD 0) (zeroL (zerosOf P t) m.toNat)])
  | .sc (.slice a n c),.sc (.int k m) => n = 0 ∧ c = 0 ∧ 0 ≤ m ∧ NumOk P t tx m.toNat (((aElem P t).bind (aSize P)).getD 0) (zerosOf P t) ∧ K (.arr st.length 1 m.toNat) (st ++ [.arr 1 (((aElem P t).bind (aSize P)).getD 0) (zeroL (zerosOf P t) m.toNat)])
  | x,y => appSpec P t tx st x y K
def copySpec (P : Program) (t : TypeId) (st : St) : SV → SV → (SV → St → Prop) → Prop
  | .slc id z off len cap,.slice m z' ys,K => z = z' ∧ isObj st id ∧ (aElem P t).bind (aSize P) = some z ∧ off + (min ys.length len) * z ≤ (objAt st id).length ∧ (∀ s ∈ ys,elemOk s = true) ∧
      K (.sc (.int .i64 (min ys.length len : Nat))) (st.set id (.cells (splice (objAt st id) off ((ys.take (min ys.length len)).flatMap SV.cells))))
  | .slc id z off len cap,.slc id' z' off' len' cap',K => z = z' ∧ isObj st id ∧ isObj st id' ∧ (aElem P t).bind (aSize P) = some z ∧ off + (min len' len) * z ≤ (objAt st id).length ∧
      off' + (min len' len) * z ≤ (objAt st id').length ∧ (((objAt st id').drop off').take ((min len' len) * z)).all cellOk = true ∧
      K (.sc (.int .i64 (min len' len : Nat))) (st.set id (.cells (splice (objAt st id) off (((objAt st id').drop off').take ((min len' len) * z)))))
  | _,_,_ => False
def clearSpec (P : Program) (t : TypeId) (st : St) : SV → (SV → St → Prop) → Prop
  | .slc id z off len cap,K => isObj st id ∧ (aElem P t).isSome = true ∧ ((aElem P t).bind (aZero P)).isSome = true ∧ off + len * (zerosOf P t).length ≤ (objAt st id).length ∧ (zerosOf P t).all cellOk = true ∧
      K .any (if len = 0 then st else st.set id (.cells (splice (objAt st id) off (zeroL (zerosOf P t) len))))
  | _,_ => False
def capSpec (P : Program) (t : TypeId) (st : St) : SV → (SV → St → Prop) → Prop
  | .slice .full z l,K => (aElem P t).isSome = true ∧ K (.sc (.int .i64 l.length)) st
  | .sc (.slice a n c),K => (aElem P t).isSome = true ∧ K (.sc (.int .i64 c)) st
  | _,_ => False
def makeSpec (P : Program) (t : TypeId) (st : St) : SV → SV → (SV → St → Prop) → Prop
  | .sc (.int k n),.sc (.int k' m),K => ((aElem P t).bind (aSize P)).isSome = true ∧ ((aElem P t).bind (aZero P)).map List.length = (aElem P t).bind (aSize P) ∧ ((aElem P t).bind (aBytes P)).isSome = true ∧
      0 ≤ n ∧ n ≤ m ∧ m ≤ 4611686018427387904 ∧ m.toNat * ((aElem P t).bind (aBytes P)).getD 0 ≤ 281474976710656 ∧
      K (.slc st.length (((aElem P t).bind (aSize P)).getD 0) 0 n.toNat m.toNat) (st ++ [.cells (zeroL (zerosOf P t) m.toNat)])
  | _,_,_ => False
def biSpec (P : Program) (o : Oper) (mk ob : Bool) (env : List SV) (st : St) (K : SV → St → Prop) : Builtin → List Operand → List TypeId → Prop
  | .append,[x,y],[t,tx] => if mk then appMkSpec P t tx st (ev env x) (ev env y) K else if ob then appObSpec P t tx st (ev env x) (ev env y) K else appSpec P t tx st (ev env x) (ev env y) K
  | .copy,[x,y],[t,_] => copySpec P t st (ev env x) (ev env y) K
  | .clear,[x],[t] => clearSpec P t st (ev env x) K
  | .cap,[x],[t] => capSpec P t st (ev env x) K
  | _,_,_ => AOp P o K env st
def calleeSpec (P : Program) (o : Oper) (mk ob : Bool) (env : List SV) (st : St) (K : SV → St → Prop) (args : List Operand) (ts : List TypeId) : Callee → Prop
  | .value f => callSpec P (args.map (ev env)) st (ev env f) K
  | .builtin b => biSpec P o mk ob env st K b args ts
  | .invoke _ _ => AOp P o K env st
theorem zeros_of {t e : TypeId} {zs : List SV} (h1 : aElem P t = some e) (h2 : aZero P e = some zs) : zerosOf P t = zs := by simp [zerosOf,h1,h2]
def putSpec (P : Program) (t : TypeId) (st : St) (m k v : SV) (K : St → Prop) : Prop :=
  match mapOk P t st m k with
  | some (id,es,kv,_) => K (st.set id (.map (mapPut es kv v)))
  | none => False
def entrySpec (P : Program) (t : TypeId) (st : St) (m k : SV) (K : SV → St → Prop) : Prop :=
  match mapOk P t st m k with
  | some (id,es,kv,e) => match zeroSV P e with
    | some z => match keyIdx es kv with
      | some j => K (.tuple [(es.getD j (default,.any)).2,.stamp id j]) st
      | none => K (.tuple [z,.stamp id es.length]) (st.set id (.map (es ++ [(kv,z)])))
    | none => False
  | none => False
def stampSpec (st : St) (v : SV) : SV → SV → (St → Prop) → Prop
  | .mp id,.stamp id' j,K => id' = id ∧ match mapAt st id with
    | some es => j < es.length ∧ K (st.set id (.map (es.set j ((es.getD j (default,.any)).1,v))))
    | none => False
  | _,_,_ => False
def effSpec (P : Program) (M : List Nat) (o : Oper) (env : List SV) (st : St) (K : SV → St → Prop) : Prop :=
  match o.op with
  | .store t x y => o.dst = none ∧ storeSpec P t st (ev env y) (ev env x) (K .any ·)
  | .box t x => shapeOk (ev env x) = true ∧ if M.contains (o.dst.getD 0) then K (.ptr st.length 0) (st ++ [.cells (ev env x).cells]) else K (.ref (ev env x).cells) st
  | .alloc t => (aZero P t).isSome = true ∧ K (.ptr st.length 0) (st ++ [.cells ((aZero P t).getD [])])
  | .build t parts => aFieldsOk P t = true ∧ (aBuild P t (parts.toList.map fun p => (p.1,ev env p.2))).isSome = true ∧ K (.agg ((aBuild P t (parts.toList.map fun p => (p.1,ev env p.2))).getD [])) st
  | .buildSlice t len parts => ((aElem P t).bind (aSize P)).isSome = true ∧ ((aElem P t).bind (aZero P)).map List.length = (aElem P t).bind (aSize P) ∧ parts.toList.map (·.1) = List.range len ∧
      len * ((aElem P t).bind (aSize P)).getD 0 ≤ 16777216 ∧ (∀ p ∈ parts.toList,shapeOk (ev env p.2) = true ∧ (ev env p.2).cells.length = ((aElem P t).bind (aSize P)).getD 0) ∧
      if M.contains (o.dst.getD 0 + 1000000) then K (.arr st.length 1 len) (st ++ [.arr 1 (((aElem P t).bind (aSize P)).getD 0) ((parts.toList.map fun p => norm (ev env p.2)).flatMap SV.cells)]) else
        K (.slice .full (((aElem P t).bind (aSize P)).getD 0) (parts.toList.map fun p => norm (ev env p.2))) st
  | .makeSlice t x y => makeSpec P t st (ev env x) (ev env y) K
  | .makeMap t none => K (.mp st.length) (st ++ [.map []])
  | .mapUpdate t m k v => o.dst = none ∧ putSpec P t st (ev env m) (ev env k) (ev env v) (K .any ·)
  | .insert t m k v => o.dst = none ∧ putSpec P t st (ev env m) (ev env k) (ev env v) (K .any ·)
  | .mapEntry t m k => entrySpec P t st (ev env m) (ev env k) K
  | .entryStore t m s v => o.dst = none ∧ stampSpec st (ev env v) (ev env m) (ev env s) (K .any ·)
  | .call c => calleeSpec P o (M.contains (o.dst.getD 0 + 1000000)) (M.contains (o.dst.getD 0)) env st K c.args.toList c.argTypes.toList c.callee
  | _ => AOp P o K env st
theorem aop_eff {M : List Nat} {o : Oper} {env : List SV} {st : St} {K : SV → St → Prop} (h : effSpec P M o env st K) : AOp P o K env st := by
  unfold effSpec at h
  split at h
  case h_1 t x y ho =>
    obtain ⟨hd,h⟩ := h
    unfold storeSpec at h
    split at h
    · rename_i h1; obtain ⟨h2,h3,h4,h5,h6,h7⟩ := h; exact aop_store ho hd h1 (obj_of h2) h3 h4 rfl h5 h6 h7
    · rename_i h1; obtain ⟨h2,h3,h4,h5,h6,h7⟩ := h; exact aop_store_arr ho hd h1 (arrOk_of h2) h3 h4 rfl h5 h6 h7
    · exact h.elim
  case h_2 t x ho =>
    obtain ⟨h1,h2⟩ := h
    split at h2
    · exact aop_box_ob ho h1 h2
    · exact aop_box ho h1 h2
  case h_3 t ho => exact aop_alloc ho (getD_of h.1) h.2
  case h_4 t parts ho => exact aop_build ho h.1 (getD_of h.2.1) h.2.2
  case h_5 t len parts ho =>
    obtain ⟨h1,h2,h3,h4,h5,h6⟩ := h
    have h1 := getD_of (d := 0) h1
    generalize (((aElem P t).bind (aSize P)).getD 0) = z at h1 h4 h5 h6
    rw [h1] at h2
    obtain ⟨e,h7,h8⟩ := bind_elem h1
    rw [h7] at h2
    simp only [Option.bind_some] at h2
    cases hz : aZero P e with
    | none => simp [hz] at h2
    | some zs =>
      rw [hz] at h2
      split at h6
      · exact aop_buildSlice_arr ho h7 h8 hz h3 h4 h5 (by rw [List.flatMap_map] at h6; exact h6)
      · exact aop_buildSlice ho h7 h8 hz (by simpa using h2) h3 h4 h5 h6
  case h_6 t x y ho =>
    unfold makeSpec at h
    split at h
    · rename_i h1 h2
      obtain ⟨g1,g2,g3,g4,g5,g6,g7,g8⟩ := h
      have g1 := getD_of (d := 0) g1
      have g3 := getD_of (d := 0) g3
      generalize (((aElem P t).bind (aSize P)).getD 0) = z at g1 g8
      generalize (((aElem P t).bind (aBytes P)).getD 0) = by' at g3 g7
      rw [g1] at g2
      obtain ⟨e,g9,g10⟩ := bind_elem g1
      rw [g9] at g2 g3
      simp only [Option.bind_some] at g2 g3
      cases hz : aZero P e with
      | none => simp [hz] at g2
      | some zs =>
        rw [hz] at g2
        rw [zeros_of g9 hz] at g8
        exact aop_makeSlice ho h1 h2 g9 g10 hz (by simpa using g2) g3 g4 g5 g6 g7 g8
    · exact h.elim
  case h_7 t ho => exact aop_makeMap ho h
  case h_8 t m k v ho =>
    obtain ⟨hd,h⟩ := h
    unfold putSpec at h
    split at h
    · rename_i hm; exact aop_mapUpdate (.inl ho) hd hm h
    · exact h.elim
  case h_9 t m k v ho =>
    obtain ⟨hd,h⟩ := h
    unfold putSpec at h
    split at h
    · rename_i hm; exact aop_mapUpdate (.inr ho) hd hm h
    · exact h.elim
  case h_10 t m k ho =>
    unfold entrySpec at h
    split at h
    · rename_i hm
      split at h
      · rename_i hz
        split at h
        · rename_i j hj
          exact aop_mapEntry ho hm hz (fun j' hj' => by rw [hj] at hj'; cases hj'; exact h) (fun hn => by rw [hj] at hn; cases hn)
        · rename_i hj
          exact aop_mapEntry ho hm hz (fun j' hj' => by rw [hj] at hj'; cases hj') (fun _ => h)
      · exact h.elim
    · exact h.elim
  case h_11 t m s v ho =>
    obtain ⟨hd,h⟩ := h
    unfold stampSpec at h
    split at h
    · rename_i h1 h2
      obtain ⟨rfl,h⟩ := h
      split at h
      · rename_i es hes; exact aop_entryStore ho hd h1 h2 hes h.1 h.2
      · exact h.elim
    · exact h.elim
  case h_12 c ho =>
    obtain ⟨callee,⟨args⟩,⟨ts⟩⟩ := c
    unfold calleeSpec at h
    simp only at h
    split at h
    · unfold callSpec at h
      split at h
      · rename_i h1; exact aop_call ho h1 h.1 h.2
      · exact h.elim
    · unfold biSpec at h
      split at h
      · have happ : ∀ {t tx : TypeId} {x y : Operand},o.op = .call { callee := .builtin .append,args := #[x,y],argTypes := #[t,tx] } → appSpec P t tx st (ev env x) (ev env y) K → AOp P o K env st := by
          intro t tx x y ho h
          unfold appSpec at h
          split at h
          · rename_i h1 h2 _
            obtain ⟨h3,⟨h11,e,ex,zs,by',h4,h5,h6,h7,h8,h9,h10⟩,h12⟩ := h
            exact aop_append_full ho h1 h2 h3 (.inr rfl) h4 h5 h6 h7 h8 h9 h10 h11 h12
          · rename_i h1 h2 _
            obtain ⟨h3,h3',⟨h11,e,ex,zs,by',h4,h5,h6,h7,h8,h9,h10⟩,h12,h13⟩ := h
            exact aop_append_own ho h1 h2 h3 h3' h4 h5 h6 h7 h8 h9 h10 h11 h12 h13
          · rename_i h1 h2 _
            obtain ⟨h3,h3',⟨h11,e,ex,zs,by',h4,h5,h6,h7,h8,h9,h10⟩,h12,h13⟩ := h
            exact aop_append_arr ho h1 h2 h3 (arrOk_of h3') h4 h5 h6 h7 h8 h9 h10 h11 h12 h13
          · exact h.elim
        split at h
        · unfold appMkSpec at h
          split at h
          · rename_i h1 h2
            obtain ⟨⟨h11,e,ex,zs,by',h4,h5,h6,h7,h8,h9,h10⟩,h12,h13⟩ := h
            exact aop_append_mk ho h1 h2 (.inr rfl) h4 h5 h6 h7 h8 h9 h10 h11 h12 h13
          · rename_i h1 h2
            obtain ⟨k1,k2,k3,k4,⟨h11,e,ex,zs,by',h4,h5,h6,h7,h8,h9,h10⟩,h13⟩ := h
            exact aop_append_mkA ho h1 h2 (arrOk_of k1) k2 k3 (fun x hx => (k4 x hx).1) h4 h5 h6 h7 h8 h9 h10 h11 (fun x hx => (k4 x hx).2) h13
          · rename_i k m h1 h2
            obtain ⟨k1,⟨e,by',k2,h4,h5,h6,h7,h8,h9,h10,h11,h12,h13⟩,h14⟩ := h
            have e1 : ((m.toNat : Nat) : Int) = m := by omega
            exact aop_append_num ho (.inl h1) (by rw [h2,e1]) h4 h5 h6 h7 h8 h9 h10 h11 h12 h13 h14
          · rename_i k m h1 h2
            obtain ⟨rfl,rfl,k1,⟨e,by',k2,h4,h5,h6,h7,h8,h9,h10,h11,h12,h13⟩,h14⟩ := h
            have e1 : ((m.toNat : Nat) : Int) = m := by omega
            exact aop_append_num (z0 := 0) ho (.inr ⟨_,h1⟩) (by rw [h2,e1]) h4 h5 h6 h7 h8 h9 h10 h11 h12 h13 h14
          · exact happ ho h
        split at h
        · unfold appObSpec at h
          split at h
          · rename_i h1 h2
            obtain ⟨h3,⟨h11,e,ex,zs,by',h4,h5,h6,h7,h8,h9,h10⟩,h12⟩ := h
            rw [zeros_of h4 h7] at h12
            exact aop_append_ob ho h1 h2 h3 h4 h5 h6 h7 h8 h9 h10 h11 h12
          · exact h.elim
        · exact happ ho h
      · unfold copySpec at h
        split at h
        · rename_i h1 h2
          obtain ⟨rfl,g1,g2,g3,g4,g5⟩ := h
          obtain ⟨e,g6,g7⟩ := bind_elem g2
          exact aop_copy_slice ho h1 h2 (obj_of g1) g6 g7 g3 g4 g5
        · rename_i h1 h2
          obtain ⟨rfl,g1,g2,g3,g4,g5,g6,g7⟩ := h
          obtain ⟨e,g8,g9⟩ := bind_elem g3
          exact aop_copy_slc ho h1 h2 (obj_of g1) (obj_of g2) g8 g9 g4 g5 g6 g7
        · exact h.elim
      · unfold clearSpec at h
        split at h
        · rename_i h1
          obtain ⟨g1,g2,g3,g4,g5,g6⟩ := h
          have g2 := getD_of (d := 0) g2
          generalize (aElem P _).getD 0 = e at g2
          rw [g2] at g3
          simp only [Option.bind_some] at g3
          have g3 := getD_of (d := []) g3
          rw [zeros_of g2 g3] at g4 g5 g6
          exact aop_clear ho h1 (obj_of g1) g2 g3 g4 g5 g6
        · exact h.elim
      · unfold capSpec at h
        split at h
        · rename_i h1
          obtain ⟨g1,g2⟩ := h
          exact aop_cap ho h1 (Option.some_get g1).symm g2
        · rename_i h1
          obtain ⟨g1,g2⟩ := h
          exact aop_cap_sc ho h1 (Option.some_get g1).symm g2
        · exact h.elim
      · exact h
    · exact h
  all_goals exact h
def gSlot (ds : List (Option Tmp)) (j : Nat) (env : List SV) : SV :=
  match ds[j]? with
  | some (some d) => env.getD d .any
  | _ => .any
def kdSpec (P : Program) (M : List Nat) (o : Oper) (env : List SV) (st : St) (next : List SV → St → Prop) : Kd → Prop
  | .pure => okCore P st (ev env) o.op ∧ next (putE env o.dst (valCore P st (ev env) o.op)) st
  | .pick c x y => pickOk (ev env c) (ev env x) (ev env y) ∧ next (putE env o.dst (pickV (ev env c) (ev env x) (ev env y))) st
  | .eff => effSpec P M o env st fun x s => next (putE env o.dst x) s
def gdSpec (P : Program) (M : List Nat) (o : Oper) (env : List SV) (st : St) (g : Bool) (next : List SV → St → Prop) : Kd → Prop
  | .pure => gAll (g = true) env o.op.operands.toList ∧ (g = true → okCore P st (fun y => strip (ev env y)) o.op) ∧
      next (putE env o.dst (.gd g (valCore P st (fun y => strip (ev env y)) o.op))) st
  | .pick c x y => gIf (g = true) (ev env c) ∧ (g = true → pickOk (strip (ev env c)) (ev env x) (ev env y)) ∧
      next (putE env o.dst (.gd g (pickV (strip (ev env c)) (ev env x) (ev env y)))) st
  | .eff => gAll (g = true) env o.op.operands.toList ∧ (g = true → effSpec P M o (stripAt (opTmps o.op.operands.toList) 0 env) st fun x s => next (putE env o.dst x) s) ∧
      (g = false → next (putE env o.dst .any) st)
def opsSpec (P : Program) (M : List Nat) (ds : List (Option Tmp)) : List Oper → List SV → St → (List SV → St → Prop) → Prop
  | [],env,st,K => K env st
  | o :: r,env,st,K => match o.guard with
    | none => kdSpec P M o env st (fun e s => opsSpec P M ds r e s K) (kindOf o.op)
    | some (j,want) => gValOk (gSlot ds j env) ∧ gdSpec P M o env st (gVal want (gSlot ds j env)) (fun e s => opsSpec P M ds r e s K) (kindOf o.op)
theorem gSlot_some {ops : Array Oper} {j : Nat} {env : List SV} (h : gValOk (gSlot (ops.toList.map (·.dst)) j env)) :
    ∃ d,(ops[j]?).bind (·.dst) = some d ∧ gSlot (ops.toList.map (·.dst)) j env = env.getD d .any := by
  unfold gSlot at h ⊢
  simp only [List.getElem?_map,Array.getElem?_toList] at h ⊢
  cases ho : ops[j]? with
  | none => rw [ho] at h; exact h.elim
  | some o =>
    rw [ho] at h
    cases hd : o.dst with
    | none => simp [hd] at h; exact h.elim
    | some d => exact ⟨d,by simp [hd],by simp [hd]⟩
theorem pure_run {st : St} {env : List SV} {o : Oper} {K : SV → St → Prop} (hk : kindOf o.op = .pure) (h : okCore P st (ev env) o.op) (hn : K (valCore P st (ev env) o.op) st) : AOp P o K env st :=
  aop_of_pure (pure_of hk h) hn
theorem kindOf_pick {op : Op} {c x y : Operand} (h : kindOf op = .pick c x y) : op = .pick c x y := by
  cases op <;> simp only [kindOf] at h <;> (try cases h) <;> (try rfl)
  rename_i c'
  simp only [callKind] at h
  split at h <;> cases h
theorem aops_spec {M : List Nat} {ops : Array Oper} {K : List SV → St → Prop} : ∀ (n : Nat) (l : List Oper) (env : List SV) (st : St),ops.toList.drop n = l →
    opsSpec P M (ops.toList.map (·.dst)) l env st K → AOps P ops ((List.range' n l.length)) K env st
  | n,[],env,st,_,h => aops_nil h
  | n,o :: r,env,st,hl,h => by
    have ho : ops[n]? = some o := by
      have : (ops.toList.drop n)[0]? = some o := by rw [hl]; rfl
      rw [List.getElem?_drop,Nat.add_zero,Array.getElem?_toList] at this
      exact this
    have hr : ops.toList.drop (n + 1) = r := by rw [← List.drop_drop,hl]; rfl
    have ih := fun env st => aops_spec (M := M) (K := K) (n + 1) r env st hr
    simp only [List.length_cons,List.range'_succ]
    simp only [opsSpec] at h
    split at h
    · rename_i hg
      refine aops_cons ho hg ?_
      cases hk : kindOf o.op with
      | pure => rw [hk] at h; exact pure_run hk h.1 (ih _ _ h.2)
      | pick c x y => rw [hk] at h; exact aop_of_pure (ap_pick' (kindOf_pick hk) h.1) (ih _ _ h.2)
      | eff => rw [hk] at h; exact AOp.mono (aop_eff (by exact h)) fun x s h => ih _ _ h
    · rename_i j want hg
      obtain ⟨h1,h2⟩ := h
      obtain ⟨d,hd,he⟩ := gSlot_some h1
      rw [he] at h1 h2
      intro σ w a hI hR D hdf
      have hy := yield_gVal (want := want) hd h1 hR
      simp only [wpOps,ho,Region.wanted,hg,hy]
      generalize hgv : gVal want (env.getD d .any) = g at h2
      cases g with
      | true =>
        simp only [if_true]
        have pureCase : ∀ (X : SV) (ρ : Operand → SV),(∀ y,y ∈ o.op.operands → Rep st σ w (ρ y) (a.eval y)) → APure P o ρ st X → AOps P ops (List.range' (n + 1) r.length) K (putE env o.dst (.gd true X)) st →
            o.wp P a w (wpOps P ops (fun e a' w' => e = .normal ∧ Post D K st σ w a' w') (List.range' (n + 1) r.length)) (fun e a' w' => e = .normal ∧ Post D K st σ w a' w') := by
          intro X ρ hρ hap hk
          obtain ⟨v,hrun,hrep⟩ := hap σ w a hI hρ
          unfold Oper.wp
          rw [hrun]
          exact hk σ w _ hI (rep_put hR _ (.gd true X v (fun _ => hrep) (fun e => by cases e))) (by rw [put_defers]; exact hdf)
        cases hk : kindOf o.op with
        | pure =>
          rw [hk] at h2
          obtain ⟨g1,g2,g3⟩ := h2
          exact .inl (pureCase _ _ (fun y hy => rep_strip (rep_ev hR y) (gAll_mem _ g1 y (by simpa using hy)) rfl) (pure_of hk (g2 rfl)) (ih _ _ g3))
        | pick c x y =>
          rw [hk] at h2
          obtain ⟨g1,g2,g3⟩ := h2
          have hop := kindOf_pick hk
          refine .inl ?_
          obtain ⟨v,hrun,hrep⟩ : ∃ v,(execOp a.eval o).run P w = .ok (.value v) w ∧ Rep st σ w (pickV (strip (ev env c)) (ev env x) (ev env y)) v := by
            have rc := rep_strip (rep_ev hR c) g1 rfl
            have h := g2 rfl
            unfold pickOk at h
            split at h
            · rename_i t hc
              rw [hc] at rc
              have e := rep_sc rc
              refine ⟨if t then a.eval x else a.eval y,by cases t <;> simp [execOp,hop,e,asBool],?_⟩
              rw [hc]
              refine rep_pickB ?_
              cases t
              · exact rep_strip (rep_ev hR y) h.2 rfl
              · exact rep_strip (rep_ev hR x) h.1 rfl
            · exact h.elim
          unfold Oper.wp
          rw [hrun]
          exact ih _ _ g3 σ w _ hI (rep_put hR _ (.gd true _ v (fun _ => hrep) (fun e => by cases e))) (by rw [put_defers]; exact hdf)
        | eff =>
          rw [hk] at h2
          obtain ⟨g1,g2,g3⟩ := h2
          refine .inl (upon_mono ?_ (fun _ _ _ h => h.elim) (aop_eff (g2 rfl) σ w a hI (rep_stripAt rfl hR g1)))
          rintro a' w' ⟨v,y,st',σ',rfl,hn,hI',hr',hX⟩
          refine wpOps_mono (fun e a w hp => ⟨hp.1,hp.2.ext hX⟩) _ _ _ (ih _ _ hn σ' w' _ hI' (rep_put (hR.ext hX) _ hr') ?_)
          rw [put_defers]; exact hdf
      | false =>
        simp only [Bool.false_eq_true,if_false]
        cases hk : kindOf o.op with
        | pure =>
          rw [hk] at h2
          exact ih _ _ h2.2.2 σ w _ hI (rep_put hR _ (.gd false _ _ (fun e => by cases e) (fun _ => rfl))) (by rw [put_defers]; exact hdf)
        | pick c x y =>
          rw [hk] at h2
          exact ih _ _ h2.2.2 σ w _ hI (rep_put hR _ (.gd false _ _ (fun e => by cases e) (fun _ => rfl))) (by rw [put_defers]; exact hdf)
        | eff =>
          rw [hk] at h2
          exact ih _ _ (h2.2.2 rfl) σ w _ hI (rep_put hR _ (.any _)) (by rw [put_defers]; exact hdf)
theorem awp_region_spec (M : List Nat) {id : Nat} {ops : Array Oper} {Q : Exit → List SV → St → Prop} {env : List SV} {st : St} (h : opsSpec P M (ops.toList.map (·.dst)) ops.toList env st (Q .normal)) :
    AWp P (.region id ops false) Q env st := by
  refine awp_region ?_
  have := aops_spec (P := P) 0 ops.toList env st rfl h
  rw [List.range_eq_range']
  simpa using this
end Go.AL
