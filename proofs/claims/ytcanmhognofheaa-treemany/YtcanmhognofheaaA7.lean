/- The abstract layer, part 25: regions that draw, where turners may change places: what the objects are is told by what is done. -/
import Derived.Test.YtcanmhognofheaaA6
import Derived.WalkKit
import Derived.ProofKit
import Derived.OpenShut
import Derived.Below
import Derived.Laws.IdiomRangeMap
set_option linter.all false
set_option linter.unusedVariables false
namespace Go.AL
variable {P : Program}
def eqN : List Nat → List Nat → Bool
  | [],[] => true
  | a :: b,c :: d => decide (a = c) && eqN b d
  | _,_ => false
def look : List (List Nat × St) → List Nat → St
  | [],_ => []
  | (c,s) :: r,d => if eqN c d = true then s else look r d
@[go_sem] theorem eqN_nil : eqN [] [] = true := rfl
@[go_sem] theorem eqN_l (a : Nat) (b : List Nat) : eqN (a :: b) [] = false := rfl
@[go_sem] theorem eqN_r (a : Nat) (b : List Nat) : eqN [] (a :: b) = false := rfl
@[go_sem] theorem eqN_c (a c : Nat) (b d : List Nat) : eqN (a :: b) (c :: d) = (decide (a = c) && eqN b d) := rfl
@[go_sem] theorem look_c (c d : List Nat) (s : St) (r : List (List Nat × St)) : look ((c,s) :: r) d = if eqN c d = true then s else look r d := rfl
def ins (ks c : List Nat) (i : Nat) : List Nat := ks.filter fun k => c.contains k || k == i
section
variable {M : List Nat} {ds : List (Option Tmp)} {ks : List Nat} {tbl : List (List Nat × St)} {i : Nat} {Ls : List (List (List Nat))} {o : Oper} {r : List Oper} {env : List SV} {K : List SV → Prop} {c c2 d d2 : List Nat}
end
end Go.AL
namespace Go.AL
variable {P : Program}
theorem Ids.mono {n m : Nat} {x : SV} (k : Ids n x) (h : n ≤ m) : Ids m x := by
  induction k with
  | any => exact .any
  | sc v => exact .sc v
  | slice md z l hm _ ih => exact .slice md z l (fun id ver e => Nat.lt_of_lt_of_le (hm id ver e) h) ih
  | ref l _ ih => exact .ref l ih
  | ptr id off h1 => exact .ptr id off (Nat.lt_of_lt_of_le h1 h)
  | func fn l k _ _ i1 i2 => exact .func fn l k i1 i2
  | agg l _ ih => exact .agg l ih
  | tuple l _ ih => exact .tuple l ih
  | gd g x _ ih => exact .gd g x ih
  | slc id z off len cap h1 => exact .slc id z off len cap (Nat.lt_of_lt_of_le h1 h)
  | mp id h1 => exact .mp id (Nat.lt_of_lt_of_le h1 h)
  | stamp id j h1 => exact .stamp id j (Nat.lt_of_lt_of_le h1 h)
  | arr id ver m h1 => exact .arr id ver m (Nat.lt_of_lt_of_le h1 h)
  | aptr id ver off h1 => exact .aptr id ver off (Nat.lt_of_lt_of_le h1 h)
theorem ObIds.mono {n m : Nat} (h : n ≤ m) {o : Ob} (k : ObIds n o) : ObIds m o := by
  cases o with
  | cells l => exact fun j hj => (k j hj).mono h
  | map es => exact fun j hj => (k j hj).mono h
  | tok v => trivial
  | glob _ _ => trivial
  | arr v z cs => exact fun j hj => (k j hj).mono h
structure Mod (st s1 : St) : Prop where
  len : st.length ≤ s1.length
  all : ∀ (id : Nat) (o : Ob),s1[id]? = some o → st[id]? = some o ∨ ObIds s1.length o
theorem Mod.refl (st : St) : Mod st st := ⟨Nat.le_refl _,fun _ _ h => .inl h⟩
theorem Mod.set {st s1 : St} (h : Mod st s1) (id : Nat) (X : Ob) (hX : ObIds s1.length X) : Mod st (s1.set id X) := by
  refine ⟨by simpa using h.len,fun j o ho => ?_⟩
  by_cases e : j = id
  · subst e
    have hlt := lt_of_get ho
    rw [List.length_set] at hlt
    rw [set_get hlt] at ho
    cases ho
    exact .inr (by simpa using hX)
  · rw [set_get_ne e] at ho
    rw [List.length_set]
    exact h.all j o ho
theorem Mod.app {st s1 : St} (h : Mod st s1) (l : List Ob) (hl : ∀ o ∈ l,ObIds (s1.length + l.length) o) : Mod st (s1 ++ l) := by
  refine ⟨by have := h.len; simp; omega,fun j o ho => ?_⟩
  rw [List.length_append]
  by_cases e : j < s1.length
  · rw [List.getElem?_append_left e] at ho
    exact (h.all j o ho).imp (fun h => h) fun h => h.mono (by omega)
  · rw [List.getElem?_append_right (by omega)] at ho
    exact .inr (hl o (List.mem_of_getElem? ho))
theorem Mod.trans {a b c : St} (h : Mod a b) (k : Mod b c) : Mod a c :=
  ⟨Nat.le_trans h.len k.len,fun id o ho => (k.all id o ho).elim (fun h1 => (h.all id o h1).imp (fun h => h) fun h2 => h2.mono k.len) .inr⟩
theorem objAt_eq {st : St} {id : Nat} {l : List SV} (h : st[id]? = some (.cells l)) : objAt st id = l := by simp [objAt,h]
theorem isObj_eq {st : St} {id : Nat} {l : List SV} (h : st[id]? = some (.cells l)) : isObj st id = True := eq_true (by unfold isObj; rw [h]; trivial)
theorem arrOk_eq {st : St} {id v v' z : Nat} {l : List SV} (h : st[id]? = some (.arr v z l)) : arrOk st id v' = (v = v') := by simp [arrOk,h]
theorem arrZ_eq {st : St} {id v z : Nat} {l : List SV} (h : st[id]? = some (.arr v z l)) : arrZ st id = z := by simp [arrZ,h]
theorem arrC_eq {st : St} {id v z : Nat} {l : List SV} (h : st[id]? = some (.arr v z l)) : arrC st id = l := by simp [arrC,h]
theorem tokAt_eq {st : St} {id v v' : Nat} (h : st[id]? = some (.tok v)) : tokAt st id v' = (v = v') := by simp [tokAt,h]
theorem get_app {st : St} {id : Nat} {o : Ob} (h : st[id]? = some o) (ex : St) : (st ++ ex)[id]? = some o := by rw [List.getElem?_append_left (lt_of_get h)]; exact h
def inS (st : St) (id : Nat) : Prop := id < st.length
theorem inS_of {st : St} {id : Nat} {o : Ob} (h : st[id]? = some o) : inS st id = True := eq_true (lt_of_get h)
section
variable {st s l : St} {id j n k : Nat} {X : Ob} {xs : List SV} {es : List (Value × SV)} {v v' z : Nat}
theorem inS_set : inS (st.set j X) id = inS st id := by simp [inS]
theorem set_appI (h : inS st id) : (st ++ l).set id X = st.set id X ++ l := by rw [List.set_append_left _ _ h]
theorem set_set_same {Y : Ob} : (st.set id X).set id Y = st.set id Y := List.set_set ..
theorem objAt_appI (h : inS st id) : objAt (st ++ l) id = objAt st id := by simp only [objAt]; rw [List.getElem?_append_left h]
theorem isObj_appI (h : inS st id) : isObj (st ++ l) id = isObj st id := by simp only [isObj]; rw [List.getElem?_append_left h]
theorem arrOk_appI (h : inS st id) : arrOk (st ++ l) id v = arrOk st id v := by simp only [arrOk]; rw [List.getElem?_append_left h]
theorem arrZ_appI (h : inS st id) : arrZ (st ++ l) id = arrZ st id := by simp only [arrZ]; rw [List.getElem?_append_left h]
theorem arrC_appI (h : inS st id) : arrC (st ++ l) id = arrC st id := by simp only [arrC]; rw [List.getElem?_append_left h]
theorem mapAt_appI (h : inS st id) : mapAt (st ++ l) id = mapAt st id := by simp only [mapAt]; rw [List.getElem?_append_left h]
theorem tokAt_appI (h : inS st id) : tokAt (st ++ l) id v = tokAt st id v := by simp only [tokAt]; rw [List.getElem?_append_left h]
theorem objAt_setI (h : inS st id) : objAt (st.set id (.cells xs)) id = xs := by simp only [objAt]; rw [set_get h]
theorem isObj_setI (h : inS st id) : isObj (st.set id (.cells xs)) id = True := by simp only [isObj]; rw [set_get h]
theorem arrOk_setI (h : inS st id) : arrOk (st.set id (.arr v z xs)) id v' = (v = v') := by simp only [arrOk]; rw [set_get h]
theorem arrZ_setI (h : inS st id) : arrZ (st.set id (.arr v z xs)) id = z := by simp only [arrZ]; rw [set_get h]
theorem arrC_setI (h : inS st id) : arrC (st.set id (.arr v z xs)) id = xs := by simp only [arrC]; rw [set_get h]
theorem mapAt_setI (h : inS st id) : mapAt (st.set id (.map es)) id = some es := by simp only [mapAt]; rw [set_get h]
theorem tokAt_setI (h : inS st id) : tokAt (st.set id (.tok v)) id v' = (v = v') := by simp only [tokAt]; rw [set_get h]; simp
theorem objAt_setN (h : id ≠ j) : objAt (st.set j X) id = objAt st id := by simp only [objAt,set_get_ne h]
theorem isObj_setN (h : id ≠ j) : isObj (st.set j X) id = isObj st id := by simp only [isObj,set_get_ne h]
theorem arrOk_setN (h : id ≠ j) : arrOk (st.set j X) id v = arrOk st id v := by simp only [arrOk,set_get_ne h]
theorem arrZ_setN (h : id ≠ j) : arrZ (st.set j X) id = arrZ st id := by simp only [arrZ,set_get_ne h]
theorem arrC_setN (h : id ≠ j) : arrC (st.set j X) id = arrC st id := by simp only [arrC,set_get_ne h]
theorem mapAt_setN (h : id ≠ j) : mapAt (st.set j X) id = mapAt st id := by simp only [mapAt,set_get_ne h]
theorem tokAt_setN (h : id ≠ j) : tokAt (st.set j X) id v = tokAt st id v := by simp only [tokAt,set_get_ne h]
theorem objAt_newC (h : st.length = n) : objAt (st ++ l) (n + k) = objAt l k := by subst h; exact obj_app' _ _ _
theorem isObj_newC (h : st.length = n) : isObj (st ++ l) (n + k) = isObj l k := by subst h; exact isObj_app' _ _ _
theorem tokAt_newC (h : st.length = n) : tokAt (st ++ l) (n + k) v = tokAt l k v := by subst h; exact tok_app' _ _ _ _
theorem set_newC (h : st.length = n) : (st ++ l).set (n + k) X = st ++ l.set k X := by subst h; exact set_app' _ _ _ _
theorem arrOk_newC (h : st.length = n) : arrOk (st ++ l) (n + k) v = arrOk l k v := by subst h; simp [arrOk,List.getElem?_append_right]
theorem objAt_newC0 (h : st.length = n) : objAt (st ++ l) n = objAt l 0 := objAt_newC (k := 0) h
theorem isObj_newC0 (h : st.length = n) : isObj (st ++ l) n = isObj l 0 := isObj_newC (k := 0) h
theorem tokAt_newC0 (h : st.length = n) : tokAt (st ++ l) n v = tokAt l 0 v := tokAt_newC (k := 0) h
theorem set_newC0 (h : st.length = n) : (st ++ l).set n X = st ++ l.set 0 X := set_newC (k := 0) h
theorem arrOk_newC0 (h : st.length = n) : arrOk (st ++ l) n v = arrOk l 0 v := arrOk_newC (k := 0) h
theorem arrOk_zero {xs : List SV} : arrOk (.arr v z xs :: l) 0 v' = (v = v') := by simp [arrOk]
theorem arrZ_zero {xs : List SV} : arrZ (.arr v z xs :: l) 0 = z := rfl
theorem arrC_zero {xs : List SV} : arrC (.arr v z xs :: l) 0 = xs := rfl
theorem mapAt_zero : mapAt (.map es :: l) 0 = some es := rfl
theorem arrOk_succ {o : Ob} : arrOk (o :: l) (k + 1) v = arrOk l k v := rfl
theorem arrZ_succ {o : Ob} : arrZ (o :: l) (k + 1) = arrZ l k := rfl
theorem arrC_succ {o : Ob} : arrC (o :: l) (k + 1) = arrC l k := rfl
theorem mapAt_succ {o : Ob} : mapAt (o :: l) (k + 1) = mapAt l k := rfl
end
attribute [go_sem] inS_set set_appI set_set_same objAt_appI isObj_appI arrOk_appI arrZ_appI arrC_appI mapAt_appI tokAt_appI objAt_setI isObj_setI arrOk_setI arrZ_setI arrC_setI mapAt_setI tokAt_setI objAt_setN isObj_setN arrOk_setN arrZ_setN arrC_setN mapAt_setN tokAt_setN objAt_newC isObj_newC tokAt_newC set_newC arrOk_newC objAt_newC0 isObj_newC0 tokAt_newC0 set_newC0 arrOk_newC0 arrOk_zero arrZ_zero arrC_zero mapAt_zero arrOk_succ arrZ_succ arrC_succ mapAt_succ
theorem cells_facts {st : St} {id : Nat} {l : List SV} (h : st[id]? = some (.cells l)) : inS st id = True ∧ isObj st id = True ∧ objAt st id = l := ⟨inS_of h,isObj_eq h,objAt_eq h⟩
theorem arr_facts {st : St} {id v z : Nat} {l : List SV} (h : st[id]? = some (.arr v z l)) : inS st id = True ∧ arrOk st id v = True ∧ arrZ st id = z ∧ arrC st id = l := ⟨inS_of h,by rw [arrOk_eq h]; simp,arrZ_eq h,arrC_eq h⟩
section
variable {M : List Nat} {t : TypeId} {x k m v s : Operand} {ρ : Operand → SV} {st : St} {env : List SV} {K : SV → St → Prop} {d : Option Tmp} {ty : TypeId} {pos : String} {aft : Array Edge} {gu : Option (Nat × Bool)} {id : Nat} {p : Prop} {ok : Bool}
@[go_sem] theorem kind_makeMap {r : Option Operand} : kindOf (.makeMap t r) = .eff := rfl
@[go_sem] theorem eff_makeMap : effSpec P M ⟨d,.makeMap t none,ty,pos,aft,gu⟩ env st K = K (.mp st.length) (st ++ [.map []]) := rfl
@[go_sem] theorem kind_lookup : kindOf (.lookup t x k ok) = .pure := rfl
@[go_sem] theorem ok_lookup : okCore P st ρ (.lookup t x k ok) = ((mapGet P t st (ρ x) (ρ k)).isSome = true) := rfl
@[go_sem] theorem val_lookup1 : valCore P st ρ (.lookup t x k true) = match mapGet P t st (ρ x) (ρ k) with | some (y,b) => .tuple [y,.sc (.bool b)] | none => .any := rfl
@[go_sem] theorem val_lookup0 : valCore P st ρ (.lookup t x k false) = match mapGet P t st (ρ x) (ρ k) with | some (y,b) => y | none => .any := rfl
@[go_sem] theorem kind_mapUpdate : kindOf (.mapUpdate t m k v) = .eff := rfl
@[go_sem] theorem eff_mapUpdate : effSpec P M ⟨d,.mapUpdate t m k v,ty,pos,aft,gu⟩ env st K = (d = none ∧ putSpec P t st (ev env m) (ev env k) (ev env v) (K .any ·)) := rfl
@[go_sem] theorem kind_insert : kindOf (.insert t m k v) = .eff := rfl
@[go_sem] theorem eff_insert : effSpec P M ⟨d,.insert t m k v,ty,pos,aft,gu⟩ env st K = (d = none ∧ putSpec P t st (ev env m) (ev env k) (ev env v) (K .any ·)) := rfl
@[go_sem] theorem kind_mapEntry : kindOf (.mapEntry t m k) = .eff := rfl
@[go_sem] theorem eff_mapEntry : effSpec P M ⟨d,.mapEntry t m k,ty,pos,aft,gu⟩ env st K = entrySpec P t st (ev env m) (ev env k) K := rfl
@[go_sem] theorem kind_entryStore : kindOf (.entryStore t m s v) = .eff := rfl
@[go_sem] theorem eff_entryStore : effSpec P M ⟨d,.entryStore t m s v,ty,pos,aft,gu⟩ env st K = (d = none ∧ stampSpec st (ev env v) (ev env m) (ev env s) (K .any ·)) := rfl
@[go_sem] theorem lenOk_mp : lenOk P t st (.mp id) = ((aMap P t).isSome = true ∧ (mapAt st id).isSome = true) := rfl
@[go_sem] theorem lenV_mp : lenV st (.mp id) = .sc (.int .i64 ((mapAt st id).getD []).length) := rfl
@[go_sem] theorem gIf_mp : gIf p (.mp id) = True := rfl
@[go_sem] theorem strip_mp : strip (.mp id) = .mp id := rfl
@[go_sem] theorem cells_mp : (SV.mp id).cells = [.mp id] := rfl
@[go_sem] theorem shape_mp : shapeOk (.mp id) = true := rfl
@[go_sem] theorem norm_mp : norm (.mp id) = .mp id := rfl
@[go_sem] theorem norm1_mp : norm1 (.mp id) = .mp id := rfl
@[go_sem] theorem cellOk_mp : cellOk (.mp id) = true := rfl
@[go_sem] theorem gIf_stamp {j : Nat} : gIf p (.stamp id j) = True := rfl
@[go_sem] theorem strip_stamp {j : Nat} : strip (.stamp id j) = .stamp id j := rfl
end
end Go.AL
namespace Go.AL
open Go Go.RowKit
theorem kept_below {w w' : World} (h : Below w.heap.size w w') (may : MemPlace → Prop) : w.keptBut w' may := by
  refine ⟨h.os,h.output,fun i hi => ?_⟩
  rw [h.block i hi]
  split
  · rename_i e1 e2
    rw [e1] at e2; cases e2
    exact ⟨rfl,rfl,rfl,fun _ _ => rfl⟩
  · rename_i e1 e2
    rw [e1] at e2; cases e2
    exact .inr ⟨rfl,rfl⟩
  · rfl
theorem post_below {H : Type} {enc : TypeId × Value → H} {P : Program} {f : Func} {s : ChangeSpec} {apart fresh handsOn again : Bool} {W W' : World} {args : Array Value} {v : Value} {ds gs : List (DataW H)} {before pa pv : List MemPlace}
    (hW : DataW.Whole enc P f.params.toList s.vars apart W args.toList ds gs before)
    (hres : ∀ (b : Nat) (sp : Nat → Bool) (hd : Bool),DataW.TrodAll enc P W' b sp hd f.resultTypes.toList (v.resultList f.resultTypes.size) (s.fn H (ds ++ gs)).results [])
    (hargs : ∀ sp : Nat → Bool,(∀ p ∈ before,sp p.block = true) → DataW.TrodAll enc P W' 0 sp true f.params.toList args.toList (s.fn H (ds ++ gs)).args pa)
    (hvars : ∀ sp : Nat → Bool,(∀ p ∈ before,sp p.block = true) → DataW.TrodVars enc P W' sp s.vars (s.fn H (ds ++ gs)).vars pv)
    (hps : before = pa ++ pv) (hb : Below W.heap.size W W')
    (hok : ∀ (j : Nat) (t : TypeId) (r : Value),f.resultTypes[j]? = some t → (v.resultList f.resultTypes.size)[j]? = some r → Value.okWide P W' .any 0 t r) :
    s.post enc P f apart fresh handsOn again W args v W' := by
  have hold : ∀ p ∈ before,(fun b => decide (b < W.heap.size)) p.block = true := fun p hp => by simpa using hW.lt p hp
  refine ⟨ds,gs,before,[],pa,pv,hW,hres _ _ _,hargs _ hold,hvars _ hold,World.keptBut_mono (fun p hp => ⟨hp,?_⟩) (kept_below hb (· ∈ before)),fun _ => ?_⟩
  · rw [hps,List.mem_append] at hp
    exact Or.inr hp
  · have hlt := hW.lt
    obtain ⟨_,_,_,_,_,hz,hn⟩ := hW
    refine ⟨hok,_,_,([] ++ pa) ++ pv,⟨[] ++ pa,pv,Go.ChangeShapes.trodAll_append (hargs _ (fun _ _ => rfl)) (hres _ _ _),hvars _ (fun _ _ => rfl),rfl,?_,?_⟩,?_⟩
    · intro b off hp
      have hp' : MemPlace.cell b off ∈ before := by rw [hps]; simpa using hp
      have h1 := hz b off hp'
      have h2 := hlt _ hp'
      unfold World.frozen? at h1 ⊢
      simp only at h1 h2 ⊢
      rw [hb.block b h2]
      exact h1
    · intro ha
      have := hn ha
      rw [hps] at this
      simpa using this
    · intro p hp _
      rw [hps]
      simpa using hp
end Go.AL
namespace Go.AL
variable {P : Program}
def Conv (st st2 : St) : Prop := ∀ σ w,Inv st σ w → ∃ σ',Inv st2 σ' w ∧ Ext st σ w st2 σ' w
theorem Conv.refl (st : St) : Conv st st := fun σ w h => ⟨σ,h,Ext.refl _ _ _⟩
theorem Conv.trans {a b c : St} (h : Conv a b) (k : Conv b c) : Conv a c := fun σ w hI => by
  obtain ⟨σ1,h1,h2⟩ := h σ w hI
  obtain ⟨σ2,k1,k2⟩ := k σ1 w h1
  exact ⟨σ2,k1,h2.trans k2⟩
structure Swap (st : St) (σ : Sig) (w w' : World) (b : Nat) : Prop where
  cell : ∀ a,w'.cell? a = w.cell? a
  heap : ∀ c,c ≠ b → w'.heap[c]? = w.heap[c]?
  size : w'.heap.size = w.heap.size
  os : w'.os = w.os
  tape : w'.tape = w.tape
  output : w'.output = w.output
  own : ∀ i,i < st.length → σ.μ i ≠ some b
end Go.AL
namespace Go.AL
variable {P : Program}
structure IterAt (st : St) (σ : Sig) (w : World) (b mid n : Nat) (S : List Nat) : Prop where
  still : (σ.lock b).still = true
  body : ∃ m ents clock since seen last,σ.μ mid = some m ∧ w.heap[m]? = some (.map ents clock) ∧ ents.size = n ∧ w.heap[b]? = some (.mapIter (some m) since seen last) ∧
    seen.toList = S.map (fun j => (ents.getD j default).born) ∧ (∀ j,j < n → (ents.getD j default).born < since) ∧ (n ≠ 0 → S ≠ [] → ∃ j,j < n ∧ (ents.getD j default).born < last)
theorem IterAt.ext {st st' : St} {σ σ' : Sig} {w w' : World} {b mid n : Nat} {S : List Nat} {es es' : List (Value × SV)} (h : IterAt st σ w b mid n S) (hX : Ext st σ w st' σ' w') (hI' : Inv st' σ' w') (hes : st[mid]? = some (.map es)) (hes' : st'[mid]? = some (.map es')) (hn : es'.length = n) :
    IterAt st' σ' w' b mid n S := by
  obtain ⟨h1,m,ents,clock,since,seen,last,q1,q2,q3,q4,q5,q6,q7⟩ := h
  obtain ⟨x1,x2⟩ := hX.all b (lt_of_some q4) h1
  obtain ⟨_,y2,y3⟩ := hX.kmaps mid es hes
  obtain ⟨ents',clock',z1,z2,z3⟩ := y3 m ents clock q1 q2
  obtain ⟨m',ents2,clock2,u1,u2,u3,_⟩ := hI'.maps mid es' hes'
  rw [y2,q1] at u1
  cases u1
  rw [z1] at u2
  cases u2
  have hsz : ents'.size = n := by rw [u3.1,hn]
  have hb : ∀ j,j < n → (ents'.getD j default).born = (ents.getD j default).born := fun j hj => z3 j (by omega)
  refine ⟨by rw [x1]; exact h1,m,ents',clock',since,seen,last,by rw [y2]; exact q1,z1,hsz,by rw [x2]; exact q4,?_,fun j hj => by rw [hb j hj]; exact q6 j hj,fun hn0 hS => ?_⟩
  · rw [q5]
    apply List.map_congr_left
    intro j hj
    by_cases hjn : j < n
    · rw [hb j hjn]
    · have e1 : ents.getD j default = default := by rw [Array.getD_eq_getD_getElem?,Array.getElem?_eq_none (by omega)]; rfl
      have e2 : ents'.getD j default = default := by rw [Array.getD_eq_getD_getElem?,Array.getElem?_eq_none (by omega)]; rfl
      rw [e1,e2]
  · obtain ⟨j,r1,r2⟩ := q7 hn0 hS
    exact ⟨j,r1,by rw [hb j r1]; exact r2⟩
end Go.AL
