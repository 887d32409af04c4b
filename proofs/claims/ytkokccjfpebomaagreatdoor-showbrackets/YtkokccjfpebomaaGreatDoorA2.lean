/- The abstract layer, part 7: functions: their entry, their results, what is forgotten at their end. -/
import Derived.Test.YtkokccjfpebomaaGreatDoorA1
import Derived.Laws.BytesString
import Derived.DeepKeys3
import Derived.MapKept
import Derived.Laws.StructEq
set_option linter.unusedVariables false
namespace Go.AL
variable {P:Program}
inductive Ids (n:Nat):SV→Prop where
 | any:Ids n .any
 | sc (v:Value):Ids n (.sc v)
 | slice (m:Mode) (z:Nat) (l:List SV) (hm:∀ id ver,m = .own id ver→id<n) (h:∀ i j,i<l.length→j<z→Ids n ((l.getD i .any).cells.getD j .any)):Ids n (.slice m z l)
 | ref (l:List SV) (h:∀ i,i<l.length→Ids n (l.getD i .any)):Ids n (.ref l)
 | ptr (id off:Nat) (h:id<n):Ids n (.ptr id off)
 | func (fn:Fn) (l k:List SV) (h:∀ i,i<l.length→Ids n (l.getD i .any)) (h':∀ i,i<k.length→Ids n (k.getD i .any)):Ids n (.func fn l k)
 | agg (l:List SV) (h:∀ i,i<l.length→Ids n (l.getD i .any)):Ids n (.agg l)
 | tuple (l:List SV) (h:∀ i,i<l.length→Ids n (l.getD i .any)):Ids n (.tuple l)
 | gd (g:Bool) (x:SV) (h:g=true→Ids n x):Ids n (.gd g x)
 | slc (id z off len cap:Nat) (h:id<n):Ids n (.slc id z off len cap)
 | mp (id:Nat) (h:id<n):Ids n (.mp id)
 | stamp (id j:Nat) (h:id<n):Ids n (.stamp id j)
 | arr (id ver m:Nat) (h:id<n):Ids n (.arr id ver m)
 | aptr (id ver off:Nat) (h:id<n):Ids n (.aptr id ver off)
theorem Rep.ids {st:St} {σ:Sig} {w:World} {x:SV} {v:Value} (h:Rep st σ w x v):Ids st.length x:=by
 induction h with
 | any v=>exact .any
 | sc v=>exact .sc v
 | nil m z hm =>
  refine .slice m z [] (fun id ver e=>?_) (fun i j hi=>absurd hi (Nat.not_lt_zero _))
  subst e
  obtain⟨v0,h1,_⟩:=hm
  exact zp h1
 | slice m z l a cap vals hcap hsp hz hc hr hm ih =>
  refine .slice m z l (fun id ver e=>?_) ih
  subst e
  obtain⟨v0,h1,_⟩:=hm
  exact zp h1
 | ref cells b o vals hc hr ih=>exact .ref cells ih
 | ptr id off b hk hb =>
  obtain⟨l,hl⟩:=hk
  exact .ptr id off (zp hl)
 | func fn first captured vf vc h1 h2 _ _ i1 i2=>exact .func fn first captured i1 i2
 | agg l vs h _ ih=>exact .agg l ih
 | tuple l vs h _ ih=>exact .tuple l ih
 | gd g x v _ h' ih=>exact .gd g x ih
 | slc id z off len cap b hk hb hc =>
  obtain⟨l,hl⟩:=hk
  exact .slc id z off len cap (zp hl)
 | mp id b hk hb =>
  obtain⟨l,hl⟩:=hk
  exact .mp id (zp hl)
 | stamp id j b ents clock hk hb hh hj =>
  obtain⟨l,hl⟩:=hk
  exact .stamp id j (zp hl)
 | arr id ver n v0 z cs v ho hk hv h=>exact .arr id ver n (zp hk)
 | aptr id ver off v0 z cs v ho hk hv h=>exact .aptr id ver off (zp hk)
def ObIds (n:Nat):Ob→Prop
 | .cells l=>∀ j,j<l.length→Ids n (l.getD j .any)
 | .map es=>∀ j,j<es.length→Ids n (es.getD j (default,.any)).2
 | .tok _=>True
 | .glob _ _=>True
 | .arr _ _ l=>∀ j,j<l.length→Ids n (l.getD j .any)
theorem Inv.obIds {st:St} {σ:Sig} {w:World} (hI:Inv st σ w) (id:Nat) (o:Ob) (h:st[id]?=some o):ObIds st.length o:=by
 cases o with
 | cells l =>
  obtain⟨b,cs,T,_,_,_,h4,_⟩:=hI.cells id l h
  exact fun j hj=>(h4 j hj).ids
 | map es =>
  obtain⟨b,en,c,_,_,h4,_⟩:=hI.maps id es h
  exact fun j hj=>(h4.2.1 j hj).2.ids
 | tok v=>trivial
 | glob _ _=>trivial
 | arr v z cs =>
  rcases hI.arrs id v z cs h with⟨_,rfl⟩ | ⟨b,vals,T,_,_,_,h4,_⟩
  ·exact fun j hj=>absurd hj (Nat.not_lt_zero _)
  ·exact fun j hj=>(h4 j hj).ids
theorem Rep.drop {s1 ex:St} {σ:Sig} {w:World} {x:SV} {v:Value} (h:Rep (s1++ex) σ w x v):Ids s1.length x→Rep s1 σ w x v:=by
 induction h with
 | any v=>exact fun _ =>.any v
 | sc v=>exact fun _ =>.sc v
 | nil m z hm =>
  intro hi
  refine .nil m z ?_
  cases hi with
  | slice m z l hm2 _ =>
   cases m with
   | imm=>trivial
   | full=>trivial
   | own id ver =>
    obtain⟨v0,h1,h2⟩:=hm
    exact⟨v0,by rw[List.getElem?_append_left (hm2 id ver rfl)] at h1;exact h1,h2⟩
 | slice m z l a cap vals hcap hsp hz hc hr hm ih =>
  intro hi
  cases hi with
  | slice m z l hm2 hel =>
   refine .slice m z l a cap vals hcap hsp hz hc (fun i j hi hj=>ih i j hi hj (hel i j hi hj)) ?_
   cases m with
   | imm=>trivial
   | full=>exact hm
   | own id ver =>
    obtain⟨v0,h1,h2,h3⟩:=hm
    exact⟨v0,by rw[List.getElem?_append_left (hm2 id ver rfl)] at h1;exact h1,h2,h3⟩
 | ref cells b o vals hc hr ih =>
  intro hi
  cases hi with
  | ref l hel=>exact .ref cells b o vals hc (fun j hj=>ih j hj (hel j hj))
 | ptr id off b hk hb =>
  intro hi
  cases hi with
  | ptr id off h =>
   obtain⟨l,hl⟩:=hk
   exact .ptr id off b ⟨l,by rw[List.getElem?_append_left h] at hl;exact hl⟩ hb
 | func fn first captured vf vc h1 h2 _ _ i1 i2 =>
  intro hi
  cases hi with
  | func fn l k a b=>exact .func fn first captured vf vc h1 h2 (fun i hi=>i1 i hi (a i hi)) (fun i hi=>i2 i hi (b i hi))
 | agg l vs h _ ih =>
  intro hi
  cases hi with
  | agg l hel=>exact .agg l vs h (fun i hi=>ih i hi (hel i hi))
 | tuple l vs h _ ih =>
  intro hi
  cases hi with
  | tuple l hel=>exact .tuple l vs h (fun i hi=>ih i hi (hel i hi))
 | gd g x v _ h' ih =>
  intro hi
  cases hi with
  | gd g x hel=>exact .gd g x v (fun e=>ih e (hel e)) h'
 | slc id z off len cap b hk hb hc =>
  intro hi
  cases hi with
  | slc id z off len cap h =>
   obtain⟨l,hl⟩:=hk
   exact .slc id z off len cap b ⟨l,by rw[List.getElem?_append_left h] at hl;exact hl⟩ hb hc
 | mp id b hk hb =>
  intro hi
  cases hi with
  | mp id h =>
   obtain⟨l,hl⟩:=hk
   exact .mp id b ⟨l,by rw[List.getElem?_append_left h] at hl;exact hl⟩ hb
 | stamp id j b ents clock hk hb hh hj =>
  intro hi
  cases hi with
  | stamp id j h =>
   obtain⟨l,hl⟩:=hk
   exact .stamp id j b ents clock ⟨l,by rw[List.getElem?_append_left h] at hl;exact hl⟩ hb hh hj
 | arr id ver n v0 z cs v ho hk hv h =>
  intro hi
  cases hi with
  | arr _ _ _ hlt=>exact .arr id ver n v0 z cs v ho (by rw[List.getElem?_append_left hlt] at hk;exact hk) hv h
 | aptr id ver off v0 z cs v ho hk hv h =>
  intro hi
  cases hi with
  | aptr _ _ _ hlt=>exact .aptr id ver off v0 z cs v ho (by rw[List.getElem?_append_left hlt] at hk;exact hk) hv h
theorem Inv.drop {s1 ex:St} {σ:Sig} {w:World} (h:Inv (s1++ex) σ w) (hc:∀ (id:Nat) (o:Ob),s1[id]?=some o→ObIds s1.length o):Inv s1 σ w where
 cells:=fun id l hl=>by
  have hlt:=zp hl
  obtain⟨b,cs,T,h1,h2,h3,h4,h5⟩:=h.cells id l (by rw[List.getElem?_append_left hlt];exact hl)
  exact⟨b,cs,T,h1,h2,h3,fun j hj=>(h4 j hj).drop (hc id _ hl j hj),h5⟩
 tok:=fun id v b hl hb=>h.tok id v b (by rw[List.getElem?_append_left (zp hl)];exact hl) hb
 inj:=fun i j b hi hj h1 h2=>h.inj i j b (by simp;omega) (by simp;omega) h1 h2
 fresh:=h.fresh
 arrs:=fun id v z cs hk=>by
  have hlt:=zp hk
  refine (h.arrs id v z cs (by rw[List.getElem?_append_left hlt];exact hk)).imp (fun h=>h) fun ⟨b,vals,T,h1,h2,h3,h4,h5⟩=>?_
  exact⟨b,vals,T,h1,h2,h3,fun j hj=>(h4 j hj).drop (hc id _ hk j hj),h5⟩
 maps:=fun id l hl=>by
  have hlt:=zp hl
  obtain⟨b,en,c,h1,h2,h3,h4⟩:=h.maps id l (by rw[List.getElem?_append_left hlt];exact hl)
  exact⟨b,en,c,h1,h2,⟨h3.1,fun j hj=>⟨(h3.2.1 j hj).1,(h3.2.1 j hj).2.drop (hc id _ hl j hj)⟩,h3.2.2⟩,h4⟩
 globs:=fun id b v hl=>h.globs id b v (by rw[List.getElem?_append_left (zp hl)];exact hl)
theorem Ext.drop {s0 s1 ex:St} {σ σ':Sig} {w w':World} (h:Ext s0 σ w (s1++ex) σ' w') (hl:s0.length≤s1.length):Ext s0 σ w s1 σ' w' where
 os:=h.os
 tape:=h.tape
 output:=h.output
 size:=h.size
 lock:=h.lock
 all:=h.all
 kcells:=fun id l hid=>by
  obtain⟨⟨l',h1⟩,h2⟩:=h.kcells id l hid
  have hlt:id<s1.length:=Nat.lt_of_lt_of_le (zp hid) hl
  exact⟨⟨l',by rw[List.getElem?_append_left hlt] at h1;exact h1⟩,h2⟩
 ktok:=fun id v hid=>by
  obtain⟨v',h1,h2,h3⟩:=h.ktok id v hid
  have hlt:id<s1.length:=Nat.lt_of_lt_of_le (zp hid) hl
  exact⟨v',by rw[List.getElem?_append_left hlt] at h1;exact h1,h2,h3⟩
 karrs:=fun id v z c hid=>by
  obtain⟨v',c',h1,h2,h3⟩:=h.karrs id v z c hid
  have hlt:id<s1.length:=Nat.lt_of_lt_of_le (zp hid) hl
  exact⟨v',c',by rw[List.getElem?_append_left hlt] at h1;exact h1,h2,h3⟩
 kmaps:=fun id l hid=>by
  obtain⟨⟨l',h1⟩,h2,h3⟩:=h.kmaps id l hid
  have hlt:id<s1.length:=Nat.lt_of_lt_of_le (zp hid) hl
  exact⟨⟨l',by rw[List.getElem?_append_left hlt] at h1;exact h1⟩,h2,h3⟩
def DX (P:Program) (env:List SV) (st:St):ResultVar→Option SV
 | .tmp t=>some (env.getD t .any)
 | .cell a T=>match env.getD a .any with
  | .ptr id off=>match st[id]? with
   | some (.cells l)=>Zc P T (l.drop off)
   | _=>none
  | .ref l=>Zc P T l
  | _=>none
def YC (P:Program) (env:List SV) (st:St):List ResultVar→Option (List SV)
 | []=>some []
 | r::rs=>(DX P env st r).bind fun x=>(YC P env st rs).map (x :: ·)
def XQ:List SV→SV
 | [x]=>x
 | l =>.tuple l
theorem hF {st:St} {σ:Sig} {w:World} {env:List SV} {a:Array Value} (hI:Inv st σ w) (hR:RepEnv st σ w env a) {r:ResultVar} {x:SV} (h:DX P env st r=some x) :
  ∃ v,(match r with | .tmp t=>pure (a.getD t undef) | .cell p t=>do loadVar t (← asAddr (a.getD p undef)):Sem Value).run P w = .ok v w∧Rep st σ w x v:=by
 cases r with
 | tmp t=>injection h with h;subst h;exact⟨_,rfl,hR.get t⟩
 | cell p T =>
  simp only[DX] at h
  have hr:=hR.get p
  split at h
  ·rename_i id off hp
   rw[hp] at hr
   generalize hv:a.getD p undef=v at hr
   split at h
   ·rename_i l hl
    cases hr with
    | ptr id off b hkk hb =>
     obtain⟨b',cs,T',h1,h2,h3,h4,h5⟩:=hI.cells id l hl
     rw[h1] at hb;cases hb
     obtain⟨v,h6,h7⟩:=QK (st:=st) (σ:=σ) (w:=w) b off (fun j=>cs.getD (off+j) default) h (fun j hj=>by
      simp at hj
      have:off+j<cs.size:=by omega
      simp[World.cell?,h2,Array.getD,this]) (fun j hj=>by
      simp at hj
      have:=h4 (off+j) (by omega)
      simpa[List.getD_eq_getElem?_getD] using this)
     exact⟨v,by simp[hv,asAddr,h6],h7⟩
   ·cases h
  ·rename_i l hp
   rw[hp] at hr
   generalize hv:a.getD p undef=v at hr
   cases hr with
   | ref cells b o vals hc hr =>
    obtain⟨v,h1,h2⟩:=QK b o vals h (fun j hj=>(hc j hj).1) hr
    exact⟨v,by simp[hv,asAddr,h1],h2⟩
  ·cases h
theorem jc {st:St} {σ:Sig} {w:World} {env:List SV} {a:Array Value} (hI:Inv st σ w) (hR:RepEnv st σ w env a):∀ (rs:List ResultVar) (l:List SV),YC P env st rs=some l →
  ∃ vs:List Value,(rs.mapM (fun r=>(match r with | .tmp t=>pure (a.getD t undef) | .cell p t=>do loadVar t (← asAddr (a.getD p undef)):Sem Value))).run P w = .ok vs w∧vs.length=l.length ∧
   ∀ i,i<l.length→Rep st σ w (l.getD i .any) (vs.getD i default)
 | [],l,h=>by injection h with h;subst h;exact⟨[],rfl,rfl,fun i hi=>absurd hi (Nat.not_lt_zero _)⟩
 | r::rs,l,h=>by
  simp only[YC] at h
  cases hx:DX P env st r with
  | none=>simp[hx] at h
  | some x =>
   cases hl:YC P env st rs with
   | none=>simp[hx,hl] at h
   | some l' =>
    simp[hx,hl] at h
    subst h
    obtain⟨v,h1,h2⟩:=hF hI hR hx
    obtain⟨vs,h3,h4,h5⟩:=jc hI hR rs l' hl
    refine⟨v::vs,?_,by simp[h4],fun i hi=>?_⟩
    ·simp only[List.mapM_cons,Sem.run_bind,h1,Result.andThen_ok,h3,Sem.run_pure]
    ·cases i with
     | zero=>exact h2
     | succ i=>simpa using h5 i (by simpa using hi)
theorem W6 {st:St} {σ:Sig} {w:World} {env:List SV} {a:Array Value} {fn:Func} (hI:Inv st σ w) (hR:RepEnv st σ w env a) {l:List SV} (h:YC P env st fn.results.toList=some l) :
  ∃ v,(results fn a).run P w = .ok v w∧Rep st σ w (XQ l) v:=by
 obtain⟨vs,h1,h2,h3⟩:=jc (P:=P) hI hR _ l h
 have h1':(fn.results.mapM (fun r=>(match r with | .tmp t=>pure (a.getD t undef) | .cell p t=>do loadVar t (← asAddr (a.getD p undef)):Sem Value))).run P w = .ok vs.toArray w:=by
  rw[Array.mapM_eq_mapM_toList]
  simp only[Sem.run_map,h1,Result.andThen_ok]
 have h4:(results fn a).run P w = .ok (if h:vs.toArray.size=1 then vs.toArray[0] else .tuple vs.toArray) w:=by
  unfold results
  simp only[Sem.run_bind,Sem.run_pure]
  exact congrArg (fun r=>Result.andThen r (fun a w'=>Result.ok (if h:a.size=1 then a[0] else Value.tuple a) w')) h1'
 refine⟨_,h4,?_⟩
 by_cases hc:∃ x,l=[x]
 ·obtain⟨x,rfl⟩:=hc
  have hv:∃ v,vs=[v]:=by
   cases vs with
   | nil=>simp at h2
   | cons v r=>cases r with
    | nil=>exact⟨v,rfl⟩
    | cons _ _=>simp at h2
  obtain⟨v,rfl⟩:=hv
  simpa[XQ] using h3 0 (by simp)
 ·have hne:¬ vs.toArray.size=1:=by
   intro e
   have e':l.length=1:=by rw[←h2];simpa using e
   exact hc (List.length_eq_one_iff.1 e')
  rw[dif_neg hne]
  have ho:XQ l = .tuple l:=by
   unfold XQ
   split
   ·exact absurd ⟨_,rfl⟩ hc
   ·rfl
  rw[ho]
  refine .tuple l _ (by simpa using h2) fun i hi=>?_
  have:=h3 i hi
  simpa[Array.getD_eq_getD_getElem?,List.getD_eq_getElem?_getD] using this
def rd (P:Program) (fn:Func) (K:SV→St→Prop):Exit→List SV→St→Prop:=fun e env st =>
 (match e with | .normal=>True | .ret=>True | _=>False)∧∃ l,YC P env st fn.results.toList=some l∧K (XQ l) st
theorem ya {f:FuncId} {fn:Func} {c:Code} {args:List SV} {K:SV→St→Prop} {st:St} (hf:P.funcs[f]?=some fn) (hb:fn.body=some c)
  (h:AWp P c (rd P fn K) (args++List.replicate (fn.ntmps-args.length) .any) st):ACalls P f args K st:=by
 intro σ w vs hI hR
 refine calls_of_wp hf hb (wp_mono (h σ w { tmps:=vs++Array.replicate (fn.ntmps-vs.size) undef,defers:=[] } hI ⟨by simp[hR.1],fun i hi=>?_⟩ rfl) fun e a' w' hp=>?_)
 ·rw[Array.getD_eq_getD_getElem?,List.getD_eq_getElem?_getD]
  by_cases c1:i<args.length
  ·rw[List.getElem?_append_left c1,Array.getElem?_append_left (by rw[hR.1];exact c1)]
   have:=hR.2 i c1
   rwa[Array.getD_eq_getD_getElem?,List.getD_eq_getElem?_getD] at this
  ·rw[List.getElem?_append_right (by omega),List.getElem?_replicate]
   split <;> exact .any _
 ·obtain⟨hd,env',st',σ',⟨he,l,hl,hk⟩,hI',hR',hX⟩:=hp
  obtain⟨v,h1,h2⟩:=W6 (P:=P) hI' hR' hl
  cases e <;> simp only at he <;> exact⟨hd,v,h1,v,_,st',σ',rfl,hk,hI',h2,hX⟩
theorem El {f:FuncId} {args:List SV} {K:SV→St→Prop} {st:St}
  (h:ACalls P f args (fun x s=>∃ s1 ex,s=s1++ex∧st.length≤s1.length∧(∀ (id:Nat) (o:Ob),s1[id]?=some o→ObIds s1.length o)∧Ids s1.length (norm x)∧K (norm x) s1) st) :
  ACalls P f args K st:=by
 intro σ w vs hI hR
 refine (h σ w vs hI hR).mono ?_
 rintro e w' ⟨v,x,st',σ',rfl,⟨s1,ex,rfl,hl,hc,hids,hk⟩,hI',hr,hX⟩
 exact⟨v,norm x,s1,σ',rfl,hk,hI'.drop hc,hr.norm.drop hids,hX.drop hl⟩
theorem H7 {f:FuncId} {args:List SV} {K:SV→St→Prop} {st:St}
  (h:ACalls P f args (fun x s=>∃ ex,s=st++ex∧Ids st.length (norm x)∧K (norm x) st) st):ACalls P f args K st:=by
 intro σ w vs hI hR
 refine El (h.mono ?_) σ w vs hI hR
 rintro x s ⟨ex,rfl,hids,hk⟩
 exact⟨st,ex,rfl,Nat.le_refl _,hI.obIds,hids,hk⟩
end Go.AL
namespace Go.AL
variable {P:Program}
theorem Ht {o:Oper} {t e:TypeId} {x y:Operand} {k:IntKind} {i:Int} {id z off len cap:Nat} {ρ:Operand→SV} {st:St}
  (ho:o.op = .indexAddr t x y) (hx:ρ x = .slc id z off len cap) (hy:ρ y = .sc (.int k i)) (he:zY P t=some e) (hz:qd P e=some z)
  (h0:0≤i) (hi:i<len):Zl P o ρ st (.ptr id (off+i.toNat*z)):=by
 intro σ w a hI hR
 have hr:=hR x (by simp[ho,Op.operands])
 rw[hx] at hr
 have e2:=qL (by have:=hR y (by simp[ho,Op.operands]);rw[hy] at this;exact this)
 generalize hv:a.eval x=v at hr
 cases hr with
 | slc id z off len cap b hk hb hc =>
  exact⟨_,by simp[execOp,ho,hv,e2,Instr.indexAt,asIntOf,run_underlying (qq he),h0,hi,qm hz,Z0],.ptr id _ b hk hb⟩
theorem wA {o:Oper} {t e:TypeId} {x:Operand} {id z off len cap:Nat} {ρ:Operand→SV} {st:St}
  (ho:o.op = .call { callee :=.builtin .len,args:=#[x],argTypes:=#[t] }) (hx:ρ x = .slc id z off len cap) (he:zY P t=some e):Zl P o ρ st (.sc (.int .i64 len)):=by
 intro σ w a hI hR
 have hr:=hR x (by simp[ho,Op.operands,Call.operands])
 rw[hx] at hr
 generalize hv:a.eval x=v at hr
 cases hr with
 | slc id z off len cap b hk hb hc =>
  exact⟨_,by simp[execOp,ho,resolve,invoke,builtin,hv,Builtin.len_,run_underlying (qq he),goInt],.sc _⟩
theorem Ff {o:Oper} {t e:TypeId} {x:Operand} {lo hi:Option Operand} {nl nh:Int} {id z off len cap:Nat} {ρ:Operand→SV} {st:St}
  (ho:o.op = .slice t x lo hi none) (hx:ρ x = .slc id z off len cap) (he:zY P t=some e) (hz:qd P e=some z)
  (hl:qG ρ lo 0=some nl) (hh:qG ρ hi len=some nh) (h0:0≤nl) (h1:nl≤nh) (h2:nh≤cap) :
  Zl P o ρ st (.slc id z (if cap=nl.toNat then off else off+nl.toNat*z) (nh.toNat-nl.toNat) (cap-nl.toNat)):=by
 intro σ w a hI hR
 have hr:=hR x (by simp[ho,Op.operands])
 rw[hx] at hr
 generalize hv:a.eval x=v at hr
 cases hr with
 | slc id z off len cap b hk hb hc =>
  refine⟨.slice (some (if cap=nl.toNat then ⟨b,off,none⟩ else (⟨b,off,none⟩:Addr).add (nl.toNat*z))) (nh.toNat-nl.toNat) (cap-nl.toNat),?_,?_⟩
  ·have eh:(match hi.map a.eval with | some v=>Instr.sliceBound v cap .sliceAcap | none=>pure len).run P w = .ok nh.toNat w:=by
    cases hi with
    | none=>simp[qG] at hh;subst hh;simp
    | some y=>exact Xj (P:=P) (hR y (by simp[ho,Op.operands])) (y:=y) (n:=nh) (by simpa[qG] using hh) (by omega) _ h2 _
   have hb:(Instr.sliceBounds true len cap (lo.map a.eval) (hi.map a.eval) none).run P w = .ok (nl.toNat,nh.toNat,cap) w:=by
    cases lo with
    | none=>simp[qG] at hl;subst hl;cases hi <;> simp[Instr.sliceBounds] at eh ⊢ <;> simp[eh]
    | some y =>
     have el:=Xj (P:=P) (hR y (by simp[ho,Op.operands])) (y:=y) (n:=nl) (by simpa[qG] using hl) h0 nh.toNat (by omega) .sliceB
     cases hi <;> simp[Instr.sliceBounds] at eh ⊢ <;> simp[eh,el]
   simp[execOp,ho,hv,Instr.sliceAt,Instr.slice,run_underlying (qq he),hb,qm hz]
   split <;> rfl
  ·by_cases c:cap=nl.toNat
   ·rw[if_pos c,if_pos c];exact .slc id z off _ _ b hk hb (by omega)
   ·rw[if_neg c,if_neg c,Z0];exact .slc id z _ _ _ b hk hb (by omega)
theorem JT {z:Nat}:∀ (l:List SV),(∀ x∈l,x.cells.length=z)→(l.flatMap SV.cells).length=l.length*z
 | [],_=>by simp
 | x::r,h=>by
  rw[List.flatMap_cons,List.length_append,JT r (fun y hy=>h y (by simp[hy])),h x (by simp),List.length_cons,Nat.add_mul,Nat.one_mul,Nat.add_comm]
theorem DI {z:Nat}:∀ (l:List SV) (i j:Nat),(∀ x∈l,x.cells.length=z)→i<l.length→j<z→(l.flatMap SV.cells).getD (i*z+j) .any=(l.getD i .any).cells.getD j .any
 | [],i,j,_,hi,_=>absurd hi (Nat.not_lt_zero _)
 | x::r,i,j,h,hi,hj=>by
  have hx:=h x (by simp)
  rw[List.flatMap_cons,List.getD_eq_getElem?_getD]
  cases i with
  | zero =>
   rw[Nat.zero_mul,Nat.zero_add,List.getElem?_append_left (by omega)]
   simp[List.getD_eq_getElem?_getD]
  | succ i =>
   have e:(i+1)*z+j=x.cells.length+(i*z+j):=by rw[hx,Nat.add_mul,Nat.one_mul];omega
   rw[e,List.getElem?_append_right (by omega),Nat.add_sub_cancel_left,←List.getD_eq_getElem?_getD,DI r i j (fun y hy=>h y (by simp[hy])) (by simpa using hi) hj]
   simp
theorem V' {st:St} {σ:Sig} {w:World} {m:Mode} {z:Nat} {l:List SV} {a:Option Addr} {len cap:Nat} (h:Rep st σ w (.slice m z l) (.slice a len cap)) (n:Nat) (hn:n≤l.length) :
  (∃ cs:Array Value,(Builtin.firstCells z n (.slice a len cap)).run P w = .ok cs w∧Jj st σ w ((l.take n).flatMap SV.cells) cs)∧∀ x∈l,x.cells.length=z:=by
 obtain⟨ad,cap',he,hcap⟩:=Zk h
 cases he
 have hsub:=FO h 0 n cap (Nat.zero_le _) hn (by omega) (Nat.le_refl _) .imm (.inl rfl)
 have hz:∀ x∈l,x.cells.length=z:=by
  intro x hx
  obtain⟨_,_,_,_,h4⟩:=XB (P:=P) h
  obtain⟨i,hi⟩:=List.getElem?_of_mem hx
  have:=h4 i (zp hi)
  rwa[List.getD_eq_getElem?_getD,hi] at this
 refine⟨?_,hz⟩
 obtain⟨cs,h1,h2,h3,h4⟩:=XB (P:=P) hsub
 simp only[List.drop_zero,Nat.sub_zero] at h1 h2 h3 h4
 have hlen:(l.take n).length=n:=by simp;omega
 rw[hlen] at h1 h2 h3
 have hz':∀ x∈l.take n,x.cells.length=z:=fun x hx=>hz x (List.mem_of_mem_take hx)
 refine⟨cs,?_,?_,fun p hp=>?_⟩
 ·have e:(Builtin.firstCells z n (.slice a l.length cap))=(Builtin.firstCells z n (.slice (if cap=0 then a else a.map (·.add (0*z))) n cap)):=by
   have:(if cap=0 then a else a.map (·.add (0*z)))=a:=by
    split
    ·rfl
    ·cases a <;> simp[Addr.add]
   rw[this]
   cases a <;> rfl
  rw[e];exact h1
 ·rw[h2,JT _ hz',hlen]
 ·rw[JT _ hz',hlen] at hp
  have hz0:0<z:=by
   rcases Nat.eq_zero_or_pos z with h | h
   ·subst h;simp at hp
   ·exact h
  have hi:p / z<n:=by rw[Nat.div_lt_iff_lt_mul hz0];exact hp
  have hj:p % z<z:=Nat.mod_lt _ hz0
  have:=h3 (p / z) (p % z) hi hj
  rw[←DI (l.take n) (p / z) (p % z) hz' (by omega) hj] at this
  rwa[Nat.mul_comm (p / z) z,Nat.div_add_mod] at this
theorem pb {st:St} {σ:Sig} {w:World} (hI:Inv st σ w) {id b:Nat} {l:List SV} (hl:st[id]?=some (.cells l)) (hb:σ.μ id=some b) (off n len cap z:Nat) (hn:off+n*z≤l.length) :
  ∃ cs:Array Value,(Builtin.firstCells z n (.slice (some ⟨b,off,none⟩) len cap)).run P w = .ok cs w∧Jj st σ w ((l.drop off).take (n*z)) cs:=by
 obtain⟨b',cs,T,h1,h2,h3,h4,h5⟩:=hI.cells id l hl
 rw[h1] at hb;cases hb
 have hrun:=run_loadCells (P:=P) (w:=w) ⟨b,off,none⟩ (n*z) (fun p=>cs.getD (off+p) default) (fun p hp=>by
  rw[Z0]
  have:off+p<cs.size:=by omega
  simp[World.cell?,h2,Array.getD,this])
 refine⟨_,by simpa[Builtin.firstCells] using hrun,by simp;omega,fun p hp=>?_⟩
 have hp':p<n*z:=by simp at hp;omega
 have:=h4 (off+p) (by omega)
 simpa[Array.getD_eq_getD_getElem?,hp',List.getD_eq_getElem?_getD,List.getElem?_take] using this
theorem Hv {st:St} {σ:Sig} {w:World} (hI:Inv st σ w) {id b:Nat} {l xs:List SV} {vs:Array Value} (hl:st[id]?=some (.cells l)) (hb:σ.μ id=some b) (off:Nat)
  (hx:Jj st σ w xs vs) (hok:xs.all QC=true) (hle:off+xs.length≤l.length) :
  ∃ w',(storeCells ⟨b,off,none⟩ vs.toList).run P w = .ok () w'∧Inv (st.set id (.cells (ZP l off xs))) σ w'∧Ext st σ w (st.set id (.cells (ZP l off xs))) σ w':=by
 obtain⟨b',cs,T,h1,h2,h3,h4,h5⟩:=hI.cells id l hl
 rw[h1] at hb;cases hb
 have hrow:=L7 off (cs:=cs) ⟨h3,h4⟩ hx hle
 have hst:=run_storeCells_at (P:=P) b off T vs.toList 0 cs w h2 (by simp[hx.1,h3];omega) (Un hok hx)
 simp only[Nat.add_zero] at hst
 have hoth:∀ c,c≠b→(w.setRow b (cs.toList.take off++vs.toList++cs.toList.drop (off+vs.toList.length)).toArray).heap[c]?=w.heap[c]?:=fun c hc=>setRow_other _ _ _ _ hc
 exact⟨_,hst,hI.write hl h1 h5 rfl rfl rfl (by simp) hoth (setRow_heap w b cs _ T _ h2) hrow.1 hrow.2,Ext.write hI hl h1 h5 rfl rfl rfl (by simp) hoth⟩
theorem Gh {o:Oper} {t:TypeId} {ts:TypeId} {e:TypeId} {x y:Operand} {id z off len cap:Nat} {m:Mode} {ys l:List SV} {K:SV→St→Prop} {env:List SV} {st:St}
  (ho:o.op = .call { callee :=.builtin .copy,args:=#[x,y],argTypes:=#[t,ts] }) (hx:ev env x = .slc id z off len cap) (hy:ev env y = .slice m z ys) (hl:st[id]?=some (.cells l))
  (he:zY P t=some e) (hz:qd P e=some z) (hle:off+(min ys.length len)*z≤l.length) (hok:∀ s∈ys,ZV s=true)
  (hk:K (.sc (.int .i64 (min ys.length len:Nat))) (st.set id (.cells (ZP l off ((ys.take (min ys.length len)).flatMap SV.cells))))):AOp P o K env st :=
 Zx fun σ w a hI hR=>by
  have r1:=qC hR x
  rw[hx] at r1
  have r2:=qC hR y
  rw[hy] at r2
  generalize hv:a.eval x=v at r1
  generalize hu:a.eval y=u at r2
  obtain⟨ay,cy,rfl,hcy⟩:=Zk r2
  cases r1 with
  | slc id z off len cap b hkk hb hc =>
   obtain⟨⟨cs,g1,g2⟩,g3⟩:=V' (P:=P) r2 (min ys.length len) (Nat.min_le_left _ _)
   have hlen:((ys.take (min ys.length len)).flatMap SV.cells).length=(min ys.length len)*z:=by
    rw[JT _ (fun s hs=>g3 s (List.mem_of_mem_take hs)),List.length_take,Nat.min_eq_left (Nat.min_le_left _ _)]
   obtain⟨w',k1,k2,k3⟩:=Hv (P:=P) hI hl hb off g2 (by
    rw[List.all_eq_true]
    intro s hs
    rw[List.mem_flatMap] at hs
    obtain⟨q,hq,hs⟩:=hs
    have:=hok q (List.mem_of_mem_take hq)
    unfold ZV at this
    rw[List.all_eq_true] at this
    exact this s hs) (by rw[hlen];exact hle)
   refine⟨.int .i64 (min ys.length len:Nat),w',_,_,σ,?_,hk,k2,.sc _,k3⟩
   have hm:Nat.min ys.length len=min ys.length len:=rfl
   simp[execOp,ho,resolve,invoke,builtin,hv,hu,Builtin.copy_,run_underlying (qq he),Builtin.lenOf,qm hz,hm,g1,k1,goInt]
theorem F6 {o:Oper} {t:TypeId} {ts:TypeId} {e:TypeId} {x y:Operand} {id z off len cap id' off' len' cap':Nat} {l l':List SV} {K:SV→St→Prop} {env:List SV} {st:St}
  (ho:o.op = .call { callee :=.builtin .copy,args:=#[x,y],argTypes:=#[t,ts] }) (hx:ev env x = .slc id z off len cap) (hy:ev env y = .slc id' z off' len' cap') (hl:st[id]?=some (.cells l))
  (hl':st[id']?=some (.cells l')) (he:zY P t=some e) (hz:qd P e=some z) (hle:off+(min len' len)*z≤l.length) (hle':off'+(min len' len)*z≤l'.length)
  (hok:((l'.drop off').take ((min len' len)*z)).all QC=true)
  (hk:K (.sc (.int .i64 (min len' len:Nat))) (st.set id (.cells (ZP l off ((l'.drop off').take ((min len' len)*z)))))):AOp P o K env st :=
 Zx fun σ w a hI hR=>by
  have r1:=qC hR x
  rw[hx] at r1
  have r2:=qC hR y
  rw[hy] at r2
  generalize hv:a.eval x=v at r1
  generalize hu:a.eval y=u at r2
  cases r1 with
  | slc id z off len cap b hkk hb hc =>
   cases r2 with
   | slc id' z off' len' cap' b' hkk' hb' hc' =>
    obtain⟨cs,g1,g2⟩:=pb (P:=P) hI hl' hb' off' (min len' len) len' cap' z hle'
    obtain⟨w',k1,k2,k3⟩:=Hv (P:=P) hI hl hb off g2 hok (by simp;omega)
    refine⟨.int .i64 (min len' len:Nat),w',_,_,σ,?_,hk,k2,.sc _,k3⟩
    have hm:Nat.min len' len=min len' len:=rfl
    simp[execOp,ho,resolve,invoke,builtin,hv,hu,Builtin.copy_,run_underlying (qq he),Builtin.lenOf,qm hz,hm,g1,k1,goInt]
def Yy (zs:List SV):Nat→List SV
 | 0=>[]
 | n+1=>zs++Yy zs n
theorem VC (zs:List SV):∀ n,(Yy zs n).length=n*zs.length
 | 0=>by simp[Yy]
 | n+1=>by rw[Yy,List.length_append,VC zs n,Nat.add_mul,Nat.one_mul,Nat.add_comm]
theorem HQ (zs:List SV) (hz:0<zs.length):∀ (n p:Nat),p<n*zs.length→(Yy zs n).getD p .any=zs.getD (p % zs.length) .any
 | 0,p,h=>by omega
 | n+1,p,h=>by
  rw[Yy,List.getD_eq_getElem?_getD]
  by_cases c:p<zs.length
  ·rw[List.getElem?_append_left c,Nat.mod_eq_of_lt c,List.getD_eq_getElem?_getD]
  ·have h2:p-zs.length<n*zs.length:=by rw[Nat.add_mul,Nat.one_mul] at h;omega
   rw[List.getElem?_append_right (Nat.not_lt.1 c),←List.getD_eq_getElem?_getD,HQ zs hz n _ h2]
   congr 1
   exact (Nat.mod_eq_sub_mod (Nat.not_lt.1 c)).symm
theorem U' {st:St} {σ:Sig} {w:World} (v:Value) (n:Nat):Jj st σ w (Yy (v.cells.toList.map Kx) n) (Builtin.zeroCells v.cells n):=by
 refine⟨by rw[JX,VC];simp,fun p hp=>?_⟩
 rw[VC] at hp
 have hz:0<(v.cells.toList.map Kx).length:=by
  rcases Nat.eq_zero_or_pos (v.cells.toList.map Kx).length with h | h
  ·rw[h] at hp;simp at hp
  ·exact h
 rw[HQ _ hz _ _ hp]
 have hz':0<v.cells.size:=by simpa using hz
 have hm:p % v.cells.size<v.cells.size:=Nat.mod_lt _ hz'
 have hp':p<n*v.cells.size:=by simpa using hp
 have:=(VN (st:=st) (σ:=σ) (w:=w) v.cells).2 (p % v.cells.size) (by simpa using hm)
 simpa[Builtin.zeroCells,Array.getD_eq_getD_getElem?,hp',hm] using this
theorem xe {o:Oper} {t e:TypeId} {x:Operand} {id z off len cap:Nat} {l zs:List SV} {K:SV→St→Prop} {env:List SV} {st:St}
  (ho:o.op = .call { callee :=.builtin .clear,args:=#[x],argTypes:=#[t] }) (hx:ev env x = .slc id z off len cap) (hl:st[id]?=some (.cells l))
  (he:zY P t=some e) (hzs:Zj P e=some zs) (hle:off+len*zs.length≤l.length) (hok:zs.all QC=true)
  (hk:K .any (if len=0 then st else st.set id (.cells (ZP l off (Yy zs len))))):AOp P o K env st :=
 Zx fun σ w a hI hR=>by
  have r1:=qC hR x
  rw[hx] at r1
  generalize hv:a.eval x=v at r1
  obtain⟨i,zv,h1,h2,rfl⟩:=Jz hzs
  cases r1 with
  | slc id z off len cap b hkk hb hc =>
   by_cases h0:len=0
   ·subst h0
    rw[if_pos rfl] at hk
    exact⟨.tuple #[],w,_,st,σ,by simp[execOp,ho,resolve,invoke,builtin,hv,Builtin.clear_,run_underlying (qq he)],hk,hI,.any _,Ext.refl _ _ _⟩
   ·rw[if_neg h0] at hk
    obtain⟨w',k1,k2,k3⟩:=Hv (P:=P) hI hl hb off (U' (st:=st) (σ:=σ) (w:=w) zv len) (by
     rw[List.all_eq_true] at hok ⊢
     intro s hs
     obtain⟨p,hp⟩:=List.getElem?_of_mem hs
     have hlt:=zp hp
     rw[VC] at hlt
     have hz:0<(zv.cells.toList.map Kx).length:=by
      rcases Nat.eq_zero_or_pos (zv.cells.toList.map Kx).length with h | h
      ·rw[h] at hlt;simp at hlt
      ·exact h
     have h3:=HQ _ hz _ _ hlt
     rw[List.getD_eq_getElem?_getD,hp] at h3
     simp only[Option.getD_some] at h3
     rw[h3,List.getD_eq_getElem?_getD,List.getElem?_eq_getElem (Nat.mod_lt _ hz)]
     exact hok _ (List.getElem_mem _)) (by rw[VC];exact hle)
    refine⟨.tuple #[],w',_,_,σ,?_,hk,k2,.any _,k3⟩
    obtain⟨n,rfl⟩:∃ n,len=n+1:=⟨len-1,by omega⟩
    simp[execOp,ho,resolve,invoke,builtin,hv,Builtin.clear_,run_underlying (qq he),XM h1 h2,k1]
theorem GK {o:Oper} {t e:TypeId} {x y:Operand} {k k':IntKind} {n m:Int} {z by':Nat} {zs:List SV} {K:SV→St→Prop} {env:List SV} {st:St}
  (ho:o.op = .makeSlice t x y) (hx:ev env x = .sc (.int k n)) (hy:ev env y = .sc (.int k' m)) (he:zY P t=some e) (hz:qd P e=some z) (hzs:Zj P e=some zs) (hzl:zs.length=z)
  (hby:QH P e=some by') (h0:0≤n) (h1:n≤m) (h2:m≤4611686018427387904) (hb:m.toNat*by'≤281474976710656)
  (hk:K (.slc st.length z 0 n.toNat m.toNat) (st++[.cells (Yy zs m.toNat)])):AOp P o K env st :=
 Zx fun σ w a hI hR=>by
  have e1:=qL (by have:=qC hR x;rw[hx] at this;exact this)
  have e2:=qL (by have:=qC hR y;rw[hy] at this;exact this)
  obtain⟨i,v,hi,hv,rfl⟩:=Jz hzs
  have hvz:v.cells.size=z:=by simpa using hzl
  obtain⟨σ',g1,g2,g3⟩:=F4 hI _ _ e (U' (st:=st) (σ:=σ) (w:=w) v m.toNat)
  refine⟨.slice (some ⟨w.heap.size,0,none⟩) n.toNat m.toNat,_,_,_,σ',?_,hk,g1,?_,g2⟩
  ·have hbi:i.bytes=by':=UR hby hi
   have w1:IntKind.i64.wrap n=n:=by rw[IntKind.wrap_i64];omega
   have w2:IntKind.i64.wrap m=m:=by rw[IntKind.wrap_i64];omega
   have t1:¬ ((i.bytes:Int)*m > 281474976710656):=by
    rw[hbi]
    obtain⟨q,rfl⟩:=Int.eq_ofNat_of_zero_le (show 0≤m by omega)
    have:q*by'≤281474976710656:=by simpa using hb
    have h3:(by':Int)*(q:Int)=((q*by':Nat):Int):=by rw[Nat.mul_comm];simp
    rw[h3]
    omega
   have c1:¬ m<0:=by omega
   have c2:¬ n<0:=by omega
   have c3:¬ m<n:=by omega
   have c4:¬ (281474976710656<(i.bytes:Int)*m):=t1
   have harr:∀ zz:Array Value,(zz=if m.toNat*z=0 then #[] else v.cells)→(Array.range (m.toNat*z)).map (fun j=>zz[j % zz.size]!)=Builtin.zeroCells v.cells m.toNat:=by
    intro zz hzz
    unfold Builtin.zeroCells
    rw[hvz]
    by_cases q:m.toNat*z=0
    ·rw[q];simp
    ·rw[hzz,if_neg q,hvz]
   simp[execOp,ho,e1,e2,Instr.makeSlice,run_underlying (qq he),asInt,asIntOf,Jc hi,w1,w2,c1,c2,c3,c4,qm hz]
   by_cases q:m.toNat*z=0
   ·have h3:=harr #[] (by rw[if_pos q])
    simp[q] at h3 ⊢
    rw[←h3]
    simp[newRow]
   ·have h3:=harr v.cells (by rw[if_neg q])
    simp[q,XM hi hv]
    rw[h3]
    simp[newRow]
  ·have:∀ {sv:SV} {u:Value},Rep (st++[.cells (Yy (v.cells.toList.map Kx) m.toNat)]) σ' { w with heap:=w.heap.push (.cells (Builtin.zeroCells v.cells m.toNat) e) } sv u→sv = .ptr st.length 0→u = .pointer (some ⟨w.heap.size,0,none⟩) →
     Rep (st++[.cells (Yy (v.cells.toList.map Kx) m.toNat)]) σ' { w with heap:=w.heap.push (.cells (Builtin.zeroCells v.cells m.toNat) e) } (.slc st.length z 0 n.toNat m.toNat) (.slice (some ⟨w.heap.size,0,none⟩) n.toNat m.toNat):=by
    intro sv u hr hs hu
    subst hs
    cases hr with
    | ptr id off b hkk hb=>cases hu;exact .slc _ _ _ _ _ _ hkk hb (by omega)
   exact this g3 rfl rfl
theorem GR {o:Oper} {t e tx ex:TypeId} {z z0 by':Nat} {m:Mode} {x y:Operand} {xs zs:List SV} {K:SV→St→Prop} {env:List SV} {st:St}
  (ho:o.op = .call { callee :=.builtin .append,args:=#[x,y],argTypes:=#[t,tx] }) (hx:ev env x = .slice .full z0 []) (hy:ev env y = .slice m z xs) (hne:xs≠[])
  (he:zY P t=some e) (hxe:zY P tx=some ex) (hz:qd P e=some z) (hzs:Zj P e=some zs) (hzl:zs.length=z) (hby:QH P e=some by')
  (hb:(2*xs.length+192)*by'≤281474976710656) (hn:xs.length<4611686018427387904)
  (hk:∀ cap,xs.length≤cap→K (.slc st.length z 0 xs.length cap) (st++[.cells (xs.flatMap SV.cells++Yy zs (cap-xs.length))])):AOp P o K env st :=
 Zx fun σ w a hI hR=>by
  have r1:=qC hR x
  rw[hx] at r1
  have r2:=qC hR y
  rw[hy] at r2
  generalize hv:a.eval x=v at r1
  generalize hu:a.eval y=u at r2
  have r1':=Xk (z':=z) r1 (.inl rfl)
  obtain⟨ad,cap,rfl,hcap⟩:=Zk r1'
  obtain⟨ax,cx,rfl,hcx⟩:=Zk r2
  have hcl:cap=0:=by
   cases r1' with
   | nil m z hm=>rfl
   | slice m z l a cap vals hcap hsp hzz hc hr hm=>exact hm
  subst hcl
  have hpos:0<xs.length:=List.length_pos_iff.2 hne
  obtain⟨i,v,hi,hzv,rfl⟩:=Jz hzs
  have hvz:v.cells.size=z:=by simpa using hzl
  have hd:Ext st σ w st σ { w with drawn:=w.drawn+1 }:=Ext.drew _
  obtain⟨old,o1,o2,_⟩:=XB (P:=P) (r1'.ext hd)
  obtain⟨⟨new,n1,n2⟩,n3⟩:=V' (P:=P) (r2.ext hd) xs.length (Nat.le_refl _)
  rw[List.take_length] at n2
  have ho0:old=#[]:=by
   have:old.size=0:=by simpa using o2
   exact Array.eq_empty_of_size_eq_zero this
  subst ho0
  obtain⟨newCap,g1,g2⟩:=YY (w:=w) (ty:=o.type) he hxe hz hi hzv o1 n1 (by simpa using hpos) (Nat.le_refl _) (by rw[UR hby hi];simpa using hb) (by simpa using hn)
  simp only[List.length_nil,Nat.zero_add,Array.empty_append] at g1 g2
  have hId:=hI.drew (w.drawn+1)
  have hrl:Jj st σ { w with drawn:=w.drawn+1 } (xs.flatMap SV.cells++Yy (v.cells.toList.map Kx) (newCap-xs.length)) (new++Builtin.zeroCells v.cells (newCap-xs.length)):=by
   have hz0:=U' (st:=st) (σ:=σ) (w:={ w with drawn:=w.drawn+1 }) v (newCap-xs.length)
   refine⟨by rw[Array.size_append,List.length_append,n2.1,hz0.1],fun p hp=>?_⟩
   rw[List.length_append] at hp
   rw[Array.getD_eq_getD_getElem?,List.getD_eq_getElem?_getD]
   by_cases c:p<(xs.flatMap SV.cells).length
   ·rw[List.getElem?_append_left c,Array.getElem?_append_left (by rw[n2.1];exact c),←Array.getD_eq_getD_getElem?,←List.getD_eq_getElem?_getD]
    exact n2.2 p c
   ·rw[List.getElem?_append_right (Nat.not_lt.1 c),Array.getElem?_append_right (by rw[n2.1];exact Nat.not_lt.1 c),←Array.getD_eq_getD_getElem?,←List.getD_eq_getElem?_getD,n2.1]
    exact hz0.2 _ (by omega)
  obtain⟨σ',k1,k2,k3⟩:=F4 hId _ _ e hrl
  refine⟨.slice (some ⟨w.heap.size,0,none⟩) xs.length newCap,_,_,_,σ',?_,hk newCap g1,k1,?_,hd.trans k2⟩
  ·simp only[execOp,ho,resolve,invoke,builtin]
   simp[hv,hu,g2]
   try rfl
  ·generalize hsv:SV.ptr st.length 0=sv at k3
   generalize huu:Value.pointer (some ⟨({ w with drawn:=w.drawn+1 }:World).heap.size,0,none⟩)=uu at k3
   cases k3 with
   | ptr id off b hkk hb=>cases hsv;cases huu;exact .slc _ _ _ _ _ _ hkk hb g1
   | _=>cases hsv
end Go.AL
namespace Go.AL
open Go
variable {P:Program}
def Xe:Operand→Bool
 | .const (.slice none 0 0)=>true
 | .const (.pointer none)=>true
 | .const .nilFunc=>true
 | .const (.map none)=>true
 | _=>false
def JC (P:Program) (t:TypeId):Bool:=match P.underlying t with | some (.func _ _ _)=>true | _=>false
def Lg (P:Program) (t:TypeId):Bool:=match P.underlying t with | some (.map _ _)=>true | _=>false
def J2 (P:Program) (t:TypeId):Bool:=match P.underlying t with | some (.pointer _)=>true | _=>false
def WM (op:BinOp):SV→SV
 | .slice _ _ _ =>.sc (.bool (op matches .neq))
 | .slc _ _ _ _ _ =>.sc (.bool (op matches .neq))
 | .ref _ =>.sc (.bool (op matches .neq))
 | .ptr _ _ =>.sc (.bool (op matches .neq))
 | .sc (.pointer none) =>.sc (.bool (op matches .eql))
 | .func _ _ _ =>.sc (.bool (op matches .neq))
 | .sc .nilFunc =>.sc (.bool (op matches .eql))
 | .mp _ =>.sc (.bool (op matches .neq))
 | .sc (.map none) =>.sc (.bool (op matches .eql))
 | _ =>.any
def Qz (P:Program) (op:BinOp) (t:TypeId) (y:Operand) (x:SV):Prop :=
 (op = .eql∨op = .neq)∧match x with
 | .slice _ _ l=>y = .const (.slice none 0 0)∧l≠[]∧(zY P t).isSome=true
 | .slc _ _ _ _ _=>y = .const (.slice none 0 0)∧(zY P t).isSome=true
 | .ref _=>y = .const (.pointer none)∧J2 P t=true
 | .ptr _ _=>y = .const (.pointer none)∧J2 P t=true
 | .sc (.pointer none)=>y = .const (.pointer none)∧J2 P t=true
 | .func _ _ _=>y = .const .nilFunc∧JC P t=true
 | .sc .nilFunc=>y = .const .nilFunc∧JC P t=true
 | .mp _=>y = .const (.map none)∧Lg P t=true
 | .sc (.map none)=>y = .const (.map none)∧Lg P t=true
 | _=>False
theorem DZ {t:TypeId} (h:J2 P t=true):∃ e,P.underlying t=some (.pointer e):=by
 unfold J2 at h
 split at h
 ·rename_i e he;exact⟨e,he⟩
 ·cases h
theorem Ue (w:World) (d:Nat) {t e:TypeId} {a:Addr} {n c:Nat} (h:P.underlying t=some (.slice e)):(Op.equalIn (d+1) t (.slice (some a) n c) (.slice none 0 0)).run P w = .ok false w:=by
 simp[Op.equalIn,run_underlying h]
theorem X6 (w:World) {t e:TypeId} {a:Addr} {n c:Nat} (h:P.underlying t=some (.slice e)):(Op.equal t (.slice (some a) n c) (.slice none 0 0)).run P w = .ok false w:=Ue w 9999 h
theorem EE (w:World) (d:Nat) {t e:TypeId} {a:Option Addr} (h:P.underlying t=some (.pointer e)):(Op.equalIn (d+1) t (.pointer a) (.pointer none)).run P w = .ok a.isNone w:=by
 cases a <;> simp[Op.equalIn,run_underlying h]
theorem Xh (w:World) {t e:TypeId} {a:Option Addr} (h:P.underlying t=some (.pointer e)):(Op.equal t (.pointer a) (.pointer none)).run P w = .ok a.isNone w:=EE w 9999 h
theorem Bf {t:TypeId} (h:JC P t=true):∃ a b c,P.underlying t=some (.func a b c):=by
 unfold JC at h
 split at h
 ·rename_i a b c he;exact⟨a,b,c,he⟩
 ·cases h
theorem jb {t:TypeId} (h:Lg P t=true):∃ a b,P.underlying t=some (.map a b):=by
 unfold Lg at h
 split at h
 ·rename_i a b he;exact⟨a,b,he⟩
 ·cases h
theorem Hk (w:World) (d:Nat) {t:TypeId} {p q:Array TypeId} {c:Bool} {f:Fn} {x y:Array Value} (h:P.underlying t=some (.func p q c)):(Op.equalIn (d+1) t (.func f x y) .nilFunc).run P w = .ok false w:=by
 simp[Op.equalIn,run_underlying h]
theorem Uf (w:World) (d:Nat) {t:TypeId} {p q:Array TypeId} {c:Bool} (h:P.underlying t=some (.func p q c)):(Op.equalIn (d+1) t .nilFunc .nilFunc).run P w = .ok true w:=by
 simp[Op.equalIn,run_underlying h]
theorem Eu (w:World) (d:Nat) {t k e:TypeId} {b:Option Nat} (h:P.underlying t=some (.map k e)):(Op.equalIn (d+1) t (.map b) (.map none)).run P w = .ok b.isNone w:=by
 cases b <;> simp[Op.equalIn,run_underlying h]
theorem WP (w:World) {t:TypeId} {p q:Array TypeId} {c:Bool} {f:Fn} {x y:Array Value} (h:P.underlying t=some (.func p q c)):(Op.equal t (.func f x y) .nilFunc).run P w = .ok false w:=Hk w 9999 h
theorem Wt (w:World) {t:TypeId} {p q:Array TypeId} {c:Bool} (h:P.underlying t=some (.func p q c)):(Op.equal t .nilFunc .nilFunc).run P w = .ok true w:=Uf w 9999 h
theorem Jb (w:World) {t k e:TypeId} {b:Option Nat} (h:P.underlying t=some (.map k e)):(Op.equal t (.map b) (.map none)).run P w = .ok b.isNone w:=Eu w 9999 h
theorem eB {o:Oper} {op:BinOp} {t u:TypeId} {x y:Operand} {ρ:Operand→SV} {st:St}
  (ho:o.op = .binOp op t x y u) (h:Qz P op t y (ρ x)):Zl P o ρ st (WM op (ρ x)):=by
 intro σ w a hI hR
 have hr:=hR x (by simp[ho,Op.operands])
 obtain⟨hop,h⟩:=h
 have ec:∀ v,a.eval (.const v)=v:=fun _=>rfl
 generalize hv:a.eval x=v at hr
 generalize hx:ρ x=X at hr h
 split at h
 ·obtain⟨rfl,hl,he⟩:=h
  have hu:=qq (Option.some_get he).symm
  cases hr with
  | nil m z hm=>exact (hl rfl).elim
  | slice m z l ad cap vals hcap hsp hzz hc hr hm =>
   rcases hop with rfl | rfl
   ·exact⟨.bool false,by simp[execOp,ho,hv,ec,eqGuard,binOp,X6 w hu],.sc _⟩
   ·exact⟨.bool true,by simp[execOp,ho,hv,ec,eqGuard,binOp,X6 w hu],.sc _⟩
 ·obtain⟨rfl,he⟩:=h
  have hu:=qq (Option.some_get he).symm
  cases hr with
  | slc id z off len cap b hk hb hc =>
   rcases hop with rfl | rfl
   ·exact⟨.bool false,by simp[execOp,ho,hv,ec,eqGuard,binOp,X6 w hu],.sc _⟩
   ·exact⟨.bool true,by simp[execOp,ho,hv,ec,eqGuard,binOp,X6 w hu],.sc _⟩
 ·obtain⟨rfl,he⟩:=h
  obtain⟨e,hu⟩:=DZ he
  cases hr with
  | ref cells b o' vals hc hr =>
   rcases hop with rfl | rfl
   ·exact⟨.bool false,by simp[execOp,ho,hv,ec,eqGuard,binOp,Xh w hu],.sc _⟩
   ·exact⟨.bool true,by simp[execOp,ho,hv,ec,eqGuard,binOp,Xh w hu],.sc _⟩
 ·obtain⟨rfl,he⟩:=h
  obtain⟨e,hu⟩:=DZ he
  cases hr with
  | ptr id off b hk hb =>
   rcases hop with rfl | rfl
   ·exact⟨.bool false,by simp[execOp,ho,hv,ec,eqGuard,binOp,Xh w hu],.sc _⟩
   ·exact⟨.bool true,by simp[execOp,ho,hv,ec,eqGuard,binOp,Xh w hu],.sc _⟩
 ·obtain⟨rfl,he⟩:=h
  obtain⟨e,hu⟩:=DZ he
  cases hr with
  | sc v =>
   rcases hop with rfl | rfl
   ·exact⟨.bool true,by simp[execOp,ho,hv,ec,eqGuard,binOp,Xh w hu],.sc _⟩
   ·exact⟨.bool false,by simp[execOp,ho,hv,ec,eqGuard,binOp,Xh w hu],.sc _⟩
 ·obtain⟨rfl,he⟩:=h
  obtain⟨p,q,c,hu⟩:=Bf he
  cases hr with
  | func fn first captured vf vc h1 h2 i1 i2 =>
   rcases hop with rfl | rfl
   ·exact⟨.bool false,by simp[execOp,ho,hv,ec,eqGuard,binOp,WP w hu],.sc _⟩
   ·exact⟨.bool true,by simp[execOp,ho,hv,ec,eqGuard,binOp,WP w hu],.sc _⟩
 ·obtain⟨rfl,he⟩:=h
  obtain⟨p,q,c,hu⟩:=Bf he
  cases hr with
  | sc v =>
   rcases hop with rfl | rfl
   ·exact⟨.bool true,by simp[execOp,ho,hv,ec,eqGuard,binOp,Wt w hu],.sc _⟩
   ·exact⟨.bool false,by simp[execOp,ho,hv,ec,eqGuard,binOp,Wt w hu],.sc _⟩
 ·obtain⟨rfl,he⟩:=h
  obtain⟨k,e,hu⟩:=jb he
  cases hr with
  | mp id b hk hb =>
   rcases hop with rfl | rfl
   ·exact⟨.bool false,by simp[execOp,ho,hv,ec,eqGuard,binOp,Jb w hu],.sc _⟩
   ·exact⟨.bool true,by simp[execOp,ho,hv,ec,eqGuard,binOp,Jb w hu],.sc _⟩
 ·obtain⟨rfl,he⟩:=h
  obtain⟨k,e,hu⟩:=jb he
  cases hr with
  | sc v =>
   rcases hop with rfl | rfl
   ·exact⟨.bool true,by simp[execOp,ho,hv,ec,eqGuard,binOp,Jb w hu],.sc _⟩
   ·exact⟨.bool false,by simp[execOp,ho,hv,ec,eqGuard,binOp,Jb w hu],.sc _⟩
 ·exact h.elim
def Wy (P:Program) (t:TypeId):Option IntKind:=match P.underlying t with | some (.int k)=>some k | _=>none
theorem EJ {t:TypeId} {k:IntKind} (h:Wy P t=some k):P.underlying t=some (.int k):=by
 unfold Wy at h
 split at h
 ·rename_i e;cases h;exact e
 ·cases h
def We (P:Program) (t:TypeId):Bool:=match P.underlying t with | some .string=>true | _=>false
theorem FK {t:TypeId} (h:We P t=true):P.underlying t=some .string:=by
 unfold We at h
 split at h
 ·assumption
 ·cases h
def W2:SV→Int
 | .sc (.int .u8 n)=>n
 | _=>0
def V3:SV→Bool
 | .sc (.int .u8 _)=>true
 | _=>false
def XG (xs:List SV):ByteArray:=(xs.map W2).foldl (fun r n=>r.push (UInt8.ofNat n.toNat)) ByteArray.empty
theorem kZ {st:St} {σ:Sig} {w:World} {m:Mode} {z:Nat} {l:List SV} {v:Value} (h:Rep st σ w (.slice m z l) v) (hb:l.all V3=true):(Conv.bytesToString v).run P w = .ok (.string (XG l)) w∧∃ a n c,v = .slice a n c:=by
 cases h with
 | nil m z hm=>exact⟨rfl,_,_,_,rfl⟩
 | slice m z l ad cap vals hcap hsp hz hc hr hm =>
  refine⟨?_,_,_,_,rfl⟩
  have hby:∀ i,i<l.length→l.getD i .any = .sc (.int .u8 (W2 (l.getD i .any))):=by
   intro i hi
   have hm:l.getD i .any∈l:=by simp[List.getD_eq_getElem?_getD,hi]
   have:=List.all_eq_true.1 hb _ hm
   generalize l.getD i .any=x at this
   unfold V3 at this
   split at this
   ·rfl
   ·cases this
  have hval:∀ i,i<l.length→vals i 0 = .int .u8 (W2 (l.getD i .any))∧z=1:=by
   intro i hi
   have e:=hby i hi
   have hz1:=hz i hi
   rw[e] at hz1
   have hz1:z=1:=hz1.symm
   have hr1:=hr i 0 hi (by omega)
   rw[e] at hr1
   have hr1:Rep st σ w (.sc (.int .u8 (W2 (l.getD i .any)))) (vals i 0):=hr1
   exact⟨qL hr1,hz1⟩
  have hrun:=run_loadCells (P:=P) (w:=w) ad l.length (fun p=>vals p 0) (fun p hp=>by
   have hsp':=hsp (by rintro rfl;simp at hp)
   obtain⟨b,o,sp⟩:=ad
   simp only at hsp'
   subst hsp'
   have hz1:=(hval p hp).2
   have:=(hc p 0 hp (by omega)).1
   rw[Z0]
   simp only at this
   rw[hz1,Nat.mul_one,Nat.add_zero] at this
   exact this)
  refine run_bytesToString w ad l.length cap (l.map W2) (hrun.trans ?_)
  congr 2
  apply List.ext_getElem?
  intro i
  by_cases hi:i<l.length
  ·have:=(hval i hi).1
   simp[hi,this,List.getD_eq_getElem?_getD]
  ·rw[List.getElem?_eq_none (by simp;omega),List.getElem?_eq_none (by simp;omega)]
def Jv (P:Program) (u:TypeId):SV→SV
 | .sc (.int _ n) =>.sc (match Wy P u with | some k =>.int k (k.wrap n) | none =>.string (Utf8.encode n))
 | .slice _ _ xs =>.sc (.string (XG xs))
 | _ =>.any
def YP (P:Program) (t u:TypeId):SV→Prop
 | .sc (.int _ _)=>(Wy P t).isSome=true∧((Wy P u).isSome=true∨We P u=true)
 | .slice _ _ xs=>(zY P t).bind (Wy P)=some .u8∧We P u=true∧xs.all V3=true
 | _=>False
theorem dF {o:Oper} {t u:TypeId} {x:Operand} {ρ:Operand→SV} {st:St} (ho:o.op = .convert t u x) (h:YP P t u (ρ x)):Zl P o ρ st (Jv P u (ρ x)):=by
 intro σ w a hI hR
 have hr:=hR x (by simp[ho,Op.operands])
 generalize hv:a.eval x=v at hr
 generalize hx:ρ x=X at hr h
 unfold YP at h
 split at h
 ·rename_i k n
  obtain⟨h1,h2⟩:=h
  have e1:=EJ (Option.some_get h1).symm
  cases h3:Wy P u with
  | none =>
   rw[h3] at h2
   rcases h2 with h2 | h2
   ·cases h2
   have e2:=FK h2
   have ev:=qL hr
   refine⟨.string (Utf8.encode n),?_,?_⟩
   ·simp[execOp,ho,hv,ev,convert,run_underlying e1,run_underlying e2,Conv.intToString]
   ·simp only[Jv,h3]
    exact .sc _
  | some k' =>
   have e2:=EJ h3
   have ev:=qL hr
   refine⟨.int k' (k'.wrap n),by simp[execOp,ho,hv,ev,convert,run_underlying e1,run_underlying e2,Conv.intToInt],?_⟩
   simp only[Jv,h3]
   exact .sc _
 ·rename_i m z xs
  obtain⟨h1,h2,h3⟩:=h
  obtain⟨e,he1,he2⟩:∃ e,zY P t=some e∧Wy P e=some .u8:=by
   cases he:zY P t with
   | none=>rw[he] at h1;cases h1
   | some e=>rw[he] at h1;exact⟨e,rfl,h1⟩
  obtain⟨hl,a0,n0,c0,rfl⟩:=kZ (P:=P) hr h3
  refine⟨.string (XG xs),?_,.sc _⟩
  have:=run_convert_bytes_string w t u e a0 n0 c0 (qq he1) (EJ he2) (FK h2)
  simp[execOp,ho,hv,this,hl]
 ·exact h.elim
end Go.AL
namespace Go.AL
variable {P:Program}
open Go.MapKept
def ZJ (d:TypeDesc):Value→Bool
 | .int k _=>match d with | .int k'=>decide (k=k') | _=>false
 | .string _=>match d with | .string=>true | _=>false
 | .bool _=>match d with | .bool=>true | _=>false
 | _=>false
theorem kj {d:TypeDesc} {k:Value} (h:ZJ d k=true):IsKey d k:=by
 unfold ZJ at h
 split at h <;> (try split at h) <;> simp_all [IsKey]
def KU:Value→Value→Bool
 | .int k a,.int k' b=>decide (k=k')&&decide (a=b)
 | .string a,.string b=>a==b
 | .bool a,.bool b=>a==b
 | _,_=>false
def KS:List Value→List Value→Bool
 | [],[]=>true
 | a::r,b::s=>KU a b&&KS r s
 | _,_=>false
def Jk:Value→Value→Bool
 | .agg a,.agg b=>KS a.toList b.toList
 | a,b=>KU a b
theorem DY {d:TypeDesc} {a b:Value} (ha:ZJ d a=true):Jk a b=KU a b:=by
 cases a <;> first | rfl | cases ha
theorem V2 {d:TypeDesc} {a b:Value} (ha:ZJ d a=true) (hb:ZJ d b=true):Jk a b=true↔a=b:=by
 rw[DY ha]
 cases a <;> cases b <;> simp_all [KU,ZJ,bytes_beq]
def US (P:Program) (kt:TypeId):Bool:=(match P.underlying kt with | some (.array _ _) | some (.struct _)=>true | _=>false)&&(P.keyTypeAt 8 kt&&P.tiled 8 kt)
def qY (P:Program) (kt:TypeId) (d:TypeDesc) (v:Value):Bool:=ZJ d v || (US P kt&&(Go.keyOf P kt v).isSome)
theorem Up:∀ (a b:List Lit),KS (a.map Lit.toCell) (b.map Lit.toCell)=true↔a.map Lit.toCell=b.map Lit.toCell
 | [],[]=>by simp[KS]
 | [],_::_=>by simp[KS]
 | _::_,[]=>by simp[KS]
 | x::r,y::s=>by
  have ih:=Up r s
  have h1:KU x.toCell y.toCell=true↔x.toCell=y.toCell:=by
   cases x <;> cases y <;> simp[Lit.toCell,KU,bytes_beq]
  simp only[List.map_cons,KS,Bool.and_eq_true,ih,h1,List.cons.injEq]
theorem Uc {kt:TypeId} (h:US P kt=true):(match P.underlying kt with | some (.array _ _) | some (.struct _)=>true | _=>false)=true∧P.keyTypeAt 8 kt=true∧P.tiled 8 kt=true:=by
 unfold US at h
 simp only[Bool.and_eq_true] at h
 exact⟨h.1,h.2.1,h.2.2⟩
theorem Dj {kt:TypeId} (h:US P kt=true) {v:Value} {l:Lit} (hk:Go.keyOf P kt v=some l):∃ L:List Lit,v = .agg (L.map Lit.toCell).toArray∧P.keyLits (P.types.size+1) kt (L.map Lit.toCell)=some L∧l = .string (keyBytes L):=by
 obtain⟨h1,h2,h3⟩:=Uc h
 obtain⟨xs,L,rfl,k1,k2⟩:=keyOf_top h1 hk
 have c:=cells_of_lits 8 kt h3 _ _ _ k1
 refine⟨L,?_,by rw[←c];exact k1,k2⟩
 rw[←c]
theorem XU {kt:TypeId} {d:TypeDesc} (hd:P.underlying kt=some d) (h:US P kt=true) (v:Value):ZJ d v=false:=by
 obtain⟨h1,_,_⟩:=Uc h
 rw[hd] at h1
 cases d <;> first | (cases v <;> rfl) | (simp at h1)
theorem BO {kt:TypeId} {d:TypeDesc} (hd:P.underlying kt=some d) {a b:Value} (ha:qY P kt d a=true) (hb:qY P kt d b=true):Jk a b=true↔a=b:=by
 by_cases hw:US P kt=true
 ·simp only[qY,XU hd hw,Bool.false_or,Bool.and_eq_true] at ha hb
  obtain⟨la,ha⟩:=Option.isSome_iff_exists.1 ha.2
  obtain⟨lb,hb⟩:=Option.isSome_iff_exists.1 hb.2
  obtain⟨A,rfl,_⟩:=Dj hw ha
  obtain⟨B,rfl,_⟩:=Dj hw hb
  simp only[Jk,Up,Value.agg.injEq,List.toArray_eq_iff] <;> simp
 ·simp only[qY,hw,Bool.false_and,Bool.or_false] at ha hb
  exact V2 ha hb
def Hr (P:Program) (t:TypeId):Option (TypeId×TypeDesc×TypeId):=match P.underlying t with
 | some (.map k e)=>match P.underlying k with | some d=>some (k,d,e) | none=>none
 | _=>none
theorem UC {t k e:TypeId} {d:TypeDesc} (h:Hr P t=some (k,d,e)):P.underlying t=some (.map k e)∧P.underlying k=some d:=by
 unfold Hr at h
 split at h
 ·split at h
  ·cases h;exact⟨‹_›,‹_›⟩
  ·cases h
 ·cases h
def Qn (st:St) (id:Nat):Option (List (Value×SV)):=match st[id]? with | some (.map es)=>some es | _=>none
theorem WQ {st:St} {id:Nat} {es:List (Value×SV)} (h:Qn st id=some es):st[id]?=some (.map es):=by
 unfold Qn at h
 split at h
 ·cases h;assumption
 ·cases h
def keyIdx (es:List (Value×SV)) (k:Value):Option Nat:=es.findIdx? fun p=>Jk k p.1
theorem MapRep.get {st:St} {σ:Sig} {w:World} {es:List (Value×SV)} {ents:Array MapEntry} {clock:Nat} (h:MapRep st σ w es ents clock) {j:Nat} (hj:j<es.length) :
  ∃ e p,ents[j]?=some e∧es[j]?=some p∧e.key=p.1∧Rep st σ w p.2 e.val:=by
 have hj':j<ents.size:=by rw[h.1];exact hj
 obtain⟨h1,h2⟩:=h.2.1 j hj
 refine⟨ents[j],es[j],by simp[hj'],by simp[hj],?_,?_⟩
 ·simpa[Array.getD,hj',List.getD_eq_getElem?_getD,hj] using h1
 ·simpa[Array.getD,hj',List.getD_eq_getElem?_getD,hj] using h2
theorem F7 {d:TypeDesc} {a b:Value} (ha:ZJ d a=true) (hb:ZJ d b=true):Instr.sameNow d a b=some (Jk a b):=by
 rw[DY ha]
 cases d <;> cases a <;> cases b <;> simp_all [ZJ,KU,Instr.sameNow] <;> rfl
theorem Eg {d:TypeDesc} {k:Value} (hk:ZJ d k=true):∀ (l:List MapEntry) (es:List (Value×SV)) (i:Nat),l.map (·.key)=es.map (·.1)→es.all (fun p=>ZJ d p.1)=true →
  Instr.findNow d k l i=some ((keyIdx es k).map fun j=>(i+j,(l.getD j default).val))
 | [],[],i,_,_=>rfl
 | e::l,p::es,i,h,hf=>by
  simp only[List.map_cons,List.cons.injEq] at h
  simp only[List.all_cons,Bool.and_eq_true] at hf
  have ih:=Eg hk l es (i+1) h.2 hf.2
  simp only[Instr.findNow,h.1,F7 hk hf.1]
  unfold keyIdx at ih ⊢
  rw[List.findIdx?_cons]
  cases hb:Jk k p.1 with
  | true=>simp
  | false =>
   simp only[ih,Bool.false_eq_true,if_false,Option.map_map]
   congr 2
   funext j
   simp only[Function.comp,List.getD_cons_succ]
   congr 1
   omega
theorem vK {st:St} {σ:Sig} {w:World} {es:List (Value×SV)} {ents:Array MapEntry} {clock:Nat} (h:MapRep st σ w es ents clock):ents.toList.map (·.key)=es.map (·.1):=by
 refine List.ext_getElem (by simp[h.1]) fun j h1 h2=>?_
 have hj:j<es.length:=by simpa using h2
 obtain⟨e,p,q1,q2,q3,_⟩:=h.get hj
 have hj':j<ents.size:=by rw[h.1];exact hj
 rw[List.getElem_map,List.getElem_map]
 have e1:ents.toList[j]=e:=by
  rw[Array.getElem?_eq_getElem hj'] at q1
  simpa using Option.some.inj q1
 have e2:es[j]=p:=by rw[List.getElem?_eq_getElem hj] at q2;exact Option.some.inj q2
 rw[e1,e2,q3]
theorem W4 {kt:TypeId} {k:Value} {w:World} (good:Value→Prop) (heq:∀ x,good x→(Op.equal kt k x).run P w = .ok (Jk k x) w):∀ (l:List MapEntry) (es:List (Value×SV)) (i:Nat),l.map (·.key)=es.map (·.1)→(∀ p∈es,good p.1) →
  (Instr.findAsking kt k l i).run P w = .ok ((keyIdx es k).map fun j=>(i+j,(l.getD j default).val)) w
 | [],[],i,_,_=>by simp[Instr.findAsking,keyIdx]
 | e::l,p::es,i,h,hf=>by
  simp only[List.map_cons,List.cons.injEq] at h
  have ih:=W4 good heq l es (i+1) h.2 (fun q hq=>hf q (by simp[hq]))
  have hp:=heq p.1 (hf p (by simp))
  unfold keyIdx at ih ⊢
  rw[List.findIdx?_cons]
  cases hb:Jk k p.1 with
  | true =>
   rw[hb] at hp
   simp[Instr.findAsking,h.1,hp,Result.andThen]
  | false =>
   rw[hb] at hp
   simp only[Instr.findAsking,h.1,Sem.run_bind,hp,Result.andThen,Bool.false_eq_true,if_false,ih,Option.map_map]
   congr 2
   funext j
   simp only[Function.comp,List.getD_cons_succ]
   congr 1
   omega
theorem DT {st:St} {σ:Sig} {w:World} {es:List (Value×SV)} {ents:Array MapEntry} {clock:Nat} (h:MapRep st σ w es ents clock) {kt:TypeId} {d:TypeDesc} (hd:P.underlying kt=some d) {k:Value}
  (hk:qY P kt d k=true) (hf:es.all (fun p=>qY P kt d p.1)=true) :
  (Instr.findKey kt k ents.toList).run P w = .ok ((keyIdx es k).map fun j=>(j,(ents.getD j default).val)) w:=by
 have e0:(fun j=>(0+j,(ents.toList.getD j default).val))=fun j=>(j,(ents.getD j default).val):=by
  funext j
  simp[Array.getD_eq_getD_getElem?,List.getD_eq_getElem?_getD]
 by_cases hw:US P kt=true
 ·obtain⟨h1,h2,h3⟩:=Uc hw
  have hk':=hk
  simp only[qY,XU hd hw,Bool.false_or,Bool.and_eq_true] at hk'
  obtain⟨lk,hlk⟩:=Option.isSome_iff_exists.1 hk'.2
  rw[run_findKey_eq w h1,←e0]
  refine W4 (fun v=>qY P kt d v=true) (fun x hx=>?_) _ _ 0 (vK h) (fun p hp=>List.all_eq_true.1 hf p hp)
  have hx':=hx
  simp only[qY,XU hd hw,Bool.false_or,Bool.and_eq_true] at hx'
  obtain⟨lx,hlx⟩:=Option.isSome_iff_exists.1 hx'.2
  obtain⟨r,hr,hiff⟩:=run_equal_deep w (m:=8) (by omega) h2 h1 hlk hlx
  have:r=Jk k x:=by
   rw[Bool.eq_iff_iff,hiff,BO hd hk hx]
   constructor
   ·intro e;subst e;exact keyOf_inj_deep h3 h1 hlk hlx
   ·intro e;subst e;rw[hlk] at hlx;exact Option.some.inj hlx
  rw[←this]
  exact hr
 ·simp only[qY,hw,Bool.false_and,Bool.or_false] at hk hf
  have:=run_findKey (w:=w) hd (Eg hk ents.toList es 0 (vK h) hf)
  rw[this,e0]
theorem YX {w:World} {kt:TypeId} {d:TypeDesc} {k:Value} (hd:P.underlying kt=some d) (hk:qY P kt d k=true) (e:Bool):(Instr.checkKey e 10000 kt k).run P w = .ok () w:=by
 by_cases hw:US P kt=true
 ·obtain⟨h1,h2,h3⟩:=Uc hw
  simp only[qY,XU hd hw,Bool.false_or,Bool.and_eq_true] at hk
  obtain⟨lk,hlk⟩:=Option.isSome_iff_exists.1 hk.2
  exact (deep_law (m:=8) (by omega) h2 h3 h1).check w e hlk
 ·simp only[qY,hw,Bool.false_and,Bool.or_false] at hk
  exact run_checkKey hd (kj hk) e 9999
def Js (P:Program) (t:TypeId):Option SV:=(Zj P t).bind fun zs=>match (P.info? t).bind (·.zero) with | some (.agg _)=>some (.agg zs) | some v=>some (Kx v) | none=>none
theorem KZ {t:TypeId} {z:SV} (h:Js P t=some z) (st:St) (σ:Sig) (w:World):∃ v,(zeroValue t).run P w = .ok v w∧Rep st σ w z v:=by
 unfold Js at h
 cases hz:Zj P t with
 | none=>rw[hz] at h;cases h
 | some zs =>
  rw[hz] at h
  obtain⟨i,v,h1,h2,rfl⟩:=Jz hz
  refine⟨v,XM h1 h2 w,?_⟩
  simp only[h1,Option.bind_some,h2] at h
  cases v with
  | agg cs =>
   simp only at h
   cases h
   exact .agg _ _ (VN (st:=st) (σ:=σ) (w:=w) cs).1 (VN cs).2
  | _=>simp only at h;cases h;exact Gj _
def aK:List SV→Option (List Value)
 | []=>some []
 | .sc v::r=>(aK r).map (v :: ·)
 | _=>none
theorem jj:∀ {l:List SV} {vs:List Value},aK l=some vs→l=vs.map SV.sc
 | [],vs,h=>by cases h;rfl
 | .sc v::r,vs,h=>by
  simp only[aK] at h
  cases hr:aK r with
  | none=>rw[hr] at h;cases h
  | some us =>
   rw[hr] at h
   cases h
   rw[jj hr]
   rfl
 | .any::_,_,h | .slice _ _ _::_,_,h | .ref _::_,_,h | .ptr _ _::_,_,h | .func _ _ _::_,_,h | .agg _::_,_,h | .tuple _::_,_,h | .gd _ _::_,_,h | .slc _ _ _ _ _::_,_,h | .mp _::_,_,h | .stamp _ _::_,_,h | .arr _ _ _::_,_,h | .aptr _ _ _::_,_,h=>by cases h
def keyOf:SV→Option Value
 | .sc v=>some v
 | .agg l=>(aK l).map fun vs =>.agg vs.toArray
 | _=>none
theorem Ks {st:St} {σ:Sig} {w:World} {x:SV} {k v:Value} (h:keyOf x=some k) (r:Rep st σ w x v):v=k:=by
 unfold keyOf at h
 split at h
 ·cases h;exact qL r
 ·rename_i l
  cases hl:aK l with
  | none=>rw[hl] at h;cases h
  | some vs =>
   rw[hl] at h
   cases h
   have hs:=jj hl
   subst hs
   cases r with
   | agg _ us hz hr =>
    congr 1
    refine Array.ext (by simpa using hz) fun i h1 h2=>?_
    have h3:i<vs.length:=by simpa using h2
    have:=hr i (by simpa using h3)
    simp only[List.getD_eq_getElem?_getD,List.getElem?_map,List.getElem?_eq_getElem h3,Option.map_some,Option.getD_some] at this
    have e:=qL this
    simpa[Array.getD,h1] using e
 ·cases h
def XH (P:Program) (t:TypeId) (st:St) (x k:SV):Option (SV×Bool) :=
 match x,keyOf k,Hr P t with
 | .mp id,some kv,some (kt,d,e)=>match Qn st id,Js P e with
  | some es,some z=>if qY P kt d kv&&es.all (fun p=>qY P kt d p.1) then
    match keyIdx es kv with
    | some j=>some ((es.getD j (default,.any)).2,true)
    | none=>some (z,false)
   else none
  | _,_=>none
 | .sc (.map none),some kv,some (kt,d,e)=>match Js P e with
  | some z=>if qY P kt d kv then some (z,false) else none
  | none=>none
 | _,_,_=>none
theorem Kn {es:List (Value×SV)} {k:Value} {j:Nat} (h:keyIdx es k=some j):j<es.length:=by
 unfold keyIdx at h
 rw[List.findIdx?_eq_some_iff_getElem] at h
 exact h.1
theorem MapRep.at {st:St} {σ:Sig} {w:World} {es:List (Value×SV)} {ents:Array MapEntry} {clock:Nat} (h:MapRep st σ w es ents clock) {j:Nat} (hj:j<es.length) :
  Rep st σ w (es.getD j (default,.any)).2 (ents.getD j default).val:=(h.2.1 j hj).2
theorem ki {st:St} {σ:Sig} {w:World} (hI:Inv st σ w) {t:TypeId} {x k y:SV} {b:Bool} {vx vk:Value} (h:XH P t st x k=some (y,b)) (hx:Rep st σ w x vx) (hk:Rep st σ w k vk) (ok:Bool) :
  ∃ v,(Instr.lookup t vx vk ok).run P w = .ok (if ok then .tuple #[v,.bool b] else v) w∧Rep st σ w y v:=by
 unfold XH at h
 split at h
 ·rename_i id kv kt d e hkv hmt
  obtain⟨m1,m2⟩:=UC hmt
  have ek:=Ks hkv hk
  subst ek
  split at h
  ·rename_i es z hes hz
   split at h
   ·rename_i hf
    rw[Bool.and_eq_true] at hf
    cases hx with
    | mp id b' hkk hb =>
     obtain⟨b2,ents,clock,q1,q2,q3,_⟩:=hI.maps id es (WQ hes)
     rw[hb] at q1;cases q1
     have hfind:=DT (P:=P) q3 m2 hf.1 hf.2
     obtain⟨vz,z1,z2⟩:=KZ hz st σ w
     split at h
     ·rename_i j hj
      cases h
      rw[hj] at hfind
      refine⟨(ents.getD j default).val,?_,q3.at (Kn hj)⟩
      simp[Instr.lookup,run_underlying m1,Result.andThen,MapKept.run_getObj_map q2,YX m2 hf.1,hfind]
     ·rename_i hj
      cases h
      rw[hj] at hfind
      refine⟨vz,?_,z2⟩
      simp[Instr.lookup,run_underlying m1,Result.andThen,MapKept.run_getObj_map q2,YX m2 hf.1,hfind,z1]
   ·cases h
  ·cases h
 ·rename_i kv kt d e hkv hmt
  obtain⟨m1,m2⟩:=UC hmt
  have ek:=Ks hkv hk
  subst ek
  have ex:=qL hx
  subst ex
  split at h
  ·rename_i z hz
   split at h
   ·rename_i hf
    cases h
    obtain⟨vz,z1,z2⟩:=KZ hz st σ w
    have hfind:(Instr.findKey kt vk []).run P w = .ok none w:=run_findKey m2 rfl
    refine⟨vz,?_,z2⟩
    simp[Instr.lookup,run_underlying m1,Result.andThen,YX m2 hf,hfind,z1]
   ·cases h
  ·cases h
 ·cases h
theorem Ext.newMap {st:St} {σ:Sig} {w:World} (b:Option Nat) (es:List (Value×SV)):Ext st σ w (st++[.map es]) (σ.setMu st.length b) w:=Ext.newOb _ _
theorem Inv.newMap {st:St} {σ:Sig} {w:World} (hI:Inv st σ w) {b:Nat} {es:List (Value×SV)} {ents:Array MapEntry} {clock:Nat}
  (hb:w.heap[b]?=some (.map ents clock)) (hl:σ.lock b = .upto 0) (hno:∀ i,i<st.length→σ.μ i≠some b) (hr:MapRep st σ w es ents clock):Inv (st++[.map es]) (σ.setMu st.length (some b)) w where
 cells:=fun id l' hl'=>by
  by_cases e:id=st.length
  ·subst e;simp at hl'
  ·have hlt:id<st.length:=by have:=zp hl';simp at this;omega
   rw[List.getElem?_append_left hlt] at hl'
   obtain⟨c,cs,T,h1,h2,h3,h4,h5⟩:=hI.cells id l' hl'
   exact⟨c,cs,T,by simp only[Sig.setMu,if_neg e];exact h1,h2,h3,fun j hj=>(h4 j hj).ext (Ext.newOb _ _),h5⟩
 tok:=fun id v c h hc=>by
  by_cases e:id=st.length
  ·subst e;simp at h
  ·have hlt:id<st.length:=by have:=zp h;simp at this;omega
   rw[List.getElem?_append_left hlt] at h
   simp only[Sig.setMu,if_neg e] at hc
   exact hI.tok id v c h hc
 inj:=fun i j c hi hj h1 h2=>by
  simp at hi hj
  by_cases e:i=st.length <;> by_cases e':j=st.length
  ·omega
  ·simp only[Sig.setMu,if_pos e] at h1
   simp only[Sig.setMu,if_neg e'] at h2
   cases h1
   exact absurd h2 (hno j (by omega))
  ·simp only[Sig.setMu,if_pos e'] at h2
   simp only[Sig.setMu,if_neg e] at h1
   cases h2
   exact absurd h1 (hno i (by omega))
  ·simp only[Sig.setMu,if_neg e] at h1
   simp only[Sig.setMu,if_neg e'] at h2
   exact hI.inj i j c (by omega) (by omega) h1 h2
 fresh:=hI.fresh
 arrs:=fun id v z cs' hc=>by
  by_cases e:id=st.length
  ·subst e;simp at hc
  ·have hlt:id<st.length:=by have:=zp hc;simp at this;omega
   rw[List.getElem?_append_left hlt] at hc
   refine (hI.arrs id v z cs' hc).imp (fun ⟨h1,h2⟩=>⟨by simp only[Sig.setMu,if_neg e];exact h1,h2⟩) fun ⟨c,vals,T,h1,h2,h3,h4,h5⟩=>?_
   exact⟨c,vals,T,by simp only[Sig.setMu,if_neg e];exact h1,h2,h3,fun j hj=>(h4 j hj).ext (Ext.newOb _ _),h5⟩
 maps:=fun id l' hl'=>by
  by_cases e:id=st.length
  ·subst e
   simp at hl'
   subst hl'
   exact⟨b,ents,clock,by simp only[Sig.setMu,if_true],hb,hr.ext (Ext.newOb _ _),hl⟩
  ·have hlt:id<st.length:=by have:=zp hl';simp at this;omega
   rw[List.getElem?_append_left hlt] at hl'
   obtain⟨c,en,cl,h1,h2,h3,h4⟩:=hI.maps id l' hl'
   exact⟨c,en,cl,by simp only[Sig.setMu,if_neg e];exact h1,h2,h3.ext (Ext.newOb _ _),h4⟩
 globs:=hI.globs_ext (Ext.newOb _ _) (Uz (fun id hid=>by simp only[Sig.setMu,if_neg (show ¬ id=st.length by omega)]) (fun b v h=>by cases h))
theorem nN {st:St} {σ:Sig} {w:World} (hI:Inv st σ w) (es:List (Value×SV)) (ents:Array MapEntry) (clock:Nat) (hr:MapRep st σ w es ents clock) :
  ∃ σ',Inv (st++[.map es]) σ' { w with heap:=w.heap.push (.map ents clock) }∧Ext st σ w (st++[.map es]) σ' { w with heap:=w.heap.push (.map ents clock) } ∧
   Rep (st++[.map es]) σ' { w with heap:=w.heap.push (.map ents clock) } (.mp st.length) (.map (some w.heap.size)):=by
 have hX:=Ext.alloc hI (.map ents clock) (.upto 0)
 have hI1:=hI.alloc (.map ents clock) (.upto 0)
 have hX2:Ext st (σ.setLock w.heap.size (.upto 0)) { w with heap:=w.heap.push (.map ents clock) } (st++[.map es]) ((σ.setLock w.heap.size (.upto 0)).setMu st.length (some w.heap.size)) { w with heap:=w.heap.push (.map ents clock) }:=Ext.newOb _ _
 refine⟨_,Inv.newMap hI1 (by simp) (by simp[Sig.setLock]) (fun i hi h=>?_) (hr.ext hX),hX.trans hX2,?_⟩
 ·have:=hI.mu_lt hi h
  omega
 ·exact .mp _ _ ⟨es,by simp⟩ (by simp[Sig.setMu])
theorem wT (st:St) (σ:Sig) (w:World):MapRep st σ w [] #[] 0 :=
 ⟨rfl,fun j hj=>absurd hj (Nat.not_lt_zero _),fun j hj=>absurd hj (Nat.not_lt_zero _),fun i j hi=>absurd hi (Nat.not_lt_zero _)⟩
theorem wu {o:Oper} {t:TypeId} {K:SV→St→Prop} {env:List SV} {st:St} (ho:o.op = .makeMap t none) (hk:K (.mp st.length) (st++[.map []])):AOp P o K env st :=
 Zx fun σ w a hI hR=>by
  obtain⟨σ',h1,h2,h3⟩:=nN hI [] #[] 0 (wT st σ w)
  exact⟨_,_,_,_,σ',by simp[execOp,ho,Instr.makeMap],hk,h1,h3,h2⟩
theorem Ext.mapWrite {st:St} {σ:Sig} {w w':World} {id b:Nat} {es es':List (Value×SV)} {ents ents':Array MapEntry} {clock clock':Nat} (hI:Inv st σ w) (hid:st[id]?=some (.map es)) (hb:σ.μ id=some b)
  (hl:σ.lock b = .upto 0) (hos:w'.os=w.os) (htape:w'.tape=w.tape) (hout:w'.output=w.output) (hsz:w'.heap.size=w.heap.size)
  (hoth:∀ c,c≠b→w'.heap[c]?=w.heap[c]?) (hw:w.heap[b]?=some (.map ents clock)) (hw':w'.heap[b]?=some (.map ents' clock')) (hge:ents.size≤ents'.size)
  (hborn:∀ j,j<ents.size→(ents'.getD j default).born=(ents.getD j default).born):Ext st σ w (st.set id (.map es')) σ w' where
 os:=hos
 tape:=htape
 output:=hout
 size:=by omega
 lock:=fun c o v h k=>by
  by_cases e:c=b
  ·subst e
   rw[hl] at h
   exact absurd h (Nat.not_lt_zero _)
  ·refine⟨h,?_⟩
   unfold World.cell? at *
   simp only[hoth c e];exact k
 all:=fun c hc h=>by
  have e:c≠b:=by rintro rfl;rw[hl] at h;cases h
  exact⟨rfl,hoth c e⟩
 kcells:=fun j x h=>by
  have hne:j≠id:=by rintro rfl;rw[hid] at h;cases h
  exact⟨⟨x,by rw[zO hne];exact h⟩,rfl⟩
 ktok:=fun j v h=>by
  have hne:j≠id:=by rintro rfl;rw[hid] at h;cases h
  refine⟨v,by rw[zO hne];exact h,Nat.le_refl _,fun _=>⟨rfl,fun c hc=>?_⟩⟩
  have e:c≠b:=by rintro rfl;exact hne (hI.inj j id c (zp h) (zp hid) hc hb)
  exact⟨rfl,hoth c e⟩
 karrs:=fun j v z x h=>by
  have hne:j≠id:=by rintro rfl;rw[hid] at h;cases h
  refine⟨v,x,by rw[zO hne];exact h,Nat.le_refl _,fun _=>⟨rfl,rfl,fun c vals T fr hc hh=>⟨vals,?_,rfl⟩⟩⟩
  rw[hoth c (by rintro rfl;exact hne (hI.inj j id c (zp h) (zp hid) hc hb))];exact hh
 kmaps:=fun j x h=>by
  by_cases hne:j=id
  ·subst hne
   refine⟨⟨es',qA (zp hid)⟩,rfl,fun c e cl hc hh=>?_⟩
   rw[hb] at hc;cases hc
   rw[hw] at hh;cases hh
   exact⟨ents',clock',hw',hge,hborn⟩
  ·refine⟨⟨x,by rw[zO hne];exact h⟩,rfl,fun c e cl hc hh=>⟨e,cl,?_,Nat.le_refl _,fun _ _=>rfl⟩⟩
   rw[hoth c (by rintro rfl;exact hne (hI.inj j id c (zp h) (zp hid) hc hb))];exact hh
theorem Inv.mapWrite {st:St} {σ:Sig} {w w':World} {id b:Nat} {es es':List (Value×SV)} {ents ents':Array MapEntry} {clock clock':Nat} (hI:Inv st σ w) (hid:st[id]?=some (.map es)) (hb:σ.μ id=some b)
  (hl:σ.lock b = .upto 0) (hos:w'.os=w.os) (htape:w'.tape=w.tape) (hout:w'.output=w.output) (hsz:w'.heap.size=w.heap.size)
  (hoth:∀ c,c≠b→w'.heap[c]?=w.heap[c]?) (hw:w.heap[b]?=some (.map ents clock)) (hw':w'.heap[b]?=some (.map ents' clock')) (hge:ents.size≤ents'.size)
  (hborn:∀ j,j<ents.size→(ents'.getD j default).born=(ents.getD j default).born) (hr:MapRep st σ w es' ents' clock'):Inv (st.set id (.map es')) σ w' where
 cells:=fun j x h=>by
  have k:=Ext.mapWrite (es':=es') hI hid hb hl hos htape hout hsz hoth hw hw' hge hborn
  have hne:j≠id:=by rintro rfl;rw[qA (zp hid)] at h;cases h
  rw[zO hne] at h
  obtain⟨c,cs',T',h1,h2,h3,h4,h5⟩:=hI.cells j x h
  have e:c≠b:=by rintro rfl;exact hne (hI.inj j id c (zp h) (zp hid) h1 hb)
  exact⟨c,cs',T',h1,by rw[hoth c e];exact h2,h3,fun i hi=>(h4 i hi).ext k,h5⟩
 tok:=fun j v c h hc=>by
  have hne:j≠id:=by rintro rfl;rw[qA (zp hid)] at h;cases h
  rw[zO hne] at h
  obtain⟨h1,h2⟩:=hI.tok j v c h hc
  exact⟨by omega,h2⟩
 inj:=fun i j c hi hj h1 h2=>by simp at hi hj;exact hI.inj i j c hi hj h1 h2
 fresh:=fun c hc=>hI.fresh c (by omega)
 arrs:=fun j v z x h=>by
  have k:=Ext.mapWrite (es':=es') hI hid hb hl hos htape hout hsz hoth hw hw' hge hborn
  have hne:j≠id:=by rintro rfl;rw[qA (zp hid)] at h;cases h
  rw[zO hne] at h
  refine (hI.arrs j v z x h).imp (fun h=>h) fun ⟨c,vals,T',h1,h2,h3,h4,h5⟩=>?_
  have e:c≠b:=by rintro rfl;exact hne (hI.inj j id c (zp h) (zp hid) h1 hb)
  exact⟨c,vals,T',h1,by rw[hoth c e];exact h2,h3,fun i hi=>(h4 i hi).ext k,h5⟩
 maps:=fun j x h=>by
  have k:=Ext.mapWrite (es':=es') hI hid hb hl hos htape hout hsz hoth hw hw' hge hborn
  by_cases hne:j=id
  ·subst hne
   rw[qA (zp hid)] at h
   cases h
   exact⟨b,ents',clock',hb,hw',hr.ext k,hl⟩
  ·rw[zO hne] at h
   obtain⟨c,en,cl,h1,h2,h3,h4⟩:=hI.maps j x h
   have e:c≠b:=by rintro rfl;exact hne (hI.inj j id c (zp h) (zp hid) h1 hb)
   exact⟨c,en,cl,h1,by rw[hoth c e];exact h2,h3.ext k,h4⟩
 globs:=hI.globs_ext (Ext.mapWrite (es':=es') hI hid hb hl hos htape hout hsz hoth hw hw' hge hborn) (Vv (fun _ _=>rfl) (fun b v h=>by cases h))
def JZ (es:List (Value×SV)) (k:Value) (x:SV):List (Value×SV) :=
 match keyIdx es k with
 | some j=>es.set j ((es.getD j (default,.any)).1,x)
 | none=>es++[(k,x)]
theorem KR {st:St} {σ:Sig} {w:World} {es:List (Value×SV)} {ents:Array MapEntry} {clock:Nat} (h:MapRep st σ w es ents clock) {j:Nat} (hj:j<es.length) {x:SV} {v:Value} (hx:Rep st σ w x v)
  (f:MapEntry→MapEntry) (hk:∀ e,ents[j]?=some e→(f e).key=e.key) (hv:∀ e,(f e).val=v) (hbn:∀ e,(f e).born=e.born) :
  MapRep st σ w (es.set j ((es.getD j (default,.any)).1,x)) (ents.modify j f) clock∧∀ i,i<ents.size→((ents.modify j f).getD i default).born=(ents.getD i default).born:=by
 have hj':j<ents.size:=by rw[h.1];exact hj
 have hget:∀ i,i<ents.size→(ents.modify j f).getD i default=if i=j then f (ents.getD i default) else ents.getD i default:=by
  intro i hi
  simp only[Array.getD_eq_getD_getElem?,Array.getElem?_modify,Array.getElem?_eq_getElem hi]
  by_cases e:j=i
  ·subst e;simp
  ·rw[if_neg e,if_neg (fun e2=>e e2.symm)]
 have hb2:∀ i,i<ents.size→((ents.modify j f).getD i default).born=(ents.getD i default).born:=by
  intro i hi
  rw[hget i hi]
  split
  ·rw[hbn]
  ·rfl
 refine⟨⟨by simp[h.1],fun i hi=>?_,fun i hi=>?_,fun a b ha hb e=>?_⟩,hb2⟩
 ·simp only[List.length_set] at hi
  have hi':i<ents.size:=by rw[h.1];exact hi
  obtain⟨h1,h2⟩:=h.2.1 i hi
  rw[hget i hi']
  by_cases e:i=j
  ·subst e
   simp only[if_true,List.getD_eq_getElem?_getD,List.getElem?_set_self hi,Option.getD_some]
   refine⟨?_,by rw[hv];exact hx⟩
   rw[hk _ (by simp[hi',Array.getD])]
   simpa[List.getD_eq_getElem?_getD] using h1
  ·rw[if_neg e]
   simp only[List.getD_eq_getElem?_getD,List.getElem?_set_ne (show j≠i from fun e2=>e e2.symm)]
   exact⟨by simpa[List.getD_eq_getElem?_getD] using h1,by simpa[List.getD_eq_getElem?_getD] using h2⟩
 ·simp only[Array.size_modify] at hi
  rw[hb2 i hi];exact h.2.2.1 i hi
 ·simp only[Array.size_modify] at ha hb
  rw[hb2 a ha,hb2 b hb] at e
  exact h.2.2.2 a b ha hb e
theorem H5 {st:St} {σ:Sig} {w:World} {es:List (Value×SV)} {ents:Array MapEntry} {clock:Nat} (h:MapRep st σ w es ents clock) {k:Value} {x:SV} {v:Value} (hx:Rep st σ w x v) :
  MapRep st σ w (es++[(k,x)]) (ents.push { key:=k,val:=v,born:=clock }) (clock+1)∧∀ i,i<ents.size→((ents.push { key:=k,val:=v,born:=clock }).getD i default).born=(ents.getD i default).born:=by
 have hget:∀ i,i<ents.size→(ents.push { key:=k,val:=v,born:=clock }).getD i default=ents.getD i default:=by
  intro i hi
  simp[Array.getD_eq_getD_getElem?,Array.getElem?_push,show ¬ i=ents.size by omega]
 have hlast:(ents.push { key:=k,val:=v,born:=clock }).getD ents.size default={ key:=k,val:=v,born:=clock }:=by
  simp[Array.getD_eq_getD_getElem?]
 refine⟨⟨by simp[h.1],fun i hi=>?_,fun i hi=>?_,fun a b ha hb e=>?_⟩,fun i hi=>by rw[hget i hi]⟩
 ·by_cases e:i<es.length
  ·rw[hget i (by rw[h.1];exact e),List.getD_eq_getElem?_getD,List.getElem?_append_left e,←List.getD_eq_getElem?_getD]
   exact h.2.1 i e
  ·obtain rfl:i=es.length:=by simp at hi;omega
   rw[←h.1,hlast,h.1,List.getD_eq_getElem?_getD,List.getElem?_append_right (Nat.le_refl _)]
   simp
   exact hx
 ·simp only[Array.size_push] at hi
  by_cases e:i<ents.size
  ·rw[hget i e];have:=h.2.2.1 i e;omega
  ·obtain rfl:i=ents.size:=by omega
   rw[hlast];exact Nat.lt_succ_self _
 ·simp only[Array.size_push] at ha hb
  by_cases e1:a<ents.size <;> by_cases e2:b<ents.size
  ·rw[hget a e1,hget b e2] at e;exact h.2.2.2 a b e1 e2 e
  ·obtain rfl:b=ents.size:=by omega
   rw[hget a e1,hlast] at e
   have:=h.2.2.1 a e1
   simp only at e
   omega
  ·obtain rfl:a=ents.size:=by omega
   rw[hget b e2,hlast] at e
   have:=h.2.2.1 b e2
   simp only at e
   omega
  ·omega
theorem Fc {kt:TypeId} {d:TypeDesc} {k:Value} (hd:P.underlying kt=some d) (h:qY P kt d k=true) (w:World):(Instr.keyThatStays k k).run P w = .ok k w:=by
 by_cases hw:US P kt=true
 ·obtain⟨h1,h2,h3⟩:=Uc hw
  simp only[qY,XU hd hw,Bool.false_or,Bool.and_eq_true] at h
  obtain⟨lk,hlk⟩:=Option.isSome_iff_exists.1 h.2
  exact (deep_law (m:=8) (by omega) h2 h3 h1).stays w hlk
 ·simp only[qY,hw,Bool.false_and,Bool.or_false] at h
  have:∀ n,Instr.sameBits n k k=true:=fun n=>by cases k <;> simp_all [ZJ,Instr.sameBits,bytes_beq]
  simp[Instr.keyThatStays,this]
def Ws (P:Program) (t:TypeId) (st:St) (x k:SV):Option (Nat×List (Value×SV)×Value×TypeId) :=
 match x,keyOf k,Hr P t with
 | .mp id,some kv,some (kt,d,e)=>match Qn st id with
  | some es=>if qY P kt d kv&&es.all (fun p=>qY P kt d p.1) then some (id,es,kv,e) else none
  | none=>none
 | _,_,_=>none
theorem xK {st:St} {σ:Sig} {w:World} {es:List (Value×SV)} {ents:Array MapEntry} {clock:Nat} (h:MapRep st σ w es ents clock) {kt:TypeId} {d:TypeDesc} {k:Value} (hd:P.underlying kt=some d) (hk:qY P kt d k=true) (hf:es.all (fun p=>qY P kt d p.1)=true)
  {j:Nat} (hj:keyIdx es k=some j):∃ e,ents[j]?=some e∧e.key=k∧(es.getD j (default,.any)).1=k:=by
 have hlt:=Kn hj
 obtain⟨e,p,q1,q2,q3,_⟩:=h.get hlt
 unfold keyIdx at hj
 rw[List.findIdx?_eq_some_iff_getElem] at hj
 obtain⟨_,hp,_⟩:=hj
 have e1:es[j]=p:=by rw[List.getElem?_eq_getElem hlt] at q2;exact Option.some.inj q2
 rw[e1] at hp
 have:=(BO hd hk (List.all_eq_true.1 hf p (List.mem_of_getElem? q2))).1 hp
 refine⟨e,q1,by rw[q3,this],?_⟩
 rw[List.getD_eq_getElem?_getD,q2]
 exact this.symm
theorem wR {st:St} {σ:Sig} {w:World} (hI:Inv st σ w) {t e:TypeId} {x k y:SV} {id:Nat} {es:List (Value×SV)} {kv:Value} {vx vk vy:Value} (h:Ws P t st x k=some (id,es,kv,e)) (hx:Rep st σ w x vx) (hk:Rep st σ w k vk)
  (hy:Rep st σ w y vy):∃ w',(Instr.mapUpdate t vx vk vy).run P w = .ok () w'∧Inv (st.set id (.map (JZ es kv y))) σ w'∧Ext st σ w (st.set id (.map (JZ es kv y))) σ w':=by
 unfold Ws at h
 split at h
 ·rename_i id' kv' kt d e' hkv hmt
  obtain⟨m1,m2⟩:=UC hmt
  have ek:=Ks hkv hk
  subst ek
  split at h
  ·rename_i es' hes
   split at h
   ·rename_i hf
    rw[Bool.and_eq_true] at hf
    cases h
    cases hx with
    | mp _ b' hkk hb =>
     have hid:=WQ hes
     obtain⟨b2,ents,clock,q1,q2,q3,q4⟩:=hI.maps id es hid
     rw[hb] at q1;cases q1
     have hfind:=DT (P:=P) q3 m2 hf.1 hf.2
     have hoth:∀ (o:Obj) c,c≠b'→(w.heap.setIfInBounds b' o)[c]?=w.heap[c]?:=fun o c hc=>by rw[Array.getElem?_setIfInBounds_ne (Ne.symm hc)]
     have hset:∀ (o:Obj),(w.heap.setIfInBounds b' o)[b']?=some o:=fun o=>by simp[qo q2]
     unfold JZ
     cases hj:keyIdx es kv with
     | some j =>
      rw[hj] at hfind
      obtain⟨en,r1,r2,r3⟩:=xK q3 m2 hf.1 hf.2 hj
      obtain⟨g1,g2⟩:=KR q3 (Kn hj) hy (fun e=>{ e with key:=kv,val:=vy }) (fun e he=>by rw[r1] at he;cases he;exact r2.symm) (fun _=>rfl) (fun _=>rfl)
      refine⟨{ w with heap:=w.heap.setIfInBounds b' (.map (ents.modify j fun e=>{ e with key:=kv,val:=vy }) clock) },?_,?_,?_⟩
      ·simp[Instr.mapUpdate,run_underlying m1,Result.andThen,MapKept.run_getObj_map q2,YX m2 hf.1,hfind,r1,r2,Fc m2 hf.1,run_setObj_map _ q2]
      ·exact hI.mapWrite hid hb q4 rfl rfl rfl (by simp) (hoth _) q2 (hset _) (by simp) g2 g1
      ·exact Ext.mapWrite hI hid hb q4 rfl rfl rfl (by simp) (hoth _) q2 (hset _) (by simp) g2
     | none =>
      rw[hj] at hfind
      obtain⟨g1,g2⟩:=H5 q3 (k:=kv) hy
      refine⟨{ w with heap:=w.heap.setIfInBounds b' (.map (ents.push { key:=kv,val:=vy,born:=clock }) (clock+1)) },?_,?_,?_⟩
      ·simp[Instr.mapUpdate,run_underlying m1,Result.andThen,MapKept.run_getObj_map q2,YX m2 hf.1,hfind,run_setObj_map _ q2]
      ·exact hI.mapWrite hid hb q4 rfl rfl rfl (by simp) (hoth _) q2 (hset _) (by simp) g2 g1
      ·exact Ext.mapWrite hI hid hb q4 rfl rfl rfl (by simp) (hoth _) q2 (hset _) (by simp) g2
   ·cases h
  ·cases h
 ·cases h
theorem Lh {st:St} {σ:Sig} {w:World} (hI:Inv st σ w) {t e:TypeId} {x k z:SV} {id:Nat} {es:List (Value×SV)} {kv:Value} {vx vk:Value} (h:Ws P t st x k=some (id,es,kv,e)) (hz:Js P e=some z)
  (hx:Rep st σ w x vx) (hk:Rep st σ w k vk) :
  (∀ j,keyIdx es kv=some j→∃ w' v born,(Instr.mapEntry t vx vk).run P w = .ok (.tuple #[v,.int .i64 born]) w'∧Inv st σ w'∧Ext st σ w st σ w'∧Rep st σ w' (es.getD j (default,.any)).2 v∧Rep st σ w' (.stamp id j) (.int .i64 born)) ∧
  (keyIdx es kv=none→∃ w' v born,(Instr.mapEntry t vx vk).run P w = .ok (.tuple #[v,.int .i64 born]) w'∧Inv (st.set id (.map (es++[(kv,z)]))) σ w'∧Ext st σ w (st.set id (.map (es++[(kv,z)]))) σ w' ∧
   Rep (st.set id (.map (es++[(kv,z)]))) σ w' z v∧Rep (st.set id (.map (es++[(kv,z)]))) σ w' (.stamp id es.length) (.int .i64 born)):=by
 unfold Ws at h
 split at h
 ·rename_i id' kv' kt d e' hkv hmt
  obtain⟨m1,m2⟩:=UC hmt
  have ek:=Ks hkv hk
  subst ek
  split at h
  ·rename_i es' hes
   split at h
   ·rename_i hf
    rw[Bool.and_eq_true] at hf
    cases h
    cases hx with
    | mp _ b' hkk hb =>
     have hid:=WQ hes
     obtain⟨b2,ents,clock,q1,q2,q3,q4⟩:=hI.maps id es hid
     rw[hb] at q1;cases q1
     have hfind:=DT (P:=P) q3 m2 hf.1 hf.2
     obtain⟨vz,z1,z2⟩:=KZ hz st σ w
     have hoth:∀ (o:Obj) c,c≠b'→(w.heap.setIfInBounds b' o)[c]?=w.heap[c]?:=fun o c hc=>by rw[Array.getElem?_setIfInBounds_ne (Ne.symm hc)]
     have hset:∀ (o:Obj),(w.heap.setIfInBounds b' o)[b']?=some o:=fun o=>by simp[qo q2]
     refine⟨fun j hj=>?_,fun hj=>?_⟩
     ·rw[hj] at hfind
      obtain⟨en,r1,r2,r3⟩:=xK q3 m2 hf.1 hf.2 hj
      have hlt:=Kn hj
      have hsame:es.set j ((es.getD j (default,.any)).1,(es.getD j (default,.any)).2)=es:=by
       refine List.ext_getElem? fun i=>?_
       by_cases e:j=i
       ·subst e;rw[List.getElem?_set_self hlt];simp[List.getD_eq_getElem?_getD,hlt]
       ·rw[List.getElem?_set_ne e]
      have hval:∀ e:MapEntry,ents[j]?=some e→e.val=(ents.getD j default).val:=fun e he=>by rw[Array.getD_eq_getD_getElem?,he];rfl
      have hrep:MapRep st σ w es (ents.modify j fun e=>{ e with key:=kv }) clock∧∀ i,i<ents.size→((ents.modify j fun e=>{ e with key:=kv }).getD i default).born=(ents.getD i default).born:=by
       have h1:ents.modify j (fun e=>{ e with key:=kv })=ents.modify j (fun e=>{ e with key:=kv,val:=(ents.getD j default).val }):=by
        refine Array.ext_getElem? fun i=>?_
        simp only[Array.getElem?_modify]
        by_cases e:j=i
        ·subst e;simp only[if_true,r1,Option.map_some,hval en r1]
        ·rw[if_neg e,if_neg e]
       rw[h1]
       have:=KR q3 hlt (q3.at hlt) (fun e=>{ e with key:=kv,val:=(ents.getD j default).val }) (fun e he=>by rw[r1] at he;cases he;exact r2.symm) (fun _=>rfl) (fun _=>rfl)
       rw[hsame] at this
       exact this
      have hst:st.set id (.map es)=st:=by
       refine List.ext_getElem? fun i=>?_
       by_cases e:id=i
       ·subst e;rw[List.getElem?_set_self (zp hid),hid]
       ·rw[List.getElem?_set_ne e]
      have hX:=Ext.mapWrite (w':={ w with heap:=w.heap.setIfInBounds b' (.map (ents.modify j fun e=>{ e with key:=kv }) clock) }) (es':=es) hI hid hb q4 rfl rfl rfl (by simp) (hoth _) q2 (hset _) (by simp) hrep.2
      have hI2:=hI.mapWrite (w':={ w with heap:=w.heap.setIfInBounds b' (.map (ents.modify j fun e=>{ e with key:=kv }) clock) }) hid hb q4 rfl rfl rfl (by simp) (hoth _) q2 (hset _) (by simp) hrep.2 hrep.1
      rw[hst] at hX hI2
      refine⟨_,(ents.getD j default).val,(ents.getD j default).born,?_,hI2,hX,(q3.at hlt).ext hX,(Rep.stamp id j b' ents clock ⟨es,hid⟩ hb q2 (by rw[q3.1];exact hlt)).ext hX⟩
      simp[Instr.mapEntry,run_underlying m1,Result.andThen,MapKept.run_getObj_map q2,YX m2 hf.1,hfind,r1,r2,Fc m2 hf.1,run_setObj_map _ q2,goInt,Array.getD_eq_getD_getElem?]
     ·rw[hj] at hfind
      obtain⟨g1,g2⟩:=H5 q3 (k:=kv) z2
      have hX:=Ext.mapWrite (w':={ w with heap:=w.heap.setIfInBounds b' (.map (ents.push { key:=kv,val:=vz,born:=clock }) (clock+1)) }) (es':=es++[(kv,z)]) hI hid hb q4 rfl rfl rfl (by simp) (hoth _) q2 (hset _) (by simp) g2
      have hI2:=hI.mapWrite (w':={ w with heap:=w.heap.setIfInBounds b' (.map (ents.push { key:=kv,val:=vz,born:=clock }) (clock+1)) }) hid hb q4 rfl rfl rfl (by simp) (hoth _) q2 (hset _) (by simp) g2 g1
      refine⟨_,vz,clock,?_,hI2,hX,z2.ext hX,?_⟩
      ·simp[Instr.mapEntry,run_underlying m1,Result.andThen,MapKept.run_getObj_map q2,YX m2 hf.1,hfind,run_setObj_map _ q2,goInt,z1]
      ·have:=Rep.stamp (st:=st.set id (.map (es++[(kv,z)]))) (σ:=σ) (w:={ w with heap:=w.heap.setIfInBounds b' (.map (ents.push { key:=kv,val:=vz,born:=clock }) (clock+1)) }) id es.length b' (ents.push { key:=kv,val:=vz,born:=clock }) (clock+1)
        ⟨_,qA (zp hid)⟩ hb (hset _) (by simp[q3.1])
       have e:((ents.push { key:=kv,val:=vz,born:=clock }).getD es.length default).born=clock:=by rw[←q3.1];simp[Array.getD_eq_getD_getElem?]
       rw[e] at this
       exact this
   ·cases h
  ·cases h
 ·cases h
theorem Dx {st:St} {σ:Sig} {w:World} (hI:Inv st σ w) {t:TypeId} {id j:Nat} {es:List (Value×SV)} {y:SV} {vx vs vy:Value} (hes:Qn st id=some es) (hj:j<es.length)
  (hx:Rep st σ w (.mp id) vx) (hs:Rep st σ w (.stamp id j) vs) (hy:Rep st σ w y vy) :
  ∃ w',(Instr.entryStore t vx vs vy).run P w = .ok () w'∧Inv (st.set id (.map (es.set j ((es.getD j (default,.any)).1,y)))) σ w'∧Ext st σ w (st.set id (.map (es.set j ((es.getD j (default,.any)).1,y)))) σ w':=by
 have hid:=WQ hes
 cases hx with
 | mp _ b' hkk hb =>
  obtain⟨b2,ents,clock,q1,q2,q3,q4⟩:=hI.maps id es hid
  rw[hb] at q1;cases q1
  cases hs with
  | stamp _ _ b3 ents3 clock3 _ hb3 hh3 hj3 =>
   rw[hb] at hb3;cases hb3
   rw[q2] at hh3;cases hh3
   have hfi:ents.findIdx? (fun e=>((e.born:Int)==((ents.getD j default).born:Int)))=some j:=by
    rw[Array.findIdx?_eq_some_iff_getElem]
    refine⟨hj3,by simp[Array.getD,hj3],fun i hi=>?_⟩
    have:i<ents.size:=by omega
    have hne:¬ (ents.getD i default).born=(ents.getD j default).born:=fun e=>by have:=q3.2.2.2 i j this hj3 e;omega
    simp only[Array.getD,this,hj3,dif_pos] at hne
    simp only[beq_eq_false_iff_ne,ne_eq,Bool.not_eq_true]
    intro e
    apply hne
    simp only[Array.getD,hj3,dif_pos] at e
    exact_mod_cast e
   rw[Array.getD_eq_getD_getElem?] at hfi
   have hoth:∀ (o:Obj) c,c≠b'→(w.heap.setIfInBounds b' o)[c]?=w.heap[c]?:=fun o c hc=>by rw[Array.getElem?_setIfInBounds_ne (Ne.symm hc)]
   have hset:∀ (o:Obj),(w.heap.setIfInBounds b' o)[b']?=some o:=fun o=>by simp[qo q2]
   obtain⟨g1,g2⟩:=KR q3 hj hy (fun e=>{ e with val:=vy }) (fun e _=>rfl) (fun _=>rfl) (fun _=>rfl)
   refine⟨{ w with heap:=w.heap.setIfInBounds b' (.map (ents.modify j fun e=>{ e with val:=vy }) clock) },?_,?_,?_⟩
   ·simp[Instr.entryStore,Result.andThen,MapKept.run_getObj_map q2,asInt,asIntOf,hfi,run_setObj_map _ q2]
   ·exact hI.mapWrite hid hb q4 rfl rfl rfl (by simp) (hoth _) q2 (hset _) (by simp) g2 g1
   ·exact Ext.mapWrite hI hid hb q4 rfl rfl rfl (by simp) (hoth _) q2 (hset _) (by simp) g2
theorem yW {o:Oper} {t:TypeId} {x k:Operand} {ok:Bool} {y:SV} {b:Bool} {ρ:Operand→SV} {st:St} (ho:o.op = .lookup t x k ok) (h:XH P t st (ρ x) (ρ k)=some (y,b)) :
  Zl P o ρ st (if ok then .tuple [y,.sc (.bool b)] else y):=by
 intro σ w a hI hR
 obtain⟨v,h1,h2⟩:=ki (P:=P) hI h (hR x (by simp[ho,Op.operands])) (hR k (by simp[ho,Op.operands])) ok
 refine⟨if ok then .tuple #[v,.bool b] else v,by simp[execOp,ho,h1],?_⟩
 cases ok with
 | false=>exact h2
 | true =>
  refine .tuple _ _ rfl fun i hi=>?_
  match i,hi with
  | 0,_=>exact h2
  | 1,_=>exact .sc _
theorem kS {o:Oper} {t:TypeId} {x:Operand} {id:Nat} {es:List (Value×SV)} {ρ:Operand→SV} {st:St} (ho:o.op = .call { callee :=.builtin .len,args:=#[x],argTypes:=#[t] }) (hx:ρ x = .mp id)
  (hm:(Hr P t).isSome=true) (hes:Qn st id=some es):Zl P o ρ st (.sc (.int .i64 es.length)):=by
 intro σ w a hI hR
 have hr:=hR x (by simp[ho,Op.operands,Call.operands])
 rw[hx] at hr
 obtain⟨⟨kt,d,e⟩,hm⟩:=Option.isSome_iff_exists.1 hm
 obtain⟨m1,_⟩:=UC hm
 generalize hv:a.eval x=v at hr
 cases hr with
 | mp _ b hkk hb =>
  obtain⟨b2,ents,clock,q1,q2,q3,_⟩:=hI.maps id es (WQ hes)
  rw[hb] at q1;cases q1
  exact⟨_,by simp[execOp,ho,resolve,invoke,builtin,hv,Builtin.len_,run_underlying m1,MapKept.run_getObj_map q2,goInt,q3.1],.sc _⟩
theorem KB {o:Oper} {t e:TypeId} {x k y:Operand} {id:Nat} {es:List (Value×SV)} {kv:Value} {K:SV→St→Prop} {env:List SV} {st:St} (ho:o.op = .mapUpdate t x k y∨o.op = .insert t x k y) (hd:o.dst=none)
  (h:Ws P t st (ev env x) (ev env k)=some (id,es,kv,e)) (hk:K .any (st.set id (.map (JZ es kv (ev env y))))):AOp P o K env st :=
 Ug hd fun σ w a hI hR=>by
  obtain⟨w',h1,h2,h3⟩:=wR (P:=P) hI h (qC hR x) (qC hR k) (qC hR y)
  refine⟨w',_,σ,?_,hk,h2,h3⟩
  rcases ho with ho | ho <;> simp[execOp,ho,h1]
theorem Uk {o:Oper} {t e:TypeId} {x k:Operand} {z:SV} {id:Nat} {es:List (Value×SV)} {kv:Value} {K:SV→St→Prop} {env:List SV} {st:St} (ho:o.op = .mapEntry t x k)
  (h:Ws P t st (ev env x) (ev env k)=some (id,es,kv,e)) (hz:Js P e=some z) (h1:∀ j,keyIdx es kv=some j→K (.tuple [(es.getD j (default,.any)).2,.stamp id j]) st)
  (h2:keyIdx es kv=none→K (.tuple [z,.stamp id es.length]) (st.set id (.map (es++[(kv,z)])))):AOp P o K env st :=
 Zx fun σ w a hI hR=>by
  obtain⟨g1,g2⟩:=Lh (P:=P) hI h hz (qC hR x) (qC hR k)
  cases hj:keyIdx es kv with
  | some j =>
   obtain⟨w',v,born,r1,r2,r3,r4,r5⟩:=g1 j hj
   refine⟨.tuple #[v,.int .i64 born],w',_,_,σ,by simp[execOp,ho,r1],h1 j hj,r2,?_,r3⟩
   refine .tuple _ _ rfl fun i hi=>?_
   match i,hi with
   | 0,_=>exact r4
   | 1,_=>exact r5
  | none =>
   obtain⟨w',v,born,r1,r2,r3,r4,r5⟩:=g2 hj
   refine⟨.tuple #[v,.int .i64 born],w',_,_,σ,by simp[execOp,ho,r1],h2 hj,r2,?_,r3⟩
   refine .tuple _ _ rfl fun i hi=>?_
   match i,hi with
   | 0,_=>exact r4
   | 1,_=>exact r5
theorem GA {o:Oper} {t:TypeId} {x s y:Operand} {id j:Nat} {es:List (Value×SV)} {K:SV→St→Prop} {env:List SV} {st:St} (ho:o.op = .entryStore t x s y) (hd:o.dst=none)
  (hx:ev env x = .mp id) (hs:ev env s = .stamp id j) (hes:Qn st id=some es) (hj:j<es.length) (hk:K .any (st.set id (.map (es.set j ((es.getD j (default,.any)).1,ev env y))))):AOp P o K env st :=
 Ug hd fun σ w a hI hR=>by
  have hrx:=qC hR x
  have hrs:=qC hR s
  rw[hx] at hrx
  rw[hs] at hrs
  obtain⟨w',h1,h2,h3⟩:=Dx (P:=P) (t:=t) hI hes hj hrx hrs (qC hR y)
  exact⟨w',_,σ,by simp[execOp,ho,h1],hk,h2,h3⟩
end Go.AL
namespace Go.AL
variable {P:Program}
def Cd (st:St) (id:Nat):Option (Nat×Nat×List SV):=match st[id]? with | some (.arr v z cs)=>some (v,z,cs) | _=>none
theorem Ext.arrWrite {st:St} {σ:Sig} {w w':World} {id b ver ver' z:Nat} {cs cs':List SV} {vals vals':Array Value} {T:TypeId} (hI:Inv st σ w) (hid:st[id]?=some (.arr ver z cs))
  (hb:σ.μ id=some b) (hh:w.heap[b]?=some (.cells vals T (0,0))) (hh':w'.heap[b]?=some (.cells vals' T (0,0))) (hvs:vals'.size=vals.size) (hv:ver≤ver') (hlen:ver'=ver→cs'.length=cs.length)
  (hl:σ.lock b = .upto 0) (hos:w'.os=w.os) (htape:w'.tape=w.tape) (hout:w'.output=w.output) (hsz:w'.heap.size=w.heap.size)
  (hoth:∀ c,c≠b→w'.heap[c]?=w.heap[c]?):Ext st σ w (st.set id (.arr ver' z cs')) σ w' where
 os:=hos
 tape:=htape
 output:=hout
 size:=by omega
 lock:=fun c o v h k=>by
  by_cases e:c=b
  ·subst e
   rw[hl] at h
   exact absurd h (Nat.not_lt_zero _)
  ·refine⟨h,?_⟩
   unfold World.cell? at *
   simp only[hoth c e];exact k
 all:=fun c hc h=>by
  have e:c≠b:=by rintro rfl;rw[hl] at h;cases h
  exact⟨rfl,hoth c e⟩
 kcells:=fun j x h=>by
  have hne:j≠id:=by rintro rfl;rw[hid] at h;cases h
  exact⟨⟨x,by rw[zO hne];exact h⟩,rfl⟩
 ktok:=fun j v h=>by
  have hne:j≠id:=by rintro rfl;rw[hid] at h;cases h
  refine⟨v,by rw[zO hne];exact h,Nat.le_refl _,fun _=>⟨rfl,fun c hc=>?_⟩⟩
  have e:c≠b:=by rintro rfl;exact hne (hI.inj j id c (zp h) (zp hid) hc hb)
  exact⟨rfl,hoth c e⟩
 karrs:=fun j v z1 x h=>by
  by_cases hne:j=id
  ·subst hne
   rw[hid] at h;cases h
   refine⟨ver',cs',qA (zp hid),hv,fun e=>⟨rfl,hlen e,fun c vs T' fr hc hhc=>?_⟩⟩
   rw[hb] at hc;cases hc
   rw[hh] at hhc;cases hhc
   exact⟨vals',hh',hvs⟩
  ·refine⟨v,x,by rw[zO hne];exact h,Nat.le_refl _,fun _=>⟨rfl,rfl,fun c vals T fr hc hh=>⟨vals,?_,rfl⟩⟩⟩
   rw[hoth c (by rintro rfl;exact hne (hI.inj j id c (zp h) (zp hid) hc hb))];exact hh
 kmaps:=fun j x h=>by
  have hne:j≠id:=by rintro rfl;rw[hid] at h;cases h
  refine⟨⟨x,by rw[zO hne];exact h⟩,rfl,fun c e cl hc hh=>⟨e,cl,?_,Nat.le_refl _,fun _ _=>rfl⟩⟩
  rw[hoth c (by rintro rfl;exact hne (hI.inj j id c (zp h) (zp hid) hc hb))];exact hh
theorem Inv.arrWrite {st:St} {σ:Sig} {w w':World} {id b ver ver' z:Nat} {cs cs':List SV} {vals vals':Array Value} {T:TypeId} (hI:Inv st σ w) (hid:st[id]?=some (.arr ver z cs))
  (hb:σ.μ id=some b) (hh:w.heap[b]?=some (.cells vals T (0,0))) (hh':w'.heap[b]?=some (.cells vals' T (0,0))) (hvs:vals'.size=vals.size) (hv:ver≤ver') (hlen:ver'=ver→cs'.length=cs.length)
  (hl:σ.lock b = .upto 0) (hos:w'.os=w.os) (htape:w'.tape=w.tape) (hout:w'.output=w.output) (hsz:w'.heap.size=w.heap.size)
  (hoth:∀ c,c≠b→w'.heap[c]?=w.heap[c]?)
  (hcs:cs'.length≤vals'.size) (hr:∀ j,j<cs'.length→Rep st σ w (cs'.getD j .any) (vals'.getD j default)):Inv (st.set id (.arr ver' z cs')) σ w' where
 cells:=fun j x h=>by
  have k:=Ext.arrWrite (ver':=ver') (cs':=cs') hI hid hb hh hh' hvs hv hlen hl hos htape hout hsz hoth
  have hne:j≠id:=by rintro rfl;rw[qA (zp hid)] at h;cases h
  rw[zO hne] at h
  obtain⟨c,cs',T',h1,h2,h3,h4,h5⟩:=hI.cells j x h
  have e:c≠b:=by rintro rfl;exact hne (hI.inj j id c (zp h) (zp hid) h1 hb)
  exact⟨c,cs',T',h1,by rw[hoth c e];exact h2,h3,fun i hi=>(h4 i hi).ext k,h5⟩
 tok:=fun j v c h hc=>by
  have hne:j≠id:=by rintro rfl;rw[qA (zp hid)] at h;cases h
  rw[zO hne] at h
  obtain⟨h1,h2⟩:=hI.tok j v c h hc
  exact⟨by omega,h2⟩
 inj:=fun i j c hi hj h1 h2=>by simp at hi hj;exact hI.inj i j c hi hj h1 h2
 fresh:=fun c hc=>hI.fresh c (by omega)
 arrs:=fun j v z1 x h=>by
  have k:=Ext.arrWrite (ver':=ver') (cs':=cs') hI hid hb hh hh' hvs hv hlen hl hos htape hout hsz hoth
  by_cases hne:j=id
  ·subst hne
   rw[qA (zp hid)] at h
   cases h
   exact .inr ⟨b,vals',T,hb,hh',hcs,fun i hi=>(hr i hi).ext k,hl⟩
  ·rw[zO hne] at h
   refine (hI.arrs j v z1 x h).imp (fun h=>h) fun ⟨c,vals,T',h1,h2,h3,h4,h5⟩=>?_
   have e:c≠b:=by rintro rfl;exact hne (hI.inj j id c (zp h) (zp hid) h1 hb)
   exact⟨c,vals,T',h1,by rw[hoth c e];exact h2,h3,fun i hi=>(h4 i hi).ext k,h5⟩
 maps:=fun j x h=>by
  have k:=Ext.arrWrite (ver':=ver') (cs':=cs') hI hid hb hh hh' hvs hv hlen hl hos htape hout hsz hoth
  have hne:j≠id:=by rintro rfl;rw[qA (zp hid)] at h;cases h
  rw[zO hne] at h
  obtain⟨c,es,cl,h1,h2,h3,h4⟩:=hI.maps j x h
  have e:c≠b:=by rintro rfl;exact hne (hI.inj j id c (zp h) (zp hid) h1 hb)
  exact⟨c,es,cl,h1,by rw[hoth c e];exact h2,h3.ext k,h4⟩
 globs:=hI.globs_ext (Ext.arrWrite (ver':=ver') (cs':=cs') hI hid hb hh hh' hvs hv hlen hl hos htape hout hsz hoth) (Vv (fun _ _=>rfl) (fun b v h=>by cases h))
theorem Ext.arrNew {st:St} {σ:Sig} {w:World} {id ver z:Nat} {cs cs':List SV} (hid:st[id]?=some (.arr ver z cs)) (b:Option Nat) :
  Ext st σ w (st.set id (.arr (ver+1) z cs')) (σ.setMu id b) w where
 os:=rfl
 tape:=rfl
 output:=rfl
 size:=Nat.le_refl _
 lock:=fun _ _ _ h k=>⟨h,k⟩
 all:=fun _ _ h=>⟨rfl,rfl⟩
 kcells:=fun j l h=>by
  have hne:j≠id:=by rintro rfl;rw[hid] at h;cases h
  exact⟨⟨l,by rw[zO hne];exact h⟩,by simp only[Sig.setMu,if_neg hne]⟩
 ktok:=fun j v h=>by
  have hne:j≠id:=by rintro rfl;rw[hid] at h;cases h
  exact⟨v,by rw[zO hne];exact h,Nat.le_refl _,fun _=>⟨by simp only[Sig.setMu,if_neg hne],fun _ _=>⟨rfl,rfl⟩⟩⟩
 karrs:=fun j v z1 c h=>by
  by_cases hne:j=id
  ·subst hne
   rw[hid] at h;cases h
   exact⟨ver+1,cs',qA (zp hid),Nat.le_succ _,fun e=>by omega⟩
  ·exact⟨v,c,by rw[zO hne];exact h,Nat.le_refl _,fun _=>⟨by simp only[Sig.setMu,if_neg hne],rfl,fun _ vals _ _ _ hh=>⟨vals,hh,rfl⟩⟩⟩
 kmaps:=fun j l h=>by
  have hne:j≠id:=by rintro rfl;rw[hid] at h;cases h
  exact⟨⟨l,by rw[zO hne];exact h⟩,by simp only[Sig.setMu,if_neg hne],fun b e c _ hh=>⟨e,c,hh,Nat.le_refl _,fun _ _=>rfl⟩⟩
theorem Inv.arrNew {st:St} {σ:Sig} {w:World} {id ver z:Nat} {cs cs':List SV} (hI:Inv st σ w) (hid:st[id]?=some (.arr ver z cs)) (b:Option Nat)
  (hb:(b=none∧cs'=[])∨∃ c vals T,b=some c∧w.heap[c]?=some (.cells vals T (0,0))∧cs'.length≤vals.size∧(∀ j,j<cs'.length→Rep st σ w (cs'.getD j .any) (vals.getD j default))∧σ.lock c = .upto 0)
  (hno:∀ c,b=some c→∀ i,i<st.length→i≠id→σ.μ i≠some c):Inv (st.set id (.arr (ver+1) z cs')) (σ.setMu id b) w where
 cells:=fun j l hl=>by
  have hne:j≠id:=by rintro rfl;rw[qA (zp hid)] at hl;cases hl
  rw[zO hne] at hl
  obtain⟨b,cs,T,h1,h2,h3,h4,h5⟩:=hI.cells j l hl
  exact⟨b,cs,T,by simp only[Sig.setMu,if_neg hne];exact h1,h2,h3,fun k hk=>(h4 k hk).ext (Ext.arrNew hid _),h5⟩
 tok:=fun j v c h hc=>by
  have hne:j≠id:=by rintro rfl;rw[qA (zp hid)] at h;cases h
  rw[zO hne] at h
  simp only[Sig.setMu,if_neg hne] at hc
  exact hI.tok j v c h hc
 inj:=fun i j c hi hj h1 h2=>by
  simp at hi hj
  by_cases e:i=id <;> by_cases e':j=id
  ·omega
  ·simp only[Sig.setMu,if_pos e] at h1
   simp only[Sig.setMu,if_neg e'] at h2
   exact absurd h2 (hno c h1 j (by omega) e')
  ·simp only[Sig.setMu,if_pos e'] at h2
   simp only[Sig.setMu,if_neg e] at h1
   exact absurd h1 (hno c h2 i (by omega) e)
  ·simp only[Sig.setMu,if_neg e] at h1
   simp only[Sig.setMu,if_neg e'] at h2
   exact hI.inj i j c (by omega) (by omega) h1 h2
 fresh:=hI.fresh
 arrs:=fun j v z1 x hc=>by
  by_cases hne:j=id
  ·subst hne
   rw[qA (zp hid)] at hc
   cases hc
   refine hb.imp (fun ⟨h1,h2⟩=>⟨by simp only[Sig.setMu,if_true];exact h1,h2⟩) fun ⟨c,vals,T,h1,h2,h3,h4,h5⟩=>?_
   exact⟨c,vals,T,by simp only[Sig.setMu,if_true];exact h1,h2,h3,fun k hk=>(h4 k hk).ext (Ext.arrNew hid _),h5⟩
  ·rw[zO hne] at hc
   refine (hI.arrs j v z1 x hc).imp (fun ⟨h1,h2⟩=>⟨by simp only[Sig.setMu,if_neg hne];exact h1,h2⟩) fun ⟨b,vals,T,h1,h2,h3,h4,h5⟩=>?_
   exact⟨b,vals,T,by simp only[Sig.setMu,if_neg hne];exact h1,h2,h3,fun k hk=>(h4 k hk).ext (Ext.arrNew hid _),h5⟩
 maps:=fun j l hl=>by
  have hne:j≠id:=by rintro rfl;rw[qA (zp hid)] at hl;cases hl
  rw[zO hne] at hl
  obtain⟨b,es,c,h1,h2,h3,h4⟩:=hI.maps j l hl
  exact⟨b,es,c,by simp only[Sig.setMu,if_neg hne];exact h1,h2,h3.ext (Ext.arrNew hid _),h4⟩
 globs:=hI.globs_ext (Ext.arrNew hid b) (Vv (fun j hj=>by simp only[Sig.setMu,if_neg hj]) (fun b v h=>by cases h))
theorem Inv.newArr {st:St} {σ:Sig} {w:World} (hI:Inv st σ w) (z:Nat):Inv (st++[.arr 0 z []]) (σ.setMu st.length none) w where
 cells:=fun id l' hl'=>by
  by_cases e:id=st.length
  ·subst e;simp at hl'
  ·have hlt:id<st.length:=by have:=zp hl';simp at this;omega
   rw[List.getElem?_append_left hlt] at hl'
   obtain⟨c,cs,T,h1,h2,h3,h4,h5⟩:=hI.cells id l' hl'
   exact⟨c,cs,T,by simp only[Sig.setMu,if_neg e];exact h1,h2,h3,fun j hj=>(h4 j hj).ext (Ext.newOb _ _),h5⟩
 tok:=fun id v c h hc=>by
  by_cases e:id=st.length
  ·subst e;simp at h
  ·have hlt:id<st.length:=by have:=zp h;simp at this;omega
   rw[List.getElem?_append_left hlt] at h
   simp only[Sig.setMu,if_neg e] at hc
   exact hI.tok id v c h hc
 inj:=fun i j c hi hj h1 h2=>by
  simp at hi hj
  by_cases e:i=st.length <;> by_cases e':j=st.length
  ·omega
  ·simp only[Sig.setMu,if_pos e] at h1;cases h1
  ·simp only[Sig.setMu,if_pos e'] at h2;cases h2
  ·simp only[Sig.setMu,if_neg e] at h1
   simp only[Sig.setMu,if_neg e'] at h2
   exact hI.inj i j c (by omega) (by omega) h1 h2
 fresh:=hI.fresh
 arrs:=fun id v z cs' hc=>by
  by_cases e:id=st.length
  ·subst e
   simp at hc
   obtain⟨rfl,rfl,rfl⟩:=hc
   exact .inl ⟨by simp only[Sig.setMu,if_true],rfl⟩
  ·have hlt:id<st.length:=by have:=zp hc;simp at this;omega
   rw[List.getElem?_append_left hlt] at hc
   refine (hI.arrs id v z cs' hc).imp (fun ⟨h1,h2⟩=>⟨by simp only[Sig.setMu,if_neg e];exact h1,h2⟩) fun ⟨c,vals,T,h1,h2,h3,h4,h5⟩=>?_
   exact⟨c,vals,T,by simp only[Sig.setMu,if_neg e];exact h1,h2,h3,fun j hj=>(h4 j hj).ext (Ext.newOb _ _),h5⟩
 maps:=fun id l' hl'=>by
  by_cases e:id=st.length
  ·subst e;simp at hl'
  ·have hlt:id<st.length:=by have:=zp hl';simp at this;omega
   rw[List.getElem?_append_left hlt] at hl'
   obtain⟨c,es,cl,h1,h2,h3,h4⟩:=hI.maps id l' hl'
   exact⟨c,es,cl,by simp only[Sig.setMu,if_neg e];exact h1,h2,h3.ext (Ext.newOb _ _),h4⟩
 globs:=hI.globs_ext (Ext.newOb _ _) (Uz (fun id hid=>by simp only[Sig.setMu,if_neg (show ¬ id=st.length by omega)]) (fun b v h=>by cases h))
theorem U8 {o:Oper} {t e:TypeId} {x y:Operand} {k:IntKind} {i:Int} {id ver n z z':Nat} {cs:List SV} {ρ:Operand→SV} {st:St}
  (ho:o.op = .indexAddr t x y) (hx:ρ x = .arr id ver n) (hy:ρ y = .sc (.int k i)) (hid:st[id]?=some (.arr ver z' cs)) (he:zY P t=some e) (hz:qd P e=some z)
  (h0:0≤i) (hi:i<n):Zl P o ρ st (.aptr id ver (i.toNat*z)):=by
 intro σ w a hI hR
 have hr:=hR x (by simp[ho,Op.operands])
 rw[hx] at hr
 have e2:=qL (by have:=hR y (by simp[ho,Op.operands]);rw[hy] at this;exact this)
 generalize hv:a.eval x=v at hr
 cases hr with
 | arr id ver n v0 z cs v hoc hk hv' h =>
  rw[hid] at hk;cases hk
  obtain⟨q1,q2⟩:=h rfl
  rcases q2 with⟨_,rfl,_⟩ | ⟨b,cap,vals,T,r1,rfl,r3,r4,r5⟩
  ·omega
  ·exact⟨_,by simp[execOp,ho,hv,e2,Instr.indexAt,asIntOf,run_underlying (qq he),h0,hi,qm hz,Z0],.aptr id _ _ _ _ _ _ rfl hid (Nat.le_refl _) fun _=>⟨b,r1,rfl⟩⟩
theorem wy {o:Oper} {t e:TypeId} {x:Operand} {id ver n z:Nat} {cs:List SV} {ρ:Operand→SV} {st:St}
  (ho:o.op = .call { callee :=.builtin .len,args:=#[x],argTypes:=#[t] }) (hx:ρ x = .arr id ver n) (hid:st[id]?=some (.arr ver z cs)) (he:zY P t=some e) :
  Zl P o ρ st (.sc (.int .i64 n)):=by
 intro σ w a hI hR
 have hr:=hR x (by simp[ho,Op.operands,Call.operands])
 rw[hx] at hr
 generalize hv:a.eval x=v at hr
 cases hr with
 | arr id ver n v0 z cs v hoc hk hv' h =>
  rw[hid] at hk;cases hk
  obtain⟨q1,q2⟩:=h rfl
  rcases q2 with⟨_,rfl,ad,rfl⟩ | ⟨b,cap,vals,T,r1,rfl,r3,r4,r5⟩
  ·exact⟨_,by simp[execOp,ho,resolve,invoke,builtin,hv,Builtin.len_,run_underlying (qq he),goInt],.sc _⟩
  ·exact⟨_,by simp[execOp,ho,resolve,invoke,builtin,hv,Builtin.len_,run_underlying (qq he),goInt],.sc _⟩
theorem UQ {o:Oper} {t:TypeId} {f off size:Nat} {x:Operand} {id ver i z:Nat} {cs:List SV} {ρ:Operand→SV} {st:St}
  (ho:o.op = .fieldAddr t x f) (hx:ρ x = .aptr id ver i) (hid:st[id]?=some (.arr ver z cs)) (hf:qk P t f=some (off,size)) (h0:size≠0):Zl P o ρ st (.aptr id ver (i+off)):=by
 intro σ w a hI hR
 have hr:=hR x (by simp[ho,Op.operands])
 rw[hx] at hr
 generalize hv:a.eval x=v at hr
 cases hr with
 | aptr id ver i v0 z cs v hoc hk hv' h =>
  rw[hid] at hk;cases hk
  obtain⟨b,q1,rfl⟩:=h rfl
  exact⟨_,by simp[execOp,ho,hv,VZ hf h0],.aptr id _ _ _ _ _ _ rfl hid (Nat.le_refl _) fun _=>⟨b,q1,rfl⟩⟩
theorem F0 {o:Oper} {t:TypeId} {x:Operand} {id ver off z:Nat} {cs:List SV} {y:SV} {ρ:Operand→SV} {st:St}
  (ho:o.op = .load t x) (hx:ρ x = .aptr id ver off) (hid:st[id]?=some (.arr ver z cs)) (hy:Zc P t (cs.drop off)=some y):Zl P o ρ st y:=by
 intro σ w a hI hR
 have hr:=hR x (by simp[ho,Op.operands])
 rw[hx] at hr
 generalize hv:a.eval x=v at hr
 cases hr with
 | aptr id ver i v0 z cs v hoc hk hv' h =>
  rw[hid] at hk;cases hk
  obtain⟨b,q1,rfl⟩:=h rfl
  rcases hI.arrs id ver z cs hid with⟨h1,rfl⟩ | ⟨b',vals,T,h1,h2,h3,h4,h5⟩
  ·rw[q1] at h1;cases h1
  ·rw[q1] at h1;cases h1
   obtain⟨v,h6,h7⟩:=QK (st:=st) (σ:=σ) (w:=w) b off (fun j=>vals.getD (off+j) default) hy (fun j hj=>by
    simp at hj
    have:off+j<vals.size:=by omega
    simp[World.cell?,h2,Array.getD,this]) (fun j hj=>by
    simp at hj
    have:=h4 (off+j) (by omega)
    simpa[List.getD_eq_getElem?_getD] using this)
   exact⟨v,by simp[execOp,ho,hv,Instr.loadAt,Instr.sureAddr,h6],h7⟩
theorem Lf {o:Oper} {t e:TypeId} {x:Operand} {lo hi:Option Operand} {nh:Int} {id ver n z z':Nat} {cs:List SV} {ρ:Operand→SV} {st:St}
  (ho:o.op = .slice t x lo hi none) (hx:ρ x = .arr id ver n) (hid:st[id]?=some (.arr ver z' cs)) (he:zY P t=some e) (hz:qd P e=some z)
  (hl:qG ρ lo 0=some 0) (hh:qG ρ hi n=some nh) (h0:0≤nh) (h1:nh≤n):Zl P o ρ st (.arr id ver nh.toNat):=by
 intro σ w a hI hR
 have hr:=hR x (by simp[ho,Op.operands])
 rw[hx] at hr
 generalize hv:a.eval x=v at hr
 cases hr with
 | arr id ver n v0 z0 cs v hoc hk hv' h =>
  rw[hid] at hk;cases hk
  obtain⟨q1,q2⟩:=h rfl
  have key:∀ (ad:Option Addr) (cap:Nat),v = .slice ad n cap→n≤cap→(execOp a.eval o).run P w = .ok (.value (.slice (if cap=0 then ad else ad.map (·.add 0)) nh.toNat cap)) w:=by
   intro ad cap hvv hcap
   subst hvv
   have eh:(match hi.map a.eval with | some v=>Instr.sliceBound v cap .sliceAcap | none=>pure n).run P w = .ok nh.toNat w:=by
    cases hi with
    | none=>simp[qG] at hh;subst hh;simp
    | some y=>exact Xj (P:=P) (hR y (by simp[ho,Op.operands])) (y:=y) (n:=nh) (by simpa[qG] using hh) (by omega) _ (by omega) _
   have hb:(Instr.sliceBounds true n cap (lo.map a.eval) (hi.map a.eval) none).run P w = .ok (0,nh.toNat,cap) w:=by
    cases lo with
    | none=>cases hi <;> simp[Instr.sliceBounds] at eh ⊢ <;> simp[eh]
    | some y =>
     have el:=Xj (P:=P) (hR y (by simp[ho,Op.operands])) (y:=y) (n:=(0:Int)) (by simpa[qG] using hl) (by omega) nh.toNat (by omega) .sliceB
     simp only[Int.toNat_zero] at el
     cases hi <;> simp[Instr.sliceBounds] at eh ⊢ <;> simp[eh,el]
   simp[execOp,ho,hv,Instr.sliceAt,Instr.slice,run_underlying (qq he),hb,qm hz]
  rcases q2 with⟨p1,rfl,ad,rfl⟩ | ⟨b,cap,vals,T,r1,rfl,r3,r4,r5⟩
  ·refine⟨_,key ad 0 rfl (Nat.le_refl _),?_⟩
   obtain rfl:nh=0:=by omega
   exact .arr id ver 0 ver z' cs _ rfl hid (Nat.le_refl _) fun _=>⟨by omega,.inl ⟨p1,rfl,_,rfl⟩⟩
  ·refine⟨_,key _ cap rfl r3,?_⟩
   refine .arr id ver _ ver z' cs _ rfl hid (Nat.le_refl _) fun _=>⟨Nat.le_trans (Nat.mul_le_mul_right z' (by omega)) q1,.inr ⟨b,cap,vals,T,r1,?_,by omega,r4,r5⟩⟩
   split
   ·rfl
   ·rfl
theorem GF {o:Oper} {t:TypeId} {x y:Operand} {id ver off z n:Nat} {cs:List SV} {K:SV→St→Prop} {env:List SV} {st:St}
  (ho:o.op = .store t x y) (hd:o.dst=none) (hx:ev env x = .aptr id ver off) (hid:st[id]?=some (.arr ver z cs)) (ht:qd P t=some n) (hs:qP (ev env y)=true)
  (hn:(ev env y).cells.length=n) (hok:ZV (ev env y)=true) (hle:off+n≤cs.length)
  (hk:K .any (st.set id (.arr ver z (ZP cs off (ev env y).cells)))):AOp P o K env st :=
 Ug hd fun σ w a hI hR=>by
  have hr:=qC hR x
  rw[hx] at hr
  generalize hv:a.eval x=v at hr
  cases hr with
  | aptr id ver off v0 z cs v hoc hkk hv' h =>
   rw[hid] at hkk;cases hkk
   obtain⟨b,q1,rfl⟩:=h rfl
   have hy:=XO hs (qC hR y)
   have hne:(a.eval y).cells.size=n:=by rw[hy.1,hn]
   rcases hI.arrs id ver z cs hid with⟨h1,rfl⟩ | ⟨b',vals,T,h1,h2,h3,h4,h5⟩
   ·rw[q1] at h1;cases h1
   ·rw[q1] at h1;cases h1
    have hst:=run_storeCells_at (P:=P) b off T (a.eval y).cells.toList 0 vals w h2 (by simp[hy.1];omega) (Un hok hy)
    simp only[Nat.add_zero] at hst
    let arr:=(vals.toList.take off++(a.eval y).cells.toList++vals.toList.drop (off+(a.eval y).cells.toList.length)).toArray
    have harr:arr.size=vals.size:=by simp[arr,hy.1];omega
    have hoth:∀ c,c≠b→(w.setRow b arr).heap[c]?=w.heap[c]?:=fun c hc=>setRow_other _ _ _ _ hc
    have hh':(w.setRow b arr).heap[b]?=some (.cells arr T (0,0)):=setRow_heap w b vals arr T _ h2
    have hsl:(ZP cs off (ev env y).cells).length=cs.length:=XY _ _ _ (by omega)
    have hrow:∀ j,j<(ZP cs off (ev env y).cells).length→Rep st σ w ((ZP cs off (ev env y).cells).getD j .any) (arr.getD j default):=by
     intro j hj
     rw[hsl] at hj
     rw[WK _ _ _ (by omega)]
     rw[Array.getD_eq_getD_getElem?]
     simp only[arr,List.getElem?_toArray,List.append_assoc]
     by_cases c:j<off
     ·rw[if_neg (by omega),List.getElem?_append_left (by simp;omega),List.getElem?_take,if_pos c,Array.getElem?_toList,←Array.getD_eq_getD_getElem?]
      exact h4 j hj
     ·rw[List.getElem?_append_right (by simp;omega)]
      have e1:(vals.toList.take off).length=off:=by simp;omega
      rw[e1]
      by_cases c2:j<off+(ev env y).cells.length
      ·rw[if_pos ⟨by omega,c2⟩,List.getElem?_append_left (by simp[hy.1];omega),Array.getElem?_toList,←Array.getD_eq_getD_getElem?]
       exact hy.2 (j-off) (by omega)
      ·rw[if_neg (by omega),List.getElem?_append_right (by simp[hy.1];omega),List.getElem?_drop]
       have e2:off+(a.eval y).cells.toList.length+(j-off-(a.eval y).cells.toList.length)=j:=by simp[hy.1];omega
       rw[e2,Array.getElem?_toList,←Array.getD_eq_getD_getElem?]
       exact h4 j hj
    refine⟨w.setRow b arr,_,σ,?_,hk,Inv.arrWrite hI hid q1 h2 hh' harr (Nat.le_refl _) (fun _=>hsl) h5 rfl rfl rfl (by simp) hoth (by rw[hsl,harr];exact h3) hrow,
     Ext.arrWrite hI hid q1 h2 hh' harr (Nat.le_refl _) (fun _=>hsl) h5 rfl rfl rfl (by simp) hoth⟩
    simp[execOp,ho,hv,Instr.storeAt,Instr.sureAddr,storeVar,qm ht,hne]
    simp at hst
    simp[hst,hne,arr]
structure SrcOk (P:Program) (st:St) (σ:Sig) (w:World) (z:Nat) (xs:List SV) (u:Value):Prop where
 form:∃ a c,u = .slice a xs.length c∧xs.length≤c
 load:∃ new:Array Value,(Builtin.firstCells z xs.length u).run P w = .ok new w∧Jj st σ w (xs.flatMap SV.cells) new
 loadD:∃ new:Array Value,(Builtin.firstCells z xs.length u).run P w.drew = .ok new w.drew∧Jj st σ w.drew (xs.flatMap SV.cells) new
 size:∀ x∈xs,x.cells.length=z
theorem SrcOk.of_slice {z z1:Nat} {mx:Mode} {xs:List SV} {st:St} {σ:Sig} {w:World} {u:Value} (r2:Rep st σ w (.slice mx z1 xs) u) (hz1:xs=[]∨z1=z):SrcOk P st σ w z xs u:=by
 have r2':=Hm r2 hz1
 obtain⟨ax,cx,rfl,hcx⟩:=Zk r2'
 obtain⟨⟨new,n1,n2⟩,n3⟩:=V' (P:=P) r2' xs.length (Nat.le_refl _)
 obtain⟨⟨newd,d1,d2⟩,_⟩:=V' (P:=P) (r2'.ext (Ext.drew _)) xs.length (Nat.le_refl _)
 rw[List.take_length] at n2 d2
 exact⟨⟨ax,cx,rfl,hcx⟩,⟨new,n1,n2⟩,⟨newd,d1,d2⟩,n3⟩
def VJ (z n:Nat) (cs:List SV):List SV:=if z=1 then cs.take n else (List.range n).map fun i =>.agg ((cs.drop (i*z)).take z)
theorem SrcOk.of_arrZ {id ver n z:Nat} {cs xs:List SV} {st:St} {σ:Sig} {w:World} {u:Value} (hI:Inv st σ w) (r:Rep st σ w (.arr id ver n) u) (hid:st[id]?=some (.arr ver z cs)) (hxl:xs.length=n) (hfl:xs.flatMap SV.cells=cs.take (n*z)) (hsz:∀ x∈xs,x.cells.length=z):SrcOk P st σ w z xs u:=by
 cases r with
 | arr id ver n v0 z0 cs0 v hoc hkk hv' h =>
 rw[hid] at hkk;cases hkk
 obtain⟨q1,q2⟩:=h rfl
 subst hxl
 rcases q2 with⟨_,h0,ad,rfl⟩ | ⟨b,cap,vals,T,m1,rfl,m3,m4,m5⟩
 ·obtain rfl:xs=[]:=List.eq_nil_of_length_eq_zero h0
  have hrun:∀ w:World,(Builtin.firstCells z 0 (.slice ad 0 0)).run P w = .ok #[] w:=fun w=>by
   cases ad with
   | none=>rfl
   | some ad =>
    have:=run_loadCells (P:=P) (w:=w) ad 0 (fun _=>default) (fun p hp=>absurd hp (Nat.not_lt_zero _))
    simpa[Builtin.firstCells] using this
  exact⟨⟨ad,0,by simp,by simp⟩,⟨#[],hrun w,by simp,fun i hi=>by simp at hi⟩,⟨#[],hrun w.drew,by simp,fun i hi=>by simp at hi⟩,hsz⟩
 ·rcases hI.arrs id ver z cs hid with⟨h1,_⟩ | ⟨b',vals',T',h1,h2,h3,h4,h5⟩
  ·rw[m1] at h1;cases h1
  ·rw[m1] at h1;cases h1
   rw[m4] at h2;cases h2
   have hcz:xs.length*z≤cap*z:=Nat.mul_le_mul_right z m3
   have hcell:∀ p,p<xs.length*z→w.cell? ⟨b,p,none⟩=some (vals.getD p default):=fun p hp=>by
    have:p<vals.size:=by omega
    simp[World.cell?,m4,Array.getD,this]
   have hrun:∀ w':World,(∀ p,p<xs.length*z→w'.cell? ⟨b,p,none⟩=some (vals.getD p default))→(Builtin.firstCells z xs.length (.slice (some ⟨b,0,none⟩) xs.length cap)).run P w' = .ok ((List.range (xs.length*z)).map fun p=>vals.getD p default).toArray w':=fun w' hc=>by
    have:=run_loadCells (P:=P) (w:=w') ⟨b,0,none⟩ (xs.length*z) (fun p=>vals.getD p default) (fun p hp=>by rw[Z0,Nat.zero_add];exact hc p hp)
    simpa[Builtin.firstCells] using this
   have hrep:Jj st σ w (cs.take (xs.length*z)) ((List.range (xs.length*z)).map fun p=>vals.getD p default).toArray:=by
    refine⟨by simp;omega,fun p hp=>?_⟩
    have hp':p<xs.length*z:=by rw[List.length_take] at hp;omega
    have:=h4 p (by omega)
    simpa[Array.getD_eq_getD_getElem?,hp',List.getD_eq_getElem?_getD,List.getElem?_take] using this
   exact⟨⟨_,cap,rfl,m3⟩,⟨_,hrun w hcell,by rw[hfl];exact hrep⟩,⟨_,hrun w.drew hcell,by rw[hfl];exact⟨hrep.1,fun i hi=>(hrep.2 i hi).ext (Ext.drew _)⟩⟩,hsz⟩
theorem K3 {ty t e tx ex:TypeId} {z by' id ver n:Nat} {cs xs zs:List SV} {st:St} {σ:Sig} {w:World} {v u:Value} (hI:Inv st σ w)
  (r1:Rep st σ w (.arr id ver n) v) (r2:SrcOk P st σ w z xs u) (hid:st[id]?=some (.arr ver z cs))
  (he:zY P t=some e) (hxe:zY P tx=some ex) (hz:qd P e=some z) (hzs:Zj P e=some zs) (hzl:zs.length=z) (hby:QH P e=some by')
  (hb:(2*(n+xs.length)+192)*by'≤281474976710656) (hn:n+xs.length<4611686018427387904) (hok:∀ s∈xs,ZV s=true) :
  ∃ v' w' σ',(Builtin.append_ #[t,tx] ty #[v,u]).run P w = .ok v' w'∧Inv (st.set id (.arr (ver+1) z (cs.take (n*z)++xs.flatMap SV.cells))) σ' w' ∧
   Rep (st.set id (.arr (ver+1) z (cs.take (n*z)++xs.flatMap SV.cells))) σ' w' (.arr id (ver+1) (n+xs.length)) v'∧Ext st σ w (st.set id (.arr (ver+1) z (cs.take (n*z)++xs.flatMap SV.cells))) σ' w':=by
  obtain⟨ax,cx,rfl,hcx⟩:=r2.form
  have hlt:=zp hid
  cases r1 with
  | arr id ver n v0 z0 cs0 v hoc hkk hv' h =>
  rw[hid] at hkk;cases hkk
  obtain⟨q1,q2⟩:=h rfl
  have hset:∀ cs',(st.set id (.arr (ver+1) z cs'))[id]?=some (.arr (ver+1) z cs'):=fun _=>qA hlt
  have hdx:Ext st σ w st σ w.drew:=Ext.drew _
  obtain⟨ad,cap,hvv,hcap,hold⟩:∃ ad cap,v = .slice ad n cap∧n≤cap∧∃ old:Array Value,(Builtin.firstCells z n (.slice ad n cap)).run P w.drew = .ok old w.drew∧Jj st σ w (cs.take (n*z)) old:=by
   rcases q2 with⟨_,rfl,ad,rfl⟩ | ⟨b,cap,vals,T,m1,rfl,m3,m4,m5⟩
   ·refine⟨ad,0,rfl,Nat.le_refl _,#[],?_,by simp,fun i hi=>by simp at hi⟩
    cases ad with
    | none=>rfl
    | some ad =>
     have:=run_loadCells (P:=P) (w:=w.drew) ad 0 (fun _=>default) (fun p hp=>absurd hp (Nat.not_lt_zero _))
     simpa[Builtin.firstCells] using this
   ·refine⟨_,cap,rfl,m3,?_⟩
    rcases hI.arrs id ver z cs hid with⟨h1,_⟩ | ⟨b',vals',T',h1,h2,h3,h4,h5⟩
    ·rw[m1] at h1;cases h1
    ·rw[m1] at h1;cases h1
     rw[m4] at h2;cases h2
     have hrun:=run_loadCells (P:=P) (w:=w.drew) ⟨b,0,none⟩ (n*z) (fun p=>vals.getD p default) (fun p hp=>by
      rw[Z0]
      have:p<vals.size:=by omega
      show World.cell? w _=_
      simp[World.cell?,m4,Array.getD,this])
     refine⟨_,by simpa[Builtin.firstCells] using hrun,by simp;omega,fun p hp=>?_⟩
     have hp':p<n*z:=by simp at hp;omega
     have:=h4 p (by omega)
     simpa[Array.getD_eq_getD_getElem?,hp',List.getD_eq_getElem?_getD,List.getElem?_take] using this
  obtain⟨old,hold,hro⟩:=hold
  subst hvv
  obtain⟨new,n1,n2⟩:=r2.load
  obtain⟨newd,d1,d2⟩:=r2.loadD
  have n3:=r2.size
  have hyl:=JT xs n3
  have hcat:∀ (st':St) (σ':Sig) (w':World) (A B R:Array Value),Jj st' σ' w' (cs.take (n*z)) A→Jj st' σ' w' (xs.flatMap SV.cells) B→(∀ j,j<n*z+xs.length*z→R[j]?=(A++B)[j]?) →
    ∀ j,j<(cs.take (n*z)++xs.flatMap SV.cells).length→Rep st' σ' w' ((cs.take (n*z)++xs.flatMap SV.cells).getD j .any) (R.getD j default):=by
   intro st' σ' w' A B R hA hB hR j hj
   have hj':j<n*z+xs.length*z:=by rw[List.length_append,hyl,List.length_take] at hj;omega
   have hAs:A.size=n*z:=by rw[hA.1];simp;omega
   rw[Array.getD_eq_getD_getElem?,hR j hj',List.getD_eq_getElem?_getD]
   have hl1:(cs.take (n*z)).length=n*z:=by simp;omega
   by_cases c:j<n*z
   ·rw[List.getElem?_append_left (by omega),Array.getElem?_append_left (by omega),←List.getD_eq_getElem?_getD,←Array.getD_eq_getD_getElem?]
    exact hA.2 j (by omega)
   ·rw[List.getElem?_append_right (by omega),Array.getElem?_append_right (by omega),hl1,hAs,←List.getD_eq_getElem?_getD,←Array.getD_eq_getD_getElem?]
    exact hB.2 (j-n*z) (by omega)
  have hlen:(cs.take (n*z)++xs.flatMap SV.cells).length=(n+xs.length)*z:=by simp[hyl,Nat.add_mul];omega
  by_cases hg:cap<n+xs.length
  ·obtain⟨i,zv,hi,hzv,hvz⟩:=Dp hzs hzl
   obtain⟨newCap,g1,g2⟩:=YY (P:=P) (w:=w) (ty:=ty) he hxe hz hi hzv hold d1 hg hcap (by rw[UR hby hi];exact hb) hn
   have hId:=hI.drew (w.drawn+1)
   let cells:=old++newd++Builtin.zeroCells zv.cells (newCap-(n+xs.length))
   have hX1:=Ext.alloc hId (.cells cells e) (.upto 0)
   have hI1:=hId.alloc (.cells cells e) (.upto 0)
   have hos:old.size=n*z:=by rw[hro.1];simp;omega
   have hcs:cells.size=newCap*z:=by
    simp only[cells,Array.size_append,hos,d2.1,hyl,JX,hvz]
    rw[←Nat.add_mul,←Nat.add_mul]
    congr 1
    omega
   have hh:(GI w (.cells cells e)).heap[w.heap.size]?=some (.cells cells e (0,0)):=by simp[GI]
   have hX2:=Ext.arrNew (σ:=σ.setLock w.heap.size (.upto 0)) (w:=GI w (.cells cells e)) (cs':=cs.take (n*z)++xs.flatMap SV.cells) hid (some w.heap.size)
   have hA:=hdx.trans hX1
   have hI2:=Inv.arrNew (cs':=cs.take (n*z)++xs.flatMap SV.cells) hI1 hid (some w.heap.size) (.inr ⟨w.heap.size,cells,e,rfl,hh,by rw[hlen,hcs];exact Nat.mul_le_mul_right z g1,
    hcat _ _ _ old newd cells ⟨hro.1,fun i hi=>(hro.2 i hi).ext hA⟩ ⟨d2.1,fun i hi=>(d2.2 i hi).ext hX1⟩ (fun j hj=>by
     simp only[cells]
     rw[Array.getElem?_append_left (by simp[hos,d2.1,hyl];omega)]),by simp[Sig.setLock]⟩) (fun c hc i hi hne h=>by
     cases hc
     have:=hI.mu_lt hi h
     omega)
   refine⟨_,_,_,g2,hI2,?_,hA.trans hX2⟩
   exact .arr id (ver+1) _ (ver+1) z _ _ rfl (hset _) (Nat.le_refl _) fun _=>⟨by rw[hlen];exact Nat.le_refl _,.inr ⟨w.heap.size,newCap,cells,e,by simp[Sig.setMu],rfl,g1,hh,by rw[hcs];exact Nat.le_refl _⟩⟩
  ·rcases q2 with⟨m1,rfl,ad',hve⟩ | ⟨b,cap',vals,T,m1,hve,m3,m4,m5⟩
   ·-- nothing to nothing
    have hx0:xs=[]:=by
     cases hve
     exact List.length_eq_zero_iff.1 (by omega)
    subst hx0
    cases hve
    have hns:new=#[]:=by have:=n2.1;simpa using this
    subst hns
    have hX:=Ext.arrNew (σ:=σ) (w:=w) (cs':=cs.take (0*z)++[].flatMap SV.cells) hid none
    refine⟨.slice ad 0 0,w,σ.setMu id none,?_,Inv.arrNew hI hid none (.inl ⟨rfl,by simp⟩) (fun c hc=>by cases hc),?_,hX⟩
    ·simp at n1
     cases ad <;> simp[Builtin.append_,run_underlying (qq he),run_underlying (qq hxe),qm hz,Builtin.lenOf,n1,storeCells]
    ·exact .arr id (ver+1) _ (ver+1) z _ _ rfl (hset _) (Nat.le_refl _) fun _=>⟨by simp,.inl ⟨by simp[Sig.setMu],rfl,ad,rfl⟩⟩
   ·-- in place
    cases hve
    rcases hI.arrs id ver z cs hid with⟨h1,_⟩ | ⟨b',vals',T',h1,h2,h3,h4,h5⟩
    ·rw[m1] at h1;cases h1
    rw[m1] at h1;cases h1
    rw[m4] at h2;cases h2
    have hns:new.size=xs.length*z:=by rw[n2.1,hyl]
    have hle:n*z+new.size≤vals.size:=by
     have:(n+xs.length)*z≤cap*z:=Nat.mul_le_mul_right z (by omega)
     rw[Nat.add_mul] at this
     omega
    have hone:∀ v∈new.toList,v.oneCell'=true:=Un (by
     rw[List.all_eq_true]
     intro s hs
     rw[List.mem_flatMap] at hs
     obtain⟨q,hq,hs⟩:=hs
     have:=hok q hq
     unfold ZV at this
     rw[List.all_eq_true] at this
     exact this s hs) n2
    have hst:=run_storeCells_at (P:=P) b (n*z) T new.toList 0 vals w m4 (by simpa using hle) hone
    simp only[Nat.add_zero,Array.length_toList] at hst
    let arr:=(vals.toList.take (n*z)++new.toList++vals.toList.drop (n*z+new.size)).toArray
    have harr:arr.size=vals.size:=by simp[arr];omega
    have hoth:∀ c,c≠b→(w.setRow b arr).heap[c]?=w.heap[c]?:=fun c hc=>setRow_other _ _ _ _ hc
    have hh':(w.setRow b arr).heap[b]?=some (.cells arr T (0,0)):=setRow_heap w b vals arr T _ m4
    have hA:Jj st σ w (cs.take (n*z)) (vals.toList.take (n*z)).toArray:=by
     refine⟨by simp;omega,fun i hi=>?_⟩
     have hi':i<n*z:=by simp at hi;omega
     have:=h4 i (by omega)
     simpa[Array.getD_eq_getD_getElem?,List.getD_eq_getElem?_getD,List.getElem?_take,hi'] using this
    have hrow:=hcat st σ w _ new arr hA n2 (fun j hj=>by
     simp only[arr,List.getElem?_toArray]
     rw[List.getElem?_append_left (by simp[hns];omega)]
     rw[show ((vals.toList.take (n*z)).toArray++new)=(vals.toList.take (n*z)++new.toList).toArray by simp]
     simp)
    have hX:=Ext.arrWrite (ver':=ver+1) (cs':=cs.take (n*z)++xs.flatMap SV.cells) hI hid m1 m4 hh' harr (Nat.le_succ _) (fun e=>by omega) h5 rfl rfl rfl (by simp) hoth
    have hcs':(cs.take (n*z)++xs.flatMap SV.cells).length≤arr.size:=by rw[hlen,harr,Nat.add_mul];omega
    have hI':=Inv.arrWrite (ver':=ver+1) (cs':=cs.take (n*z)++xs.flatMap SV.cells) hI hid m1 m4 hh' harr (Nat.le_succ _) (fun e=>by omega) h5 rfl rfl rfl (by simp) hoth hcs' hrow
    refine⟨.slice (some ⟨b,0,none⟩) (n+xs.length) cap,w.setRow b arr,σ,?_,hI',?_,hX⟩
    ·have hle2:n+xs.length≤cap:=by omega
     simp[Builtin.append_,run_underlying (qq he),run_underlying (qq hxe),qm hz,Builtin.lenOf,hle2,n1,Z0]
     simp at hst
     simp[hst,arr]
    ·exact .arr id (ver+1) _ (ver+1) z _ _ rfl (hset _) (Nat.le_refl _) fun _=>⟨by rw[hlen];exact Nat.le_refl _,.inr ⟨b,cap,arr,T,m1,rfl,by omega,hh',by rw[harr];exact m5⟩⟩
theorem EX {o:Oper} {t e tx ex:TypeId} {z z1 by' id ver n:Nat} {mx:Mode} {x y:Operand} {cs xs zs:List SV} {K:SV→St→Prop} {env:List SV} {st:St}
  (ho:o.op = .call { callee :=.builtin .append,args:=#[x,y],argTypes:=#[t,tx] }) (hx:ev env x = .arr id ver n) (hy:ev env y = .slice mx z1 xs)
  (hz1:xs=[]∨z1=z) (hid:st[id]?=some (.arr ver z cs))
  (he:zY P t=some e) (hxe:zY P tx=some ex) (hz:qd P e=some z) (hzs:Zj P e=some zs) (hzl:zs.length=z) (hby:QH P e=some by')
  (hb:(2*(n+xs.length)+192)*by'≤281474976710656) (hn:n+xs.length<4611686018427387904) (hok:∀ s∈xs,ZV s=true)
  (hk:K (.arr id (ver+1) (n+xs.length)) (st.set id (.arr (ver+1) z (cs.take (n*z)++xs.flatMap SV.cells)))):AOp P o K env st :=
 Zx fun σ w a hI hR=>by
  have r1:=qC hR x
  rw[hx] at r1
  have r2:=qC hR y
  rw[hy] at r2
  obtain⟨v',w',σ',g1,g2,g3,g4⟩:=K3 (P:=P) (ty:=o.type) hI r1 (.of_slice r2 hz1) hid he hxe hz hzs hzl hby hb hn hok
  refine⟨v',w',_,_,σ',?_,hk,g2,g3,g4⟩
  simp[execOp,ho,resolve,invoke,builtin,g1]
theorem KI {st:St} {σ:Sig} {w:World} {z z':Nat} {v:Value} (h:Rep st σ w (.slice .full z' []) v):Rep (st++[.arr 0 z []]) (σ.setMu st.length none) w (.arr st.length 0 0) v:=by
 have key:(∃ a,v = .slice a 0 0):=by
  generalize hl:([]:List SV)=l at h
  generalize hx:SV.slice .full z' l=x at h
  cases h with
  | nil m z hm=>cases hx;exact⟨none,rfl⟩
  | slice m z l a cap vals hcap hsp hzz hc hr hm =>
   cases hx
   subst hl
   have hm':cap=0:=hm
   subst hm'
   exact⟨some a,rfl⟩
  | _=>cases hx
 obtain⟨a,rfl⟩:=key
 exact .arr st.length 0 0 0 z [] _ rfl (by simp) (Nat.le_refl _) fun _=>⟨by simp,.inl ⟨by simp[Sig.setMu],rfl,a,rfl⟩⟩
theorem GJ {o:Oper} {t e tx ex:TypeId} {z z0 z1 by':Nat} {mx:Mode} {x y:Operand} {xs zs:List SV} {K:SV→St→Prop} {env:List SV} {st:St}
  (ho:o.op = .call { callee :=.builtin .append,args:=#[x,y],argTypes:=#[t,tx] }) (hx:ev env x = .slice .full z0 []) (hy:ev env y = .slice mx z1 xs)
  (hz1:xs=[]∨z1=z)
  (he:zY P t=some e) (hxe:zY P tx=some ex) (hz:qd P e=some z) (hzs:Zj P e=some zs) (hzl:zs.length=z) (hby:QH P e=some by')
  (hb:(2*xs.length+192)*by'≤281474976710656) (hn:xs.length<4611686018427387904) (hok:∀ s∈xs,ZV s=true)
  (hk:K (.arr st.length 1 xs.length) (st++[.arr 1 z (xs.flatMap SV.cells)])):AOp P o K env st :=
 Zx fun σ w a hI hR=>by
  have r1:=qC hR x
  rw[hx] at r1
  have r2:=qC hR y
  rw[hy] at r2
  have hX:Ext st σ w (st++[.arr 0 z []]) (σ.setMu st.length none) w:=Ext.newOb _ none
  obtain⟨v',w',σ',g1,g2,g3,g4⟩:=K3 (P:=P) (ty:=o.type) (hI.newArr z) (KI (z:=z) r1) (.of_slice (r2.ext hX) hz1) (by simp:(st++[Ob.arr 0 z []])[st.length]?=some (.arr 0 z [])) he hxe hz hzs hzl hby (by simpa using hb) (by simpa using hn) hok
  have e:(st++[Ob.arr 0 z []]).set st.length (.arr (0+1) z (List.take (0*z) []++xs.flatMap SV.cells))=st++[.arr 1 z (xs.flatMap SV.cells)]:=by simp
  rw[e] at g2 g3 g4
  simp only[Nat.zero_add] at g3
  refine⟨v',w',_,_,σ',?_,hk,g2,g3,hX.trans g4⟩
  simp[execOp,ho,resolve,invoke,builtin,g1]
theorem DR {o:Oper} {t e tx ex:TypeId} {z0 z by' id ver n:Nat} {x y:Operand} {cs zs xs:List SV} {K:SV→St→Prop} {env:List SV} {st:St}
  (ho:o.op = .call { callee :=.builtin .append,args:=#[x,y],argTypes:=#[t,tx] }) (hx:ev env x = .slice .full z0 []) (hy:ev env y = .arr id ver n)
  (hid:st[id]?=some (.arr ver z cs)) (hxl:xs.length=n) (hfl:xs.flatMap SV.cells=cs.take (n*z)) (hsz:∀ x∈xs,x.cells.length=z)
  (he:zY P t=some e) (hxe:zY P tx=some ex) (hz:qd P e=some z) (hzs:Zj P e=some zs) (hzl:zs.length=z) (hby:QH P e=some by')
  (hb:(2*n+192)*by'≤281474976710656) (hn:n<4611686018427387904) (hok:∀ s∈xs,ZV s=true)
  (hk:K (.arr st.length 1 n) (st++[.arr 1 z (cs.take (n*z))])):AOp P o K env st :=
 Zx fun σ w a hI hR=>by
  have r1:=qC hR x
  rw[hx] at r1
  have r2:=qC hR y
  rw[hy] at r2
  have hX:Ext st σ w (st++[.arr 0 z []]) (σ.setMu st.length none) w:=Ext.newOb _ none
  obtain⟨v',w',σ',g1,g2,g3,g4⟩:=K3 (P:=P) (ty:=o.type) (hI.newArr z) (KI (z:=z) r1)
   (SrcOk.of_arrZ (hI.newArr z) (r2.ext hX) (by rw[List.getElem?_append_left (zp hid)];exact hid) hxl hfl hsz) (by simp:(st++[Ob.arr 0 z []])[st.length]?=some (.arr 0 z [])) he hxe hz hzs hzl hby (by simpa[hxl] using hb) (by simpa[hxl] using hn) hok
  have e:(st++[Ob.arr 0 z []]).set st.length (.arr (0+1) z (List.take (0*z) []++xs.flatMap SV.cells))=st++[.arr 1 z (cs.take (n*z))]:=by simp[hfl]
  rw[e] at g2 g3 g4
  simp only[Nat.zero_add,hxl] at g3
  refine⟨v',w',_,_,σ',?_,hk,g2,g3,hX.trans g4⟩
  simp[execOp,ho,resolve,invoke,builtin,g1]
theorem Dm {o:Oper} {t e:TypeId} {len z:Nat} {parts:Array (Nat×Operand)} {zs:List SV} {env:List SV} {st:St} {σ:Sig} {w:World} {a:Act}
  (ho:o.op = .buildSlice t len parts) (he:zY P t=some e) (hz:qd P e=some z) (hzero:Zj P e=some zs) (hidx:parts.toList.map (·.1)=List.range len) (hle:len*z≤16777216)
  (hs:∀ p∈parts.toList,qP (ev env p.2)=true∧(ev env p.2).cells.length=z) (hR:RepEnv st σ w env a.tmps) :
  ∃ rs:Array Value,(execOp a.eval o).run P w = .ok (.value (.slice (some ⟨w.heap.size,0,none⟩) len len)) { w with heap:=w.heap.push (.cells rs e) }∧rs.size=len*z ∧
   ∀ j,j<(parts.toList.flatMap fun p=>(norm (ev env p.2)).cells).length→Rep st σ w ((parts.toList.flatMap fun p=>(norm (ev env p.2)).cells).getD j .any) (rs.getD j default):=by
  obtain⟨ti,tv,h1,h2,rfl⟩:=Jz hzero
  have hlen:parts.toList.length=len:=by have:=congrArg List.length hidx;simpa using this
  let vs:=parts.toList.map fun p=>a.eval p.2
  have hvl:vs.length=len:=by simp[vs,←hlen]
  have hvz:∀ v∈vs,v.cells.size=z:=by
   intro v hv
   obtain⟨p,hp,rfl⟩:=List.mem_map.1 hv
   obtain⟨c1,c2⟩:=hs p hp
   exact BB c1 (qC hR _) c2
  let cs0:Array Value:=(Array.range (len*z)).map ((if len*z=0 then #[] else tv.cells)[· % (if len*z=0 then #[] else tv.cells).size]!)
  obtain⟨rs,f1,f2,f3,f4⟩:=KY (z:=z) vs 0 cs0 hvz (by simp[cs0,hvl])
  have hparts:(parts.map fun p=>(p.1,a.eval p.2)).toList=(vs.zipIdx 0).map fun p=>(p.2,p.1):=by
   apply List.ext_getElem?
   intro i
   simp only[Array.toList_map,List.getElem?_map,List.getElem?_zipIdx,vs,Nat.zero_add]
   cases hp:parts.toList[i]? with
   | none=>simp
   | some p =>
    have:(parts.toList.map (·.1))[i]?=some p.1:=by simp[hp]
    rw[hidx] at this
    have hi:=zp this
    simp at hi
    rw[List.getElem?_range hi] at this
    simp at this
    simp[this]
  refine⟨rs,?_,by rw[f2];simp[cs0],fun j hj=>?_⟩
  ·have h16:¬ 16777216<len*z:=by omega
   by_cases h0:len*z=0
   ·have e0:cs0=(Array.range (len*z)).map ((#[]:Array Value)[· % (#[]:Array Value).size]!):=by simp[cs0,h0]
    rw[e0,←hparts] at f1
    simp[execOp,ho,Instr.buildSlice,run_underlying (qq he),qm hz,h16]
    simp[h0] at f1 ⊢
    simp[f1,newRow]
   ·have e0:cs0=(Array.range (len*z)).map (tv.cells[· % tv.cells.size]!):=by simp only[cs0,if_neg h0]
    rw[e0,←hparts] at f1
    simp[execOp,ho,Instr.buildSlice,run_underlying (qq he),qm hz,h16]
    simp[h0,XM h1 h2] at f1 ⊢
    simp[f1,newRow]
  ·have e:(parts.toList.flatMap fun p=>(norm (ev env p.2)).cells)=(parts.toList.map fun p=>norm (ev env p.2)).flatMap SV.cells:=by rw[List.flatMap_map]
   rw[e] at hj ⊢
   have hxz:∀ x∈(parts.toList.map fun p=>norm (ev env p.2)),x.cells.length=z:=fun x hx=>by
    obtain⟨p,hp,rfl⟩:=List.mem_map.1 hx
    rw[V1]
    exact (hs p hp).2
   have hxl:(parts.toList.map fun p=>norm (ev env p.2)).length=len:=by simp[←hlen]
   rw[JT _ hxz,hxl] at hj
   have hz0:0<z:=by
    rcases Nat.eq_zero_or_pos z with h | h
    ·subst h;omega
    ·exact h
   have hi:j / z<len:=by rw[Nat.div_lt_iff_lt_mul hz0];exact hj
   have hjm:j % z<z:=Nat.mod_lt _ hz0
   have hg:=DI _ (j / z) (j % z) hxz (by rw[hxl];exact hi) hjm
   have hv:=f4 (j / z) (j % z) (by rw[hvl];exact hi) hjm
   rw[Nat.zero_add] at hv
   rw[Nat.mul_comm,Nat.div_add_mod] at hg hv
   rw[hg,Array.getD_eq_getD_getElem?,hv,←Array.getD_eq_getD_getElem?]
   have hi':j / z<parts.toList.length:=by omega
   have hp:=hs (parts.toList[j / z]) (List.getElem_mem _)
   have hrep:=XO (Uh hp.1) (qC hR (parts.toList[j / z]).2).norm
   have hr2:=hrep.2 (j % z) (by rw[V1,hp.2];exact hjm)
   have e1:(parts.toList.map fun p=>norm (ev env p.2)).getD (j / z) .any=norm (ev env (parts.toList[j / z]).2):=by simp only[List.getD_eq_getElem?_getD,List.getElem?_map,List.getElem?_eq_getElem hi'];rfl
   have e2:vs.getD (j / z) default=a.eval (parts.toList[j / z]).2:=by simp only[vs,List.getD_eq_getElem?_getD,List.getElem?_map,List.getElem?_eq_getElem hi'];rfl
   rw[e1,e2]
   exact hr2
theorem KG {o:Oper} {t e:TypeId} {len z:Nat} {parts:Array (Nat×Operand)} {zs:List SV} {K:SV→St→Prop} {env:List SV} {st:St}
  (ho:o.op = .buildSlice t len parts) (he:zY P t=some e) (hz:qd P e=some z) (hzero:Zj P e=some zs) (hidx:parts.toList.map (·.1)=List.range len) (hle:len*z≤16777216)
  (hs:∀ p∈parts.toList,qP (ev env p.2)=true∧(ev env p.2).cells.length=z)
  (hk:K (.arr st.length 1 len) (st++[.arr 1 z (parts.toList.flatMap fun p=>(norm (ev env p.2)).cells)])):AOp P o K env st :=
 Zx fun σ w a hI hR=>by
  obtain⟨rs,g1,g2,g3⟩:=Dm (P:=P) ho he hz hzero hidx hle hs hR
  have hlen:parts.toList.length=len:=by have:=congrArg List.length hidx;simpa using this
  have hcl:(parts.toList.flatMap fun p=>(norm (ev env p.2)).cells).length=len*z:=by
   have e:(parts.toList.flatMap fun p=>(norm (ev env p.2)).cells)=(parts.toList.map fun p=>norm (ev env p.2)).flatMap SV.cells:=by rw[List.flatMap_map]
   rw[e,JT _ (z:=z) (fun x hx=>by
    obtain⟨p,hp,rfl⟩:=List.mem_map.1 hx
    rw[V1]
    exact (hs p hp).2)]
   simp[←hlen]
  have hX0:Ext st σ w (st++[.arr 0 z []]) (σ.setMu st.length none) w:=Ext.newOb _ none
  have hI0:=hI.newArr z
  have hX1:=Ext.alloc hI0 (.cells rs e) (.upto 0)
  have hI1:=hI0.alloc (.cells rs e) (.upto 0)
  have hid:(st++[Ob.arr 0 z []])[st.length]?=some (.arr 0 z []):=by simp
  have hX2:=Ext.arrNew (σ:=(σ.setMu st.length none).setLock w.heap.size (.upto 0)) (w:={ w with heap:=w.heap.push (.cells rs e) }) (cs':=parts.toList.flatMap fun p=>(norm (ev env p.2)).cells) hid (some w.heap.size)
  have hI2:=Inv.arrNew (cs':=parts.toList.flatMap fun p=>(norm (ev env p.2)).cells) hI1 hid (some w.heap.size) (.inr ⟨w.heap.size,rs,e,rfl,by simp,by rw[hcl,g2];exact Nat.le_refl _,
   fun j hj=>((g3 j hj).ext hX0).ext hX1,by simp[Sig.setLock]⟩) (fun c hc i hi hne h=>by
    cases hc
    have hi':i<st.length:=by simp at hi;omega
    simp only[Sig.setLock,Sig.setMu,if_neg (show ¬ i=st.length by omega)] at h
    have:=hI.mu_lt hi' h
    omega)
  have es:(st++[Ob.arr 0 z []]).set st.length (.arr (0+1) z (parts.toList.flatMap fun p=>(norm (ev env p.2)).cells))=st++[.arr 1 z (parts.toList.flatMap fun p=>(norm (ev env p.2)).cells)]:=by simp
  rw[es] at hX2 hI2
  refine⟨_,_,_,_,_,g1,hk,hI2,?_,(hX0.trans hX1).trans hX2⟩
  exact .arr st.length 1 len 1 z _ _ rfl List.getElem?_concat_length (Nat.le_refl _) fun _=>⟨by rw[hcl];exact Nat.le_refl _,.inr ⟨w.heap.size,len,rs,e,by simp[Sig.setMu],rfl,Nat.le_refl _,by simp,by rw[g2];exact Nat.le_refl _⟩⟩
theorem pV {c:Code} {Q:Exit→List SV→St→Prop} {env:List SV} {st:St} (id j z z':Nat) {l:List SV} (hl:st[id]?=some (.cells l)) (hj:j<l.length) (he:l.getD j .any = .slice .full z' [])
  (h:AWp P c Q env (st.set id (.cells (l.set j (.arr st.length 0 0)))++[.arr 0 z []])):AWp P c Q env st:=by
 intro σ w t hI hR D hd
 have hX:Ext st σ w (st++[.arr 0 z []]) (σ.setMu st.length none) w:=Ext.newOb _ none
 have hI1:=hI.newArr z
 have hlt:=zp hl
 have hl1:(st++[.arr 0 z []])[id]?=some (.cells l):=by rw[List.getElem?_append_left hlt];exact hl
 obtain⟨b0,cs0,T0,k1,k2,k3,k4,k5⟩:=hI.cells id l hl
 obtain⟨b,cs,T,h1,h2,h3,h4,h5⟩:=hI1.cells id l hl1
 have hbb:b0=b:=by
  simp only[Sig.setMu,if_neg (show ¬ id=st.length by omega)] at h1
  rw[k1] at h1;cases h1;rfl
 subst hbb
 rw[k2] at h2;cases h2
 have hr:∀ i,i<(l.set j (.arr st.length 0 0)).length→Rep (st++[.arr 0 z []]) (σ.setMu st.length none) w ((l.set j (.arr st.length 0 0)).getD i .any) (cs0.getD i default):=by
  intro i hi
  simp only[List.length_set] at hi
  by_cases e:j=i
  ·subst e
   have h6:=k4 j hi
   rw[he] at h6
   have e2:(l.set j (.arr st.length 0 0)).getD j .any = .arr st.length 0 0:=by simp[List.getD_eq_getElem?_getD,hi]
   rw[e2]
   exact KI h6
  ·have:=h4 i hi
   simpa[List.getD_eq_getElem?_getD,List.getElem?_set_ne e] using this
 have hX2:=Ext.write (w':=w) (l':=l.set j (.arr st.length 0 0)) hI1 hl1 h1 h5 rfl rfl rfl rfl (fun _ _=>rfl)
 have hI2:=Inv.write (w':=w) (l':=l.set j (.arr st.length 0 0)) hI1 hl1 h1 h5 rfl rfl rfl rfl (fun _ _=>rfl) k2 (by simpa using h3) hr
 have e:(st++[Ob.arr 0 z []]).set id (.cells (l.set j (.arr st.length 0 0)))=st.set id (.cells (l.set j (.arr st.length 0 0)))++[.arr 0 z []]:=by
  rw[List.set_append_left _ _ hlt]
 rw[e] at hX2 hI2
 have hX3:=hX.trans hX2
 exact wp_mono (h _ _ t hI2 (hR.ext hX3) hd) fun e a w hp=>hp.ext hX3
def XL (P:Program) (t:TypeId):Option (Nat×Nat):=match P.underlying t with
 | some (.array n e)=>(qd P e).map fun z=>(n,z)
 | _=>none
def U2 (P:Program) (t:TypeId):Option Nat:=match P.underlying t with
 | some (.array n e)=>if Jh P e=some false then (match qd P e with | some 1=>some n | _=>none) else none
 | _=>none
theorem FH {t:TypeId} {n z:Nat} (h:XL P t=some (n,z)):∃ e,P.underlying t=some (.array n e)∧qd P e=some z:=by
 unfold XL at h
 split at h
 ·rename_i m e hu
  cases hs:qd P e with
  | none=>rw[hs] at h;cases h
  | some y=>rw[hs] at h;cases h;exact⟨e,hu,hs⟩
 ·cases h
theorem hH {t:TypeId} {n:Nat} (h:U2 P t=some n):∃ e,P.underlying t=some (.array n e)∧qd P e=some 1∧Jh P e=some false:=by
 unfold U2 at h
 split at h
 ·rename_i m e hu
  split at h
  ·rename_i ha
   split at h
   ·rename_i hs;cases h;exact⟨e,hu,hs,ha⟩
   ·cases h
  ·cases h
 ·cases h
theorem Hp {o:Oper} {t:TypeId} {x y:Operand} {k:IntKind} {i:Int} {id off n z:Nat} {ρ:Operand→SV} {st:St}
  (ho:o.op = .indexAddr t x y) (hx:ρ x = .ptr id off) (hy:ρ y = .sc (.int k i)) (ha:XL P t=some (n,z)) (h0:0≤i) (hi:i<n):Zl P o ρ st (.ptr id (off+i.toNat*z)):=by
 intro σ w a hI hR
 obtain⟨e,hu,hz⟩:=FH ha
 have hr:=hR x (by simp[ho,Op.operands])
 rw[hx] at hr
 have e2:=qL (by have:=hR y (by simp[ho,Op.operands]);rw[hy] at this;exact this)
 generalize hv:a.eval x=v at hr
 cases hr with
 | ptr id off b hk hb =>
  exact⟨_,by simp[execOp,ho,hv,e2,Instr.indexAt,Instr.sureAddr,asIntOf,run_underlying hu,h0,hi,qm hz,Z0],.ptr id _ b hk hb⟩
theorem FA {o:Oper} {t:TypeId} {x:Operand} {id off n z:Nat} {ρ:Operand→SV} {st:St}
  (ho:o.op = .slice t x none none none) (hx:ρ x = .ptr id off) (ha:XL P t=some (n,z)):Zl P o ρ st (.slc id z off n n):=by
 intro σ w a hI hR
 obtain⟨e,hu,hz⟩:=FH ha
 have hr:=hR x (by simp[ho,Op.operands])
 rw[hx] at hr
 generalize hv:a.eval x=v at hr
 cases hr with
 | ptr id off b hk hb =>
  have hb':(Instr.sliceBounds false n n none none none).run P w = .ok (0,n,n) w:=by simp[Instr.sliceBounds]
  have ha0:(⟨b,off,none⟩:Addr).add 0=⟨b,off,none⟩:=by rw[Z0];simp
  refine⟨.slice (some ⟨b,off,none⟩) n n,?_,.slc id z off _ _ b hk hb (Nat.le_refl _)⟩
  simp[execOp,ho,hv,Instr.sliceAt,Instr.sureAddr,run_underlying hu,hb',qm hz,ha0]
theorem HE {e:TypeId} {xs:Array Value} {off:Nat} {w:World} (ha:Jh P e=some false) (h:off<xs.size):(part e xs off).run P w = .ok (xs.getD off default) w:=by
 have hx:xs[off]?=some (xs.getD off default):=by simp[Array.getD,h]
 simp only[part,Sem.run_bind,VW ha,Result.andThen,Bool.false_eq_true,if_false,hx]
 rfl
theorem FJ {o:Oper} {t:TypeId} {x y:Operand} {k:IntKind} {i:Int} {l:List SV} {n:Nat} {ρ:Operand→SV} {st:St}
  (ho:o.op = .index t x y) (hx:ρ x = .agg l) (hy:ρ y = .sc (.int k i)) (ha:U2 P t=some n) (h0:0≤i) (hi:i<n) (hl:n≤l.length):Zl P o ρ st (l.getD i.toNat .any):=by
 intro σ w a hI hR
 obtain⟨e,hu,hz,hag⟩:=hH ha
 have hr:=hR x (by simp[ho,Op.operands])
 rw[hx] at hr
 have e2:=qL (by have:=hR y (by simp[ho,Op.operands]);rw[hy] at this;exact this)
 generalize hv:a.eval x=v at hr
 cases hr with
 | agg l vs hs r =>
  have hlt:i.toNat<vs.size:=by omega
  refine⟨vs.getD i.toNat default,?_,r i.toNat (by omega)⟩
  have hp:(part e vs (i.toNat*1)).run P w = .ok (vs.getD i.toNat default) w:=by rw[Nat.mul_one];exact HE hag hlt
  simp[execOp,ho,hv,e2,Instr.index,asIntOf,run_underlying hu,h0,hi,qm hz] at hp ⊢
  rw[hp];rfl
theorem Fs {o:Oper} {t:TypeId} {x y:Operand} {k:IntKind} {i:Int} {s:ByteArray} {ρ:Operand→SV} {st:St}
  (ho:o.op = .index t x y) (hx:ρ x = .sc (.string s)) (hy:ρ y = .sc (.int k i)) (hu:P.underlying t=some .string) (h0:0≤i) (hi:i<s.size):Zl P o ρ st (.sc (.int .u8 ((s.get! i.toNat).toNat:Int))):=by
 intro σ w a hI hR
 have e1:=qL (by have:=hR x (by simp[ho,Op.operands]);rw[hx] at this;exact this)
 have e2:=qL (by have:=hR y (by simp[ho,Op.operands]);rw[hy] at this;exact this)
 have hlt:i.toNat<s.size:=by omega
 refine⟨.int .u8 ((s.get! i.toNat).toNat:Int),?_,.sc _⟩
 have hb:s[i.toNat]?=some (s.get! i.toNat):=by
  rw[getElem?_pos s i.toNat hlt]
  congr 1
  show s.data[i.toNat]=s.data[i.toNat]!
  rw[getElem!_pos]
 simp[execOp,ho,e1,e2,Instr.index,asIntOf,run_underlying hu,h0,hb]
end Go.AL
namespace Go.AL
variable {P:Program}
def ZE:SV→SV
 | .gd _ x=>x
 | x=>x
def JA (op:BinOp) (k:IntKind) (a b:Int):Value :=
 match op with
 | .add =>.int k (k.wrap (a+b))
 | .sub =>.int k (k.wrap (a-b))
 | .mul =>.int k (k.wrap (a*b))
 | .quo =>.int k (k.wrap (a.tdiv b))
 | .rem =>.int k (a.tmod b)
 | .eql =>.bool (a==b)
 | .neq =>.bool (a != b)
 | .lss =>.bool (decide (a<b))
 | .leq =>.bool (decide (a≤b))
 | .gtr =>.bool (decide (b<a))
 | .geq =>.bool (decide (b≤a))
 | .and =>.int k (k.wrap ((BitVec.ofInt k.bits a &&& BitVec.ofInt k.bits b).toNat:Int))
 | .or =>.int k (k.wrap ((BitVec.ofInt k.bits a ||| BitVec.ofInt k.bits b).toNat:Int))
 | .xor =>.int k (k.wrap ((BitVec.ofInt k.bits a ^^^ BitVec.ofInt k.bits b).toNat:Int))
 | .andNot =>.int k (k.wrap ((BitVec.ofInt k.bits a &&& ~~~BitVec.ofInt k.bits b).toNat:Int))
 | .shl =>.int k (k.wrap (a*2 ^ min b.toNat k.bits))
 | .shr =>.int k (a.fdiv (2 ^ min b.toNat k.bits))
def JS (op:BinOp) (b:Int):Prop :=
 match op with
 | .quo=>b≠0
 | .rem=>b≠0
 | .shl | .shr=>0≤b
 | _=>True
theorem u0 {op:BinOp} {k:IntKind} {a b:Int} (h:JS op b):Gv op k a b=some (JA op k a b):=by
 cases op <;> first | rfl | exact h.elim | (simp only[JS] at h;simp[Gv,JA,h];done) | (simp only[JS] at h;simp only[Gv,JA];rw[if_neg (by omega)])
def UL (op:BinOp) (a b:ByteArray):Value :=
 match op with
 | .eql =>.bool (a.toList==b.toList)
 | .neq =>.bool !(a.toList==b.toList)
 | .add =>.string (a++b)
 | _=>undef
def WX (op:BinOp) (a b:ByteArray):Prop :=
 match op with
 | .eql=>True
 | .neq=>True
 | .add=>a.size+b.size≤9223372036854775807
 | _=>False
theorem yO {op:BinOp} {a b:ByteArray} (h:WX op a b):FV op a b=some (UL op a b):=by
 cases op <;> first | rfl | exact h.elim | (simp only[WX] at h;simp[FV,UL,h])
def Wp:BinOp→Bool→Bool
 | .neq,b => !b
 | _,b=>b
def GV:BinOp→Prop
 | .eql=>True
 | .neq=>True
 | _=>False
def fW:SV→SV→Bool
 | .sc (.int _ a),.sc (.int _ b)=>a==b
 | .sc (.bool a),.sc (.bool b)=>a==b
 | .sc (.string a),.sc (.string b)=>a.toList==b.toList
 | _,_=>false
def H8:List SV→List SV→Bool
 | [],[]=>true
 | a::r,b::s=>fW a b&&H8 r s
 | _,_=>false
def kG (P:Program) (t:TypeId):SV→SV→Prop
 | .sc (.int k _),.sc (.int k' _)=>k=k'∧P.underlying t=some (.int k)
 | .sc (.bool _),.sc (.bool _)=>P.underlying t=some .bool
 | .sc (.string _),.sc (.string _)=>P.underlying t=some .string
 | _,_=>False
def vu (P:Program):Nat→List Field→List SV→List SV→Prop
 | _,[],[],[]=>True
 | i, f :: fs, a :: r, b :: s => (f.name ≠ "_" ∧ f.offset = i ∧ Jh P f.type = some false ∧ kG P f.type a b) ∧ vu P (i + 1) fs r s
 | _,_,_,_=>False
def Fq (P:Program) (t:TypeId) (a b:List SV):Prop :=
 P.underlying t=some (.struct (P.fieldsOf t))∧P.stoodInHeld t=false∧P.eqGuardType P.depth t=false∧vu P 0 (P.fieldsOf t).toList a b
theorem my {d:Nat} {t:TypeId} {x y:SV} (h:kG P t x y) {st:St} {σ:Sig} {w:World} {v v':Value} (h1:Rep st σ w x v) (h2:Rep st σ w y v'):(Op.equalIn (d+1) t v v').run P w = .ok (fW x y) w:=by
 unfold kG at h
 split at h
 ·obtain⟨rfl,h⟩:=h
  rw[qL h1,qL h2]
  exact run_equalIn_int w d t _ _ _ _ h
 ·rw[qL h1,qL h2];exact run_equalIn_bool' w d t _ _ h
 ·rw[qL h1,qL h2];exact run_equalIn_string w d t _ _ h
 ·exact h.elim
theorem jd {d:Nat} {st:St} {σ:Sig} {w:World} {xs ys:Array Value}:∀ (fs:List Field) (i:Nat) (a b:List SV),vu P i fs a b→xs.size=i+a.length→ys.size=i+b.length →
  (∀ j,j<a.length→Rep st σ w (a.getD j .any) (xs.getD (i+j) default))→(∀ j,j<b.length→Rep st σ w (b.getD j .any) (ys.getD (i+j) default)) →
  (Op.eqFields (d+1) xs ys fs).run P w = .ok (H8 a b) w
 | [],_,[],[],_,_,_,_,_=>by simp[Op.eqFields,H8]
 | [],_,_::_,_,h,_,_,_,_=>h.elim
 | [],_,[],_::_,h,_,_,_,_=>h.elim
 | _::_,_,[],_,h,_,_,_,_=>h.elim
 | _::_,_,_::_,[],h,_,_,_,_=>h.elim
 | f::fs,i,x::a,y::b,h,hx,hy,h1,h2=>by
  obtain⟨⟨hn,ho,ha,hs⟩,hr⟩:=h
  simp only[List.length_cons] at hx hy h1 h2
  have ih:=jd (d:=d) (w:=w) (st:=st) (σ:=σ) (xs:=xs) (ys:=ys) fs (i+1) a b hr (by omega) (by omega)
   (fun j hj=>by have:=h1 (j+1) (by omega);rw[List.getD_cons_succ] at this;rw[show i+1+j=i+(j+1) by omega];exact this)
   (fun j hj=>by have:=h2 (j+1) (by omega);rw[List.getD_cons_succ] at this;rw[show i+1+j=i+(j+1) by omega];exact this)
  have q1:=h1 0 (by omega)
  have q2:=h2 0 (by omega)
  rw[List.getD_cons_zero,Nat.add_zero] at q1 q2
  have e:=my (d:=d) hs q1 q2
  have p1:=HE (P:=P) (e:=f.type) (xs:=xs) (off:=f.offset) (w:=w) ha (by omega)
  have p2:=HE (P:=P) (e:=f.type) (xs:=ys) (off:=f.offset) (w:=w) ha (by omega)
  rw[ho] at p1 p2
  simp only[Op.eqFields,hn,ne_eq,not_false_eq_true,if_true,Sem.run_bind,ho,p1,p2,Result.andThen_ok,e,H8]
  cases fW x y with
  | false=>simp
  | true=>simpa using ih
def GL (op:BinOp):SV→SV→SV
 | .sc (.int k m),.sc (.int _ n) =>.sc (JA op k m n)
 | .sc (.string m),.sc (.string n) =>.sc (UL op m n)
 | .sc (.bool m),.sc (.bool n) =>.sc (.bool (Wp op (m==n)))
 | .agg a,.agg b =>.sc (.bool (Wp op (H8 a b)))
 | _,_ =>.any
def Z7:BinOp→IntKind→IntKind→Prop
 | .shl,_,_=>True
 | .shr,_,_=>True
 | _,k,k'=>k=k'
theorem pW {op:BinOp} {k k':IntKind} (hs:¬ (op = .shl∨op = .shr)) (h:Z7 op k k'):k=k':=by
 cases op <;> first | exact h | exact absurd (.inl rfl) hs | exact absurd (.inr rfl) hs
theorem mI {o:Oper} {op:BinOp} {t u:TypeId} {x y:Operand} {k k':IntKind} {m n:Int} {ρ:Operand→SV} {st:St}
  (ho:o.op = .binOp op t x y u) (hs:op = .shl∨op = .shr) (hx:ρ x = .sc (.int k m)) (hy:ρ y = .sc (.int k' n)) (h0:JS op n):Zl P o ρ st (.sc (JA op k m n)) :=
 (fun σ w a hI hR=>by
  have h1:=hR x (by simp[ho,Op.operands])
  have h2:=hR y (by simp[ho,Op.operands])
  rw[hx] at h1
  rw[hy] at h2
  have e1:=qL h1
  have e2:=qL h2
  rcases hs with rfl | rfl
  ·have h0:(0:Int)≤n:=h0
   exact⟨_,by simp[execOp,ho,e1,e2,eqGuard,binOp,Op.shift,Int.not_lt.2 h0,JA],.sc _⟩
  ·have h0:(0:Int)≤n:=h0
   exact⟨_,by simp[execOp,ho,e1,e2,eqGuard,binOp,Op.shift,Int.not_lt.2 h0,JA],.sc _⟩)
def D8 (P:Program) (op:BinOp) (t:TypeId):SV→SV→Prop
 | .sc (.int k m),.sc (.int k' n)=>Z7 op k k'∧JS op n
 | .sc (.string m),.sc (.string n)=>WX op m n
 | .sc (.bool m),.sc (.bool n)=>GV op∧P.underlying t=some .bool
 | .agg a,.agg b=>GV op∧Fq P t a b
 | _,_=>False
theorem LA {o:Oper} {t u:TypeId} {op:BinOp} {x y:Operand} {m n:Bool} {ρ:Operand→SV} {st:St}
  (ho:o.op = .binOp op t x y u) (hop:GV op) (hx:ρ x = .sc (.bool m)) (hy:ρ y = .sc (.bool n)) (ht:P.underlying t=some .bool):Zl P o ρ st ((.sc (.bool (Wp op (m==n))))) :=
 (fun σ w a hI hR=>by
  have h1:=hR x (by simp[ho,Op.operands])
  have h2:=hR y (by simp[ho,Op.operands])
  rw[hx] at h1
  rw[hy] at h2
  have e1:=qL h1
  have e2:=qL h2
  unfold GV at hop
  split at hop
  ·exact⟨.bool _,by simp[execOp,ho,e1,e2,eqGuard,run_eql_bool w t m n ht,Wp],.sc _⟩
  ·exact⟨.bool _,by simp[execOp,ho,e1,e2,eqGuard,run_neq_bool w t m n ht,Wp],.sc _⟩
  ·exact hop.elim)
theorem xw {o:Oper} {t u:TypeId} {op:BinOp} {x y:Operand} {l r:List SV} {ρ:Operand→SV} {st:St}
  (ho:o.op = .binOp op t x y u) (hop:GV op) (hx:ρ x = .agg l) (hy:ρ y = .agg r) (ht:Fq P t l r):Zl P o ρ st ((.sc (.bool (Wp op (H8 l r))))) :=
 (fun σ w a hI hR=>by
  have h1:=hR x (by simp[ho,Op.operands])
  have h2:=hR y (by simp[ho,Op.operands])
  rw[hx] at h1
  rw[hy] at h2
  obtain⟨t1,t2,t3,t4⟩:=ht
  generalize hv1:a.eval x=v1 at h1
  generalize hv2:a.eval y=v2 at h2
  generalize hX:SV.agg l=X at h1
  generalize hY:SV.agg r=Y at h2
  cases h1 with
  | agg l' vs a1 a2 =>
   cases h2 with
   | agg r' us b1 b2 =>
    cases hX;cases hY
    have e:=jd (d:=9998) (P:=P) (w:=w) (st:=st) (σ:=σ) (xs:=vs) (ys:=us) _ 0 l r t4 (by omega) (by omega) (fun j hj=>by rw[Nat.zero_add];exact a2 j hj) (fun j hj=>by rw[Nat.zero_add];exact b2 j hj)
    have e2:(Op.equalIn 10000 t (.agg vs) (.agg us)).run P w = .ok (H8 l r) w:=by
     rw[show (10000:Nat)=9999+1 from rfl,run_equalIn_struct w 9999 t vs us t1 t2]
     exact e
    have g:=run_eqGuard_agg w op t x y vs us t3
    unfold GV at hop
    split at hop
    ·exact⟨.bool _,by simp[execOp,ho,hv1,hv2,g,run_eql_struct,e2,Result.andThen,Wp],.sc _⟩
    ·exact⟨.bool _,by simp[execOp,ho,hv1,hv2,g,run_neq_struct,e2,Result.andThen,Wp],.sc _⟩
    ·exact hop.elim
   | _=>cases hY
  | _=>cases hX)
def lj (op:UnOp):SV→SV
 | .sc (.bool m) =>.sc (.bool (!m))
 | .sc (.int k m) =>.sc (.int k (k.wrap (0-m)))
 | _ =>.any
def pY (op:UnOp):SV→Prop
 | .sc (.bool m)=>op = .not
 | .sc (.int k m)=>op = .neg
 | _=>False
def qM (st:St) (id:Nat):List SV:=match st[id]? with | some (.cells l)=>l | _=>[]
def ZC (st:St) (id:Nat):Prop:=match st[id]? with | some (.cells l)=>True | _=>False
theorem W3 {st:St} {id:Nat} (h:ZC st id):st[id]?=some (.cells (qM st id)):=by
 unfold ZC at h
 unfold qM
 split at h
 ·rename_i l hl;rw[hl]
 ·exact h.elim
def ZR (st:St) (id ver:Nat):Prop:=match st[id]? with | some (.arr v z cs)=>v=ver | _=>False
def Qq (st:St) (id:Nat):Nat:=match st[id]? with | some (.arr v z cs)=>z | _=>0
def Xa (st:St) (id:Nat):List SV:=match st[id]? with | some (.arr v z cs)=>cs | _=>[]
theorem YE {st:St} {id ver:Nat} (h:ZR st id ver):st[id]?=some (.arr ver (Qq st id) (Xa st id)):=by
 unfold ZR at h
 unfold Qq Xa
 split at h
 ·rename_i v z cs hl;subst h;rw[hl]
 ·exact h.elim
def Ea (P:Program) (t:TypeId) (st:St):SV→SV
 | .ref l=>(Zc P t l).getD .any
 | .ptr id off=>(Zc P t ((qM st id).drop off)).getD .any
 | .aptr id ver off=>(Zc P t ((Xa st id).drop off)).getD .any
 | _ =>.any
def HI (P:Program) (t:TypeId) (st:St):SV→Prop
 | .ref l=>(Zc P t l).isSome=true
 | .ptr id off=>ZC st id∧(Zc P t ((qM st id).drop off)).isSome=true
 | .aptr id ver off=>ZR st id ver∧(Zc P t ((Xa st id).drop off)).isSome=true
 | _=>False
def WA (P:Program) (t:TypeId) (f:Nat):SV→SV
 | .ref l =>.ref ((l.drop ((qk P t f).getD (0,0)).1).take ((qk P t f).getD (0,0)).2)
 | .ptr id i =>.ptr id (i+((qk P t f).getD (0,0)).1)
 | .aptr id ver i =>.aptr id ver (i+((qk P t f).getD (0,0)).1)
 | _ =>.any
def Kl (P:Program) (t:TypeId) (st:St) (f:Nat):SV→Prop
 | .ref l=>(qk P t f).isSome=true∧((qk P t f).getD (0,0)).2≠0
 | .ptr id i=>(qk P t f).isSome=true∧((qk P t f).getD (0,0)).2≠0
 | .aptr id ver i=>ZR st id ver∧(qk P t f).isSome=true∧((qk P t f).getD (0,0)).2≠0
 | _=>False
def GT (P:Program) (t:TypeId) (st:St):SV→SV→SV
 | .slice m z l,.sc (.int k i) =>.ref (l.getD i.toNat .any).cells
 | .slc id z off len cap,.sc (.int k i) =>.ptr id (off+i.toNat*z)
 | .arr id ver n,.sc (.int k i) =>.aptr id ver (i.toNat*Qq st id)
 | .ptr id off,.sc (.int k i) =>.ptr id (off+i.toNat*((XL P t).getD (0,0)).2)
 | _,_ =>.any
def lE:SV→SV→SV
 | .agg l,.sc (.int k i)=>l.getD i.toNat .any
 | .sc (.string s),.sc (.int k i) =>.sc (.int .u8 ((s.get! i.toNat).toNat:Int))
 | _,_ =>.any
def pZ (P:Program) (t:TypeId):SV→SV→Prop
 | .agg l,.sc (.int k i)=>(U2 P t).isSome=true∧0≤i∧i<(U2 P t).getD 0∧(U2 P t).getD 0≤l.length
 | .sc (.string s),.sc (.int k i)=>P.underlying t=some .string∧0≤i∧i<s.size
 | _,_=>False
def Ds (P:Program) (t:TypeId) (st:St):SV→SV→Prop
 | .slice m z l,.sc (.int k i)=>(zY P t).bind (qd P)=some z∧0≤i∧i<l.length
 | .slc id z off len cap,.sc (.int k i)=>(zY P t).bind (qd P)=some z∧0≤i∧i<len
 | .arr id ver n,.sc (.int k i)=>ZR st id ver∧(zY P t).bind (qd P)=some (Qq st id)∧0≤i∧i<n
 | .ptr id off,.sc (.int k i)=>(XL P t).isSome=true∧0≤i∧i<((XL P t).getD (0,0)).1
 | _,_=>False
def Zr (ρ:Operand→SV) (x:Option Operand) (d:Nat):Int:=(qG ρ x d).getD 0
def UA (P:Program) (t:TypeId) (ρ:Operand→SV) (lo hi mx:Option Operand):SV→SV
 | .slice m z l =>.slice (if mx.isSome then .full else .imm) z ((l.take (Zr ρ hi l.length).toNat).drop (Zr ρ lo 0).toNat)
 | .sc (.string s) =>.sc (.string (s.extract (Zr ρ lo 0).toNat (Zr ρ hi s.size).toNat))
 | .slc id z off len cap =>.slc id z (if cap=(Zr ρ lo 0).toNat then off else off+(Zr ρ lo 0).toNat*z) ((Zr ρ hi len).toNat-(Zr ρ lo 0).toNat) (cap-(Zr ρ lo 0).toNat)
 | .arr id ver n =>.arr id ver (Zr ρ hi n).toNat
 | .ptr id off=>match lo with
  | none =>.slc id ((XL P t).getD (0,0)).2 off ((XL P t).getD (0,0)).1 ((XL P t).getD (0,0)).1
  | some y =>.slc id ((XL P t).getD (0,0)).2 (if ((XL P t).getD (0,0)).1=(Zr ρ (some y) 0).toNat then off else off+(Zr ρ (some y) 0).toNat*((XL P t).getD (0,0)).2) (((XL P t).getD (0,0)).1-(Zr ρ (some y) 0).toNat) (((XL P t).getD (0,0)).1-(Zr ρ (some y) 0).toNat)
 | _ =>.any
theorem GN {o:Oper} {t:TypeId} {x y:Operand} {nl:Int} {id off n z:Nat} {ρ:Operand→SV} {st:St}
  (ho:o.op = .slice t x (some y) none none) (hx:ρ x = .ptr id off) (ha:XL P t=some (n,z)) (hl:qG ρ (some y) 0=some nl) (h0:0≤nl) (h1:nl≤n) :
  Zl P o ρ st (.slc id z (if n=nl.toNat then off else off+nl.toNat*z) (n-nl.toNat) (n-nl.toNat)):=by
 intro σ w a hI hR
 obtain⟨e,hu,hz⟩:=FH ha
 have hr:=hR x (by simp[ho,Op.operands])
 rw[hx] at hr
 generalize hv:a.eval x=v at hr
 cases hr with
 | ptr id off b hk hb =>
  have el:=Xj (P:=P) (w:=w) (hR y (by simp[ho,Op.operands])) (y:=y) (n:=nl) hl h0 n h1 .sliceB
  have hb':(Instr.sliceBounds false n n (some (a.eval y)) none none).run P w = .ok (nl.toNat,n,n) w:=by simp[Instr.sliceBounds,el]
  refine⟨.slice (some (if n=nl.toNat then ⟨b,off,none⟩ else (⟨b,off,none⟩:Addr).add (nl.toNat*z))) (n-nl.toNat) (n-nl.toNat),?_,?_⟩
  ·simp[execOp,ho,hv,Instr.sliceAt,Instr.sureAddr,run_underlying hu,hb',qm hz]
  ·by_cases c:n=nl.toNat
   ·rw[if_pos c,if_pos c];exact .slc id z off _ _ b hk hb (Nat.le_refl _)
   ·rw[if_neg c,if_neg c,Z0];exact .slc id z _ _ _ b hk hb (Nat.le_refl _)
def WR (P:Program) (t:TypeId) (st:St) (ρ:Operand→SV) (lo hi mx:Option Operand):SV→Prop
 | .slice m z l=>((zY P t).bind (qd P)=some z∨(l=[]∧(m = .full∨m = .imm)∧((zY P t).bind (qd P)).isSome=true))∧(qG ρ lo 0).isSome=true∧(qG ρ hi l.length).isSome=true∧0≤Zr ρ lo 0∧Zr ρ lo 0≤Zr ρ hi l.length ∧
   Zr ρ hi l.length≤l.length∧(mx.isSome=true→hi.isSome=true∧qG ρ mx 0=qG ρ hi l.length)
 | .sc (.string s)=>mx=none∧P.underlying t=some .string∧(qG ρ lo 0).isSome=true∧(qG ρ hi s.size).isSome=true∧0≤Zr ρ lo 0∧Zr ρ lo 0≤Zr ρ hi s.size ∧
   Zr ρ hi s.size≤s.size
 | .slc id z off len cap=>mx=none∧(zY P t).bind (qd P)=some z∧(qG ρ lo 0).isSome=true∧(qG ρ hi len).isSome=true∧0≤Zr ρ lo 0∧Zr ρ lo 0≤Zr ρ hi len∧Zr ρ hi len≤cap
 | .arr id ver n=>mx=none∧ZR st id ver∧((zY P t).bind (qd P)).isSome=true∧qG ρ lo 0=some 0∧(qG ρ hi n).isSome=true∧0≤Zr ρ hi n∧Zr ρ hi n≤n
 | .ptr id off=>mx=none∧hi=none∧(XL P t).isSome=true∧(lo.isSome=true→(qG ρ lo 0).isSome=true∧0≤Zr ρ lo 0∧Zr ρ lo 0≤((XL P t).getD (0,0)).1)
 | _=>False
def Ey (st:St):SV→SV
 | .slice m z l =>.sc (.int .i64 l.length)
 | .sc (.string s) =>.sc (.int .i64 s.size)
 | .slc id z off len cap =>.sc (.int .i64 len)
 | .mp id =>.sc (.int .i64 ((Qn st id).getD []).length)
 | .arr id ver n =>.sc (.int .i64 n)
 | _ =>.any
def Ek (P:Program) (t:TypeId) (st:St):SV→Prop
 | .mp id=>(Hr P t).isSome=true∧(Qn st id).isSome=true
 | .slice m z l=>(zY P t).isSome=true
 | .sc (.string s)=>P.underlying t=some .string
 | .slc id z off len cap=>(zY P t).isSome=true
 | .arr id ver n=>ZR st id ver∧(zY P t).isSome=true
 | _=>False
def nQ (i:Nat):SV→SV
 | .tuple l=>l.getD i .any
 | _ =>.any
def vA (i:Nat):SV→Prop
 | .tuple l=>i<l.length
 | _=>False
def K4 (st:St):SV→Prop
 | .ref _=>True
 | .ptr _ _=>True
 | .aptr id ver _=>ZR st id ver
 | _=>False
theorem wj {o:Oper} {x:Operand} {ρ:Operand→SV} {st:St} (ho:o.op = .nilCheck x) (h:K4 st (ρ x)):Zl P o ρ st (ρ x):=by
 intro σ w a hI hR
 have hr:=hR x (by simp[ho,Op.operands])
 have key:∀ ad,a.eval x = .pointer (some ad)→(execOp a.eval o).run P w = .ok (.value (a.eval x)) w:=fun ad hv=>by simp[execOp,ho,hv]
 have hp:∃ ad,a.eval x = .pointer (some ad):=by
  generalize hv:a.eval x=v at hr
  unfold K4 at h
  split at h
  ·rename_i hx
   rw[hx] at hr
   cases hr with
   | ref cells b o' vals hc hr'=>exact⟨_,rfl⟩
  ·rename_i hx
   rw[hx] at hr
   cases hr with
   | ptr id off b hk hb=>exact⟨_,rfl⟩
  ·rename_i hx
   rw[hx] at hr
   cases hr with
   | aptr id ver off v0 z cs v hoc hk hv' h' =>
    have:=YE h
    rw[this] at hk;cases hk
    obtain⟨b,q1,rfl⟩:=h' rfl
    exact⟨_,rfl⟩
  ·exact h.elim
 obtain⟨ad,hv⟩:=hp
 exact⟨_,key ad hv,hr⟩
inductive Kd where
 | pure
 | pick (c x y:Operand)
 | eff
def bj:SV→SV→SV
 | .sc (.int k m),.sc (.int _ n) =>.sc (.int k (if n > m then n else m))
 | _,_ =>.any
def j8:SV→SV→Prop
 | .sc (.int _ _),.sc (.int _ _)=>True
 | _,_=>False
theorem ff {o:Oper} {x y:Operand} {ts:Array TypeId} {ρ:Operand→SV} {st:St} (ho:o.op = .call { callee :=.builtin .max,args:=#[x,y],argTypes:=ts }) (h:j8 (ρ x) (ρ y)):Zl P o ρ st (bj (ρ x) (ρ y)):=by
 intro σ w a hI hR
 have r1:=hR x (by simp[ho,Op.operands,Call.operands])
 have r2:=hR y (by simp[ho,Op.operands,Call.operands])
 unfold j8 at h
 split at h
 ·rename_i k m k' n h1 h2
  rw[h1] at r1
  rw[h2] at r2
  have e1:=qL r1
  have e2:=qL r2
  refine⟨.int k (if n > m then n else m),by simp[execOp,ho,resolve,invoke,builtin,e1,e2,Builtin.max_,Builtin.max2],?_⟩
  rw[h1,h2]
  exact .sc _
 ·exact h.elim
def Dw (b:Callee):Kd:=match b with | .builtin .len =>.pure | .builtin .max =>.pure | _ =>.eff
def qE:Op→Kd
 | .move _ | .assign _ | .nilCheck _ | .lookup _ _ _ _ | .convert _ _ _ | .extract _ _ | .binOp _ _ _ _ _ | .unOp _ _ _ | .makeFunc _ _ _ | .load _ _ | .fieldAddr _ _ _ | .field _ _ _ | .indexAddr _ _ _ | .index _ _ _ | .slice _ _ _ _ _ =>.pure
 | .pick c x y =>.pick c x y
 | .call c=>Dw c.callee
 | _ =>.eff
def jQ (st:St) (ρ:Operand→SV):List Operand→SV
 | [x]=>Ey st (ρ x)
 | _ =>.any
def BG (P:Program) (st:St) (ρ:Operand→SV):List Operand→List TypeId→Prop
 | [x],[t]=>Ek P t st (ρ x)
 | _,_=>False
def AB (st:St) (ρ:Operand→SV) (b:Callee) (args:List Operand):SV:=match b with
 | .builtin .max=>(match args with | [x,y]=>bj (ρ x) (ρ y) | _ =>.any)
 | _=>jQ st ρ args
def fy (P:Program) (st:St) (ρ:Operand→SV) (b:Callee) (args:List Operand) (ts:List TypeId):Prop:=match b with
 | .builtin .max=>(match args with | [x,y]=>j8 (ρ x) (ρ y) | _=>False)
 | _=>BG P st ρ args ts
def mU (P:Program) (t:TypeId) (f:Nat):SV→SV
 | .agg l=>match Yb P t f with | some (off,_)=>l.getD off .any | none =>.any
 | _ =>.any
def Lm (P:Program) (t:TypeId) (f:Nat):SV→Prop
 | .agg l=>match Yb P t f with | some (off,u)=>Jh P u=some false∧off<l.length | none=>False
 | _=>False
def Er (P:Program) (st:St) (u:TypeId):SV→SV
 | .slc id _ off len _ =>.sc (.string (XG (((qM st id).drop off).take len)))
 | x=>Jv P u x
def E5 (P:Program) (t:TypeId) (st:St) (u:TypeId):SV→Prop
 | .slc id _ off len _=>ZC st id∧off+len≤(qM st id).length∧(zY P t).bind (Wy P)=some .u8∧We P u=true∧(((qM st id).drop off).take len).all V3=true
 | x=>YP P t u x
theorem gK {o:Oper} {t u:TypeId} {x:Operand} {ρ:Operand→SV} {st:St} (ho:o.op = .convert t u x) (h:E5 P t st u (ρ x)):Zl P o ρ st (Er P st u (ρ x)):=by
 unfold E5 at h
 split at h
 ·rename_i id z off len cap hx
  obtain⟨g1,g2,g3,g4,g5⟩:=h
  intro σ w a hI hR
  have hr:=hR x (by simp[ho,Op.operands])
  rw[hx] at hr ⊢
  generalize hv:a.eval x=v at hr
  obtain⟨e,he1,he2⟩:∃ e,zY P t=some e∧Wy P e=some .u8:=by
   cases he:zY P t with
   | none=>rw[he] at g3;cases g3
   | some e=>rw[he] at g3;exact⟨e,rfl,g3⟩
  cases hr with
  | slc id z off len cap b hk hb hc =>
   obtain⟨b',cs,T,h1,h2,h3,h4,h5⟩:=hI.cells id _ (W3 g1)
   rw[h1] at hb;cases hb
   generalize hl:qM st id=l at *
   have hrun:=run_loadCells (P:=P) (w:=w) ⟨b,off,none⟩ len (fun p=>cs.getD (off+p) default) (fun p hp=>by
    rw[Z0]
    have:off+p<cs.size:=by omega
    simp[World.cell?,h2,Array.getD,this])
   have hby:∀ p,p<len→cs.getD (off+p) default = .int .u8 (W2 (l.getD (off+p) .any)):=by
    intro p hp
    have hm:l.getD (off+p) .any∈(l.drop off).take len:=by
     have:((l.drop off).take len)[p]?=some (l.getD (off+p) .any):=by
      rw[List.getElem?_take,if_pos hp,List.getElem?_drop,List.getD_eq_getElem?_getD,List.getElem?_eq_getElem (by omega)];rfl
     exact List.mem_of_getElem? this
    have hb:=List.all_eq_true.1 g5 _ hm
    have hr:=h4 (off+p) (by omega)
    generalize l.getD (off+p) .any=y at hb hr
    unfold V3 at hb
    split at hb
    ·exact qL hr
    ·cases hb
   have hconv:(Conv.bytesToString (.slice (some ⟨b,off,none⟩) len cap)).run P w = .ok (.string (XG ((l.drop off).take len))) w:=by
    refine run_bytesToString w ⟨b,off,none⟩ len cap (((l.drop off).take len).map W2) (hrun.trans ?_)
    congr 2
    apply List.ext_getElem?
    intro i
    by_cases hi:i<len
    ·have hp:=hby i hi
     have hlt:off+i<l.length:=by omega
     have hlt2:off+i<cs.size:=by omega
     rw[List.getD_eq_getElem?_getD,List.getElem?_eq_getElem hlt] at hp
     simp only[Array.getD_eq_getD_getElem?,Array.getElem?_eq_getElem hlt2,Option.getD_some] at hp
     simp[hi,hlt,hlt2,hp]
    ·rw[List.getElem?_eq_none (by simp;omega),List.getElem?_eq_none (by simp;omega)]
   refine⟨.string (XG ((l.drop off).take len)),?_,?_⟩
   ·have:=run_convert_bytes_string w t u e (some ⟨b,off,none⟩) len cap (qq he1) (EJ he2) (FK g4)
    simp[execOp,ho,hv,this,hconv]
   ·show Rep st σ w (.sc (.string (XG (((qM st id).drop off).take len)))) _
    rw[hl]
    exact .sc _
 ·rename_i hne
  have:Er P st u (ρ x)=Jv P u (ρ x):=by
   unfold Er
   split
   ·rename_i hx;exact absurd hx (hne _ _ _ _ _)
   ·rfl
  rw[this]
  exact dF ho h
def qF (P:Program) (st:St) (ρ:Operand→SV):Op→SV
 | .move x=>ρ x
 | .assign x=>ρ x
 | .nilCheck x=>ρ x
 | .extract x i=>nQ i (ρ x)
 | .binOp op _ x y _=>if Xe y then WM op (ρ x) else GL op (ρ x) (ρ y)
 | .unOp op _ x=>lj op (ρ x)
 | .convert _ u x=>Er P st u (ρ x)
 | .makeFunc fn first captured =>.func fn (first.toList.map ρ) (captured.toList.map ρ)
 | .load t x=>Ea P t st (ρ x)
 | .fieldAddr t x f=>WA P t f (ρ x)
 | .field t x f=>mU P t f (ρ x)
 | .indexAddr t x y=>GT P t st (ρ x) (ρ y)
 | .index _ x y=>lE (ρ x) (ρ y)
 | .slice t x lo hi mx=>UA P t ρ lo hi mx (ρ x)
 | .call c=>AB st ρ c.callee c.args.toList
 | .lookup t x k ok=>match XH P t st (ρ x) (ρ k) with | some (y,b)=>if ok then .tuple [y,.sc (.bool b)] else y | none =>.any
 | _ =>.any
def q7 (P:Program) (st:St) (ρ:Operand→SV):Op→Prop
 | .move x=>True
 | .assign x=>True
 | .nilCheck x=>K4 st (ρ x)
 | .extract x i=>vA i (ρ x)
 | .binOp op t x y _=>if Xe y then Qz P op t y (ρ x) else D8 P op t (ρ x) (ρ y)
 | .unOp op _ x=>pY op (ρ x)
 | .convert t u x=>E5 P t st u (ρ x)
 | .makeFunc fn first captured=>True
 | .load t x=>HI P t st (ρ x)
 | .fieldAddr t x f=>Kl P t st f (ρ x)
 | .field t x f=>Lm P t f (ρ x)
 | .indexAddr t x y=>Ds P t st (ρ x) (ρ y)
 | .index t x y=>pZ P t (ρ x) (ρ y)
 | .slice t x lo hi mx=>WR P t st ρ lo hi mx (ρ x)
 | .call c=>fy P st ρ c.callee c.args.toList c.argTypes.toList
 | .lookup t x k ok=>(XH P t st (ρ x) (ρ k)).isSome=true
 | _=>False
theorem QX {t:TypeId} {z:Nat} (h:(zY P t).bind (qd P)=some z):∃ e,zY P t=some e∧qd P e=some z:=by
 cases he:zY P t with
 | none=>simp[he] at h
 | some e=>rw[he] at h;exact⟨e,rfl,h⟩
theorem qW {α:Type} {x:Option α} {d:α} (h:x.isSome=true):x=some (x.getD d):=by cases x <;> first | rfl | cases h
theorem EK {o:Oper} {ρ:Operand→SV} {st:St} (hk:qE o.op = .pure) (h:q7 P st ρ o.op):Zl P o ρ st (qF P st ρ o.op):=by
 generalize hop:o.op=op at h hk ⊢
 cases op with
 | move x=>exact dc hop
 | assign x=>exact yI hop
 | nilCheck x=>exact wj hop h
 | extract x i =>
  simp only[q7,qF] at h ⊢
  unfold vA at h
  split at h
  ·rename_i l hx;simp only[hx,nQ];exact vw hop hx h
  ·exact h.elim
 | binOp op t x y u =>
  simp only[q7,qF] at h ⊢
  by_cases hn:Xe y=true
  ·rw[if_pos hn] at h ⊢
   exact eB hop h
  rw[if_neg hn] at h ⊢
  unfold D8 at h
  split at h
  ·rename_i h1 h2;obtain⟨hq,h⟩:=h;simp only[h1,h2,GL]
   by_cases hs:op = .shl∨op = .shr
   ·exact mI hop hs h1 h2 h
   ·have hq:=pW hs hq;subst hq;exact u9 hop h1 h2 (u0 h)
  ·rename_i h1 h2;simp only[h1,h2,GL];exact yG hop h1 h2 (yO h)
  ·rename_i h1 h2;obtain⟨he,h⟩:=h;simp only[h1,h2,GL];exact LA hop he h1 h2 h
  ·rename_i h1 h2;obtain⟨he,h⟩:=h;simp only[h1,h2,GL];exact xw hop he h1 h2 h
  ·exact h.elim
 | unOp op t x =>
  simp only[q7,qF] at h ⊢
  unfold pY at h
  split at h
  ·rename_i h1;subst h;simp only[h1,lj];exact fV hop h1
  ·rename_i h1;subst h;simp only[h1,lj];exact tV hop h1
  ·exact h.elim
 | convert t u x=>exact gK hop h
 | lookup t x k ok =>
  simp only[q7,qF] at h ⊢
  obtain⟨⟨y,b⟩,hy⟩:=Option.isSome_iff_exists.1 h
  rw[hy]
  exact yW hop hy
 | makeFunc fn first captured=>exact Ej hop
 | load t x =>
  simp only[q7,qF] at h ⊢
  unfold HI at h
  split at h
  ·rename_i h1;simp only[h1,Ea];exact je hop h1 (qW h)
  ·rename_i h1;simp only[h1,Ea];exact LI hop h1 (W3 h.1) (qW h.2)
  ·rename_i h1;simp only[h1,Ea];exact F0 hop h1 (YE h.1) (qW h.2)
  ·exact h.elim
 | fieldAddr t x f =>
  simp only[q7,qF] at h ⊢
  unfold Kl at h
  split at h
  ·rename_i h1;simp only[h1,WA];exact HX hop h1 (by rw[qW (d:=(0,0)) h.1];rfl) h.2
  ·rename_i h1;simp only[h1,WA];exact Hw hop h1 (by rw[qW (d:=(0,0)) h.1];rfl) h.2
  ·rename_i h1;simp only[h1,WA];exact UQ hop h1 (YE h.1) (by rw[qW (d:=(0,0)) h.2.1];rfl) h.2.2
  ·exact h.elim
 | field t x f =>
  simp only[q7,qF] at h ⊢
  generalize hx:ρ x=X at h ⊢
  cases X with
  | agg l =>
   simp only[Lm,mU] at h ⊢
   cases hf:Yb P t f with
   | none=>rw[hf] at h;exact h.elim
   | some q=>rw[hf] at h;exact m6 hop hx hf h.1 h.2
  | _=>exact h.elim
 | indexAddr t x y =>
  simp only[q7,qF] at h ⊢
  unfold Ds at h
  split at h
  ·rename_i h1 h2
   obtain⟨h3,h4,h5⟩:=h
   obtain⟨e,h6,h7⟩:=QX h3
   simp only[h1,h2,GT]
   exact F5 hop h1 h2 h6 h7 h4 h5
  ·rename_i h1 h2
   obtain⟨h3,h4,h5⟩:=h
   obtain⟨e,h6,h7⟩:=QX h3
   simp only[h1,h2,GT]
   exact Ht hop h1 h2 h6 h7 h4 h5
  ·rename_i h1 h2
   obtain⟨h0,h3,h4,h5⟩:=h
   obtain⟨e,h6,h7⟩:=QX h3
   simp only[h1,h2,GT]
   exact U8 hop h1 h2 (YE h0) h6 h7 h4 h5
  ·rename_i h1 h2
   obtain⟨h3,h4,h5⟩:=h
   simp only[h1,h2,GT]
   exact Hp hop h1 h2 (qW (d:=(0,0)) h3) h4 h5
  ·exact h.elim
 | index t x y =>
  simp only[q7,qF] at h ⊢
  unfold pZ at h
  split at h
  ·rename_i h1 h2
   obtain⟨h3,h4,h5,h6⟩:=h
   simp only[h1,h2,lE]
   exact FJ hop h1 h2 (qW (d:=0) h3) h4 h5 h6
  ·rename_i h1 h2
   obtain⟨h3,h4,h5⟩:=h
   simp only[h1,h2,lE]
   exact Fs hop h1 h2 h3 h4 h5
  ·exact h.elim
 | slice t x lo hi mx =>
  simp only[q7,qF] at h ⊢
  unfold WR at h
  split at h
  ·rename_i h1
   obtain⟨h3,h4,h5,h6,h7,h8,h9⟩:=h
   simp only[h1,UA]
   rcases h3 with h3 | ⟨rfl,hm,h3⟩
   rotate_left
   ·-- an empty slice: whatever its elements' size is told to be
    obtain⟨z',h3⟩:=Option.isSome_iff_exists.1 h3
    obtain⟨e,h10,h11⟩:=QX h3
    rename_i m z _
    have hl:([]:List SV).length=0:=rfl
    rw[hl] at h5 h7 h8 h9
    have n0:Zr ρ lo 0=0:=by omega
    have n1:Zr ρ hi 0=0:=by omega
    intro σ w a hI hR
    have key:∀ ρ':Operand→SV,(∀ y,y∈o.op.operands→Rep st σ w (ρ' y) (a.eval y))→ρ' x = .slice m z' []→(∀ y∈lo.toList++hi.toList++mx.toList,ρ' y=ρ y)→∃ v,(execOp a.eval o).run P w = .ok (.value v) w ∧
      Rep st σ w (.slice (if mx.isSome then .full else .imm) z []) v:=by
     intro ρ' hR' hx' hsame
     have b1:∀ (q:Option Operand) (d:Nat),(∀ y∈q.toList,ρ' y=ρ y)→qG ρ' q d=qG ρ q d:=by
      intro q d hq
      cases q with
      | none=>rfl
      | some y=>simp only[qG,hq y (by simp)]
     have e1:=b1 lo 0 (fun y hy=>hsame y (by simp at hy ⊢;simp[hy]))
     have e2:=b1 hi 0 (fun y hy=>hsame y (by simp at hy ⊢;simp[hy]))
     have e3:=b1 mx 0 (fun y hy=>hsame y (by simp at hy ⊢;simp[hy]))
     have f1:qG ρ' lo 0=some (0:Int):=by rw[e1,qW (d:=0) h4];exact congrArg some n0
     have f2:qG ρ' hi 0=some (0:Int):=by rw[e2,qW (d:=0) h5];exact congrArg some n1
     cases mx with
     | none =>
      obtain⟨v,k1,k2⟩:=LZ (P:=P) (st:=st) hop hx' h10 h11 f1 f2 (Int.le_refl _) (Int.le_refl _) (by simp) σ w a hI hR'
      exact⟨v,k1,Xk k2 (.inr rfl)⟩
     | some mx =>
      obtain⟨h12,h13⟩:=h9 rfl
      cases hi with
      | none=>cases h12
      | some hi =>
       obtain⟨v,k1,k2⟩:=Bs (P:=P) (st:=st) hop hx' h10 h11 f1 f2 (by rw[e3,h13,←e2];exact f2) (Int.le_refl _) (Int.le_refl _) (by simp) σ w a hI hR'
       exact⟨v,k1,Xk k2 (.inl rfl)⟩
    have hxr:=hR x (by simp[hop,Op.operands])
    rw[h1] at hxr
    have hconf:∀ y∈lo.toList++hi.toList++mx.toList,y≠x:=by
     have nb:∀ (q:Option Operand) (d:Nat),(qG ρ q d).isSome=true→∀ y∈q.toList,y≠x:=by
      intro q d hq y hy e
      cases q with
      | none=>simp at hy
      | some u =>
       simp at hy
       subst hy;subst e
       simp[qG,h1] at hq
     intro y hy
     simp only[List.mem_append] at hy
     rcases hy with (hy | hy) | hy
     ·exact nb lo 0 h4 y hy
     ·exact nb hi _ h5 y hy
     ·cases mx with
      | none=>simp at hy
      | some q =>
       obtain⟨_,h13⟩:=h9 rfl
       exact nb (some q) 0 (by rw[h13];exact h5) y hy
    have key2:=key (fun y=>open Classical in if y=x then .slice m z' [] else ρ y) (fun y hy=>by
     by_cases e:y=x
     ·rw[if_pos e,e];exact Xk hxr (by exact hm)
     ·rw[if_neg e];exact hR y hy) (if_pos rfl) (fun y hy=>if_neg (hconf y hy))
    simpa[n0,n1] using key2
   obtain⟨e,h10,h11⟩:=QX h3
   cases mx with
   | none=>exact LZ hop h1 h10 h11 (qW h4) (qW h5) h6 h7 h8
   | some mx =>
    obtain⟨h12,h13⟩:=h9 rfl
    cases hi with
    | none=>cases h12
    | some hi=>exact Bs hop h1 h10 h11 (qW h4) (by simpa[qG,Zr] using qW (d:=0) h5) (by rw[h13];simpa[qG,Zr] using qW (d:=0) h5) h6 h7 h8
  ·rename_i h1
   obtain⟨rfl,h3,h4,h5,h6,h7,h8⟩:=h
   simp only[h1,UA]
   exact Fk hop h1 h3 (qW h4) (qW h5) h6 h7 h8
  ·rename_i h1
   obtain⟨rfl,h3,h4,h5,h6,h7,h8⟩:=h
   obtain⟨e,h10,h11⟩:=QX h3
   simp only[h1,UA]
   exact Ff hop h1 h10 h11 (qW h4) (qW h5) h6 h7 h8
  ·rename_i h1
   obtain⟨rfl,h2,h3,h4,h5,h6,h7⟩:=h
   obtain⟨z',h3⟩:=Option.isSome_iff_exists.1 h3
   obtain⟨e,h10,h11⟩:=QX h3
   simp only[h1,UA]
   exact Lf hop h1 (YE h2) h10 h11 h4 (qW h5) h6 h7
  ·rename_i h1
   obtain⟨rfl,rfl,h2,h3⟩:=h
   obtain⟨⟨n,z⟩,h2⟩:=Option.isSome_iff_exists.1 h2
   cases lo with
   | none =>
    simp only[h1,UA,h2,Option.getD_some]
    exact FA hop h1 h2
   | some y =>
    obtain⟨h4,h5,h6⟩:=h3 rfl
    obtain⟨nl,h4⟩:=Option.isSome_iff_exists.1 h4
    rw[h2] at h6
    simp only[Zr,h4,Option.getD_some] at h5 h6
    simp only[h1,UA,h2,Option.getD_some,Zr,h4]
    exact GN hop h1 h2 h4 h5 h6
  ·exact h.elim
 | call c =>
  simp only[qE,Dw] at hk
  split at hk
  ·rename_i hc
   obtain⟨callee,⟨args⟩,⟨ts⟩⟩:=c
   simp only at hc
   subst hc
   simp only[q7,qF,fy,AB,BG,jQ] at h ⊢
   split at h
   ·unfold Ek at h
    split at h
    ·rename_i h3
     obtain⟨es,hes⟩:=Option.isSome_iff_exists.1 h.2
     simp only[h3,Ey,hes,Option.getD_some]
     exact kS hop h3 h.1 hes
    ·rename_i h3;simp only[h3,Ey];exact F1 hop h3 (qW (d:=0) h)
    ·rename_i h3;simp only[h3,Ey];exact kM hop h3 h
    ·rename_i h3;simp only[h3,Ey];exact wA hop h3 (qW (d:=0) h)
    ·rename_i h3;simp only[h3,Ey];exact wy hop h3 (YE h.1) (qW (d:=0) h.2)
    ·exact h.elim
   ·exact h.elim
  ·rename_i hc
   obtain⟨callee,⟨args⟩,⟨ts⟩⟩:=c
   simp only at hc
   subst hc
   simp only[q7,qF,fy,AB] at h ⊢
   split at h
   ·exact ff hop h
   ·exact h.elim
  ·cases hk
 | _=>first | cases hk | exact h.elim
def UV (t:Bool):SV→SV→SV
 | .sc (.bool a),.sc (.bool b) =>.sc (.bool (bif t then a else b))
 | x,y=>if t then x else y
def Wu:SV→SV→SV→SV
 | .sc (.bool t),x,y=>UV t (ZE x) (ZE y)
 | _,_,_ =>.any
def HO (p:Prop):SV→Prop
 | .gd g _=>p→g=true
 | _=>True
def YV:SV→SV→SV→Prop
 | .sc (.bool t),x,y=>HO (t=true) x∧HO (t=false) y
 | _,_,_=>False
theorem QZ {st:St} {σ:Sig} {w:World} {x:SV} {v:Value} {p:Prop} (h:Rep st σ w x v) (hg:HO p x) (hp:p):Rep st σ w (ZE x) v:=by
 cases x with
 | gd g y=>cases h with | gd g x v h h'=>exact h (hg hp)
 | _=>exact h
theorem Hy {st:St} {σ:Sig} {w:World} {t:Bool} {x y:SV} {v:Value} (h:Rep st σ w (if t then x else y) v):Rep st σ w (UV t x y) v:=by
 unfold UV
 split
 ·cases t <;> exact h
 ·exact h
theorem jm {o:Oper} {c x y:Operand} {ρ:Operand→SV} {st:St} (ho:o.op = .pick c x y) (h:YV (ρ c) (ρ x) (ρ y)):Zl P o ρ st (Wu (ρ c) (ρ x) (ρ y)):=by
 intro σ w a hI hR
 have rc:=hR c (by simp[ho,Op.operands])
 have rx:=hR x (by simp[ho,Op.operands])
 have ry:=hR y (by simp[ho,Op.operands])
 unfold YV at h
 split at h
 ·rename_i t hc
  rw[hc] at rc
  have e:=qL rc
  refine⟨if t then a.eval x else a.eval y,by cases t <;> simp[execOp,ho,e,asBool],?_⟩
  rw[hc]
  refine Hy ?_
  cases t
  ·exact QZ ry h.2 rfl
  ·exact QZ rx h.1 rfl
 ·exact h.elim
def Ub (want:Bool):SV→Bool
 | .sc (.bool b)=>b==want
 | .gd g (.sc (.bool b))=>g&&(b==want)
 | _=>false
def J5:SV→Prop
 | .sc (.bool b)=>True
 | .gd g (.sc (.bool b))=>True
 | .gd false _=>True
 | _=>False
theorem ma (c:Bool) (x:SV):Ub c (.gd false x)=false:=by
 unfold Ub
 split
 ·rename_i h;cases h
 ·rename_i h;cases h;rfl
 ·rfl
theorem mY (x:SV):J5 (.gd false x)=True:=by
 unfold J5
 split
 ·rfl
 ·rfl
 ·rfl
 ·rename_i h1 h2 h3;exact absurd rfl (h3 x)
def Ww (p:Prop) (env:List SV):List Operand→Prop
 | []=>True
 | y::r=>HO p (ev env y)∧Ww p env r
theorem Uv {p:Prop} {env:List SV}:∀ (l:List Operand),Ww p env l→∀ y∈l,HO p (ev env y)
 | [],_,y,h=>by cases h
 | x::r,h,y,hy=>by
  cases hy with
  | head=>exact h.1
  | tail _ hm=>exact Uv r h.2 y hm
theorem DO {ops:Array Oper} {env:List SV} {j d:Nat} {want:Bool} {st:St} {σ:Sig} {w:World} {t:Array Value} (hd:(ops[j]?).bind (·.dst)=some d) (h:J5 (env.getD d .any))
  (hR:RepEnv st σ w env t):(yielded ops t j==some want)=Ub want (env.getD d .any):=by
 have hr:=hR.get d
 unfold J5 at h
 have key:∀ b,t.getD d undef = .bool b→yielded ops t j=some b:=by
  intro b hv
  have hlt:d<t.size:=by
   rcases Nat.lt_or_ge d t.size with g | g
   ·exact g
   ·simp[Array.getD,Nat.not_lt.2 g,undef] at hv
  have:t[d]?=some (.bool b):=by simp[Array.getD,hlt] at hv;simp[hlt,hv]
  simp[yielded,hd,this]
 split at h
 ·rename_i b hb
  rw[hb] at hr ⊢
  rw[key b (qL hr)]
  rfl
 ·rename_i g b hb
  rw[hb] at hr ⊢
  cases hr with
  | gd g x v h1 h2 =>
   cases g with
   | true =>
    rw[key b (qL (h1 rfl))]
    simp[Ub]
   | false =>
    have hu:=h2 rfl
    have:yielded ops t j=none:=by
     unfold yielded
     rw[hd]
     simp only[Option.bind_some]
     cases ht:t[d]? with
     | none=>rfl
     | some v =>
      have:t.getD d undef=v:=by rw[Array.getD_eq_getD_getElem?,ht];rfl
      rw[this] at hu
      subst hu
      rfl
    rw[this]
    simp[Ub]
 ·rename_i x hn hb
  rw[hb] at hr ⊢
  rw[ma]
  cases hr with
  | gd g x v h1 h2 =>
   have hu:=h2 rfl
   have:yielded ops t j=none:=by
    unfold yielded
    rw[hd]
    simp only[Option.bind_some]
    cases ht:t[d]? with
    | none=>rfl
    | some v =>
     have:t.getD d undef=v:=by rw[Array.getD_eq_getD_getElem?,ht];rfl
     rw[this] at hu
     subst hu
     rfl
   rw[this]
   rfl
 ·exact h.elim
def q9:List Operand→List Nat
 | []=>[]
 | .tmp t::r=>t::q9 r
 | _::r=>q9 r
theorem JO {t:Nat}:∀ {l:List Operand},t∈q9 l→Operand.tmp t∈l
 | .tmp d::r,h=>by
  simp only[q9,List.mem_cons] at h
  rcases h with rfl | h
  ·exact List.mem_cons_self
  ·exact List.mem_cons_of_mem _ (JO h)
 | .const v::r,h=>List.mem_cons_of_mem _ (JO (l:=r) h)
 | .global v::r,h=>List.mem_cons_of_mem _ (JO (l:=r) h)
 | .func v::r,h=>List.mem_cons_of_mem _ (JO (l:=r) h)
def YA (s:List Nat):Nat→List SV→List SV
 | _,[]=>[]
 | k,x::r=>(if s.contains k then ZE x else x)::YA s (k+1) r
theorem JU (s:List Nat):∀ (k:Nat) (l:List SV),(YA s k l).length=l.length
 | _,[]=>rfl
 | k,x::r=>by simp[YA,JU s (k+1) r]
theorem Uy (s:List Nat):∀ (k:Nat) (l:List SV) (i:Nat),i<l.length→(YA s k l).getD i .any=if s.contains (k+i) then ZE (l.getD i .any) else l.getD i .any
 | k,x::r,0,h=>rfl
 | k,x::r,i+1,h=>by
  have:=Uy s (k+1) r i (by simpa using h)
  simp only[YA,List.getD_cons_succ,this,show k+1+i=k+(i+1) by omega]
theorem En {p:Prop} (hp:p) {st:St} {σ:Sig} {w:World} {t:Array Value} {l:List Operand} {env:List SV} (h:RepEnv st σ w env t) (hg:Ww p env l) :
  RepEnv st σ w (YA (q9 l) 0 env) t:=by
 refine⟨by rw[JU];exact h.1,fun i hi=>?_⟩
 rw[JU] at hi
 rw[Uy _ _ _ _ hi,Nat.zero_add]
 split
 ·rename_i hc
  have hm:=JO (l:=l) (t:=i) (by simpa using hc)
  exact QZ (h.2 i hi) (Uv l hg _ hm) hp
 ·exact h.2 i hi
def Ys (P:Program) (t:TypeId) (st:St) (y:SV):SV→(St→Prop)→Prop
 | .ptr id off,K=>ZC st id∧qd P t=some y.cells.length∧qP y=true∧ZV y=true∧off+y.cells.length≤(qM st id).length ∧
   K (st.set id (.cells (ZP (qM st id) off y.cells)))
 | .aptr id ver off,K=>ZR st id ver∧qd P t=some y.cells.length∧qP y=true∧ZV y=true∧off+y.cells.length≤(Xa st id).length ∧
   K (st.set id (.arr ver (Qq st id) (ZP (Xa st id) off y.cells)))
 | _,_=>False
structure AppOk (P:Program) (t tx:TypeId) (z n:Nat):Prop where
 ok:n<4611686018427387904∧∃ e ex zs by',zY P t=some e∧zY P tx=some ex∧qd P e=some z∧Zj P e=some zs∧zs.length=z∧QH P e=some by'∧(2*n+192)*by'≤281474976710656
def X4 (st:St) (id ver:Nat):Prop:=st[id]?=some (.tok ver)
def YN (P:Program) (t tx:TypeId) (st:St):SV→SV→(SV→St→Prop)→Prop
 | .slice .full z0 l,.slice m z xs,K=>(l=[]∨z0=z)∧AppOk P t tx z (l.length+xs.length)∧K (.slice (.own st.length 0) z (l++xs)) (st++[.tok 0])
 | .slice (.own id ver) z l,.slice m z1 xs,K=>(xs=[]∨z1=z)∧X4 st id ver∧AppOk P t tx z (l.length+xs.length) ∧
   (∀ s∈xs,ZV s=true)∧K (.slice (.own id (ver+1)) z (l++xs)) (st.set id (.tok (ver+1)))
 | .arr id ver n,.slice m z1 xs,K=>(xs=[]∨z1=Qq st id)∧ZR st id ver∧AppOk P t tx (Qq st id) (n+xs.length) ∧
   (∀ s∈xs,ZV s=true)∧K (.arr id (ver+1) (n+xs.length)) (st.set id (.arr (ver+1) (Qq st id) ((Xa st id).take (n*Qq st id)++xs.flatMap SV.cells)))
 | _,_,_=>False
def VE (P:Program) (args:List SV) (st:St):SV→(SV→St→Prop)→Prop
 | .func (.func f) first captured,K=>zU P f=true∧ACalls P f (first++args++captured) K st
 | _,_=>False
def Yc (P:Program) (t:TypeId):List SV:=((zY P t).bind (Zj P)).getD []
def JL (P:Program) (t tx:TypeId) (st:St):SV→SV→(SV→St→Prop)→Prop
 | .slice .full z0 [],.slice m z xs,K=>xs≠[]∧AppOk P t tx z xs.length∧∀ cap,xs.length≤cap→K (.slc st.length z 0 xs.length cap) (st++[.cells (xs.flatMap SV.cells++Yy (Yc P t) (cap-xs.length))])
 | _,_,_=>False
def Yp (P:Program) (t tx:TypeId) (st:St) (x y:SV) (K:SV→St→Prop):Prop :=
 match x,y with
 | .slice .full z0 [],.slice m z xs=>AppOk P t tx z xs.length∧(∀ s∈xs,ZV s=true)∧K (.arr st.length 1 xs.length) (st++[.arr 1 z (xs.flatMap SV.cells)])
 | .slice .full z0 [],.arr id ver n=>ZR st id ver∧(VJ (Qq st id) n (Xa st id)).length=n∧(VJ (Qq st id) n (Xa st id)).flatMap SV.cells=(Xa st id).take (n*Qq st id) ∧
   (∀ x∈VJ (Qq st id) n (Xa st id),x.cells.length=Qq st id∧ZV x=true)∧AppOk P t tx (Qq st id) n∧K (.arr st.length 1 n) (st++[.arr 1 (Qq st id) ((Xa st id).take (n*Qq st id))])
 | x,y=>YN P t tx st x y K
def J6 (P:Program) (t:TypeId) (st:St):SV→SV→(SV→St→Prop)→Prop
 | .slc id z off len cap,.slice m z' ys,K=>z=z'∧ZC st id∧(zY P t).bind (qd P)=some z∧off+(min ys.length len)*z≤(qM st id).length∧(∀ s∈ys,ZV s=true) ∧
   K (.sc (.int .i64 (min ys.length len:Nat))) (st.set id (.cells (ZP (qM st id) off ((ys.take (min ys.length len)).flatMap SV.cells))))
 | .slc id z off len cap,.slc id' z' off' len' cap',K=>z=z'∧ZC st id∧ZC st id'∧(zY P t).bind (qd P)=some z∧off+(min len' len)*z≤(qM st id).length ∧
   off'+(min len' len)*z≤(qM st id').length∧(((qM st id').drop off').take ((min len' len)*z)).all QC=true ∧
   K (.sc (.int .i64 (min len' len:Nat))) (st.set id (.cells (ZP (qM st id) off (((qM st id').drop off').take ((min len' len)*z)))))
 | _,_,_=>False
def JN (P:Program) (t:TypeId) (st:St):SV→(SV→St→Prop)→Prop
 | .slc id z off len cap,K=>ZC st id∧(zY P t).isSome=true∧((zY P t).bind (Zj P)).isSome=true∧off+len*(Yc P t).length≤(qM st id).length∧(Yc P t).all QC=true ∧
   K .any (if len=0 then st else st.set id (.cells (ZP (qM st id) off (Yy (Yc P t) len))))
 | _,_=>False
def Vw (P:Program) (t:TypeId) (st:St):SV→SV→(SV→St→Prop)→Prop
 | .sc (.int k n),.sc (.int k' m),K=>((zY P t).bind (qd P)).isSome=true∧((zY P t).bind (Zj P)).map List.length=(zY P t).bind (qd P)∧((zY P t).bind (QH P)).isSome=true ∧
   0≤n∧n≤m∧m≤4611686018427387904∧m.toNat*((zY P t).bind (QH P)).getD 0≤281474976710656 ∧
   K (.slc st.length (((zY P t).bind (qd P)).getD 0) 0 n.toNat m.toNat) (st++[.cells (Yy (Yc P t) m.toNat)])
 | _,_,_=>False
def Fp (P:Program) (o:Oper) (mk ob:Bool) (env:List SV) (st:St) (K:SV→St→Prop):Builtin→List Operand→List TypeId→Prop
 | .append,[x,y],[t,tx]=>if mk then Yp P t tx st (ev env x) (ev env y) K else if ob then JL P t tx st (ev env x) (ev env y) K else YN P t tx st (ev env x) (ev env y) K
 | .copy,[x,y],[t,_]=>J6 P t st (ev env x) (ev env y) K
 | .clear,[x],[t]=>JN P t st (ev env x) K
 | _,_,_=>AOp P o K env st
def Wl (P:Program) (o:Oper) (mk ob:Bool) (env:List SV) (st:St) (K:SV→St→Prop) (args:List Operand) (ts:List TypeId):Callee→Prop
 | .value f=>VE P (args.map (ev env)) st (ev env f) K
 | .builtin b=>Fp P o mk ob env st K b args ts
 | .invoke _ _=>AOp P o K env st
theorem Db {t e:TypeId} {zs:List SV} (h1:zY P t=some e) (h2:Zj P e=some zs):Yc P t=zs:=by simp[Yc,h1,h2]
def Zi (P:Program) (t:TypeId) (st:St) (m k v:SV) (K:St→Prop):Prop :=
 match Ws P t st m k with
 | some (id,es,kv,_)=>K (st.set id (.map (JZ es kv v)))
 | none=>False
def HU (P:Program) (t:TypeId) (st:St) (m k:SV) (K:SV→St→Prop):Prop :=
 match Ws P t st m k with
 | some (id,es,kv,e)=>match Js P e with
  | some z=>match keyIdx es kv with
   | some j=>K (.tuple [(es.getD j (default,.any)).2,.stamp id j]) st
   | none=>K (.tuple [z,.stamp id es.length]) (st.set id (.map (es++[(kv,z)])))
  | none=>False
 | none=>False
def Hg (st:St) (v:SV):SV→SV→(St→Prop)→Prop
 | .mp id,.stamp id' j,K=>id'=id∧match Qn st id with
  | some es=>j<es.length∧K (st.set id (.map (es.set j ((es.getD j (default,.any)).1,v))))
  | none=>False
 | _,_,_=>False
def qy (P:Program) (M:List Nat) (o:Oper) (env:List SV) (st:St) (K:SV→St→Prop):Prop :=
 match o.op with
 | .store t x y=>o.dst=none∧Ys P t st (ev env y) (ev env x) (K .any ·)
 | .box t x=>qP (ev env x)=true∧if M.contains (o.dst.getD 0) then K (.ptr st.length 0) (st++[.cells (ev env x).cells]) else K (.ref (ev env x).cells) st
 | .alloc t=>(Zj P t).isSome=true∧K (.ptr st.length 0) (st++[.cells ((Zj P t).getD [])])
 | .build t parts=>Qr P t=true∧(K7 P t (parts.toList.map fun p=>(p.1,ev env p.2))).isSome=true∧K (.agg ((K7 P t (parts.toList.map fun p=>(p.1,ev env p.2))).getD [])) st
 | .buildSlice t len parts=>((zY P t).bind (qd P)).isSome=true∧((zY P t).bind (Zj P)).map List.length=(zY P t).bind (qd P)∧parts.toList.map (·.1)=List.range len ∧
   len*((zY P t).bind (qd P)).getD 0≤16777216∧(∀ p∈parts.toList,qP (ev env p.2)=true∧(ev env p.2).cells.length=((zY P t).bind (qd P)).getD 0) ∧
   if M.contains (o.dst.getD 0+1000000) then K (.arr st.length 1 len) (st++[.arr 1 (((zY P t).bind (qd P)).getD 0) ((parts.toList.map fun p=>norm (ev env p.2)).flatMap SV.cells)]) else
    K (.slice .full (((zY P t).bind (qd P)).getD 0) (parts.toList.map fun p=>norm (ev env p.2))) st
 | .makeSlice t x y=>Vw P t st (ev env x) (ev env y) K
 | .makeMap t none=>K (.mp st.length) (st++[.map []])
 | .mapUpdate t m k v=>o.dst=none∧Zi P t st (ev env m) (ev env k) (ev env v) (K .any ·)
 | .insert t m k v=>o.dst=none∧Zi P t st (ev env m) (ev env k) (ev env v) (K .any ·)
 | .mapEntry t m k=>HU P t st (ev env m) (ev env k) K
 | .entryStore t m s v=>o.dst=none∧Hg st (ev env v) (ev env m) (ev env s) (K .any ·)
 | .call c=>Wl P o (M.contains (o.dst.getD 0+1000000)) (M.contains (o.dst.getD 0)) env st K c.args.toList c.argTypes.toList c.callee
 | _=>AOp P o K env st
theorem Kb {M:List Nat} {o:Oper} {env:List SV} {st:St} {K:SV→St→Prop} (h:qy P M o env st K):AOp P o K env st:=by
 unfold qy at h
 split at h
 case h_1 t x y ho =>
  obtain⟨hd,h⟩:=h
  unfold Ys at h
  split at h
  ·rename_i h1;obtain⟨h2,h3,h4,h5,h6,h7⟩:=h;exact yJ ho hd h1 (W3 h2) h3 h4 rfl h5 h6 h7
  ·rename_i h1;obtain⟨h2,h3,h4,h5,h6,h7⟩:=h;exact GF ho hd h1 (YE h2) h3 h4 rfl h5 h6 h7
  ·exact h.elim
 case h_2 t x ho =>
  obtain⟨h1,h2⟩:=h
  split at h2
  ·exact wX ho h1 h2
  ·exact dA ho h1 h2
 case h_3 t ho=>exact yh ho (qW h.1) h.2
 case h_4 t parts ho=>exact yg ho h.1 (qW h.2.1) h.2.2
 case h_5 t len parts ho =>
  obtain⟨h1,h2,h3,h4,h5,h6⟩:=h
  have h1:=qW (d:=0) h1
  generalize (((zY P t).bind (qd P)).getD 0)=z at h1 h4 h5 h6
  rw[h1] at h2
  obtain⟨e,h7,h8⟩:=QX h1
  rw[h7] at h2
  simp only[Option.bind_some] at h2
  cases hz:Zj P e with
  | none=>simp[hz] at h2
  | some zs =>
   rw[hz] at h2
   split at h6
   ·exact KG ho h7 h8 hz h3 h4 h5 (by rw[List.flatMap_map] at h6;exact h6)
   ·exact Gf ho h7 h8 hz (by simpa using h2) h3 h4 h5 h6
 case h_6 t x y ho =>
  unfold Vw at h
  split at h
  ·rename_i h1 h2
   obtain⟨g1,g2,g3,g4,g5,g6,g7,g8⟩:=h
   have g1:=qW (d:=0) g1
   have g3:=qW (d:=0) g3
   generalize (((zY P t).bind (qd P)).getD 0)=z at g1 g8
   generalize (((zY P t).bind (QH P)).getD 0)=by' at g3 g7
   rw[g1] at g2
   obtain⟨e,g9,g10⟩:=QX g1
   rw[g9] at g2 g3
   simp only[Option.bind_some] at g2 g3
   cases hz:Zj P e with
   | none=>simp[hz] at g2
   | some zs =>
    rw[hz] at g2
    rw[Db g9 hz] at g8
    exact GK ho h1 h2 g9 g10 hz (by simpa using g2) g3 g4 g5 g6 g7 g8
  ·exact h.elim
 case h_7 t ho=>exact wu ho h
 case h_8 t m k v ho =>
  obtain⟨hd,h⟩:=h
  unfold Zi at h
  split at h
  ·rename_i hm;exact KB (.inl ho) hd hm h
  ·exact h.elim
 case h_9 t m k v ho =>
  obtain⟨hd,h⟩:=h
  unfold Zi at h
  split at h
  ·rename_i hm;exact KB (.inr ho) hd hm h
  ·exact h.elim
 case h_10 t m k ho =>
  unfold HU at h
  split at h
  ·rename_i hm
   split at h
   ·rename_i hz
    split at h
    ·rename_i j hj
     exact Uk ho hm hz (fun j' hj'=>by rw[hj] at hj';cases hj';exact h) (fun hn=>by rw[hj] at hn;cases hn)
    ·rename_i hj
     exact Uk ho hm hz (fun j' hj'=>by rw[hj] at hj';cases hj') (fun _=>h)
   ·exact h.elim
  ·exact h.elim
 case h_11 t m s v ho =>
  obtain⟨hd,h⟩:=h
  unfold Hg at h
  split at h
  ·rename_i h1 h2
   obtain⟨rfl,h⟩:=h
   split at h
   ·rename_i es hes;exact GA ho hd h1 h2 hes h.1 h.2
   ·exact h.elim
  ·exact h.elim
 case h_12 c ho =>
  obtain⟨callee,⟨args⟩,⟨ts⟩⟩:=c
  unfold Wl at h
  simp only at h
  split at h
  ·unfold VE at h
   split at h
   ·rename_i h1;exact gM ho h1 h.1 h.2
   ·exact h.elim
  ·unfold Fp at h
   split at h
   ·have happ:∀ {t tx:TypeId} {x y:Operand},o.op = .call { callee :=.builtin .append,args:=#[x,y],argTypes:=#[t,tx] }→YN P t tx st (ev env x) (ev env y) K→AOp P o K env st:=by
     intro t tx x y ho h
     unfold YN at h
     split at h
     ·rename_i h1 h2 _
      obtain⟨h3,⟨h11,e,ex,zs,by',h4,h5,h6,h7,h8,h9,h10⟩,h12⟩:=h
      exact EF ho h1 h2 h3 (.inr rfl) h4 h5 h6 h7 h8 h9 h10 h11 h12
     ·rename_i h1 h2 _
      obtain⟨h3,h3',⟨h11,e,ex,zs,by',h4,h5,h6,h7,h8,h9,h10⟩,h12,h13⟩:=h
      exact De ho h1 h2 h3 h3' h4 h5 h6 h7 h8 h9 h10 h11 h12 h13
     ·rename_i h1 h2 _
      obtain⟨h3,h3',⟨h11,e,ex,zs,by',h4,h5,h6,h7,h8,h9,h10⟩,h12,h13⟩:=h
      exact EX ho h1 h2 h3 (YE h3') h4 h5 h6 h7 h8 h9 h10 h11 h12 h13
     ·exact h.elim
    split at h
    ·unfold Yp at h
     split at h
     ·rename_i h1 h2
      obtain⟨⟨h11,e,ex,zs,by',h4,h5,h6,h7,h8,h9,h10⟩,h12,h13⟩:=h
      exact GJ ho h1 h2 (.inr rfl) h4 h5 h6 h7 h8 h9 h10 h11 h12 h13
     ·rename_i h1 h2
      obtain⟨k1,k2,k3,k4,⟨h11,e,ex,zs,by',h4,h5,h6,h7,h8,h9,h10⟩,h13⟩:=h
      exact DR ho h1 h2 (YE k1) k2 k3 (fun x hx=>(k4 x hx).1) h4 h5 h6 h7 h8 h9 h10 h11 (fun x hx=>(k4 x hx).2) h13
     ·exact happ ho h
    split at h
    ·unfold JL at h
     split at h
     ·rename_i h1 h2
      obtain⟨h3,⟨h11,e,ex,zs,by',h4,h5,h6,h7,h8,h9,h10⟩,h12⟩:=h
      rw[Db h4 h7] at h12
      exact GR ho h1 h2 h3 h4 h5 h6 h7 h8 h9 h10 h11 h12
     ·exact h.elim
    ·exact happ ho h
   ·unfold J6 at h
    split at h
    ·rename_i h1 h2
     obtain⟨rfl,g1,g2,g3,g4,g5⟩:=h
     obtain⟨e,g6,g7⟩:=QX g2
     exact Gh ho h1 h2 (W3 g1) g6 g7 g3 g4 g5
    ·rename_i h1 h2
     obtain⟨rfl,g1,g2,g3,g4,g5,g6,g7⟩:=h
     obtain⟨e,g8,g9⟩:=QX g3
     exact F6 ho h1 h2 (W3 g1) (W3 g2) g8 g9 g4 g5 g6 g7
    ·exact h.elim
   ·unfold JN at h
    split at h
    ·rename_i h1
     obtain⟨g1,g2,g3,g4,g5,g6⟩:=h
     have g2:=qW (d:=0) g2
     generalize (zY P _).getD 0=e at g2
     rw[g2] at g3
     simp only[Option.bind_some] at g3
     have g3:=qW (d:=[]) g3
     rw[Db g2 g3] at g4 g5 g6
     exact xe ho h1 (W3 g1) g2 g3 g4 g5 g6
    ·exact h.elim
   ·exact h
  ·exact h
 all_goals exact h
def Vf (ds:List (Option Tmp)) (j:Nat) (env:List SV):SV :=
 match ds[j]? with
 | some (some d)=>env.getD d .any
 | _ =>.any
def KQ (P:Program) (M:List Nat) (o:Oper) (env:List SV) (st:St) (next:List SV→St→Prop):Kd→Prop
 | .pure=>q7 P st (ev env) o.op∧next (ZL env o.dst (qF P st (ev env) o.op)) st
 | .pick c x y=>YV (ev env c) (ev env x) (ev env y)∧next (ZL env o.dst (Wu (ev env c) (ev env x) (ev env y))) st
 | .eff=>qy P M o env st fun x s=>next (ZL env o.dst x) s
def KN (P:Program) (M:List Nat) (o:Oper) (env:List SV) (st:St) (g:Bool) (next:List SV→St→Prop):Kd→Prop
 | .pure=>Ww (g=true) env o.op.operands.toList∧(g=true→q7 P st (fun y=>ZE (ev env y)) o.op) ∧
   next (ZL env o.dst (.gd g (qF P st (fun y=>ZE (ev env y)) o.op))) st
 | .pick c x y=>HO (g=true) (ev env c)∧(g=true→YV (ZE (ev env c)) (ev env x) (ev env y)) ∧
   next (ZL env o.dst (.gd g (Wu (ZE (ev env c)) (ev env x) (ev env y)))) st
 | .eff=>Ww (g=true) env o.op.operands.toList∧(g=true→qy P M o (YA (q9 o.op.operands.toList) 0 env) st fun x s=>next (ZL env o.dst x) s) ∧
   (g=false→next (ZL env o.dst .any) st)
def Xv (P:Program) (M:List Nat) (ds:List (Option Tmp)):List Oper→List SV→St→(List SV→St→Prop)→Prop
 | [],env,st,K=>K env st
 | o::r,env,st,K=>match o.guard with
  | none=>KQ P M o env st (fun e s=>Xv P M ds r e s K) (qE o.op)
  | some (j,want)=>J5 (Vf ds j env)∧KN P M o env st (Ub want (Vf ds j env)) (fun e s=>Xv P M ds r e s K) (qE o.op)
theorem Gr {ops:Array Oper} {j:Nat} {env:List SV} (h:J5 (Vf (ops.toList.map (·.dst)) j env)) :
  ∃ d,(ops[j]?).bind (·.dst)=some d∧Vf (ops.toList.map (·.dst)) j env=env.getD d .any:=by
 unfold Vf at h ⊢
 simp only[List.getElem?_map,Array.getElem?_toList] at h ⊢
 cases ho:ops[j]? with
 | none=>rw[ho] at h;exact h.elim
 | some o =>
  rw[ho] at h
  cases hd:o.dst with
  | none=>simp[hd] at h;exact h.elim
  | some d=>exact⟨d,by simp[hd],by simp[hd]⟩
theorem gJ {st:St} {env:List SV} {o:Oper} {K:SV→St→Prop} (hk:qE o.op = .pure) (h:q7 P st (ev env) o.op) (hn:K (qF P st (ev env) o.op) st):AOp P o K env st :=
 WU (EK hk h) hn
theorem Vc {op:Op} {c x y:Operand} (h:qE op = .pick c x y):op = .pick c x y:=by
 cases op <;> simp only[qE] at h <;> (try cases h) <;> (try rfl)
 rename_i c'
 simp only[Dw] at h
 split at h <;> cases h
theorem Bp {M:List Nat} {ops:Array Oper} {K:List SV→St→Prop}:∀ (n:Nat) (l:List Oper) (env:List SV) (st:St),ops.toList.drop n=l →
  Xv P M (ops.toList.map (·.dst)) l env st K→kr P ops ((List.range' n l.length)) K env st
 | n,[],env,st,_,h=>wo h
 | n,o::r,env,st,hl,h=>by
  have ho:ops[n]?=some o:=by
   have:(ops.toList.drop n)[0]?=some o:=by rw[hl];rfl
   rw[List.getElem?_drop,Nat.add_zero,Array.getElem?_toList] at this
   exact this
  have hr:ops.toList.drop (n+1)=r:=by rw[←List.drop_drop,hl];rfl
  have ih:=fun env st=>Bp (M:=M) (K:=K) (n+1) r env st hr
  simp only[List.length_cons,List.range'_succ]
  simp only[Xv] at h
  split at h
  ·rename_i hg
   refine B0 ho hg ?_
   cases hk:qE o.op with
   | pure=>rw[hk] at h;exact gJ hk h.1 (ih _ _ h.2)
   | pick c x y=>rw[hk] at h;exact WU (jm (Vc hk) h.1) (ih _ _ h.2)
   | eff=>rw[hk] at h;exact AOp.mono (Kb (by exact h)) fun x s h=>ih _ _ h
  ·rename_i j want hg
   obtain⟨h1,h2⟩:=h
   obtain⟨d,hd,he⟩:=Gr h1
   rw[he] at h1 h2
   intro σ w a hI hR D hdf
   have hy:=DO (want:=want) hd h1 hR
   simp only[wpOps,ho,Region.wanted,hg,hy]
   generalize hgv:Ub want (env.getD d .any)=g at h2
   cases g with
   | true =>
    simp only[if_true]
    have pureCase:∀ (X:SV) (ρ:Operand→SV),(∀ y,y∈o.op.operands→Rep st σ w (ρ y) (a.eval y))→Zl P o ρ st X→kr P ops (List.range' (n+1) r.length) K (ZL env o.dst (.gd true X)) st →
      o.wp P a w (wpOps P ops (fun e a' w'=>e = .normal∧Post D K st σ w a' w') (List.range' (n+1) r.length)) (fun e a' w'=>e = .normal∧Post D K st σ w a' w'):=by
     intro X ρ hρ hap hk
     obtain⟨v,hrun,hrep⟩:=hap σ w a hI hρ
     unfold Oper.wp
     rw[hrun]
     exact hk σ w _ hI (Jg hR _ (.gd true X v (fun _=>hrep) (fun e=>by cases e))) (by rw[QP];exact hdf)
    cases hk:qE o.op with
    | pure =>
     rw[hk] at h2
     obtain⟨g1,g2,g3⟩:=h2
     exact .inl (pureCase _ _ (fun y hy=>QZ (qC hR y) (Uv _ g1 y (by simpa using hy)) rfl) (EK hk (g2 rfl)) (ih _ _ g3))
    | pick c x y =>
     rw[hk] at h2
     obtain⟨g1,g2,g3⟩:=h2
     have hop:=Vc hk
     refine .inl ?_
     obtain⟨v,hrun,hrep⟩:∃ v,(execOp a.eval o).run P w = .ok (.value v) w∧Rep st σ w (Wu (ZE (ev env c)) (ev env x) (ev env y)) v:=by
      have rc:=QZ (qC hR c) g1 rfl
      have h:=g2 rfl
      unfold YV at h
      split at h
      ·rename_i t hc
       rw[hc] at rc
       have e:=qL rc
       refine⟨if t then a.eval x else a.eval y,by cases t <;> simp[execOp,hop,e,asBool],?_⟩
       rw[hc]
       refine Hy ?_
       cases t
       ·exact QZ (qC hR y) h.2 rfl
       ·exact QZ (qC hR x) h.1 rfl
      ·exact h.elim
     unfold Oper.wp
     rw[hrun]
     exact ih _ _ g3 σ w _ hI (Jg hR _ (.gd true _ v (fun _=>hrep) (fun e=>by cases e))) (by rw[QP];exact hdf)
    | eff =>
     rw[hk] at h2
     obtain⟨g1,g2,g3⟩:=h2
     refine .inl (Qp ?_ (fun _ _ _ h=>h.elim) (Kb (g2 rfl) σ w a hI (En rfl hR g1)))
     rintro a' w' ⟨v,y,st',σ',rfl,hn,hI',hr',hX⟩
     refine Yk (fun e a w hp=>⟨hp.1,hp.2.ext hX⟩) _ _ _ (ih _ _ hn σ' w' _ hI' (Jg (hR.ext hX) _ hr') ?_)
     rw[QP];exact hdf
   | false =>
    simp only[Bool.false_eq_true,if_false]
    cases hk:qE o.op with
    | pure =>
     rw[hk] at h2
     exact ih _ _ h2.2.2 σ w _ hI (Jg hR _ (.gd false _ _ (fun e=>by cases e) (fun _=>rfl))) (by rw[QP];exact hdf)
    | pick c x y =>
     rw[hk] at h2
     exact ih _ _ h2.2.2 σ w _ hI (Jg hR _ (.gd false _ _ (fun e=>by cases e) (fun _=>rfl))) (by rw[QP];exact hdf)
    | eff =>
     rw[hk] at h2
     exact ih _ _ (h2.2.2 rfl) σ w _ hI (Jg hR _ (.any _)) (by rw[QP];exact hdf)
theorem Et (M:List Nat) {id:Nat} {ops:Array Oper} {Q:Exit→List SV→St→Prop} {env:List SV} {st:St} (h:Xv P M (ops.toList.map (·.dst)) ops.toList env st (Q .normal)) :
  AWp P (.region id ops false) Q env st:=by
 refine kg ?_
 have:=Bp (P:=P) 0 ops.toList env st rfl h
 rw[List.range_eq_range']
 simpa using this
end Go.AL
