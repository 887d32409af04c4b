/- The abstract layer, part 9: regions whose order is drawn: whatever the order, the same comes of them. -/
import Derived.Test.YtkokccjfpebomaaGreatDoorA2
import Derived.IntWalk
import Derived.Laws.Strings
set_option linter.unusedVariables false
namespace Go.AL
variable {P:Program}
def ZN (s:List Nat):Nat→List SV→List SV
 | _,[]=>[]
 | k,x::r=>(if s.contains k then x else .any)::ZN s (k+1) r
theorem Jd (s:List Nat):∀ (k:Nat) (l:List SV),(ZN s k l).length=l.length
 | _,[]=>rfl
 | k,x::r=>by simp[ZN,Jd s (k+1) r]
theorem WG (s:List Nat):∀ (k:Nat) (l:List SV) (i:Nat),i<l.length→(ZN s k l).getD i .any=if s.contains (k+i) then l.getD i .any else .any
 | k,x::r,0,h=>rfl
 | k,x::r,i+1,h=>by
  have:=WG s (k+1) r i (by simpa using h)
  simp only[ZN,List.getD_cons_succ,this,show k+1+i=k+(i+1) by omega]
def yx (st:St) (X:SV):SV→St→Prop:=fun x s=>(∃ ex,s=st++ex)∧Ids st.length X∧(X=x∨X=norm x)
def K0 (P:Program) (M:List Nat) (o:Oper) (env:List SV) (st:St) (next:SV→Prop):Kd→Prop
 | .pure=>q7 P st (ev env) o.op∧next (qF P st (ev env) o.op)
 | .pick c x y=>YV (ev env c) (ev env x) (ev env y)∧next (Wu (ev env c) (ev env x) (ev env y))
 | .eff=>∃ X,qy P M o (ZN (q9 o.op.operands.toList) 0 env) st (yx st X)∧next X
def KP (P:Program) (M:List Nat) (o:Oper) (env:List SV) (st:St) (g:Bool) (next:SV→Prop):Kd→Prop
 | .pure=>Ww (g=true) env o.op.operands.toList∧(g=true→q7 P st (fun y=>ZE (ev env y)) o.op)∧next (.gd g (qF P st (fun y=>ZE (ev env y)) o.op))
 | .pick c x y=>HO (g=true) (ev env c)∧(g=true→YV (ZE (ev env c)) (ev env x) (ev env y))∧next (.gd g (Wu (ZE (ev env c)) (ev env x) (ev env y)))
 | .eff=>Ww (g=true) env o.op.operands.toList∧∃ X,(g=true→qy P M o (YA (q9 o.op.operands.toList) 0 (ZN (q9 o.op.operands.toList) 0 env)) st (yx st X))∧next (.gd g X)
def ZH (P:Program) (M:List Nat) (ds:List (Option Tmp)) (o:Oper) (env:List SV) (st:St) (next:SV→Prop):Prop :=
 match o.guard with
 | none=>K0 P M o env st next (qE o.op)
 | some (j,want)=>J5 (Vf ds j env)∧KP P M o env st (Ub want (Vf ds j env)) next (qE o.op)
def X2 (P:Program) (M:List Nat) (ds:List (Option Tmp)):List Oper→List SV→St→(List SV→Prop)→Prop
 | [],env,st,K=>K env
 | o::r,env,st,K=>ZH P M ds o env st fun x=>X2 P M ds r (ZL env o.dst x) st K
def looks (ops:Array Oper) (o:Oper):List Nat:=q9 o.op.operands.toList++(match o.guard with | some (j,_)=>((ops[j]?).bind (·.dst)).toList | none=>[])
def Xr (o:Oper) (j:Nat):Bool:=o.after.toList.any fun e=>Region.binds .any e&&e.on==j
def Fl (ops:Array Oper) (i j:Nat):Bool :=
 match ops[i]?,ops[j]? with
 | some a,some b =>
  (i==j) || ((match b.dst with
   | some t=>(!(looks ops a).contains t || (if j<i then Xr a j else Xr b i))&&a.dst != some t
   | none=>true))
 | _,_=>true
def J0 (ops:Array Oper):Bool :=
 (List.range ops.size).all fun i=>(List.range ops.size).all (Fl ops i)&&((ops[i]?).map fun o=>o.after.toList.all fun e => !Region.binds .any e || decide (e.on<i)).getD true
def Yl (P:Program) (ops:Array Oper) (st:St) (o:Oper) (E:List SV) (X:SV):Prop :=
 ∀ σ w (a:Act) (env:List SV),Inv st σ w→RepEnv st σ w env a.tmps→(∀ t∈looks ops o,env.getD t .any=E.getD t .any)→env.length=E.length →
  (Region.wanted o (yielded ops a.tmps)=true→∃ Q0:Exit→Act→World→Prop,(∀ e a w,¬ Q0 e a w) ∧
   o.wp P a w (fun a' w'=>∃ v σ',a'=a.put o.dst v∧Inv st σ' w'∧Ext st σ w st σ' w'∧Rep st σ' w' X v) Q0) ∧
  (Region.wanted o (yielded ops a.tmps)=false→Rep st σ w X undef)
theorem uy {o:Oper} {E env:List SV} {st:St} {X:SV} (h:AOp P o (yx st X) E st) {σ:Sig} {w:World} {a:Act} (hI:Inv st σ w) (hR:RepEnv st σ w E a.tmps) :
  o.wp P a w (fun a' w'=>∃ v σ',a'=a.put o.dst v∧Inv st σ' w'∧Ext st σ w st σ' w'∧Rep st σ' w' X v) (fun _ _ _=>False):=by
 refine Qp ?_ (fun _ _ _ h=>h) (h σ w a hI hR)
 rintro a' w' ⟨v,x,s,σ',rfl,⟨⟨ex,rfl⟩,hids,hx⟩,hI',hr,hX⟩
 have hrX:Rep (st++ex) σ' w' X v:=by rcases hx with rfl | rfl;exact hr;exact hr.norm
 refine⟨v,σ',rfl,hI'.drop hI.obIds,hX.drop (Nat.le_refl _),hrX.drop hids⟩
theorem BE {ops:Array Oper} {o:Oper} {t:Nat} (h:t∈q9 o.op.operands.toList):t∈looks ops o:=List.mem_append_left _ h
theorem Y2 {t:Nat}:∀ {l:List Operand},Operand.tmp t∈l→t∈q9 l
 | .tmp d::r,h=>by
  simp only[q9,List.mem_cons] at h ⊢
  rcases h with h | h
  ·left;cases h;rfl
  ·right;exact Y2 h
 | .const v::r,h=>by
  simp only[q9]
  cases h with
  | tail _ h=>exact Y2 h
 | .global v::r,h=>by
  simp only[q9]
  cases h with
  | tail _ h=>exact Y2 h
 | .func v::r,h=>by
  simp only[q9]
  cases h with
  | tail _ h=>exact Y2 h
theorem V9 {ops:Array Oper} {o:Oper} {env E:List SV} (h:∀ t∈looks ops o,env.getD t .any=E.getD t .any) {y:Operand} (hy:y∈o.op.operands):ev env y=ev E y:=by
 cases y with
 | tmp t=>exact h t (BE (Y2 (by simpa using hy)))
 | _=>rfl
theorem U7 {ops:Array Oper} {o:Oper} {st:St} {σ:Sig} {w:World} {t:Array Value} {env E:List SV} (hR:RepEnv st σ w env t) (h:∀ i∈looks ops o,env.getD i .any=E.getD i .any)
  (hl:env.length=E.length):RepEnv st σ w (ZN (q9 o.op.operands.toList) 0 E) t:=by
 refine⟨by rw[Jd,←hl];exact hR.1,fun i hi=>?_⟩
 rw[Jd] at hi
 rw[WG _ _ _ _ hi,Nat.zero_add]
 split
 ·rename_i hc
  rw[←h i (BE (by simpa using hc))]
  exact hR.2 i (by omega)
 ·exact .any _
theorem BQ {ops:Array Oper} {o:Oper} {env E:List SV} (h:∀ t∈looks ops o,env.getD t .any=E.getD t .any) {p:Prop}:∀ (l:List Operand),(∀ y∈l,y∈o.op.operands)→Ww p E l→Ww p env l
 | [],_,_=>trivial
 | y::r,hm,hg=>⟨by rw[V9 h (hm y (by simp))];exact hg.1,BQ h r (fun z hz=>hm z (by simp[hz])) hg.2⟩
theorem BA {p:Prop} {E:List SV} (s:List Nat):∀ (l:List Operand),(∀ t,Operand.tmp t∈l→t∈s)→Ww p E l→Ww p (ZN s 0 E) l
 | [],_,_=>trivial
 | y::r,hm,hg=>by
  refine⟨?_,BA s r (fun t ht=>hm t (by simp[ht])) hg.2⟩
  cases y with
  | tmp t =>
   simp only[ev]
   by_cases hl:t<E.length
   ·rw[WG _ _ _ _ hl,Nat.zero_add,if_pos (by simpa using hm t (by simp))];exact hg.1
   ·rw[List.getD_eq_getElem?_getD,List.getElem?_eq_none (show (ZN s 0 E).length≤t by rw[Jd];exact Nat.not_lt.1 hl)];trivial
  | _=>exact hg.1
theorem UX {M:List Nat} {ops:Array Oper} {o:Oper} {E:List SV} {st:St} {next:SV→Prop} (h:ZH P M (ops.toList.map (·.dst)) o E st next) :
  ∃ X,Yl P ops st o E X∧next X:=by
 unfold ZH at h
 split at h
 ·rename_i hg
  have hw:∀ t,Region.wanted o (yielded ops t)=true:=fun t=>by simp[Region.wanted,hg]
  cases hk:qE o.op with
  | pure =>
   rw[hk] at h
   refine⟨_,fun σ w a env hI hR hs hl=>⟨fun _=>⟨fun _ _ _=>False,fun _ _ _ h=>h,?_⟩,fun hf=>by rw[hw] at hf;cases hf⟩,h.2⟩
   obtain⟨v,hrun,hrep⟩:=EK hk h.1 σ w a hI (fun y hy=>by rw[←V9 hs hy];exact qC hR y)
   unfold Oper.wp
   rw[hrun]
   exact⟨v,σ,rfl,hI,Ext.refl _ _ _,hrep⟩
  | pick c x y =>
   rw[hk] at h
   refine⟨_,fun σ w a env hI hR hs hl=>⟨fun _=>⟨fun _ _ _=>False,fun _ _ _ h=>h,?_⟩,fun hf=>by rw[hw] at hf;cases hf⟩,h.2⟩
   obtain⟨v,hrun,hrep⟩:=jm (P:=P) (ρ:=ev E) (st:=st) (Vc hk) h.1 σ w a hI (fun y hy=>by rw[←V9 hs hy];exact qC hR y)
   unfold Oper.wp
   rw[hrun]
   exact⟨v,σ,rfl,hI,Ext.refl _ _ _,hrep⟩
  | eff =>
   rw[hk] at h
   obtain⟨X,h1,h2⟩:=h
   exact⟨X,fun σ w a env hI hR hs hl=>⟨fun _=>⟨fun _ _ _=>False,fun _ _ _ h=>h,uy (env:=env) (Kb h1) hI (U7 hR hs hl)⟩,fun hf=>by rw[hw] at hf;cases hf⟩,h2⟩
 ·rename_i j want hg
  obtain⟨h1,h⟩:=h
  obtain⟨d,hd,he⟩:=Gr h1
  have hlook:d∈looks ops o:=by
   unfold looks
   rw[hg]
   exact List.mem_append_right _ (by simp[hd])
  have hw:∀ {σ:Sig} {w:World} {a:Act} {env:List SV},RepEnv st σ w env a.tmps→(∀ t∈looks ops o,env.getD t .any=E.getD t .any) →
    Region.wanted o (yielded ops a.tmps)=Ub want (Vf (ops.toList.map (·.dst)) j E):=by
   intro σ w a env hR hs
   rw[he] at h1 ⊢
   rw[←hs d hlook] at h1 ⊢
   simp only[Region.wanted,hg]
   exact DO hd h1 hR
  generalize Ub want (Vf (ops.toList.map (·.dst)) j E)=g at h hw
  have skipc:∀ X:SV,g=false→∀ {σ:Sig} {w:World},Rep st σ w (.gd g X) undef:=fun X e σ w =>.gd g X _ (fun e'=>by rw[e] at e';cases e') (fun _=>rfl)
  cases hk:qE o.op with
  | pure =>
   rw[hk] at h
   obtain⟨g1,g2,g3⟩:=h
   refine⟨_,fun σ w a env hI hR hs hl=>⟨fun hwt=>⟨fun _ _ _=>False,fun _ _ _ h=>h,?_⟩,fun hf=>skipc _ ((hw hR hs).symm.trans hf)⟩,g3⟩
   have hgt:g=true:=(hw hR hs).symm.trans hwt
   obtain⟨v,hrun,hrep⟩:=EK hk (g2 hgt) σ w a hI (fun y hy=>by
    have:=QZ (qC hR y) (Uv _ (BQ hs _ (fun z hz=>by simpa using hz) g1) y (by simpa using hy)) hgt
    rwa[V9 hs hy] at this)
   unfold Oper.wp
   rw[hrun]
   exact⟨v,σ,rfl,hI,Ext.refl _ _ _,.gd g _ v (fun _=>hrep) (fun e=>by rw[hgt] at e;cases e)⟩
  | pick c x y =>
   rw[hk] at h
   obtain⟨g1,g2,g3⟩:=h
   have hop:=Vc hk
   refine⟨_,fun σ w a env hI hR hs hl=>⟨fun hwt=>⟨fun _ _ _=>False,fun _ _ _ h=>h,?_⟩,fun hf=>skipc _ ((hw hR hs).symm.trans hf)⟩,g3⟩
   have hgt:g=true:=(hw hR hs).symm.trans hwt
   have ec:=V9 hs (y:=c) (by simp[hop,Op.operands])
   have ex:=V9 hs (y:=x) (by simp[hop,Op.operands])
   have ey:=V9 hs (y:=y) (by simp[hop,Op.operands])
   obtain⟨v,hrun,hrep⟩:∃ v,(execOp a.eval o).run P w = .ok (.value v) w∧Rep st σ w (Wu (ZE (ev E c)) (ev E x) (ev E y)) v:=by
    have rc:=QZ (qC hR c) (by rw[ec];exact g1) hgt
    rw[ec] at rc
    have h:=g2 hgt
    unfold YV at h
    split at h
    ·rename_i t hc
     rw[hc] at rc
     have e:=qL rc
     refine⟨if t then a.eval x else a.eval y,by cases t <;> simp[execOp,hop,e,asBool],?_⟩
     rw[hc]
     refine Hy ?_
     cases t
     ·have ry:=qC hR y
      rw[ey] at ry
      exact QZ ry h.2 rfl
     ·have rx:=qC hR x
      rw[ex] at rx
      exact QZ rx h.1 rfl
    ·exact h.elim
   unfold Oper.wp
   rw[hrun]
   exact⟨v,σ,rfl,hI,Ext.refl _ _ _,.gd g _ v (fun _=>hrep) (fun e=>by rw[hgt] at e;cases e)⟩
  | eff =>
   rw[hk] at h
   obtain⟨g1,X,g2,g3⟩:=h
   refine⟨_,fun σ w a env hI hR hs hl=>⟨fun hwt=>⟨fun _ _ _=>False,fun _ _ _ h=>h,?_⟩,fun hf=>skipc _ ((hw hR hs).symm.trans hf)⟩,g3⟩
   have hgt:g=true:=(hw hR hs).symm.trans hwt
   have hRo:=U7 hR hs hl
   have hRs:=En hgt hRo (BA _ _ (fun t ht=>Y2 ht) g1)
   refine Qp ?_ (fun _ _ _ h=>h) (uy (env:=env) (Kb (g2 hgt)) hI hRs)
   rintro a' w' ⟨v,σ',rfl,hI',hX,hr⟩
   exact⟨v,σ',rfl,hI',hX,.gd g _ v (fun _=>hr) (fun e=>by rw[hgt] at e;cases e)⟩
theorem L3 {M:List Nat} {ops:Array Oper} {st:St} {K:List SV→Prop}:∀ (n:Nat) (l:List Oper) (env:List SV),ops.toList.drop n=l→X2 P M (ops.toList.map (·.dst)) l env st K →
  ∃ (F:Nat→List SV) (X:Nat→SV),F n=env∧(∀ i o,n≤i→ops[i]?=some o→Yl P ops st o (F i) (X i)∧F (i+1)=ZL (F i) o.dst (X i))∧K (F (n+l.length))
 | n,[],env,hl,h=>by
  refine⟨fun _=>env,fun _ =>.any,rfl,fun i o hi ho=>?_,h⟩
  have h1:=qo ho
  have h2:=congrArg List.length hl
  simp at h2
  omega
 | n,o::r,env,hl,h=>by
  have ho:ops[n]?=some o:=by
   have:(ops.toList.drop n)[0]?=some o:=by rw[hl];rfl
   rw[List.getElem?_drop,Nat.add_zero,Array.getElem?_toList] at this
   exact this
  have hr:ops.toList.drop (n+1)=r:=by rw[←List.drop_drop,hl];rfl
  obtain⟨x,h1,h2⟩:=UX h
  obtain⟨F,X,f1,f2,f3⟩:=L3 (n+1) r _ hr h2
  refine⟨fun i=>if i=n then env else F i,fun i=>if i=n then x else X i,by simp,fun i p hi hp=>?_,?_⟩
  ·by_cases e:i=n
   ·subst e
    rw[ho] at hp;cases hp
    simp only[if_true,show ¬ i+1=i by omega,if_false]
    exact⟨h1,f1⟩
   ·simp only[if_neg e,show ¬ i+1=n by omega,if_false]
    exact f2 i p (by omega) hp
  ·simp only[List.length_cons]
   rw[if_neg (by omega),show n+(r.length+1)=n+1+r.length by omega]
   exact f3
def qX (ops:Array Oper) (j t:Nat):Bool:=((ops[j]?).bind (·.dst))==some t
def wr (ops:Array Oper) (listed:Array Bool) (t:Nat):Bool:=(List.range ops.size).any fun j=>listed.getD j false&&qX ops j t
def Yh (ops:Array Oper) (listed:Array Bool) (e0 eN:List SV):List SV:=(List.range e0.length).map fun t=>if wr ops listed t then eN.getD t .any else e0.getD t .any
theorem qg {ops:Array Oper} {listed:Array Bool} {e0 eN:List SV}:(Yh ops listed e0 eN).length=e0.length:=by simp[Yh]
theorem QI {ops:Array Oper} {listed:Array Bool} {e0 eN:List SV} {t:Nat} (ht:t<e0.length) :
  (Yh ops listed e0 eN).getD t .any=if wr ops listed t then eN.getD t .any else e0.getD t .any:=by
 simp[Yh,List.getD_eq_getElem?_getD,ht]
theorem VG {env:List SV} {d:Option Tmp} {x:SV} {t:Nat} (ht:t<env.length):(ZL env d x).getD t .any=if d=some t then x else env.getD t .any:=by
 cases d with
 | none=>simp[ZL]
 | some d =>
  simp only[ZL,Option.some.injEq]
  by_cases e:d=t
  ·subst e;simp[List.getD_eq_getElem?_getD,ht]
  ·simp[List.getD_eq_getElem?_getD,List.getElem?_set_ne e,e]
theorem Yq {env:List SV} {d:Option Tmp} {x:SV}:(ZL env d x).length=env.length:=by cases d <;> simp[ZL]
theorem zX (M:List Nat) {id:Nat} {ops:Array Oper} {Q:Exit→List SV→St→Prop} {env:List SV} {st:St} (hm:P.follows .mixedOrders=true) (hf:J0 ops=true)
  (h:X2 P M (ops.toList.map (·.dst)) ops.toList env st fun e=>Q .normal e st):AWp P (.region id ops true) Q env st:=by
 intro σ w a hI hR D hd
 obtain⟨F,X,f1,f2,f3⟩:=L3 0 ops.toList env rfl h
 simp only[Nat.zero_add,Array.length_toList] at f3
 have hflow:∀ i j p q,ops[i]?=some p→ops[j]?=some q→i≠j→∀ t,q.dst=some t→(t∈looks ops p→if j<i then Xr p j=true else Xr q i=true)∧p.dst≠some t:=by
  intro i j p q hp hq hne t ht
  have h1:=qo hp
  have h2:=qo hq
  unfold J0 at hf
  rw[List.all_eq_true] at hf
  have h3:=hf i (by simpa using h1)
  simp only[Bool.and_eq_true,List.all_eq_true] at h3
  have h4:=h3.1 j (by simpa using h2)
  unfold Fl at h4
  rw[hp,hq] at h4
  simp only[ht,Bool.or_eq_true,beq_iff_eq,Bool.and_eq_true,Bool.not_eq_true',bne_iff_ne,ne_eq] at h4
  rcases h4 with h4 | ⟨h4,h5⟩
  ·exact absurd h4 hne
  ·refine⟨fun hlk=>?_,h5⟩
   rcases h4 with h4 | h4
   ·simp[hlk] at h4
   ·split <;> rename_i hji <;> simpa[hji] using h4
 have hback:∀ i p,ops[i]?=some p→∀ e,e∈p.after.toList→Region.binds .any e=true→e.on<i:=by
  intro i p hp e he hb
  have h1:=qo hp
  unfold J0 at hf
  rw[List.all_eq_true] at hf
  have h3:=hf i (by simpa using h1)
  simp only[Bool.and_eq_true,hp,Option.map_some,Option.getD_some,List.all_eq_true] at h3
  have h4:=h3.2 e he
  simpa[hb] using h4
 have flen:∀ i,i≤ops.size→(F i).length=env.length:=by
  intro i
  induction i with
  | zero=>intro _;rw[f1]
  | succ i ih =>
   intro hi
   have hp:ops[i]?=some ops[i]:=by simp[show i<ops.size by omega]
   rw[(f2 i _ (Nat.zero_le _) hp).2,Yq,ih (by omega)]
 have fget:∀ i,i≤ops.size→∀ t,t<env.length→(∀ j,j<i→qX ops j t=true→(F i).getD t .any=X j)∧((∀ j,j<i→qX ops j t=false)→(F i).getD t .any=env.getD t .any):=by
  intro i
  induction i with
  | zero=>intro _ t ht;exact⟨fun j hj=>absurd hj (Nat.not_lt_zero _),fun _=>by rw[f1]⟩
  | succ i ih =>
   intro hi t ht
   obtain⟨ih1,ih2⟩:=ih (by omega) t ht
   have hp:ops[i]?=some ops[i]:=by simp[show i<ops.size by omega]
   have he:=(f2 i _ (Nat.zero_le _) hp).2
   have hg:(F (i+1)).getD t .any=if ops[i].dst=some t then X i else (F i).getD t .any:=by rw[he];exact VG (by rw[flen i (by omega)];exact ht)
   have hwi:qX ops i t=true↔ops[i].dst=some t:=by simp[qX,hp]
   refine⟨fun j hj hw=>?_,fun hno=>?_⟩
   ·rw[hg]
    by_cases c:ops[i].dst=some t
    ·rw[if_pos c]
     by_cases e:j=i
     ·rw[e]
     ·have hjl:j<ops.size:=by omega
      have hq:ops[j]?=some ops[j]:=by simp[hjl]
      have hjd:ops[j].dst=some t:=by simpa[qX,hq] using hw
      exact absurd c (hflow i j _ _ hp hq (by omega) t hjd).2
    ·rw[if_neg c]
     have e:j≠i:=by rintro rfl;exact c (hwi.1 hw)
     exact ih1 j (by omega) hw
   ·rw[hg,if_neg (fun c=>by have:=hno i (by omega);rw[hwi.2 c] at this;cases this)]
    exact ih2 fun j hj=>hno j (by omega)
 let Inv':Array Bool→Act→World→Prop:=fun listed a' w'=>∃ σ',Inv st σ' w'∧Ext st σ w st σ' w'∧a'.defers=D∧listed.size=ops.size ∧
  RepEnv st σ' w' (Yh ops listed env (F ops.size)) a'.tmps∧∀ i,listed.getD i false=true→∀ p,ops[i]?=some p→∀ e,e∈p.after.toList→Region.binds .any e=true→listed.getD e.on false=true
 have key:∀ (fuel:Nat) (listed:Array Bool) (a':Act) (w':World),((List.range ops.size).filter fun j => !listed.getD j false).length=fuel→Inv' listed a' w' →
   wpAny P .any ops (fun e a' w'=>Post D (Q e) st σ w a' w') fuel listed a' w':=by
  intro fuel
  induction fuel with
  | zero =>
   intro listed a' w' hc hI'
   obtain⟨σ',i1,i2,i3,i4,i5,i6⟩:=hI'
   have hall:∀ j,j<ops.size→listed.getD j false=true:=by
    intro j hj
    have h0:(List.range ops.size).filter (fun j => !listed.getD j false)=[]:=List.eq_nil_of_length_eq_zero hc
    rw[List.filter_eq_nil_iff] at h0
    simpa using h0 j (by simpa using hj)
   refine⟨?_,i3,Yh ops listed env (F ops.size),st,σ',?_,i1,i5,i2⟩
   ·unfold Region.ready
    rw[List.filter_eq_nil_iff]
    intro j hj
    have hj':j<ops.size:=by simpa using hj
    have h1:=hall j hj'
    have:listed.getD j true=true:=by
     rw[Array.getD_eq_getD_getElem?] at h1 ⊢
     rw[Array.getElem?_eq_getElem (by omega)] at h1 ⊢
     exact h1
    simp[this]
   ·have e:Yh ops listed env (F ops.size)=F ops.size:=by
     apply List.ext_getElem?
     intro t
     by_cases ht:t<env.length
     ·have h1:=QI (ops:=ops) (listed:=listed) (eN:=F ops.size) ht
      have hl1:t<(Yh ops listed env (F ops.size)).length:=by rw[qg];exact ht
      have hl2:t<(F ops.size).length:=by rw[flen _ (Nat.le_refl _)];exact ht
      rw[List.getElem?_eq_getElem hl1,List.getElem?_eq_getElem hl2]
      simp only[List.getD_eq_getElem?_getD,List.getElem?_eq_getElem hl1,List.getElem?_eq_getElem hl2,Option.getD_some] at h1
      rw[h1]
      split
      ·rfl
      ·rename_i hno
       have h2:=(fget ops.size (Nat.le_refl _) t ht).2 (fun j hj=>by
        cases hw:qX ops j t with
        | false=>rfl
        | true =>
         exfalso
         apply hno
         unfold wr
         rw[List.any_eq_true]
         exact⟨j,by simpa using hj,by rw[hall j hj,hw];rfl⟩)
       simp only[List.getD_eq_getElem?_getD,List.getElem?_eq_getElem hl2,Option.getD_some] at h2
       rw[h2]
     ·rw[List.getElem?_eq_none (by rw[qg];omega),List.getElem?_eq_none (by rw[flen _ (Nat.le_refl _)];omega)]
    rw[e]
    exact f3
  | succ fuel ih =>
   intro listed a' w' hc hI'
   obtain⟨σ',i1,i2,i3,i4,i5,i6⟩:=hI'
   have hready:∀ i,i∈Region.ready .any ops listed↔i<ops.size∧listed.getD i true=false∧∀ p,ops[i]?=some p→∀ e,e∈p.after.toList→Region.binds .any e=true→listed.getD e.on false=true:=by
    intro i
    unfold Region.ready
    rw[List.mem_filter]
    constructor
    ·rintro⟨h1,h2⟩
     have h1':i<ops.size:=by simpa using h1
     simp only[Bool.and_eq_true,Bool.not_eq_true'] at h2
     refine⟨h1',h2.1,fun p hp e he hb=>?_⟩
     have h3:=h2.2
     rw[hp] at h3
     simp only[Option.map_some,Option.getD_some,Array.all_eq_true'] at h3
     have:=h3 e (by simpa using he)
     simpa[hb] using this
    ·rintro⟨h1,h2,h3⟩
     refine⟨by simpa using h1,?_⟩
     have hp:ops[i]?=some ops[i]:=by simp[h1]
     simp only[h2,hp,Option.map_some,Option.getD_some,Bool.not_false,Bool.true_and,Array.all_eq_true']
     intro e he
     cases hb:Region.binds .any e with
     | false=>rfl
     | true=>simpa using h3 _ hp e (by simpa using he) hb
   refine⟨fun hnil=>?_,fun i hi=>?_⟩
   ·-- the least one that is not listed is ready
    exfalso
    have hex:∃ j,j<ops.size∧listed.getD j false=false:=by
     have hne:(List.range ops.size).filter (fun j => !listed.getD j false)≠[]:=by intro h0;rw[h0] at hc;cases hc
     obtain⟨j,hj⟩:=List.exists_mem_of_ne_nil _ hne
     rw[List.mem_filter] at hj
     exact⟨j,by simpa using hj.1,by simpa using hj.2⟩
    obtain⟨j,hj1,hj2⟩:=hex
    have least:∀ n,∀ j,j≤n→j<ops.size→listed.getD j false=false→∃ i,i<ops.size∧listed.getD i false=false∧∀ k,k<i→listed.getD k false=true:=by
     intro n
     induction n with
     | zero =>
      intro j hj h1 h2
      exact⟨j,h1,h2,fun k hk=>by omega⟩
     | succ n ihn =>
      intro j hj h1 h2
      by_cases c:∃ k,k<j∧listed.getD k false=false
      ·obtain⟨k,hk1,hk2⟩:=c
       exact ihn k (by omega) (by omega) hk2
      ·refine⟨j,h1,h2,fun k hk=>?_⟩
       cases hv:listed.getD k false with
       | true=>rfl
       | false=>exact absurd ⟨k,hk,hv⟩ c
    obtain⟨i,hi1,hi2,hi3⟩:=least j j (Nat.le_refl _) hj1 hj2
    have:i∈Region.ready .any ops listed:=(hready i).2 ⟨hi1,by
     rw[Array.getD_eq_getD_getElem?] at hi2 ⊢
     rw[Array.getElem?_eq_getElem (by omega)] at hi2 ⊢
     exact hi2,fun p hp e he hb=>hi3 _ (hback i p hp e he hb)⟩
    rw[hnil] at this
    cases this
   ·obtain⟨hi1,hi2,hi3⟩:=(hready i).1 hi
    have hp:ops[i]?=some ops[i]:=by simp[hi1]
    have hnl:listed.getD i false=false:=by
     rw[Array.getD_eq_getD_getElem?] at hi2 ⊢
     rw[Array.getElem?_eq_getElem (by omega)] at hi2 ⊢
     exact hi2
    obtain⟨hfact,hnext⟩:=f2 i _ (Nat.zero_le _) hp
    have hagree:∀ t∈looks ops ops[i],(Yh ops listed env (F ops.size)).getD t .any=(F i).getD t .any:=by
     intro t ht
     by_cases hlt:t<env.length
     ·rw[QI hlt]
      obtain⟨g1,g2⟩:=fget i (by omega) t hlt
      obtain⟨gN1,gN2⟩:=fget ops.size (Nat.le_refl _) t hlt
      by_cases c:∃ j,j<i∧qX ops j t=true
      ·obtain⟨j,hj,hw⟩:=c
       have hjl:j<ops.size:=by omega
       have hq:ops[j]?=some ops[j]:=by simp[hjl]
       have hjd:ops[j].dst=some t:=by simpa[qX,hq] using hw
       have hedge:=(hflow i j _ _ hp hq (by omega) t hjd).1 ht
       rw[if_pos hj] at hedge
       have hlj:listed.getD j false=true:=by
        unfold Xr at hedge
        rw[List.any_eq_true] at hedge
        obtain⟨e,he1,he2⟩:=hedge
        simp only[Bool.and_eq_true,beq_iff_eq] at he2
        have:=hi3 _ hp e he1 he2.1
        rwa[he2.2] at this
       rw[if_pos (by unfold wr;rw[List.any_eq_true];exact⟨j,by simpa using hjl,by rw[hlj,hw];rfl⟩),g1 j hj hw,gN1 j hjl hw]
      ·rw[g2 fun j hj=>by
        cases hw:qX ops j t with
        | false=>rfl
        | true=>exact absurd ⟨j,hj,hw⟩ c]
       rw[if_neg]
       intro hwr
       unfold wr at hwr
       rw[List.any_eq_true] at hwr
       obtain⟨j,hj1,hj2⟩:=hwr
       simp only[Bool.and_eq_true] at hj2
       have hjl:j<ops.size:=by simpa using hj1
       have hq:ops[j]?=some ops[j]:=by simp[hjl]
       have hjd:ops[j].dst=some t:=by simpa[qX,hq] using hj2.2
       have hne:i≠j:=by rintro rfl;rw[hj2.1] at hnl;cases hnl
       have hnji:¬ j<i:=fun hji=>c ⟨j,hji,hj2.2⟩
       have hedge:=(hflow i j _ _ hp hq hne t hjd).1 ht
       rw[if_neg hnji] at hedge
       unfold Xr at hedge
       rw[List.any_eq_true] at hedge
       obtain⟨e,he1,he2⟩:=hedge
       simp only[Bool.and_eq_true,beq_iff_eq] at he2
       have:=i6 j hj2.1 _ hq e he1 he2.1
       rw[he2.2,hnl] at this
       cases this
     ·rw[List.getD_eq_getElem?_getD,List.getD_eq_getElem?_getD,List.getElem?_eq_none (by rw[qg];omega),List.getElem?_eq_none (by rw[flen i (by omega)];omega)]
    obtain⟨hrun,hskip⟩:=hfact σ' w' a' _ i1 i5 hagree (by rw[qg,flen i (by omega)])
    have hdone:∀ (v:Value) (σ2:Sig) (w2:World),Inv st σ2 w2→Ext st σ' w' st σ2 w2→Rep st σ2 w2 (X i) v→Inv' (listed.setIfInBounds i true) (a'.put ops[i].dst v) w2:=by
     intro v σ2 w2 hI2 hX2 hr2
     have gl:∀ k,(listed.setIfInBounds i true).getD k false=if k=i then true else listed.getD k false:=by
      intro k
      rw[Array.getD_eq_getD_getElem?,Array.getD_eq_getD_getElem?]
      by_cases e:i=k
      ·subst e;simp[show i<listed.size by omega]
      ·rw[Array.getElem?_setIfInBounds_ne e,if_neg (fun h=>e h.symm)]
     have hRE:=i5.ext hX2
     refine⟨σ2,hI2,i2.trans hX2,by rw[QP];exact i3,by simpa using i4,⟨?_,fun t ht=>?_⟩,fun k hk p hp' e he hb=>?_⟩
     ·rw[qg]
      have:=hRE.1
      rw[qg] at this
      cases ops[i].dst with
      | none=>exact this
      | some d=>simpa[Act.put] using this
     ·rw[qg] at ht
      have hput:=Jg hRE ops[i].dst hr2
      have h1:=hput.2 t (by rw[Yq,qg];exact ht)
      rw[VG (by rw[qg];exact ht)] at h1
      have e:(Yh ops (listed.setIfInBounds i true) env (F ops.size)).getD t .any=if ops[i].dst=some t then X i else (Yh ops listed env (F ops.size)).getD t .any:=by
       rw[QI ht,QI ht]
       obtain⟨gN1,gN2⟩:=fget ops.size (Nat.le_refl _) t ht
       by_cases c:ops[i].dst=some t
       ·rw[if_pos c,if_pos]
        ·exact gN1 i hi1 (by simp[qX,hp,c])
        ·unfold wr
         rw[List.any_eq_true]
         exact⟨i,by simpa using hi1,by rw[gl,if_pos rfl];simp[qX,hp,c]⟩
       ·rw[if_neg c]
        have e2:wr ops (listed.setIfInBounds i true) t=wr ops listed t:=by
         unfold wr
         apply Bool.eq_iff_iff.2
         rw[List.any_eq_true,List.any_eq_true]
         constructor
         ·rintro⟨j,hj1,hj2⟩
          simp only[Bool.and_eq_true] at hj2
          refine⟨j,hj1,?_⟩
          rw[gl] at hj2
          by_cases ej:j=i
          ·subst ej;exact absurd (by simpa[qX,hp] using hj2.2) c
          ·rw[if_neg ej] at hj2;simp[hj2.1,hj2.2]
         ·rintro⟨j,hj1,hj2⟩
          simp only[Bool.and_eq_true] at hj2
          refine⟨j,hj1,?_⟩
          rw[gl]
          split <;> simp[hj2.1,hj2.2]
        rw[e2]
      rw[e]
      exact h1
     ·rw[gl] at hk ⊢
      split
      ·rfl
      ·by_cases ek:k=i
       ·subst ek
        rw[hp] at hp';cases hp'
        exact hi3 _ hp e he hb
       ·rw[if_neg ek] at hk
        exact i6 k hk p hp' e he hb
    have hcount:((List.range ops.size).filter fun j => !(listed.setIfInBounds i true).getD j false).length=fuel:=by
     have h1:((List.range ops.size).filter fun j => !listed.getD j false)=(List.range ops.size).filter fun j => !listed.getD j false:=rfl
     have hperm:∀ l:List Nat,l.Nodup→i∈l→(l.filter fun j => !listed.getD j false).length=(l.filter fun j => !(listed.setIfInBounds i true).getD j false).length+1:=by
      intro l
      have gl:∀ k,(listed.setIfInBounds i true).getD k false=if k=i then true else listed.getD k false:=by
       intro k
       rw[Array.getD_eq_getD_getElem?,Array.getD_eq_getD_getElem?]
       by_cases e:i=k
       ·subst e;simp[show i<listed.size by omega]
       ·rw[Array.getElem?_setIfInBounds_ne e,if_neg (fun h=>e h.symm)]
      induction l with
      | nil=>intro _ h;cases h
      | cons x r ihr =>
       intro hnd hmem
       rw[List.nodup_cons] at hnd
       by_cases e:x=i
       ·subst e
        have hrest:(r.filter fun j => !listed.getD j false)=r.filter fun j => !(listed.setIfInBounds x true).getD j false:=by
         apply List.filter_congr
         intro j hj
         rw[gl,if_neg (by rintro rfl;exact hnd.1 hj)]
        rw[List.filter_cons,List.filter_cons,if_pos (by rw[hnl];rfl),if_neg (by rw[gl,if_pos rfl];decide),hrest]
        simp
       ·have hm:i∈r:=by
         cases hmem with
         | head=>exact absurd rfl e
         | tail _ h=>exact h
        have:=ihr hnd.2 hm
        simp only[List.filter_cons,gl x,if_neg e]
        split <;> simp only[List.length_cons,this]
     have:=hperm _ List.nodup_range (by simpa using hi1)
     omega
    unfold wpOp
    rw[hp]
    simp only
    cases hwt:Region.wanted ops[i] (yielded ops a'.tmps) with
    | true =>
     simp only[if_true]
     obtain⟨Q0,hq0,hwp⟩:=hrun hwt
     refine .inl (Qp ?_ (fun e a w h=>absurd h (hq0 e a w)) hwp)
     rintro a2 w2 ⟨v,σ2,rfl,hI2,hX2,hr2⟩
     exact ih _ _ _ hcount (hdone v σ2 w2 hI2 hX2 hr2)
    | false =>
     simp only[Bool.false_eq_true,if_false]
     exact ih _ _ _ hcount (hdone undef σ' w' i1 (Ext.refl _ _ _) (hskip hwt))
 have hd0:Ext st σ w st σ { w with drawn:=w.drawn+1 }:=Ext.drew _
 refine wp_region_any hm (key ops.size _ a _ ?_ ⟨σ,hI.drew _,hd0,hd,by simp,?_,fun i hi=>?_⟩)
 ·have:((List.range ops.size).filter fun j => !(Array.replicate ops.size false).getD j false)=List.range ops.size:=by
   apply List.filter_eq_self.2
   intro j hj
   simp[Array.getD]
  rw[this];simp
 ·have e:Yh ops (Array.replicate ops.size false) env (F ops.size)=env:=by
   apply List.ext_getElem?
   intro t
   by_cases ht:t<env.length
   ·have hw:wr ops (Array.replicate ops.size false) t=false:=by
     unfold wr
     rw[List.any_eq_false]
     intro j hj
     simp[Array.getD]
    simp[Yh,hw,ht]
   ·rw[List.getElem?_eq_none (by rw[qg];omega),List.getElem?_eq_none (by omega)]
  rw[e]
  exact hR.ext hd0
 ·simp[Array.getD] at hi
end Go.AL
namespace Go.AL
variable {P:Program}
def Kz (ops:Array Oper):Nat→Nat→Nat→Bool
 | 0,_,_=>false
 | n+1,i,j=>match ops[i]? with
  | some o=>o.after.toList.any fun e=>Region.binds .any e&&(e.on==j || Kz ops n e.on j)
  | none=>false
def Va (ops:Array Oper):List Nat→Bool
 | a::b::r=>Kz ops ops.size b a&&decide (a<b)&&Va ops (b::r)
 | _=>true
def mr (P:Program) (M:List Nat) (ops:Array Oper) (ks el:List Nat) (R:St→Prop) (s0:St):Nat→List Oper→List SV→St→(List SV→St→Prop)→Prop
 | _,[],env,st,K=>K env st
 | i,o::r,env,st,K =>
  if ks.contains i then ∃ X s',qy P M o (ZN (q9 o.op.operands.toList) 0 env) st (fun x s=>x=X∧s=s')∧o.guard=none∧R s'∧mr P M ops ks el R s0 (i+1) r (ZL env o.dst X) s' K
  else ∃ X,(∀ s,(if el.contains i then s=s0 else R s)→ZH P M (ops.toList.map (·.dst)) o env s (fun x=>x=X))∧mr P M ops ks el R s0 (i+1) r (ZL env o.dst X) st K
def W7 (P:Program) (ops:Array Oper) (s s':St) (o:Oper) (E:List SV) (X:SV):Prop :=
 ∀ σ w (a:Act) (env:List SV),Inv s σ w→RepEnv s σ w env a.tmps→(∀ t∈looks ops o,env.getD t .any=E.getD t .any)→env.length=E.length →
  o.guard=none∧∃ Q0:Exit→Act→World→Prop,(∀ e a w,¬ Q0 e a w) ∧
   o.wp P a w (fun a' w'=>∃ v σ',a'=a.put o.dst v∧Inv s' σ' w'∧Ext s σ w s' σ' w'∧Rep s' σ' w' X v) Q0
theorem Y3 {ops:Array Oper} {listed:Array Bool} (hcl:∀ i,listed.getD i false=true→∀ p,ops[i]?=some p→∀ e,e∈p.after.toList→Region.binds .any e=true→listed.getD e.on false=true) :
  ∀ (n i j:Nat),(∀ p,ops[i]?=some p→∀ e,e∈p.after.toList→Region.binds .any e=true→listed.getD e.on false=true)→Kz ops n i j=true→listed.getD j false=true
 | 0,i,j,_,h=>by cases h
 | n+1,i,j,hi,h=>by
  simp only[Kz] at h
  split at h
  ·rename_i o ho
   rw[List.any_eq_true] at h
   obtain⟨e,he1,he2⟩:=h
   simp only[Bool.and_eq_true,Bool.or_eq_true,beq_iff_eq] at he2
   have hl:=hi o ho e he1 he2.1
   rcases he2.2 with rfl | h2
   ·exact hl
   ·exact Y3 hcl n e.on j (hcl e.on hl) h2
  ·cases h
theorem D6 {ops:Array Oper} {a:Nat} {r:List Nat} (h:Va ops (a::r)=true):Va ops r=true:=by
 cases r with
 | nil=>rfl
 | cons b r=>simp only[Va,Bool.and_eq_true] at h;exact h.2
theorem Fv {ops:Array Oper}:∀ {r:List Nat} {a:Nat},Va ops (a::r)=true→∀ k∈r,a<k
 | [],a,_,k,hk=>by cases hk
 | b::r,a,h,k,hk=>by
  simp only[Va,Bool.and_eq_true,decide_eq_true_eq] at h
  cases hk with
  | head=>exact h.1.2
  | tail _ hk=>exact Nat.lt_trans h.1.2 (Fv h.2 k hk)
theorem E4 {ops:Array Oper} {listed:Array Bool} (hcl:∀ i,listed.getD i false=true→∀ p,ops[i]?=some p→∀ e,e∈p.after.toList→Region.binds .any e=true→listed.getD e.on false=true) :
  ∀ {r:List Nat} {a:Nat},Va ops (a::r)=true→∀ k∈r,listed.getD k false=true→listed.getD a false=true
 | [],a,_,k,hk,_=>by cases hk
 | b::r,a,h,k,hk,hl=>by
  have h':=h
  simp only[Va,Bool.and_eq_true] at h
  have hb:listed.getD b false=true:=by
   cases hk with
   | head=>exact hl
   | tail _ hk=>exact E4 hcl h.2 k hk hl
  exact Y3 hcl _ b a (hcl b hb) h.1.1
def VU (ks:List Nat) (listed:Array Bool) (n:Nat):Nat:=(ks.find? fun e => !listed.getD e false).getD n
theorem uO {ops:Array Oper} {listed:Array Bool} (n:Nat) (hcl:∀ i,listed.getD i false=true→∀ p,ops[i]?=some p→∀ e,e∈p.after.toList→Region.binds .any e=true→listed.getD e.on false=true)
  {i:Nat} (hi:∀ p,ops[i]?=some p→∀ e,e∈p.after.toList→Region.binds .any e=true→listed.getD e.on false=true) (hnl:listed.getD i false=false) :
  ∀ {ks:List Nat},Va ops ks=true→i∈ks→VU ks listed n=i
 | [],_,h=>by cases h
 | a::r,ho,h=>by
  by_cases e:a=i
  ·subst e;simp only[VU,List.find?_cons,hnl,Bool.not_false];rfl
  ·have hr:i∈r:=by
    cases h with
    | head=>exact absurd rfl e
    | tail _ h=>exact h
   have ih:=uO n hcl hi hnl (D6 ho) hr
   have ha:listed.getD a false=true:=by
    cases r with
    | nil=>cases hr
    | cons b r =>
     have ho':=ho
     simp only[Va,Bool.and_eq_true] at ho
     by_cases eb:b=i
     ·subst eb;exact Y3 hcl _ b a hi ho.1.1
     ·have hb:listed.getD b false=true:=by
       cases hv:listed.getD b false with
       | true=>rfl
       | false =>
        exfalso
        simp only[VU,List.find?_cons,hv,Bool.not_false] at ih
        exact eb ih
      exact Y3 hcl _ b a (hcl b hb) ho.1.1
   simp only[VU,List.find?_cons,ha,Bool.not_true] at ih ⊢
   exact ih
theorem hU {listed:Array Bool} {n:Nat} {ks:List Nat} (h:∀ k∈ks,listed.getD k false=true):VU ks listed n=n:=by
 unfold VU
 rw[List.find?_eq_none.2 (fun k hk=>by simp only[h k hk];decide)];rfl
theorem E7 {ops:Array Oper} {listed:Array Bool} {n:Nat}:∀ {ks:List Nat},Va ops ks=true→(∀ k∈ks,k<n)→VU ks listed n≤n∧(∀ k∈ks,k<VU ks listed n→listed.getD k false=true) ∧
  (VU ks listed n=n∨(VU ks listed n∈ks∧listed.getD (VU ks listed n) false=false))
 | [],_,_=>⟨Nat.le_of_eq rfl,fun k hk _=>(by cases hk),.inl rfl⟩
 | a::r,ho,hn=>by
  cases hv:listed.getD a false with
  | false =>
   have e:VU (a::r) listed n=a:=by simp only[VU,List.find?_cons,hv,Bool.not_false];rfl
   rw[e]
   refine⟨Nat.le_of_lt (hn a (by simp)),fun k hk hlt=>?_,.inr ⟨by simp,hv⟩⟩
   cases hk with
   | head=>omega
   | tail _ hk=>have:=Fv ho k hk;omega
  | true =>
   have e:VU (a::r) listed n=VU r listed n:=by simp only[VU,List.find?_cons,hv,Bool.not_true]
   rw[e]
   obtain⟨h1,h2,h3⟩:=E7 (listed:=listed) (D6 ho) (fun k hk=>hn k (by simp[hk]))
   refine⟨h1,fun k hk hlt=>?_,h3.imp id fun h=>⟨by simp[h.1],h.2⟩⟩
   cases hk with
   | head=>exact hv
   | tail _ hk=>exact h2 k hk hlt
def nr (ops:Array Oper) (ks:List Nat) (i j:Nat):Bool:=(ks.all fun k => !(decide (k<j)) || !Kz ops ops.size k i) && !Kz ops ops.size i j
theorem wE (ks:List Nat) {id:Nat} {ops:Array Oper} {Q:Exit→List SV→St→Prop} {env:List SV} {st:St} (hm:P.follows .mixedOrders=true) (hf:J0 ops=true)
  (hks:Va ops ks=true) (hkn:ks.all (· < ops.size)=true)
  (h:∃ (F:Nat→List SV) (G:Nat→St) (X:Nat→SV),F 0=env∧G 0=st ∧
   (∀ i o,0≤i→ops[i]?=some o→F (i+1)=ZL (F i) o.dst (X i) ∧
    (if ks.contains i then W7 P ops (G i) (G (i+1)) o (F i) (X i) else G (i+1)=G i∧∀ j,(j=ops.size∨j∈ks)→nr ops ks i j=true→Yl P ops (G j) o (F i) (X i))) ∧
   Q .normal (F (0+ops.toList.length)) (G (0+ops.toList.length))):AWp P (.region id ops true) Q env st:=by
 intro σ w a hI hR D hd
 obtain⟨F,G,X,f1,gg1,f2',f3⟩:=h
 simp only[Nat.zero_add,Array.length_toList] at f3
 have f2:∀ i o,0≤i→ops[i]?=some o→True∧F (i+1)=ZL (F i) o.dst (X i):=fun i o hi ho=>⟨trivial,(f2' i o hi ho).1⟩
 have hkn':∀ k∈ks,k<ops.size:=by
  intro k hk
  rw[List.all_eq_true] at hkn
  simpa using hkn k hk
 have gconst:∀ d a,a+d≤ops.size→(∀ k∈ks,¬ (a≤k∧k<a+d))→G (a+d)=G a:=by
  intro d
  induction d with
  | zero=>intro a _ _;rfl
  | succ d ih =>
   intro a ha hno
   have h1:=ih a (by omega) (fun k hk hc=>hno k hk (by omega))
   have hp:ops[a+d]?=some ops[a+d]:=by simp[show a+d<ops.size by omega]
   have h2:=(f2' (a+d) _ (Nat.zero_le _) hp).2
   rw[if_neg (by
    intro hc
    exact hno (a+d) (by simpa using hc) (by omega))] at h2
   rw[show a+(d+1)=a+d+1 by omega,h2.1,h1]
 have gsame:∀ a b,a≤b→b≤ops.size→(∀ k∈ks,¬ (a≤k∧k<b))→G b=G a:=by
  intro a b hab hb hno
  obtain⟨d,rfl⟩:=Nat.exists_eq_add_of_le hab
  exact gconst d a hb hno
 have hflow:∀ i j p q,ops[i]?=some p→ops[j]?=some q→i≠j→∀ t,q.dst=some t→(t∈looks ops p→if j<i then Xr p j=true else Xr q i=true)∧p.dst≠some t:=by
  intro i j p q hp hq hne t ht
  have h1:=qo hp
  have h2:=qo hq
  unfold J0 at hf
  rw[List.all_eq_true] at hf
  have h3:=hf i (by simpa using h1)
  simp only[Bool.and_eq_true,List.all_eq_true] at h3
  have h4:=h3.1 j (by simpa using h2)
  unfold Fl at h4
  rw[hp,hq] at h4
  simp only[ht,Bool.or_eq_true,beq_iff_eq,Bool.and_eq_true,Bool.not_eq_true',bne_iff_ne,ne_eq] at h4
  rcases h4 with h4 | ⟨h4,h5⟩
  ·exact absurd h4 hne
  ·refine⟨fun hlk=>?_,h5⟩
   rcases h4 with h4 | h4
   ·simp[hlk] at h4
   ·split <;> rename_i hji <;> simpa[hji] using h4
 have hback:∀ i p,ops[i]?=some p→∀ e,e∈p.after.toList→Region.binds .any e=true→e.on<i:=by
  intro i p hp e he hb
  have h1:=qo hp
  unfold J0 at hf
  rw[List.all_eq_true] at hf
  have h3:=hf i (by simpa using h1)
  simp only[Bool.and_eq_true,hp,Option.map_some,Option.getD_some,List.all_eq_true] at h3
  have h4:=h3.2 e he
  simpa[hb] using h4
 have flen:∀ i,i≤ops.size→(F i).length=env.length:=by
  intro i
  induction i with
  | zero=>intro _;rw[f1]
  | succ i ih =>
   intro hi
   have hp:ops[i]?=some ops[i]:=by simp[show i<ops.size by omega]
   rw[(f2 i _ (Nat.zero_le _) hp).2,Yq,ih (by omega)]
 have fget:∀ i,i≤ops.size→∀ t,t<env.length→(∀ j,j<i→qX ops j t=true→(F i).getD t .any=X j)∧((∀ j,j<i→qX ops j t=false)→(F i).getD t .any=env.getD t .any):=by
  intro i
  induction i with
  | zero=>intro _ t ht;exact⟨fun j hj=>absurd hj (Nat.not_lt_zero _),fun _=>by rw[f1]⟩
  | succ i ih =>
   intro hi t ht
   obtain⟨ih1,ih2⟩:=ih (by omega) t ht
   have hp:ops[i]?=some ops[i]:=by simp[show i<ops.size by omega]
   have he:=(f2 i _ (Nat.zero_le _) hp).2
   have hg:(F (i+1)).getD t .any=if ops[i].dst=some t then X i else (F i).getD t .any:=by rw[he];exact VG (by rw[flen i (by omega)];exact ht)
   have hwi:qX ops i t=true↔ops[i].dst=some t:=by simp[qX,hp]
   refine⟨fun j hj hw=>?_,fun hno=>?_⟩
   ·rw[hg]
    by_cases c:ops[i].dst=some t
    ·rw[if_pos c]
     by_cases e:j=i
     ·rw[e]
     ·have hjl:j<ops.size:=by omega
      have hq:ops[j]?=some ops[j]:=by simp[hjl]
      have hjd:ops[j].dst=some t:=by simpa[qX,hq] using hw
      exact absurd c (hflow i j _ _ hp hq (by omega) t hjd).2
    ·rw[if_neg c]
     have e:j≠i:=by rintro rfl;exact c (hwi.1 hw)
     exact ih1 j (by omega) hw
   ·rw[hg,if_neg (fun c=>by have:=hno i (by omega);rw[hwi.2 c] at this;cases this)]
    exact ih2 fun j hj=>hno j (by omega)
 let Inv':Array Bool→Act→World→Prop:=fun listed a' w'=>∃ σ',Inv (G (VU ks listed ops.size)) σ' w'∧Ext st σ w (G (VU ks listed ops.size)) σ' w'∧a'.defers=D∧listed.size=ops.size ∧
  RepEnv (G (VU ks listed ops.size)) σ' w' (Yh ops listed env (F ops.size)) a'.tmps∧∀ i,listed.getD i false=true→∀ p,ops[i]?=some p→∀ e,e∈p.after.toList→Region.binds .any e=true→listed.getD e.on false=true
 have key:∀ (fuel:Nat) (listed:Array Bool) (a':Act) (w':World),((List.range ops.size).filter fun j => !listed.getD j false).length=fuel→Inv' listed a' w' →
   wpAny P .any ops (fun e a' w'=>Post D (Q e) st σ w a' w') fuel listed a' w':=by
  intro fuel
  induction fuel with
  | zero =>
   intro listed a' w' hc hI'
   obtain⟨σ',i1,i2,i3,i4,i5,i6⟩:=hI'
   have hall:∀ j,j<ops.size→listed.getD j false=true:=by
    intro j hj
    have h0:(List.range ops.size).filter (fun j => !listed.getD j false)=[]:=List.eq_nil_of_length_eq_zero hc
    rw[List.filter_eq_nil_iff] at h0
    simpa using h0 j (by simpa using hj)
   have hnx:VU ks listed ops.size=ops.size:=hU fun k hk=>hall k (hkn' k hk)
   rw[hnx] at i1 i2 i5
   refine⟨?_,i3,Yh ops listed env (F ops.size),G ops.size,σ',?_,i1,i5,i2⟩
   ·unfold Region.ready
    rw[List.filter_eq_nil_iff]
    intro j hj
    have hj':j<ops.size:=by simpa using hj
    have h1:=hall j hj'
    have:listed.getD j true=true:=by
     rw[Array.getD_eq_getD_getElem?] at h1 ⊢
     rw[Array.getElem?_eq_getElem (by omega)] at h1 ⊢
     exact h1
    simp[this]
   ·have e:Yh ops listed env (F ops.size)=F ops.size:=by
     apply List.ext_getElem?
     intro t
     by_cases ht:t<env.length
     ·have h1:=QI (ops:=ops) (listed:=listed) (eN:=F ops.size) ht
      have hl1:t<(Yh ops listed env (F ops.size)).length:=by rw[qg];exact ht
      have hl2:t<(F ops.size).length:=by rw[flen _ (Nat.le_refl _)];exact ht
      rw[List.getElem?_eq_getElem hl1,List.getElem?_eq_getElem hl2]
      simp only[List.getD_eq_getElem?_getD,List.getElem?_eq_getElem hl1,List.getElem?_eq_getElem hl2,Option.getD_some] at h1
      rw[h1]
      split
      ·rfl
      ·rename_i hno
       have h2:=(fget ops.size (Nat.le_refl _) t ht).2 (fun j hj=>by
        cases hw:qX ops j t with
        | false=>rfl
        | true =>
         exfalso
         apply hno
         unfold wr
         rw[List.any_eq_true]
         exact⟨j,by simpa using hj,by rw[hall j hj,hw];rfl⟩)
       simp only[List.getD_eq_getElem?_getD,List.getElem?_eq_getElem hl2,Option.getD_some] at h2
       rw[h2]
     ·rw[List.getElem?_eq_none (by rw[qg];omega),List.getElem?_eq_none (by rw[flen _ (Nat.le_refl _)];omega)]
    rw[e]
    exact f3
  | succ fuel ih =>
   intro listed a' w' hc hI'
   obtain⟨σ',i1,i2,i3,i4,i5,i6⟩:=hI'
   have hready:∀ i,i∈Region.ready .any ops listed↔i<ops.size∧listed.getD i true=false∧∀ p,ops[i]?=some p→∀ e,e∈p.after.toList→Region.binds .any e=true→listed.getD e.on false=true:=by
    intro i
    unfold Region.ready
    rw[List.mem_filter]
    constructor
    ·rintro⟨h1,h2⟩
     have h1':i<ops.size:=by simpa using h1
     simp only[Bool.and_eq_true,Bool.not_eq_true'] at h2
     refine⟨h1',h2.1,fun p hp e he hb=>?_⟩
     have h3:=h2.2
     rw[hp] at h3
     simp only[Option.map_some,Option.getD_some,Array.all_eq_true'] at h3
     have:=h3 e (by simpa using he)
     simpa[hb] using this
    ·rintro⟨h1,h2,h3⟩
     refine⟨by simpa using h1,?_⟩
     have hp:ops[i]?=some ops[i]:=by simp[h1]
     simp only[h2,hp,Option.map_some,Option.getD_some,Bool.not_false,Bool.true_and,Array.all_eq_true']
     intro e he
     cases hb:Region.binds .any e with
     | false=>rfl
     | true=>simpa using h3 _ hp e (by simpa using he) hb
   refine⟨fun hnil=>?_,fun i hi=>?_⟩
   ·-- the least one that is not listed is ready
    exfalso
    have hex:∃ j,j<ops.size∧listed.getD j false=false:=by
     have hne:(List.range ops.size).filter (fun j => !listed.getD j false)≠[]:=by intro h0;rw[h0] at hc;cases hc
     obtain⟨j,hj⟩:=List.exists_mem_of_ne_nil _ hne
     rw[List.mem_filter] at hj
     exact⟨j,by simpa using hj.1,by simpa using hj.2⟩
    obtain⟨j,hj1,hj2⟩:=hex
    have least:∀ n,∀ j,j≤n→j<ops.size→listed.getD j false=false→∃ i,i<ops.size∧listed.getD i false=false∧∀ k,k<i→listed.getD k false=true:=by
     intro n
     induction n with
     | zero =>
      intro j hj h1 h2
      exact⟨j,h1,h2,fun k hk=>by omega⟩
     | succ n ihn =>
      intro j hj h1 h2
      by_cases c:∃ k,k<j∧listed.getD k false=false
      ·obtain⟨k,hk1,hk2⟩:=c
       exact ihn k (by omega) (by omega) hk2
      ·refine⟨j,h1,h2,fun k hk=>?_⟩
       cases hv:listed.getD k false with
       | true=>rfl
       | false=>exact absurd ⟨k,hk,hv⟩ c
    obtain⟨i,hi1,hi2,hi3⟩:=least j j (Nat.le_refl _) hj1 hj2
    have:i∈Region.ready .any ops listed:=(hready i).2 ⟨hi1,by
     rw[Array.getD_eq_getD_getElem?] at hi2 ⊢
     rw[Array.getElem?_eq_getElem (by omega)] at hi2 ⊢
     exact hi2,fun p hp e he hb=>hi3 _ (hback i p hp e he hb)⟩
    rw[hnil] at this
    cases this
   ·obtain⟨hi1,hi2,hi3⟩:=(hready i).1 hi
    have hp:ops[i]?=some ops[i]:=by simp[hi1]
    have hnl:listed.getD i false=false:=by
     rw[Array.getD_eq_getD_getElem?] at hi2 ⊢
     rw[Array.getElem?_eq_getElem (by omega)] at hi2 ⊢
     exact hi2
    obtain⟨hnext,hfact⟩:=f2' i _ (Nat.zero_le _) hp
    have hagree:∀ t∈looks ops ops[i],(Yh ops listed env (F ops.size)).getD t .any=(F i).getD t .any:=by
     intro t ht
     by_cases hlt:t<env.length
     ·rw[QI hlt]
      obtain⟨g1,g2⟩:=fget i (by omega) t hlt
      obtain⟨gN1,gN2⟩:=fget ops.size (Nat.le_refl _) t hlt
      by_cases c:∃ j,j<i∧qX ops j t=true
      ·obtain⟨j,hj,hw⟩:=c
       have hjl:j<ops.size:=by omega
       have hq:ops[j]?=some ops[j]:=by simp[hjl]
       have hjd:ops[j].dst=some t:=by simpa[qX,hq] using hw
       have hedge:=(hflow i j _ _ hp hq (by omega) t hjd).1 ht
       rw[if_pos hj] at hedge
       have hlj:listed.getD j false=true:=by
        unfold Xr at hedge
        rw[List.any_eq_true] at hedge
        obtain⟨e,he1,he2⟩:=hedge
        simp only[Bool.and_eq_true,beq_iff_eq] at he2
        have:=hi3 _ hp e he1 he2.1
        rwa[he2.2] at this
       rw[if_pos (by unfold wr;rw[List.any_eq_true];exact⟨j,by simpa using hjl,by rw[hlj,hw];rfl⟩),g1 j hj hw,gN1 j hjl hw]
      ·rw[g2 fun j hj=>by
        cases hw:qX ops j t with
        | false=>rfl
        | true=>exact absurd ⟨j,hj,hw⟩ c]
       rw[if_neg]
       intro hwr
       unfold wr at hwr
       rw[List.any_eq_true] at hwr
       obtain⟨j,hj1,hj2⟩:=hwr
       simp only[Bool.and_eq_true] at hj2
       have hjl:j<ops.size:=by simpa using hj1
       have hq:ops[j]?=some ops[j]:=by simp[hjl]
       have hjd:ops[j].dst=some t:=by simpa[qX,hq] using hj2.2
       have hne:i≠j:=by rintro rfl;rw[hj2.1] at hnl;cases hnl
       have hnji:¬ j<i:=fun hji=>c ⟨j,hji,hj2.2⟩
       have hedge:=(hflow i j _ _ hp hq hne t hjd).1 ht
       rw[if_neg hnji] at hedge
       unfold Xr at hedge
       rw[List.any_eq_true] at hedge
       obtain⟨e,he1,he2⟩:=hedge
       simp only[Bool.and_eq_true,beq_iff_eq] at he2
       have:=i6 j hj2.1 _ hq e he1 he2.1
       rw[he2.2,hnl] at this
       cases this
     ·rw[List.getD_eq_getElem?_getD,List.getD_eq_getElem?_getD,List.getElem?_eq_none (by rw[qg];omega),List.getElem?_eq_none (by rw[flen i (by omega)];omega)]
    have hns:=E7 (listed:=listed) hks hkn'
    have hdone:∀ (v:Value) (σ2:Sig) (w2:World) (s2:St),s2=G (VU ks (listed.setIfInBounds i true) ops.size)→Inv s2 σ2 w2→Ext (G (VU ks listed ops.size)) σ' w' s2 σ2 w2→Rep s2 σ2 w2 (X i) v →
      Inv' (listed.setIfInBounds i true) (a'.put ops[i].dst v) w2:=by
     intro v σ2 w2 s2 es2 hI2 hX2 hr2
     subst es2
     have gl:∀ k,(listed.setIfInBounds i true).getD k false=if k=i then true else listed.getD k false:=by
      intro k
      rw[Array.getD_eq_getD_getElem?,Array.getD_eq_getD_getElem?]
      by_cases e:i=k
      ·subst e;simp[show i<listed.size by omega]
      ·rw[Array.getElem?_setIfInBounds_ne e,if_neg (fun h=>e h.symm)]
     have hRE:=i5.ext hX2
     refine⟨σ2,hI2,i2.trans hX2,by rw[QP];exact i3,by simpa using i4,⟨?_,fun t ht=>?_⟩,fun k hk p hp' e he hb=>?_⟩
     ·rw[qg]
      have:=hRE.1
      rw[qg] at this
      cases ops[i].dst with
      | none=>exact this
      | some d=>simpa[Act.put] using this
     ·rw[qg] at ht
      have hput:=Jg hRE ops[i].dst hr2
      have h1:=hput.2 t (by rw[Yq,qg];exact ht)
      rw[VG (by rw[qg];exact ht)] at h1
      have e:(Yh ops (listed.setIfInBounds i true) env (F ops.size)).getD t .any=if ops[i].dst=some t then X i else (Yh ops listed env (F ops.size)).getD t .any:=by
       rw[QI ht,QI ht]
       obtain⟨gN1,gN2⟩:=fget ops.size (Nat.le_refl _) t ht
       by_cases c:ops[i].dst=some t
       ·rw[if_pos c,if_pos]
        ·exact gN1 i hi1 (by simp[qX,hp,c])
        ·unfold wr
         rw[List.any_eq_true]
         exact⟨i,by simpa using hi1,by rw[gl,if_pos rfl];simp[qX,hp,c]⟩
       ·rw[if_neg c]
        have e2:wr ops (listed.setIfInBounds i true) t=wr ops listed t:=by
         unfold wr
         apply Bool.eq_iff_iff.2
         rw[List.any_eq_true,List.any_eq_true]
         constructor
         ·rintro⟨j,hj1,hj2⟩
          simp only[Bool.and_eq_true] at hj2
          refine⟨j,hj1,?_⟩
          rw[gl] at hj2
          by_cases ej:j=i
          ·subst ej;exact absurd (by simpa[qX,hp] using hj2.2) c
          ·rw[if_neg ej] at hj2;simp[hj2.1,hj2.2]
         ·rintro⟨j,hj1,hj2⟩
          simp only[Bool.and_eq_true] at hj2
          refine⟨j,hj1,?_⟩
          rw[gl]
          split <;> simp[hj2.1,hj2.2]
        rw[e2]
      rw[e]
      exact h1
     ·rw[gl] at hk ⊢
      split
      ·rfl
      ·by_cases ek:k=i
       ·subst ek
        rw[hp] at hp';cases hp'
        exact hi3 _ hp e he hb
       ·rw[if_neg ek] at hk
        exact i6 k hk p hp' e he hb
    have hcount:((List.range ops.size).filter fun j => !(listed.setIfInBounds i true).getD j false).length=fuel:=by
     have h1:((List.range ops.size).filter fun j => !listed.getD j false)=(List.range ops.size).filter fun j => !listed.getD j false:=rfl
     have hperm:∀ l:List Nat,l.Nodup→i∈l→(l.filter fun j => !listed.getD j false).length=(l.filter fun j => !(listed.setIfInBounds i true).getD j false).length+1:=by
      intro l
      have gl:∀ k,(listed.setIfInBounds i true).getD k false=if k=i then true else listed.getD k false:=by
       intro k
       rw[Array.getD_eq_getD_getElem?,Array.getD_eq_getD_getElem?]
       by_cases e:i=k
       ·subst e;simp[show i<listed.size by omega]
       ·rw[Array.getElem?_setIfInBounds_ne e,if_neg (fun h=>e h.symm)]
      induction l with
      | nil=>intro _ h;cases h
      | cons x r ihr =>
       intro hnd hmem
       rw[List.nodup_cons] at hnd
       by_cases e:x=i
       ·subst e
        have hrest:(r.filter fun j => !listed.getD j false)=r.filter fun j => !(listed.setIfInBounds x true).getD j false:=by
         apply List.filter_congr
         intro j hj
         rw[gl,if_neg (by rintro rfl;exact hnd.1 hj)]
        rw[List.filter_cons,List.filter_cons,if_pos (by rw[hnl];rfl),if_neg (by rw[gl,if_pos rfl];decide),hrest]
        simp
       ·have hm:i∈r:=by
         cases hmem with
         | head=>exact absurd rfl e
         | tail _ h=>exact h
        have:=ihr hnd.2 hm
        simp only[List.filter_cons,gl x,if_neg e]
        split <;> simp only[List.length_cons,this]
     have:=hperm _ List.nodup_range (by simpa using hi1)
     omega
    have gl:∀ k,(listed.setIfInBounds i true).getD k false=if k=i then true else listed.getD k false:=by
     intro k
     rw[Array.getD_eq_getD_getElem?,Array.getD_eq_getD_getElem?]
     by_cases e:i=k
     ·subst e;simp[show i<listed.size by omega]
     ·rw[Array.getElem?_setIfInBounds_ne e,if_neg (fun h=>e h.symm)]
    have hlook:=hagree
    unfold wpOp
    rw[hp]
    simp only
    by_cases hk:ks.contains i=true
    ·-- one that turns the objects
     have hki:i∈ks:=by simpa using hk
     rw[if_pos hk] at hfact
     have hnx:VU ks listed ops.size=i:=uO ops.size i6 hi3 hnl hks hki
     have hnx2:G (VU ks (listed.setIfInBounds i true) ops.size)=G (i+1):=by
      have hns2:=E7 (listed:=listed.setIfInBounds i true) hks hkn'
      have hge:i+1≤VU ks (listed.setIfInBounds i true) ops.size:=by
       rcases hns2.2.2 with h | ⟨h1,h2⟩
       ·omega
       ·rw[gl] at h2
        by_cases e:VU ks (listed.setIfInBounds i true) ops.size=i
        ·rw[if_pos e] at h2;cases h2
        ·rw[if_neg e] at h2
         rcases Nat.lt_or_ge (VU ks (listed.setIfInBounds i true) ops.size) i with hlt | hge
         ·have:=hns.2.1 _ h1 (by omega)
          rw[h2] at this;cases this
         ·omega
      refine gsame _ _ hge hns2.1 fun k hkk hc=>?_
      have h1:=hns2.2.1 k hkk hc.2
      rw[gl,if_neg (by omega)] at h1
      have:∀ {l:List Nat},Va ops l=true→i∈l→k∈l→listed.getD i false=true:=by
       intro l
       induction l with
       | nil=>intro _ h;cases h
       | cons a r ihl =>
        intro ho hi' hk'
        by_cases ea:a=i
        ·subst ea
         have hkr:k∈r:=by
          cases hk' with
          | head=>omega
          | tail _ h=>exact h
         exact E4 i6 ho k hkr h1
        ·have hir:i∈r:=by
          cases hi' with
          | head=>exact absurd rfl ea
          | tail _ h=>exact h
         by_cases ek:a=k
         ·subst ek
          have:=Fv ho i hir
          omega
         ·have hkr:k∈r:=by
           cases hk' with
           | head=>exact absurd rfl ek
           | tail _ h=>exact h
          exact ihl (D6 ho) hir hkr
      have hcon:=this hks hki hkk
      rw[hnl] at hcon;cases hcon
     rw[hnx] at i1 i2 i5 hdone
     obtain⟨hgn,Q0,hq0,hwp⟩:=hfact σ' w' a' _ i1 i5 hlook (by rw[qg,flen i (by omega)])
     have hwt:Region.wanted ops[i] (yielded ops a'.tmps)=true:=by simp[Region.wanted,hgn]
     simp only[hwt,if_true]
     refine .inl (Qp ?_ (fun e a w h=>absurd h (hq0 e a w)) hwp)
     rintro a2 w2 ⟨v,σ2,rfl,hI2,hX2,hr2⟩
     exact ih _ _ _ hcount (hdone v σ2 w2 _ hnx2.symm hI2 hX2 hr2)
    ·rw[if_neg hk] at hfact
     have hki:i ∉ ks:=by simpa using hk
     have hnx:VU ks (listed.setIfInBounds i true) ops.size=VU ks listed ops.size:=by
      unfold VU
      have:∀ l:List Nat,i ∉ l→(l.find? fun e => !(listed.setIfInBounds i true).getD e false)=l.find? fun e => !listed.getD e false:=by
       intro l
       induction l with
       | nil=>intro _;rfl
       | cons a r ihl =>
        intro hni
        have h1:a≠i:=fun e=>hni (by simp[e])
        rw[List.find?_cons,List.find?_cons,gl,if_neg h1,ihl (fun h=>hni (by simp[h]))]
      rw[this ks hki]
     have hst:nr ops ks i (VU ks listed ops.size)=true:=by
      unfold nr
      simp only[Bool.and_eq_true,List.all_eq_true,Bool.or_eq_true,Bool.not_eq_true',decide_eq_false_iff_not]
      refine⟨fun k hk=>?_,?_⟩
      ·by_cases c:k<VU ks listed ops.size
       ·right
        cases ha:Kz ops ops.size k i with
        | false=>rfl
        | true =>
         have:=Y3 i6 _ k i (i6 k (hns.2.1 k hk c)) ha
         rw[hnl] at this;cases this
       ·exact .inl c
      ·cases ha:Kz ops ops.size i (VU ks listed ops.size) with
       | false=>rfl
       | true =>
        have h1:=Y3 i6 _ i _ hi3 ha
        rcases hns.2.2 with h2 | ⟨_,h2⟩
        ·rw[h2] at h1
         simp[Array.getD,i4] at h1
        ·rw[h2] at h1;cases h1
     have hst2:VU ks listed ops.size=ops.size∨VU ks listed ops.size∈ks:=hns.2.2.imp (fun h=>h) fun h=>h.1
     obtain⟨hrun,hskip⟩:=hfact.2 _ hst2 hst σ' w' a' _ i1 i5 hlook (by rw[qg,flen i (by omega)])
     cases hwt:Region.wanted ops[i] (yielded ops a'.tmps) with
     | true =>
      simp only[if_true]
      obtain⟨Q0,hq0,hwp⟩:=hrun hwt
      refine .inl (Qp ?_ (fun e a w h=>absurd h (hq0 e a w)) hwp)
      rintro a2 w2 ⟨v,σ2,rfl,hI2,hX2,hr2⟩
      exact ih _ _ _ hcount (hdone v σ2 w2 _ (by rw[hnx]) hI2 hX2 hr2)
     | false =>
      simp only[Bool.false_eq_true,if_false]
      exact ih _ _ _ hcount (hdone undef σ' w' _ (by rw[hnx]) i1 (Ext.refl _ _ _) (hskip hwt))
 have hd0:Ext st σ w st σ { w with drawn:=w.drawn+1 }:=Ext.drew _
 have hg0:G (VU ks (Array.replicate ops.size false) ops.size)=st:=by
  cases hk:ks with
  | nil =>
   have e1:VU [] (Array.replicate ops.size false) ops.size=ops.size:=by simp[VU]
   rw[e1,←gg1]
   exact gsame 0 ops.size (Nat.zero_le _) (Nat.le_refl _) fun k hk'=>by rw[hk] at hk';cases hk'
  | cons e0 r =>
   have e1:VU (e0::r) (Array.replicate ops.size false) ops.size=e0:=by
    have:(Array.replicate ops.size false).getD e0 false=false:=by simp[Array.getD]
    simp only[VU,List.find?_cons,this,Bool.not_false];rfl
   rw[e1,←gg1]
   refine gsame 0 e0 (Nat.zero_le _) (Nat.le_of_lt (hkn' e0 (by rw[hk];simp))) fun k hk' hc=>?_
   rw[hk] at hk' hks
   cases hk' with
   | head=>omega
   | tail _ h=>have:=Fv hks k h;omega
 refine wp_region_any hm (key ops.size _ a _ ?_ ⟨σ,by rw[hg0];exact hI.drew _,by rw[hg0];exact hd0,hd,by simp,?_,fun i hi=>?_⟩)
 ·have:((List.range ops.size).filter fun j => !(Array.replicate ops.size false).getD j false)=List.range ops.size:=by
   apply List.filter_eq_self.2
   intro j hj
   simp[Array.getD]
  rw[this];simp
 ·have e:Yh ops (Array.replicate ops.size false) env (F ops.size)=env:=by
   apply List.ext_getElem?
   intro t
   by_cases ht:t<env.length
   ·have hw:wr ops (Array.replicate ops.size false) t=false:=by
     unfold wr
     rw[List.any_eq_false]
     intro j hj
     simp[Array.getD]
    simp[Yh,hw,ht]
   ·rw[List.getElem?_eq_none (by rw[qg];omega),List.getElem?_eq_none (by omega)]
  rw[e,hg0]
  exact hR.ext hd0
 ·simp[Array.getD] at hi
end Go.AL
namespace Go.AL
variable {P:Program}
end Go.AL
namespace Go.AL
variable {P:Program}
def oa (x y:SV):Prop:=y = .any∨x=y∨norm x=y
def YJ:List SV→List SV→Prop
 | [],[]=>True
 | x::r,y::r'=>oa x y∧YJ r r'
 | _,_=>False
theorem fY {st:St} {σ:Sig} {w:World} {x y:SV} {v:Value} (h:oa x y) (r:Rep st σ w x v):Rep st σ w y v:=by
 rcases h with rfl | rfl | rfl
 ·exact .any _
 ·exact r
 ·exact r.norm
theorem Dr:∀ (a b:List SV),YJ a b→a.length=b.length∧∀ i,i<b.length→oa (a.getD i .any) (b.getD i .any)
 | [],[],_=>⟨rfl,fun i hi=>absurd hi (Nat.not_lt_zero _)⟩
 | x::r,y::r',h=>by
  obtain⟨h1,h2⟩:=Dr r r' h.2
  refine⟨by simp[h1],fun i hi=>?_⟩
  cases i with
  | zero=>exact h.1
  | succ i=>exact h2 i (by simpa using hi)
theorem yF {st:St} {σ:Sig} {w:World} {a b:List SV} {t:Array Value} (h:YJ a b) (r:RepEnv st σ w a t):RepEnv st σ w b t:=by
 obtain⟨h1,h2⟩:=Dr a b h
 exact⟨by rw[←h1];exact r.1,fun i hi=>fY (h2 i hi) (r.2 i (by omega))⟩
theorem zj:YJ [] []:=trivial
theorem zk (x:SV) {r r':List SV} (h:YJ r r'):YJ (x::r) (.any::r'):=⟨.inl rfl,h⟩
theorem zg (x:SV) {r r':List SV} (h:YJ r r'):YJ (x::r) (x::r'):=⟨.inr (.inl rfl),h⟩
theorem zf (x:SV) {r r':List SV} (h:YJ r r'):YJ (x::r) (norm x::r'):=⟨.inr (.inr rfl),h⟩
theorem Wf {c:Code} {Q:Exit→List SV→St→Prop} {a b:List SV} {st:St} (hl:YJ a b) (h:AWp P c Q b st):AWp P c Q a st :=
 fun σ w t hI hR {_} hd=>h σ w t hI (yF hl hR) hd
def FB (P:Program) (rs:List ResultVar) (K:SV→St→Prop):Exit→List SV→St→Prop
 | .normal=>fun env st=>(YC P env st rs).isSome=true∧K (XQ ((YC P env st rs).getD [])) st
 | .ret=>fun env st=>(YC P env st rs).isSome=true∧K (XQ ((YC P env st rs).getD [])) st
 | _=>fun _ _=>False
def li:SV→Bool
 | .sc (.bool b)=>b
 | _=>false
def a8:SV→Prop
 | .sc (.bool b)=>True
 | _=>False
theorem xV {x:SV} (h:a8 x):x = .sc (.bool (li x)):=by
 unfold a8 at h
 split at h
 ·rfl
 ·exact h.elim
def Qo (P:Program) (M:List Nat):Code→(Exit→List SV→St→Prop)→List SV→St→Prop
 | .skip,Q,env,st=>Q .normal env st
 | .region _ ops false,Q,env,st=>Xv P M (ops.toList.map (·.dst)) ops.toList env st (Q .normal)
 | .seq a b,Q,env,st=>Qo P M a (Ux (Qo P M b Q) Q) env st
 | .cond c x y,Q,env,st=>a8 (ev env c)∧(li (ev env c)=true→Qo P M x Q env st)∧(li (ev env c)=false→Qo P M y Q env st)
 | .block id c,Q,env,st=>Qo P M c (W5 id Q) env st
 | .exit id,Q,env,st=>Q (.exit id) env st
 | .ret,Q,env,st=>Q .ret env st
 | .label _,Q,env,st=>Q .normal env st
 | c,Q,env,st=>AWp P c Q env st
theorem E0 {M:List Nat}:∀ {c:Code} {Q:Exit→List SV→St→Prop} {env:List SV} {st:St},Qo P M c Q env st→AWp P c Q env st:=by
 intro c
 induction c with
 | skip=>exact fun h=>hC h
 | region id ops draw =>
  intro Q env st h
  cases draw with
  | false=>exact Et M h
  | true=>exact h
 | seq a b iha ihb =>
  intro Q env st h
  refine dJ ((iha h).mono fun e env st he=>?_)
  cases e <;> first | exact ihb he | exact he
 | cond c x y ihx ihy =>
  intro Q env st h
  obtain⟨h1,h2,h3⟩:=h
  exact xJ (xV h1) (fun e=>ihx (h2 e)) (fun e=>ihy (h3 e))
 | block id c ih=>exact fun h=>xl (ih h)
 | exit id=>exact fun h=>pe h
 | ret=>exact fun h=>dT h
 | label l=>exact fun h=>yc h
 | _=>exact fun h=>h
theorem Qt {M:List Nat} {f:FuncId} {fn:Func} {c:Code} {rs:Array ResultVar} {n:Nat} {args:List SV} {K:SV→St→Prop} {st:St} (hf:P.funcs[f]?=some fn) (hb:fn.body=some c)
  (hr:fn.results=rs) (hn:fn.ntmps=n) (h:Qo P M c (FB P rs.toList K) (args++List.replicate (n-args.length) .any) st):ACalls P f args K st:=by
 subst hr;subst hn
 refine ya hf hb ((E0 h).mono fun e env st hq=>?_)
 cases e <;> simp only[FB] at hq <;> first | exact hq.elim | exact⟨trivial,_,qW (d:=[]) hq.1,hq.2⟩
def GM (st:St) (K:SV→St→Prop):SV→St→Prop:=fun x s=>(∃ ex,s=st++ex)∧Ids st.length (norm x)∧K (norm x) st
theorem zn (M:List Nat) {f:FuncId} {fn:Func} {c:Code} {rs:Array ResultVar} {n:Nat} {args:List SV} {K:SV→St→Prop} {st:St} (hf:P.funcs[f]?=some fn) (hb:fn.body=some c)
  (hr:fn.results=rs) (hn:fn.ntmps=n) (h:Qo P M c (FB P rs.toList (GM st K)) (args++List.replicate (n-args.length) .any) st) :
  ACalls P f args K st :=
 H7 ((Qt hf hb hr hn h).mono fun x s ⟨⟨ex,e⟩,h1,h2⟩=>⟨ex,e,h1,h2⟩)
theorem zN {c:Code} {Q:Exit→List SV→St→Prop} (M:List Nat) (I:Nat→List SV→St→Prop) {env env0:List SV} {st:St} {n:Nat} (hl:YJ env env0) (h0:I n env0 st)
  (round:∀ n env st,I n env st→Qo P M c (Ux (fun e s=>∃ m e',m<n∧YJ e e'∧I m e' s) Q) env st):AWp P (.loop c) Q env st:=by
 refine Wf hl (L6 (fun m e s=>∃ e',YJ e e'∧I m e' s) ⟨env0,?_,h0⟩ ?_)
 ·have key:∀ l:List SV,YJ l l:=by
   intro l
   induction l with
   | nil=>trivial
   | cons x r ih=>exact⟨.inr (.inl rfl),ih⟩
  exact key env0
 ·rintro m e s ⟨e',hle,hi⟩
  refine Wf hle ((E0 (round m e' s hi)).mono fun x env st hq=>?_)
  cases x <;> first | exact hq | (obtain⟨m',e2,h1,h2,h3⟩:=hq;exact⟨m',h1,e2,h2,h3⟩)
theorem ES {c:Code} {Q:Exit→List SV→St→Prop} {env:List SV} {st:St} (d z z':Nat) (he:env.getD d .any = .slice .full z' [])
  (h:AWp P c Q (env.set d (.slice (.own st.length 0) z [])) (st++[.tok 0])):AWp P c Q env st:=by
 intro σ w t hI hR D hd
 have hX:Ext st σ w (st++[.tok 0]) (σ.setMu st.length none) w:=Ext.newTok none
 have hI':=hI.newTok none (fun c hc=>by cases hc)
 have hr:=hR.get d
 rw[he] at hr
 have hr2:Rep (st++[.tok 0]) (σ.setMu st.length none) w (.slice (.own st.length 0) z []) (t.tmps.getD d undef):=by
  have h3:=(Xk (z':=z) hr (.inl rfl)).ext hX
  generalize t.tmps.getD d undef=v at h3
  generalize hl:([]:List SV)=l at h3
  generalize hx:SV.slice .full z l=x at h3
  cases h3 with
  | nil m z hm=>cases hx;exact .nil _ _ ⟨0,by simp,Nat.le_refl _⟩
  | slice m z l a cap vals hcap hsp hzz hc hr hm =>
   cases hx
   subst hl
   exact .slice _ _ _ _ _ vals hcap hsp hzz hc hr ⟨0,by simp,Nat.le_refl _,fun _ =>.inl hm⟩
  | _=>cases hx
 have hR':RepEnv (st++[.tok 0]) (σ.setMu st.length none) w (env.set d (.slice (.own st.length 0) z [])) t.tmps:=by
  have h4:=hR.ext hX
  refine⟨by simpa using h4.1,fun i hi=>?_⟩
  simp only[List.length_set] at hi
  by_cases e:d=i
  ·subst e;simpa[List.getD_eq_getElem?_getD,hi] using hr2
  ·have:=h4.2 i hi
   simpa[List.getD_eq_getElem?_getD,List.getElem?_set_ne e] using this
 exact wp_mono (h _ _ t hI' hR' hd) fun e a w hp=>hp.ext hX
theorem F' {f:FuncId} {args args':List SV} {K:SV→St→Prop} {st:St} (h:args=args'):ACalls P f args K st=ACalls P f args' K st:=by rw[h]
theorem yS {c:Code} {Q:Exit→List SV→St→Prop} {env env':List SV} {st st':St} (h:env=env') (h':st=st'):AWp P c Q env st=AWp P c Q env' st':=by rw[h,h']
attribute [congr] F' yS
theorem mn (a b:Bool):(bif a then true else b)=(a || b):=by cases a <;> rfl
theorem yf (a b:Bool):(bif a then b else false)=(a&&b):=by cases a <;> rfl
section eqs
variable {M:List Nat} {K:SV→St→Prop} {env env':List SV} {st st':St} {ds ds':List (Option Tmp)} {l l':List Oper} {N:List SV→St→Prop} {o:Oper} {kd kd':Kd} {g g':Bool}
theorem GW (h1:ds=ds') (h2:l=l') (h3:env=env') (h4:st=st'):Xv P M ds l env st N=Xv P M ds' l' env' st' N:=by rw[h1,h2,h3,h4]
theorem Fi (h3:env=env') (h4:st=st') (h5:kd=kd'):KQ P M o env st N kd=KQ P M o env' st' N kd':=by rw[h3,h4,h5]
theorem FF (h3:env=env') (h4:st=st') (h6:g=g') (h5:kd=kd'):KN P M o env st g N kd=KN P M o env' st' g' N kd':=by rw[h3,h4,h5,h6]
theorem GQ (h3:env=env') (h4:st=st'):qy P M o env st K=qy P M o env' st' K:=by rw[h3,h4]
theorem DP {N:List SV→Prop} (h1:ds=ds') (h2:l=l') (h3:env=env') (h4:st=st'):X2 P M ds l env st N=X2 P M ds' l' env' st' N:=by rw[h1,h2,h3,h4]
theorem FZ {N:SV→Prop} (h1:ds=ds') (h3:env=env') (h4:st=st'):ZH P M ds o env st N=ZH P M ds' o env' st' N:=by rw[h1,h3,h4]
theorem Lb {N:SV→Prop} (h3:env=env') (h4:st=st') (h5:kd=kd'):K0 P M o env st N kd=K0 P M o env' st' N kd':=by rw[h3,h4,h5]
theorem Fz {N:SV→Prop} (h3:env=env') (h4:st=st') (h6:g=g') (h5:kd=kd'):KP P M o env st g N kd=KP P M o env' st' g' N kd':=by rw[h3,h4,h5,h6]
theorem Ev {t:TypeId} {y y' x x':SV} {N:St→Prop} (h:st=st') (h1:y=y') (h2:x=x'):Ys P t st y x N=Ys P t st' y' x' N:=by rw[h,h1,h2]
theorem GH {t tx:TypeId} {y y' x x':SV} (h:st=st') (h1:x=x') (h2:y=y'):YN P t tx st x y K=YN P t tx st' x' y' K:=by rw[h,h1,h2]
theorem Ex {t tx:TypeId} {y y' x x':SV} (h:st=st') (h1:x=x') (h2:y=y'):JL P t tx st x y K=JL P t tx st' x' y' K:=by rw[h,h1,h2]
theorem E8 {t:TypeId} {y y' x x':SV} (h:st=st') (h1:x=x') (h2:y=y'):J6 P t st x y K=J6 P t st' x' y' K:=by rw[h,h1,h2]
theorem Dg {t:TypeId} {y y' x x':SV} (h:st=st') (h1:x=x') (h2:y=y'):Vw P t st x y K=Vw P t st' x' y' K:=by rw[h,h1,h2]
theorem ED {t:TypeId} {x x':SV} (h:st=st') (h1:x=x'):JN P t st x K=JN P t st' x' K:=by rw[h,h1]
attribute [congr] Ex E8 Dg ED
theorem Gk {a a':List SV} {x x':SV} (h:a=a') (h1:st=st') (h2:x=x'):VE P a st x K=VE P a' st' x' K:=by rw[h,h1,h2]
theorem HZ {mk ob:Bool} {a a':List Operand} {t t':List TypeId} {c c':Callee} (h3:env=env') (h4:st=st') (h:a=a') (h1:t=t') (h2:c=c'):Wl P o mk ob env st K a t c=Wl P o mk ob env' st' K a' t' c':=by rw[h,h1,h2,h3,h4]
theorem F2 {mk ob:Bool} {a a':List Operand} {t t':List TypeId} {c:Builtin} (h3:env=env') (h4:st=st') (h:a=a') (h1:t=t'):Fp P o mk ob env st K c a t=Fp P o mk ob env' st' K c a' t':=by rw[h,h1,h3,h4]
theorem wm {c:Code} {Q:Exit→List SV→St→Prop} (h3:env=env') (h4:st=st'):Qo P M c Q env st=Qo P M c Q env' st':=by rw[h3,h4]
attribute [congr] GW Fi FF GQ DP FZ Lb Fz Ev GH Gk HZ F2 wm
variable {t tx:TypeId} {k k':IntKind} {m n i:Int} {s s':ByteArray} {b b' c:Bool} {x y z:SV} {xs ys:List SV} {md md':Mode} {zz z1:Nat} {id off f j:Nat} {fn:Fn} {p:Prop} {v:Value}
@[go_sem] theorem lW {op:BinOp}:D8 P op t (.sc (.int k m)) (.sc (.int k' n))=(Z7 op k k'∧JS op n):=rfl
@[go_sem] theorem l8:Z7 .add k k'=(k=k'):=rfl
@[go_sem] theorem af:Z7 .sub k k'=(k=k'):=rfl
@[go_sem] theorem aL:Z7 .mul k k'=(k=k'):=rfl
@[go_sem] theorem lP:Z7 .quo k k'=(k=k'):=rfl
@[go_sem] theorem lX:Z7 .rem k k'=(k=k'):=rfl
@[go_sem] theorem eW:Z7 .eql k k'=(k=k'):=rfl
@[go_sem] theorem lm:Z7 .neq k k'=(k=k'):=rfl
@[go_sem] theorem aj:Z7 .lss k k'=(k=k'):=rfl
@[go_sem] theorem ae:Z7 .leq k k'=(k=k'):=rfl
@[go_sem] theorem aJ:Z7 .gtr k k'=(k=k'):=rfl
@[go_sem] theorem lI:Z7 .geq k k'=(k=k'):=rfl
@[go_sem] theorem aF:Z7 .and k k'=(k=k'):=rfl
@[go_sem] theorem ri:Z7 .or k k'=(k=k'):=rfl
@[go_sem] theorem lr:Z7 .xor k k'=(k=k'):=rfl
@[go_sem] theorem dE:Z7 .andNot k k'=(k=k'):=rfl
@[go_sem] theorem l7:Z7 .shl k k'=True:=rfl
@[go_sem] theorem aE:Z7 .shr k k'=True:=rfl
@[go_sem] theorem aq {op:BinOp}:D8 P op t (.sc (.string s)) (.sc (.string s'))=WX op s s':=rfl
@[go_sem] theorem rp:GV .eql=True:=rfl
@[go_sem] theorem aN:GV .neq=True:=rfl
@[go_sem] theorem lg:Wp .eql b=b:=rfl
@[go_sem] theorem aC:Wp .neq b = !b:=rfl
@[go_sem] theorem eE {op:BinOp}:D8 P op t (.sc (.bool b)) (.sc (.bool b'))=(GV op∧P.underlying t=some .bool):=rfl
@[go_sem] theorem aG {op:BinOp} {l r:List SV}:D8 P op t (.agg l) (.agg r)=(GV op∧Fq P t l r):=rfl
@[go_sem] theorem rz {op:BinOp} {l r:List SV}:GL op (.agg l) (.agg r) = .sc (.bool (Wp op (H8 l r))):=rfl
@[go_sem] theorem rE {op:BinOp}:GL op (.sc (.int k m)) (.sc (.int k' n)) = .sc (JA op k m n):=rfl
@[go_sem] theorem rg {op:BinOp}:GL op (.sc (.string s)) (.sc (.string s')) = .sc (UL op s s'):=rfl
@[go_sem] theorem lD {op:BinOp}:GL op (.sc (.bool b)) (.sc (.bool b')) = .sc (.bool (Wp op (b==b'))):=rfl
@[go_sem] theorem aD {op:UnOp}:pY op (.sc (.bool b))=(op = .not):=rfl
@[go_sem] theorem rC {op:UnOp}:pY op (.sc (.int k m))=(op = .neg):=rfl
@[go_sem] theorem rm {op:UnOp}:lj op (.sc (.bool b)) = .sc (.bool (!b)):=rfl
@[go_sem] theorem iD {op:UnOp}:lj op (.sc (.int k m)) = .sc (.int k (k.wrap (0-m))):=rfl
@[go_sem] theorem oK:HI P t st (.ref xs)=((Zc P t xs).isSome=true):=rfl
@[go_sem] theorem oF:HI P t st (.ptr id off)=(ZC st id∧(Zc P t ((qM st id).drop off)).isSome=true):=rfl
@[go_sem] theorem eM:Ea P t st (.ref xs)=(Zc P t xs).getD .any:=rfl
@[go_sem] theorem eV:Ea P t st (.ptr id off)=(Zc P t ((qM st id).drop off)).getD .any:=rfl
@[go_sem] theorem td:Kl P t st f (.ref xs)=((qk P t f).isSome=true∧((qk P t f).getD (0,0)).2≠0):=rfl
@[go_sem] theorem bO:Kl P t st f (.ptr id off)=((qk P t f).isSome=true∧((qk P t f).getD (0,0)).2≠0):=rfl
@[go_sem] theorem o9:WA P t f (.ref xs) = .ref ((xs.drop ((qk P t f).getD (0,0)).1).take ((qk P t f).getD (0,0)).2):=rfl
@[go_sem] theorem tU:WA P t f (.ptr id off) = .ptr id (off+((qk P t f).getD (0,0)).1):=rfl
@[go_sem] theorem tu:Ds P t st (.slice md zz xs) (.sc (.int k i))=((zY P t).bind (qd P)=some zz∧0≤i∧i<xs.length):=rfl
@[go_sem] theorem fh:GT P t st (.slice md zz xs) (.sc (.int k i)) = .ref (xs.getD i.toNat .any).cells:=rfl
@[go_sem] theorem tq:Ek P t st (.slice md zz xs)=((zY P t).isSome=true):=rfl
@[go_sem] theorem lJ:Ek P t st (.sc (.string s))=(P.underlying t=some .string):=rfl
@[go_sem] theorem oB:Ey st (.slice md zz xs) = .sc (.int .i64 xs.length):=rfl
@[go_sem] theorem si:Ey st (.sc (.string s)) = .sc (.int .i64 s.size):=rfl
@[go_sem] theorem bR:vA j (.tuple xs)=(j<xs.length):=rfl
@[go_sem] theorem fj:nQ j (.tuple xs)=xs.getD j .any:=rfl
@[go_sem] theorem bP {ρ:Operand→SV} {lo hi mx:Option Operand}:WR P t st ρ lo hi mx (.slice md zz xs)=(((zY P t).bind (qd P)=some zz∨(xs=[]∧(md = .full∨md = .imm)∧((zY P t).bind (qd P)).isSome=true))∧(qG ρ lo 0).isSome=true∧(qG ρ hi xs.length).isSome=true ∧
  0≤Zr ρ lo 0∧Zr ρ lo 0≤Zr ρ hi xs.length∧Zr ρ hi xs.length≤xs.length∧(mx.isSome=true→hi.isSome=true∧qG ρ mx 0=qG ρ hi xs.length)):=rfl
@[go_sem] theorem fS {ρ:Operand→SV} {lo hi mx:Option Operand}:UA P t ρ lo hi mx (.slice md zz xs) = .slice (if mx.isSome then .full else .imm) zz ((xs.take (Zr ρ hi xs.length).toNat).drop (Zr ρ lo 0).toNat):=rfl
@[go_sem] theorem lu {ρ:Operand→SV} {lo hi mx:Option Operand}:WR P t st ρ lo hi mx (.sc (.string s))=(mx=none∧P.underlying t=some .string∧(qG ρ lo 0).isSome=true∧(qG ρ hi s.size).isSome=true ∧
  0≤Zr ρ lo 0∧Zr ρ lo 0≤Zr ρ hi s.size∧Zr ρ hi s.size≤s.size):=rfl
@[go_sem] theorem aM {ρ:Operand→SV} {lo hi mx:Option Operand}:UA P t ρ lo hi mx (.sc (.string s)) = .sc (.string (s.extract (Zr ρ lo 0).toNat (Zr ρ hi s.size).toNat)):=rfl
@[go_sem] theorem eo {ρ:Operand→SV} {d:Nat}:qG ρ none d=some (d:Int):=rfl
def vY:SV→Option Int | .sc (.int _ n)=>some n | _=>none
@[go_sem] theorem t7 {ρ:Operand→SV} {d:Nat} {q:Operand}:qG ρ (some q) d=vY (ρ q):=by
 simp only[qG]
 generalize ρ q=x
 cases x with
 | sc v=>cases v <;> rfl
 | _=>rfl
@[go_sem] theorem aY:vY (.sc (.int k n))=some n:=rfl
@[go_sem] theorem sj {ρ:Operand→SV} {q:Option Operand} {d:Nat}:Zr ρ q d=(qG ρ q d).getD 0:=rfl
@[go_sem] theorem aU:J5 (.sc (.bool b))=True:=rfl
@[go_sem] theorem sd:J5 (.gd g (.sc (.bool b)))=True:=rfl
attribute [go_sem] ma mY
@[go_sem] theorem AH:Ub c (.sc (.bool b))=(b==c):=rfl
@[go_sem] theorem AZ:Ub c (.gd g (.sc (.bool b)))=(g&&(b==c)):=rfl
@[go_sem] theorem Av:HO p (.gd g x)=(p→g=true):=rfl
@[go_sem] theorem AJ:HO p (.sc v)=True:=rfl
@[go_sem] theorem eJ:HO p (.slice md zz xs)=True:=rfl
@[go_sem] theorem iQ:HO p (.ref xs)=True:=rfl
@[go_sem] theorem iv:HO p (.ptr id off)=True:=rfl
@[go_sem] theorem Ap:HO p (.agg xs)=True:=rfl
@[go_sem] theorem rM:HO p (.func fn xs ys)=True:=rfl
@[go_sem] theorem ak:HO p (.tuple xs)=True:=rfl
@[go_sem] theorem sl:ZE (.gd g x)=x:=rfl
@[go_sem] theorem sQ:ZE (.sc v) = .sc v:=rfl
@[go_sem] theorem bS:ZE (.slice md zz xs) = .slice md zz xs:=rfl
@[go_sem] theorem lv:ZE (.ref xs) = .ref xs:=rfl
@[go_sem] theorem ab:ZE (.ptr id off) = .ptr id off:=rfl
@[go_sem] theorem ap:ZE (.agg xs) = .agg xs:=rfl
@[go_sem] theorem fx:ZE (.func fn xs ys) = .func fn xs ys:=rfl
@[go_sem] theorem bQ:ZE (.tuple xs) = .tuple xs:=rfl
@[go_sem] theorem aO:YV (.sc (.bool b)) x y=(HO (b=true) x∧HO (b=false) y):=rfl
@[go_sem] theorem iP:Wu (.sc (.bool b)) x y=UV b (ZE x) (ZE y):=rfl
@[go_sem] theorem Aa:UV c (.sc (.bool b)) (.sc (.bool b')) = .sc (.bool (bif c then b else b')):=rfl
@[go_sem] theorem A5:a8 (.sc (.bool b))=True:=rfl
@[go_sem] theorem A6:li (.sc (.bool b))=b:=rfl
@[go_sem] theorem eR:(SV.agg xs).cells=xs:=rfl
@[go_sem] theorem rF:(SV.sc v).cells=[.sc v]:=rfl
@[go_sem] theorem tJ:(SV.slice md zz xs).cells=[.slice md zz xs]:=rfl
@[go_sem] theorem eT:(SV.ref xs).cells=[.ref xs]:=rfl
@[go_sem] theorem lz:(SV.ptr id off).cells=[.ptr id off]:=rfl
@[go_sem] theorem fO:(SV.func fn xs ys).cells=[.func fn xs ys]:=rfl
@[go_sem] theorem lV:qP (.agg xs)=true:=rfl
@[go_sem] theorem bL:qP (.slice md zz xs)=true:=rfl
@[go_sem] theorem lp:qP (.ref xs)=true:=rfl
@[go_sem] theorem lq:qP (.ptr id off)=true:=rfl
@[go_sem] theorem fe:qP (.func fn xs ys)=true:=rfl
@[go_sem] theorem rP:qP (.sc v)=v.oneCell':=rfl
@[go_sem] theorem lZ:QC (.sc v)=v.oneCell':=rfl
@[go_sem] theorem dv:QC (.slice md zz xs)=true:=rfl
@[go_sem] theorem oi:QC (.ref xs)=true:=rfl
@[go_sem] theorem oO:QC (.ptr id off)=true:=rfl
@[go_sem] theorem tC:QC (.func fn xs ys)=true:=rfl
@[go_sem] theorem iN:(Value.int k n).oneCell'=true:=rfl
@[go_sem] theorem rZ:(Value.bool b).oneCell'=true:=rfl
@[go_sem] theorem Ak:(Value.string s).oneCell'=true:=rfl
@[go_sem] theorem iw {a:Option Addr}:(Value.pointer a).oneCell'=true:=rfl
@[go_sem] theorem tO:ZV x=x.cells.all QC:=rfl
@[go_sem] theorem tG:norm1 (.slice md zz xs) = .slice .imm zz xs:=rfl
@[go_sem] theorem sE:norm1 (.sc v) = .sc v:=rfl
@[go_sem] theorem lw:norm1 (.ref xs) = .ref xs:=rfl
@[go_sem] theorem ar:norm1 (.ptr id off) = .ptr id off:=rfl
@[go_sem] theorem tW:norm1 (.func fn xs ys) = .func fn xs ys:=rfl
@[go_sem] theorem lf:norm1 (.agg xs) = .agg xs:=rfl
@[go_sem] theorem sg:norm (.agg xs) = .agg (xs.map norm1):=rfl
@[go_sem] theorem KO:norm (.tuple xs) = .tuple (xs.map norm1):=rfl
@[go_sem] theorem tT:norm (.slice md zz xs) = .slice .imm zz xs:=rfl
@[go_sem] theorem Ad:norm (.sc v) = .sc v:=rfl
@[go_sem] theorem aQ:norm (.ref xs) = .ref xs:=rfl
@[go_sem] theorem ie:norm (.ptr id off) = .ptr id off:=rfl
@[go_sem] theorem am:norm (.func fn xs ys) = .func fn xs ys:=rfl
variable {len cap id' off' len' cap' z0:Nat}
@[go_sem] theorem aw:Ds P t st (.slc id zz off len cap) (.sc (.int k i))=((zY P t).bind (qd P)=some zz∧0≤i∧i<len):=rfl
@[go_sem] theorem rO:GT P t st (.slc id zz off len cap) (.sc (.int k i)) = .ptr id (off+i.toNat*zz):=rfl
@[go_sem] theorem al:Ek P t st (.slc id zz off len cap)=((zY P t).isSome=true):=rfl
@[go_sem] theorem se:Ey st (.slc id zz off len cap) = .sc (.int .i64 len):=rfl
@[go_sem] theorem lB {ρ:Operand→SV} {lo hi mx:Option Operand}:WR P t st ρ lo hi mx (.slc id zz off len cap)=(mx=none∧(zY P t).bind (qd P)=some zz∧(qG ρ lo 0).isSome=true∧(qG ρ hi len).isSome=true ∧
  0≤Zr ρ lo 0∧Zr ρ lo 0≤Zr ρ hi len∧Zr ρ hi len≤cap):=rfl
@[go_sem] theorem sw {ρ:Operand→SV} {lo hi mx:Option Operand}:UA P t ρ lo hi mx (.slc id zz off len cap) = .slc id zz (if cap=(Zr ρ lo 0).toNat then off else off+(Zr ρ lo 0).toNat*zz) ((Zr ρ hi len).toNat-(Zr ρ lo 0).toNat) (cap-(Zr ρ lo 0).toNat):=rfl
@[go_sem] theorem i7:HO p (.slc id zz off len cap)=True:=rfl
@[go_sem] theorem eQ:ZE (.slc id zz off len cap) = .slc id zz off len cap:=rfl
@[go_sem] theorem lA:(SV.slc id zz off len cap).cells=[.slc id zz off len cap]:=rfl
@[go_sem] theorem lG:qP (.slc id zz off len cap)=true:=rfl
@[go_sem] theorem ov:QC (.slc id zz off len cap)=true:=rfl
@[go_sem] theorem r8:norm (.slc id zz off len cap) = .slc id zz off len cap:=rfl
@[go_sem] theorem eP:norm1 (.slc id zz off len cap) = .slc id zz off len cap:=rfl
@[go_sem] theorem ow:J6 P t st (.slc id zz off len cap) (.slice md z1 ys) K=(zz=z1∧ZC st id∧(zY P t).bind (qd P)=some zz∧off+(min ys.length len)*zz≤(qM st id).length∧(∀ s∈ys,ZV s=true) ∧
   K (.sc (.int .i64 (min ys.length len:Nat))) (st.set id (.cells (ZP (qM st id) off ((ys.take (min ys.length len)).flatMap SV.cells))))):=rfl
@[go_sem] theorem rr:J6 P t st (.slc id zz off len cap) (.slc id' z1 off' len' cap') K=(zz=z1∧ZC st id∧ZC st id'∧(zY P t).bind (qd P)=some zz∧off+(min len' len)*zz≤(qM st id).length ∧
   off'+(min len' len)*zz≤(qM st id').length∧(((qM st id').drop off').take ((min len' len)*zz)).all QC=true ∧
   K (.sc (.int .i64 (min len' len:Nat))) (st.set id (.cells (ZP (qM st id) off (((qM st id').drop off').take ((min len' len)*zz)))))):=rfl
@[go_sem] theorem lM:JN P t st (.slc id zz off len cap) K=(ZC st id∧(zY P t).isSome=true∧((zY P t).bind (Zj P)).isSome=true∧off+len*(Yc P t).length≤(qM st id).length∧(Yc P t).all QC=true ∧
   K .any (if len=0 then st else st.set id (.cells (ZP (qM st id) off (Yy (Yc P t) len))))):=rfl
@[go_sem] theorem sH:Vw P t st (.sc (.int k n)) (.sc (.int k' m)) K=(((zY P t).bind (qd P)).isSome=true∧((zY P t).bind (Zj P)).map List.length=(zY P t).bind (qd P)∧((zY P t).bind (QH P)).isSome=true ∧
   0≤n∧n≤m∧m≤4611686018427387904∧m.toNat*((zY P t).bind (QH P)).getD 0≤281474976710656 ∧
   K (.slc st.length (((zY P t).bind (qd P)).getD 0) 0 n.toNat m.toNat) (st++[.cells (Yy (Yc P t) m.toNat)])):=rfl
@[go_sem] theorem A8:JL P t tx st (.slice .full z0 []) (.slice md zz ys) K=(ys≠[]∧AppOk P t tx zz ys.length∧∀ cap,ys.length≤cap→K (.slc st.length zz 0 ys.length cap) (st++[.cells (ys.flatMap SV.cells++Yy (Yc P t) (cap-ys.length))])):=rfl
@[go_sem] theorem sa:YN P t tx st (.slice .full z1 xs) (.slice md zz ys) K=((xs=[]∨z1=zz)∧AppOk P t tx zz (xs.length+ys.length)∧K (.slice (.own st.length 0) zz (xs++ys)) (st++[.tok 0])):=rfl
@[go_sem] theorem i9 {ver:Nat}:YN P t tx st (.slice (.own id ver) zz xs) (.slice md z1 ys) K=((ys=[]∨z1=zz)∧X4 st id ver∧AppOk P t tx zz (xs.length+ys.length) ∧
   (∀ s∈ys,ZV s=true)∧K (.slice (.own id (ver+1)) zz (xs++ys)) (st.set id (.tok (ver+1)))):=rfl
variable {ver n':Nat}
@[go_sem] theorem tA:HI P t st (.aptr id ver off)=(ZR st id ver∧(Zc P t ((Xa st id).drop off)).isSome=true):=rfl
@[go_sem] theorem oA:Ea P t st (.aptr id ver off)=(Zc P t ((Xa st id).drop off)).getD .any:=rfl
@[go_sem] theorem bp:Kl P t st f (.aptr id ver off)=(ZR st id ver∧(qk P t f).isSome=true∧((qk P t f).getD (0,0)).2≠0):=rfl
@[go_sem] theorem tt:WA P t f (.aptr id ver off) = .aptr id ver (off+((qk P t f).getD (0,0)).1):=rfl
@[go_sem] theorem ah:Ds P t st (.arr id ver n') (.sc (.int k i))=(ZR st id ver∧(zY P t).bind (qd P)=some (Qq st id)∧0≤i∧i<n'):=rfl
@[go_sem] theorem rq:GT P t st (.arr id ver n') (.sc (.int k i)) = .aptr id ver (i.toNat*Qq st id):=rfl
@[go_sem] theorem lc:Ek P t st (.arr id ver n')=(ZR st id ver∧(zY P t).isSome=true):=rfl
@[go_sem] theorem rN:Ey st (.arr id ver n') = .sc (.int .i64 n'):=rfl
@[go_sem] theorem lS {ρ:Operand→SV} {lo hi mx:Option Operand}:WR P t st ρ lo hi mx (.arr id ver n')=(mx=none∧ZR st id ver∧((zY P t).bind (qd P)).isSome=true∧qG ρ lo 0=some 0 ∧
  (qG ρ hi n').isSome=true∧0≤Zr ρ hi n'∧Zr ρ hi n'≤n'):=rfl
@[go_sem] theorem rD {ρ:Operand→SV} {lo hi mx:Option Operand}:UA P t ρ lo hi mx (.arr id ver n') = .arr id ver (Zr ρ hi n').toNat:=rfl
@[go_sem] theorem l3 {ρ:Operand→SV} {hi mx:Option Operand}:WR P t st ρ none hi mx (.ptr id off)=(mx=none∧hi=none∧(XL P t).isSome=true):=by simp[WR]
@[go_sem] theorem oy {ρ:Operand→SV} {hi mx:Option Operand} {y:Operand}:WR P t st ρ (some y) hi mx (.ptr id off)=(mx=none∧hi=none∧(XL P t).isSome=true∧(qG ρ (some y) 0).isSome=true∧0≤Zr ρ (some y) 0∧Zr ρ (some y) 0≤((XL P t).getD (0,0)).1):=by simp[WR]
@[go_sem] theorem eK {ρ:Operand→SV} {hi mx:Option Operand} {y:Operand}:UA P t ρ (some y) hi mx (.ptr id off) = .slc id ((XL P t).getD (0,0)).2 (if ((XL P t).getD (0,0)).1=(Zr ρ (some y) 0).toNat then off else off+(Zr ρ (some y) 0).toNat*((XL P t).getD (0,0)).2) (((XL P t).getD (0,0)).1-(Zr ρ (some y) 0).toNat) (((XL P t).getD (0,0)).1-(Zr ρ (some y) 0).toNat):=rfl
@[go_sem] theorem aV {ρ:Operand→SV} {hi mx:Option Operand}:UA P t ρ none hi mx (.ptr id off) = .slc id ((XL P t).getD (0,0)).2 off ((XL P t).getD (0,0)).1 ((XL P t).getD (0,0)).1:=rfl
@[go_sem] theorem An:HO p (.arr id ver n')=True:=rfl
@[go_sem] theorem re:HO p (.aptr id ver n')=True:=rfl
@[go_sem] theorem lO:ZE (.arr id ver n') = .arr id ver n':=rfl
@[go_sem] theorem ei:ZE (.aptr id ver n') = .aptr id ver n':=rfl
@[go_sem] theorem lY:(SV.arr id ver n').cells=[.arr id ver n']:=rfl
@[go_sem] theorem tM:(SV.aptr id ver n').cells=[.aptr id ver n']:=rfl
@[go_sem] theorem aB:qP (.arr id ver n')=true:=rfl
@[go_sem] theorem fE:qP (.aptr id ver n')=true:=rfl
@[go_sem] theorem oZ:QC (.arr id ver n')=true:=rfl
@[go_sem] theorem bM:QC (.aptr id ver n')=true:=rfl
@[go_sem] theorem rS:norm (.arr id ver n') = .arr id ver n':=rfl
@[go_sem] theorem aa:norm (.aptr id ver n') = .aptr id ver n':=rfl
@[go_sem] theorem ag:norm1 (.arr id ver n') = .arr id ver n':=rfl
@[go_sem] theorem fp:norm1 (.aptr id ver n') = .aptr id ver n':=rfl
@[go_sem] theorem Ab:YN P t tx st (.arr id ver n') (.slice md z1 ys) K=((ys=[]∨z1=Qq st id)∧ZR st id ver∧AppOk P t tx (Qq st id) (n'+ys.length) ∧
   (∀ s∈ys,ZV s=true)∧K (.arr id (ver+1) (n'+ys.length)) (st.set id (.arr (ver+1) (Qq st id) ((Xa st id).take (n'*Qq st id)++ys.flatMap SV.cells)))):=rfl
@[go_sem] theorem f9 {N:St→Prop}:Ys P t st y (.aptr id ver off) N=(ZR st id ver∧qd P t=some y.cells.length∧qP y=true∧ZV y=true∧off+y.cells.length≤(Xa st id).length ∧
   N (st.set id (.arr ver (Qq st id) (ZP (Xa st id) off y.cells)))):=rfl
@[go_sem] theorem bN:K4 st (.aptr id ver off)=ZR st id ver:=rfl
@[go_sem] theorem sk (x y:Operand) (ts:Array TypeId):qE (.call ⟨.builtin .max,#[x,y],ts⟩) = .pure:=rfl
@[go_sem] theorem Ay {ρ:Operand→SV} (x y:Operand) (ts:Array TypeId):q7 P st ρ (.call ⟨.builtin .max,#[x,y],ts⟩)=j8 (ρ x) (ρ y):=rfl
@[go_sem] theorem Aq {ρ:Operand→SV} (x y:Operand) (ts:Array TypeId):qF P st ρ (.call ⟨.builtin .max,#[x,y],ts⟩)=bj (ρ x) (ρ y):=rfl
@[go_sem] theorem lU {k':IntKind}:j8 (.sc (.int k m)) (.sc (.int k' n))=True:=rfl
@[go_sem] theorem r7 {k':IntKind}:bj (.sc (.int k m)) (.sc (.int k' n)) = .sc (.int k (if n > m then n else m)):=rfl
@[go_sem] theorem Ai:Yp P t tx st (.slice .full z0 []) (.slice md zz ys) K=(AppOk P t tx zz ys.length∧(∀ s∈ys,ZV s=true)∧K (.arr st.length 1 ys.length) (st++[.arr 1 zz (ys.flatMap SV.cells)])):=rfl
@[go_sem] theorem fg {id ver n':Nat}:Yp P t tx st (.slice .full z0 []) (.arr id ver n') K=(ZR st id ver∧(VJ (Qq st id) n' (Xa st id)).length=n'∧(VJ (Qq st id) n' (Xa st id)).flatMap SV.cells=(Xa st id).take (n'*Qq st id)∧(∀ x∈VJ (Qq st id) n' (Xa st id),x.cells.length=Qq st id∧ZV x=true)∧AppOk P t tx (Qq st id) n'∧K (.arr st.length 1 n') (st++[.arr 1 (Qq st id) ((Xa st id).take (n'*Qq st id))])):=rfl
@[go_sem] theorem AU:Yp P t tx st (.arr id ver n') (.slice md z1 ys) K=YN P t tx st (.arr id ver n') (.slice md z1 ys) K:=rfl
theorem Ez {x x' y y':SV} (h:st=st') (h1:x=x') (h2:y=y'):Yp P t tx st x y K=Yp P t tx st' x' y' K:=by rw[h,h1,h2]
attribute [congr] Ez
@[go_sem] theorem ld {N:St→Prop}:Ys P t st y (.ptr id off) N=(ZC st id∧qd P t=some y.cells.length∧qP y=true∧ZV y=true∧off+y.cells.length≤(qM st id).length ∧
   N (st.set id (.cells (ZP (qM st id) off y.cells)))):=rfl
@[go_sem] theorem rK (l:List SV):qM (st++[.cells l]) st.length=l:=by simp[qM]
@[go_sem] theorem zq:ev env (.tmp j)=env.getD j .any:=rfl
@[go_sem] theorem iF:ev env (.func j) = .func (.func j) [] []:=rfl
@[go_sem] theorem AR:ev env (.const (.int k n)) = .sc (.int k n):=rfl
@[go_sem] theorem AF (vs:Array Value):ev env (.const (.agg vs)) = .agg (vs.toList.map KD):=rfl
@[go_sem] theorem lK:KD (.int k n) = .sc (.int k n):=rfl
@[go_sem] theorem oz:KD (.bool b) = .sc (.bool b):=rfl
@[go_sem] theorem eS:KD (.string s) = .sc (.string s):=rfl
@[go_sem] theorem ao:KD (.slice none 0 0) = .slice .full 0 []:=rfl
@[go_sem] theorem lh:KD (.pointer none) = .sc (.pointer none):=rfl
@[go_sem] theorem iJ:ev env (.const (.bool b)) = .sc (.bool b):=rfl
@[go_sem] theorem AY:ev env (.const (.string s)) = .sc (.string s):=rfl
@[go_sem] theorem tD:ev env (.const (.slice none 0 0)) = .slice .full 0 []:=rfl
@[go_sem] theorem lQ:ev env (.const (.pointer none)) = .sc (.pointer none):=rfl
def Ua (P:Program) (T:TypeId) (st:St):SV→Option SV
 | .ptr id off=>match st[id]? with
  | some (.cells l)=>Zc P T (l.drop off)
  | _=>none
 | .ref l=>Zc P T l
 | _=>none
@[go_sem] theorem sW {q:Nat}:DX P env st (.cell q t)=Ua P t st (env.getD q .any):=by
 simp only[DX,Ua]
 cases env.getD q .any <;> rfl
theorem nc (ho:ZC st id):Ua P t st (.ptr id off)=Zc P t ((qM st id).drop off):=by simp only[Ua,W3 ho]
attribute [go_sem] nc
@[go_sem] theorem iy:Ua P t st (.ref xs)=Zc P t xs:=rfl
@[go_sem] theorem ix:XQ [x]=x:=rfl
@[go_sem] theorem aW:XQ (x::y::xs) = .tuple (x::y::xs):=rfl
@[go_sem] theorem Aj:DX P env st (.tmp j)=some (env.getD j .any):=rfl
end eqs
section eqs2
variable {M:List Nat} {K:SV→St→Prop} {env:List SV} {st:St} {ds:List (Option Tmp)} {N:List SV→St→Prop} {d:Option Tmp} {op:Op} {ty:TypeId} {pos:String} {aft:Array Edge} {gu:Option (Nat×Bool)} {g want:Bool} {r:List Oper} {ρ:Operand→SV} {t:TypeId} {j f:Nat} {fn:Fn} {Q:Exit→List SV→St→Prop}
@[go_sem] theorem eG (x:Operand):qE (.move x) = .pure:=rfl
@[go_sem] theorem iu (x:Operand):q7 P st ρ (.move x)=(True):=rfl
@[go_sem] theorem ig (x:Operand):qF P st ρ (.move x)=ρ x:=rfl
@[go_sem] theorem tj (x:Operand):qE (.assign x) = .pure:=rfl
@[go_sem] theorem aA (x:Operand):q7 P st ρ (.assign x)=(True):=rfl
@[go_sem] theorem oU (x:Operand):qF P st ρ (.assign x)=ρ x:=rfl
@[go_sem] theorem bn (x:Operand):qE (.extract x j) = .pure:=rfl
@[go_sem] theorem oo (x:Operand):q7 P st ρ (.extract x j)=(vA j (ρ x)):=rfl
@[go_sem] theorem tB (x:Operand):qF P st ρ (.extract x j)=nQ j (ρ x):=rfl
@[go_sem] theorem fk {op:BinOp} {u:TypeId} (x y:Operand):qE (.binOp op t x y u) = .pure:=rfl
@[go_sem] theorem rT {op:BinOp} {u:TypeId} (x y:Operand):q7 P st ρ (.binOp op t x y u)=(if Xe y then Qz P op t y (ρ x) else D8 P op t (ρ x) (ρ y)):=rfl
@[go_sem] theorem eX {op:BinOp} {u:TypeId} (x y:Operand):qF P st ρ (.binOp op t x y u)=(if Xe y then WM op (ρ x) else GL op (ρ x) (ρ y)):=rfl
@[go_sem] theorem lR {op:UnOp} (x:Operand):qE (.unOp op t x) = .pure:=rfl
@[go_sem] theorem Af {op:UnOp} (x:Operand):q7 P st ρ (.unOp op t x)=(pY op (ρ x)):=rfl
@[go_sem] theorem sG {op:UnOp} (x:Operand):qF P st ρ (.unOp op t x)=lj op (ρ x):=rfl
@[go_sem] theorem cG (fi ca:Array Operand):qE (.makeFunc fn fi ca) = .pure:=rfl
@[go_sem] theorem bX (fi ca:Array Operand):q7 P st ρ (.makeFunc fn fi ca)=(True):=rfl
@[go_sem] theorem bG (fi ca:Array Operand):qF P st ρ (.makeFunc fn fi ca) = .func fn (fi.toList.map ρ) (ca.toList.map ρ):=rfl
@[go_sem] theorem cN (x:Operand):qE (.nilCheck x) = .pure:=rfl
@[go_sem] theorem tw (x:Operand):q7 P st ρ (.nilCheck x)=K4 st (ρ x):=rfl
@[go_sem] theorem nT (x:Operand):qF P st ρ (.nilCheck x)=ρ x:=rfl
@[go_sem] theorem fA {xs:List SV}:K4 st (.ref xs)=True:=rfl
@[go_sem] theorem eg {id off:Nat}:K4 st (.ptr id off)=True:=rfl
@[go_sem] theorem lL (x:Operand):qE (.load t x) = .pure:=rfl
@[go_sem] theorem iV (x:Operand):q7 P st ρ (.load t x)=(HI P t st (ρ x)):=rfl
@[go_sem] theorem ii (x:Operand):qF P st ρ (.load t x)=Ea P t st (ρ x):=rfl
@[go_sem] theorem mC (x:Operand):qE (.fieldAddr t x f) = .pure:=rfl
@[go_sem] theorem nn (x:Operand):q7 P st ρ (.fieldAddr t x f)=(Kl P t st f (ρ x)):=rfl
@[go_sem] theorem cw (x:Operand):qF P st ρ (.fieldAddr t x f)=WA P t f (ρ x):=rfl
@[go_sem] theorem oH (x:Operand):qE (.field t x f) = .pure:=rfl
@[go_sem] theorem sb (x:Operand):q7 P st ρ (.field t x f)=(Lm P t f (ρ x)):=rfl
@[go_sem] theorem eH (x:Operand):qF P st ρ (.field t x f)=mU P t f (ρ x):=rfl
@[go_sem] theorem mE (x y:Operand):qE (.indexAddr t x y) = .pure:=rfl
@[go_sem] theorem lT {id off:Nat} {k:IntKind} {i:Int}:Ds P t st (.ptr id off) (.sc (.int k i))=((XL P t).isSome=true∧0≤i∧i<((XL P t).getD (0,0)).1):=rfl
@[go_sem] theorem rh {id off:Nat} {k:IntKind} {i:Int}:GT P t st (.ptr id off) (.sc (.int k i)) = .ptr id (off+i.toNat*((XL P t).getD (0,0)).2):=rfl
@[go_sem] theorem oN (x y:Operand):qE (.index t x y) = .pure:=rfl
@[go_sem] theorem sy (x y:Operand):q7 P st ρ (.index t x y)=(pZ P t (ρ x) (ρ y)):=rfl
@[go_sem] theorem eI (x y:Operand):qF P st ρ (.index t x y)=lE (ρ x) (ρ y):=rfl
@[go_sem] theorem il {l:List SV} {k:IntKind} {i:Int}:pZ P t (.agg l) (.sc (.int k i))=((U2 P t).isSome=true∧0≤i∧i<(U2 P t).getD 0∧(U2 P t).getD 0≤l.length):=rfl
@[go_sem] theorem sM {s:ByteArray} {k:IntKind} {i:Int}:pZ P t (.sc (.string s)) (.sc (.int k i))=(P.underlying t=some .string∧0≤i∧i<s.size):=rfl
@[go_sem] theorem iZ {l:List SV} {k:IntKind} {i:Int}:lE (.agg l) (.sc (.int k i))=l.getD i.toNat .any:=rfl
@[go_sem] theorem iB {s:ByteArray} {k:IntKind} {i:Int}:lE (.sc (.string s)) (.sc (.int k i)) = .sc (.int .u8 ((s.get! i.toNat).toNat:Int)):=rfl
@[go_sem] theorem cT (x y:Operand):q7 P st ρ (.indexAddr t x y)=(Ds P t st (ρ x) (ρ y)):=rfl
@[go_sem] theorem cg (x y:Operand):qF P st ρ (.indexAddr t x y)=GT P t st (ρ x) (ρ y):=rfl
@[go_sem] theorem et (x:Operand) (lo hi mx:Option Operand):qE (.slice t x lo hi mx) = .pure:=rfl
@[go_sem] theorem sK (x:Operand) (lo hi mx:Option Operand):q7 P st ρ (.slice t x lo hi mx)=(WR P t st ρ lo hi mx (ρ x)):=rfl
@[go_sem] theorem ai (x:Operand) (lo hi mx:Option Operand):qF P st ρ (.slice t x lo hi mx)=UA P t ρ lo hi mx (ρ x):=rfl
@[go_sem] theorem lN (c x y:Operand):qE (.pick c x y) = .pick c x y:=rfl
@[go_sem] theorem oh:qE (.alloc t) = .eff:=rfl
@[go_sem] theorem rI (x:Operand):qE (.box t x) = .eff:=rfl
@[go_sem] theorem fC (p:Array (Nat×Operand)):qE (.build t p) = .eff:=rfl
@[go_sem] theorem xC (n:Nat) (p:Array (Nat×Operand)):qE (.buildSlice t n p) = .eff:=rfl
@[go_sem] theorem oj (x y:Operand):qE (.store t x y) = .eff:=rfl
@[go_sem] theorem eY (c:Operand) (a:Array Operand) (ts:Array TypeId):qE (.call ⟨.value c,a,ts⟩) = .eff:=rfl
@[go_sem] theorem tH (a:Array Operand) (ts:Array TypeId):qE (.call ⟨.builtin .append,a,ts⟩) = .eff:=rfl
@[go_sem] theorem aT (a:Array Operand) (ts:Array TypeId):qE (.call ⟨.builtin .len,a,ts⟩) = .pure:=rfl
@[go_sem] theorem AM (x:Operand) (t:TypeId):q7 P st ρ (.call ⟨.builtin .len,#[x],#[t]⟩)=Ek P t st (ρ x):=rfl
@[go_sem] theorem iY (x:Operand) (t:TypeId):qF P st ρ (.call ⟨.builtin .len,#[x],#[t]⟩)=Ey st (ρ x):=rfl
@[go_sem] theorem Ae:Xv P M ds [] env st N=N env st:=rfl
@[go_sem] theorem sP:Xv P M ds (⟨d,op,ty,pos,aft,none⟩::r) env st N=KQ P M ⟨d,op,ty,pos,aft,none⟩ env st (fun e s=>Xv P M ds r e s N) (qE op):=rfl
@[go_sem] theorem sf:Xv P M ds (⟨d,op,ty,pos,aft,some (j,want)⟩::r) env st N=(J5 (Vf ds j env)∧KN P M ⟨d,op,ty,pos,aft,some (j,want)⟩ env st (Ub want (Vf ds j env)) (fun e s=>Xv P M ds r e s N) (qE op)):=rfl
@[go_sem] theorem Ao:KQ P M ⟨d,op,ty,pos,aft,gu⟩ env st N .pure=(q7 P st (ev env) op∧N (ZL env d (qF P st (ev env) op)) st):=rfl
@[go_sem] theorem iK (c x y:Operand):KQ P M ⟨d,op,ty,pos,aft,gu⟩ env st N (.pick c x y)=(YV (ev env c) (ev env x) (ev env y)∧N (ZL env d (Wu (ev env c) (ev env x) (ev env y))) st):=rfl
@[go_sem] theorem AE:KQ P M ⟨d,op,ty,pos,aft,gu⟩ env st N .eff=qy P M ⟨d,op,ty,pos,aft,gu⟩ env st (fun x s=>N (ZL env d x) s):=rfl
@[go_sem] theorem iz:KN P M ⟨d,op,ty,pos,aft,gu⟩ env st g N .pure=(Ww (g=true) env op.operands.toList∧(g=true→q7 P st (fun y=>ZE (ev env y)) op)∧N (ZL env d (.gd g (qF P st (fun y=>ZE (ev env y)) op))) st):=rfl
@[go_sem] theorem iU (c x y:Operand):KN P M ⟨d,op,ty,pos,aft,gu⟩ env st g N (.pick c x y)=(HO (g=true) (ev env c)∧(g=true→YV (ZE (ev env c)) (ev env x) (ev env y))∧N (ZL env d (.gd g (Wu (ZE (ev env c)) (ev env x) (ev env y)))) st):=rfl
@[go_sem] theorem Ax:KN P M ⟨d,op,ty,pos,aft,gu⟩ env st g N .eff=(Ww (g=true) env op.operands.toList∧(g=true→qy P M ⟨d,op,ty,pos,aft,gu⟩ (YA (q9 op.operands.toList) 0 env) st fun x s=>N (ZL env d x) s)∧(g=false→N (ZL env d .any) st)):=rfl
@[go_sem] theorem At {D:List SV→Prop}:X2 P M ds [] env st D=D env:=rfl
@[go_sem] theorem iA {D:List SV→Prop}:X2 P M ds (⟨d,op,ty,pos,aft,gu⟩::r) env st D=ZH P M ds ⟨d,op,ty,pos,aft,gu⟩ env st (fun x=>X2 P M ds r (ZL env d x) st D):=rfl
@[go_sem] theorem iT {D:SV→Prop}:ZH P M ds ⟨d,op,ty,pos,aft,none⟩ env st D=K0 P M ⟨d,op,ty,pos,aft,none⟩ env st D (qE op):=rfl
@[go_sem] theorem iW {D:SV→Prop}:ZH P M ds ⟨d,op,ty,pos,aft,some (j,want)⟩ env st D=(J5 (Vf ds j env)∧KP P M ⟨d,op,ty,pos,aft,some (j,want)⟩ env st (Ub want (Vf ds j env)) D (qE op)):=rfl
@[go_sem] theorem Ah {D:SV→Prop}:K0 P M ⟨d,op,ty,pos,aft,gu⟩ env st D .pure=(q7 P st (ev env) op∧D (qF P st (ev env) op)):=rfl
@[go_sem] theorem iX {D:SV→Prop} (c x y:Operand):K0 P M ⟨d,op,ty,pos,aft,gu⟩ env st D (.pick c x y)=(YV (ev env c) (ev env x) (ev env y)∧D (Wu (ev env c) (ev env x) (ev env y))):=rfl
theorem zL {D:SV→Prop}:K0 P M ⟨d,op,ty,pos,aft,gu⟩ env st D .eff=∃ X,qy P M ⟨d,op,ty,pos,aft,gu⟩ (ZN (q9 op.operands.toList) 0 env) st (yx st X)∧D X:=rfl
@[go_sem] theorem iR {D:SV→Prop}:KP P M ⟨d,op,ty,pos,aft,gu⟩ env st g D .pure=(Ww (g=true) env op.operands.toList∧(g=true→q7 P st (fun y=>ZE (ev env y)) op)∧D (.gd g (qF P st (fun y=>ZE (ev env y)) op))):=rfl
@[go_sem] theorem iH {D:SV→Prop} (c x y:Operand):KP P M ⟨d,op,ty,pos,aft,gu⟩ env st g D (.pick c x y)=(HO (g=true) (ev env c)∧(g=true→YV (ZE (ev env c)) (ev env x) (ev env y))∧D (.gd g (Wu (ZE (ev env c)) (ev env x) (ev env y)))):=rfl
theorem xU {D:SV→Prop}:KP P M ⟨d,op,ty,pos,aft,gu⟩ env st g D .eff=(Ww (g=true) env op.operands.toList∧∃ X,(g=true→qy P M ⟨d,op,ty,pos,aft,gu⟩ (YA (q9 op.operands.toList) 0 (ZN (q9 op.operands.toList) 0 env)) st (yx st X))∧D (.gd g X)):=rfl
@[go_sem] theorem az (x y:Operand):qy P M ⟨d,.store t x y,ty,pos,aft,gu⟩ env st K=(d=none∧Ys P t st (ev env y) (ev env x) (K .any ·)):=rfl
@[go_sem] theorem Ac (x:Operand):qy P M ⟨d,.box t x,ty,pos,aft,gu⟩ env st K=(qP (ev env x)=true∧if M.contains (d.getD 0) then K (.ptr st.length 0) (st++[.cells (ev env x).cells]) else K (.ref (ev env x).cells) st):=rfl
@[go_sem] theorem ly:qy P M ⟨d,.alloc t,ty,pos,aft,gu⟩ env st K=((Zj P t).isSome=true∧K (.ptr st.length 0) (st++[.cells ((Zj P t).getD [])])):=rfl
@[go_sem] theorem au (ps:Array (Nat×Operand)):qy P M ⟨d,.build t ps,ty,pos,aft,gu⟩ env st K=(Qr P t=true∧(K7 P t (ps.toList.map fun p=>(p.1,ev env p.2))).isSome=true∧K (.agg ((K7 P t (ps.toList.map fun p=>(p.1,ev env p.2))).getD [])) st):=rfl
@[go_sem] theorem gB (n:Nat) (ps:Array (Nat×Operand)):qy P M ⟨d,.buildSlice t n ps,ty,pos,aft,gu⟩ env st K=(((zY P t).bind (qd P)).isSome=true∧((zY P t).bind (Zj P)).map List.length=(zY P t).bind (qd P)∧ps.toList.map (·.1)=List.range n ∧
   n*((zY P t).bind (qd P)).getD 0≤16777216∧(∀ p∈ps.toList,qP (ev env p.2)=true∧(ev env p.2).cells.length=((zY P t).bind (qd P)).getD 0) ∧
   if M.contains (d.getD 0+1000000) then K (.arr st.length 1 n) (st++[.arr 1 (((zY P t).bind (qd P)).getD 0) ((ps.toList.map fun p=>norm (ev env p.2)).flatMap SV.cells)]) else
    K (.slice .full (((zY P t).bind (qd P)).getD 0) (ps.toList.map fun p=>norm (ev env p.2))) st):=rfl
@[go_sem] theorem su (c:Operand) (a:Array Operand) (ts:Array TypeId):qy P M ⟨d,.call ⟨.value c,a,ts⟩,ty,pos,aft,gu⟩ env st K=VE P (a.toList.map (ev env)) st (ev env c) K:=rfl
@[go_sem] theorem fX (x y:Operand) (t tx:TypeId):qy P M ⟨d,.call ⟨.builtin .append,#[x,y],#[t,tx]⟩,ty,pos,aft,gu⟩ env st K=if M.contains (d.getD 0+1000000) then Yp P t tx st (ev env x) (ev env y) K else if M.contains (d.getD 0) then JL P t tx st (ev env x) (ev env y) K else YN P t tx st (ev env x) (ev env y) K:=rfl
@[go_sem] theorem rR (x y:Operand) (t tx:TypeId):qy P M ⟨d,.call ⟨.builtin .copy,#[x,y],#[t,tx]⟩,ty,pos,aft,gu⟩ env st K=J6 P t st (ev env x) (ev env y) K:=rfl
@[go_sem] theorem ls (x:Operand) (t:TypeId):qy P M ⟨d,.call ⟨.builtin .clear,#[x],#[t]⟩,ty,pos,aft,gu⟩ env st K=JN P t st (ev env x) K:=rfl
@[go_sem] theorem sn (x y:Operand):qy P M ⟨d,.makeSlice t x y,ty,pos,aft,gu⟩ env st K=Vw P t st (ev env x) (ev env y) K:=rfl
@[go_sem] theorem lF (x y:Operand):qE (.makeSlice t x y) = .eff:=rfl
@[go_sem] theorem eU (a:Array Operand) (ts:Array TypeId):qE (.call ⟨.builtin .copy,a,ts⟩) = .eff:=rfl
@[go_sem] theorem oe (a:Array Operand) (ts:Array TypeId):qE (.call ⟨.builtin .clear,a,ts⟩) = .eff:=rfl
@[go_sem] theorem AV:Qo P M .skip Q env st=Q .normal env st:=rfl
@[go_sem] theorem ss (id:Nat) (ops:Array Oper):Qo P M (.region id ops false) Q env st=Xv P M (ops.toList.map (·.dst)) ops.toList env st (Q .normal):=rfl
@[go_sem] theorem AC {ops:Array Oper} {ks el:List Nat} {R:St→Prop} {s0:St} {i:Nat}:mr P M ops ks el R s0 i [] env st N=N env st:=rfl
@[go_sem] theorem A4 (a b:Code):Qo P M (.seq a b) Q env st=Qo P M a (Ux (Qo P M b Q) Q) env st:=rfl
@[go_sem] theorem AG (c:Operand) (x y:Code):Qo P M (.cond c x y) Q env st=(a8 (ev env c)∧(li (ev env c)=true→Qo P M x Q env st)∧(li (ev env c)=false→Qo P M y Q env st)):=rfl
@[go_sem] theorem iL (id:Nat) (c:Code):Qo P M (.block id c) Q env st=Qo P M c (W5 id Q) env st:=rfl
@[go_sem] theorem AK (id:Nat):Qo P M (.exit id) Q env st=Q (.exit id) env st:=rfl
@[go_sem] theorem A0:Qo P M .ret Q env st=Q .ret env st:=rfl
@[go_sem] theorem Am (l:Nat):Qo P M (.label l) Q env st=Q .normal env st:=rfl
@[go_sem] theorem Ar {nx:List SV→St→Prop}:Ux nx Q .normal=nx:=rfl
@[go_sem] theorem AQ {nx:List SV→St→Prop}:Ux nx Q .ret=Q .ret:=rfl
@[go_sem] theorem Au {nx:List SV→St→Prop} (id:Nat):Ux nx Q (.exit id)=Q (.exit id):=rfl
@[go_sem] theorem iE (id:Nat):W5 id Q .normal=Q .normal:=rfl
@[go_sem] theorem i8 (id:Nat):W5 id Q .ret=Q .ret:=rfl
@[go_sem] theorem iC (id id':Nat):W5 id Q (.exit id')=fun e s=>if id'=id then Q .normal e s else Q (.exit id') e s:=rfl
@[go_sem] theorem A' (rs:List ResultVar):FB P rs K .normal=fun env st=>(YC P env st rs).isSome=true∧K (XQ ((YC P env st rs).getD [])) st:=rfl
@[go_sem] theorem A7 (rs:List ResultVar):FB P rs K .ret=fun env st=>(YC P env st rs).isSome=true∧K (XQ ((YC P env st rs).getD [])) st:=rfl
@[go_sem] theorem ze (n:Nat) (x:SV):ZL env (some n) x=env.set n x:=rfl
@[go_sem] theorem zc (x:SV):ZL env none x=env:=rfl
def Fu:Option Bool→Option Nat→List SV→Option SV
 | some true,some n,l=>if n≤l.length then some (.agg (l.take n)) else none
 | some false,_,l=>if 0<l.length then some (l.getD 0 .any) else none
 | _,_,_=>none
@[go_sem] theorem dZ {t:TypeId} {x:SV} {l:List SV}:Zc P t (x::l)=Fu (Jh P t) (qd P t) (x::l):=by
 unfold Zc Fu
 cases Jh P t with
 | none=>rfl
 | some b=>cases b <;> cases qd P t <;> rfl
@[go_sem] theorem fG {q:Option Nat} {x:SV} {l:List SV}:Fu (some false) q (x::l)=some x:=rfl
@[go_sem] theorem tK {n:Nat} {l:List SV}:Fu (some true) (some n) l=if n≤l.length then some (.agg (l.take n)) else none:=rfl
@[go_sem] theorem dw {α:Type} (l:List α) (f:α→SV):(l.map f).take l.length=l.map f:=List.take_of_length_le (by simp)
end eqs2
attribute [go_sem] YC Bool.and_true Bool.true_and Bool.and_self JS JA WX UL Vf Ww Op.operands Call.operands YA ZN q9 ZP G5 K7 E9 mn yf List.getD_cons_succ List.getD_cons_zero List.set_cons_succ List.set_cons_zero List.length_cons List.length_nil List.map_cons List.map_nil List.cons_append List.nil_append List.append_nil List.getElem?_cons_succ List.getElem?_cons_zero List.drop_zero List.drop_succ_cons List.take_succ_cons List.take_zero Option.getD_some Option.isSome_some Option.map_some Option.bind_some Option.isSome_none Option.isNone_none List.contains_nil List.contains_cons List.all_cons List.all_nil List.length_append List.length_map List.length_set List.length_replicate List.range_zero eq_self false_or true_or or_true or_false true_and and_true if_true if_false Bool.false_eq_true ne_eq not_false_eq_true Nat.zero_lt_succ List.replicate
theorem fP (st ex:St):(∃ e,st++ex=st++e)=True:=eq_true ⟨ex,rfl⟩
theorem YH (n:Nat) (v:Value):Ids n (.sc v)=True:=eq_true (.sc v)
theorem Z6 (n:Nat) (l:List SV):Ids n (.agg l)=∀ x∈l,Ids n x:=by
 apply propext
 constructor
 ·intro h x hx
  cases h with
  | agg l h =>
   obtain⟨i,hi⟩:=List.getElem?_of_mem hx
   have:=h i (zp hi)
   rwa[List.getD_eq_getElem?_getD,hi] at this
 ·intro h
  refine .agg l fun i hi=>?_
  rw[List.getD_eq_getElem?_getD,List.getElem?_eq_getElem hi]
  exact h _ (List.getElem_mem hi)
theorem ql {n:Nat} {m:Mode} {z:Nat} {l:List SV} (hm:m = .imm∨m = .full) (h:∀ x∈l,∀ y∈x.cells,Ids n y):Ids n (.slice m z l):=by
 refine .slice m z l (fun id ver e=>by rcases hm with rfl | rfl <;> cases e) fun i j hi hj=>?_
 have hx:l.getD i .any∈l:=by
  rw[List.getD_eq_getElem?_getD,List.getElem?_eq_getElem hi];exact List.getElem_mem hi
 by_cases hc:j<(l.getD i .any).cells.length
 ·have hy:(l.getD i .any).cells.getD j .any∈(l.getD i .any).cells:=by
   rw[List.getD_eq_getElem?_getD (l:=(l.getD i .any).cells),List.getElem?_eq_getElem hc];exact List.getElem_mem hc
  exact h _ hx _ hy
 ·rw[List.getD_eq_getElem?_getD (l:=(l.getD i .any).cells),List.getElem?_eq_none (Nat.not_lt.1 hc)];exact .any
theorem wH {α:Type} (p:α→Prop):(∀ x∈([]:List α),p x)=True:=eq_true (fun x hx=>by cases hx)
theorem Lt (s:St) (l:List Ob) (k:Nat):qM (s++l) (s.length+k)=qM l k:=by simp[qM,List.getElem?_append_right]
theorem DV (s:St) (l:List Ob) (k:Nat):ZC (s++l) (s.length+k)=ZC l k:=by simp[ZC,List.getElem?_append_right]
theorem jf (s:St) (l:List Ob) (k v:Nat):X4 (s++l) (s.length+k) v=X4 l k v:=by simp[X4,List.getElem?_append_right]
theorem jn (s:St) (l:List Ob) (k:Nat) (x:Ob):(s++l).set (s.length+k) x=s++l.set k x:=by simp
theorem gH (c:List SV) (l:List Ob):qM (.cells c::l) 0=c:=rfl
theorem gg (o:Ob) (l:List Ob) (k:Nat):qM (o::l) (k+1)=qM l k:=rfl
theorem wP (c:List SV) (l:List Ob):ZC (.cells c::l) 0=True:=rfl
theorem kk (o:Ob) (l:List Ob) (k:Nat):ZC (o::l) (k+1)=ZC l k:=rfl
theorem px (v v':Nat) (l:List Ob):X4 (.tok v::l) 0 v'=(v=v'):=by simp[X4]
theorem mV (o:Ob) (l:List Ob) (k v:Nat):X4 (o::l) (k+1) v=X4 l k v:=rfl
theorem kO (a:Bool):(a==false) = !a:=by cases a <;> rfl
theorem xi (a:Bool):(a==true)=a:=by cases a <;> rfl
theorem JW {t tx e ex:TypeId} {z n by':Nat} {zs:List SV} (he:zY P t=some e) (hx:zY P tx=some ex) (hz:qd P e=some z) (hzs:Zj P e=some zs) (hl:zs.length=z)
  (hb:QH P e=some by') (h1:by'≤100000) (h2:n≤1000000):AppOk P t tx z n :=
 ⟨by omega,e,ex,zs,by',he,hx,hz,hzs,hl,hb,by
  have:(2*n+192)*by'≤2000192*100000:=Nat.mul_le_mul (by omega) h1
  omega⟩
attribute [go_sem] Lt DV jf jn gH gg wP kk px mV List.append_assoc Nat.add_assoc Nat.zero_add
attribute [go_sem] fP YH Z6 kO xi List.forall_mem_cons wH Nat.one_ne_zero
@[go_sem] theorem cz {α:Type} (l:List α):((#[]:Array α)++l.toArray).toList=l:=by simp
@[go_sem] theorem dl (i:Nat):Xe (.tmp i)=false:=rfl
@[go_sem] theorem dW (k:IntKind) (i:Int):Xe (.const (.int k i))=false:=rfl
@[go_sem] theorem cP (s:ByteArray):Xe (.const (.string s))=false:=rfl
@[go_sem] theorem cL (b:Bool):Xe (.const (.bool b))=false:=rfl
@[go_sem] theorem pc:Xe (.const (.slice none 0 0))=true:=rfl
@[go_sem] theorem cH:Xe (.const .nilFunc)=true:=rfl
@[go_sem] theorem nf:Xe (.const (.pointer none))=true:=rfl
section
variable {P:Program} {t:TypeId} {m:Mode} {z id off len cap:Nat} {l:List SV}
@[go_sem] theorem gq:WM .eql (.slice m z l) = .sc (.bool false):=rfl
@[go_sem] theorem du:WM .eql (.slc id z off len cap) = .sc (.bool false):=rfl
@[go_sem] theorem dk:WM .eql (.ref l) = .sc (.bool false):=rfl
@[go_sem] theorem nD:WM .eql (.ptr id off) = .sc (.bool false):=rfl
@[go_sem] theorem dS:WM .eql (.sc (.pointer none)) = .sc (.bool true):=rfl
@[go_sem] theorem pf:WM .neq (.slice m z l) = .sc (.bool true):=rfl
@[go_sem] theorem dH:WM .neq (.slc id z off len cap) = .sc (.bool true):=rfl
@[go_sem] theorem dI:WM .neq (.ref l) = .sc (.bool true):=rfl
@[go_sem] theorem dq:WM .neq (.ptr id off) = .sc (.bool true):=rfl
@[go_sem] theorem dj:WM .neq (.sc (.pointer none)) = .sc (.bool false):=rfl
@[go_sem] theorem xE:Qz P .eql t (.const (.slice none 0 0)) (.slice m z l)=(l≠[]∧(zY P t).isSome=true):=by simp[Qz]
@[go_sem] theorem xF:Qz P .neq t (.const (.slice none 0 0)) (.slice m z l)=(l≠[]∧(zY P t).isSome=true):=by simp[Qz]
@[go_sem] theorem cD:Qz P .eql t (.const (.slice none 0 0)) (.slc id z off len cap)=((zY P t).isSome=true):=by simp[Qz]
@[go_sem] theorem cJ:Qz P .neq t (.const (.slice none 0 0)) (.slc id z off len cap)=((zY P t).isSome=true):=by simp[Qz]
@[go_sem] theorem ci:Qz P .eql t (.const (.pointer none)) (.ref l)=(J2 P t=true):=by simp[Qz]
@[go_sem] theorem cu:Qz P .neq t (.const (.pointer none)) (.ref l)=(J2 P t=true):=by simp[Qz]
@[go_sem] theorem cn:Qz P .eql t (.const (.pointer none)) (.ptr id off)=(J2 P t=true):=by simp[Qz]
@[go_sem] theorem cK:Qz P .neq t (.const (.pointer none)) (.ptr id off)=(J2 P t=true):=by simp[Qz]
@[go_sem] theorem cB {fn:Fn} {a b:List SV}:WM .neq (.func fn a b) = .sc (.bool true):=rfl
@[go_sem] theorem cq:WM .neq (.sc .nilFunc) = .sc (.bool false):=rfl
@[go_sem] theorem cI {fn:Fn} {a b:List SV}:WM .eql (.func fn a b) = .sc (.bool false):=rfl
@[go_sem] theorem cE:WM .eql (.sc .nilFunc) = .sc (.bool true):=rfl
@[go_sem] theorem pC {fn:Fn} {a b:List SV}:Qz P .neq t (.const .nilFunc) (.func fn a b)=(JC P t=true):=by simp[Qz]
@[go_sem] theorem mu:Qz P .neq t (.const .nilFunc) (.sc .nilFunc)=(JC P t=true):=by simp[Qz]
@[go_sem] theorem mX {fn:Fn} {a b:List SV}:Qz P .eql t (.const .nilFunc) (.func fn a b)=(JC P t=true):=by simp[Qz]
@[go_sem] theorem mJ:Qz P .eql t (.const .nilFunc) (.sc .nilFunc)=(JC P t=true):=by simp[Qz]
@[go_sem] theorem cA:Qz P .eql t (.const (.pointer none)) (.sc (.pointer none))=(J2 P t=true):=by simp[Qz]
@[go_sem] theorem cF:Qz P .neq t (.const (.pointer none)) (.sc (.pointer none))=(J2 P t=true):=by simp[Qz]
end
section
variable {P:Program} {t u:TypeId} {st:St} {ρ:Operand→SV}
@[go_sem] theorem eO (x:Operand):qE (.convert t u x) = .pure:=rfl
@[go_sem] theorem iI (x:Operand):q7 P st ρ (.convert t u x)=E5 P t st u (ρ x):=rfl
@[go_sem] theorem aP (x:Operand):qF P st ρ (.convert t u x)=Er P st u (ρ x):=rfl
@[go_sem] theorem sI (v:Value):E5 P t st u (.sc v)=YP P t u (.sc v):=rfl
@[go_sem] theorem bV (m:Mode) (z:Nat) (l:List SV):E5 P t st u (.slice m z l)=YP P t u (.slice m z l):=rfl
@[go_sem] theorem lH (id z off len cap:Nat):E5 P t st u (.slc id z off len cap)=(ZC st id∧off+len≤(qM st id).length∧(zY P t).bind (Wy P)=some .u8∧We P u=true∧(((qM st id).drop off).take len).all V3=true):=rfl
@[go_sem] theorem rG (v:Value):Er P st u (.sc v)=Jv P u (.sc v):=rfl
@[go_sem] theorem bK (m:Mode) (z:Nat) (l:List SV):Er P st u (.slice m z l)=Jv P u (.slice m z l):=rfl
@[go_sem] theorem eL (id z off len cap:Nat):Er P st u (.slc id z off len cap) = .sc (.string (XG (((qM st id).drop off).take len))):=rfl
@[go_sem] theorem Gx (k:IntKind) (n:Int) (h:(Wy P u).isSome=true):YP P t u (.sc (.int k n))=((Wy P t).isSome=true∧(Wy P u).isSome=true):=by simp only[YP,h,true_or]
theorem Yo {k':IntKind} (k:IntKind) (n:Int) (h:Wy P u=some k'):Jv P u (.sc (.int k n)) = .sc (.int k' (k'.wrap n)):=by simp[Jv,h]
end
end Go.AL
namespace Go.AL
open Go
variable {P:Program}
def SVle (x y:SV):Prop:=∀ (st:St) (σ:Sig) (w:World) (v:Value),Rep st σ w x v→Rep st σ w y v
theorem SVle.refl (x:SV):SVle x x:=fun _ _ _ _ h=>h
theorem SVle.any (x:SV):SVle x .any:=fun _ _ _ v _ =>.any v
theorem uZ {f:FuncId} {args:List SV} {K:SV→St→Prop} {st:St} (h:ACalls P f args (fun x s=>∃ y,SVle x y∧K y s) st):ACalls P f args K st:=by
 intro σ w vs hI hR
 refine (h σ w vs hI hR).mono ?_
 rintro e w' ⟨v,x,s,σ',he,⟨y,hle,hk⟩,hI',hr,hX⟩
 exact⟨v,y,s,σ',he,hk,hI',hle _ _ _ _ hr,hX⟩
theorem SVle.nil (m:Mode) (z z':Nat) (hm:m = .full∨m = .imm):SVle (.slice m z []) (.slice m z' []):=fun _ _ _ _ h=>Xk h hm
inductive SVles:List SV→List SV→Prop where
 | nil:SVles [] []
 | cons {x y:SV} {l r:List SV}:SVle x y→SVles l r→SVles (x::l) (y::r)
theorem SVles.len {l r:List SV} (h:SVles l r):l.length=r.length:=by
 induction h with
 | nil=>rfl
 | cons _ _ ih=>simp[ih]
theorem SVles.at {l r:List SV} (h:SVles l r):∀ i,SVle (l.getD i .any) (r.getD i .any):=by
 induction h with
 | nil=>intro i;exact SVle.refl _
 | cons h1 _ ih =>
  intro i
  cases i with
  | zero=>simpa using h1
  | succ i=>simpa using ih i
theorem SVle.agg {l r:List SV} (h:SVles l r):SVle (.agg l) (.agg r):=by
 intro st σ w v hv
 generalize hx:SV.agg l=x at hv
 cases hv with
 | agg l' vs h1 h2 =>
  cases hx
  exact .agg r vs (h1.trans h.len) fun i hi=>h.at i _ _ _ _ (h2 i (by rw[h.len];exact hi))
 | _=>cases hx
end Go.AL
namespace Go.AL
variable {P:Program}
theorem vO {env:List SV} {p:Prop} (hp:¬ p):∀ (l:List Operand),Ww p env l
 | []=>trivial
 | y::r=>⟨by cases hy:ev env y with
  | gd g x=>exact fun h=>absurd h hp
  | _=>trivial,vO hp r⟩
theorem vv (x y:SV):UV true x y=x:=by unfold UV;split <;> rfl
theorem Lw (x y:SV):UV false x y=y:=by unfold UV;split <;> rfl
theorem SVles.refl:∀ l:List SV,SVles l l
 | [] =>.nil
 | x::r =>.cons (SVle.refl x) (SVles.refl r)
theorem SVle.tuple {l r:List SV} (h:SVles l r):SVle (.tuple l) (.tuple r):=by
 intro st σ w v hv
 generalize hx:SV.tuple l=x at hv
 cases hv with
 | tuple l' vs h1 h2 =>
  cases hx
  exact .tuple r vs (h1.trans h.len) fun i hi=>h.at i _ _ _ _ (h2 i (by rw[h.len];exact hi))
 | _=>cases hx
end Go.AL
