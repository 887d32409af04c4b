/- The abstract layer, part 9: regions whose order is drawn: whatever the order, the same comes of them. -/
import Derived.Test.YtkokccjfpebomaaGreatDoorA2
import Derived.IntWalk
import Derived.Laws.Strings
set_option linter.all false
namespace Go.AL
theorem KL(i:Nat)(h:i<9223372036854775807:=by omega):IntKind.i64.wrap ((i:Int)+1)=((i+1:Nat):Int):=by rw[IntWalk.i64_in _ (by omega)];rfl
variable {P:Program}
def ZN(s:List Nat):Nat→List SV→List SV
 | _,[]=>[]
 | k,x::r=>(if s.contains k then x else .any)::ZN s (k+1) r
theorem Ju(s:List Nat):∀ (k:Nat) (l:List SV),(ZN s k l).length=l.length
 | _,[]=>rfl
 | k,x::r=>by simp[ZN,Ju s (k+1) r]
theorem Kq(s:List Nat):∀ (k:Nat) (l:List SV) (i:Nat),i<l.length→(ZN s k l).getD i .any=if s.contains (k+i) then l.getD i .any else .any
 | k,x::r,0,h=>rfl
 | k,x::r,i+1,h=>by
  have:=Kq s (k+1) r i (by simpa using h);simp only[ZN,xgS,this,show k+1+i=k+(i+1) by omega]
def xo(st:St)(X:SV):SV→St→Prop:=fun x s=>(∃ ex,s=st++ex)∧Ids st.length X∧(X=x∨X=norm x)
def Uk(P:Program)(M:List Nat)(o:Oper)(env:List SV)(st:St)(next:SV→Prop):Kd→Prop
 | .pure=>qQ P st (ev env) o.op∧next (qq P st (ev env) o.op)
 | .pick c x y=>Jf (ev env c) (ev env x) (ev env y)∧next (WZ (ev env c) (ev env x) (ev env y))
 | .eff=>∃ X,qr P M o (ZN (qV o.op.operands.toList) 0 env) st (xo st X)∧next X
def Ud(P:Program)(M:List Nat)(o:Oper)(env:List SV)(st:St)(g:Bool)(next:SV→Prop):Kd→Prop
 | .pure=>K3 (g=true) env o.op.operands.toList∧(g=true→qQ P st (fun y=>ZB (ev env y)) o.op)∧next (.gd g (qq P st (fun y=>ZB (ev env y)) o.op))
 | .pick c x y=>Eh (g=true) (ev env c)∧(g=true→Jf (ZB (ev env c)) (ev env x) (ev env y))∧next (.gd g (WZ (ZB (ev env c)) (ev env x) (ev env y)))
 | .eff=>K3 (g=true) env o.op.operands.toList∧∃ X,(g=true→qr P M o (Y1 (qV o.op.operands.toList) 0 (ZN (qV o.op.operands.toList) 0 env)) st (xo st X))∧next (.gd g X)
def Zg(P:Program)(M:List Nat)(ds:List (Option Tmp))(o:Oper)(env:List SV)(st:St)(next:SV→Prop):Prop :=
 match o.guard with
 | none=>Uk P M o env st next (qA o.op)
 | some (j,want)=>Vc (Vp ds j env)∧Ud P M o env st (Ht want (Vp ds j env)) next (qA o.op)
def XG(P:Program)(M:List Nat)(ds:List (Option Tmp)):List Oper→List SV→St→(List SV→Prop)→Prop
 | [],env,st,K=>K env
 | o::r,env,st,K=>Zg P M ds o env st fun x=>XG P M ds r (Zx env o.dst x) st K
def looks(ops:Array Oper)(o:Oper):List Nat:=qV o.op.operands.toList++(match o.guard with | some (j,_)=>((ops[j]?).bind (·.dst)).toList | none=>[])
def Js(o:Oper)(j:Nat):Bool:=o.after.toList.any fun e=>Region.binds .any e&&e.on==j
def kW(ops:Array Oper)(i j:Nat):Bool :=
 match ops[i]?,ops[j]? with
 | some a,some b =>
  (i==j) || ((match b.dst with
   | some t=>(!(looks ops a).contains t || (if j<i then Js a j else Js b i))&&a.dst != some t
   | none=>true))
 | _,_=>true
def Wl(ops:Array Oper):Bool :=
 (List.range ops.size).all fun i=>(List.range ops.size).all (kW ops i)&&((ops[i]?).map fun o=>o.after.toList.all fun e => !Region.binds .any e || decide (e.on<i)).getD true
def Y3(P:Program)(ops:Array Oper)(st:St)(o:Oper)(E:List SV)(X:SV):Prop :=
 ∀ σ w (a:Act) (env:List SV),Inv st σ w→RepEnv st σ w env a.tmps→(∀ t∈looks ops o,env.getD t .any=E.getD t .any)→env.length=E.length →
  (Region.wanted o (yielded ops a.tmps)=true→∃ Q0:Exit→Act→World→Prop,(∀ e a w,¬ Q0 e a w) ∧
   o.wp P a w (fun a' w'=>∃ v σ',a'=a.put o.dst v∧Inv st σ' w'∧Ext st σ w st σ' w'∧Rep st σ' w' X v) Q0) ∧
  (Region.wanted o (yielded ops a.tmps)=false→Rep st σ w X undef)
theorem yo{o:Oper}{E env:List SV}{st:St}{X:SV}(h:AOp P o (xo st X) E st){σ:Sig}{w:World}{a:Act}(hI:Inv st σ w)(hR:RepEnv st σ w E a.tmps) :
  o.wp P a w (fun a' w'=>∃ v σ',a'=a.put o.dst v∧Inv st σ' w'∧Ext st σ w st σ' w'∧Rep st σ' w' X v) (fun _ _ _=>False):=by
 refine QH ?_ (fun _ _ _ h=>h) (h σ w a hI hR);rintro a' w' ⟨v,x,s,σ',rfl,⟨⟨ex,rfl⟩,hids,hx⟩,hI',hr,hX⟩;have hrX:Rep (st++ex) σ' w' X v:=by rcases hx with rfl | rfl;exact hr;exact hr.norm
 refine⟨v,σ',rfl,hI'.drop hI.obIds,hX.drop (Nat.le_refl _),hrX.drop hids⟩
theorem BL{ops:Array Oper}{o:Oper}{t:Nat}(h:t∈qV o.op.operands.toList):t∈looks ops o:=List.mem_append_left _ h
theorem Jg{t:Nat}:∀ {l:List Operand},Operand.tmp t∈l→t∈qV l
 | .tmp d::r,h=>by
  simp only[qV,List.mem_cons] at h ⊢;rcases h with h | h
  ·left;cases h;rfl
  ·right;exact Jg h
 | .const v::r,h=>by
  simp only[qV];cases h with
  | tail _ h=>exact Jg h
 | .global v::r,h=>by
  simp only[qV];cases h with
  | tail _ h=>exact Jg h
 | .func v::r,h=>by
  simp only[qV];cases h with
  | tail _ h=>exact Jg h
theorem Wo{ops:Array Oper}{o:Oper}{env E:List SV}(h:∀ t∈looks ops o,env.getD t .any=E.getD t .any){y:Operand}(hy:y∈o.op.operands):ev env y=ev E y:=by
 cases y with
 | tmp t=>exact h t (BL (Jg (by simpa using hy)))
 | _=>rfl
theorem UL{ops:Array Oper}{o:Oper}{st:St}{σ:Sig}{w:World}{t:Array Value}{env E:List SV}(hR:RepEnv st σ w env t)(h:∀ i∈looks ops o,env.getD i .any=E.getD i .any)
  (hl:env.length=E.length):RepEnv st σ w (ZN (qV o.op.operands.toList) 0 E) t:=by
 refine⟨by rw[Ju,←hl];exact hR.1,fun i hi=>?_⟩;rw[Ju] at hi;rw[Kq _ _ _ _ hi,Nat.zero_add];split
 ·rename_i hc;rw[←h i (BL (by simpa using hc))];exact hR.2 i (by omega)
 ·exact .any _
theorem BI{ops:Array Oper}{o:Oper}{env E:List SV}(h:∀ t∈looks ops o,env.getD t .any=E.getD t .any){p:Prop}:∀ (l:List Operand),(∀ y∈l,y∈o.op.operands)→K3 p E l→K3 p env l
 | [],_,_=>trivial
 | y::r,hm,hg=>⟨by rw[Wo h (hm y (by simp))];exact hg.1,BI h r (fun z hz=>hm z (by simp[hz])) hg.2⟩
theorem B5{p:Prop}{E:List SV}(s:List Nat):∀ (l:List Operand),(∀ t,Operand.tmp t∈l→t∈s)→K3 p E l→K3 p (ZN s 0 E) l
 | [],_,_=>trivial
 | y::r,hm,hg=>by
  refine⟨?_,B5 s r (fun t ht=>hm t (by simp[ht])) hg.2⟩;cases y with
  | tmp t =>
   simp only[ev];by_cases hl:t<E.length
   ·rw[Kq _ _ _ _ hl,Nat.zero_add,if_pos (by simpa using hm t (by simp))];exact hg.1
   ·rw[xgE,List.getElem?_eq_none (show (ZN s 0 E).length≤t by rw[Ju];exact Nat.not_lt.1 hl)];trivial
  | _=>exact hg.1
theorem Di{M:List Nat}{ops:Array Oper}{o:Oper}{E:List SV}{st:St}{next:SV→Prop}(h:Zg P M (ops.toList.map (·.dst)) o E st next) :
  ∃ X,Y3 P ops st o E X∧next X:=by
 unfold Zg at h;split at h
 ·rename_i hg;have hw:∀ t,Region.wanted o (yielded ops t)=true:=fun t=>by simp[Region.wanted,hg]
  cases hk:qA o.op with
  | pure =>
   rw[hk] at h;refine⟨_,fun σ w a env hI hR hs hl=>⟨fun _=>⟨fun _ _ _=>False,fun _ _ _ h=>h,?_⟩,fun hf=>by rw[hw] at hf;cases hf⟩,h.2⟩;obtain⟨v,hrun,hrep⟩:=De hk h.1 σ w a hI (fun y hy=>by rw[←Wo hs hy];exact qS hR y);unfold Oper.wp;rw[hrun];exact⟨v,σ,rfl,hI,Ext.refl _ _ _,hrep⟩
  | pick c x y =>
   rw[hk] at h;refine⟨_,fun σ w a env hI hR hs hl=>⟨fun _=>⟨fun _ _ _=>False,fun _ _ _ h=>h,?_⟩,fun hf=>by rw[hw] at hf;cases hf⟩,h.2⟩;obtain⟨v,hrun,hrep⟩:=jg (P:=P) (ρ:=ev E) (st:=st) (Vw hk) h.1 σ w a hI (fun y hy=>by rw[←Wo hs hy];exact qS hR y);unfold Oper.wp;rw[hrun];exact⟨v,σ,rfl,hI,Ext.refl _ _ _,hrep⟩
  | eff =>
   rw[hk] at h;obtain⟨X,h1,h2⟩:=h;exact⟨X,fun σ w a env hI hR hs hl=>⟨fun _=>⟨fun _ _ _=>False,fun _ _ _ h=>h,yo (env:=env) (KH h1) hI (UL hR hs hl)⟩,fun hf=>by rw[hw] at hf;cases hf⟩,h2⟩
 ·rename_i j want hg;obtain⟨h1,h⟩:=h;obtain⟨d,hd,he⟩:=DW h1;have hlook:d∈looks ops o:=by
   unfold looks;rw[hg];exact List.mem_append_right _ (by simp[hd])
  have hw:∀ {σ:Sig} {w:World} {a:Act} {env:List SV},RepEnv st σ w env a.tmps→(∀ t∈looks ops o,env.getD t .any=E.getD t .any) →
    Region.wanted o (yielded ops a.tmps)=Ht want (Vp (ops.toList.map (·.dst)) j E):=by
   intro σ w a env hR hs;rw[he] at h1 ⊢;rw[←hs d hlook] at h1 ⊢;simp only[Region.wanted,hg];exact DU hd h1 hR
  generalize Ht want (Vp (ops.toList.map (·.dst)) j E)=g at h hw;have skipc:∀ X:SV,g=false→∀ {σ:Sig} {w:World},Rep st σ w (.gd g X) undef:=fun X e σ w =>.gd g X _ (fun e'=>by rw[e] at e';cases e') (fun _=>rfl);cases hk:qA o.op with
  | pure =>
   rw[hk] at h;obtain⟨g1,g2,g3⟩:=h;refine⟨_,fun σ w a env hI hR hs hl=>⟨fun hwt=>⟨fun _ _ _=>False,fun _ _ _ h=>h,?_⟩,fun hf=>skipc _ ((hw hR hs).symm.trans hf)⟩,g3⟩;have hgt:g=true:=(hw hR hs).symm.trans hwt;obtain⟨v,hrun,hrep⟩:=De hk (g2 hgt) σ w a hI (fun y hy=>by
    have:=Q3 (qS hR y) (Hu _ (BI hs _ (fun z hz=>by simpa using hz) g1) y (by simpa using hy)) hgt;rwa[Wo hs hy] at this)
   unfold Oper.wp;rw[hrun];exact⟨v,σ,rfl,hI,Ext.refl _ _ _,.gd g _ v (fun _=>hrep) (fun e=>by rw[hgt] at e;cases e)⟩
  | pick c x y =>
   rw[hk] at h;obtain⟨g1,g2,g3⟩:=h;have hop:=Vw hk;refine⟨_,fun σ w a env hI hR hs hl=>⟨fun hwt=>⟨fun _ _ _=>False,fun _ _ _ h=>h,?_⟩,fun hf=>skipc _ ((hw hR hs).symm.trans hf)⟩,g3⟩;have hgt:g=true:=(hw hR hs).symm.trans hwt;have ec:=Wo hs (y:=c) (by simp[hop,Op.operands]);have ex:=Wo hs (y:=x) (by simp[hop,Op.operands]);have ey:=Wo hs (y:=y) (by simp[hop,Op.operands]);obtain⟨v,hrun,hrep⟩:∃ v,(execOp a.eval o).run P w = .ok (.value v) w∧Rep st σ w (WZ (ZB (ev E c)) (ev E x) (ev E y)) v:=by
    have rc:=Q3 (qS hR c) (by rw[ec];exact g1) hgt;rw[ec] at rc;have h:=g2 hgt;unfold Jf at h;split at h
    ·rename_i t hc;rw[hc] at rc;have e:=qw rc;refine⟨if t then a.eval x else a.eval y,by cases t <;> simp[execOp,hop,e,asBool],?_⟩;rw[hc];refine HE ?_;cases t
     ·have ry:=qS hR y;rw[ey] at ry;exact Q3 ry h.2 rfl
     ·have rx:=qS hR x;rw[ex] at rx;exact Q3 rx h.1 rfl
    ·exact h.elim
   unfold Oper.wp;rw[hrun];exact⟨v,σ,rfl,hI,Ext.refl _ _ _,.gd g _ v (fun _=>hrep) (fun e=>by rw[hgt] at e;cases e)⟩
  | eff =>
   rw[hk] at h;obtain⟨g1,X,g2,g3⟩:=h;refine⟨_,fun σ w a env hI hR hs hl=>⟨fun hwt=>⟨fun _ _ _=>False,fun _ _ _ h=>h,?_⟩,fun hf=>skipc _ ((hw hR hs).symm.trans hf)⟩,g3⟩;have hgt:g=true:=(hw hR hs).symm.trans hwt;have hRo:=UL hR hs hl;have hRs:=EF hgt hRo (B5 _ _ (fun t ht=>Jg ht) g1);refine QH ?_ (fun _ _ _ h=>h) (yo (env:=env) (KH (g2 hgt)) hI hRs);rintro a' w' ⟨v,σ',rfl,hI',hX,hr⟩;exact⟨v,σ',rfl,hI',hX,.gd g _ v (fun _=>hr) (fun e=>by rw[hgt] at e;cases e)⟩
def ZO(ops:Array Oper)(j t:Nat):Bool:=((ops[j]?).bind (·.dst))==some t
def wr(ops:Array Oper)(listed:Array Bool)(t:Nat):Bool:=(List.range ops.size).any fun j=>listed.getD j false&&ZO ops j t
def Vk(ops:Array Oper)(listed:Array Bool)(e0 eN:List SV):List SV:=(List.range e0.length).map fun t=>if wr ops listed t then eN.getD t .any else e0.getD t .any
theorem qo{ops:Array Oper}{listed:Array Bool}{e0 eN:List SV}:(Vk ops listed e0 eN).length=e0.length:=by simp[Vk]
theorem YE{ops:Array Oper}{listed:Array Bool}{e0 eN:List SV}{t:Nat}(ht:t<e0.length) :
  (Vk ops listed e0 eN).getD t .any=if wr ops listed t then eN.getD t .any else e0.getD t .any:=by
 simp[Vk,xgE,ht]
theorem Hk{env:List SV}{d:Option Tmp}{x:SV}{t:Nat}(ht:t<env.length):(Zx env d x).getD t .any=if d=some t then x else env.getD t .any:=by
 cases d with
 | none=>simp[Zx]
 | some d =>
  simp only[Zx,xsJ];by_cases e:d=t
  ·subst e;simp[xgE,ht]
  ·simp[xgE,List.getElem?_set_ne e,e]
theorem VA{env:List SV}{d:Option Tmp}{x:SV}:(Zx env d x).length=env.length:=by cases d <;> simp[Zx]
end Go.AL
namespace Go.AL
variable {P:Program}
def K2(ops:Array Oper):Nat→Nat→Nat→Bool
 | 0,_,_=>false
 | n+1,i,j=>match ops[i]? with
  | some o=>o.after.toList.any fun e=>Region.binds .any e&&(e.on==j || K2 ops n e.on j)
  | none=>false
def J'(ops:Array Oper):List Nat→Bool
 | a::b::r=>K2 ops ops.size b a&&decide (a<b)&&J' ops (b::r)
 | _=>true
def pU(P:Program)(M:List Nat)(ops:Array Oper)(ks el:List Nat)(R:St→Prop)(s0:St):Nat→List Oper→List SV→St→(List SV→St→Prop)→Prop
 | _,[],env,st,K=>K env st
 | i,o::r,env,st,K =>
  if ks.contains i then ∃ X s',qr P M o (ZN (qV o.op.operands.toList) 0 env) st (fun x s=>x=X∧s=s')∧o.guard=none∧R s'∧pU P M ops ks el R s0 (i+1) r (Zx env o.dst X) s' K
  else ∃ X,(∀ s,(if el.contains i then s=s0 else R s)→Zg P M (ops.toList.map (·.dst)) o env s (fun x=>x=X))∧pU P M ops ks el R s0 (i+1) r (Zx env o.dst X) st K
def KT(P:Program)(ops:Array Oper)(s s':St)(o:Oper)(E:List SV)(X:SV):Prop :=
 ∀ σ w (a:Act) (env:List SV),Inv s σ w→RepEnv s σ w env a.tmps→(∀ t∈looks ops o,env.getD t .any=E.getD t .any)→env.length=E.length →
  o.guard=none∧∃ Q0:Exit→Act→World→Prop,(∀ e a w,¬ Q0 e a w) ∧
   o.wp P a w (fun a' w'=>∃ v σ',a'=a.put o.dst v∧Inv s' σ' w'∧Ext s σ w s' σ' w'∧Rep s' σ' w' X v) Q0
theorem Jo{ops:Array Oper}{listed:Array Bool}(hcl:∀ i,listed.getD i false=true→∀ p,ops[i]?=some p→∀ e,e∈p.after.toList→Region.binds .any e=true→listed.getD e.on false=true) :
  ∀ (n i j:Nat),(∀ p,ops[i]?=some p→∀ e,e∈p.after.toList→Region.binds .any e=true→listed.getD e.on false=true)→K2 ops n i j=true→listed.getD j false=true
 | 0,i,j,_,h=>by cases h
 | n+1,i,j,hi,h=>by
  simp only[K2] at h;split at h
  ·rename_i o ho;rw[List.any_eq_true] at h;obtain⟨e,he1,he2⟩:=h;simp only[Y4,Bool.or_eq_true,beq_iff_eq] at he2;have hl:=hi o ho e he1 he2.1;rcases he2.2 with rfl | h2
   ·exact hl
   ·exact Jo hcl n e.on j (hcl e.on hl) h2
  ·cases h
theorem D8{ops:Array Oper}{a:Nat}{r:List Nat}(h:J' ops (a::r)=true):J' ops r=true:=by
 cases r with
 | nil=>rfl
 | cons b r=>simp only[J',Y4] at h;exact h.2
theorem F7{ops:Array Oper}:∀ {r:List Nat} {a:Nat},J' ops (a::r)=true→∀ k∈r,a<k
 | [],a,_,k,hk=>by cases hk
 | b::r,a,h,k,hk=>by
  simp only[J',Y4,decide_eq_true_eq] at h;cases hk with
  | head=>exact h.1.2
  | tail _ hk=>exact Nat.lt_trans h.1.2 (F7 h.2 k hk)
theorem DR{ops:Array Oper}{listed:Array Bool}(hcl:∀ i,listed.getD i false=true→∀ p,ops[i]?=some p→∀ e,e∈p.after.toList→Region.binds .any e=true→listed.getD e.on false=true) :
  ∀ {r:List Nat} {a:Nat},J' ops (a::r)=true→∀ k∈r,listed.getD k false=true→listed.getD a false=true
 | [],a,_,k,hk,_=>by cases hk
 | b::r,a,h,k,hk,hl=>by
  have h':=h;simp only[J',Y4] at h;have hb:listed.getD b false=true:=by
   cases hk with
   | head=>exact hl
   | tail _ hk=>exact DR hcl h.2 k hk hl
  exact Jo hcl _ b a (hcl b hb) h.1.1
def Wf(ks:List Nat)(listed:Array Bool)(n:Nat):Nat:=(ks.find? fun e => !listed.getD e false).getD n
theorem xc{ops:Array Oper}{listed:Array Bool}(n:Nat)(hcl:∀ i,listed.getD i false=true→∀ p,ops[i]?=some p→∀ e,e∈p.after.toList→Region.binds .any e=true→listed.getD e.on false=true)
  {i:Nat} (hi:∀ p,ops[i]?=some p→∀ e,e∈p.after.toList→Region.binds .any e=true→listed.getD e.on false=true) (hnl:listed.getD i false=false) :
  ∀ {ks:List Nat},J' ops ks=true→i∈ks→Wf ks listed n=i
 | [],_,h=>by cases h
 | a::r,ho,h=>by
  by_cases e:a=i
  ·subst e;simp only[Wf,List.find?_cons,hnl,Bool.not_false];rfl
  ·have hr:i∈r:=by
    cases h with
    | head=>exact absurd rfl e
    | tail _ h=>exact h
   have ih:=xc n hcl hi hnl (D8 ho) hr;have ha:listed.getD a false=true:=by
    cases r with
    | nil=>cases hr
    | cons b r =>
     have ho':=ho;simp only[J',Y4] at ho;by_cases eb:b=i
     ·subst eb;exact Jo hcl _ b a hi ho.1.1
     ·have hb:listed.getD b false=true:=by
       cases hv:listed.getD b false with
       | true=>rfl
       | false =>
        exfalso;simp only[Wf,List.find?_cons,hv,Bool.not_false] at ih;exact eb ih
      exact Jo hcl _ b a (hcl b hb) ho.1.1
   simp only[Wf,List.find?_cons,ha,Bool.not_true] at ih ⊢;exact ih
theorem mw{listed:Array Bool}{n:Nat}{ks:List Nat}(h:∀ k∈ks,listed.getD k false=true):Wf ks listed n=n:=by
 unfold Wf;rw[List.find?_eq_none.2 (fun k hk=>by simp only[h k hk];decide)];rfl
theorem Dt{ops:Array Oper}{listed:Array Bool}{n:Nat}:∀ {ks:List Nat},J' ops ks=true→(∀ k∈ks,k<n)→Wf ks listed n≤n∧(∀ k∈ks,k<Wf ks listed n→listed.getD k false=true) ∧
  (Wf ks listed n=n∨(Wf ks listed n∈ks∧listed.getD (Wf ks listed n) false=false))
 | [],_,_=>⟨Nat.le_of_eq rfl,fun k hk _=>(by cases hk),.inl rfl⟩
 | a::r,ho,hn=>by
  cases hv:listed.getD a false with
  | false =>
   have e:Wf (a::r) listed n=a:=by simp only[Wf,List.find?_cons,hv,Bool.not_false];rfl
   rw[e];refine⟨Nat.le_of_lt (hn a (by simp)),fun k hk hlt=>?_,.inr ⟨by simp,hv⟩⟩;cases hk with
   | head=>omega
   | tail _ hk=>have:=F7 ho k hk;omega
  | true =>
   have e:Wf (a::r) listed n=Wf r listed n:=by simp only[Wf,List.find?_cons,hv,Bool.not_true]
   rw[e];obtain⟨h1,h2,h3⟩:=Dt (listed:=listed) (D8 ho) (fun k hk=>hn k (by simp[hk]));refine⟨h1,fun k hk hlt=>?_,h3.imp id fun h=>⟨by simp[h.1],h.2⟩⟩;cases hk with
   | head=>exact hv
   | tail _ hk=>exact h2 k hk hlt
def oU(ops:Array Oper)(ks:List Nat)(i j:Nat):Bool:=(ks.all fun k => !(decide (k<j)) || !K2 ops ops.size k i) && !K2 ops ops.size i j
theorem vj(ks:List Nat){id:Nat}{ops:Array Oper}{Q:Exit→List SV→St→Prop}{env:List SV}{st:St}(hm:P.follows .mixedOrders=true)(hf:Wl ops=true)
  (hks:J' ops ks=true) (hkn:ks.all (· < ops.size)=true)
  (h:∃ (F:Nat→List SV) (G:Nat→St) (X:Nat→SV),F 0=env∧G 0=st ∧
   (∀ i o,0≤i→ops[i]?=some o→F (i+1)=Zx (F i) o.dst (X i) ∧
    (if ks.contains i then KT P ops (G i) (G (i+1)) o (F i) (X i) else G (i+1)=G i∧∀ j,(j=ops.size∨j∈ks)→oU ops ks i j=true→Y3 P ops (G j) o (F i) (X i))) ∧
   Q .normal (F (0+ops.toList.length)) (G (0+ops.toList.length))):AWp P (.region id ops true) Q env st:=by
 intro σ w a hI hR D hd;obtain⟨F,G,X,f1,gg1,f2',f3⟩:=h;simp only[Nat.zero_add,Array.length_toList] at f3;have f2:∀ i o,0≤i→ops[i]?=some o→True∧F (i+1)=Zx (F i) o.dst (X i):=fun i o hi ho=>⟨trivial,(f2' i o hi ho).1⟩;have hkn':∀ k∈ks,k<ops.size:=by
  intro k hk;rw[List.all_eq_true] at hkn;simpa using hkn k hk
 have gconst:∀ d a,a+d≤ops.size→(∀ k∈ks,¬ (a≤k∧k<a+d))→G (a+d)=G a:=by
  intro d;induction d with
  | zero=>intro a _ _;rfl
  | succ d ih =>
   intro a ha hno;have h1:=ih a (by omega) (fun k hk hc=>hno k hk (by omega));have hp:ops[a+d]?=some ops[a+d]:=by simp[show a+d<ops.size by omega]
   have h2:=(f2' (a+d) _ (Nat.zero_le _) hp).2;rw[if_neg (by
    intro hc;exact hno (a+d) (by simpa using hc) (by omega))] at h2
   rw[show a+(d+1)=a+d+1 by omega,h2.1,h1]
 have gsame:∀ a b,a≤b→b≤ops.size→(∀ k∈ks,¬ (a≤k∧k<b))→G b=G a:=by
  intro a b hab hb hno;obtain⟨d,rfl⟩:=Nat.exists_eq_add_of_le hab;exact gconst d a hb hno
 have hflow:∀ i j p q,ops[i]?=some p→ops[j]?=some q→i≠j→∀ t,q.dst=some t→(t∈looks ops p→if j<i then Js p j=true else Js q i=true)∧p.dst≠some t:=by
  intro i j p q hp hq hne t ht;have h1:=qh hp;have h2:=qh hq;unfold Wl at hf;rw[List.all_eq_true] at hf;have h3:=hf i (by simpa using h1);simp only[Y4,List.all_eq_true] at h3;have h4:=h3.1 j (by simpa using h2);unfold kW at h4;rw[hp,hq] at h4;simp only[ht,Bool.or_eq_true,beq_iff_eq,Y4,Bool.not_eq_true',bne_iff_ne,ne_eq] at h4;rcases h4 with h4 | ⟨h4,h5⟩
  ·exact absurd h4 hne
  ·refine⟨fun hlk=>?_,h5⟩;rcases h4 with h4 | h4
   ·simp[hlk] at h4
   ·split <;> rename_i hji <;> simpa[hji] using h4
 have hback:∀ i p,ops[i]?=some p→∀ e,e∈p.after.toList→Region.binds .any e=true→e.on<i:=by
  intro i p hp e he hb;have h1:=qh hp;unfold Wl at hf;rw[List.all_eq_true] at hf;have h3:=hf i (by simpa using h1);simp only[Y4,hp,xmS,Option.getD_some,List.all_eq_true] at h3;have h4:=h3.2 e he;simpa[hb] using h4
 have flen:∀ i,i≤ops.size→(F i).length=env.length:=by
  intro i;induction i with
  | zero=>intro _;rw[f1]
  | succ i ih =>
   intro hi;have hp:ops[i]?=some ops[i]:=by simp[show i<ops.size by omega]
   rw[(f2 i _ (Nat.zero_le _) hp).2,VA,ih (by omega)]
 have fget:∀ i,i≤ops.size→∀ t,t<env.length→(∀ j,j<i→ZO ops j t=true→(F i).getD t .any=X j)∧((∀ j,j<i→ZO ops j t=false)→(F i).getD t .any=env.getD t .any):=by
  intro i;induction i with
  | zero=>intro _ t ht;exact⟨fun j hj=>absurd hj (Nat.not_lt_zero _),fun _=>by rw[f1]⟩
  | succ i ih =>
   intro hi t ht;obtain⟨ih1,ih2⟩:=ih (by omega) t ht;have hp:ops[i]?=some ops[i]:=by simp[show i<ops.size by omega]
   have he:=(f2 i _ (Nat.zero_le _) hp).2;have hg:(F (i+1)).getD t .any=if ops[i].dst=some t then X i else (F i).getD t .any:=by rw[he];exact Hk (by rw[flen i (by omega)];exact ht)
   have hwi:ZO ops i t=true↔ops[i].dst=some t:=by simp[ZO,hp]
   refine⟨fun j hj hw=>?_,fun hno=>?_⟩
   ·rw[hg];by_cases c:ops[i].dst=some t
    ·rw[if_pos c];by_cases e:j=i
     ·rw[e]
     ·have hjl:j<ops.size:=by omega
      have hq:ops[j]?=some ops[j]:=by simp[hjl]
      have hjd:ops[j].dst=some t:=by simpa[ZO,hq] using hw
      exact absurd c (hflow i j _ _ hp hq (by omega) t hjd).2
    ·rw[if_neg c];have e:j≠i:=by rintro rfl;exact c (hwi.1 hw)
     exact ih1 j (by omega) hw
   ·rw[hg,if_neg (fun c=>by have:=hno i (by omega);rw[hwi.2 c] at this;cases this)];exact ih2 fun j hj=>hno j (by omega)
 let Inv':Array Bool→Act→World→Prop:=fun listed a' w'=>∃ σ',Inv (G (Wf ks listed ops.size)) σ' w'∧Ext st σ w (G (Wf ks listed ops.size)) σ' w'∧a'.defers=D∧listed.size=ops.size ∧
  RepEnv (G (Wf ks listed ops.size)) σ' w' (Vk ops listed env (F ops.size)) a'.tmps∧∀ i,listed.getD i false=true→∀ p,ops[i]?=some p→∀ e,e∈p.after.toList→Region.binds .any e=true→listed.getD e.on false=true
 have key:∀ (fuel:Nat) (listed:Array Bool) (a':Act) (w':World),((List.range ops.size).filter fun j => !listed.getD j false).length=fuel→Inv' listed a' w' →
   wpAny P .any ops (fun e a' w'=>Post D (Q e) st σ w a' w') fuel listed a' w':=by
  intro fuel;induction fuel with
  | zero =>
   intro listed a' w' hc hI';obtain⟨σ',i1,i2,i3,i4,i5,i6⟩:=hI';have hall:∀ j,j<ops.size→listed.getD j false=true:=by
    intro j hj;have h0:(List.range ops.size).filter (fun j => !listed.getD j false)=[]:=List.eq_nil_of_length_eq_zero hc;rw[List.filter_eq_nil_iff] at h0;simpa using h0 j (by simpa using hj)
   have hnx:Wf ks listed ops.size=ops.size:=mw fun k hk=>hall k (hkn' k hk);rw[hnx] at i1 i2 i5;refine⟨?_,i3,Vk ops listed env (F ops.size),G ops.size,σ',?_,i1,i5,i2⟩
   ·unfold Region.ready;rw[List.filter_eq_nil_iff];intro j hj;have hj':j<ops.size:=by simpa using hj
    have h1:=hall j hj';have:listed.getD j true=true:=by
     rw[Array.getD_eq_getD_getElem?] at h1 ⊢;rw[Array.getElem?_eq_getElem (by omega)] at h1 ⊢;exact h1
    simp[this]
   ·have e:Vk ops listed env (F ops.size)=F ops.size:=by
     apply List.ext_getElem?
     intro t;by_cases ht:t<env.length
     ·have h1:=YE (ops:=ops) (listed:=listed) (eN:=F ops.size) ht;have hl1:t<(Vk ops listed env (F ops.size)).length:=by rw[qo];exact ht
      have hl2:t<(F ops.size).length:=by rw[flen _ (Nat.le_refl _)];exact ht
      rw[List.getElem?_eq_getElem hl1,List.getElem?_eq_getElem hl2];simp only[xgE,List.getElem?_eq_getElem hl1,List.getElem?_eq_getElem hl2,Option.getD_some] at h1;rw[h1];split
      ·rfl
      ·rename_i hno;have h2:=(fget ops.size (Nat.le_refl _) t ht).2 (fun j hj=>by
        cases hw:ZO ops j t with
        | false=>rfl
        | true =>
         exfalso;apply hno
         unfold wr;rw[List.any_eq_true];exact⟨j,by simpa using hj,by rw[hall j hj,hw];rfl⟩)
       simp only[xgE,List.getElem?_eq_getElem hl2,Option.getD_some] at h2;rw[h2]
     ·rw[List.getElem?_eq_none (by rw[qo];omega),List.getElem?_eq_none (by rw[flen _ (Nat.le_refl _)];omega)]
    rw[e];exact f3
  | succ fuel ih =>
   intro listed a' w' hc hI';obtain⟨σ',i1,i2,i3,i4,i5,i6⟩:=hI';have hready:∀ i,i∈Region.ready .any ops listed↔i<ops.size∧listed.getD i true=false∧∀ p,ops[i]?=some p→∀ e,e∈p.after.toList→Region.binds .any e=true→listed.getD e.on false=true:=by
    intro i;unfold Region.ready;rw[List.mem_filter];constructor
    ·rintro⟨h1,h2⟩;have h1':i<ops.size:=by simpa using h1
     simp only[Y4,Bool.not_eq_true'] at h2;refine⟨h1',h2.1,fun p hp e he hb=>?_⟩;have h3:=h2.2;rw[hp] at h3;simp only[xmS,Option.getD_some,Array.all_eq_true'] at h3;have:=h3 e (by simpa using he);simpa[hb] using this
    ·rintro⟨h1,h2,h3⟩;refine⟨by simpa using h1,?_⟩;have hp:ops[i]?=some ops[i]:=by simp[h1]
     simp only[h2,hp,xmS,Option.getD_some,Bool.not_false,Bool.true_and,Array.all_eq_true'];intro e he;cases hb:Region.binds .any e with
     | false=>rfl
     | true=>simpa using h3 _ hp e (by simpa using he) hb
   refine⟨fun hnil=>?_,fun i hi=>?_⟩
   ·-- the least one that is not listed is ready
    exfalso;have hex:∃ j,j<ops.size∧listed.getD j false=false:=by
     have hne:(List.range ops.size).filter (fun j => !listed.getD j false)≠[]:=by intro h0;rw[h0] at hc;cases hc
     obtain⟨j,hj⟩:=List.exists_mem_of_ne_nil _ hne;rw[List.mem_filter] at hj;exact⟨j,by simpa using hj.1,by simpa using hj.2⟩
    obtain⟨j,hj1,hj2⟩:=hex;have least:∀ n,∀ j,j≤n→j<ops.size→listed.getD j false=false→∃ i,i<ops.size∧listed.getD i false=false∧∀ k,k<i→listed.getD k false=true:=by
     intro n;induction n with
     | zero =>
      intro j hj h1 h2;exact⟨j,h1,h2,fun k hk=>by omega⟩
     | succ n ihn =>
      intro j hj h1 h2;by_cases c:∃ k,k<j∧listed.getD k false=false
      ·obtain⟨k,hk1,hk2⟩:=c;exact ihn k (by omega) (by omega) hk2
      ·refine⟨j,h1,h2,fun k hk=>?_⟩;cases hv:listed.getD k false with
       | true=>rfl
       | false=>exact absurd ⟨k,hk,hv⟩ c
    obtain⟨i,hi1,hi2,hi3⟩:=least j j (Nat.le_refl _) hj1 hj2;have:i∈Region.ready .any ops listed:=(hready i).2 ⟨hi1,by
     rw[Array.getD_eq_getD_getElem?] at hi2 ⊢;rw[Array.getElem?_eq_getElem (by omega)] at hi2 ⊢;exact hi2,fun p hp e he hb=>hi3 _ (hback i p hp e he hb)⟩
    rw[hnil] at this;cases this
   ·obtain⟨hi1,hi2,hi3⟩:=(hready i).1 hi;have hp:ops[i]?=some ops[i]:=by simp[hi1]
    have hnl:listed.getD i false=false:=by
     rw[Array.getD_eq_getD_getElem?] at hi2 ⊢;rw[Array.getElem?_eq_getElem (by omega)] at hi2 ⊢;exact hi2
    obtain⟨hnext,hfact⟩:=f2' i _ (Nat.zero_le _) hp;have hagree:∀ t∈looks ops ops[i],(Vk ops listed env (F ops.size)).getD t .any=(F i).getD t .any:=by
     intro t ht;by_cases hlt:t<env.length
     ·rw[YE hlt];obtain⟨g1,g2⟩:=fget i (by omega) t hlt;obtain⟨gN1,gN2⟩:=fget ops.size (Nat.le_refl _) t hlt;by_cases c:∃ j,j<i∧ZO ops j t=true
      ·obtain⟨j,hj,hw⟩:=c;have hjl:j<ops.size:=by omega
       have hq:ops[j]?=some ops[j]:=by simp[hjl]
       have hjd:ops[j].dst=some t:=by simpa[ZO,hq] using hw
       have hedge:=(hflow i j _ _ hp hq (by omega) t hjd).1 ht;rw[if_pos hj] at hedge;have hlj:listed.getD j false=true:=by
        unfold Js at hedge;rw[List.any_eq_true] at hedge;obtain⟨e,he1,he2⟩:=hedge;simp only[Y4,beq_iff_eq] at he2;have:=hi3 _ hp e he1 he2.1;rwa[he2.2] at this
       rw[if_pos (by unfold wr;rw[List.any_eq_true];exact⟨j,by simpa using hjl,by rw[hlj,hw];rfl⟩),g1 j hj hw,gN1 j hjl hw]
      ·rw[g2 fun j hj=>by
        cases hw:ZO ops j t with
        | false=>rfl
        | true=>exact absurd ⟨j,hj,hw⟩ c]
       rw[if_neg];intro hwr;unfold wr at hwr;rw[List.any_eq_true] at hwr;obtain⟨j,hj1,hj2⟩:=hwr;simp only[Y4] at hj2;have hjl:j<ops.size:=by simpa using hj1
       have hq:ops[j]?=some ops[j]:=by simp[hjl]
       have hjd:ops[j].dst=some t:=by simpa[ZO,hq] using hj2.2
       have hne:i≠j:=by rintro rfl;rw[hj2.1] at hnl;cases hnl
       have hnji:¬ j<i:=fun hji=>c ⟨j,hji,hj2.2⟩;have hedge:=(hflow i j _ _ hp hq hne t hjd).1 ht;rw[if_neg hnji] at hedge;unfold Js at hedge;rw[List.any_eq_true] at hedge;obtain⟨e,he1,he2⟩:=hedge;simp only[Y4,beq_iff_eq] at he2;have:=i6 j hj2.1 _ hq e he1 he2.1;rw[he2.2,hnl] at this;cases this
     ·rw[xgE,xgE,List.getElem?_eq_none (by rw[qo];omega),List.getElem?_eq_none (by rw[flen i (by omega)];omega)]
    have hns:=Dt (listed:=listed) hks hkn';have hdone:∀ (v:Value) (σ2:Sig) (w2:World) (s2:St),s2=G (Wf ks (listed.setIfInBounds i true) ops.size)→Inv s2 σ2 w2→Ext (G (Wf ks listed ops.size)) σ' w' s2 σ2 w2→Rep s2 σ2 w2 (X i) v →
      Inv' (listed.setIfInBounds i true) (a'.put ops[i].dst v) w2:=by
     intro v σ2 w2 s2 es2 hI2 hX2 hr2;subst es2;have gl:∀ k,(listed.setIfInBounds i true).getD k false=if k=i then true else listed.getD k false:=by
      intro k;rw[Array.getD_eq_getD_getElem?,Array.getD_eq_getD_getElem?];by_cases e:i=k
      ·subst e;simp[show i<listed.size by omega]
      ·rw[Array.getElem?_setIfInBounds_ne e,if_neg (fun h=>e h.symm)]
     have hRE:=i5.ext hX2;refine⟨σ2,hI2,i2.trans hX2,by rw[Xg];exact i3,by simpa using i4,⟨?_,fun t ht=>?_⟩,fun k hk p hp' e he hb=>?_⟩
     ·rw[qo];have:=hRE.1;rw[qo] at this;cases ops[i].dst with
      | none=>exact this
      | some d=>simpa[Act.put] using this
     ·rw[qo] at ht;have hput:=JP hRE ops[i].dst hr2;have h1:=hput.2 t (by rw[VA,qo];exact ht);rw[Hk (by rw[qo];exact ht)] at h1;have e:(Vk ops (listed.setIfInBounds i true) env (F ops.size)).getD t .any=if ops[i].dst=some t then X i else (Vk ops listed env (F ops.size)).getD t .any:=by
       rw[YE ht,YE ht];obtain⟨gN1,gN2⟩:=fget ops.size (Nat.le_refl _) t ht;by_cases c:ops[i].dst=some t
       ·rw[if_pos c,if_pos]
        ·exact gN1 i hi1 (by simp[ZO,hp,c])
        ·unfold wr;rw[List.any_eq_true];exact⟨i,by simpa using hi1,by rw[gl,if_pos rfl];simp[ZO,hp,c]⟩
       ·rw[if_neg c];have e2:wr ops (listed.setIfInBounds i true) t=wr ops listed t:=by
         unfold wr;apply Bool.eq_iff_iff.2
         rw[List.any_eq_true,List.any_eq_true];constructor
         ·rintro⟨j,hj1,hj2⟩;simp only[Y4] at hj2;refine⟨j,hj1,?_⟩;rw[gl] at hj2;by_cases ej:j=i
          ·subst ej;exact absurd (by simpa[ZO,hp] using hj2.2) c
          ·rw[if_neg ej] at hj2;simp[hj2.1,hj2.2]
         ·rintro⟨j,hj1,hj2⟩;simp only[Y4] at hj2;refine⟨j,hj1,?_⟩;rw[gl];split <;> simp[hj2.1,hj2.2]
        rw[e2]
      rw[e];exact h1
     ·rw[gl] at hk ⊢;split
      ·rfl
      ·by_cases ek:k=i
       ·subst ek;rw[hp] at hp';cases hp';exact hi3 _ hp e he hb
       ·rw[if_neg ek] at hk;exact i6 k hk p hp' e he hb
    have hcount:((List.range ops.size).filter fun j => !(listed.setIfInBounds i true).getD j false).length=fuel:=by
     have h1:((List.range ops.size).filter fun j => !listed.getD j false)=(List.range ops.size).filter fun j => !listed.getD j false:=rfl;have hperm:∀ l:List Nat,l.Nodup→i∈l→(l.filter fun j => !listed.getD j false).length=(l.filter fun j => !(listed.setIfInBounds i true).getD j false).length+1:=by
      intro l;have gl:∀ k,(listed.setIfInBounds i true).getD k false=if k=i then true else listed.getD k false:=by
       intro k;rw[Array.getD_eq_getD_getElem?,Array.getD_eq_getD_getElem?];by_cases e:i=k
       ·subst e;simp[show i<listed.size by omega]
       ·rw[Array.getElem?_setIfInBounds_ne e,if_neg (fun h=>e h.symm)]
      induction l with
      | nil=>intro _ h;cases h
      | cons x r ihr =>
       intro hnd hmem;rw[List.nodup_cons] at hnd;by_cases e:x=i
       ·subst e;have hrest:(r.filter fun j => !listed.getD j false)=r.filter fun j => !(listed.setIfInBounds x true).getD j false:=by
         apply List.filter_congr
         intro j hj;rw[gl,if_neg (by rintro rfl;exact hnd.1 hj)]
        rw[List.filter_cons,List.filter_cons,if_pos (by rw[hnl];rfl),if_neg (by rw[gl,if_pos rfl];decide),hrest];simp
       ·have hm:i∈r:=by
         cases hmem with
         | head=>exact absurd rfl e
         | tail _ h=>exact h
        have:=ihr hnd.2 hm;simp only[List.filter_cons,gl x,if_neg e];split <;> simp only[xlC,this]
     have:=hperm _ List.nodup_range (by simpa using hi1);omega
    have gl:∀ k,(listed.setIfInBounds i true).getD k false=if k=i then true else listed.getD k false:=by
     intro k;rw[Array.getD_eq_getD_getElem?,Array.getD_eq_getD_getElem?];by_cases e:i=k
     ·subst e;simp[show i<listed.size by omega]
     ·rw[Array.getElem?_setIfInBounds_ne e,if_neg (fun h=>e h.symm)]
    have hlook:=hagree;unfold wpOp;rw[hp];simp only;by_cases hk:ks.contains i=true
    ·-- one that turns the objects
     have hki:i∈ks:=by simpa using hk
     rw[if_pos hk] at hfact;have hnx:Wf ks listed ops.size=i:=xc ops.size i6 hi3 hnl hks hki;have hnx2:G (Wf ks (listed.setIfInBounds i true) ops.size)=G (i+1):=by
      have hns2:=Dt (listed:=listed.setIfInBounds i true) hks hkn';have hge:i+1≤Wf ks (listed.setIfInBounds i true) ops.size:=by
       rcases hns2.2.2 with h | ⟨h1,h2⟩
       ·omega
       ·rw[gl] at h2;by_cases e:Wf ks (listed.setIfInBounds i true) ops.size=i
        ·rw[if_pos e] at h2;cases h2
        ·rw[if_neg e] at h2;rcases Nat.lt_or_ge (Wf ks (listed.setIfInBounds i true) ops.size) i with hlt | hge
         ·have:=hns.2.1 _ h1 (by omega);rw[h2] at this;cases this
         ·omega
      refine gsame _ _ hge hns2.1 fun k hkk hc=>?_;have h1:=hns2.2.1 k hkk hc.2;rw[gl,if_neg (by omega)] at h1;have:∀ {l:List Nat},J' ops l=true→i∈l→k∈l→listed.getD i false=true:=by
       intro l;induction l with
       | nil=>intro _ h;cases h
       | cons a r ihl =>
        intro ho hi' hk';by_cases ea:a=i
        ·subst ea;have hkr:k∈r:=by
          cases hk' with
          | head=>omega
          | tail _ h=>exact h
         exact DR i6 ho k hkr h1
        ·have hir:i∈r:=by
          cases hi' with
          | head=>exact absurd rfl ea
          | tail _ h=>exact h
         by_cases ek:a=k
         ·subst ek;have:=F7 ho i hir;omega
         ·have hkr:k∈r:=by
           cases hk' with
           | head=>exact absurd rfl ek
           | tail _ h=>exact h
          exact ihl (D8 ho) hir hkr
      have hcon:=this hks hki hkk;rw[hnl] at hcon;cases hcon
     rw[hnx] at i1 i2 i5 hdone;obtain⟨hgn,Q0,hq0,hwp⟩:=hfact σ' w' a' _ i1 i5 hlook (by rw[qo,flen i (by omega)]);have hwt:Region.wanted ops[i] (yielded ops a'.tmps)=true:=by simp[Region.wanted,hgn]
     simp only[hwt,if_true];refine .inl (QH ?_ (fun e a w h=>absurd h (hq0 e a w)) hwp);rintro a2 w2 ⟨v,σ2,rfl,hI2,hX2,hr2⟩;exact ih _ _ _ hcount (hdone v σ2 w2 _ hnx2.symm hI2 hX2 hr2)
    ·rw[if_neg hk] at hfact;have hki:i ∉ ks:=by simpa using hk
     have hnx:Wf ks (listed.setIfInBounds i true) ops.size=Wf ks listed ops.size:=by
      unfold Wf;have:∀ l:List Nat,i ∉ l→(l.find? fun e => !(listed.setIfInBounds i true).getD e false)=l.find? fun e => !listed.getD e false:=by
       intro l;induction l with
       | nil=>intro _;rfl
       | cons a r ihl =>
        intro hni;have h1:a≠i:=fun e=>hni (by simp[e]);rw[List.find?_cons,List.find?_cons,gl,if_neg h1,ihl (fun h=>hni (by simp[h]))]
      rw[this ks hki]
     have hst:oU ops ks i (Wf ks listed ops.size)=true:=by
      unfold oU;simp only[Y4,List.all_eq_true,Bool.or_eq_true,Bool.not_eq_true',decide_eq_false_iff_not];refine⟨fun k hk=>?_,?_⟩
      ·by_cases c:k<Wf ks listed ops.size
       ·right;cases ha:K2 ops ops.size k i with
        | false=>rfl
        | true =>
         have:=Jo i6 _ k i (i6 k (hns.2.1 k hk c)) ha;rw[hnl] at this;cases this
       ·exact .inl c
      ·cases ha:K2 ops ops.size i (Wf ks listed ops.size) with
       | false=>rfl
       | true =>
        have h1:=Jo i6 _ i _ hi3 ha;rcases hns.2.2 with h2 | ⟨_,h2⟩
        ·rw[h2] at h1;simp[Array.getD,i4] at h1
        ·rw[h2] at h1;cases h1
     have hst2:Wf ks listed ops.size=ops.size∨Wf ks listed ops.size∈ks:=hns.2.2.imp (fun h=>h) fun h=>h.1;obtain⟨hrun,hskip⟩:=hfact.2 _ hst2 hst σ' w' a' _ i1 i5 hlook (by rw[qo,flen i (by omega)]);cases hwt:Region.wanted ops[i] (yielded ops a'.tmps) with
     | true =>
      simp only[if_true];obtain⟨Q0,hq0,hwp⟩:=hrun hwt;refine .inl (QH ?_ (fun e a w h=>absurd h (hq0 e a w)) hwp);rintro a2 w2 ⟨v,σ2,rfl,hI2,hX2,hr2⟩;exact ih _ _ _ hcount (hdone v σ2 w2 _ (by rw[hnx]) hI2 hX2 hr2)
     | false =>
      simp only[Yd,if_false];exact ih _ _ _ hcount (hdone undef σ' w' _ (by rw[hnx]) i1 (Ext.refl _ _ _) (hskip hwt))
 have hd0:Ext st σ w st σ { w with drawn:=w.drawn+1 }:=Ext.drew _;have hg0:G (Wf ks (Array.replicate ops.size false) ops.size)=st:=by
  cases hk:ks with
  | nil =>
   have e1:Wf [] (Array.replicate ops.size false) ops.size=ops.size:=by simp[Wf]
   rw[e1,←gg1];exact gsame 0 ops.size (Nat.zero_le _) (Nat.le_refl _) fun k hk'=>by rw[hk] at hk';cases hk'
  | cons e0 r =>
   have e1:Wf (e0::r) (Array.replicate ops.size false) ops.size=e0:=by
    have:(Array.replicate ops.size false).getD e0 false=false:=by simp[Array.getD]
    simp only[Wf,List.find?_cons,this,Bool.not_false];rfl
   rw[e1,←gg1];refine gsame 0 e0 (Nat.zero_le _) (Nat.le_of_lt (hkn' e0 (by rw[hk];simp))) fun k hk' hc=>?_;rw[hk] at hk' hks;cases hk' with
   | head=>omega
   | tail _ h=>have:=F7 hks k h;omega
 refine wp_region_any hm (key ops.size _ a _ ?_ ⟨σ,by rw[hg0];exact hI.drew _,by rw[hg0];exact hd0,hd,by simp,?_,fun i hi=>?_⟩)
 ·have:((List.range ops.size).filter fun j => !(Array.replicate ops.size false).getD j false)=List.range ops.size:=by
   apply List.filter_eq_self.2
   intro j hj;simp[Array.getD]
  rw[this];simp
 ·have e:Vk ops (Array.replicate ops.size false) env (F ops.size)=env:=by
   apply List.ext_getElem?
   intro t;by_cases ht:t<env.length
   ·have hw:wr ops (Array.replicate ops.size false) t=false:=by
     unfold wr;rw[List.any_eq_false];intro j hj;simp[Array.getD]
    simp[Vk,hw,ht]
   ·rw[List.getElem?_eq_none (by rw[qo];omega),List.getElem?_eq_none (by omega)]
  rw[e,hg0];exact hR.ext hd0
 ·simp[Array.getD] at hi
end Go.AL
namespace Go.AL
variable {P:Program}
end Go.AL
namespace Go.AL
variable {P:Program}
def rI(x y:SV):Prop:=y = .any∨x=y∨norm x=y
def Yl:List SV→List SV→Prop
 | [],[]=>True
 | x::r,y::r'=>rI x y∧Yl r r'
 | _,_=>False
theorem sx{st:St}{σ:Sig}{w:World}{x y:SV}{v:Value}(h:rI x y)(r:Rep st σ w x v):Rep st σ w y v:=by
 rcases h with rfl | rfl | rfl
 ·exact .any _
 ·exact r
 ·exact r.norm
theorem DK:∀ (a b:List SV),Yl a b→a.length=b.length∧∀ i,i<b.length→rI (a.getD i .any) (b.getD i .any)
 | [],[],_=>⟨rfl,fun i hi=>absurd hi (Nat.not_lt_zero _)⟩
 | x::r,y::r',h=>by
  obtain⟨h1,h2⟩:=DK r r' h.2;refine⟨by simp[h1],fun i hi=>?_⟩;cases i with
  | zero=>exact h.1
  | succ i=>exact h2 i (by simpa using hi)
theorem xP{st:St}{σ:Sig}{w:World}{a b:List SV}{t:Array Value}(h:Yl a b)(r:RepEnv st σ w a t):RepEnv st σ w b t:=by
 obtain⟨h1,h2⟩:=DK a b h;exact⟨by rw[←h1];exact r.1,fun i hi=>sx (h2 i hi) (r.2 i (by omega))⟩
theorem hZ:Yl [] []:=trivial
theorem gB(x:SV){r r':List SV}(h:Yl r r'):Yl (x::r) (.any::r'):=⟨.inl rfl,h⟩
theorem vb(x:SV){r r':List SV}(h:Yl r r'):Yl (x::r) (x::r'):=⟨.inr (.inl rfl),h⟩
theorem vU(x:SV){r r':List SV}(h:Yl r r'):Yl (x::r) (norm x::r'):=⟨.inr (.inr rfl),h⟩
theorem qv{r r':List SV}(h:Yl r r':=by repeat (first | exact hZ | refine gB _ ?_ | refine vb _ ?_ | refine vU _ ?_)):Yl r r':=h
theorem WV{c:Code}{Q:Exit→List SV→St→Prop}{a b:List SV}{st:St}(hl:Yl a b)(h:AWp P c Q b st):AWp P c Q a st :=
 fun σ w t hI hR {_} hd=>h σ w t hI (xP hl hR) hd
def Lr(P:Program)(rs:List ResultVar)(K:SV→St→Prop):Exit→List SV→St→Prop
 | .normal=>fun env st=>(YP P env st rs).isSome=true∧K (X7 ((YP P env st rs).getD [])) st
 | .ret=>fun env st=>(YP P env st rs).isSome=true∧K (X7 ((YP P env st rs).getD [])) st
 | _=>fun _ _=>False
def sE:SV→Bool
 | .sc (.bool b)=>b
 | _=>false
def I7:SV→Prop
 | .sc (.bool b)=>True
 | _=>False
theorem nw{x:SV}(h:I7 x):x = .sc (.bool (sE x)):=by
 unfold I7 at h;split at h
 ·rfl
 ·exact h.elim
def Qo(P:Program)(M:List Nat):Code→(Exit→List SV→St→Prop)→List SV→St→Prop
 | .skip,Q,env,st=>Q .normal env st
 | .region _ ops false,Q,env,st=>XA P M (ops.toList.map (·.dst)) ops.toList env st (Q .normal)
 | .seq a b,Q,env,st=>Qo P M a (U8 (Qo P M b Q) Q) env st
 | .cond c x y,Q,env,st=>I7 (ev env c)∧(sE (ev env c)=true→Qo P M x Q env st)∧(sE (ev env c)=false→Qo P M y Q env st)
 | .block id c,Q,env,st=>Qo P M c (Ks id Q) env st
 | .exit id,Q,env,st=>Q (.exit id) env st
 | .ret,Q,env,st=>Q .ret env st
 | .label _,Q,env,st=>Q .normal env st
 | c,Q,env,st=>AWp P c Q env st
theorem D7{M:List Nat}:∀ {c:Code} {Q:Exit→List SV→St→Prop} {env:List SV} {st:St},Qo P M c Q env st→AWp P c Q env st:=by
 intro c;induction c with
 | skip=>exact fun h=>nz h
 | region id ops draw =>
  intro Q env st h;cases draw with
  | false=>exact E9 M h
  | true=>exact h
 | seq a b iha ihb =>
  intro Q env st h;refine oJ ((iha h).mono fun e env st he=>?_);cases e <;> first | exact ihb he | exact he
 | cond c x y ihx ihy =>
  intro Q env st h;obtain⟨h1,h2,h3⟩:=h;exact de (nw h1) (fun e=>ihx (h2 e)) (fun e=>ihy (h3 e))
 | block id c ih=>exact fun h=>xE (ih h)
 | exit id=>exact fun h=>mJ h
 | ret=>exact fun h=>fw h
 | label l=>exact fun h=>xC h
 | _=>exact fun h=>h
theorem Qr{M:List Nat}{f:FuncId}{fn:Func}{c:Code}{rs:Array ResultVar}{n:Nat}{args:List SV}{K:SV→St→Prop}{st:St}(hf:P.funcs[f]?=some fn)(hb:fn.body=some c)
  (hr:fn.results=rs) (hn:fn.ntmps=n) (h:Qo P M c (Lr P rs.toList K) (args++List.replicate (n-args.length) .any) st):ACalls P f args K st:=by
 subst hr;subst hn;refine gX hf hb ((D7 h).mono fun e env st hq=>?_);cases e <;> simp only[Lr] at hq <;> first | exact hq.elim | exact⟨trivial,_,qZ (d:=[]) hq.1,hq.2⟩
def Ba(st:St)(K:SV→St→Prop):SV→St→Prop:=fun x s=>(∃ ex,s=st++ex)∧Ids st.length (norm x)∧K (norm x) st
theorem zc(M:List Nat){f:FuncId}{fn:Func}{c:Code}{rs:Array ResultVar}{n:Nat}{args:List SV}{K:SV→St→Prop}{st:St}(hf:P.funcs[f]?=some fn)(hb:fn.body=some c)
  (hr:fn.results=rs) (hn:fn.ntmps=n) (h:Qo P M c (Lr P rs.toList (Ba st K)) (args++List.replicate (n-args.length) .any) st) :
  ACalls P f args K st :=
 EO ((Qr hf hb hr hn h).mono fun x s ⟨⟨ex,e⟩,h1,h2⟩=>⟨ex,e,h1,h2⟩)
theorem zt{c:Code}{Q:Exit→List SV→St→Prop}(M:List Nat)(I:Nat→List SV→St→Prop){env env0:List SV}{st:St}{n:Nat}(hl:Yl env env0)(h0:I n env0 st)
  (round:∀ n env st,I n env st→Qo P M c (U8 (fun e s=>∃ m e',m<n∧Yl e e'∧I m e' s) Q) env st):AWp P (.loop c) Q env st:=by
 refine WV hl (j5 (fun m e s=>∃ e',Yl e e'∧I m e' s) ⟨env0,?_,h0⟩ ?_)
 ·have key:∀ l:List SV,Yl l l:=by
   intro l;induction l with
   | nil=>trivial
   | cons x r ih=>exact⟨.inr (.inl rfl),ih⟩
  exact key env0
 ·rintro m e s ⟨e',hle,hi⟩;refine WV hle ((D7 (round m e' s hi)).mono fun x env st hq=>?_);cases x <;> first | exact hq | (obtain⟨m',e2,h1,h2,h3⟩:=hq;exact⟨m',h1,e2,h2,h3⟩)
theorem Dj{c:Code}{Q:Exit→List SV→St→Prop}{env:List SV}{st:St}(d z z':Nat)(he:env.getD d .any = .slice .full z' [])
  (h:AWp P c Q (env.set d (.slice (.own st.length 0) z [])) (st++[.tok 0])):AWp P c Q env st:=by
 intro σ w t hI hR D hd;have hX:Ext st σ w (st++[.tok 0]) (σ.setMu st.length none) w:=Ext.newTok none;have hI':=hI.newTok none (fun c hc=>by cases hc);have hr:=hR.get d;rw[he] at hr;have hr2:Rep (st++[.tok 0]) (σ.setMu st.length none) w (.slice (.own st.length 0) z []) (t.tmps.getD d undef):=by
  have h3:=(XY (z':=z) hr (.inl rfl)).ext hX;generalize t.tmps.getD d undef=v at h3;generalize hl:([]:List SV)=l at h3;generalize hx:SV.slice .full z l=x at h3;cases h3 with
  | nil m z hm=>cases hx;exact .nil _ _ ⟨0,by simp,Nat.le_refl _⟩
  | slice m z l a cap vals hcap hsp hzz hc hr hm =>
   cases hx;subst hl;exact .slice _ _ _ _ _ vals hcap hsp hzz hc hr ⟨0,by simp,Nat.le_refl _,fun _ =>.inl hm⟩
  | _=>cases hx
 have hR':RepEnv (st++[.tok 0]) (σ.setMu st.length none) w (env.set d (.slice (.own st.length 0) z [])) t.tmps:=by
  have h4:=hR.ext hX;refine⟨by simpa using h4.1,fun i hi=>?_⟩;simp only[List.length_set] at hi;by_cases e:d=i
  ·subst e;simpa[xgE,hi] using hr2
  ·have:=h4.2 i hi;simpa[xgE,List.getElem?_set_ne e] using this
 exact wp_mono (h _ _ t hI' hR' hd) fun e a w hp=>hp.ext hX
theorem LN{f:FuncId}{args args':List SV}{K:SV→St→Prop}{st:St}(h:args=args'):ACalls P f args K st=ACalls P f args' K st:=by rw[h]
theorem hM{c:Code}{Q:Exit→List SV→St→Prop}{env env':List SV}{st st':St}(h:env=env')(h':st=st'):AWp P c Q env st=AWp P c Q env' st':=by rw[h,h']
attribute [congr] LN hM
theorem pN(a b:Bool):(bif a then true else b)=(a || b):=by cases a <;> rfl
theorem xD(a b:Bool):(bif a then b else false)=(a&&b):=by cases a <;> rfl
section eqs
variable {M:List Nat} {K:SV→St→Prop} {env env':List SV} {st st':St} {ds ds':List (Option Tmp)} {l l':List Oper} {N:List SV→St→Prop} {o:Oper} {kd kd':Kd} {g g':Bool}
theorem Bm(h1:ds=ds')(h2:l=l')(h3:env=env')(h4:st=st'):XA P M ds l env st N=XA P M ds' l' env' st' N:=by rw[h1,h2,h3,h4]
theorem F'(h3:env=env')(h4:st=st')(h5:kd=kd'):Uj P M o env st N kd=Uj P M o env' st' N kd':=by rw[h3,h4,h5]
theorem Lb(h3:env=env')(h4:st=st')(h6:g=g')(h5:kd=kd'):Us P M o env st g N kd=Us P M o env' st' g' N kd':=by rw[h3,h4,h5,h6]
theorem G'(h3:env=env')(h4:st=st'):qr P M o env st K=qr P M o env' st' K:=by rw[h3,h4]
theorem DP{N:List SV→Prop}(h1:ds=ds')(h2:l=l')(h3:env=env')(h4:st=st'):XG P M ds l env st N=XG P M ds' l' env' st' N:=by rw[h1,h2,h3,h4]
theorem LP{N:SV→Prop}(h1:ds=ds')(h3:env=env')(h4:st=st'):Zg P M ds o env st N=Zg P M ds' o env' st' N:=by rw[h1,h3,h4]
theorem FU{N:SV→Prop}(h3:env=env')(h4:st=st')(h5:kd=kd'):Uk P M o env st N kd=Uk P M o env' st' N kd':=by rw[h3,h4,h5]
theorem FK{N:SV→Prop}(h3:env=env')(h4:st=st')(h6:g=g')(h5:kd=kd'):Ud P M o env st g N kd=Ud P M o env' st' g' N kd':=by rw[h3,h4,h5,h6]
theorem EY{t:TypeId}{y y' x x':SV}{N:St→Prop}(h:st=st')(h1:y=y')(h2:x=x'):YJ P t st y x N=YJ P t st' y' x' N:=by rw[h,h1,h2]
theorem Bb{t tx:TypeId}{y y' x x':SV}(h:st=st')(h1:x=x')(h2:y=y'):Y2 P t tx st x y K=Y2 P t tx st' x' y' K:=by rw[h,h1,h2]
theorem Dx{a a':List SV}{x x':SV}(h:a=a')(h1:st=st')(h2:x=x'):V9 P a st x K=V9 P a' st' x' K:=by rw[h,h1,h2]
theorem HL{mk ob:Bool}{a a':List Operand}{t t':List TypeId}{c c':Callee}(h3:env=env')(h4:st=st')(h:a=a')(h1:t=t')(h2:c=c'):WL P o mk ob env st K a t c=WL P o mk ob env' st' K a' t' c':=by rw[h,h1,h2,h3,h4]
theorem FJ{mk ob:Bool}{a a':List Operand}{t t':List TypeId}{c:Builtin}(h3:env=env')(h4:st=st')(h:a=a')(h1:t=t'):FZ P o mk ob env st K c a t=FZ P o mk ob env' st' K c a' t':=by rw[h,h1,h3,h4]
theorem kj{c:Code}{Q:Exit→List SV→St→Prop}(h3:env=env')(h4:st=st'):Qo P M c Q env st=Qo P M c Q env' st':=by rw[h3,h4]
attribute [congr] Bm F' Lb G' DP LP FU FK EY Bb Dx HL FJ kj
variable {t tx:TypeId} {k k':IntKind} {m n i:Int} {s s':ByteArray} {b b' c:Bool} {x y z:SV} {xs ys:List SV} {md md':Mode} {zz z1:Nat} {id off f j:Nat} {fn:Fn} {p:Prop} {v:Value}
@[go_sem] theorem i7{op:BinOp}:Gf P op t (.sc (.int k m)) (.sc (.int k' n))=(Qb op k k'∧Vf op n):=rfl
@[go_sem] theorem sR:Qb .add k k'=(k=k'):=rfl
@[go_sem] theorem iN:Qb .sub k k'=(k=k'):=rfl
@[go_sem] theorem iX:Qb .mul k k'=(k=k'):=rfl
@[go_sem] theorem iQ:Qb .quo k k'=(k=k'):=rfl
@[go_sem] theorem sX:Qb .rem k k'=(k=k'):=rfl
@[go_sem] theorem Af:Qb .eql k k'=(k=k'):=rfl
@[go_sem] theorem sP:Qb .neq k k'=(k=k'):=rfl
@[go_sem] theorem iR:Qb .lss k k'=(k=k'):=rfl
@[go_sem] theorem sJ:Qb .leq k k'=(k=k'):=rfl
@[go_sem] theorem im:Qb .gtr k k'=(k=k'):=rfl
@[go_sem] theorem s9:Qb .geq k k'=(k=k'):=rfl
@[go_sem] theorem iD:Qb .and k k'=(k=k'):=rfl
@[go_sem] theorem AM:Qb .or k k'=(k=k'):=rfl
@[go_sem] theorem Ao:Qb .xor k k'=(k=k'):=rfl
@[go_sem] theorem bP:Qb .andNot k k'=(k=k'):=rfl
@[go_sem] theorem sS:Qb .shl k k'=True:=rfl
@[go_sem] theorem sK:Qb .shr k k'=True:=rfl
@[go_sem] theorem sB{op:BinOp}:Gf P op t (.sc (.string s)) (.sc (.string s'))=Kj op s s':=rfl
@[go_sem] theorem Av:G6 .eql=True:=rfl
@[go_sem] theorem I3:G6 .neq=True:=rfl
@[go_sem] theorem il:W1 .eql b=b:=rfl
@[go_sem] theorem sZ:W1 .neq b = !b:=rfl
@[go_sem] theorem rS{op:BinOp}:Gf P op t (.sc (.bool b)) (.sc (.bool b'))=(G6 op∧P.underlying t=some .bool):=rfl
@[go_sem] theorem Ah{op:BinOp}{l r:List SV}:Gf P op t (.agg l) (.agg r)=(G6 op∧LK P t l r):=rfl
@[go_sem] theorem A7{op:BinOp}{l r:List SV}:G8 op (.agg l) (.agg r) = .sc (.bool (W1 op (EC l r))):=rfl
@[go_sem] theorem Il{op:BinOp}:G8 op (.sc (.int k m)) (.sc (.int k' n)) = .sc (JO op k m n):=rfl
@[go_sem] theorem AN{op:BinOp}:G8 op (.sc (.string s)) (.sc (.string s')) = .sc (UY op s s'):=rfl
@[go_sem] theorem iW{op:BinOp}:G8 op (.sc (.bool b)) (.sc (.bool b')) = .sc (.bool (W1 op (b==b'))):=rfl
@[go_sem] theorem Ak{op:UnOp}:nP op (.sc (.bool b))=(op = .not):=rfl
@[go_sem] theorem Cl{op:UnOp}:nP op (.sc (.int k m))=(op = .neg):=rfl
@[go_sem] theorem Ck{op:UnOp}:Am op (.sc (.bool b)) = .sc (.bool (!b)):=rfl
@[go_sem] theorem Mw{op:UnOp}:Am op (.sc (.int k m)) = .sc (.int k (k.wrap (0-m))):=rfl
@[go_sem] theorem r8:H3 P t st (.ref xs)=((q7 P t xs).isSome=true):=rfl
@[go_sem] theorem ly:H3 P t st (.ptr id off)=(Qd st id∧(q7 P t ((Zl st id).drop off)).isSome=true):=rfl
@[go_sem] theorem sV:ER P t st (.ref xs)=(q7 P t xs).getD .any:=rfl
@[go_sem] theorem i9:ER P t st (.ptr id off)=(q7 P t ((Zl st id).drop off)).getD .any:=rfl
@[go_sem] theorem o9:KV P t st f (.ref xs)=((zP P t f).isSome=true∧((zP P t f).getD (0,0)).2≠0):=rfl
@[go_sem] theorem eO:KV P t st f (.ptr id off)=((zP P t f).isSome=true∧((zP P t f).getD (0,0)).2≠0):=rfl
@[go_sem] theorem sd:Kn P t f (.ref xs) = .ref ((xs.drop ((zP P t f).getD (0,0)).1).take ((zP P t f).getD (0,0)).2):=rfl
@[go_sem] theorem aZ:Kn P t f (.ptr id off) = .ptr id (off+((zP P t f).getD (0,0)).1):=rfl
@[go_sem] theorem eS:D1 P t st (.slice md zz xs) (.sc (.int k i))=((zT P t).bind (zS P)=some zz∧0≤i∧i<xs.length):=rfl
@[go_sem] theorem lv:Bl P t st (.slice md zz xs) (.sc (.int k i)) = .ref (xs.getD i.toNat .any).cells:=rfl
@[go_sem] theorem eE:Et P t st (.slice md zz xs)=((zT P t).isSome=true):=rfl
@[go_sem] theorem iL:Et P t st (.sc (.string s))=(P.underlying t=some .string):=rfl
@[go_sem] theorem sw:E8 st (.slice md zz xs) = .sc (.int .i64 xs.length):=rfl
@[go_sem] theorem IE:E8 st (.sc (.string s)) = .sc (.int .i64 s.size):=rfl
@[go_sem] theorem eu:yH j (.tuple xs)=(j<xs.length):=rfl
@[go_sem] theorem su:bQ j (.tuple xs)=xs.getD j .any:=rfl
@[go_sem] theorem ll{ρ:Operand→SV}{lo hi mx:Option Operand}:Kp P t st ρ lo hi mx (.slice md zz xs)=(((zT P t).bind (zS P)=some zz∨(xs=[]∧(md = .full∨md = .imm)∧((zT P t).bind (zS P)).isSome=true))∧(qs ρ lo 0).isSome=true∧(qs ρ hi xs.length).isSome=true ∧
  0≤Zp ρ lo 0∧Zp ρ lo 0≤Zp ρ hi xs.length∧Zp ρ hi xs.length≤xs.length∧(mx.isSome=true→hi.isSome=true∧qs ρ mx 0=qs ρ hi xs.length)):=rfl
@[go_sem] theorem lT{ρ:Operand→SV}{lo hi mx:Option Operand}:UW P t ρ lo hi mx (.slice md zz xs) = .slice (if mx.isSome then .full else .imm) zz ((xs.take (Zp ρ hi xs.length).toNat).drop (Zp ρ lo 0).toNat):=rfl
@[go_sem] theorem Ae{ρ:Operand→SV}{lo hi mx:Option Operand}:Kp P t st ρ lo hi mx (.sc (.string s))=(mx=none∧P.underlying t=some .string∧(qs ρ lo 0).isSome=true∧(qs ρ hi s.size).isSome=true ∧
  0≤Zp ρ lo 0∧Zp ρ lo 0≤Zp ρ hi s.size∧Zp ρ hi s.size≤s.size):=rfl
@[go_sem] theorem Ce{ρ:Operand→SV}{lo hi mx:Option Operand}:UW P t ρ lo hi mx (.sc (.string s)) = .sc (.string (s.extract (Zp ρ lo 0).toNat (Zp ρ hi s.size).toNat)):=rfl
@[go_sem] theorem ru{ρ:Operand→SV}{d:Nat}:qs ρ none d=some (d:Int):=rfl
def xi:SV→Option Int | .sc (.int _ n)=>some n | _=>none
@[go_sem] theorem aS{ρ:Operand→SV}{d:Nat}{q:Operand}:qs ρ (some q) d=xi (ρ q):=by
 simp only[qs];generalize ρ q=x;cases x with
 | sc v=>cases v <;> rfl
 | _=>rfl
@[go_sem] theorem CX:xi (.sc (.int k n))=some n:=rfl
@[go_sem] theorem IQ{ρ:Operand→SV}{q:Option Operand}{d:Nat}:Zp ρ q d=(qs ρ q d).getD 0:=rfl
@[go_sem] theorem Cc:Vc (.sc (.bool b))=True:=rfl
@[go_sem] theorem Ii:Vc (.gd g (.sc (.bool b)))=True:=rfl
attribute [go_sem] dH mY
@[go_sem] theorem Nc:Ht c (.sc (.bool b))=(b==c):=rfl
@[go_sem] theorem NG:Ht c (.gd g (.sc (.bool b)))=(g&&(b==c)):=rfl
@[go_sem] theorem Nq:Eh p (.gd g x)=(p→g=true):=rfl
@[go_sem] theorem M8:Eh p (.sc v)=True:=rfl
@[go_sem] theorem iV:Eh p (.slice md zz xs)=True:=rfl
@[go_sem] theorem Mp:Eh p (.ref xs)=True:=rfl
@[go_sem] theorem MT:Eh p (.ptr id off)=True:=rfl
@[go_sem] theorem Mx:Eh p (.agg xs)=True:=rfl
@[go_sem] theorem A8:Eh p (.func fn xs ys)=True:=rfl
@[go_sem] theorem Aj:Eh p (.tuple xs)=True:=rfl
@[go_sem] theorem C4:ZB (.gd g x)=x:=rfl
@[go_sem] theorem Ib:ZB (.sc v) = .sc v:=rfl
@[go_sem] theorem eU:ZB (.slice md zz xs) = .slice md zz xs:=rfl
@[go_sem] theorem ij:ZB (.ref xs) = .ref xs:=rfl
@[go_sem] theorem iI:ZB (.ptr id off) = .ptr id off:=rfl
@[go_sem] theorem sF:ZB (.agg xs) = .agg xs:=rfl
@[go_sem] theorem aM:ZB (.func fn xs ys) = .func fn xs ys:=rfl
@[go_sem] theorem lh:ZB (.tuple xs) = .tuple xs:=rfl
@[go_sem] theorem Iu:Jf (.sc (.bool b)) x y=(Eh (b=true) x∧Eh (b=false) y):=rfl
@[go_sem] theorem Mr:WZ (.sc (.bool b)) x y=Hp b (ZB x) (ZB y):=rfl
@[go_sem] theorem Mj:Hp c (.sc (.bool b)) (.sc (.bool b')) = .sc (.bool (bif c then b else b')):=rfl
@[go_sem] theorem N8:I7 (.sc (.bool b))=True:=rfl
@[go_sem] theorem NY:sE (.sc (.bool b))=b:=rfl
@[go_sem] theorem iy:(SV.agg xs).cells=xs:=rfl
@[go_sem] theorem A':(SV.sc v).cells=[.sc v]:=rfl
@[go_sem] theorem eJ:(SV.slice md zz xs).cells=[.slice md zz xs]:=rfl
@[go_sem] theorem iO:(SV.ref xs).cells=[.ref xs]:=rfl
@[go_sem] theorem iB:(SV.ptr id off).cells=[.ptr id off]:=rfl
@[go_sem] theorem sa:(SV.func fn xs ys).cells=[.func fn xs ys]:=rfl
@[go_sem] theorem iT:qG (.agg xs)=true:=rfl
@[go_sem] theorem ei:qG (.slice md zz xs)=true:=rfl
@[go_sem] theorem iZ:qG (.ref xs)=true:=rfl
@[go_sem] theorem Al:qG (.ptr id off)=true:=rfl
@[go_sem] theorem rP:qG (.func fn xs ys)=true:=rfl
@[go_sem] theorem CR:qG (.sc v)=v.oneCell':=rfl
@[go_sem] theorem iE:Yb (.sc v)=v.oneCell':=rfl
@[go_sem] theorem bZ:Yb (.slice md zz xs)=true:=rfl
@[go_sem] theorem a8:Yb (.ref xs)=true:=rfl
@[go_sem] theorem rE:Yb (.ptr id off)=true:=rfl
@[go_sem] theorem eG:Yb (.func fn xs ys)=true:=rfl
@[go_sem] theorem MF:(Value.int k n).oneCell'=true:=rfl
@[go_sem] theorem CA:(Value.bool b).oneCell'=true:=rfl
@[go_sem] theorem MU:(Value.string s).oneCell'=true:=rfl
@[go_sem] theorem MO{a:Option Addr}:(Value.pointer a).oneCell'=true:=rfl
@[go_sem] theorem aa:Qt x=x.cells.all Yb:=rfl
@[go_sem] theorem oZ:norm1 (.slice md zz xs) = .slice .imm zz xs:=rfl
@[go_sem] theorem Cv:norm1 (.sc v) = .sc v:=rfl
@[go_sem] theorem ip:norm1 (.ref xs) = .ref xs:=rfl
@[go_sem] theorem sU:norm1 (.ptr id off) = .ptr id off:=rfl
@[go_sem] theorem lE:norm1 (.func fn xs ys) = .func fn xs ys:=rfl
@[go_sem] theorem iv:norm1 (.agg xs) = .agg xs:=rfl
@[go_sem] theorem A4:norm (.agg xs) = .agg (xs.map norm1):=rfl
@[go_sem] theorem Ut:norm (.tuple xs) = .tuple (xs.map norm1):=rfl
@[go_sem] theorem rm:norm (.slice md zz xs) = .slice .imm zz xs:=rfl
@[go_sem] theorem MP:norm (.sc v) = .sc v:=rfl
@[go_sem] theorem C7:norm (.ref xs) = .ref xs:=rfl
@[go_sem] theorem At:norm (.ptr id off) = .ptr id off:=rfl
@[go_sem] theorem sy:norm (.func fn xs ys) = .func fn xs ys:=rfl
variable {len cap id' off' len' cap' z0:Nat}
@[go_sem] theorem Ac:D1 P t st (.slc id zz off len cap) (.sc (.int k i))=((zT P t).bind (zS P)=some zz∧0≤i∧i<len):=rfl
@[go_sem] theorem IW:Bl P t st (.slc id zz off len cap) (.sc (.int k i)) = .ptr id (off+i.toNat*zz):=rfl
@[go_sem] theorem sD:Et P t st (.slc id zz off len cap)=((zT P t).isSome=true):=rfl
@[go_sem] theorem A6:E8 st (.slc id zz off len cap) = .sc (.int .i64 len):=rfl
@[go_sem] theorem Aq{ρ:Operand→SV}{lo hi mx:Option Operand}:Kp P t st ρ lo hi mx (.slc id zz off len cap)=(mx=none∧(zT P t).bind (zS P)=some zz∧(qs ρ lo 0).isSome=true∧(qs ρ hi len).isSome=true ∧
  0≤Zp ρ lo 0∧Zp ρ lo 0≤Zp ρ hi len∧Zp ρ hi len≤cap):=rfl
@[go_sem] theorem CS{ρ:Operand→SV}{lo hi mx:Option Operand}:UW P t ρ lo hi mx (.slc id zz off len cap) = .slc id zz (if cap=(Zp ρ lo 0).toNat then off else off+(Zp ρ lo 0).toNat*zz) ((Zp ρ hi len).toNat-(Zp ρ lo 0).toNat) (cap-(Zp ρ lo 0).toNat):=rfl
@[go_sem] theorem MH:Eh p (.slc id zz off len cap)=True:=rfl
@[go_sem] theorem iF:ZB (.slc id zz off len cap) = .slc id zz off len cap:=rfl
@[go_sem] theorem sM:(SV.slc id zz off len cap).cells=[.slc id zz off len cap]:=rfl
@[go_sem] theorem ia:qG (.slc id zz off len cap)=true:=rfl
@[go_sem] theorem lF:Yb (.slc id zz off len cap)=true:=rfl
@[go_sem] theorem Cd:norm (.slc id zz off len cap) = .slc id zz off len cap:=rfl
@[go_sem] theorem iq:norm1 (.slc id zz off len cap) = .slc id zz off len cap:=rfl
@[go_sem] theorem Ig:Y2 P t tx st (.slice .full z1 xs) (.slice md zz ys) K=((xs=[]∨z1=zz)∧AppOk P t tx zz (xs.length+ys.length)∧K (.slice (.own st.length 0) zz (xs++ys)) (st++[.tok 0])):=rfl
@[go_sem] theorem MS{ver:Nat}:Y2 P t tx st (.slice (.own id ver) zz xs) (.slice md z1 ys) K=((ys=[]∨z1=zz)∧Ym st id ver∧AppOk P t tx zz (xs.length+ys.length) ∧
   (∀ s∈ys,Qt s=true)∧K (.slice (.own id (ver+1)) zz (xs++ys)) (st.set id (.tok (ver+1)))):=rfl
variable {ver n':Nat}
@[go_sem] theorem eA:H3 P t st (.aptr id ver off)=(ZQ st id ver∧(q7 P t ((Xm st id).drop off)).isSome=true):=rfl
@[go_sem] theorem rW:ER P t st (.aptr id ver off)=(q7 P t ((Xm st id).drop off)).getD .any:=rfl
@[go_sem] theorem ou:KV P t st f (.aptr id ver off)=(ZQ st id ver∧(zP P t f).isSome=true∧((zP P t f).getD (0,0)).2≠0):=rfl
@[go_sem] theorem eD:Kn P t f (.aptr id ver off) = .aptr id ver (off+((zP P t f).getD (0,0)).1):=rfl
@[go_sem] theorem sA:D1 P t st (.arr id ver n') (.sc (.int k i))=(ZQ st id ver∧(zT P t).bind (zS P)=some (Qs st id)∧0≤i∧i<n'):=rfl
@[go_sem] theorem Cp:Bl P t st (.arr id ver n') (.sc (.int k i)) = .aptr id ver (i.toNat*Qs st id):=rfl
@[go_sem] theorem sH:Et P t st (.arr id ver n')=(ZQ st id ver∧(zT P t).isSome=true):=rfl
@[go_sem] theorem Ic:E8 st (.arr id ver n') = .sc (.int .i64 n'):=rfl
@[go_sem] theorem Ag{ρ:Operand→SV}{lo hi mx:Option Operand}:Kp P t st ρ lo hi mx (.arr id ver n')=(mx=none∧ZQ st id ver∧((zT P t).bind (zS P)).isSome=true∧qs ρ lo 0=some 0 ∧
  (qs ρ hi n').isSome=true∧0≤Zp ρ hi n'∧Zp ρ hi n'≤n'):=rfl
@[go_sem] theorem CK{ρ:Operand→SV}{lo hi mx:Option Operand}:UW P t ρ lo hi mx (.arr id ver n') = .arr id ver (Zp ρ hi n').toNat:=rfl
@[go_sem] theorem ik{ρ:Operand→SV}{hi mx:Option Operand}:Kp P t st ρ none hi mx (.ptr id off)=(mx=none∧hi=none∧(XZ P t).isSome=true):=by simp[Kp]
@[go_sem] theorem lW{ρ:Operand→SV}{hi mx:Option Operand}{y:Operand}:Kp P t st ρ (some y) hi mx (.ptr id off)=(mx=none∧hi=none∧(XZ P t).isSome=true∧(qs ρ (some y) 0).isSome=true∧0≤Zp ρ (some y) 0∧Zp ρ (some y) 0≤((XZ P t).getD (0,0)).1):=by simp[Kp]
@[go_sem] theorem ir{ρ:Operand→SV}{hi mx:Option Operand}{y:Operand}:UW P t ρ (some y) hi mx (.ptr id off) = .slc id ((XZ P t).getD (0,0)).2 (if ((XZ P t).getD (0,0)).1=(Zp ρ (some y) 0).toNat then off else off+(Zp ρ (some y) 0).toNat*((XZ P t).getD (0,0)).2) (((XZ P t).getD (0,0)).1-(Zp ρ (some y) 0).toNat) (((XZ P t).getD (0,0)).1-(Zp ρ (some y) 0).toNat):=rfl
@[go_sem] theorem IR{ρ:Operand→SV}{hi mx:Option Operand}:UW P t ρ none hi mx (.ptr id off) = .slc id ((XZ P t).getD (0,0)).2 off ((XZ P t).getD (0,0)).1 ((XZ P t).getD (0,0)).1:=rfl
@[go_sem] theorem Mv:Eh p (.arr id ver n')=True:=rfl
@[go_sem] theorem Ax:Eh p (.aptr id ver n')=True:=rfl
@[go_sem] theorem iU:ZB (.arr id ver n') = .arr id ver n':=rfl
@[go_sem] theorem rQ:ZB (.aptr id ver n') = .aptr id ver n':=rfl
@[go_sem] theorem ie:(SV.arr id ver n').cells=[.arr id ver n']:=rfl
@[go_sem] theorem aX:(SV.aptr id ver n').cells=[.aptr id ver n']:=rfl
@[go_sem] theorem iu:qG (.arr id ver n')=true:=rfl
@[go_sem] theorem l9:qG (.aptr id ver n')=true:=rfl
@[go_sem] theorem lP:Yb (.arr id ver n')=true:=rfl
@[go_sem] theorem o8:Yb (.aptr id ver n')=true:=rfl
@[go_sem] theorem CL:norm (.arr id ver n') = .arr id ver n':=rfl
@[go_sem] theorem iA:norm (.aptr id ver n') = .aptr id ver n':=rfl
@[go_sem] theorem sI:norm1 (.arr id ver n') = .arr id ver n':=rfl
@[go_sem] theorem rZ:norm1 (.aptr id ver n') = .aptr id ver n':=rfl
@[go_sem] theorem MV:Y2 P t tx st (.arr id ver n') (.slice md z1 ys) K=((ys=[]∨z1=Qs st id)∧ZQ st id ver∧AppOk P t tx (Qs st id) (n'+ys.length) ∧
   (∀ s∈ys,Qt s=true)∧K (.arr id (ver+1) (n'+ys.length)) (st.set id (.arr (ver+1) (Qs st id) ((Xm st id).take (n'*Qs st id)++ys.flatMap SV.cells)))):=rfl
@[go_sem] theorem al{N:St→Prop}:YJ P t st y (.aptr id ver off) N=(ZQ st id ver∧zS P t=some y.cells.length∧qG y=true∧Qt y=true∧off+y.cells.length≤(Xm st id).length ∧
   N (st.set id (.arr ver (Qs st id) (XN (Xm st id) off y.cells)))):=rfl
@[go_sem] theorem oY:Uy st (.aptr id ver off)=ZQ st id ver:=rfl
@[go_sem] theorem C'(x y:Operand)(ts:Array TypeId):qA (.call ⟨.builtin .max,#[x,y],ts⟩) = .pure:=rfl
@[go_sem] theorem M9{ρ:Operand→SV}(x y:Operand)(ts:Array TypeId):qQ P st ρ (.call ⟨.builtin .max,#[x,y],ts⟩)=jQ (ρ x) (ρ y):=rfl
@[go_sem] theorem M3{ρ:Operand→SV}(x y:Operand)(ts:Array TypeId):qq P st ρ (.call ⟨.builtin .max,#[x,y],ts⟩)=fg (ρ x) (ρ y):=rfl
@[go_sem] theorem sL{k':IntKind}:jQ (.sc (.int k m)) (.sc (.int k' n))=True:=rfl
@[go_sem] theorem Az{k':IntKind}:fg (.sc (.int k m)) (.sc (.int k' n)) = .sc (.int k (if n > m then n else m)):=rfl
@[go_sem] theorem M1:YG P t tx st (.slice .full z0 []) (.slice md zz ys) K=(AppOk P t tx zz ys.length∧(∀ s∈ys,Qt s=true)∧K (.arr st.length 1 ys.length) (st++[.arr 1 zz (ys.flatMap SV.cells)])):=rfl
@[go_sem] theorem rg{id ver n':Nat}:YG P t tx st (.slice .full z0 []) (.arr id ver n') K=(ZQ st id ver∧(Wd (Qs st id) n' (Xm st id)).length=n'∧(Wd (Qs st id) n' (Xm st id)).flatMap SV.cells=(Xm st id).take (n'*Qs st id)∧(∀ x∈Wd (Qs st id) n' (Xm st id),x.cells.length=Qs st id∧Qt x=true)∧AppOk P t tx (Qs st id) n'∧K (.arr st.length 1 n') (st++[.arr 1 (Qs st id) ((Xm st id).take (n'*Qs st id))])):=rfl
@[go_sem] theorem M':YG P t tx st (.arr id ver n') (.slice md z1 ys) K=Y2 P t tx st (.arr id ver n') (.slice md z1 ys) K:=rfl
theorem E5{x x' y y':SV}(h:st=st')(h1:x=x')(h2:y=y'):YG P t tx st x y K=YG P t tx st' x' y' K:=by rw[h,h1,h2]
attribute [congr] E5
@[go_sem] theorem iY{N:St→Prop}:YJ P t st y (.ptr id off) N=(Qd st id∧zS P t=some y.cells.length∧qG y=true∧Qt y=true∧off+y.cells.length≤(Zl st id).length ∧
   N (st.set id (.cells (XN (Zl st id) off y.cells)))):=rfl
@[go_sem] theorem IG(l:List SV):Zl (st++[.cells l]) st.length=l:=by simp[Zl]
@[go_sem] theorem Nb:ev env (.tmp j)=env.getD j .any:=rfl
@[go_sem] theorem Mc:ev env (.func j) = .func (.func j) [] []:=rfl
@[go_sem] theorem NF:ev env (.const (.int k n)) = .sc (.int k n):=rfl
@[go_sem] theorem NE(vs:Array Value):ev env (.const (.agg vs)) = .agg (vs.toList.map K8):=rfl
@[go_sem] theorem An:K8 (.int k n) = .sc (.int k n):=rfl
@[go_sem] theorem re:K8 (.bool b) = .sc (.bool b):=rfl
@[go_sem] theorem Aa:K8 (.string s) = .sc (.string s):=rfl
@[go_sem] theorem sO:K8 (.slice none 0 0) = .slice .full 0 []:=rfl
@[go_sem] theorem ic:K8 (.pointer none) = .sc (.pointer none):=rfl
@[go_sem] theorem ME:ev env (.const (.bool b)) = .sc (.bool b):=rfl
@[go_sem] theorem NA:ev env (.const (.string s)) = .sc (.string s):=rfl
@[go_sem] theorem eW:ev env (.const (.slice none 0 0)) = .slice .full 0 []:=rfl
@[go_sem] theorem sQ:ev env (.const (.pointer none)) = .sc (.pointer none):=rfl
def US(P:Program)(T:TypeId)(st:St):SV→Option SV
 | .ptr id off=>match st[id]? with
  | some (.cells l)=>q7 P T (l.drop off)
  | _=>none
 | .ref l=>q7 P T l
 | _=>none
@[go_sem] theorem C5{q:Nat}:G5 P env st (.cell q t)=US P t st (env.getD q .any):=by
 simp only[G5,US];cases env.getD q .any <;> rfl
theorem bJ(ho:Qd st id):US P t st (.ptr id off)=q7 P t ((Zl st id).drop off):=by simp only[US,FY ho]
attribute [go_sem] bJ
@[go_sem] theorem MD:US P t st (.ref xs)=q7 P t xs:=rfl
@[go_sem] theorem Md:X7 [x]=x:=rfl
@[go_sem] theorem AR:X7 (x::y::xs) = .tuple (x::y::xs):=rfl
@[go_sem] theorem MA:G5 P env st (.tmp j)=some (env.getD j .any):=rfl
end eqs
section eqs2
variable {M:List Nat} {K:SV→St→Prop} {env:List SV} {st:St} {ds:List (Option Tmp)} {N:List SV→St→Prop} {d:Option Tmp} {op:Op} {ty:TypeId} {pos:String} {aft:Array Edge} {gu:Option (Nat×Bool)} {g want:Bool} {r:List Oper} {ρ:Operand→SV} {t:TypeId} {j f:Nat} {fn:Fn} {Q:Exit→List SV→St→Prop}
@[go_sem] theorem ii(x:Operand):qA (.move x) = .pure:=rfl
@[go_sem] theorem Me(x:Operand):qQ P st ρ (.move x)=(True):=rfl
@[go_sem] theorem I4(x:Operand):qq P st ρ (.move x)=ρ x:=rfl
@[go_sem] theorem lr(x:Operand):qA (.assign x) = .pure:=rfl
@[go_sem] theorem ib(x:Operand):qQ P st ρ (.assign x)=(True):=rfl
@[go_sem] theorem lG(x:Operand):qq P st ρ (.assign x)=ρ x:=rfl
@[go_sem] theorem bV(x:Operand):qA (.extract x j) = .pure:=rfl
@[go_sem] theorem rp(x:Operand):qQ P st ρ (.extract x j)=(yH j (ρ x)):=rfl
@[go_sem] theorem oW(x:Operand):qq P st ρ (.extract x j)=bQ j (ρ x):=rfl
@[go_sem] theorem aU{op:BinOp}{u:TypeId}(x y:Operand):qA (.binOp op t x y u) = .pure:=rfl
@[go_sem] theorem Cb{op:BinOp}{u:TypeId}(x y:Operand):qQ P st ρ (.binOp op t x y u)=(if Xo y then Qv P op t y (ρ x) else Gf P op t (ρ x) (ρ y)):=rfl
@[go_sem] theorem s8{op:BinOp}{u:TypeId}(x y:Operand):qq P st ρ (.binOp op t x y u)=(if Xo y then KG op (ρ x) else G8 op (ρ x) (ρ y)):=rfl
@[go_sem] theorem iw{op:UnOp}(x:Operand):qA (.unOp op t x) = .pure:=rfl
@[go_sem] theorem Mq{op:UnOp}(x:Operand):qQ P st ρ (.unOp op t x)=(nP op (ρ x)):=rfl
@[go_sem] theorem CH{op:UnOp}(x:Operand):qq P st ρ (.unOp op t x)=Am op (ρ x):=rfl
@[go_sem] theorem bu(fi ca:Array Operand):qA (.makeFunc fn fi ca) = .pure:=rfl
@[go_sem] theorem lm(fi ca:Array Operand):qQ P st ρ (.makeFunc fn fi ca)=(True):=rfl
@[go_sem] theorem fq(fi ca:Array Operand):qq P st ρ (.makeFunc fn fi ca) = .func fn (fi.toList.map ρ) (ca.toList.map ρ):=rfl
@[go_sem] theorem bB(x:Operand):qA (.nilCheck x) = .pure:=rfl
@[go_sem] theorem eH(x:Operand):qQ P st ρ (.nilCheck x)=Uy st (ρ x):=rfl
@[go_sem] theorem th(x:Operand):qq P st ρ (.nilCheck x)=ρ x:=rfl
@[go_sem] theorem rB{xs:List SV}:Uy st (.ref xs)=True:=rfl
@[go_sem] theorem ss{id off:Nat}:Uy st (.ptr id off)=True:=rfl
@[go_sem] theorem Ar(x:Operand):qA (.load t x) = .pure:=rfl
@[go_sem] theorem M0(x:Operand):qQ P st ρ (.load t x)=(H3 P t st (ρ x)):=rfl
@[go_sem] theorem Cu(x:Operand):qq P st ρ (.load t x)=ER P t st (ρ x):=rfl
@[go_sem] theorem cR(x:Operand):qA (.fieldAddr t x f) = .pure:=rfl
@[go_sem] theorem tw(x:Operand):qQ P st ρ (.fieldAddr t x f)=(KV P t st f (ρ x)):=rfl
@[go_sem] theorem bj(x:Operand):qq P st ρ (.fieldAddr t x f)=Kn P t f (ρ x):=rfl
@[go_sem] theorem so(x:Operand):qA (.field t x f) = .pure:=rfl
@[go_sem] theorem Cs(x:Operand):qQ P st ρ (.field t x f)=(wF P t f (ρ x)):=rfl
@[go_sem] theorem Ad(x:Operand):qq P st ρ (.field t x f)=nT P t f (ρ x):=rfl
@[go_sem] theorem cP(x y:Operand):qA (.indexAddr t x y) = .pure:=rfl
@[go_sem] theorem Ab{id off:Nat}{k:IntKind}{i:Int}:D1 P t st (.ptr id off) (.sc (.int k i))=((XZ P t).isSome=true∧0≤i∧i<((XZ P t).getD (0,0)).1):=rfl
@[go_sem] theorem ID{id off:Nat}{k:IntKind}{i:Int}:Bl P t st (.ptr id off) (.sc (.int k i)) = .ptr id (off+i.toNat*((XZ P t).getD (0,0)).2):=rfl
@[go_sem] theorem aB(x y:Operand):qA (.index t x y) = .pure:=rfl
@[go_sem] theorem AJ(x y:Operand):qQ P st ρ (.index t x y)=(px P t (ρ x) (ρ y)):=rfl
@[go_sem] theorem iK(x y:Operand):qq P st ρ (.index t x y)=iH (ρ x) (ρ y):=rfl
@[go_sem] theorem Cn{l:List SV}{k:IntKind}{i:Int}:px P t (.agg l) (.sc (.int k i))=((Hm P t).isSome=true∧0≤i∧i<(Hm P t).getD 0∧(Hm P t).getD 0≤l.length):=rfl
@[go_sem] theorem Io{s:ByteArray}{k:IntKind}{i:Int}:px P t (.sc (.string s)) (.sc (.int k i))=(P.underlying t=some .string∧0≤i∧i<s.size):=rfl
@[go_sem] theorem M2{l:List SV}{k:IntKind}{i:Int}:iH (.agg l) (.sc (.int k i))=l.getD i.toNat .any:=rfl
@[go_sem] theorem Mi{s:ByteArray}{k:IntKind}{i:Int}:iH (.sc (.string s)) (.sc (.int k i)) = .sc (.int .u8 ((s.get! i.toNat).toNat:Int)):=rfl
@[go_sem] theorem oI(x y:Operand):qQ P st ρ (.indexAddr t x y)=(D1 P t st (ρ x) (ρ y)):=rfl
@[go_sem] theorem bC(x y:Operand):qq P st ρ (.indexAddr t x y)=Bl P t st (ρ x) (ρ y):=rfl
@[go_sem] theorem rl(x:Operand)(lo hi mx:Option Operand):qA (.slice t x lo hi mx) = .pure:=rfl
@[go_sem] theorem IJ(x:Operand)(lo hi mx:Option Operand):qQ P st ρ (.slice t x lo hi mx)=(Kp P t st ρ lo hi mx (ρ x)):=rfl
@[go_sem] theorem Ap(x:Operand)(lo hi mx:Option Operand):qq P st ρ (.slice t x lo hi mx)=UW P t ρ lo hi mx (ρ x):=rfl
@[go_sem] theorem iM(c x y:Operand):qA (.pick c x y) = .pick c x y:=rfl
@[go_sem] theorem sj:qA (.alloc t) = .eff:=rfl
@[go_sem] theorem Cy(x:Operand):qA (.box t x) = .eff:=rfl
@[go_sem] theorem aN(p:Array (Nat×Operand)):qA (.build t p) = .eff:=rfl
@[go_sem] theorem po(n:Nat)(p:Array (Nat×Operand)):qA (.buildSlice t n p) = .eff:=rfl
@[go_sem] theorem sb(x y:Operand):qA (.store t x y) = .eff:=rfl
@[go_sem] theorem iJ(c:Operand)(a:Array Operand)(ts:Array TypeId):qA (.call ⟨.value c,a,ts⟩) = .eff:=rfl
@[go_sem] theorem lg(a:Array Operand)(ts:Array TypeId):qA (.call ⟨.builtin .append,a,ts⟩) = .eff:=rfl
@[go_sem] theorem Cx(a:Array Operand)(ts:Array TypeId):qA (.call ⟨.builtin .len,a,ts⟩) = .pure:=rfl
@[go_sem] theorem NS(x:Operand)(t:TypeId):qQ P st ρ (.call ⟨.builtin .len,#[x],#[t]⟩)=Et P t st (ρ x):=rfl
@[go_sem] theorem MZ(x:Operand)(t:TypeId):qq P st ρ (.call ⟨.builtin .len,#[x],#[t]⟩)=E8 st (ρ x):=rfl
@[go_sem] theorem MB:XA P M ds [] env st N=N env st:=rfl
@[go_sem] theorem Ih:XA P M ds (⟨d,op,ty,pos,aft,none⟩::r) env st N=Uj P M ⟨d,op,ty,pos,aft,none⟩ env st (fun e s=>XA P M ds r e s N) (qA op):=rfl
@[go_sem] theorem CD:XA P M ds (⟨d,op,ty,pos,aft,some (j,want)⟩::r) env st N=(Vc (Vp ds j env)∧Us P M ⟨d,op,ty,pos,aft,some (j,want)⟩ env st (Ht want (Vp ds j env)) (fun e s=>XA P M ds r e s N) (qA op)):=rfl
@[go_sem] theorem MM:Uj P M ⟨d,op,ty,pos,aft,gu⟩ env st N .pure=(qQ P st (ev env) op∧N (Zx env d (qq P st (ev env) op)) st):=rfl
@[go_sem] theorem MN(c x y:Operand):Uj P M ⟨d,op,ty,pos,aft,gu⟩ env st N (.pick c x y)=(Jf (ev env c) (ev env x) (ev env y)∧N (Zx env d (WZ (ev env c) (ev env x) (ev env y))) st):=rfl
@[go_sem] theorem Nz:Uj P M ⟨d,op,ty,pos,aft,gu⟩ env st N .eff=qr P M ⟨d,op,ty,pos,aft,gu⟩ env st (fun x s=>N (Zx env d x) s):=rfl
@[go_sem] theorem MJ:Us P M ⟨d,op,ty,pos,aft,gu⟩ env st g N .pure=(K3 (g=true) env op.operands.toList∧(g=true→qQ P st (fun y=>ZB (ev env y)) op)∧N (Zx env d (.gd g (qq P st (fun y=>ZB (ev env y)) op))) st):=rfl
@[go_sem] theorem Mo(c x y:Operand):Us P M ⟨d,op,ty,pos,aft,gu⟩ env st g N (.pick c x y)=(Eh (g=true) (ev env c)∧(g=true→Jf (ZB (ev env c)) (ev env x) (ev env y))∧N (Zx env d (.gd g (WZ (ZB (ev env c)) (ev env x) (ev env y)))) st):=rfl
@[go_sem] theorem Ns:Us P M ⟨d,op,ty,pos,aft,gu⟩ env st g N .eff=(K3 (g=true) env op.operands.toList∧(g=true→qr P M ⟨d,op,ty,pos,aft,gu⟩ (Y1 (qV op.operands.toList) 0 env) st fun x s=>N (Zx env d x) s)∧(g=false→N (Zx env d .any) st)):=rfl
@[go_sem] theorem M6{D:List SV→Prop}:XG P M ds [] env st D=D env:=rfl
@[go_sem] theorem Ma{D:List SV→Prop}:XG P M ds (⟨d,op,ty,pos,aft,gu⟩::r) env st D=Zg P M ds ⟨d,op,ty,pos,aft,gu⟩ env st (fun x=>XG P M ds r (Zx env d x) st D):=rfl
@[go_sem] theorem Mb{D:SV→Prop}:Zg P M ds ⟨d,op,ty,pos,aft,none⟩ env st D=Uk P M ⟨d,op,ty,pos,aft,none⟩ env st D (qA op):=rfl
@[go_sem] theorem MQ{D:SV→Prop}:Zg P M ds ⟨d,op,ty,pos,aft,some (j,want)⟩ env st D=(Vc (Vp ds j env)∧Ud P M ⟨d,op,ty,pos,aft,some (j,want)⟩ env st (Ht want (Vp ds j env)) D (qA op)):=rfl
@[go_sem] theorem My{D:SV→Prop}:Uk P M ⟨d,op,ty,pos,aft,gu⟩ env st D .pure=(qQ P st (ev env) op∧D (qq P st (ev env) op)):=rfl
@[go_sem] theorem MX{D:SV→Prop}(c x y:Operand):Uk P M ⟨d,op,ty,pos,aft,gu⟩ env st D (.pick c x y)=(Jf (ev env c) (ev env x) (ev env y)∧D (WZ (ev env c) (ev env x) (ev env y))):=rfl
theorem zp{D:SV→Prop}:Uk P M ⟨d,op,ty,pos,aft,gu⟩ env st D .eff=∃ X,qr P M ⟨d,op,ty,pos,aft,gu⟩ (ZN (qV op.operands.toList) 0 env) st (xo st X)∧D X:=rfl
@[go_sem] theorem Mu{D:SV→Prop}:Ud P M ⟨d,op,ty,pos,aft,gu⟩ env st g D .pure=(K3 (g=true) env op.operands.toList∧(g=true→qQ P st (fun y=>ZB (ev env y)) op)∧D (.gd g (qq P st (fun y=>ZB (ev env y)) op))):=rfl
@[go_sem] theorem MG{D:SV→Prop}(c x y:Operand):Ud P M ⟨d,op,ty,pos,aft,gu⟩ env st g D (.pick c x y)=(Eh (g=true) (ev env c)∧(g=true→Jf (ZB (ev env c)) (ev env x) (ev env y))∧D (.gd g (WZ (ZB (ev env c)) (ev env x) (ev env y)))):=rfl
theorem cz{D:SV→Prop}:Ud P M ⟨d,op,ty,pos,aft,gu⟩ env st g D .eff=(K3 (g=true) env op.operands.toList∧∃ X,(g=true→qr P M ⟨d,op,ty,pos,aft,gu⟩ (Y1 (qV op.operands.toList) 0 (ZN (qV op.operands.toList) 0 env)) st (xo st X))∧D (.gd g X)):=rfl
@[go_sem] theorem iS(x y:Operand):qr P M ⟨d,.store t x y,ty,pos,aft,gu⟩ env st K=(d=none∧YJ P t st (ev env y) (ev env x) (K .any ·)):=rfl
@[go_sem] theorem Mz(x:Operand):qr P M ⟨d,.box t x,ty,pos,aft,gu⟩ env st K=(qG (ev env x)=true∧if M.contains (d.getD 0) then K (.ptr st.length 0) (st++[.cells (ev env x).cells]) else K (.ref (ev env x).cells) st):=rfl
@[go_sem] theorem ig:qr P M ⟨d,.alloc t,ty,pos,aft,gu⟩ env st K=((ZT P t).isSome=true∧K (.ptr st.length 0) (st++[.cells ((ZT P t).getD [])])):=rfl
@[go_sem] theorem i8(ps:Array (Nat×Operand)):qr P M ⟨d,.build t ps,ty,pos,aft,gu⟩ env st K=(Qq P t=true∧(Ur P t (ps.toList.map fun p=>(p.1,ev env p.2))).isSome=true∧K (.agg ((Ur P t (ps.toList.map fun p=>(p.1,ev env p.2))).getD [])) st):=rfl
@[go_sem] theorem bc(n:Nat)(ps:Array (Nat×Operand)):qr P M ⟨d,.buildSlice t n ps,ty,pos,aft,gu⟩ env st K=(((zT P t).bind (zS P)).isSome=true∧((zT P t).bind (ZT P)).map List.length=(zT P t).bind (zS P)∧ps.toList.map (·.1)=List.range n ∧
   n*((zT P t).bind (zS P)).getD 0≤16777216∧(∀ p∈ps.toList,qG (ev env p.2)=true∧(ev env p.2).cells.length=((zT P t).bind (zS P)).getD 0) ∧
   if M.contains (d.getD 0+1000000) then K (.arr st.length 1 n) (st++[.arr 1 (((zT P t).bind (zS P)).getD 0) ((ps.toList.map fun p=>norm (ev env p.2)).flatMap SV.cells)]) else
    K (.slice .full (((zT P t).bind (zS P)).getD 0) (ps.toList.map fun p=>norm (ev env p.2))) st):=rfl
@[go_sem] theorem AQ(c:Operand)(a:Array Operand)(ts:Array TypeId):qr P M ⟨d,.call ⟨.value c,a,ts⟩,ty,pos,aft,gu⟩ env st K=V9 P (a.toList.map (ev env)) st (ev env c) K:=rfl
@[go_sem] theorem rG(x y:Operand)(t tx:TypeId):qr P M ⟨d,.call ⟨.builtin .append,#[x,y],#[t,tx]⟩,ty,pos,aft,gu⟩ env st K=if M.contains (d.getD 0+1000000) then YG P t tx st (ev env x) (ev env y) K else Y2 P t tx st (ev env x) (ev env y) K:=rfl
@[go_sem] theorem Nk:Qo P M .skip Q env st=Q .normal env st:=rfl
@[go_sem] theorem IC(id:Nat)(ops:Array Oper):Qo P M (.region id ops false) Q env st=XA P M (ops.toList.map (·.dst)) ops.toList env st (Q .normal):=rfl
@[go_sem] theorem Np{ops:Array Oper}{ks el:List Nat}{R:St→Prop}{s0:St}{i:Nat}:pU P M ops ks el R s0 i [] env st N=N env st:=rfl
@[go_sem] theorem N1(a b:Code):Qo P M (.seq a b) Q env st=Qo P M a (U8 (Qo P M b Q) Q) env st:=rfl
@[go_sem] theorem NU(c:Operand)(x y:Code):Qo P M (.cond c x y) Q env st=(I7 (ev env c)∧(sE (ev env c)=true→Qo P M x Q env st)∧(sE (ev env c)=false→Qo P M y Q env st)):=rfl
@[go_sem] theorem Mt(id:Nat)(c:Code):Qo P M (.block id c) Q env st=Qo P M c (Ks id Q) env st:=rfl
@[go_sem] theorem Nu(id:Nat):Qo P M (.exit id) Q env st=Q (.exit id) env st:=rfl
@[go_sem] theorem N':Qo P M .ret Q env st=Q .ret env st:=rfl
@[go_sem] theorem Mg(l:Nat):Qo P M (.label l) Q env st=Q .normal env st:=rfl
@[go_sem] theorem NQ{nx:List SV→St→Prop}:U8 nx Q .normal=nx:=rfl
@[go_sem] theorem NM{nx:List SV→St→Prop}:U8 nx Q .ret=Q .ret:=rfl
@[go_sem] theorem NB{nx:List SV→St→Prop}(id:Nat):U8 nx Q (.exit id)=Q (.exit id):=rfl
@[go_sem] theorem Mn(id:Nat):Ks id Q .normal=Q .normal:=rfl
@[go_sem] theorem MI(id:Nat):Ks id Q .ret=Q .ret:=rfl
@[go_sem] theorem Ml(id id':Nat):Ks id Q (.exit id')=fun e s=>if id'=id then Q .normal e s else Q (.exit id') e s:=rfl
@[go_sem] theorem N5(rs:List ResultVar):Lr P rs K .normal=fun env st=>(YP P env st rs).isSome=true∧K (X7 ((YP P env st rs).getD [])) st:=rfl
@[go_sem] theorem N0(rs:List ResultVar):Lr P rs K .ret=fun env st=>(YP P env st rs).isSome=true∧K (X7 ((YP P env st rs).getD [])) st:=rfl
@[go_sem] theorem CG(n:Nat)(x:SV):Zx env (some n) x=env.set n x:=rfl
@[go_sem] theorem sG(x:SV):Zx env none x=env:=rfl
def LJ:Option Bool→Option Nat→List SV→Option SV
 | some true,some n,l=>if n≤l.length then some (.agg (l.take n)) else none
 | some false,_,l=>if 0<l.length then some (l.getD 0 .any) else none
 | _,_,_=>none
@[go_sem] theorem fN{t:TypeId}{x:SV}{l:List SV}:q7 P t (x::l)=LJ (JE P t) (zS P t) (x::l):=by
 unfold q7 LJ;cases JE P t with
 | none=>rfl
 | some b=>cases b <;> cases zS P t <;> rfl
@[go_sem] theorem rC{q:Option Nat}{x:SV}{l:List SV}:LJ (some false) q (x::l)=some x:=rfl
@[go_sem] theorem eL{n:Nat}{l:List SV}:LJ (some true) (some n) l=if n≤l.length then some (.agg (l.take n)) else none:=rfl
@[go_sem] theorem oT{α:Type}(l:List α)(f:α→SV):(l.map f).take l.length=l.map f:=List.take_of_length_le (by simp)
end eqs2
attribute [go_sem] YP Bool.and_true Bool.true_and Bool.and_self Vf JO Kj UY Vp K3 Op.operands Call.operands Y1 ZN qV XN B6 Ur Gs pN xD xgS List.getD_cons_zero xsS xsZ xlC xlN List.map_cons List.map_nil xcA xnA xaN List.getElem?_cons_succ List.getElem?_cons_zero List.drop_zero List.drop_succ_cons List.take_succ_cons List.take_zero Option.getD_some Option.isSome_some xmS xbS Option.isSome_none Option.isNone_none List.contains_nil List.contains_cons List.all_cons List.all_nil xlA xlM List.length_set List.length_replicate List.range_zero eq_self false_or true_or or_true or_false true_and and_true if_true if_false Yd ne_eq not_false_eq_true Nat.zero_lt_succ List.replicate
theorem lS(st ex:St):(∃ e,st++ex=st++e)=True:=eq_true ⟨ex,rfl⟩
theorem YV(n:Nat)(v:Value):Ids n (.sc v)=True:=eq_true (.sc v)
theorem Z9(n:Nat)(l:List SV):Ids n (.agg l)=∀ x∈l,Ids n x:=by
 apply propext
 constructor
 ·intro h x hx;cases h with
  | agg l h =>
   obtain⟨i,hi⟩:=List.getElem?_of_mem hx;have:=h i (zi hi);rwa[xgE,hi] at this
 ·intro h;refine .agg l fun i hi=>?_;rw[xgE,List.getElem?_eq_getElem hi];exact h _ (List.getElem_mem hi)
theorem zQ{n:Nat}{m:Mode}{z:Nat}{l:List SV}(hm:m = .imm∨m = .full)(h:∀ x∈l,∀ y∈x.cells,Ids n y):Ids n (.slice m z l):=by
 refine .slice m z l (fun id ver e=>by rcases hm with rfl | rfl <;> cases e) fun i j hi hj=>?_;have hx:l.getD i .any∈l:=by
  rw[xgE,List.getElem?_eq_getElem hi];exact List.getElem_mem hi
 by_cases hc:j<(l.getD i .any).cells.length
 ·have hy:(l.getD i .any).cells.getD j .any∈(l.getD i .any).cells:=by
   rw[xgE (l:=(l.getD i .any).cells),List.getElem?_eq_getElem hc];exact List.getElem_mem hc
  exact h _ hx _ hy
 ·rw[xgE (l:=(l.getD i .any).cells),List.getElem?_eq_none (Nat.not_lt.1 hc)];exact .any
theorem v8{α:Type}(p:α→Prop):(∀ x∈([]:List α),p x)=True:=eq_true (fun x hx=>by cases hx)
theorem wx(s:St)(l:List Ob)(k:Nat):Zl (s++l) (s.length+k)=Zl l k:=by simp[Zl,List.getElem?_append_right]
theorem D0(s:St)(l:List Ob)(k:Nat):Qd (s++l) (s.length+k)=Qd l k:=by simp[Qd,List.getElem?_append_right]
theorem ki(s:St)(l:List Ob)(k v:Nat):Ym (s++l) (s.length+k) v=Ym l k v:=by simp[Ym,List.getElem?_append_right]
theorem kr(s:St)(l:List Ob)(k:Nat)(x:Ob):(s++l).set (s.length+k) x=s++l.set k x:=by simp
theorem cd(c:List SV)(l:List Ob):Zl (.cells c::l) 0=c:=rfl
theorem mP(o:Ob)(l:List Ob)(k:Nat):Zl (o::l) (k+1)=Zl l k:=rfl
theorem ua(c:List SV)(l:List Ob):Qd (.cells c::l) 0=True:=rfl
theorem uo(o:Ob)(l:List Ob)(k:Nat):Qd (o::l) (k+1)=Qd l k:=rfl
theorem cY(v v':Nat)(l:List Ob):Ym (.tok v::l) 0 v'=(v=v'):=by simp[Ym]
theorem dj(o:Ob)(l:List Ob)(k v:Nat):Ym (o::l) (k+1) v=Ym l k v:=rfl
theorem uu(a:Bool):(a==false) = !a:=by cases a <;> rfl
theorem gU(a:Bool):(a==true)=a:=by cases a <;> rfl
theorem J4{t tx e ex:TypeId}{z n by':Nat}{zs:List SV}(he:zT P t=some e)(hx:zT P tx=some ex)(hz:zS P e=some z)(hzs:ZT P e=some zs)(hl:zs.length=z)
  (hb:Yy P e=some by') (h1:by'≤100000) (h2:n≤1000000):AppOk P t tx z n :=
 ⟨by omega,e,ex,zs,by',he,hx,hz,hzs,hl,hb,by
  have:(2*n+192)*by'≤2000192*100000:=Nat.mul_le_mul (by omega) h1;omega⟩
attribute [go_sem] wx D0 ki kr cd mP ua uo cY dj xaA Nat.add_assoc Nat.zero_add
attribute [go_sem] lS YV Z9 uu gU List.forall_mem_cons v8 Nat.one_ne_zero
@[go_sem] theorem bt{α:Type}(l:List α):((#[]:Array α)++l.toArray).toList=l:=by simp
@[go_sem] theorem bX(i:Nat):Xo (.tmp i)=false:=rfl
@[go_sem] theorem fQ(k:IntKind)(i:Int):Xo (.const (.int k i))=false:=rfl
@[go_sem] theorem oy(s:ByteArray):Xo (.const (.string s))=false:=rfl
@[go_sem] theorem bm(b:Bool):Xo (.const (.bool b))=false:=rfl
@[go_sem] theorem dC:Xo (.const (.slice none 0 0))=true:=rfl
@[go_sem] theorem bi:Xo (.const .nilFunc)=true:=rfl
@[go_sem] theorem ta:Xo (.const (.pointer none))=true:=rfl
section
variable {P:Program} {t:TypeId} {m:Mode} {z id off len cap:Nat} {l:List SV}
@[go_sem] theorem nc:KG .eql (.slice m z l) = .sc (.bool false):=rfl
@[go_sem] theorem bG:KG .eql (.slc id z off len cap) = .sc (.bool false):=rfl
@[go_sem] theorem tA:KG .eql (.ref l) = .sc (.bool false):=rfl
@[go_sem] theorem oe:KG .eql (.ptr id off) = .sc (.bool false):=rfl
@[go_sem] theorem fd:KG .eql (.sc (.pointer none)) = .sc (.bool true):=rfl
@[go_sem] theorem cH:KG .neq (.slice m z l) = .sc (.bool true):=rfl
@[go_sem] theorem fP:KG .neq (.slc id z off len cap) = .sc (.bool true):=rfl
@[go_sem] theorem fS:KG .neq (.ref l) = .sc (.bool true):=rfl
@[go_sem] theorem ox:KG .neq (.ptr id off) = .sc (.bool true):=rfl
@[go_sem] theorem te:KG .neq (.sc (.pointer none)) = .sc (.bool false):=rfl
@[go_sem] theorem pw:Qv P .eql t (.const (.slice none 0 0)) (.slice m z l)=(l≠[]∧(zT P t).isSome=true):=by simp[Qv]
@[go_sem] theorem pq:Qv P .neq t (.const (.slice none 0 0)) (.slice m z l)=(l≠[]∧(zT P t).isSome=true):=by simp[Qv]
@[go_sem] theorem bl:Qv P .eql t (.const (.slice none 0 0)) (.slc id z off len cap)=((zT P t).isSome=true):=by simp[Qv]
@[go_sem] theorem bn:Qv P .neq t (.const (.slice none 0 0)) (.slc id z off len cap)=((zT P t).isSome=true):=by simp[Qv]
@[go_sem] theorem bw:Qv P .eql t (.const (.pointer none)) (.ref l)=(Ve P t=true):=by simp[Qv]
@[go_sem] theorem bx:Qv P .neq t (.const (.pointer none)) (.ref l)=(Ve P t=true):=by simp[Qv]
@[go_sem] theorem bz:Qv P .eql t (.const (.pointer none)) (.ptr id off)=(Ve P t=true):=by simp[Qv]
@[go_sem] theorem bp:Qv P .neq t (.const (.pointer none)) (.ptr id off)=(Ve P t=true):=by simp[Qv]
@[go_sem] theorem bd{fn:Fn}{a b:List SV}:KG .neq (.func fn a b) = .sc (.bool true):=rfl
@[go_sem] theorem bf:KG .neq (.sc .nilFunc) = .sc (.bool false):=rfl
@[go_sem] theorem bv{fn:Fn}{a b:List SV}:KG .eql (.func fn a b) = .sc (.bool false):=rfl
@[go_sem] theorem bA:KG .eql (.sc .nilFunc) = .sc (.bool true):=rfl
@[go_sem] theorem n7{fn:Fn}{a b:List SV}:Qv P .neq t (.const .nilFunc) (.func fn a b)=(JL P t=true):=by simp[Qv]
@[go_sem] theorem pz:Qv P .neq t (.const .nilFunc) (.sc .nilFunc)=(JL P t=true):=by simp[Qv]
@[go_sem] theorem mu{fn:Fn}{a b:List SV}:Qv P .eql t (.const .nilFunc) (.func fn a b)=(JL P t=true):=by simp[Qv]
@[go_sem] theorem dO:Qv P .eql t (.const .nilFunc) (.sc .nilFunc)=(JL P t=true):=by simp[Qv]
@[go_sem] theorem bh:Qv P .eql t (.const (.pointer none)) (.sc (.pointer none))=(Ve P t=true):=by simp[Qv]
@[go_sem] theorem bg:Qv P .neq t (.const (.pointer none)) (.sc (.pointer none))=(Ve P t=true):=by simp[Qv]
end
section
variable {P:Program} {t u:TypeId} {st:St} {ρ:Operand→SV}
@[go_sem] theorem sT(x:Operand):qA (.convert t u x) = .pure:=rfl
@[go_sem] theorem Ms(x:Operand):qQ P st ρ (.convert t u x)=DA P t st u (ρ x):=rfl
@[go_sem] theorem It(x:Operand):qq P st ρ (.convert t u x)=ET P st u (ρ x):=rfl
@[go_sem] theorem CT(v:Value):DA P t st u (.sc v)=Yc P t u (.sc v):=rfl
@[go_sem] theorem lj(m:Mode)(z:Nat)(l:List SV):DA P t st u (.slice m z l)=Yc P t u (.slice m z l):=rfl
@[go_sem] theorem iP(id z off len cap:Nat):DA P t st u (.slc id z off len cap)=(Qd st id∧off+len≤(Zl st id).length∧(zT P t).bind (W3 P)=some .u8∧Wu P u=true∧(((Zl st id).drop off).take len).all Wy=true):=rfl
@[go_sem] theorem A9(v:Value):ET P st u (.sc v)=Y5 P u (.sc v):=rfl
@[go_sem] theorem eF(m:Mode)(z:Nat)(l:List SV):ET P st u (.slice m z l)=Y5 P u (.slice m z l):=rfl
@[go_sem] theorem iC(id z off len cap:Nat):ET P st u (.slc id z off len cap) = .sc (.string (XL (((Zl st id).drop off).take len))):=rfl
@[go_sem] theorem Gw(k:IntKind)(n:Int)(h:(W3 P u).isSome=true):Yc P t u (.sc (.int k n))=((W3 P t).isSome=true∧(W3 P u).isSome=true):=by simp only[Yc,h,true_or]
theorem XU{k':IntKind}(k:IntKind)(n:Int)(h:W3 P u=some k'):Y5 P u (.sc (.int k n)) = .sc (.int k' (k'.wrap n)):=by simp[Y5,h]
end
end Go.AL
namespace Go.AL
open Go
variable {P:Program}
def SVle(x y:SV):Prop:=∀ (st:St) (σ:Sig) (w:World) (v:Value),Rep st σ w x v→Rep st σ w y v
theorem SVle.refl(x:SV):SVle x x:=fun _ _ _ _ h=>h
theorem SVle.any(x:SV):SVle x .any:=fun _ _ _ v _ =>.any v
theorem gy{f:FuncId}{args:List SV}{K:SV→St→Prop}{st:St}(h:ACalls P f args (fun x s=>∃ y,SVle x y∧K y s) st):ACalls P f args K st:=by
 intro σ w vs hI hR;refine (h σ w vs hI hR).mono ?_;rintro e w' ⟨v,x,s,σ',he,⟨y,hle,hk⟩,hI',hr,hX⟩;exact⟨v,y,s,σ',he,hk,hI',hle _ _ _ _ hr,hX⟩
theorem SVle.nil(m:Mode)(z z':Nat)(hm:m = .full∨m = .imm):SVle (.slice m z []) (.slice m z' []):=fun _ _ _ _ h=>XY h hm
inductive SVles:List SV→List SV→Prop where
 | nil:SVles [] []
 | cons {x y:SV} {l r:List SV}:SVle x y→SVles l r→SVles (x::l) (y::r)
theorem SVles.len{l r:List SV}(h:SVles l r):l.length=r.length:=by
 induction h with
 | nil=>rfl
 | cons _ _ ih=>simp[ih]
theorem SVles.at{l r:List SV}(h:SVles l r):∀ i,SVle (l.getD i .any) (r.getD i .any):=by
 induction h with
 | nil=>intro i;exact SVle.refl _
 | cons h1 _ ih =>
  intro i;cases i with
  | zero=>simpa using h1
  | succ i=>simpa using ih i
theorem SVle.agg{l r:List SV}(h:SVles l r):SVle (.agg l) (.agg r):=by
 intro st σ w v hv;generalize hx:SV.agg l=x at hv;cases hv with
 | agg l' vs h1 h2 =>
  cases hx;exact .agg r vs (h1.trans h.len) fun i hi=>h.at i _ _ _ _ (h2 i (by rw[h.len];exact hi))
 | _=>cases hx
end Go.AL
namespace Go.AL
variable {P:Program}
theorem uc(x y:SV):Hp true x y=x:=by unfold Hp;split <;> rfl
theorem jo(x y:SV):Hp false x y=y:=by unfold Hp;split <;> rfl
theorem SVles.refl:∀ l:List SV,SVles l l
 | [] =>.nil
 | x::r =>.cons (SVle.refl x) (SVles.refl r)
theorem SVle.tuple{l r:List SV}(h:SVles l r):SVle (.tuple l) (.tuple r):=by
 intro st σ w v hv;generalize hx:SV.tuple l=x at hv;cases hv with
 | tuple l' vs h1 h2 =>
  cases hx;exact .tuple r vs (h1.trans h.len) fun i hi=>h.at i _ _ _ _ (h2 i (by rw[h.len];exact hi))
 | _=>cases hx
end Go.AL
namespace Go.AL
theorem qc:(∀ (e:List SV) (n:Nat) (x:SV),Zx e (some n) x=e.set n x)∧(∀ (e:List SV) (x:SV),Zx e none x=e)∧(∀ (e:List SV) (j:Nat),ev e (.tmp j)=e.getD j .any)∧(∀ (x a:SV) (l:List SV) (i:Nat),(x::l).set (i+1) a=x::l.set i a)∧(∀ (x a:SV) (l:List SV),(x::l).set 0 a=a::l)∧(∀ (x d:SV) (l:List SV) (n:Nat),(x::l).getD (n+1) d=l.getD n d)∧(∀ (x d:SV) (l:List SV),(x::l).getD 0 d=x):=⟨fun _ _ _=>rfl,fun _ _=>rfl,fun _ _=>rfl,fun _ _ _ _=>rfl,fun _ _ _=>rfl,fun _ _ _ _=>rfl,fun _ _ _=>rfl⟩
end Go.AL
