/- The abstract layer, part 9: regions whose order is drawn: whatever the order, the same comes of them. -/
import Derived.Test.YtkokccjfpebomaaGreatDoorA2
import Derived.IntWalk
import Derived.Laws.Strings
set_option linter.all false
namespace Go.AL
variable {P:Program}
def ZW(s:List Nat):Nat→List SV→List SV
 | _,[]=>[]
 | k,x::r=>(if s.contains k then x else .any)::ZW s (k+1) r
theorem JG(s:List Nat):∀ (k:Nat) (l:List SV),(ZW s k l).length=l.length
 | _,[]=>rfl
 | k,x::r=>by simp[ZW,JG s (k+1) r]
theorem KW(s:List Nat):∀ (k:Nat) (l:List SV) (i:Nat),i<l.length→(ZW s k l).getD i .any=if s.contains (k+i) then l.getD i .any else .any
 | k,x::r,0,h=>rfl
 | k,x::r,i+1,h=>by
  have:=KW s (k+1) r i (by simpa using h);simp only[ZW,xgS,this,show k+1+i=k+(i+1) by omega]
def mS(st:St)(X:SV):SV→St→Prop:=fun x s=>(∃ ex,s=st++ex)∧Ids st.length X∧(X=x∨X=norm x)
def U2(P:Program)(M:List Nat)(o:Oper)(env:List SV)(st:St)(next:SV→Prop):Kd→Prop
 | .pure=>q9 P st (ev env) o.op∧next (qz P st (ev env) o.op)
 | .pick c x y=>Jr (ev env c) (ev env x) (ev env y)∧next (Kt (ev env c) (ev env x) (ev env y))
 | .eff=>∃ X,ql P M o (ZW (Za o.op.operands.toList) 0 env) st (mS st X)∧next X
def UQ(P:Program)(M:List Nat)(o:Oper)(env:List SV)(st:St)(g:Bool)(next:SV→Prop):Kd→Prop
 | .pure=>KB (g=true) env o.op.operands.toList∧(g=true→q9 P st (fun y=>ZK (ev env y)) o.op)∧next (.gd g (qz P st (fun y=>ZK (ev env y)) o.op))
 | .pick c x y=>Dc (g=true) (ev env c)∧(g=true→Jr (ZK (ev env c)) (ev env x) (ev env y))∧next (.gd g (Kt (ZK (ev env c)) (ev env x) (ev env y)))
 | .eff=>KB (g=true) env o.op.operands.toList∧∃ X,(g=true→ql P M o (Y3 (Za o.op.operands.toList) 0 (ZW (Za o.op.operands.toList) 0 env)) st (mS st X))∧next (.gd g X)
def ZE(P:Program)(M:List Nat)(ds:List (Option Tmp))(o:Oper)(env:List SV)(st:St)(next:SV→Prop):Prop :=
 match o.guard with
 | none=>U2 P M o env st next (qx o.op)
 | some (j,want)=>VA (VS ds j env)∧UQ P M o env st (H7 want (VS ds j env)) next (qx o.op)
def Yt(P:Program)(M:List Nat)(ds:List (Option Tmp)):List Oper→List SV→St→(List SV→Prop)→Prop
 | [],env,st,K=>K env
 | o::r,env,st,K=>ZE P M ds o env st fun x=>Yt P M ds r (ZM env o.dst x) st K
def looks(ops:Array Oper)(o:Oper):List Nat:=Za o.op.operands.toList++(match o.guard with | some (j,_)=>((ops[j]?).bind (·.dst)).toList | none=>[])
def XL(o:Oper)(j:Nat):Bool:=o.after.toList.any fun e=>Region.binds .any e&&e.on==j
def j6(ops:Array Oper)(i j:Nat):Bool :=
 match ops[i]?,ops[j]? with
 | some a,some b =>
  (i==j) || ((match b.dst with
   | some t=>(!(looks ops a).contains t || (if j<i then XL a j else XL b i))&&a.dst != some t
   | none=>true))
 | _,_=>true
def Vr(ops:Array Oper):Bool :=
 (List.range ops.size).all fun i=>(List.range ops.size).all (j6 ops i)&&((ops[i]?).map fun o=>o.after.toList.all fun e => !Region.binds .any e || decide (e.on<i)).getD true
def YN(P:Program)(ops:Array Oper)(st:St)(o:Oper)(E:List SV)(X:SV):Prop :=
 ∀ σ w (a:Act) (env:List SV),Inv st σ w→RepEnv st σ w env a.tmps→(∀ t∈looks ops o,env.getD t .any=E.getD t .any)→env.length=E.length →
  (Region.wanted o (yielded ops a.tmps)=true→∃ Q0:Exit→Act→World→Prop,(∀ e a w,¬ Q0 e a w) ∧
   o.wp P a w (fun a' w'=>∃ v σ',a'=a.put o.dst v∧Inv st σ' w'∧Ext st σ w st σ' w'∧Rep st σ' w' X v) Q0) ∧
  (Region.wanted o (yielded ops a.tmps)=false→Rep st σ w X undef)
theorem xO{o:Oper}{E env:List SV}{st:St}{X:SV}(h:AOp P o (mS st X) E st){σ:Sig}{w:World}{a:Act}(hI:Inv st σ w)(hR:RepEnv st σ w E a.tmps) :
  o.wp P a w (fun a' w'=>∃ v σ',a'=a.put o.dst v∧Inv st σ' w'∧Ext st σ w st σ' w'∧Rep st σ' w' X v) (fun _ _ _=>False):=by
 refine QD ?_ (fun _ _ _ h=>h) (h σ w a hI hR);rintro a' w' ⟨v,x,s,σ',rfl,⟨⟨ex,rfl⟩,hids,hx⟩,hI',hr,hX⟩;have hrX:Rep (st++ex) σ' w' X v:=by rcases hx with rfl | rfl;exact hr;exact hr.norm
 refine⟨v,σ',rfl,hI'.drop hI.obIds,hX.drop (Nat.le_refl _),hrX.drop hids⟩
theorem LP{ops:Array Oper}{o:Oper}{t:Nat}(h:t∈Za o.op.operands.toList):t∈looks ops o:=List.mem_append_left _ h
theorem JA{t:Nat}:∀ {l:List Operand},Operand.tmp t∈l→t∈Za l
 | .tmp d::r,h=>by
  simp only[Za,List.mem_cons] at h ⊢;rcases h with h | h
  ·left;cases h;rfl
  ·right;exact JA h
 | .const v::r,h=>by
  simp only[Za];cases h with
  | tail _ h=>exact JA h
 | .global v::r,h=>by
  simp only[Za];cases h with
  | tail _ h=>exact JA h
 | .func v::r,h=>by
  simp only[Za];cases h with
  | tail _ h=>exact JA h
theorem Kp{ops:Array Oper}{o:Oper}{env E:List SV}(h:∀ t∈looks ops o,env.getD t .any=E.getD t .any){y:Operand}(hy:y∈o.op.operands):ev env y=ev E y:=by
 cases y with
 | tmp t=>exact h t (LP (JA (by simpa using hy)))
 | _=>rfl
theorem Hp{ops:Array Oper}{o:Oper}{st:St}{σ:Sig}{w:World}{t:Array Value}{env E:List SV}(hR:RepEnv st σ w env t)(h:∀ i∈looks ops o,env.getD i .any=E.getD i .any)
  (hl:env.length=E.length):RepEnv st σ w (ZW (Za o.op.operands.toList) 0 E) t:=by
 refine⟨by rw[JG,←hl];exact hR.1,fun i hi=>?_⟩;rw[JG] at hi;rw[KW _ _ _ _ hi,Nat.zero_add];split
 ·rename_i hc;rw[←h i (LP (by simpa using hc))];exact hR.2 i (by omega)
 ·exact .any _
theorem FE{ops:Array Oper}{o:Oper}{env E:List SV}(h:∀ t∈looks ops o,env.getD t .any=E.getD t .any){p:Prop}:∀ (l:List Operand),(∀ y∈l,y∈o.op.operands)→KB p E l→KB p env l
 | [],_,_=>trivial
 | y::r,hm,hg=>⟨by rw[Kp h (hm y (by simp))];exact hg.1,FE h r (fun z hz=>hm z (by simp[hz])) hg.2⟩
theorem Lq{p:Prop}{E:List SV}(s:List Nat):∀ (l:List Operand),(∀ t,Operand.tmp t∈l→t∈s)→KB p E l→KB p (ZW s 0 E) l
 | [],_,_=>trivial
 | y::r,hm,hg=>by
  refine⟨?_,Lq s r (fun t ht=>hm t (by simp[ht])) hg.2⟩;cases y with
  | tmp t =>
   simp only[ev];by_cases hl:t<E.length
   ·rw[KW _ _ _ _ hl,Nat.zero_add,if_pos (by simpa using hm t (by simp))];exact hg.1
   ·rw[xgE,List.getElem?_eq_none (show (ZW s 0 E).length≤t by rw[JG];exact Nat.not_lt.1 hl)];trivial
  | _=>exact hg.1
theorem H1{M:List Nat}{ops:Array Oper}{o:Oper}{E:List SV}{st:St}{next:SV→Prop}(h:ZE P M (ops.toList.map (·.dst)) o E st next) :
  ∃ X,YN P ops st o E X∧next X:=by
 unfold ZE at h;split at h
 ·rename_i hg;have hw:∀ t,Region.wanted o (yielded ops t)=true:=fun t=>by simp[Region.wanted,hg]
  cases hk:qx o.op with
  | pure =>
   rw[hk] at h;refine⟨_,fun σ w a env hI hR hs hl=>⟨fun _=>⟨fun _ _ _=>False,fun _ _ _ h=>h,?_⟩,fun hf=>by rw[hw] at hf;cases hf⟩,h.2⟩;obtain⟨v,hrun,hrep⟩:=D9 hk h.1 σ w a hI (fun y hy=>by rw[←Kp hs hy];exact qs hR y);unfold Oper.wp;rw[hrun];exact⟨v,σ,rfl,hI,Ext.refl _ _ _,hrep⟩
  | pick c x y =>
   rw[hk] at h;refine⟨_,fun σ w a env hI hR hs hl=>⟨fun _=>⟨fun _ _ _=>False,fun _ _ _ h=>h,?_⟩,fun hf=>by rw[hw] at hf;cases hf⟩,h.2⟩;obtain⟨v,hrun,hrep⟩:=vV (P:=P) (ρ:=ev E) (st:=st) (VU hk) h.1 σ w a hI (fun y hy=>by rw[←Kp hs hy];exact qs hR y);unfold Oper.wp;rw[hrun];exact⟨v,σ,rfl,hI,Ext.refl _ _ _,hrep⟩
  | eff =>
   rw[hk] at h;obtain⟨X,h1,h2⟩:=h;exact⟨X,fun σ w a env hI hR hs hl=>⟨fun _=>⟨fun _ _ _=>False,fun _ _ _ h=>h,xO (env:=env) (Uy h1) hI (Hp hR hs hl)⟩,fun hf=>by rw[hw] at hf;cases hf⟩,h2⟩
 ·rename_i j want hg;obtain⟨h1,h⟩:=h;obtain⟨d,hd,he⟩:=GF h1;have hlook:d∈looks ops o:=by
   unfold looks;rw[hg];exact List.mem_append_right _ (by simp[hd])
  have hw:∀ {σ:Sig} {w:World} {a:Act} {env:List SV},RepEnv st σ w env a.tmps→(∀ t∈looks ops o,env.getD t .any=E.getD t .any) →
    Region.wanted o (yielded ops a.tmps)=H7 want (VS (ops.toList.map (·.dst)) j E):=by
   intro σ w a env hR hs;rw[he] at h1 ⊢;rw[←hs d hlook] at h1 ⊢;simp only[Region.wanted,hg];exact BG hd h1 hR
  generalize H7 want (VS (ops.toList.map (·.dst)) j E)=g at h hw;have skipc:∀ X:SV,g=false→∀ {σ:Sig} {w:World},Rep st σ w (.gd g X) undef:=fun X e σ w =>.gd g X _ (fun e'=>by rw[e] at e';cases e') (fun _=>rfl);cases hk:qx o.op with
  | pure =>
   rw[hk] at h;obtain⟨g1,g2,g3⟩:=h;refine⟨_,fun σ w a env hI hR hs hl=>⟨fun hwt=>⟨fun _ _ _=>False,fun _ _ _ h=>h,?_⟩,fun hf=>skipc _ ((hw hR hs).symm.trans hf)⟩,g3⟩;have hgt:g=true:=(hw hR hs).symm.trans hwt;obtain⟨v,hrun,hrep⟩:=D9 hk (g2 hgt) σ w a hI (fun y hy=>by
    have:=Xn (qs hR y) (Ek _ (FE hs _ (fun z hz=>by simpa using hz) g1) y (by simpa using hy)) hgt;rwa[Kp hs hy] at this)
   unfold Oper.wp;rw[hrun];exact⟨v,σ,rfl,hI,Ext.refl _ _ _,.gd g _ v (fun _=>hrep) (fun e=>by rw[hgt] at e;cases e)⟩
  | pick c x y =>
   rw[hk] at h;obtain⟨g1,g2,g3⟩:=h;have hop:=VU hk;refine⟨_,fun σ w a env hI hR hs hl=>⟨fun hwt=>⟨fun _ _ _=>False,fun _ _ _ h=>h,?_⟩,fun hf=>skipc _ ((hw hR hs).symm.trans hf)⟩,g3⟩;have hgt:g=true:=(hw hR hs).symm.trans hwt;have ec:=Kp hs (y:=c) (by simp[hop,Op.operands]);have ex:=Kp hs (y:=x) (by simp[hop,Op.operands]);have ey:=Kp hs (y:=y) (by simp[hop,Op.operands]);obtain⟨v,hrun,hrep⟩:∃ v,(execOp a.eval o).run P w = .ok (.value v) w∧Rep st σ w (Kt (ZK (ev E c)) (ev E x) (ev E y)) v:=by
    have rc:=Xn (qs hR c) (by rw[ec];exact g1) hgt;rw[ec] at rc;have h:=g2 hgt;unfold Jr at h;split at h
    ·rename_i t hc;rw[hc] at rc;have e:=qD rc;refine⟨if t then a.eval x else a.eval y,by cases t <;> simp[execOp,hop,e,asBool],?_⟩;rw[hc];refine ED ?_;cases t
     ·have ry:=qs hR y;rw[ey] at ry;exact Xn ry h.2 rfl
     ·have rx:=qs hR x;rw[ex] at rx;exact Xn rx h.1 rfl
    ·exact h.elim
   unfold Oper.wp;rw[hrun];exact⟨v,σ,rfl,hI,Ext.refl _ _ _,.gd g _ v (fun _=>hrep) (fun e=>by rw[hgt] at e;cases e)⟩
  | eff =>
   rw[hk] at h;obtain⟨g1,X,g2,g3⟩:=h;refine⟨_,fun σ w a env hI hR hs hl=>⟨fun hwt=>⟨fun _ _ _=>False,fun _ _ _ h=>h,?_⟩,fun hf=>skipc _ ((hw hR hs).symm.trans hf)⟩,g3⟩;have hgt:g=true:=(hw hR hs).symm.trans hwt;have hRo:=Hp hR hs hl;have hRs:=Dt hgt hRo (Lq _ _ (fun t ht=>JA ht) g1);refine QD ?_ (fun _ _ _ h=>h) (xO (env:=env) (Uy (g2 hgt)) hI hRs);rintro a' w' ⟨v,σ',rfl,hI',hX,hr⟩;exact⟨v,σ',rfl,hI',hX,.gd g _ v (fun _=>hr) (fun e=>by rw[hgt] at e;cases e)⟩
theorem k9{M:List Nat}{ops:Array Oper}{st:St}{K:List SV→Prop}:∀ (n:Nat) (l:List Oper) (env:List SV),ops.toList.drop n=l→Yt P M (ops.toList.map (·.dst)) l env st K →
  ∃ (F:Nat→List SV) (X:Nat→SV),F n=env∧(∀ i o,n≤i→ops[i]?=some o→YN P ops st o (F i) (X i)∧F (i+1)=ZM (F i) o.dst (X i))∧K (F (n+l.length))
 | n,[],env,hl,h=>by
  refine⟨fun _=>env,fun _ =>.any,rfl,fun i o hi ho=>?_,h⟩;have h1:=z8 ho;have h2:=congrArg List.length hl;simp at h2;omega
 | n,o::r,env,hl,h=>by
  have ho:ops[n]?=some o:=by
   have:(ops.toList.drop n)[0]?=some o:=by rw[hl];rfl
   rw[List.getElem?_drop,Nat.add_zero,Array.getElem?_toList] at this;exact this
  have hr:ops.toList.drop (n+1)=r:=by rw[←List.drop_drop,hl];rfl
  obtain⟨x,h1,h2⟩:=H1 h;obtain⟨F,X,f1,f2,f3⟩:=k9 (n+1) r _ hr h2;refine⟨fun i=>if i=n then env else F i,fun i=>if i=n then x else X i,by simp,fun i p hi hp=>?_,?_⟩
  ·by_cases e:i=n
   ·subst e;rw[ho] at hp;cases hp;simp only[if_true,show ¬ i+1=i by omega,if_false];exact⟨h1,f1⟩
   ·simp only[if_neg e,show ¬ i+1=n by omega,if_false];exact f2 i p (by omega) hp
  ·simp only[xlC];rw[if_neg (by omega),show n+(r.length+1)=n+1+r.length by omega];exact f3
def qW(ops:Array Oper)(j t:Nat):Bool:=((ops[j]?).bind (·.dst))==some t
def wr(ops:Array Oper)(listed:Array Bool)(t:Nat):Bool:=(List.range ops.size).any fun j=>listed.getD j false&&qW ops j t
def YH(ops:Array Oper)(listed:Array Bool)(e0 eN:List SV):List SV:=(List.range e0.length).map fun t=>if wr ops listed t then eN.getD t .any else e0.getD t .any
theorem zS{ops:Array Oper}{listed:Array Bool}{e0 eN:List SV}:(YH ops listed e0 eN).length=e0.length:=by simp[YH]
theorem QT{ops:Array Oper}{listed:Array Bool}{e0 eN:List SV}{t:Nat}(ht:t<e0.length) :
  (YH ops listed e0 eN).getD t .any=if wr ops listed t then eN.getD t .any else e0.getD t .any:=by
 simp[YH,xgE,ht]
theorem Wt{env:List SV}{d:Option Tmp}{x:SV}{t:Nat}(ht:t<env.length):(ZM env d x).getD t .any=if d=some t then x else env.getD t .any:=by
 cases d with
 | none=>simp[ZM]
 | some d =>
  simp only[ZM,xsJ];by_cases e:d=t
  ·subst e;simp[xgE,ht]
  ·simp[xgE,List.getElem?_set_ne e,e]
theorem YT{env:List SV}{d:Option Tmp}{x:SV}:(ZM env d x).length=env.length:=by cases d <;> simp[ZM]
theorem zC(M:List Nat){id:Nat}{ops:Array Oper}{Q:Exit→List SV→St→Prop}{env:List SV}{st:St}(hm:P.follows .mixedOrders=true)(hf:Vr ops=true)
  (h:Yt P M (ops.toList.map (·.dst)) ops.toList env st fun e=>Q .normal e st):AWp P (.region id ops true) Q env st:=by
 intro σ w a hI hR D hd;obtain⟨F,X,f1,f2,f3⟩:=k9 0 ops.toList env rfl h;simp only[Nat.zero_add,Array.length_toList] at f3;have hflow:∀ i j p q,ops[i]?=some p→ops[j]?=some q→i≠j→∀ t,q.dst=some t→(t∈looks ops p→if j<i then XL p j=true else XL q i=true)∧p.dst≠some t:=by
  intro i j p q hp hq hne t ht;have h1:=z8 hp;have h2:=z8 hq;unfold Vr at hf;rw[List.all_eq_true] at hf;have h3:=hf i (by simpa using h1);simp only[XT,List.all_eq_true] at h3;have h4:=h3.1 j (by simpa using h2);unfold j6 at h4;rw[hp,hq] at h4;simp only[ht,Bool.or_eq_true,beq_iff_eq,XT,Bool.not_eq_true',bne_iff_ne,ne_eq] at h4;rcases h4 with h4 | ⟨h4,h5⟩
  ·exact absurd h4 hne
  ·refine⟨fun hlk=>?_,h5⟩;rcases h4 with h4 | h4
   ·simp[hlk] at h4
   ·split <;> rename_i hji <;> simpa[hji] using h4
 have hback:∀ i p,ops[i]?=some p→∀ e,e∈p.after.toList→Region.binds .any e=true→e.on<i:=by
  intro i p hp e he hb;have h1:=z8 hp;unfold Vr at hf;rw[List.all_eq_true] at hf;have h3:=hf i (by simpa using h1);simp only[XT,hp,xmS,Option.getD_some,List.all_eq_true] at h3;have h4:=h3.2 e he;simpa[hb] using h4
 have flen:∀ i,i≤ops.size→(F i).length=env.length:=by
  intro i;induction i with
  | zero=>intro _;rw[f1]
  | succ i ih =>
   intro hi;have hp:ops[i]?=some ops[i]:=by simp[show i<ops.size by omega]
   rw[(f2 i _ (Nat.zero_le _) hp).2,YT,ih (by omega)]
 have fget:∀ i,i≤ops.size→∀ t,t<env.length→(∀ j,j<i→qW ops j t=true→(F i).getD t .any=X j)∧((∀ j,j<i→qW ops j t=false)→(F i).getD t .any=env.getD t .any):=by
  intro i;induction i with
  | zero=>intro _ t ht;exact⟨fun j hj=>absurd hj (Nat.not_lt_zero _),fun _=>by rw[f1]⟩
  | succ i ih =>
   intro hi t ht;obtain⟨ih1,ih2⟩:=ih (by omega) t ht;have hp:ops[i]?=some ops[i]:=by simp[show i<ops.size by omega]
   have he:=(f2 i _ (Nat.zero_le _) hp).2;have hg:(F (i+1)).getD t .any=if ops[i].dst=some t then X i else (F i).getD t .any:=by rw[he];exact Wt (by rw[flen i (by omega)];exact ht)
   have hwi:qW ops i t=true↔ops[i].dst=some t:=by simp[qW,hp]
   refine⟨fun j hj hw=>?_,fun hno=>?_⟩
   ·rw[hg];by_cases c:ops[i].dst=some t
    ·rw[if_pos c];by_cases e:j=i
     ·rw[e]
     ·have hjl:j<ops.size:=by omega
      have hq:ops[j]?=some ops[j]:=by simp[hjl]
      have hjd:ops[j].dst=some t:=by simpa[qW,hq] using hw
      exact absurd c (hflow i j _ _ hp hq (by omega) t hjd).2
    ·rw[if_neg c];have e:j≠i:=by rintro rfl;exact c (hwi.1 hw)
     exact ih1 j (by omega) hw
   ·rw[hg,if_neg (fun c=>by have:=hno i (by omega);rw[hwi.2 c] at this;cases this)];exact ih2 fun j hj=>hno j (by omega)
 let Inv':Array Bool→Act→World→Prop:=fun listed a' w'=>∃ σ',Inv st σ' w'∧Ext st σ w st σ' w'∧a'.defers=D∧listed.size=ops.size ∧
  RepEnv st σ' w' (YH ops listed env (F ops.size)) a'.tmps∧∀ i,listed.getD i false=true→∀ p,ops[i]?=some p→∀ e,e∈p.after.toList→Region.binds .any e=true→listed.getD e.on false=true
 have key:∀ (fuel:Nat) (listed:Array Bool) (a':Act) (w':World),((List.range ops.size).filter fun j => !listed.getD j false).length=fuel→Inv' listed a' w' →
   wpAny P .any ops (fun e a' w'=>Post D (Q e) st σ w a' w') fuel listed a' w':=by
  intro fuel;induction fuel with
  | zero =>
   intro listed a' w' hc hI';obtain⟨σ',i1,i2,i3,i4,i5,i6⟩:=hI';have hall:∀ j,j<ops.size→listed.getD j false=true:=by
    intro j hj;have h0:(List.range ops.size).filter (fun j => !listed.getD j false)=[]:=List.eq_nil_of_length_eq_zero hc;rw[List.filter_eq_nil_iff] at h0;simpa using h0 j (by simpa using hj)
   refine⟨?_,i3,YH ops listed env (F ops.size),st,σ',?_,i1,i5,i2⟩
   ·unfold Region.ready;rw[List.filter_eq_nil_iff];intro j hj;have hj':j<ops.size:=by simpa using hj
    have h1:=hall j hj';have:listed.getD j true=true:=by
     rw[Array.getD_eq_getD_getElem?] at h1 ⊢;rw[Array.getElem?_eq_getElem (by omega)] at h1 ⊢;exact h1
    simp[this]
   ·have e:YH ops listed env (F ops.size)=F ops.size:=by
     apply List.ext_getElem?
     intro t;by_cases ht:t<env.length
     ·have h1:=QT (ops:=ops) (listed:=listed) (eN:=F ops.size) ht;have hl1:t<(YH ops listed env (F ops.size)).length:=by rw[zS];exact ht
      have hl2:t<(F ops.size).length:=by rw[flen _ (Nat.le_refl _)];exact ht
      rw[List.getElem?_eq_getElem hl1,List.getElem?_eq_getElem hl2];simp only[xgE,List.getElem?_eq_getElem hl1,List.getElem?_eq_getElem hl2,Option.getD_some] at h1;rw[h1];split
      ·rfl
      ·rename_i hno;have h2:=(fget ops.size (Nat.le_refl _) t ht).2 (fun j hj=>by
        cases hw:qW ops j t with
        | false=>rfl
        | true =>
         exfalso;apply hno
         unfold wr;rw[List.any_eq_true];exact⟨j,by simpa using hj,by rw[hall j hj,hw];rfl⟩)
       simp only[xgE,List.getElem?_eq_getElem hl2,Option.getD_some] at h2;rw[h2]
     ·rw[List.getElem?_eq_none (by rw[zS];omega),List.getElem?_eq_none (by rw[flen _ (Nat.le_refl _)];omega)]
    rw[e];exact f3
  | succ fuel ih =>
   intro listed a' w' hc hI';obtain⟨σ',i1,i2,i3,i4,i5,i6⟩:=hI';have hready:∀ i,i∈Region.ready .any ops listed↔i<ops.size∧listed.getD i true=false∧∀ p,ops[i]?=some p→∀ e,e∈p.after.toList→Region.binds .any e=true→listed.getD e.on false=true:=by
    intro i;unfold Region.ready;rw[List.mem_filter];constructor
    ·rintro⟨h1,h2⟩;have h1':i<ops.size:=by simpa using h1
     simp only[XT,Bool.not_eq_true'] at h2;refine⟨h1',h2.1,fun p hp e he hb=>?_⟩;have h3:=h2.2;rw[hp] at h3;simp only[xmS,Option.getD_some,Array.all_eq_true'] at h3;have:=h3 e (by simpa using he);simpa[hb] using this
    ·rintro⟨h1,h2,h3⟩;refine⟨by simpa using h1,?_⟩;have hp:ops[i]?=some ops[i]:=by simp[h1]
     simp only[h2,hp,xmS,Option.getD_some,Bool.not_false,Bool.true_and,Array.all_eq_true'];intro e he;cases hb:Region.binds .any e with
     | false=>rfl
     | true=>simpa using h3 _ hp e (by simpa using he) hb
   refine⟨fun hnil=>?_,fun i hi=>?_⟩
   ·-- the least one that is not listed is ready
    exfalso;have hex:∃ j,j<ops.size∧listed.getD j false=false:=by
     have hne:(List.range ops.size).filter (fun j => !listed.getD j false)≠[]:=by intro h0;rw[h0] at hc;cases hc
     obtain⟨j,hj⟩:=List.exists_mem_of_ne_nil _ hne;rw[List.mem_filter] at hj;exact⟨j,by simpa using hj.1,by simpa using hj.2⟩
    obtain⟨j,hj1,hj2⟩:=hex;have least:∀ n,∀ j,j≤n→j<ops.size→listed.getD j false=false→∃ i,i<ops.size∧listed.getD i false=false∧∀ k,k<i→listed.getD k false=true:=by
     intro n;induction n with
     | zero =>
      intro j hj h1 h2;exact⟨j,h1,h2,fun k hk=>by omega⟩
     | succ n ihn =>
      intro j hj h1 h2;by_cases c:∃ k,k<j∧listed.getD k false=false
      ·obtain⟨k,hk1,hk2⟩:=c;exact ihn k (by omega) (by omega) hk2
      ·refine⟨j,h1,h2,fun k hk=>?_⟩;cases hv:listed.getD k false with
       | true=>rfl
       | false=>exact absurd ⟨k,hk,hv⟩ c
    obtain⟨i,hi1,hi2,hi3⟩:=least j j (Nat.le_refl _) hj1 hj2;have:i∈Region.ready .any ops listed:=(hready i).2 ⟨hi1,by
     rw[Array.getD_eq_getD_getElem?] at hi2 ⊢;rw[Array.getElem?_eq_getElem (by omega)] at hi2 ⊢;exact hi2,fun p hp e he hb=>hi3 _ (hback i p hp e he hb)⟩
    rw[hnil] at this;cases this
   ·obtain⟨hi1,hi2,hi3⟩:=(hready i).1 hi;have hp:ops[i]?=some ops[i]:=by simp[hi1]
    have hnl:listed.getD i false=false:=by
     rw[Array.getD_eq_getD_getElem?] at hi2 ⊢;rw[Array.getElem?_eq_getElem (by omega)] at hi2 ⊢;exact hi2
    obtain⟨hfact,hnext⟩:=f2 i _ (Nat.zero_le _) hp;have hagree:∀ t∈looks ops ops[i],(YH ops listed env (F ops.size)).getD t .any=(F i).getD t .any:=by
     intro t ht;by_cases hlt:t<env.length
     ·rw[QT hlt];obtain⟨g1,g2⟩:=fget i (by omega) t hlt;obtain⟨gN1,gN2⟩:=fget ops.size (Nat.le_refl _) t hlt;by_cases c:∃ j,j<i∧qW ops j t=true
      ·obtain⟨j,hj,hw⟩:=c;have hjl:j<ops.size:=by omega
       have hq:ops[j]?=some ops[j]:=by simp[hjl]
       have hjd:ops[j].dst=some t:=by simpa[qW,hq] using hw
       have hedge:=(hflow i j _ _ hp hq (by omega) t hjd).1 ht;rw[if_pos hj] at hedge;have hlj:listed.getD j false=true:=by
        unfold XL at hedge;rw[List.any_eq_true] at hedge;obtain⟨e,he1,he2⟩:=hedge;simp only[XT,beq_iff_eq] at he2;have:=hi3 _ hp e he1 he2.1;rwa[he2.2] at this
       rw[if_pos (by unfold wr;rw[List.any_eq_true];exact⟨j,by simpa using hjl,by rw[hlj,hw];rfl⟩),g1 j hj hw,gN1 j hjl hw]
      ·rw[g2 fun j hj=>by
        cases hw:qW ops j t with
        | false=>rfl
        | true=>exact absurd ⟨j,hj,hw⟩ c]
       rw[if_neg];intro hwr;unfold wr at hwr;rw[List.any_eq_true] at hwr;obtain⟨j,hj1,hj2⟩:=hwr;simp only[XT] at hj2;have hjl:j<ops.size:=by simpa using hj1
       have hq:ops[j]?=some ops[j]:=by simp[hjl]
       have hjd:ops[j].dst=some t:=by simpa[qW,hq] using hj2.2
       have hne:i≠j:=by rintro rfl;rw[hj2.1] at hnl;cases hnl
       have hnji:¬ j<i:=fun hji=>c ⟨j,hji,hj2.2⟩;have hedge:=(hflow i j _ _ hp hq hne t hjd).1 ht;rw[if_neg hnji] at hedge;unfold XL at hedge;rw[List.any_eq_true] at hedge;obtain⟨e,he1,he2⟩:=hedge;simp only[XT,beq_iff_eq] at he2;have:=i6 j hj2.1 _ hq e he1 he2.1;rw[he2.2,hnl] at this;cases this
     ·rw[xgE,xgE,List.getElem?_eq_none (by rw[zS];omega),List.getElem?_eq_none (by rw[flen i (by omega)];omega)]
    obtain⟨hrun,hskip⟩:=hfact σ' w' a' _ i1 i5 hagree (by rw[zS,flen i (by omega)]);have hdone:∀ (v:Value) (σ2:Sig) (w2:World),Inv st σ2 w2→Ext st σ' w' st σ2 w2→Rep st σ2 w2 (X i) v→Inv' (listed.setIfInBounds i true) (a'.put ops[i].dst v) w2:=by
     intro v σ2 w2 hI2 hX2 hr2;have gl:∀ k,(listed.setIfInBounds i true).getD k false=if k=i then true else listed.getD k false:=by
      intro k;rw[Array.getD_eq_getD_getElem?,Array.getD_eq_getD_getElem?];by_cases e:i=k
      ·subst e;simp[show i<listed.size by omega]
      ·rw[Array.getElem?_setIfInBounds_ne e,if_neg (fun h=>e h.symm)]
     have hRE:=i5.ext hX2;refine⟨σ2,hI2,i2.trans hX2,by rw[Q8];exact i3,by simpa using i4,⟨?_,fun t ht=>?_⟩,fun k hk p hp' e he hb=>?_⟩
     ·rw[zS];have:=hRE.1;rw[zS] at this;cases ops[i].dst with
      | none=>exact this
      | some d=>simpa[Act.put] using this
     ·rw[zS] at ht;have hput:=JH hRE ops[i].dst hr2;have h1:=hput.2 t (by rw[YT,zS];exact ht);rw[Wt (by rw[zS];exact ht)] at h1;have e:(YH ops (listed.setIfInBounds i true) env (F ops.size)).getD t .any=if ops[i].dst=some t then X i else (YH ops listed env (F ops.size)).getD t .any:=by
       rw[QT ht,QT ht];obtain⟨gN1,gN2⟩:=fget ops.size (Nat.le_refl _) t ht;by_cases c:ops[i].dst=some t
       ·rw[if_pos c,if_pos]
        ·exact gN1 i hi1 (by simp[qW,hp,c])
        ·unfold wr;rw[List.any_eq_true];exact⟨i,by simpa using hi1,by rw[gl,if_pos rfl];simp[qW,hp,c]⟩
       ·rw[if_neg c];have e2:wr ops (listed.setIfInBounds i true) t=wr ops listed t:=by
         unfold wr;apply Bool.eq_iff_iff.2
         rw[List.any_eq_true,List.any_eq_true];constructor
         ·rintro⟨j,hj1,hj2⟩;simp only[XT] at hj2;refine⟨j,hj1,?_⟩;rw[gl] at hj2;by_cases ej:j=i
          ·subst ej;exact absurd (by simpa[qW,hp] using hj2.2) c
          ·rw[if_neg ej] at hj2;simp[hj2.1,hj2.2]
         ·rintro⟨j,hj1,hj2⟩;simp only[XT] at hj2;refine⟨j,hj1,?_⟩;rw[gl];split <;> simp[hj2.1,hj2.2]
        rw[e2]
      rw[e];exact h1
     ·rw[gl] at hk ⊢;split
      ·rfl
      ·by_cases ek:k=i
       ·subst ek;rw[hp] at hp';cases hp';exact hi3 _ hp e he hb
       ·rw[if_neg ek] at hk;exact i6 k hk p hp' e he hb
    have hcount:((List.range ops.size).filter fun j => !(listed.setIfInBounds i true).getD j false).length=fuel:=by
     have h1:((List.range ops.size).filter fun j => !listed.getD j false)=(List.range ops.size).filter fun j => !listed.getD j false:=rfl;have hperm:∀ l:List Nat,l.Nodup→i∈l→(l.filter fun j => !listed.getD j false).length=(l.filter fun j => !(listed.setIfInBounds i true).getD j false).length+1:=by
      intro l;have gl:∀ k,(listed.setIfInBounds i true).getD k false=if k=i then true else listed.getD k false:=by
       intro k;rw[Array.getD_eq_getD_getElem?,Array.getD_eq_getD_getElem?];by_cases e:i=k
       ·subst e;simp[show i<listed.size by omega]
       ·rw[Array.getElem?_setIfInBounds_ne e,if_neg (fun h=>e h.symm)]
      induction l with
      | nil=>intro _ h;cases h
      | cons x r ihr =>
       intro hnd hmem;rw[List.nodup_cons] at hnd;by_cases e:x=i
       ·subst e;have hrest:(r.filter fun j => !listed.getD j false)=r.filter fun j => !(listed.setIfInBounds x true).getD j false:=by
         apply List.filter_congr
         intro j hj;rw[gl,if_neg (by rintro rfl;exact hnd.1 hj)]
        rw[List.filter_cons,List.filter_cons,if_pos (by rw[hnl];rfl),if_neg (by rw[gl,if_pos rfl];decide),hrest];simp
       ·have hm:i∈r:=by
         cases hmem with
         | head=>exact absurd rfl e
         | tail _ h=>exact h
        have:=ihr hnd.2 hm;simp only[List.filter_cons,gl x,if_neg e];split <;> simp only[xlC,this]
     have:=hperm _ List.nodup_range (by simpa using hi1);omega
    unfold wpOp;rw[hp];simp only;cases hwt:Region.wanted ops[i] (yielded ops a'.tmps) with
    | true =>
     simp only[if_true];obtain⟨Q0,hq0,hwp⟩:=hrun hwt;refine .inl (QD ?_ (fun e a w h=>absurd h (hq0 e a w)) hwp);rintro a2 w2 ⟨v,σ2,rfl,hI2,hX2,hr2⟩;exact ih _ _ _ hcount (hdone v σ2 w2 hI2 hX2 hr2)
    | false =>
     simp only[XU,if_false];exact ih _ _ _ hcount (hdone undef σ' w' i1 (Ext.refl _ _ _) (hskip hwt))
 have hd0:Ext st σ w st σ { w with drawn:=w.drawn+1 }:=Ext.drew _;refine wp_region_any hm (key ops.size _ a _ ?_ ⟨σ,hI.drew _,hd0,hd,by simp,?_,fun i hi=>?_⟩)
 ·have:((List.range ops.size).filter fun j => !(Array.replicate ops.size false).getD j false)=List.range ops.size:=by
   apply List.filter_eq_self.2
   intro j hj;simp[Array.getD]
  rw[this];simp
 ·have e:YH ops (Array.replicate ops.size false) env (F ops.size)=env:=by
   apply List.ext_getElem?
   intro t;by_cases ht:t<env.length
   ·have hw:wr ops (Array.replicate ops.size false) t=false:=by
     unfold wr;rw[List.any_eq_false];intro j hj;simp[Array.getD]
    simp[YH,hw,ht]
   ·rw[List.getElem?_eq_none (by rw[zS];omega),List.getElem?_eq_none (by omega)]
  rw[e];exact hR.ext hd0
 ·simp[Array.getD] at hi
end Go.AL
namespace Go.AL
variable {P:Program}
def UB(ops:Array Oper):Nat→Nat→Nat→Bool
 | 0,_,_=>false
 | n+1,i,j=>match ops[i]? with
  | some o=>o.after.toList.any fun e=>Region.binds .any e&&(e.on==j || UB ops n e.on j)
  | none=>false
def VW(ops:Array Oper):List Nat→Bool
 | a::b::r=>UB ops ops.size b a&&decide (a<b)&&VW ops (b::r)
 | _=>true
def bq(P:Program)(M:List Nat)(ops:Array Oper)(ks el:List Nat)(R:St→Prop)(s0:St):Nat→List Oper→List SV→St→(List SV→St→Prop)→Prop
 | _,[],env,st,K=>K env st
 | i,o::r,env,st,K =>
  if ks.contains i then ∃ X s',ql P M o (ZW (Za o.op.operands.toList) 0 env) st (fun x s=>x=X∧s=s')∧o.guard=none∧R s'∧bq P M ops ks el R s0 (i+1) r (ZM env o.dst X) s' K
  else ∃ X,(∀ s,(if el.contains i then s=s0 else R s)→ZE P M (ops.toList.map (·.dst)) o env s (fun x=>x=X))∧bq P M ops ks el R s0 (i+1) r (ZM env o.dst X) st K
def Uf(P:Program)(ops:Array Oper)(s s':St)(o:Oper)(E:List SV)(X:SV):Prop :=
 ∀ σ w (a:Act) (env:List SV),Inv s σ w→RepEnv s σ w env a.tmps→(∀ t∈looks ops o,env.getD t .any=E.getD t .any)→env.length=E.length →
  o.guard=none∧∃ Q0:Exit→Act→World→Prop,(∀ e a w,¬ Q0 e a w) ∧
   o.wp P a w (fun a' w'=>∃ v σ',a'=a.put o.dst v∧Inv s' σ' w'∧Ext s σ w s' σ' w'∧Rep s' σ' w' X v) Q0
theorem Jx{ops:Array Oper}{listed:Array Bool}(hcl:∀ i,listed.getD i false=true→∀ p,ops[i]?=some p→∀ e,e∈p.after.toList→Region.binds .any e=true→listed.getD e.on false=true) :
  ∀ (n i j:Nat),(∀ p,ops[i]?=some p→∀ e,e∈p.after.toList→Region.binds .any e=true→listed.getD e.on false=true)→UB ops n i j=true→listed.getD j false=true
 | 0,i,j,_,h=>by cases h
 | n+1,i,j,hi,h=>by
  simp only[UB] at h;split at h
  ·rename_i o ho;rw[List.any_eq_true] at h;obtain⟨e,he1,he2⟩:=h;simp only[XT,Bool.or_eq_true,beq_iff_eq] at he2;have hl:=hi o ho e he1 he2.1;rcases he2.2 with rfl | h2
   ·exact hl
   ·exact Jx hcl n e.on j (hcl e.on hl) h2
  ·cases h
theorem Bp{ops:Array Oper}{a:Nat}{r:List Nat}(h:VW ops (a::r)=true):VW ops r=true:=by
 cases r with
 | nil=>rfl
 | cons b r=>simp only[VW,XT] at h;exact h.2
theorem jZ{ops:Array Oper}:∀ {r:List Nat} {a:Nat},VW ops (a::r)=true→∀ k∈r,a<k
 | [],a,_,k,hk=>by cases hk
 | b::r,a,h,k,hk=>by
  simp only[VW,XT,decide_eq_true_eq] at h;cases hk with
  | head=>exact h.1.2
  | tail _ hk=>exact Nat.lt_trans h.1.2 (jZ h.2 k hk)
theorem GT{ops:Array Oper}{listed:Array Bool}(hcl:∀ i,listed.getD i false=true→∀ p,ops[i]?=some p→∀ e,e∈p.after.toList→Region.binds .any e=true→listed.getD e.on false=true) :
  ∀ {r:List Nat} {a:Nat},VW ops (a::r)=true→∀ k∈r,listed.getD k false=true→listed.getD a false=true
 | [],a,_,k,hk,_=>by cases hk
 | b::r,a,h,k,hk,hl=>by
  have h':=h;simp only[VW,XT] at h;have hb:listed.getD b false=true:=by
   cases hk with
   | head=>exact hl
   | tail _ hk=>exact GT hcl h.2 k hk hl
  exact Jx hcl _ b a (hcl b hb) h.1.1
def WL(ks:List Nat)(listed:Array Bool)(n:Nat):Nat:=(ks.find? fun e => !listed.getD e false).getD n
theorem xV{ops:Array Oper}{listed:Array Bool}(n:Nat)(hcl:∀ i,listed.getD i false=true→∀ p,ops[i]?=some p→∀ e,e∈p.after.toList→Region.binds .any e=true→listed.getD e.on false=true)
  {i:Nat} (hi:∀ p,ops[i]?=some p→∀ e,e∈p.after.toList→Region.binds .any e=true→listed.getD e.on false=true) (hnl:listed.getD i false=false) :
  ∀ {ks:List Nat},VW ops ks=true→i∈ks→WL ks listed n=i
 | [],_,h=>by cases h
 | a::r,ho,h=>by
  by_cases e:a=i
  ·subst e;simp only[WL,List.find?_cons,hnl,Bool.not_false];rfl
  ·have hr:i∈r:=by
    cases h with
    | head=>exact absurd rfl e
    | tail _ h=>exact h
   have ih:=xV n hcl hi hnl (Bp ho) hr;have ha:listed.getD a false=true:=by
    cases r with
    | nil=>cases hr
    | cons b r =>
     have ho':=ho;simp only[VW,XT] at ho;by_cases eb:b=i
     ·subst eb;exact Jx hcl _ b a hi ho.1.1
     ·have hb:listed.getD b false=true:=by
       cases hv:listed.getD b false with
       | true=>rfl
       | false =>
        exfalso;simp only[WL,List.find?_cons,hv,Bool.not_false] at ih;exact eb ih
      exact Jx hcl _ b a (hcl b hb) ho.1.1
   simp only[WL,List.find?_cons,ha,Bool.not_true] at ih ⊢;exact ih
theorem nj{listed:Array Bool}{n:Nat}{ks:List Nat}(h:∀ k∈ks,listed.getD k false=true):WL ks listed n=n:=by
 unfold WL;rw[List.find?_eq_none.2 (fun k hk=>by simp only[h k hk];decide)];rfl
theorem G5{ops:Array Oper}{listed:Array Bool}{n:Nat}:∀ {ks:List Nat},VW ops ks=true→(∀ k∈ks,k<n)→WL ks listed n≤n∧(∀ k∈ks,k<WL ks listed n→listed.getD k false=true) ∧
  (WL ks listed n=n∨(WL ks listed n∈ks∧listed.getD (WL ks listed n) false=false))
 | [],_,_=>⟨Nat.le_of_eq rfl,fun k hk _=>(by cases hk),.inl rfl⟩
 | a::r,ho,hn=>by
  cases hv:listed.getD a false with
  | false =>
   have e:WL (a::r) listed n=a:=by simp only[WL,List.find?_cons,hv,Bool.not_false];rfl
   rw[e];refine⟨Nat.le_of_lt (hn a (by simp)),fun k hk hlt=>?_,.inr ⟨by simp,hv⟩⟩;cases hk with
   | head=>omega
   | tail _ hk=>have:=jZ ho k hk;omega
  | true =>
   have e:WL (a::r) listed n=WL r listed n:=by simp only[WL,List.find?_cons,hv,Bool.not_true]
   rw[e];obtain⟨h1,h2,h3⟩:=G5 (listed:=listed) (Bp ho) (fun k hk=>hn k (by simp[hk]));refine⟨h1,fun k hk hlt=>?_,h3.imp id fun h=>⟨by simp[h.1],h.2⟩⟩;cases hk with
   | head=>exact hv
   | tail _ hk=>exact h2 k hk hlt
def eF(ops:Array Oper)(ks:List Nat)(i j:Nat):Bool:=(ks.all fun k => !(decide (k<j)) || !UB ops ops.size k i) && !UB ops ops.size i j
theorem yl(ks:List Nat){id:Nat}{ops:Array Oper}{Q:Exit→List SV→St→Prop}{env:List SV}{st:St}(hm:P.follows .mixedOrders=true)(hf:Vr ops=true)
  (hks:VW ops ks=true) (hkn:ks.all (· < ops.size)=true)
  (h:∃ (F:Nat→List SV) (G:Nat→St) (X:Nat→SV),F 0=env∧G 0=st ∧
   (∀ i o,0≤i→ops[i]?=some o→F (i+1)=ZM (F i) o.dst (X i) ∧
    (if ks.contains i then Uf P ops (G i) (G (i+1)) o (F i) (X i) else G (i+1)=G i∧∀ j,(j=ops.size∨j∈ks)→eF ops ks i j=true→YN P ops (G j) o (F i) (X i))) ∧
   Q .normal (F (0+ops.toList.length)) (G (0+ops.toList.length))):AWp P (.region id ops true) Q env st:=by
 intro σ w a hI hR D hd;obtain⟨F,G,X,f1,gg1,f2',f3⟩:=h;simp only[Nat.zero_add,Array.length_toList] at f3;have f2:∀ i o,0≤i→ops[i]?=some o→True∧F (i+1)=ZM (F i) o.dst (X i):=fun i o hi ho=>⟨trivial,(f2' i o hi ho).1⟩;have hkn':∀ k∈ks,k<ops.size:=by
  intro k hk;rw[List.all_eq_true] at hkn;simpa using hkn k hk
 have gconst:∀ d a,a+d≤ops.size→(∀ k∈ks,¬ (a≤k∧k<a+d))→G (a+d)=G a:=by
  intro d;induction d with
  | zero=>intro a _ _;rfl
  | succ d ih =>
   intro a ha hno;have h1:=ih a (by omega) (fun k hk hc=>hno k hk (by omega));have hp:ops[a+d]?=some ops[a+d]:=by simp[show a+d<ops.size by omega]
   have h2:=(f2' (a+d) _ (Nat.zero_le _) hp).2;rw[if_neg (by
    intro hc;exact hno (a+d) (by simpa using hc) (by omega))] at h2
   rw[show a+(d+1)=a+d+1 by omega,h2.1,h1]
 have gsame:∀ a b,a≤b→b≤ops.size→(∀ k∈ks,¬ (a≤k∧k<b))→G b=G a:=by
  intro a b hab hb hno;obtain⟨d,rfl⟩:=Nat.exists_eq_add_of_le hab;exact gconst d a hb hno
 have hflow:∀ i j p q,ops[i]?=some p→ops[j]?=some q→i≠j→∀ t,q.dst=some t→(t∈looks ops p→if j<i then XL p j=true else XL q i=true)∧p.dst≠some t:=by
  intro i j p q hp hq hne t ht;have h1:=z8 hp;have h2:=z8 hq;unfold Vr at hf;rw[List.all_eq_true] at hf;have h3:=hf i (by simpa using h1);simp only[XT,List.all_eq_true] at h3;have h4:=h3.1 j (by simpa using h2);unfold j6 at h4;rw[hp,hq] at h4;simp only[ht,Bool.or_eq_true,beq_iff_eq,XT,Bool.not_eq_true',bne_iff_ne,ne_eq] at h4;rcases h4 with h4 | ⟨h4,h5⟩
  ·exact absurd h4 hne
  ·refine⟨fun hlk=>?_,h5⟩;rcases h4 with h4 | h4
   ·simp[hlk] at h4
   ·split <;> rename_i hji <;> simpa[hji] using h4
 have hback:∀ i p,ops[i]?=some p→∀ e,e∈p.after.toList→Region.binds .any e=true→e.on<i:=by
  intro i p hp e he hb;have h1:=z8 hp;unfold Vr at hf;rw[List.all_eq_true] at hf;have h3:=hf i (by simpa using h1);simp only[XT,hp,xmS,Option.getD_some,List.all_eq_true] at h3;have h4:=h3.2 e he;simpa[hb] using h4
 have flen:∀ i,i≤ops.size→(F i).length=env.length:=by
  intro i;induction i with
  | zero=>intro _;rw[f1]
  | succ i ih =>
   intro hi;have hp:ops[i]?=some ops[i]:=by simp[show i<ops.size by omega]
   rw[(f2 i _ (Nat.zero_le _) hp).2,YT,ih (by omega)]
 have fget:∀ i,i≤ops.size→∀ t,t<env.length→(∀ j,j<i→qW ops j t=true→(F i).getD t .any=X j)∧((∀ j,j<i→qW ops j t=false)→(F i).getD t .any=env.getD t .any):=by
  intro i;induction i with
  | zero=>intro _ t ht;exact⟨fun j hj=>absurd hj (Nat.not_lt_zero _),fun _=>by rw[f1]⟩
  | succ i ih =>
   intro hi t ht;obtain⟨ih1,ih2⟩:=ih (by omega) t ht;have hp:ops[i]?=some ops[i]:=by simp[show i<ops.size by omega]
   have he:=(f2 i _ (Nat.zero_le _) hp).2;have hg:(F (i+1)).getD t .any=if ops[i].dst=some t then X i else (F i).getD t .any:=by rw[he];exact Wt (by rw[flen i (by omega)];exact ht)
   have hwi:qW ops i t=true↔ops[i].dst=some t:=by simp[qW,hp]
   refine⟨fun j hj hw=>?_,fun hno=>?_⟩
   ·rw[hg];by_cases c:ops[i].dst=some t
    ·rw[if_pos c];by_cases e:j=i
     ·rw[e]
     ·have hjl:j<ops.size:=by omega
      have hq:ops[j]?=some ops[j]:=by simp[hjl]
      have hjd:ops[j].dst=some t:=by simpa[qW,hq] using hw
      exact absurd c (hflow i j _ _ hp hq (by omega) t hjd).2
    ·rw[if_neg c];have e:j≠i:=by rintro rfl;exact c (hwi.1 hw)
     exact ih1 j (by omega) hw
   ·rw[hg,if_neg (fun c=>by have:=hno i (by omega);rw[hwi.2 c] at this;cases this)];exact ih2 fun j hj=>hno j (by omega)
 let Inv':Array Bool→Act→World→Prop:=fun listed a' w'=>∃ σ',Inv (G (WL ks listed ops.size)) σ' w'∧Ext st σ w (G (WL ks listed ops.size)) σ' w'∧a'.defers=D∧listed.size=ops.size ∧
  RepEnv (G (WL ks listed ops.size)) σ' w' (YH ops listed env (F ops.size)) a'.tmps∧∀ i,listed.getD i false=true→∀ p,ops[i]?=some p→∀ e,e∈p.after.toList→Region.binds .any e=true→listed.getD e.on false=true
 have key:∀ (fuel:Nat) (listed:Array Bool) (a':Act) (w':World),((List.range ops.size).filter fun j => !listed.getD j false).length=fuel→Inv' listed a' w' →
   wpAny P .any ops (fun e a' w'=>Post D (Q e) st σ w a' w') fuel listed a' w':=by
  intro fuel;induction fuel with
  | zero =>
   intro listed a' w' hc hI';obtain⟨σ',i1,i2,i3,i4,i5,i6⟩:=hI';have hall:∀ j,j<ops.size→listed.getD j false=true:=by
    intro j hj;have h0:(List.range ops.size).filter (fun j => !listed.getD j false)=[]:=List.eq_nil_of_length_eq_zero hc;rw[List.filter_eq_nil_iff] at h0;simpa using h0 j (by simpa using hj)
   have hnx:WL ks listed ops.size=ops.size:=nj fun k hk=>hall k (hkn' k hk);rw[hnx] at i1 i2 i5;refine⟨?_,i3,YH ops listed env (F ops.size),G ops.size,σ',?_,i1,i5,i2⟩
   ·unfold Region.ready;rw[List.filter_eq_nil_iff];intro j hj;have hj':j<ops.size:=by simpa using hj
    have h1:=hall j hj';have:listed.getD j true=true:=by
     rw[Array.getD_eq_getD_getElem?] at h1 ⊢;rw[Array.getElem?_eq_getElem (by omega)] at h1 ⊢;exact h1
    simp[this]
   ·have e:YH ops listed env (F ops.size)=F ops.size:=by
     apply List.ext_getElem?
     intro t;by_cases ht:t<env.length
     ·have h1:=QT (ops:=ops) (listed:=listed) (eN:=F ops.size) ht;have hl1:t<(YH ops listed env (F ops.size)).length:=by rw[zS];exact ht
      have hl2:t<(F ops.size).length:=by rw[flen _ (Nat.le_refl _)];exact ht
      rw[List.getElem?_eq_getElem hl1,List.getElem?_eq_getElem hl2];simp only[xgE,List.getElem?_eq_getElem hl1,List.getElem?_eq_getElem hl2,Option.getD_some] at h1;rw[h1];split
      ·rfl
      ·rename_i hno;have h2:=(fget ops.size (Nat.le_refl _) t ht).2 (fun j hj=>by
        cases hw:qW ops j t with
        | false=>rfl
        | true =>
         exfalso;apply hno
         unfold wr;rw[List.any_eq_true];exact⟨j,by simpa using hj,by rw[hall j hj,hw];rfl⟩)
       simp only[xgE,List.getElem?_eq_getElem hl2,Option.getD_some] at h2;rw[h2]
     ·rw[List.getElem?_eq_none (by rw[zS];omega),List.getElem?_eq_none (by rw[flen _ (Nat.le_refl _)];omega)]
    rw[e];exact f3
  | succ fuel ih =>
   intro listed a' w' hc hI';obtain⟨σ',i1,i2,i3,i4,i5,i6⟩:=hI';have hready:∀ i,i∈Region.ready .any ops listed↔i<ops.size∧listed.getD i true=false∧∀ p,ops[i]?=some p→∀ e,e∈p.after.toList→Region.binds .any e=true→listed.getD e.on false=true:=by
    intro i;unfold Region.ready;rw[List.mem_filter];constructor
    ·rintro⟨h1,h2⟩;have h1':i<ops.size:=by simpa using h1
     simp only[XT,Bool.not_eq_true'] at h2;refine⟨h1',h2.1,fun p hp e he hb=>?_⟩;have h3:=h2.2;rw[hp] at h3;simp only[xmS,Option.getD_some,Array.all_eq_true'] at h3;have:=h3 e (by simpa using he);simpa[hb] using this
    ·rintro⟨h1,h2,h3⟩;refine⟨by simpa using h1,?_⟩;have hp:ops[i]?=some ops[i]:=by simp[h1]
     simp only[h2,hp,xmS,Option.getD_some,Bool.not_false,Bool.true_and,Array.all_eq_true'];intro e he;cases hb:Region.binds .any e with
     | false=>rfl
     | true=>simpa using h3 _ hp e (by simpa using he) hb
   refine⟨fun hnil=>?_,fun i hi=>?_⟩
   ·-- the least one that is not listed is ready
    exfalso;have hex:∃ j,j<ops.size∧listed.getD j false=false:=by
     have hne:(List.range ops.size).filter (fun j => !listed.getD j false)≠[]:=by intro h0;rw[h0] at hc;cases hc
     obtain⟨j,hj⟩:=List.exists_mem_of_ne_nil _ hne;rw[List.mem_filter] at hj;exact⟨j,by simpa using hj.1,by simpa using hj.2⟩
    obtain⟨j,hj1,hj2⟩:=hex;have least:∀ n,∀ j,j≤n→j<ops.size→listed.getD j false=false→∃ i,i<ops.size∧listed.getD i false=false∧∀ k,k<i→listed.getD k false=true:=by
     intro n;induction n with
     | zero =>
      intro j hj h1 h2;exact⟨j,h1,h2,fun k hk=>by omega⟩
     | succ n ihn =>
      intro j hj h1 h2;by_cases c:∃ k,k<j∧listed.getD k false=false
      ·obtain⟨k,hk1,hk2⟩:=c;exact ihn k (by omega) (by omega) hk2
      ·refine⟨j,h1,h2,fun k hk=>?_⟩;cases hv:listed.getD k false with
       | true=>rfl
       | false=>exact absurd ⟨k,hk,hv⟩ c
    obtain⟨i,hi1,hi2,hi3⟩:=least j j (Nat.le_refl _) hj1 hj2;have:i∈Region.ready .any ops listed:=(hready i).2 ⟨hi1,by
     rw[Array.getD_eq_getD_getElem?] at hi2 ⊢;rw[Array.getElem?_eq_getElem (by omega)] at hi2 ⊢;exact hi2,fun p hp e he hb=>hi3 _ (hback i p hp e he hb)⟩
    rw[hnil] at this;cases this
   ·obtain⟨hi1,hi2,hi3⟩:=(hready i).1 hi;have hp:ops[i]?=some ops[i]:=by simp[hi1]
    have hnl:listed.getD i false=false:=by
     rw[Array.getD_eq_getD_getElem?] at hi2 ⊢;rw[Array.getElem?_eq_getElem (by omega)] at hi2 ⊢;exact hi2
    obtain⟨hnext,hfact⟩:=f2' i _ (Nat.zero_le _) hp;have hagree:∀ t∈looks ops ops[i],(YH ops listed env (F ops.size)).getD t .any=(F i).getD t .any:=by
     intro t ht;by_cases hlt:t<env.length
     ·rw[QT hlt];obtain⟨g1,g2⟩:=fget i (by omega) t hlt;obtain⟨gN1,gN2⟩:=fget ops.size (Nat.le_refl _) t hlt;by_cases c:∃ j,j<i∧qW ops j t=true
      ·obtain⟨j,hj,hw⟩:=c;have hjl:j<ops.size:=by omega
       have hq:ops[j]?=some ops[j]:=by simp[hjl]
       have hjd:ops[j].dst=some t:=by simpa[qW,hq] using hw
       have hedge:=(hflow i j _ _ hp hq (by omega) t hjd).1 ht;rw[if_pos hj] at hedge;have hlj:listed.getD j false=true:=by
        unfold XL at hedge;rw[List.any_eq_true] at hedge;obtain⟨e,he1,he2⟩:=hedge;simp only[XT,beq_iff_eq] at he2;have:=hi3 _ hp e he1 he2.1;rwa[he2.2] at this
       rw[if_pos (by unfold wr;rw[List.any_eq_true];exact⟨j,by simpa using hjl,by rw[hlj,hw];rfl⟩),g1 j hj hw,gN1 j hjl hw]
      ·rw[g2 fun j hj=>by
        cases hw:qW ops j t with
        | false=>rfl
        | true=>exact absurd ⟨j,hj,hw⟩ c]
       rw[if_neg];intro hwr;unfold wr at hwr;rw[List.any_eq_true] at hwr;obtain⟨j,hj1,hj2⟩:=hwr;simp only[XT] at hj2;have hjl:j<ops.size:=by simpa using hj1
       have hq:ops[j]?=some ops[j]:=by simp[hjl]
       have hjd:ops[j].dst=some t:=by simpa[qW,hq] using hj2.2
       have hne:i≠j:=by rintro rfl;rw[hj2.1] at hnl;cases hnl
       have hnji:¬ j<i:=fun hji=>c ⟨j,hji,hj2.2⟩;have hedge:=(hflow i j _ _ hp hq hne t hjd).1 ht;rw[if_neg hnji] at hedge;unfold XL at hedge;rw[List.any_eq_true] at hedge;obtain⟨e,he1,he2⟩:=hedge;simp only[XT,beq_iff_eq] at he2;have:=i6 j hj2.1 _ hq e he1 he2.1;rw[he2.2,hnl] at this;cases this
     ·rw[xgE,xgE,List.getElem?_eq_none (by rw[zS];omega),List.getElem?_eq_none (by rw[flen i (by omega)];omega)]
    have hns:=G5 (listed:=listed) hks hkn';have hdone:∀ (v:Value) (σ2:Sig) (w2:World) (s2:St),s2=G (WL ks (listed.setIfInBounds i true) ops.size)→Inv s2 σ2 w2→Ext (G (WL ks listed ops.size)) σ' w' s2 σ2 w2→Rep s2 σ2 w2 (X i) v →
      Inv' (listed.setIfInBounds i true) (a'.put ops[i].dst v) w2:=by
     intro v σ2 w2 s2 es2 hI2 hX2 hr2;subst es2;have gl:∀ k,(listed.setIfInBounds i true).getD k false=if k=i then true else listed.getD k false:=by
      intro k;rw[Array.getD_eq_getD_getElem?,Array.getD_eq_getD_getElem?];by_cases e:i=k
      ·subst e;simp[show i<listed.size by omega]
      ·rw[Array.getElem?_setIfInBounds_ne e,if_neg (fun h=>e h.symm)]
     have hRE:=i5.ext hX2;refine⟨σ2,hI2,i2.trans hX2,by rw[Q8];exact i3,by simpa using i4,⟨?_,fun t ht=>?_⟩,fun k hk p hp' e he hb=>?_⟩
     ·rw[zS];have:=hRE.1;rw[zS] at this;cases ops[i].dst with
      | none=>exact this
      | some d=>simpa[Act.put] using this
     ·rw[zS] at ht;have hput:=JH hRE ops[i].dst hr2;have h1:=hput.2 t (by rw[YT,zS];exact ht);rw[Wt (by rw[zS];exact ht)] at h1;have e:(YH ops (listed.setIfInBounds i true) env (F ops.size)).getD t .any=if ops[i].dst=some t then X i else (YH ops listed env (F ops.size)).getD t .any:=by
       rw[QT ht,QT ht];obtain⟨gN1,gN2⟩:=fget ops.size (Nat.le_refl _) t ht;by_cases c:ops[i].dst=some t
       ·rw[if_pos c,if_pos]
        ·exact gN1 i hi1 (by simp[qW,hp,c])
        ·unfold wr;rw[List.any_eq_true];exact⟨i,by simpa using hi1,by rw[gl,if_pos rfl];simp[qW,hp,c]⟩
       ·rw[if_neg c];have e2:wr ops (listed.setIfInBounds i true) t=wr ops listed t:=by
         unfold wr;apply Bool.eq_iff_iff.2
         rw[List.any_eq_true,List.any_eq_true];constructor
         ·rintro⟨j,hj1,hj2⟩;simp only[XT] at hj2;refine⟨j,hj1,?_⟩;rw[gl] at hj2;by_cases ej:j=i
          ·subst ej;exact absurd (by simpa[qW,hp] using hj2.2) c
          ·rw[if_neg ej] at hj2;simp[hj2.1,hj2.2]
         ·rintro⟨j,hj1,hj2⟩;simp only[XT] at hj2;refine⟨j,hj1,?_⟩;rw[gl];split <;> simp[hj2.1,hj2.2]
        rw[e2]
      rw[e];exact h1
     ·rw[gl] at hk ⊢;split
      ·rfl
      ·by_cases ek:k=i
       ·subst ek;rw[hp] at hp';cases hp';exact hi3 _ hp e he hb
       ·rw[if_neg ek] at hk;exact i6 k hk p hp' e he hb
    have hcount:((List.range ops.size).filter fun j => !(listed.setIfInBounds i true).getD j false).length=fuel:=by
     have h1:((List.range ops.size).filter fun j => !listed.getD j false)=(List.range ops.size).filter fun j => !listed.getD j false:=rfl;have hperm:∀ l:List Nat,l.Nodup→i∈l→(l.filter fun j => !listed.getD j false).length=(l.filter fun j => !(listed.setIfInBounds i true).getD j false).length+1:=by
      intro l;have gl:∀ k,(listed.setIfInBounds i true).getD k false=if k=i then true else listed.getD k false:=by
       intro k;rw[Array.getD_eq_getD_getElem?,Array.getD_eq_getD_getElem?];by_cases e:i=k
       ·subst e;simp[show i<listed.size by omega]
       ·rw[Array.getElem?_setIfInBounds_ne e,if_neg (fun h=>e h.symm)]
      induction l with
      | nil=>intro _ h;cases h
      | cons x r ihr =>
       intro hnd hmem;rw[List.nodup_cons] at hnd;by_cases e:x=i
       ·subst e;have hrest:(r.filter fun j => !listed.getD j false)=r.filter fun j => !(listed.setIfInBounds x true).getD j false:=by
         apply List.filter_congr
         intro j hj;rw[gl,if_neg (by rintro rfl;exact hnd.1 hj)]
        rw[List.filter_cons,List.filter_cons,if_pos (by rw[hnl];rfl),if_neg (by rw[gl,if_pos rfl];decide),hrest];simp
       ·have hm:i∈r:=by
         cases hmem with
         | head=>exact absurd rfl e
         | tail _ h=>exact h
        have:=ihr hnd.2 hm;simp only[List.filter_cons,gl x,if_neg e];split <;> simp only[xlC,this]
     have:=hperm _ List.nodup_range (by simpa using hi1);omega
    have gl:∀ k,(listed.setIfInBounds i true).getD k false=if k=i then true else listed.getD k false:=by
     intro k;rw[Array.getD_eq_getD_getElem?,Array.getD_eq_getD_getElem?];by_cases e:i=k
     ·subst e;simp[show i<listed.size by omega]
     ·rw[Array.getElem?_setIfInBounds_ne e,if_neg (fun h=>e h.symm)]
    have hlook:=hagree;unfold wpOp;rw[hp];simp only;by_cases hk:ks.contains i=true
    ·-- one that turns the objects
     have hki:i∈ks:=by simpa using hk
     rw[if_pos hk] at hfact;have hnx:WL ks listed ops.size=i:=xV ops.size i6 hi3 hnl hks hki;have hnx2:G (WL ks (listed.setIfInBounds i true) ops.size)=G (i+1):=by
      have hns2:=G5 (listed:=listed.setIfInBounds i true) hks hkn';have hge:i+1≤WL ks (listed.setIfInBounds i true) ops.size:=by
       rcases hns2.2.2 with h | ⟨h1,h2⟩
       ·omega
       ·rw[gl] at h2;by_cases e:WL ks (listed.setIfInBounds i true) ops.size=i
        ·rw[if_pos e] at h2;cases h2
        ·rw[if_neg e] at h2;rcases Nat.lt_or_ge (WL ks (listed.setIfInBounds i true) ops.size) i with hlt | hge
         ·have:=hns.2.1 _ h1 (by omega);rw[h2] at this;cases this
         ·omega
      refine gsame _ _ hge hns2.1 fun k hkk hc=>?_;have h1:=hns2.2.1 k hkk hc.2;rw[gl,if_neg (by omega)] at h1;have:∀ {l:List Nat},VW ops l=true→i∈l→k∈l→listed.getD i false=true:=by
       intro l;induction l with
       | nil=>intro _ h;cases h
       | cons a r ihl =>
        intro ho hi' hk';by_cases ea:a=i
        ·subst ea;have hkr:k∈r:=by
          cases hk' with
          | head=>omega
          | tail _ h=>exact h
         exact GT i6 ho k hkr h1
        ·have hir:i∈r:=by
          cases hi' with
          | head=>exact absurd rfl ea
          | tail _ h=>exact h
         by_cases ek:a=k
         ·subst ek;have:=jZ ho i hir;omega
         ·have hkr:k∈r:=by
           cases hk' with
           | head=>exact absurd rfl ek
           | tail _ h=>exact h
          exact ihl (Bp ho) hir hkr
      have hcon:=this hks hki hkk;rw[hnl] at hcon;cases hcon
     rw[hnx] at i1 i2 i5 hdone;obtain⟨hgn,Q0,hq0,hwp⟩:=hfact σ' w' a' _ i1 i5 hlook (by rw[zS,flen i (by omega)]);have hwt:Region.wanted ops[i] (yielded ops a'.tmps)=true:=by simp[Region.wanted,hgn]
     simp only[hwt,if_true];refine .inl (QD ?_ (fun e a w h=>absurd h (hq0 e a w)) hwp);rintro a2 w2 ⟨v,σ2,rfl,hI2,hX2,hr2⟩;exact ih _ _ _ hcount (hdone v σ2 w2 _ hnx2.symm hI2 hX2 hr2)
    ·rw[if_neg hk] at hfact;have hki:i ∉ ks:=by simpa using hk
     have hnx:WL ks (listed.setIfInBounds i true) ops.size=WL ks listed ops.size:=by
      unfold WL;have:∀ l:List Nat,i ∉ l→(l.find? fun e => !(listed.setIfInBounds i true).getD e false)=l.find? fun e => !listed.getD e false:=by
       intro l;induction l with
       | nil=>intro _;rfl
       | cons a r ihl =>
        intro hni;have h1:a≠i:=fun e=>hni (by simp[e]);rw[List.find?_cons,List.find?_cons,gl,if_neg h1,ihl (fun h=>hni (by simp[h]))]
      rw[this ks hki]
     have hst:eF ops ks i (WL ks listed ops.size)=true:=by
      unfold eF;simp only[XT,List.all_eq_true,Bool.or_eq_true,Bool.not_eq_true',decide_eq_false_iff_not];refine⟨fun k hk=>?_,?_⟩
      ·by_cases c:k<WL ks listed ops.size
       ·right;cases ha:UB ops ops.size k i with
        | false=>rfl
        | true =>
         have:=Jx i6 _ k i (i6 k (hns.2.1 k hk c)) ha;rw[hnl] at this;cases this
       ·exact .inl c
      ·cases ha:UB ops ops.size i (WL ks listed ops.size) with
       | false=>rfl
       | true =>
        have h1:=Jx i6 _ i _ hi3 ha;rcases hns.2.2 with h2 | ⟨_,h2⟩
        ·rw[h2] at h1;simp[Array.getD,i4] at h1
        ·rw[h2] at h1;cases h1
     have hst2:WL ks listed ops.size=ops.size∨WL ks listed ops.size∈ks:=hns.2.2.imp (fun h=>h) fun h=>h.1;obtain⟨hrun,hskip⟩:=hfact.2 _ hst2 hst σ' w' a' _ i1 i5 hlook (by rw[zS,flen i (by omega)]);cases hwt:Region.wanted ops[i] (yielded ops a'.tmps) with
     | true =>
      simp only[if_true];obtain⟨Q0,hq0,hwp⟩:=hrun hwt;refine .inl (QD ?_ (fun e a w h=>absurd h (hq0 e a w)) hwp);rintro a2 w2 ⟨v,σ2,rfl,hI2,hX2,hr2⟩;exact ih _ _ _ hcount (hdone v σ2 w2 _ (by rw[hnx]) hI2 hX2 hr2)
     | false =>
      simp only[XU,if_false];exact ih _ _ _ hcount (hdone undef σ' w' _ (by rw[hnx]) i1 (Ext.refl _ _ _) (hskip hwt))
 have hd0:Ext st σ w st σ { w with drawn:=w.drawn+1 }:=Ext.drew _;have hg0:G (WL ks (Array.replicate ops.size false) ops.size)=st:=by
  cases hk:ks with
  | nil =>
   have e1:WL [] (Array.replicate ops.size false) ops.size=ops.size:=by simp[WL]
   rw[e1,←gg1];exact gsame 0 ops.size (Nat.zero_le _) (Nat.le_refl _) fun k hk'=>by rw[hk] at hk';cases hk'
  | cons e0 r =>
   have e1:WL (e0::r) (Array.replicate ops.size false) ops.size=e0:=by
    have:(Array.replicate ops.size false).getD e0 false=false:=by simp[Array.getD]
    simp only[WL,List.find?_cons,this,Bool.not_false];rfl
   rw[e1,←gg1];refine gsame 0 e0 (Nat.zero_le _) (Nat.le_of_lt (hkn' e0 (by rw[hk];simp))) fun k hk' hc=>?_;rw[hk] at hk' hks;cases hk' with
   | head=>omega
   | tail _ h=>have:=jZ hks k h;omega
 refine wp_region_any hm (key ops.size _ a _ ?_ ⟨σ,by rw[hg0];exact hI.drew _,by rw[hg0];exact hd0,hd,by simp,?_,fun i hi=>?_⟩)
 ·have:((List.range ops.size).filter fun j => !(Array.replicate ops.size false).getD j false)=List.range ops.size:=by
   apply List.filter_eq_self.2
   intro j hj;simp[Array.getD]
  rw[this];simp
 ·have e:YH ops (Array.replicate ops.size false) env (F ops.size)=env:=by
   apply List.ext_getElem?
   intro t;by_cases ht:t<env.length
   ·have hw:wr ops (Array.replicate ops.size false) t=false:=by
     unfold wr;rw[List.any_eq_false];intro j hj;simp[Array.getD]
    simp[YH,hw,ht]
   ·rw[List.getElem?_eq_none (by rw[zS];omega),List.getElem?_eq_none (by omega)]
  rw[e,hg0];exact hR.ext hd0
 ·simp[Array.getD] at hi
end Go.AL
namespace Go.AL
variable {P:Program}
end Go.AL
namespace Go.AL
variable {P:Program}
def Ag(x y:SV):Prop:=y = .any∨x=y∨norm x=y
def Ys:List SV→List SV→Prop
 | [],[]=>True
 | x::r,y::r'=>Ag x y∧Ys r r'
 | _,_=>False
theorem AF{st:St}{σ:Sig}{w:World}{x y:SV}{v:Value}(h:Ag x y)(r:Rep st σ w x v):Rep st σ w y v:=by
 rcases h with rfl | rfl | rfl
 ·exact .any _
 ·exact r
 ·exact r.norm
theorem BS:∀ (a b:List SV),Ys a b→a.length=b.length∧∀ i,i<b.length→Ag (a.getD i .any) (b.getD i .any)
 | [],[],_=>⟨rfl,fun i hi=>absurd hi (Nat.not_lt_zero _)⟩
 | x::r,y::r',h=>by
  obtain⟨h1,h2⟩:=BS r r' h.2;refine⟨by simp[h1],fun i hi=>?_⟩;cases i with
  | zero=>exact h.1
  | succ i=>exact h2 i (by simpa using hi)
theorem cw{st:St}{σ:Sig}{w:World}{a b:List SV}{t:Array Value}(h:Ys a b)(r:RepEnv st σ w a t):RepEnv st σ w b t:=by
 obtain⟨h1,h2⟩:=BS a b h;exact⟨by rw[←h1];exact r.1,fun i hi=>AF (h2 i hi) (r.2 i (by omega))⟩
theorem mh:Ys [] []:=trivial
theorem pZ(x:SV){r r':List SV}(h:Ys r r'):Ys (x::r) (.any::r'):=⟨.inl rfl,h⟩
theorem uI(x:SV){r r':List SV}(h:Ys r r'):Ys (x::r) (x::r'):=⟨.inr (.inl rfl),h⟩
theorem yI(x:SV){r r':List SV}(h:Ys r r'):Ys (x::r) (norm x::r'):=⟨.inr (.inr rfl),h⟩
theorem qu{r r':List SV}(h:Ys r r':=by repeat (first | exact mh | refine pZ _ ?_ | refine uI _ ?_ | refine yI _ ?_)):Ys r r':=h
theorem W7{c:Code}{Q:Exit→List SV→St→Prop}{a b:List SV}{st:St}(hl:Ys a b)(h:AWp P c Q b st):AWp P c Q a st :=
 fun σ w t hI hR {_} hd=>h σ w t hI (cw hl hR) hd
def j5(P:Program)(rs:List ResultVar)(K:SV→St→Prop):Exit→List SV→St→Prop
 | .normal=>fun env st=>(Y5 P env st rs).isSome=true∧K (Yi ((Y5 P env st rs).getD [])) st
 | .ret=>fun env st=>(Y5 P env st rs).isSome=true∧K (Yi ((Y5 P env st rs).getD [])) st
 | _=>fun _ _=>False
def CR:SV→Bool
 | .sc (.bool b)=>b
 | _=>false
def Mo:SV→Prop
 | .sc (.bool b)=>True
 | _=>False
theorem dX{x:SV}(h:Mo x):x = .sc (.bool (CR x)):=by
 unfold Mo at h;split at h
 ·rfl
 ·exact h.elim
def QA(P:Program)(M:List Nat):Code→(Exit→List SV→St→Prop)→List SV→St→Prop
 | .skip,Q,env,st=>Q .normal env st
 | .region _ ops false,Q,env,st=>XK P M (ops.toList.map (·.dst)) ops.toList env st (Q .normal)
 | .seq a b,Q,env,st=>QA P M a (Hl (QA P M b Q) Q) env st
 | .cond c x y,Q,env,st=>Mo (ev env c)∧(CR (ev env c)=true→QA P M x Q env st)∧(CR (ev env c)=false→QA P M y Q env st)
 | .block id c,Q,env,st=>QA P M c (KU id Q) env st
 | .exit id,Q,env,st=>Q (.exit id) env st
 | .ret,Q,env,st=>Q .ret env st
 | .label _,Q,env,st=>Q .normal env st
 | c,Q,env,st=>AWp P c Q env st
theorem BJ{M:List Nat}:∀ {c:Code} {Q:Exit→List SV→St→Prop} {env:List SV} {st:St},QA P M c Q env st→AWp P c Q env st:=by
 intro c;induction c with
 | skip=>exact fun h=>bi h
 | region id ops draw =>
  intro Q env st h;cases draw with
  | false=>exact DQ M h
  | true=>exact h
 | seq a b iha ihb =>
  intro Q env st h;refine lv ((iha h).mono fun e env st he=>?_);cases e <;> first | exact ihb he | exact he
 | cond c x y ihx ihy =>
  intro Q env st h;obtain⟨h1,h2,h3⟩:=h;exact du (dX h1) (fun e=>ihx (h2 e)) (fun e=>ihy (h3 e))
 | block id c ih=>exact fun h=>cT (ih h)
 | exit id=>exact fun h=>nX h
 | ret=>exact fun h=>aB h
 | label l=>exact fun h=>mK h
 | _=>exact fun h=>h
theorem QF{M:List Nat}{f:FuncId}{fn:Func}{c:Code}{rs:Array ResultVar}{n:Nat}{args:List SV}{K:SV→St→Prop}{st:St}(hf:P.funcs[f]?=some fn)(hb:fn.body=some c)
  (hr:fn.results=rs) (hn:fn.ntmps=n) (h:QA P M c (j5 P rs.toList K) (args++List.replicate (n-args.length) .any) st):ACalls P f args K st:=by
 subst hr;subst hn;refine p8 hf hb ((BJ h).mono fun e env st hq=>?_);cases e <;> simp only[j5] at hq <;> first | exact hq.elim | exact⟨trivial,_,qU (d:=[]) hq.1,hq.2⟩
def Fu(st:St)(K:SV→St→Prop):SV→St→Prop:=fun x s=>(∃ ex,s=st++ex)∧Ids st.length (norm x)∧K (norm x) st
theorem zd(M:List Nat){f:FuncId}{fn:Func}{c:Code}{rs:Array ResultVar}{n:Nat}{args:List SV}{K:SV→St→Prop}{st:St}(hf:P.funcs[f]?=some fn)(hb:fn.body=some c)
  (hr:fn.results=rs) (hn:fn.ntmps=n) (h:QA P M c (j5 P rs.toList (Fu st K)) (args++List.replicate (n-args.length) .any) st) :
  ACalls P f args K st :=
 Dn ((QF hf hb hr hn h).mono fun x s ⟨⟨ex,e⟩,h1,h2⟩=>⟨ex,e,h1,h2⟩)
theorem zx{c:Code}{Q:Exit→List SV→St→Prop}(M:List Nat)(I:Nat→List SV→St→Prop){env env0:List SV}{st:St}{n:Nat}(hl:Ys env env0)(h0:I n env0 st)
  (round:∀ n env st,I n env st→QA P M c (Hl (fun e s=>∃ m e',m<n∧Ys e e'∧I m e' s) Q) env st):AWp P (.loop c) Q env st:=by
 refine W7 hl (vu (fun m e s=>∃ e',Ys e e'∧I m e' s) ⟨env0,?_,h0⟩ ?_)
 ·have key:∀ l:List SV,Ys l l:=by
   intro l;induction l with
   | nil=>trivial
   | cons x r ih=>exact⟨.inr (.inl rfl),ih⟩
  exact key env0
 ·rintro m e s ⟨e',hle,hi⟩;refine W7 hle ((BJ (round m e' s hi)).mono fun x env st hq=>?_);cases x <;> first | exact hq | (obtain⟨m',e2,h1,h2,h3⟩:=hq;exact⟨m',h1,e2,h2,h3⟩)
theorem Gd{c:Code}{Q:Exit→List SV→St→Prop}{env:List SV}{st:St}(d z z':Nat)(he:env.getD d .any = .slice .full z' [])
  (h:AWp P c Q (env.set d (.slice (.own st.length 0) z [])) (st++[.tok 0])):AWp P c Q env st:=by
 intro σ w t hI hR D hd;have hX:Ext st σ w (st++[.tok 0]) (σ.setMu st.length none) w:=Ext.newTok none;have hI':=hI.newTok none (fun c hc=>by cases hc);have hr:=hR.get d;rw[he] at hr;have hr2:Rep (st++[.tok 0]) (σ.setMu st.length none) w (.slice (.own st.length 0) z []) (t.tmps.getD d undef):=by
  have h3:=(XE (z':=z) hr (.inl rfl)).ext hX;generalize t.tmps.getD d undef=v at h3;generalize hl:([]:List SV)=l at h3;generalize hx:SV.slice .full z l=x at h3;cases h3 with
  | nil m z hm=>cases hx;exact .nil _ _ ⟨0,by simp,Nat.le_refl _⟩
  | slice m z l a cap vals hcap hsp hzz hc hr hm =>
   cases hx;subst hl;exact .slice _ _ _ _ _ vals hcap hsp hzz hc hr ⟨0,by simp,Nat.le_refl _,fun _ =>.inl hm⟩
  | _=>cases hx
 have hR':RepEnv (st++[.tok 0]) (σ.setMu st.length none) w (env.set d (.slice (.own st.length 0) z [])) t.tmps:=by
  have h4:=hR.ext hX;refine⟨by simpa using h4.1,fun i hi=>?_⟩;simp only[List.length_set] at hi;by_cases e:d=i
  ·subst e;simpa[xgE,hi] using hr2
  ·have:=h4.2 i hi;simpa[xgE,List.getElem?_set_ne e] using this
 exact wp_mono (h _ _ t hI' hR' hd) fun e a w hp=>hp.ext hX
theorem wh{f:FuncId}{args args':List SV}{K:SV→St→Prop}{st:St}(h:args=args'):ACalls P f args K st=ACalls P f args' K st:=by rw[h]
theorem mE{c:Code}{Q:Exit→List SV→St→Prop}{env env':List SV}{st st':St}(h:env=env')(h':st=st'):AWp P c Q env st=AWp P c Q env' st':=by rw[h,h']
attribute [congr] wh mE
theorem fD(a b:Bool):(bif a then true else b)=(a || b):=by cases a <;> rfl
theorem pU(a b:Bool):(bif a then b else false)=(a&&b):=by cases a <;> rfl
section eqs
variable {M:List Nat} {K:SV→St→Prop} {env env':List SV} {st st':St} {ds ds':List (Option Tmp)} {l l':List Oper} {N:List SV→St→Prop} {o:Oper} {kd kd':Kd} {g g':Bool}
theorem Fm(h1:ds=ds')(h2:l=l')(h3:env=env')(h4:st=st'):XK P M ds l env st N=XK P M ds' l' env' st' N:=by rw[h1,h2,h3,h4]
theorem jL(h3:env=env')(h4:st=st')(h5:kd=kd'):U7 P M o env st N kd=U7 P M o env' st' N kd':=by rw[h3,h4,h5]
theorem jp(h3:env=env')(h4:st=st')(h6:g=g')(h5:kd=kd'):UX P M o env st g N kd=UX P M o env' st' g' N kd':=by rw[h3,h4,h5,h6]
theorem Fq(h3:env=env')(h4:st=st'):ql P M o env st K=ql P M o env' st' K:=by rw[h3,h4]
theorem GB{N:List SV→Prop}(h1:ds=ds')(h2:l=l')(h3:env=env')(h4:st=st'):Yt P M ds l env st N=Yt P M ds' l' env' st' N:=by rw[h1,h2,h3,h4]
theorem L7{N:SV→Prop}(h1:ds=ds')(h3:env=env')(h4:st=st'):ZE P M ds o env st N=ZE P M ds' o env' st' N:=by rw[h1,h3,h4]
theorem jd{N:SV→Prop}(h3:env=env')(h4:st=st')(h5:kd=kd'):U2 P M o env st N kd=U2 P M o env' st' N kd':=by rw[h3,h4,h5]
theorem L4{N:SV→Prop}(h3:env=env')(h4:st=st')(h6:g=g')(h5:kd=kd'):UQ P M o env st g N kd=UQ P M o env' st' g' N kd':=by rw[h3,h4,h5,h6]
theorem DY{t:TypeId}{y y' x x':SV}{N:St→Prop}(h:st=st')(h1:y=y')(h2:x=x'):YR P t st y x N=YR P t st' y' x' N:=by rw[h,h1,h2]
theorem Fj{t tx:TypeId}{y y' x x':SV}(h:st=st')(h1:x=x')(h2:y=y'):Ja P t tx st x y K=Ja P t tx st' x' y' K:=by rw[h,h1,h2]
theorem DU{t tx:TypeId}{y y' x x':SV}(h:st=st')(h1:x=x')(h2:y=y'):Vj P t tx st x y K=Vj P t tx st' x' y' K:=by rw[h,h1,h2]
theorem GI{t:TypeId}{y y' x x':SV}(h:st=st')(h1:x=x')(h2:y=y'):Vq P t st x y K=Vq P t st' x' y' K:=by rw[h,h1,h2]
theorem Ba{t:TypeId}{y y' x x':SV}(h:st=st')(h1:x=x')(h2:y=y'):Wd P t st x y K=Wd P t st' x' y' K:=by rw[h,h1,h2]
theorem DS{t:TypeId}{x x':SV}(h:st=st')(h1:x=x'):Vi P t st x K=Vi P t st' x' K:=by rw[h,h1]
attribute [congr] DU GI Ba DS
theorem GU{a a':List SV}{x x':SV}(h:a=a')(h1:st=st')(h2:x=x'):Wg P a st x K=Wg P a' st' x' K:=by rw[h,h1,h2]
theorem EQ{mk ob:Bool}{a a':List Operand}{t t':List TypeId}{c c':Callee}(h3:env=env')(h4:st=st')(h:a=a')(h1:t=t')(h2:c=c'):WZ P o mk ob env st K a t c=WZ P o mk ob env' st' K a' t' c':=by rw[h,h1,h2,h3,h4]
theorem jC{mk ob:Bool}{a a':List Operand}{t t':List TypeId}{c:Builtin}(h3:env=env')(h4:st=st')(h:a=a')(h1:t=t'):L' P o mk ob env st K c a t=L' P o mk ob env' st' K c a' t':=by rw[h,h1,h3,h4]
theorem wO{c:Code}{Q:Exit→List SV→St→Prop}(h3:env=env')(h4:st=st'):QA P M c Q env st=QA P M c Q env' st':=by rw[h3,h4]
attribute [congr] Fm jL jp Fq GB L7 jd L4 DY Fj GU EQ jC wO
variable {t tx:TypeId} {k k':IntKind} {m n i:Int} {s s':ByteArray} {b b' c:Bool} {x y z:SV} {xs ys:List SV} {md md':Mode} {zz z1:Nat} {id off f j:Nat} {fn:Fn} {p:Prop} {v:Value}
@[go_sem] theorem CL{op:BinOp}:Bn P op t (.sc (.int k m)) (.sc (.int k' n))=(Ql op k k'∧Vy op n):=rfl
@[go_sem] theorem II:Ql .add k k'=(k=k'):=rfl
@[go_sem] theorem CM:Ql .sub k k'=(k=k'):=rfl
@[go_sem] theorem IB:Ql .mul k k'=(k=k'):=rfl
@[go_sem] theorem CQ:Ql .quo k k'=(k=k'):=rfl
@[go_sem] theorem It:Ql .rem k k'=(k=k'):=rfl
@[go_sem] theorem IF:Ql .eql k k'=(k=k'):=rfl
@[go_sem] theorem CH:Ql .neq k k'=(k=k'):=rfl
@[go_sem] theorem IY:Ql .lss k k'=(k=k'):=rfl
@[go_sem] theorem C9:Ql .leq k k'=(k=k'):=rfl
@[go_sem] theorem Mc:Ql .gtr k k'=(k=k'):=rfl
@[go_sem] theorem Im:Ql .geq k k'=(k=k'):=rfl
@[go_sem] theorem IZ:Ql .and k k'=(k=k'):=rfl
@[go_sem] theorem NG:Ql .or k k'=(k=k'):=rfl
@[go_sem] theorem Iv:Ql .xor k k'=(k=k'):=rfl
@[go_sem] theorem lD:Ql .andNot k k'=(k=k'):=rfl
@[go_sem] theorem CC:Ql .shl k k'=True:=rfl
@[go_sem] theorem IK:Ql .shr k k'=True:=rfl
@[go_sem] theorem Me{op:BinOp}:Bn P op t (.sc (.string s)) (.sc (.string s'))=KT op s s':=rfl
@[go_sem] theorem MF:Fs .eql=True:=rfl
@[go_sem] theorem Mh:Fs .neq=True:=rfl
@[go_sem] theorem C8:Kw .eql b=b:=rfl
@[go_sem] theorem CV:Kw .neq b = !b:=rfl
@[go_sem] theorem ir{op:BinOp}:Bn P op t (.sc (.bool b)) (.sc (.bool b'))=(Fs op∧P.underlying t=some .bool):=rfl
@[go_sem] theorem Ii{op:BinOp}{l r:List SV}:Bn P op t (.agg l) (.agg r)=(Fs op∧jw P t l r):=rfl
@[go_sem] theorem NK{op:BinOp}{l r:List SV}:Fo op (.agg l) (.agg r) = .sc (.bool (Kw op (Dq l r))):=rfl
@[go_sem] theorem NP{op:BinOp}:Fo op (.sc (.int k m)) (.sc (.int k' n)) = .sc (J5 op k m n):=rfl
@[go_sem] theorem Oh{op:BinOp}:Fo op (.sc (.string s)) (.sc (.string s')) = .sc (Ei op s s'):=rfl
@[go_sem] theorem IC{op:BinOp}:Fo op (.sc (.bool b)) (.sc (.bool b')) = .sc (.bool (Kw op (b==b'))):=rfl
@[go_sem] theorem Iz{op:UnOp}:fh op (.sc (.bool b))=(op = .not):=rfl
@[go_sem] theorem Nb{op:UnOp}:fh op (.sc (.int k m))=(op = .neg):=rfl
@[go_sem] theorem M4{op:UnOp}:IU op (.sc (.bool b)) = .sc (.bool (!b)):=rfl
@[go_sem] theorem PB{op:UnOp}:IU op (.sc (.int k m)) = .sc (.int k (k.wrap (0-m))):=rfl
@[go_sem] theorem Ac:Db P t st (.ref xs)=((cellsOf P t xs).isSome=true):=rfl
@[go_sem] theorem iE:Db P t st (.ptr id off)=(ZH st id∧(cellsOf P t ((qF st id).drop off)).isSome=true):=rfl
@[go_sem] theorem IW:Dj P t st (.ref xs)=(cellsOf P t xs).getD .any:=rfl
@[go_sem] theorem IA:Dj P t st (.ptr id off)=(cellsOf P t ((qF st id).drop off)).getD .any:=rfl
@[go_sem] theorem ss:Um P t st f (.ref xs)=((zX P t f).isSome=true∧((zX P t f).getD (0,0)).2≠0):=rfl
@[go_sem] theorem rW:Um P t st f (.ptr id off)=((zX P t f).isSome=true∧((zX P t f).getD (0,0)).2≠0):=rfl
@[go_sem] theorem iF:KR P t f (.ref xs) = .ref ((xs.drop ((zX P t f).getD (0,0)).1).take ((zX P t f).getD (0,0)).2):=rfl
@[go_sem] theorem AX:KR P t f (.ptr id off) = .ptr id (off+((zX P t f).getD (0,0)).1):=rfl
@[go_sem] theorem sx:GY P t st (.slice md zz xs) (.sc (.int k i))=((zK P t).bind (zR P)=some zz∧0≤i∧i<xs.length):=rfl
@[go_sem] theorem sG:Ft P t st (.slice md zz xs) (.sc (.int k i)) = .ref (xs.getD i.toNat .any).cells:=rfl
@[go_sem] theorem rE:Dg P t st (.slice md zz xs)=((zK P t).isSome=true):=rfl
@[go_sem] theorem Io:Dg P t st (.sc (.string s))=(P.underlying t=some .string):=rfl
@[go_sem] theorem Cv:DZ st (.slice md zz xs) = .sc (.int .i64 xs.length):=rfl
@[go_sem] theorem Oy:DZ st (.sc (.string s)) = .sc (.int .i64 s.size):=rfl
@[go_sem] theorem rP:gv j (.tuple xs)=(j<xs.length):=rfl
@[go_sem] theorem iL:oI j (.tuple xs)=xs.getD j .any:=rfl
@[go_sem] theorem rA{ρ:Operand→SV}{lo hi mx:Option Operand}:KP P t st ρ lo hi mx (.slice md zz xs)=(((zK P t).bind (zR P)=some zz∨(xs=[]∧(md = .full∨md = .imm)∧((zK P t).bind (zR P)).isSome=true))∧(qA ρ lo 0).isSome=true∧(qA ρ hi xs.length).isSome=true ∧
  0≤Zt ρ lo 0∧Zt ρ lo 0≤Zt ρ hi xs.length∧Zt ρ hi xs.length≤xs.length∧(mx.isSome=true→hi.isSome=true∧qA ρ mx 0=qA ρ hi xs.length)):=rfl
@[go_sem] theorem As{ρ:Operand→SV}{lo hi mx:Option Operand}:Ed P t ρ lo hi mx (.slice md zz xs) = .slice (if mx.isSome then .full else .imm) zz ((xs.take (Zt ρ hi xs.length).toNat).drop (Zt ρ lo 0).toNat):=rfl
@[go_sem] theorem Ib{ρ:Operand→SV}{lo hi mx:Option Operand}:KP P t st ρ lo hi mx (.sc (.string s))=(mx=none∧P.underlying t=some .string∧(qA ρ lo 0).isSome=true∧(qA ρ hi s.size).isSome=true ∧
  0≤Zt ρ lo 0∧Zt ρ lo 0≤Zt ρ hi s.size∧Zt ρ hi s.size≤s.size):=rfl
@[go_sem] theorem Ns{ρ:Operand→SV}{lo hi mx:Option Operand}:Ed P t ρ lo hi mx (.sc (.string s)) = .sc (.string (s.extract (Zt ρ lo 0).toNat (Zt ρ hi s.size).toNat)):=rfl
@[go_sem] theorem iX{ρ:Operand→SV}{d:Nat}:qA ρ none d=some (d:Int):=rfl
def gK:SV→Option Int | .sc (.int _ n)=>some n | _=>none
@[go_sem] theorem iY{ρ:Operand→SV}{d:Nat}{q:Operand}:qA ρ (some q) d=gK (ρ q):=by
 simp only[qA];generalize ρ q=x;cases x with
 | sc v=>cases v <;> rfl
 | _=>rfl
@[go_sem] theorem My:gK (.sc (.int k n))=some n:=rfl
@[go_sem] theorem MY{ρ:Operand→SV}{q:Option Operand}{d:Nat}:Zt ρ q d=(qA ρ q d).getD 0:=rfl
@[go_sem] theorem MI:VA (.sc (.bool b))=True:=rfl
@[go_sem] theorem Ol:VA (.gd g (.sc (.bool b)))=True:=rfl
attribute [go_sem] dN nc
@[go_sem] theorem RE:H7 c (.sc (.bool b))=(b==c):=rfl
@[go_sem] theorem P4:H7 c (.gd g (.sc (.bool b)))=(g&&(b==c)):=rfl
@[go_sem] theorem PW:Dc p (.gd g x)=(p→g=true):=rfl
@[go_sem] theorem PX:Dc p (.sc v)=True:=rfl
@[go_sem] theorem IR:Dc p (.slice md zz xs)=True:=rfl
@[go_sem] theorem O3:Dc p (.ref xs)=True:=rfl
@[go_sem] theorem Pq:Dc p (.ptr id off)=True:=rfl
@[go_sem] theorem Pa:Dc p (.agg xs)=True:=rfl
@[go_sem] theorem M':Dc p (.func fn xs ys)=True:=rfl
@[go_sem] theorem I5:Dc p (.tuple xs)=True:=rfl
@[go_sem] theorem NN:ZK (.gd g x)=x:=rfl
@[go_sem] theorem N7:ZK (.sc v) = .sc v:=rfl
@[go_sem] theorem rO:ZK (.slice md zz xs) = .slice md zz xs:=rfl
@[go_sem] theorem Iq:ZK (.ref xs) = .ref xs:=rfl
@[go_sem] theorem C4:ZK (.ptr id off) = .ptr id off:=rfl
@[go_sem] theorem I6:ZK (.agg xs) = .agg xs:=rfl
@[go_sem] theorem sY:ZK (.func fn xs ys) = .func fn xs ys:=rfl
@[go_sem] theorem rl:ZK (.tuple xs) = .tuple xs:=rfl
@[go_sem] theorem MV:Jr (.sc (.bool b)) x y=(Dc (b=true) x∧Dc (b=false) y):=rfl
@[go_sem] theorem PI:Kt (.sc (.bool b)) x y=Hh b (ZK x) (ZK y):=rfl
@[go_sem] theorem PA:Hh c (.sc (.bool b)) (.sc (.bool b')) = .sc (.bool (bif c then b else b')):=rfl
@[go_sem] theorem RP:Mo (.sc (.bool b))=True:=rfl
@[go_sem] theorem RL:CR (.sc (.bool b))=b:=rfl
@[go_sem] theorem CA:(SV.agg xs).cells=xs:=rfl
@[go_sem] theorem MT:(SV.sc v).cells=[.sc v]:=rfl
@[go_sem] theorem rZ:(SV.slice md zz xs).cells=[.slice md zz xs]:=rfl
@[go_sem] theorem IM:(SV.ref xs).cells=[.ref xs]:=rfl
@[go_sem] theorem C':(SV.ptr id off).cells=[.ptr id off]:=rfl
@[go_sem] theorem sF:(SV.func fn xs ys).cells=[.func fn xs ys]:=rfl
@[go_sem] theorem IP:qP (.agg xs)=true:=rfl
@[go_sem] theorem rR:qP (.slice md zz xs)=true:=rfl
@[go_sem] theorem CF:qP (.ref xs)=true:=rfl
@[go_sem] theorem CY:qP (.ptr id off)=true:=rfl
@[go_sem] theorem Aw:qP (.func fn xs ys)=true:=rfl
@[go_sem] theorem Mp:qP (.sc v)=v.oneCell':=rfl
@[go_sem] theorem IV:QG (.sc v)=v.oneCell':=rfl
@[go_sem] theorem o6:QG (.slice md zz xs)=true:=rfl
@[go_sem] theorem sH:QG (.ref xs)=true:=rfl
@[go_sem] theorem Cy:QG (.ptr id off)=true:=rfl
@[go_sem] theorem rQ:QG (.func fn xs ys)=true:=rfl
@[go_sem] theorem PR:(Value.int k n).oneCell'=true:=rfl
@[go_sem] theorem ON:(Value.bool b).oneCell'=true:=rfl
@[go_sem] theorem Pv:(Value.string s).oneCell'=true:=rfl
@[go_sem] theorem PC{a:Option Addr}:(Value.pointer a).oneCell'=true:=rfl
@[go_sem] theorem Ae:Z8 x=x.cells.all QG:=rfl
@[go_sem] theorem sw:norm1 (.slice md zz xs) = .slice .imm zz xs:=rfl
@[go_sem] theorem N4:norm1 (.sc v) = .sc v:=rfl
@[go_sem] theorem CZ:norm1 (.ref xs) = .ref xs:=rfl
@[go_sem] theorem I':norm1 (.ptr id off) = .ptr id off:=rfl
@[go_sem] theorem iD:norm1 (.func fn xs ys) = .func fn xs ys:=rfl
@[go_sem] theorem IL:norm1 (.agg xs) = .agg xs:=rfl
@[go_sem] theorem NL:norm (.agg xs) = .agg (xs.map norm1):=rfl
@[go_sem] theorem UW:norm (.tuple xs) = .tuple (xs.map norm1):=rfl
@[go_sem] theorem sO:norm (.slice md zz xs) = .slice .imm zz xs:=rfl
@[go_sem] theorem O2:norm (.sc v) = .sc v:=rfl
@[go_sem] theorem ME:norm (.ref xs) = .ref xs:=rfl
@[go_sem] theorem Mu:norm (.ptr id off) = .ptr id off:=rfl
@[go_sem] theorem IJ:norm (.func fn xs ys) = .func fn xs ys:=rfl
variable {len cap id' off' len' cap' z0:Nat}
@[go_sem] theorem CT:GY P t st (.slc id zz off len cap) (.sc (.int k i))=((zK P t).bind (zR P)=some zz∧0≤i∧i<len):=rfl
@[go_sem] theorem MW:Ft P t st (.slc id zz off len cap) (.sc (.int k i)) = .ptr id (off+i.toNat*zz):=rfl
@[go_sem] theorem Ix:Dg P t st (.slc id zz off len cap)=((zK P t).isSome=true):=rfl
@[go_sem] theorem MC:DZ st (.slc id zz off len cap) = .sc (.int .i64 len):=rfl
@[go_sem] theorem ID{ρ:Operand→SV}{lo hi mx:Option Operand}:KP P t st ρ lo hi mx (.slc id zz off len cap)=(mx=none∧(zK P t).bind (zR P)=some zz∧(qA ρ lo 0).isSome=true∧(qA ρ hi len).isSome=true ∧
  0≤Zt ρ lo 0∧Zt ρ lo 0≤Zt ρ hi len∧Zt ρ hi len≤cap):=rfl
@[go_sem] theorem OB{ρ:Operand→SV}{lo hi mx:Option Operand}:Ed P t ρ lo hi mx (.slc id zz off len cap) = .slc id zz (if cap=(Zt ρ lo 0).toNat then off else off+(Zt ρ lo 0).toNat*zz) ((Zt ρ hi len).toNat-(Zt ρ lo 0).toNat) (cap-(Zt ρ lo 0).toNat):=rfl
@[go_sem] theorem PU:Dc p (.slc id zz off len cap)=True:=rfl
@[go_sem] theorem CG:ZK (.slc id zz off len cap) = .slc id zz off len cap:=rfl
@[go_sem] theorem I2:(SV.slc id zz off len cap).cells=[.slc id zz off len cap]:=rfl
@[go_sem] theorem CK:qP (.slc id zz off len cap)=true:=rfl
@[go_sem] theorem sE:QG (.slc id zz off len cap)=true:=rfl
@[go_sem] theorem Nz:norm (.slc id zz off len cap) = .slc id zz off len cap:=rfl
@[go_sem] theorem I3:norm1 (.slc id zz off len cap) = .slc id zz off len cap:=rfl
@[go_sem] theorem ib:Vq P t st (.slc id zz off len cap) (.slice md z1 ys) K=(zz=z1∧ZH st id∧(zK P t).bind (zR P)=some zz∧off+(min ys.length len)*zz≤(qF st id).length∧(∀ s∈ys,Z8 s=true) ∧
   K (.sc (.int .i64 (min ys.length len:Nat))) (st.set id (.cells (ZX (qF st id) off ((ys.take (min ys.length len)).flatMap SV.cells))))):=rfl
@[go_sem] theorem M2:Vq P t st (.slc id zz off len cap) (.slc id' z1 off' len' cap') K=(zz=z1∧ZH st id∧ZH st id'∧(zK P t).bind (zR P)=some zz∧off+(min len' len)*zz≤(qF st id).length ∧
   off'+(min len' len)*zz≤(qF st id').length∧(((qF st id').drop off').take ((min len' len)*zz)).all QG=true ∧
   K (.sc (.int .i64 (min len' len:Nat))) (st.set id (.cells (ZX (qF st id) off (((qF st id').drop off').take ((min len' len)*zz)))))):=rfl
@[go_sem] theorem CD:Vi P t st (.slc id zz off len cap) K=(ZH st id∧(zK P t).isSome=true∧((zK P t).bind (Zp P)).isSome=true∧off+len*(YE P t).length≤(qF st id).length∧(YE P t).all QG=true ∧
   K .any (if len=0 then st else st.set id (.cells (ZX (qF st id) off (Jc (YE P t) len))))):=rfl
@[go_sem] theorem Mi:Wd P t st (.sc (.int k n)) (.sc (.int k' m)) K=(((zK P t).bind (zR P)).isSome=true∧((zK P t).bind (Zp P)).map List.length=(zK P t).bind (zR P)∧((zK P t).bind (QQ P)).isSome=true ∧
   0≤n∧n≤m∧m≤4611686018427387904∧m.toNat*((zK P t).bind (QQ P)).getD 0≤281474976710656 ∧
   K (.slc st.length (((zK P t).bind (zR P)).getD 0) 0 n.toNat m.toNat) (st++[.cells (Jc (YE P t) m.toNat)])):=rfl
@[go_sem] theorem RR:Vj P t tx st (.slice .full z0 []) (.slice md zz ys) K=(ys≠[]∧AppOk P t tx zz ys.length∧∀ cap,ys.length≤cap→K (.slc st.length zz 0 ys.length cap) (st++[.cells (ys.flatMap SV.cells++Jc (YE P t) (cap-ys.length))])):=rfl
@[go_sem] theorem Oo:Ja P t tx st (.slice .full z1 xs) (.slice md zz ys) K=((xs=[]∨z1=zz)∧AppOk P t tx zz (xs.length+ys.length)∧K (.slice (.own st.length 0) zz (xs++ys)) (st++[.tok 0])):=rfl
@[go_sem] theorem Pn{ver:Nat}:Ja P t tx st (.slice (.own id ver) zz xs) (.slice md z1 ys) K=((ys=[]∨z1=zz)∧Yu st id ver∧AppOk P t tx zz (xs.length+ys.length) ∧
   (∀ s∈ys,Z8 s=true)∧K (.slice (.own id (ver+1)) zz (xs++ys)) (st.set id (.tok (ver+1)))):=rfl
variable {ver n':Nat}
@[go_sem] theorem rK:Db P t st (.aptr id ver off)=(Z4 st id ver∧(cellsOf P t ((XB st id).drop off)).isSome=true):=rfl
@[go_sem] theorem Ap:Dj P t st (.aptr id ver off)=(cellsOf P t ((XB st id).drop off)).getD .any:=rfl
@[go_sem] theorem a8:Um P t st f (.aptr id ver off)=(Z4 st id ver∧(zX P t f).isSome=true∧((zX P t f).getD (0,0)).2≠0):=rfl
@[go_sem] theorem rU:KR P t f (.aptr id ver off) = .aptr id ver (off+((zX P t f).getD (0,0)).1):=rfl
@[go_sem] theorem Ie:GY P t st (.arr id ver n') (.sc (.int k i))=(Z4 st id ver∧(zK P t).bind (zR P)=some (QC st id)∧0≤i∧i<n'):=rfl
@[go_sem] theorem Na:Ft P t st (.arr id ver n') (.sc (.int k i)) = .aptr id ver (i.toNat*QC st id):=rfl
@[go_sem] theorem Ia:Dg P t st (.arr id ver n')=(Z4 st id ver∧(zK P t).isSome=true):=rfl
@[go_sem] theorem N5:DZ st (.arr id ver n') = .sc (.int .i64 n'):=rfl
@[go_sem] theorem I1{ρ:Operand→SV}{lo hi mx:Option Operand}:KP P t st ρ lo hi mx (.arr id ver n')=(mx=none∧Z4 st id ver∧((zK P t).bind (zR P)).isSome=true∧qA ρ lo 0=some 0 ∧
  (qA ρ hi n').isSome=true∧0≤Zt ρ hi n'∧Zt ρ hi n'≤n'):=rfl
@[go_sem] theorem N0{ρ:Operand→SV}{lo hi mx:Option Operand}:Ed P t ρ lo hi mx (.arr id ver n') = .arr id ver (Zt ρ hi n').toNat:=rfl
@[go_sem] theorem I0{ρ:Operand→SV}{hi mx:Option Operand}:KP P t st ρ none hi mx (.ptr id off)=(mx=none∧hi=none∧(Yc P t).isSome=true):=by simp[KP]
@[go_sem] theorem iU{ρ:Operand→SV}{hi mx:Option Operand}{y:Operand}:KP P t st ρ (some y) hi mx (.ptr id off)=(mx=none∧hi=none∧(Yc P t).isSome=true∧(qA ρ (some y) 0).isSome=true∧0≤Zt ρ (some y) 0∧Zt ρ (some y) 0≤((Yc P t).getD (0,0)).1):=by simp[KP]
@[go_sem] theorem Ic{ρ:Operand→SV}{hi mx:Option Operand}{y:Operand}:Ed P t ρ (some y) hi mx (.ptr id off) = .slc id ((Yc P t).getD (0,0)).2 (if ((Yc P t).getD (0,0)).1=(Zt ρ (some y) 0).toNat then off else off+(Zt ρ (some y) 0).toNat*((Yc P t).getD (0,0)).2) (((Yc P t).getD (0,0)).1-(Zt ρ (some y) 0).toNat) (((Yc P t).getD (0,0)).1-(Zt ρ (some y) 0).toNat):=rfl
@[go_sem] theorem Ml{ρ:Operand→SV}{hi mx:Option Operand}:Ed P t ρ none hi mx (.ptr id off) = .slc id ((Yc P t).getD (0,0)).2 off ((Yc P t).getD (0,0)).1 ((Yc P t).getD (0,0)).1:=rfl
@[go_sem] theorem Pe:Dc p (.arr id ver n')=True:=rfl
@[go_sem] theorem Nl:Dc p (.aptr id ver n')=True:=rfl
@[go_sem] theorem C7:ZK (.arr id ver n') = .arr id ver n':=rfl
@[go_sem] theorem iO:ZK (.aptr id ver n') = .aptr id ver n':=rfl
@[go_sem] theorem Md:(SV.arr id ver n').cells=[.arr id ver n']:=rfl
@[go_sem] theorem Cl:(SV.aptr id ver n').cells=[.aptr id ver n']:=rfl
@[go_sem] theorem Ip:qP (.arr id ver n')=true:=rfl
@[go_sem] theorem Cn:qP (.aptr id ver n')=true:=rfl
@[go_sem] theorem AV:QG (.arr id ver n')=true:=rfl
@[go_sem] theorem si:QG (.aptr id ver n')=true:=rfl
@[go_sem] theorem OT:norm (.arr id ver n') = .arr id ver n':=rfl
@[go_sem] theorem Ij:norm (.aptr id ver n') = .aptr id ver n':=rfl
@[go_sem] theorem Mf:norm1 (.arr id ver n') = .arr id ver n':=rfl
@[go_sem] theorem sX:norm1 (.aptr id ver n') = .aptr id ver n':=rfl
@[go_sem] theorem O8:Ja P t tx st (.arr id ver n') (.slice md z1 ys) K=((ys=[]∨z1=QC st id)∧Z4 st id ver∧AppOk P t tx (QC st id) (n'+ys.length) ∧
   (∀ s∈ys,Z8 s=true)∧K (.arr id (ver+1) (n'+ys.length)) (st.set id (.arr (ver+1) (QC st id) ((XB st id).take (n'*QC st id)++ys.flatMap SV.cells)))):=rfl
@[go_sem] theorem Cp{N:St→Prop}:YR P t st y (.aptr id ver off) N=(Z4 st id ver∧zR P t=some y.cells.length∧qP y=true∧Z8 y=true∧off+y.cells.length≤(XB st id).length ∧
   N (st.set id (.arr ver (QC st id) (ZX (XB st id) off y.cells)))):=rfl
@[go_sem] theorem sy:U8 st (.aptr id ver off)=Z4 st id ver:=rfl
@[go_sem] theorem Ng(x y:Operand)(ts:Array TypeId):qx (.call ⟨.builtin .max,#[x,y],ts⟩) = .pure:=rfl
@[go_sem] theorem Ru{ρ:Operand→SV}(x y:Operand)(ts:Array TypeId):q9 P st ρ (.call ⟨.builtin .max,#[x,y],ts⟩)=wI (ρ x) (ρ y):=rfl
@[go_sem] theorem Pj{ρ:Operand→SV}(x y:Operand)(ts:Array TypeId):qz P st ρ (.call ⟨.builtin .max,#[x,y],ts⟩)=lI (ρ x) (ρ y):=rfl
@[go_sem] theorem I8{k':IntKind}:wI (.sc (.int k m)) (.sc (.int k' n))=True:=rfl
@[go_sem] theorem Mz{k':IntKind}:lI (.sc (.int k m)) (.sc (.int k' n)) = .sc (.int k (if n > m then n else m)):=rfl
@[go_sem] theorem PT:YS P t tx st (.slice .full z0 []) (.slice md zz ys) K=(AppOk P t tx zz ys.length∧(∀ s∈ys,Z8 s=true)∧K (.arr st.length 1 ys.length) (st++[.arr 1 zz (ys.flatMap SV.cells)])):=rfl
@[go_sem] theorem AP{id ver n':Nat}:YS P t tx st (.slice .full z0 []) (.arr id ver n') K=(Z4 st id ver∧(Wm (QC st id) n' (XB st id)).length=n'∧(Wm (QC st id) n' (XB st id)).flatMap SV.cells=(XB st id).take (n'*QC st id)∧(∀ x∈Wm (QC st id) n' (XB st id),x.cells.length=QC st id∧Z8 x=true)∧AppOk P t tx (QC st id) n'∧K (.arr st.length 1 n') (st++[.arr 1 (QC st id) ((XB st id).take (n'*QC st id))])):=rfl
@[go_sem] theorem Rb:YS P t tx st (.arr id ver n') (.slice md z1 ys) K=Ja P t tx st (.arr id ver n') (.slice md z1 ys) K:=rfl
theorem DT{x x' y y':SV}(h:st=st')(h1:x=x')(h2:y=y'):YS P t tx st x y K=YS P t tx st' x' y' K:=by rw[h,h1,h2]
attribute [congr] DT
@[go_sem] theorem Ir{N:St→Prop}:YR P t st y (.ptr id off) N=(ZH st id∧zR P t=some y.cells.length∧qP y=true∧Z8 y=true∧off+y.cells.length≤(qF st id).length ∧
   N (st.set id (.cells (ZX (qF st id) off y.cells)))):=rfl
@[go_sem] theorem M6(l:List SV):qF (st++[.cells l]) st.length=l:=by simp[qF]
@[go_sem] theorem zl:ev env (.tmp j)=env.getD j .any:=rfl
@[go_sem] theorem Pg:ev env (.func j) = .func (.func j) [] []:=rfl
@[go_sem] theorem P':ev env (.const (.int k n)) = .sc (.int k n):=rfl
@[go_sem] theorem Rm(vs:Array Value):ev env (.const (.agg vs)) = .agg (vs.toList.map UM):=rfl
@[go_sem] theorem IE:UM (.int k n) = .sc (.int k n):=rfl
@[go_sem] theorem AU:UM (.bool b) = .sc (.bool b):=rfl
@[go_sem] theorem CO:UM (.string s) = .sc (.string s):=rfl
@[go_sem] theorem CP:UM (.slice none 0 0) = .slice .full 0 []:=rfl
@[go_sem] theorem Il:UM (.pointer none) = .sc (.pointer none):=rfl
@[go_sem] theorem PQ:ev env (.const (.bool b)) = .sc (.bool b):=rfl
@[go_sem] theorem Rg:ev env (.const (.string s)) = .sc (.string s):=rfl
@[go_sem] theorem ru:ev env (.const (.slice none 0 0)) = .slice .full 0 []:=rfl
@[go_sem] theorem CJ:ev env (.const (.pointer none)) = .sc (.pointer none):=rfl
def Ec(P:Program)(T:TypeId)(st:St):SV→Option SV
 | .ptr id off=>match st[id]? with
  | some (.cells l)=>cellsOf P T (l.drop off)
  | _=>none
 | .ref l=>cellsOf P T l
 | _=>none
@[go_sem] theorem MS{q:Nat}:G2 P env st (.cell q t)=Ec P t st (env.getD q .any):=by
 simp only[G2,Ec];cases env.getD q .any <;> rfl
theorem eV(ho:ZH st id):Ec P t st (.ptr id off)=cellsOf P t ((qF st id).drop off):=by simp only[Ec,K9 ho]
attribute [go_sem] eV
@[go_sem] theorem PF:Ec P t st (.ref xs)=cellsOf P t xs:=rfl
@[go_sem] theorem Pm:Yi [x]=x:=rfl
@[go_sem] theorem OP:Yi (x::y::xs) = .tuple (x::y::xs):=rfl
@[go_sem] theorem PH:G2 P env st (.tmp j)=some (env.getD j .any):=rfl
end eqs
section eqs2
variable {M:List Nat} {K:SV→St→Prop} {env:List SV} {st:St} {ds:List (Option Tmp)} {N:List SV→St→Prop} {d:Option Tmp} {op:Op} {ty:TypeId} {pos:String} {aft:Array Edge} {gu:Option (Nat×Bool)} {g want:Bool} {r:List Oper} {ρ:Operand→SV} {t:TypeId} {j f:Nat} {fn:Fn} {Q:Exit→List SV→St→Prop}
@[go_sem] theorem Ig(x:Operand):qx (.move x) = .pure:=rfl
@[go_sem] theorem Pk(x:Operand):q9 P st ρ (.move x)=(True):=rfl
@[go_sem] theorem Oi(x:Operand):qz P st ρ (.move x)=ρ x:=rfl
@[go_sem] theorem r7(x:Operand):qx (.assign x) = .pure:=rfl
@[go_sem] theorem I9(x:Operand):q9 P st ρ (.assign x)=(True):=rfl
@[go_sem] theorem sW(x:Operand):qz P st ρ (.assign x)=ρ x:=rfl
@[go_sem] theorem eu(x:Operand):qx (.extract x j) = .pure:=rfl
@[go_sem] theorem sA(x:Operand):q9 P st ρ (.extract x j)=(gv j (ρ x)):=rfl
@[go_sem] theorem rB(x:Operand):qz P st ρ (.extract x j)=oI j (ρ x):=rfl
@[go_sem] theorem iv{op:BinOp}{u:TypeId}(x y:Operand):qx (.binOp op t x y u) = .pure:=rfl
@[go_sem] theorem NC{op:BinOp}{u:TypeId}(x y:Operand):q9 P st ρ (.binOp op t x y u)=(if Xy y then QI P op t y (ρ x) else Bn P op t (ρ x) (ρ y)):=rfl
@[go_sem] theorem CI{op:BinOp}{u:TypeId}(x y:Operand):qz P st ρ (.binOp op t x y u)=(if Xy y then KG op (ρ x) else Fo op (ρ x) (ρ y)):=rfl
@[go_sem] theorem CE{op:UnOp}(x:Operand):qx (.unOp op t x) = .pure:=rfl
@[go_sem] theorem PJ{op:UnOp}(x:Operand):q9 P st ρ (.unOp op t x)=(fh op (ρ x)):=rfl
@[go_sem] theorem M8{op:UnOp}(x:Operand):qz P st ρ (.unOp op t x)=IU op (ρ x):=rfl
@[go_sem] theorem fZ(fi ca:Array Operand):qx (.makeFunc fn fi ca) = .pure:=rfl
@[go_sem] theorem rD(fi ca:Array Operand):q9 P st ρ (.makeFunc fn fi ca)=(True):=rfl
@[go_sem] theorem lw(fi ca:Array Operand):qz P st ρ (.makeFunc fn fi ca) = .func fn (fi.toList.map ρ) (ca.toList.map ρ):=rfl
@[go_sem] theorem fU(x:Operand):qx (.nilCheck x) = .pure:=rfl
@[go_sem] theorem rz(x:Operand):q9 P st ρ (.nilCheck x)=U8 st (ρ x):=rfl
@[go_sem] theorem lT(x:Operand):qz P st ρ (.nilCheck x)=ρ x:=rfl
@[go_sem] theorem iW{xs:List SV}:U8 st (.ref xs)=True:=rfl
@[go_sem] theorem At{id off:Nat}:U8 st (.ptr id off)=True:=rfl
@[go_sem] theorem Mg(x:Operand):qx (.load t x) = .pure:=rfl
@[go_sem] theorem O5(x:Operand):q9 P st ρ (.load t x)=(Db P t st (ρ x)):=rfl
@[go_sem] theorem NI(x:Operand):qz P st ρ (.load t x)=Dj P t st (ρ x):=rfl
@[go_sem] theorem dn(x:Operand):qx (.fieldAddr t x f) = .pure:=rfl
@[go_sem] theorem lF(x:Operand):q9 P st ρ (.fieldAddr t x f)=(Um P t st f (ρ x)):=rfl
@[go_sem] theorem oq(x:Operand):qz P st ρ (.fieldAddr t x f)=KR P t f (ρ x):=rfl
@[go_sem] theorem iI(x:Operand):qx (.field t x f) = .pure:=rfl
@[go_sem] theorem OH(x:Operand):q9 P st ρ (.field t x f)=(vR P t f (ρ x)):=rfl
@[go_sem] theorem I4(x:Operand):qz P st ρ (.field t x f)=bY P t f (ρ x):=rfl
@[go_sem] theorem nN(x y:Operand):qx (.indexAddr t x y) = .pure:=rfl
@[go_sem] theorem C0{id off:Nat}{k:IntKind}{i:Int}:GY P t st (.ptr id off) (.sc (.int k i))=((Yc P t).isSome=true∧0≤i∧i<((Yc P t).getD (0,0)).1):=rfl
@[go_sem] theorem Ox{id off:Nat}{k:IntKind}{i:Int}:Ft P t st (.ptr id off) (.sc (.int k i)) = .ptr id (off+i.toNat*((Yc P t).getD (0,0)).2):=rfl
@[go_sem] theorem iC(x y:Operand):qx (.index t x y) = .pure:=rfl
@[go_sem] theorem N9(x y:Operand):q9 P st ρ (.index t x y)=(nf P t (ρ x) (ρ y)):=rfl
@[go_sem] theorem IH(x y:Operand):qz P st ρ (.index t x y)=CX (ρ x) (ρ y):=rfl
@[go_sem] theorem Ot{l:List SV}{k:IntKind}{i:Int}:nf P t (.agg l) (.sc (.int k i))=((H3 P t).isSome=true∧0≤i∧i<(H3 P t).getD 0∧(H3 P t).getD 0≤l.length):=rfl
@[go_sem] theorem N'{s:ByteArray}{k:IntKind}{i:Int}:nf P t (.sc (.string s)) (.sc (.int k i))=(P.underlying t=some .string∧0≤i∧i<s.size):=rfl
@[go_sem] theorem Po{l:List SV}{k:IntKind}{i:Int}:CX (.agg l) (.sc (.int k i))=l.getD i.toNat .any:=rfl
@[go_sem] theorem O0{s:ByteArray}{k:IntKind}{i:Int}:CX (.sc (.string s)) (.sc (.int k i)) = .sc (.int .u8 ((s.get! i.toNat).toNat:Int)):=rfl
@[go_sem] theorem aK(x y:Operand):q9 P st ρ (.indexAddr t x y)=(GY P t st (ρ x) (ρ y)):=rfl
@[go_sem] theorem og(x y:Operand):qz P st ρ (.indexAddr t x y)=Ft P t st (ρ x) (ρ y):=rfl
@[go_sem] theorem ip(x:Operand)(lo hi mx:Option Operand):qx (.slice t x lo hi mx) = .pure:=rfl
@[go_sem] theorem MA(x:Operand)(lo hi mx:Option Operand):q9 P st ρ (.slice t x lo hi mx)=(KP P t st ρ lo hi mx (ρ x)):=rfl
@[go_sem] theorem CB(x:Operand)(lo hi mx:Option Operand):qz P st ρ (.slice t x lo hi mx)=Ed P t ρ lo hi mx (ρ x):=rfl
@[go_sem] theorem Ih(c x y:Operand):qx (.pick c x y) = .pick c x y:=rfl
@[go_sem] theorem Az:qx (.alloc t) = .eff:=rfl
@[go_sem] theorem NU(x:Operand):qx (.box t x) = .eff:=rfl
@[go_sem] theorem iQ(p:Array (Nat×Operand)):qx (.build t p) = .eff:=rfl
@[go_sem] theorem cZ(n:Nat)(p:Array (Nat×Operand)):qx (.buildSlice t n p) = .eff:=rfl
@[go_sem] theorem Cw(x y:Operand):qx (.store t x y) = .eff:=rfl
@[go_sem] theorem Iw(c:Operand)(a:Array Operand)(ts:Array TypeId):qx (.call ⟨.value c,a,ts⟩) = .eff:=rfl
@[go_sem] theorem rS(a:Array Operand)(ts:Array TypeId):qx (.call ⟨.builtin .append,a,ts⟩) = .eff:=rfl
@[go_sem] theorem N3(a:Array Operand)(ts:Array TypeId):qx (.call ⟨.builtin .len,a,ts⟩) = .pure:=rfl
@[go_sem] theorem RA(x:Operand)(t:TypeId):q9 P st ρ (.call ⟨.builtin .len,#[x],#[t]⟩)=Dg P t st (ρ x):=rfl
@[go_sem] theorem O6(x:Operand)(t:TypeId):qz P st ρ (.call ⟨.builtin .len,#[x],#[t]⟩)=DZ st (ρ x):=rfl
@[go_sem] theorem Pb:XK P M ds [] env st N=N env st:=rfl
@[go_sem] theorem OA:XK P M ds (⟨d,op,ty,pos,aft,none⟩::r) env st N=U7 P M ⟨d,op,ty,pos,aft,none⟩ env st (fun e s=>XK P M ds r e s N) (qx op):=rfl
@[go_sem] theorem NW:XK P M ds (⟨d,op,ty,pos,aft,some (j,want)⟩::r) env st N=(VA (VS ds j env)∧UX P M ⟨d,op,ty,pos,aft,some (j,want)⟩ env st (H7 want (VS ds j env)) (fun e s=>XK P M ds r e s N) (qx op)):=rfl
@[go_sem] theorem Px:U7 P M ⟨d,op,ty,pos,aft,gu⟩ env st N .pure=(q9 P st (ev env) op∧N (ZM env d (qz P st (ev env) op)) st):=rfl
@[go_sem] theorem PE(c x y:Operand):U7 P M ⟨d,op,ty,pos,aft,gu⟩ env st N (.pick c x y)=(Jr (ev env c) (ev env x) (ev env y)∧N (ZM env d (Kt (ev env c) (ev env x) (ev env y))) st):=rfl
@[go_sem] theorem Rk:U7 P M ⟨d,op,ty,pos,aft,gu⟩ env st N .eff=ql P M ⟨d,op,ty,pos,aft,gu⟩ env st (fun x s=>N (ZM env d x) s):=rfl
@[go_sem] theorem O1:UX P M ⟨d,op,ty,pos,aft,gu⟩ env st g N .pure=(KB (g=true) env op.operands.toList∧(g=true→q9 P st (fun y=>ZK (ev env y)) op)∧N (ZM env d (.gd g (qz P st (fun y=>ZK (ev env y)) op))) st):=rfl
@[go_sem] theorem Pu(c x y:Operand):UX P M ⟨d,op,ty,pos,aft,gu⟩ env st g N (.pick c x y)=(Dc (g=true) (ev env c)∧(g=true→Jr (ZK (ev env c)) (ev env x) (ev env y))∧N (ZM env d (.gd g (Kt (ZK (ev env c)) (ev env x) (ev env y)))) st):=rfl
@[go_sem] theorem Rj:UX P M ⟨d,op,ty,pos,aft,gu⟩ env st g N .eff=(KB (g=true) env op.operands.toList∧(g=true→ql P M ⟨d,op,ty,pos,aft,gu⟩ (Y3 (Za op.operands.toList) 0 env) st fun x s=>N (ZM env d x) s)∧(g=false→N (ZM env d .any) st)):=rfl
@[go_sem] theorem Rs{D:List SV→Prop}:Yt P M ds [] env st D=D env:=rfl
@[go_sem] theorem O4{D:List SV→Prop}:Yt P M ds (⟨d,op,ty,pos,aft,gu⟩::r) env st D=ZE P M ds ⟨d,op,ty,pos,aft,gu⟩ env st (fun x=>Yt P M ds r (ZM env d x) st D):=rfl
@[go_sem] theorem PK{D:SV→Prop}:ZE P M ds ⟨d,op,ty,pos,aft,none⟩ env st D=U2 P M ⟨d,op,ty,pos,aft,none⟩ env st D (qx op):=rfl
@[go_sem] theorem PO{D:SV→Prop}:ZE P M ds ⟨d,op,ty,pos,aft,some (j,want)⟩ env st D=(VA (VS ds j env)∧UQ P M ⟨d,op,ty,pos,aft,some (j,want)⟩ env st (H7 want (VS ds j env)) D (qx op)):=rfl
@[go_sem] theorem Ph{D:SV→Prop}:U2 P M ⟨d,op,ty,pos,aft,gu⟩ env st D .pure=(q9 P st (ev env) op∧D (qz P st (ev env) op)):=rfl
@[go_sem] theorem Pw{D:SV→Prop}(c x y:Operand):U2 P M ⟨d,op,ty,pos,aft,gu⟩ env st D (.pick c x y)=(Jr (ev env c) (ev env x) (ev env y)∧D (Kt (ev env c) (ev env x) (ev env y))):=rfl
theorem zt{D:SV→Prop}:U2 P M ⟨d,op,ty,pos,aft,gu⟩ env st D .eff=∃ X,ql P M ⟨d,op,ty,pos,aft,gu⟩ (ZW (Za op.operands.toList) 0 env) st (mS st X)∧D X:=rfl
@[go_sem] theorem Pc{D:SV→Prop}:UQ P M ⟨d,op,ty,pos,aft,gu⟩ env st g D .pure=(KB (g=true) env op.operands.toList∧(g=true→q9 P st (fun y=>ZK (ev env y)) op)∧D (.gd g (qz P st (fun y=>ZK (ev env y)) op))):=rfl
@[go_sem] theorem Pt{D:SV→Prop}(c x y:Operand):UQ P M ⟨d,op,ty,pos,aft,gu⟩ env st g D (.pick c x y)=(Dc (g=true) (ev env c)∧(g=true→Jr (ZK (ev env c)) (ev env x) (ev env y))∧D (.gd g (Kt (ZK (ev env c)) (ev env x) (ev env y)))):=rfl
theorem dA{D:SV→Prop}:UQ P M ⟨d,op,ty,pos,aft,gu⟩ env st g D .eff=(KB (g=true) env op.operands.toList∧∃ X,(g=true→ql P M ⟨d,op,ty,pos,aft,gu⟩ (Y3 (Za op.operands.toList) 0 (ZW (Za op.operands.toList) 0 env)) st (mS st X))∧D (.gd g X)):=rfl
@[go_sem] theorem IG(x y:Operand):ql P M ⟨d,.store t x y,ty,pos,aft,gu⟩ env st K=(d=none∧YR P t st (ev env y) (ev env x) (K .any ·)):=rfl
@[go_sem] theorem PD(x:Operand):ql P M ⟨d,.box t x,ty,pos,aft,gu⟩ env st K=(qP (ev env x)=true∧if M.contains (d.getD 0) then K (.ptr st.length 0) (st++[.cells (ev env x).cells]) else K (.ref (ev env x).cells) st):=rfl
@[go_sem] theorem CU:ql P M ⟨d,.alloc t,ty,pos,aft,gu⟩ env st K=((Zp P t).isSome=true∧K (.ptr st.length 0) (st++[.cells ((Zp P t).getD [])])):=rfl
@[go_sem] theorem Iy(ps:Array (Nat×Operand)):ql P M ⟨d,.build t ps,ty,pos,aft,gu⟩ env st K=(QE P t=true∧(U9 P t (ps.toList.map fun p=>(p.1,ev env p.2))).isSome=true∧K (.agg ((U9 P t (ps.toList.map fun p=>(p.1,ev env p.2))).getD [])) st):=rfl
@[go_sem] theorem bF(n:Nat)(ps:Array (Nat×Operand)):ql P M ⟨d,.buildSlice t n ps,ty,pos,aft,gu⟩ env st K=(((zK P t).bind (zR P)).isSome=true∧((zK P t).bind (Zp P)).map List.length=(zK P t).bind (zR P)∧ps.toList.map (·.1)=List.range n ∧
   n*((zK P t).bind (zR P)).getD 0≤16777216∧(∀ p∈ps.toList,qP (ev env p.2)=true∧(ev env p.2).cells.length=((zK P t).bind (zR P)).getD 0) ∧
   if M.contains (d.getD 0+1000000) then K (.arr st.length 1 n) (st++[.arr 1 (((zK P t).bind (zR P)).getD 0) ((ps.toList.map fun p=>norm (ev env p.2)).flatMap SV.cells)]) else
    K (.slice .full (((zK P t).bind (zR P)).getD 0) (ps.toList.map fun p=>norm (ev env p.2))) st):=rfl
@[go_sem] theorem Nv(c:Operand)(a:Array Operand)(ts:Array TypeId):ql P M ⟨d,.call ⟨.value c,a,ts⟩,ty,pos,aft,gu⟩ env st K=Wg P (a.toList.map (ev env)) st (ev env c) K:=rfl
@[go_sem] theorem Af(x y:Operand)(t tx:TypeId):ql P M ⟨d,.call ⟨.builtin .append,#[x,y],#[t,tx]⟩,ty,pos,aft,gu⟩ env st K=if M.contains (d.getD 0+1000000) then YS P t tx st (ev env x) (ev env y) K else if M.contains (d.getD 0) then Vj P t tx st (ev env x) (ev env y) K else Ja P t tx st (ev env x) (ev env y) K:=rfl
@[go_sem] theorem M9(x y:Operand)(t tx:TypeId):ql P M ⟨d,.call ⟨.builtin .copy,#[x,y],#[t,tx]⟩,ty,pos,aft,gu⟩ env st K=Vq P t st (ev env x) (ev env y) K:=rfl
@[go_sem] theorem Ik(x:Operand)(t:TypeId):ql P M ⟨d,.call ⟨.builtin .clear,#[x],#[t]⟩,ty,pos,aft,gu⟩ env st K=Vi P t st (ev env x) K:=rfl
@[go_sem] theorem Nx(x y:Operand):ql P M ⟨d,.makeSlice t x y,ty,pos,aft,gu⟩ env st K=Wd P t st (ev env x) (ev env y) K:=rfl
@[go_sem] theorem Iu(x y:Operand):qx (.makeSlice t x y) = .eff:=rfl
@[go_sem] theorem Mb(a:Array Operand)(ts:Array TypeId):qx (.call ⟨.builtin .copy,a,ts⟩) = .eff:=rfl
@[go_sem] theorem Ah(a:Array Operand)(ts:Array TypeId):qx (.call ⟨.builtin .clear,a,ts⟩) = .eff:=rfl
@[go_sem] theorem PV:QA P M .skip Q env st=Q .normal env st:=rfl
@[go_sem] theorem On(id:Nat)(ops:Array Oper):QA P M (.region id ops false) Q env st=XK P M (ops.toList.map (·.dst)) ops.toList env st (Q .normal):=rfl
@[go_sem] theorem RC{ops:Array Oper}{ks el:List Nat}{R:St→Prop}{s0:St}{i:Nat}:bq P M ops ks el R s0 i [] env st N=N env st:=rfl
@[go_sem] theorem RK(a b:Code):QA P M (.seq a b) Q env st=QA P M a (Hl (QA P M b Q) Q) env st:=rfl
@[go_sem] theorem P0(c:Operand)(x y:Code):QA P M (.cond c x y) Q env st=(Mo (ev env c)∧(CR (ev env c)=true→QA P M x Q env st)∧(CR (ev env c)=false→QA P M y Q env st)):=rfl
@[go_sem] theorem Pr(id:Nat)(c:Code):QA P M (.block id c) Q env st=QA P M c (KU id Q) env st:=rfl
@[go_sem] theorem Rz(id:Nat):QA P M (.exit id) Q env st=Q (.exit id) env st:=rfl
@[go_sem] theorem RM:QA P M .ret Q env st=Q .ret env st:=rfl
@[go_sem] theorem O9(l:Nat):QA P M (.label l) Q env st=Q .normal env st:=rfl
@[go_sem] theorem Rc{nx:List SV→St→Prop}:Hl nx Q .normal=nx:=rfl
@[go_sem] theorem P6{nx:List SV→St→Prop}:Hl nx Q .ret=Q .ret:=rfl
@[go_sem] theorem PZ{nx:List SV→St→Prop}(id:Nat):Hl nx Q (.exit id)=Q (.exit id):=rfl
@[go_sem] theorem O'(id:Nat):KU id Q .normal=Q .normal:=rfl
@[go_sem] theorem PN(id:Nat):KU id Q .ret=Q .ret:=rfl
@[go_sem] theorem O7(id id':Nat):KU id Q (.exit id')=fun e s=>if id'=id then Q .normal e s else Q (.exit id') e s:=rfl
@[go_sem] theorem RU(rs:List ResultVar):j5 P rs K .normal=fun env st=>(Y5 P env st rs).isSome=true∧K (Yi ((Y5 P env st rs).getD [])) st:=rfl
@[go_sem] theorem RT(rs:List ResultVar):j5 P rs K .ret=fun env st=>(Y5 P env st rs).isSome=true∧K (Yi ((Y5 P env st rs).getD [])) st:=rfl
@[go_sem] theorem ze(n:Nat)(x:SV):ZM env (some n) x=env.set n x:=rfl
@[go_sem] theorem zc(x:SV):ZM env none x=env:=rfl
def jM:Option Bool→Option Nat→List SV→Option SV
 | some true,some n,l=>if n≤l.length then some (.agg (l.take n)) else none
 | some false,_,l=>if 0<l.length then some (l.getD 0 .any) else none
 | _,_,_=>none
@[go_sem] theorem aJ{t:TypeId}{x:SV}{l:List SV}:cellsOf P t (x::l)=jM (JP P t) (zR P t) (x::l):=by
 unfold cellsOf jM;cases JP P t with
 | none=>rfl
 | some b=>cases b <;> cases zR P t <;> rfl
@[go_sem] theorem AM{q:Option Nat}{x:SV}{l:List SV}:jM (some false) q (x::l)=some x:=rfl
@[go_sem] theorem sl{n:Nat}{l:List SV}:jM (some true) (some n) l=if n≤l.length then some (.agg (l.take n)) else none:=rfl
@[go_sem] theorem oS{α:Type}(l:List α)(f:α→SV):(l.map f).take l.length=l.map f:=List.take_of_length_le (by simp)
end eqs2
attribute [go_sem] Y5 Bool.and_true Bool.true_and Bool.and_self Vy J5 KT Ei VS KB Op.operands Call.operands Y3 ZW Za ZX FO U9 Bw fD pU xgS xgZ xsS xsZ xlC xlN List.map_cons List.map_nil xcA xnA xaN List.getElem?_cons_succ List.getElem?_cons_zero List.drop_zero List.drop_succ_cons List.take_succ_cons List.take_zero Option.getD_some Option.isSome_some xmS xbS Option.isSome_none Option.isNone_none List.contains_nil List.contains_cons List.all_cons List.all_nil xlA xlM List.length_set List.length_replicate List.range_zero eq_self false_or true_or or_true or_false true_and and_true if_true if_false XU ne_eq not_false_eq_true Nat.zero_lt_succ List.replicate
theorem sL(st ex:St):(∃ e,st++ex=st++e)=True:=eq_true ⟨ex,rfl⟩
theorem Y8(n:Nat)(v:Value):Ids n (.sc v)=True:=eq_true (.sc v)
theorem Qc(n:Nat)(l:List SV):Ids n (.agg l)=∀ x∈l,Ids n x:=by
 apply propext
 constructor
 ·intro h x hx;cases h with
  | agg l h =>
   obtain⟨i,hi⟩:=List.getElem?_of_mem hx;have:=h i (zk hi);rwa[xgE,hi] at this
 ·intro h;refine .agg l fun i hi=>?_;rw[xgE,List.getElem?_eq_getElem hi];exact h _ (List.getElem_mem hi)
theorem zT{n:Nat}{m:Mode}{z:Nat}{l:List SV}(hm:m = .imm∨m = .full)(h:∀ x∈l,∀ y∈x.cells,Ids n y):Ids n (.slice m z l):=by
 refine .slice m z l (fun id ver e=>by rcases hm with rfl | rfl <;> cases e) fun i j hi hj=>?_;have hx:l.getD i .any∈l:=by
  rw[xgE,List.getElem?_eq_getElem hi];exact List.getElem_mem hi
 by_cases hc:j<(l.getD i .any).cells.length
 ·have hy:(l.getD i .any).cells.getD j .any∈(l.getD i .any).cells:=by
   rw[xgE (l:=(l.getD i .any).cells),List.getElem?_eq_getElem hc];exact List.getElem_mem hc
  exact h _ hx _ hy
 ·rw[xgE (l:=(l.getD i .any).cells),List.getElem?_eq_none (Nat.not_lt.1 hc)];exact .any
theorem yn{α:Type}(p:α→Prop):(∀ x∈([]:List α),p x)=True:=eq_true (fun x hx=>by cases hx)
theorem uc(s:St)(l:List Ob)(k:Nat):qF (s++l) (s.length+k)=qF l k:=by simp[qF,List.getElem?_append_right]
theorem B8(s:St)(l:List Ob)(k:Nat):ZH (s++l) (s.length+k)=ZH l k:=by simp[ZH,List.getElem?_append_right]
theorem vS(s:St)(l:List Ob)(k v:Nat):Yu (s++l) (s.length+k) v=Yu l k v:=by simp[Yu,List.getElem?_append_right]
theorem ka(s:St)(l:List Ob)(k:Nat)(x:Ob):(s++l).set (s.length+k) x=s++l.set k x:=by simp
theorem ta(c:List SV)(l:List Ob):qF (.cells c::l) 0=c:=rfl
theorem tt(o:Ob)(l:List Ob)(k:Nat):qF (o::l) (k+1)=qF l k:=rfl
theorem yE(c:List SV)(l:List Ob):ZH (.cells c::l) 0=True:=rfl
theorem xf(o:Ob)(l:List Ob)(k:Nat):ZH (o::l) (k+1)=ZH l k:=rfl
theorem n6(v v':Nat)(l:List Ob):Yu (.tok v::l) 0 v'=(v=v'):=by simp[Yu]
theorem dG(o:Ob)(l:List Ob)(k v:Nat):Yu (o::l) (k+1) v=Yu l k v:=rfl
theorem uE(a:Bool):(a==false) = !a:=by cases a <;> rfl
theorem my(a:Bool):(a==true)=a:=by cases a <;> rfl
theorem Vm{t tx e ex:TypeId}{z n by':Nat}{zs:List SV}(he:zK P t=some e)(hx:zK P tx=some ex)(hz:zR P e=some z)(hzs:Zp P e=some zs)(hl:zs.length=z)
  (hb:QQ P e=some by') (h1:by'≤100000) (h2:n≤1000000):AppOk P t tx z n :=
 ⟨by omega,e,ex,zs,by',he,hx,hz,hzs,hl,hb,by
  have:(2*n+192)*by'≤2000192*100000:=Nat.mul_le_mul (by omega) h1;omega⟩
attribute [go_sem] uc B8 vS ka ta tt yE xf n6 dG xaA Nat.add_assoc Nat.zero_add
attribute [go_sem] sL Y8 Qc uE my List.forall_mem_cons yn Nat.one_ne_zero
@[go_sem] theorem oo{α:Type}(l:List α):((#[]:Array α)++l.toArray).toList=l:=by simp
@[go_sem] theorem ll(i:Nat):Xy (.tmp i)=false:=rfl
@[go_sem] theorem eH(k:IntKind)(i:Int):Xy (.const (.int k i))=false:=rfl
@[go_sem] theorem oF(s:ByteArray):Xy (.const (.string s))=false:=rfl
@[go_sem] theorem fW(b:Bool):Xy (.const (.bool b))=false:=rfl
@[go_sem] theorem td:Xy (.const (.slice none 0 0))=true:=rfl
@[go_sem] theorem fX:Xy (.const .nilFunc)=true:=rfl
@[go_sem] theorem aO:Xy (.const (.pointer none))=true:=rfl
section
variable {P:Program} {t:TypeId} {m:Mode} {z id off len cap:Nat} {l:List SV}
@[go_sem] theorem nG:KG .eql (.slice m z l) = .sc (.bool false):=rfl
@[go_sem] theorem oR:KG .eql (.slc id z off len cap) = .sc (.bool false):=rfl
@[go_sem] theorem ai:KG .eql (.ref l) = .sc (.bool false):=rfl
@[go_sem] theorem oC:KG .eql (.ptr id off) = .sc (.bool false):=rfl
@[go_sem] theorem eP:KG .eql (.sc (.pointer none)) = .sc (.bool true):=rfl
@[go_sem] theorem fm:KG .neq (.slice m z l) = .sc (.bool true):=rfl
@[go_sem] theorem lX:KG .neq (.slc id z off len cap) = .sc (.bool true):=rfl
@[go_sem] theorem eR:KG .neq (.ref l) = .sc (.bool true):=rfl
@[go_sem] theorem ag:KG .neq (.ptr id off) = .sc (.bool true):=rfl
@[go_sem] theorem eB:KG .neq (.sc (.pointer none)) = .sc (.bool false):=rfl
@[go_sem] theorem dc:QI P .eql t (.const (.slice none 0 0)) (.slice m z l)=(l≠[]∧(zK P t).isSome=true):=by simp[QI]
@[go_sem] theorem cX:QI P .neq t (.const (.slice none 0 0)) (.slice m z l)=(l≠[]∧(zK P t).isSome=true):=by simp[QI]
@[go_sem] theorem ox:QI P .eql t (.const (.slice none 0 0)) (.slc id z off len cap)=((zK P t).isSome=true):=by simp[QI]
@[go_sem] theorem ou:QI P .neq t (.const (.slice none 0 0)) (.slc id z off len cap)=((zK P t).isSome=true):=by simp[QI]
@[go_sem] theorem fY:QI P .eql t (.const (.pointer none)) (.ref l)=(Vl P t=true):=by simp[QI]
@[go_sem] theorem ol:QI P .neq t (.const (.pointer none)) (.ref l)=(Vl P t=true):=by simp[QI]
@[go_sem] theorem oj:QI P .eql t (.const (.pointer none)) (.ptr id off)=(Vl P t=true):=by simp[QI]
@[go_sem] theorem oh:QI P .neq t (.const (.pointer none)) (.ptr id off)=(Vl P t=true):=by simp[QI]
@[go_sem] theorem ow{fn:Fn}{a b:List SV}:KG .neq (.func fn a b) = .sc (.bool true):=rfl
@[go_sem] theorem od:KG .neq (.sc .nilFunc) = .sc (.bool false):=rfl
@[go_sem] theorem ov{fn:Fn}{a b:List SV}:KG .eql (.func fn a b) = .sc (.bool false):=rfl
@[go_sem] theorem oe:KG .eql (.sc .nilFunc) = .sc (.bool true):=rfl
@[go_sem] theorem dI{fn:Fn}{a b:List SV}:QI P .neq t (.const .nilFunc) (.func fn a b)=(Ve P t=true):=by simp[QI]
@[go_sem] theorem dM:QI P .neq t (.const .nilFunc) (.sc .nilFunc)=(Ve P t=true):=by simp[QI]
@[go_sem] theorem nr{fn:Fn}{a b:List SV}:QI P .eql t (.const .nilFunc) (.func fn a b)=(Ve P t=true):=by simp[QI]
@[go_sem] theorem bm:QI P .eql t (.const .nilFunc) (.sc .nilFunc)=(Ve P t=true):=by simp[QI]
@[go_sem] theorem oa:QI P .eql t (.const (.pointer none)) (.sc (.pointer none))=(Vl P t=true):=by simp[QI]
@[go_sem] theorem ot:QI P .neq t (.const (.pointer none)) (.sc (.pointer none))=(Vl P t=true):=by simp[QI]
end
section
variable {P:Program} {t u:TypeId} {st:St} {ρ:Operand→SV}
@[go_sem] theorem Is(x:Operand):qx (.convert t u x) = .pure:=rfl
@[go_sem] theorem PG(x:Operand):q9 P st ρ (.convert t u x)=Bc P t st u (ρ x):=rfl
@[go_sem] theorem OL(x:Operand):qz P st ρ (.convert t u x)=DM P st u (ρ x):=rfl
@[go_sem] theorem OI(v:Value):Bc P t st u (.sc v)=Yk P t u (.sc v):=rfl
@[go_sem] theorem sj(m:Mode)(z:Nat)(l:List SV):Bc P t st u (.slice m z l)=Yk P t u (.slice m z l):=rfl
@[go_sem] theorem C5(id z off len cap:Nat):Bc P t st u (.slc id z off len cap)=(ZH st id∧off+len≤(qF st id).length∧(zK P t).bind (KE P)=some .u8∧WR P u=true∧(((qF st id).drop off).take len).all Ka=true):=rfl
@[go_sem] theorem MO(v:Value):DM P st u (.sc v)=Jm P u (.sc v):=rfl
@[go_sem] theorem su(m:Mode)(z:Nat)(l:List SV):DM P st u (.slice m z l)=Jm P u (.slice m z l):=rfl
@[go_sem] theorem IQ(id z off len cap:Nat):DM P st u (.slc id z off len cap) = .sc (.string (XS (((qF st id).drop off).take len))):=rfl
@[go_sem] theorem BE(k:IntKind)(n:Int)(h:(KE P u).isSome=true):Yk P t u (.sc (.int k n))=((KE P t).isSome=true∧(KE P u).isSome=true):=by simp only[Yk,h,true_or]
theorem X4{k':IntKind}(k:IntKind)(n:Int)(h:KE P u=some k'):Jm P u (.sc (.int k n)) = .sc (.int k' (k'.wrap n)):=by simp[Jm,h]
end
end Go.AL
namespace Go.AL
open Go
variable {P:Program}
def SVle(x y:SV):Prop:=∀ (st:St) (σ:Sig) (w:World) (v:Value),Rep st σ w x v→Rep st σ w y v
theorem SVle.refl(x:SV):SVle x x:=fun _ _ _ _ h=>h
theorem SVle.any(x:SV):SVle x .any:=fun _ _ _ v _ =>.any v
theorem mY{f:FuncId}{args:List SV}{K:SV→St→Prop}{st:St}(h:ACalls P f args (fun x s=>∃ y,SVle x y∧K y s) st):ACalls P f args K st:=by
 intro σ w vs hI hR;refine (h σ w vs hI hR).mono ?_;rintro e w' ⟨v,x,s,σ',he,⟨y,hle,hk⟩,hI',hr,hX⟩;exact⟨v,y,s,σ',he,hk,hI',hle _ _ _ _ hr,hX⟩
theorem SVle.nil(m:Mode)(z z':Nat)(hm:m = .full∨m = .imm):SVle (.slice m z []) (.slice m z' []):=fun _ _ _ _ h=>XE h hm
inductive SVles:List SV→List SV→Prop where
 | nil:SVles [] []
 | cons {x y:SV} {l r:List SV}:SVle x y→SVles l r→SVles (x::l) (y::r)
theorem SVles.len{l r:List SV}(h:SVles l r):l.length=r.length:=by
 induction h with
 | nil=>rfl
 | cons _ _ ih=>simp[ih]
theorem SVles.at{l r:List SV}(h:SVles l r):∀ i,SVle (l.getD i .any) (r.getD i .any):=by
 induction h with
 | nil=>intro i;exact SVle.refl _
 | cons h1 _ ih =>
  intro i;cases i with
  | zero=>simpa using h1
  | succ i=>simpa using ih i
theorem SVle.agg{l r:List SV}(h:SVles l r):SVle (.agg l) (.agg r):=by
 intro st σ w v hv;generalize hx:SV.agg l=x at hv;cases hv with
 | agg l' vs h1 h2 =>
  cases hx;exact .agg r vs (h1.trans h.len) fun i hi=>h.at i _ _ _ _ (h2 i (by rw[h.len];exact hi))
 | _=>cases hx
end Go.AL
namespace Go.AL
variable {P:Program}
theorem gW{env:List SV}{p:Prop}(hp:¬ p):∀ (l:List Operand),KB p env l
 | []=>trivial
 | y::r=>⟨by cases hy:ev env y with
  | gd g x=>exact fun h=>absurd h hp
  | _=>trivial,gW hp r⟩
theorem uW(x y:SV):Hh true x y=x:=by unfold Hh;split <;> rfl
theorem uf(x y:SV):Hh false x y=y:=by unfold Hh;split <;> rfl
theorem SVles.refl:∀ l:List SV,SVles l l
 | [] =>.nil
 | x::r =>.cons (SVle.refl x) (SVles.refl r)
theorem SVle.tuple{l r:List SV}(h:SVles l r):SVle (.tuple l) (.tuple r):=by
 intro st σ w v hv;generalize hx:SV.tuple l=x at hv;cases hv with
 | tuple l' vs h1 h2 =>
  cases hx;exact .tuple r vs (h1.trans h.len) fun i hi=>h.at i _ _ _ _ (h2 i (by rw[h.len];exact hi))
 | _=>cases hx
end Go.AL
