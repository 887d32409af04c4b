/- The abstract layer, part 9: regions whose order is drawn: whatever the order, the same comes of them. -/
import Derived.Test.YtkokccjfpebomaaGreatDoorA2
import Derived.IntWalk
import Derived.Laws.Strings
set_option linter.unusedVariables false
namespace Go.AL
variable {P:Program}
def ZD (s:List Nat):Nat→List SV→List SV
 | _,[]=>[]
 | k,x::r=>(if s.contains k then x else .any)::ZD s (k+1) r
theorem YO (s:List Nat):∀ (k:Nat) (l:List SV),(ZD s k l).length=l.length
 | _,[]=>rfl
 | k,x::r=>by simp[ZD,YO s (k+1) r]
theorem zaa (s:List Nat):∀ (k:Nat) (l:List SV) (i:Nat),i<l.length→(ZD s k l).getD i .any=if s.contains (k+i) then l.getD i .any else .any
 | k,x::r,0,h=>rfl
 | k,x::r,i+1,h=>by
  have:=zaa s (k+1) r i (by simpa using h)
  simp only[ZD,List.getD_cons_succ,this,show k+1+i=k+(i+1) by omega]
def znf (st:St) (X:SV):SV→St→Prop:=fun x s=>(∃ ex,s=st++ex)∧Ids st.length X∧(X=x∨X=norm x)
def zbb (P:Program) (M:List Nat) (o:Oper) (env:List SV) (st:St) (next:SV→Prop):Kd→Prop
 | .pure=>qT P st (ev env) o.op∧next (qy P st (ev env) o.op)
 | .pick c x y=>YE (ev env c) (ev env x) (ev env y)∧next (V1 (ev env c) (ev env x) (ev env y))
 | .eff=>∃ X,qs P M o (ZD (qU o.op.operands.toList) 0 env) st (znf st X)∧next X
def zbt (P:Program) (M:List Nat) (o:Oper) (env:List SV) (st:St) (g:Bool) (next:SV→Prop):Kd→Prop
 | .pure=>V7 (g=true) env o.op.operands.toList∧(g=true→qT P st (fun y=>Zu (ev env y)) o.op)∧next (.gd g (qy P st (fun y=>Zu (ev env y)) o.op))
 | .pick c x y=>gIf (g=true) (ev env c)∧(g=true→YE (Zu (ev env c)) (ev env x) (ev env y))∧next (.gd g (V1 (Zu (ev env c)) (ev env x) (ev env y)))
 | .eff=>V7 (g=true) env o.op.operands.toList∧∃ X,(g=true→qs P M o (X9 (qU o.op.operands.toList) 0 (ZD (qU o.op.operands.toList) 0 env)) st (znf st X))∧next (.gd g X)
def Zx (P:Program) (M:List Nat) (ds:List (Option Tmp)) (o:Oper) (env:List SV) (st:St) (next:SV→Prop):Prop :=
 match o.guard with
 | none=>zbb P M o env st next (qx o.op)
 | some (j,want)=>Jw (JP ds j env)∧zbt P M o env st (zcz want (JP ds j env)) next (qx o.op)
def XE (P:Program) (M:List Nat) (ds:List (Option Tmp)):List Oper→List SV→St→(List SV→Prop)→Prop
 | [],env,st,K=>K env
 | o::r,env,st,K=>Zx P M ds o env st fun x=>XE P M ds r (Zz env o.dst x) st K
def looks (ops:Array Oper) (o:Oper):List Nat:=qU o.op.operands.toList++(match o.guard with | some (j,_)=>((ops[j]?).bind (·.dst)).toList | none=>[])
def Xc (o:Oper) (j:Nat):Bool:=o.after.toList.any fun e=>Region.binds .any e&&e.on==j
def zg5 (ops:Array Oper) (i j:Nat):Bool :=
 match ops[i]?,ops[j]? with
 | some a,some b =>
  (i==j) || ((match b.dst with
   | some t=>(!(looks ops a).contains t || (if j<i then Xc a j else Xc b i))&&a.dst != some t
   | none=>true))
 | _,_=>true
def Jn (ops:Array Oper):Bool :=
 (List.range ops.size).all fun i=>(List.range ops.size).all (zg5 ops i)&&((ops[i]?).map fun o=>o.after.toList.all fun e => !Region.binds .any e || decide (e.on<i)).getD true
def XZ (P:Program) (ops:Array Oper) (st:St) (o:Oper) (E:List SV) (X:SV):Prop :=
 ∀ σ w (a:Act) (env:List SV),Inv st σ w→RepEnv st σ w env a.tmps→(∀ t∈looks ops o,env.getD t .any=E.getD t .any)→env.length=E.length →
  (Region.wanted o (yielded ops a.tmps)=true→∃ Q0:Exit→Act→World→Prop,(∀ e a w,¬ Q0 e a w) ∧
   o.wp P a w (fun a' w'=>∃ v σ',a'=a.put o.dst v∧Inv st σ' w'∧Ext st σ w st σ' w'∧Rep st σ' w' X v) Q0) ∧
  (Region.wanted o (yielded ops a.tmps)=false→Rep st σ w X undef)
theorem zl6 {o:Oper} {E env:List SV} {st:St} {X:SV} (h:AOp P o (znf st X) E st) {σ:Sig} {w:World} {a:Act} (hI:Inv st σ w) (hR:RepEnv st σ w E a.tmps) :
  o.wp P a w (fun a' w'=>∃ v σ',a'=a.put o.dst v∧Inv st σ' w'∧Ext st σ w st σ' w'∧Rep st σ' w' X v) (fun _ _ _=>False):=by
 refine Qg ?_ (fun _ _ _ h=>h) (h σ w a hI hR)
 rintro a' w' ⟨v,x,s,σ',rfl,⟨⟨ex,rfl⟩,hids,hx⟩,hI',hr,hX⟩
 have hrX:Rep (st++ex) σ' w' X v:=by rcases hx with rfl | rfl;exact hr;exact hr.norm
 refine⟨v,σ',rfl,hI'.drop hI.obIds,hX.drop (Nat.le_refl _),hrX.drop hids⟩
theorem zgF {ops:Array Oper} {o:Oper} {t:Nat} (h:t∈qU o.op.operands.toList):t∈looks ops o:=List.mem_append_left _ h
theorem YF {t:Nat}:∀ {l:List Operand},Operand.tmp t∈l→t∈qU l
 | .tmp d::r,h=>by
  simp only[qU,List.mem_cons] at h ⊢
  rcases h with h | h
  ·left;cases h;rfl
  ·right;exact YF h
 | .const v::r,h=>by
  simp only[qU]
  cases h with
  | tail _ h=>exact YF h
 | .global v::r,h=>by
  simp only[qU]
  cases h with
  | tail _ h=>exact YF h
 | .func v::r,h=>by
  simp only[qU]
  cases h with
  | tail _ h=>exact YF h
theorem VS {ops:Array Oper} {o:Oper} {env E:List SV} (h:∀ t∈looks ops o,env.getD t .any=E.getD t .any) {y:Operand} (hy:y∈o.op.operands):ev env y=ev E y:=by
 cases y with
 | tmp t=>exact h t (zgF (YF (by simpa using hy)))
 | _=>rfl
theorem zbL {ops:Array Oper} {o:Oper} {st:St} {σ:Sig} {w:World} {t:Array Value} {env E:List SV} (hR:RepEnv st σ w env t) (h:∀ i∈looks ops o,env.getD i .any=E.getD i .any)
  (hl:env.length=E.length):RepEnv st σ w (ZD (qU o.op.operands.toList) 0 E) t:=by
 refine⟨by rw[YO,←hl];exact hR.1,fun i hi=>?_⟩
 rw[YO] at hi
 rw[zaa _ _ _ _ hi,Nat.zero_add]
 split
 ·rename_i hc
  rw[←h i (zgF (by simpa using hc))]
  exact hR.2 i (by omega)
 ·exact .any _
theorem zgl {ops:Array Oper} {o:Oper} {env E:List SV} (h:∀ t∈looks ops o,env.getD t .any=E.getD t .any) {p:Prop}:∀ (l:List Operand),(∀ y∈l,y∈o.op.operands)→V7 p E l→V7 p env l
 | [],_,_=>trivial
 | y::r,hm,hg=>⟨by rw[VS h (hm y (by simp))];exact hg.1,zgl h r (fun z hz=>hm z (by simp[hz])) hg.2⟩
theorem zgU {p:Prop} {E:List SV} (s:List Nat):∀ (l:List Operand),(∀ t,Operand.tmp t∈l→t∈s)→V7 p E l→V7 p (ZD s 0 E) l
 | [],_,_=>trivial
 | y::r,hm,hg=>by
  refine⟨?_,zgU s r (fun t ht=>hm t (by simp[ht])) hg.2⟩
  cases y with
  | tmp t =>
   simp only[ev]
   by_cases hl:t<E.length
   ·rw[zaa _ _ _ _ hl,Nat.zero_add,if_pos (by simpa using hm t (by simp))];exact hg.1
   ·rw[List.getD_eq_getElem?_getD,List.getElem?_eq_none (show (ZD s 0 E).length≤t by rw[YO];exact Nat.not_lt.1 hl)];trivial
  | _=>exact hg.1
theorem zcw {M:List Nat} {ops:Array Oper} {o:Oper} {E:List SV} {st:St} {next:SV→Prop} (h:Zx P M (ops.toList.map (·.dst)) o E st next) :
  ∃ X,XZ P ops st o E X∧next X:=by
 unfold Zx at h
 split at h
 ·rename_i hg
  have hw:∀ t,Region.wanted o (yielded ops t)=true:=fun t=>by simp[Region.wanted,hg]
  cases hk:qx o.op with
  | pure =>
   rw[hk] at h
   refine⟨_,fun σ w a env hI hR hs hl=>⟨fun _=>⟨fun _ _ _=>False,fun _ _ _ h=>h,?_⟩,fun hf=>by rw[hw] at hf;cases hf⟩,h.2⟩
   obtain⟨v,hrun,hrep⟩:=zd2 hk h.1 σ w a hI (fun y hy=>by rw[←VS hs hy];exact qw hR y)
   unfold Oper.wp
   rw[hrun]
   exact⟨v,σ,rfl,hI,Ext.refl _ _ _,hrep⟩
  | pick c x y =>
   rw[hk] at h
   refine⟨_,fun σ w a env hI hR hs hl=>⟨fun _=>⟨fun _ _ _=>False,fun _ _ _ h=>h,?_⟩,fun hf=>by rw[hw] at hf;cases hf⟩,h.2⟩
   obtain⟨v,hrun,hrep⟩:=zjL (P:=P) (ρ:=ev E) (st:=st) (JO hk) h.1 σ w a hI (fun y hy=>by rw[←VS hs hy];exact qw hR y)
   unfold Oper.wp
   rw[hrun]
   exact⟨v,σ,rfl,hI,Ext.refl _ _ _,hrep⟩
  | eff =>
   rw[hk] at h
   obtain⟨X,h1,h2⟩:=h
   exact⟨X,fun σ w a env hI hR hs hl=>⟨fun _=>⟨fun _ _ _=>False,fun _ _ _ h=>h,zl6 (env:=env) (zaK h1) hI (zbL hR hs hl)⟩,fun hf=>by rw[hw] at hf;cases hf⟩,h2⟩
 ·rename_i j want hg
  obtain⟨h1,h⟩:=h
  obtain⟨d,hd,he⟩:=zfw h1
  have hlook:d∈looks ops o:=by
   unfold looks
   rw[hg]
   exact List.mem_append_right _ (by simp[hd])
  have hw:∀ {σ:Sig} {w:World} {a:Act} {env:List SV},RepEnv st σ w env a.tmps→(∀ t∈looks ops o,env.getD t .any=E.getD t .any) →
    Region.wanted o (yielded ops a.tmps)=zcz want (JP (ops.toList.map (·.dst)) j E):=by
   intro σ w a env hR hs
   rw[he] at h1 ⊢
   rw[←hs d hlook] at h1 ⊢
   simp only[Region.wanted,hg]
   exact zeG hd h1 hR
  generalize zcz want (JP (ops.toList.map (·.dst)) j E)=g at h hw
  have skipc:∀ X:SV,g=false→∀ {σ:Sig} {w:World},Rep st σ w (.gd g X) undef:=fun X e σ w =>.gd g X _ (fun e'=>by rw[e] at e';cases e') (fun _=>rfl)
  cases hk:qx o.op with
  | pure =>
   rw[hk] at h
   obtain⟨g1,g2,g3⟩:=h
   refine⟨_,fun σ w a env hI hR hs hl=>⟨fun hwt=>⟨fun _ _ _=>False,fun _ _ _ h=>h,?_⟩,fun hf=>skipc _ ((hw hR hs).symm.trans hf)⟩,g3⟩
   have hgt:g=true:=(hw hR hs).symm.trans hwt
   obtain⟨v,hrun,hrep⟩:=zd2 hk (g2 hgt) σ w a hI (fun y hy=>by
    have:=QK (qw hR y) (zbD _ (zgl hs _ (fun z hz=>by simpa using hz) g1) y (by simpa using hy)) hgt
    rwa[VS hs hy] at this)
   unfold Oper.wp
   rw[hrun]
   exact⟨v,σ,rfl,hI,Ext.refl _ _ _,.gd g _ v (fun _=>hrep) (fun e=>by rw[hgt] at e;cases e)⟩
  | pick c x y =>
   rw[hk] at h
   obtain⟨g1,g2,g3⟩:=h
   have hop:=JO hk
   refine⟨_,fun σ w a env hI hR hs hl=>⟨fun hwt=>⟨fun _ _ _=>False,fun _ _ _ h=>h,?_⟩,fun hf=>skipc _ ((hw hR hs).symm.trans hf)⟩,g3⟩
   have hgt:g=true:=(hw hR hs).symm.trans hwt
   have ec:=VS hs (y:=c) (by simp[hop,Op.operands])
   have ex:=VS hs (y:=x) (by simp[hop,Op.operands])
   have ey:=VS hs (y:=y) (by simp[hop,Op.operands])
   obtain⟨v,hrun,hrep⟩:∃ v,(execOp a.eval o).run P w = .ok (.value v) w∧Rep st σ w (V1 (Zu (ev E c)) (ev E x) (ev E y)) v:=by
    have rc:=QK (qw hR c) (by rw[ec];exact g1) hgt
    rw[ec] at rc
    have h:=g2 hgt
    unfold YE at h
    split at h
    ·rename_i t hc
     rw[hc] at rc
     have e:=qE rc
     refine⟨if t then a.eval x else a.eval y,by cases t <;> simp[execOp,hop,e,asBool],?_⟩
     rw[hc]
     refine zc0 ?_
     cases t
     ·have ry:=qw hR y
      rw[ey] at ry
      exact QK ry h.2 rfl
     ·have rx:=qw hR x
      rw[ex] at rx
      exact QK rx h.1 rfl
    ·exact h.elim
   unfold Oper.wp
   rw[hrun]
   exact⟨v,σ,rfl,hI,Ext.refl _ _ _,.gd g _ v (fun _=>hrep) (fun e=>by rw[hgt] at e;cases e)⟩
  | eff =>
   rw[hk] at h
   obtain⟨g1,X,g2,g3⟩:=h
   refine⟨_,fun σ w a env hI hR hs hl=>⟨fun hwt=>⟨fun _ _ _=>False,fun _ _ _ h=>h,?_⟩,fun hf=>skipc _ ((hw hR hs).symm.trans hf)⟩,g3⟩
   have hgt:g=true:=(hw hR hs).symm.trans hwt
   have hRo:=zbL hR hs hl
   have hRs:=zdu hgt hRo (zgU _ _ (fun t ht=>YF ht) g1)
   refine Qg ?_ (fun _ _ _ h=>h) (zl6 (env:=env) (zaK (g2 hgt)) hI hRs)
   rintro a' w' ⟨v,σ',rfl,hI',hX,hr⟩
   exact⟨v,σ',rfl,hI',hX,.gd g _ v (fun _=>hr) (fun e=>by rw[hgt] at e;cases e)⟩
theorem zi5 {M:List Nat} {ops:Array Oper} {st:St} {K:List SV→Prop}:∀ (n:Nat) (l:List Oper) (env:List SV),ops.toList.drop n=l→XE P M (ops.toList.map (·.dst)) l env st K →
  ∃ (F:Nat→List SV) (X:Nat→SV),F n=env∧(∀ i o,n≤i→ops[i]?=some o→XZ P ops st o (F i) (X i)∧F (i+1)=Zz (F i) o.dst (X i))∧K (F (n+l.length))
 | n,[],env,hl,h=>by
  refine⟨fun _=>env,fun _ =>.any,rfl,fun i o hi ho=>?_,h⟩
  have h1:=qi ho
  have h2:=congrArg List.length hl
  simp at h2
  omega
 | n,o::r,env,hl,h=>by
  have ho:ops[n]?=some o:=by
   have:(ops.toList.drop n)[0]?=some o:=by rw[hl];rfl
   rw[List.getElem?_drop,Nat.add_zero,Array.getElem?_toList] at this
   exact this
  have hr:ops.toList.drop (n+1)=r:=by rw[←List.drop_drop,hl];rfl
  obtain⟨x,h1,h2⟩:=zcw h
  obtain⟨F,X,f1,f2,f3⟩:=zi5 (n+1) r _ hr h2
  refine⟨fun i=>if i=n then env else F i,fun i=>if i=n then x else X i,by simp,fun i p hi hp=>?_,?_⟩
  ·by_cases e:i=n
   ·subst e
    rw[ho] at hp;cases hp
    simp only[if_true,show ¬ i+1=i by omega,if_false]
    exact⟨h1,f1⟩
   ·simp only[if_neg e,show ¬ i+1=n by omega,if_false]
    exact f2 i p (by omega) hp
  ·simp only[List.length_cons]
   rw[if_neg (by omega),show n+(r.length+1)=n+1+r.length by omega]
   exact f3
def qQ (ops:Array Oper) (j t:Nat):Bool:=((ops[j]?).bind (·.dst))==some t
def wr (ops:Array Oper) (listed:Array Bool) (t:Nat):Bool:=(List.range ops.size).any fun j=>listed.getD j false&&qQ ops j t
def X2 (ops:Array Oper) (listed:Array Bool) (e0 eN:List SV):List SV:=(List.range e0.length).map fun t=>if wr ops listed t then eN.getD t .any else e0.getD t .any
theorem qd {ops:Array Oper} {listed:Array Bool} {e0 eN:List SV}:(X2 ops listed e0 eN).length=e0.length:=by simp[X2]
theorem Qu {ops:Array Oper} {listed:Array Bool} {e0 eN:List SV} {t:Nat} (ht:t<e0.length) :
  (X2 ops listed e0 eN).getD t .any=if wr ops listed t then eN.getD t .any else e0.getD t .any:=by
 simp[X2,List.getD_eq_getElem?_getD,ht]
theorem Vg {env:List SV} {d:Option Tmp} {x:SV} {t:Nat} (ht:t<env.length):(Zz env d x).getD t .any=if d=some t then x else env.getD t .any:=by
 cases d with
 | none=>simp[Zz]
 | some d =>
  simp only[Zz,Option.some.injEq]
  by_cases e:d=t
  ·subst e;simp[List.getD_eq_getElem?_getD,ht]
  ·simp[List.getD_eq_getElem?_getD,List.getElem?_set_ne e,e]
theorem X3 {env:List SV} {d:Option Tmp} {x:SV}:(Zz env d x).length=env.length:=by cases d <;> simp[Zz]
theorem zS (M:List Nat) {id:Nat} {ops:Array Oper} {Q:Exit→List SV→St→Prop} {env:List SV} {st:St} (hm:P.follows .mixedOrders=true) (hf:Jn ops=true)
  (h:XE P M (ops.toList.map (·.dst)) ops.toList env st fun e=>Q .normal e st):AWp P (.region id ops true) Q env st:=by
 intro σ w a hI hR D hd
 obtain⟨F,X,f1,f2,f3⟩:=zi5 0 ops.toList env rfl h
 simp only[Nat.zero_add,Array.length_toList] at f3
 have hflow:∀ i j p q,ops[i]?=some p→ops[j]?=some q→i≠j→∀ t,q.dst=some t→(t∈looks ops p→if j<i then Xc p j=true else Xc q i=true)∧p.dst≠some t:=by
  intro i j p q hp hq hne t ht
  have h1:=qi hp
  have h2:=qi hq
  unfold Jn at hf
  rw[List.all_eq_true] at hf
  have h3:=hf i (by simpa using h1)
  simp only[Bool.and_eq_true,List.all_eq_true] at h3
  have h4:=h3.1 j (by simpa using h2)
  unfold zg5 at h4
  rw[hp,hq] at h4
  simp only[ht,Bool.or_eq_true,beq_iff_eq,Bool.and_eq_true,Bool.not_eq_true',bne_iff_ne,ne_eq] at h4
  rcases h4 with h4 | ⟨h4,h5⟩
  ·exact absurd h4 hne
  ·refine⟨fun hlk=>?_,h5⟩
   rcases h4 with h4 | h4
   ·simp[hlk] at h4
   ·split <;> rename_i hji <;> simpa[hji] using h4
 have hback:∀ i p,ops[i]?=some p→∀ e,e∈p.after.toList→Region.binds .any e=true→e.on<i:=by
  intro i p hp e he hb
  have h1:=qi hp
  unfold Jn at hf
  rw[List.all_eq_true] at hf
  have h3:=hf i (by simpa using h1)
  simp only[Bool.and_eq_true,hp,Option.map_some,Option.getD_some,List.all_eq_true] at h3
  have h4:=h3.2 e he
  simpa[hb] using h4
 have flen:∀ i,i≤ops.size→(F i).length=env.length:=by
  intro i
  induction i with
  | zero=>intro _;rw[f1]
  | succ i ih =>
   intro hi
   have hp:ops[i]?=some ops[i]:=by simp[show i<ops.size by omega]
   rw[(f2 i _ (Nat.zero_le _) hp).2,X3,ih (by omega)]
 have fget:∀ i,i≤ops.size→∀ t,t<env.length→(∀ j,j<i→qQ ops j t=true→(F i).getD t .any=X j)∧((∀ j,j<i→qQ ops j t=false)→(F i).getD t .any=env.getD t .any):=by
  intro i
  induction i with
  | zero=>intro _ t ht;exact⟨fun j hj=>absurd hj (Nat.not_lt_zero _),fun _=>by rw[f1]⟩
  | succ i ih =>
   intro hi t ht
   obtain⟨ih1,ih2⟩:=ih (by omega) t ht
   have hp:ops[i]?=some ops[i]:=by simp[show i<ops.size by omega]
   have he:=(f2 i _ (Nat.zero_le _) hp).2
   have hg:(F (i+1)).getD t .any=if ops[i].dst=some t then X i else (F i).getD t .any:=by rw[he];exact Vg (by rw[flen i (by omega)];exact ht)
   have hwi:qQ ops i t=true↔ops[i].dst=some t:=by simp[qQ,hp]
   refine⟨fun j hj hw=>?_,fun hno=>?_⟩
   ·rw[hg]
    by_cases c:ops[i].dst=some t
    ·rw[if_pos c]
     by_cases e:j=i
     ·rw[e]
     ·have hjl:j<ops.size:=by omega
      have hq:ops[j]?=some ops[j]:=by simp[hjl]
      have hjd:ops[j].dst=some t:=by simpa[qQ,hq] using hw
      exact absurd c (hflow i j _ _ hp hq (by omega) t hjd).2
    ·rw[if_neg c]
     have e:j≠i:=by rintro rfl;exact c (hwi.1 hw)
     exact ih1 j (by omega) hw
   ·rw[hg,if_neg (fun c=>by have:=hno i (by omega);rw[hwi.2 c] at this;cases this)]
    exact ih2 fun j hj=>hno j (by omega)
 let Inv':Array Bool→Act→World→Prop:=fun listed a' w'=>∃ σ',Inv st σ' w'∧Ext st σ w st σ' w'∧a'.defers=D∧listed.size=ops.size ∧
  RepEnv st σ' w' (X2 ops listed env (F ops.size)) a'.tmps∧∀ i,listed.getD i false=true→∀ p,ops[i]?=some p→∀ e,e∈p.after.toList→Region.binds .any e=true→listed.getD e.on false=true
 have key:∀ (fuel:Nat) (listed:Array Bool) (a':Act) (w':World),((List.range ops.size).filter fun j => !listed.getD j false).length=fuel→Inv' listed a' w' →
   wpAny P .any ops (fun e a' w'=>Post D (Q e) st σ w a' w') fuel listed a' w':=by
  intro fuel
  induction fuel with
  | zero =>
   intro listed a' w' hc hI'
   obtain⟨σ',i1,i2,i3,i4,i5,i6⟩:=hI'
   have hall:∀ j,j<ops.size→listed.getD j false=true:=by
    intro j hj
    have h0:(List.range ops.size).filter (fun j => !listed.getD j false)=[]:=List.eq_nil_of_length_eq_zero hc
    rw[List.filter_eq_nil_iff] at h0
    simpa using h0 j (by simpa using hj)
   refine⟨?_,i3,X2 ops listed env (F ops.size),st,σ',?_,i1,i5,i2⟩
   ·unfold Region.ready
    rw[List.filter_eq_nil_iff]
    intro j hj
    have hj':j<ops.size:=by simpa using hj
    have h1:=hall j hj'
    have:listed.getD j true=true:=by
     rw[Array.getD_eq_getD_getElem?] at h1 ⊢
     rw[Array.getElem?_eq_getElem (by omega)] at h1 ⊢
     exact h1
    simp[this]
   ·have e:X2 ops listed env (F ops.size)=F ops.size:=by
     apply List.ext_getElem?
     intro t
     by_cases ht:t<env.length
     ·have h1:=Qu (ops:=ops) (listed:=listed) (eN:=F ops.size) ht
      have hl1:t<(X2 ops listed env (F ops.size)).length:=by rw[qd];exact ht
      have hl2:t<(F ops.size).length:=by rw[flen _ (Nat.le_refl _)];exact ht
      rw[List.getElem?_eq_getElem hl1,List.getElem?_eq_getElem hl2]
      simp only[List.getD_eq_getElem?_getD,List.getElem?_eq_getElem hl1,List.getElem?_eq_getElem hl2,Option.getD_some] at h1
      rw[h1]
      split
      ·rfl
      ·rename_i hno
       have h2:=(fget ops.size (Nat.le_refl _) t ht).2 (fun j hj=>by
        cases hw:qQ ops j t with
        | false=>rfl
        | true =>
         exfalso
         apply hno
         unfold wr
         rw[List.any_eq_true]
         exact⟨j,by simpa using hj,by rw[hall j hj,hw];rfl⟩)
       simp only[List.getD_eq_getElem?_getD,List.getElem?_eq_getElem hl2,Option.getD_some] at h2
       rw[h2]
     ·rw[List.getElem?_eq_none (by rw[qd];omega),List.getElem?_eq_none (by rw[flen _ (Nat.le_refl _)];omega)]
    rw[e]
    exact f3
  | succ fuel ih =>
   intro listed a' w' hc hI'
   obtain⟨σ',i1,i2,i3,i4,i5,i6⟩:=hI'
   have hready:∀ i,i∈Region.ready .any ops listed↔i<ops.size∧listed.getD i true=false∧∀ p,ops[i]?=some p→∀ e,e∈p.after.toList→Region.binds .any e=true→listed.getD e.on false=true:=by
    intro i
    unfold Region.ready
    rw[List.mem_filter]
    constructor
    ·rintro⟨h1,h2⟩
     have h1':i<ops.size:=by simpa using h1
     simp only[Bool.and_eq_true,Bool.not_eq_true'] at h2
     refine⟨h1',h2.1,fun p hp e he hb=>?_⟩
     have h3:=h2.2
     rw[hp] at h3
     simp only[Option.map_some,Option.getD_some,Array.all_eq_true'] at h3
     have:=h3 e (by simpa using he)
     simpa[hb] using this
    ·rintro⟨h1,h2,h3⟩
     refine⟨by simpa using h1,?_⟩
     have hp:ops[i]?=some ops[i]:=by simp[h1]
     simp only[h2,hp,Option.map_some,Option.getD_some,Bool.not_false,Bool.true_and,Array.all_eq_true']
     intro e he
     cases hb:Region.binds .any e with
     | false=>rfl
     | true=>simpa using h3 _ hp e (by simpa using he) hb
   refine⟨fun hnil=>?_,fun i hi=>?_⟩
   ·-- the least one that is not listed is ready
    exfalso
    have hex:∃ j,j<ops.size∧listed.getD j false=false:=by
     have hne:(List.range ops.size).filter (fun j => !listed.getD j false)≠[]:=by intro h0;rw[h0] at hc;cases hc
     obtain⟨j,hj⟩:=List.exists_mem_of_ne_nil _ hne
     rw[List.mem_filter] at hj
     exact⟨j,by simpa using hj.1,by simpa using hj.2⟩
    obtain⟨j,hj1,hj2⟩:=hex
    have least:∀ n,∀ j,j≤n→j<ops.size→listed.getD j false=false→∃ i,i<ops.size∧listed.getD i false=false∧∀ k,k<i→listed.getD k false=true:=by
     intro n
     induction n with
     | zero =>
      intro j hj h1 h2
      exact⟨j,h1,h2,fun k hk=>by omega⟩
     | succ n ihn =>
      intro j hj h1 h2
      by_cases c:∃ k,k<j∧listed.getD k false=false
      ·obtain⟨k,hk1,hk2⟩:=c
       exact ihn k (by omega) (by omega) hk2
      ·refine⟨j,h1,h2,fun k hk=>?_⟩
       cases hv:listed.getD k false with
       | true=>rfl
       | false=>exact absurd ⟨k,hk,hv⟩ c
    obtain⟨i,hi1,hi2,hi3⟩:=least j j (Nat.le_refl _) hj1 hj2
    have:i∈Region.ready .any ops listed:=(hready i).2 ⟨hi1,by
     rw[Array.getD_eq_getD_getElem?] at hi2 ⊢
     rw[Array.getElem?_eq_getElem (by omega)] at hi2 ⊢
     exact hi2,fun p hp e he hb=>hi3 _ (hback i p hp e he hb)⟩
    rw[hnil] at this
    cases this
   ·obtain⟨hi1,hi2,hi3⟩:=(hready i).1 hi
    have hp:ops[i]?=some ops[i]:=by simp[hi1]
    have hnl:listed.getD i false=false:=by
     rw[Array.getD_eq_getD_getElem?] at hi2 ⊢
     rw[Array.getElem?_eq_getElem (by omega)] at hi2 ⊢
     exact hi2
    obtain⟨hfact,hnext⟩:=f2 i _ (Nat.zero_le _) hp
    have hagree:∀ t∈looks ops ops[i],(X2 ops listed env (F ops.size)).getD t .any=(F i).getD t .any:=by
     intro t ht
     by_cases hlt:t<env.length
     ·rw[Qu hlt]
      obtain⟨g1,g2⟩:=fget i (by omega) t hlt
      obtain⟨gN1,gN2⟩:=fget ops.size (Nat.le_refl _) t hlt
      by_cases c:∃ j,j<i∧qQ ops j t=true
      ·obtain⟨j,hj,hw⟩:=c
       have hjl:j<ops.size:=by omega
       have hq:ops[j]?=some ops[j]:=by simp[hjl]
       have hjd:ops[j].dst=some t:=by simpa[qQ,hq] using hw
       have hedge:=(hflow i j _ _ hp hq (by omega) t hjd).1 ht
       rw[if_pos hj] at hedge
       have hlj:listed.getD j false=true:=by
        unfold Xc at hedge
        rw[List.any_eq_true] at hedge
        obtain⟨e,he1,he2⟩:=hedge
        simp only[Bool.and_eq_true,beq_iff_eq] at he2
        have:=hi3 _ hp e he1 he2.1
        rwa[he2.2] at this
       rw[if_pos (by unfold wr;rw[List.any_eq_true];exact⟨j,by simpa using hjl,by rw[hlj,hw];rfl⟩),g1 j hj hw,gN1 j hjl hw]
      ·rw[g2 fun j hj=>by
        cases hw:qQ ops j t with
        | false=>rfl
        | true=>exact absurd ⟨j,hj,hw⟩ c]
       rw[if_neg]
       intro hwr
       unfold wr at hwr
       rw[List.any_eq_true] at hwr
       obtain⟨j,hj1,hj2⟩:=hwr
       simp only[Bool.and_eq_true] at hj2
       have hjl:j<ops.size:=by simpa using hj1
       have hq:ops[j]?=some ops[j]:=by simp[hjl]
       have hjd:ops[j].dst=some t:=by simpa[qQ,hq] using hj2.2
       have hne:i≠j:=by rintro rfl;rw[hj2.1] at hnl;cases hnl
       have hnji:¬ j<i:=fun hji=>c ⟨j,hji,hj2.2⟩
       have hedge:=(hflow i j _ _ hp hq hne t hjd).1 ht
       rw[if_neg hnji] at hedge
       unfold Xc at hedge
       rw[List.any_eq_true] at hedge
       obtain⟨e,he1,he2⟩:=hedge
       simp only[Bool.and_eq_true,beq_iff_eq] at he2
       have:=i6 j hj2.1 _ hq e he1 he2.1
       rw[he2.2,hnl] at this
       cases this
     ·rw[List.getD_eq_getElem?_getD,List.getD_eq_getElem?_getD,List.getElem?_eq_none (by rw[qd];omega),List.getElem?_eq_none (by rw[flen i (by omega)];omega)]
    obtain⟨hrun,hskip⟩:=hfact σ' w' a' _ i1 i5 hagree (by rw[qd,flen i (by omega)])
    have hdone:∀ (v:Value) (σ2:Sig) (w2:World),Inv st σ2 w2→Ext st σ' w' st σ2 w2→Rep st σ2 w2 (X i) v→Inv' (listed.setIfInBounds i true) (a'.put ops[i].dst v) w2:=by
     intro v σ2 w2 hI2 hX2 hr2
     have gl:∀ k,(listed.setIfInBounds i true).getD k false=if k=i then true else listed.getD k false:=by
      intro k
      rw[Array.getD_eq_getD_getElem?,Array.getD_eq_getD_getElem?]
      by_cases e:i=k
      ·subst e;simp[show i<listed.size by omega]
      ·rw[Array.getElem?_setIfInBounds_ne e,if_neg (fun h=>e h.symm)]
     have hRE:=i5.ext hX2
     refine⟨σ2,hI2,i2.trans hX2,by rw[QE];exact i3,by simpa using i4,⟨?_,fun t ht=>?_⟩,fun k hk p hp' e he hb=>?_⟩
     ·rw[qd]
      have:=hRE.1
      rw[qd] at this
      cases ops[i].dst with
      | none=>exact this
      | some d=>simpa[Act.put] using this
     ·rw[qd] at ht
      have hput:=YN hRE ops[i].dst hr2
      have h1:=hput.2 t (by rw[X3,qd];exact ht)
      rw[Vg (by rw[qd];exact ht)] at h1
      have e:(X2 ops (listed.setIfInBounds i true) env (F ops.size)).getD t .any=if ops[i].dst=some t then X i else (X2 ops listed env (F ops.size)).getD t .any:=by
       rw[Qu ht,Qu ht]
       obtain⟨gN1,gN2⟩:=fget ops.size (Nat.le_refl _) t ht
       by_cases c:ops[i].dst=some t
       ·rw[if_pos c,if_pos]
        ·exact gN1 i hi1 (by simp[qQ,hp,c])
        ·unfold wr
         rw[List.any_eq_true]
         exact⟨i,by simpa using hi1,by rw[gl,if_pos rfl];simp[qQ,hp,c]⟩
       ·rw[if_neg c]
        have e2:wr ops (listed.setIfInBounds i true) t=wr ops listed t:=by
         unfold wr
         apply Bool.eq_iff_iff.2
         rw[List.any_eq_true,List.any_eq_true]
         constructor
         ·rintro⟨j,hj1,hj2⟩
          simp only[Bool.and_eq_true] at hj2
          refine⟨j,hj1,?_⟩
          rw[gl] at hj2
          by_cases ej:j=i
          ·subst ej;exact absurd (by simpa[qQ,hp] using hj2.2) c
          ·rw[if_neg ej] at hj2;simp[hj2.1,hj2.2]
         ·rintro⟨j,hj1,hj2⟩
          simp only[Bool.and_eq_true] at hj2
          refine⟨j,hj1,?_⟩
          rw[gl]
          split <;> simp[hj2.1,hj2.2]
        rw[e2]
      rw[e]
      exact h1
     ·rw[gl] at hk ⊢
      split
      ·rfl
      ·by_cases ek:k=i
       ·subst ek
        rw[hp] at hp';cases hp'
        exact hi3 _ hp e he hb
       ·rw[if_neg ek] at hk
        exact i6 k hk p hp' e he hb
    have hcount:((List.range ops.size).filter fun j => !(listed.setIfInBounds i true).getD j false).length=fuel:=by
     have h1:((List.range ops.size).filter fun j => !listed.getD j false)=(List.range ops.size).filter fun j => !listed.getD j false:=rfl
     have hperm:∀ l:List Nat,l.Nodup→i∈l→(l.filter fun j => !listed.getD j false).length=(l.filter fun j => !(listed.setIfInBounds i true).getD j false).length+1:=by
      intro l
      have gl:∀ k,(listed.setIfInBounds i true).getD k false=if k=i then true else listed.getD k false:=by
       intro k
       rw[Array.getD_eq_getD_getElem?,Array.getD_eq_getD_getElem?]
       by_cases e:i=k
       ·subst e;simp[show i<listed.size by omega]
       ·rw[Array.getElem?_setIfInBounds_ne e,if_neg (fun h=>e h.symm)]
      induction l with
      | nil=>intro _ h;cases h
      | cons x r ihr =>
       intro hnd hmem
       rw[List.nodup_cons] at hnd
       by_cases e:x=i
       ·subst e
        have hrest:(r.filter fun j => !listed.getD j false)=r.filter fun j => !(listed.setIfInBounds x true).getD j false:=by
         apply List.filter_congr
         intro j hj
         rw[gl,if_neg (by rintro rfl;exact hnd.1 hj)]
        rw[List.filter_cons,List.filter_cons,if_pos (by rw[hnl];rfl),if_neg (by rw[gl,if_pos rfl];decide),hrest]
        simp
       ·have hm:i∈r:=by
         cases hmem with
         | head=>exact absurd rfl e
         | tail _ h=>exact h
        have:=ihr hnd.2 hm
        simp only[List.filter_cons,gl x,if_neg e]
        split <;> simp only[List.length_cons,this]
     have:=hperm _ List.nodup_range (by simpa using hi1)
     omega
    unfold wpOp
    rw[hp]
    simp only
    cases hwt:Region.wanted ops[i] (yielded ops a'.tmps) with
    | true =>
     simp only[if_true]
     obtain⟨Q0,hq0,hwp⟩:=hrun hwt
     refine .inl (Qg ?_ (fun e a w h=>absurd h (hq0 e a w)) hwp)
     rintro a2 w2 ⟨v,σ2,rfl,hI2,hX2,hr2⟩
     exact ih _ _ _ hcount (hdone v σ2 w2 hI2 hX2 hr2)
    | false =>
     simp only[Bool.false_eq_true,if_false]
     exact ih _ _ _ hcount (hdone undef σ' w' i1 (Ext.refl _ _ _) (hskip hwt))
 have hd0:Ext st σ w st σ { w with drawn:=w.drawn+1 }:=Ext.drew _
 refine wp_region_any hm (key ops.size _ a _ ?_ ⟨σ,hI.drew _,hd0,hd,by simp,?_,fun i hi=>?_⟩)
 ·have:((List.range ops.size).filter fun j => !(Array.replicate ops.size false).getD j false)=List.range ops.size:=by
   apply List.filter_eq_self.2
   intro j hj
   simp[Array.getD]
  rw[this];simp
 ·have e:X2 ops (Array.replicate ops.size false) env (F ops.size)=env:=by
   apply List.ext_getElem?
   intro t
   by_cases ht:t<env.length
   ·have hw:wr ops (Array.replicate ops.size false) t=false:=by
     unfold wr
     rw[List.any_eq_false]
     intro j hj
     simp[Array.getD]
    simp[X2,hw,ht]
   ·rw[List.getElem?_eq_none (by rw[qd];omega),List.getElem?_eq_none (by omega)]
  rw[e]
  exact hR.ext hd0
 ·simp[Array.getD] at hi
end Go.AL
namespace Go.AL
variable {P:Program}
def za0 (ops:Array Oper):Nat→Nat→Nat→Bool
 | 0,_,_=>false
 | n+1,i,j=>match ops[i]? with
  | some o=>o.after.toList.any fun e=>Region.binds .any e&&(e.on==j || za0 ops n e.on j)
  | none=>false
def JG (ops:Array Oper):List Nat→Bool
 | a::b::r=>za0 ops ops.size b a&&decide (a<b)&&JG ops (b::r)
 | _=>true
def zqm (P:Program) (M:List Nat) (ops:Array Oper) (ks el:List Nat) (R:St→Prop) (s0:St):Nat→List Oper→List SV→St→(List SV→St→Prop)→Prop
 | _,[],env,st,K=>K env st
 | i,o::r,env,st,K =>
  if ks.contains i then ∃ X s',qs P M o (ZD (qU o.op.operands.toList) 0 env) st (fun x s=>x=X∧s=s')∧o.guard=none∧R s'∧zqm P M ops ks el R s0 (i+1) r (Zz env o.dst X) s' K
  else ∃ X,(∀ s,(if el.contains i then s=s0 else R s)→Zx P M (ops.toList.map (·.dst)) o env s (fun x=>x=X))∧zqm P M ops ks el R s0 (i+1) r (Zz env o.dst X) st K
def zaL (P:Program) (ops:Array Oper) (s s':St) (o:Oper) (E:List SV) (X:SV):Prop :=
 ∀ σ w (a:Act) (env:List SV),Inv s σ w→RepEnv s σ w env a.tmps→(∀ t∈looks ops o,env.getD t .any=E.getD t .any)→env.length=E.length →
  o.guard=none∧∃ Q0:Exit→Act→World→Prop,(∀ e a w,¬ Q0 e a w) ∧
   o.wp P a w (fun a' w'=>∃ v σ',a'=a.put o.dst v∧Inv s' σ' w'∧Ext s σ w s' σ' w'∧Rep s' σ' w' X v) Q0
theorem Yz {ops:Array Oper} {listed:Array Bool} (hcl:∀ i,listed.getD i false=true→∀ p,ops[i]?=some p→∀ e,e∈p.after.toList→Region.binds .any e=true→listed.getD e.on false=true) :
  ∀ (n i j:Nat),(∀ p,ops[i]?=some p→∀ e,e∈p.after.toList→Region.binds .any e=true→listed.getD e.on false=true)→za0 ops n i j=true→listed.getD j false=true
 | 0,i,j,_,h=>by cases h
 | n+1,i,j,hi,h=>by
  simp only[za0] at h
  split at h
  ·rename_i o ho
   rw[List.any_eq_true] at h
   obtain⟨e,he1,he2⟩:=h
   simp only[Bool.and_eq_true,Bool.or_eq_true,beq_iff_eq] at he2
   have hl:=hi o ho e he1 he2.1
   rcases he2.2 with rfl | h2
   ·exact hl
   ·exact Yz hcl n e.on j (hcl e.on hl) h2
  ·cases h
theorem zeY {ops:Array Oper} {a:Nat} {r:List Nat} (h:JG ops (a::r)=true):JG ops r=true:=by
 cases r with
 | nil=>rfl
 | cons b r=>simp only[JG,Bool.and_eq_true] at h;exact h.2
theorem zht {ops:Array Oper}:∀ {r:List Nat} {a:Nat},JG ops (a::r)=true→∀ k∈r,a<k
 | [],a,_,k,hk=>by cases hk
 | b::r,a,h,k,hk=>by
  simp only[JG,Bool.and_eq_true,decide_eq_true_eq] at h
  cases hk with
  | head=>exact h.1.2
  | tail _ hk=>exact Nat.lt_trans h.1.2 (zht h.2 k hk)
theorem zey {ops:Array Oper} {listed:Array Bool} (hcl:∀ i,listed.getD i false=true→∀ p,ops[i]?=some p→∀ e,e∈p.after.toList→Region.binds .any e=true→listed.getD e.on false=true) :
  ∀ {r:List Nat} {a:Nat},JG ops (a::r)=true→∀ k∈r,listed.getD k false=true→listed.getD a false=true
 | [],a,_,k,hk,_=>by cases hk
 | b::r,a,h,k,hk,hl=>by
  have h':=h
  simp only[JG,Bool.and_eq_true] at h
  have hb:listed.getD b false=true:=by
   cases hk with
   | head=>exact hl
   | tail _ hk=>exact zey hcl h.2 k hk hl
  exact Yz hcl _ b a (hcl b hb) h.1.1
def Vq (ks:List Nat) (listed:Array Bool) (n:Nat):Nat:=(ks.find? fun e => !listed.getD e false).getD n
theorem zmx {ops:Array Oper} {listed:Array Bool} (n:Nat) (hcl:∀ i,listed.getD i false=true→∀ p,ops[i]?=some p→∀ e,e∈p.after.toList→Region.binds .any e=true→listed.getD e.on false=true)
  {i:Nat} (hi:∀ p,ops[i]?=some p→∀ e,e∈p.after.toList→Region.binds .any e=true→listed.getD e.on false=true) (hnl:listed.getD i false=false) :
  ∀ {ks:List Nat},JG ops ks=true→i∈ks→Vq ks listed n=i
 | [],_,h=>by cases h
 | a::r,ho,h=>by
  by_cases e:a=i
  ·subst e;simp only[Vq,List.find?_cons,hnl,Bool.not_false];rfl
  ·have hr:i∈r:=by
    cases h with
    | head=>exact absurd rfl e
    | tail _ h=>exact h
   have ih:=zmx n hcl hi hnl (zeY ho) hr
   have ha:listed.getD a false=true:=by
    cases r with
    | nil=>cases hr
    | cons b r =>
     have ho':=ho
     simp only[JG,Bool.and_eq_true] at ho
     by_cases eb:b=i
     ·subst eb;exact Yz hcl _ b a hi ho.1.1
     ·have hb:listed.getD b false=true:=by
       cases hv:listed.getD b false with
       | true=>rfl
       | false =>
        exfalso
        simp only[Vq,List.find?_cons,hv,Bool.not_false] at ih
        exact eb ih
      exact Yz hcl _ b a (hcl b hb) ho.1.1
   simp only[Vq,List.find?_cons,ha,Bool.not_true] at ih ⊢
   exact ih
theorem zpg {listed:Array Bool} {n:Nat} {ks:List Nat} (h:∀ k∈ks,listed.getD k false=true):Vq ks listed n=n:=by
 unfold Vq
 rw[List.find?_eq_none.2 (fun k hk=>by simp only[h k hk];decide)];rfl
theorem zeP {ops:Array Oper} {listed:Array Bool} {n:Nat}:∀ {ks:List Nat},JG ops ks=true→(∀ k∈ks,k<n)→Vq ks listed n≤n∧(∀ k∈ks,k<Vq ks listed n→listed.getD k false=true) ∧
  (Vq ks listed n=n∨(Vq ks listed n∈ks∧listed.getD (Vq ks listed n) false=false))
 | [],_,_=>⟨Nat.le_of_eq rfl,fun k hk _=>(by cases hk),.inl rfl⟩
 | a::r,ho,hn=>by
  cases hv:listed.getD a false with
  | false =>
   have e:Vq (a::r) listed n=a:=by simp only[Vq,List.find?_cons,hv,Bool.not_false];rfl
   rw[e]
   refine⟨Nat.le_of_lt (hn a (by simp)),fun k hk hlt=>?_,.inr ⟨by simp,hv⟩⟩
   cases hk with
   | head=>omega
   | tail _ hk=>have:=zht ho k hk;omega
  | true =>
   have e:Vq (a::r) listed n=Vq r listed n:=by simp only[Vq,List.find?_cons,hv,Bool.not_true]
   rw[e]
   obtain⟨h1,h2,h3⟩:=zeP (listed:=listed) (zeY ho) (fun k hk=>hn k (by simp[hk]))
   refine⟨h1,fun k hk hlt=>?_,h3.imp id fun h=>⟨by simp[h.1],h.2⟩⟩
   cases hk with
   | head=>exact hv
   | tail _ hk=>exact h2 k hk hlt
def zrz (ops:Array Oper) (ks:List Nat) (i j:Nat):Bool:=(ks.all fun k => !(decide (k<j)) || !za0 ops ops.size k i) && !za0 ops ops.size i j
theorem zk5 (ks:List Nat) {id:Nat} {ops:Array Oper} {Q:Exit→List SV→St→Prop} {env:List SV} {st:St} (hm:P.follows .mixedOrders=true) (hf:Jn ops=true)
  (hks:JG ops ks=true) (hkn:ks.all (· < ops.size)=true)
  (h:∃ (F:Nat→List SV) (G:Nat→St) (X:Nat→SV),F 0=env∧G 0=st ∧
   (∀ i o,0≤i→ops[i]?=some o→F (i+1)=Zz (F i) o.dst (X i) ∧
    (if ks.contains i then zaL P ops (G i) (G (i+1)) o (F i) (X i) else G (i+1)=G i∧∀ j,(j=ops.size∨j∈ks)→zrz ops ks i j=true→XZ P ops (G j) o (F i) (X i))) ∧
   Q .normal (F (0+ops.toList.length)) (G (0+ops.toList.length))):AWp P (.region id ops true) Q env st:=by
 intro σ w a hI hR D hd
 obtain⟨F,G,X,f1,gg1,f2',f3⟩:=h
 simp only[Nat.zero_add,Array.length_toList] at f3
 have f2:∀ i o,0≤i→ops[i]?=some o→True∧F (i+1)=Zz (F i) o.dst (X i):=fun i o hi ho=>⟨trivial,(f2' i o hi ho).1⟩
 have hkn':∀ k∈ks,k<ops.size:=by
  intro k hk
  rw[List.all_eq_true] at hkn
  simpa using hkn k hk
 have gconst:∀ d a,a+d≤ops.size→(∀ k∈ks,¬ (a≤k∧k<a+d))→G (a+d)=G a:=by
  intro d
  induction d with
  | zero=>intro a _ _;rfl
  | succ d ih =>
   intro a ha hno
   have h1:=ih a (by omega) (fun k hk hc=>hno k hk (by omega))
   have hp:ops[a+d]?=some ops[a+d]:=by simp[show a+d<ops.size by omega]
   have h2:=(f2' (a+d) _ (Nat.zero_le _) hp).2
   rw[if_neg (by
    intro hc
    exact hno (a+d) (by simpa using hc) (by omega))] at h2
   rw[show a+(d+1)=a+d+1 by omega,h2.1,h1]
 have gsame:∀ a b,a≤b→b≤ops.size→(∀ k∈ks,¬ (a≤k∧k<b))→G b=G a:=by
  intro a b hab hb hno
  obtain⟨d,rfl⟩:=Nat.exists_eq_add_of_le hab
  exact gconst d a hb hno
 have hflow:∀ i j p q,ops[i]?=some p→ops[j]?=some q→i≠j→∀ t,q.dst=some t→(t∈looks ops p→if j<i then Xc p j=true else Xc q i=true)∧p.dst≠some t:=by
  intro i j p q hp hq hne t ht
  have h1:=qi hp
  have h2:=qi hq
  unfold Jn at hf
  rw[List.all_eq_true] at hf
  have h3:=hf i (by simpa using h1)
  simp only[Bool.and_eq_true,List.all_eq_true] at h3
  have h4:=h3.1 j (by simpa using h2)
  unfold zg5 at h4
  rw[hp,hq] at h4
  simp only[ht,Bool.or_eq_true,beq_iff_eq,Bool.and_eq_true,Bool.not_eq_true',bne_iff_ne,ne_eq] at h4
  rcases h4 with h4 | ⟨h4,h5⟩
  ·exact absurd h4 hne
  ·refine⟨fun hlk=>?_,h5⟩
   rcases h4 with h4 | h4
   ·simp[hlk] at h4
   ·split <;> rename_i hji <;> simpa[hji] using h4
 have hback:∀ i p,ops[i]?=some p→∀ e,e∈p.after.toList→Region.binds .any e=true→e.on<i:=by
  intro i p hp e he hb
  have h1:=qi hp
  unfold Jn at hf
  rw[List.all_eq_true] at hf
  have h3:=hf i (by simpa using h1)
  simp only[Bool.and_eq_true,hp,Option.map_some,Option.getD_some,List.all_eq_true] at h3
  have h4:=h3.2 e he
  simpa[hb] using h4
 have flen:∀ i,i≤ops.size→(F i).length=env.length:=by
  intro i
  induction i with
  | zero=>intro _;rw[f1]
  | succ i ih =>
   intro hi
   have hp:ops[i]?=some ops[i]:=by simp[show i<ops.size by omega]
   rw[(f2 i _ (Nat.zero_le _) hp).2,X3,ih (by omega)]
 have fget:∀ i,i≤ops.size→∀ t,t<env.length→(∀ j,j<i→qQ ops j t=true→(F i).getD t .any=X j)∧((∀ j,j<i→qQ ops j t=false)→(F i).getD t .any=env.getD t .any):=by
  intro i
  induction i with
  | zero=>intro _ t ht;exact⟨fun j hj=>absurd hj (Nat.not_lt_zero _),fun _=>by rw[f1]⟩
  | succ i ih =>
   intro hi t ht
   obtain⟨ih1,ih2⟩:=ih (by omega) t ht
   have hp:ops[i]?=some ops[i]:=by simp[show i<ops.size by omega]
   have he:=(f2 i _ (Nat.zero_le _) hp).2
   have hg:(F (i+1)).getD t .any=if ops[i].dst=some t then X i else (F i).getD t .any:=by rw[he];exact Vg (by rw[flen i (by omega)];exact ht)
   have hwi:qQ ops i t=true↔ops[i].dst=some t:=by simp[qQ,hp]
   refine⟨fun j hj hw=>?_,fun hno=>?_⟩
   ·rw[hg]
    by_cases c:ops[i].dst=some t
    ·rw[if_pos c]
     by_cases e:j=i
     ·rw[e]
     ·have hjl:j<ops.size:=by omega
      have hq:ops[j]?=some ops[j]:=by simp[hjl]
      have hjd:ops[j].dst=some t:=by simpa[qQ,hq] using hw
      exact absurd c (hflow i j _ _ hp hq (by omega) t hjd).2
    ·rw[if_neg c]
     have e:j≠i:=by rintro rfl;exact c (hwi.1 hw)
     exact ih1 j (by omega) hw
   ·rw[hg,if_neg (fun c=>by have:=hno i (by omega);rw[hwi.2 c] at this;cases this)]
    exact ih2 fun j hj=>hno j (by omega)
 let Inv':Array Bool→Act→World→Prop:=fun listed a' w'=>∃ σ',Inv (G (Vq ks listed ops.size)) σ' w'∧Ext st σ w (G (Vq ks listed ops.size)) σ' w'∧a'.defers=D∧listed.size=ops.size ∧
  RepEnv (G (Vq ks listed ops.size)) σ' w' (X2 ops listed env (F ops.size)) a'.tmps∧∀ i,listed.getD i false=true→∀ p,ops[i]?=some p→∀ e,e∈p.after.toList→Region.binds .any e=true→listed.getD e.on false=true
 have key:∀ (fuel:Nat) (listed:Array Bool) (a':Act) (w':World),((List.range ops.size).filter fun j => !listed.getD j false).length=fuel→Inv' listed a' w' →
   wpAny P .any ops (fun e a' w'=>Post D (Q e) st σ w a' w') fuel listed a' w':=by
  intro fuel
  induction fuel with
  | zero =>
   intro listed a' w' hc hI'
   obtain⟨σ',i1,i2,i3,i4,i5,i6⟩:=hI'
   have hall:∀ j,j<ops.size→listed.getD j false=true:=by
    intro j hj
    have h0:(List.range ops.size).filter (fun j => !listed.getD j false)=[]:=List.eq_nil_of_length_eq_zero hc
    rw[List.filter_eq_nil_iff] at h0
    simpa using h0 j (by simpa using hj)
   have hnx:Vq ks listed ops.size=ops.size:=zpg fun k hk=>hall k (hkn' k hk)
   rw[hnx] at i1 i2 i5
   refine⟨?_,i3,X2 ops listed env (F ops.size),G ops.size,σ',?_,i1,i5,i2⟩
   ·unfold Region.ready
    rw[List.filter_eq_nil_iff]
    intro j hj
    have hj':j<ops.size:=by simpa using hj
    have h1:=hall j hj'
    have:listed.getD j true=true:=by
     rw[Array.getD_eq_getD_getElem?] at h1 ⊢
     rw[Array.getElem?_eq_getElem (by omega)] at h1 ⊢
     exact h1
    simp[this]
   ·have e:X2 ops listed env (F ops.size)=F ops.size:=by
     apply List.ext_getElem?
     intro t
     by_cases ht:t<env.length
     ·have h1:=Qu (ops:=ops) (listed:=listed) (eN:=F ops.size) ht
      have hl1:t<(X2 ops listed env (F ops.size)).length:=by rw[qd];exact ht
      have hl2:t<(F ops.size).length:=by rw[flen _ (Nat.le_refl _)];exact ht
      rw[List.getElem?_eq_getElem hl1,List.getElem?_eq_getElem hl2]
      simp only[List.getD_eq_getElem?_getD,List.getElem?_eq_getElem hl1,List.getElem?_eq_getElem hl2,Option.getD_some] at h1
      rw[h1]
      split
      ·rfl
      ·rename_i hno
       have h2:=(fget ops.size (Nat.le_refl _) t ht).2 (fun j hj=>by
        cases hw:qQ ops j t with
        | false=>rfl
        | true =>
         exfalso
         apply hno
         unfold wr
         rw[List.any_eq_true]
         exact⟨j,by simpa using hj,by rw[hall j hj,hw];rfl⟩)
       simp only[List.getD_eq_getElem?_getD,List.getElem?_eq_getElem hl2,Option.getD_some] at h2
       rw[h2]
     ·rw[List.getElem?_eq_none (by rw[qd];omega),List.getElem?_eq_none (by rw[flen _ (Nat.le_refl _)];omega)]
    rw[e]
    exact f3
  | succ fuel ih =>
   intro listed a' w' hc hI'
   obtain⟨σ',i1,i2,i3,i4,i5,i6⟩:=hI'
   have hready:∀ i,i∈Region.ready .any ops listed↔i<ops.size∧listed.getD i true=false∧∀ p,ops[i]?=some p→∀ e,e∈p.after.toList→Region.binds .any e=true→listed.getD e.on false=true:=by
    intro i
    unfold Region.ready
    rw[List.mem_filter]
    constructor
    ·rintro⟨h1,h2⟩
     have h1':i<ops.size:=by simpa using h1
     simp only[Bool.and_eq_true,Bool.not_eq_true'] at h2
     refine⟨h1',h2.1,fun p hp e he hb=>?_⟩
     have h3:=h2.2
     rw[hp] at h3
     simp only[Option.map_some,Option.getD_some,Array.all_eq_true'] at h3
     have:=h3 e (by simpa using he)
     simpa[hb] using this
    ·rintro⟨h1,h2,h3⟩
     refine⟨by simpa using h1,?_⟩
     have hp:ops[i]?=some ops[i]:=by simp[h1]
     simp only[h2,hp,Option.map_some,Option.getD_some,Bool.not_false,Bool.true_and,Array.all_eq_true']
     intro e he
     cases hb:Region.binds .any e with
     | false=>rfl
     | true=>simpa using h3 _ hp e (by simpa using he) hb
   refine⟨fun hnil=>?_,fun i hi=>?_⟩
   ·-- the least one that is not listed is ready
    exfalso
    have hex:∃ j,j<ops.size∧listed.getD j false=false:=by
     have hne:(List.range ops.size).filter (fun j => !listed.getD j false)≠[]:=by intro h0;rw[h0] at hc;cases hc
     obtain⟨j,hj⟩:=List.exists_mem_of_ne_nil _ hne
     rw[List.mem_filter] at hj
     exact⟨j,by simpa using hj.1,by simpa using hj.2⟩
    obtain⟨j,hj1,hj2⟩:=hex
    have least:∀ n,∀ j,j≤n→j<ops.size→listed.getD j false=false→∃ i,i<ops.size∧listed.getD i false=false∧∀ k,k<i→listed.getD k false=true:=by
     intro n
     induction n with
     | zero =>
      intro j hj h1 h2
      exact⟨j,h1,h2,fun k hk=>by omega⟩
     | succ n ihn =>
      intro j hj h1 h2
      by_cases c:∃ k,k<j∧listed.getD k false=false
      ·obtain⟨k,hk1,hk2⟩:=c
       exact ihn k (by omega) (by omega) hk2
      ·refine⟨j,h1,h2,fun k hk=>?_⟩
       cases hv:listed.getD k false with
       | true=>rfl
       | false=>exact absurd ⟨k,hk,hv⟩ c
    obtain⟨i,hi1,hi2,hi3⟩:=least j j (Nat.le_refl _) hj1 hj2
    have:i∈Region.ready .any ops listed:=(hready i).2 ⟨hi1,by
     rw[Array.getD_eq_getD_getElem?] at hi2 ⊢
     rw[Array.getElem?_eq_getElem (by omega)] at hi2 ⊢
     exact hi2,fun p hp e he hb=>hi3 _ (hback i p hp e he hb)⟩
    rw[hnil] at this
    cases this
   ·obtain⟨hi1,hi2,hi3⟩:=(hready i).1 hi
    have hp:ops[i]?=some ops[i]:=by simp[hi1]
    have hnl:listed.getD i false=false:=by
     rw[Array.getD_eq_getD_getElem?] at hi2 ⊢
     rw[Array.getElem?_eq_getElem (by omega)] at hi2 ⊢
     exact hi2
    obtain⟨hnext,hfact⟩:=f2' i _ (Nat.zero_le _) hp
    have hagree:∀ t∈looks ops ops[i],(X2 ops listed env (F ops.size)).getD t .any=(F i).getD t .any:=by
     intro t ht
     by_cases hlt:t<env.length
     ·rw[Qu hlt]
      obtain⟨g1,g2⟩:=fget i (by omega) t hlt
      obtain⟨gN1,gN2⟩:=fget ops.size (Nat.le_refl _) t hlt
      by_cases c:∃ j,j<i∧qQ ops j t=true
      ·obtain⟨j,hj,hw⟩:=c
       have hjl:j<ops.size:=by omega
       have hq:ops[j]?=some ops[j]:=by simp[hjl]
       have hjd:ops[j].dst=some t:=by simpa[qQ,hq] using hw
       have hedge:=(hflow i j _ _ hp hq (by omega) t hjd).1 ht
       rw[if_pos hj] at hedge
       have hlj:listed.getD j false=true:=by
        unfold Xc at hedge
        rw[List.any_eq_true] at hedge
        obtain⟨e,he1,he2⟩:=hedge
        simp only[Bool.and_eq_true,beq_iff_eq] at he2
        have:=hi3 _ hp e he1 he2.1
        rwa[he2.2] at this
       rw[if_pos (by unfold wr;rw[List.any_eq_true];exact⟨j,by simpa using hjl,by rw[hlj,hw];rfl⟩),g1 j hj hw,gN1 j hjl hw]
      ·rw[g2 fun j hj=>by
        cases hw:qQ ops j t with
        | false=>rfl
        | true=>exact absurd ⟨j,hj,hw⟩ c]
       rw[if_neg]
       intro hwr
       unfold wr at hwr
       rw[List.any_eq_true] at hwr
       obtain⟨j,hj1,hj2⟩:=hwr
       simp only[Bool.and_eq_true] at hj2
       have hjl:j<ops.size:=by simpa using hj1
       have hq:ops[j]?=some ops[j]:=by simp[hjl]
       have hjd:ops[j].dst=some t:=by simpa[qQ,hq] using hj2.2
       have hne:i≠j:=by rintro rfl;rw[hj2.1] at hnl;cases hnl
       have hnji:¬ j<i:=fun hji=>c ⟨j,hji,hj2.2⟩
       have hedge:=(hflow i j _ _ hp hq hne t hjd).1 ht
       rw[if_neg hnji] at hedge
       unfold Xc at hedge
       rw[List.any_eq_true] at hedge
       obtain⟨e,he1,he2⟩:=hedge
       simp only[Bool.and_eq_true,beq_iff_eq] at he2
       have:=i6 j hj2.1 _ hq e he1 he2.1
       rw[he2.2,hnl] at this
       cases this
     ·rw[List.getD_eq_getElem?_getD,List.getD_eq_getElem?_getD,List.getElem?_eq_none (by rw[qd];omega),List.getElem?_eq_none (by rw[flen i (by omega)];omega)]
    have hns:=zeP (listed:=listed) hks hkn'
    have hdone:∀ (v:Value) (σ2:Sig) (w2:World) (s2:St),s2=G (Vq ks (listed.setIfInBounds i true) ops.size)→Inv s2 σ2 w2→Ext (G (Vq ks listed ops.size)) σ' w' s2 σ2 w2→Rep s2 σ2 w2 (X i) v →
      Inv' (listed.setIfInBounds i true) (a'.put ops[i].dst v) w2:=by
     intro v σ2 w2 s2 es2 hI2 hX2 hr2
     subst es2
     have gl:∀ k,(listed.setIfInBounds i true).getD k false=if k=i then true else listed.getD k false:=by
      intro k
      rw[Array.getD_eq_getD_getElem?,Array.getD_eq_getD_getElem?]
      by_cases e:i=k
      ·subst e;simp[show i<listed.size by omega]
      ·rw[Array.getElem?_setIfInBounds_ne e,if_neg (fun h=>e h.symm)]
     have hRE:=i5.ext hX2
     refine⟨σ2,hI2,i2.trans hX2,by rw[QE];exact i3,by simpa using i4,⟨?_,fun t ht=>?_⟩,fun k hk p hp' e he hb=>?_⟩
     ·rw[qd]
      have:=hRE.1
      rw[qd] at this
      cases ops[i].dst with
      | none=>exact this
      | some d=>simpa[Act.put] using this
     ·rw[qd] at ht
      have hput:=YN hRE ops[i].dst hr2
      have h1:=hput.2 t (by rw[X3,qd];exact ht)
      rw[Vg (by rw[qd];exact ht)] at h1
      have e:(X2 ops (listed.setIfInBounds i true) env (F ops.size)).getD t .any=if ops[i].dst=some t then X i else (X2 ops listed env (F ops.size)).getD t .any:=by
       rw[Qu ht,Qu ht]
       obtain⟨gN1,gN2⟩:=fget ops.size (Nat.le_refl _) t ht
       by_cases c:ops[i].dst=some t
       ·rw[if_pos c,if_pos]
        ·exact gN1 i hi1 (by simp[qQ,hp,c])
        ·unfold wr
         rw[List.any_eq_true]
         exact⟨i,by simpa using hi1,by rw[gl,if_pos rfl];simp[qQ,hp,c]⟩
       ·rw[if_neg c]
        have e2:wr ops (listed.setIfInBounds i true) t=wr ops listed t:=by
         unfold wr
         apply Bool.eq_iff_iff.2
         rw[List.any_eq_true,List.any_eq_true]
         constructor
         ·rintro⟨j,hj1,hj2⟩
          simp only[Bool.and_eq_true] at hj2
          refine⟨j,hj1,?_⟩
          rw[gl] at hj2
          by_cases ej:j=i
          ·subst ej;exact absurd (by simpa[qQ,hp] using hj2.2) c
          ·rw[if_neg ej] at hj2;simp[hj2.1,hj2.2]
         ·rintro⟨j,hj1,hj2⟩
          simp only[Bool.and_eq_true] at hj2
          refine⟨j,hj1,?_⟩
          rw[gl]
          split <;> simp[hj2.1,hj2.2]
        rw[e2]
      rw[e]
      exact h1
     ·rw[gl] at hk ⊢
      split
      ·rfl
      ·by_cases ek:k=i
       ·subst ek
        rw[hp] at hp';cases hp'
        exact hi3 _ hp e he hb
       ·rw[if_neg ek] at hk
        exact i6 k hk p hp' e he hb
    have hcount:((List.range ops.size).filter fun j => !(listed.setIfInBounds i true).getD j false).length=fuel:=by
     have h1:((List.range ops.size).filter fun j => !listed.getD j false)=(List.range ops.size).filter fun j => !listed.getD j false:=rfl
     have hperm:∀ l:List Nat,l.Nodup→i∈l→(l.filter fun j => !listed.getD j false).length=(l.filter fun j => !(listed.setIfInBounds i true).getD j false).length+1:=by
      intro l
      have gl:∀ k,(listed.setIfInBounds i true).getD k false=if k=i then true else listed.getD k false:=by
       intro k
       rw[Array.getD_eq_getD_getElem?,Array.getD_eq_getD_getElem?]
       by_cases e:i=k
       ·subst e;simp[show i<listed.size by omega]
       ·rw[Array.getElem?_setIfInBounds_ne e,if_neg (fun h=>e h.symm)]
      induction l with
      | nil=>intro _ h;cases h
      | cons x r ihr =>
       intro hnd hmem
       rw[List.nodup_cons] at hnd
       by_cases e:x=i
       ·subst e
        have hrest:(r.filter fun j => !listed.getD j false)=r.filter fun j => !(listed.setIfInBounds x true).getD j false:=by
         apply List.filter_congr
         intro j hj
         rw[gl,if_neg (by rintro rfl;exact hnd.1 hj)]
        rw[List.filter_cons,List.filter_cons,if_pos (by rw[hnl];rfl),if_neg (by rw[gl,if_pos rfl];decide),hrest]
        simp
       ·have hm:i∈r:=by
         cases hmem with
         | head=>exact absurd rfl e
         | tail _ h=>exact h
        have:=ihr hnd.2 hm
        simp only[List.filter_cons,gl x,if_neg e]
        split <;> simp only[List.length_cons,this]
     have:=hperm _ List.nodup_range (by simpa using hi1)
     omega
    have gl:∀ k,(listed.setIfInBounds i true).getD k false=if k=i then true else listed.getD k false:=by
     intro k
     rw[Array.getD_eq_getD_getElem?,Array.getD_eq_getD_getElem?]
     by_cases e:i=k
     ·subst e;simp[show i<listed.size by omega]
     ·rw[Array.getElem?_setIfInBounds_ne e,if_neg (fun h=>e h.symm)]
    have hlook:=hagree
    unfold wpOp
    rw[hp]
    simp only
    by_cases hk:ks.contains i=true
    ·-- one that turns the objects
     have hki:i∈ks:=by simpa using hk
     rw[if_pos hk] at hfact
     have hnx:Vq ks listed ops.size=i:=zmx ops.size i6 hi3 hnl hks hki
     have hnx2:G (Vq ks (listed.setIfInBounds i true) ops.size)=G (i+1):=by
      have hns2:=zeP (listed:=listed.setIfInBounds i true) hks hkn'
      have hge:i+1≤Vq ks (listed.setIfInBounds i true) ops.size:=by
       rcases hns2.2.2 with h | ⟨h1,h2⟩
       ·omega
       ·rw[gl] at h2
        by_cases e:Vq ks (listed.setIfInBounds i true) ops.size=i
        ·rw[if_pos e] at h2;cases h2
        ·rw[if_neg e] at h2
         rcases Nat.lt_or_ge (Vq ks (listed.setIfInBounds i true) ops.size) i with hlt | hge
         ·have:=hns.2.1 _ h1 (by omega)
          rw[h2] at this;cases this
         ·omega
      refine gsame _ _ hge hns2.1 fun k hkk hc=>?_
      have h1:=hns2.2.1 k hkk hc.2
      rw[gl,if_neg (by omega)] at h1
      have:∀ {l:List Nat},JG ops l=true→i∈l→k∈l→listed.getD i false=true:=by
       intro l
       induction l with
       | nil=>intro _ h;cases h
       | cons a r ihl =>
        intro ho hi' hk'
        by_cases ea:a=i
        ·subst ea
         have hkr:k∈r:=by
          cases hk' with
          | head=>omega
          | tail _ h=>exact h
         exact zey i6 ho k hkr h1
        ·have hir:i∈r:=by
          cases hi' with
          | head=>exact absurd rfl ea
          | tail _ h=>exact h
         by_cases ek:a=k
         ·subst ek
          have:=zht ho i hir
          omega
         ·have hkr:k∈r:=by
           cases hk' with
           | head=>exact absurd rfl ek
           | tail _ h=>exact h
          exact ihl (zeY ho) hir hkr
      have hcon:=this hks hki hkk
      rw[hnl] at hcon;cases hcon
     rw[hnx] at i1 i2 i5 hdone
     obtain⟨hgn,Q0,hq0,hwp⟩:=hfact σ' w' a' _ i1 i5 hlook (by rw[qd,flen i (by omega)])
     have hwt:Region.wanted ops[i] (yielded ops a'.tmps)=true:=by simp[Region.wanted,hgn]
     simp only[hwt,if_true]
     refine .inl (Qg ?_ (fun e a w h=>absurd h (hq0 e a w)) hwp)
     rintro a2 w2 ⟨v,σ2,rfl,hI2,hX2,hr2⟩
     exact ih _ _ _ hcount (hdone v σ2 w2 _ hnx2.symm hI2 hX2 hr2)
    ·rw[if_neg hk] at hfact
     have hki:i ∉ ks:=by simpa using hk
     have hnx:Vq ks (listed.setIfInBounds i true) ops.size=Vq ks listed ops.size:=by
      unfold Vq
      have:∀ l:List Nat,i ∉ l→(l.find? fun e => !(listed.setIfInBounds i true).getD e false)=l.find? fun e => !listed.getD e false:=by
       intro l
       induction l with
       | nil=>intro _;rfl
       | cons a r ihl =>
        intro hni
        have h1:a≠i:=fun e=>hni (by simp[e])
        rw[List.find?_cons,List.find?_cons,gl,if_neg h1,ihl (fun h=>hni (by simp[h]))]
      rw[this ks hki]
     have hst:zrz ops ks i (Vq ks listed ops.size)=true:=by
      unfold zrz
      simp only[Bool.and_eq_true,List.all_eq_true,Bool.or_eq_true,Bool.not_eq_true',decide_eq_false_iff_not]
      refine⟨fun k hk=>?_,?_⟩
      ·by_cases c:k<Vq ks listed ops.size
       ·right
        cases ha:za0 ops ops.size k i with
        | false=>rfl
        | true =>
         have:=Yz i6 _ k i (i6 k (hns.2.1 k hk c)) ha
         rw[hnl] at this;cases this
       ·exact .inl c
      ·cases ha:za0 ops ops.size i (Vq ks listed ops.size) with
       | false=>rfl
       | true =>
        have h1:=Yz i6 _ i _ hi3 ha
        rcases hns.2.2 with h2 | ⟨_,h2⟩
        ·rw[h2] at h1
         simp[Array.getD,i4] at h1
        ·rw[h2] at h1;cases h1
     have hst2:Vq ks listed ops.size=ops.size∨Vq ks listed ops.size∈ks:=hns.2.2.imp (fun h=>h) fun h=>h.1
     obtain⟨hrun,hskip⟩:=hfact.2 _ hst2 hst σ' w' a' _ i1 i5 hlook (by rw[qd,flen i (by omega)])
     cases hwt:Region.wanted ops[i] (yielded ops a'.tmps) with
     | true =>
      simp only[if_true]
      obtain⟨Q0,hq0,hwp⟩:=hrun hwt
      refine .inl (Qg ?_ (fun e a w h=>absurd h (hq0 e a w)) hwp)
      rintro a2 w2 ⟨v,σ2,rfl,hI2,hX2,hr2⟩
      exact ih _ _ _ hcount (hdone v σ2 w2 _ (by rw[hnx]) hI2 hX2 hr2)
     | false =>
      simp only[Bool.false_eq_true,if_false]
      exact ih _ _ _ hcount (hdone undef σ' w' _ (by rw[hnx]) i1 (Ext.refl _ _ _) (hskip hwt))
 have hd0:Ext st σ w st σ { w with drawn:=w.drawn+1 }:=Ext.drew _
 have hg0:G (Vq ks (Array.replicate ops.size false) ops.size)=st:=by
  cases hk:ks with
  | nil =>
   have e1:Vq [] (Array.replicate ops.size false) ops.size=ops.size:=by simp[Vq]
   rw[e1,←gg1]
   exact gsame 0 ops.size (Nat.zero_le _) (Nat.le_refl _) fun k hk'=>by rw[hk] at hk';cases hk'
  | cons e0 r =>
   have e1:Vq (e0::r) (Array.replicate ops.size false) ops.size=e0:=by
    have:(Array.replicate ops.size false).getD e0 false=false:=by simp[Array.getD]
    simp only[Vq,List.find?_cons,this,Bool.not_false];rfl
   rw[e1,←gg1]
   refine gsame 0 e0 (Nat.zero_le _) (Nat.le_of_lt (hkn' e0 (by rw[hk];simp))) fun k hk' hc=>?_
   rw[hk] at hk' hks
   cases hk' with
   | head=>omega
   | tail _ h=>have:=zht hks k h;omega
 refine wp_region_any hm (key ops.size _ a _ ?_ ⟨σ,by rw[hg0];exact hI.drew _,by rw[hg0];exact hd0,hd,by simp,?_,fun i hi=>?_⟩)
 ·have:((List.range ops.size).filter fun j => !(Array.replicate ops.size false).getD j false)=List.range ops.size:=by
   apply List.filter_eq_self.2
   intro j hj
   simp[Array.getD]
  rw[this];simp
 ·have e:X2 ops (Array.replicate ops.size false) env (F ops.size)=env:=by
   apply List.ext_getElem?
   intro t
   by_cases ht:t<env.length
   ·have hw:wr ops (Array.replicate ops.size false) t=false:=by
     unfold wr
     rw[List.any_eq_false]
     intro j hj
     simp[Array.getD]
    simp[X2,hw,ht]
   ·rw[List.getElem?_eq_none (by rw[qd];omega),List.getElem?_eq_none (by omega)]
  rw[e,hg0]
  exact hR.ext hd0
 ·simp[Array.getD] at hi
end Go.AL
namespace Go.AL
variable {P:Program}
end Go.AL
namespace Go.AL
variable {P:Program}
def zvr (x y:SV):Prop:=y = .any∨x=y∨norm x=y
def Yk:List SV→List SV→Prop
 | [],[]=>True
 | x::r,y::r'=>zvr x y∧Yk r r'
 | _,_=>False
theorem zum {st:St} {σ:Sig} {w:World} {x y:SV} {v:Value} (h:zvr x y) (r:Rep st σ w x v):Rep st σ w y v:=by
 rcases h with rfl | rfl | rfl
 ·exact .any _
 ·exact r
 ·exact r.norm
theorem zeM:∀ (a b:List SV),Yk a b→a.length=b.length∧∀ i,i<b.length→zvr (a.getD i .any) (b.getD i .any)
 | [],[],_=>⟨rfl,fun i hi=>absurd hi (Nat.not_lt_zero _)⟩
 | x::r,y::r',h=>by
  obtain⟨h1,h2⟩:=zeM r r' h.2
  refine⟨by simp[h1],fun i hi=>?_⟩
  cases i with
  | zero=>exact h.1
  | succ i=>exact h2 i (by simpa using hi)
theorem znA {st:St} {σ:Sig} {w:World} {a b:List SV} {t:Array Value} (h:Yk a b) (r:RepEnv st σ w a t):RepEnv st σ w b t:=by
 obtain⟨h1,h2⟩:=zeM a b h
 exact⟨by rw[←h1];exact r.1,fun i hi=>zum (h2 i hi) (r.2 i (by omega))⟩
theorem zi:Yk [] []:=trivial
theorem zh (x:SV) {r r':List SV} (h:Yk r r'):Yk (x::r) (.any::r'):=⟨.inl rfl,h⟩
theorem zf (x:SV) {r r':List SV} (h:Yk r r'):Yk (x::r) (x::r'):=⟨.inr (.inl rfl),h⟩
theorem ze (x:SV) {r r':List SV} (h:Yk r r'):Yk (x::r) (norm x::r'):=⟨.inr (.inr rfl),h⟩
theorem VG {c:Code} {Q:Exit→List SV→St→Prop} {a b:List SV} {st:St} (hl:Yk a b) (h:AWp P c Q b st):AWp P c Q a st :=
 fun σ w t hI hR {_} hd=>h σ w t hI (znA hl hR) hd
def zhQ (P:Program) (rs:List ResultVar) (K:SV→St→Prop):Exit→List SV→St→Prop
 | .normal=>fun env st=>(Yp P env st rs).isSome=true∧K (Xx ((Yp P env st rs).getD [])) st
 | .ret=>fun env st=>(Yp P env st rs).isSome=true∧K (Xx ((Yp P env st rs).getD [])) st
 | _=>fun _ _=>False
def bOf:SV→Bool
 | .sc (.bool b)=>b
 | _=>false
def isB:SV→Prop
 | .sc (.bool b)=>True
 | _=>False
theorem zot {x:SV} (h:isB x):x = .sc (.bool (bOf x)):=by
 unfold isB at h
 split at h
 ·rfl
 ·exact h.elim
def Qb (P:Program) (M:List Nat):Code→(Exit→List SV→St→Prop)→List SV→St→Prop
 | .skip,Q,env,st=>Q .normal env st
 | .region _ ops false,Q,env,st=>Xe P M (ops.toList.map (·.dst)) ops.toList env st (Q .normal)
 | .seq a b,Q,env,st=>Qb P M a (zct (Qb P M b Q) Q) env st
 | .cond c x y,Q,env,st=>isB (ev env c)∧(bOf (ev env c)=true→Qb P M x Q env st)∧(bOf (ev env c)=false→Qb P M y Q env st)
 | .block id c,Q,env,st=>Qb P M c (zav id Q) env st
 | .exit id,Q,env,st=>Q (.exit id) env st
 | .ret,Q,env,st=>Q .ret env st
 | .label _,Q,env,st=>Q .normal env st
 | c,Q,env,st=>AWp P c Q env st
theorem zek {M:List Nat}:∀ {c:Code} {Q:Exit→List SV→St→Prop} {env:List SV} {st:St},Qb P M c Q env st→AWp P c Q env st:=by
 intro c
 induction c with
 | skip=>exact fun h=>zo7 h
 | region id ops draw =>
  intro Q env st h
  cases draw with
  | false=>exact zdU M h
  | true=>exact h
 | seq a b iha ihb =>
  intro Q env st h
  refine zrJ ((iha h).mono fun e env st he=>?_)
  cases e <;> first | exact ihb he | exact he
 | cond c x y ihx ihy =>
  intro Q env st h
  obtain⟨h1,h2,h3⟩:=h
  exact zpn (zot h1) (fun e=>ihx (h2 e)) (fun e=>ihy (h3 e))
 | block id c ih=>exact fun h=>znz (ih h)
 | exit id=>exact fun h=>zou h
 | ret=>exact fun h=>zr1 h
 | label l=>exact fun h=>znt h
 | _=>exact fun h=>h
theorem Qe {M:List Nat} {f:FuncId} {fn:Func} {c:Code} {rs:Array ResultVar} {n:Nat} {args:List SV} {K:SV→St→Prop} {st:St} (hf:P.funcs[f]?=some fn) (hb:fn.body=some c)
  (hr:fn.results=rs) (hn:fn.ntmps=n) (h:Qb P M c (zhQ P rs.toList K) (args++List.replicate (n-args.length) .any) st):ACalls P f args K st:=by
 subst hr;subst hn
 refine znk hf hb ((zek h).mono fun e env st hq=>?_)
 cases e <;> simp only[zhQ] at hq <;> first | exact hq.elim | exact⟨trivial,_,qN (d:=[]) hq.1,hq.2⟩
def zfK (st:St) (K:SV→St→Prop):SV→St→Prop:=fun x s=>(∃ ex,s=st++ex)∧Ids st.length (norm x)∧K (norm x) st
theorem zj (M:List Nat) {f:FuncId} {fn:Func} {c:Code} {rs:Array ResultVar} {n:Nat} {args:List SV} {K:SV→St→Prop} {st:St} (hf:P.funcs[f]?=some fn) (hb:fn.body=some c)
  (hr:fn.results=rs) (hn:fn.ntmps=n) (h:Qb P M c (zhQ P rs.toList (zfK st K)) (args++List.replicate (n-args.length) .any) st) :
  ACalls P f args K st :=
 zdz ((Qe hf hb hr hn h).mono fun x s ⟨⟨ex,e⟩,h1,h2⟩=>⟨ex,e,h1,h2⟩)
theorem zM {c:Code} {Q:Exit→List SV→St→Prop} (M:List Nat) (I:Nat→List SV→St→Prop) {env env0:List SV} {st:St} {n:Nat} (hl:Yk env env0) (h0:I n env0 st)
  (round:∀ n env st,I n env st→Qb P M c (zct (fun e s=>∃ m e',m<n∧Yk e e'∧I m e' s) Q) env st):AWp P (.loop c) Q env st:=by
 refine VG hl (zjA (fun m e s=>∃ e',Yk e e'∧I m e' s) ⟨env0,?_,h0⟩ ?_)
 ·have key:∀ l:List SV,Yk l l:=by
   intro l
   induction l with
   | nil=>trivial
   | cons x r ih=>exact⟨.inr (.inl rfl),ih⟩
  exact key env0
 ·rintro m e s ⟨e',hle,hi⟩
  refine VG hle ((zek (round m e' s hi)).mono fun x env st hq=>?_)
  cases x <;> first | exact hq | (obtain⟨m',e2,h1,h2,h3⟩:=hq;exact⟨m',h1,e2,h2,h3⟩)
theorem zdV {c:Code} {Q:Exit→List SV→St→Prop} {env:List SV} {st:St} (d z z':Nat) (he:env.getD d .any = .slice .full z' [])
  (h:AWp P c Q (env.set d (.slice (.own st.length 0) z [])) (st++[.tok 0])):AWp P c Q env st:=by
 intro σ w t hI hR D hd
 have hX:Ext st σ w (st++[.tok 0]) (σ.setMu st.length none) w:=Ext.newTok none
 have hI':=hI.newTok none (fun c hc=>by cases hc)
 have hr:=hR.get d
 rw[he] at hr
 have hr2:Rep (st++[.tok 0]) (σ.setMu st.length none) w (.slice (.own st.length 0) z []) (t.tmps.getD d undef):=by
  have h3:=(Q5 (z':=z) hr (.inl rfl)).ext hX
  generalize t.tmps.getD d undef=v at h3
  generalize hl:([]:List SV)=l at h3
  generalize hx:SV.slice .full z l=x at h3
  cases h3 with
  | nil m z hm=>cases hx;exact .nil _ _ ⟨0,by simp,Nat.le_refl _⟩
  | slice m z l a cap vals hcap hsp hzz hc hr hm =>
   cases hx
   subst hl
   exact .slice _ _ _ _ _ vals hcap hsp hzz hc hr ⟨0,by simp,Nat.le_refl _,fun _ =>.inl hm⟩
  | _=>cases hx
 have hR':RepEnv (st++[.tok 0]) (σ.setMu st.length none) w (env.set d (.slice (.own st.length 0) z [])) t.tmps:=by
  have h4:=hR.ext hX
  refine⟨by simpa using h4.1,fun i hi=>?_⟩
  simp only[List.length_set] at hi
  by_cases e:d=i
  ·subst e;simpa[List.getD_eq_getElem?_getD,hi] using hr2
  ·have:=h4.2 i hi
   simpa[List.getD_eq_getElem?_getD,List.getElem?_set_ne e] using this
 exact wp_mono (h _ _ t hI' hR' hd) fun e a w hp=>hp.ext hX
theorem zh9 {f:FuncId} {args args':List SV} {K:SV→St→Prop} {st:St} (h:args=args'):ACalls P f args K st=ACalls P f args' K st:=by rw[h]
theorem znM {c:Code} {Q:Exit→List SV→St→Prop} {env env':List SV} {st st':St} (h:env=env') (h':st=st'):AWp P c Q env st=AWp P c Q env' st':=by rw[h,h']
attribute [congr] zh9 znM
theorem zoE (a b:Bool):(bif a then true else b)=(a || b):=by cases a <;> rfl
theorem znE (a b:Bool):(bif a then b else false)=(a&&b):=by cases a <;> rfl
section eqs
variable {M:List Nat} {K:SV→St→Prop} {env env':List SV} {st st':St} {ds ds':List (Option Tmp)} {l l':List Oper} {N:List SV→St→Prop} {o:Oper} {kd kd':Kd} {g g':Bool}
theorem zfD (h1:ds=ds') (h2:l=l') (h3:env=env') (h4:st=st'):Xe P M ds l env st N=Xe P M ds' l' env' st' N:=by rw[h1,h2,h3,h4]
theorem zhH (h3:env=env') (h4:st=st') (h5:kd=kd'):zbf P M o env st N kd=zbf P M o env' st' N kd':=by rw[h3,h4,h5]
theorem zhY (h3:env=env') (h4:st=st') (h6:g=g') (h5:kd=kd'):zbj P M o env st g N kd=zbj P M o env' st' g' N kd':=by rw[h3,h4,h5,h6]
theorem zfN (h3:env=env') (h4:st=st'):qs P M o env st K=qs P M o env' st' K:=by rw[h3,h4]
theorem zfl {N:List SV→Prop} (h1:ds=ds') (h2:l=l') (h3:env=env') (h4:st=st'):XE P M ds l env st N=XE P M ds' l' env' st' N:=by rw[h1,h2,h3,h4]
theorem zh8 {N:SV→Prop} (h1:ds=ds') (h3:env=env') (h4:st=st'):Zx P M ds o env st N=Zx P M ds' o env' st' N:=by rw[h1,h3,h4]
theorem zhM {N:SV→Prop} (h3:env=env') (h4:st=st') (h5:kd=kd'):zbb P M o env st N kd=zbb P M o env' st' N kd':=by rw[h3,h4,h5]
theorem zhi {N:SV→Prop} (h3:env=env') (h4:st=st') (h6:g=g') (h5:kd=kd'):zbt P M o env st g N kd=zbt P M o env' st' g' N kd':=by rw[h3,h4,h5,h6]
theorem zdN {t:TypeId} {y y' x x':SV} {N:St→Prop} (h:st=st') (h1:y=y') (h2:x=x'):X8 P t st y x N=X8 P t st' y' x' N:=by rw[h,h1,h2]
theorem zfT {t tx:TypeId} {y y' x x':SV} (h:st=st') (h1:x=x') (h2:y=y'):Yr P t tx st x y K=Yr P t tx st' x' y' K:=by rw[h,h1,h2]
theorem zdQ {t tx:TypeId} {y y' x x':SV} (h:st=st') (h1:x=x') (h2:y=y'):Jg P t tx st x y K=Jg P t tx st' x' y' K:=by rw[h,h1,h2]
theorem zeS {t:TypeId} {y y' x x':SV} (h:st=st') (h1:x=x') (h2:y=y'):JD P t st x y K=JD P t st' x' y' K:=by rw[h,h1,h2]
theorem zeZ {t:TypeId} {y y' x x':SV} (h:st=st') (h1:x=x') (h2:y=y'):Vd P t st x y K=Vd P t st' x' y' K:=by rw[h,h1,h2]
theorem zdL {t:TypeId} {x x':SV} (h:st=st') (h1:x=x'):Ji P t st x K=Ji P t st' x' K:=by rw[h,h1]
attribute [congr] zdQ zeS zeZ zdL
theorem zel {a a':List SV} {x x':SV} (h:a=a') (h1:st=st') (h2:x=x'):Va P a st x K=Va P a' st' x' K:=by rw[h,h1,h2]
theorem zc7 {mk ob:Bool} {a a':List Operand} {t t':List TypeId} {c c':Callee} (h3:env=env') (h4:st=st') (h:a=a') (h1:t=t') (h2:c=c'):Vr P o mk ob env st K a t c=Vr P o mk ob env' st' K a' t' c':=by rw[h,h1,h2,h3,h4]
theorem zhy {mk ob:Bool} {a a':List Operand} {t t':List TypeId} {c:Builtin} (h3:env=env') (h4:st=st') (h:a=a') (h1:t=t'):zhI P o mk ob env st K c a t=zhI P o mk ob env' st' K c a' t':=by rw[h,h1,h3,h4]
theorem ziv {c:Code} {Q:Exit→List SV→St→Prop} (h3:env=env') (h4:st=st'):Qb P M c Q env st=Qb P M c Q env' st':=by rw[h3,h4]
attribute [congr] zfD zhH zhY zfN zfl zh8 zhM zhi zdN zfT zel zc7 zhy ziv
variable {t tx:TypeId} {k k':IntKind} {m n i:Int} {s s':ByteArray} {b b' c:Bool} {x y z:SV} {xs ys:List SV} {md md':Mode} {zz z1:Nat} {id off f j:Nat} {fn:Fn} {p:Prop} {v:Value}
@[go_sem] theorem zwM {op:BinOp}:ze0 P op t (.sc (.int k m)) (.sc (.int k' n))=(ZV op k k'∧JA op n):=rfl
@[go_sem] theorem zw6:ZV .add k k'=(k=k'):=rfl
@[go_sem] theorem zwJ:ZV .sub k k'=(k=k'):=rfl
@[go_sem] theorem zwz:ZV .mul k k'=(k=k'):=rfl
@[go_sem] theorem zwY:ZV .quo k k'=(k=k'):=rfl
@[go_sem] theorem zxq:ZV .rem k k'=(k=k'):=rfl
@[go_sem] theorem zxh:ZV .eql k k'=(k=k'):=rfl
@[go_sem] theorem zwW:ZV .neq k k'=(k=k'):=rfl
@[go_sem] theorem zwp:ZV .lss k k'=(k=k'):=rfl
@[go_sem] theorem zwc:ZV .leq k k'=(k=k'):=rfl
@[go_sem] theorem zww:ZV .gtr k k'=(k=k'):=rfl
@[go_sem] theorem zxy:ZV .geq k k'=(k=k'):=rfl
@[go_sem] theorem zw3:ZV .and k k'=(k=k'):=rfl
@[go_sem] theorem zy4:ZV .or k k'=(k=k'):=rfl
@[go_sem] theorem zxB:ZV .xor k k'=(k=k'):=rfl
@[go_sem] theorem zrH:ZV .andNot k k'=(k=k'):=rfl
@[go_sem] theorem zxC:ZV .shl k k'=True:=rfl
@[go_sem] theorem zwB:ZV .shr k k'=True:=rfl
@[go_sem] theorem zwi {op:BinOp}:ze0 P op t (.sc (.string s)) (.sc (.string s'))=zao op s s':=rfl
@[go_sem] theorem zx7:zfO .eql=True:=rfl
@[go_sem] theorem zzh:zfO .neq=True:=rfl
@[go_sem] theorem zwf:VY .eql b=b:=rfl
@[go_sem] theorem zwx:VY .neq b = !b:=rfl
@[go_sem] theorem zuz {op:BinOp}:ze0 P op t (.sc (.bool b)) (.sc (.bool b'))=(zfO op∧P.underlying t=some .bool):=rfl
@[go_sem] theorem zwg {op:BinOp} {l r:List SV}:ze0 P op t (.agg l) (.agg r)=(zfO op∧zhj P t l r):=rfl
@[go_sem] theorem zyo {op:BinOp} {l r:List SV}:zfJ op (.agg l) (.agg r) = .sc (.bool (VY op (zdj l r))):=rfl
@[go_sem] theorem zyw {op:BinOp}:zfJ op (.sc (.int k m)) (.sc (.int k' n)) = .sc (Y9 op k m n):=rfl
@[go_sem] theorem zzy {op:BinOp}:zfJ op (.sc (.string s)) (.sc (.string s')) = .sc (zcj op s s'):=rfl
@[go_sem] theorem zxA {op:BinOp}:zfJ op (.sc (.bool b)) (.sc (.bool b')) = .sc (.bool (VY op (b==b'))):=rfl
@[go_sem] theorem zwQ {op:UnOp}:zoo op (.sc (.bool b))=(op = .not):=rfl
@[go_sem] theorem zyF {op:UnOp}:zoo op (.sc (.int k m))=(op = .neg):=rfl
@[go_sem] theorem zzg {op:UnOp}:unV op (.sc (.bool b)) = .sc (.bool (!b)):=rfl
@[go_sem] theorem zzM {op:UnOp}:unV op (.sc (.int k m)) = .sc (.int k (k.wrap (0-m))):=rfl
@[go_sem] theorem zv0:zcK P t st (.ref xs)=((qW P t xs).isSome=true):=rfl
@[go_sem] theorem zud:zcK P t st (.ptr id off)=(Zr st id∧(qW P t ((qG st id).drop off)).isSome=true):=rfl
@[go_sem] theorem zw0:zdF P t st (.ref xs)=(qW P t xs).getD .any:=rfl
@[go_sem] theorem zwa:zdF P t st (.ptr id off)=(qW P t ((qG st id).drop off)).getD .any:=rfl
@[go_sem] theorem zt8:zaX P t st f (.ref xs)=((qe P t f).isSome=true∧((qe P t f).getD (0,0)).2≠0):=rfl
@[go_sem] theorem zty:zaX P t st f (.ptr id off)=((qe P t f).isSome=true∧((qe P t f).getD (0,0)).2≠0):=rfl
@[go_sem] theorem zvH:zaz P t f (.ref xs) = .ref ((xs.drop ((qe P t f).getD (0,0)).1).take ((qe P t f).getD (0,0)).2):=rfl
@[go_sem] theorem zuW:zaz P t f (.ptr id off) = .ptr id (off+((qe P t f).getD (0,0)).1):=rfl
@[go_sem] theorem zt2:zeN P t st (.slice md zz xs) (.sc (.int k i))=((zU P t).bind (qa P)=some zz∧0≤i∧i<xs.length):=rfl
@[go_sem] theorem zui:zfG P t st (.slice md zz xs) (.sc (.int k i)) = .ref (xs.getD i.toNat .any).cells:=rfl
@[go_sem] theorem zt5:zdD P t st (.slice md zz xs)=((zU P t).isSome=true):=rfl
@[go_sem] theorem zwU:zdD P t st (.sc (.string s))=(P.underlying t=some .string):=rfl
@[go_sem] theorem zu1:zdR st (.slice md zz xs) = .sc (.int .i64 xs.length):=rfl
@[go_sem] theorem zxW:zdR st (.sc (.string s)) = .sc (.int .i64 s.size):=rfl
@[go_sem] theorem ztE:zlF j (.tuple xs)=(j<xs.length):=rfl
@[go_sem] theorem zvE:zsU j (.tuple xs)=xs.getD j .any:=rfl
@[go_sem] theorem ztF {ρ:Operand→SV} {lo hi mx:Option Operand}:zaE P t st ρ lo hi mx (.slice md zz xs)=(((zU P t).bind (qa P)=some zz∨(xs=[]∧(md = .full∨md = .imm)∧((zU P t).bind (qa P)).isSome=true))∧(qA ρ lo 0).isSome=true∧(qA ρ hi xs.length).isSome=true ∧
  0≤Zh ρ lo 0∧Zh ρ lo 0≤Zh ρ hi xs.length∧Zh ρ hi xs.length≤xs.length∧(mx.isSome=true→hi.isSome=true∧qA ρ mx 0=qA ρ hi xs.length)):=rfl
@[go_sem] theorem zvQ {ρ:Operand→SV} {lo hi mx:Option Operand}:zcn P t ρ lo hi mx (.slice md zz xs) = .slice (if mx.isSome then .full else .imm) zz ((xs.take (Zh ρ hi xs.length).toNat).drop (Zh ρ lo 0).toNat):=rfl
@[go_sem] theorem zxx {ρ:Operand→SV} {lo hi mx:Option Operand}:zaE P t st ρ lo hi mx (.sc (.string s))=(mx=none∧P.underlying t=some .string∧(qA ρ lo 0).isSome=true∧(qA ρ hi s.size).isSome=true ∧
  0≤Zh ρ lo 0∧Zh ρ lo 0≤Zh ρ hi s.size∧Zh ρ hi s.size≤s.size):=rfl
@[go_sem] theorem zzw {ρ:Operand→SV} {lo hi mx:Option Operand}:zcn P t ρ lo hi mx (.sc (.string s)) = .sc (.string (s.extract (Zh ρ lo 0).toNat (Zh ρ hi s.size).toNat)):=rfl
@[go_sem] theorem zvT {ρ:Operand→SV} {d:Nat}:qA ρ none d=some (d:Int):=rfl
def zlW:SV→Option Int | .sc (.int _ n)=>some n | _=>none
@[go_sem] theorem zvG {ρ:Operand→SV} {d:Nat} {q:Operand}:qA ρ (some q) d=zlW (ρ q):=by
 simp only[qA]
 generalize ρ q=x
 cases x with
 | sc v=>cases v <;> rfl
 | _=>rfl
@[go_sem] theorem zyi:zlW (.sc (.int k n))=some n:=rfl
@[go_sem] theorem zyJ {ρ:Operand→SV} {q:Option Operand} {d:Nat}:Zh ρ q d=(qA ρ q d).getD 0:=rfl
@[go_sem] theorem zyT:Jw (.sc (.bool b))=True:=rfl
@[go_sem] theorem zze:Jw (.gd g (.sc (.bool b)))=True:=rfl
attribute [go_sem] zqy zo0
@[go_sem] theorem zAY:zcz c (.sc (.bool b))=(b==c):=rfl
@[go_sem] theorem zAM:zcz c (.gd g (.sc (.bool b)))=(g&&(b==c)):=rfl
@[go_sem] theorem zAE:gIf p (.gd g x)=(p→g=true):=rfl
@[go_sem] theorem zAs:gIf p (.sc v)=True:=rfl
@[go_sem] theorem zw2:gIf p (.slice md zz xs)=True:=rfl
@[go_sem] theorem zzC:gIf p (.ref xs)=True:=rfl
@[go_sem] theorem zzP:gIf p (.ptr id off)=True:=rfl
@[go_sem] theorem zAd:gIf p (.agg xs)=True:=rfl
@[go_sem] theorem zy3:gIf p (.func fn xs ys)=True:=rfl
@[go_sem] theorem zwj:gIf p (.tuple xs)=True:=rfl
@[go_sem] theorem zxT:Zu (.gd g x)=x:=rfl
@[go_sem] theorem zyC:Zu (.sc v) = .sc v:=rfl
@[go_sem] theorem ztY:Zu (.slice md zz xs) = .slice md zz xs:=rfl
@[go_sem] theorem zxk:Zu (.ref xs) = .ref xs:=rfl
@[go_sem] theorem zwq:Zu (.ptr id off) = .ptr id off:=rfl
@[go_sem] theorem zxo:Zu (.agg xs) = .agg xs:=rfl
@[go_sem] theorem zvU:Zu (.func fn xs ys) = .func fn xs ys:=rfl
@[go_sem] theorem ztQ:Zu (.tuple xs) = .tuple xs:=rfl
@[go_sem] theorem zy9:YE (.sc (.bool b)) x y=(gIf (b=true) x∧gIf (b=false) y):=rfl
@[go_sem] theorem zAk:V1 (.sc (.bool b)) x y=zbB b (Zu x) (Zu y):=rfl
@[go_sem] theorem zAp:zbB c (.sc (.bool b)) (.sc (.bool b')) = .sc (.bool (bif c then b else b')):=rfl
@[go_sem] theorem zA0:isB (.sc (.bool b))=True:=rfl
@[go_sem] theorem zA2:bOf (.sc (.bool b))=b:=rfl
@[go_sem] theorem zxj:(SV.agg xs).cells=xs:=rfl
@[go_sem] theorem zx0:(SV.sc v).cells=[.sc v]:=rfl
@[go_sem] theorem ztv:(SV.slice md zz xs).cells=[.slice md zz xs]:=rfl
@[go_sem] theorem zw4:(SV.ref xs).cells=[.ref xs]:=rfl
@[go_sem] theorem zwN:(SV.ptr id off).cells=[.ptr id off]:=rfl
@[go_sem] theorem zuC:(SV.func fn xs ys).cells=[.func fn xs ys]:=rfl
@[go_sem] theorem zxF:qJ (.agg xs)=true:=rfl
@[go_sem] theorem ztw:qJ (.slice md zz xs)=true:=rfl
@[go_sem] theorem zwR:qJ (.ref xs)=true:=rfl
@[go_sem] theorem zxd:qJ (.ptr id off)=true:=rfl
@[go_sem] theorem zuv:qJ (.func fn xs ys)=true:=rfl
@[go_sem] theorem zyH:qJ (.sc v)=v.oneCell':=rfl
@[go_sem] theorem zxn:Qp (.sc v)=v.oneCell':=rfl
@[go_sem] theorem zss:Qp (.slice md zz xs)=true:=rfl
@[go_sem] theorem zuc:Qp (.ref xs)=true:=rfl
@[go_sem] theorem zvg:Qp (.ptr id off)=true:=rfl
@[go_sem] theorem ztK:Qp (.func fn xs ys)=true:=rfl
@[go_sem] theorem zzY:(Value.int k n).oneCell'=true:=rfl
@[go_sem] theorem zyS:(Value.bool b).oneCell'=true:=rfl
@[go_sem] theorem zAc:(Value.string s).oneCell'=true:=rfl
@[go_sem] theorem zAl {a:Option Addr}:(Value.pointer a).oneCell'=true:=rfl
@[go_sem] theorem zuG:ZJ x=x.cells.all Qp:=rfl
@[go_sem] theorem ztU:norm1 (.slice md zz xs) = .slice .imm zz xs:=rfl
@[go_sem] theorem zyI:norm1 (.sc v) = .sc v:=rfl
@[go_sem] theorem zw9:norm1 (.ref xs) = .ref xs:=rfl
@[go_sem] theorem zwn:norm1 (.ptr id off) = .ptr id off:=rfl
@[go_sem] theorem zvC:norm1 (.func fn xs ys) = .func fn xs ys:=rfl
@[go_sem] theorem zxD:norm1 (.agg xs) = .agg xs:=rfl
@[go_sem] theorem zxO:norm (.agg xs) = .agg (xs.map norm1):=rfl
@[go_sem] theorem zbd:norm (.tuple xs) = .tuple (xs.map norm1):=rfl
@[go_sem] theorem zvj:norm (.slice md zz xs) = .slice .imm zz xs:=rfl
@[go_sem] theorem zzJ:norm (.sc v) = .sc v:=rfl
@[go_sem] theorem zzf:norm (.ref xs) = .ref xs:=rfl
@[go_sem] theorem zyP:norm (.ptr id off) = .ptr id off:=rfl
@[go_sem] theorem zxG:norm (.func fn xs ys) = .func fn xs ys:=rfl
variable {len cap id' off' len' cap' z0:Nat}
@[go_sem] theorem zxH:zeN P t st (.slc id zz off len cap) (.sc (.int k i))=((zU P t).bind (qa P)=some zz∧0≤i∧i<len):=rfl
@[go_sem] theorem zyh:zfG P t st (.slc id zz off len cap) (.sc (.int k i)) = .ptr id (off+i.toNat*zz):=rfl
@[go_sem] theorem zwA:zdD P t st (.slc id zz off len cap)=((zU P t).isSome=true):=rfl
@[go_sem] theorem zyb:zdR st (.slc id zz off len cap) = .sc (.int .i64 len):=rfl
@[go_sem] theorem zxc {ρ:Operand→SV} {lo hi mx:Option Operand}:zaE P t st ρ lo hi mx (.slc id zz off len cap)=(mx=none∧(zU P t).bind (qa P)=some zz∧(qA ρ lo 0).isSome=true∧(qA ρ hi len).isSome=true ∧
  0≤Zh ρ lo 0∧Zh ρ lo 0≤Zh ρ hi len∧Zh ρ hi len≤cap):=rfl
@[go_sem] theorem zx3 {ρ:Operand→SV} {lo hi mx:Option Operand}:zcn P t ρ lo hi mx (.slc id zz off len cap) = .slc id zz (if cap=(Zh ρ lo 0).toNat then off else off+(Zh ρ lo 0).toNat*zz) ((Zh ρ hi len).toNat-(Zh ρ lo 0).toNat) (cap-(Zh ρ lo 0).toNat):=rfl
@[go_sem] theorem zz6:gIf p (.slc id zz off len cap)=True:=rfl
@[go_sem] theorem zwP:Zu (.slc id zz off len cap) = .slc id zz off len cap:=rfl
@[go_sem] theorem zxr:(SV.slc id zz off len cap).cells=[.slc id zz off len cap]:=rfl
@[go_sem] theorem zws:qJ (.slc id zz off len cap)=true:=rfl
@[go_sem] theorem zuy:Qp (.slc id zz off len cap)=true:=rfl
@[go_sem] theorem zyp:norm (.slc id zz off len cap) = .slc id zz off len cap:=rfl
@[go_sem] theorem zwG:norm1 (.slc id zz off len cap) = .slc id zz off len cap:=rfl
@[go_sem] theorem zuZ:JD P t st (.slc id zz off len cap) (.slice md z1 ys) K=(zz=z1∧Zr st id∧(zU P t).bind (qa P)=some zz∧off+(min ys.length len)*zz≤(qG st id).length∧(∀ s∈ys,ZJ s=true) ∧
   K (.sc (.int .i64 (min ys.length len:Nat))) (st.set id (.cells (ZE (qG st id) off ((ys.take (min ys.length len)).flatMap SV.cells))))):=rfl
@[go_sem] theorem zy7:JD P t st (.slc id zz off len cap) (.slc id' z1 off' len' cap') K=(zz=z1∧Zr st id∧Zr st id'∧(zU P t).bind (qa P)=some zz∧off+(min len' len)*zz≤(qG st id).length ∧
   off'+(min len' len)*zz≤(qG st id').length∧(((qG st id').drop off').take ((min len' len)*zz)).all Qp=true ∧
   K (.sc (.int .i64 (min len' len:Nat))) (st.set id (.cells (ZE (qG st id) off (((qG st id').drop off').take ((min len' len)*zz)))))):=rfl
@[go_sem] theorem zxa:Ji P t st (.slc id zz off len cap) K=(Zr st id∧(zU P t).isSome=true∧((zU P t).bind (Zb P)).isSome=true∧off+len*(XO P t).length≤(qG st id).length∧(XO P t).all Qp=true ∧
   K .any (if len=0 then st else st.set id (.cells (ZE (qG st id) off (Ye (XO P t) len))))):=rfl
@[go_sem] theorem zy8:Vd P t st (.sc (.int k n)) (.sc (.int k' m)) K=(((zU P t).bind (qa P)).isSome=true∧((zU P t).bind (Zb P)).map List.length=(zU P t).bind (qa P)∧((zU P t).bind (Qt P)).isSome=true ∧
   0≤n∧n≤m∧m≤4611686018427387904∧m.toNat*((zU P t).bind (Qt P)).getD 0≤281474976710656 ∧
   K (.slc st.length (((zU P t).bind (qa P)).getD 0) 0 n.toNat m.toNat) (st++[.cells (Ye (XO P t) m.toNat)])):=rfl
@[go_sem] theorem zA1:Jg P t tx st (.slice .full z0 []) (.slice md zz ys) K=(ys≠[]∧AppOk P t tx zz ys.length∧∀ cap,ys.length≤cap→K (.slc st.length zz 0 ys.length cap) (st++[.cells (ys.flatMap SV.cells++Ye (XO P t) (cap-ys.length))])):=rfl
@[go_sem] theorem zxL:Yr P t tx st (.slice .full z1 xs) (.slice md zz ys) K=((xs=[]∨z1=zz)∧AppOk P t tx zz (xs.length+ys.length)∧K (.slice (.own st.length 0) zz (xs++ys)) (st++[.tok 0])):=rfl
@[go_sem] theorem zz7 {ver:Nat}:Yr P t tx st (.slice (.own id ver) zz xs) (.slice md z1 ys) K=((ys=[]∨z1=zz)∧XI st id ver∧AppOk P t tx zz (xs.length+ys.length) ∧
   (∀ s∈ys,ZJ s=true)∧K (.slice (.own id (ver+1)) zz (xs++ys)) (st.set id (.tok (ver+1)))):=rfl
variable {ver n':Nat}
@[go_sem] theorem zt6:zcK P t st (.aptr id ver off)=(ZI st id ver∧(qW P t ((QW st id).drop off)).isSome=true):=rfl
@[go_sem] theorem zvF:zdF P t st (.aptr id ver off)=(qW P t ((QW st id).drop off)).getD .any:=rfl
@[go_sem] theorem zsb:zaX P t st f (.aptr id ver off)=(ZI st id ver∧(qe P t f).isSome=true∧((qe P t f).getD (0,0)).2≠0):=rfl
@[go_sem] theorem ztM:zaz P t f (.aptr id ver off) = .aptr id ver (off+((qe P t f).getD (0,0)).1):=rfl
@[go_sem] theorem zxu:zeN P t st (.arr id ver n') (.sc (.int k i))=(ZI st id ver∧(zU P t).bind (qa P)=some (Qd st id)∧0≤i∧i<n'):=rfl
@[go_sem] theorem zx4:zfG P t st (.arr id ver n') (.sc (.int k i)) = .aptr id ver (i.toNat*Qd st id):=rfl
@[go_sem] theorem zxm:zdD P t st (.arr id ver n')=(ZI st id ver∧(zU P t).isSome=true):=rfl
@[go_sem] theorem zye:zdR st (.arr id ver n') = .sc (.int .i64 n'):=rfl
@[go_sem] theorem zwv {ρ:Operand→SV} {lo hi mx:Option Operand}:zaE P t st ρ lo hi mx (.arr id ver n')=(mx=none∧ZI st id ver∧((zU P t).bind (qa P)).isSome=true∧qA ρ lo 0=some 0 ∧
  (qA ρ hi n').isSome=true∧0≤Zh ρ hi n'∧Zh ρ hi n'≤n'):=rfl
@[go_sem] theorem zyr {ρ:Operand→SV} {lo hi mx:Option Operand}:zcn P t ρ lo hi mx (.arr id ver n') = .arr id ver (Zh ρ hi n').toNat:=rfl
@[go_sem] theorem zw7 {ρ:Operand→SV} {hi mx:Option Operand}:zaE P t st ρ none hi mx (.ptr id off)=(mx=none∧hi=none∧(Xw P t).isSome=true):=by simp[zaE]
@[go_sem] theorem zvN {ρ:Operand→SV} {hi mx:Option Operand} {y:Operand}:zaE P t st ρ (some y) hi mx (.ptr id off)=(mx=none∧hi=none∧(Xw P t).isSome=true∧(qA ρ (some y) 0).isSome=true∧0≤Zh ρ (some y) 0∧Zh ρ (some y) 0≤((Xw P t).getD (0,0)).1):=by simp[zaE]
@[go_sem] theorem zxi {ρ:Operand→SV} {hi mx:Option Operand} {y:Operand}:zcn P t ρ (some y) hi mx (.ptr id off) = .slc id ((Xw P t).getD (0,0)).2 (if ((Xw P t).getD (0,0)).1=(Zh ρ (some y) 0).toNat then off else off+(Zh ρ (some y) 0).toNat*((Xw P t).getD (0,0)).2) (((Xw P t).getD (0,0)).1-(Zh ρ (some y) 0).toNat) (((Xw P t).getD (0,0)).1-(Zh ρ (some y) 0).toNat):=rfl
@[go_sem] theorem zyt {ρ:Operand→SV} {hi mx:Option Operand}:zcn P t ρ none hi mx (.ptr id off) = .slc id ((Xw P t).getD (0,0)).2 off ((Xw P t).getD (0,0)).1 ((Xw P t).getD (0,0)).1:=rfl
@[go_sem] theorem zz1:gIf p (.arr id ver n')=True:=rfl
@[go_sem] theorem zxN:gIf p (.aptr id ver n')=True:=rfl
@[go_sem] theorem zxf:Zu (.arr id ver n') = .arr id ver n':=rfl
@[go_sem] theorem zvY:Zu (.aptr id ver n') = .aptr id ver n':=rfl
@[go_sem] theorem zwr:(SV.arr id ver n').cells=[.arr id ver n']:=rfl
@[go_sem] theorem zup:(SV.aptr id ver n').cells=[.aptr id ver n']:=rfl
@[go_sem] theorem zwD:qJ (.arr id ver n')=true:=rfl
@[go_sem] theorem zuX:qJ (.aptr id ver n')=true:=rfl
@[go_sem] theorem zv7:Qp (.arr id ver n')=true:=rfl
@[go_sem] theorem ztz:Qp (.aptr id ver n')=true:=rfl
@[go_sem] theorem zyx:norm (.arr id ver n') = .arr id ver n':=rfl
@[go_sem] theorem zwC:norm (.aptr id ver n') = .aptr id ver n':=rfl
@[go_sem] theorem zxt:norm1 (.arr id ver n') = .arr id ver n':=rfl
@[go_sem] theorem zuf:norm1 (.aptr id ver n') = .aptr id ver n':=rfl
@[go_sem] theorem zzX:Yr P t tx st (.arr id ver n') (.slice md z1 ys) K=((ys=[]∨z1=Qd st id)∧ZI st id ver∧AppOk P t tx (Qd st id) (n'+ys.length) ∧
   (∀ s∈ys,ZJ s=true)∧K (.arr id (ver+1) (n'+ys.length)) (st.set id (.arr (ver+1) (Qd st id) ((QW st id).take (n'*Qd st id)++ys.flatMap SV.cells)))):=rfl
@[go_sem] theorem zvz {N:St→Prop}:X8 P t st y (.aptr id ver off) N=(ZI st id ver∧qa P t=some y.cells.length∧qJ y=true∧ZJ y=true∧off+y.cells.length≤(QW st id).length ∧
   N (st.set id (.arr ver (Qd st id) (ZE (QW st id) off y.cells)))):=rfl
@[go_sem] theorem ztW:zbn st (.aptr id ver off)=ZI st id ver:=rfl
@[go_sem] theorem zzb (x y:Operand) (ts:Array TypeId):qx (.call ⟨.builtin .max,#[x,y],ts⟩) = .pure:=rfl
@[go_sem] theorem zAD {ρ:Operand→SV} (x y:Operand) (ts:Array TypeId):qT P st ρ (.call ⟨.builtin .max,#[x,y],ts⟩)=zii (ρ x) (ρ y):=rfl
@[go_sem] theorem zzN {ρ:Operand→SV} (x y:Operand) (ts:Array TypeId):qy P st ρ (.call ⟨.builtin .max,#[x,y],ts⟩)=zsF (ρ x) (ρ y):=rfl
@[go_sem] theorem zw5 {k':IntKind}:zii (.sc (.int k m)) (.sc (.int k' n))=True:=rfl
@[go_sem] theorem zyM {k':IntKind}:zsF (.sc (.int k m)) (.sc (.int k' n)) = .sc (.int k (if n > m then n else m)):=rfl
@[go_sem] theorem zAo:X6 P t tx st (.slice .full z0 []) (.slice md zz ys) K=(AppOk P t tx zz ys.length∧(∀ s∈ys,ZJ s=true)∧K (.arr st.length 1 ys.length) (st++[.arr 1 zz (ys.flatMap SV.cells)])):=rfl
@[go_sem] theorem zv2 {id ver n':Nat}:X6 P t tx st (.slice .full z0 []) (.arr id ver n') K=(ZI st id ver∧(Vj (Qd st id) n' (QW st id)).length=n'∧(Vj (Qd st id) n' (QW st id)).flatMap SV.cells=(QW st id).take (n'*Qd st id)∧(∀ x∈Vj (Qd st id) n' (QW st id),x.cells.length=Qd st id∧ZJ x=true)∧AppOk P t tx (Qd st id) n'∧K (.arr st.length 1 n') (st++[.arr 1 (Qd st id) ((QW st id).take (n'*Qd st id))])):=rfl
@[go_sem] theorem zAO:X6 P t tx st (.arr id ver n') (.slice md z1 ys) K=Yr P t tx st (.arr id ver n') (.slice md z1 ys) K:=rfl
theorem zdT {x x' y y':SV} (h:st=st') (h1:x=x') (h2:y=y'):X6 P t tx st x y K=X6 P t tx st' x' y' K:=by rw[h,h1,h2]
attribute [congr] zdT
@[go_sem] theorem zwb {N:St→Prop}:X8 P t st y (.ptr id off) N=(Zr st id∧qa P t=some y.cells.length∧qJ y=true∧ZJ y=true∧off+y.cells.length≤(qG st id).length ∧
   N (st.set id (.cells (ZE (qG st id) off y.cells)))):=rfl
@[go_sem] theorem zzx (l:List SV):qG (st++[.cells l]) st.length=l:=by simp[qG]
@[go_sem] theorem zo:ev env (.tmp j)=env.getD j .any:=rfl
@[go_sem] theorem zz9:ev env (.func j) = .func (.func j) [] []:=rfl
@[go_sem] theorem zAx:ev env (.const (.int k n)) = .sc (.int k n):=rfl
@[go_sem] theorem zAz (vs:Array Value):ev env (.const (.agg vs)) = .agg (vs.toList.map za8):=rfl
@[go_sem] theorem zxI:za8 (.int k n) = .sc (.int k n):=rfl
@[go_sem] theorem zvn:za8 (.bool b) = .sc (.bool b):=rfl
@[go_sem] theorem zxw:za8 (.string s) = .sc (.string s):=rfl
@[go_sem] theorem zwy:za8 (.slice none 0 0) = .slice .full 0 []:=rfl
@[go_sem] theorem zxz:za8 (.pointer none) = .sc (.pointer none):=rfl
@[go_sem] theorem zzZ:ev env (.const (.bool b)) = .sc (.bool b):=rfl
@[go_sem] theorem zAv:ev env (.const (.string s)) = .sc (.string s):=rfl
@[go_sem] theorem ztV:ev env (.const (.slice none 0 0)) = .slice .full 0 []:=rfl
@[go_sem] theorem zwI:ev env (.const (.pointer none)) = .sc (.pointer none):=rfl
def zcc (P:Program) (T:TypeId) (st:St):SV→Option SV
 | .ptr id off=>match st[id]? with
  | some (.cells l)=>qW P T (l.drop off)
  | _=>none
 | .ref l=>qW P T l
 | _=>none
@[go_sem] theorem zzq {q:Nat}:zeg P env st (.cell q t)=zcc P t st (env.getD q .any):=by
 simp only[zeg,zcc]
 cases env.getD q .any <;> rfl
theorem zrO (ho:Zr st id):zcc P t st (.ptr id off)=qW P t ((qG st id).drop off):=by simp only[zcc,zaB ho]
attribute [go_sem] zrO
@[go_sem] theorem zAa:zcc P t st (.ref xs)=qW P t xs:=rfl
@[go_sem] theorem zAh:Xx [x]=x:=rfl
@[go_sem] theorem zxX:Xx (x::y::xs) = .tuple (x::y::xs):=rfl
@[go_sem] theorem zAj:zeg P env st (.tmp j)=some (env.getD j .any):=rfl
end eqs
section eqs2
variable {M:List Nat} {K:SV→St→Prop} {env:List SV} {st:St} {ds:List (Option Tmp)} {N:List SV→St→Prop} {d:Option Tmp} {op:Op} {ty:TypeId} {pos:String} {aft:Array Edge} {gu:Option (Nat×Bool)} {g want:Bool} {r:List Oper} {ρ:Operand→SV} {t:TypeId} {j f:Nat} {fn:Fn} {Q:Exit→List SV→St→Prop}
@[go_sem] theorem zwV (x:Operand):qx (.move x) = .pure:=rfl
@[go_sem] theorem zzG (x:Operand):qT P st ρ (.move x)=(True):=rfl
@[go_sem] theorem zyA (x:Operand):qy P st ρ (.move x)=ρ x:=rfl
@[go_sem] theorem zt0 (x:Operand):qx (.assign x) = .pure:=rfl
@[go_sem] theorem zwE (x:Operand):qT P st ρ (.assign x)=(True):=rfl
@[go_sem] theorem zvh (x:Operand):qy P st ρ (.assign x)=ρ x:=rfl
@[go_sem] theorem zte (x:Operand):qx (.extract x j) = .pure:=rfl
@[go_sem] theorem zv1 (x:Operand):qT P st ρ (.extract x j)=(zlF j (ρ x)):=rfl
@[go_sem] theorem zt9 (x:Operand):qy P st ρ (.extract x j)=zsU j (ρ x):=rfl
@[go_sem] theorem zuj {op:BinOp} {u:TypeId} (x y:Operand):qx (.binOp op t x y u) = .pure:=rfl
@[go_sem] theorem zzm {op:BinOp} {u:TypeId} (x y:Operand):qT P st ρ (.binOp op t x y u)=(if QX y then Qj P op t y (ρ x) else ze0 P op t (ρ x) (ρ y)):=rfl
@[go_sem] theorem zwH {op:BinOp} {u:TypeId} (x y:Operand):qy P st ρ (.binOp op t x y u)=(if QX y then zas op (ρ x) else zfJ op (ρ x) (ρ y)):=rfl
@[go_sem] theorem zwu {op:UnOp} (x:Operand):qx (.unOp op t x) = .pure:=rfl
@[go_sem] theorem zzE {op:UnOp} (x:Operand):qT P st ρ (.unOp op t x)=(zoo op (ρ x)):=rfl
@[go_sem] theorem zxS {op:UnOp} (x:Operand):qy P st ρ (.unOp op t x)=unV op (ρ x):=rfl
@[go_sem] theorem zq8 (fi ca:Array Operand):qx (.makeFunc fn fi ca) = .pure:=rfl
@[go_sem] theorem ztr (fi ca:Array Operand):qT P st ρ (.makeFunc fn fi ca)=(True):=rfl
@[go_sem] theorem zrk (fi ca:Array Operand):qy P st ρ (.makeFunc fn fi ca) = .func fn (fi.toList.map ρ) (ca.toList.map ρ):=rfl
@[go_sem] theorem zq2 (x:Operand):qx (.nilCheck x) = .pure:=rfl
@[go_sem] theorem ztN (x:Operand):qT P st ρ (.nilCheck x)=zbn st (ρ x):=rfl
@[go_sem] theorem zsR (x:Operand):qy P st ρ (.nilCheck x)=ρ x:=rfl
@[go_sem] theorem zuq {xs:List SV}:zbn st (.ref xs)=True:=rfl
@[go_sem] theorem zuA {id off:Nat}:zbn st (.ptr id off)=True:=rfl
@[go_sem] theorem zwO (x:Operand):qx (.load t x) = .pure:=rfl
@[go_sem] theorem zzV (x:Operand):qT P st ρ (.load t x)=(zcK P t st (ρ x)):=rfl
@[go_sem] theorem zzo (x:Operand):qy P st ρ (.load t x)=zdF P t st (ρ x):=rfl
@[go_sem] theorem zoV (x:Operand):qx (.fieldAddr t x f) = .pure:=rfl
@[go_sem] theorem zti (x:Operand):qT P st ρ (.fieldAddr t x f)=(zaX P t st f (ρ x)):=rfl
@[go_sem] theorem zrh (x:Operand):qy P st ρ (.fieldAddr t x f)=zaz P t f (ρ x):=rfl
@[go_sem] theorem zuQ (x:Operand):qx (.field t x f) = .pure:=rfl
@[go_sem] theorem zyz (x:Operand):qT P st ρ (.field t x f)=(ziG P t f (ρ x)):=rfl
@[go_sem] theorem zwh (x:Operand):qy P st ρ (.field t x f)=zoK P t f (ρ x):=rfl
@[go_sem] theorem zoh (x y:Operand):qx (.indexAddr t x y) = .pure:=rfl
@[go_sem] theorem zxp {id off:Nat} {k:IntKind} {i:Int}:zeN P t st (.ptr id off) (.sc (.int k i))=((Xw P t).isSome=true∧0≤i∧i<((Xw P t).getD (0,0)).1):=rfl
@[go_sem] theorem zyg {id off:Nat} {k:IntKind} {i:Int}:zfG P t st (.ptr id off) (.sc (.int k i)) = .ptr id (off+i.toNat*((Xw P t).getD (0,0)).2):=rfl
@[go_sem] theorem zvp (x y:Operand):qx (.index t x y) = .pure:=rfl
@[go_sem] theorem zxQ (x y:Operand):qT P st ρ (.index t x y)=(zqx P t (ρ x) (ρ y)):=rfl
@[go_sem] theorem zwK (x y:Operand):qy P st ρ (.index t x y)=ixV (ρ x) (ρ y):=rfl
@[go_sem] theorem zxP {l:List SV} {k:IntKind} {i:Int}:zqx P t (.agg l) (.sc (.int k i))=((zbE P t).isSome=true∧0≤i∧i<(zbE P t).getD 0∧(zbE P t).getD 0≤l.length):=rfl
@[go_sem] theorem zxV {s:ByteArray} {k:IntKind} {i:Int}:zqx P t (.sc (.string s)) (.sc (.int k i))=(P.underlying t=some .string∧0≤i∧i<s.size):=rfl
@[go_sem] theorem zzU {l:List SV} {k:IntKind} {i:Int}:ixV (.agg l) (.sc (.int k i))=l.getD i.toNat .any:=rfl
@[go_sem] theorem zz3 {s:ByteArray} {k:IntKind} {i:Int}:ixV (.sc (.string s)) (.sc (.int k i)) = .sc (.int .u8 ((s.get! i.toNat).toNat:Int)):=rfl
@[go_sem] theorem zro (x y:Operand):qT P st ρ (.indexAddr t x y)=(zeN P t st (ρ x) (ρ y)):=rfl
@[go_sem] theorem zq6 (x y:Operand):qy P st ρ (.indexAddr t x y)=zfG P t st (ρ x) (ρ y):=rfl
@[go_sem] theorem zvX (x:Operand) (lo hi mx:Option Operand):qx (.slice t x lo hi mx) = .pure:=rfl
@[go_sem] theorem zzA (x:Operand) (lo hi mx:Option Operand):qT P st ρ (.slice t x lo hi mx)=(zaE P t st ρ lo hi mx (ρ x)):=rfl
@[go_sem] theorem zwt (x:Operand) (lo hi mx:Option Operand):qy P st ρ (.slice t x lo hi mx)=zcn P t ρ lo hi mx (ρ x):=rfl
@[go_sem] theorem zwT (c x y:Operand):qx (.pick c x y) = .pick c x y:=rfl
@[go_sem] theorem zu5:qx (.alloc t) = .eff:=rfl
@[go_sem] theorem zyu (x:Operand):qx (.box t x) = .eff:=rfl
@[go_sem] theorem zur (p:Array (Nat×Operand)):qx (.build t p) = .eff:=rfl
@[go_sem] theorem zoa (n:Nat) (p:Array (Nat×Operand)):qx (.buildSlice t n p) = .eff:=rfl
@[go_sem] theorem zvd (x y:Operand):qx (.store t x y) = .eff:=rfl
@[go_sem] theorem zwL (c:Operand) (a:Array Operand) (ts:Array TypeId):qx (.call ⟨.value c,a,ts⟩) = .eff:=rfl
@[go_sem] theorem ztB (a:Array Operand) (ts:Array TypeId):qx (.call ⟨.builtin .append,a,ts⟩) = .eff:=rfl
@[go_sem] theorem zyq (a:Array Operand) (ts:Array TypeId):qx (.call ⟨.builtin .len,a,ts⟩) = .pure:=rfl
@[go_sem] theorem zAG (x:Operand) (t:TypeId):qT P st ρ (.call ⟨.builtin .len,#[x],#[t]⟩)=zdD P t st (ρ x):=rfl
@[go_sem] theorem zAr (x:Operand) (t:TypeId):qy P st ρ (.call ⟨.builtin .len,#[x],#[t]⟩)=zdR st (ρ x):=rfl
@[go_sem] theorem zAi:Xe P M ds [] env st N=N env st:=rfl
@[go_sem] theorem zyv:Xe P M ds (⟨d,op,ty,pos,aft,none⟩::r) env st N=zbf P M ⟨d,op,ty,pos,aft,none⟩ env st (fun e s=>Xe P M ds r e s N) (qx op):=rfl
@[go_sem] theorem zzs:Xe P M ds (⟨d,op,ty,pos,aft,some (j,want)⟩::r) env st N=(Jw (JP ds j env)∧zbj P M ⟨d,op,ty,pos,aft,some (j,want)⟩ env st (zcz want (JP ds j env)) (fun e s=>Xe P M ds r e s N) (qx op)):=rfl
@[go_sem] theorem zAe:zbf P M ⟨d,op,ty,pos,aft,gu⟩ env st N .pure=(qT P st (ev env) op∧N (Zz env d (qy P st (ev env) op)) st):=rfl
@[go_sem] theorem zAf (c x y:Operand):zbf P M ⟨d,op,ty,pos,aft,gu⟩ env st N (.pick c x y)=(YE (ev env c) (ev env x) (ev env y)∧N (Zz env d (V1 (ev env c) (ev env x) (ev env y))) st):=rfl
@[go_sem] theorem zAX:zbf P M ⟨d,op,ty,pos,aft,gu⟩ env st N .eff=qs P M ⟨d,op,ty,pos,aft,gu⟩ env st (fun x s=>N (Zz env d x) s):=rfl
@[go_sem] theorem zAb:zbj P M ⟨d,op,ty,pos,aft,gu⟩ env st g N .pure=(V7 (g=true) env op.operands.toList∧(g=true→qT P st (fun y=>Zu (ev env y)) op)∧N (Zz env d (.gd g (qy P st (fun y=>Zu (ev env y)) op))) st):=rfl
@[go_sem] theorem zAg (c x y:Operand):zbj P M ⟨d,op,ty,pos,aft,gu⟩ env st g N (.pick c x y)=(gIf (g=true) (ev env c)∧(g=true→YE (Zu (ev env c)) (ev env x) (ev env y))∧N (Zz env d (.gd g (V1 (Zu (ev env c)) (ev env x) (ev env y)))) st):=rfl
@[go_sem] theorem zAS:zbj P M ⟨d,op,ty,pos,aft,gu⟩ env st g N .eff=(V7 (g=true) env op.operands.toList∧(g=true→qs P M ⟨d,op,ty,pos,aft,gu⟩ (X9 (qU op.operands.toList) 0 env) st fun x s=>N (Zz env d x) s)∧(g=false→N (Zz env d .any) st)):=rfl
@[go_sem] theorem zAL {D:List SV→Prop}:XE P M ds [] env st D=D env:=rfl
@[go_sem] theorem zz2 {D:List SV→Prop}:XE P M ds (⟨d,op,ty,pos,aft,gu⟩::r) env st D=Zx P M ds ⟨d,op,ty,pos,aft,gu⟩ env st (fun x=>XE P M ds r (Zz env d x) st D):=rfl
@[go_sem] theorem zAn {D:SV→Prop}:Zx P M ds ⟨d,op,ty,pos,aft,none⟩ env st D=zbb P M ⟨d,op,ty,pos,aft,none⟩ env st D (qx op):=rfl
@[go_sem] theorem zzR {D:SV→Prop}:Zx P M ds ⟨d,op,ty,pos,aft,some (j,want)⟩ env st D=(Jw (JP ds j env)∧zbt P M ⟨d,op,ty,pos,aft,some (j,want)⟩ env st (zcz want (JP ds j env)) D (qx op)):=rfl
@[go_sem] theorem zz5 {D:SV→Prop}:zbb P M ⟨d,op,ty,pos,aft,gu⟩ env st D .pure=(qT P st (ev env) op∧D (qy P st (ev env) op)):=rfl
@[go_sem] theorem zzT {D:SV→Prop} (c x y:Operand):zbb P M ⟨d,op,ty,pos,aft,gu⟩ env st D (.pick c x y)=(YE (ev env c) (ev env x) (ev env y)∧D (V1 (ev env c) (ev env x) (ev env y))):=rfl
theorem zJ {D:SV→Prop}:zbb P M ⟨d,op,ty,pos,aft,gu⟩ env st D .eff=∃ X,qs P M ⟨d,op,ty,pos,aft,gu⟩ (ZD (qU op.operands.toList) 0 env) st (znf st X)∧D X:=rfl
@[go_sem] theorem zzL {D:SV→Prop}:zbt P M ⟨d,op,ty,pos,aft,gu⟩ env st g D .pure=(V7 (g=true) env op.operands.toList∧(g=true→qT P st (fun y=>Zu (ev env y)) op)∧D (.gd g (qy P st (fun y=>Zu (ev env y)) op))):=rfl
@[go_sem] theorem zzS {D:SV→Prop} (c x y:Operand):zbt P M ⟨d,op,ty,pos,aft,gu⟩ env st g D (.pick c x y)=(gIf (g=true) (ev env c)∧(g=true→YE (Zu (ev env c)) (ev env x) (ev env y))∧D (.gd g (V1 (Zu (ev env c)) (ev env x) (ev env y)))):=rfl
theorem zoD {D:SV→Prop}:zbt P M ⟨d,op,ty,pos,aft,gu⟩ env st g D .eff=(V7 (g=true) env op.operands.toList∧∃ X,(g=true→qs P M ⟨d,op,ty,pos,aft,gu⟩ (X9 (qU op.operands.toList) 0 (ZD (qU op.operands.toList) 0 env)) st (znf st X))∧D (.gd g X)):=rfl
@[go_sem] theorem zwk (x y:Operand):qs P M ⟨d,.store t x y,ty,pos,aft,gu⟩ env st K=(d=none∧X8 P t st (ev env y) (ev env x) (K .any ·)):=rfl
@[go_sem] theorem zz4 (x:Operand):qs P M ⟨d,.box t x,ty,pos,aft,gu⟩ env st K=(qJ (ev env x)=true∧if M.contains (d.getD 0) then K (.ptr st.length 0) (st++[.cells (ev env x).cells]) else K (.ref (ev env x).cells) st):=rfl
@[go_sem] theorem zwo:qs P M ⟨d,.alloc t,ty,pos,aft,gu⟩ env st K=((Zb P t).isSome=true∧K (.ptr st.length 0) (st++[.cells ((Zb P t).getD [])])):=rfl
@[go_sem] theorem zwF (ps:Array (Nat×Operand)):qs P M ⟨d,.build t ps,ty,pos,aft,gu⟩ env st K=(Qf P t=true∧(zbc P t (ps.toList.map fun p=>(p.1,ev env p.2))).isSome=true∧K (.agg ((zbc P t (ps.toList.map fun p=>(p.1,ev env p.2))).getD [])) st):=rfl
@[go_sem] theorem zpQ (n:Nat) (ps:Array (Nat×Operand)):qs P M ⟨d,.buildSlice t n ps,ty,pos,aft,gu⟩ env st K=(((zU P t).bind (qa P)).isSome=true∧((zU P t).bind (Zb P)).map List.length=(zU P t).bind (qa P)∧ps.toList.map (·.1)=List.range n ∧
   n*((zU P t).bind (qa P)).getD 0≤16777216∧(∀ p∈ps.toList,qJ (ev env p.2)=true∧(ev env p.2).cells.length=((zU P t).bind (qa P)).getD 0) ∧
   if M.contains (d.getD 0+1000000) then K (.arr st.length 1 n) (st++[.arr 1 (((zU P t).bind (qa P)).getD 0) ((ps.toList.map fun p=>norm (ev env p.2)).flatMap SV.cells)]) else
    K (.slice .full (((zU P t).bind (qa P)).getD 0) (ps.toList.map fun p=>norm (ev env p.2))) st):=rfl
@[go_sem] theorem zyf (c:Operand) (a:Array Operand) (ts:Array TypeId):qs P M ⟨d,.call ⟨.value c,a,ts⟩,ty,pos,aft,gu⟩ env st K=Va P (a.toList.map (ev env)) st (ev env c) K:=rfl
@[go_sem] theorem zvf (x y:Operand) (t tx:TypeId):qs P M ⟨d,.call ⟨.builtin .append,#[x,y],#[t,tx]⟩,ty,pos,aft,gu⟩ env st K=if M.contains (d.getD 0+1000000) then X6 P t tx st (ev env x) (ev env y) K else if M.contains (d.getD 0) then Jg P t tx st (ev env x) (ev env y) K else Yr P t tx st (ev env x) (ev env y) K:=rfl
@[go_sem] theorem zyZ (x y:Operand) (t tx:TypeId):qs P M ⟨d,.call ⟨.builtin .copy,#[x,y],#[t,tx]⟩,ty,pos,aft,gu⟩ env st K=JD P t st (ev env x) (ev env y) K:=rfl
@[go_sem] theorem zxe (x:Operand) (t:TypeId):qs P M ⟨d,.call ⟨.builtin .clear,#[x],#[t]⟩,ty,pos,aft,gu⟩ env st K=Ji P t st (ev env x) K:=rfl
@[go_sem] theorem zyc (x y:Operand):qs P M ⟨d,.makeSlice t x y,ty,pos,aft,gu⟩ env st K=Vd P t st (ev env x) (ev env y) K:=rfl
@[go_sem] theorem zxl (x y:Operand):qx (.makeSlice t x y) = .eff:=rfl
@[go_sem] theorem zwS (a:Array Operand) (ts:Array TypeId):qx (.call ⟨.builtin .copy,a,ts⟩) = .eff:=rfl
@[go_sem] theorem zvL (a:Array Operand) (ts:Array TypeId):qx (.call ⟨.builtin .clear,a,ts⟩) = .eff:=rfl
@[go_sem] theorem zAQ:Qb P M .skip Q env st=Q .normal env st:=rfl
@[go_sem] theorem zx2 (id:Nat) (ops:Array Oper):Qb P M (.region id ops false) Q env st=Xe P M (ops.toList.map (·.dst)) ops.toList env st (Q .normal):=rfl
@[go_sem] theorem zAu {ops:Array Oper} {ks el:List Nat} {R:St→Prop} {s0:St} {i:Nat}:zqm P M ops ks el R s0 i [] env st N=N env st:=rfl
@[go_sem] theorem zA3 (a b:Code):Qb P M (.seq a b) Q env st=Qb P M a (zct (Qb P M b Q) Q) env st:=rfl
@[go_sem] theorem zAy (c:Operand) (x y:Code):Qb P M (.cond c x y) Q env st=(isB (ev env c)∧(bOf (ev env c)=true→Qb P M x Q env st)∧(bOf (ev env c)=false→Qb P M y Q env st)):=rfl
@[go_sem] theorem zzD (id:Nat) (c:Code):Qb P M (.block id c) Q env st=Qb P M c (zav id Q) env st:=rfl
@[go_sem] theorem zAt (id:Nat):Qb P M (.exit id) Q env st=Q (.exit id) env st:=rfl
@[go_sem] theorem zBa:Qb P M .ret Q env st=Q .ret env st:=rfl
@[go_sem] theorem zzO (l:Nat):Qb P M (.label l) Q env st=Q .normal env st:=rfl
@[go_sem] theorem zAw {nx:List SV→St→Prop}:zct nx Q .normal=nx:=rfl
@[go_sem] theorem zAB {nx:List SV→St→Prop}:zct nx Q .ret=Q .ret:=rfl
@[go_sem] theorem zAA {nx:List SV→St→Prop} (id:Nat):zct nx Q (.exit id)=Q (.exit id):=rfl
@[go_sem] theorem zzI (id:Nat):zav id Q .normal=Q .normal:=rfl
@[go_sem] theorem zzW (id:Nat):zav id Q .ret=Q .ret:=rfl
@[go_sem] theorem zzK (id id':Nat):zav id Q (.exit id')=fun e s=>if id'=id then Q .normal e s else Q (.exit id') e s:=rfl
@[go_sem] theorem zA6 (rs:List ResultVar):zhQ P rs K .normal=fun env st=>(Yp P env st rs).isSome=true∧K (Xx ((Yp P env st rs).getD [])) st:=rfl
@[go_sem] theorem zA7 (rs:List ResultVar):zhQ P rs K .ret=fun env st=>(Yp P env st rs).isSome=true∧K (Xx ((Yp P env st rs).getD [])) st:=rfl
@[go_sem] theorem zd (n:Nat) (x:SV):Zz env (some n) x=env.set n x:=rfl
@[go_sem] theorem zb (x:SV):Zz env none x=env:=rfl
def zhZ:Option Bool→Option Nat→List SV→Option SV
 | some true,some n,l=>if n≤l.length then some (.agg (l.take n)) else none
 | some false,_,l=>if 0<l.length then some (l.getD 0 .any) else none
 | _,_,_=>none
@[go_sem] theorem zsl {t:TypeId} {x:SV} {l:List SV}:qW P t (x::l)=zhZ (YV P t) (qa P t) (x::l):=by
 unfold qW zhZ
 cases YV P t with
 | none=>rfl
 | some b=>cases b <;> cases qa P t <;> rfl
@[go_sem] theorem zu3 {q:Option Nat} {x:SV} {l:List SV}:zhZ (some false) q (x::l)=some x:=rfl
@[go_sem] theorem ztD {n:Nat} {l:List SV}:zhZ (some true) (some n) l=if n≤l.length then some (.agg (l.take n)) else none:=rfl
@[go_sem] theorem ztb {α:Type} (l:List α) (f:α→SV):(l.map f).take l.length=l.map f:=List.take_of_length_le (by simp)
end eqs2
attribute [go_sem] Yp Bool.and_true Bool.true_and Bool.and_self JA Y9 zao zcj JP V7 Op.operands Call.operands X9 ZD qU ZE zgf zbc zej zoE znE List.getD_cons_succ List.getD_cons_zero List.set_cons_succ List.set_cons_zero List.length_cons List.length_nil List.map_cons List.map_nil List.cons_append List.nil_append List.append_nil List.getElem?_cons_succ List.getElem?_cons_zero List.drop_zero List.drop_succ_cons List.take_succ_cons List.take_zero Option.getD_some Option.isSome_some Option.map_some Option.bind_some Option.isSome_none Option.isNone_none List.contains_nil List.contains_cons List.all_cons List.all_nil List.length_append List.length_map List.length_set List.length_replicate List.range_zero eq_self false_or true_or or_true or_false true_and and_true if_true if_false Bool.false_eq_true ne_eq not_false_eq_true Nat.zero_lt_succ List.replicate
theorem zuT (st ex:St):(∃ e,st++ex=st++e)=True:=eq_true ⟨ex,rfl⟩
theorem Yj (n:Nat) (v:Value):Ids n (.sc v)=True:=eq_true (.sc v)
theorem ZW (n:Nat) (l:List SV):Ids n (.agg l)=∀ x∈l,Ids n x:=by
 apply propext
 constructor
 ·intro h x hx
  cases h with
  | agg l h =>
   obtain⟨i,hi⟩:=List.getElem?_of_mem hx
   have:=h i (zn hi)
   rwa[List.getD_eq_getElem?_getD,hi] at this
 ·intro h
  refine .agg l fun i hi=>?_
  rw[List.getD_eq_getElem?_getD,List.getElem?_eq_getElem hi]
  exact h _ (List.getElem_mem hi)
theorem qf {n:Nat} {m:Mode} {z:Nat} {l:List SV} (hm:m = .imm∨m = .full) (h:∀ x∈l,∀ y∈x.cells,Ids n y):Ids n (.slice m z l):=by
 refine .slice m z l (fun id ver e=>by rcases hm with rfl | rfl <;> cases e) fun i j hi hj=>?_
 have hx:l.getD i .any∈l:=by
  rw[List.getD_eq_getElem?_getD,List.getElem?_eq_getElem hi];exact List.getElem_mem hi
 by_cases hc:j<(l.getD i .any).cells.length
 ·have hy:(l.getD i .any).cells.getD j .any∈(l.getD i .any).cells:=by
   rw[List.getD_eq_getElem?_getD (l:=(l.getD i .any).cells),List.getElem?_eq_getElem hc];exact List.getElem_mem hc
  exact h _ hx _ hy
 ·rw[List.getD_eq_getElem?_getD (l:=(l.getD i .any).cells),List.getElem?_eq_none (Nat.not_lt.1 hc)];exact .any
theorem zkR {α:Type} (p:α→Prop):(∀ x∈([]:List α),p x)=True:=eq_true (fun x hx=>by cases hx)
theorem ziV (s:St) (l:List Ob) (k:Nat):qG (s++l) (s.length+k)=qG l k:=by simp[qG,List.getElem?_append_right]
theorem zev (s:St) (l:List Ob) (k:Nat):Zr (s++l) (s.length+k)=Zr l k:=by simp[Zr,List.getElem?_append_right]
theorem zjO (s:St) (l:List Ob) (k v:Nat):XI (s++l) (s.length+k) v=XI l k v:=by simp[XI,List.getElem?_append_right]
theorem zj4 (s:St) (l:List Ob) (k:Nat) (x:Ob):(s++l).set (s.length+k) x=s++l.set k x:=by simp
theorem zpK (c:List SV) (l:List Ob):qG (.cells c::l) 0=c:=rfl
theorem zpJ (o:Ob) (l:List Ob) (k:Nat):qG (o::l) (k+1)=qG l k:=rfl
theorem zkl (c:List SV) (l:List Ob):Zr (.cells c::l) 0=True:=rfl
theorem zky (o:Ob) (l:List Ob) (k:Nat):Zr (o::l) (k+1)=Zr l k:=rfl
theorem zqh (v v':Nat) (l:List Ob):XI (.tok v::l) 0 v'=(v=v'):=by simp[XI]
theorem zpM (o:Ob) (l:List Ob) (k v:Nat):XI (o::l) (k+1) v=XI l k v:=rfl
theorem zkC (a:Bool):(a==false) = !a:=by cases a <;> rfl
theorem znP (a:Bool):(a==true)=a:=by cases a <;> rfl
theorem Jj {t tx e ex:TypeId} {z n by':Nat} {zs:List SV} (he:zU P t=some e) (hx:zU P tx=some ex) (hz:qa P e=some z) (hzs:Zb P e=some zs) (hl:zs.length=z)
  (hb:Qt P e=some by') (h1:by'≤100000) (h2:n≤1000000):AppOk P t tx z n :=
 ⟨by omega,e,ex,zs,by',he,hx,hz,hzs,hl,hb,by
  have:(2*n+192)*by'≤2000192*100000:=Nat.mul_le_mul (by omega) h1
  omega⟩
attribute [go_sem] ziV zev zjO zj4 zpK zpJ zkl zky zqh zpM List.append_assoc Nat.add_assoc Nat.zero_add
attribute [go_sem] zuT Yj ZW zkC znP List.forall_mem_cons zkR Nat.one_ne_zero
@[go_sem] theorem zqY {α:Type} (l:List α):((#[]:Array α)++l.toArray).toList=l:=by simp
@[go_sem] theorem zsZ (i:Nat):QX (.tmp i)=false:=rfl
@[go_sem] theorem ztm (k:IntKind) (i:Int):QX (.const (.int k i))=false:=rfl
@[go_sem] theorem zru (s:ByteArray):QX (.const (.string s))=false:=rfl
@[go_sem] theorem zrd (b:Bool):QX (.const (.bool b))=false:=rfl
@[go_sem] theorem zpX:QX (.const (.slice none 0 0))=true:=rfl
@[go_sem] theorem zqZ:QX (.const .nilFunc)=true:=rfl
@[go_sem] theorem zs8:QX (.const (.pointer none))=true:=rfl
section
variable {P:Program} {t:TypeId} {m:Mode} {z id off len cap:Nat} {l:List SV}
@[go_sem] theorem zor:zas .eql (.slice m z l) = .sc (.bool false):=rfl
@[go_sem] theorem zsY:zas .eql (.slc id z off len cap) = .sc (.bool false):=rfl
@[go_sem] theorem zsQ:zas .eql (.ref l) = .sc (.bool false):=rfl
@[go_sem] theorem zrP:zas .eql (.ptr id off) = .sc (.bool false):=rfl
@[go_sem] theorem zsk:zas .eql (.sc (.pointer none)) = .sc (.bool true):=rfl
@[go_sem] theorem zp8:zas .neq (.slice m z l) = .sc (.bool true):=rfl
@[go_sem] theorem zsv:zas .neq (.slc id z off len cap) = .sc (.bool true):=rfl
@[go_sem] theorem zrS:zas .neq (.ref l) = .sc (.bool true):=rfl
@[go_sem] theorem zs6:zas .neq (.ptr id off) = .sc (.bool true):=rfl
@[go_sem] theorem zsC:zas .neq (.sc (.pointer none)) = .sc (.bool false):=rfl
@[go_sem] theorem zoc:Qj P .eql t (.const (.slice none 0 0)) (.slice m z l)=(l≠[]∧(zU P t).isSome=true):=by simp[Qj]
@[go_sem] theorem zn7:Qj P .neq t (.const (.slice none 0 0)) (.slice m z l)=(l≠[]∧(zU P t).isSome=true):=by simp[Qj]
@[go_sem] theorem zre:Qj P .eql t (.const (.slice none 0 0)) (.slc id z off len cap)=((zU P t).isSome=true):=by simp[Qj]
@[go_sem] theorem zq9:Qj P .neq t (.const (.slice none 0 0)) (.slc id z off len cap)=((zU P t).isSome=true):=by simp[Qj]
@[go_sem] theorem zrc:Qj P .eql t (.const (.pointer none)) (.ref l)=(Jq P t=true):=by simp[Qj]
@[go_sem] theorem zrf:Qj P .neq t (.const (.pointer none)) (.ref l)=(Jq P t=true):=by simp[Qj]
@[go_sem] theorem zq1:Qj P .eql t (.const (.pointer none)) (.ptr id off)=(Jq P t=true):=by simp[Qj]
@[go_sem] theorem zqX:Qj P .neq t (.const (.pointer none)) (.ptr id off)=(Jq P t=true):=by simp[Qj]
@[go_sem] theorem zra {fn:Fn} {a b:List SV}:zas .neq (.func fn a b) = .sc (.bool true):=rfl
@[go_sem] theorem zq0:zas .neq (.sc .nilFunc) = .sc (.bool false):=rfl
@[go_sem] theorem zrb {fn:Fn} {a b:List SV}:zas .eql (.func fn a b) = .sc (.bool false):=rfl
@[go_sem] theorem zq3:zas .eql (.sc .nilFunc) = .sc (.bool true):=rfl
@[go_sem] theorem zpm {fn:Fn} {a b:List SV}:Qj P .neq t (.const .nilFunc) (.func fn a b)=(Jd P t=true):=by simp[Qj]
@[go_sem] theorem zqF:Qj P .neq t (.const .nilFunc) (.sc .nilFunc)=(Jd P t=true):=by simp[Qj]
@[go_sem] theorem zoZ {fn:Fn} {a b:List SV}:Qj P .eql t (.const .nilFunc) (.func fn a b)=(Jd P t=true):=by simp[Qj]
@[go_sem] theorem zpa:Qj P .eql t (.const .nilFunc) (.sc .nilFunc)=(Jd P t=true):=by simp[Qj]
@[go_sem] theorem zq7:Qj P .eql t (.const (.pointer none)) (.sc (.pointer none))=(Jq P t=true):=by simp[Qj]
@[go_sem] theorem zrg:Qj P .neq t (.const (.pointer none)) (.sc (.pointer none))=(Jq P t=true):=by simp[Qj]
end
section
variable {P:Program} {t u:TypeId} {st:St} {ρ:Operand→SV}
@[go_sem] theorem zwm (x:Operand):qx (.convert t u x) = .pure:=rfl
@[go_sem] theorem zzH (x:Operand):qT P st ρ (.convert t u x)=zfh P t st u (ρ x):=rfl
@[go_sem] theorem zxU (x:Operand):qy P st ρ (.convert t u x)=zdE P st u (ρ x):=rfl
@[go_sem] theorem zzv (v:Value):zfh P t st u (.sc v)=Yn P t u (.sc v):=rfl
@[go_sem] theorem ztT (m:Mode) (z:Nat) (l:List SV):zfh P t st u (.slice m z l)=Yn P t u (.slice m z l):=rfl
@[go_sem] theorem zxg (id z off len cap:Nat):zfh P t st u (.slc id z off len cap)=(Zr st id∧off+len≤(qG st id).length∧(zU P t).bind (V6 P)=some .u8∧VE P u=true∧(((qG st id).drop off).take len).all VD=true):=rfl
@[go_sem] theorem zyY (v:Value):zdE P st u (.sc v)=Y5 P u (.sc v):=rfl
@[go_sem] theorem ztu (m:Mode) (z:Nat) (l:List SV):zdE P st u (.slice m z l)=Y5 P u (.slice m z l):=rfl
@[go_sem] theorem zwe (id z off len cap:Nat):zdE P st u (.slc id z off len cap) = .sc (.string (Xo (((qG st id).drop off).take len))):=rfl
@[go_sem] theorem zee (k:IntKind) (n:Int) (h:(V6 P u).isSome=true):Yn P t u (.sc (.int k n))=((V6 P t).isSome=true∧(V6 P u).isSome=true):=by simp only[Yn,h,true_or]
theorem X5 {k':IntKind} (k:IntKind) (n:Int) (h:V6 P u=some k'):Y5 P u (.sc (.int k n)) = .sc (.int k' (k'.wrap n)):=by simp[Y5,h]
end
end Go.AL
namespace Go.AL
open Go
variable {P:Program}
def SVle (x y:SV):Prop:=∀ (st:St) (σ:Sig) (w:World) (v:Value),Rep st σ w x v→Rep st σ w y v
theorem SVle.refl (x:SV):SVle x x:=fun _ _ _ _ h=>h
theorem SVle.any (x:SV):SVle x .any:=fun _ _ _ v _ =>.any v
theorem znh {f:FuncId} {args:List SV} {K:SV→St→Prop} {st:St} (h:ACalls P f args (fun x s=>∃ y,SVle x y∧K y s) st):ACalls P f args K st:=by
 intro σ w vs hI hR
 refine (h σ w vs hI hR).mono ?_
 rintro e w' ⟨v,x,s,σ',he,⟨y,hle,hk⟩,hI',hr,hX⟩
 exact⟨v,y,s,σ',he,hk,hI',hle _ _ _ _ hr,hX⟩
theorem SVle.nil (m:Mode) (z z':Nat) (hm:m = .full∨m = .imm):SVle (.slice m z []) (.slice m z' []):=fun _ _ _ _ h=>Q5 h hm
inductive SVles:List SV→List SV→Prop where
 | nil:SVles [] []
 | cons {x y:SV} {l r:List SV}:SVle x y→SVles l r→SVles (x::l) (y::r)
theorem SVles.len {l r:List SV} (h:SVles l r):l.length=r.length:=by
 induction h with
 | nil=>rfl
 | cons _ _ ih=>simp[ih]
theorem SVles.at {l r:List SV} (h:SVles l r):∀ i,SVle (l.getD i .any) (r.getD i .any):=by
 induction h with
 | nil=>intro i;exact SVle.refl _
 | cons h1 _ ih =>
  intro i
  cases i with
  | zero=>simpa using h1
  | succ i=>simpa using ih i
theorem SVle.agg {l r:List SV} (h:SVles l r):SVle (.agg l) (.agg r):=by
 intro st σ w v hv
 generalize hx:SV.agg l=x at hv
 cases hv with
 | agg l' vs h1 h2 =>
  cases hx
  exact .agg r vs (h1.trans h.len) fun i hi=>h.at i _ _ _ _ (h2 i (by rw[h.len];exact hi))
 | _=>cases hx
end Go.AL
namespace Go.AL
variable {P:Program}
theorem zmb {env:List SV} {p:Prop} (hp:¬ p):∀ (l:List Operand),V7 p env l
 | []=>trivial
 | y::r=>⟨by cases hy:ev env y with
  | gd g x=>exact fun h=>absurd h hp
  | _=>trivial,zmb hp r⟩
theorem zkU (x y:SV):zbB true x y=x:=by unfold zbB;split <;> rfl
theorem ziH (x y:SV):zbB false x y=y:=by unfold zbB;split <;> rfl
theorem SVles.refl:∀ l:List SV,SVles l l
 | [] =>.nil
 | x::r =>.cons (SVle.refl x) (SVles.refl r)
theorem SVle.tuple {l r:List SV} (h:SVles l r):SVle (.tuple l) (.tuple r):=by
 intro st σ w v hv
 generalize hx:SV.tuple l=x at hv
 cases hv with
 | tuple l' vs h1 h2 =>
  cases hx
  exact .tuple r vs (h1.trans h.len) fun i hi=>h.at i _ _ _ _ (h2 i (by rw[h.len];exact hi))
 | _=>cases hx
end Go.AL
