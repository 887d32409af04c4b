/- whole, kind, begins, slices.Contains of texts. -/
import Derived.Test.YtkokccjfpebomaaGreatDoorN8
set_option maxHeartbeats 4000000
set_option linter.unusedSimpArgs false
set_option linter.unusedVariables false
set_option maxRecDepth 8000
namespace Go.Proofs
open Go Go.AL Tryz
theorem V0 {T:List Tk} (hT:T.length≤100000) {pid:Nat} {e:PM Nd} (he:HC T pid 79 e):HC T pid 163 (Q7 T e):=by
 intro p r p' h K st hp hk
 refine zM (zE [] func163 rfl results163 ntmps163 ?_)
 unfold Q7 at h
 simp only[Option.map_eq_some_iff,Prod.exists,Prod.mk.injEq] at h
 obtain⟨x,p1,h1,rfl,rfl⟩:=h
 have y:=zV hp
 unfold Z9 at y
 have y1:=zV (QN (p':=p1) hp)
 unfold Z9 at y1
 simp only[go_sem,y.1,y.2.1,y.2.2]
 refine Wk he rfl h1 (zm hp) ?_
 unfold Z9
 simp only[go_sem,zb hp,y.2.2,y1.1,y1.2.1,y1.2.2]
 exact Zw hk
theorem VH {T:List Tk} {pid:Nat} {p:PS} {t:Tk} (h:zR T p=some t) {K:SV→St→Prop} {st:St} (hp:Wz T pid p st) (hk:K (.sc (.bool (ZD t))) st):ACalls prog 153 [.ptr pid 0] K st:=by
 refine zn [] func153 rfl results153 ntmps153 ?_
 unfold ZD at hk
 cases k1:t.kind==1
 ·cases k2:t.kind==2
  ·cases k3:t.kind==3
   ·cases k4:t.kind==4
    ·rw[k1,k2,k3,k4] at hk
     cases b1:isT t [40]
     ·cases b2:isT t [114,101,116,114,121]
      ·cases b3:isT t [109,97,116,99,104]
       ·rw[b1,b2,b3] at hk
        simp only[go_sem]
        refine qv h hp ?_
        simp only[go_sem,k1,k2,k3,k4]
        refine ZB h (zI hp) ?_
        simp only[go_sem,b1]
        first | (unfold zl;simp only[ze,zc,zq,List.set_cons_succ,List.set_cons_zero,List.getD_cons_succ,List.getD_cons_zero]) | skip
        refine ZB h (zI hp) ?_
        simp only[go_sem,b1,b2]
        first | (unfold zl;simp only[ze,zc,zq,List.set_cons_succ,List.set_cons_zero,List.getD_cons_succ,List.getD_cons_zero]) | skip
        refine ZB h (zI hp) ?_
        simp only[go_sem,b1,b2,b3]
        first | (unfold zl;simp only[ze,zc,zq,List.set_cons_succ,List.set_cons_zero,List.getD_cons_succ,List.getD_cons_zero]) | skip
        refine ZB h (zI hp) ?_
        simp only[go_sem,b1,b2,b3]
        exact zQ (zC _ _) hk
       ·rw[b1,b2,b3] at hk
        simp only[go_sem]
        refine qv h hp ?_
        simp only[go_sem,k1,k2,k3,k4]
        refine ZB h (zI hp) ?_
        simp only[go_sem,b1]
        first | (unfold zl;simp only[ze,zc,zq,List.set_cons_succ,List.set_cons_zero,List.getD_cons_succ,List.getD_cons_zero]) | skip
        refine ZB h (zI hp) ?_
        simp only[go_sem,b1,b2]
        first | (unfold zl;simp only[ze,zc,zq,List.set_cons_succ,List.set_cons_zero,List.getD_cons_succ,List.getD_cons_zero]) | skip
        refine ZB h (zI hp) ?_
        simp only[go_sem,b1,b2,b3]
        exact zQ (zC _ _) hk
      ·rw[b1,b2] at hk
       simp only[go_sem]
       refine qv h hp ?_
       simp only[go_sem,k1,k2,k3,k4]
       refine ZB h (zI hp) ?_
       simp only[go_sem,b1]
       first | (unfold zl;simp only[ze,zc,zq,List.set_cons_succ,List.set_cons_zero,List.getD_cons_succ,List.getD_cons_zero]) | skip
       refine ZB h (zI hp) ?_
       simp only[go_sem,b1,b2]
       exact zQ (zC _ _) hk
     ·rw[b1] at hk
      simp only[go_sem]
      refine qv h hp ?_
      simp only[go_sem,k1,k2,k3,k4]
      refine ZB h (zI hp) ?_
      simp only[go_sem,b1]
      exact zQ (zC _ _) hk
    ·rw[k1,k2,k3,k4] at hk
     simp only[go_sem]
     refine qv h hp ?_
     simp only[go_sem,k1,k2,k3,k4]
     exact zQ (zC _ _) hk
   ·rw[k1,k2,k3] at hk
    simp only[go_sem]
    refine qv h hp ?_
    simp only[go_sem,k1,k2,k3]
    exact zQ (zC _ _) hk
  ·rw[k1,k2] at hk
   simp only[go_sem]
   refine qv h hp ?_
   simp only[go_sem,k1,k2]
   exact zQ (zC _ _) hk
 ·rw[k1] at hk
  simp only[go_sem]
  refine qv h hp ?_
  simp only[go_sem,k1]
  exact zQ (zC _ _) hk
theorem nL (n:Nat) (a b:Int):Ids n (XQ [.sc (.int .i64 a),.sc (.int .i64 b)])=True:=eq_true (.tuple _ (by
 intro i hi
 match i with
 | 0=>exact .sc _
 | 1=>exact .sc _
 | i+2=>simp at hi;omega))
theorem Zf {s:Tx} {l:Tx} (h:¬ s=l):(s==l)=false:=by simp[h]
theorem WW {s:Tx} {l:Tx} (h:s=l):(s==l)=true:=by simp[h]
theorem Fm {s:Tx} {K:SV→St→Prop} {st:St} (hk:K (.tuple [.sc (.int .i64 (Qm s).1),.sc (.int .i64 (Qm s).2)]) st):ACalls prog 151 [.sc (.string (ba s))] K st:=by
 refine zn [] func151 rfl results151 ntmps151 ?_
 unfold Qm at hk
 have hfin:∀ a b:Int,K (.tuple [.sc (.int .i64 a),.sc (.int .i64 b)]) st→GM st K (XQ [.sc (.int .i64 a),.sc (.int .i64 b)]) st:=fun a b h=>by
  have:=zQ (ex:=[]) (x:=XQ [.sc (.int .i64 a),.sc (.int .i64 b)]) (K:=K) (st:=st) (nL _ a b) h
  rwa[List.append_nil] at this
 by_cases e1:s=[112,114,105,110,116]
 ·rw[if_pos e1] at hk;simp only[go_sem,WW e1];exact hfin _ _ hk
 rw[if_neg e1] at hk
 by_cases e2:s=[114,97,105,115,101]
 ·rw[if_pos e2] at hk;simp only[go_sem,Zf e1,WW e2];exact hfin _ _ hk
 rw[if_neg e2] at hk
 by_cases e3:s=[115,112,97,119,110]
 ·rw[if_pos e3] at hk;simp only[go_sem,Zf e1,Zf e2,WW e3];exact hfin _ _ hk
 rw[if_neg e3] at hk
 by_cases e4:s=[97,116,111,109,105,99,97,108,108,121]
 ·rw[if_pos e4] at hk;simp only[go_sem,Zf e1,Zf e2,Zf e3,WW e4];exact hfin _ _ hk
 rw[if_neg e4] at hk
 by_cases e5:s=[116,118,97,114]
 ·rw[if_pos e5] at hk;simp only[go_sem,Zf e1,Zf e2,Zf e3,Zf e4,WW e5];exact hfin _ _ hk
 rw[if_neg e5] at hk
 by_cases e6:s=[114,101,97,100]
 ·rw[if_pos e6] at hk;simp only[go_sem,Zf e1,Zf e2,Zf e3,Zf e4,Zf e5,WW e6];exact hfin _ _ hk
 rw[if_neg e6] at hk
 by_cases e7:s=[119,114,105,116,101]
 ·rw[if_pos e7] at hk;simp only[go_sem,Zf e1,Zf e2,Zf e3,Zf e4,Zf e5,Zf e6,WW e7];exact hfin _ _ hk
 rw[if_neg e7] at hk
 by_cases e8:s=[111,114,101,108,115,101]
 ·rw[if_pos e8] at hk;simp only[go_sem,Zf e1,Zf e2,Zf e3,Zf e4,Zf e5,Zf e6,Zf e7,WW e8];exact hfin _ _ hk
 rw[if_neg e8] at hk
 simp only[go_sem,Zf e1,Zf e2,Zf e3,Zf e4,Zf e5,Zf e6,Zf e7,Zf e8];exact hfin _ _ hk
theorem zS {st:St} {K:SV→St→Prop} {x:SV} (hi:Ids st.length (norm x)=True) (hk:K (norm x) st):GM st K x st:=by
 have:=zQ (ex:=[]) hi hk
 rwa[List.append_nil] at this
theorem di {m:AL.Mode} {l:List Tx} (hl:l.length≤1000000) {x:Tx} {K:SV→St→Prop} {st:St} (hk:∀ i:Int,(0≤i↔x∈l)→K (.sc (.int .i64 i)) st):ACalls prog 154 [.slice m 1 (l.map qD),.sc (.string (ba x))] K st:=by
 refine zn [] func154 rfl results154 ntmps154 ?_
 simp only[go_sem]
 refine zN [] (fun k env s=>∃ j:Nat,k+j=l.length∧x ∉ l.take j∧env=[.slice m 1 (l.map qD),.sc (.string (ba x)),.any,.any,.any,.any,.any,.sc (.int .i64 l.length),.sc (.int .i64 j),.any,.any,.any,.any,.any,.any,.any,.any,.any,.any]∧s=st) (n:=l.length) ?_ ⟨0,by omega,by simp,rfl,rfl⟩ ?_
 ·repeat (first | exact zj | refine zk _ ?_ | refine zg _ ?_ | refine zf _ ?_)
 rintro k env s ⟨j,hj,hx,rfl,rfl⟩
 by_cases hlt:j<l.length
 ·have c1:decide ((j:Int)<(l.length:Int))=true:=by simp;omega
  have hg:(l.map qD).getD j .any=qD (l[j]):=by simp[List.getD_eq_getElem?_getD,hlt]
  have hw:IntKind.i64.wrap ((j:Int)+1)=((j+1:Nat):Int):=by rw[IntWalk.i64_in _ (by omega)];rfl
  cases hb:x==l[j] with
  | true =>
   simp only[go_sem,c1,hg,qD,hb]
   exact⟨by simp[hlt],zS (zC _ _) (hk j ⟨fun _=>(beq_iff_eq.1 hb)▸List.getElem_mem hlt,fun _=>by omega⟩)⟩
  | false =>
   simp only[go_sem,c1,hg,qD,hb,hw]
   refine⟨by simp[hlt],k-1,_,by omega,?_,j+1,by omega,?_,rfl⟩
   ·repeat (first | exact zj | refine zk _ ?_ | refine zg _ ?_ | refine zf _ ?_)
   ·rw[List.take_succ_eq_append_getElem hlt,List.mem_append]
    rintro (h | h)
    ·exact hx h
    ·simp at h;simp[h] at hb
 ·have c1:decide ((j:Int)<(l.length:Int))=false:=by simp;omega
  simp only[go_sem,c1]
  exact zS (zC _ _) (hk (-1) (by rw[List.take_of_length_le (by omega)] at hx;simp[hx]))
theorem Ge {m:AL.Mode} {l:List Tx} (hl:l.length≤1000000) {x:Tx} {K:SV→St→Prop} {st:St} (hk:K (.sc (.bool (decide (x∈l)))) st):ACalls prog 141 [.slice m 1 (l.map qD),.sc (.string (ba x))] K st:=by
 refine zn [] func141 rfl results141 ntmps141 ?_
 simp only[go_sem]
 refine di hl fun i hi=>?_
 have c1:decide ((0:Int)≤i)=decide (x∈l):=by simp[hi]
 simp only[go_sem,ge_iff_le,c1]
 exact zS (zC _ _) hk
end Go.Proofs
