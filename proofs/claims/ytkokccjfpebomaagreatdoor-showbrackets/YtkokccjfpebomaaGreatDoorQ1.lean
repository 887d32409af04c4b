/- app. -/
import Derived.Test.YtkokccjfpebomaaGreatDoorN7
set_option maxHeartbeats 4000000
set_option linter.unusedSimpArgs false
set_option linter.unusedVariables false
set_option maxRecDepth 8000
namespace Go.Proofs
open Go Go.AL Tryz
theorem rv (s:Tx):∃ n:Nat,(Qm s).2=n∧n≤2:=by
 unfold Qm
 repeat (first | split | exact⟨1,rfl,by omega⟩ | exact⟨2,rfl,by omega⟩ | exact⟨0,rfl,by omega⟩)
theorem oV {T:List Tk} (hT:T.length≤100000) {pid:Nat} {e pt:PM Nd} (he:HC T pid 79 e) (hpt:HC T pid 170 pt) {p p':PS} {t:Tk} {r:Nd} (h1:zR T p=some t) (hc:t.kind=6∧0<(Qm t.text).1)
  (h:((ZM T p).bind fun r=>XS T e pt (Qm t.text).2.toNat (zT (Qm t.text).1 t.pos [] []) r.2)=some (r,p')) {K:SV→St→Prop} {st:St} (hp:Wz T pid p st) (hk:K (zJ r) (st.set pid (.cells (Z9 T p')))):ACalls prog 140 [.ptr pid 0] K st:=by
 obtain⟨many,hm1,hm2⟩:=rv t.text
 rw[hm1] at h
 simp only[Option.bind_eq_some_iff,Prod.exists,Int.toNat_natCast] at h
 obtain⟨t1,p1,h2,h⟩:=h
 have c1:(t.kind==6)=true:=by simp[hc.1]
 have c2:decide (0<(Qm t.text).1)=true:=by simp[hc.2]
 refine zM (zE [] func140 rfl results140 ntmps140 ?_)
 simp only[go_sem]
 refine qv h1 (zI hp) ?_
 simp only[go_sem]
 refine Fm ?_
 simp only[go_sem,c1,c2,gt_iff_lt,hm1]
 first | (unfold zl;simp only[ze,zc,zq,List.set_cons_succ,List.set_cons_zero,List.getD_cons_succ,List.getD_cons_zero]) | skip
 refine QQ hT h2 (zI hp) ?_
 simp only[go_sem,zb hp]
 first | (unfold zl;simp only[ze,zc,zq,List.set_cons_succ,List.set_cons_zero,List.getD_cons_succ,List.getD_cons_zero]) | skip
 refine Xl rfl rfl rfl rfl (fun _=>rfl) (ql (.inr rfl) (fun x hx=>by cases hx)) ?_
 unfold Q1
 simp only[go_sem,zb hp]
 refine Z1 (st.length+2) 5 6 0 (Zg 2) (by simp) rfl ?_
 rw[QA]
 simp only[List.length_append,Xn,List.length_cons,List.length_nil,List.set_cons_succ,List.set_cons_zero,List.append_assoc,List.cons_append,List.nil_append,Nat.zero_add,Nat.reduceAdd]
 refine zN [] (fun m env s=>∃ (nd:Nd) (q:PS) (k j:Nat) (b:Ob) (ex:St),XS T e pt m nd q=some (r,p')∧j+m=many∧nd.kids.length≤j∧nd.names=[]∧env=[.ptr pid 0,.any,.ptr st.length 0,.any,.any,.any,.ptr (st.length+2) 0,.any,.any,.any,.any,.any,.any,.any,.any,.any,.any,.any,.any,.any,.any,.any,.any,.any,.any,.any,.any,.any,.any,.any,.sc (.int .i64 (Qm t.text).2),.sc (.int .i64 j),.any,.any,.any,.any,.any,.any,.any,.any,.any,.any,.any,.any,.any,.any,.any,.any,.any,.any,.any,.any,.any,.any,.any,.any,.any,.any,.any,.any,.any,.any,.any,.any,.any,.any,.any,.any,.any,.any] ∧
  s=st.set pid (.cells (Z9 T q))++(.cells qK::b :: .cells (qw (st.length+3) k nd) :: .tok k::ex)) (n:=many) ?_ ⟨_,_,0,0,_,[],h,by omega,by simp[zT,Nd.kids],rfl,rfl,rfl⟩ ?_
 ·repeat (first | exact zj | refine zk _ ?_ | refine zg _ ?_ | refine zf _ ?_)
 rintro m env s ⟨nd,q,k,j,b,ex,hl,hm,hkn,hnm,rfl,rfl⟩
 cases m with
 | zero =>
  have c3:decide ((j:Int)<(Qm t.text).2)=false:=by rw[hm1];simp;omega
  cases hl
  unfold qw qK
  simp only[go_sem,c3]
  exact Vj hk hnm
 | succ m =>
  have c3:decide ((j:Int)<(Qm t.text).2)=true:=by rw[hm1];simp;omega
  have hw:IntKind.i64.wrap ((j:Int)+1)=((j+1:Nat):Int):=by rw[IntWalk.i64_in _ (by omega)];rfl
  simp only[XS,Option.bind_eq_some_iff,Prod.exists] at hl
  obtain⟨x,q1,h4,hl⟩:=hl
  unfold qw
  simp only[go_sem,c3]
  refine zP [] [(0,[5]),(0,[5]),(0,[]),(3,[5]),(0,[]),(3,[7]),(0,[]),(1,[8])] mixed rfl ?_
  simp only[go_sem,zy,zu,zw,zt,zr,zG,zH,zx,zh,qK]
  refine⟨_,_,Hh hT he hpt _ _ _ h4 _ _ (zm hp) ⟨rfl,rfl⟩,?_⟩
  simp only[go_sem,zy,zu,zw,zt,zr,zG,zH,zx,zh,zb hp]
  rw[zL]
  refine⟨.slice .full 6 [zJ x],?_,?_⟩
  ·simp only[go_sem]
   exact⟨⟨[],by simp⟩,qb _ _ (.inr rfl) _ [_],.inl rfl⟩
  simp only[go_sem,zy,zu,zw,zt,zr,zG,zH,zx,zh]
  refine⟨_,_,⟨Tryz.app6 (by omega),rfl,rfl⟩,?_⟩
  simp only[go_sem,hw]
  refine⟨m,_,by omega,?_,nd.addKid x,q1,k+1,j+1,b,_,hl,by omega,by rw[qc];simp;omega,by rw[qs];exact hnm,rfl,by rw[qV,qU,Zq,Zp,qc,List.map_append];rfl⟩
  repeat (first | exact zj | refine zk _ ?_ | refine zg _ ?_ | refine zf _ ?_)
theorem Gi {t:Tk} (h:t.kind=4) (s:Tx):isT t s=false:=by
 unfold isT;simp[h]
theorem fK {T:List Tk} (hT:T.length≤100000) {pid:Nat} {e pt:PM Nd} (he:HC T pid 79 e) (hpt:HC T pid 170 pt) {p p':PS} {t0:Tk} {r:Nd} (h1:zR T p=some t0) (hc:t0.kind=4)
  (h:((Xz T e pt p).bind fun r=>JY T e pt (T.length+2) true r.1 r.2)=some (r,p')) {K:SV→St→Prop} {st:St} (hp:Wz T pid p st) (hk:K (zJ r) (st.set pid (.cells (Z9 T p')))):ACalls prog 140 [.ptr pid 0] K st:=by
 simp only[Option.bind_eq_some_iff,Prod.exists] at h
 obtain⟨n0,p1,h2,h⟩:=h
 have hl0:Xs T [(1,1),(2,2),(3,4),(4,5)] p=some (n0,p1):=by
  unfold Xz at h2
  rw[h1] at h2
  simp only[Option.bind_some,Gi hc,Bool.false_eq_true,if_false] at h2
  exact h2
 have hnm0:=Y7 hl0
 have c1:(t0.kind==6)=false:=by simp[hc]
 have c0:(t0.kind==4)=true:=by simp[hc]
 refine zM (zE [] func140 rfl results140 ntmps140 ?_)
 simp only[go_sem]
 refine qv h1 (zI hp) ?_
 simp only[go_sem]
 refine Fm ?_
 simp only[go_sem,c1]
 first | (unfold zl;simp only[ze,zc,zq,List.set_cons_succ,List.set_cons_zero,List.getD_cons_succ,List.getD_cons_zero]) | skip
 refine ul hT h1 (Gi hc _) (Gi hc _) (Gi hc _) (Gi hc _) hl0 (zI hp) ?_
 rw[Fy hnm0]
 simp only[go_sem,zb hp]
 refine Z1 (st.length+2) 5 6 0 (Zg 2) (by simp) rfl ?_
 rw[QA]
 simp only[List.length_append,Xn,List.length_cons,List.length_nil,List.set_cons_succ,List.set_cons_zero,List.append_assoc,List.cons_append,List.nil_append,Nat.zero_add,Nat.reduceAdd]
 refine zN [] (fun m env s=>∃ (nd:Nd) (q:PS) (k:Nat) (b:Ob) (ex:St),JY T e pt m true nd q=some (r,p')∧m+nd.kids.length≤T.length+2∧nd.names=[]∧env=[.ptr pid 0,.any,.ptr st.length 0,.any,.any,.any,.any,.ptr (st.length+2) 0,.sc (.bool (t0.kind==4)),.any,.any,.any,.any,.any,.any,.any,.any,.any,.any,.any,.any,.any,.any,.any,.any,.any,.any,.any,.any,.any,.any,.any,.any,.any,.any,.any,.any,.any,.any,.any,.any,.any,.any,.any,.any,.any,.any,.any,.any,.any,.any,.any,.any,.any,.any,.any,.any,.any,.any,.any,.any,.any,.any,.any,.any,.any,.any,.any,.any,.any] ∧
  s=st.set pid (.cells (Z9 T q))++(.cells qK::b :: .cells (qw (st.length+3) k nd) :: .tok k::ex)) (n:=T.length+2) ?_ ⟨n0,_,0,_,[],h,by rw[hnm0.2];simp,hnm0.1,rfl,by unfold qw;rw[hnm0.2];rfl⟩ ?_
 ·repeat (first | exact zj | refine zk _ ?_ | refine zg _ ?_ | refine zf _ ?_)
 rintro m env s ⟨nd,q,k,b,ex,hl,hm,hnm,rfl,rfl⟩
 cases m with
 | zero=>cases hl
 | succ m =>
 simp only[JY,Option.bind_eq_some_iff] at hl
 obtain⟨t,ht,hl⟩:=hl
 cases hb:ZD t with
 | false =>
  rw[hb] at hl
  simp only[Bool.false_eq_true,if_false,Option.some.injEq,Prod.mk.injEq] at hl
  obtain⟨rfl,rfl⟩:=hl
  unfold qw qK
  simp only[go_sem]
  refine VH ht (zm hp) ?_
  simp only[go_sem,hb]
  exact Vj hk hnm
 | true =>
  rw[hb] at hl
  simp only[if_true,Option.bind_eq_some_iff,Prod.exists] at hl
  obtain⟨q1,h3,x,q2,h4,hl⟩:=hl
  unfold qw
  simp only[go_sem]
  refine VH ht (zm hp) ?_
  simp only[go_sem,hb,c0]
  refine Y5 (p':=q1) (n:=nd.kids.length) (by simpa using h3) (zm hp) fun _=>?_
  simp only[go_sem,zb hp]
  refine zP [] [(0,[5]),(0,[5]),(0,[]),(3,[5]),(0,[]),(3,[7]),(0,[]),(1,[8])] mixed rfl ?_
  simp only[go_sem,zy,zu,zw,zt,zr,zG,zH,zx,zh,qK]
  refine⟨_,_,Hh hT he hpt _ _ _ h4 _ _ (zm hp) ⟨rfl,rfl⟩,?_⟩
  simp only[go_sem,zy,zu,zw,zt,zr,zG,zH,zx,zh,zb hp]
  rw[zL]
  refine⟨.slice .full 6 [zJ x],?_,?_⟩
  ·simp only[go_sem]
   exact⟨⟨[],by simp⟩,qb _ _ (.inr rfl) _ [_],.inl rfl⟩
  simp only[go_sem,zy,zu,zw,zt,zr,zG,zH,zx,zh]
  refine⟨_,_,⟨Tryz.app6 (by omega),rfl,rfl⟩,?_⟩
  simp only[go_sem]
  refine⟨m,_,by omega,?_,nd.addKid x,q2,k+1,b,_,hl,by rw[qc];simp;omega,by rw[qs];exact hnm,rfl,by rw[qV,qU,Zq,Zp,qc,List.map_append];rfl⟩
  repeat (first | exact zj | refine zk _ ?_ | refine zg _ ?_ | refine zf _ ?_)
theorem E1 (n:Nd):List.drop 6 (zJ n).cells=[]:=by rw[zd];rfl
theorem QO (n:Nd):List.drop 3 (zJ n).cells=[.sc (.int .i64 n.pos),.slice .imm 1 (n.names.map qD),.slice .imm 6 (n.kids.map zJ)]:=by rw[zd];rfl
theorem oC {T:List Tk} (hT:T.length≤100000) {pid:Nat} {e pt:PM Nd} (he:HC T pid 79 e) (hpt:HC T pid 170 pt) {p p':PS} {t0:Tk} {r:Nd} (h1:zR T p=some t0) (hc:¬ (t0.kind=6∧0<(Qm t0.text).1)) (hc4:¬ t0.kind=4)
  (h:((Xz T e pt p).bind fun r=>JY T e pt (T.length+2) false r.1 r.2)=some (r,p')) {K:SV→St→Prop} {st:St} (hp:Wz T pid p st) (hk:K (zJ r) (st.set pid (.cells (Z9 T p')))):ACalls prog 140 [.ptr pid 0] K st:=by
 simp only[Option.bind_eq_some_iff,Prod.exists] at h
 obtain⟨n0,p1,h2,h⟩:=h
 have c0:(t0.kind==4)=false:=by simp[hc4]
 refine zM (zE [] func140 rfl results140 ntmps140 ?_)
 by_cases h6:t0.kind=6
 ·have c1:(t0.kind==6)=true:=by simp[h6]
  have c2:decide (0<(Qm t0.text).1)=false:=by simp;exact Int.not_lt.1 fun h=>hc ⟨h6,h⟩
  simp only[go_sem]
  refine qv h1 (zI hp) ?_
  simp only[go_sem]
  refine Fm ?_
  simp only[go_sem,c1,c2,gt_iff_lt]
  first | (unfold zl;simp only[ze,zc,zq,List.set_cons_succ,List.set_cons_zero,List.getD_cons_succ,List.getD_cons_zero]) | skip
  refine Hh hT he hpt _ _ _ h2 _ _ (zI hp) ?_
  simp only[go_sem,zb hp]
  refine zN [] (fun m env s=>∃ (nd:Nd) (q:PS) (b:Ob) (ex:St),JY T e pt m false nd q=some (r,p')∧env=[.ptr pid 0,.any,.ptr st.length 0,.any,.any,.any,.any,.ptr (st.length+2) 0,.sc (.bool (t0.kind==4)),.any,.any,.any,.any,.any,.any,.any,.any,.any,.any,.any,.any,.any,.any,.any,.any,.any,.any,.any,.any,.any,.any,.any,.any,.any,.any,.any,.any,.any,.any,.any,.any,.any,.any,.any,.any,.any,.any,.any,.any,.any,.any,.any,.any,.any,.any,.any,.any,.any,.any,.any,.any,.any,.any,.any,.any,.any,.any,.any,.any,.any] ∧
   s=st.set pid (.cells (Z9 T q))++(.cells qK::b :: .cells (zJ nd).cells::ex)) (n:=T.length+2) ?_ ⟨n0,_,_,[],h,rfl,rfl⟩ ?_
  ·repeat (first | exact zj | refine zk _ ?_ | refine zg _ ?_ | refine zf _ ?_)
  rintro m env s ⟨nd,q,b,ex,hl,rfl,rfl⟩
  cases m with
  | zero=>cases hl
  | succ m =>
  simp only[JY,Option.bind_eq_some_iff] at hl
  obtain⟨t,ht,hl⟩:=hl
  cases hb:ZD t with
  | false =>
   rw[hb] at hl
   simp only[Bool.false_eq_true,if_false,Option.some.injEq,Prod.mk.injEq] at hl
   obtain⟨rfl,rfl⟩:=hl
   unfold qK
   simp only[go_sem]
   refine VH ht (zm hp) ?_
   simp only[go_sem,hb]
   exact Zw hk
  | true =>
   rw[hb] at hl
   simp only[if_true,Bool.false_eq_true,if_false,Option.bind_eq_some_iff,Prod.exists] at hl
   obtain⟨x,q2,h4,hl⟩:=hl
   simp only[go_sem]
   refine VH ht (zm hp) ?_
   simp only[go_sem,hb,c0]
   refine zP [] [(0,[6]),(0,[6]),(0,[6]),(0,[]),(3,[6]),(0,[]),(3,[7]),(1,[8])] mixed rfl ?_
   simp only[go_sem,zy,zu,zw,zt,zr,zG,zH,zx,zh,qK,QO]
   refine⟨_,_,Hh hT he hpt _ _ _ h4 _ _ (zm hp) ⟨rfl,rfl⟩,?_⟩
   simp only[go_sem,zy,zu,zw,zt,zr,zG,zH,zx,zh,zb hp,QO]
   rw[zL]
   refine⟨.slice .full 6 [zJ nd,zJ x],?_,?_⟩
   ·simp only[go_sem]
    exact⟨⟨[],by simp⟩,qb _ _ (.inr rfl) _ [_,_],.inl rfl⟩
   refine⟨_,_,Vl (kids:=[nd,x]) (.inl rfl) ⟨rfl,rfl⟩,?_⟩
   simp only[go_sem,zy,zu,zw,zt,zr,zG,zH,zx,zh,zb hp,E1,List.append_nil]
   refine⟨m,_,by omega,?_,zT 7 nd.pos [] [nd,x],q2,b,_,hl,rfl,rfl⟩
   simp only[c0]
   repeat (first | exact zj | refine zk _ ?_ | refine zg _ ?_ | refine zf _ ?_)
 ·have c1:(t0.kind==6)=false:=by simp[h6]
  simp only[go_sem]
  refine qv h1 (zI hp) ?_
  simp only[go_sem]
  refine Fm ?_
  simp only[go_sem,c1]
  first | (unfold zl;simp only[ze,zc,zq,List.set_cons_succ,List.set_cons_zero,List.getD_cons_succ,List.getD_cons_zero]) | skip
  refine Hh hT he hpt _ _ _ h2 _ _ (zI hp) ?_
  simp only[go_sem,zb hp]
  refine zN [] (fun m env s=>∃ (nd:Nd) (q:PS) (b:Ob) (ex:St),JY T e pt m false nd q=some (r,p')∧env=[.ptr pid 0,.any,.ptr st.length 0,.any,.any,.any,.any,.ptr (st.length+2) 0,.sc (.bool (t0.kind==4)),.any,.any,.any,.any,.any,.any,.any,.any,.any,.any,.any,.any,.any,.any,.any,.any,.any,.any,.any,.any,.any,.any,.any,.any,.any,.any,.any,.any,.any,.any,.any,.any,.any,.any,.any,.any,.any,.any,.any,.any,.any,.any,.any,.any,.any,.any,.any,.any,.any,.any,.any,.any,.any,.any,.any,.any,.any,.any,.any,.any,.any] ∧
   s=st.set pid (.cells (Z9 T q))++(.cells qK::b :: .cells (zJ nd).cells::ex)) (n:=T.length+2) ?_ ⟨n0,_,_,[],h,rfl,rfl⟩ ?_
  ·repeat (first | exact zj | refine zk _ ?_ | refine zg _ ?_ | refine zf _ ?_)
  rintro m env s ⟨nd,q,b,ex,hl,rfl,rfl⟩
  cases m with
  | zero=>cases hl
  | succ m =>
  simp only[JY,Option.bind_eq_some_iff] at hl
  obtain⟨t,ht,hl⟩:=hl
  cases hb:ZD t with
  | false =>
   rw[hb] at hl
   simp only[Bool.false_eq_true,if_false,Option.some.injEq,Prod.mk.injEq] at hl
   obtain⟨rfl,rfl⟩:=hl
   unfold qK
   simp only[go_sem]
   refine VH ht (zm hp) ?_
   simp only[go_sem,hb]
   exact Zw hk
  | true =>
   rw[hb] at hl
   simp only[if_true,Bool.false_eq_true,if_false,Option.bind_eq_some_iff,Prod.exists] at hl
   obtain⟨x,q2,h4,hl⟩:=hl
   simp only[go_sem]
   refine VH ht (zm hp) ?_
   simp only[go_sem,hb,c0]
   refine zP [] [(0,[6]),(0,[6]),(0,[6]),(0,[]),(3,[6]),(0,[]),(3,[7]),(1,[8])] mixed rfl ?_
   simp only[go_sem,zy,zu,zw,zt,zr,zG,zH,zx,zh,qK,QO]
   refine⟨_,_,Hh hT he hpt _ _ _ h4 _ _ (zm hp) ⟨rfl,rfl⟩,?_⟩
   simp only[go_sem,zy,zu,zw,zt,zr,zG,zH,zx,zh,zb hp,QO]
   rw[zL]
   refine⟨.slice .full 6 [zJ nd,zJ x],?_,?_⟩
   ·simp only[go_sem]
    exact⟨⟨[],by simp⟩,qb _ _ (.inr rfl) _ [_,_],.inl rfl⟩
   refine⟨_,_,Vl (kids:=[nd,x]) (.inl rfl) ⟨rfl,rfl⟩,?_⟩
   simp only[go_sem,zy,zu,zw,zt,zr,zG,zH,zx,zh,zb hp,E1,List.append_nil]
   refine⟨m,_,by omega,?_,zT 7 nd.pos [] [nd,x],q2,b,_,hl,rfl,rfl⟩
   simp only[c0]
   repeat (first | exact zj | refine zk _ ?_ | refine zg _ ?_ | refine zf _ ?_)
end Go.Proofs
namespace Go.Proofs
open Go Go.AL Tryz
theorem sA {T:List Tk} (hT:T.length≤100000) {pid:Nat} {e pt:PM Nd} (he:HC T pid 79 e) (hpt:HC T pid 170 pt):HC T pid 140 (Hl T e pt):=by
 intro p r p' h K st hp hk
 unfold Hl at h
 rw[Option.bind_eq_some_iff] at h
 obtain⟨t,h1,h⟩:=h
 by_cases hc:t.kind=6∧0<(Qm t.text).1
 ·rw[if_pos hc] at h
  exact oV hT he hpt h1 hc h hp hk
 ·rw[if_neg hc] at h
  by_cases h4:t.kind=4
  ·rw[show (t.kind==4)=true by simp[h4]] at h
   exact fK hT he hpt h1 h4 h hp hk
  ·rw[show (t.kind==4)=false by simp[h4]] at h
   exact oC hT he hpt h1 hc h4 h hp hk
def HS (T:List Tk) (pid:Nat) (signs:List Tx) (e:PM Nd):Prop:=∀ (p:PS) (r:Nd) (p':PS),e p=some (r,p')→∀ (K:SV→St→Prop) (st:St),Wz T pid p st→K (zJ r) (st.set pid (.cells (Z9 T p')))→ACalls prog 126 [.ptr pid 0,.slice .full 1 (signs.map qD)] K st
def HP (T:List Tk) (pid:Nat) (signs:List Tx) (e:PM Nd):Prop:=∀ (p:PS) (r:Nd) (p':PS),e p=some (r,p')→∀ (K:SV→St→Prop) (st:St),Wz T pid p st→K (zJ r) (st.set pid (.cells (Z9 T p')))→ACalls prog 139 [.ref [.slice .full 1 (signs.map qD)],.ref [.ptr pid 0]] K st
def tf (st ex:St) (tid:Nat) (t:Tk):Prop:=∃ j,tid=st.length+2+j∧ex[j]?=some (.cells (ZF t).cells)
theorem jI {st ex:St} {tid:Nat} {t:Tk} (h:tf st ex tid t) (pid:Nat) (X:Ob) (a b:Ob):HH (st.set pid X++a::b::ex) tid=True∧ZC (st.set pid X++a::b::ex) tid=True ∧
  qM (st.set pid X++a::b::ex) tid=[.sc (.int .i64 t.kind),.sc (.string (ba t.text)),.sc (.int .i64 t.num),.sc (.int .i64 t.pos)]:=by
 obtain⟨j,rfl,hj⟩:=h
 refine zV ?_
 rw[List.getElem?_append_right (by simp;omega)]
 simp only[List.length_set,show st.length+2+j-st.length=j+1+1 by omega,List.getElem?_cons_succ]
 exact hj
theorem gb {T:List Tk} (hT:T.length≤100000) {pid:Nat} {signs:List Tx} (hs:signs.length≤1000000) {part:PM Nd} (hpart:HP T pid signs part):HS T pid signs (JQ T part signs):=by
 intro p r p' h K st hp hk
 refine zM (zE [] func126 rfl results126 ntmps126 ?_)
 unfold JQ at h
 simp only[Option.bind_eq_some_iff,Prod.exists] at h
 obtain⟨n0,p1,h1,t0,h2,h⟩:=h
 simp only[go_sem]
 refine hpart _ _ _ h1 _ _ (zI hp) ?_
 simp only[go_sem,zb hp]
 first | (unfold zl;simp only[ze,zc,zq,List.set_cons_succ,List.set_cons_zero,List.getD_cons_succ,List.getD_cons_zero]) | skip
 refine qv h2 (zm hp) ?_
 simp only[go_sem,zb hp]
 refine zN [] (fun m env s=>∃ (t:Tk) (nd:Nd) (q:PS) (tid:Nat) (ex:St),Ji T part signs m t nd q=some (r,p')∧tf st ex tid t∧env=[.any,.any,.ref [.ptr pid 0],.ref [.slice .full 1 (signs.map qD)],.ptr st.length 0,.func (.func 139) [] [.ref [.slice .full 1 (signs.map qD)],.ref [.ptr pid 0]],.ptr (st.length+1) 0,.ptr tid 0,.any,.any,.any,.any,.any,.any,.any,.any,.any,.any,.any,.any,.any,.any,.any,.any,.any,.any,.any,.any,.any,.any,.any,.any,.any,.any,.any,.any,.any] ∧
  s=st.set pid (.cells (Z9 T q))++(.cells qK :: .cells (zJ nd).cells::ex)) (n:=T.length+2) ?_ ⟨t0,n0,_,st.length+2,_,h,⟨0,rfl,rfl⟩,rfl,rfl⟩ ?_
 ·repeat (first | exact zj | refine zk _ ?_ | refine zg _ ?_ | refine zf _ ?_)
 rintro m env s ⟨t,nd,q,tid,ex,hl,htok,rfl,rfl⟩
 cases m with
 | zero=>cases hl
 | succ m =>
 simp only[Ji] at hl
 have yt:=jI htok pid
 have y1:=fun X a b=>(yt X a b).1
 have y2:=fun X a b=>(yt X a b).2.1
 have y3:=fun X a b=>(yt X a b).2.2
 by_cases hc:t.kind=5
 ·have c1:(t.kind==5)=true:=by simp[hc]
  by_cases hm:t.text∈signs
  ·have c2:decide (t.text∈signs)=true:=by simp[hm]
   rw[if_pos ⟨hc,hm⟩] at hl
   simp only[Option.bind_eq_some_iff,Prod.exists] at hl
   obtain⟨t1,q1,h4,x,q2,h5,t2,h6,hl⟩:=hl
   simp only[go_sem,y1,y2,y3,c1]
   refine Ge hs ?_
   simp only[go_sem,y1,y2,y3,c1,c2]
   first | (unfold zl;simp only[ze,zc,zq,List.set_cons_succ,List.set_cons_zero,List.getD_cons_succ,List.getD_cons_zero]) | skip
   refine QQ hT h4 (zm hp) ?_
   simp only[go_sem,zb hp,y1,y2,y3]
   refine zP [] [(0,[8]),(0,[8]),(0,[8]),(0,[8]),(0,[8]),(0,[]),(3,[8]),(0,[]),(3,[9]),(1,[10])] mixed rfl ?_
   simp only[go_sem,zy,zu,zw,zt,zr,zG,zH,zx,zh,qK,QO,y1,y2,y3]
   refine⟨_,_,hpart _ _ _ h5 _ _ (zm hp) ⟨rfl,rfl⟩,?_⟩
   simp only[go_sem,zy,zu,zw,zt,zr,zG,zH,zx,zh,zb hp,QO,y1,y2,y3]
   rw[zL]
   refine⟨.slice .full 6 [zJ nd,zJ x],?_,?_⟩
   ·simp only[go_sem]
    exact⟨⟨[],by simp⟩,qb _ _ (.inr rfl) _ [_,_],.inl rfl⟩
   refine⟨_,_,Vl (kids:=[nd,x]) (.inl rfl) ⟨rfl,rfl⟩,?_⟩
   simp only[go_sem,zy,zu,zw,zt,zr,zG,zH,zx,zh,zb hp,E1,List.append_nil,y1,y2,y3]
   refine qv h6 (zm hp) ?_
   simp only[go_sem,zb hp,y1,y2,y3]
   refine⟨m,_,by omega,?_,t2,zT 13 nd.pos t.text [nd,x],q2,st.length+(ex.length+2),_,hl,⟨ex.length,by omega,by simp;rfl⟩,rfl,rfl⟩
   repeat (first | exact zj | refine zk _ ?_ | refine zg _ ?_ | refine zf _ ?_)
  ·have c2:decide (t.text∈signs)=false:=by simp[hm]
   rw[if_neg (fun h=>hm h.2)] at hl
   simp only[Option.some.injEq,Prod.mk.injEq] at hl
   obtain⟨rfl,rfl⟩:=hl
   unfold qK
   simp only[go_sem,y1,y2,y3,c1]
   refine Ge hs ?_
   simp only[go_sem,y1,y2,y3,c1,c2]
   exact Zw hk
 ·have c1:(t.kind==5)=false:=by simp[hc]
  rw[if_neg (fun h=>hc h.1)] at hl
  simp only[Option.some.injEq,Prod.mk.injEq] at hl
  obtain⟨rfl,rfl⟩:=hl
  unfold qK
  simp only[go_sem,y1,y2,y3,c1]
  exact Zw hk
theorem cU {T:List Tk} {pid:Nat} {e:PM Nd} (he:HC T pid 140 e):HP T pid E' e:=by
 intro p r p' h K st hp hk
 refine zM (zE [] func139 rfl results139 ntmps139 ?_)
 unfold E' qD
 simp only[go_sem,List.map_cons,List.map_nil]
 refine⟨by decide,fun _=>?_,fun h=>absurd h (by decide)⟩
 refine he _ _ _ h _ _ (zI hp) ?_
 simp only[go_sem,zb hp]
 exact Zw hk
theorem n8 {T:List Tk} {pid:Nat} {e:PM Nd} (he:HS T pid E' e):HP T pid signsP e:=by
 intro p r p' h K st hp hk
 refine zM (zE [] func139 rfl results139 ntmps139 ?_)
 unfold signsP qD
 simp only[go_sem,List.map_cons,List.map_nil]
 refine⟨by decide,fun h=>absurd h (by decide),fun _=>?_⟩
 refine he _ _ _ h _ _ (zI hp) ?_
 simp only[go_sem,zb hp]
 exact Zw hk
theorem rJ {T:List Tk} (hT:T.length≤100000) {pid:Nat} {e pt:PM Nd} (he:HC T pid 79 e) (hpt:HC T pid 170 pt):HS T pid signsP (GS T e pt) :=
 gb hT (by decide) (n8 (gb hT (by decide) (cU (sA hT he hpt))))
theorem B8 {T:List Tk} (hT:T.length≤100000) {pid:Nat} {e pt:PM Nd} (he:HC T pid 79 e) (hpt:HC T pid 170 pt):HC T pid 108 (Hx T e pt):=by
 intro p r p' h K st hp hk
 have hs:=rJ hT he hpt
 refine zM (zE [] func108 rfl results108 ntmps108 ?_)
 unfold Hx at h
 simp only[Option.bind_eq_some_iff,Prod.exists] at h
 obtain⟨n0,p1,h1,t,h2,h⟩:=h
 cases b1:isT t [61] with
 | true =>
  rw[if_pos (.inl b1)] at h
  simp only[Option.bind_eq_some_iff,Option.map_eq_some_iff,Prod.exists,Prod.mk.injEq] at h
  obtain⟨t1,p2,h3,x,p3,h4,rfl,rfl⟩:=h
  simp only[go_sem]
  refine hs _ _ _ h1 _ _ (zI hp) ?_
  simp only[go_sem,zb hp]
  first | (unfold zl;simp only[ze,zc,zq,List.set_cons_succ,List.set_cons_zero,List.getD_cons_succ,List.getD_cons_zero]) | skip
  refine qv h2 (zm hp) ?_
  simp only[go_sem,zb hp]
  first | (unfold zl;simp only[ze,zc,zq,List.set_cons_succ,List.set_cons_zero,List.getD_cons_succ,List.getD_cons_zero]) | skip
  refine ZB h2 (zm hp) ?_
  simp only[go_sem,zb hp,b1]
  first | (unfold zl;simp only[ze,zc,zq,List.set_cons_succ,List.set_cons_zero,List.getD_cons_succ,List.getD_cons_zero]) | skip
  refine QQ hT h3 (zm hp) ?_
  simp only[go_sem,zb hp]
  refine zP [] [(0,[9]),(0,[9]),(0,[9]),(0,[9]),(0,[9]),(0,[]),(0,[]),(3,[9]),(0,[]),(3,[10]),(1,[11])] mixed rfl ?_
  simp only[go_sem,zy,zu,zw,zt,zr,zG,zH,zx,zh,QO]
  rw[zL]
  refine⟨.slice .full 1 (signsP.map qD),?_,?_⟩
  ·simp only[go_sem]
   exact⟨⟨[],by simp⟩,ZX _ _ (.inr rfl) _ _,.inl rfl⟩
  refine⟨_,_,hs _ _ _ h4 _ _ (zm hp) ⟨rfl,rfl⟩,?_⟩
  simp only[go_sem,zy,zu,zw,zt,zr,zG,zH,zx,zh,zb hp,QO]
  rw[zL]
  refine⟨.slice .full 6 [zJ n0,zJ x],?_,?_⟩
  ·simp only[go_sem]
   exact⟨⟨[],by simp⟩,qb _ _ (.inr rfl) _ [_,_],.inl rfl⟩
  refine⟨_,_,Vl (kids:=[n0,x]) (.inl rfl) ⟨rfl,rfl⟩,?_⟩
  simp only[go_sem,zy,zu,zw,zt,zr,zG,zH,zx,zh,zb hp]
  exact Zw hk
 | false =>
 cases b2:isT t [60] with
 | true =>
  rw[if_pos (.inr b2)] at h
  simp only[Option.bind_eq_some_iff,Option.map_eq_some_iff,Prod.exists,Prod.mk.injEq] at h
  obtain⟨t1,p2,h3,x,p3,h4,rfl,rfl⟩:=h
  simp only[go_sem]
  refine hs _ _ _ h1 _ _ (zI hp) ?_
  simp only[go_sem,zb hp]
  first | (unfold zl;simp only[ze,zc,zq,List.set_cons_succ,List.set_cons_zero,List.getD_cons_succ,List.getD_cons_zero]) | skip
  refine qv h2 (zm hp) ?_
  simp only[go_sem,zb hp]
  first | (unfold zl;simp only[ze,zc,zq,List.set_cons_succ,List.set_cons_zero,List.getD_cons_succ,List.getD_cons_zero]) | skip
  refine ZB h2 (zm hp) ?_
  simp only[go_sem,zb hp,b1]
  first | (unfold zl;simp only[ze,zc,zq,List.set_cons_succ,List.set_cons_zero,List.getD_cons_succ,List.getD_cons_zero]) | skip
  refine ZB h2 (zm hp) ?_
  simp only[go_sem,zb hp,b1,b2]
  first | (unfold zl;simp only[ze,zc,zq,List.set_cons_succ,List.set_cons_zero,List.getD_cons_succ,List.getD_cons_zero]) | skip
  refine QQ hT h3 (zm hp) ?_
  simp only[go_sem,zb hp]
  refine zP [] [(0,[9]),(0,[9]),(0,[9]),(0,[9]),(0,[9]),(0,[]),(0,[]),(3,[9]),(0,[]),(3,[10]),(1,[11])] mixed rfl ?_
  simp only[go_sem,zy,zu,zw,zt,zr,zG,zH,zx,zh,QO]
  rw[zL]
  refine⟨.slice .full 1 (signsP.map qD),?_,?_⟩
  ·simp only[go_sem]
   exact⟨⟨[],by simp⟩,ZX _ _ (.inr rfl) _ _,.inl rfl⟩
  refine⟨_,_,hs _ _ _ h4 _ _ (zm hp) ⟨rfl,rfl⟩,?_⟩
  simp only[go_sem,zy,zu,zw,zt,zr,zG,zH,zx,zh,zb hp,QO]
  rw[zL]
  refine⟨.slice .full 6 [zJ n0,zJ x],?_,?_⟩
  ·simp only[go_sem]
   exact⟨⟨[],by simp⟩,qb _ _ (.inr rfl) _ [_,_],.inl rfl⟩
  refine⟨_,_,Vl (kids:=[n0,x]) (.inl rfl) ⟨rfl,rfl⟩,?_⟩
  simp only[go_sem,zy,zu,zw,zt,zr,zG,zH,zx,zh,zb hp]
  exact Zw hk
 | false =>
  rw[if_neg (by simp[b1,b2])] at h
  simp only[Option.some.injEq,Prod.mk.injEq] at h
  obtain⟨rfl,rfl⟩:=h
  simp only[go_sem]
  refine hs _ _ _ h1 _ _ (zI hp) ?_
  simp only[go_sem,zb hp]
  first | (unfold zl;simp only[ze,zc,zq,List.set_cons_succ,List.set_cons_zero,List.getD_cons_succ,List.getD_cons_zero]) | skip
  refine qv h2 (zm hp) ?_
  simp only[go_sem,zb hp]
  first | (unfold zl;simp only[ze,zc,zq,List.set_cons_succ,List.set_cons_zero,List.getD_cons_succ,List.getD_cons_zero]) | skip
  refine ZB h2 (zm hp) ?_
  simp only[go_sem,zb hp,b1]
  first | (unfold zl;simp only[ze,zc,zq,List.set_cons_succ,List.set_cons_zero,List.getD_cons_succ,List.getD_cons_zero]) | skip
  refine ZB h2 (zm hp) ?_
  simp only[go_sem,zb hp,b1,b2]
  exact Zw hk
end Go.Proofs
