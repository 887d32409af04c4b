/- app. -/
import Derived.Test.YtkokccjfpebomaaGreatDoorN7
set_option maxHeartbeats 4000000
set_option linter.unusedSimpArgs false
set_option linter.unusedVariables false
set_option maxRecDepth 8000
namespace Go.Proofs
open Go Go.AL
theorem zzu (s:Tx):∃ n:Nat,(Qn s).2=n∧n≤2:=by
 unfold Qn
 repeat (first | split | exact⟨1,rfl,by omega⟩ | exact⟨2,rfl,by omega⟩ | exact⟨0,rfl,by omega⟩)
theorem zvu {T:List Tk} (hT:T.length≤100000) {pid:Nat} {e pt:PM Nd} (he:HC T pid 79 e) (hpt:HC T pid 170 pt) {p p':PS} {t:Tk} {r:Nd} (h1:zX T p=some t) (hc:t.kind=6∧0<(Qn t.text).1)
  (h:((ZP T p).bind fun r=>Jp T e pt (Qn t.text).2.toNat (zR (Qn t.text).1 t.pos [] []) r.2)=some (r,p')) {K:SV→St→Prop} {st:St} (hp:V8 T pid p st) (hk:K (zH r) (st.set pid (.cells (ZX T p')))):ACalls Tryz.prog 140 [.ptr pid 0] K st:=by
 obtain⟨many,hm1,hm2⟩:=zzu t.text
 rw[hm1] at h
 simp only[Option.bind_eq_some_iff,Prod.exists,Int.toNat_natCast] at h
 obtain⟨t1,p1,h2,h⟩:=h
 have c1:(t.kind==6)=true:=by simp[hc.1]
 have c2:decide (0<(Qn t.text).1)=true:=by simp[hc.2]
 refine zK (zC [] Tryz.func140 rfl Tryz.results140 Tryz.ntmps140 ?_)
 simp only[go_sem]
 refine qp h1 (zG hp) ?_
 simp only[go_sem]
 refine zhv ?_
 simp only[go_sem,c1,c2,gt_iff_lt,hm1]
 first | (unfold zk;simp only[zd,zb,zo,List.set_cons_succ,List.set_cons_zero,List.getD_cons_succ,List.getD_cons_zero]) | skip
 refine QC hT h2 (zG hp) ?_
 simp only[go_sem,za hp]
 first | (unfold zk;simp only[zd,zb,zo,List.set_cons_succ,List.set_cons_zero,List.getD_cons_succ,List.getD_cons_zero]) | skip
 refine Q7 rfl rfl rfl rfl (fun _=>rfl) (qf (.inr rfl) (fun x hx=>by cases hx)) ?_
 unfold QM
 simp only[go_sem,za hp]
 refine ZU (st.length+2) 5 6 0 (qY 2) (by simp) rfl ?_
 rw[Qi]
 simp only[List.length_append,Q9,List.length_cons,List.length_nil,List.set_cons_succ,List.set_cons_zero,List.append_assoc,List.cons_append,List.nil_append,Nat.zero_add,Nat.reduceAdd]
 refine zM [] (fun m env s=>∃ (nd:Nd) (q:PS) (k j:Nat) (b:Ob) (ex:St),Jp T e pt m nd q=some (r,p')∧j+m=many∧nd.kids.length≤j∧nd.names=[]∧env=[.ptr pid 0,.any,.ptr st.length 0,.any,.any,.any,.ptr (st.length+2) 0,.any,.any,.any,.any,.any,.any,.any,.any,.any,.any,.any,.any,.any,.any,.any,.any,.any,.any,.any,.any,.any,.any,.any,.sc (.int .i64 (Qn t.text).2),.sc (.int .i64 j),.any,.any,.any,.any,.any,.any,.any,.any,.any,.any,.any,.any,.any,.any,.any,.any,.any,.any,.any,.any,.any,.any,.any,.any,.any,.any,.any,.any,.any,.any,.any,.any,.any,.any,.any,.any,.any,.any] ∧
  s=st.set pid (.cells (ZX T q))++(.cells qD::b :: .cells (qq (st.length+3) k nd) :: .tok k::ex)) (n:=many) ?_ ⟨_,_,0,0,_,[],h,by omega,by simp[zR,Nd.kids],rfl,rfl,rfl⟩ ?_
 ·repeat (first | exact zi | refine zh _ ?_ | refine zf _ ?_ | refine ze _ ?_)
 rintro m env s ⟨nd,q,k,j,b,ex,hl,hm,hkn,hnm,rfl,rfl⟩
 cases m with
 | zero =>
  have c3:decide ((j:Int)<(Qn t.text).2)=false:=by rw[hm1];simp;omega
  cases hl
  unfold qq qD
  simp only[go_sem,c3]
  exact JT hk hnm
 | succ m =>
  have c3:decide ((j:Int)<(Qn t.text).2)=true:=by rw[hm1];simp;omega
  have hw:IntKind.i64.wrap ((j:Int)+1)=((j+1:Nat):Int):=by rw[IntWalk.i64_in _ (by omega)];rfl
  simp only[Jp,Option.bind_eq_some_iff,Prod.exists] at hl
  obtain⟨x,q1,h4,hl⟩:=hl
  unfold qq
  simp only[go_sem,c3]
  refine zO [] [(0,[5]),(0,[5]),(0,[]),(3,[5]),(0,[]),(3,[7]),(0,[]),(1,[8])] Tryz.mixed rfl ?_
  simp only[go_sem,zw,zt,zr,zp,zq,zE,zF,zu,zg,qD]
  refine⟨_,_,zcM hT he hpt _ _ _ h4 _ _ (zl hp) ⟨rfl,rfl⟩,?_⟩
  simp only[go_sem,zw,zt,zr,zp,zq,zE,zF,zu,zg,za hp]
  rw[zJ]
  refine⟨.slice .full 6 [zH x],?_,?_⟩
  ·simp only[go_sem]
   exact⟨⟨[],by simp⟩,zY _ _ (.inr rfl) _ [_],.inl rfl⟩
  simp only[go_sem,zw,zt,zr,zp,zq,zE,zF,zu,zg]
  refine⟨_,_,⟨Tryz.app6 (by omega),rfl,rfl⟩,?_⟩
  simp only[go_sem,hw]
  refine⟨m,_,by omega,?_,nd.addKid x,q1,k+1,j+1,b,_,hl,by omega,by rw[z8];simp;omega,by rw[qm];exact hnm,rfl,by rw[qM,qO,Zf,Zg,z8,List.map_append];rfl⟩
  repeat (first | exact zi | refine zh _ ?_ | refine zf _ ?_ | refine ze _ ?_)
theorem zfe {t:Tk} (h:t.kind=4) (s:Tx):isT t s=false:=by
 unfold isT;simp[h]
theorem zvA {T:List Tk} (hT:T.length≤100000) {pid:Nat} {e pt:PM Nd} (he:HC T pid 79 e) (hpt:HC T pid 170 pt) {p p':PS} {t0:Tk} {r:Nd} (h1:zX T p=some t0) (hc:t0.kind=4)
  (h:((YU T e pt p).bind fun r=>Vv T e pt (T.length+2) true r.1 r.2)=some (r,p')) {K:SV→St→Prop} {st:St} (hp:V8 T pid p st) (hk:K (zH r) (st.set pid (.cells (ZX T p')))):ACalls Tryz.prog 140 [.ptr pid 0] K st:=by
 simp only[Option.bind_eq_some_iff,Prod.exists] at h
 obtain⟨n0,p1,h2,h⟩:=h
 have hl0:X4 T [(1,1),(2,2),(3,4),(4,5)] p=some (n0,p1):=by
  unfold YU at h2
  rw[h1] at h2
  simp only[Option.bind_some,zfe hc,Bool.false_eq_true,if_false] at h2
  exact h2
 have hnm0:=YG hl0
 have c1:(t0.kind==6)=false:=by simp[hc]
 have c0:(t0.kind==4)=true:=by simp[hc]
 refine zK (zC [] Tryz.func140 rfl Tryz.results140 Tryz.ntmps140 ?_)
 simp only[go_sem]
 refine qp h1 (zG hp) ?_
 simp only[go_sem]
 refine zhv ?_
 simp only[go_sem,c1]
 first | (unfold zk;simp only[zd,zb,zo,List.set_cons_succ,List.set_cons_zero,List.getD_cons_succ,List.getD_cons_zero]) | skip
 refine zlN hT h1 (zfe hc _) (zfe hc _) (zfe hc _) (zfe hc _) hl0 (zG hp) ?_
 rw[zhc hnm0]
 simp only[go_sem,za hp]
 refine ZU (st.length+2) 5 6 0 (qY 2) (by simp) rfl ?_
 rw[Qi]
 simp only[List.length_append,Q9,List.length_cons,List.length_nil,List.set_cons_succ,List.set_cons_zero,List.append_assoc,List.cons_append,List.nil_append,Nat.zero_add,Nat.reduceAdd]
 refine zM [] (fun m env s=>∃ (nd:Nd) (q:PS) (k:Nat) (b:Ob) (ex:St),Vv T e pt m true nd q=some (r,p')∧m+nd.kids.length≤T.length+2∧nd.names=[]∧env=[.ptr pid 0,.any,.ptr st.length 0,.any,.any,.any,.any,.ptr (st.length+2) 0,.sc (.bool (t0.kind==4)),.any,.any,.any,.any,.any,.any,.any,.any,.any,.any,.any,.any,.any,.any,.any,.any,.any,.any,.any,.any,.any,.any,.any,.any,.any,.any,.any,.any,.any,.any,.any,.any,.any,.any,.any,.any,.any,.any,.any,.any,.any,.any,.any,.any,.any,.any,.any,.any,.any,.any,.any,.any,.any,.any,.any,.any,.any,.any,.any,.any,.any] ∧
  s=st.set pid (.cells (ZX T q))++(.cells qD::b :: .cells (qq (st.length+3) k nd) :: .tok k::ex)) (n:=T.length+2) ?_ ⟨n0,_,0,_,[],h,by rw[hnm0.2];simp,hnm0.1,rfl,by unfold qq;rw[hnm0.2];rfl⟩ ?_
 ·repeat (first | exact zi | refine zh _ ?_ | refine zf _ ?_ | refine ze _ ?_)
 rintro m env s ⟨nd,q,k,b,ex,hl,hm,hnm,rfl,rfl⟩
 cases m with
 | zero=>cases hl
 | succ m =>
 simp only[Vv,Option.bind_eq_some_iff] at hl
 obtain⟨t,ht,hl⟩:=hl
 cases hb:QT t with
 | false =>
  rw[hb] at hl
  simp only[Bool.false_eq_true,if_false,Option.some.injEq,Prod.mk.injEq] at hl
  obtain⟨rfl,rfl⟩:=hl
  unfold qq qD
  simp only[go_sem]
  refine Vm ht (zl hp) ?_
  simp only[go_sem,hb]
  exact JT hk hnm
 | true =>
  rw[hb] at hl
  simp only[if_true,Option.bind_eq_some_iff,Prod.exists] at hl
  obtain⟨q1,h3,x,q2,h4,hl⟩:=hl
  unfold qq
  simp only[go_sem]
  refine Vm ht (zl hp) ?_
  simp only[go_sem,hb,c0]
  refine YD (p':=q1) (n:=nd.kids.length) (by simpa using h3) (zl hp) fun _=>?_
  simp only[go_sem,za hp]
  refine zO [] [(0,[5]),(0,[5]),(0,[]),(3,[5]),(0,[]),(3,[7]),(0,[]),(1,[8])] Tryz.mixed rfl ?_
  simp only[go_sem,zw,zt,zr,zp,zq,zE,zF,zu,zg,qD]
  refine⟨_,_,zcM hT he hpt _ _ _ h4 _ _ (zl hp) ⟨rfl,rfl⟩,?_⟩
  simp only[go_sem,zw,zt,zr,zp,zq,zE,zF,zu,zg,za hp]
  rw[zJ]
  refine⟨.slice .full 6 [zH x],?_,?_⟩
  ·simp only[go_sem]
   exact⟨⟨[],by simp⟩,zY _ _ (.inr rfl) _ [_],.inl rfl⟩
  simp only[go_sem,zw,zt,zr,zp,zq,zE,zF,zu,zg]
  refine⟨_,_,⟨Tryz.app6 (by omega),rfl,rfl⟩,?_⟩
  simp only[go_sem]
  refine⟨m,_,by omega,?_,nd.addKid x,q2,k+1,b,_,hl,by rw[z8];simp;omega,by rw[qm];exact hnm,rfl,by rw[qM,qO,Zf,Zg,z8,List.map_append];rfl⟩
  repeat (first | exact zi | refine zh _ ?_ | refine zf _ ?_ | refine ze _ ?_)
theorem zfs (n:Nd):List.drop 6 (zH n).cells=[]:=by rw[zc];rfl
theorem QA (n:Nd):List.drop 3 (zH n).cells=[.sc (.int .i64 n.pos),.slice .imm 1 (n.names.map qv),.slice .imm 6 (n.kids.map zH)]:=by rw[zc];rfl
theorem zu6 {T:List Tk} (hT:T.length≤100000) {pid:Nat} {e pt:PM Nd} (he:HC T pid 79 e) (hpt:HC T pid 170 pt) {p p':PS} {t0:Tk} {r:Nd} (h1:zX T p=some t0) (hc:¬ (t0.kind=6∧0<(Qn t0.text).1)) (hc4:¬ t0.kind=4)
  (h:((YU T e pt p).bind fun r=>Vv T e pt (T.length+2) false r.1 r.2)=some (r,p')) {K:SV→St→Prop} {st:St} (hp:V8 T pid p st) (hk:K (zH r) (st.set pid (.cells (ZX T p')))):ACalls Tryz.prog 140 [.ptr pid 0] K st:=by
 simp only[Option.bind_eq_some_iff,Prod.exists] at h
 obtain⟨n0,p1,h2,h⟩:=h
 have c0:(t0.kind==4)=false:=by simp[hc4]
 refine zK (zC [] Tryz.func140 rfl Tryz.results140 Tryz.ntmps140 ?_)
 by_cases h6:t0.kind=6
 ·have c1:(t0.kind==6)=true:=by simp[h6]
  have c2:decide (0<(Qn t0.text).1)=false:=by simp;exact Int.not_lt.1 fun h=>hc ⟨h6,h⟩
  simp only[go_sem]
  refine qp h1 (zG hp) ?_
  simp only[go_sem]
  refine zhv ?_
  simp only[go_sem,c1,c2,gt_iff_lt]
  first | (unfold zk;simp only[zd,zb,zo,List.set_cons_succ,List.set_cons_zero,List.getD_cons_succ,List.getD_cons_zero]) | skip
  refine zcM hT he hpt _ _ _ h2 _ _ (zG hp) ?_
  simp only[go_sem,za hp]
  refine zM [] (fun m env s=>∃ (nd:Nd) (q:PS) (b:Ob) (ex:St),Vv T e pt m false nd q=some (r,p')∧env=[.ptr pid 0,.any,.ptr st.length 0,.any,.any,.any,.any,.ptr (st.length+2) 0,.sc (.bool (t0.kind==4)),.any,.any,.any,.any,.any,.any,.any,.any,.any,.any,.any,.any,.any,.any,.any,.any,.any,.any,.any,.any,.any,.any,.any,.any,.any,.any,.any,.any,.any,.any,.any,.any,.any,.any,.any,.any,.any,.any,.any,.any,.any,.any,.any,.any,.any,.any,.any,.any,.any,.any,.any,.any,.any,.any,.any,.any,.any,.any,.any,.any,.any] ∧
   s=st.set pid (.cells (ZX T q))++(.cells qD::b :: .cells (zH nd).cells::ex)) (n:=T.length+2) ?_ ⟨n0,_,_,[],h,rfl,rfl⟩ ?_
  ·repeat (first | exact zi | refine zh _ ?_ | refine zf _ ?_ | refine ze _ ?_)
  rintro m env s ⟨nd,q,b,ex,hl,rfl,rfl⟩
  cases m with
  | zero=>cases hl
  | succ m =>
  simp only[Vv,Option.bind_eq_some_iff] at hl
  obtain⟨t,ht,hl⟩:=hl
  cases hb:QT t with
  | false =>
   rw[hb] at hl
   simp only[Bool.false_eq_true,if_false,Option.some.injEq,Prod.mk.injEq] at hl
   obtain⟨rfl,rfl⟩:=hl
   unfold qD
   simp only[go_sem]
   refine Vm ht (zl hp) ?_
   simp only[go_sem,hb]
   exact Zk hk
  | true =>
   rw[hb] at hl
   simp only[if_true,Bool.false_eq_true,if_false,Option.bind_eq_some_iff,Prod.exists] at hl
   obtain⟨x,q2,h4,hl⟩:=hl
   simp only[go_sem]
   refine Vm ht (zl hp) ?_
   simp only[go_sem,hb,c0]
   refine zO [] [(0,[6]),(0,[6]),(0,[6]),(0,[]),(3,[6]),(0,[]),(3,[7]),(1,[8])] Tryz.mixed rfl ?_
   simp only[go_sem,zw,zt,zr,zp,zq,zE,zF,zu,zg,qD,QA]
   refine⟨_,_,zcM hT he hpt _ _ _ h4 _ _ (zl hp) ⟨rfl,rfl⟩,?_⟩
   simp only[go_sem,zw,zt,zr,zp,zq,zE,zF,zu,zg,za hp,QA]
   rw[zJ]
   refine⟨.slice .full 6 [zH nd,zH x],?_,?_⟩
   ·simp only[go_sem]
    exact⟨⟨[],by simp⟩,zY _ _ (.inr rfl) _ [_,_],.inl rfl⟩
   refine⟨_,_,JK (kids:=[nd,x]) (.inl rfl) ⟨rfl,rfl⟩,?_⟩
   simp only[go_sem,zw,zt,zr,zp,zq,zE,zF,zu,zg,za hp,zfs,List.append_nil]
   refine⟨m,_,by omega,?_,zR 7 nd.pos [] [nd,x],q2,b,_,hl,rfl,rfl⟩
   simp only[c0]
   repeat (first | exact zi | refine zh _ ?_ | refine zf _ ?_ | refine ze _ ?_)
 ·have c1:(t0.kind==6)=false:=by simp[h6]
  simp only[go_sem]
  refine qp h1 (zG hp) ?_
  simp only[go_sem]
  refine zhv ?_
  simp only[go_sem,c1]
  first | (unfold zk;simp only[zd,zb,zo,List.set_cons_succ,List.set_cons_zero,List.getD_cons_succ,List.getD_cons_zero]) | skip
  refine zcM hT he hpt _ _ _ h2 _ _ (zG hp) ?_
  simp only[go_sem,za hp]
  refine zM [] (fun m env s=>∃ (nd:Nd) (q:PS) (b:Ob) (ex:St),Vv T e pt m false nd q=some (r,p')∧env=[.ptr pid 0,.any,.ptr st.length 0,.any,.any,.any,.any,.ptr (st.length+2) 0,.sc (.bool (t0.kind==4)),.any,.any,.any,.any,.any,.any,.any,.any,.any,.any,.any,.any,.any,.any,.any,.any,.any,.any,.any,.any,.any,.any,.any,.any,.any,.any,.any,.any,.any,.any,.any,.any,.any,.any,.any,.any,.any,.any,.any,.any,.any,.any,.any,.any,.any,.any,.any,.any,.any,.any,.any,.any,.any,.any,.any,.any,.any,.any,.any,.any,.any] ∧
   s=st.set pid (.cells (ZX T q))++(.cells qD::b :: .cells (zH nd).cells::ex)) (n:=T.length+2) ?_ ⟨n0,_,_,[],h,rfl,rfl⟩ ?_
  ·repeat (first | exact zi | refine zh _ ?_ | refine zf _ ?_ | refine ze _ ?_)
  rintro m env s ⟨nd,q,b,ex,hl,rfl,rfl⟩
  cases m with
  | zero=>cases hl
  | succ m =>
  simp only[Vv,Option.bind_eq_some_iff] at hl
  obtain⟨t,ht,hl⟩:=hl
  cases hb:QT t with
  | false =>
   rw[hb] at hl
   simp only[Bool.false_eq_true,if_false,Option.some.injEq,Prod.mk.injEq] at hl
   obtain⟨rfl,rfl⟩:=hl
   unfold qD
   simp only[go_sem]
   refine Vm ht (zl hp) ?_
   simp only[go_sem,hb]
   exact Zk hk
  | true =>
   rw[hb] at hl
   simp only[if_true,Bool.false_eq_true,if_false,Option.bind_eq_some_iff,Prod.exists] at hl
   obtain⟨x,q2,h4,hl⟩:=hl
   simp only[go_sem]
   refine Vm ht (zl hp) ?_
   simp only[go_sem,hb,c0]
   refine zO [] [(0,[6]),(0,[6]),(0,[6]),(0,[]),(3,[6]),(0,[]),(3,[7]),(1,[8])] Tryz.mixed rfl ?_
   simp only[go_sem,zw,zt,zr,zp,zq,zE,zF,zu,zg,qD,QA]
   refine⟨_,_,zcM hT he hpt _ _ _ h4 _ _ (zl hp) ⟨rfl,rfl⟩,?_⟩
   simp only[go_sem,zw,zt,zr,zp,zq,zE,zF,zu,zg,za hp,QA]
   rw[zJ]
   refine⟨.slice .full 6 [zH nd,zH x],?_,?_⟩
   ·simp only[go_sem]
    exact⟨⟨[],by simp⟩,zY _ _ (.inr rfl) _ [_,_],.inl rfl⟩
   refine⟨_,_,JK (kids:=[nd,x]) (.inl rfl) ⟨rfl,rfl⟩,?_⟩
   simp only[go_sem,zw,zt,zr,zp,zq,zE,zF,zu,zg,za hp,zfs,List.append_nil]
   refine⟨m,_,by omega,?_,zR 7 nd.pos [] [nd,x],q2,b,_,hl,rfl,rfl⟩
   simp only[c0]
   repeat (first | exact zi | refine zh _ ?_ | refine zf _ ?_ | refine ze _ ?_)
end Go.Proofs
namespace Go.Proofs
open Go Go.AL
theorem zxK {T:List Tk} (hT:T.length≤100000) {pid:Nat} {e pt:PM Nd} (he:HC T pid 79 e) (hpt:HC T pid 170 pt):HC T pid 140 (zhp T e pt):=by
 intro p r p' h K st hp hk
 unfold zhp at h
 rw[Option.bind_eq_some_iff] at h
 obtain⟨t,h1,h⟩:=h
 by_cases hc:t.kind=6∧0<(Qn t.text).1
 ·rw[if_pos hc] at h
  exact zvu hT he hpt h1 hc h hp hk
 ·rw[if_neg hc] at h
  by_cases h4:t.kind=4
  ·rw[show (t.kind==4)=true by simp[h4]] at h
   exact zvA hT he hpt h1 h4 h hp hk
  ·rw[show (t.kind==4)=false by simp[h4]] at h
   exact zu6 hT he hpt h1 hc h4 h hp hk
def HS (T:List Tk) (pid:Nat) (signs:List Tx) (e:PM Nd):Prop:=∀ (p:PS) (r:Nd) (p':PS),e p=some (r,p')→∀ (K:SV→St→Prop) (st:St),V8 T pid p st→K (zH r) (st.set pid (.cells (ZX T p')))→ACalls Tryz.prog 126 [.ptr pid 0,.slice .full 1 (signs.map qv)] K st
def HP (T:List Tk) (pid:Nat) (signs:List Tx) (e:PM Nd):Prop:=∀ (p:PS) (r:Nd) (p':PS),e p=some (r,p')→∀ (K:SV→St→Prop) (st:St),V8 T pid p st→K (zH r) (st.set pid (.cells (ZX T p')))→ACalls Tryz.prog 139 [.ref [.slice .full 1 (signs.map qv)],.ref [.ptr pid 0]] K st
def ztH (st ex:St) (tid:Nat) (t:Tk):Prop:=∃ j,tid=st.length+2+j∧ex[j]?=some (.cells (ZB t).cells)
theorem zjI {st ex:St} {tid:Nat} {t:Tk} (h:ztH st ex tid t) (pid:Nat) (X:Ob) (a b:Ob):inS (st.set pid X++a::b::ex) tid=True∧Zr (st.set pid X++a::b::ex) tid=True ∧
  qG (st.set pid X++a::b::ex) tid=[.sc (.int .i64 t.kind),.sc (.string (ba t.text)),.sc (.int .i64 t.num),.sc (.int .i64 t.pos)]:=by
 obtain⟨j,rfl,hj⟩:=h
 refine zT ?_
 rw[List.getElem?_append_right (by simp;omega)]
 simp only[List.length_set,show st.length+2+j-st.length=j+1+1 by omega,List.getElem?_cons_succ]
 exact hj
theorem zqw {T:List Tk} (hT:T.length≤100000) {pid:Nat} {signs:List Tx} (hs:signs.length≤1000000) {part:PM Nd} (hpart:HP T pid signs part):HS T pid signs (za9 T part signs):=by
 intro p r p' h K st hp hk
 refine zK (zC [] Tryz.func126 rfl Tryz.results126 Tryz.ntmps126 ?_)
 unfold za9 at h
 simp only[Option.bind_eq_some_iff,Prod.exists] at h
 obtain⟨n0,p1,h1,t0,h2,h⟩:=h
 simp only[go_sem]
 refine hpart _ _ _ h1 _ _ (zG hp) ?_
 simp only[go_sem,za hp]
 first | (unfold zk;simp only[zd,zb,zo,List.set_cons_succ,List.set_cons_zero,List.getD_cons_succ,List.getD_cons_zero]) | skip
 refine qp h2 (zl hp) ?_
 simp only[go_sem,za hp]
 refine zM [] (fun m env s=>∃ (t:Tk) (nd:Nd) (q:PS) (tid:Nat) (ex:St),za4 T part signs m t nd q=some (r,p')∧ztH st ex tid t∧env=[.any,.any,.ref [.ptr pid 0],.ref [.slice .full 1 (signs.map qv)],.ptr st.length 0,.func (.func 139) [] [.ref [.slice .full 1 (signs.map qv)],.ref [.ptr pid 0]],.ptr (st.length+1) 0,.ptr tid 0,.any,.any,.any,.any,.any,.any,.any,.any,.any,.any,.any,.any,.any,.any,.any,.any,.any,.any,.any,.any,.any,.any,.any,.any,.any,.any,.any,.any,.any] ∧
  s=st.set pid (.cells (ZX T q))++(.cells qD :: .cells (zH nd).cells::ex)) (n:=T.length+2) ?_ ⟨t0,n0,_,st.length+2,_,h,⟨0,rfl,rfl⟩,rfl,rfl⟩ ?_
 ·repeat (first | exact zi | refine zh _ ?_ | refine zf _ ?_ | refine ze _ ?_)
 rintro m env s ⟨t,nd,q,tid,ex,hl,htok,rfl,rfl⟩
 cases m with
 | zero=>cases hl
 | succ m =>
 simp only[za4] at hl
 have yt:=zjI htok pid
 have y1:=fun X a b=>(yt X a b).1
 have y2:=fun X a b=>(yt X a b).2.1
 have y3:=fun X a b=>(yt X a b).2.2
 by_cases hc:t.kind=5
 ·have c1:(t.kind==5)=true:=by simp[hc]
  by_cases hm:t.text∈signs
  ·have c2:decide (t.text∈signs)=true:=by simp[hm]
   rw[if_pos ⟨hc,hm⟩] at hl
   simp only[Option.bind_eq_some_iff,Prod.exists] at hl
   obtain⟨t1,q1,h4,x,q2,h5,t2,h6,hl⟩:=hl
   simp only[go_sem,y1,y2,y3,c1]
   refine zep hs ?_
   simp only[go_sem,y1,y2,y3,c1,c2]
   first | (unfold zk;simp only[zd,zb,zo,List.set_cons_succ,List.set_cons_zero,List.getD_cons_succ,List.getD_cons_zero]) | skip
   refine QC hT h4 (zl hp) ?_
   simp only[go_sem,za hp,y1,y2,y3]
   refine zO [] [(0,[8]),(0,[8]),(0,[8]),(0,[8]),(0,[8]),(0,[]),(3,[8]),(0,[]),(3,[9]),(1,[10])] Tryz.mixed rfl ?_
   simp only[go_sem,zw,zt,zr,zp,zq,zE,zF,zu,zg,qD,QA,y1,y2,y3]
   refine⟨_,_,hpart _ _ _ h5 _ _ (zl hp) ⟨rfl,rfl⟩,?_⟩
   simp only[go_sem,zw,zt,zr,zp,zq,zE,zF,zu,zg,za hp,QA,y1,y2,y3]
   rw[zJ]
   refine⟨.slice .full 6 [zH nd,zH x],?_,?_⟩
   ·simp only[go_sem]
    exact⟨⟨[],by simp⟩,zY _ _ (.inr rfl) _ [_,_],.inl rfl⟩
   refine⟨_,_,JK (kids:=[nd,x]) (.inl rfl) ⟨rfl,rfl⟩,?_⟩
   simp only[go_sem,zw,zt,zr,zp,zq,zE,zF,zu,zg,za hp,zfs,List.append_nil,y1,y2,y3]
   refine qp h6 (zl hp) ?_
   simp only[go_sem,za hp,y1,y2,y3]
   refine⟨m,_,by omega,?_,t2,zR 13 nd.pos t.text [nd,x],q2,st.length+(ex.length+2),_,hl,⟨ex.length,by omega,by simp;rfl⟩,rfl,rfl⟩
   repeat (first | exact zi | refine zh _ ?_ | refine zf _ ?_ | refine ze _ ?_)
  ·have c2:decide (t.text∈signs)=false:=by simp[hm]
   rw[if_neg (fun h=>hm h.2)] at hl
   simp only[Option.some.injEq,Prod.mk.injEq] at hl
   obtain⟨rfl,rfl⟩:=hl
   unfold qD
   simp only[go_sem,y1,y2,y3,c1]
   refine zep hs ?_
   simp only[go_sem,y1,y2,y3,c1,c2]
   exact Zk hk
 ·have c1:(t.kind==5)=false:=by simp[hc]
  rw[if_neg (fun h=>hc h.1)] at hl
  simp only[Option.some.injEq,Prod.mk.injEq] at hl
  obtain⟨rfl,rfl⟩:=hl
  unfold qD
  simp only[go_sem,y1,y2,y3,c1]
  exact Zk hk
theorem zsm {T:List Tk} {pid:Nat} {e:PM Nd} (he:HC T pid 140 e):HP T pid zhq e:=by
 intro p r p' h K st hp hk
 refine zK (zC [] Tryz.func139 rfl Tryz.results139 Tryz.ntmps139 ?_)
 unfold zhq qv
 simp only[go_sem,List.map_cons,List.map_nil]
 refine⟨by decide,fun _=>?_,fun h=>absurd h (by decide)⟩
 refine he _ _ _ h _ _ (zG hp) ?_
 simp only[go_sem,za hp]
 exact Zk hk
theorem zr3 {T:List Tk} {pid:Nat} {e:PM Nd} (he:HS T pid zhq e):HP T pid signsP e:=by
 intro p r p' h K st hp hk
 refine zK (zC [] Tryz.func139 rfl Tryz.results139 Tryz.ntmps139 ?_)
 unfold signsP qv
 simp only[go_sem,List.map_cons,List.map_nil]
 refine⟨by decide,fun h=>absurd h (by decide),fun _=>?_⟩
 refine he _ _ _ h _ _ (zG hp) ?_
 simp only[go_sem,za hp]
 exact Zk hk
theorem zx1 {T:List Tk} (hT:T.length≤100000) {pid:Nat} {e pt:PM Nd} (he:HC T pid 79 e) (hpt:HC T pid 170 pt):HS T pid signsP (znX T e pt) :=
 zqw hT (by decide) (zr3 (zqw hT (by decide) (zsm (zxK hT he hpt))))
theorem zgo {T:List Tk} (hT:T.length≤100000) {pid:Nat} {e pt:PM Nd} (he:HC T pid 79 e) (hpt:HC T pid 170 pt):HC T pid 108 (zhK T e pt):=by
 intro p r p' h K st hp hk
 have hs:=zx1 hT he hpt
 refine zK (zC [] Tryz.func108 rfl Tryz.results108 Tryz.ntmps108 ?_)
 unfold zhK at h
 simp only[Option.bind_eq_some_iff,Prod.exists] at h
 obtain⟨n0,p1,h1,t,h2,h⟩:=h
 cases b1:isT t [61] with
 | true =>
  rw[if_pos (.inl b1)] at h
  simp only[Option.bind_eq_some_iff,Option.map_eq_some_iff,Prod.exists,Prod.mk.injEq] at h
  obtain⟨t1,p2,h3,x,p3,h4,rfl,rfl⟩:=h
  simp only[go_sem]
  refine hs _ _ _ h1 _ _ (zG hp) ?_
  simp only[go_sem,za hp]
  first | (unfold zk;simp only[zd,zb,zo,List.set_cons_succ,List.set_cons_zero,List.getD_cons_succ,List.getD_cons_zero]) | skip
  refine qp h2 (zl hp) ?_
  simp only[go_sem,za hp]
  first | (unfold zk;simp only[zd,zb,zo,List.set_cons_succ,List.set_cons_zero,List.getD_cons_succ,List.getD_cons_zero]) | skip
  refine Zs h2 (zl hp) ?_
  simp only[go_sem,za hp,b1]
  first | (unfold zk;simp only[zd,zb,zo,List.set_cons_succ,List.set_cons_zero,List.getD_cons_succ,List.getD_cons_zero]) | skip
  refine QC hT h3 (zl hp) ?_
  simp only[go_sem,za hp]
  refine zO [] [(0,[9]),(0,[9]),(0,[9]),(0,[9]),(0,[9]),(0,[]),(0,[]),(3,[9]),(0,[]),(3,[10]),(1,[11])] Tryz.mixed rfl ?_
  simp only[go_sem,zw,zt,zr,zp,zq,zE,zF,zu,zg,QA]
  rw[zJ]
  refine⟨.slice .full 1 (signsP.map qv),?_,?_⟩
  ·simp only[go_sem]
   exact⟨⟨[],by simp⟩,ZL _ _ (.inr rfl) _ _,.inl rfl⟩
  refine⟨_,_,hs _ _ _ h4 _ _ (zl hp) ⟨rfl,rfl⟩,?_⟩
  simp only[go_sem,zw,zt,zr,zp,zq,zE,zF,zu,zg,za hp,QA]
  rw[zJ]
  refine⟨.slice .full 6 [zH n0,zH x],?_,?_⟩
  ·simp only[go_sem]
   exact⟨⟨[],by simp⟩,zY _ _ (.inr rfl) _ [_,_],.inl rfl⟩
  refine⟨_,_,JK (kids:=[n0,x]) (.inl rfl) ⟨rfl,rfl⟩,?_⟩
  simp only[go_sem,zw,zt,zr,zp,zq,zE,zF,zu,zg,za hp]
  exact Zk hk
 | false =>
 cases b2:isT t [60] with
 | true =>
  rw[if_pos (.inr b2)] at h
  simp only[Option.bind_eq_some_iff,Option.map_eq_some_iff,Prod.exists,Prod.mk.injEq] at h
  obtain⟨t1,p2,h3,x,p3,h4,rfl,rfl⟩:=h
  simp only[go_sem]
  refine hs _ _ _ h1 _ _ (zG hp) ?_
  simp only[go_sem,za hp]
  first | (unfold zk;simp only[zd,zb,zo,List.set_cons_succ,List.set_cons_zero,List.getD_cons_succ,List.getD_cons_zero]) | skip
  refine qp h2 (zl hp) ?_
  simp only[go_sem,za hp]
  first | (unfold zk;simp only[zd,zb,zo,List.set_cons_succ,List.set_cons_zero,List.getD_cons_succ,List.getD_cons_zero]) | skip
  refine Zs h2 (zl hp) ?_
  simp only[go_sem,za hp,b1]
  first | (unfold zk;simp only[zd,zb,zo,List.set_cons_succ,List.set_cons_zero,List.getD_cons_succ,List.getD_cons_zero]) | skip
  refine Zs h2 (zl hp) ?_
  simp only[go_sem,za hp,b1,b2]
  first | (unfold zk;simp only[zd,zb,zo,List.set_cons_succ,List.set_cons_zero,List.getD_cons_succ,List.getD_cons_zero]) | skip
  refine QC hT h3 (zl hp) ?_
  simp only[go_sem,za hp]
  refine zO [] [(0,[9]),(0,[9]),(0,[9]),(0,[9]),(0,[9]),(0,[]),(0,[]),(3,[9]),(0,[]),(3,[10]),(1,[11])] Tryz.mixed rfl ?_
  simp only[go_sem,zw,zt,zr,zp,zq,zE,zF,zu,zg,QA]
  rw[zJ]
  refine⟨.slice .full 1 (signsP.map qv),?_,?_⟩
  ·simp only[go_sem]
   exact⟨⟨[],by simp⟩,ZL _ _ (.inr rfl) _ _,.inl rfl⟩
  refine⟨_,_,hs _ _ _ h4 _ _ (zl hp) ⟨rfl,rfl⟩,?_⟩
  simp only[go_sem,zw,zt,zr,zp,zq,zE,zF,zu,zg,za hp,QA]
  rw[zJ]
  refine⟨.slice .full 6 [zH n0,zH x],?_,?_⟩
  ·simp only[go_sem]
   exact⟨⟨[],by simp⟩,zY _ _ (.inr rfl) _ [_,_],.inl rfl⟩
  refine⟨_,_,JK (kids:=[n0,x]) (.inl rfl) ⟨rfl,rfl⟩,?_⟩
  simp only[go_sem,zw,zt,zr,zp,zq,zE,zF,zu,zg,za hp]
  exact Zk hk
 | false =>
  rw[if_neg (by simp[b1,b2])] at h
  simp only[Option.some.injEq,Prod.mk.injEq] at h
  obtain⟨rfl,rfl⟩:=h
  simp only[go_sem]
  refine hs _ _ _ h1 _ _ (zG hp) ?_
  simp only[go_sem,za hp]
  first | (unfold zk;simp only[zd,zb,zo,List.set_cons_succ,List.set_cons_zero,List.getD_cons_succ,List.getD_cons_zero]) | skip
  refine qp h2 (zl hp) ?_
  simp only[go_sem,za hp]
  first | (unfold zk;simp only[zd,zb,zo,List.set_cons_succ,List.set_cons_zero,List.getD_cons_succ,List.getD_cons_zero]) | skip
  refine Zs h2 (zl hp) ?_
  simp only[go_sem,za hp,b1]
  first | (unfold zk;simp only[zd,zb,zo,List.set_cons_succ,List.set_cons_zero,List.getD_cons_succ,List.getD_cons_zero]) | skip
  refine Zs h2 (zl hp) ?_
  simp only[go_sem,za hp,b1,b2]
  exact Zk hk
end Go.Proofs
