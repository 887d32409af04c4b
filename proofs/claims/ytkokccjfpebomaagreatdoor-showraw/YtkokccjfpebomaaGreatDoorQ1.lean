/- app. -/
import Derived.Test.YtkokccjfpebomaaGreatDoorN7
set_option linter.all false
set_option maxHeartbeats 4000000
set_option maxRecDepth 8000
namespace Go.Proofs
open Go Go.AL Tryz
theorem Mj(s:Tx):∃ n:Nat,(qJ s).2=n∧n≤2:=by
 unfold qJ;repeat (first | split | exact⟨1,rfl,by omega⟩ | exact⟨2,rfl,by omega⟩ | exact⟨0,rfl,by omega⟩)
theorem A4{T:List Tk}(hT:T.length≤100000){pid:Nat}{e pt:PM Nd}(he:HC T pid 79 e)(hpt:HC T pid 170 pt){p p':PS}{t:Tk}{r:Nd}(h1:zH T p=some t)(hc:t.kind=6∧0<(qJ t.text).1)
  (h:((ZR T p).bind fun r=>Xl T e pt (qJ t.text).2.toNat (zw (qJ t.text).1 t.pos [] []) r.2)=some (r,p')) {K:SV→St→Prop} {st:St} (hp:KF T pid p st) (hk:K (zq r) (st.set pid (.cells (Qn T p')))):ACalls prog 140 [.ptr pid 0] K st:=by
 obtain⟨many,hm1,hm2⟩:=Mj t.text;rw[hm1] at h;simp only[xoB,xpX,Int.toNat_natCast] at h;obtain⟨t1,p1,h2,h⟩:=h;have c1:(t.kind==6)=true:=by simp[hc.1]
 have c2:decide (0<(qJ t.text).1)=true:=by simp[hc.2]
 refine zA (zp [] func140 rfl results140 ntmps140 ?_);simp only[go_sem];refine qi h1 (zu hp) ?_;simp only[go_sem];refine ji ?_;simp only[go_sem,c1,c2,gt_iff_lt,hm1];first | (unfold zf;simp only[ze,zc,zl,xsS,xsZ,xgS,xgZ]) | skip
 refine Q9 hT h2 (zu hp) ?_;simp only[go_sem,zb hp];first | (unfold zf;simp only[ze,zc,zl,xsS,xsZ,xgS,xgZ]) | skip
 refine XF rfl rfl rfl rfl (fun _=>rfl) (zT (.inr rfl) (fun x hx=>by cases hx)) ?_;unfold Xk;simp only[go_sem,zb hp];refine ZS (st.length+2) 5 6 0 (Zi 2) (by simp) rfl ?_;rw[QK];simp only[xlA,XG,xlC,xlN,xsS,xsZ,xaA,xcA,xnA,Nat.zero_add,Nat.reduceAdd];refine zx [] (fun m env s=>∃ (nd:Nd) (q:PS) (k j:Nat) (b:Ob) (ex:St),Xl T e pt m nd q=some (r,p')∧j+m=many∧nd.kids.length≤j∧nd.names=[]∧env=[.ptr pid 0,.any,.ptr st.length 0,.any,.any,.any,.ptr (st.length+2) 0,.any,.any,.any,.any,.any,.any,.any,.any,.any,.any,.any,.any,.any,.any,.any,.any,.any,.any,.any,.any,.any,.any,.any,.sc (.int .i64 (qJ t.text).2),.sc (.int .i64 j),.any,.any,.any,.any,.any,.any,.any,.any,.any,.any,.any,.any,.any,.any,.any,.any,.any,.any,.any,.any,.any,.any,.any,.any,.any,.any,.any,.any,.any,.any,.any,.any,.any,.any,.any,.any,.any,.any] ∧
  s=st.set pid (.cells (Qn T q))++(.cells qv::b :: .cells (qk (st.length+3) k nd) :: .tok k::ex)) (n:=many) ?_ ⟨_,_,0,0,_,[],h,by omega,by simp[zw,Nd.kids],rfl,rfl,rfl⟩ ?_
 ·exact qu
 rintro m env s ⟨nd,q,k,j,b,ex,hl,hm,hkn,hnm,rfl,rfl⟩;cases m with
 | zero =>
  have c3:decide ((j:Int)<(qJ t.text).2)=false:=by rw[hm1];simp;omega
  cases hl;unfold qk qv;simp only[go_sem,c3];exact V1 hk hnm
 | succ m =>
  have c3:decide ((j:Int)<(qJ t.text).2)=true:=by rw[hm1];simp;omega
  have hw:IntKind.i64.wrap ((j:Int)+1)=((j+1:Nat):Int):=by rw[IntWalk.i64_in _ (by omega)];rfl
  simp only[Xl,xoB,xpX] at hl;obtain⟨x,q1,h4,hl⟩:=hl;unfold qk;simp only[go_sem,c3];refine zB [] [(0,[5]),(0,[5]),(0,[]),(3,[5]),(0,[]),(3,[7]),(0,[]),(1,[8])] mixed rfl ?_;simp only[go_sem,qv];refine⟨_,_,EC hT he hpt _ _ _ h4 _ _ (zh hp) ⟨rfl,rfl⟩,?_⟩;simp only[go_sem,zb hp];rw[zt];refine⟨.slice .full 6 [zq x],?_,?_⟩
  ·simp only[go_sem];exact⟨⟨[],by simp⟩,zM _ _ (.inr rfl) _ [_],.inl rfl⟩
  simp only[go_sem];refine⟨_,_,⟨Tryz.app6 (by omega),rfl,rfl⟩,?_⟩;simp only[go_sem,hw];refine⟨m,_,by omega,?_,nd.addKid x,q1,k+1,j+1,b,_,hl,by omega,by rw[zQ];simp;omega,by rw[qh];exact hnm,rfl,by rw[qV,qT,Zv,Zu,zQ,xmA];rfl⟩;exact qu
theorem Gp{t:Tk}(h:t.kind=4)(s:Tx):isT t s=false:=by
 unfold isT;simp[h]
theorem iR{T:List Tk}(hT:T.length≤100000){pid:Nat}{e pt:PM Nd}(he:HC T pid 79 e)(hpt:HC T pid 170 pt){p p':PS}{t0:Tk}{r:Nd}(h1:zH T p=some t0)(hc:t0.kind=4)
  (h:((ZL T e pt p).bind fun r=>Yp T e pt (T.length+2) true r.1 r.2)=some (r,p')) {K:SV→St→Prop} {st:St} (hp:KF T pid p st) (hk:K (zq r) (st.set pid (.cells (Qn T p')))):ACalls prog 140 [.ptr pid 0] K st:=by
 simp only[xoB,xpX] at h;obtain⟨n0,p1,h2,h⟩:=h;have hl0:Xc T [(1,1),(2,2),(3,4),(4,5)] p=some (n0,p1):=by
  unfold ZL at h2;rw[h1] at h2;simp only[xbS,Gp hc,XU,if_false] at h2;exact h2
 have hnm0:=Jt hl0;have c1:(t0.kind==6)=false:=by simp[hc]
 have c0:(t0.kind==4)=true:=by simp[hc]
 refine zA (zp [] func140 rfl results140 ntmps140 ?_);simp only[go_sem];refine qi h1 (zu hp) ?_;simp only[go_sem];refine ji ?_;simp only[go_sem,c1];first | (unfold zf;simp only[ze,zc,zl,xsS,xsZ,xgS,xgZ]) | skip
 refine hO hT h1 (Gp hc _) (Gp hc _) (Gp hc _) (Gp hc _) hl0 (zu hp) ?_;rw[L5 hnm0];simp only[go_sem,zb hp];refine ZS (st.length+2) 5 6 0 (Zi 2) (by simp) rfl ?_;rw[QK];simp only[xlA,XG,xlC,xlN,xsS,xsZ,xaA,xcA,xnA,Nat.zero_add,Nat.reduceAdd];refine zx [] (fun m env s=>∃ (nd:Nd) (q:PS) (k:Nat) (b:Ob) (ex:St),Yp T e pt m true nd q=some (r,p')∧m+nd.kids.length≤T.length+2∧nd.names=[]∧env=[.ptr pid 0,.any,.ptr st.length 0,.any,.any,.any,.any,.ptr (st.length+2) 0,.sc (.bool (t0.kind==4)),.any,.any,.any,.any,.any,.any,.any,.any,.any,.any,.any,.any,.any,.any,.any,.any,.any,.any,.any,.any,.any,.any,.any,.any,.any,.any,.any,.any,.any,.any,.any,.any,.any,.any,.any,.any,.any,.any,.any,.any,.any,.any,.any,.any,.any,.any,.any,.any,.any,.any,.any,.any,.any,.any,.any,.any,.any,.any,.any,.any,.any] ∧
  s=st.set pid (.cells (Qn T q))++(.cells qv::b :: .cells (qk (st.length+3) k nd) :: .tok k::ex)) (n:=T.length+2) ?_ ⟨n0,_,0,_,[],h,by rw[hnm0.2];simp,hnm0.1,rfl,by unfold qk;rw[hnm0.2];rfl⟩ ?_
 ·exact qu
 rintro m env s ⟨nd,q,k,b,ex,hl,hm,hnm,rfl,rfl⟩;cases m with
 | zero=>cases hl
 | succ m =>
 simp only[Yp,xoB] at hl;obtain⟨t,ht,hl⟩:=hl;cases hb:qI t with
 | false =>
  rw[hb] at hl;simp only[XU,if_false,xsJ,xpJ] at hl;obtain⟨rfl,rfl⟩:=hl;unfold qk qv;simp only[go_sem];refine Wi ht (zh hp) ?_;simp only[go_sem,hb];exact V1 hk hnm
 | true =>
  rw[hb] at hl;simp only[if_true,xoB,xpX] at hl;obtain⟨q1,h3,x,q2,h4,hl⟩:=hl;unfold qk;simp only[go_sem];refine Wi ht (zh hp) ?_;simp only[go_sem,hb,c0];refine Jq (p':=q1) (n:=nd.kids.length) (by simpa using h3) (zh hp) fun _=>?_;simp only[go_sem,zb hp];refine zB [] [(0,[5]),(0,[5]),(0,[]),(3,[5]),(0,[]),(3,[7]),(0,[]),(1,[8])] mixed rfl ?_;simp only[go_sem,qv];refine⟨_,_,EC hT he hpt _ _ _ h4 _ _ (zh hp) ⟨rfl,rfl⟩,?_⟩;simp only[go_sem,zb hp];rw[zt];refine⟨.slice .full 6 [zq x],?_,?_⟩
  ·simp only[go_sem];exact⟨⟨[],by simp⟩,zM _ _ (.inr rfl) _ [_],.inl rfl⟩
  simp only[go_sem];refine⟨_,_,⟨Tryz.app6 (by omega),rfl,rfl⟩,?_⟩;simp only[go_sem];refine⟨m,_,by omega,?_,nd.addKid x,q2,k+1,b,_,hl,by rw[zQ];simp;omega,by rw[qh];exact hnm,rfl,by rw[qV,qT,Zv,Zu,zQ,xmA];rfl⟩;exact qu
theorem Bh(n:Nd):List.drop 6 (zq n).cells=[]:=by rw[za];rfl
theorem QU(n:Nd):List.drop 3 (zq n).cells=[.sc (.int .i64 n.pos),.slice .imm 1 (n.names.map qc),.slice .imm 6 (n.kids.map zq)]:=by rw[za];rfl
theorem iy{T:List Tk}(hT:T.length≤100000){pid:Nat}{e pt:PM Nd}(he:HC T pid 79 e)(hpt:HC T pid 170 pt){p p':PS}{t0:Tk}{r:Nd}(h1:zH T p=some t0)(hc:¬ (t0.kind=6∧0<(qJ t0.text).1))(hc4:¬ t0.kind=4)
  (h:((ZL T e pt p).bind fun r=>Yp T e pt (T.length+2) false r.1 r.2)=some (r,p')) {K:SV→St→Prop} {st:St} (hp:KF T pid p st) (hk:K (zq r) (st.set pid (.cells (Qn T p')))):ACalls prog 140 [.ptr pid 0] K st:=by
 simp only[xoB,xpX] at h;obtain⟨n0,p1,h2,h⟩:=h;have c0:(t0.kind==4)=false:=by simp[hc4]
 refine zA (zp [] func140 rfl results140 ntmps140 ?_);by_cases h6:t0.kind=6
 ·have c1:(t0.kind==6)=true:=by simp[h6]
  have c2:decide (0<(qJ t0.text).1)=false:=by simp;exact Int.not_lt.1 fun h=>hc ⟨h6,h⟩
  simp only[go_sem];refine qi h1 (zu hp) ?_;simp only[go_sem];refine ji ?_;simp only[go_sem,c1,c2,gt_iff_lt];first | (unfold zf;simp only[ze,zc,zl,xsS,xsZ,xgS,xgZ]) | skip
  refine EC hT he hpt _ _ _ h2 _ _ (zu hp) ?_;simp only[go_sem,zb hp];refine zx [] (fun m env s=>∃ (nd:Nd) (q:PS) (b:Ob) (ex:St),Yp T e pt m false nd q=some (r,p')∧env=[.ptr pid 0,.any,.ptr st.length 0,.any,.any,.any,.any,.ptr (st.length+2) 0,.sc (.bool (t0.kind==4)),.any,.any,.any,.any,.any,.any,.any,.any,.any,.any,.any,.any,.any,.any,.any,.any,.any,.any,.any,.any,.any,.any,.any,.any,.any,.any,.any,.any,.any,.any,.any,.any,.any,.any,.any,.any,.any,.any,.any,.any,.any,.any,.any,.any,.any,.any,.any,.any,.any,.any,.any,.any,.any,.any,.any,.any,.any,.any,.any,.any,.any] ∧
   s=st.set pid (.cells (Qn T q))++(.cells qv::b :: .cells (zq nd).cells::ex)) (n:=T.length+2) ?_ ⟨n0,_,_,[],h,rfl,rfl⟩ ?_
  ·exact qu
  rintro m env s ⟨nd,q,b,ex,hl,rfl,rfl⟩;cases m with
  | zero=>cases hl
  | succ m =>
  simp only[Yp,xoB] at hl;obtain⟨t,ht,hl⟩:=hl;cases hb:qI t with
  | false =>
   rw[hb] at hl;simp only[XU,if_false,xsJ,xpJ] at hl;obtain⟨rfl,rfl⟩:=hl;unfold qv;simp only[go_sem];refine Wi ht (zh hp) ?_;simp only[go_sem,hb];exact Zw hk
  | true =>
   rw[hb] at hl;simp only[if_true,XU,if_false,xoB,xpX] at hl;obtain⟨x,q2,h4,hl⟩:=hl;simp only[go_sem];refine Wi ht (zh hp) ?_;simp only[go_sem,hb,c0];refine zB [] [(0,[6]),(0,[6]),(0,[6]),(0,[]),(3,[6]),(0,[]),(3,[7]),(1,[8])] mixed rfl ?_;simp only[go_sem,qv,QU];refine⟨_,_,EC hT he hpt _ _ _ h4 _ _ (zh hp) ⟨rfl,rfl⟩,?_⟩;simp only[go_sem,zb hp,QU];rw[zt];refine⟨.slice .full 6 [zq nd,zq x],?_,?_⟩
   ·simp only[go_sem];exact⟨⟨[],by simp⟩,zM _ _ (.inr rfl) _ [_,_],.inl rfl⟩
   refine⟨_,_,VX (kids:=[nd,x]) (.inl rfl) ⟨rfl,rfl⟩,?_⟩;simp only[go_sem,zb hp,Bh,xaN];refine⟨m,_,by omega,?_,zw 7 nd.pos [] [nd,x],q2,b,_,hl,rfl,rfl⟩;simp only[c0];exact qu
 ·have c1:(t0.kind==6)=false:=by simp[h6]
  simp only[go_sem];refine qi h1 (zu hp) ?_;simp only[go_sem];refine ji ?_;simp only[go_sem,c1];first | (unfold zf;simp only[ze,zc,zl,xsS,xsZ,xgS,xgZ]) | skip
  refine EC hT he hpt _ _ _ h2 _ _ (zu hp) ?_;simp only[go_sem,zb hp];refine zx [] (fun m env s=>∃ (nd:Nd) (q:PS) (b:Ob) (ex:St),Yp T e pt m false nd q=some (r,p')∧env=[.ptr pid 0,.any,.ptr st.length 0,.any,.any,.any,.any,.ptr (st.length+2) 0,.sc (.bool (t0.kind==4)),.any,.any,.any,.any,.any,.any,.any,.any,.any,.any,.any,.any,.any,.any,.any,.any,.any,.any,.any,.any,.any,.any,.any,.any,.any,.any,.any,.any,.any,.any,.any,.any,.any,.any,.any,.any,.any,.any,.any,.any,.any,.any,.any,.any,.any,.any,.any,.any,.any,.any,.any,.any,.any,.any,.any,.any,.any,.any,.any,.any,.any] ∧
   s=st.set pid (.cells (Qn T q))++(.cells qv::b :: .cells (zq nd).cells::ex)) (n:=T.length+2) ?_ ⟨n0,_,_,[],h,rfl,rfl⟩ ?_
  ·exact qu
  rintro m env s ⟨nd,q,b,ex,hl,rfl,rfl⟩;cases m with
  | zero=>cases hl
  | succ m =>
  simp only[Yp,xoB] at hl;obtain⟨t,ht,hl⟩:=hl;cases hb:qI t with
  | false =>
   rw[hb] at hl;simp only[XU,if_false,xsJ,xpJ] at hl;obtain⟨rfl,rfl⟩:=hl;unfold qv;simp only[go_sem];refine Wi ht (zh hp) ?_;simp only[go_sem,hb];exact Zw hk
  | true =>
   rw[hb] at hl;simp only[if_true,XU,if_false,xoB,xpX] at hl;obtain⟨x,q2,h4,hl⟩:=hl;simp only[go_sem];refine Wi ht (zh hp) ?_;simp only[go_sem,hb,c0];refine zB [] [(0,[6]),(0,[6]),(0,[6]),(0,[]),(3,[6]),(0,[]),(3,[7]),(1,[8])] mixed rfl ?_;simp only[go_sem,qv,QU];refine⟨_,_,EC hT he hpt _ _ _ h4 _ _ (zh hp) ⟨rfl,rfl⟩,?_⟩;simp only[go_sem,zb hp,QU];rw[zt];refine⟨.slice .full 6 [zq nd,zq x],?_,?_⟩
   ·simp only[go_sem];exact⟨⟨[],by simp⟩,zM _ _ (.inr rfl) _ [_,_],.inl rfl⟩
   refine⟨_,_,VX (kids:=[nd,x]) (.inl rfl) ⟨rfl,rfl⟩,?_⟩;simp only[go_sem,zb hp,Bh,xaN];refine⟨m,_,by omega,?_,zw 7 nd.pos [] [nd,x],q2,b,_,hl,rfl,rfl⟩;simp only[c0];exact qu
theorem Mv{T:List Tk}(hT:T.length≤100000){pid:Nat}{e pt:PM Nd}(he:HC T pid 79 e)(hpt:HC T pid 170 pt):HC T pid 140 (Jf T e pt):=by
 intro p r p' h K st hp hk;unfold Jf at h;rw[xoB] at h;obtain⟨t,h1,h⟩:=h;by_cases hc:t.kind=6∧0<(qJ t.text).1
 ·rw[if_pos hc] at h;exact A4 hT he hpt h1 hc h hp hk
 ·rw[if_neg hc] at h;by_cases h4:t.kind=4
  ·rw[show (t.kind==4)=true by simp[h4]] at h;exact iR hT he hpt h1 h4 h hp hk
  ·rw[show (t.kind==4)=false by simp[h4]] at h;exact iy hT he hpt h1 hc h4 h hp hk
def HS(T:List Tk)(pid:Nat)(signs:List Tx)(e:PM Nd):Prop:=∀ (p:PS) (r:Nd) (p':PS),e p=some (r,p')→∀ (K:SV→St→Prop) (st:St),KF T pid p st→K (zq r) (st.set pid (.cells (Qn T p')))→ACalls prog 126 [.ptr pid 0,.slice .full 1 (signs.map qc)] K st
def HP(T:List Tk)(pid:Nat)(signs:List Tx)(e:PM Nd):Prop:=∀ (p:PS) (r:Nd) (p':PS),e p=some (r,p')→∀ (K:SV→St→Prop) (st:St),KF T pid p st→K (zq r) (st.set pid (.cells (Qn T p')))→ACalls prog 139 [.ref [.slice .full 1 (signs.map qc)],.ref [.ptr pid 0]] K st
def rG(st ex:St)(tid:Nat)(t:Tk):Prop:=∃ j,tid=st.length+2+j∧ex[j]?=some (.cells (ZF t).cells)
theorem vG{st ex:St}{tid:Nat}{t:Tk}(h:rG st ex tid t)(pid:Nat)(X:Ob)(a b:Ob):Ex (st.set pid X++a::b::ex) tid=True∧ZH (st.set pid X++a::b::ex) tid=True ∧
  qF (st.set pid X++a::b::ex) tid=[.sc (.int .i64 t.kind),.sc (.string (ba t.text)),.sc (.int .i64 t.num),.sc (.int .i64 t.pos)]:=by
 obtain⟨j,rfl,hj⟩:=h;refine zI ?_;rw[List.getElem?_append_right (by simp;omega)];simp only[List.length_set,show st.length+2+j-st.length=j+1+1 by omega,List.getElem?_cons_succ];exact hj
theorem tX{T:List Tk}(hT:T.length≤100000){pid:Nat}{signs:List Tx}(hs:signs.length≤1000000){part:PM Nd}(hpart:HP T pid signs part):HS T pid signs (JV T part signs):=by
 intro p r p' h K st hp hk;refine zA (zp [] func126 rfl results126 ntmps126 ?_);unfold JV at h;simp only[xoB,xpX] at h;obtain⟨n0,p1,h1,t0,h2,h⟩:=h;simp only[go_sem];refine hpart _ _ _ h1 _ _ (zu hp) ?_;simp only[go_sem,zb hp];first | (unfold zf;simp only[ze,zc,zl,xsS,xsZ,xgS,xgZ]) | skip
 refine qi h2 (zh hp) ?_;simp only[go_sem,zb hp];refine zx [] (fun m env s=>∃ (t:Tk) (nd:Nd) (q:PS) (tid:Nat) (ex:St),JW T part signs m t nd q=some (r,p')∧rG st ex tid t∧env=[.any,.any,.ref [.ptr pid 0],.ref [.slice .full 1 (signs.map qc)],.ptr st.length 0,.func (.func 139) [] [.ref [.slice .full 1 (signs.map qc)],.ref [.ptr pid 0]],.ptr (st.length+1) 0,.ptr tid 0,.any,.any,.any,.any,.any,.any,.any,.any,.any,.any,.any,.any,.any,.any,.any,.any,.any,.any,.any,.any,.any,.any,.any,.any,.any,.any,.any,.any,.any] ∧
  s=st.set pid (.cells (Qn T q))++(.cells qv :: .cells (zq nd).cells::ex)) (n:=T.length+2) ?_ ⟨t0,n0,_,st.length+2,_,h,⟨0,rfl,rfl⟩,rfl,rfl⟩ ?_
 ·exact qu
 rintro m env s ⟨t,nd,q,tid,ex,hl,htok,rfl,rfl⟩;cases m with
 | zero=>cases hl
 | succ m =>
 simp only[JW] at hl;have yt:=vG htok pid;have y1:=fun X a b=>(yt X a b).1;have y2:=fun X a b=>(yt X a b).2.1;have y3:=fun X a b=>(yt X a b).2.2;by_cases hc:t.kind=5
 ·have c1:(t.kind==5)=true:=by simp[hc]
  by_cases hm:t.text∈signs
  ·have c2:decide (t.text∈signs)=true:=by simp[hm]
   rw[if_pos ⟨hc,hm⟩] at hl;simp only[xoB,xpX] at hl;obtain⟨t1,q1,h4,x,q2,h5,t2,h6,hl⟩:=hl;simp only[go_sem,y1,y2,y3,c1];refine GO hs ?_;simp only[go_sem,y1,y2,y3,c1,c2];first | (unfold zf;simp only[ze,zc,zl,xsS,xsZ,xgS,xgZ]) | skip
   refine Q9 hT h4 (zh hp) ?_;simp only[go_sem,zb hp,y1,y2,y3];refine zB [] [(0,[8]),(0,[8]),(0,[8]),(0,[8]),(0,[8]),(0,[]),(3,[8]),(0,[]),(3,[9]),(1,[10])] mixed rfl ?_;simp only[go_sem,qv,QU,y1,y2,y3];refine⟨_,_,hpart _ _ _ h5 _ _ (zh hp) ⟨rfl,rfl⟩,?_⟩;simp only[go_sem,zb hp,QU,y1,y2,y3];rw[zt];refine⟨.slice .full 6 [zq nd,zq x],?_,?_⟩
   ·simp only[go_sem];exact⟨⟨[],by simp⟩,zM _ _ (.inr rfl) _ [_,_],.inl rfl⟩
   refine⟨_,_,VX (kids:=[nd,x]) (.inl rfl) ⟨rfl,rfl⟩,?_⟩;simp only[go_sem,zb hp,Bh,xaN,y1,y2,y3];refine qi h6 (zh hp) ?_;simp only[go_sem,zb hp,y1,y2,y3];refine⟨m,_,by omega,?_,t2,zw 13 nd.pos t.text [nd,x],q2,st.length+(ex.length+2),_,hl,⟨ex.length,by omega,by simp;rfl⟩,rfl,rfl⟩;exact qu
  ·have c2:decide (t.text∈signs)=false:=by simp[hm]
   rw[if_neg (fun h=>hm h.2)] at hl;simp only[xsJ,xpJ] at hl;obtain⟨rfl,rfl⟩:=hl;unfold qv;simp only[go_sem,y1,y2,y3,c1];refine GO hs ?_;simp only[go_sem,y1,y2,y3,c1,c2];exact Zw hk
 ·have c1:(t.kind==5)=false:=by simp[hc]
  rw[if_neg (fun h=>hc h.1)] at hl;simp only[xsJ,xpJ] at hl;obtain⟨rfl,rfl⟩:=hl;unfold qv;simp only[go_sem,y1,y2,y3,c1];exact Zw hk
theorem aw{T:List Tk}{pid:Nat}{e:PM Nd}(he:HC T pid 140 e):HP T pid V6 e:=by
 intro p r p' h K st hp hk;refine zA (zp [] func139 rfl results139 ntmps139 ?_);unfold V6 qc;simp only[go_sem,List.map_cons,List.map_nil];refine⟨by decide,fun _=>?_,fun h=>absurd h (by decide)⟩;refine he _ _ _ h _ _ (zu hp) ?_;simp only[go_sem,zb hp];exact Zw hk
theorem ld{T:List Tk}{pid:Nat}{e:PM Nd}(he:HS T pid V6 e):HP T pid signsP e:=by
 intro p r p' h K st hp hk;refine zA (zp [] func139 rfl results139 ntmps139 ?_);unfold signsP qc;simp only[go_sem,List.map_cons,List.map_nil];refine⟨by decide,fun h=>absurd h (by decide),fun _=>?_⟩;refine he _ _ _ h _ _ (zu hp) ?_;simp only[go_sem,zb hp];exact Zw hk
theorem NJ{T:List Tk}(hT:T.length≤100000){pid:Nat}{e pt:PM Nd}(he:HC T pid 79 e)(hpt:HC T pid 170 pt):HS T pid signsP (EK T e pt) :=
 tX hT (by decide) (ld (tX hT (by decide) (aw (Mv hT he hpt))))
theorem Fz{T:List Tk}(hT:T.length≤100000){pid:Nat}{e pt:PM Nd}(he:HC T pid 79 e)(hpt:HC T pid 170 pt):HC T pid 108 (Wn T e pt):=by
 intro p r p' h K st hp hk;have hs:=NJ hT he hpt;refine zA (zp [] func108 rfl results108 ntmps108 ?_);unfold Wn at h;simp only[xoB,xpX] at h;obtain⟨n0,p1,h1,t,h2,h⟩:=h;cases b1:isT t [61] with
 | true =>
  rw[if_pos (.inl b1)] at h;simp only[xoB,xoM,xpX,xpJ] at h;obtain⟨t1,p2,h3,x,p3,h4,rfl,rfl⟩:=h;simp only[go_sem];refine hs _ _ _ h1 _ _ (zu hp) ?_;simp only[go_sem,zb hp];first | (unfold zf;simp only[ze,zc,zl,xsS,xsZ,xgS,xgZ]) | skip
  refine qi h2 (zh hp) ?_;simp only[go_sem,zb hp];first | (unfold zf;simp only[ze,zc,zl,xsS,xsZ,xgS,xgZ]) | skip
  refine ZG h2 (zh hp) ?_;simp only[go_sem,zb hp,b1];first | (unfold zf;simp only[ze,zc,zl,xsS,xsZ,xgS,xgZ]) | skip
  refine Q9 hT h3 (zh hp) ?_;simp only[go_sem,zb hp];refine zB [] [(0,[9]),(0,[9]),(0,[9]),(0,[9]),(0,[9]),(0,[]),(0,[]),(3,[9]),(0,[]),(3,[10]),(1,[11])] mixed rfl ?_;simp only[go_sem,QU];rw[zt];refine⟨.slice .full 1 (signsP.map qc),?_,?_⟩
  ·simp only[go_sem];exact⟨⟨[],by simp⟩,Z1 _ _ (.inr rfl) _ _,.inl rfl⟩
  refine⟨_,_,hs _ _ _ h4 _ _ (zh hp) ⟨rfl,rfl⟩,?_⟩;simp only[go_sem,zb hp,QU];rw[zt];refine⟨.slice .full 6 [zq n0,zq x],?_,?_⟩
  ·simp only[go_sem];exact⟨⟨[],by simp⟩,zM _ _ (.inr rfl) _ [_,_],.inl rfl⟩
  refine⟨_,_,VX (kids:=[n0,x]) (.inl rfl) ⟨rfl,rfl⟩,?_⟩;simp only[go_sem,zb hp];exact Zw hk
 | false =>
 cases b2:isT t [60] with
 | true =>
  rw[if_pos (.inr b2)] at h;simp only[xoB,xoM,xpX,xpJ] at h;obtain⟨t1,p2,h3,x,p3,h4,rfl,rfl⟩:=h;simp only[go_sem];refine hs _ _ _ h1 _ _ (zu hp) ?_;simp only[go_sem,zb hp];first | (unfold zf;simp only[ze,zc,zl,xsS,xsZ,xgS,xgZ]) | skip
  refine qi h2 (zh hp) ?_;simp only[go_sem,zb hp];first | (unfold zf;simp only[ze,zc,zl,xsS,xsZ,xgS,xgZ]) | skip
  refine ZG h2 (zh hp) ?_;simp only[go_sem,zb hp,b1];first | (unfold zf;simp only[ze,zc,zl,xsS,xsZ,xgS,xgZ]) | skip
  refine ZG h2 (zh hp) ?_;simp only[go_sem,zb hp,b1,b2];first | (unfold zf;simp only[ze,zc,zl,xsS,xsZ,xgS,xgZ]) | skip
  refine Q9 hT h3 (zh hp) ?_;simp only[go_sem,zb hp];refine zB [] [(0,[9]),(0,[9]),(0,[9]),(0,[9]),(0,[9]),(0,[]),(0,[]),(3,[9]),(0,[]),(3,[10]),(1,[11])] mixed rfl ?_;simp only[go_sem,QU];rw[zt];refine⟨.slice .full 1 (signsP.map qc),?_,?_⟩
  ·simp only[go_sem];exact⟨⟨[],by simp⟩,Z1 _ _ (.inr rfl) _ _,.inl rfl⟩
  refine⟨_,_,hs _ _ _ h4 _ _ (zh hp) ⟨rfl,rfl⟩,?_⟩;simp only[go_sem,zb hp,QU];rw[zt];refine⟨.slice .full 6 [zq n0,zq x],?_,?_⟩
  ·simp only[go_sem];exact⟨⟨[],by simp⟩,zM _ _ (.inr rfl) _ [_,_],.inl rfl⟩
  refine⟨_,_,VX (kids:=[n0,x]) (.inl rfl) ⟨rfl,rfl⟩,?_⟩;simp only[go_sem,zb hp];exact Zw hk
 | false =>
  rw[if_neg (by simp[b1,b2])] at h;simp only[xsJ,xpJ] at h;obtain⟨rfl,rfl⟩:=h;simp only[go_sem];refine hs _ _ _ h1 _ _ (zu hp) ?_;simp only[go_sem,zb hp];first | (unfold zf;simp only[ze,zc,zl,xsS,xsZ,xgS,xgZ]) | skip
  refine qi h2 (zh hp) ?_;simp only[go_sem,zb hp];first | (unfold zf;simp only[ze,zc,zl,xsS,xsZ,xgS,xgZ]) | skip
  refine ZG h2 (zh hp) ?_;simp only[go_sem,zb hp,b1];first | (unfold zf;simp only[ze,zc,zl,xsS,xsZ,xgS,xgZ]) | skip
  refine ZG h2 (zh hp) ?_;simp only[go_sem,zb hp,b1,b2];exact Zw hk
end Go.Proofs
