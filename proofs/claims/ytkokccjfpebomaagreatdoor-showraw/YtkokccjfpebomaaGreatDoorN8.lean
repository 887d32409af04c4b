/- What stands for tokens, nodes and the parser's state in memory; look, is, node. -/
import Derived.Test.YtkokccjfpebomaaGreatDoorK6
set_option linter.all false
set_option maxHeartbeats 4000000
set_option maxRecDepth 8000
namespace Go.Proofs
open Go Go.AL Tryz
@[go_sem] theorem Tryz.aft47_0:YA prog 47 0=some (0,3):=by kernel_rfl
@[go_sem] theorem Tryz.aft47_1:YA prog 47 1=some (1,9):=by kernel_rfl
@[go_sem] theorem Tryz.aft47_3:YA prog 47 3=some (3,3):=by kernel_rfl
theorem qi{T:List Tk}{pid:Nat}{p:PS}{t:Tk}(h:zH T p=some t){K:SV→St→Prop}{st:St}(hp:KF T pid p st)(hk:K (ZF t) st):ACalls prog 73 [.ptr pid 0] K st:=by
 refine zd [] func73 rfl results73 ntmps73 ?_;have y:=zI hp;unfold Qn at y;by_cases he:p.e=0
 ·have c1:(p.e != 0)=false:=by simp[he]
  unfold zH at h;rw[if_pos he] at h;obtain⟨hlt,hget⟩:=List.getElem?_eq_some_iff.1 h;have hgt:(T.map ZF).getD p.pos .any=ZF t:=by simp[xgE,h]
  simp only[go_sem,y.1,y.2.1,y.2.2,c1];refine zB [] [(0,[]),(0,[]),(0,[]),(0,[]),(0,[]),(0,[]),(0,[]),(0,[]),(0,[]),(0,[]),(1,[11])] mixed rfl ?_;simp only[go_sem,y.1,y.2.1,y.2.2,hgt];refine⟨by omega,zF (Vp _ t) hk⟩
 ·have c1:(p.e != 0)=true:=by simp[he]
  unfold zH at h;rw[if_neg he] at h;cases h;simp only[go_sem,y.1,y.2.1,y.2.2,c1];exact zF (Vp _ F6) hk
theorem ZG{T:List Tk}{pid:Nat}{p:PS}{t:Tk}{s:Tx}(h:zH T p=some t){K:SV→St→Prop}{st:St}(hp:KF T pid p st)(hk:K (.sc (.bool (isT t s))) st):ACalls prog 74 [.ptr pid 0,.sc (.string (ba s))] K st:=by
 refine zd [] func74 rfl results74 ntmps74 ?_;simp only[go_sem];refine qi h hp ?_;simp only[go_sem,QH];exact⟨fun h=>by simp[h],zF (eq_true (.sc _)) hk⟩
theorem U3{T:List Tk}{pid:Nat}{p p':PS}{e:Int}(h:Zq T e p=some p'){K:SV→St→Prop}{st:St}(hp:KF T pid p st)(hk:∀ x,K x (st.set pid (.cells (Qn T p')))):ACalls prog 80 [.ptr pid 0,.sc (.int .i64 e)] K st:=by
 refine zp [] func80 rfl results80 ntmps80 ?_;have y:=zI hp;unfold Qn at y;unfold Zq at h;by_cases he:p.e=0
 ·have c1:(p.e==0)=true:=by simp[he]
  rw[if_pos he] at h;cases ht:T[p.pos]? with
  | none=>rw[ht] at h;cases h
  | some t =>
   rw[ht] at h;cases h;simp only[go_sem,y.1,y.2.1,y.2.2,c1];refine qi (t:=t) (by unfold zH;rw[if_pos he,ht]) hp ?_;simp only[go_sem,y.1,y.2.1,y.2.2,c1];exact B6 Xw (hk _) rfl
 ·have c1:(p.e==0)=false:=by simp[he]
  rw[if_neg he] at h;cases h;simp only[go_sem,y.1,y.2.1,y.2.2,c1];exact yP hp Xw (hk _) rfl
theorem tw{T:List Tk}{p:PS}{t:Tk}(hT:T.length≤100000)(h:zH T p=some t)(he:p.e=0):IntKind.i64.wrap ((p.pos:Int)+1)=((p.pos+1:Nat):Int):=by
 unfold zH at h;rw[if_pos he] at h;obtain⟨hlt,_⟩:=List.getElem?_eq_some_iff.1 h;rw[IntWalk.i64_in _ (by omega)];rfl
theorem Q9{T:List Tk}(hT:T.length≤100000){pid:Nat}{p p':PS}{t:Tk}(h:ZR T p=some (t,p')){K:SV→St→Prop}{st:St}(hp:KF T pid p st)(hk:K (ZF t) (st.set pid (.cells (Qn T p')))):ACalls prog 103 [.ptr pid 0] K st:=by
 refine zp [] func103 rfl results103 ntmps103 ?_;have y:=zI hp;unfold Qn at y;unfold ZR at h;cases hl:zH T p with
 | none=>rw[hl] at h;cases h
 | some t0 =>
  rw[hl] at h;simp only[xmS,xsJ,xpJ] at h;obtain⟨rfl,rfl⟩:=h;simp only[go_sem];refine qi hl (zu hp) ?_;have hw:=fun he=>tw hT hl he;by_cases he:p.e=0
  ·have c1:(p.e==0)=true:=by simp[he]
   by_cases hk0:t0.kind=0
   ·have c2:(t0.kind != 0)=false:=by simp[hk0]
    rw[if_neg (by simp[hk0])] at hk;simp only[go_sem,y.1,y.2.1,y.2.2,c1,c2];exact nV hp (fun n=>Vp _ t0) hk rfl
   ·have c2:(t0.kind != 0)=true:=by simp[hk0]
    rw[if_pos ⟨he,hk0⟩] at hk;simp only[go_sem,y.1,y.2.1,y.2.2,c1,c2,hw he];exact Bb (fun n=>Vp _ t0) hk rfl
  ·have c1:(p.e==0)=false:=by simp[he]
   rw[if_neg (by simp[he])] at hk;simp only[go_sem,y.1,y.2.1,y.2.2,c1];exact nV hp (fun n=>Vp _ t0) hk rfl
theorem Jg{T:List Tk}(hT:T.length≤100000){pid:Nat}{p p':PS}{s:Tx}{b:Bool}(h:Xd T s p=some (b,p')){K:SV→St→Prop}{st:St}(hp:KF T pid p st)(hk:K (.sc (.bool b)) (st.set pid (.cells (Qn T p')))):ACalls prog 105 [.ptr pid 0,.sc (.string (ba s))] K st:=by
 refine zp [] func105 rfl results105 ntmps105 ?_;have y:=zI hp;unfold Qn at y;unfold Xd Yj at h;cases hl:zH T p with
 | none=>rw[hl] at h;cases h
 | some t0 =>
  rw[hl] at h;simp only[xmS,xbS] at h;simp only[go_sem];refine ZG hl hp ?_;cases hb:isT t0 s with
  | false =>
   rw[hb] at h;simp only[XU,if_false,xsJ,xpJ] at h;obtain⟨rfl,rfl⟩:=h;simp only[go_sem];exact yP hp (zi _) hk rfl
  | true =>
   rw[hb] at h;simp only[if_true] at h;cases ht:ZR T p with
   | none=>rw[ht] at h;cases h
   | some r =>
    rw[ht] at h;simp only[xmS,xsJ,xpJ] at h;obtain⟨rfl,rfl⟩:=h;simp only[go_sem];refine Q9 hT ht hp ?_;simp only[go_sem];exact B6 (zi _) hk rfl
theorem Qe{T:List Tk}(hT:T.length≤100000){pid:Nat}{p p':PS}{s:Tx}(h:qy T s p=some p'){K:SV→St→Prop}{st:St}(hp:KF T pid p st)(hk:∀ x,K x (st.set pid (.cells (Qn T p')))):ACalls prog 77 [.ptr pid 0,.sc (.string (ba s))] K st:=by
 refine zp [] func77 rfl results77 ntmps77 ?_;unfold qy at h;cases hm:Xd T s p with
 | none=>rw[hm] at h;cases h
 | some r =>
  rw[hm] at h;obtain⟨b,p1⟩:=r;simp only[xbS] at h;simp only[go_sem];refine Jg hT hm hp ?_;cases b with
  | true =>
   simp only[if_true,xsJ] at h;subst h;simp only[go_sem];exact B6 Xw (hk _) rfl
  | false =>
   simp only[XU,if_false] at h;simp only[go_sem];refine U3 h (QV hp) fun x=>?_;simp only[go_sem];exact B6 Xw (hk _) rfl
theorem WU{T:List Tk}(hT:T.length≤100000){pid:Nat}{p p':PS}{k:Int}{t:Tk}(h:Qy T k p=some (t,p')){K:SV→St→Prop}{st:St}(hp:KF T pid p st)(hk:K (ZF t) (st.set pid (.cells (Qn T p')))):ACalls prog 121 [.ptr pid 0,.sc (.int .i64 k)] K st:=by
 refine zp [] func121 rfl results121 ntmps121 ?_;unfold Qy at h;cases hl:zH T p with
 | none=>rw[hl] at h;cases h
 | some t0 =>
  rw[hl] at h;simp only[xbS] at h;simp only[go_sem];refine qi hl (zu hp) ?_;by_cases hk0:t0.kind=k
  ·have c1:(t0.kind != k)=false:=by simp[hk0]
   rw[if_neg (by simp[hk0])] at h;simp only[xbS] at h;simp only[go_sem,c1];refine Q9 hT h (zu hp) ?_;simp only[go_sem,zb hp];exact Bb (fun n=>Vp _ t) hk rfl
  ·have c1:(t0.kind != k)=true:=by simp[hk0]
   rw[if_pos hk0] at h;cases hf:Zq T 14 p with
   | none=>rw[hf] at h;cases h
   | some p1 =>
    rw[hf] at h;simp only[xbS] at h;simp only[go_sem,c1];refine U3 hf (zu hp) fun x=>?_;simp only[go_sem,zb hp];refine Q9 hT h (zh hp) ?_;simp only[go_sem,zb hp];exact Bb (fun n=>Vp _ t) hk rfl
theorem Jq{T:List Tk}{pid:Nat}{p p':PS}{n m:Int}(h:ZO T n m p=some p'){K:SV→St→Prop}{st:St}(hp:KF T pid p st)(hk:∀ x,K x (st.set pid (.cells (Qn T p')))):ACalls prog 75 [.ptr pid 0,.sc (.int .i64 n),.sc (.int .i64 m)] K st:=by
 refine zp [] func75 rfl results75 ntmps75 ?_;unfold ZO at h;by_cases hc:m≤n
 ·have c1:decide (m≤n)=true:=by simp[hc]
  rw[if_pos hc] at h;simp only[go_sem,ge_iff_le,c1];refine U3 h hp fun x=>?_;simp only[go_sem];exact B6 Xw (hk _) rfl
 ·have c1:decide (m≤n)=false:=by simp[hc]
  rw[if_neg hc] at h;cases h;simp only[go_sem,ge_iff_le,c1];exact yP hp Xw (hk _) rfl
def HC(T:List Tk)(pid:Nat)(f:FuncId)(e:PM Nd):Prop:=∀ (p:PS) (r:Nd) (p':PS),e p=some (r,p')→∀ (K:SV→St→Prop) (st:St),KF T pid p st→K (zq r) (st.set pid (.cells (Qn T p')))→ACalls prog f [.ptr pid 0] K st
theorem XF{k a:Int}{t:Tx}{x:SV}(h1:x.cells=[x])(h2:qP x=true)(h3:QG x=true)(h4:ZK x=x)(h5:∀ p,Dc p x=True){K:SV→St→Prop}{st:St}(hi:Ids st.length x)(hk:K (Xk k t 0 a x) st) :
  ACalls prog 72 [.sc (.int .i64 k),.sc (.int .i64 a),.sc (.string (ba t)),x] K st:=by
 refine Qj [] func72 rfl results72 ntmps72 ?_;simp only[go_sem,h1,h2,h3,h4,h5];exact⟨st,_,rfl,Mod.refl _,by
  rw[Qc];simp only[List.forall_mem_cons,Y8,true_and];exact⟨zT (.inr rfl) (fun x hx=>by cases hx),hi,fun x hx=>by cases hx⟩,hk⟩
theorem pC{x y:SV}(h:SVle (norm x) y):SVle x y:=fun st σ w v hr=>h st σ w v hr.norm
theorem VX{k a:Int}{t:Tx}{z:Nat}{kids:List Nd}(hz:z=6∨kids=[]){K:SV→St→Prop}{st:St}(hk:K (zq (zw k a t kids)) st) :
  ACalls prog 72 [.sc (.int .i64 k),.sc (.int .i64 a),.sc (.string (ba t)),.slice .full z (kids.map zq)] K st :=
 zA (XF rfl rfl rfl rfl (fun _=>rfl) (zM _ _ (.inr rfl) _ _) ⟨_,pC (US (n:=zw k a t kids) (m1 :=.full) (m2 :=.full) (z1:=0) (z2:=z) (.inr rfl) hz),hk⟩)
theorem W1{T:List Tk}{pid:Nat}{g:FuncId}{e:PM Nd}(he:HC T pid g e)(hg:zG prog g=true){p p':PS}{r:Nd}(h:Yn T e p=some (r,p')){K:SV→St→Prop}{st:St}(hp:KF T pid p st)(hk:K (zq r) (st.set pid (.cells (Qn T p')))) :
  ACalls prog 78 [.ptr pid 0,.func (.func g) [] []] K st:=by
 refine zA (YJ (yF func78 rfl results78 ntmps78 ?_));have y:=zI hp;unfold Qn at y;unfold Yn at h;by_cases hd:40≤p.deep
 ·rw[if_pos hd] at h;cases hf:Zq T 15 p with
  | none=>rw[hf] at h;cases h
  | some p1 =>
   have h1:p1.e≠0:=by
    unfold Zq at hf;split at hf
    ·cases hl:T[p.pos]? with
     | none=>rw[hl] at hf;cases hf
     | some t=>rw[hl] at hf;cases hf;show (15:Int)≠0;decide
    ·rename_i h0;cases hf;exact h0
   rw[hf] at h;simp only[xbS] at h;rw[if_pos h1] at h;cases h;have c1:decide ((40:Int)≤(p.deep:Int))=true:=by simp;omega
   have c2:(p'.e != 0)=true:=by simp[h1]
   have y1:=zI (QV (p':=p') hp);unfold Qn at y1;refine Xe [] ?_;simp only[go_sem,X3,JE];refine Xe [] ?_;simp only[go_sem,X3,JE,y.1,y.2.1,y.2.2,c1,ge_iff_le];refine U3 hf (zu hp) fun x=>?_;simp only[go_sem,zb hp,X3];refine Xe [] ?_;unfold Qn;simp only[go_sem,X3,JE,y.1,y1.2.1,y1.2.2,zb hp,c2,bx];exact YO hk (.inr rfl) (.inr rfl)
 ·by_cases h0:p.e=0
  ·rw[if_neg hd] at h;simp only[xbS] at h;rw[if_neg (by simp[h0])] at h;cases hx:e { p with deep:=p.deep+1 } with
   | none=>rw[hx] at h;cases h
   | some q =>
    obtain⟨x,p1⟩:=q;rw[hx] at h;simp only[xbS] at h;split at h
    ·cases h
    rename_i hdp;simp only[xsJ,xpJ] at h;obtain⟨rfl,rfl⟩:=h;have c1:decide ((40:Int)≤(p.deep:Int))=false:=by simp;omega
    have c2:(p.e != 0)=false:=by simp[h0]
    refine Xe [] ?_;simp only[go_sem,X3,JE];refine Xe [] ?_;simp only[go_sem,X3,JE,y.1,y.2.1,y.2.2,c1,ge_iff_le];refine Xe [] ?_;simp only[go_sem,X3,JE,y.1,y.2.1,y.2.2,c2];refine Xe [] ?_;have hw:IntKind.i64.wrap ((p.deep:Int)+1)=((p.deep+1:Nat):Int):=by rw[IntWalk.i64_in _ (by omega)];rfl
    simp only[go_sem,X3,JE,y.1,y.2.1,y.2.2,hw];refine wH (vo rfl (by simp) ?_);simp only[go_sem,X3];refine Xe [] ?_;simp only[go_sem,hg];refine he _ _ _ hx _ _ (zh hp) ?_;simp only[go_sem,zb hp];simp only[X3];refine Ai [] ?_;simp only[go_sem,Ov,bx];refine uC [] func106 rfl results106 ntmps106 ?_;have y1:=zI (QV (p':=p1) hp);unfold Qn at y1;have hw2:IntKind.i64.wrap ((p1.deep:Int)-1)=((p1.deep-1:Nat):Int):=by rw[IntWalk.i64_in _ (by omega)];omega
    unfold Qn;simp only[go_sem,y1.2.1,y1.2.2,zb hp,hw2];exact Zw hk
  ·rw[if_neg hd] at h;simp only[xbS] at h;rw[if_pos h0] at h;cases h;have c1:decide ((40:Int)≤(p.deep:Int))=false:=by simp;omega
   have c2:(p.e != 0)=true:=by simp[h0]
   refine Xe [] ?_;simp only[go_sem,X3,JE];refine Xe [] ?_;simp only[go_sem,X3,JE,y.1,y.2.1,y.2.2,c1,ge_iff_le];refine Xe [] ?_;simp only[go_sem,X3,JE,y.1,y.2.1,y.2.2,c2,bx];exact au hp hk (.inr rfl) (.inr rfl)
theorem pB{T:List Tk}(hT:T.length≤100000){pid:Nat}{g:FuncId}{e:PM Nd}(he:HC T pid g e)(hg:zG prog g=true){p p':PS}{r:Nd}(h:Yl T e p=some (r,p')){K:SV→St→Prop}{st:St}(hp:KF T pid p st)(hk:K (zq r) (st.set pid (.cells (Qn T p')))) :
  ACalls prog 150 [.ptr pid 0,.func (.func g) [] []] K st:=by
 refine zA (zp [] func150 rfl results150 ntmps150 ?_);unfold Yl at h;simp only[xoB,xoM,xpX,xpJ] at h;obtain⟨p1,h1,x,p2,h2,p3,h3,rfl,rfl⟩:=h;simp only[go_sem];refine Qe hT h1 (zu hp) fun _=>?_;simp only[go_sem,zb hp];refine W1 he hg h2 (zh hp) ?_;simp only[go_sem,zb hp];refine Qe hT h3 (zh hp) fun _=>?_;simp only[go_sem,zb hp];exact Zw hk
def XY(kinds:List (Int×Int)):List (Value×SV):=kinds.map fun q=>(.int .i64 q.1,.sc (.int .i64 q.2))
def Uh(kinds:List (Int×Int))(n:Int):Int:=((kinds.find? fun q=>q.1==n).map (·.2)).getD 0
theorem pb(n m:Int):JN (.int .i64 n) (.int .i64 m)=decide (n=m):=by
 have:=WQ (d :=.int .i64) (a :=.int .i64 n) (b :=.int .i64 m) (by simp[ZN]) (by simp[ZN]);by_cases hc:n=m
 ·simp only[hc,decide_true];rw[hc] at this;exact this.2 rfl
 ·simp only[hc,decide_false];cases hk:JN (.int .i64 n) (.int .i64 m) with
  | false=>rfl
  | true=>exact absurd (Value.int.inj (this.1 hk)).2 hc
theorem tU(kinds:List (Int×Int))(n:Int):∃ b,xU (XY kinds) (.sc (.int .i64 0)) n=(.sc (.int .i64 (Uh kinds n)),b):=by
 induction kinds with
 | nil=>exact⟨false,rfl⟩
 | cons q r ih =>
  obtain⟨b,hb⟩:=ih;unfold xU keyIdx XY Uh at *;by_cases hc:q.1=n
  ·have h2:(q.1==n)=true:=by simp[hc]
   refine⟨true,?_⟩;simp only[List.map_cons,List.findIdx?_cons,pb,hc,decide_true,if_true,List.find?_cons,BEq.rfl];rfl
  ·have h2:(q.1==n)=false:=by simp[hc]
   have h3:decide (n=q.1)=false:=by simp;omega
   simp only[List.map_cons,List.findIdx?_cons,pb,h3,XU,if_false,List.find?_cons,h2];cases hx:List.findIdx? (fun p=>JN (Value.int IntKind.i64 n) p.1) (r.map fun q=>(Value.int .i64 q.1,SV.sc (.int .i64 q.2))) with
   | none =>
    rw[hx] at hb;exact⟨b,hb⟩
   | some j =>
    rw[hx] at hb;exact⟨b,by simpa using hb⟩
theorem Lj(kinds:List (Int×Int)):HI (XY kinds):=by
 intro q hq;obtain⟨a,_,rfl⟩:=List.mem_map.1 hq;exact⟨a.1,rfl⟩
theorem D4{T:List Tk}{pid:Nat}{p':PS}{k m a:Int}{t:Tx}{st:St}{K:SV→St→Prop}(hk:K (pI (.mk k t m a [] [])) (st.set pid (.cells (Qn T p')))){ex:St} :
  pE st K (.agg [.sc (.int .i64 k),.sc (.string (ba t)),.sc (.int .i64 m),.sc (.int .i64 a),.slice .full 0 [],.slice .full 0 []]) (st.set pid (.cells (Qn T p'))++ex) :=
 ⟨_,ex,rfl,(Mod.refl _).set _ _ (El _ _ _),by
  rw[Qc];simp only[List.forall_mem_cons,Y8,true_and];exact⟨zT (.inr rfl) (fun x hx=>by cases hx),zT (.inr rfl) (fun x hx=>by cases hx),fun x hx=>by cases hx⟩,hk⟩
theorem nY{T:List Tk}(hT:T.length≤100000){pid mid:Nat}{kinds:List (Int×Int)}{p p':PS}{r:Nd}(h:Xc T kinds p=some (r,p')){K:SV→St→Prop}{st:St}(hp:KF T pid p st)(hm:st[mid]?=some (.map (XY kinds)))
  (hk:K (pI r) (st.set pid (.cells (Qn T p')))):ACalls prog 164 [.ptr pid 0,.mp mid] K st:=by
 refine Qj [] func164 rfl results164 ntmps164 ?_;unfold Xc at h;rw[xoB] at h;obtain⟨t,hl,h⟩:=h;change (if Uh kinds t.kind=0 then _ else _)=_ at h
 obtain⟨b,hb⟩:=tU kinds t.kind;simp only[go_sem];refine qi hl (zu hp) ?_;have hmg:=fun ex=>xa (P:=prog) (t:=149) (n:=t.kind) (st:=st++ex) Tryz.amap149 Tryz.zeroSV3 (Wk (VP hm ex)).2 (Lj kinds);rw[hb] at hmg;by_cases hz:Uh kinds t.kind=0
 ·rw[if_pos hz] at h;rw[xoM] at h;obtain⟨p1,hf,h⟩:=h;cases h;have c1:(Uh kinds t.kind==0)=true:=by simp[hz]
  simp only[go_sem,hmg,c1,Option.isSome_some];refine U3 hf (zu hp) fun _=>?_;simp only[go_sem,zb hp];exact D4 hk
 ·rw[if_neg hz] at h;rw[xoM] at h;obtain⟨⟨t1,p1⟩,ht,h⟩:=h;cases h;have c1:(Uh kinds t.kind==0)=false:=by simp[hz]
  simp only[go_sem,hmg,c1,Option.isSome_some];refine Q9 hT ht (zu hp) ?_;simp only[go_sem,zb hp,hmg];exact D4 hk
end Go.Proofs
