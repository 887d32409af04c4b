/- The document's parser in memory; kind, at, is, fail, step, want, text, enter. -/
import Derived.Test.YtkokccjfpebomaaGreatDoorM7
set_option linter.all false
set_option maxHeartbeats 4000000
set_option maxRecDepth 8000
namespace Go.AL
def qK(T:List Tk)(p:PS):List SV:=[.slice .imm 4 (T.map ZF),.sc (.int .i64 p.pos),.sc (.int .i64 p.deep),.sc (.int .i64 p.bad),.sc (.bool p.flat),.sc (.int .i64 p.e)]
def Jl(T:List Tk)(pid:Nat)(p:PS)(st:St):Prop:=st[pid]?=some (.cells (qK T p))
theorem VO(n:Nat)(T:List Tk)(p:PS):ObIds n (.cells (qK T p)):=by
 have:∀ x∈qK T p,Ids n x:=by
  unfold qK;simp only[List.forall_mem_cons,Y8,true_and];refine⟨zT (.inl rfl) fun x hx y hy=>?_,fun x hx=>by cases hx⟩;obtain⟨t,_,rfl⟩:=List.mem_map.1 hx;rw[Z3] at hy;simp only[List.mem_cons,List.not_mem_nil,or_false] at hy;rcases hy with rfl | rfl | rfl | rfl <;> exact .sc _
 exact fun j hj=>this _ (by
  rw[xgE,List.getElem?_eq_getElem hj];exact List.getElem_mem hj)
theorem aU{T:List Tk}{pid:Nat}{p:PS}{st:St}(hp:Jl T pid p st):st.set pid (.cells (qK T p))=st:=by
 obtain⟨h1,h2⟩:=List.getElem?_eq_some_iff.1 hp;rw[←h2,List.set_getElem_self]
theorem YF{T:List Tk}{pid:Nat}{p p':PS}{st:St}(hp:Jl T pid p st):Jl T pid p' (st.set pid (.cells (qK T p'))):=qm (zk hp)
theorem zm{T:List Tk}{pid:Nat}{p p':PS}{st ex:St}(hp:Jl T pid p st):Jl T pid p' (st.set pid (.cells (qK T p'))++ex):=VP (YF hp) ex
theorem zr{T:List Tk}{pid:Nat}{p:PS}{st ex:St}(hp:Jl T pid p st):Jl T pid p (st++ex):=VP hp ex
theorem dt{T:List Tk}{pid:Nat}{p:PS}{st:St}{K:SV→St→Prop}{x y:SV}{ex:St}(hp:Jl T pid p st)(hi:∀ n,Ids n y=True)(hk:K y (st.set pid (.cells (qK T p))))(hx:norm x=y):YW st K x (st++ex) :=
 tf hi (by rw[aU hp] at hk;exact hk) hx
theorem pc{T:List Tk}{pid:Nat}{p:PS}{st:St}{K:SV→St→Prop}{x y:SV}(hp:Jl T pid p st)(hi:∀ n,Ids n y=True)(hk:K y (st.set pid (.cells (qK T p))))(hx:norm x=y):YW st K x st:=by
 have:=dt (ex:=[]) hp hi hk hx;rwa[xaN] at this
theorem tJ{T:List Tk}{pid:Nat}{p':PS}{st:St}{K:SV→St→Prop}{x y:SV}{ex:St}(hi:∀ n,Ids n y=True)(hk:K y (st.set pid (.cells (qK T p'))))(hx:norm x=y):YW st K x (st.set pid (.cells (qK T p'))++ex):=by
 subst hx;exact⟨_,ex,rfl,(Mod.refl _).set _ _ (VO _ _ _),by rw[hi];trivial,hk⟩
theorem Uz{T:List Tk}{pid:Nat}{p':PS}{st:St}{K:SV→St→Prop}{x y:SV}(hi:∀ n,Ids n y=True)(hk:K y (st.set pid (.cells (qK T p'))))(hx:norm x=y):YW st K x (st.set pid (.cells (qK T p'))):=by
 subst hx;exact⟨_,[],(xaN _).symm,(Mod.refl _).set _ _ (VO _ _ _),by rw[hi];trivial,hk⟩
theorem Xv{T:List Tk}{pid:Nat}{p':PS}{nd:Nd}{st:St}{K:SV→St→Prop}{m1 m2:AL.Mode}{z1 z2:Nat}(hk:K (zq nd) (st.set pid (.cells (qK T p'))))(h1:z1=1∨nd.names=[])(h2:z2=6∨nd.kids=[]){ex:St} :
  YW st (wl K) (Kv m1 m2 z1 z2 nd) (st.set pid (.cells (qK T p'))++ex) :=
 ⟨_,ex,rfl,(Mod.refl _).set _ _ (VO _ _ _),jg _,_,US h1 h2,hk⟩
theorem QJ{T:List Tk}{pid:Nat}{p':PS}{nd:Nd}{st:St}{K:SV→St→Prop}(hk:K (zq nd) (st.set pid (.cells (qK T p')))){ex:St} :
  YW st (wl K) (zq nd) (st.set pid (.cells (qK T p'))++ex) :=
 ⟨_,ex,rfl,(Mod.refl _).set _ _ (VO _ _ _),by rw[HE];exact JX _ _,_,by rw[HE];exact SVle.refl _,hk⟩
theorem QL{T:List Tk}{pid kid ver:Nat}{p':PS}{nd:Nd}{st:St}{K:SV→St→Prop}(hk:K (zq nd) (st.set pid (.cells (qK T p'))))(hnm:nd.names=[]){ex:St} :
  YW st (wl K) (.agg (qk kid ver nd)) (st.set pid (.cells (qK T p'))++ex):=by
 have:=Xv (m1 :=.full) (m2 :=.own kid ver) (z1:=0) (z2:=6) hk (.inr hnm) (.inl rfl) (ex:=ex);unfold Kv at this;rw[hnm] at this;exact this
theorem XH{st:St}{K:SV→St→Prop}{x:SV}(hi:Ids st.length (norm x)=True)(hk:K (norm x) st):Fu st K x st:=by
 have:=zF (ex:=[]) hi hk;rwa[xaN] at this
theorem cK{T:List Tk}{p q:PS}{s:Tx}{t:Tk}(hb:Yj T s p=some true)(h:ZR T p=some (t,q)):ZD T p=some (t,q):=by
 unfold Yj at hb;rw[xoM] at hb;obtain⟨u,hu,hi⟩:=hb;obtain⟨g,rfl⟩:=QP hu (Yo hi) h;exact g
theorem fy{T:List Tk}{p p1 q:PS}{t:Tk}(h:Zq T 14 p=some p1)(h2:ZR T p1=some (t,q)):t.text=[]∧q=p1:=by
 have hne:=Qb h (by decide);obtain⟨h3,h4⟩:=Ua h2;have:=kM h3 hne;subst this;rw[if_neg (fun x=>hne x.1)] at h4;exact⟨rfl,h4⟩
end Go.AL
namespace Go.Proofs
open Go Go.AL Tryz
def DC(T:List Tk)(pid:Nat)(f:FuncId)(e:PM Nd):Prop:=∀ (p:PS) (r:Nd) (p':PS),e p=some (r,p')→∀ (K:SV→St→Prop) (st:St),Jl T pid p st→K (zq r) (st.set pid (.cells (qK T p')))→ACalls prog f [.ptr pid 0] K st
theorem qd{T:List Tk}{pid:Nat}{p:PS}{t:Tk}(h:zH T p=some t){K:SV→St→Prop}{st:St}(hp:Jl T pid p st)(hk:K (.sc (.int .i64 t.kind)) st):ACalls prog 25 [.ptr pid 0] K st:=by
 refine zd [] func25 rfl results25 ntmps25 ?_;have y:=zI hp;unfold qK at y;by_cases he:p.e=0
 ·have c1:(p.e != 0)=false:=by simp[he]
  unfold zH at h;rw[if_pos he] at h;obtain⟨hlt,hget⟩:=List.getElem?_eq_some_iff.1 h;have hgt:(T.map ZF).getD p.pos .any=ZF t:=by simp[xgE,h]
  simp only[go_sem,y.1,y.2.1,y.2.2,c1];refine zC [] mixed rfl ?_;simp only[go_sem,y.1,y.2.1,y.2.2,hgt];refine⟨by omega,XH (zi _ _) hk⟩
 ·have c1:(p.e != 0)=true:=by simp[he]
  unfold zH at h;rw[if_neg he] at h;cases h;simp only[go_sem,y.1,y.2.1,y.2.2,c1];exact XH (zi _ _) hk
theorem xP{T:List Tk}{pid:Nat}{p:PS}{a:Int}(h:lP T p=some a){K:SV→St→Prop}{st:St}(hp:Jl T pid p st)(hk:K (.sc (.int .i64 a)) st):ACalls prog 19 [.ptr pid 0] K st:=by
 refine zd [] func19 rfl results19 ntmps19 ?_;have y:=zI hp;unfold qK at y;unfold lP at h;by_cases he:p.e=0
 ·have c1:(p.e != 0)=false:=by simp[he]
  unfold zH at h;rw[if_pos he,xoM] at h;obtain⟨t,h,rfl⟩:=h;obtain⟨hlt,hget⟩:=List.getElem?_eq_some_iff.1 h;have hgt:(T.map ZF).getD p.pos .any=ZF t:=by simp[xgE,h]
  simp only[go_sem,y.1,y.2.1,y.2.2,c1];refine zC [] mixed rfl ?_;simp only[go_sem,y.1,y.2.1,y.2.2,hgt];refine⟨by omega,XH (zi _ _) hk⟩
 ·have c1:(p.e != 0)=true:=by simp[he]
  unfold zH at h;rw[if_neg he] at h;cases h;simp only[go_sem,y.1,y.2.1,y.2.2,c1];exact XH (zi _ _) hk
theorem Xo{T:List Tk}{pid:Nat}{p:PS}{s:Tx}{b:Bool}(h:Yj T s p=some b){K:SV→St→Prop}{st:St}(hp:Jl T pid p st)(hk:K (.sc (.bool b)) st):ACalls prog 20 [.ptr pid 0,.sc (.string (ba s))] K st:=by
 unfold Yj at h;rw[xoM] at h;obtain⟨t,hl,rfl⟩:=h;refine zd [] func20 rfl results20 ntmps20 ?_;have y:=zI hp;unfold qK at y;simp only[go_sem];refine qd hl hp ?_;by_cases c:t.kind=5∨t.kind=6
 ·have he:p.e=0:=by
   by_cases c0:p.e=0
   ·exact c0
   ·unfold zH at hl;rw[if_neg c0] at hl;cases hl;exact absurd c (by decide)
  unfold zH at hl;rw[if_pos he] at hl;obtain⟨hlt,hget⟩:=List.getElem?_eq_some_iff.1 hl;have hgt:(T.map ZF).getD p.pos .any=ZF t:=by simp[xgE,hl]
  have hi:isT t s=(t.text==s):=by unfold isT;rcases c with c | c <;> simp[c]
  rw[hi] at hk;by_cases c5:t.kind=5
  ·have c1:(t.kind==5)=true:=by simp[c5]
   simp only[go_sem];refine zC [] mixed rfl ?_;simp only[go_sem,y.1,y.2.1,y.2.2,hgt,c1];exact⟨by omega,XH (zi _ _) hk⟩
  ·have c1:(t.kind==5)=false:=by simp[c5]
   have c2:(t.kind==6)=true:=by simp;omega
   simp only[go_sem];refine zC [] mixed rfl ?_;simp only[go_sem,y.1,y.2.1,y.2.2,hgt,c1,c2];exact⟨by omega,XH (zi _ _) hk⟩
 ·have c1:(t.kind==5)=false:=by simp;omega
  have c2:(t.kind==6)=false:=by simp;omega
  have hi:isT t s=false:=by unfold isT;simp[c1,c2]
  rw[hi] at hk;simp only[go_sem];refine zC [] mixed rfl ?_;simp only[go_sem,y.1,y.2.1,y.2.2,c1,c2];exact XH (zi _ _) hk
theorem Qw{T:List Tk}{pid:Nat}{p p':PS}{e:Int}(h:Zq T e p=some p'){K:SV→St→Prop}{st:St}(hp:Jl T pid p st)(hk:∀ x,K x (st.set pid (.cells (qK T p')))):ACalls prog 21 [.ptr pid 0,.sc (.int .i64 e)] K st:=by
 refine zp [] func21 rfl results21 ntmps21 ?_;have y:=zI hp;unfold qK at y;unfold Zq at h;by_cases he:p.e=0
 ·have c1:(p.e==0)=true:=by simp[he]
  rw[if_pos he,xoM] at h;obtain⟨t,h,rfl⟩:=h;obtain⟨hlt,hget⟩:=List.getElem?_eq_some_iff.1 h;have hgt:(T.map ZF).getD p.pos .any=ZF t:=by simp[xgE,h]
  simp only[go_sem,y.1,y.2.1,y.2.2,c1];refine zB [] [(0,[]),(0,[]),(0,[]),(0,[]),(0,[]),(0,[]),(0,[]),(0,[]),(0,[]),(0,[]),(0,[]),(0,[]),(0,[]),(0,[]),(1,[15])] mixed rfl ?_;simp only[go_sem,y.1,y.2.1,y.2.2,hgt];exact⟨by omega,Uz Xw (hk _) rfl⟩
 ·have c1:(p.e==0)=false:=by simp[he]
  rw[if_neg he] at h;cases h;simp only[go_sem,y.1,y.2.1,y.2.2,c1];exact pc hp Xw (hk _) rfl
theorem Mw{T:List Tk}{p:PS}{t:Tk}(hT:T.length≤100000)(h:zH T p=some t)(he:p.e=0):IntKind.i64.wrap ((p.pos:Int)+1)=((p.pos+1:Nat):Int):=by
 unfold zH at h;rw[if_pos he] at h;obtain⟨hlt,_⟩:=List.getElem?_eq_some_iff.1 h;rw[IntWalk.i64_in _ (by omega)];rfl
theorem qQ{T:List Tk}(hT:T.length≤100000){pid:Nat}{p p':PS}{t:Tk}(h:ZD T p=some (t,p')){K:SV→St→Prop}{st:St}(hp:Jl T pid p st)(hk:K (ZF t) (st.set pid (.cells (qK T p')))):ACalls prog 34 [.ptr pid 0] K st:=by
 refine zp [] func34 rfl results34 ntmps34 ?_;have y:=zI hp;unfold qK at y;unfold ZD at h;rw[xoM] at h;obtain⟨t0,hl,h⟩:=h;by_cases h0:t0.kind=0
 ·have c1:(t0.kind==0)=true:=by simp[h0]
  rw[if_pos h0] at h;cases h;simp only[go_sem];refine qd hl (zr hp) ?_;simp only[go_sem,c1];exact dt hp (fun n=>Vp _ F6) hk rfl
 ·have c1:(t0.kind==0)=false:=by simp[h0]
  rw[if_neg h0] at h;cases h;have he:p.e=0:=by
   by_cases c0:p.e=0
   ·exact c0
   ·unfold zH at hl;rw[if_neg c0] at hl;cases hl;exact absurd rfl h0
  have hw:=Mw hT hl he;have hl2:=hl;unfold zH at hl2;rw[if_pos he] at hl2;obtain⟨hlt,hget⟩:=List.getElem?_eq_some_iff.1 hl2;have hgt:(T.map ZF).getD p.pos .any=ZF t:=by simp[xgE,hl2]
  simp only[go_sem];refine qd hl (zr hp) ?_;simp only[go_sem,c1];refine zB [] [(0,[11]),(0,[11]),(0,[11]),(0,[11]),(0,[11]),(0,[11]),(0,[11]),(0,[11]),(0,[11]),(0,[11]),(3,[11]),(1,[12])] mixed rfl ?_;simp only[go_sem,y.1,y.2.1,y.2.2,hgt];refine⟨by omega,_,_,⟨rfl,rfl⟩,?_⟩;simp only[go_sem,y.1,y.2.1,y.2.2,hgt,hw];exact⟨by omega,tJ (fun n=>Vp _ t) hk rfl⟩
theorem Ze{T:List Tk}(hT:T.length≤100000){pid:Nat}{p p':PS}{s:Tx}(h:qy T s p=some p'){K:SV→St→Prop}{st:St}(hp:Jl T pid p st)(hk:∀ x,K x (st.set pid (.cells (qK T p')))):ACalls prog 23 [.ptr pid 0,.sc (.string (ba s))] K st:=by
 refine zp [] func23 rfl results23 ntmps23 ?_;unfold qy Xd at h;simp only[xoB,xpX] at h;obtain⟨b',p1,⟨b,hb,h1⟩,h2⟩:=h;simp only[go_sem];refine Xo hb hp ?_;cases b with
 | false =>
  simp only[XU,if_false,xsJ,xpJ] at h1;obtain⟨rfl,rfl⟩:=h1;simp only[XU,if_false] at h2;simp only[go_sem];refine Qw h2 hp fun x=>?_;simp only[go_sem];exact Uz Xw (hk _) rfl
 | true =>
  simp only[if_true,xoM,xpX,xpJ] at h1;obtain⟨t,q,ht,rfl,rfl⟩:=h1;simp only[if_true,xsJ] at h2;subst h2;simp only[go_sem];refine qQ hT (cK hb ht) hp ?_;simp only[go_sem];exact Uz Xw (hk _) rfl
theorem Vb{T:List Tk}(hT:T.length≤100000){pid:Nat}{p p':PS}{k:Int}(hk0:k≠0){x:Tx}(h:Vw T k p=some (x,p')){K:SV→St→Prop}{st:St}(hp:Jl T pid p st)(hk:K (.sc (.string (ba x))) (st.set pid (.cells (qK T p')))):ACalls prog 35 [.ptr pid 0,.sc (.int .i64 k)] K st:=by
 refine zp [] func35 rfl results35 ntmps35 ?_;unfold Vw Qy at h;simp only[xoM,xoB,xpX,xpJ] at h;obtain⟨u,q,⟨t,hl,p1,h1,h2⟩,rfl,rfl⟩:=h;simp only[go_sem];refine qd hl hp ?_;by_cases c:t.kind=k
 ·have c1:(t.kind != k)=false:=by simp[c]
  rw[if_neg (by simp[c])] at h1;cases h1;obtain⟨g1,rfl⟩:=QP hl (by omega) h2;simp only[go_sem,c1];refine qQ hT g1 hp ?_;simp only[go_sem,zb hp];exact tJ (zi _) hk rfl
 ·have c1:(t.kind != k)=true:=by simp[c]
  rw[if_pos c] at h1;have ht:=fy h1 h2;obtain⟨hu,rfl⟩:=ht;rw[hu] at hk;simp only[go_sem,c1];refine Qw h1 hp fun x=>?_;simp only[go_sem,zb hp];exact Uz (zi _) hk rfl
def De(T:List Tk):PM Bool:=fun p=>(if p.deep=40 then Zq T 15 p else some p).map fun p1=>if p1.e≠0 then (false,p1) else (true,{ p1 with deep:=p1.deep+1 })
theorem VB{T:List Tk}{pid:Nat}{p p':PS}{b:Bool}(hd:p.deep≤1000)(h:De T p=some (b,p')){K:SV→St→Prop}{st:St}(hp:Jl T pid p st)(hk:K (.sc (.bool b)) (st.set pid (.cells (qK T p')))):ACalls prog 38 [.ptr pid 0] K st:=by
 refine zp [] func38 rfl results38 ntmps38 ?_;have y:=zI hp;unfold qK at y;unfold De at h;rw[xoM] at h;obtain⟨p1,h1,h⟩:=h;have y1:=zI (YF (p':=p1) hp);unfold qK at y1;have hw:IntKind.i64.wrap ((p.deep:Int)+1)=((p.deep+1:Nat):Int):=by rw[IntWalk.i64_in _ (by omega)];rfl
 by_cases c:p.deep=40
 ·have c1:((p.deep:Int)==40)=true:=by simp[c]
  rw[if_pos c] at h1;have hne:=Qb h1 (by decide);have c2:(p1.e != 0)=true:=by simp[hne]
  rw[if_pos hne] at h;cases h;simp only[go_sem,y.1,y.2.1,y.2.2,c1];refine Qw h1 hp fun x=>?_;unfold qK;simp only[go_sem,y1.1,y1.2.1,y1.2.2,c2];exact Uz (zi _) hk rfl
 ·have c1:((p.deep:Int)==40)=false:=by simp;omega
  rw[if_neg c] at h1;cases h1;by_cases he:p.e=0
  ·have c2:(p.e != 0)=false:=by simp[he]
   rw[if_neg (by simp[he])] at h;cases h;simp only[go_sem,y.1,y.2.1,y.2.2,c1,c2,hw];exact Uz (zi _) hk rfl
  ·have c2:(p.e != 0)=true:=by simp[he]
   rw[if_pos he] at h;cases h;simp only[go_sem,y.1,y.2.1,y.2.2,c1,c2];exact pc hp (zi _) hk rfl
end Go.Proofs
namespace Go.AL
theorem bV{T:List Tk}{pid:Nat}{p p0:PS}{b:Bool}{st ex:St}(hp:Jl T pid p0 st) :
  Jl T pid { p with flat:=b } (st.set pid (.cells [SV.slice .imm 4 (T.map ZF),.sc (.int .i64 p.pos),.sc (.int .i64 p.deep),.sc (.int .i64 p.bad),.sc (.bool b),.sc (.int .i64 p.e)])++ex):=zm hp
end Go.AL
namespace Go.Proofs
open Go Go.AL Tryz
theorem qj{T:List Tk}{pid:Nat}{p:PS}{t:Tk}(h:zH T p=some t){s:Tx}{b:Bool}(hb:isT t s=b){K:SV→St→Prop}{st:St}(hp:Jl T pid p st)(hk:K (.sc (.bool b)) st):ACalls prog 20 [.ptr pid 0,.sc (.string (ba s))] K st :=
 Xo (by unfold Yj;rw[h,←hb];rfl) hp hk
theorem uk{T:List Tk}{pid:Nat}{p:PS}{t:Tk}(h:zH T p=some t){a b c:Tx}{K:SV→St→Prop}{st:St}(hp:Jl T pid p st)(hk:K (.sc (.string (ba (UF t a b c)))) st):ACalls prog 86 [.ptr pid 0,.sc (.string (ba a)),.sc (.string (ba b)),.sc (.string (ba c))] K st:=by
 refine zd [] func86 rfl results86 ntmps86 ?_;simp only[go_sem];refine zx [] (fun k env s=>∃ i:Nat,k+i=3∧(1≤i→isT t a=false)∧(2≤i→isT t b=false)∧(3≤i→isT t c=false)∧env=[.ptr pid 0,.sc (.string (ba a)),.sc (.string (ba b)),.sc (.string (ba c)),.any,.any,.any,.any,.sc (.string ⟨#[]⟩),.sc (.int .i64 i),.any,.any,.any,.any,.any,.any,.any,.any,.any,.any,.any,.any,.any,.any,.any,.any,.any,.any]∧s=st) (n:=3) ?_ ⟨0,by omega,by omega,by omega,by omega,rfl,rfl⟩ ?_
 ·exact qu
 rintro k env s ⟨i,hi,h1,h2,h3,rfl,rfl⟩;have hc:i=0∨i=1∨i=2∨i=3:=by omega
 have z0:decide (((0:Nat):Int)<3)=true∧(((0:Nat):Int)==1)=false∧(((0:Nat):Int)==2)=false∧IntKind.i64.wrap (((0:Nat):Int)+1)=((1:Nat):Int):=⟨rfl,rfl,rfl,rfl⟩;have z1:decide (((1:Nat):Int)<3)=true∧(((1:Nat):Int)==1)=true∧(((1:Nat):Int)==2)=false∧IntKind.i64.wrap (((1:Nat):Int)+1)=((2:Nat):Int):=⟨rfl,rfl,rfl,rfl⟩;have z2:decide (((2:Nat):Int)<3)=true∧(((2:Nat):Int)==1)=false∧(((2:Nat):Int)==2)=true∧IntKind.i64.wrap (((2:Nat):Int)+1)=((3:Nat):Int):=⟨rfl,rfl,rfl,rfl⟩;have z3:decide (((3:Nat):Int)<3)=false:=rfl;rcases hc with rfl | rfl | rfl | rfl
 ·cases ha:isT t a with
  | true =>
   have ho:UF t a b c=a:=by unfold UF;rw[if_pos ha]
   rw[ho] at hk;simp only[go_sem,z0.1,z0.2.1,z0.2.2.1,z0.2.2.2];refine qj h ha hp ?_;simp only[go_sem,z0.1,z0.2.1,z0.2.2.1,z0.2.2.2];exact XH (zi _ _) hk
  | false =>
   simp only[go_sem,z0.1,z0.2.1,z0.2.2.1,z0.2.2.2];refine qj h ha hp ?_;simp only[go_sem,z0.1,z0.2.1,z0.2.2.1,z0.2.2.2];refine⟨2,_,by omega,?_,1,by omega,(fun h=>by omega),(fun h=>by omega),rfl⟩;exact qu
 ·have ha:=h1 (by omega);cases hb:isT t b with
  | true =>
   have ho:UF t a b c=b:=by unfold UF;rw[if_neg (by rw[ha];decide),if_pos hb]
   rw[ho] at hk;simp only[go_sem,z1.1,z1.2.1,z1.2.2.1,z1.2.2.2];refine qj h hb hp ?_;simp only[go_sem,z1.1,z1.2.1,z1.2.2.1,z1.2.2.2];exact XH (zi _ _) hk
  | false =>
   simp only[go_sem,z1.1,z1.2.1,z1.2.2.1,z1.2.2.2];refine qj h hb hp ?_;simp only[go_sem,z1.1,z1.2.1,z1.2.2.1,z1.2.2.2];refine⟨1,_,by omega,?_,2,by omega,(fun _=>ha),(fun h=>by omega),rfl⟩;exact qu
 ·have ha:=h1 (by omega);have hb:=h2 (by omega);cases hc:isT t c with
  | true =>
   have ho:UF t a b c=c:=by unfold UF;rw[if_neg (by rw[ha];decide),if_neg (by rw[hb];decide),if_pos hc]
   rw[ho] at hk;simp only[go_sem,z2.1,z2.2.1,z2.2.2.1,z2.2.2.2];refine qj h hc hp ?_;simp only[go_sem,z2.1,z2.2.1,z2.2.2.1,z2.2.2.2];exact XH (zi _ _) hk
  | false =>
   simp only[go_sem,z2.1,z2.2.1,z2.2.2.1,z2.2.2.2];refine qj h hc hp ?_;simp only[go_sem,z2.1,z2.2.1,z2.2.2.1,z2.2.2.2];refine⟨0,_,by omega,?_,3,by omega,(fun _=>ha),(fun _=>hb),rfl⟩;exact qu
 ·have ho:UF t a b c=[]:=by unfold UF;rw[if_neg (by rw[h1 (by omega)];decide),if_neg (by rw[h2 (by omega)];decide),if_neg (by rw[h3 (by omega)];decide)]
  rw[ho] at hk;simp only[go_sem,z3];exact XH (zi _ _) hk
theorem Y0{T:List Tk}{pid:Nat}{p:PS}{t:Tk}(h:zH T p=some t){a b c x:Tx}(hx:UF t a b c=x){K:SV→St→Prop}{st:St}(hp:Jl T pid p st)(hk:K (.sc (.string (ba x))) st):ACalls prog 86 [.ptr pid 0,.sc (.string (ba a)),.sc (.string (ba b)),.sc (.string (ba c))] K st:=by
 subst hx;exact uk h hp hk
theorem mH(t:Tk):qI t=((t.kind==1 || t.kind==2 || t.kind==3 || t.kind==4) || ((UF t [40] [114,101,116,114,121] [109,97,116,99,104] != []) || isT t [116,114,121])):=by
 unfold qI UF;cases h1:isT t [40] <;> cases h2:isT t [114,101,116,114,121] <;> cases h3:isT t [109,97,116,99,104] <;> simp
theorem Ww{T:List Tk}{pid:Nat}{p:PS}{t:Tk}(h:zH T p=some t){b:Bool}(hb:qI t=b){K:SV→St→Prop}{st:St}(hp:Jl T pid p st)(hk:K (.sc (.bool b)) st):ACalls prog 143 [.ptr pid 0] K st:=by
 subst hb;refine zd [] func143 rfl results143 ntmps143 ?_;rw[mH] at hk;obtain⟨o,ho⟩:∃ o,UF t [40] [114,101,116,114,121] [109,97,116,99,104]=o:=⟨_,rfl⟩;rw[ho] at hk;by_cases c:t.kind=1∨t.kind=2∨t.kind=3∨t.kind=4
 ·have hc:(t.kind==1 || t.kind==2 || t.kind==3 || t.kind==4)=true:=by simp;omega
  rw[hc,Bool.true_or] at hk;by_cases c1:t.kind=1
  ·have d1:(t.kind==1)=true:=by simp[c1]
   simp only[go_sem];refine qd h hp ?_;simp only[go_sem,d1];exact XH (zi _ _) hk
  have d1:(t.kind==1)=false:=by simp[c1]
  by_cases c2:t.kind=2
  ·have d2:(t.kind==2)=true:=by simp[c2]
   simp only[go_sem];refine qd h hp ?_;simp only[go_sem,d1,d2];exact XH (zi _ _) hk
  have d2:(t.kind==2)=false:=by simp[c2]
  by_cases c3:t.kind=3
  ·have d3:(t.kind==3)=true:=by simp[c3]
   simp only[go_sem];refine qd h hp ?_;simp only[go_sem,d1,d2,d3];exact XH (zi _ _) hk
  have d3:(t.kind==3)=false:=by simp[c3]
  have d4:(t.kind==4)=true:=by simp;omega
  simp only[go_sem];refine qd h hp ?_;simp only[go_sem,d1,d2,d3,d4];exact XH (zi _ _) hk
 ·have hc:(t.kind==1 || t.kind==2 || t.kind==3 || t.kind==4)=false:=by simp;omega
  have c1:(t.kind==1)=false:=by simp;omega
  have c2:(t.kind==2)=false:=by simp;omega
  have c3:(t.kind==3)=false:=by simp;omega
  have c4:(t.kind==4)=false:=by simp;omega
  rw[hc,Bool.false_or] at hk;cases co:o==[] with
  | true =>
   have ho0:(o != [])=false:=by simpa using co
   rw[ho0,Bool.false_or] at hk;cases ht:isT t [116,114,121] with
   | true =>
    rw[ht] at hk;simp only[go_sem];refine qd h hp ?_;simp only[go_sem,c1,c2,c3,c4];refine Y0 h ho hp ?_;simp only[go_sem];refine qj h ht hp ?_;simp only[go_sem,QH,Y2,List.toList_toArray,co];exact XH (zi _ _) hk
   | false =>
    rw[ht] at hk;simp only[go_sem];refine qd h hp ?_;simp only[go_sem,c1,c2,c3,c4];refine Y0 h ho hp ?_;simp only[go_sem];refine qj h ht hp ?_;simp only[go_sem,QH,Y2,List.toList_toArray,co];exact XH (zi _ _) hk
  | false =>
   have ho0:(o != [])=true:=by simpa using co
   rw[ho0,Bool.true_or] at hk;simp only[go_sem];refine qd h hp ?_;simp only[go_sem,c1,c2,c3,c4];refine Y0 h ho hp ?_;simp only[go_sem];refine qj h rfl hp ?_;simp only[go_sem,QH,Y2,List.toList_toArray,co];exact XH (zi _ _) hk
theorem W6{T:List Tk}(hT:T.length≤100000){pid:Nat}{k:Int}{p p':PS}{r:Nd}(h:Jh T k p=some (r,p')){K:SV→St→Prop}{st:St}(hp:Jl T pid p st)(hk:K (zq r) (st.set pid (.cells (qK T p')))):ACalls prog 155 [.ptr pid 0,.sc (.int .i64 k)] K st:=by
 refine zA (zp [] func155 rfl results155 ntmps155 ?_);unfold Jh at h;simp only[xoM,xpX,xpJ] at h;obtain⟨t,q,h1,rfl,rfl⟩:=h;simp only[go_sem];refine qQ hT h1 (zr hp) ?_;simp only[go_sem,zb hp];exact Xv (m1 :=.full) (m2 :=.full) (z1:=0) (z2:=0) hk (.inr rfl) (.inr rfl)
theorem b7{T:List Tk}{pid:Nat}{e:PM Nd}(he:DC T pid 24 e):DC T pid 156 (Xm e):=by
 intro p r p' h K st hp hk;refine zA (zp [] func156 rfl results156 ntmps156 ?_);have y:=zI hp;unfold qK at y;unfold Xm at h;simp only[xoM,xpX,xpJ] at h;obtain⟨x,q,h1,rfl,rfl⟩:=h;simp only[go_sem,y.1,y.2.1,y.2.2];refine he _ _ _ h1 _ _ (bV hp) ?_;unfold qK;have y1:=zI (YF (p':=q) hp);unfold qK at y1;simp only[go_sem,y.1,y.2.1,y.2.2,zb hp,y1.1,y1.2.1,y1.2.2];exact QJ (p':={ q with flat:=p.flat }) hk
theorem Ev{T:List Tk}{e:PM Nd}{p q:PS}{r:Nd}(h:Y9 T e p=some (r,q)):p.deep≤1000∧((De T p=some (false,q)∧r=Wf) ∨
  (∃ q1,De T p=some (true,{ p with deep:=p.deep+1 })∧e { p with deep:=p.deep+1 }=some (r,q1)∧q1.deep≠0∧q1.deep≤1000∧q={ q1 with deep:=q1.deep-1 })):=by
 unfold Y9 at h;by_cases c0:1000<p.deep
 ·rw[if_pos c0] at h;cases h
 rw[if_neg c0] at h;refine⟨by omega,?_⟩;rw[xoB] at h;obtain⟨p1,h1,h⟩:=h;by_cases c:p1.e≠0
 ·rw[if_pos c] at h;cases h;exact .inl ⟨by unfold De;rw[h1];simp only[xmS];rw[if_pos c],rfl⟩
 ·rw[if_neg c] at h;have h40:¬ p.deep=40:=fun x=>by
   rw[if_pos x] at h1;exact c (Qb h1 (by decide))
  have h1':=h1;rw[if_neg h40] at h1;cases h1;rw[xoB] at h;obtain⟨⟨x,q1⟩,h2,h⟩:=h;dsimp only at h;split at h
  ·cases h
  ·rename_i hd;cases h;exact .inr ⟨q1,by unfold De;rw[h1'];simp only[xmS];rw[if_neg c],h2,by omega,by omega,rfl⟩
theorem fC{T:List Tk}{pid:Nat}{e:PM Nd}(he:DC T pid 39 e):DC T pid 24 (Y9 T e):=by
 intro p r p' h K st hp hk;refine zA (zp [] func24 rfl results24 ntmps24 ?_);obtain⟨hd,h⟩:=Ev h;rcases h with⟨h1,rfl⟩ | ⟨q1,h1,h2,h3,h4,rfl⟩
 ·simp only[go_sem];refine VB hd h1 (zr hp) ?_;simp only[go_sem,zb hp];exact Xv (m1 :=.full) (m2 :=.full) (z1:=0) (z2:=0) (nd:=Wf) hk (.inr rfl) (.inr rfl)
 ·have y1:=zI (YF (p':=q1) hp);unfold qK at y1;have hw2:IntKind.i64.wrap ((q1.deep:Int)-1)=((q1.deep-1:Nat):Int):=by rw[IntWalk.i64_in _ (by omega)];omega
  simp only[go_sem];refine VB hd h1 (zr hp) ?_;simp only[go_sem,zb hp];refine he _ _ _ h2 _ _ (zm hp) ?_;unfold qK;simp only[go_sem,zb hp,y1.1,y1.2.1,y1.2.2,hw2];exact QJ (p':={ q1 with deep:=q1.deep-1 }) hk
end Go.Proofs
namespace Go.AL
theorem Ub{T:List Tk}{k:Int}{p p':PS}{r:Nd}(h:Jh T k p=some (r,p')):r.names=[]∧r.kids=[]:=by
 unfold Jh at h;simp only[xoM,xpX,xpJ] at h;obtain⟨t,q,h1,rfl,rfl⟩:=h;exact⟨rfl,rfl⟩
theorem Lp{r:Nd}(h:r.names=[]∧r.kids=[]):pI r = .agg [.sc (.int .i64 r.kind),.sc (.string (ba r.text)),.sc (.int .i64 r.num),.sc (.int .i64 r.pos),.slice .full 0 [],.slice .full 0 []]:=by
 unfold pI Kv;rw[h.1,h.2];rfl
theorem tP{T:List Tk}{pid:Nat}{p':PS}{k m a:Int}{t:Tx}{st:St}{K:SV→St→Prop}(hk:K (pI (.mk k t m a [] [])) (st.set pid (.cells (qK T p')))){ex:St} :
  pE st K (.agg [.sc (.int .i64 k),.sc (.string (ba t)),.sc (.int .i64 m),.sc (.int .i64 a),.slice .full 0 [],.slice .full 0 []]) (st.set pid (.cells (qK T p'))++ex) :=
 ⟨_,ex,rfl,(Mod.refl _).set _ _ (VO _ _ _),by
  rw[Qc];simp only[List.forall_mem_cons,Y8,true_and];exact⟨zT (.inr rfl) (fun x hx=>by cases hx),zT (.inr rfl) (fun x hx=>by cases hx),fun x hx=>by cases hx⟩,hk⟩
theorem tb{t:Tk}(a b:Tx)(ha:a≠[])(hb:b≠[]):(UF t a b a==[]) = !(isT t a || isT t b):=by
 unfold UF;cases h1:isT t a with
 | true=>simp[ha]
 | false =>
  cases h2:isT t b with
  | true=>simp[hb]
  | false=>simp
end Go.AL
namespace Go.Proofs
open Go Go.AL Tryz
theorem kL{T:List Tk}(hT:T.length≤100000){pid:Nat}{k:Int}{p p':PS}{r:Nd}(h:Jh T k p=some (r,p')){K:SV→St→Prop}{st:St}(hp:Jl T pid p st)(hk:K (pI r) (st.set pid (.cells (qK T p')))):ACalls prog 155 [.ptr pid 0,.sc (.int .i64 k)] K st:=by
 refine Qj [] func155 rfl results155 ntmps155 ?_;unfold Jh at h;simp only[xoM,xpX,xpJ] at h;obtain⟨t,q,h1,rfl,rfl⟩:=h;simp only[go_sem];refine qQ hT h1 (zr hp) ?_;simp only[go_sem,zb hp];exact tP hk
theorem cJ{T:List Tk}(hT:T.length≤100000){pid:Nat}{p p':PS}{r:Nd}{t:Tk}(hl:zH T p=some t)(h4:t.kind=4)(h:Jh T 5 p=some (r,p')){K:SV→St→Prop}{st:St}(hp:Jl T pid p st)
  (hk:K (pI r) (st.set pid (.cells (qK T p')))):ACalls prog 165 [.ptr pid 0] K st:=by
 refine Qj [] func165 rfl results165 ntmps165 ?_;have hr:=Ub h;have d1:(t.kind==1)=false:=by simp[h4]
 have d3:(t.kind==3)=false:=by simp[h4]
 have d4:(t.kind==4)=true:=by simp[h4]
 rw[Lp hr] at hk;simp only[go_sem];refine qd hl (zr hp) ?_;simp only[go_sem,d1,d3,d4];refine kL hT h (zr hp) ?_;rw[Lp hr];simp only[go_sem,zb hp];exact⟨_,_,rfl,(Mod.refl _).set _ _ (VO _ _ _),by
  rw[Qc];simp only[List.forall_mem_cons,Y8,true_and];exact⟨zT (.inr rfl) (fun x hx=>by cases hx),zT (.inr rfl) (fun x hx=>by cases hx),fun x hx=>by cases hx⟩,hk⟩
theorem bp{T:List Tk}(hT:T.length≤100000){pid:Nat}{pt:PM Nd}(hpt:DC T pid 157 pt):DC T pid 165 (He T pt):=by
 intro p r p' h K st hp hk;refine zA (zp [] func165 rfl results165 ntmps165 ?_);unfold He at h;rw[xoB] at h;obtain⟨t,hl,h⟩:=h;by_cases k1:t.kind=1
 ·have d1:(t.kind==1)=true:=by simp[k1]
  rw[if_pos k1] at h;simp only[go_sem];refine qd hl (zr hp) ?_;simp only[go_sem,d1];refine W6 hT h (zr hp) ?_;simp only[go_sem,zb hp];exact QJ hk
 have d1:(t.kind==1)=false:=by simp[k1]
 rw[if_neg k1] at h;by_cases k3:t.kind=3
 ·have d3:(t.kind==3)=true:=by simp[k3]
  rw[if_pos k3] at h;simp only[go_sem];refine qd hl (zr hp) ?_;simp only[go_sem,d1,d3];refine W6 hT h (zr hp) ?_;simp only[go_sem,zb hp];exact QJ hk
 have d3:(t.kind==3)=false:=by simp[k3]
 rw[if_neg k3] at h;by_cases k4:t.kind=4
 ·have d4:(t.kind==4)=true:=by simp[k4]
  rw[if_pos k4] at h;simp only[go_sem];refine qd hl (zr hp) ?_;simp only[go_sem,d1,d3,d4];refine W6 hT h (zr hp) ?_;simp only[go_sem,zb hp];exact QJ hk
 have d4:(t.kind==4)=false:=by simp[k4]
 rw[if_neg k4] at h;cases b1:isT t [95] with
 | true =>
  rw[if_pos b1] at h;simp only[xoM,xpX,xpJ] at h;obtain⟨u,q,h1,rfl,rfl⟩:=h;simp only[go_sem];refine qd hl (zr hp) ?_;simp only[go_sem,d1,d3,d4];refine qj hl b1 (zr hp) ?_;simp only[go_sem];refine qj hl rfl (zr hp) ?_;simp only[go_sem];refine qQ hT h1 (zr hp) ?_;simp only[go_sem,zb hp];exact Xv (m1 :=.full) (m2 :=.full) (z1:=0) (z2:=0) (nd:=zw 24 u.pos [] []) hk (.inr rfl) (.inr rfl)
 | false =>
  rw[if_neg (by rw[b1];decide)] at h;cases b2:isT t [40] with
  | true =>
   rw[if_pos b2] at h;simp only[xoB,xoM,xpX,xpJ] at h;obtain⟨u,q,h1,x,q2,h2,q3,h3,rfl,rfl⟩:=h;simp only[go_sem];refine qd hl (zr hp) ?_;simp only[go_sem,d1,d3,d4];refine qj hl b1 (zr hp) ?_;simp only[go_sem];refine qj hl b2 (zr hp) ?_;simp only[go_sem];refine qQ hT h1 (zr hp) ?_;simp only[go_sem,zb hp];refine hpt _ _ _ h2 _ _ (zm hp) ?_;simp only[go_sem,zb hp];first | (unfold zf;simp only[ze,zc,zl,xsS,xsZ,xgS,xgZ]) | skip
   refine Ze hT h3 (zm hp) fun _=>?_;simp only[go_sem,zb hp];exact QJ hk
  | false =>
   rw[if_neg (by rw[b2];decide)] at h;simp only[xoM,xpJ] at h;obtain⟨q,h1,rfl,rfl⟩:=h;simp only[go_sem];refine qd hl (zr hp) ?_;simp only[go_sem,d1,d3,d4];refine qj hl b1 (zr hp) ?_;simp only[go_sem];refine qj hl b2 (zr hp) ?_;simp only[go_sem];refine Qw h1 (zr hp) fun _=>?_;simp only[go_sem,zb hp];exact Xv (m1 :=.full) (m2 :=.full) (z1:=0) (z2:=0) (nd:=Wf) hk (.inr rfl) (.inr rfl)
theorem Tryz.app6d{n:Nat}(h:n≤1000000):AppOk prog 24 24 6 n:=Vm Tryz.aelem24 Tryz.aelem24 Tryz.asize26 Tryz.azero26 rfl Tryz.abytes26 (by omega) h
theorem nw{T:List Tk}(hT:T.length≤100000){pid:Nat}{I:PM Nd}(hI:∀ p r q,I p=some (r,q)→∃ pt,DC T pid 157 pt∧ff T pt p=some (r,q)):DC T pid 157 (Y9 T I):=by
 intro p r p' h K st hp hk;refine zA (zp [] func157 rfl results157 ntmps157 ?_);obtain⟨hd,h⟩:=Ev h;rcases h with⟨h1,rfl⟩ | ⟨q1,h1,h2,h3,h4,rfl⟩
 ·simp only[go_sem];refine VB hd h1 (zr hp) ?_;simp only[go_sem,zb hp];exact Xv (m1 :=.full) (m2 :=.full) (z1:=0) (z2:=0) (nd:=Wf) hk (.inr rfl) (.inr rfl)
 obtain⟨pt,hpt,hb⟩:=hI _ _ _ h2;have hpa:=bp hT hpt;unfold ff at hb;simp only[xoB,xpX] at hb;obtain⟨t0,hl0,n0,p1,h5,hL⟩:=hb;have y1:=zI (YF (p':=q1) hp);unfold qK at y1;have hw2:IntKind.i64.wrap ((q1.deep:Int)-1)=((q1.deep-1:Nat):Int):=by rw[IntWalk.i64_in _ (by omega)];omega
 by_cases hc:t0.kind=4
 rotate_left
 ·have c0:(t0.kind==4)=false:=by simp[hc]
  rw[c0] at hL;have hx:r=n0∧q1=p1:=by
   unfold DI at hL;cases hL;exact⟨rfl,rfl⟩
  obtain⟨rfl,rfl⟩:=hx;simp only[go_sem];refine VB hd h1 (zr hp) ?_;simp only[go_sem,zb hp];refine qd hl0 (zm hp) ?_;simp only[go_sem,zb hp,c0];refine hpa _ _ _ h5 _ _ (zm hp) ?_;simp only[go_sem,zb hp,c0];refine zx [] (fun m env s=>env=[.ptr pid 0,.any,.ptr st.length 0,.any,.sc (.bool false),.ptr (st.length+1) 0,.any,.any,.any,.any,.any,.any,.any,.any,.any,.any,.any,.any,.any,.any,.any,.any,.any,.any,.any,.any,.any,.any,.any,.any,.any,.any,.any,.any,.any,.any,.any,.any,.any,.any,.any,.any,.any,.any,.any,.any,.any,.any,.any,.any,.any,.any,.any,.any,.any,.any,.any,.any]∧s=st.set pid (.cells (qK T q1))++[.cells qv,.cells (zq r).cells]) (n:=0) ?_ ⟨rfl,rfl⟩ ?_
  ·exact qu
  rintro m env s ⟨rfl,rfl⟩;unfold qK qv;simp only[go_sem,zb hp,y1.1,y1.2.1,y1.2.2,hw2];exact QJ (p':={ q1 with deep:=q1.deep-1 }) hk
 have c0:(t0.kind==4)=true:=by simp[hc]
 rw[c0] at hL;have hl5:Jh T 5 { p with deep:=p.deep+1 }=some (n0,p1):=by
  unfold He at h5;rw[hl0] at h5;simp only[xbS] at h5;rwa[if_neg (by omega),if_neg (by omega),if_pos hc] at h5
 have hnm0:=Ub hl5;simp only[go_sem];refine VB hd h1 (zr hp) ?_;simp only[go_sem,zb hp];refine qd hl0 (zm hp) ?_;simp only[go_sem,zb hp,c0];refine cJ hT hl0 hc hl5 (zm hp) ?_;rw[Lp hnm0];simp only[go_sem,zb hp,c0];refine ZS (st.length+1) 5 6 0 (Zi 1) (by simp) rfl ?_;rw[QK];simp only[xlA,XG,xlC,xlN,xsS,xsZ,xaA,xcA,xnA,Nat.zero_add,Nat.reduceAdd];refine zx [] (fun m env s=>∃ (nd:Nd) (q:PS) (k:Nat) (ex:St),DI T pt m true nd q=some (r,q1)∧m+nd.kids.length≤T.length+2∧nd.names=[]∧env=[.ptr pid 0,.any,.ptr st.length 0,.any,.sc (.bool true),.ptr (st.length+1) 0,.any,.any,.any,.any,.any,.any,.any,.any,.any,.any,.any,.any,.any,.any,.any,.any,.any,.any,.any,.any,.any,.any,.any,.any,.any,.any,.any,.any,.any,.any,.any,.any,.any,.any,.any,.any,.any,.any,.any,.any,.any,.any,.any,.any,.any,.any,.any,.any,.any,.any,.any,.any] ∧
  s=st.set pid (.cells (qK T q))++(.cells qv :: .cells (qk (st.length+2) k nd) :: .tok k::ex)) (n:=T.length+2) ?_ ⟨n0,_,0,[],hL,by rw[hnm0.2];simp,hnm0.1,rfl,by unfold qk;rw[hnm0.2];rfl⟩ ?_
 ·exact qu
 rintro m env s ⟨nd,q,k,ex,hl,hm,hnm,rfl,rfl⟩;cases m with
 | zero=>cases hl
 | succ m =>
 unfold DI at hl;rw[if_pos rfl,xoB] at hl;obtain⟨b,hb,hl⟩:=hl;unfold VV at hb;rw[xoM] at hb;obtain⟨t,ht,hb⟩:=hb;obtain⟨o,ho⟩:∃ o,UF t [95] [40] [95]=o:=⟨_,rfl⟩;have hoe:=tb (t:=t) [95] [40] (by decide) (by decide);rw[ho] at hoe;by_cases hE:isT t [95]=false∧isT t [40]=false∧t.kind≠3∧t.kind≠1∧t.kind≠4
 ·obtain⟨e1,e2,e3,e4,e5⟩:=hE;rw[e1,e2] at hoe hb;have f3:(t.kind==3)=false:=by simp[e3]
  have f1:(t.kind==1)=false:=by simp[e4]
  have f4:(t.kind==4)=false:=by simp[e5]
  have s1:(o==[])=true:=hoe;have s2:(t.kind != 3)=true:=by simp[e3]
  have s3:(t.kind != 1)=true:=by simp[e4]
  have s4:(t.kind != 4)=true:=by simp[e5]
  rw[f3,f1,f4] at hb;subst hb;simp only[Bool.or_self,XU,if_false,xsJ,xpJ] at hl;obtain⟨rfl,rfl⟩:=hl;unfold qk qv;simp only[go_sem,c0];refine qd ht (zm hp) ?_;simp only[go_sem,c0];refine Y0 ht ho (zm hp) ?_;unfold qK;simp only[go_sem,c0,QH,Y2,List.toList_toArray,s1,s2,s3,s4,zb hp,y1.1,y1.2.1,y1.2.2,hw2];exact QL (p':={ q with deep:=q.deep-1 }) hk hnm
 have hbt:b=true:=by
  rw[←hb];cases x1:isT t [95] <;> cases x2:isT t [40] <;> simp;simp only[x1,x2,true_and,ne_eq,not_and,Decidable.not_not] at hE;omega
 subst hbt;rw[if_pos rfl] at hl;have hsh:(o==[])=false∨((o==[])=true∧t.kind=3)∨((o==[])=true∧t.kind=1)∨((o==[])=true∧t.kind=4):=by
  cases x1:isT t [95] <;> cases x2:isT t [40] <;> rw[x1,x2] at hoe
  ·right;simp only[x1,x2,true_and,ne_eq,not_and,Decidable.not_not] at hE;have:t.kind=3∨t.kind=1∨t.kind=4:=by omega
   rcases this with g | g | g
   ·exact .inl ⟨hoe,g⟩
   ·exact .inr (.inl ⟨hoe,g⟩)
   ·exact .inr (.inr ⟨hoe,g⟩)
  all_goals exact .inl hoe
 rcases hsh with s1 | ⟨s1,g⟩ | ⟨s1,g⟩ | ⟨s1,g⟩
 ·by_cases c4:nd.kids.length=4
  ·have l1:((nd.kids.length:Int)==4)=true:=by simp[c4]
   rw[if_pos c4,xoM] at hl;obtain⟨p2,h6,hl⟩:=hl;cases hl;unfold qk qv;simp only[go_sem,c0];refine qd ht (zm hp) ?_;simp only[go_sem,c0];refine Y0 ht ho (zm hp) ?_;simp only[go_sem,c0,QH,Y2,List.toList_toArray,xlM,l1,s1];first | (unfold zf;simp only[ze,zc,zl,xsS,xsZ,xgS,xgZ]) | skip
   refine Qw h6 (zm hp) fun _=>?_;unfold qK;simp only[go_sem,c0,zb hp,y1.1,y1.2.1,y1.2.2,hw2];exact QL (p':={ q1 with deep:=q1.deep-1 }) hk hnm
  ·have l1:((nd.kids.length:Int)==4)=false:=by simp;omega
   rw[if_neg c4,xoB] at hl;obtain⟨⟨x,p2⟩,h6,hl⟩:=hl;unfold qk qv;simp only[go_sem,c0];refine qd ht (zm hp) ?_;simp only[go_sem,c0];refine Y0 ht ho (zm hp) ?_;simp only[go_sem,c0,QH,Y2,List.toList_toArray,xlM,l1,s1];refine zB [] [(0,[5]),(0,[5]),(0,[]),(3,[5]),(0,[]),(3,[7]),(0,[]),(1,[8])] mixed rfl ?_;simp only[go_sem];refine⟨_,_,hpa _ _ _ h6 _ _ (zm hp) ⟨rfl,rfl⟩,?_⟩;simp only[go_sem,zb hp];rw[zt];refine⟨.slice .full 6 [zq x],?_,?_⟩
   ·simp only[go_sem];exact⟨⟨[],by simp⟩,zM _ _ (.inr rfl) _ [_],.inl rfl⟩
   simp only[go_sem];refine⟨_,_,⟨Tryz.app6d (by omega),rfl,rfl⟩,?_⟩;simp only[go_sem];refine⟨m,_,by omega,?_,nd.addKid x,p2,k+1,_,hl,by rw[zQ];simp;omega,by rw[qh];exact hnm,rfl,by rw[qV,qT,Zv,Zu,zQ,xmA];rfl⟩;exact qu
 ·have s2:(t.kind != 3)=false:=by simp[g]
  by_cases c4:nd.kids.length=4
  ·have l1:((nd.kids.length:Int)==4)=true:=by simp[c4]
   rw[if_pos c4,xoM] at hl;obtain⟨p2,h6,hl⟩:=hl;cases hl;unfold qk qv;simp only[go_sem,c0];refine qd ht (zm hp) ?_;simp only[go_sem,c0];refine Y0 ht ho (zm hp) ?_;simp only[go_sem,c0,QH,Y2,List.toList_toArray,xlM,l1,s1,s2];first | (unfold zf;simp only[ze,zc,zl,xsS,xsZ,xgS,xgZ]) | skip
   refine Qw h6 (zm hp) fun _=>?_;unfold qK;simp only[go_sem,c0,zb hp,y1.1,y1.2.1,y1.2.2,hw2];exact QL (p':={ q1 with deep:=q1.deep-1 }) hk hnm
  ·have l1:((nd.kids.length:Int)==4)=false:=by simp;omega
   rw[if_neg c4,xoB] at hl;obtain⟨⟨x,p2⟩,h6,hl⟩:=hl;unfold qk qv;simp only[go_sem,c0];refine qd ht (zm hp) ?_;simp only[go_sem,c0];refine Y0 ht ho (zm hp) ?_;simp only[go_sem,c0,QH,Y2,List.toList_toArray,xlM,l1,s1,s2];refine zB [] [(0,[5]),(0,[5]),(0,[]),(3,[5]),(0,[]),(3,[7]),(0,[]),(1,[8])] mixed rfl ?_;simp only[go_sem];refine⟨_,_,hpa _ _ _ h6 _ _ (zm hp) ⟨rfl,rfl⟩,?_⟩;simp only[go_sem,zb hp];rw[zt];refine⟨.slice .full 6 [zq x],?_,?_⟩
   ·simp only[go_sem];exact⟨⟨[],by simp⟩,zM _ _ (.inr rfl) _ [_],.inl rfl⟩
   simp only[go_sem];refine⟨_,_,⟨Tryz.app6d (by omega),rfl,rfl⟩,?_⟩;simp only[go_sem];refine⟨m,_,by omega,?_,nd.addKid x,p2,k+1,_,hl,by rw[zQ];simp;omega,by rw[qh];exact hnm,rfl,by rw[qV,qT,Zv,Zu,zQ,xmA];rfl⟩;exact qu
 ·have s2:(t.kind != 3)=true:=by simp[g]
  have s3:(t.kind != 1)=false:=by simp[g]
  by_cases c4:nd.kids.length=4
  ·have l1:((nd.kids.length:Int)==4)=true:=by simp[c4]
   rw[if_pos c4,xoM] at hl;obtain⟨p2,h6,hl⟩:=hl;cases hl;unfold qk qv;simp only[go_sem,c0];refine qd ht (zm hp) ?_;simp only[go_sem,c0];refine Y0 ht ho (zm hp) ?_;simp only[go_sem,c0,QH,Y2,List.toList_toArray,xlM,l1,s1,s2,s3];first | (unfold zf;simp only[ze,zc,zl,xsS,xsZ,xgS,xgZ]) | skip
   refine Qw h6 (zm hp) fun _=>?_;unfold qK;simp only[go_sem,c0,zb hp,y1.1,y1.2.1,y1.2.2,hw2];exact QL (p':={ q1 with deep:=q1.deep-1 }) hk hnm
  ·have l1:((nd.kids.length:Int)==4)=false:=by simp;omega
   rw[if_neg c4,xoB] at hl;obtain⟨⟨x,p2⟩,h6,hl⟩:=hl;unfold qk qv;simp only[go_sem,c0];refine qd ht (zm hp) ?_;simp only[go_sem,c0];refine Y0 ht ho (zm hp) ?_;simp only[go_sem,c0,QH,Y2,List.toList_toArray,xlM,l1,s1,s2,s3];refine zB [] [(0,[5]),(0,[5]),(0,[]),(3,[5]),(0,[]),(3,[7]),(0,[]),(1,[8])] mixed rfl ?_;simp only[go_sem];refine⟨_,_,hpa _ _ _ h6 _ _ (zm hp) ⟨rfl,rfl⟩,?_⟩;simp only[go_sem,zb hp];rw[zt];refine⟨.slice .full 6 [zq x],?_,?_⟩
   ·simp only[go_sem];exact⟨⟨[],by simp⟩,zM _ _ (.inr rfl) _ [_],.inl rfl⟩
   simp only[go_sem];refine⟨_,_,⟨Tryz.app6d (by omega),rfl,rfl⟩,?_⟩;simp only[go_sem];refine⟨m,_,by omega,?_,nd.addKid x,p2,k+1,_,hl,by rw[zQ];simp;omega,by rw[qh];exact hnm,rfl,by rw[qV,qT,Zv,Zu,zQ,xmA];rfl⟩;exact qu
 ·have s2:(t.kind != 3)=true:=by simp[g]
  have s3:(t.kind != 1)=true:=by simp[g]
  have s4:(t.kind != 4)=false:=by simp[g]
  by_cases c4:nd.kids.length=4
  ·have l1:((nd.kids.length:Int)==4)=true:=by simp[c4]
   rw[if_pos c4,xoM] at hl;obtain⟨p2,h6,hl⟩:=hl;cases hl;unfold qk qv;simp only[go_sem,c0];refine qd ht (zm hp) ?_;simp only[go_sem,c0];refine Y0 ht ho (zm hp) ?_;simp only[go_sem,c0,QH,Y2,List.toList_toArray,xlM,l1,s1,s2,s3,s4];first | (unfold zf;simp only[ze,zc,zl,xsS,xsZ,xgS,xgZ]) | skip
   refine Qw h6 (zm hp) fun _=>?_;unfold qK;simp only[go_sem,c0,zb hp,y1.1,y1.2.1,y1.2.2,hw2];exact QL (p':={ q1 with deep:=q1.deep-1 }) hk hnm
  ·have l1:((nd.kids.length:Int)==4)=false:=by simp;omega
   rw[if_neg c4,xoB] at hl;obtain⟨⟨x,p2⟩,h6,hl⟩:=hl;unfold qk qv;simp only[go_sem,c0];refine qd ht (zm hp) ?_;simp only[go_sem,c0];refine Y0 ht ho (zm hp) ?_;simp only[go_sem,c0,QH,Y2,List.toList_toArray,xlM,l1,s1,s2,s3,s4];refine zB [] [(0,[5]),(0,[5]),(0,[]),(3,[5]),(0,[]),(3,[7]),(0,[]),(1,[8])] mixed rfl ?_;simp only[go_sem];refine⟨_,_,hpa _ _ _ h6 _ _ (zm hp) ⟨rfl,rfl⟩,?_⟩;simp only[go_sem,zb hp];rw[zt];refine⟨.slice .full 6 [zq x],?_,?_⟩
   ·simp only[go_sem];exact⟨⟨[],by simp⟩,zM _ _ (.inr rfl) _ [_],.inl rfl⟩
   simp only[go_sem];refine⟨_,_,⟨Tryz.app6d (by omega),rfl,rfl⟩,?_⟩;simp only[go_sem];refine⟨m,_,by omega,?_,nd.addKid x,p2,k+1,_,hl,by rw[zQ];simp;omega,by rw[qh];exact hnm,rfl,by rw[qV,qT,Zv,Zu,zQ,xmA];rfl⟩;exact qu
end Go.Proofs
