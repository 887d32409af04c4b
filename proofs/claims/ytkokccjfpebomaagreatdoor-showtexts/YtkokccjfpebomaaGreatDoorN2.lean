/- The document's parser in memory; kind, at, is, fail, step, want, text, enter. -/
import Derived.Test.YtkokccjfpebomaaGreatDoorM7
set_option linter.all false
set_option maxHeartbeats 4000000
set_option maxRecDepth 8000
namespace Go.AL
def qz(T:List Tk)(p:PS):List SV:=[.slice .imm 4 (T.map ZC),.sc (.int .i64 p.pos),.sc (.int .i64 p.deep),.sc (.int .i64 p.bad),.sc (.bool p.flat),.sc (.int .i64 p.e)]
def Jb(T:List Tk)(pid:Nat)(p:PS)(st:St):Prop:=st[pid]?=some (.cells (qz T p))
theorem Vt(n:Nat)(T:List Tk)(p:PS):ObIds n (.cells (qz T p)):=by
 have:∀ x∈qz T p,Ids n x:=by
  unfold qz;simp only[List.forall_mem_cons,YV,true_and];refine⟨zQ (.inl rfl) fun x hx y hy=>?_,fun x hx=>by cases hx⟩;obtain⟨t,_,rfl⟩:=List.mem_map.1 hx;rw[Qw] at hy;simp only[List.mem_cons,List.not_mem_nil,or_false] at hy;rcases hy with rfl | rfl | rfl | rfl <;> exact .sc _
 exact fun j hj=>this _ (by
  rw[xgE,List.getElem?_eq_getElem hj];exact List.getElem_mem hj)
theorem tI{T:List Tk}{pid:Nat}{p:PS}{st:St}(hp:Jb T pid p st):st.set pid (.cells (qz T p))=st:=by
 obtain⟨h1,h2⟩:=List.getElem?_eq_some_iff.1 hp;rw[←h2,List.set_getElem_self]
theorem Yo{T:List Tk}{pid:Nat}{p p':PS}{st:St}(hp:Jb T pid p st):Jb T pid p' (st.set pid (.cells (qz T p'))):=ql (zi hp)
theorem zj{T:List Tk}{pid:Nat}{p p':PS}{st ex:St}(hp:Jb T pid p st):Jb T pid p' (st.set pid (.cells (qz T p'))++ex):=VB (Yo hp) ex
theorem zm{T:List Tk}{pid:Nat}{p:PS}{st ex:St}(hp:Jb T pid p st):Jb T pid p (st++ex):=VB hp ex
theorem mn{T:List Tk}{pid:Nat}{p:PS}{st:St}{K:SV→St→Prop}{x y:SV}{ex:St}(hp:Jb T pid p st)(hi:∀ n,Ids n y=True)(hk:K y (st.set pid (.cells (qz T p))))(hx:norm x=y):YU st K x (st++ex) :=
 dV hi (by rw[tI hp] at hk;exact hk) hx
theorem uW{T:List Tk}{pid:Nat}{p:PS}{st:St}{K:SV→St→Prop}{x y:SV}(hp:Jb T pid p st)(hi:∀ n,Ids n y=True)(hk:K y (st.set pid (.cells (qz T p))))(hx:norm x=y):YU st K x st:=by
 have:=mn (ex:=[]) hp hi hk hx;rwa[xaN] at this
theorem dD{T:List Tk}{pid:Nat}{p':PS}{st:St}{K:SV→St→Prop}{x y:SV}{ex:St}(hi:∀ n,Ids n y=True)(hk:K y (st.set pid (.cells (qz T p'))))(hx:norm x=y):YU st K x (st.set pid (.cells (qz T p'))++ex):=by
 subst hx;exact⟨_,ex,rfl,(Mod.refl _).set _ _ (Vt _ _ _),by rw[hi];trivial,hk⟩
theorem KU{T:List Tk}{pid:Nat}{p':PS}{st:St}{K:SV→St→Prop}{x y:SV}(hi:∀ n,Ids n y=True)(hk:K y (st.set pid (.cells (qz T p'))))(hx:norm x=y):YU st K x (st.set pid (.cells (qz T p'))):=by
 subst hx;exact⟨_,[],(xaN _).symm,(Mod.refl _).set _ _ (Vt _ _ _),by rw[hi];trivial,hk⟩
theorem Xf{T:List Tk}{pid:Nat}{p':PS}{nd:Nd}{st:St}{K:SV→St→Prop}{m1 m2:AL.Mode}{z1 z2:Nat}(hk:K (zq nd) (st.set pid (.cells (qz T p'))))(h1:z1=1∨nd.names=[])(h2:z2=6∨nd.kids=[]){ex:St} :
  YU st (jy K) (W2 m1 m2 z1 z2 nd) (st.set pid (.cells (qz T p'))++ex) :=
 ⟨_,ex,rfl,(Mod.refl _).set _ _ (Vt _ _ _),uH _,_,Ej h1 h2,hk⟩
theorem QA{T:List Tk}{pid:Nat}{p':PS}{nd:Nd}{st:St}{K:SV→St→Prop}(hk:K (zq nd) (st.set pid (.cells (qz T p')))){ex:St} :
  YU st (jy K) (zq nd) (st.set pid (.cells (qz T p'))++ex) :=
 ⟨_,ex,rfl,(Mod.refl _).set _ _ (Vt _ _ _),by rw[Hb];exact VI _ _,_,by rw[Hb];exact SVle.refl _,hk⟩
theorem Qx{T:List Tk}{pid kid ver:Nat}{p':PS}{nd:Nd}{st:St}{K:SV→St→Prop}(hk:K (zq nd) (st.set pid (.cells (qz T p'))))(hnm:nd.names=[]){ex:St} :
  YU st (jy K) (.agg (qg kid ver nd)) (st.set pid (.cells (qz T p'))++ex):=by
 have:=Xf (m1 :=.full) (m2 :=.own kid ver) (z1:=0) (z2:=6) hk (.inr hnm) (.inl rfl) (ex:=ex);unfold W2 at this;rw[hnm] at this;exact this
theorem Xu{st:St}{K:SV→St→Prop}{x:SV}(hi:Ids st.length (norm x)=True)(hk:K (norm x) st):Ba st K x st:=by
 have:=zB (ex:=[]) hi hk;rwa[xaN] at this
theorem gO{T:List Tk}{p q:PS}{s:Tx}{t:Tk}(hb:Ye T s p=some true)(h:ZG T p=some (t,q)):Zv T p=some (t,q):=by
 unfold Ye at hb;rw[xoM] at hb;obtain⟨u,hu,hi⟩:=hb;obtain⟨g,rfl⟩:=QD hu (Yj hi) h;exact g
theorem mm{T:List Tk}{p p1 q:PS}{t:Tk}(h:Zh T 14 p=some p1)(h2:ZG T p1=some (t,q)):t.text=[]∧q=p1:=by
 have hne:=Ql h (by decide);obtain⟨h3,h4⟩:=Kz h2;have:=ka h3 hne;subst this;rw[if_neg (fun x=>hne x.1)] at h4;exact⟨rfl,h4⟩
end Go.AL
namespace Go.Proofs
open Go Go.AL Tryz
variable {K:SV→St→Prop}{st:St}
def DC(T:List Tk)(pid:Nat)(f:FuncId)(e:PM Nd):Prop:=∀ (p:PS) (r:Nd) (p':PS),e p=some (r,p')→∀ (K:SV→St→Prop) (st:St),Jb T pid p st→K (zq r) (st.set pid (.cells (qz T p')))→ACalls prog f [.ptr pid 0] K st
theorem zX{T:List Tk}{pid:Nat}{p:PS}{t:Tk}(h:zE T p=some t)(hp:Jb T pid p st)(hk:K (.sc (.int .i64 t.kind)) st):ACalls prog 25 [.ptr pid 0] K st:=by
 refine zc [] func25 rfl results25 ntmps25 ?_;have y:=zF hp;unfold qz at y;by_cases he:p.e=0
 ·have c1:(p.e != 0)=false:=by simp[he]
  unfold zE at h;rw[if_pos he] at h;obtain⟨hlt,hget⟩:=List.getElem?_eq_some_iff.1 h;have hgt:(T.map ZC).getD p.pos .any=ZC t:=by simp[xgE,h]
  simp only[go_sem,y.1,y.2.1,y.2.2,c1];refine zy [] mixed rfl ?_;simp only[go_sem,y.1,y.2.1,y.2.2,hgt];refine⟨by omega,Xu (zh _ _) hk⟩
 ·have c1:(p.e != 0)=true:=by simp[he]
  unfold zE at h;rw[if_neg he] at h;cases h;simp only[go_sem,y.1,y.2.1,y.2.2,c1];exact Xu (zh _ _) hk
theorem uK{T:List Tk}{pid:Nat}{p:PS}{a:Int}(h:bU T p=some a)(hp:Jb T pid p st)(hk:K (.sc (.int .i64 a)) st):ACalls prog 19 [.ptr pid 0] K st:=by
 refine zc [] func19 rfl results19 ntmps19 ?_;have y:=zF hp;unfold qz at y;unfold bU at h;by_cases he:p.e=0
 ·have c1:(p.e != 0)=false:=by simp[he]
  unfold zE at h;rw[if_pos he,xoM] at h;obtain⟨t,h,rfl⟩:=h;obtain⟨hlt,hget⟩:=List.getElem?_eq_some_iff.1 h;have hgt:(T.map ZC).getD p.pos .any=ZC t:=by simp[xgE,h]
  simp only[go_sem,y.1,y.2.1,y.2.2,c1];refine zy [] mixed rfl ?_;simp only[go_sem,y.1,y.2.1,y.2.2,hgt];refine⟨by omega,Xu (zh _ _) hk⟩
 ·have c1:(p.e != 0)=true:=by simp[he]
  unfold zE at h;rw[if_neg he] at h;cases h;simp only[go_sem,y.1,y.2.1,y.2.2,c1];exact Xu (zh _ _) hk
theorem Q2{T:List Tk}{pid:Nat}{p:PS}{s:Tx}{b:Bool}(h:Ye T s p=some b)(hp:Jb T pid p st)(hk:K (.sc (.bool b)) st):ACalls prog 20 [.ptr pid 0,.sc (.string (ba s))] K st:=by
 unfold Ye at h;rw[xoM] at h;obtain⟨t,hl,rfl⟩:=h;refine zc [] func20 rfl results20 ntmps20 ?_;have y:=zF hp;unfold qz at y;simp only[go_sem];refine zX hl hp ?_;by_cases c:t.kind=5∨t.kind=6
 ·have he:p.e=0:=by
   by_cases c0:p.e=0
   ·exact c0
   ·unfold zE at hl;rw[if_neg c0] at hl;cases hl;exact absurd c (by decide)
  unfold zE at hl;rw[if_pos he] at hl;obtain⟨hlt,hget⟩:=List.getElem?_eq_some_iff.1 hl;have hgt:(T.map ZC).getD p.pos .any=ZC t:=by simp[xgE,hl]
  have hi:isT t s=(t.text==s):=by unfold isT;rcases c with c | c <;> simp[c]
  rw[hi] at hk;by_cases c5:t.kind=5
  ·have c1:(t.kind==5)=true:=by simp[c5]
   simp only[go_sem];refine zy [] mixed rfl ?_;simp only[go_sem,y.1,y.2.1,y.2.2,hgt,c1];exact⟨by omega,Xu (zh _ _) hk⟩
  ·have c1:(t.kind==5)=false:=by simp[c5]
   have c2:(t.kind==6)=true:=by simp;omega
   simp only[go_sem];refine zy [] mixed rfl ?_;simp only[go_sem,y.1,y.2.1,y.2.2,hgt,c1,c2];exact⟨by omega,Xu (zh _ _) hk⟩
 ·have c1:(t.kind==5)=false:=by simp;omega
  have c2:(t.kind==6)=false:=by simp;omega
  have hi:isT t s=false:=by unfold isT;simp[c1,c2]
  rw[hi] at hk;simp only[go_sem];refine zy [] mixed rfl ?_;simp only[go_sem,y.1,y.2.1,y.2.2,c1,c2];exact Xu (zh _ _) hk
theorem Qk{T:List Tk}{pid:Nat}{p p':PS}{e:Int}(h:Zh T e p=some p')(hp:Jb T pid p st)(hk:∀ x,K x (st.set pid (.cells (qz T p')))):ACalls prog 21 [.ptr pid 0,.sc (.int .i64 e)] K st:=by
 refine zl [] func21 rfl results21 ntmps21 ?_;have y:=zF hp;unfold qz at y;unfold Zh at h;by_cases he:p.e=0
 ·have c1:(p.e==0)=true:=by simp[he]
  rw[if_pos he,xoM] at h;obtain⟨t,h,rfl⟩:=h;obtain⟨hlt,hget⟩:=List.getElem?_eq_some_iff.1 h;have hgt:(T.map ZC).getD p.pos .any=ZC t:=by simp[xgE,h]
  simp only[go_sem,y.1,y.2.1,y.2.2,c1];refine zA [] [(0,[]),(0,[]),(0,[]),(0,[]),(0,[]),(0,[]),(0,[]),(0,[]),(0,[]),(0,[]),(0,[]),(0,[]),(0,[]),(0,[]),(1,[15])] mixed rfl ?_;simp only[go_sem,y.1,y.2.1,y.2.2,hgt];exact⟨by omega,KU Xj (hk _) rfl⟩
 ·have c1:(p.e==0)=false:=by simp[he]
  rw[if_neg he] at h;cases h;simp only[go_sem,y.1,y.2.1,y.2.2,c1];exact uW hp Xj (hk _) rfl
theorem Im{T:List Tk}{p:PS}{t:Tk}(hT:T.length≤100000)(h:zE T p=some t)(he:p.e=0):IntKind.i64.wrap ((p.pos:Int)+1)=((p.pos+1:Nat):Int):=by
 unfold zE at h;rw[if_pos he] at h;obtain⟨hlt,_⟩:=List.getElem?_eq_some_iff.1 h;rw[IntWalk.i64_in _ (by omega)];rfl
theorem qH{T:List Tk}(hT:T.length≤100000){pid:Nat}{p p':PS}{t:Tk}(h:Zv T p=some (t,p'))(hp:Jb T pid p st)(hk:K (ZC t) (st.set pid (.cells (qz T p')))):ACalls prog 34 [.ptr pid 0] K st:=by
 refine zl [] func34 rfl results34 ntmps34 ?_;have y:=zF hp;unfold qz at y;unfold Zv at h;rw[xoM] at h;obtain⟨t0,hl,h⟩:=h;by_cases h0:t0.kind=0
 ·have c1:(t0.kind==0)=true:=by simp[h0]
  rw[if_pos h0] at h;cases h;simp only[go_sem];refine zX hl (zm hp) ?_;simp only[go_sem,c1];exact mn hp (fun n=>J7 _ gQ) hk rfl
 ·have c1:(t0.kind==0)=false:=by simp[h0]
  rw[if_neg h0] at h;cases h;have he:p.e=0:=by
   by_cases c0:p.e=0
   ·exact c0
   ·unfold zE at hl;rw[if_neg c0] at hl;cases hl;exact absurd rfl h0
  have hw:=Im hT hl he;have hl2:=hl;unfold zE at hl2;rw[if_pos he] at hl2;obtain⟨hlt,hget⟩:=List.getElem?_eq_some_iff.1 hl2;have hgt:(T.map ZC).getD p.pos .any=ZC t:=by simp[xgE,hl2]
  simp only[go_sem];refine zX hl (zm hp) ?_;simp only[go_sem,c1];refine zA [] [(0,[11]),(0,[11]),(0,[11]),(0,[11]),(0,[11]),(0,[11]),(0,[11]),(0,[11]),(0,[11]),(0,[11]),(3,[11]),(1,[12])] mixed rfl ?_;simp only[go_sem,y.1,y.2.1,y.2.2,hgt];refine⟨by omega,_,_,⟨rfl,rfl⟩,?_⟩;simp only[go_sem,y.1,y.2.1,y.2.2,hgt,hw];exact⟨by omega,dD (fun n=>J7 _ t) hk rfl⟩
theorem q9{T:List Tk}(hT:T.length≤100000){pid:Nat}{p p':PS}{s:Tx}(h:qp T s p=some p')(hp:Jb T pid p st)(hk:∀ x,K x (st.set pid (.cells (qz T p')))):ACalls prog 23 [.ptr pid 0,.sc (.string (ba s))] K st:=by
 refine zl [] func23 rfl results23 ntmps23 ?_;unfold qp Xc at h;simp only[xoB,xpX] at h;obtain⟨b',p1,⟨b,hb,h1⟩,h2⟩:=h;simp only[go_sem];refine Q2 hb hp ?_;cases b with
 | false =>
  simp only[Yd,if_false,xsJ,xpJ] at h1;obtain⟨rfl,rfl⟩:=h1;simp only[Yd,if_false] at h2;simp only[go_sem];refine Qk h2 hp fun x=>?_;simp only[go_sem];exact KU Xj (hk _) rfl
 | true =>
  simp only[if_true,xoM,xpX,xpJ] at h1;obtain⟨t,q,ht,rfl,rfl⟩:=h1;simp only[if_true,xsJ] at h2;subst h2;simp only[go_sem];refine qH hT (gO hb ht) hp ?_;simp only[go_sem];exact KU Xj (hk _) rfl
theorem JU{T:List Tk}(hT:T.length≤100000){pid:Nat}{p p':PS}{k:Int}(hk0:k≠0){x:Tx}(h:J3 T k p=some (x,p'))(hp:Jb T pid p st)(hk:K (.sc (.string (ba x))) (st.set pid (.cells (qz T p')))):ACalls prog 35 [.ptr pid 0,.sc (.int .i64 k)] K st:=by
 refine zl [] func35 rfl results35 ntmps35 ?_;unfold J3 Qn at h;simp only[xoM,xoB,xpX,xpJ] at h;obtain⟨u,q,⟨t,hl,p1,h1,h2⟩,rfl,rfl⟩:=h;simp only[go_sem];refine zX hl hp ?_;by_cases c:t.kind=k
 ·have c1:(t.kind != k)=false:=by simp[c]
  rw[if_neg (by simp[c])] at h1;cases h1;obtain⟨g1,rfl⟩:=QD hl (by omega) h2;simp only[go_sem,c1];refine qH hT g1 hp ?_;simp only[go_sem,zb hp];exact dD (zh _) hk rfl
 ·have c1:(t.kind != k)=true:=by simp[c]
  rw[if_pos c] at h1;have ht:=mm h1 h2;obtain⟨hu,rfl⟩:=ht;rw[hu] at hk;simp only[go_sem,c1];refine Qk h1 hp fun x=>?_;simp only[go_sem,zb hp];exact KU (zh _) hk rfl
def HM(T:List Tk):PM Bool:=fun p=>(if p.deep=40 then Zh T 15 p else some p).map fun p1=>if p1.e≠0 then (false,p1) else (true,{ p1 with deep:=p1.deep+1 })
theorem Vb{T:List Tk}{pid:Nat}{p p':PS}{b:Bool}(hd:p.deep≤1000)(h:HM T p=some (b,p'))(hp:Jb T pid p st)(hk:K (.sc (.bool b)) (st.set pid (.cells (qz T p')))):ACalls prog 38 [.ptr pid 0] K st:=by
 refine zl [] func38 rfl results38 ntmps38 ?_;have y:=zF hp;unfold qz at y;unfold HM at h;rw[xoM] at h;obtain⟨p1,h1,h⟩:=h;have y1:=zF (Yo (p':=p1) hp);unfold qz at y1;have hw:IntKind.i64.wrap ((p.deep:Int)+1)=((p.deep+1:Nat):Int):=by rw[IntWalk.i64_in _ (by omega)];rfl
 by_cases c:p.deep=40
 ·have c1:((p.deep:Int)==40)=true:=by simp[c]
  rw[if_pos c] at h1;have hne:=Ql h1 (by decide);have c2:(p1.e != 0)=true:=by simp[hne]
  rw[if_pos hne] at h;cases h;simp only[go_sem,y.1,y.2.1,y.2.2,c1];refine Qk h1 hp fun x=>?_;unfold qz;simp only[go_sem,y1.1,y1.2.1,y1.2.2,c2];exact KU (zh _) hk rfl
 ·have c1:((p.deep:Int)==40)=false:=by simp;omega
  rw[if_neg c] at h1;cases h1;by_cases he:p.e=0
  ·have c2:(p.e != 0)=false:=by simp[he]
   rw[if_neg (by simp[he])] at h;cases h;simp only[go_sem,y.1,y.2.1,y.2.2,c1,c2,hw];exact KU (zh _) hk rfl
  ·have c2:(p.e != 0)=true:=by simp[he]
   rw[if_pos he] at h;cases h;simp only[go_sem,y.1,y.2.1,y.2.2,c1,c2];exact uW hp (zh _) hk rfl
end Go.Proofs
namespace Go.AL
theorem mo{T:List Tk}{pid:Nat}{p p0:PS}{b:Bool}{st ex:St}(hp:Jb T pid p0 st) :
  Jb T pid { p with flat:=b } (st.set pid (.cells [SV.slice .imm 4 (T.map ZC),.sc (.int .i64 p.pos),.sc (.int .i64 p.deep),.sc (.int .i64 p.bad),.sc (.bool b),.sc (.int .i64 p.e)])++ex):=zj hp
end Go.AL
namespace Go.Proofs
open Go Go.AL Tryz
variable {K:SV→St→Prop}{st:St}
theorem qf{T:List Tk}{pid:Nat}{p:PS}{t:Tk}(h:zE T p=some t){s:Tx}{b:Bool}(hb:isT t s=b)(hp:Jb T pid p st)(hk:K (.sc (.bool b)) st):ACalls prog 20 [.ptr pid 0,.sc (.string (ba s))] K st :=
 Q2 (by unfold Ye;rw[h,←hb];rfl) hp hk
theorem wZ{T:List Tk}{pid:Nat}{p:PS}{t:Tk}(h:zE T p=some t){a b c:Tx}(hp:Jb T pid p st)(hk:K (.sc (.string (ba (K4 t a b c)))) st):ACalls prog 86 [.ptr pid 0,.sc (.string (ba a)),.sc (.string (ba b)),.sc (.string (ba c))] K st:=by
 refine zc [] func86 rfl results86 ntmps86 ?_;simp only[go_sem];refine zt [] (fun k env s=>∃ i:Nat,k+i=3∧(1≤i→isT t a=false)∧(2≤i→isT t b=false)∧(3≤i→isT t c=false)∧env=(.ptr pid 0 :: .sc (.string (ba a)) :: .sc (.string (ba b)) :: .sc (.string (ba c))::XQ (.sc (.string ⟨#[]⟩) :: .sc (.int .i64 i) :: .any :: .any::X3 []))∧s=st) (n:=3) ?_ ⟨0,by omega,by omega,by omega,by omega,rfl,rfl⟩ ?_
 ·exact qv
 rintro k env s ⟨i,hi,h1,h2,h3,rfl,rfl⟩;have hc:i=0∨i=1∨i=2∨i=3:=by omega
 have z0:decide (((0:Nat):Int)<3)=true∧(((0:Nat):Int)==1)=false∧(((0:Nat):Int)==2)=false∧IntKind.i64.wrap (((0:Nat):Int)+1)=((1:Nat):Int):=⟨rfl,rfl,rfl,rfl⟩;have z1:decide (((1:Nat):Int)<3)=true∧(((1:Nat):Int)==1)=true∧(((1:Nat):Int)==2)=false∧IntKind.i64.wrap (((1:Nat):Int)+1)=((2:Nat):Int):=⟨rfl,rfl,rfl,rfl⟩;have z2:decide (((2:Nat):Int)<3)=true∧(((2:Nat):Int)==1)=false∧(((2:Nat):Int)==2)=true∧IntKind.i64.wrap (((2:Nat):Int)+1)=((3:Nat):Int):=⟨rfl,rfl,rfl,rfl⟩;have z3:decide (((3:Nat):Int)<3)=false:=rfl;rcases hc with rfl | rfl | rfl | rfl
 ·cases ha:isT t a with
  | true =>
   have ho:K4 t a b c=a:=by unfold K4;rw[if_pos ha]
   rw[ho] at hk;simp only[go_sem,z0.1,z0.2.1,z0.2.2.1,z0.2.2.2];refine qf h ha hp ?_;simp only[go_sem,z0.1,z0.2.1,z0.2.2.1,z0.2.2.2];exact Xu (zh _ _) hk
  | false =>
   simp only[go_sem,z0.1,z0.2.1,z0.2.2.1,z0.2.2.2];refine qf h ha hp ?_;simp only[go_sem,z0.1,z0.2.1,z0.2.2.1,z0.2.2.2];refine⟨2,_,by omega,?_,1,by omega,(fun h=>by omega),(fun h=>by omega),rfl⟩;exact qv
 ·have ha:=h1 (by omega);cases hb:isT t b with
  | true =>
   have ho:K4 t a b c=b:=by unfold K4;rw[if_neg (by rw[ha];decide),if_pos hb]
   rw[ho] at hk;simp only[go_sem,z1.1,z1.2.1,z1.2.2.1,z1.2.2.2];refine qf h hb hp ?_;simp only[go_sem,z1.1,z1.2.1,z1.2.2.1,z1.2.2.2];exact Xu (zh _ _) hk
  | false =>
   simp only[go_sem,z1.1,z1.2.1,z1.2.2.1,z1.2.2.2];refine qf h hb hp ?_;simp only[go_sem,z1.1,z1.2.1,z1.2.2.1,z1.2.2.2];refine⟨1,_,by omega,?_,2,by omega,(fun _=>ha),(fun h=>by omega),rfl⟩;exact qv
 ·have ha:=h1 (by omega);have hb:=h2 (by omega);cases hc:isT t c with
  | true =>
   have ho:K4 t a b c=c:=by unfold K4;rw[if_neg (by rw[ha];decide),if_neg (by rw[hb];decide),if_pos hc]
   rw[ho] at hk;simp only[go_sem,z2.1,z2.2.1,z2.2.2.1,z2.2.2.2];refine qf h hc hp ?_;simp only[go_sem,z2.1,z2.2.1,z2.2.2.1,z2.2.2.2];exact Xu (zh _ _) hk
  | false =>
   simp only[go_sem,z2.1,z2.2.1,z2.2.2.1,z2.2.2.2];refine qf h hc hp ?_;simp only[go_sem,z2.1,z2.2.1,z2.2.2.1,z2.2.2.2];refine⟨0,_,by omega,?_,3,by omega,(fun _=>ha),(fun _=>hb),rfl⟩;exact qv
 ·have ho:K4 t a b c=[]:=by unfold K4;rw[if_neg (by rw[h1 (by omega)];decide),if_neg (by rw[h2 (by omega)];decide),if_neg (by rw[h3 (by omega)];decide)]
  rw[ho] at hk;simp only[go_sem,z3];exact Xu (zh _ _) hk
theorem YN{T:List Tk}{pid:Nat}{p:PS}{t:Tk}(h:zE T p=some t){a b c x:Tx}(hx:K4 t a b c=x)(hp:Jb T pid p st)(hk:K (.sc (.string (ba x))) st):ACalls prog 86 [.ptr pid 0,.sc (.string (ba a)),.sc (.string (ba b)),.sc (.string (ba c))] K st:=by
 subst hx;exact wZ h hp hk
theorem hU(t:Tk):qx t=((t.kind==1 || t.kind==2 || t.kind==3 || t.kind==4) || ((K4 t [40] [114,101,116,114,121] [109,97,116,99,104] != []) || isT t [116,114,121])):=by
 unfold qx K4;cases h1:isT t [40] <;> cases h2:isT t [114,101,116,114,121] <;> cases h3:isT t [109,97,116,99,104] <;> simp
theorem VY{T:List Tk}{pid:Nat}{p:PS}{t:Tk}(h:zE T p=some t){b:Bool}(hb:qx t=b)(hp:Jb T pid p st)(hk:K (.sc (.bool b)) st):ACalls prog 143 [.ptr pid 0] K st:=by
 subst hb;refine zc [] func143 rfl results143 ntmps143 ?_;rw[hU] at hk;obtain⟨o,ho⟩:∃ o,K4 t [40] [114,101,116,114,121] [109,97,116,99,104]=o:=⟨_,rfl⟩;rw[ho] at hk;by_cases c:t.kind=1∨t.kind=2∨t.kind=3∨t.kind=4
 ·have hc:(t.kind==1 || t.kind==2 || t.kind==3 || t.kind==4)=true:=by simp;omega
  rw[hc,Bool.true_or] at hk;by_cases c1:t.kind=1
  ·have d1:(t.kind==1)=true:=by simp[c1]
   simp only[go_sem];refine zX h hp ?_;simp only[go_sem,d1];exact Xu (zh _ _) hk
  have d1:(t.kind==1)=false:=by simp[c1]
  by_cases c2:t.kind=2
  ·have d2:(t.kind==2)=true:=by simp[c2]
   simp only[go_sem];refine zX h hp ?_;simp only[go_sem,d1,d2];exact Xu (zh _ _) hk
  have d2:(t.kind==2)=false:=by simp[c2]
  by_cases c3:t.kind=3
  ·have d3:(t.kind==3)=true:=by simp[c3]
   simp only[go_sem];refine zX h hp ?_;simp only[go_sem,d1,d2,d3];exact Xu (zh _ _) hk
  have d3:(t.kind==3)=false:=by simp[c3]
  have d4:(t.kind==4)=true:=by simp;omega
  simp only[go_sem];refine zX h hp ?_;simp only[go_sem,d1,d2,d3,d4];exact Xu (zh _ _) hk
 ·have hc:(t.kind==1 || t.kind==2 || t.kind==3 || t.kind==4)=false:=by simp;omega
  have c1:(t.kind==1)=false:=by simp;omega
  have c2:(t.kind==2)=false:=by simp;omega
  have c3:(t.kind==3)=false:=by simp;omega
  have c4:(t.kind==4)=false:=by simp;omega
  rw[hc,Bool.false_or] at hk;cases co:o==[] with
  | true =>
   have ho0:(o != [])=false:=by simpa using co
   rw[ho0,Bool.false_or] at hk;cases ht:isT t [116,114,121] with
   | true =>
    rw[ht] at hk;simp only[go_sem];refine zX h hp ?_;simp only[go_sem,c1,c2,c3,c4];refine YN h ho hp ?_;simp only[go_sem];refine qf h ht hp ?_;simp only[go_sem,Qy,YQ,List.toList_toArray,co];exact Xu (zh _ _) hk
   | false =>
    rw[ht] at hk;simp only[go_sem];refine zX h hp ?_;simp only[go_sem,c1,c2,c3,c4];refine YN h ho hp ?_;simp only[go_sem];refine qf h ht hp ?_;simp only[go_sem,Qy,YQ,List.toList_toArray,co];exact Xu (zh _ _) hk
  | false =>
   have ho0:(o != [])=true:=by simpa using co
   rw[ho0,Bool.true_or] at hk;simp only[go_sem];refine zX h hp ?_;simp only[go_sem,c1,c2,c3,c4];refine YN h ho hp ?_;simp only[go_sem];refine qf h rfl hp ?_;simp only[go_sem,Qy,YQ,List.toList_toArray,co];exact Xu (zh _ _) hk
theorem Wg{T:List Tk}(hT:T.length≤100000){pid:Nat}{k:Int}{p p':PS}{r:Nd}(h:Y8 T k p=some (r,p'))(hp:Jb T pid p st)(hk:K (zq r) (st.set pid (.cells (qz T p')))):ACalls prog 155 [.ptr pid 0,.sc (.int .i64 k)] K st:=by
 refine zw (zl [] func155 rfl results155 ntmps155 ?_);unfold Y8 at h;simp only[xoM,xpX,xpJ] at h;obtain⟨t,q,h1,rfl,rfl⟩:=h;simp only[go_sem];refine qH hT h1 (zm hp) ?_;simp only[go_sem,zb hp];exact Xf (m1 :=.full) (m2 :=.full) (z1:=0) (z2:=0) hk (.inr rfl) (.inr rfl)
theorem pI{T:List Tk}{pid:Nat}{e:PM Nd}(he:DC T pid 24 e):DC T pid 156 (QY e):=by
 intro p r p' h K st hp hk;refine zw (zl [] func156 rfl results156 ntmps156 ?_);have y:=zF hp;unfold qz at y;unfold QY at h;simp only[xoM,xpX,xpJ] at h;obtain⟨x,q,h1,rfl,rfl⟩:=h;simp only[go_sem,y.1,y.2.1,y.2.2];refine he _ _ _ h1 _ _ (mo hp) ?_;unfold qz;have y1:=zF (Yo (p':=q) hp);unfold qz at y1;simp only[go_sem,y.1,y.2.1,y.2.2,zb hp,y1.1,y1.2.1,y1.2.2];exact QA (p':={ q with flat:=p.flat }) hk
theorem HD{T:List Tk}{e:PM Nd}{p q:PS}{r:Nd}(h:YT T e p=some (r,q)):p.deep≤1000∧((HM T p=some (false,q)∧r=VQ) ∨
  (∃ q1,HM T p=some (true,{ p with deep:=p.deep+1 })∧e { p with deep:=p.deep+1 }=some (r,q1)∧q1.deep≠0∧q1.deep≤1000∧q={ q1 with deep:=q1.deep-1 })):=by
 unfold YT at h;by_cases c0:1000<p.deep
 ·rw[if_pos c0] at h;cases h
 rw[if_neg c0] at h;refine⟨by omega,?_⟩;rw[xoB] at h;obtain⟨p1,h1,h⟩:=h;by_cases c:p1.e≠0
 ·rw[if_pos c] at h;cases h;exact .inl ⟨by unfold HM;rw[h1];simp only[xmS];rw[if_pos c],rfl⟩
 ·rw[if_neg c] at h;have h40:¬ p.deep=40:=fun x=>by
   rw[if_pos x] at h1;exact c (Ql h1 (by decide))
  have h1':=h1;rw[if_neg h40] at h1;cases h1;rw[xoB] at h;obtain⟨⟨x,q1⟩,h2,h⟩:=h;dsimp only at h;split at h
  ·cases h
  ·rename_i hd;cases h;exact .inr ⟨q1,by unfold HM;rw[h1'];simp only[xmS];rw[if_neg c],h2,by omega,by omega,rfl⟩
theorem nW{T:List Tk}{pid:Nat}{e:PM Nd}(he:DC T pid 39 e):DC T pid 24 (YT T e):=by
 intro p r p' h K st hp hk;refine zw (zl [] func24 rfl results24 ntmps24 ?_);obtain⟨hd,h⟩:=HD h;rcases h with⟨h1,rfl⟩ | ⟨q1,h1,h2,h3,h4,rfl⟩
 ·simp only[go_sem];refine Vb hd h1 (zm hp) ?_;simp only[go_sem,zb hp];exact Xf (m1 :=.full) (m2 :=.full) (z1:=0) (z2:=0) (nd:=VQ) hk (.inr rfl) (.inr rfl)
 ·have y1:=zF (Yo (p':=q1) hp);unfold qz at y1;have hw2:IntKind.i64.wrap ((q1.deep:Int)-1)=((q1.deep-1:Nat):Int):=by rw[IntWalk.i64_in _ (by omega)];omega
  simp only[go_sem];refine Vb hd h1 (zm hp) ?_;simp only[go_sem,zb hp];refine he _ _ _ h2 _ _ (zj hp) ?_;unfold qz;simp only[go_sem,zb hp,y1.1,y1.2.1,y1.2.2,hw2];exact QA (p':={ q1 with deep:=q1.deep-1 }) hk
end Go.Proofs
namespace Go.AL
theorem Kb{T:List Tk}{k:Int}{p p':PS}{r:Nd}(h:Y8 T k p=some (r,p')):r.names=[]∧r.kids=[]:=by
 unfold Y8 at h;simp only[xoM,xpX,xpJ] at h;obtain⟨t,q,h1,rfl,rfl⟩:=h;exact⟨rfl,rfl⟩
theorem Fs{r:Nd}(h:r.names=[]∧r.kids=[]):pg r = .agg [.sc (.int .i64 r.kind),.sc (.string (ba r.text)),.sc (.int .i64 r.num),.sc (.int .i64 r.pos),.slice .full 0 [],.slice .full 0 []]:=by
 unfold pg W2;rw[h.1,h.2];rfl
theorem mr{T:List Tk}{pid:Nat}{p':PS}{k m a:Int}{t:Tx}{st:St}{K:SV→St→Prop}(hk:K (pg (.mk k t m a [] [])) (st.set pid (.cells (qz T p')))){ex:St} :
  yT st K (.agg [.sc (.int .i64 k),.sc (.string (ba t)),.sc (.int .i64 m),.sc (.int .i64 a),.slice .full 0 [],.slice .full 0 []]) (st.set pid (.cells (qz T p'))++ex) :=
 ⟨_,ex,rfl,(Mod.refl _).set _ _ (Vt _ _ _),by
  rw[Z9];simp only[List.forall_mem_cons,YV,true_and];exact⟨zQ (.inr rfl) (fun x hx=>by cases hx),zQ (.inr rfl) (fun x hx=>by cases hx),fun x hx=>by cases hx⟩,hk⟩
theorem nU{t:Tk}(a b:Tx)(ha:a≠[])(hb:b≠[]):(K4 t a b a==[]) = !(isT t a || isT t b):=by
 unfold K4;cases h1:isT t a with
 | true=>simp[ha]
 | false =>
  cases h2:isT t b with
  | true=>simp[hb]
  | false=>simp
end Go.AL
namespace Go.Proofs
open Go Go.AL Tryz
theorem wv{T:List Tk}(hT:T.length≤100000){pid:Nat}{k:Int}{p p':PS}{r:Nd}(h:Y8 T k p=some (r,p')){K:SV→St→Prop}{st:St}(hp:Jb T pid p st)(hk:K (pg r) (st.set pid (.cells (qz T p')))):ACalls prog 155 [.ptr pid 0,.sc (.int .i64 k)] K st:=by
 refine Z4 [] func155 rfl results155 ntmps155 ?_;unfold Y8 at h;simp only[xoM,xpX,xpJ] at h;obtain⟨t,q,h1,rfl,rfl⟩:=h;simp only[go_sem];refine qH hT h1 (zm hp) ?_;simp only[go_sem,zb hp];exact mr hk
theorem gY{T:List Tk}(hT:T.length≤100000){pid:Nat}{p p':PS}{r:Nd}{t:Tk}(hl:zE T p=some t)(h4:t.kind=4)(h:Y8 T 5 p=some (r,p')){K:SV→St→Prop}{st:St}(hp:Jb T pid p st)
  (hk:K (pg r) (st.set pid (.cells (qz T p')))):ACalls prog 165 [.ptr pid 0] K st:=by
 refine Z4 [] func165 rfl results165 ntmps165 ?_;have hr:=Kb h;have d1:(t.kind==1)=false:=by simp[h4]
 have d3:(t.kind==3)=false:=by simp[h4]
 have d4:(t.kind==4)=true:=by simp[h4]
 rw[Fs hr] at hk;simp only[go_sem];refine zX hl (zm hp) ?_;simp only[go_sem,d1,d3,d4];refine wv hT h (zm hp) ?_;rw[Fs hr];simp only[go_sem,zb hp];exact⟨_,_,rfl,(Mod.refl _).set _ _ (Vt _ _ _),by
  rw[Z9];simp only[List.forall_mem_cons,YV,true_and];exact⟨zQ (.inr rfl) (fun x hx=>by cases hx),zQ (.inr rfl) (fun x hx=>by cases hx),fun x hx=>by cases hx⟩,hk⟩
theorem mD{T:List Tk}(hT:T.length≤100000){pid:Nat}{pt:PM Nd}(hpt:DC T pid 157 pt):DC T pid 165 (Uh T pt):=by
 intro p r p' h K st hp hk;refine zw (zl [] func165 rfl results165 ntmps165 ?_);unfold Uh at h;rw[xoB] at h;obtain⟨t,hl,h⟩:=h;by_cases k1:t.kind=1
 ·have d1:(t.kind==1)=true:=by simp[k1]
  rw[if_pos k1] at h;simp only[go_sem];refine zX hl (zm hp) ?_;simp only[go_sem,d1];refine Wg hT h (zm hp) ?_;simp only[go_sem,zb hp];exact QA hk
 have d1:(t.kind==1)=false:=by simp[k1]
 rw[if_neg k1] at h;by_cases k3:t.kind=3
 ·have d3:(t.kind==3)=true:=by simp[k3]
  rw[if_pos k3] at h;simp only[go_sem];refine zX hl (zm hp) ?_;simp only[go_sem,d1,d3];refine Wg hT h (zm hp) ?_;simp only[go_sem,zb hp];exact QA hk
 have d3:(t.kind==3)=false:=by simp[k3]
 rw[if_neg k3] at h;by_cases k4:t.kind=4
 ·have d4:(t.kind==4)=true:=by simp[k4]
  rw[if_pos k4] at h;simp only[go_sem];refine zX hl (zm hp) ?_;simp only[go_sem,d1,d3,d4];refine Wg hT h (zm hp) ?_;simp only[go_sem,zb hp];exact QA hk
 have d4:(t.kind==4)=false:=by simp[k4]
 rw[if_neg k4] at h;cases b1:isT t [95] with
 | true =>
  rw[if_pos b1] at h;simp only[xoM,xpX,xpJ] at h;obtain⟨u,q,h1,rfl,rfl⟩:=h;simp only[go_sem];refine zX hl (zm hp) ?_;simp only[go_sem,d1,d3,d4];refine qf hl b1 (zm hp) ?_;simp only[go_sem];refine qf hl rfl (zm hp) ?_;simp only[go_sem];refine qH hT h1 (zm hp) ?_;simp only[go_sem,zb hp];exact Xf (m1 :=.full) (m2 :=.full) (z1:=0) (z2:=0) (nd:=zr 24 u.pos [] []) hk (.inr rfl) (.inr rfl)
 | false =>
  rw[if_neg (by rw[b1];decide)] at h;cases b2:isT t [40] with
  | true =>
   rw[if_pos b2] at h;simp only[xoB,xoM,xpX,xpJ] at h;obtain⟨u,q,h1,x,q2,h2,q3,h3,rfl,rfl⟩:=h;simp only[go_sem];refine zX hl (zm hp) ?_;simp only[go_sem,d1,d3,d4];refine qf hl b1 (zm hp) ?_;simp only[go_sem];refine qf hl b2 (zm hp) ?_;simp only[go_sem];refine qH hT h1 (zm hp) ?_;simp only[go_sem,zb hp];refine hpt _ _ _ h2 _ _ (zj hp) ?_;simp only[go_sem,zb hp];try (unfold zd;simp only[qc])
   refine q9 hT h3 (zj hp) fun _=>?_;simp only[go_sem,zb hp];exact QA hk
  | false =>
   rw[if_neg (by rw[b2];decide)] at h;simp only[xoM,xpJ] at h;obtain⟨q,h1,rfl,rfl⟩:=h;simp only[go_sem];refine zX hl (zm hp) ?_;simp only[go_sem,d1,d3,d4];refine qf hl b1 (zm hp) ?_;simp only[go_sem];refine qf hl b2 (zm hp) ?_;simp only[go_sem];refine Qk h1 (zm hp) fun _=>?_;simp only[go_sem,zb hp];exact Xf (m1 :=.full) (m2 :=.full) (z1:=0) (z2:=0) (nd:=VQ) hk (.inr rfl) (.inr rfl)
theorem Tryz.app6d{n:Nat}(h:n≤1000000):AppOk prog 24 24 6 n:=J4 Tryz.aelem24 Tryz.aelem24 Tryz.asize26 Tryz.azero26 rfl Tryz.abytes26 (by omega) h
theorem nF{T:List Tk}(hT:T.length≤100000){pid:Nat}{I:PM Nd}(hI:∀ p r q,I p=some (r,q)→∃ pt,DC T pid 157 pt∧pK T pt p=some (r,q)):DC T pid 157 (YT T I):=by
 intro p r p' h K st hp hk;refine zw (zl [] func157 rfl results157 ntmps157 ?_);obtain⟨hd,h⟩:=HD h;rcases h with⟨h1,rfl⟩ | ⟨q1,h1,h2,h3,h4,rfl⟩
 ·simp only[go_sem];refine Vb hd h1 (zm hp) ?_;simp only[go_sem,zb hp];exact Xf (m1 :=.full) (m2 :=.full) (z1:=0) (z2:=0) (nd:=VQ) hk (.inr rfl) (.inr rfl)
 obtain⟨pt,hpt,hb⟩:=hI _ _ _ h2;have hpa:=mD hT hpt;unfold pK at hb;simp only[xoB,xpX] at hb;obtain⟨t0,hl0,n0,p1,h5,hL⟩:=hb;have y1:=zF (Yo (p':=q1) hp);unfold qz at y1;have hw2:IntKind.i64.wrap ((q1.deep:Int)-1)=((q1.deep-1:Nat):Int):=by rw[IntWalk.i64_in _ (by omega)];omega
 by_cases hc:t0.kind=4
 rotate_left
 ·have c0:(t0.kind==4)=false:=by simp[hc]
  rw[c0] at hL;have hx:r=n0∧q1=p1:=by
   unfold EK at hL;cases hL;exact⟨rfl,rfl⟩
  obtain⟨rfl,rfl⟩:=hx;simp only[go_sem];refine Vb hd h1 (zm hp) ?_;simp only[go_sem,zb hp];refine zX hl0 (zj hp) ?_;simp only[go_sem,zb hp,c0];refine hpa _ _ _ h5 _ _ (zj hp) ?_;simp only[go_sem,zb hp,c0];refine zt [] (fun m env s=>env=(.ptr pid 0 :: .any :: .ptr st.length 0 :: .any :: .sc (.bool false) :: .ptr (st.length+1) 0::XQ (X3 (XD [])))∧s=st.set pid (.cells (qz T q1))++[.cells qu,.cells (zq r).cells]) (n:=0) ?_ ⟨rfl,rfl⟩ ?_
  ·exact qv
  rintro m env s ⟨rfl,rfl⟩;unfold qz qu;simp only[go_sem,zb hp,y1.1,y1.2.1,y1.2.2,hw2];exact QA (p':={ q1 with deep:=q1.deep-1 }) hk
 have c0:(t0.kind==4)=true:=by simp[hc]
 rw[c0] at hL;have hl5:Y8 T 5 { p with deep:=p.deep+1 }=some (n0,p1):=by
  unfold Uh at h5;rw[hl0] at h5;simp only[xbS] at h5;rwa[if_neg (by omega),if_neg (by omega),if_pos hc] at h5
 have hnm0:=Kb hl5;simp only[go_sem];refine Vb hd h1 (zm hp) ?_;simp only[go_sem,zb hp];refine zX hl0 (zj hp) ?_;simp only[go_sem,zb hp,c0];refine gY hT hl0 hc hl5 (zj hp) ?_;rw[Fs hnm0];simp only[go_sem,zb hp,c0];refine Z2 (st.length+1) 5 6 0 (Za 1) (by simp) rfl ?_;rw[Qu];simp only[xlA,Xv,xlC,xlN,xsS,xsZ,xaA,xcA,xnA,Nat.zero_add,Nat.reduceAdd];refine zt [] (fun m env s=>∃ (nd:Nd) (q:PS) (k:Nat) (ex:St),EK T pt m true nd q=some (r,q1)∧m+nd.kids.length≤T.length+2∧nd.names=[]∧env=(.ptr pid 0 :: .any :: .ptr st.length 0 :: .any :: .sc (.bool true) :: .ptr (st.length+1) 0::XQ (X3 (XD []))) ∧
  s=st.set pid (.cells (qz T q))++(.cells qu :: .cells (qg (st.length+2) k nd) :: .tok k::ex)) (n:=T.length+2) ?_ ⟨n0,_,0,[],hL,by rw[hnm0.2];simp,hnm0.1,rfl,by unfold qg;rw[hnm0.2];rfl⟩ ?_
 ·exact qv
 rintro m env s ⟨nd,q,k,ex,hl,hm,hnm,rfl,rfl⟩;cases m with
 | zero=>cases hl
 | succ m =>
 unfold EK at hl;rw[if_pos rfl,xoB] at hl;obtain⟨b,hb,hl⟩:=hl;unfold Vx at hb;rw[xoM] at hb;obtain⟨t,ht,hb⟩:=hb;obtain⟨o,ho⟩:∃ o,K4 t [95] [40] [95]=o:=⟨_,rfl⟩;have hoe:=nU (t:=t) [95] [40] (by decide) (by decide);rw[ho] at hoe;by_cases hE:isT t [95]=false∧isT t [40]=false∧t.kind≠3∧t.kind≠1∧t.kind≠4
 ·obtain⟨e1,e2,e3,e4,e5⟩:=hE;rw[e1,e2] at hoe hb;have f3:(t.kind==3)=false:=by simp[e3]
  have f1:(t.kind==1)=false:=by simp[e4]
  have f4:(t.kind==4)=false:=by simp[e5]
  have s1:(o==[])=true:=hoe;have s2:(t.kind != 3)=true:=by simp[e3]
  have s3:(t.kind != 1)=true:=by simp[e4]
  have s4:(t.kind != 4)=true:=by simp[e5]
  rw[f3,f1,f4] at hb;subst hb;simp only[Bool.or_self,Yd,if_false,xsJ,xpJ] at hl;obtain⟨rfl,rfl⟩:=hl;unfold qg qu;simp only[go_sem,c0];refine zX ht (zj hp) ?_;simp only[go_sem,c0];refine YN ht ho (zj hp) ?_;unfold qz;simp only[go_sem,c0,Qy,YQ,List.toList_toArray,s1,s2,s3,s4,zb hp,y1.1,y1.2.1,y1.2.2,hw2];exact Qx (p':={ q with deep:=q.deep-1 }) hk hnm
 have hbt:b=true:=by
  rw[←hb];cases x1:isT t [95] <;> cases x2:isT t [40] <;> simp;simp only[x1,x2,true_and,ne_eq,not_and,Decidable.not_not] at hE;omega
 subst hbt;rw[if_pos rfl] at hl;have hsh:(o==[])=false∨((o==[])=true∧t.kind=3)∨((o==[])=true∧t.kind=1)∨((o==[])=true∧t.kind=4):=by
  cases x1:isT t [95] <;> cases x2:isT t [40] <;> rw[x1,x2] at hoe
  ·right;simp only[x1,x2,true_and,ne_eq,not_and,Decidable.not_not] at hE;have:t.kind=3∨t.kind=1∨t.kind=4:=by omega
   rcases this with g | g | g
   ·exact .inl ⟨hoe,g⟩
   ·exact .inr (.inl ⟨hoe,g⟩)
   ·exact .inr (.inr ⟨hoe,g⟩)
  all_goals exact .inl hoe
 rcases hsh with s1 | ⟨s1,g⟩ | ⟨s1,g⟩ | ⟨s1,g⟩
 ·by_cases c4:nd.kids.length=4
  ·have l1:((nd.kids.length:Int)==4)=true:=by simp[c4]
   rw[if_pos c4,xoM] at hl;obtain⟨p2,h6,hl⟩:=hl;cases hl;unfold qg qu;simp only[go_sem,c0];refine zX ht (zj hp) ?_;simp only[go_sem,c0];refine YN ht ho (zj hp) ?_;simp only[go_sem,c0,Qy,YQ,List.toList_toArray,xlM,l1,s1];try (unfold zd;simp only[qc])
   refine Qk h6 (zj hp) fun _=>?_;unfold qz;simp only[go_sem,c0,zb hp,y1.1,y1.2.1,y1.2.2,hw2];exact Qx (p':={ q1 with deep:=q1.deep-1 }) hk hnm
  ·have l1:((nd.kids.length:Int)==4)=false:=by simp;omega
   rw[if_neg c4,xoB] at hl;obtain⟨⟨x,p2⟩,h6,hl⟩:=hl;unfold qg qu;simp only[go_sem,c0];refine zX ht (zj hp) ?_;simp only[go_sem,c0];refine YN ht ho (zj hp) ?_;simp only[go_sem,c0,Qy,YQ,List.toList_toArray,xlM,l1,s1];refine zA [] [(0,[5]),(0,[5]),(0,[]),(3,[5]),(0,[]),(3,[7]),(0,[]),(1,[8])] mixed rfl ?_;simp only[go_sem];refine⟨_,_,hpa _ _ _ h6 _ _ (zj hp) ⟨rfl,rfl⟩,?_⟩;simp only[go_sem,zb hp];rw[zp];refine⟨.slice .full 6 [zq x],?_,?_⟩
   ·simp only[go_sem];exact⟨⟨[],by simp⟩,zK _ _ (.inr rfl) _ [_],.inl rfl⟩
   simp only[go_sem];refine⟨_,_,⟨Tryz.app6d (by omega),rfl,rfl⟩,?_⟩;simp only[go_sem];refine⟨m,_,by omega,?_,nd.addKid x,p2,k+1,_,hl,by rw[zM];simp;omega,by rw[qb];exact hnm,rfl,by rw[qK,qI,Zo,Zn,zM,xmA];rfl⟩;exact qv
 ·have s2:(t.kind != 3)=false:=by simp[g]
  by_cases c4:nd.kids.length=4
  ·have l1:((nd.kids.length:Int)==4)=true:=by simp[c4]
   rw[if_pos c4,xoM] at hl;obtain⟨p2,h6,hl⟩:=hl;cases hl;unfold qg qu;simp only[go_sem,c0];refine zX ht (zj hp) ?_;simp only[go_sem,c0];refine YN ht ho (zj hp) ?_;simp only[go_sem,c0,Qy,YQ,List.toList_toArray,xlM,l1,s1,s2];try (unfold zd;simp only[qc])
   refine Qk h6 (zj hp) fun _=>?_;unfold qz;simp only[go_sem,c0,zb hp,y1.1,y1.2.1,y1.2.2,hw2];exact Qx (p':={ q1 with deep:=q1.deep-1 }) hk hnm
  ·have l1:((nd.kids.length:Int)==4)=false:=by simp;omega
   rw[if_neg c4,xoB] at hl;obtain⟨⟨x,p2⟩,h6,hl⟩:=hl;unfold qg qu;simp only[go_sem,c0];refine zX ht (zj hp) ?_;simp only[go_sem,c0];refine YN ht ho (zj hp) ?_;simp only[go_sem,c0,Qy,YQ,List.toList_toArray,xlM,l1,s1,s2];refine zA [] [(0,[5]),(0,[5]),(0,[]),(3,[5]),(0,[]),(3,[7]),(0,[]),(1,[8])] mixed rfl ?_;simp only[go_sem];refine⟨_,_,hpa _ _ _ h6 _ _ (zj hp) ⟨rfl,rfl⟩,?_⟩;simp only[go_sem,zb hp];rw[zp];refine⟨.slice .full 6 [zq x],?_,?_⟩
   ·simp only[go_sem];exact⟨⟨[],by simp⟩,zK _ _ (.inr rfl) _ [_],.inl rfl⟩
   simp only[go_sem];refine⟨_,_,⟨Tryz.app6d (by omega),rfl,rfl⟩,?_⟩;simp only[go_sem];refine⟨m,_,by omega,?_,nd.addKid x,p2,k+1,_,hl,by rw[zM];simp;omega,by rw[qb];exact hnm,rfl,by rw[qK,qI,Zo,Zn,zM,xmA];rfl⟩;exact qv
 ·have s2:(t.kind != 3)=true:=by simp[g]
  have s3:(t.kind != 1)=false:=by simp[g]
  by_cases c4:nd.kids.length=4
  ·have l1:((nd.kids.length:Int)==4)=true:=by simp[c4]
   rw[if_pos c4,xoM] at hl;obtain⟨p2,h6,hl⟩:=hl;cases hl;unfold qg qu;simp only[go_sem,c0];refine zX ht (zj hp) ?_;simp only[go_sem,c0];refine YN ht ho (zj hp) ?_;simp only[go_sem,c0,Qy,YQ,List.toList_toArray,xlM,l1,s1,s2,s3];try (unfold zd;simp only[qc])
   refine Qk h6 (zj hp) fun _=>?_;unfold qz;simp only[go_sem,c0,zb hp,y1.1,y1.2.1,y1.2.2,hw2];exact Qx (p':={ q1 with deep:=q1.deep-1 }) hk hnm
  ·have l1:((nd.kids.length:Int)==4)=false:=by simp;omega
   rw[if_neg c4,xoB] at hl;obtain⟨⟨x,p2⟩,h6,hl⟩:=hl;unfold qg qu;simp only[go_sem,c0];refine zX ht (zj hp) ?_;simp only[go_sem,c0];refine YN ht ho (zj hp) ?_;simp only[go_sem,c0,Qy,YQ,List.toList_toArray,xlM,l1,s1,s2,s3];refine zA [] [(0,[5]),(0,[5]),(0,[]),(3,[5]),(0,[]),(3,[7]),(0,[]),(1,[8])] mixed rfl ?_;simp only[go_sem];refine⟨_,_,hpa _ _ _ h6 _ _ (zj hp) ⟨rfl,rfl⟩,?_⟩;simp only[go_sem,zb hp];rw[zp];refine⟨.slice .full 6 [zq x],?_,?_⟩
   ·simp only[go_sem];exact⟨⟨[],by simp⟩,zK _ _ (.inr rfl) _ [_],.inl rfl⟩
   simp only[go_sem];refine⟨_,_,⟨Tryz.app6d (by omega),rfl,rfl⟩,?_⟩;simp only[go_sem];refine⟨m,_,by omega,?_,nd.addKid x,p2,k+1,_,hl,by rw[zM];simp;omega,by rw[qb];exact hnm,rfl,by rw[qK,qI,Zo,Zn,zM,xmA];rfl⟩;exact qv
 ·have s2:(t.kind != 3)=true:=by simp[g]
  have s3:(t.kind != 1)=true:=by simp[g]
  have s4:(t.kind != 4)=false:=by simp[g]
  by_cases c4:nd.kids.length=4
  ·have l1:((nd.kids.length:Int)==4)=true:=by simp[c4]
   rw[if_pos c4,xoM] at hl;obtain⟨p2,h6,hl⟩:=hl;cases hl;unfold qg qu;simp only[go_sem,c0];refine zX ht (zj hp) ?_;simp only[go_sem,c0];refine YN ht ho (zj hp) ?_;simp only[go_sem,c0,Qy,YQ,List.toList_toArray,xlM,l1,s1,s2,s3,s4];try (unfold zd;simp only[qc])
   refine Qk h6 (zj hp) fun _=>?_;unfold qz;simp only[go_sem,c0,zb hp,y1.1,y1.2.1,y1.2.2,hw2];exact Qx (p':={ q1 with deep:=q1.deep-1 }) hk hnm
  ·have l1:((nd.kids.length:Int)==4)=false:=by simp;omega
   rw[if_neg c4,xoB] at hl;obtain⟨⟨x,p2⟩,h6,hl⟩:=hl;unfold qg qu;simp only[go_sem,c0];refine zX ht (zj hp) ?_;simp only[go_sem,c0];refine YN ht ho (zj hp) ?_;simp only[go_sem,c0,Qy,YQ,List.toList_toArray,xlM,l1,s1,s2,s3,s4];refine zA [] [(0,[5]),(0,[5]),(0,[]),(3,[5]),(0,[]),(3,[7]),(0,[]),(1,[8])] mixed rfl ?_;simp only[go_sem];refine⟨_,_,hpa _ _ _ h6 _ _ (zj hp) ⟨rfl,rfl⟩,?_⟩;simp only[go_sem,zb hp];rw[zp];refine⟨.slice .full 6 [zq x],?_,?_⟩
   ·simp only[go_sem];exact⟨⟨[],by simp⟩,zK _ _ (.inr rfl) _ [_],.inl rfl⟩
   simp only[go_sem];refine⟨_,_,⟨Tryz.app6d (by omega),rfl,rfl⟩,?_⟩;simp only[go_sem];refine⟨m,_,by omega,?_,nd.addKid x,p2,k+1,_,hl,by rw[zM];simp;omega,by rw[qb];exact hnm,rfl,by rw[qK,qI,Zo,Zn,zM,xmA];rfl⟩;exact qv
end Go.Proofs
