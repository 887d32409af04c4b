/- What stands for tokens, nodes and the parser's state in memory; look, is, node. -/
import Derived.Test.YtkokccjfpebomaaGreatDoorK6
set_option linter.all false
set_option maxHeartbeats 4000000
set_option maxRecDepth 8000
namespace Go.Proofs
open Go Go.AL Tryz
variable {K:SV→St→Prop}{st:St}
@[go_sem] theorem Tryz.aft47_0:Yr prog 47 0=some (0,3):=by kernel_rfl
@[go_sem] theorem Tryz.aft47_1:Yr prog 47 1=some (1,9):=by kernel_rfl
@[go_sem] theorem Tryz.aft47_3:Yr prog 47 3=some (3,3):=by kernel_rfl
theorem qd{T:List Tk}{pid:Nat}{p:PS}{t:Tk}(h:zE T p=some t)(hp:W8 T pid p st)(hk:K (ZC t) st):ACalls prog 73 [.ptr pid 0] K st:=by
 refine zc [] func73 rfl results73 ntmps73 ?_;have y:=zF hp;unfold Qa at y;by_cases he:p.e=0
 ·have c1:(p.e != 0)=false:=by simp[he]
  unfold zE at h;rw[if_pos he] at h;obtain⟨hlt,hget⟩:=List.getElem?_eq_some_iff.1 h;have hgt:(T.map ZC).getD p.pos .any=ZC t:=by simp[xgE,h]
  simp only[go_sem,y.1,y.2.1,y.2.2,c1];refine zA [] [(0,[]),(0,[]),(0,[]),(0,[]),(0,[]),(0,[]),(0,[]),(0,[]),(0,[]),(0,[]),(1,[11])] mixed rfl ?_;simp only[go_sem,y.1,y.2.1,y.2.2,hgt];refine⟨by omega,zB (J7 _ t) hk⟩
 ·have c1:(p.e != 0)=true:=by simp[he]
  unfold zE at h;rw[if_neg he] at h;cases h;simp only[go_sem,y.1,y.2.1,y.2.2,c1];exact zB (J7 _ gQ) hk
theorem Zy{T:List Tk}{pid:Nat}{p:PS}{t:Tk}{s:Tx}(h:zE T p=some t)(hp:W8 T pid p st)(hk:K (.sc (.bool (isT t s))) st):ACalls prog 74 [.ptr pid 0,.sc (.string (ba s))] K st:=by
 refine zc [] func74 rfl results74 ntmps74 ?_;simp only[go_sem];refine qd h hp ?_;simp only[go_sem,Qy];exact⟨fun h=>by simp[h],zB (eq_true (.sc _)) hk⟩
theorem Un{T:List Tk}{pid:Nat}{p p':PS}{e:Int}(h:Zh T e p=some p')(hp:W8 T pid p st)(hk:∀ x,K x (st.set pid (.cells (Qa T p')))):ACalls prog 80 [.ptr pid 0,.sc (.int .i64 e)] K st:=by
 refine zl [] func80 rfl results80 ntmps80 ?_;have y:=zF hp;unfold Qa at y;unfold Zh at h;by_cases he:p.e=0
 ·have c1:(p.e==0)=true:=by simp[he]
  rw[if_pos he] at h;cases ht:T[p.pos]? with
  | none=>rw[ht] at h;cases h
  | some t =>
   rw[ht] at h;cases h;simp only[go_sem,y.1,y.2.1,y.2.2,c1];refine qd (t:=t) (by unfold zE;rw[if_pos he,ht]) hp ?_;simp only[go_sem,y.1,y.2.1,y.2.2,c1];exact Gv Xj (hk _) rfl
 ·have c1:(p.e==0)=false:=by simp[he]
  rw[if_neg he] at h;cases h;simp only[go_sem,y.1,y.2.1,y.2.2,c1];exact kD hp Xj (hk _) rfl
theorem nt{T:List Tk}{p:PS}{t:Tk}(hT:T.length≤100000)(h:zE T p=some t)(he:p.e=0):IntKind.i64.wrap ((p.pos:Int)+1)=((p.pos+1:Nat):Int):=by
 unfold zE at h;rw[if_pos he] at h;obtain⟨hlt,_⟩:=List.getElem?_eq_some_iff.1 h;rw[IntWalk.i64_in _ (by omega)];rfl
theorem QT{T:List Tk}(hT:T.length≤100000){pid:Nat}{p p':PS}{t:Tk}(h:ZG T p=some (t,p'))(hp:W8 T pid p st)(hk:K (ZC t) (st.set pid (.cells (Qa T p')))):ACalls prog 103 [.ptr pid 0] K st:=by
 refine zl [] func103 rfl results103 ntmps103 ?_;have y:=zF hp;unfold Qa at y;unfold ZG at h;cases hl:zE T p with
 | none=>rw[hl] at h;cases h
 | some t0 =>
  rw[hl] at h;simp only[xmS,xsJ,xpJ] at h;obtain⟨rfl,rfl⟩:=h;simp only[go_sem];refine qd hl (zo hp) ?_;have hw:=fun he=>nt hT hl he;by_cases he:p.e=0
  ·have c1:(p.e==0)=true:=by simp[he]
   by_cases hk0:t0.kind=0
   ·have c2:(t0.kind != 0)=false:=by simp[hk0]
    rw[if_neg (by simp[hk0])] at hk;simp only[go_sem,y.1,y.2.1,y.2.2,c1,c2];exact m8 hp (fun n=>J7 _ t0) hk rfl
   ·have c2:(t0.kind != 0)=true:=by simp[hk0]
    rw[if_pos ⟨he,hk0⟩] at hk;simp only[go_sem,y.1,y.2.1,y.2.2,c1,c2,hw he];exact Du (fun n=>J7 _ t0) hk rfl
  ·have c1:(p.e==0)=false:=by simp[he]
   rw[if_neg (by simp[he])] at hk;simp only[go_sem,y.1,y.2.1,y.2.2,c1];exact m8 hp (fun n=>J7 _ t0) hk rfl
theorem Y9{T:List Tk}(hT:T.length≤100000){pid:Nat}{p p':PS}{s:Tx}{b:Bool}(h:Xc T s p=some (b,p'))(hp:W8 T pid p st)(hk:K (.sc (.bool b)) (st.set pid (.cells (Qa T p')))):ACalls prog 105 [.ptr pid 0,.sc (.string (ba s))] K st:=by
 refine zl [] func105 rfl results105 ntmps105 ?_;have y:=zF hp;unfold Qa at y;unfold Xc Ye at h;cases hl:zE T p with
 | none=>rw[hl] at h;cases h
 | some t0 =>
  rw[hl] at h;simp only[xmS,xbS] at h;simp only[go_sem];refine Zy hl hp ?_;cases hb:isT t0 s with
  | false =>
   rw[hb] at h;simp only[Yd,if_false,xsJ,xpJ] at h;obtain⟨rfl,rfl⟩:=h;simp only[go_sem];exact kD hp (zh _) hk rfl
  | true =>
   rw[hb] at h;simp only[if_true] at h;cases ht:ZG T p with
   | none=>rw[ht] at h;cases h
   | some r =>
    rw[ht] at h;simp only[xmS,xsJ,xpJ] at h;obtain⟨rfl,rfl⟩:=h;simp only[go_sem];refine QT hT ht hp ?_;simp only[go_sem];exact Gv (zh _) hk rfl
theorem Z6{T:List Tk}(hT:T.length≤100000){pid:Nat}{p p':PS}{s:Tx}(h:qp T s p=some p')(hp:W8 T pid p st)(hk:∀ x,K x (st.set pid (.cells (Qa T p')))):ACalls prog 77 [.ptr pid 0,.sc (.string (ba s))] K st:=by
 refine zl [] func77 rfl results77 ntmps77 ?_;unfold qp at h;cases hm:Xc T s p with
 | none=>rw[hm] at h;cases h
 | some r =>
  rw[hm] at h;obtain⟨b,p1⟩:=r;simp only[xbS] at h;simp only[go_sem];refine Y9 hT hm hp ?_;cases b with
  | true =>
   simp only[if_true,xsJ] at h;subst h;simp only[go_sem];exact Gv Xj (hk _) rfl
  | false =>
   simp only[Yd,if_false] at h;simp only[go_sem];refine Un h (QJ hp) fun x=>?_;simp only[go_sem];exact Gv Xj (hk _) rfl
theorem Wi{T:List Tk}(hT:T.length≤100000){pid:Nat}{p p':PS}{k:Int}{t:Tk}(h:Qn T k p=some (t,p'))(hp:W8 T pid p st)(hk:K (ZC t) (st.set pid (.cells (Qa T p')))):ACalls prog 121 [.ptr pid 0,.sc (.int .i64 k)] K st:=by
 refine zl [] func121 rfl results121 ntmps121 ?_;unfold Qn at h;cases hl:zE T p with
 | none=>rw[hl] at h;cases h
 | some t0 =>
  rw[hl] at h;simp only[xbS] at h;simp only[go_sem];refine qd hl (zo hp) ?_;by_cases hk0:t0.kind=k
  ·have c1:(t0.kind != k)=false:=by simp[hk0]
   rw[if_neg (by simp[hk0])] at h;simp only[xbS] at h;simp only[go_sem,c1];refine QT hT h (zo hp) ?_;simp only[go_sem,zb hp];exact Du (fun n=>J7 _ t) hk rfl
  ·have c1:(t0.kind != k)=true:=by simp[hk0]
   rw[if_pos hk0] at h;cases hf:Zh T 14 p with
   | none=>rw[hf] at h;cases h
   | some p1 =>
    rw[hf] at h;simp only[xbS] at h;simp only[go_sem,c1];refine Un hf (zo hp) fun x=>?_;simp only[go_sem,zb hp];refine QT hT h (ze hp) ?_;simp only[go_sem,zb hp];exact Du (fun n=>J7 _ t) hk rfl
theorem Jk{T:List Tk}{pid:Nat}{p p':PS}{n m:Int}(h:ZE T n m p=some p')(hp:W8 T pid p st)(hk:∀ x,K x (st.set pid (.cells (Qa T p')))):ACalls prog 75 [.ptr pid 0,.sc (.int .i64 n),.sc (.int .i64 m)] K st:=by
 refine zl [] func75 rfl results75 ntmps75 ?_;unfold ZE at h;by_cases hc:m≤n
 ·have c1:decide (m≤n)=true:=by simp[hc]
  rw[if_pos hc] at h;simp only[go_sem,ge_iff_le,c1];refine Un h hp fun x=>?_;simp only[go_sem];exact Gv Xj (hk _) rfl
 ·have c1:decide (m≤n)=false:=by simp[hc]
  rw[if_neg hc] at h;cases h;simp only[go_sem,ge_iff_le,c1];exact kD hp Xj (hk _) rfl
def HC(T:List Tk)(pid:Nat)(f:FuncId)(e:PM Nd):Prop:=∀ (p:PS) (r:Nd) (p':PS),e p=some (r,p')→∀ (K:SV→St→Prop) (st:St),W8 T pid p st→K (zq r) (st.set pid (.cells (Qa T p')))→ACalls prog f [.ptr pid 0] K st
theorem Xx{k a:Int}{t:Tx}{x:SV}(h1:x.cells=[x])(h2:qG x=true)(h3:Yb x=true)(h4:ZB x=x)(h5:∀ p,Eh p x=True)(hi:Ids st.length x)(hk:K (Q8 k t 0 a x) st) :
  ACalls prog 72 [.sc (.int .i64 k),.sc (.int .i64 a),.sc (.string (ba t)),x] K st:=by
 refine Z4 [] func72 rfl results72 ntmps72 ?_;simp only[go_sem,h1,h2,h3,h4,h5];exact⟨st,_,rfl,Mod.refl _,by
  rw[Z9];simp only[List.forall_mem_cons,YV,true_and];exact⟨zQ (.inr rfl) (fun x hx=>by cases hx),hi,fun x hx=>by cases hx⟩,hk⟩
theorem yZ{x y:SV}(h:SVle (norm x) y):SVle x y:=fun st σ w v hr=>h st σ w v hr.norm
theorem Vs{k a:Int}{t:Tx}{z:Nat}{kids:List Nd}(hz:z=6∨kids=[])(hk:K (zq (zr k a t kids)) st) :
  ACalls prog 72 [.sc (.int .i64 k),.sc (.int .i64 a),.sc (.string (ba t)),.slice .full z (kids.map zq)] K st :=
 zw (Xx rfl rfl rfl rfl (fun _=>rfl) (zK _ _ (.inr rfl) _ _) ⟨_,yZ (Ej (n:=zr k a t kids) (m1 :=.full) (m2 :=.full) (z1:=0) (z2:=z) (.inr rfl) hz),hk⟩)
theorem WI{T:List Tk}{pid:Nat}{g:FuncId}{e:PM Nd}(he:HC T pid g e)(hg:zC prog g=true){p p':PS}{r:Nd}(h:Ys T e p=some (r,p'))(hp:W8 T pid p st)(hk:K (zq r) (st.set pid (.cells (Qa T p')))) :
  ACalls prog 78 [.ptr pid 0,.func (.func g) [] []] K st:=by
 refine zw (YC (kJ func78 rfl results78 ntmps78 ?_));have y:=zF hp;unfold Qa at y;unfold Ys at h;by_cases hd:40≤p.deep
 ·rw[if_pos hd] at h;cases hf:Zh T 15 p with
  | none=>rw[hf] at h;cases h
  | some p1 =>
   have h1:p1.e≠0:=by
    unfold Zh at hf;split at hf
    ·cases hl:T[p.pos]? with
     | none=>rw[hl] at hf;cases hf
     | some t=>rw[hl] at hf;cases hf;show (15:Int)≠0;decide
    ·rename_i h0;cases hf;exact h0
   rw[hf] at h;simp only[xbS] at h;rw[if_pos h1] at h;cases h;have c1:decide ((40:Int)≤(p.deep:Int))=true:=by simp;omega
   have c2:(p'.e != 0)=true:=by simp[h1]
   have y1:=zF (QJ (p':=p') hp);unfold Qa at y1;refine Q5 [] ?_;simp only[go_sem,XV,Jt];refine Q5 [] ?_;simp only[go_sem,XV,Jt,y.1,y.2.1,y.2.2,c1,ge_iff_le];refine Un hf (zo hp) fun x=>?_;simp only[go_sem,zb hp,XV];refine Q5 [] ?_;unfold Qa;simp only[go_sem,XV,Jt,y.1,y1.2.1,y1.2.2,zb hp,c2,nI];exact YA hk (.inr rfl) (.inr rfl)
 ·by_cases h0:p.e=0
  ·rw[if_neg hd] at h;simp only[xbS] at h;rw[if_neg (by simp[h0])] at h;cases hx:e { p with deep:=p.deep+1 } with
   | none=>rw[hx] at h;cases h
   | some q =>
    obtain⟨x,p1⟩:=q;rw[hx] at h;simp only[xbS] at h;split at h
    ·cases h
    rename_i hdp;simp only[xsJ,xpJ] at h;obtain⟨rfl,rfl⟩:=h;have c1:decide ((40:Int)≤(p.deep:Int))=false:=by simp;omega
    have c2:(p.e != 0)=false:=by simp[h0]
    refine Q5 [] ?_;simp only[go_sem,XV,Jt];refine Q5 [] ?_;simp only[go_sem,XV,Jt,y.1,y.2.1,y.2.2,c1,ge_iff_le];refine Q5 [] ?_;simp only[go_sem,XV,Jt,y.1,y.2.1,y.2.2,c2];refine Q5 [] ?_;have hw:IntKind.i64.wrap ((p.deep:Int)+1)=((p.deep+1:Nat):Int):=by rw[IntWalk.i64_in _ (by omega)];rfl
    simp only[go_sem,XV,Jt,y.1,y.2.1,y.2.2,hw];refine jj (L7 rfl (by simp) ?_);simp only[go_sem,XV];refine Q5 [] ?_;simp only[go_sem,hg];refine he _ _ _ hx _ _ (ze hp) ?_;simp only[go_sem,zb hp];simp only[XV];refine lI [] ?_;simp only[go_sem,AD,nI];refine vJ [] func106 rfl results106 ntmps106 ?_;have y1:=zF (QJ (p':=p1) hp);unfold Qa at y1;have hw2:IntKind.i64.wrap ((p1.deep:Int)-1)=((p1.deep-1:Nat):Int):=by rw[IntWalk.i64_in _ (by omega)];omega
    unfold Qa;simp only[go_sem,y1.2.1,y1.2.2,zb hp,hw2];exact Zs hk
  ·rw[if_neg hd] at h;simp only[xbS] at h;rw[if_pos h0] at h;cases h;have c1:decide ((40:Int)≤(p.deep:Int))=false:=by simp;omega
   have c2:(p.e != 0)=true:=by simp[h0]
   refine Q5 [] ?_;simp only[go_sem,XV,Jt];refine Q5 [] ?_;simp only[go_sem,XV,Jt,y.1,y.2.1,y.2.2,c1,ge_iff_le];refine Q5 [] ?_;simp only[go_sem,XV,Jt,y.1,y.2.1,y.2.2,c2,nI];exact fI hp hk (.inr rfl) (.inr rfl)
theorem uE{T:List Tk}(hT:T.length≤100000){pid:Nat}{g:FuncId}{e:PM Nd}(he:HC T pid g e)(hg:zC prog g=true){p p':PS}{r:Nd}(h:Y0 T e p=some (r,p'))(hp:W8 T pid p st)(hk:K (zq r) (st.set pid (.cells (Qa T p')))) :
  ACalls prog 150 [.ptr pid 0,.func (.func g) [] []] K st:=by
 refine zw (zl [] func150 rfl results150 ntmps150 ?_);unfold Y0 at h;simp only[xoB,xoM,xpX,xpJ] at h;obtain⟨p1,h1,x,p2,h2,p3,h3,rfl,rfl⟩:=h;simp only[go_sem];refine Z6 hT h1 (zo hp) fun _=>?_;simp only[go_sem,zb hp];refine WI he hg h2 (ze hp) ?_;simp only[go_sem,zb hp];refine Z6 hT h3 (ze hp) fun _=>?_;simp only[go_sem,zb hp];exact Zs hk
def XP(kinds:List (Int×Int)):List (Value×SV):=kinds.map fun q=>(.int .i64 q.1,.sc (.int .i64 q.2))
def KO(kinds:List (Int×Int))(n:Int):Int:=((kinds.find? fun q=>q.1==n).map (·.2)).getD 0
theorem xh(n m:Int):JA (.int .i64 n) (.int .i64 m)=decide (n=m):=by
 have:=Wt (d :=.int .i64) (a :=.int .i64 n) (b :=.int .i64 m) (by simp[ZI]) (by simp[ZI]);by_cases hc:n=m
 ·simp only[hc,decide_true];rw[hc] at this;exact this.2 rfl
 ·simp only[hc,decide_false];cases hk:JA (.int .i64 n) (.int .i64 m) with
  | false=>rfl
  | true=>exact absurd (Value.int.inj (this.1 hk)).2 hc
theorem nS(kinds:List (Int×Int))(n:Int):∃ b,uZ (XP kinds) (.sc (.int .i64 0)) n=(.sc (.int .i64 (KO kinds n)),b):=by
 induction kinds with
 | nil=>exact⟨false,rfl⟩
 | cons q r ih =>
  obtain⟨b,hb⟩:=ih;unfold uZ keyIdx XP KO at *;by_cases hc:q.1=n
  ·have h2:(q.1==n)=true:=by simp[hc]
   refine⟨true,?_⟩;simp only[List.map_cons,List.findIdx?_cons,xh,hc,decide_true,if_true,List.find?_cons,BEq.rfl];rfl
  ·have h2:(q.1==n)=false:=by simp[hc]
   have h3:decide (n=q.1)=false:=by simp;omega
   simp only[List.map_cons,List.findIdx?_cons,xh,h3,Yd,if_false,List.find?_cons,h2];cases hx:List.findIdx? (fun p=>JA (Value.int IntKind.i64 n) p.1) (r.map fun q=>(Value.int .i64 q.1,SV.sc (.int .i64 q.2))) with
   | none =>
    rw[hx] at hb;exact⟨b,hb⟩
   | some j =>
    rw[hx] at hb;exact⟨b,by simpa using hb⟩
theorem Bn(kinds:List (Int×Int)):UV (XP kinds):=by
 intro q hq;obtain⟨a,_,rfl⟩:=List.mem_map.1 hq;exact⟨a.1,rfl⟩
theorem Dd{T:List Tk}{pid:Nat}{p':PS}{k m a:Int}{t:Tx}{st:St}{K:SV→St→Prop}(hk:K (pg (.mk k t m a [] [])) (st.set pid (.cells (Qa T p')))){ex:St} :
  yT st K (.agg [.sc (.int .i64 k),.sc (.string (ba t)),.sc (.int .i64 m),.sc (.int .i64 a),.slice .full 0 [],.slice .full 0 []]) (st.set pid (.cells (Qa T p'))++ex) :=
 ⟨_,ex,rfl,(Mod.refl _).set _ _ (U' _ _ _),by
  rw[Z9];simp only[List.forall_mem_cons,YV,true_and];exact⟨zQ (.inr rfl) (fun x hx=>by cases hx),zQ (.inr rfl) (fun x hx=>by cases hx),fun x hx=>by cases hx⟩,hk⟩
theorem cT{T:List Tk}(hT:T.length≤100000){pid mid:Nat}{kinds:List (Int×Int)}{p p':PS}{r:Nd}(h:XC T kinds p=some (r,p'))(hp:W8 T pid p st)(hm:st[mid]?=some (.map (XP kinds)))
  (hk:K (pg r) (st.set pid (.cells (Qa T p')))):ACalls prog 164 [.ptr pid 0,.mp mid] K st:=by
 refine Z4 [] func164 rfl results164 ntmps164 ?_;unfold XC at h;rw[xoB] at h;obtain⟨t,hl,h⟩:=h;change (if KO kinds t.kind=0 then _ else _)=_ at h
 obtain⟨b,hb⟩:=nS kinds t.kind;simp only[go_sem];refine qd hl (zo hp) ?_;have hmg:=fun ex=>kY (P:=prog) (t:=149) (n:=t.kind) (st:=st++ex) Tryz.amap149 Tryz.zeroSV3 (V6 (VB hm ex)).2 (Bn kinds);rw[hb] at hmg;by_cases hz:KO kinds t.kind=0
 ·rw[if_pos hz] at h;rw[xoM] at h;obtain⟨p1,hf,h⟩:=h;cases h;have c1:(KO kinds t.kind==0)=true:=by simp[hz]
  simp only[go_sem,hmg,c1,Option.isSome_some];refine Un hf (zo hp) fun _=>?_;simp only[go_sem,zb hp];exact Dd hk
 ·rw[if_neg hz] at h;rw[xoM] at h;obtain⟨⟨t1,p1⟩,ht,h⟩:=h;cases h;have c1:(KO kinds t.kind==0)=false:=by simp[hz]
  simp only[go_sem,hmg,c1,Option.isSome_some];refine QT hT ht (zo hp) ?_;simp only[go_sem,zb hp,hmg];exact Dd hk
end Go.Proofs
