/- What stands for tokens, nodes and the parser's state in memory; look, is, node. -/
import Derived.Test.YtkokccjfpebomaaGreatDoorW0
set_option maxHeartbeats 4000000
set_option linter.unusedSimpArgs false
set_option linter.unusedVariables false
set_option maxRecDepth 8000
namespace Go.Proofs
open Go Go.AL Tryz
@[go_sem] theorem Tryz.aft47_0:Yb prog 47 0=some (0,3):=by kernel_rfl
@[go_sem] theorem Tryz.aft47_1:Yb prog 47 1=some (1,9):=by kernel_rfl
@[go_sem] theorem Tryz.aft47_3:Yb prog 47 3=some (3,3):=by kernel_rfl
theorem qv {T:List Tk} {pid:Nat} {p:PS} {t:Tk} (h:zR T p=some t) {K:SV→St→Prop} {st:St} (hp:Wz T pid p st) (hk:K (ZF t) st):ACalls prog 73 [.ptr pid 0] K st:=by
 refine zn [] func73 rfl results73 ntmps73 ?_
 have y:=zV hp
 unfold Z9 at y
 by_cases he:p.e=0
 ·have c1:(p.e != 0)=false:=by simp[he]
  unfold zR at h
  rw[if_pos he] at h
  obtain⟨hlt,hget⟩:=List.getElem?_eq_some_iff.1 h
  have hgt:(T.map ZF).getD p.pos .any=ZF t:=by simp[List.getD_eq_getElem?_getD,h]
  simp only[go_sem,y.1,y.2.1,y.2.2,c1]
  refine zP [] [(0,[]),(0,[]),(0,[]),(0,[]),(0,[]),(0,[]),(0,[]),(0,[]),(0,[]),(0,[]),(1,[11])] mixed rfl ?_
  simp only[go_sem,zy,zu,zw,zt,zr,zG,zH,zx,zh,y.1,y.2.1,y.2.2,hgt]
  refine⟨by omega,zQ (J7 _ t) hk⟩
 ·have c1:(p.e != 0)=true:=by simp[he]
  unfold zR at h
  rw[if_neg he] at h
  cases h
  simp only[go_sem,y.1,y.2.1,y.2.2,c1]
  exact zQ (J7 _ xB) hk
theorem ZB {T:List Tk} {pid:Nat} {p:PS} {t:Tk} {s:Tx} (h:zR T p=some t) {K:SV→St→Prop} {st:St} (hp:Wz T pid p st) (hk:K (.sc (.bool (isT t s))) st):ACalls prog 74 [.ptr pid 0,.sc (.string (ba s))] K st:=by
 refine zn [] func74 rfl results74 ntmps74 ?_
 simp only[go_sem]
 refine qv h hp ?_
 simp only[go_sem,Zm]
 exact⟨fun h=>by simp[h],zQ (eq_true (.sc _)) hk⟩
theorem K5 {T:List Tk} {pid:Nat} {p p':PS} {e:Int} (h:Za T e p=some p') {K:SV→St→Prop} {st:St} (hp:Wz T pid p st) (hk:∀ x,K x (st.set pid (.cells (Z9 T p')))):ACalls prog 80 [.ptr pid 0,.sc (.int .i64 e)] K st:=by
 refine zE [] func80 rfl results80 ntmps80 ?_
 have y:=zV hp
 unfold Z9 at y
 unfold Za at h
 by_cases he:p.e=0
 ·have c1:(p.e==0)=true:=by simp[he]
  rw[if_pos he] at h
  cases ht:T[p.pos]? with
  | none=>rw[ht] at h;cases h
  | some t =>
   rw[ht] at h
   cases h
   simp only[go_sem,y.1,y.2.1,y.2.2,c1]
   refine qv (t:=t) (by unfold zR;rw[if_pos he,ht]) hp ?_
   simp only[go_sem,y.1,y.2.1,y.2.2,c1]
   exact DA Xb (hk _) rfl
 ·have c1:(p.e==0)=false:=by simp[he]
  rw[if_neg he] at h
  cases h
  simp only[go_sem,y.1,y.2.1,y.2.2,c1]
  exact kD hp Xb (hk _) rfl
theorem pg {T:List Tk} {p:PS} {t:Tk} (hT:T.length≤100000) (h:zR T p=some t) (he:p.e=0):IntKind.i64.wrap ((p.pos:Int)+1)=((p.pos+1:Nat):Int):=by
 unfold zR at h
 rw[if_pos he] at h
 obtain⟨hlt,_⟩:=List.getElem?_eq_some_iff.1 h
 rw[IntWalk.i64_in _ (by omega)];rfl
theorem QQ {T:List Tk} (hT:T.length≤100000) {pid:Nat} {p p':PS} {t:Tk} (h:ZM T p=some (t,p')) {K:SV→St→Prop} {st:St} (hp:Wz T pid p st) (hk:K (ZF t) (st.set pid (.cells (Z9 T p')))):ACalls prog 103 [.ptr pid 0] K st:=by
 refine zE [] func103 rfl results103 ntmps103 ?_
 have y:=zV hp
 unfold Z9 at y
 unfold ZM at h
 cases hl:zR T p with
 | none=>rw[hl] at h;cases h
 | some t0 =>
  rw[hl] at h
  simp only[Option.map_some,Option.some.injEq,Prod.mk.injEq] at h
  obtain⟨rfl,rfl⟩:=h
  simp only[go_sem]
  refine qv hl (zI hp) ?_
  have hw:=fun he=>pg hT hl he
  by_cases he:p.e=0
  ·have c1:(p.e==0)=true:=by simp[he]
   by_cases hk0:t0.kind=0
   ·have c2:(t0.kind != 0)=false:=by simp[hk0]
    rw[if_neg (by simp[hk0])] at hk
    simp only[go_sem,y.1,y.2.1,y.2.2,c1,c2]
    exact mG hp (fun n=>J7 _ t0) hk rfl
   ·have c2:(t0.kind != 0)=true:=by simp[hk0]
    rw[if_pos ⟨he,hk0⟩] at hk
    simp only[go_sem,y.1,y.2.1,y.2.2,c1,c2,hw he]
    exact Gt (fun n=>J7 _ t0) hk rfl
  ·have c1:(p.e==0)=false:=by simp[he]
   rw[if_neg (by simp[he])] at hk
   simp only[go_sem,y.1,y.2.1,y.2.2,c1]
   exact mG hp (fun n=>J7 _ t0) hk rfl
theorem YQ {T:List Tk} (hT:T.length≤100000) {pid:Nat} {p p':PS} {s:Tx} {b:Bool} (h:Xx T s p=some (b,p')) {K:SV→St→Prop} {st:St} (hp:Wz T pid p st) (hk:K (.sc (.bool b)) (st.set pid (.cells (Z9 T p')))):ACalls prog 105 [.ptr pid 0,.sc (.string (ba s))] K st:=by
 refine zE [] func105 rfl results105 ntmps105 ?_
 have y:=zV hp
 unfold Z9 at y
 unfold Xx Jn at h
 cases hl:zR T p with
 | none=>rw[hl] at h;cases h
 | some t0 =>
  rw[hl] at h
  simp only[Option.map_some,Option.bind_some] at h
  simp only[go_sem]
  refine ZB hl hp ?_
  cases hb:isT t0 s with
  | false =>
   rw[hb] at h
   simp only[Bool.false_eq_true,if_false,Option.some.injEq,Prod.mk.injEq] at h
   obtain⟨rfl,rfl⟩:=h
   simp only[go_sem]
   exact kD hp (zC _) hk rfl
  | true =>
   rw[hb] at h
   simp only[if_true] at h
   cases ht:ZM T p with
   | none=>rw[ht] at h;cases h
   | some r =>
    rw[ht] at h
    simp only[Option.map_some,Option.some.injEq,Prod.mk.injEq] at h
    obtain⟨rfl,rfl⟩:=h
    simp only[go_sem]
    refine QQ hT ht hp ?_
    simp only[go_sem]
    exact DA (zC _) hk rfl
theorem Z2 {T:List Tk} (hT:T.length≤100000) {pid:Nat} {p p':PS} {s:Tx} (h:qJ T s p=some p') {K:SV→St→Prop} {st:St} (hp:Wz T pid p st) (hk:∀ x,K x (st.set pid (.cells (Z9 T p')))):ACalls prog 77 [.ptr pid 0,.sc (.string (ba s))] K st:=by
 refine zE [] func77 rfl results77 ntmps77 ?_
 unfold qJ at h
 cases hm:Xx T s p with
 | none=>rw[hm] at h;cases h
 | some r =>
  rw[hm] at h
  obtain⟨b,p1⟩:=r
  simp only[Option.bind_some] at h
  simp only[go_sem]
  refine YQ hT hm hp ?_
  cases b with
  | true =>
   simp only[if_true,Option.some.injEq] at h
   subst h
   simp only[go_sem]
   exact DA Xb (hk _) rfl
  | false =>
   simp only[Bool.false_eq_true,if_false] at h
   simp only[go_sem]
   refine K5 h (QN hp) fun x=>?_
   simp only[go_sem]
   exact DA Xb (hk _) rfl
theorem VX {T:List Tk} (hT:T.length≤100000) {pid:Nat} {p p':PS} {k:Int} {t:Tk} (h:XV T k p=some (t,p')) {K:SV→St→Prop} {st:St} (hp:Wz T pid p st) (hk:K (ZF t) (st.set pid (.cells (Z9 T p')))):ACalls prog 121 [.ptr pid 0,.sc (.int .i64 k)] K st:=by
 refine zE [] func121 rfl results121 ntmps121 ?_
 unfold XV at h
 cases hl:zR T p with
 | none=>rw[hl] at h;cases h
 | some t0 =>
  rw[hl] at h
  simp only[Option.bind_some] at h
  simp only[go_sem]
  refine qv hl (zI hp) ?_
  by_cases hk0:t0.kind=k
  ·have c1:(t0.kind != k)=false:=by simp[hk0]
   rw[if_neg (by simp[hk0])] at h
   simp only[Option.bind_some] at h
   simp only[go_sem,c1]
   refine QQ hT h (zI hp) ?_
   simp only[go_sem,zb hp]
   exact Gt (fun n=>J7 _ t) hk rfl
  ·have c1:(t0.kind != k)=true:=by simp[hk0]
   rw[if_pos hk0] at h
   cases hf:Za T 14 p with
   | none=>rw[hf] at h;cases h
   | some p1 =>
    rw[hf] at h
    simp only[Option.bind_some] at h
    simp only[go_sem,c1]
    refine K5 hf (zI hp) fun x=>?_
    simp only[go_sem,zb hp]
    refine QQ hT h (zm hp) ?_
    simp only[go_sem,zb hp]
    exact Gt (fun n=>J7 _ t) hk rfl
theorem Y5 {T:List Tk} {pid:Nat} {p p':PS} {n m:Int} (h:Z8 T n m p=some p') {K:SV→St→Prop} {st:St} (hp:Wz T pid p st) (hk:∀ x,K x (st.set pid (.cells (Z9 T p')))):ACalls prog 75 [.ptr pid 0,.sc (.int .i64 n),.sc (.int .i64 m)] K st:=by
 refine zE [] func75 rfl results75 ntmps75 ?_
 unfold Z8 at h
 by_cases hc:m≤n
 ·have c1:decide (m≤n)=true:=by simp[hc]
  rw[if_pos hc] at h
  simp only[go_sem,ge_iff_le,c1]
  refine K5 h hp fun x=>?_
  simp only[go_sem]
  exact DA Xb (hk _) rfl
 ·have c1:decide (m≤n)=false:=by simp[hc]
  rw[if_neg hc] at h
  cases h
  simp only[go_sem,ge_iff_le,c1]
  exact kD hp Xb (hk _) rfl
end Go.Proofs
namespace Go.Proofs
open Go Go.AL Tryz
def HC (T:List Tk) (pid:Nat) (f:FuncId) (e:PM Nd):Prop:=∀ (p:PS) (r:Nd) (p':PS),e p=some (r,p')→∀ (K:SV→St→Prop) (st:St),Wz T pid p st→K (zJ r) (st.set pid (.cells (Z9 T p')))→ACalls prog f [.ptr pid 0] K st
theorem Xl {k a:Int} {t:Tx} {x:SV} (h1:x.cells=[x]) (h2:qP x=true) (h3:QC x=true) (h4:ZE x=x) (h5:∀ p,HO p x=True) {K:SV→St→Prop} {st:St} (hi:Ids st.length x) (hk:K (Q1 k t 0 a x) st) :
  ACalls prog 72 [.sc (.int .i64 k),.sc (.int .i64 a),.sc (.string (ba t)),x] K st:=by
 refine Z3 [] func72 rfl results72 ntmps72 ?_
 simp only[go_sem,h1,h2,h3,h4,h5]
 exact⟨st,_,rfl,Mod.refl _,by
  rw[Z6]
  simp only[List.forall_mem_cons,YH,true_and]
  exact⟨ql (.inr rfl) (fun x hx=>by cases hx),hi,fun x hx=>by cases hx⟩,hk⟩
theorem uN {x y:SV} (h:SVle (norm x) y):SVle x y:=fun st σ w v hr=>h st σ w v hr.norm
theorem Vl {k a:Int} {t:Tx} {z:Nat} {kids:List Nd} (hz:z=6∨kids=[]) {K:SV→St→Prop} {st:St} (hk:K (zJ (zT k a t kids)) st) :
  ACalls prog 72 [.sc (.int .i64 k),.sc (.int .i64 a),.sc (.string (ba t)),.slice .full z (kids.map zJ)] K st :=
 zM (Xl rfl rfl rfl rfl (fun _=>rfl) (qb _ _ (.inr rfl) _ _) ⟨_,uN (Hi (n:=zT k a t kids) (m1 :=.full) (m2 :=.full) (z1:=0) (z2:=z) (.inr rfl) hz),hk⟩)
theorem Wk {T:List Tk} {pid:Nat} {g:FuncId} {e:PM Nd} (he:HC T pid g e) (hg:zU prog g=true) {p p':PS} {r:Nd} (h:X9 T e p=some (r,p')) {K:SV→St→Prop} {st:St} (hp:Wz T pid p st) (hk:K (zJ r) (st.set pid (.cells (Z9 T p')))) :
  ACalls prog 78 [.ptr pid 0,.func (.func g) [] []] K st:=by
 refine zM (Yn (kJ func78 rfl results78 ntmps78 ?_))
 have y:=zV hp
 unfold Z9 at y
 unfold X9 at h
 by_cases hd:40≤p.deep
 ·rw[if_pos hd] at h
  cases hf:Za T 15 p with
  | none=>rw[hf] at h;cases h
  | some p1 =>
   have h1:p1.e≠0:=by
    unfold Za at hf
    split at hf
    ·cases hl:T[p.pos]? with
     | none=>rw[hl] at hf;cases hf
     | some t=>rw[hl] at hf;cases hf;show (15:Int)≠0;decide
    ·rename_i h0;cases hf;exact h0
   rw[hf] at h
   simp only[Option.bind_some] at h
   rw[if_pos h1] at h
   cases h
   have c1:decide ((40:Int)≤(p.deep:Int))=true:=by simp;omega
   have c2:(p'.e != 0)=true:=by simp[h1]
   have y1:=zV (QN (p':=p') hp)
   unfold Z9 at y1
   refine Q3 [] ?_
   simp only[go_sem,XJ,Je]
   refine Q3 [] ?_
   simp only[go_sem,XJ,Je,y.1,y.2.1,y.2.2,c1,ge_iff_le]
   refine K5 hf (zI hp) fun x=>?_
   simp only[go_sem,zb hp,XJ]
   refine Q3 [] ?_
   unfold Z9
   simp only[go_sem,XJ,Je,y.1,y1.2.1,y1.2.2,zb hp,c2,pI]
   exact Ym hk (.inr rfl) (.inr rfl)
 ·by_cases h0:p.e=0
  ·rw[if_neg hd] at h
   simp only[Option.bind_some] at h
   rw[if_neg (by simp[h0])] at h
   cases hx:e { p with deep:=p.deep+1 } with
   | none=>rw[hx] at h;cases h
   | some q =>
    obtain⟨x,p1⟩:=q
    rw[hx] at h
    simp only[Option.bind_some] at h
    split at h
    ·cases h
    rename_i hdp
    simp only[Option.some.injEq,Prod.mk.injEq] at h
    obtain⟨rfl,rfl⟩:=h
    have c1:decide ((40:Int)≤(p.deep:Int))=false:=by simp;omega
    have c2:(p.e != 0)=false:=by simp[h0]
    refine Q3 [] ?_
    simp only[go_sem,XJ,Je]
    refine Q3 [] ?_
    simp only[go_sem,XJ,Je,y.1,y.2.1,y.2.2,c1,ge_iff_le]
    refine Q3 [] ?_
    simp only[go_sem,XJ,Je,y.1,y.2.1,y.2.2,c2]
    refine Q3 [] ?_
    have hw:IntKind.i64.wrap ((p.deep:Int)+1)=((p.deep+1:Nat):Int):=by rw[IntWalk.i64_in _ (by omega)];rfl
    simp only[go_sem,XJ,Je,y.1,y.2.1,y.2.2,hw]
    refine LG (jl rfl (by simp) ?_)
    simp only[go_sem,XJ]
    refine Q3 [] ?_
    simp only[go_sem,hg]
    refine he _ _ _ hx _ _ (zm hp) ?_
    simp only[go_sem,zb hp]
    simp only[XJ]
    refine t6 [] ?_
    simp only[go_sem,ia,pI]
    refine vr [] func106 rfl results106 ntmps106 ?_
    have y1:=zV (QN (p':=p1) hp)
    unfold Z9 at y1
    have hw2:IntKind.i64.wrap ((p1.deep:Int)-1)=((p1.deep-1:Nat):Int):=by rw[IntWalk.i64_in _ (by omega)];omega
    unfold Z9
    simp only[go_sem,y1.2.1,y1.2.2,zb hp,hw2]
    exact Zw hk
  ·rw[if_neg hd] at h
   simp only[Option.bind_some] at h
   rw[if_pos h0] at h
   cases h
   have c1:decide ((40:Int)≤(p.deep:Int))=false:=by simp;omega
   have c2:(p.e != 0)=true:=by simp[h0]
   refine Q3 [] ?_
   simp only[go_sem,XJ,Je]
   refine Q3 [] ?_
   simp only[go_sem,XJ,Je,y.1,y.2.1,y.2.2,c1,ge_iff_le]
   refine Q3 [] ?_
   simp only[go_sem,XJ,Je,y.1,y.2.1,y.2.2,c2,pI]
   exact nE hp hk (.inr rfl) (.inr rfl)
theorem vS {T:List Tk} (hT:T.length≤100000) {pid:Nat} {g:FuncId} {e:PM Nd} (he:HC T pid g e) (hg:zU prog g=true) {p p':PS} {r:Nd} (h:YW T e p=some (r,p')) {K:SV→St→Prop} {st:St} (hp:Wz T pid p st) (hk:K (zJ r) (st.set pid (.cells (Z9 T p')))) :
  ACalls prog 150 [.ptr pid 0,.func (.func g) [] []] K st:=by
 refine zM (zE [] func150 rfl results150 ntmps150 ?_)
 unfold YW at h
 simp only[Option.bind_eq_some_iff,Option.map_eq_some_iff,Prod.exists,Prod.mk.injEq] at h
 obtain⟨p1,h1,x,p2,h2,p3,h3,rfl,rfl⟩:=h
 simp only[go_sem]
 refine Z2 hT h1 (zI hp) fun _=>?_
 simp only[go_sem,zb hp]
 refine Wk he hg h2 (zm hp) ?_
 simp only[go_sem,zb hp]
 refine Z2 hT h3 (zm hp) fun _=>?_
 simp only[go_sem,zb hp]
 exact Zw hk
def XC (kinds:List (Int×Int)):List (Value×SV):=kinds.map fun q=>(.int .i64 q.1,.sc (.int .i64 q.2))
def Kt (kinds:List (Int×Int)) (n:Int):Int:=((kinds.find? fun q=>q.1==n).map (·.2)).getD 0
theorem uQ (n m:Int):Jk (.int .i64 n) (.int .i64 m)=decide (n=m):=by
 have:=V2 (d :=.int .i64) (a :=.int .i64 n) (b :=.int .i64 m) (by simp[ZJ]) (by simp[ZJ])
 by_cases hc:n=m
 ·simp only[hc,decide_true];rw[hc] at this;exact this.2 rfl
 ·simp only[hc,decide_false]
  cases hk:Jk (.int .i64 n) (.int .i64 m) with
  | false=>rfl
  | true=>exact absurd (Value.int.inj (this.1 hk)).2 hc
theorem pm (kinds:List (Int×Int)) (n:Int):∃ b,ut (XC kinds) (.sc (.int .i64 0)) n=(.sc (.int .i64 (Kt kinds n)),b):=by
 induction kinds with
 | nil=>exact⟨false,rfl⟩
 | cons q r ih =>
  obtain⟨b,hb⟩:=ih
  unfold ut keyIdx XC Kt at *
  by_cases hc:q.1=n
  ·have h2:(q.1==n)=true:=by simp[hc]
   refine⟨true,?_⟩
   simp only[List.map_cons,List.findIdx?_cons,uQ,hc,decide_true,if_true,List.find?_cons,BEq.rfl]
   rfl
  ·have h2:(q.1==n)=false:=by simp[hc]
   have h3:decide (n=q.1)=false:=by simp;omega
   simp only[List.map_cons,List.findIdx?_cons,uQ,h3,Bool.false_eq_true,if_false,List.find?_cons,h2]
   cases hx:List.findIdx? (fun p=>Jk (Value.int IntKind.i64 n) p.1) (r.map fun q=>(Value.int .i64 q.1,SV.sc (.int .i64 q.2))) with
   | none =>
    rw[hx] at hb
    exact⟨b,hb⟩
   | some j =>
    rw[hx] at hb
    exact⟨b,by simpa using hb⟩
theorem Bz (kinds:List (Int×Int)):U6 (XC kinds):=by
 intro q hq
 obtain⟨a,_,rfl⟩:=List.mem_map.1 hq
 exact⟨a.1,rfl⟩
theorem ER {T:List Tk} {pid:Nat} {p':PS} {k m a:Int} {t:Tx} {st:St} {K:SV→St→Prop} (hk:K (yv (.mk k t m a [] [])) (st.set pid (.cells (Z9 T p')))) {ex:St} :
  vG st K (.agg [.sc (.int .i64 k),.sc (.string (ba t)),.sc (.int .i64 m),.sc (.int .i64 a),.slice .full 0 [],.slice .full 0 []]) (st.set pid (.cells (Z9 T p'))++ex) :=
 ⟨_,ex,rfl,(Mod.refl _).set _ _ (Uq _ _ _),by
  rw[Z6]
  simp only[List.forall_mem_cons,YH,true_and]
  exact⟨ql (.inr rfl) (fun x hx=>by cases hx),ql (.inr rfl) (fun x hx=>by cases hx),fun x hx=>by cases hx⟩,hk⟩
theorem gi {T:List Tk} (hT:T.length≤100000) {pid mid:Nat} {kinds:List (Int×Int)} {p p':PS} {r:Nd} (h:Xs T kinds p=some (r,p')) {K:SV→St→Prop} {st:St} (hp:Wz T pid p st) (hm:st[mid]?=some (.map (XC kinds)))
  (hk:K (yv r) (st.set pid (.cells (Z9 T p')))):ACalls prog 164 [.ptr pid 0,.mp mid] K st:=by
 refine Z3 [] func164 rfl results164 ntmps164 ?_
 unfold Xs at h
 rw[Option.bind_eq_some_iff] at h
 obtain⟨t,hl,h⟩:=h
 change (if Kt kinds t.kind=0 then _ else _)=_ at h
 obtain⟨b,hb⟩:=pm kinds t.kind
 simp only[go_sem]
 refine qv hl (zI hp) ?_
 have hmg:=fun ex=>vi (P:=prog) (t:=149) (n:=t.kind) (st:=st++ex) Tryz.amap149 Tryz.zeroSV3 (VQ (Vm hm ex)).2 (Bz kinds)
 rw[hb] at hmg
 by_cases hz:Kt kinds t.kind=0
 ·rw[if_pos hz] at h
  rw[Option.map_eq_some_iff] at h
  obtain⟨p1,hf,h⟩:=h
  cases h
  have c1:(Kt kinds t.kind==0)=true:=by simp[hz]
  simp only[go_sem,hmg,c1,Option.isSome_some]
  refine K5 hf (zI hp) fun _=>?_
  simp only[go_sem,zb hp]
  exact ER hk
 ·rw[if_neg hz] at h
  rw[Option.map_eq_some_iff] at h
  obtain⟨⟨t1,p1⟩,ht,h⟩:=h
  cases h
  have c1:(Kt kinds t.kind==0)=false:=by simp[hz]
  simp only[go_sem,hmg,c1,Option.isSome_some]
  refine QQ hT ht (zI hp) ?_
  simp only[go_sem,zb hp,hmg]
  exact ER hk
end Go.Proofs
