/- What stands for tokens, nodes and the parser's state in memory; look, is, node. -/
import Derived.Test.YtkokccjfpebomaaGreatDoorW0
set_option maxHeartbeats 4000000
set_option linter.unusedSimpArgs false
set_option linter.unusedVariables false
set_option maxRecDepth 8000
namespace Go.Proofs
open Go Go.AL
@[go_sem] theorem Tryz.aft47_0:XL Tryz.prog 47 0=some (0,3):=by kernel_rfl
@[go_sem] theorem Tryz.aft47_1:XL Tryz.prog 47 1=some (1,9):=by kernel_rfl
@[go_sem] theorem Tryz.aft47_3:XL Tryz.prog 47 3=some (3,3):=by kernel_rfl
theorem qp {T:List Tk} {pid:Nat} {p:PS} {t:Tk} (h:zX T p=some t) {K:SV→St→Prop} {st:St} (hp:V8 T pid p st) (hk:K (ZB t) st):ACalls Tryz.prog 73 [.ptr pid 0] K st:=by
 refine zj [] Tryz.func73 rfl Tryz.results73 Tryz.ntmps73 ?_
 have y:=zT hp
 unfold ZX at y
 by_cases he:p.e=0
 ·have c1:(p.e != 0)=false:=by simp[he]
  unfold zX at h
  rw[if_pos he] at h
  obtain⟨hlt,hget⟩:=List.getElem?_eq_some_iff.1 h
  have hgt:(T.map ZB).getD p.pos .any=ZB t:=by simp[List.getD_eq_getElem?_getD,h]
  simp only[go_sem,y.1,y.2.1,y.2.2,c1]
  refine zO [] [(0,[]),(0,[]),(0,[]),(0,[]),(0,[]),(0,[]),(0,[]),(0,[]),(0,[]),(0,[]),(1,[11])] Tryz.mixed rfl ?_
  simp only[go_sem,zw,zt,zr,zp,zq,zE,zF,zu,zg,y.1,y.2.1,y.2.2,hgt]
  refine⟨by omega,zP (Ju _ t) hk⟩
 ·have c1:(p.e != 0)=true:=by simp[he]
  unfold zX at h
  rw[if_neg he] at h
  cases h
  simp only[go_sem,y.1,y.2.1,y.2.2,c1]
  exact zP (Ju _ tk0) hk
theorem Zs {T:List Tk} {pid:Nat} {p:PS} {t:Tk} {s:Tx} (h:zX T p=some t) {K:SV→St→Prop} {st:St} (hp:V8 T pid p st) (hk:K (.sc (.bool (isT t s))) st):ACalls Tryz.prog 74 [.ptr pid 0,.sc (.string (ba s))] K st:=by
 refine zj [] Tryz.func74 rfl Tryz.results74 Tryz.ntmps74 ?_
 simp only[go_sem]
 refine qp h hp ?_
 simp only[go_sem,Xk]
 exact⟨fun h=>by simp[h],zP (eq_true (.sc _)) hk⟩
theorem zbz {T:List Tk} {pid:Nat} {p p':PS} {e:Int} (h:Zc T e p=some p') {K:SV→St→Prop} {st:St} (hp:V8 T pid p st) (hk:∀ x,K x (st.set pid (.cells (ZX T p')))):ACalls Tryz.prog 80 [.ptr pid 0,.sc (.int .i64 e)] K st:=by
 refine zC [] Tryz.func80 rfl Tryz.results80 Tryz.ntmps80 ?_
 have y:=zT hp
 unfold ZX at y
 unfold Zc at h
 by_cases he:p.e=0
 ·have c1:(p.e==0)=true:=by simp[he]
  rw[if_pos he] at h
  cases ht:T[p.pos]? with
  | none=>rw[ht] at h;cases h
  | some t =>
   rw[ht] at h
   cases h
   simp only[go_sem,y.1,y.2.1,y.2.2,c1]
   refine qp (t:=t) (by unfold zX;rw[if_pos he,ht]) hp ?_
   simp only[go_sem,y.1,y.2.1,y.2.2,c1]
   exact zfn QZ (hk _) rfl
 ·have c1:(p.e==0)=false:=by simp[he]
  rw[if_neg he] at h
  cases h
  simp only[go_sem,y.1,y.2.1,y.2.2,c1]
  exact zkq hp QZ (hk _) rfl
theorem zo9 {T:List Tk} {p:PS} {t:Tk} (hT:T.length≤100000) (h:zX T p=some t) (he:p.e=0):IntKind.i64.wrap ((p.pos:Int)+1)=((p.pos+1:Nat):Int):=by
 unfold zX at h
 rw[if_pos he] at h
 obtain⟨hlt,_⟩:=List.getElem?_eq_some_iff.1 h
 rw[IntWalk.i64_in _ (by omega)];rfl
theorem QC {T:List Tk} (hT:T.length≤100000) {pid:Nat} {p p':PS} {t:Tk} (h:ZP T p=some (t,p')) {K:SV→St→Prop} {st:St} (hp:V8 T pid p st) (hk:K (ZB t) (st.set pid (.cells (ZX T p')))):ACalls Tryz.prog 103 [.ptr pid 0] K st:=by
 refine zC [] Tryz.func103 rfl Tryz.results103 Tryz.ntmps103 ?_
 have y:=zT hp
 unfold ZX at y
 unfold ZP at h
 cases hl:zX T p with
 | none=>rw[hl] at h;cases h
 | some t0 =>
  rw[hl] at h
  simp only[Option.map_some,Option.some.injEq,Prod.mk.injEq] at h
  obtain⟨rfl,rfl⟩:=h
  simp only[go_sem]
  refine qp hl (zG hp) ?_
  have hw:=fun he=>zo9 hT hl he
  by_cases he:p.e=0
  ·have c1:(p.e==0)=true:=by simp[he]
   by_cases hk0:t0.kind=0
   ·have c2:(t0.kind != 0)=false:=by simp[hk0]
    rw[if_neg (by simp[hk0])] at hk
    simp only[go_sem,y.1,y.2.1,y.2.2,c1,c2]
    exact zpR hp (fun n=>Ju _ t0) hk rfl
   ·have c2:(t0.kind != 0)=true:=by simp[hk0]
    rw[if_pos ⟨he,hk0⟩] at hk
    simp only[go_sem,y.1,y.2.1,y.2.2,c1,c2,hw he]
    exact zeW (fun n=>Ju _ t0) hk rfl
  ·have c1:(p.e==0)=false:=by simp[he]
   rw[if_neg (by simp[he])] at hk
   simp only[go_sem,y.1,y.2.1,y.2.2,c1]
   exact zpR hp (fun n=>Ju _ t0) hk rfl
theorem Yv {T:List Tk} (hT:T.length≤100000) {pid:Nat} {p p':PS} {s:Tx} {b:Bool} (h:Xz T s p=some (b,p')) {K:SV→St→Prop} {st:St} (hp:V8 T pid p st) (hk:K (.sc (.bool b)) (st.set pid (.cells (ZX T p')))):ACalls Tryz.prog 105 [.ptr pid 0,.sc (.string (ba s))] K st:=by
 refine zC [] Tryz.func105 rfl Tryz.results105 Tryz.ntmps105 ?_
 have y:=zT hp
 unfold ZX at y
 unfold Xz Y1 at h
 cases hl:zX T p with
 | none=>rw[hl] at h;cases h
 | some t0 =>
  rw[hl] at h
  simp only[Option.map_some,Option.bind_some] at h
  simp only[go_sem]
  refine Zs hl hp ?_
  cases hb:isT t0 s with
  | false =>
   rw[hb] at h
   simp only[Bool.false_eq_true,if_false,Option.some.injEq,Prod.mk.injEq] at h
   obtain⟨rfl,rfl⟩:=h
   simp only[go_sem]
   exact zkq hp (zB _) hk rfl
  | true =>
   rw[hb] at h
   simp only[if_true] at h
   cases ht:ZP T p with
   | none=>rw[ht] at h;cases h
   | some r =>
    rw[ht] at h
    simp only[Option.map_some,Option.some.injEq,Prod.mk.injEq] at h
    obtain⟨rfl,rfl⟩:=h
    simp only[go_sem]
    refine QC hT ht hp ?_
    simp only[go_sem]
    exact zfn (zB _) hk rfl
theorem ZQ {T:List Tk} (hT:T.length≤100000) {pid:Nat} {p p':PS} {s:Tx} (h:qF T s p=some p') {K:SV→St→Prop} {st:St} (hp:V8 T pid p st) (hk:∀ x,K x (st.set pid (.cells (ZX T p')))):ACalls Tryz.prog 77 [.ptr pid 0,.sc (.string (ba s))] K st:=by
 refine zC [] Tryz.func77 rfl Tryz.results77 Tryz.ntmps77 ?_
 unfold qF at h
 cases hm:Xz T s p with
 | none=>rw[hm] at h;cases h
 | some r =>
  rw[hm] at h
  obtain⟨b,p1⟩:=r
  simp only[Option.bind_some] at h
  simp only[go_sem]
  refine Yv hT hm hp ?_
  cases b with
  | true =>
   simp only[if_true,Option.some.injEq] at h
   subst h
   simp only[go_sem]
   exact zfn QZ (hk _) rfl
  | false =>
   simp only[Bool.false_eq_true,if_false] at h
   simp only[go_sem]
   refine zbz h (Qy hp) fun x=>?_
   simp only[go_sem]
   exact zfn QZ (hk _) rfl
theorem VW {T:List Tk} (hT:T.length≤100000) {pid:Nat} {p p':PS} {k:Int} {t:Tk} (h:Yg T k p=some (t,p')) {K:SV→St→Prop} {st:St} (hp:V8 T pid p st) (hk:K (ZB t) (st.set pid (.cells (ZX T p')))):ACalls Tryz.prog 121 [.ptr pid 0,.sc (.int .i64 k)] K st:=by
 refine zC [] Tryz.func121 rfl Tryz.results121 Tryz.ntmps121 ?_
 unfold Yg at h
 cases hl:zX T p with
 | none=>rw[hl] at h;cases h
 | some t0 =>
  rw[hl] at h
  simp only[Option.bind_some] at h
  simp only[go_sem]
  refine qp hl (zG hp) ?_
  by_cases hk0:t0.kind=k
  ·have c1:(t0.kind != k)=false:=by simp[hk0]
   rw[if_neg (by simp[hk0])] at h
   simp only[Option.bind_some] at h
   simp only[go_sem,c1]
   refine QC hT h (zG hp) ?_
   simp only[go_sem,za hp]
   exact zeW (fun n=>Ju _ t) hk rfl
  ·have c1:(t0.kind != k)=true:=by simp[hk0]
   rw[if_pos hk0] at h
   cases hf:Zc T 14 p with
   | none=>rw[hf] at h;cases h
   | some p1 =>
    rw[hf] at h
    simp only[Option.bind_some] at h
    simp only[go_sem,c1]
    refine zbz hf (zG hp) fun x=>?_
    simp only[go_sem,za hp]
    refine QC hT h (zl hp) ?_
    simp only[go_sem,za hp]
    exact zeW (fun n=>Ju _ t) hk rfl
theorem YD {T:List Tk} {pid:Nat} {p p':PS} {n m:Int} (h:Qk T n m p=some p') {K:SV→St→Prop} {st:St} (hp:V8 T pid p st) (hk:∀ x,K x (st.set pid (.cells (ZX T p')))):ACalls Tryz.prog 75 [.ptr pid 0,.sc (.int .i64 n),.sc (.int .i64 m)] K st:=by
 refine zC [] Tryz.func75 rfl Tryz.results75 Tryz.ntmps75 ?_
 unfold Qk at h
 by_cases hc:m≤n
 ·have c1:decide (m≤n)=true:=by simp[hc]
  rw[if_pos hc] at h
  simp only[go_sem,ge_iff_le,c1]
  refine zbz h hp fun x=>?_
  simp only[go_sem]
  exact zfn QZ (hk _) rfl
 ·have c1:decide (m≤n)=false:=by simp[hc]
  rw[if_neg hc] at h
  cases h
  simp only[go_sem,ge_iff_le,c1]
  exact zkq hp QZ (hk _) rfl
end Go.Proofs
namespace Go.Proofs
open Go Go.AL
def HC (T:List Tk) (pid:Nat) (f:FuncId) (e:PM Nd):Prop:=∀ (p:PS) (r:Nd) (p':PS),e p=some (r,p')→∀ (K:SV→St→Prop) (st:St),V8 T pid p st→K (zH r) (st.set pid (.cells (ZX T p')))→ACalls Tryz.prog f [.ptr pid 0] K st
theorem Q7 {k a:Int} {t:Tx} {x:SV} (h1:x.cells=[x]) (h2:qJ x=true) (h3:Qp x=true) (h4:Zu x=x) (h5:∀ p,gIf p x=True) {K:SV→St→Prop} {st:St} (hi:Ids st.length x) (hk:K (QM k t 0 a x) st) :
  ACalls Tryz.prog 72 [.sc (.int .i64 k),.sc (.int .i64 a),.sc (.string (ba t)),x] K st:=by
 refine ZT [] Tryz.func72 rfl Tryz.results72 Tryz.ntmps72 ?_
 simp only[go_sem,h1,h2,h3,h4,h5]
 exact⟨st,_,rfl,Mod.refl _,by
  rw[ZW]
  simp only[List.forall_mem_cons,Yj,true_and]
  exact⟨qf (.inr rfl) (fun x hx=>by cases hx),hi,fun x hx=>by cases hx⟩,hk⟩
theorem zlT {x y:SV} (h:SVle (norm x) y):SVle x y:=fun st σ w v hr=>h st σ w v hr.norm
theorem JK {k a:Int} {t:Tx} {z:Nat} {kids:List Nd} (hz:z=6∨kids=[]) {K:SV→St→Prop} {st:St} (hk:K (zH (zR k a t kids)) st) :
  ACalls Tryz.prog 72 [.sc (.int .i64 k),.sc (.int .i64 a),.sc (.string (ba t)),.slice .full z (kids.map zH)] K st :=
 zK (Q7 rfl rfl rfl rfl (fun _=>rfl) (zY _ _ (.inr rfl) _ _) ⟨_,zlT (zcY (n:=zR k a t kids) (m1 :=.full) (m2 :=.full) (z1:=0) (z2:=z) (.inr rfl) hz),hk⟩)
theorem VJ {T:List Tk} {pid:Nat} {g:FuncId} {e:PM Nd} (he:HC T pid g e) (hg:zQ Tryz.prog g=true) {p p':PS} {r:Nd} (h:Yt T e p=some (r,p')) {K:SV→St→Prop} {st:St} (hp:V8 T pid p st) (hk:K (zH r) (st.set pid (.cells (ZX T p')))) :
  ACalls Tryz.prog 78 [.ptr pid 0,.func (.func g) [] []] K st:=by
 refine zK (XY (zk3 Tryz.func78 rfl Tryz.results78 Tryz.ntmps78 ?_))
 have y:=zT hp
 unfold ZX at y
 unfold Yt at h
 by_cases hd:40≤p.deep
 ·rw[if_pos hd] at h
  cases hf:Zc T 15 p with
  | none=>rw[hf] at h;cases h
  | some p1 =>
   have h1:p1.e≠0:=by
    unfold Zc at hf
    split at hf
    ·cases hl:T[p.pos]? with
     | none=>rw[hl] at hf;cases hf
     | some t=>rw[hl] at hf;cases hf;show (15:Int)≠0;decide
    ·rename_i h0;cases hf;exact h0
   rw[hf] at h
   simp only[Option.bind_some] at h
   rw[if_pos h1] at h
   cases h
   have c1:decide ((40:Int)≤(p.deep:Int))=true:=by simp;omega
   have c2:(p'.e != 0)=true:=by simp[h1]
   have y1:=zT (Qy (p':=p') hp)
   unfold ZX at y1
   refine QP [] ?_
   simp only[go_sem,Xv,YL]
   refine QP [] ?_
   simp only[go_sem,Xv,YL,y.1,y.2.1,y.2.2,c1,ge_iff_le]
   refine zbz hf (zG hp) fun x=>?_
   simp only[go_sem,za hp,Xv]
   refine QP [] ?_
   unfold ZX
   simp only[go_sem,Xv,YL,y.1,y1.2.1,y1.2.2,za hp,c2,zom]
   exact XT hk (.inr rfl) (.inr rfl)
 ·by_cases h0:p.e=0
  ·rw[if_neg hd] at h
   simp only[Option.bind_some] at h
   rw[if_neg (by simp[h0])] at h
   cases hx:e { p with deep:=p.deep+1 } with
   | none=>rw[hx] at h;cases h
   | some q =>
    obtain⟨x,p1⟩:=q
    rw[hx] at h
    simp only[Option.bind_some] at h
    split at h
    ·cases h
    rename_i hdp
    simp only[Option.some.injEq,Prod.mk.injEq] at h
    obtain⟨rfl,rfl⟩:=h
    have c1:decide ((40:Int)≤(p.deep:Int))=false:=by simp;omega
    have c2:(p.e != 0)=false:=by simp[h0]
    refine QP [] ?_
    simp only[go_sem,Xv,YL]
    refine QP [] ?_
    simp only[go_sem,Xv,YL,y.1,y.2.1,y.2.2,c1,ge_iff_le]
    refine QP [] ?_
    simp only[go_sem,Xv,YL,y.1,y.2.1,y.2.2,c2]
    refine QP [] ?_
    have hw:IntKind.i64.wrap ((p.deep:Int)+1)=((p.deep+1:Nat):Int):=by rw[IntWalk.i64_in _ (by omega)];rfl
    simp only[go_sem,Xv,YL,y.1,y.2.1,y.2.2,hw]
    refine zjc (zjs rfl (by simp) ?_)
    simp only[go_sem,Xv]
    refine QP [] ?_
    simp only[go_sem,hg]
    refine he _ _ _ hx _ _ (zl hp) ?_
    simp only[go_sem,za hp]
    simp only[Xv]
    refine zv5 [] ?_
    simp only[go_sem,zx6,zom]
    refine zj9 [] Tryz.func106 rfl Tryz.results106 Tryz.ntmps106 ?_
    have y1:=zT (Qy (p':=p1) hp)
    unfold ZX at y1
    have hw2:IntKind.i64.wrap ((p1.deep:Int)-1)=((p1.deep-1:Nat):Int):=by rw[IntWalk.i64_in _ (by omega)];omega
    unfold ZX
    simp only[go_sem,y1.2.1,y1.2.2,za hp,hw2]
    exact Zk hk
  ·rw[if_neg hd] at h
   simp only[Option.bind_some] at h
   rw[if_pos h0] at h
   cases h
   have c1:decide ((40:Int)≤(p.deep:Int))=false:=by simp;omega
   have c2:(p.e != 0)=true:=by simp[h0]
   refine QP [] ?_
   simp only[go_sem,Xv,YL]
   refine QP [] ?_
   simp only[go_sem,Xv,YL,y.1,y.2.1,y.2.2,c1,ge_iff_le]
   refine QP [] ?_
   simp only[go_sem,Xv,YL,y.1,y.2.1,y.2.2,c2,zom]
   exact zr7 hp hk (.inr rfl) (.inr rfl)
theorem zmq {T:List Tk} (hT:T.length≤100000) {pid:Nat} {g:FuncId} {e:PM Nd} (he:HC T pid g e) (hg:zQ Tryz.prog g=true) {p p':PS} {r:Nd} (h:J1 T e p=some (r,p')) {K:SV→St→Prop} {st:St} (hp:V8 T pid p st) (hk:K (zH r) (st.set pid (.cells (ZX T p')))) :
  ACalls Tryz.prog 150 [.ptr pid 0,.func (.func g) [] []] K st:=by
 refine zK (zC [] Tryz.func150 rfl Tryz.results150 Tryz.ntmps150 ?_)
 unfold J1 at h
 simp only[Option.bind_eq_some_iff,Option.map_eq_some_iff,Prod.exists,Prod.mk.injEq] at h
 obtain⟨p1,h1,x,p2,h2,p3,h3,rfl,rfl⟩:=h
 simp only[go_sem]
 refine ZQ hT h1 (zG hp) fun _=>?_
 simp only[go_sem,za hp]
 refine VJ he hg h2 (zl hp) ?_
 simp only[go_sem,za hp]
 refine ZQ hT h3 (zl hp) fun _=>?_
 simp only[go_sem,za hp]
 exact Zk hk
def Xj (kinds:List (Int×Int)):List (Value×SV):=kinds.map fun q=>(.int .i64 q.1,.sc (.int .i64 q.2))
def zaU (kinds:List (Int×Int)) (n:Int):Int:=((kinds.find? fun q=>q.1==n).map (·.2)).getD 0
theorem zmH (n m:Int):YY (.int .i64 n) (.int .i64 m)=decide (n=m):=by
 have:=VV (d :=.int .i64) (a :=.int .i64 n) (b :=.int .i64 m) (by simp[Zv]) (by simp[Zv])
 by_cases hc:n=m
 ·simp only[hc,decide_true];rw[hc] at this;exact this.2 rfl
 ·simp only[hc,decide_false]
  cases hk:YY (.int .i64 n) (.int .i64 m) with
  | false=>rfl
  | true=>exact absurd (Value.int.inj (this.1 hk)).2 hc
theorem zoQ (kinds:List (Int×Int)) (n:Int):∃ b,zl7 (Xj kinds) (.sc (.int .i64 0)) n=(.sc (.int .i64 (zaU kinds n)),b):=by
 induction kinds with
 | nil=>exact⟨false,rfl⟩
 | cons q r ih =>
  obtain⟨b,hb⟩:=ih
  unfold zl7 keyIdx Xj zaU at *
  by_cases hc:q.1=n
  ·have h2:(q.1==n)=true:=by simp[hc]
   refine⟨true,?_⟩
   simp only[List.map_cons,List.findIdx?_cons,zmH,hc,decide_true,if_true,List.find?_cons,BEq.rfl]
   rfl
  ·have h2:(q.1==n)=false:=by simp[hc]
   have h3:decide (n=q.1)=false:=by simp;omega
   simp only[List.map_cons,List.findIdx?_cons,zmH,h3,Bool.false_eq_true,if_false,List.find?_cons,h2]
   cases hx:List.findIdx? (fun p=>YY (Value.int IntKind.i64 n) p.1) (r.map fun q=>(Value.int .i64 q.1,SV.sc (.int .i64 q.2))) with
   | none =>
    rw[hx] at hb
    exact⟨b,hb⟩
   | some j =>
    rw[hx] at hb
    exact⟨b,by simpa using hb⟩
theorem zf3 (kinds:List (Int×Int)):zbQ (Xj kinds):=by
 intro q hq
 obtain⟨a,_,rfl⟩:=List.mem_map.1 hq
 exact⟨a.1,rfl⟩
theorem zd8 {T:List Tk} {pid:Nat} {p':PS} {k m a:Int} {t:Tx} {st:St} {K:SV→St→Prop} (hk:K (ndE (.mk k t m a [] [])) (st.set pid (.cells (ZX T p')))) {ex:St} :
  zlJ st K (.agg [.sc (.int .i64 k),.sc (.string (ba t)),.sc (.int .i64 m),.sc (.int .i64 a),.slice .full 0 [],.slice .full 0 []]) (st.set pid (.cells (ZX T p'))++ex) :=
 ⟨_,ex,rfl,(Mod.refl _).set _ _ (zcl _ _ _),by
  rw[ZW]
  simp only[List.forall_mem_cons,Yj,true_and]
  exact⟨qf (.inr rfl) (fun x hx=>by cases hx),qf (.inr rfl) (fun x hx=>by cases hx),fun x hx=>by cases hx⟩,hk⟩
theorem zoq {T:List Tk} (hT:T.length≤100000) {pid mid:Nat} {kinds:List (Int×Int)} {p p':PS} {r:Nd} (h:X4 T kinds p=some (r,p')) {K:SV→St→Prop} {st:St} (hp:V8 T pid p st) (hm:st[mid]?=some (.map (Xj kinds)))
  (hk:K (ndE r) (st.set pid (.cells (ZX T p')))):ACalls Tryz.prog 164 [.ptr pid 0,.mp mid] K st:=by
 refine ZT [] Tryz.func164 rfl Tryz.results164 Tryz.ntmps164 ?_
 unfold X4 at h
 rw[Option.bind_eq_some_iff] at h
 obtain⟨t,hl,h⟩:=h
 change (if zaU kinds t.kind=0 then _ else _)=_ at h
 obtain⟨b,hb⟩:=zoQ kinds t.kind
 simp only[go_sem]
 refine qp hl (zG hp) ?_
 have hmg:=fun ex=>zlq (P:=Tryz.prog) (t:=149) (n:=t.kind) (st:=st++ex) Tryz.amap149 Tryz.zeroSV3 (Vb (JS hm ex)).2 (zf3 kinds)
 rw[hb] at hmg
 by_cases hz:zaU kinds t.kind=0
 ·rw[if_pos hz] at h
  rw[Option.map_eq_some_iff] at h
  obtain⟨p1,hf,h⟩:=h
  cases h
  have c1:(zaU kinds t.kind==0)=true:=by simp[hz]
  simp only[go_sem,hmg,c1,Option.isSome_some]
  refine zbz hf (zG hp) fun _=>?_
  simp only[go_sem,za hp]
  exact zd8 hk
 ·rw[if_neg hz] at h
  rw[Option.map_eq_some_iff] at h
  obtain⟨⟨t1,p1⟩,ht,h⟩:=h
  cases h
  have c1:(zaU kinds t.kind==0)=false:=by simp[hz]
  simp only[go_sem,hmg,c1,Option.isSome_some]
  refine QC hT ht (zG hp) ?_
  simp only[go_sem,za hp,hmg]
  exact zd8 hk
end Go.Proofs
