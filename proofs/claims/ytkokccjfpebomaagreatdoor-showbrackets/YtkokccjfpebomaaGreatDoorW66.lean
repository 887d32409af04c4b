/- The document's parser: atom. Written by gen_w66.py. -/
import Derived.Test.YtkokccjfpebomaaGreatDoorW65
set_option maxHeartbeats 4000000
set_option linter.unusedSimpArgs false
set_option linter.unusedVariables false
set_option maxRecDepth 8000
namespace Go.Proofs
open Go Go.AL Tryz
theorem YT {T:List Tk} {pid:Nat} {p:PS} {t:Tk} (h:zR T p=some t) {K:SV→St→Prop} {st:St} (hp:YR T pid p st) (hk:K (.sc (.int .i64 t.pos)) st):ACalls prog 19 [.ptr pid 0] K st :=
 uf (by unfold nY;rw[h];rfl) hp hk
theorem gy {T:List Tk} (hT:T.length≤100000) {pid:Nat} {e pt:PM Nd}:DE T pid 142 (YU T e pt):=by
 intro p t r p' ht h4 h
 unfold YU at h
 rw[ht] at h
 simp only[Option.bind_some] at h
 rw[if_neg (by omega),if_neg (by omega),if_neg (by omega),if_pos h4] at h
 have hr:=WV h
 refine⟨hr,fun K st hp hk=>?_⟩
 refine Z3 [] func142 rfl results142 ntmps142 ?_
 have d1:(t.kind==1)=false:=by simp[h4]
 have d2:(t.kind==2)=false:=by simp[h4]
 have d3:(t.kind==3)=false:=by simp[h4]
 have d4:(t.kind==4)=true:=by simp[h4]
 rw[BN hr] at hk
 simp only[go_sem]
 refine YT ht (zF hp) ?_
 simp only[go_sem]
 refine qr ht (zF hp) ?_
 simp only[go_sem,d1,d2,d3,d4]
 refine jU hT h (zF hp) ?_
 rw[BN hr]
 simp only[go_sem,zb hp]
 exact⟨_,_,rfl,(Mod.refl _).set _ _ (Vk _ _ _),by
  rw[Z6]
  simp only[List.forall_mem_cons,YH,true_and]
  exact⟨ql (.inr rfl) (fun x hx=>by cases hx),ql (.inr rfl) (fun x hx=>by cases hx),fun x hx=>by cases hx⟩,hk⟩
theorem UY {T:List Tk} (hT:T.length≤100000) {pid:Nat} {k:Int} {p p':PS} {t:Tk} {r:Nd} (ht:zR T p=some t) (hk':(t.kind=1∧k=1)∨(t.kind=2∧k=2)∨(t.kind=3∧k=4)∨(t.kind=4∧k=5)) (h:YS T k p=some (r,p')) {K:SV→St→Prop} {st:St} (hp:YR T pid p st) (hk:K (zJ r) (st.set pid (.cells (qN T p')))):ACalls prog 142 [.ptr pid 0] K st:=by
 refine zM (zE [] func142 rfl results142 ntmps142 ?_)
 rcases hk' with⟨g,rfl⟩ | ⟨g,rfl⟩ | ⟨g,rfl⟩ | ⟨g,rfl⟩
 ·have d1:(t.kind==1)=true:=by simp[g]
  simp only[go_sem]
  refine YT ht (zF hp) ?_
  simp only[go_sem]
  refine qr ht (zF hp) ?_
  simp only[go_sem,d1]
  refine V4 hT h (zF hp) ?_
  simp only[go_sem,zb hp]
  exact Qv hk
 ·have d1:(t.kind==1)=false:=by simp[g]
  have d2:(t.kind==2)=true:=by simp[g]
  simp only[go_sem]
  refine YT ht (zF hp) ?_
  simp only[go_sem]
  refine qr ht (zF hp) ?_
  simp only[go_sem,d1,d2]
  refine V4 hT h (zF hp) ?_
  simp only[go_sem,zb hp]
  exact Qv hk
 ·have d1:(t.kind==1)=false:=by simp[g]
  have d2:(t.kind==2)=false:=by simp[g]
  have d3:(t.kind==3)=true:=by simp[g]
  simp only[go_sem]
  refine YT ht (zF hp) ?_
  simp only[go_sem]
  refine qr ht (zF hp) ?_
  simp only[go_sem,d1,d2,d3]
  refine V4 hT h (zF hp) ?_
  simp only[go_sem,zb hp]
  exact Qv hk
 ·have d1:(t.kind==1)=false:=by simp[g]
  have d2:(t.kind==2)=false:=by simp[g]
  have d3:(t.kind==3)=false:=by simp[g]
  have d4:(t.kind==4)=true:=by simp[g]
  simp only[go_sem]
  refine YT ht (zF hp) ?_
  simp only[go_sem]
  refine qr ht (zF hp) ?_
  simp only[go_sem,d1,d2,d3,d4]
  refine V4 hT h (zF hp) ?_
  simp only[go_sem,zb hp]
  exact Qv hk
theorem p9 {T:List Tk} (hT:T.length≤100000) {pid:Nat} {e pt:PM Nd} (hw:DC T pid 156 (QY e)) (hpt:DC T pid 157 pt) {p p':PS} {t:Tk} {r:Nd} (ht:zR T p=some t) (g:¬ t.kind=1∧¬ t.kind=2∧¬ t.kind=3∧¬ t.kind=4)
  (b1:isT t [114,101,116,114,121]=false) (b2:isT t [109,97,116,99,104]=false) (b3:isT t [116,114,121]=false) (b4:isT t [40]=false) (h:((Za T 14 p).map fun p1=>(J9,p1))=some (r,p')) {K:SV→St→Prop} {st:St} (hp:YR T pid p st) (hk:K (zJ r) (st.set pid (.cells (qN T p')))):ACalls prog 142 [.ptr pid 0] K st:=by
 refine zM (zE [] func142 rfl results142 ntmps142 ?_)
 have d1:(t.kind==1)=false:=by simp[g.1]
 have d2:(t.kind==2)=false:=by simp[g.2.1]
 have d3:(t.kind==3)=false:=by simp[g.2.2.1]
 have d4:(t.kind==4)=false:=by simp[g.2.2.2]
 simp only[Option.map_eq_some_iff,Prod.mk.injEq] at h
 obtain⟨q,h1,rfl,rfl⟩:=h
 simp only[go_sem]
 refine YT ht (zF hp) ?_
 simp only[go_sem]
 refine qr ht (zF hp) ?_
 simp only[go_sem,d1,d2,d3,d4]
 refine qx ht b1 (zF hp) ?_
 simp only[go_sem]
 refine qx ht b2 (zF hp) ?_
 simp only[go_sem]
 refine qx ht b3 (zF hp) ?_
 simp only[go_sem]
 refine qx ht b4 (zF hp) ?_
 simp only[go_sem]
 refine Qg h1 (zF hp) fun _=>?_
 simp only[go_sem,zb hp]
 exact Q8 (m1 :=.full) (m2 :=.full) (z1:=0) (z2:=0) (nd:=J9) hk (.inr rfl) (.inr rfl)
theorem mB {T:List Tk} (hT:T.length≤100000) {pid:Nat} {e pt:PM Nd} (hw:DC T pid 156 (QY e)) (hpt:DC T pid 157 pt) {p p':PS} {t:Tk} {r:Nd} (ht:zR T p=some t) (g:¬ t.kind=1∧¬ t.kind=2∧¬ t.kind=3∧¬ t.kind=4)
  (b1:isT t [114,101,116,114,121]=true) (b2:isT t [109,97,116,99,104]=false) (b3:isT t [116,114,121]=false) (b4:isT t [40]=false) (h:((ZA T p).map fun r=>(zT 19 t.pos [] [],r.2))=some (r,p')) {K:SV→St→Prop} {st:St} (hp:YR T pid p st) (hk:K (zJ r) (st.set pid (.cells (qN T p')))):ACalls prog 142 [.ptr pid 0] K st:=by
 refine zM (zE [] func142 rfl results142 ntmps142 ?_)
 have d1:(t.kind==1)=false:=by simp[g.1]
 have d2:(t.kind==2)=false:=by simp[g.2.1]
 have d3:(t.kind==3)=false:=by simp[g.2.2.1]
 have d4:(t.kind==4)=false:=by simp[g.2.2.2]
 simp only[Option.map_eq_some_iff,Prod.exists,Prod.mk.injEq] at h
 obtain⟨u,q,h1,rfl,rfl⟩:=h
 simp only[go_sem]
 refine YT ht (zF hp) ?_
 simp only[go_sem]
 refine qr ht (zF hp) ?_
 simp only[go_sem,d1,d2,d3,d4]
 refine qx ht b1 (zF hp) ?_
 simp only[go_sem]
 refine qx ht b2 (zF hp) ?_
 simp only[go_sem]
 refine qx ht b3 (zF hp) ?_
 simp only[go_sem]
 refine qx ht b4 (zF hp) ?_
 simp only[go_sem]
 refine qS hT h1 (zF hp) ?_
 simp only[go_sem,zb hp]
 exact Q8 (m1 :=.full) (m2 :=.full) (z1:=0) (z2:=0) (nd:=zT 19 t.pos [] []) hk (.inr rfl) (.inr rfl)
theorem xP {T:List Tk} (hT:T.length≤100000) {pid:Nat} {e pt:PM Nd} (hw:DC T pid 156 (QY e)) (hpt:DC T pid 157 pt) {p p':PS} {t:Tk} {r:Nd} (ht:zR T p=some t) (g:¬ t.kind=1∧¬ t.kind=2∧¬ t.kind=3∧¬ t.kind=4)
  (b1:isT t [114,101,116,114,121]=false) (b2:isT t [109,97,116,99,104]=false) (b3:isT t [116,114,121]=false) (b4:isT t [40]=true) (h:((ZA T p).bind fun r=>(Xx T [41] r.2).bind fun q=>if q.1 then some (zT 3 t.pos [] [],q.2) else (QY e q.2).bind fun u=>(qJ T [41] u.2).map fun p1=>(u.1,p1))=some (r,p')) {K:SV→St→Prop} {st:St} (hp:YR T pid p st) (hk:K (zJ r) (st.set pid (.cells (qN T p')))):ACalls prog 142 [.ptr pid 0] K st:=by
 refine zM (zE [] func142 rfl results142 ntmps142 ?_)
 have d1:(t.kind==1)=false:=by simp[g.1]
 have d2:(t.kind==2)=false:=by simp[g.2.1]
 have d3:(t.kind==3)=false:=by simp[g.2.2.1]
 have d4:(t.kind==4)=false:=by simp[g.2.2.2]
 simp only[Option.bind_eq_some_iff,Prod.exists] at h
 obtain⟨u,p1,h1,b,p2,h2,h⟩:=h
 obtain⟨t2,g1,g2,g3,g4,g5⟩:=Wj h2
 cases b with
 | true =>
  rw[if_pos rfl] at h
  cases h
  simp only[go_sem]
  refine YT ht (zF hp) ?_
  simp only[go_sem]
  refine qr ht (zF hp) ?_
  simp only[go_sem,d1,d2,d3,d4]
  refine qx ht b1 (zF hp) ?_
  simp only[go_sem]
  refine qx ht b2 (zF hp) ?_
  simp only[go_sem]
  refine qx ht b3 (zF hp) ?_
  simp only[go_sem]
  refine qx ht b4 (zF hp) ?_
  simp only[go_sem]
  refine qS hT h1 (zF hp) ?_
  simp only[go_sem,zb hp]
  refine Q2 g3 (zA hp) ?_
  simp only[go_sem,zb hp]
  first | (unfold zl;simp only[ze,zc,zq,List.set_cons_succ,List.set_cons_zero,List.getD_cons_succ,List.getD_cons_zero]) | skip
  refine qS hT (g4 rfl).1 (zA hp) ?_
  simp only[go_sem,zb hp]
  exact Q8 (m1 :=.full) (m2 :=.full) (z1:=0) (z2:=0) (nd:=zT 3 t.pos [] []) hk (.inr rfl) (.inr rfl)
 | false =>
  obtain rfl:=g5 rfl
  rw[if_neg (by decide)] at h
  simp only[Option.bind_eq_some_iff,Option.map_eq_some_iff,Prod.exists,Prod.mk.injEq] at h
  obtain⟨x,p3,h3,p4,h4,rfl,rfl⟩:=h
  simp only[go_sem]
  refine YT ht (zF hp) ?_
  simp only[go_sem]
  refine qr ht (zF hp) ?_
  simp only[go_sem,d1,d2,d3,d4]
  refine qx ht b1 (zF hp) ?_
  simp only[go_sem]
  refine qx ht b2 (zF hp) ?_
  simp only[go_sem]
  refine qx ht b3 (zF hp) ?_
  simp only[go_sem]
  refine qx ht b4 (zF hp) ?_
  simp only[go_sem]
  refine qS hT h1 (zF hp) ?_
  simp only[go_sem,zb hp]
  refine Q2 g3 (zA hp) ?_
  simp only[go_sem,zb hp]
  first | (unfold zl;simp only[ze,zc,zq,List.set_cons_succ,List.set_cons_zero,List.getD_cons_succ,List.getD_cons_zero]) | skip
  refine hw _ _ _ h3 _ _ (zA hp) ?_
  simp only[go_sem,zb hp]
  first | (unfold zl;simp only[ze,zc,zq,List.set_cons_succ,List.set_cons_zero,List.getD_cons_succ,List.getD_cons_zero]) | skip
  refine Zd hT h4 (zA hp) fun _=>?_
  simp only[go_sem,zb hp]
  exact Qv hk
theorem mj {T:List Tk} (hT:T.length≤100000) {pid:Nat} {e pt:PM Nd} (hw:DC T pid 156 (QY e)) (hpt:DC T pid 157 pt) {p p':PS} {t:Tk} {r:Nd} (ht:zR T p=some t) (g:¬ t.kind=1∧¬ t.kind=2∧¬ t.kind=3∧¬ t.kind=4)
  (b1:isT t [114,101,116,114,121]=false) (b2:isT t [109,97,116,99,104]=false) (b3:isT t [116,114,121]=true) (b4:isT t [40]=false) (h:((ZA T p).bind fun r=>(QY e r.2).bind fun q=>(qJ T [119,105,116,104] q.2).bind fun p1=>gw T e t.pos q.1 p1)=some (r,p')) {K:SV→St→Prop} {st:St} (hp:YR T pid p st) (hk:K (zJ r) (st.set pid (.cells (qN T p')))):ACalls prog 142 [.ptr pid 0] K st:=by
 refine zM (zE [] func142 rfl results142 ntmps142 ?_)
 have d1:(t.kind==1)=false:=by simp[g.1]
 have d2:(t.kind==2)=false:=by simp[g.2.1]
 have d3:(t.kind==3)=false:=by simp[g.2.2.1]
 have d4:(t.kind==4)=false:=by simp[g.2.2.2]
 unfold gw at h
 simp only[Option.bind_eq_some_iff,Option.map_eq_some_iff,Prod.exists,Prod.mk.injEq] at h
 obtain⟨u,p1,h1,x,p2,h2,p3,h3,s,p4,h4,p5,h5,v,p6,h6,p7,h7,rfl,rfl⟩:=h
 simp only[go_sem]
 refine YT ht (zF hp) ?_
 simp only[go_sem]
 refine qr ht (zF hp) ?_
 simp only[go_sem,d1,d2,d3,d4]
 refine qx ht b1 (zF hp) ?_
 simp only[go_sem]
 refine qx ht b2 (zF hp) ?_
 simp only[go_sem]
 refine qx ht b3 (zF hp) ?_
 simp only[go_sem]
 refine qx ht b4 (zF hp) ?_
 simp only[go_sem]
 refine qS hT h1 (zF hp) ?_
 simp only[go_sem,zb hp]
 refine Z1 (st.length+1) 5 6 0 (Zg 1) (by simp) rfl ?_
 rw[QA]
 simp only[List.length_append,Xn,List.length_cons,List.length_nil,List.set_cons_succ,List.set_cons_zero,List.append_assoc,List.cons_append,List.nil_append,Nat.zero_add,Nat.reduceAdd]
 refine zP [] [(0,[5]),(0,[5]),(0,[]),(3,[5]),(0,[]),(3,[7]),(0,[]),(1,[8])] mixed rfl ?_
 simp only[go_sem,zy,zu,zw,zt,zr,zG,zH,zx,zh]
 refine⟨_,_,hw _ _ _ h2 _ _ (zA hp) ⟨rfl,rfl⟩,?_⟩
 simp only[go_sem,zy,zu,zw,zt,zr,zG,zH,zx,zh,zb hp]
 rw[zL]
 refine⟨.slice .full 6 [zJ x],?_,?_⟩
 ·simp only[go_sem]
  exact⟨⟨[],by simp⟩,qb _ _ (.inr rfl) _ [_],.inl rfl⟩
 simp only[go_sem,zy,zu,zw,zt,zr,zG,zH,zx,zh]
 refine⟨_,_,⟨Tryz.app6d (by simp),rfl,rfl⟩,?_⟩
 simp only[go_sem]
 first | (unfold zl;simp only[ze,zc,zq,List.set_cons_succ,List.set_cons_zero,List.getD_cons_succ,List.getD_cons_zero]) | skip
 refine Zd hT h3 (zA hp) fun _=>?_
 simp only[go_sem,zb hp]
 first | (unfold zl;simp only[ze,zc,zq,List.set_cons_succ,List.set_cons_zero,List.getD_cons_succ,List.getD_cons_zero]) | skip
 refine JF hT (by decide) h4 (zA hp) ?_
 simp only[go_sem,zb hp]
 first | (unfold zl;simp only[ze,zc,zq,List.set_cons_succ,List.set_cons_zero,List.getD_cons_succ,List.getD_cons_zero]) | skip
 refine Zd hT h5 (zA hp) fun _=>?_
 simp only[go_sem,zb hp]
 refine zP [] [(0,[5]),(0,[5]),(0,[]),(3,[5]),(0,[]),(3,[7]),(0,[]),(1,[8])] mixed rfl ?_
 simp only[go_sem,zy,zu,zw,zt,zr,zG,zH,zx,zh]
 refine⟨_,_,hw _ _ _ h6 _ _ (zA hp) ⟨rfl,rfl⟩,?_⟩
 simp only[go_sem,zy,zu,zw,zt,zr,zG,zH,zx,zh,zb hp]
 rw[zL]
 refine⟨.slice .full 6 [zJ v],?_,?_⟩
 ·simp only[go_sem]
  exact⟨⟨[],by simp⟩,qb _ _ (.inr rfl) _ [_],.inl rfl⟩
 simp only[go_sem,zy,zu,zw,zt,zr,zG,zH,zx,zh]
 refine⟨_,_,⟨Tryz.app6d (by simp),rfl,rfl⟩,?_⟩
 simp only[go_sem]
 first | (unfold zl;simp only[ze,zc,zq,List.set_cons_succ,List.set_cons_zero,List.getD_cons_succ,List.getD_cons_zero]) | skip
 refine Zd hT h7 (zA hp) fun _=>?_
 simp only[go_sem,zb hp]
 exact Qx (nd:=zT 12 t.pos s [x,v]) hk rfl
theorem pO {T:List Tk} (hT:T.length≤100000) {pid:Nat} {e pt:PM Nd} (hw:DC T pid 156 (QY e)) (hpt:DC T pid 157 pt) {p p':PS} {t:Tk} {r:Nd} (ht:zR T p=some t) (g:¬ t.kind=1∧¬ t.kind=2∧¬ t.kind=3∧¬ t.kind=4)
  (b1:isT t [114,101,116,114,121]=false) (b2:isT t [109,97,116,99,104]=true) (b3:isT t [116,114,121]=false) (b4:isT t [40]=false) (h:((ZA T p).bind fun r=>(QY e r.2).bind fun q=>(qJ T [119,105,116,104] q.2).bind fun p1=>D5 T e pt t.pos q.1 p1)=some (r,p')) {K:SV→St→Prop} {st:St} (hp:YR T pid p st) (hk:K (zJ r) (st.set pid (.cells (qN T p')))):ACalls prog 142 [.ptr pid 0] K st:=by
 refine zM (zE [] func142 rfl results142 ntmps142 ?_)
 have d1:(t.kind==1)=false:=by simp[g.1]
 have d2:(t.kind==2)=false:=by simp[g.2.1]
 have d3:(t.kind==3)=false:=by simp[g.2.2.1]
 have d4:(t.kind==4)=false:=by simp[g.2.2.2]
 unfold D5 at h
 simp only[Option.bind_eq_some_iff,Option.map_eq_some_iff,Prod.exists,Prod.mk.injEq] at h
 obtain⟨u,p1,h1,x,p2,h2,p3,h3,n1,p4,hL,p5,h5,rfl,rfl⟩:=h
 simp only[go_sem]
 refine YT ht (zF hp) ?_
 simp only[go_sem]
 refine qr ht (zF hp) ?_
 simp only[go_sem,d1,d2,d3,d4]
 refine qx ht b1 (zF hp) ?_
 simp only[go_sem]
 refine qx ht b2 (zF hp) ?_
 simp only[go_sem]
 refine qx ht b3 (zF hp) ?_
 simp only[go_sem]
 refine qx ht b4 (zF hp) ?_
 simp only[go_sem]
 refine qS hT h1 (zF hp) ?_
 simp only[go_sem,zb hp]
 refine Z1 (st.length+1) 5 6 0 (Zg 1) (by simp) rfl ?_
 rw[QA]
 simp only[List.length_append,Xn,List.length_cons,List.length_nil,List.set_cons_succ,List.set_cons_zero,List.append_assoc,List.cons_append,List.nil_append,Nat.zero_add,Nat.reduceAdd]
 refine zP [] [(0,[5]),(0,[5]),(0,[]),(3,[5]),(0,[]),(3,[7]),(0,[]),(1,[8])] mixed rfl ?_
 simp only[go_sem,zy,zu,zw,zt,zr,zG,zH,zx,zh]
 refine⟨_,_,hw _ _ _ h2 _ _ (zA hp) ⟨rfl,rfl⟩,?_⟩
 simp only[go_sem,zy,zu,zw,zt,zr,zG,zH,zx,zh,zb hp]
 rw[zL]
 refine⟨.slice .full 6 [zJ x],?_,?_⟩
 ·simp only[go_sem]
  exact⟨⟨[],by simp⟩,qb _ _ (.inr rfl) _ [_],.inl rfl⟩
 simp only[go_sem,zy,zu,zw,zt,zr,zG,zH,zx,zh]
 refine⟨_,_,⟨Tryz.app6d (by simp),rfl,rfl⟩,?_⟩
 simp only[go_sem]
 first | (unfold zl;simp only[ze,zc,zq,List.set_cons_succ,List.set_cons_zero,List.getD_cons_succ,List.getD_cons_zero]) | skip
 refine Zd hT h3 (zA hp) fun _=>?_
 simp only[go_sem,zb hp]
 refine zN [] (fun m env s=>∃ (nd:Nd) (q:PS) (k:Nat) (more:Bool) (ex:St),Ko T e pt m more nd q=some (n1,p4)∧2*m+nd.kids.length≤2*T.length+10∧nd.names=[]∧env=[.ptr pid 0,.any,.ptr st.length 0,.ptr (st.length+1) 0,.any,.any,.any,.any,.any,.any,.sc (.bool more),.any,.any,.any,.any,.any,.any,.any,.any,.any,.any,.any,.any,.any,.any,.any,.any,.any,.any,.any,.any,.any,.any,.any,.any,.any,.any,.any,.any,.any,.any,.any,.any,.any,.any,.any,.any,.any,.any,.any,.any,.any,.any,.any,.any,.any,.any,.any,.any,.any,.any,.any,.any,.any,.any,.any,.any,.any,.any,.any,.any,.any,.any,.any,.any,.any,.any,.any,.any,.any,.any,.any,.any,.any,.any,.any,.any,.any,.any,.any,.any,.any,.any,.any,.any,.any,.any,.any,.any,.any,.any,.any,.any,.any,.any,.any,.any,.any,.any,.any,.any,.any,.any,.any,.any,.any,.any,.any,.any,.any,.any,.any,.any,.any,.any,.any,.any,.any,.any,.any,.any,.any] ∧
  s=st.set pid (.cells (qN T q))++(.cells qK :: .cells (qw (st.length+2) k nd) :: .tok k::ex)) (n:=T.length+2) ?_ ⟨zT 11 t.pos [] [x],_,1,true,[],hL,by simp[zT,Nd.kids];omega,rfl,rfl,rfl⟩ ?_
 ·repeat (first | exact zj | refine zk _ ?_ | refine zg _ ?_ | refine zf _ ?_)
 rintro m env s ⟨nd,q,k,more,ex,hl,hm,hnm,rfl,rfl⟩
 cases m with
 | zero=>cases hl
 | succ m =>
 unfold Ko at hl
 unfold qw qK
 cases more with
 | false =>
  rw[if_neg (by decide)] at hl
  cases hl
  simp only[go_sem]
  refine Zd hT h5 (zA hp) fun _=>?_
  simp only[go_sem,zb hp]
  exact Qx hk hnm
 | true =>
  rw[if_pos rfl] at hl
  simp only[Option.bind_eq_some_iff,Prod.exists] at hl
  obtain⟨q1,c1,q2,c2,y,q3,c3,q4,c4,w,q5,c5,b,c6,hl⟩:=hl
  have hkid:((nd.addKid y).addKid w).kids.length=nd.kids.length+2:=by rw[qc,qc];simp
  by_cases l4:nd.kids.length=41
  ·have l1:((nd.kids.length:Int)==41)=true:=by simp[l4]
   unfold U1 at c1
   rw[if_pos l4] at c1
   simp only[go_sem,List.length_map,l1]
   refine Qg c1 (zA hp) fun _=>?_
   simp only[go_sem,zb hp]
   first | (unfold zl;simp only[ze,zc,zq,List.set_cons_succ,List.set_cons_zero,List.getD_cons_succ,List.getD_cons_zero]) | skip
   refine Zd hT c2 (zA hp) fun _=>?_
   simp only[go_sem,zb hp]
   refine zP [] [(0,[5]),(0,[5]),(0,[]),(3,[5]),(0,[]),(3,[7]),(0,[]),(1,[8])] mixed rfl ?_
   simp only[go_sem,zy,zu,zw,zt,zr,zG,zH,zx,zh]
   refine⟨_,_,hpt _ _ _ c3 _ _ (zA hp) ⟨rfl,rfl⟩,?_⟩
   simp only[go_sem,zy,zu,zw,zt,zr,zG,zH,zx,zh,zb hp]
   rw[zL]
   refine⟨.slice .full 6 [zJ y],?_,?_⟩
   ·simp only[go_sem]
    exact⟨⟨[],by simp⟩,qb _ _ (.inr rfl) _ [_],.inl rfl⟩
   simp only[go_sem,zy,zu,zw,zt,zr,zG,zH,zx,zh]
   refine⟨_,_,⟨Tryz.app6d (by omega),rfl,rfl⟩,?_⟩
   simp only[go_sem]
   first | (unfold zl;simp only[ze,zc,zq,List.set_cons_succ,List.set_cons_zero,List.getD_cons_succ,List.getD_cons_zero]) | skip
   refine Zd hT c4 (zA hp) fun _=>?_
   simp only[go_sem,zb hp]
   refine zP [] [(0,[5]),(0,[5]),(0,[]),(3,[5]),(0,[]),(3,[7]),(0,[]),(1,[8])] mixed rfl ?_
   simp only[go_sem,zy,zu,zw,zt,zr,zG,zH,zx,zh]
   refine⟨_,_,hw _ _ _ c5 _ _ (zA hp) ⟨rfl,rfl⟩,?_⟩
   simp only[go_sem,zy,zu,zw,zt,zr,zG,zH,zx,zh,zb hp]
   rw[zL]
   refine⟨.slice .full 6 [zJ w],?_,?_⟩
   ·simp only[go_sem]
    exact⟨⟨[],by simp⟩,qb _ _ (.inr rfl) _ [_],.inl rfl⟩
   simp only[go_sem,zy,zu,zw,zt,zr,zG,zH,zx,zh]
   refine⟨_,_,⟨Tryz.app6d (by simp;omega),rfl,rfl⟩,?_⟩
   simp only[go_sem]
   first | (unfold zl;simp only[ze,zc,zq,List.set_cons_succ,List.set_cons_zero,List.getD_cons_succ,List.getD_cons_zero]) | skip
   refine Q2 c6 (zA hp) ?_
   simp only[go_sem,zb hp]
   refine⟨m,_,by omega,?_,(nd.addKid y).addKid w,q5,k+2,b,_,hl,by rw[hkid];omega,by rw[qs,qs];exact hnm,rfl,by rw[qV,qV,qU,qU,Zq,Zq,Zp,Zp,qc,qc,List.map_append,List.map_append,List.append_assoc];rfl⟩
   repeat (first | exact zj | refine zk _ ?_ | refine zg _ ?_ | refine zf _ ?_)
  ·have l1:((nd.kids.length:Int)==41)=false:=by simp;omega
   unfold U1 at c1
   rw[if_neg l4] at c1
   cases c1
   simp only[go_sem,List.length_map,l1]
   first | (unfold zl;simp only[ze,zc,zq,List.set_cons_succ,List.set_cons_zero,List.getD_cons_succ,List.getD_cons_zero]) | skip
   refine Zd hT c2 (zA hp) fun _=>?_
   simp only[go_sem,zb hp]
   refine zP [] [(0,[5]),(0,[5]),(0,[]),(3,[5]),(0,[]),(3,[7]),(0,[]),(1,[8])] mixed rfl ?_
   simp only[go_sem,zy,zu,zw,zt,zr,zG,zH,zx,zh]
   refine⟨_,_,hpt _ _ _ c3 _ _ (zA hp) ⟨rfl,rfl⟩,?_⟩
   simp only[go_sem,zy,zu,zw,zt,zr,zG,zH,zx,zh,zb hp]
   rw[zL]
   refine⟨.slice .full 6 [zJ y],?_,?_⟩
   ·simp only[go_sem]
    exact⟨⟨[],by simp⟩,qb _ _ (.inr rfl) _ [_],.inl rfl⟩
   simp only[go_sem,zy,zu,zw,zt,zr,zG,zH,zx,zh]
   refine⟨_,_,⟨Tryz.app6d (by omega),rfl,rfl⟩,?_⟩
   simp only[go_sem]
   first | (unfold zl;simp only[ze,zc,zq,List.set_cons_succ,List.set_cons_zero,List.getD_cons_succ,List.getD_cons_zero]) | skip
   refine Zd hT c4 (zA hp) fun _=>?_
   simp only[go_sem,zb hp]
   refine zP [] [(0,[5]),(0,[5]),(0,[]),(3,[5]),(0,[]),(3,[7]),(0,[]),(1,[8])] mixed rfl ?_
   simp only[go_sem,zy,zu,zw,zt,zr,zG,zH,zx,zh]
   refine⟨_,_,hw _ _ _ c5 _ _ (zA hp) ⟨rfl,rfl⟩,?_⟩
   simp only[go_sem,zy,zu,zw,zt,zr,zG,zH,zx,zh,zb hp]
   rw[zL]
   refine⟨.slice .full 6 [zJ w],?_,?_⟩
   ·simp only[go_sem]
    exact⟨⟨[],by simp⟩,qb _ _ (.inr rfl) _ [_],.inl rfl⟩
   simp only[go_sem,zy,zu,zw,zt,zr,zG,zH,zx,zh]
   refine⟨_,_,⟨Tryz.app6d (by simp;omega),rfl,rfl⟩,?_⟩
   simp only[go_sem]
   first | (unfold zl;simp only[ze,zc,zq,List.set_cons_succ,List.set_cons_zero,List.getD_cons_succ,List.getD_cons_zero]) | skip
   refine Q2 c6 (zA hp) ?_
   simp only[go_sem,zb hp]
   refine⟨m,_,by omega,?_,(nd.addKid y).addKid w,q5,k+2,b,_,hl,by rw[hkid];omega,by rw[qs,qs];exact hnm,rfl,by rw[qV,qV,qU,qU,Zq,Zq,Zp,Zp,qc,qc,List.map_append,List.map_append,List.append_assoc];rfl⟩
   repeat (first | exact zj | refine zk _ ?_ | refine zg _ ?_ | refine zf _ ?_)
theorem dQ {T:List Tk} (hT:T.length≤100000) {pid:Nat} {e pt:PM Nd} (hw:DC T pid 156 (QY e)) (hpt:DC T pid 157 pt):DC T pid 142 (YU T e pt):=by
 intro p r p' h K st hp hk
 unfold YU at h
 rw[Option.bind_eq_some_iff] at h
 obtain⟨t,ht,h⟩:=h
 by_cases k1:t.kind=1
 ·rw[if_pos k1] at h;exact UY hT ht (.inl ⟨k1,rfl⟩) h hp hk
 rw[if_neg k1] at h
 by_cases k2:t.kind=2
 ·rw[if_pos k2] at h;exact UY hT ht (.inr (.inl ⟨k2,rfl⟩)) h hp hk
 rw[if_neg k2] at h
 by_cases k3:t.kind=3
 ·rw[if_pos k3] at h;exact UY hT ht (.inr (.inr (.inl ⟨k3,rfl⟩))) h hp hk
 rw[if_neg k3] at h
 by_cases k4:t.kind=4
 ·rw[if_pos k4] at h;exact UY hT ht (.inr (.inr (.inr ⟨k4,rfl⟩))) h hp hk
 rw[if_neg k4] at h
 have no:∀ {a b:Tx},isT t a=true→a≠b→isT t b=false:=fun {a b} h1 h2=>by
  cases hb:isT t b with
  | false=>rfl
  | true=>exact absurd ((Qi.1 h1).2.symm.trans (Qi.1 hb).2) h2
 cases b1:isT t [114,101,116,114,121] with
 | true =>
  rw[if_pos b1] at h
  exact mB hT hw hpt ht ⟨k1,k2,k3,k4⟩ b1 (no b1 (by decide)) (no b1 (by decide)) (no b1 (by decide)) h hp hk
 | false =>
 rw[if_neg (by rw[b1];decide)] at h
 cases b4:isT t [40] with
 | true =>
  rw[if_pos b4] at h
  exact xP hT hw hpt ht ⟨k1,k2,k3,k4⟩ b1 (no b4 (by decide)) (no b4 (by decide)) b4 h hp hk
 | false =>
 rw[if_neg (by rw[b4];decide)] at h
 cases b3:isT t [116,114,121] with
 | true =>
  rw[if_pos b3] at h
  exact mj hT hw hpt ht ⟨k1,k2,k3,k4⟩ b1 (no b3 (by decide)) b3 b4 h hp hk
 | false =>
 rw[if_neg (by rw[b3];decide)] at h
 cases b2:isT t [109,97,116,99,104] with
 | true =>
  rw[if_pos b2] at h
  exact pO hT hw hpt ht ⟨k1,k2,k3,k4⟩ b1 b2 b3 b4 h hp hk
 | false =>
 rw[if_neg (by rw[b2];decide)] at h
 exact p9 hT hw hpt ht ⟨k1,k2,k3,k4⟩ b1 b2 b3 b4 h hp hk
end Go.Proofs
