/- The document's parser: inner. Written by gen_w68.py. -/
import Derived.Test.YtkokccjfpebomaaGreatDoorW67
import Derived.Test.YtkokccjfpebomaaGreatDoorA9
set_option maxHeartbeats 4000000
set_option linter.unusedSimpArgs false
set_option linter.unusedVariables false
set_option maxRecDepth 8000
namespace Go.AL
variable {T:List Tk} {pid:Nat} {st:St} {p q:PS}
theorem Q1 (hp:Yx T pid p st) {X Y:Ob} {ex:St}:(st.set pid X++ex).set pid Y=st.set pid Y++ex:=by
 have:=zn hp
 rw[List.set_append_left _ _ (by simpa using this),List.set_set]
theorem ztk (hp:Yx T pid p st) {X a b:Ob} {l:List SV} {k:Nat} (hk:k=st.length+1):S2 T pid k l q (st.set pid X++[a,b])=st.set pid (.cells (qH T q))++[a,.cells l]:=by
 subst hk
 unfold S2
 rw[Qi,Q1 hp]
 rfl
theorem YI {nd:Nd} {K:SV→St→Prop} {aid ver:Nat} {cs:List SV} {ex s:St} (hk:K (zH nd) (st.set pid (.cells (qH T p)))) (hs:s=st.set pid (.cells (qH T p))++ex) (hid:s[aid]?=some (.arr ver 6 cs)) (hlen:st.length≤aid) (hcs:cs=nd.kids.flatMap zy) (hnm:nd.names=[]) {n:Nat} (hn:n=nd.kids.length) :
  zkc (Yd st (LeK K)) (.agg (YT nd (.arr aid ver n))) s:=by
 subst hn
 have hfl:(nd.kids.map zH).flatMap SV.cells=nd.kids.flatMap zy:=by
  rw[List.flatMap_map];exact congrArg (fun f=>nd.kids.flatMap f) (funext fun c=>zc c)
 refine⟨[.sc (.int .i64 nd.kind),.sc (.string (ba nd.text)),.sc (.int .i64 nd.num),.sc (.int .i64 nd.pos),.slice .full 0 []],aid,ver,_,6,nd.kids.map zH,cs,rfl,hid,?_,by simp,?_,?_⟩
 ·rw[hcs,hfl]
  refine List.take_of_length_le ?_
  clear hcs hfl hnm hk
  induction nd.kids with
  | nil=>simp
  | cons a l ih=>rw[List.flatMap_cons,List.length_append,List.length_cons];simp only[zy,List.length_cons,List.length_nil] at ih ⊢;omega
 ·intro x hx
  obtain⟨c,_,rfl⟩:=List.mem_map.1 hx
  exact zk0 c
 ·subst hs
  rw[List.set_append_right _ _ (by simpa using hlen)]
  have:=QU (T:=T) (pid:=pid) (m1 :=.full) (m2 :=.imm) (z1:=0) (z2:=6) hk (.inr hnm) (.inl rfl) (ex:=ex.set (aid-(st.set pid (.cells (qH T p))).length) (.arr (ver+1) 6 []))
  unfold V5 at this
  rw[hnm] at this
  exact this
theorem zpu {p0:PS} {b:Bool} {ex:St} (hp:Yx T pid p0 st) (h:p.flat=b) :
  Yx T pid p (st.set pid (.cells [.slice .imm 4 (T.map ZB),.sc (.int .i64 p.pos),.sc (.int .i64 p.deep),.sc (.int .i64 p.bad),.sc (.bool b),.sc (.int .i64 p.e)])++ex):=by
 subst h;exact zx hp
theorem zpI {nd:Nd} {K:SV→St→Prop} {b:Bool} (h:p.flat=b) (hk:K (zH nd) (st.set pid (.cells (qH T p)))) {ex:St} :
  Yd st (LeK K) (zH nd) (st.set pid (.cells [.slice .imm 4 (T.map ZB),.sc (.int .i64 p.pos),.sc (.int .i64 p.deep),.sc (.int .i64 p.bad),.sc (.bool b),.sc (.int .i64 p.e)])++ex):=by
 subst h;exact Qh hk
end Go.AL
namespace Go.Proofs
open Go Go.AL
theorem zgb (T:List Tk) (hT:T.length≤100000) {pid:Nat} {e:PM Nd} (he:DC T pid 24 e) {nd:Nd} {p p':PS} {x:Tx} {rc:Bool} {v:Nd} (h:J0 T e p=some ((x,rc,v),p')) {K:SV→St→Prop} {st:St} {p0:PS} (hp:Yx T pid p0 st) {a:Ob} {k:Nat} (hk':k=st.length+1)
  (hk:K (.sc (.bool rc)) (st.set pid (.cells (qH T p'))++[a,.cells (YT (.mk nd.kind x nd.num nd.pos [] []) (.arr (st.length+2) 1 1)),.arr 1 6 (zy v)])) :
  ACalls Tryz.prog 37 [.ptr pid 0,.ptr k 0] K (st.set pid (.cells (qH T p))++[a,.cells (YT nd (.slice .full 0 []))]):=by
 subst hk'
 have hlt:=zn hp
 refine zji T hT (by omega) he h (zx hp) (qY 1) ?_
 rw[ztk hp rfl]
 simpa using hk
theorem zmS {T:List Tk} (hT:T.length≤100000) {pid:Nat} {e pt:PM Nd} (he:DC T pid 24 e) (hc:DC T pid 60 (zfr T e pt)) {p p':PS} {t:Tk} {r:Nd} (ht:zX T p=some t)
  (b1:isT t [108,101,116]=false) (b2:isT t [102,117,110]=true) (b3:isT t [105,102]=false) (h:((Zp T p).bind fun r=>(Jt T 3 r.2).bind fun q=>(qF T [45,62] q.2).bind fun p1=>(e p1).map fun u=>(zR 6 t.pos q.1 [u.1],u.2))=some (r,p')) {K:SV→St→Prop} {st:St} (hp:Yx T pid p st) (hk:K (zH r) (st.set pid (.cells (qH T p')))):ACalls Tryz.prog 39 [.ptr pid 0] K st:=by
 refine zK (XY (XF (Qe (M:=[1000054]) Tryz.func39 rfl Tryz.results39 Tryz.ntmps39 ?_)))
 simp only[Option.bind_eq_some_iff,Option.map_eq_some_iff,Prod.exists,Prod.mk.injEq] at h
 obtain⟨u,p1,h1,x,p2,h2,p3,h3,w,p4,h4,rfl,rfl⟩:=h
 simp only[go_sem]
 refine Yu ht (zD hp) ?_
 simp only[go_sem]
 refine qr ht b1 (zD hp) ?_
 simp only[go_sem]
 refine qr ht b2 (zD hp) ?_
 simp only[go_sem]
 refine qr ht b3 (zD hp) ?_
 simp only[go_sem]
 refine qL hT h1 (zD hp) ?_
 simp only[go_sem,za hp]
 refine Jc hT (by decide) h2 (zx hp) ?_
 simp only[go_sem,za hp]
 refine qX hT h3 (zx hp) fun _=>?_
 simp only[go_sem,za hp]
 refine qI [1000054] [3,6,8,10] [([],st.set pid (.cells (qH T p3))++[.cells qD,.cells [.sc (.int .i64 6),.sc (.string (ba x)),.sc (.int .i64 0),.sc (.int .i64 t.pos),.slice .full 0 [],.slice .full 0 []]]),([3],st.set pid (.cells (qH T p4))++[.cells qD,.cells [.sc (.int .i64 6),.sc (.string (ba x)),.sc (.int .i64 0),.sc (.int .i64 t.pos),.slice .full 0 [],.slice .full 0 []]]),([3,6],st.set pid (.cells (qH T p4))++[.cells qD,.cells [.sc (.int .i64 6),.sc (.string (ba x)),.sc (.int .i64 0),.sc (.int .i64 t.pos),.slice .full 0 [],.slice .full 0 []],.arr 1 6 (zW)]),
  ([3,6,8],st.set pid (.cells (qH T p4))++[.cells qD,.cells [.sc (.int .i64 6),.sc (.string (ba x)),.sc (.int .i64 0),.sc (.int .i64 t.pos),.slice .full 0 [],.slice .full 0 []],.arr 1 6 (zy w)]),([3,6,10],st.set pid (.cells (qH T p4))++[.cells qD,.cells [.sc (.int .i64 6),.sc (.string (ba x)),.sc (.int .i64 0),.sc (.int .i64 t.pos),.slice .full 0 [],.arr (st.length+2) 1 1],.arr 1 6 (zW)]),([3,6,8,10],st.set pid (.cells (qH T p4))++[.cells qD,.cells [.sc (.int .i64 6),.sc (.string (ba x)),.sc (.int .i64 0),.sc (.int .i64 t.pos),.slice .full 0 [],.arr (st.length+2) 1 1],.arr 1 6 (zy w)])]
  [[[],[3]],[[],[3]],[[]],[[]],[[],[3]],[[],[3]],[[3]],[[3,6],[3,6,10]],[[3,6],[3,6,10]],[[3,6],[3,6,8]],[[3,6],[3,6,8]]] Tryz.mixed rfl rfl rfl rfl rfl ?_
 refine zV rfl (.ptr (st.length+1) 5) (by simp only[go_sem]) (by simp only[go_sem]) ?_
 refine zV rfl (.slice .full 0 []) (by simp only[go_sem]) (by simp only[go_sem]) ?_
 refine Zl rfl (.ptr pid 0) (by simp only[go_sem]) ?_
 refine Zy (d:=[3]) rfl rfl (zH w) rfl ?_ ?_
 ·simp only[go_sem]
  exact he _ _ _ h4 _ _ (zx hp) ⟨rfl,Q1 hp⟩
 refine zV rfl (.sc (.int .i64 ((0:Nat):Int))) (by simp only[go_sem]) (by simp only[go_sem]) ?_
 refine zV rfl (.slice .full 6 [.agg zW]) ?_ ?_ ?_
 ·simp only[go_sem]
  refine⟨_,?_,rfl⟩
  simp only[go_sem]
  exact⟨⟨[],by simp⟩,ZC _,.inl rfl⟩
 ·simp only[go_sem]
  refine⟨_,?_,rfl⟩
  simp only[go_sem]
  exact⟨⟨[],by simp⟩,ZC _,.inl rfl⟩
 refine Zy (d:=[3,6]) rfl rfl (.arr (st.length+2) 1 1) rfl ?_ ?_
 ·simp only[go_sem,zW]
  exact⟨Tryz.app6d (by omega),rfl⟩
 refine zV rfl (.aptr (st.length+2) 1 0) ?_ ?_ ?_
 ·simp only[go_sem]
  decide
 ·simp only[go_sem]
  decide
 refine Z8 (d:=[3,6,8]) (d2:=[3,6,8,10]) rfl rfl rfl .any rfl ?_ ?_ ?_
 ·simp only[go_sem,zc]
  exact⟨by simp[zy,zW],rfl⟩
 ·simp only[go_sem,zc]
  exact⟨by simp[zy,zW],rfl⟩
 refine zV rfl (.ptr (st.length+1) 5) (by simp only[go_sem]) (by simp only[go_sem]) ?_
 refine Z8 (d:=[3,6,10]) (d2:=[3,6,8,10]) rfl rfl rfl .any rfl ?_ ?_ ?_
 ·simp only[go_sem]
 ·simp only[go_sem]
 refine ZZ ?_
 simp only[go_sem]
 refine⟨by decide,YI (nd:=zR 6 t.pos x [w]) (aid:=st.length+2) hk rfl ?_ (by omega) rfl rfl rfl⟩
 exact (qY 2).trans rfl
theorem zne {T:List Tk} (hT:T.length≤100000) {pid:Nat} {e pt:PM Nd} (he:DC T pid 24 e) (hc:DC T pid 60 (zfr T e pt)) {p p':PS} {t:Tk} {r:Nd} (ht:zX T p=some t)
  (b1:isT t [108,101,116]=false) (b2:isT t [102,117,110]=false) (b3:isT t [105,102]=true) (h:((Zp T p).bind fun r=>(e r.2).bind fun c=>(qF T [116,104,101,110] c.2).bind fun p1=>(e p1).bind fun a=>(qF T [101,108,115,101] a.2).bind fun p2=>(e p2).map fun b=>(zR 10 t.pos [] [c.1,a.1,b.1],b.2))=some (r,p')) {K:SV→St→Prop} {st:St} (hp:Yx T pid p st) (hk:K (zH r) (st.set pid (.cells (qH T p')))):ACalls Tryz.prog 39 [.ptr pid 0] K st:=by
 refine zK (XY (XF (Qe (M:=[1000068]) Tryz.func39 rfl Tryz.results39 Tryz.ntmps39 ?_)))
 simp only[Option.bind_eq_some_iff,Option.map_eq_some_iff,Prod.exists,Prod.mk.injEq] at h
 obtain⟨u,p1,h1,x,p2,h2,p3,h3,y,p4,h4,p5,h5,w,p6,h6,rfl,rfl⟩:=h
 simp only[go_sem]
 refine Yu ht (zD hp) ?_
 simp only[go_sem]
 refine qr ht b1 (zD hp) ?_
 simp only[go_sem]
 refine qr ht b2 (zD hp) ?_
 simp only[go_sem]
 refine qr ht b3 (zD hp) ?_
 simp only[go_sem]
 refine qL hT h1 (zD hp) ?_
 simp only[go_sem,za hp]
 refine qI [1000068] [3,6,8,10] [([],st.set pid (.cells (qH T p1))++[.cells qD,.cells [.sc (.int .i64 10),.sc (.string ⟨#[]⟩),.sc (.int .i64 0),.sc (.int .i64 t.pos),.slice .full 0 [],.slice .full 0 []]]),([3],st.set pid (.cells (qH T p2))++[.cells qD,.cells [.sc (.int .i64 10),.sc (.string ⟨#[]⟩),.sc (.int .i64 0),.sc (.int .i64 t.pos),.slice .full 0 [],.slice .full 0 []]]),([3,6],st.set pid (.cells (qH T p2))++[.cells qD,.cells [.sc (.int .i64 10),.sc (.string ⟨#[]⟩),.sc (.int .i64 0),.sc (.int .i64 t.pos),.slice .full 0 [],.slice .full 0 []],.arr 1 6 (zW)]),
  ([3,6,8],st.set pid (.cells (qH T p2))++[.cells qD,.cells [.sc (.int .i64 10),.sc (.string ⟨#[]⟩),.sc (.int .i64 0),.sc (.int .i64 t.pos),.slice .full 0 [],.slice .full 0 []],.arr 1 6 (zy x)]),([3,6,10],st.set pid (.cells (qH T p2))++[.cells qD,.cells [.sc (.int .i64 10),.sc (.string ⟨#[]⟩),.sc (.int .i64 0),.sc (.int .i64 t.pos),.slice .full 0 [],.arr (st.length+2) 1 1],.arr 1 6 (zW)]),([3,6,8,10],st.set pid (.cells (qH T p2))++[.cells qD,.cells [.sc (.int .i64 10),.sc (.string ⟨#[]⟩),.sc (.int .i64 0),.sc (.int .i64 t.pos),.slice .full 0 [],.arr (st.length+2) 1 1],.arr 1 6 (zy x)])]
  [[[],[3]],[[],[3]],[[]],[[]],[[],[3]],[[],[3]],[[3]],[[3,6],[3,6,10]],[[3,6],[3,6,10]],[[3,6],[3,6,8]],[[3,6],[3,6,8]]] Tryz.mixed rfl rfl rfl rfl rfl ?_
 refine zV rfl (.ptr (st.length+1) 5) (by simp only[go_sem]) (by simp only[go_sem]) ?_
 refine zV rfl (.slice .full 0 []) (by simp only[go_sem]) (by simp only[go_sem]) ?_
 refine Zl rfl (.ptr pid 0) (by simp only[go_sem]) ?_
 refine Zy (d:=[3]) rfl rfl (zH x) rfl ?_ ?_
 ·simp only[go_sem]
  exact he _ _ _ h2 _ _ (zx hp) ⟨rfl,Q1 hp⟩
 refine zV rfl (.sc (.int .i64 ((0:Nat):Int))) (by simp only[go_sem]) (by simp only[go_sem]) ?_
 refine zV rfl (.slice .full 6 [.agg zW]) ?_ ?_ ?_
 ·simp only[go_sem]
  refine⟨_,?_,rfl⟩
  simp only[go_sem]
  exact⟨⟨[],by simp⟩,ZC _,.inl rfl⟩
 ·simp only[go_sem]
  refine⟨_,?_,rfl⟩
  simp only[go_sem]
  exact⟨⟨[],by simp⟩,ZC _,.inl rfl⟩
 refine Zy (d:=[3,6]) rfl rfl (.arr (st.length+2) 1 1) rfl ?_ ?_
 ·simp only[go_sem,zW]
  exact⟨Tryz.app6d (by omega),rfl⟩
 refine zV rfl (.aptr (st.length+2) 1 0) ?_ ?_ ?_
 ·simp only[go_sem]
  decide
 ·simp only[go_sem]
  decide
 refine Z8 (d:=[3,6,8]) (d2:=[3,6,8,10]) rfl rfl rfl .any rfl ?_ ?_ ?_
 ·simp only[go_sem,zc]
  exact⟨by simp[zy,zW],rfl⟩
 ·simp only[go_sem,zc]
  exact⟨by simp[zy,zW],rfl⟩
 refine zV rfl (.ptr (st.length+1) 5) (by simp only[go_sem]) (by simp only[go_sem]) ?_
 refine Z8 (d:=[3,6,10]) (d2:=[3,6,8,10]) rfl rfl rfl .any rfl ?_ ?_ ?_
 ·simp only[go_sem]
 ·simp only[go_sem]
 refine ZZ ?_
 simp only[go_sem]
 first | (unfold zk;simp only[zd,zb,zo,List.set_cons_succ,List.set_cons_zero,List.getD_cons_succ,List.getD_cons_zero]) | skip
 refine qX hT h3 (zx hp) fun _=>?_
 simp only[go_sem,za hp]
 refine qI [1000068] [3,6,8,10] [([],st.set pid (.cells (qH T p3))++[.cells qD,.cells [.sc (.int .i64 10),.sc (.string ⟨#[]⟩),.sc (.int .i64 0),.sc (.int .i64 t.pos),.slice .full 0 [],.arr (st.length+2) 1 1],.arr 1 6 (zy x)]),([3],st.set pid (.cells (qH T p4))++[.cells qD,.cells [.sc (.int .i64 10),.sc (.string ⟨#[]⟩),.sc (.int .i64 0),.sc (.int .i64 t.pos),.slice .full 0 [],.arr (st.length+2) 1 1],.arr 1 6 (zy x)]),([3,6],st.set pid (.cells (qH T p4))++[.cells qD,.cells [.sc (.int .i64 10),.sc (.string ⟨#[]⟩),.sc (.int .i64 0),.sc (.int .i64 t.pos),.slice .full 0 [],.arr (st.length+2) 1 1],.arr 2 6 (zy x++zW)]),
  ([3,6,8],st.set pid (.cells (qH T p4))++[.cells qD,.cells [.sc (.int .i64 10),.sc (.string ⟨#[]⟩),.sc (.int .i64 0),.sc (.int .i64 t.pos),.slice .full 0 [],.arr (st.length+2) 1 1],.arr 2 6 (zy x++zy y)]),([3,6,10],st.set pid (.cells (qH T p4))++[.cells qD,.cells [.sc (.int .i64 10),.sc (.string ⟨#[]⟩),.sc (.int .i64 0),.sc (.int .i64 t.pos),.slice .full 0 [],.arr (st.length+2) 2 2],.arr 2 6 (zy x++zW)]),([3,6,8,10],st.set pid (.cells (qH T p4))++[.cells qD,.cells [.sc (.int .i64 10),.sc (.string ⟨#[]⟩),.sc (.int .i64 0),.sc (.int .i64 t.pos),.slice .full 0 [],.arr (st.length+2) 2 2],.arr 2 6 (zy x++zy y)])]
  [[[],[3]],[[],[3]],[[]],[[]],[[],[3]],[[],[3]],[[3]],[[3,6],[3,6,10]],[[3,6],[3,6,10]],[[3,6],[3,6,8]],[[3,6],[3,6,8]]] Tryz.mixed rfl rfl rfl rfl rfl ?_
 refine zV rfl (.ptr (st.length+1) 5) (by simp only[go_sem]) (by simp only[go_sem]) ?_
 refine zV rfl (.arr (st.length+2) 1 1) (by simp only[go_sem]) (by simp only[go_sem]) ?_
 refine Zl rfl (.ptr pid 0) (by simp only[go_sem]) ?_
 refine Zy (d:=[3]) rfl rfl (zH y) rfl ?_ ?_
 ·simp only[go_sem]
  exact he _ _ _ h4 _ _ (zx hp) ⟨rfl,Q1 hp⟩
 refine zV rfl (.sc (.int .i64 ((1:Nat):Int))) (by simp only[go_sem]) (by simp only[go_sem]) ?_
 refine zV rfl (.slice .full 6 [.agg zW]) ?_ ?_ ?_
 ·simp only[go_sem]
  refine⟨_,?_,rfl⟩
  simp only[go_sem]
  exact⟨⟨[],by simp⟩,ZC _,.inl rfl⟩
 ·simp only[go_sem]
  refine⟨_,?_,rfl⟩
  simp only[go_sem]
  exact⟨⟨[],by simp⟩,ZC _,.inl rfl⟩
 refine Zy (d:=[3,6]) rfl rfl (.arr (st.length+2) 2 2) rfl ?_ ?_
 ·simp only[go_sem,zW]
  exact⟨Tryz.app6d (by omega),rfl⟩
 refine zV rfl (.aptr (st.length+2) 2 6) ?_ ?_ ?_
 ·simp only[go_sem]
  decide
 ·simp only[go_sem]
  decide
 refine Z8 (d:=[3,6,8]) (d2:=[3,6,8,10]) rfl rfl rfl .any rfl ?_ ?_ ?_
 ·simp only[go_sem,zc]
  exact⟨by simp[zy,zW],rfl⟩
 ·simp only[go_sem,zc]
  exact⟨by simp[zy,zW],rfl⟩
 refine zV rfl (.ptr (st.length+1) 5) (by simp only[go_sem]) (by simp only[go_sem]) ?_
 refine Z8 (d:=[3,6,10]) (d2:=[3,6,8,10]) rfl rfl rfl .any rfl ?_ ?_ ?_
 ·simp only[go_sem]
 ·simp only[go_sem]
 refine ZZ ?_
 simp only[go_sem]
 first | (unfold zk;simp only[zd,zb,zo,List.set_cons_succ,List.set_cons_zero,List.getD_cons_succ,List.getD_cons_zero]) | skip
 refine qX hT h5 (zx hp) fun _=>?_
 simp only[go_sem,za hp]
 refine qI [1000068] [3,6,8,10] [([],st.set pid (.cells (qH T p5))++[.cells qD,.cells [.sc (.int .i64 10),.sc (.string ⟨#[]⟩),.sc (.int .i64 0),.sc (.int .i64 t.pos),.slice .full 0 [],.arr (st.length+2) 2 2],.arr 2 6 (zy x++zy y)]),([3],st.set pid (.cells (qH T p6))++[.cells qD,.cells [.sc (.int .i64 10),.sc (.string ⟨#[]⟩),.sc (.int .i64 0),.sc (.int .i64 t.pos),.slice .full 0 [],.arr (st.length+2) 2 2],.arr 2 6 (zy x++zy y)]),([3,6],st.set pid (.cells (qH T p6))++[.cells qD,.cells [.sc (.int .i64 10),.sc (.string ⟨#[]⟩),.sc (.int .i64 0),.sc (.int .i64 t.pos),.slice .full 0 [],.arr (st.length+2) 2 2],.arr 3 6 (zy x++zy y++zW)]),
  ([3,6,8],st.set pid (.cells (qH T p6))++[.cells qD,.cells [.sc (.int .i64 10),.sc (.string ⟨#[]⟩),.sc (.int .i64 0),.sc (.int .i64 t.pos),.slice .full 0 [],.arr (st.length+2) 2 2],.arr 3 6 (zy x++zy y++zy w)]),([3,6,10],st.set pid (.cells (qH T p6))++[.cells qD,.cells [.sc (.int .i64 10),.sc (.string ⟨#[]⟩),.sc (.int .i64 0),.sc (.int .i64 t.pos),.slice .full 0 [],.arr (st.length+2) 3 3],.arr 3 6 (zy x++zy y++zW)]),([3,6,8,10],st.set pid (.cells (qH T p6))++[.cells qD,.cells [.sc (.int .i64 10),.sc (.string ⟨#[]⟩),.sc (.int .i64 0),.sc (.int .i64 t.pos),.slice .full 0 [],.arr (st.length+2) 3 3],.arr 3 6 (zy x++zy y++zy w)])]
  [[[],[3]],[[],[3]],[[]],[[]],[[],[3]],[[],[3]],[[3]],[[3,6],[3,6,10]],[[3,6],[3,6,10]],[[3,6],[3,6,8]],[[3,6],[3,6,8]]] Tryz.mixed rfl rfl rfl rfl rfl ?_
 refine zV rfl (.ptr (st.length+1) 5) (by simp only[go_sem]) (by simp only[go_sem]) ?_
 refine zV rfl (.arr (st.length+2) 2 2) (by simp only[go_sem]) (by simp only[go_sem]) ?_
 refine Zl rfl (.ptr pid 0) (by simp only[go_sem]) ?_
 refine Zy (d:=[3]) rfl rfl (zH w) rfl ?_ ?_
 ·simp only[go_sem]
  exact he _ _ _ h6 _ _ (zx hp) ⟨rfl,Q1 hp⟩
 refine zV rfl (.sc (.int .i64 ((2:Nat):Int))) (by simp only[go_sem]) (by simp only[go_sem]) ?_
 refine zV rfl (.slice .full 6 [.agg zW]) ?_ ?_ ?_
 ·simp only[go_sem]
  refine⟨_,?_,rfl⟩
  simp only[go_sem]
  exact⟨⟨[],by simp⟩,ZC _,.inl rfl⟩
 ·simp only[go_sem]
  refine⟨_,?_,rfl⟩
  simp only[go_sem]
  exact⟨⟨[],by simp⟩,ZC _,.inl rfl⟩
 refine Zy (d:=[3,6]) rfl rfl (.arr (st.length+2) 3 3) rfl ?_ ?_
 ·simp only[go_sem,zW]
  exact⟨Tryz.app6d (by omega),rfl⟩
 refine zV rfl (.aptr (st.length+2) 3 12) ?_ ?_ ?_
 ·simp only[go_sem]
  decide
 ·simp only[go_sem]
  decide
 refine Z8 (d:=[3,6,8]) (d2:=[3,6,8,10]) rfl rfl rfl .any rfl ?_ ?_ ?_
 ·simp only[go_sem,zc]
  exact⟨by simp[zy,zW],rfl⟩
 ·simp only[go_sem,zc]
  exact⟨by simp[zy,zW],rfl⟩
 refine zV rfl (.ptr (st.length+1) 5) (by simp only[go_sem]) (by simp only[go_sem]) ?_
 refine Z8 (d:=[3,6,10]) (d2:=[3,6,8,10]) rfl rfl rfl .any rfl ?_ ?_ ?_
 ·simp only[go_sem]
 ·simp only[go_sem]
 refine ZZ ?_
 simp only[go_sem]
 refine⟨by decide,YI (nd:=zR 10 t.pos [] [x,y,w]) (aid:=st.length+2) hk rfl ?_ (by omega) rfl rfl rfl⟩
 exact (qY 2).trans rfl
theorem znV {T:List Tk} (hT:T.length≤100000) {pid:Nat} {e pt:PM Nd} (he:DC T pid 24 e) (hc:DC T pid 60 (zfr T e pt)) {p p':PS} {t:Tk} {r:Nd} (ht:zX T p=some t)
  (b1:isT t [108,101,116]=true) (b2:isT t [102,117,110]=false) (b3:isT t [105,102]=false) (h:((Zp T p).bind fun r=>(J0 T e r.2).bind fun q=>(qF T [105,110] q.2).bind fun p1=>(e p1).map fun u=>(zR (if q.1.2.1 then 9 else 8) t.pos q.1.1 [q.1.2.2,u.1],u.2))=some (r,p')) {K:SV→St→Prop} {st:St} (hp:Yx T pid p st) (hk:K (zH r) (st.set pid (.cells (qH T p')))):ACalls Tryz.prog 39 [.ptr pid 0] K st:=by
 refine zK (XY (XF (Qe (M:=[]) Tryz.func39 rfl Tryz.results39 Tryz.ntmps39 ?_)))
 simp only[Option.bind_eq_some_iff,Option.map_eq_some_iff,Prod.exists,Prod.mk.injEq] at h
 obtain⟨u,p1,h1,x,rc,v,p2,h2,p3,h3,w,p4,h4,rfl,rfl⟩:=h
 cases rc with
 | true =>
  simp only[go_sem]
  refine Yu ht (zD hp) ?_
  simp only[go_sem]
  refine qr ht b1 (zD hp) ?_
  simp only[go_sem]
  refine qr ht b2 (zD hp) ?_
  simp only[go_sem]
  refine qr ht b3 (zD hp) ?_
  simp only[go_sem]
  refine qL hT h1 (zD hp) ?_
  simp only[go_sem,za hp]
  refine zgb T hT he (nd :=.mk 8 [] 0 t.pos [] []) h2 hp rfl ?_
  unfold YT
  simp only[go_sem,za hp]
  refine qX hT h3 (zx hp) fun _=>?_
  simp only[go_sem,za hp]
  refine qI [] [3,6,8,10] [([],st.set pid (.cells (qH T p3))++[.cells qD,.cells [.sc (.int .i64 9),.sc (.string (ba x)),.sc (.int .i64 0),.sc (.int .i64 t.pos),.slice .full 0 [],.arr (st.length+2) 1 1],.arr 1 6 (zy v)]),([3],st.set pid (.cells (qH T p4))++[.cells qD,.cells [.sc (.int .i64 9),.sc (.string (ba x)),.sc (.int .i64 0),.sc (.int .i64 t.pos),.slice .full 0 [],.arr (st.length+2) 1 1],.arr 1 6 (zy v)]),([3,6],st.set pid (.cells (qH T p4))++[.cells qD,.cells [.sc (.int .i64 9),.sc (.string (ba x)),.sc (.int .i64 0),.sc (.int .i64 t.pos),.slice .full 0 [],.arr (st.length+2) 1 1],.arr 2 6 (zy v++zW)]),
   ([3,6,8],st.set pid (.cells (qH T p4))++[.cells qD,.cells [.sc (.int .i64 9),.sc (.string (ba x)),.sc (.int .i64 0),.sc (.int .i64 t.pos),.slice .full 0 [],.arr (st.length+2) 1 1],.arr 2 6 (zy v++zy w)]),([3,6,10],st.set pid (.cells (qH T p4))++[.cells qD,.cells [.sc (.int .i64 9),.sc (.string (ba x)),.sc (.int .i64 0),.sc (.int .i64 t.pos),.slice .full 0 [],.arr (st.length+2) 2 2],.arr 2 6 (zy v++zW)]),([3,6,8,10],st.set pid (.cells (qH T p4))++[.cells qD,.cells [.sc (.int .i64 9),.sc (.string (ba x)),.sc (.int .i64 0),.sc (.int .i64 t.pos),.slice .full 0 [],.arr (st.length+2) 2 2],.arr 2 6 (zy v++zy w)])]
   [[[],[3]],[[],[3]],[[]],[[]],[[],[3]],[[],[3]],[[3]],[[3,6],[3,6,10]],[[3,6],[3,6,10]],[[3,6],[3,6,8]],[[3,6],[3,6,8]]] Tryz.mixed rfl rfl rfl rfl rfl ?_
  refine zV rfl (.ptr (st.length+1) 5) (by simp only[go_sem]) (by simp only[go_sem]) ?_
  refine zV rfl (.arr (st.length+2) 1 1) (by simp only[go_sem]) (by simp only[go_sem]) ?_
  refine Zl rfl (.ptr pid 0) (by simp only[go_sem]) ?_
  refine Zy (d:=[3]) rfl rfl (zH w) rfl ?_ ?_
  ·simp only[go_sem]
   exact he _ _ _ h4 _ _ (zx hp) ⟨rfl,Q1 hp⟩
  refine zV rfl (.sc (.int .i64 ((1:Nat):Int))) (by simp only[go_sem]) (by simp only[go_sem]) ?_
  refine zV rfl (.slice .full 6 [.agg zW]) ?_ ?_ ?_
  ·simp only[go_sem]
   refine⟨_,?_,rfl⟩
   simp only[go_sem]
   exact⟨⟨[],by simp⟩,ZC _,.inl rfl⟩
  ·simp only[go_sem]
   refine⟨_,?_,rfl⟩
   simp only[go_sem]
   exact⟨⟨[],by simp⟩,ZC _,.inl rfl⟩
  refine Zy (d:=[3,6]) rfl rfl (.arr (st.length+2) 2 2) rfl ?_ ?_
  ·simp only[go_sem,zW]
   exact⟨Tryz.app6d (by omega),rfl⟩
  refine zV rfl (.aptr (st.length+2) 2 6) ?_ ?_ ?_
  ·simp only[go_sem]
   decide
  ·simp only[go_sem]
   decide
  refine Z8 (d:=[3,6,8]) (d2:=[3,6,8,10]) rfl rfl rfl .any rfl ?_ ?_ ?_
  ·simp only[go_sem,zc]
   exact⟨by simp[zy,zW],rfl⟩
  ·simp only[go_sem,zc]
   exact⟨by simp[zy,zW],rfl⟩
  refine zV rfl (.ptr (st.length+1) 5) (by simp only[go_sem]) (by simp only[go_sem]) ?_
  refine Z8 (d:=[3,6,10]) (d2:=[3,6,8,10]) rfl rfl rfl .any rfl ?_ ?_ ?_
  ·simp only[go_sem]
  ·simp only[go_sem]
  refine ZZ ?_
  simp only[go_sem]
  refine⟨by decide,YI (nd:=zR 9 t.pos x [v,w]) (aid:=st.length+2) hk rfl ?_ (by omega) rfl rfl rfl⟩
  exact (qY 2).trans rfl
 | false =>
  simp only[go_sem]
  refine Yu ht (zD hp) ?_
  simp only[go_sem]
  refine qr ht b1 (zD hp) ?_
  simp only[go_sem]
  refine qr ht b2 (zD hp) ?_
  simp only[go_sem]
  refine qr ht b3 (zD hp) ?_
  simp only[go_sem]
  refine qL hT h1 (zD hp) ?_
  simp only[go_sem,za hp]
  refine zgb T hT he (nd :=.mk 8 [] 0 t.pos [] []) h2 hp rfl ?_
  unfold YT
  simp only[go_sem,za hp]
  refine qX hT h3 (zx hp) fun _=>?_
  simp only[go_sem,za hp]
  refine qI [] [3,6,8,10] [([],st.set pid (.cells (qH T p3))++[.cells qD,.cells [.sc (.int .i64 8),.sc (.string (ba x)),.sc (.int .i64 0),.sc (.int .i64 t.pos),.slice .full 0 [],.arr (st.length+2) 1 1],.arr 1 6 (zy v)]),([3],st.set pid (.cells (qH T p4))++[.cells qD,.cells [.sc (.int .i64 8),.sc (.string (ba x)),.sc (.int .i64 0),.sc (.int .i64 t.pos),.slice .full 0 [],.arr (st.length+2) 1 1],.arr 1 6 (zy v)]),([3,6],st.set pid (.cells (qH T p4))++[.cells qD,.cells [.sc (.int .i64 8),.sc (.string (ba x)),.sc (.int .i64 0),.sc (.int .i64 t.pos),.slice .full 0 [],.arr (st.length+2) 1 1],.arr 2 6 (zy v++zW)]),
   ([3,6,8],st.set pid (.cells (qH T p4))++[.cells qD,.cells [.sc (.int .i64 8),.sc (.string (ba x)),.sc (.int .i64 0),.sc (.int .i64 t.pos),.slice .full 0 [],.arr (st.length+2) 1 1],.arr 2 6 (zy v++zy w)]),([3,6,10],st.set pid (.cells (qH T p4))++[.cells qD,.cells [.sc (.int .i64 8),.sc (.string (ba x)),.sc (.int .i64 0),.sc (.int .i64 t.pos),.slice .full 0 [],.arr (st.length+2) 2 2],.arr 2 6 (zy v++zW)]),([3,6,8,10],st.set pid (.cells (qH T p4))++[.cells qD,.cells [.sc (.int .i64 8),.sc (.string (ba x)),.sc (.int .i64 0),.sc (.int .i64 t.pos),.slice .full 0 [],.arr (st.length+2) 2 2],.arr 2 6 (zy v++zy w)])]
   [[[],[3]],[[],[3]],[[]],[[]],[[],[3]],[[],[3]],[[3]],[[3,6],[3,6,10]],[[3,6],[3,6,10]],[[3,6],[3,6,8]],[[3,6],[3,6,8]]] Tryz.mixed rfl rfl rfl rfl rfl ?_
  refine zV rfl (.ptr (st.length+1) 5) (by simp only[go_sem]) (by simp only[go_sem]) ?_
  refine zV rfl (.arr (st.length+2) 1 1) (by simp only[go_sem]) (by simp only[go_sem]) ?_
  refine Zl rfl (.ptr pid 0) (by simp only[go_sem]) ?_
  refine Zy (d:=[3]) rfl rfl (zH w) rfl ?_ ?_
  ·simp only[go_sem]
   exact he _ _ _ h4 _ _ (zx hp) ⟨rfl,Q1 hp⟩
  refine zV rfl (.sc (.int .i64 ((1:Nat):Int))) (by simp only[go_sem]) (by simp only[go_sem]) ?_
  refine zV rfl (.slice .full 6 [.agg zW]) ?_ ?_ ?_
  ·simp only[go_sem]
   refine⟨_,?_,rfl⟩
   simp only[go_sem]
   exact⟨⟨[],by simp⟩,ZC _,.inl rfl⟩
  ·simp only[go_sem]
   refine⟨_,?_,rfl⟩
   simp only[go_sem]
   exact⟨⟨[],by simp⟩,ZC _,.inl rfl⟩
  refine Zy (d:=[3,6]) rfl rfl (.arr (st.length+2) 2 2) rfl ?_ ?_
  ·simp only[go_sem,zW]
   exact⟨Tryz.app6d (by omega),rfl⟩
  refine zV rfl (.aptr (st.length+2) 2 6) ?_ ?_ ?_
  ·simp only[go_sem]
   decide
  ·simp only[go_sem]
   decide
  refine Z8 (d:=[3,6,8]) (d2:=[3,6,8,10]) rfl rfl rfl .any rfl ?_ ?_ ?_
  ·simp only[go_sem,zc]
   exact⟨by simp[zy,zW],rfl⟩
  ·simp only[go_sem,zc]
   exact⟨by simp[zy,zW],rfl⟩
  refine zV rfl (.ptr (st.length+1) 5) (by simp only[go_sem]) (by simp only[go_sem]) ?_
  refine Z8 (d:=[3,6,10]) (d2:=[3,6,8,10]) rfl rfl rfl .any rfl ?_ ?_ ?_
  ·simp only[go_sem]
  ·simp only[go_sem]
  refine ZZ ?_
  simp only[go_sem]
  refine⟨by decide,YI (nd:=zR 8 t.pos x [v,w]) (aid:=st.length+2) hk rfl ?_ (by omega) rfl rfl rfl⟩
  exact (qY 2).trans rfl
theorem zng {T:List Tk} (hT:T.length≤100000) {pid:Nat} {e pt:PM Nd} (he:DC T pid 24 e) (hc:DC T pid 60 (zfr T e pt)) {p p':PS} {t:Tk} {r:Nd} (ht:zX T p=some t)
  (b1:isT t [108,101,116]=false) (b2:isT t [102,117,110]=false) (b3:isT t [105,102]=false) (h:((zfr T e pt p).bind fun r=>(Y1 T [59] r.2).bind fun b=>if b∧¬ r.2.flat then (Zp T r.2).bind fun q=>(e q.2).map fun u=>(zR 14 r.1.pos [] [r.1,u.1],u.2) else some (r.1,r.2))=some (r,p')) {K:SV→St→Prop} {st:St} (hp:Yx T pid p st) (hk:K (zH r) (st.set pid (.cells (qH T p')))):ACalls Tryz.prog 39 [.ptr pid 0] K st:=by
 refine zK (zC [] Tryz.func39 rfl Tryz.results39 Tryz.ntmps39 ?_)
 simp only[Option.bind_eq_some_iff,Prod.exists] at h
 obtain⟨x,p1,h1,b,h2,h⟩:=h
 have y1:=zT (XP (p':=p1) hp)
 unfold qH at y1
 cases b with
 | false =>
  rw[if_neg (by simp)] at h
  cases h
  simp only[go_sem]
  refine Yu ht (zD hp) ?_
  simp only[go_sem]
  refine qr ht b1 (zD hp) ?_
  simp only[go_sem]
  refine qr ht b2 (zD hp) ?_
  simp only[go_sem]
  refine qr ht b3 (zD hp) ?_
  simp only[go_sem]
  refine hc _ _ _ h1 _ _ (zD hp) ?_
  simp only[go_sem,za hp]
  refine QN h2 (zx hp) ?_
  simp only[go_sem,za hp]
  exact Qh hk
 | true =>
  by_cases hf:p1.flat=true
  ·rw[if_neg (by simp[hf])] at h
   cases h
   simp only[go_sem]
   refine Yu ht (zD hp) ?_
   simp only[go_sem]
   refine qr ht b1 (zD hp) ?_
   simp only[go_sem]
   refine qr ht b2 (zD hp) ?_
   simp only[go_sem]
   refine qr ht b3 (zD hp) ?_
   simp only[go_sem]
   refine hc _ _ _ h1 _ _ (zD hp) ?_
   simp only[go_sem,za hp]
   refine QN h2 (zx hp) ?_
   unfold qH
   simp only[go_sem,za hp,y1.1,y1.2.1,y1.2.2,hf]
   exact zpI hf hk
  ·have hf:p1.flat=false:=by simpa using hf
   rw[if_pos ⟨rfl,by simp[hf]⟩] at h
   simp only[Option.bind_eq_some_iff,Option.map_eq_some_iff,Prod.exists,Prod.mk.injEq] at h
   obtain⟨u,p2,h3,w,p3,h4,rfl,rfl⟩:=h
   simp only[go_sem]
   refine Yu ht (zD hp) ?_
   simp only[go_sem]
   refine qr ht b1 (zD hp) ?_
   simp only[go_sem]
   refine qr ht b2 (zD hp) ?_
   simp only[go_sem]
   refine qr ht b3 (zD hp) ?_
   simp only[go_sem]
   refine hc _ _ _ h1 _ _ (zD hp) ?_
   simp only[go_sem,za hp]
   refine QN h2 (zx hp) ?_
   unfold qH
   simp only[go_sem,za hp,y1.1,y1.2.1,y1.2.2,hf]
   first | (unfold zk;simp only[zd,zb,zo,List.set_cons_succ,List.set_cons_zero,List.getD_cons_succ,List.getD_cons_zero]) | skip
   refine qL hT h3 (zpu hp hf) ?_
   simp only[go_sem,za hp]
   refine zO [] [(0,[7]),(0,[7]),(0,[7]),(0,[]),(3,[7]),(0,[]),(0,[]),(1,[8])] Tryz.mixed rfl ?_
   simp only[go_sem,zw,zt,zr,zp,zq,zE,zF,zu,zg,zc]
   refine⟨_,_,he _ _ _ h4 _ _ (zx hp) ⟨rfl,rfl⟩,?_⟩
   simp only[go_sem,zw,zt,zr,zp,zq,zE,zF,zu,zg,za hp]
   rw[zJ]
   refine⟨.slice .full 6 [.agg (zy x),zH w],?_,?_⟩
   ·unfold zy
    simp only[go_sem]
    exact⟨⟨[],by simp⟩,XC _ x w,.inl rfl⟩
   rw[zJ]
   refine⟨.agg [.sc (.int .i64 14),.sc (.string ⟨#[]⟩),.sc (.int .i64 0),.sc (.int .i64 x.pos),.slice .full 0 [],.slice .full 6 [.agg (zy x),zH w]],?_,?_⟩
   ·unfold zy
    simp only[go_sem]
    exact⟨⟨[],by simp⟩,zbr (t:=[]) (XC _ x w),.inl rfl⟩
   unfold zy
   simp only[go_sem,zw,zt,zr,zp,zq,zE,zF,zu,zg]
   exact zjH (t:=[]) hk
theorem zpq {T:List Tk} (hT:T.length≤100000) {pid:Nat} {e pt:PM Nd} (he:DC T pid 24 e) (hc:DC T pid 60 (zfr T e pt)):DC T pid 39 (ze3 T e pt):=by
 intro p r p' h K st hp hk
 unfold ze3 at h
 rw[Option.bind_eq_some_iff] at h
 obtain⟨t,ht,h⟩:=h
 have no:∀ {a b:Tx},isT t a=true→a≠b→isT t b=false:=fun {a b} h1 h2=>by
  cases hb:isT t b with
  | false=>rfl
  | true=>exact absurd ((Z5.1 h1).2.symm.trans (Z5.1 hb).2) h2
 cases b1:isT t [108,101,116] with
 | true =>
  rw[if_pos b1] at h
  exact znV hT he hc ht b1 (no b1 (by decide)) (no b1 (by decide)) h hp hk
 | false =>
 rw[if_neg (by rw[b1];decide)] at h
 cases b2:isT t [102,117,110] with
 | true =>
  rw[if_pos b2] at h
  exact zmS hT he hc ht b1 b2 (no b2 (by decide)) h hp hk
 | false =>
 rw[if_neg (by rw[b2];decide)] at h
 cases b3:isT t [105,102] with
 | true =>
  rw[if_pos b3] at h
  exact zne hT he hc ht b1 b2 b3 h hp hk
 | false =>
 rw[if_neg (by rw[b3];decide)] at h
 exact zng hT he hc ht b1 b2 b3 h hp hk
end Go.Proofs
