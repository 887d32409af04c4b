/- The document's parser: inner. Written by gen_w68.py. -/
import Derived.Test.YtkokccjfpebomaaGreatDoorW67
import Derived.Test.YtkokccjfpebomaaGreatDoorA9
set_option maxHeartbeats 4000000
set_option linter.unusedSimpArgs false
set_option linter.unusedVariables false
set_option maxRecDepth 8000
namespace Go.AL
variable {T:List Tk} {pid:Nat} {st:St} {p q:PS}
theorem Xf (hp:YR T pid p st) {X Y:Ob} {ex:St}:(st.set pid X++ex).set pid Y=st.set pid Y++ex:=by
 have:=zp hp
 rw[List.set_append_left _ _ (by simpa using this),List.set_set]
theorem bg (hp:YR T pid p st) {X a b:Ob} {l:List SV} {k:Nat} (hk:k=st.length+1):S2 T pid k l q (st.set pid X++[a,b])=st.set pid (.cells (qN T q))++[a,.cells l]:=by
 subst hk
 unfold S2
 rw[QA,Xf hp]
 rfl
theorem Y8 {nd:Nd} {K:SV→St→Prop} {aid ver:Nat} {cs:List SV} {ex s:St} (hk:K (zJ nd) (st.set pid (.cells (qN T p)))) (hs:s=st.set pid (.cells (qN T p))++ex) (hid:s[aid]?=some (.arr ver 6 cs)) (hlen:st.length≤aid) (hcs:cs=nd.kids.flatMap zD) (hnm:nd.names=[]) {n:Nat} (hn:n=nd.kids.length) :
  vl (Yv st (wa K)) (.agg (Jo nd (.arr aid ver n))) s:=by
 subst hn
 have hfl:(nd.kids.map zJ).flatMap SV.cells=nd.kids.flatMap zD:=by
  rw[List.flatMap_map];exact congrArg (fun f=>nd.kids.flatMap f) (funext fun c=>zd c)
 refine⟨[.sc (.int .i64 nd.kind),.sc (.string (ba nd.text)),.sc (.int .i64 nd.num),.sc (.int .i64 nd.pos),.slice .full 0 []],aid,ver,_,6,nd.kids.map zJ,cs,rfl,hid,?_,by simp,?_,?_⟩
 ·rw[hcs,hfl]
  refine List.take_of_length_le ?_
  clear hcs hfl hnm hk
  induction nd.kids with
  | nil=>simp
  | cons a l ih=>rw[List.flatMap_cons,List.length_append,List.length_cons];simp only[zD,List.length_cons,List.length_nil] at ih ⊢;omega
 ·intro x hx
  obtain⟨c,_,rfl⟩:=List.mem_map.1 hx
  exact wI c
 ·subst hs
  rw[List.set_append_right _ _ (by simpa using hlen)]
  have:=Q8 (T:=T) (pid:=pid) (m1 :=.full) (m2 :=.imm) (z1:=0) (z2:=6) hk (.inr hnm) (.inl rfl) (ex:=ex.set (aid-(st.set pid (.cells (qN T p))).length) (.arr (ver+1) 6 []))
  unfold Wo at this
  rw[hnm] at this
  exact this
theorem pP {p0:PS} {b:Bool} {ex:St} (hp:YR T pid p0 st) (h:p.flat=b) :
  YR T pid p (st.set pid (.cells [.slice .imm 4 (T.map ZF),.sc (.int .i64 p.pos),.sc (.int .i64 p.deep),.sc (.int .i64 p.bad),.sc (.bool b),.sc (.int .i64 p.e)])++ex):=by
 subst h;exact zA hp
theorem mM {nd:Nd} {K:SV→St→Prop} {b:Bool} (h:p.flat=b) (hk:K (zJ nd) (st.set pid (.cells (qN T p)))) {ex:St} :
  Yv st (wa K) (zJ nd) (st.set pid (.cells [.slice .imm 4 (T.map ZF),.sc (.int .i64 p.pos),.sc (.int .i64 p.deep),.sc (.int .i64 p.bad),.sc (.bool b),.sc (.int .i64 p.e)])++ex):=by
 subst h;exact Qv hk
end Go.AL
namespace Go.Proofs
open Go Go.AL Tryz
theorem BV (T:List Tk) (hT:T.length≤100000) {pid:Nat} {e:PM Nd} (he:DC T pid 24 e) {nd:Nd} {p p':PS} {x:Tx} {rc:Bool} {v:Nd} (h:Vt T e p=some ((x,rc,v),p')) {K:SV→St→Prop} {st:St} {p0:PS} (hp:YR T pid p0 st) {a:Ob} {k:Nat} (hk':k=st.length+1)
  (hk:K (.sc (.bool rc)) (st.set pid (.cells (qN T p'))++[a,.cells (Jo (.mk nd.kind x nd.num nd.pos [] []) (.arr (st.length+2) 1 1)),.arr 1 6 (zD v)])) :
  ACalls prog 37 [.ptr pid 0,.ptr k 0] K (st.set pid (.cells (qN T p))++[a,.cells (Jo nd (.slice .full 0 []))]):=by
 subst hk'
 have hlt:=zp hp
 refine jk T hT (by omega) he h (zA hp) (Zg 1) ?_
 rw[bg hp rfl]
 simpa using hk
theorem yK {T:List Tk} (hT:T.length≤100000) {pid:Nat} {e pt:PM Nd} (he:DC T pid 24 e) (hc:DC T pid 60 (DD T e pt)) {p p':PS} {t:Tk} {r:Nd} (ht:zR T p=some t)
  (b1:isT t [108,101,116]=false) (b2:isT t [102,117,110]=true) (b3:isT t [105,102]=false) (h:((ZA T p).bind fun r=>(JP T 3 r.2).bind fun q=>(qJ T [45,62] q.2).bind fun p1=>(e p1).map fun u=>(zT 6 t.pos q.1 [u.1],u.2))=some (r,p')) {K:SV→St→Prop} {st:St} (hp:YR T pid p st) (hk:K (zJ r) (st.set pid (.cells (qN T p')))):ACalls prog 39 [.ptr pid 0] K st:=by
 refine zM (Yn (X3 (Qt (M:=[1000054]) func39 rfl results39 ntmps39 ?_)))
 simp only[Option.bind_eq_some_iff,Option.map_eq_some_iff,Prod.exists,Prod.mk.injEq] at h
 obtain⟨u,p1,h1,x,p2,h2,p3,h3,w,p4,h4,rfl,rfl⟩:=h
 simp only[go_sem]
 refine YT ht (zF hp) ?_
 simp only[go_sem]
 refine qx ht b1 (zF hp) ?_
 simp only[go_sem]
 refine qx ht b2 (zF hp) ?_
 simp only[go_sem]
 refine qx ht b3 (zF hp) ?_
 simp only[go_sem]
 refine qS hT h1 (zF hp) ?_
 simp only[go_sem,zb hp]
 refine JF hT (by decide) h2 (zA hp) ?_
 simp only[go_sem,zb hp]
 refine Zd hT h3 (zA hp) fun _=>?_
 simp only[go_sem,zb hp]
 refine qO [1000054] [3,6,8,10] [([],st.set pid (.cells (qN T p3))++[.cells qK,.cells [.sc (.int .i64 6),.sc (.string (ba x)),.sc (.int .i64 0),.sc (.int .i64 t.pos),.slice .full 0 [],.slice .full 0 []]]),([3],st.set pid (.cells (qN T p4))++[.cells qK,.cells [.sc (.int .i64 6),.sc (.string (ba x)),.sc (.int .i64 0),.sc (.int .i64 t.pos),.slice .full 0 [],.slice .full 0 []]]),([3,6],st.set pid (.cells (qN T p4))++[.cells qK,.cells [.sc (.int .i64 6),.sc (.string (ba x)),.sc (.int .i64 0),.sc (.int .i64 t.pos),.slice .full 0 [],.slice .full 0 []],.arr 1 6 (zW)]),
  ([3,6,8],st.set pid (.cells (qN T p4))++[.cells qK,.cells [.sc (.int .i64 6),.sc (.string (ba x)),.sc (.int .i64 0),.sc (.int .i64 t.pos),.slice .full 0 [],.slice .full 0 []],.arr 1 6 (zD w)]),([3,6,10],st.set pid (.cells (qN T p4))++[.cells qK,.cells [.sc (.int .i64 6),.sc (.string (ba x)),.sc (.int .i64 0),.sc (.int .i64 t.pos),.slice .full 0 [],.arr (st.length+2) 1 1],.arr 1 6 (zW)]),([3,6,8,10],st.set pid (.cells (qN T p4))++[.cells qK,.cells [.sc (.int .i64 6),.sc (.string (ba x)),.sc (.int .i64 0),.sc (.int .i64 t.pos),.slice .full 0 [],.arr (st.length+2) 1 1],.arr 1 6 (zD w)])]
  [[[],[3]],[[],[3]],[[]],[[]],[[],[3]],[[],[3]],[[3]],[[3,6],[3,6,10]],[[3,6],[3,6,10]],[[3,6],[3,6,8]],[[3,6],[3,6,8]]] mixed rfl rfl rfl rfl rfl ?_
 refine zZ rfl (.ptr (st.length+1) 5) (by simp only[go_sem]) (by simp only[go_sem]) ?_
 refine zZ rfl (.slice .full 0 []) (by simp only[go_sem]) (by simp only[go_sem]) ?_
 refine Zt rfl (.ptr pid 0) (by simp only[go_sem]) ?_
 refine ZG (d:=[3]) rfl rfl (zJ w) rfl ?_ ?_
 ·simp only[go_sem]
  exact he _ _ _ h4 _ _ (zA hp) ⟨rfl,Xf hp⟩
 refine zZ rfl (.sc (.int .i64 ((0:Nat):Int))) (by simp only[go_sem]) (by simp only[go_sem]) ?_
 refine zZ rfl (.slice .full 6 [.agg zW]) ?_ ?_ ?_
 ·simp only[go_sem]
  refine⟨_,?_,rfl⟩
  simp only[go_sem]
  exact⟨⟨[],by simp⟩,ZO _,.inl rfl⟩
 ·simp only[go_sem]
  refine⟨_,?_,rfl⟩
  simp only[go_sem]
  exact⟨⟨[],by simp⟩,ZO _,.inl rfl⟩
 refine ZG (d:=[3,6]) rfl rfl (.arr (st.length+2) 1 1) rfl ?_ ?_
 ·simp only[go_sem,zW]
  exact⟨Tryz.app6d (by omega),rfl⟩
 refine zZ rfl (.aptr (st.length+2) 1 0) ?_ ?_ ?_
 ·simp only[go_sem]
  decide
 ·simp only[go_sem]
  decide
 refine Qk (d:=[3,6,8]) (d2:=[3,6,8,10]) rfl rfl rfl .any rfl ?_ ?_ ?_
 ·simp only[go_sem,zd]
  exact⟨by simp[zD,zW],rfl⟩
 ·simp only[go_sem,zd]
  exact⟨by simp[zD,zW],rfl⟩
 refine zZ rfl (.ptr (st.length+1) 5) (by simp only[go_sem]) (by simp only[go_sem]) ?_
 refine Qk (d:=[3,6,10]) (d2:=[3,6,8,10]) rfl rfl rfl .any rfl ?_ ?_ ?_
 ·simp only[go_sem]
 ·simp only[go_sem]
 refine Qb ?_
 simp only[go_sem]
 refine⟨by decide,Y8 (nd:=zT 6 t.pos x [w]) (aid:=st.length+2) hk rfl ?_ (by omega) rfl rfl rfl⟩
 exact (Zg 2).trans rfl
theorem yT {T:List Tk} (hT:T.length≤100000) {pid:Nat} {e pt:PM Nd} (he:DC T pid 24 e) (hc:DC T pid 60 (DD T e pt)) {p p':PS} {t:Tk} {r:Nd} (ht:zR T p=some t)
  (b1:isT t [108,101,116]=false) (b2:isT t [102,117,110]=false) (b3:isT t [105,102]=true) (h:((ZA T p).bind fun r=>(e r.2).bind fun c=>(qJ T [116,104,101,110] c.2).bind fun p1=>(e p1).bind fun a=>(qJ T [101,108,115,101] a.2).bind fun p2=>(e p2).map fun b=>(zT 10 t.pos [] [c.1,a.1,b.1],b.2))=some (r,p')) {K:SV→St→Prop} {st:St} (hp:YR T pid p st) (hk:K (zJ r) (st.set pid (.cells (qN T p')))):ACalls prog 39 [.ptr pid 0] K st:=by
 refine zM (Yn (X3 (Qt (M:=[1000068]) func39 rfl results39 ntmps39 ?_)))
 simp only[Option.bind_eq_some_iff,Option.map_eq_some_iff,Prod.exists,Prod.mk.injEq] at h
 obtain⟨u,p1,h1,x,p2,h2,p3,h3,y,p4,h4,p5,h5,w,p6,h6,rfl,rfl⟩:=h
 simp only[go_sem]
 refine YT ht (zF hp) ?_
 simp only[go_sem]
 refine qx ht b1 (zF hp) ?_
 simp only[go_sem]
 refine qx ht b2 (zF hp) ?_
 simp only[go_sem]
 refine qx ht b3 (zF hp) ?_
 simp only[go_sem]
 refine qS hT h1 (zF hp) ?_
 simp only[go_sem,zb hp]
 refine qO [1000068] [3,6,8,10] [([],st.set pid (.cells (qN T p1))++[.cells qK,.cells [.sc (.int .i64 10),.sc (.string ⟨#[]⟩),.sc (.int .i64 0),.sc (.int .i64 t.pos),.slice .full 0 [],.slice .full 0 []]]),([3],st.set pid (.cells (qN T p2))++[.cells qK,.cells [.sc (.int .i64 10),.sc (.string ⟨#[]⟩),.sc (.int .i64 0),.sc (.int .i64 t.pos),.slice .full 0 [],.slice .full 0 []]]),([3,6],st.set pid (.cells (qN T p2))++[.cells qK,.cells [.sc (.int .i64 10),.sc (.string ⟨#[]⟩),.sc (.int .i64 0),.sc (.int .i64 t.pos),.slice .full 0 [],.slice .full 0 []],.arr 1 6 (zW)]),
  ([3,6,8],st.set pid (.cells (qN T p2))++[.cells qK,.cells [.sc (.int .i64 10),.sc (.string ⟨#[]⟩),.sc (.int .i64 0),.sc (.int .i64 t.pos),.slice .full 0 [],.slice .full 0 []],.arr 1 6 (zD x)]),([3,6,10],st.set pid (.cells (qN T p2))++[.cells qK,.cells [.sc (.int .i64 10),.sc (.string ⟨#[]⟩),.sc (.int .i64 0),.sc (.int .i64 t.pos),.slice .full 0 [],.arr (st.length+2) 1 1],.arr 1 6 (zW)]),([3,6,8,10],st.set pid (.cells (qN T p2))++[.cells qK,.cells [.sc (.int .i64 10),.sc (.string ⟨#[]⟩),.sc (.int .i64 0),.sc (.int .i64 t.pos),.slice .full 0 [],.arr (st.length+2) 1 1],.arr 1 6 (zD x)])]
  [[[],[3]],[[],[3]],[[]],[[]],[[],[3]],[[],[3]],[[3]],[[3,6],[3,6,10]],[[3,6],[3,6,10]],[[3,6],[3,6,8]],[[3,6],[3,6,8]]] mixed rfl rfl rfl rfl rfl ?_
 refine zZ rfl (.ptr (st.length+1) 5) (by simp only[go_sem]) (by simp only[go_sem]) ?_
 refine zZ rfl (.slice .full 0 []) (by simp only[go_sem]) (by simp only[go_sem]) ?_
 refine Zt rfl (.ptr pid 0) (by simp only[go_sem]) ?_
 refine ZG (d:=[3]) rfl rfl (zJ x) rfl ?_ ?_
 ·simp only[go_sem]
  exact he _ _ _ h2 _ _ (zA hp) ⟨rfl,Xf hp⟩
 refine zZ rfl (.sc (.int .i64 ((0:Nat):Int))) (by simp only[go_sem]) (by simp only[go_sem]) ?_
 refine zZ rfl (.slice .full 6 [.agg zW]) ?_ ?_ ?_
 ·simp only[go_sem]
  refine⟨_,?_,rfl⟩
  simp only[go_sem]
  exact⟨⟨[],by simp⟩,ZO _,.inl rfl⟩
 ·simp only[go_sem]
  refine⟨_,?_,rfl⟩
  simp only[go_sem]
  exact⟨⟨[],by simp⟩,ZO _,.inl rfl⟩
 refine ZG (d:=[3,6]) rfl rfl (.arr (st.length+2) 1 1) rfl ?_ ?_
 ·simp only[go_sem,zW]
  exact⟨Tryz.app6d (by omega),rfl⟩
 refine zZ rfl (.aptr (st.length+2) 1 0) ?_ ?_ ?_
 ·simp only[go_sem]
  decide
 ·simp only[go_sem]
  decide
 refine Qk (d:=[3,6,8]) (d2:=[3,6,8,10]) rfl rfl rfl .any rfl ?_ ?_ ?_
 ·simp only[go_sem,zd]
  exact⟨by simp[zD,zW],rfl⟩
 ·simp only[go_sem,zd]
  exact⟨by simp[zD,zW],rfl⟩
 refine zZ rfl (.ptr (st.length+1) 5) (by simp only[go_sem]) (by simp only[go_sem]) ?_
 refine Qk (d:=[3,6,10]) (d2:=[3,6,8,10]) rfl rfl rfl .any rfl ?_ ?_ ?_
 ·simp only[go_sem]
 ·simp only[go_sem]
 refine Qb ?_
 simp only[go_sem]
 first | (unfold zl;simp only[ze,zc,zq,List.set_cons_succ,List.set_cons_zero,List.getD_cons_succ,List.getD_cons_zero]) | skip
 refine Zd hT h3 (zA hp) fun _=>?_
 simp only[go_sem,zb hp]
 refine qO [1000068] [3,6,8,10] [([],st.set pid (.cells (qN T p3))++[.cells qK,.cells [.sc (.int .i64 10),.sc (.string ⟨#[]⟩),.sc (.int .i64 0),.sc (.int .i64 t.pos),.slice .full 0 [],.arr (st.length+2) 1 1],.arr 1 6 (zD x)]),([3],st.set pid (.cells (qN T p4))++[.cells qK,.cells [.sc (.int .i64 10),.sc (.string ⟨#[]⟩),.sc (.int .i64 0),.sc (.int .i64 t.pos),.slice .full 0 [],.arr (st.length+2) 1 1],.arr 1 6 (zD x)]),([3,6],st.set pid (.cells (qN T p4))++[.cells qK,.cells [.sc (.int .i64 10),.sc (.string ⟨#[]⟩),.sc (.int .i64 0),.sc (.int .i64 t.pos),.slice .full 0 [],.arr (st.length+2) 1 1],.arr 2 6 (zD x++zW)]),
  ([3,6,8],st.set pid (.cells (qN T p4))++[.cells qK,.cells [.sc (.int .i64 10),.sc (.string ⟨#[]⟩),.sc (.int .i64 0),.sc (.int .i64 t.pos),.slice .full 0 [],.arr (st.length+2) 1 1],.arr 2 6 (zD x++zD y)]),([3,6,10],st.set pid (.cells (qN T p4))++[.cells qK,.cells [.sc (.int .i64 10),.sc (.string ⟨#[]⟩),.sc (.int .i64 0),.sc (.int .i64 t.pos),.slice .full 0 [],.arr (st.length+2) 2 2],.arr 2 6 (zD x++zW)]),([3,6,8,10],st.set pid (.cells (qN T p4))++[.cells qK,.cells [.sc (.int .i64 10),.sc (.string ⟨#[]⟩),.sc (.int .i64 0),.sc (.int .i64 t.pos),.slice .full 0 [],.arr (st.length+2) 2 2],.arr 2 6 (zD x++zD y)])]
  [[[],[3]],[[],[3]],[[]],[[]],[[],[3]],[[],[3]],[[3]],[[3,6],[3,6,10]],[[3,6],[3,6,10]],[[3,6],[3,6,8]],[[3,6],[3,6,8]]] mixed rfl rfl rfl rfl rfl ?_
 refine zZ rfl (.ptr (st.length+1) 5) (by simp only[go_sem]) (by simp only[go_sem]) ?_
 refine zZ rfl (.arr (st.length+2) 1 1) (by simp only[go_sem]) (by simp only[go_sem]) ?_
 refine Zt rfl (.ptr pid 0) (by simp only[go_sem]) ?_
 refine ZG (d:=[3]) rfl rfl (zJ y) rfl ?_ ?_
 ·simp only[go_sem]
  exact he _ _ _ h4 _ _ (zA hp) ⟨rfl,Xf hp⟩
 refine zZ rfl (.sc (.int .i64 ((1:Nat):Int))) (by simp only[go_sem]) (by simp only[go_sem]) ?_
 refine zZ rfl (.slice .full 6 [.agg zW]) ?_ ?_ ?_
 ·simp only[go_sem]
  refine⟨_,?_,rfl⟩
  simp only[go_sem]
  exact⟨⟨[],by simp⟩,ZO _,.inl rfl⟩
 ·simp only[go_sem]
  refine⟨_,?_,rfl⟩
  simp only[go_sem]
  exact⟨⟨[],by simp⟩,ZO _,.inl rfl⟩
 refine ZG (d:=[3,6]) rfl rfl (.arr (st.length+2) 2 2) rfl ?_ ?_
 ·simp only[go_sem,zW]
  exact⟨Tryz.app6d (by omega),rfl⟩
 refine zZ rfl (.aptr (st.length+2) 2 6) ?_ ?_ ?_
 ·simp only[go_sem]
  decide
 ·simp only[go_sem]
  decide
 refine Qk (d:=[3,6,8]) (d2:=[3,6,8,10]) rfl rfl rfl .any rfl ?_ ?_ ?_
 ·simp only[go_sem,zd]
  exact⟨by simp[zD,zW],rfl⟩
 ·simp only[go_sem,zd]
  exact⟨by simp[zD,zW],rfl⟩
 refine zZ rfl (.ptr (st.length+1) 5) (by simp only[go_sem]) (by simp only[go_sem]) ?_
 refine Qk (d:=[3,6,10]) (d2:=[3,6,8,10]) rfl rfl rfl .any rfl ?_ ?_ ?_
 ·simp only[go_sem]
 ·simp only[go_sem]
 refine Qb ?_
 simp only[go_sem]
 first | (unfold zl;simp only[ze,zc,zq,List.set_cons_succ,List.set_cons_zero,List.getD_cons_succ,List.getD_cons_zero]) | skip
 refine Zd hT h5 (zA hp) fun _=>?_
 simp only[go_sem,zb hp]
 refine qO [1000068] [3,6,8,10] [([],st.set pid (.cells (qN T p5))++[.cells qK,.cells [.sc (.int .i64 10),.sc (.string ⟨#[]⟩),.sc (.int .i64 0),.sc (.int .i64 t.pos),.slice .full 0 [],.arr (st.length+2) 2 2],.arr 2 6 (zD x++zD y)]),([3],st.set pid (.cells (qN T p6))++[.cells qK,.cells [.sc (.int .i64 10),.sc (.string ⟨#[]⟩),.sc (.int .i64 0),.sc (.int .i64 t.pos),.slice .full 0 [],.arr (st.length+2) 2 2],.arr 2 6 (zD x++zD y)]),([3,6],st.set pid (.cells (qN T p6))++[.cells qK,.cells [.sc (.int .i64 10),.sc (.string ⟨#[]⟩),.sc (.int .i64 0),.sc (.int .i64 t.pos),.slice .full 0 [],.arr (st.length+2) 2 2],.arr 3 6 (zD x++zD y++zW)]),
  ([3,6,8],st.set pid (.cells (qN T p6))++[.cells qK,.cells [.sc (.int .i64 10),.sc (.string ⟨#[]⟩),.sc (.int .i64 0),.sc (.int .i64 t.pos),.slice .full 0 [],.arr (st.length+2) 2 2],.arr 3 6 (zD x++zD y++zD w)]),([3,6,10],st.set pid (.cells (qN T p6))++[.cells qK,.cells [.sc (.int .i64 10),.sc (.string ⟨#[]⟩),.sc (.int .i64 0),.sc (.int .i64 t.pos),.slice .full 0 [],.arr (st.length+2) 3 3],.arr 3 6 (zD x++zD y++zW)]),([3,6,8,10],st.set pid (.cells (qN T p6))++[.cells qK,.cells [.sc (.int .i64 10),.sc (.string ⟨#[]⟩),.sc (.int .i64 0),.sc (.int .i64 t.pos),.slice .full 0 [],.arr (st.length+2) 3 3],.arr 3 6 (zD x++zD y++zD w)])]
  [[[],[3]],[[],[3]],[[]],[[]],[[],[3]],[[],[3]],[[3]],[[3,6],[3,6,10]],[[3,6],[3,6,10]],[[3,6],[3,6,8]],[[3,6],[3,6,8]]] mixed rfl rfl rfl rfl rfl ?_
 refine zZ rfl (.ptr (st.length+1) 5) (by simp only[go_sem]) (by simp only[go_sem]) ?_
 refine zZ rfl (.arr (st.length+2) 2 2) (by simp only[go_sem]) (by simp only[go_sem]) ?_
 refine Zt rfl (.ptr pid 0) (by simp only[go_sem]) ?_
 refine ZG (d:=[3]) rfl rfl (zJ w) rfl ?_ ?_
 ·simp only[go_sem]
  exact he _ _ _ h6 _ _ (zA hp) ⟨rfl,Xf hp⟩
 refine zZ rfl (.sc (.int .i64 ((2:Nat):Int))) (by simp only[go_sem]) (by simp only[go_sem]) ?_
 refine zZ rfl (.slice .full 6 [.agg zW]) ?_ ?_ ?_
 ·simp only[go_sem]
  refine⟨_,?_,rfl⟩
  simp only[go_sem]
  exact⟨⟨[],by simp⟩,ZO _,.inl rfl⟩
 ·simp only[go_sem]
  refine⟨_,?_,rfl⟩
  simp only[go_sem]
  exact⟨⟨[],by simp⟩,ZO _,.inl rfl⟩
 refine ZG (d:=[3,6]) rfl rfl (.arr (st.length+2) 3 3) rfl ?_ ?_
 ·simp only[go_sem,zW]
  exact⟨Tryz.app6d (by omega),rfl⟩
 refine zZ rfl (.aptr (st.length+2) 3 12) ?_ ?_ ?_
 ·simp only[go_sem]
  decide
 ·simp only[go_sem]
  decide
 refine Qk (d:=[3,6,8]) (d2:=[3,6,8,10]) rfl rfl rfl .any rfl ?_ ?_ ?_
 ·simp only[go_sem,zd]
  exact⟨by simp[zD,zW],rfl⟩
 ·simp only[go_sem,zd]
  exact⟨by simp[zD,zW],rfl⟩
 refine zZ rfl (.ptr (st.length+1) 5) (by simp only[go_sem]) (by simp only[go_sem]) ?_
 refine Qk (d:=[3,6,10]) (d2:=[3,6,8,10]) rfl rfl rfl .any rfl ?_ ?_ ?_
 ·simp only[go_sem]
 ·simp only[go_sem]
 refine Qb ?_
 simp only[go_sem]
 refine⟨by decide,Y8 (nd:=zT 10 t.pos [] [x,y,w]) (aid:=st.length+2) hk rfl ?_ (by omega) rfl rfl rfl⟩
 exact (Zg 2).trans rfl
theorem xq {T:List Tk} (hT:T.length≤100000) {pid:Nat} {e pt:PM Nd} (he:DC T pid 24 e) (hc:DC T pid 60 (DD T e pt)) {p p':PS} {t:Tk} {r:Nd} (ht:zR T p=some t)
  (b1:isT t [108,101,116]=true) (b2:isT t [102,117,110]=false) (b3:isT t [105,102]=false) (h:((ZA T p).bind fun r=>(Vt T e r.2).bind fun q=>(qJ T [105,110] q.2).bind fun p1=>(e p1).map fun u=>(zT (if q.1.2.1 then 9 else 8) t.pos q.1.1 [q.1.2.2,u.1],u.2))=some (r,p')) {K:SV→St→Prop} {st:St} (hp:YR T pid p st) (hk:K (zJ r) (st.set pid (.cells (qN T p')))):ACalls prog 39 [.ptr pid 0] K st:=by
 refine zM (Yn (X3 (Qt (M:=[]) func39 rfl results39 ntmps39 ?_)))
 simp only[Option.bind_eq_some_iff,Option.map_eq_some_iff,Prod.exists,Prod.mk.injEq] at h
 obtain⟨u,p1,h1,x,rc,v,p2,h2,p3,h3,w,p4,h4,rfl,rfl⟩:=h
 cases rc with
 | true =>
  simp only[go_sem]
  refine YT ht (zF hp) ?_
  simp only[go_sem]
  refine qx ht b1 (zF hp) ?_
  simp only[go_sem]
  refine qx ht b2 (zF hp) ?_
  simp only[go_sem]
  refine qx ht b3 (zF hp) ?_
  simp only[go_sem]
  refine qS hT h1 (zF hp) ?_
  simp only[go_sem,zb hp]
  refine BV T hT he (nd :=.mk 8 [] 0 t.pos [] []) h2 hp rfl ?_
  unfold Jo
  simp only[go_sem,zb hp]
  refine Zd hT h3 (zA hp) fun _=>?_
  simp only[go_sem,zb hp]
  refine qO [] [3,6,8,10] [([],st.set pid (.cells (qN T p3))++[.cells qK,.cells [.sc (.int .i64 9),.sc (.string (ba x)),.sc (.int .i64 0),.sc (.int .i64 t.pos),.slice .full 0 [],.arr (st.length+2) 1 1],.arr 1 6 (zD v)]),([3],st.set pid (.cells (qN T p4))++[.cells qK,.cells [.sc (.int .i64 9),.sc (.string (ba x)),.sc (.int .i64 0),.sc (.int .i64 t.pos),.slice .full 0 [],.arr (st.length+2) 1 1],.arr 1 6 (zD v)]),([3,6],st.set pid (.cells (qN T p4))++[.cells qK,.cells [.sc (.int .i64 9),.sc (.string (ba x)),.sc (.int .i64 0),.sc (.int .i64 t.pos),.slice .full 0 [],.arr (st.length+2) 1 1],.arr 2 6 (zD v++zW)]),
   ([3,6,8],st.set pid (.cells (qN T p4))++[.cells qK,.cells [.sc (.int .i64 9),.sc (.string (ba x)),.sc (.int .i64 0),.sc (.int .i64 t.pos),.slice .full 0 [],.arr (st.length+2) 1 1],.arr 2 6 (zD v++zD w)]),([3,6,10],st.set pid (.cells (qN T p4))++[.cells qK,.cells [.sc (.int .i64 9),.sc (.string (ba x)),.sc (.int .i64 0),.sc (.int .i64 t.pos),.slice .full 0 [],.arr (st.length+2) 2 2],.arr 2 6 (zD v++zW)]),([3,6,8,10],st.set pid (.cells (qN T p4))++[.cells qK,.cells [.sc (.int .i64 9),.sc (.string (ba x)),.sc (.int .i64 0),.sc (.int .i64 t.pos),.slice .full 0 [],.arr (st.length+2) 2 2],.arr 2 6 (zD v++zD w)])]
   [[[],[3]],[[],[3]],[[]],[[]],[[],[3]],[[],[3]],[[3]],[[3,6],[3,6,10]],[[3,6],[3,6,10]],[[3,6],[3,6,8]],[[3,6],[3,6,8]]] mixed rfl rfl rfl rfl rfl ?_
  refine zZ rfl (.ptr (st.length+1) 5) (by simp only[go_sem]) (by simp only[go_sem]) ?_
  refine zZ rfl (.arr (st.length+2) 1 1) (by simp only[go_sem]) (by simp only[go_sem]) ?_
  refine Zt rfl (.ptr pid 0) (by simp only[go_sem]) ?_
  refine ZG (d:=[3]) rfl rfl (zJ w) rfl ?_ ?_
  ·simp only[go_sem]
   exact he _ _ _ h4 _ _ (zA hp) ⟨rfl,Xf hp⟩
  refine zZ rfl (.sc (.int .i64 ((1:Nat):Int))) (by simp only[go_sem]) (by simp only[go_sem]) ?_
  refine zZ rfl (.slice .full 6 [.agg zW]) ?_ ?_ ?_
  ·simp only[go_sem]
   refine⟨_,?_,rfl⟩
   simp only[go_sem]
   exact⟨⟨[],by simp⟩,ZO _,.inl rfl⟩
  ·simp only[go_sem]
   refine⟨_,?_,rfl⟩
   simp only[go_sem]
   exact⟨⟨[],by simp⟩,ZO _,.inl rfl⟩
  refine ZG (d:=[3,6]) rfl rfl (.arr (st.length+2) 2 2) rfl ?_ ?_
  ·simp only[go_sem,zW]
   exact⟨Tryz.app6d (by omega),rfl⟩
  refine zZ rfl (.aptr (st.length+2) 2 6) ?_ ?_ ?_
  ·simp only[go_sem]
   decide
  ·simp only[go_sem]
   decide
  refine Qk (d:=[3,6,8]) (d2:=[3,6,8,10]) rfl rfl rfl .any rfl ?_ ?_ ?_
  ·simp only[go_sem,zd]
   exact⟨by simp[zD,zW],rfl⟩
  ·simp only[go_sem,zd]
   exact⟨by simp[zD,zW],rfl⟩
  refine zZ rfl (.ptr (st.length+1) 5) (by simp only[go_sem]) (by simp only[go_sem]) ?_
  refine Qk (d:=[3,6,10]) (d2:=[3,6,8,10]) rfl rfl rfl .any rfl ?_ ?_ ?_
  ·simp only[go_sem]
  ·simp only[go_sem]
  refine Qb ?_
  simp only[go_sem]
  refine⟨by decide,Y8 (nd:=zT 9 t.pos x [v,w]) (aid:=st.length+2) hk rfl ?_ (by omega) rfl rfl rfl⟩
  exact (Zg 2).trans rfl
 | false =>
  simp only[go_sem]
  refine YT ht (zF hp) ?_
  simp only[go_sem]
  refine qx ht b1 (zF hp) ?_
  simp only[go_sem]
  refine qx ht b2 (zF hp) ?_
  simp only[go_sem]
  refine qx ht b3 (zF hp) ?_
  simp only[go_sem]
  refine qS hT h1 (zF hp) ?_
  simp only[go_sem,zb hp]
  refine BV T hT he (nd :=.mk 8 [] 0 t.pos [] []) h2 hp rfl ?_
  unfold Jo
  simp only[go_sem,zb hp]
  refine Zd hT h3 (zA hp) fun _=>?_
  simp only[go_sem,zb hp]
  refine qO [] [3,6,8,10] [([],st.set pid (.cells (qN T p3))++[.cells qK,.cells [.sc (.int .i64 8),.sc (.string (ba x)),.sc (.int .i64 0),.sc (.int .i64 t.pos),.slice .full 0 [],.arr (st.length+2) 1 1],.arr 1 6 (zD v)]),([3],st.set pid (.cells (qN T p4))++[.cells qK,.cells [.sc (.int .i64 8),.sc (.string (ba x)),.sc (.int .i64 0),.sc (.int .i64 t.pos),.slice .full 0 [],.arr (st.length+2) 1 1],.arr 1 6 (zD v)]),([3,6],st.set pid (.cells (qN T p4))++[.cells qK,.cells [.sc (.int .i64 8),.sc (.string (ba x)),.sc (.int .i64 0),.sc (.int .i64 t.pos),.slice .full 0 [],.arr (st.length+2) 1 1],.arr 2 6 (zD v++zW)]),
   ([3,6,8],st.set pid (.cells (qN T p4))++[.cells qK,.cells [.sc (.int .i64 8),.sc (.string (ba x)),.sc (.int .i64 0),.sc (.int .i64 t.pos),.slice .full 0 [],.arr (st.length+2) 1 1],.arr 2 6 (zD v++zD w)]),([3,6,10],st.set pid (.cells (qN T p4))++[.cells qK,.cells [.sc (.int .i64 8),.sc (.string (ba x)),.sc (.int .i64 0),.sc (.int .i64 t.pos),.slice .full 0 [],.arr (st.length+2) 2 2],.arr 2 6 (zD v++zW)]),([3,6,8,10],st.set pid (.cells (qN T p4))++[.cells qK,.cells [.sc (.int .i64 8),.sc (.string (ba x)),.sc (.int .i64 0),.sc (.int .i64 t.pos),.slice .full 0 [],.arr (st.length+2) 2 2],.arr 2 6 (zD v++zD w)])]
   [[[],[3]],[[],[3]],[[]],[[]],[[],[3]],[[],[3]],[[3]],[[3,6],[3,6,10]],[[3,6],[3,6,10]],[[3,6],[3,6,8]],[[3,6],[3,6,8]]] mixed rfl rfl rfl rfl rfl ?_
  refine zZ rfl (.ptr (st.length+1) 5) (by simp only[go_sem]) (by simp only[go_sem]) ?_
  refine zZ rfl (.arr (st.length+2) 1 1) (by simp only[go_sem]) (by simp only[go_sem]) ?_
  refine Zt rfl (.ptr pid 0) (by simp only[go_sem]) ?_
  refine ZG (d:=[3]) rfl rfl (zJ w) rfl ?_ ?_
  ·simp only[go_sem]
   exact he _ _ _ h4 _ _ (zA hp) ⟨rfl,Xf hp⟩
  refine zZ rfl (.sc (.int .i64 ((1:Nat):Int))) (by simp only[go_sem]) (by simp only[go_sem]) ?_
  refine zZ rfl (.slice .full 6 [.agg zW]) ?_ ?_ ?_
  ·simp only[go_sem]
   refine⟨_,?_,rfl⟩
   simp only[go_sem]
   exact⟨⟨[],by simp⟩,ZO _,.inl rfl⟩
  ·simp only[go_sem]
   refine⟨_,?_,rfl⟩
   simp only[go_sem]
   exact⟨⟨[],by simp⟩,ZO _,.inl rfl⟩
  refine ZG (d:=[3,6]) rfl rfl (.arr (st.length+2) 2 2) rfl ?_ ?_
  ·simp only[go_sem,zW]
   exact⟨Tryz.app6d (by omega),rfl⟩
  refine zZ rfl (.aptr (st.length+2) 2 6) ?_ ?_ ?_
  ·simp only[go_sem]
   decide
  ·simp only[go_sem]
   decide
  refine Qk (d:=[3,6,8]) (d2:=[3,6,8,10]) rfl rfl rfl .any rfl ?_ ?_ ?_
  ·simp only[go_sem,zd]
   exact⟨by simp[zD,zW],rfl⟩
  ·simp only[go_sem,zd]
   exact⟨by simp[zD,zW],rfl⟩
  refine zZ rfl (.ptr (st.length+1) 5) (by simp only[go_sem]) (by simp only[go_sem]) ?_
  refine Qk (d:=[3,6,10]) (d2:=[3,6,8,10]) rfl rfl rfl .any rfl ?_ ?_ ?_
  ·simp only[go_sem]
  ·simp only[go_sem]
  refine Qb ?_
  simp only[go_sem]
  refine⟨by decide,Y8 (nd:=zT 8 t.pos x [v,w]) (aid:=st.length+2) hk rfl ?_ (by omega) rfl rfl rfl⟩
  exact (Zg 2).trans rfl
theorem yE {T:List Tk} (hT:T.length≤100000) {pid:Nat} {e pt:PM Nd} (he:DC T pid 24 e) (hc:DC T pid 60 (DD T e pt)) {p p':PS} {t:Tk} {r:Nd} (ht:zR T p=some t)
  (b1:isT t [108,101,116]=false) (b2:isT t [102,117,110]=false) (b3:isT t [105,102]=false) (h:((DD T e pt p).bind fun r=>(Jn T [59] r.2).bind fun b=>if b∧¬ r.2.flat then (ZA T r.2).bind fun q=>(e q.2).map fun u=>(zT 14 r.1.pos [] [r.1,u.1],u.2) else some (r.1,r.2))=some (r,p')) {K:SV→St→Prop} {st:St} (hp:YR T pid p st) (hk:K (zJ r) (st.set pid (.cells (qN T p')))):ACalls prog 39 [.ptr pid 0] K st:=by
 refine zM (zE [] func39 rfl results39 ntmps39 ?_)
 simp only[Option.bind_eq_some_iff,Prod.exists] at h
 obtain⟨x,p1,h1,b,h2,h⟩:=h
 have y1:=zV (X7 (p':=p1) hp)
 unfold qN at y1
 cases b with
 | false =>
  rw[if_neg (by simp)] at h
  cases h
  simp only[go_sem]
  refine YT ht (zF hp) ?_
  simp only[go_sem]
  refine qx ht b1 (zF hp) ?_
  simp only[go_sem]
  refine qx ht b2 (zF hp) ?_
  simp only[go_sem]
  refine qx ht b3 (zF hp) ?_
  simp only[go_sem]
  refine hc _ _ _ h1 _ _ (zF hp) ?_
  simp only[go_sem,zb hp]
  refine Q2 h2 (zA hp) ?_
  simp only[go_sem,zb hp]
  exact Qv hk
 | true =>
  by_cases hf:p1.flat=true
  ·rw[if_neg (by simp[hf])] at h
   cases h
   simp only[go_sem]
   refine YT ht (zF hp) ?_
   simp only[go_sem]
   refine qx ht b1 (zF hp) ?_
   simp only[go_sem]
   refine qx ht b2 (zF hp) ?_
   simp only[go_sem]
   refine qx ht b3 (zF hp) ?_
   simp only[go_sem]
   refine hc _ _ _ h1 _ _ (zF hp) ?_
   simp only[go_sem,zb hp]
   refine Q2 h2 (zA hp) ?_
   unfold qN
   simp only[go_sem,zb hp,y1.1,y1.2.1,y1.2.2,hf]
   exact mM hf hk
  ·have hf:p1.flat=false:=by simpa using hf
   rw[if_pos ⟨rfl,by simp[hf]⟩] at h
   simp only[Option.bind_eq_some_iff,Option.map_eq_some_iff,Prod.exists,Prod.mk.injEq] at h
   obtain⟨u,p2,h3,w,p3,h4,rfl,rfl⟩:=h
   simp only[go_sem]
   refine YT ht (zF hp) ?_
   simp only[go_sem]
   refine qx ht b1 (zF hp) ?_
   simp only[go_sem]
   refine qx ht b2 (zF hp) ?_
   simp only[go_sem]
   refine qx ht b3 (zF hp) ?_
   simp only[go_sem]
   refine hc _ _ _ h1 _ _ (zF hp) ?_
   simp only[go_sem,zb hp]
   refine Q2 h2 (zA hp) ?_
   unfold qN
   simp only[go_sem,zb hp,y1.1,y1.2.1,y1.2.2,hf]
   first | (unfold zl;simp only[ze,zc,zq,List.set_cons_succ,List.set_cons_zero,List.getD_cons_succ,List.getD_cons_zero]) | skip
   refine qS hT h3 (pP hp hf) ?_
   simp only[go_sem,zb hp]
   refine zP [] [(0,[7]),(0,[7]),(0,[7]),(0,[]),(3,[7]),(0,[]),(0,[]),(1,[8])] mixed rfl ?_
   simp only[go_sem,zy,zu,zw,zt,zr,zG,zH,zx,zh,zd]
   refine⟨_,_,he _ _ _ h4 _ _ (zA hp) ⟨rfl,rfl⟩,?_⟩
   simp only[go_sem,zy,zu,zw,zt,zr,zG,zH,zx,zh,zb hp]
   rw[zL]
   refine⟨.slice .full 6 [.agg (zD x),zJ w],?_,?_⟩
   ·unfold zD
    simp only[go_sem]
    exact⟨⟨[],by simp⟩,X5 _ x w,.inl rfl⟩
   rw[zL]
   refine⟨.agg [.sc (.int .i64 14),.sc (.string ⟨#[]⟩),.sc (.int .i64 0),.sc (.int .i64 x.pos),.slice .full 0 [],.slice .full 6 [.agg (zD x),zJ w]],?_,?_⟩
   ·unfold zD
    simp only[go_sem]
    exact⟨⟨[],by simp⟩,KX (t:=[]) (X5 _ x w),.inl rfl⟩
   unfold zD
   simp only[go_sem,zy,zu,zw,zt,zr,zG,zH,zx,zh]
   exact jq (t:=[]) hk
theorem mv {T:List Tk} (hT:T.length≤100000) {pid:Nat} {e pt:PM Nd} (he:DC T pid 24 e) (hc:DC T pid 60 (DD T e pt)):DC T pid 39 (DU T e pt):=by
 intro p r p' h K st hp hk
 unfold DU at h
 rw[Option.bind_eq_some_iff] at h
 obtain⟨t,ht,h⟩:=h
 have no:∀ {a b:Tx},isT t a=true→a≠b→isT t b=false:=fun {a b} h1 h2=>by
  cases hb:isT t b with
  | false=>rfl
  | true=>exact absurd ((Qi.1 h1).2.symm.trans (Qi.1 hb).2) h2
 cases b1:isT t [108,101,116] with
 | true =>
  rw[if_pos b1] at h
  exact xq hT he hc ht b1 (no b1 (by decide)) (no b1 (by decide)) h hp hk
 | false =>
 rw[if_neg (by rw[b1];decide)] at h
 cases b2:isT t [102,117,110] with
 | true =>
  rw[if_pos b2] at h
  exact yK hT he hc ht b1 b2 (no b2 (by decide)) h hp hk
 | false =>
 rw[if_neg (by rw[b2];decide)] at h
 cases b3:isT t [105,102] with
 | true =>
  rw[if_pos b3] at h
  exact yT hT he hc ht b1 b2 b3 h hp hk
 | false =>
 rw[if_neg (by rw[b3];decide)] at h
 exact yE hT he hc ht b1 b2 b3 h hp hk
end Go.Proofs
