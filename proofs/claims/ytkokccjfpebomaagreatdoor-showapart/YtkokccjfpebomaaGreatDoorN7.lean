/- leaf as a node, atoms, patterns. -/
import Derived.Test.YtkokccjfpebomaaGreatDoorW9
import Derived.Test.YtkokccjfpebomaaGreatDoorW8
set_option maxHeartbeats 4000000
set_option linter.unusedSimpArgs false
set_option linter.unusedVariables false
set_option maxRecDepth 8000
namespace Go.Proofs
open Go Go.AL
def k4:List (Int×Int):=[(1,1),(2,2),(3,4),(4,5)]
def k3:List (Int×Int):=[(1,1),(3,4),(4,5)]
theorem YG {T:List Tk} {kinds:List (Int×Int)} {p p':PS} {r:Nd} (h:X4 T kinds p=some (r,p')):r.names=[]∧r.kids=[]:=by
 unfold X4 at h
 rw[Option.bind_eq_some_iff] at h
 obtain⟨t,_,h⟩:=h
 simp only at h
 split at h
 ·rw[Option.map_eq_some_iff] at h
  obtain⟨_,_,h⟩:=h
  cases h;exact⟨rfl,rfl⟩
 ·rw[Option.map_eq_some_iff] at h
  obtain⟨_,_,h⟩:=h
  cases h;exact⟨rfl,rfl⟩
theorem zuU {n v:Int} {mid:Nat} {kinds:List (Int×Int)} {st:St} {N:St→Prop} (hm:st[mid]?=some (.map (Xj kinds))) (hn:Jv (Xj kinds) (.int .i64 n) (.sc (.int .i64 v))=Xj (kinds++[(n,v)])) :
  q7 Tryz.prog 149 st (.mp mid) (.sc (.int .i64 n)) (.sc (.int .i64 v)) N=N (st.set mid (.map (Xj (kinds++[(n,v)])))):=by
 rw[zsx Tryz.amap149 (Vb hm).2 (zf3 kinds),hn]
theorem YA {n v:Int} {S:St} {a b:Ob} {kinds:List (Int×Int)} {N:St→Prop} {mid:Nat} (hmid:mid=S.length+2) (hn:Jv (Xj kinds) (.int .i64 n) (.sc (.int .i64 v))=Xj (kinds++[(n,v)]))
  (h:N (S++[a,b,.map (Xj (kinds++[(n,v)]))])):q7 Tryz.prog 149 (S++[a,b,.map (Xj kinds)]) (.mp mid) (.sc (.int .i64 n)) (.sc (.int .i64 v)) N:=by
 subst hmid
 rw[zuU (kinds:=kinds) (by simp) hn]
 have:(S++[a,b,.map (Xj kinds)]).set (S.length+2) (.map (Xj (kinds++[(n,v)])))=S++[a,b,.map (Xj (kinds++[(n,v)]))]:=by
  rw[List.set_append_right _ _ (by simp)];simp
 rw[this];exact h
theorem zyQ {S:St} {a b:Ob} {N:St→Prop} {mid:Nat} (hmid:mid=S.length+2) (h:N (S++[a,b,.map (Xj k3)])) :
  q7 Tryz.prog 149 (S++[a,b,.map []]) (.mp mid) (.sc (.int .i64 1)) (.sc (.int .i64 1)) fun x=>q7 Tryz.prog 149 x (.mp mid) (.sc (.int .i64 3)) (.sc (.int .i64 4)) fun x=>q7 Tryz.prog 149 x (.mp mid) (.sc (.int .i64 4)) (.sc (.int .i64 5)) N :=
 YA (kinds:=[]) hmid rfl (YA (kinds:=[(1,1)]) hmid rfl (YA (kinds:=[(1,1),(3,4)]) hmid rfl h))
theorem zy6 {S:St} {a b:Ob} {N:St→Prop} {mid:Nat} (hmid:mid=S.length+2) (h:N (S++[a,b,.map (Xj k4)])) :
  q7 Tryz.prog 149 (S++[a,b,.map []]) (.mp mid) (.sc (.int .i64 1)) (.sc (.int .i64 1)) fun x=>q7 Tryz.prog 149 x (.mp mid) (.sc (.int .i64 2)) (.sc (.int .i64 2)) fun x=>q7 Tryz.prog 149 x (.mp mid) (.sc (.int .i64 3)) (.sc (.int .i64 4)) fun x=>q7 Tryz.prog 149 x (.mp mid) (.sc (.int .i64 4)) (.sc (.int .i64 5)) N :=
 YA (kinds:=[]) hmid rfl (YA (kinds:=[(1,1)]) hmid rfl (YA (kinds:=[(1,1),(2,2)]) hmid rfl (YA (kinds:=[(1,1),(2,2),(3,4)]) hmid rfl h)))
theorem zhc {r:Nd} (h:r.names=[]∧r.kids=[]):ndE r = .agg [.sc (.int .i64 r.kind),.sc (.string (ba r.text)),.sc (.int .i64 r.num),.sc (.int .i64 r.pos),.slice .full 0 [],.slice .full 0 []]:=by
 unfold ndE V5;rw[h.1,h.2];rfl
theorem zql {r:Nd} (h:r.names=[]∧r.kids=[]):SVle (ndE r) (zH r):=zlT (zcY (.inr h.1) (.inr h.2))
theorem zjp {T:List Tk} (hT:T.length≤100000) {pid:Nat} {p p':PS} {r:Nd} {t:Tk} (ht:zX T p=some t) (h1:isT t [95]=false) (h2:isT t [40]=false) (h:X4 T [(1,1),(3,4),(4,5)] p=some (r,p')) {K:SV→St→Prop} {st:St} (hp:V8 T pid p st)
  (hk:K (ndE r) (st.set pid (.cells (ZX T p')))):ACalls Tryz.prog 172 [.ptr pid 0] K st:=by
 refine ZT [] Tryz.func172 rfl Tryz.results172 Tryz.ntmps172 ?_
 have hm:Xz T [95] p=some (false,p):=by
  unfold Xz Y1;rw[ht];simp[h1]
 have hr:=YG h
 simp only[go_sem]
 refine qp ht (zG hp) ?_
 simp only[go_sem]
 refine Yv hT hm (zG hp) ?_
 simp only[go_sem,za hp]
 first | (unfold zk;simp only[zd,zb,zo,List.set_cons_succ,List.set_cons_zero,List.getD_cons_succ,List.getD_cons_zero]) | skip
 refine Zs ht (zl hp) ?_
 simp only[go_sem,za hp,h2]
 refine zyQ (by simp) ?_
 refine zoq hT h (zl hp) (by simp;rfl) ?_
 rw[zhc hr] at hk ⊢
 simp only[go_sem,za hp]
 cases r
 exact zd8 hk
theorem zaG {T:List Tk} (hT:T.length≤100000) {pid:Nat} {e:PM Nd} (he:HC T pid 170 e):HC T pid 172 (Y0 T e):=by
 intro p r p' h K st hp hk
 unfold Y0 at h
 simp only[Option.bind_eq_some_iff,Prod.exists] at h
 obtain⟨t,ht,b,p1,hm,h⟩:=h
 have hm2:=hm
 unfold Xz Y1 at hm2
 rw[ht] at hm2
 simp only[Option.map_some,Option.bind_some] at hm2
 cases b with
 | true =>
  simp only[if_true,Option.some.injEq,Prod.mk.injEq] at h
  obtain⟨rfl,rfl⟩:=h
  refine zK (zC [] Tryz.func172 rfl Tryz.results172 Tryz.ntmps172 ?_)
  simp only[go_sem]
  refine qp ht (zG hp) ?_
  simp only[go_sem]
  refine Yv hT hm (zG hp) ?_
  simp only[go_sem,za hp]
  first | (unfold zk;simp only[zd,zb,zo,List.set_cons_succ,List.set_cons_zero,List.getD_cons_succ,List.getD_cons_zero]) | skip
  refine Q7 rfl rfl rfl rfl (fun _=>rfl) (qf (.inr rfl) (fun x hx=>by cases hx)) ?_
  unfold QM
  simp only[go_sem,za hp]
  exact XT (z1:=0) (z2:=0) (m1 :=.full) (m2 :=.full) (nd:=zR 24 t.pos [] []) hk (.inr rfl) (.inr rfl)
 | false =>
  have hb:isT t [95]=false:=by
   cases h9:isT t [95] with
   | false=>rfl
   | true=>rw[h9] at hm2;simp only[if_true,Option.map_eq_some_iff] at hm2;obtain⟨_,_,h⟩:=hm2;cases h
  rw[hb] at hm2
  simp only[Bool.false_eq_true,if_false,Option.some.injEq,Prod.mk.injEq,true_and] at hm2
  subst hm2
  simp only[Bool.false_eq_true,if_false,Option.bind_eq_some_iff] at h
  obtain⟨b2,h2,h⟩:=h
  unfold Y1 at h2
  rw[ht] at h2
  simp only[Option.map_some,Option.some.injEq] at h2
  cases b2 with
  | false =>
   simp only[Bool.false_eq_true,if_false] at h
   refine zK (zjp hT ht hb h2 h hp ⟨_,zql (YG h),hk⟩)
  | true =>
   rw[if_pos rfl] at h
   refine zK (zC [] Tryz.func172 rfl Tryz.results172 Tryz.ntmps172 ?_)
   simp only[go_sem]
   refine qp ht (zG hp) ?_
   simp only[go_sem]
   refine Yv hT hm (zG hp) ?_
   simp only[go_sem,za hp]
   first | (unfold zk;simp only[zd,zb,zo,List.set_cons_succ,List.set_cons_zero,List.getD_cons_succ,List.getD_cons_zero]) | skip
   refine Zs ht (zl hp) ?_
   simp only[go_sem,za hp,h2]
   first | (unfold zk;simp only[zd,zb,zo,List.set_cons_succ,List.set_cons_zero,List.getD_cons_succ,List.getD_cons_zero]) | skip
   refine zmq hT he rfl h (zl hp) ?_
   simp only[go_sem,za hp]
   exact Zk hk
end Go.Proofs
namespace Go.Proofs
open Go Go.AL
theorem zlN {T:List Tk} (hT:T.length≤100000) {pid:Nat} {p p':PS} {r:Nd} {t:Tk} (ht:zX T p=some t) (b1:isT t [109,97,116,99,104]=false) (b2:isT t [116,114,121]=false) (b3:isT t [114,101,116,114,121]=false) (b4:isT t [40]=false)
  (h:X4 T [(1,1),(2,2),(3,4),(4,5)] p=some (r,p')) {K:SV→St→Prop} {st:St} (hp:V8 T pid p st)
  (hk:K (ndE r) (st.set pid (.cells (ZX T p')))):ACalls Tryz.prog 152 [.ptr pid 0] K st:=by
 refine ZT [] Tryz.func152 rfl Tryz.results152 Tryz.ntmps152 ?_
 have hr:=YG h
 simp only[go_sem]
 refine qp ht (zG hp) ?_
 simp only[go_sem]
 refine Zs ht (zG hp) ?_
 simp only[go_sem,b1]
 first | (unfold zk;simp only[zd,zb,zo,List.set_cons_succ,List.set_cons_zero,List.getD_cons_succ,List.getD_cons_zero]) | skip
 refine Zs ht (zG hp) ?_
 simp only[go_sem,b2]
 first | (unfold zk;simp only[zd,zb,zo,List.set_cons_succ,List.set_cons_zero,List.getD_cons_succ,List.getD_cons_zero]) | skip
 refine Zs ht (zG hp) ?_
 simp only[go_sem,b3]
 first | (unfold zk;simp only[zd,zb,zo,List.set_cons_succ,List.set_cons_zero,List.getD_cons_succ,List.getD_cons_zero]) | skip
 refine Zs ht (zG hp) ?_
 simp only[go_sem,b4]
 refine zy6 (by simp) ?_
 refine zoq hT h (zG hp) (by simp;rfl) ?_
 rw[zhc hr] at hk ⊢
 simp only[go_sem,za hp]
 cases r
 exact zd8 hk
theorem zcM {T:List Tk} (hT:T.length≤100000) {pid:Nat} {e pt:PM Nd} (he:HC T pid 79 e) (hpt:HC T pid 170 pt):HC T pid 152 (YU T e pt):=by
 intro p r p' h K st hp hk
 unfold YU at h
 rw[Option.bind_eq_some_iff] at h
 obtain⟨t,ht,h⟩:=h
 cases b1:isT t [109,97,116,99,104] with
 | true =>
  rw[b1,if_pos rfl] at h
  refine zK (zC [] Tryz.func152 rfl Tryz.results152 Tryz.ntmps152 ?_)
  simp only[go_sem]
  refine qp ht (zG hp) ?_
  simp only[go_sem]
  refine Zs ht (zG hp) ?_
  simp only[go_sem,b1]
  first | (unfold zk;simp only[zd,zb,zo,List.set_cons_succ,List.set_cons_zero,List.getD_cons_succ,List.getD_cons_zero]) | skip
  refine zsE hT he hpt _ _ _ h _ _ (zG hp) ?_
  simp only[go_sem,za hp]
  exact Zk hk
 | false =>
 rw[b1,if_neg (by decide)] at h
 cases b2:isT t [116,114,121] with
 | true =>
  rw[b2,if_pos rfl] at h
  refine zK (zC [] Tryz.func152 rfl Tryz.results152 Tryz.ntmps152 ?_)
  simp only[go_sem]
  refine qp ht (zG hp) ?_
  simp only[go_sem]
  refine Zs ht (zG hp) ?_
  simp only[go_sem,b1]
  first | (unfold zk;simp only[zd,zb,zo,List.set_cons_succ,List.set_cons_zero,List.getD_cons_succ,List.getD_cons_zero]) | skip
  refine Zs ht (zG hp) ?_
  simp only[go_sem,b2]
  first | (unfold zk;simp only[zd,zb,zo,List.set_cons_succ,List.set_cons_zero,List.getD_cons_succ,List.getD_cons_zero]) | skip
  refine zyV hT he _ _ _ h _ _ (zG hp) ?_
  simp only[go_sem,za hp]
  exact Zk hk
 | false =>
 rw[b2,if_neg (by decide)] at h
 cases b3:isT t [114,101,116,114,121] with
 | true =>
  rw[b3,if_pos rfl] at h
  rw[Option.map_eq_some_iff] at h
  obtain⟨⟨t1,p1⟩,h1,h⟩:=h
  cases h
  refine zK (zC [] Tryz.func152 rfl Tryz.results152 Tryz.ntmps152 ?_)
  simp only[go_sem]
  refine qp ht (zG hp) ?_
  simp only[go_sem]
  refine Zs ht (zG hp) ?_
  simp only[go_sem,b1]
  first | (unfold zk;simp only[zd,zb,zo,List.set_cons_succ,List.set_cons_zero,List.getD_cons_succ,List.getD_cons_zero]) | skip
  refine Zs ht (zG hp) ?_
  simp only[go_sem,b2]
  first | (unfold zk;simp only[zd,zb,zo,List.set_cons_succ,List.set_cons_zero,List.getD_cons_succ,List.getD_cons_zero]) | skip
  refine Zs ht (zG hp) ?_
  simp only[go_sem,b3]
  first | (unfold zk;simp only[zd,zb,zo,List.set_cons_succ,List.set_cons_zero,List.getD_cons_succ,List.getD_cons_zero]) | skip
  refine QC hT h1 (zG hp) ?_
  simp only[go_sem,za hp]
  first | (unfold zk;simp only[zd,zb,zo,List.set_cons_succ,List.set_cons_zero,List.getD_cons_succ,List.getD_cons_zero]) | skip
  refine Q7 rfl rfl rfl rfl (fun _=>rfl) (qf (.inr rfl) (fun x hx=>by cases hx)) ?_
  unfold QM
  simp only[go_sem,za hp]
  exact XT (z1:=0) (z2:=0) (m1 :=.full) (m2 :=.full) (nd:=zR 19 t.pos [] []) hk (.inr rfl) (.inr rfl)
 | false =>
 rw[b3,if_neg (by decide)] at h
 cases b4:isT t [40] with
 | false =>
  rw[b4,if_neg (by decide)] at h
  exact zK (zlN hT ht b1 b2 b3 b4 h hp ⟨_,zql (YG h),hk⟩)
 | true =>
  rw[b4,if_pos rfl] at h
  simp only[Option.bind_eq_some_iff,Prod.exists] at h
  obtain⟨t1,p1,h1,b5,p2,h2,h⟩:=h
  cases b5 with
  | true =>
   simp only[if_true,Option.some.injEq,Prod.mk.injEq] at h
   obtain⟨rfl,rfl⟩:=h
   refine zK (zC [] Tryz.func152 rfl Tryz.results152 Tryz.ntmps152 ?_)
   simp only[go_sem]
   refine qp ht (zG hp) ?_
   simp only[go_sem]
   refine Zs ht (zG hp) ?_
   simp only[go_sem,b1]
   first | (unfold zk;simp only[zd,zb,zo,List.set_cons_succ,List.set_cons_zero,List.getD_cons_succ,List.getD_cons_zero]) | skip
   refine Zs ht (zG hp) ?_
   simp only[go_sem,b2]
   first | (unfold zk;simp only[zd,zb,zo,List.set_cons_succ,List.set_cons_zero,List.getD_cons_succ,List.getD_cons_zero]) | skip
   refine Zs ht (zG hp) ?_
   simp only[go_sem,b3]
   first | (unfold zk;simp only[zd,zb,zo,List.set_cons_succ,List.set_cons_zero,List.getD_cons_succ,List.getD_cons_zero]) | skip
   refine Zs ht (zG hp) ?_
   simp only[go_sem,b4]
   first | (unfold zk;simp only[zd,zb,zo,List.set_cons_succ,List.set_cons_zero,List.getD_cons_succ,List.getD_cons_zero]) | skip
   refine QC hT h1 (zG hp) ?_
   simp only[go_sem,za hp]
   first | (unfold zk;simp only[zd,zb,zo,List.set_cons_succ,List.set_cons_zero,List.getD_cons_succ,List.getD_cons_zero]) | skip
   refine Yv hT h2 (zl hp) ?_
   simp only[go_sem,za hp]
   first | (unfold zk;simp only[zd,zb,zo,List.set_cons_succ,List.set_cons_zero,List.getD_cons_succ,List.getD_cons_zero]) | skip
   refine Q7 rfl rfl rfl rfl (fun _=>rfl) (qf (.inr rfl) (fun x hx=>by cases hx)) ?_
   unfold QM
   simp only[go_sem,za hp]
   exact XT (z1:=0) (z2:=0) (m1 :=.full) (m2 :=.full) (nd:=zR 3 t.pos [] []) hk (.inr rfl) (.inr rfl)
  | false =>
   simp only[Bool.false_eq_true,if_false,Option.bind_eq_some_iff,Option.map_eq_some_iff,Prod.exists,Prod.mk.injEq] at h
   obtain⟨x,p3,h3,p4,h4,rfl,rfl⟩:=h
   refine zK (zC [] Tryz.func152 rfl Tryz.results152 Tryz.ntmps152 ?_)
   simp only[go_sem]
   refine qp ht (zG hp) ?_
   simp only[go_sem]
   refine Zs ht (zG hp) ?_
   simp only[go_sem,b1]
   first | (unfold zk;simp only[zd,zb,zo,List.set_cons_succ,List.set_cons_zero,List.getD_cons_succ,List.getD_cons_zero]) | skip
   refine Zs ht (zG hp) ?_
   simp only[go_sem,b2]
   first | (unfold zk;simp only[zd,zb,zo,List.set_cons_succ,List.set_cons_zero,List.getD_cons_succ,List.getD_cons_zero]) | skip
   refine Zs ht (zG hp) ?_
   simp only[go_sem,b3]
   first | (unfold zk;simp only[zd,zb,zo,List.set_cons_succ,List.set_cons_zero,List.getD_cons_succ,List.getD_cons_zero]) | skip
   refine Zs ht (zG hp) ?_
   simp only[go_sem,b4]
   first | (unfold zk;simp only[zd,zb,zo,List.set_cons_succ,List.set_cons_zero,List.getD_cons_succ,List.getD_cons_zero]) | skip
   refine QC hT h1 (zG hp) ?_
   simp only[go_sem,za hp]
   first | (unfold zk;simp only[zd,zb,zo,List.set_cons_succ,List.set_cons_zero,List.getD_cons_succ,List.getD_cons_zero]) | skip
   refine Yv hT h2 (zl hp) ?_
   simp only[go_sem,za hp]
   first | (unfold zk;simp only[zd,zb,zo,List.set_cons_succ,List.set_cons_zero,List.getD_cons_succ,List.getD_cons_zero]) | skip
   refine VF hT he _ _ _ h3 _ _ (zl hp) ?_
   simp only[go_sem,za hp]
   first | (unfold zk;simp only[zd,zb,zo,List.set_cons_succ,List.set_cons_zero,List.getD_cons_succ,List.getD_cons_zero]) | skip
   refine ZQ hT h4 (zl hp) fun _=>?_
   simp only[go_sem,za hp]
   exact Zk hk
end Go.Proofs
