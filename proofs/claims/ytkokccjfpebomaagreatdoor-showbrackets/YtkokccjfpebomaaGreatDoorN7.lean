/- leaf as a node, atoms, patterns. -/
import Derived.Test.YtkokccjfpebomaaGreatDoorW9
import Derived.Test.YtkokccjfpebomaaGreatDoorW8
set_option maxHeartbeats 4000000
set_option linter.unusedSimpArgs false
set_option linter.unusedVariables false
set_option maxRecDepth 8000
namespace Go.Proofs
open Go Go.AL Tryz
def k4:List (Int×Int):=[(1,1),(2,2),(3,4),(4,5)]
def k3:List (Int×Int):=[(1,1),(3,4),(4,5)]
theorem Y7 {T:List Tk} {kinds:List (Int×Int)} {p p':PS} {r:Nd} (h:Xs T kinds p=some (r,p')):r.names=[]∧r.kids=[]:=by
 unfold Xs at h
 rw[Option.bind_eq_some_iff] at h
 obtain⟨t,_,h⟩:=h
 simp only at h
 split at h
 ·rw[Option.map_eq_some_iff] at h
  obtain⟨_,_,h⟩:=h
  cases h;exact⟨rfl,rfl⟩
 ·rw[Option.map_eq_some_iff] at h
  obtain⟨_,_,h⟩:=h
  cases h;exact⟨rfl,rfl⟩
theorem fz {n v:Int} {mid:Nat} {kinds:List (Int×Int)} {st:St} {N:St→Prop} (hm:st[mid]?=some (.map (XC kinds))) (hn:JZ (XC kinds) (.int .i64 n) (.sc (.int .i64 v))=XC (kinds++[(n,v)])) :
  Zi prog 149 st (.mp mid) (.sc (.int .i64 n)) (.sc (.int .i64 v)) N=N (st.set mid (.map (XC (kinds++[(n,v)])))):=by
 rw[dt Tryz.amap149 (VQ hm).2 (Bz kinds),hn]
theorem YZ {n v:Int} {S:St} {a b:Ob} {kinds:List (Int×Int)} {N:St→Prop} {mid:Nat} (hmid:mid=S.length+2) (hn:JZ (XC kinds) (.int .i64 n) (.sc (.int .i64 v))=XC (kinds++[(n,v)]))
  (h:N (S++[a,b,.map (XC (kinds++[(n,v)]))])):Zi prog 149 (S++[a,b,.map (XC kinds)]) (.mp mid) (.sc (.int .i64 n)) (.sc (.int .i64 v)) N:=by
 subst hmid
 rw[fz (kinds:=kinds) (by simp) hn]
 have:(S++[a,b,.map (XC kinds)]).set (S.length+2) (.map (XC (kinds++[(n,v)])))=S++[a,b,.map (XC (kinds++[(n,v)]))]:=by
  rw[List.set_append_right _ _ (by simp)];simp
 rw[this];exact h
theorem sB {S:St} {a b:Ob} {N:St→Prop} {mid:Nat} (hmid:mid=S.length+2) (h:N (S++[a,b,.map (XC k3)])) :
  Zi prog 149 (S++[a,b,.map []]) (.mp mid) (.sc (.int .i64 1)) (.sc (.int .i64 1)) fun x=>Zi prog 149 x (.mp mid) (.sc (.int .i64 3)) (.sc (.int .i64 4)) fun x=>Zi prog 149 x (.mp mid) (.sc (.int .i64 4)) (.sc (.int .i64 5)) N :=
 YZ (kinds:=[]) hmid rfl (YZ (kinds:=[(1,1)]) hmid rfl (YZ (kinds:=[(1,1),(3,4)]) hmid rfl h))
theorem rB {S:St} {a b:Ob} {N:St→Prop} {mid:Nat} (hmid:mid=S.length+2) (h:N (S++[a,b,.map (XC k4)])) :
  Zi prog 149 (S++[a,b,.map []]) (.mp mid) (.sc (.int .i64 1)) (.sc (.int .i64 1)) fun x=>Zi prog 149 x (.mp mid) (.sc (.int .i64 2)) (.sc (.int .i64 2)) fun x=>Zi prog 149 x (.mp mid) (.sc (.int .i64 3)) (.sc (.int .i64 4)) fun x=>Zi prog 149 x (.mp mid) (.sc (.int .i64 4)) (.sc (.int .i64 5)) N :=
 YZ (kinds:=[]) hmid rfl (YZ (kinds:=[(1,1)]) hmid rfl (YZ (kinds:=[(1,1),(2,2)]) hmid rfl (YZ (kinds:=[(1,1),(2,2),(3,4)]) hmid rfl h)))
theorem Fy {r:Nd} (h:r.names=[]∧r.kids=[]):yv r = .agg [.sc (.int .i64 r.kind),.sc (.string (ba r.text)),.sc (.int .i64 r.num),.sc (.int .i64 r.pos),.slice .full 0 [],.slice .full 0 []]:=by
 unfold yv Wo;rw[h.1,h.2];rfl
theorem mK {r:Nd} (h:r.names=[]∧r.kids=[]):SVle (yv r) (zJ r):=uN (Hi (.inr h.1) (.inr h.2))
theorem LX {T:List Tk} (hT:T.length≤100000) {pid:Nat} {p p':PS} {r:Nd} {t:Tk} (ht:zR T p=some t) (h1:isT t [95]=false) (h2:isT t [40]=false) (h:Xs T [(1,1),(3,4),(4,5)] p=some (r,p')) {K:SV→St→Prop} {st:St} (hp:Wz T pid p st)
  (hk:K (yv r) (st.set pid (.cells (Z9 T p')))):ACalls prog 172 [.ptr pid 0] K st:=by
 refine Z3 [] func172 rfl results172 ntmps172 ?_
 have hm:Xx T [95] p=some (false,p):=by
  unfold Xx Jn;rw[ht];simp[h1]
 have hr:=Y7 h
 simp only[go_sem]
 refine qv ht (zI hp) ?_
 simp only[go_sem]
 refine YQ hT hm (zI hp) ?_
 simp only[go_sem,zb hp]
 first | (unfold zl;simp only[ze,zc,zq,List.set_cons_succ,List.set_cons_zero,List.getD_cons_succ,List.getD_cons_zero]) | skip
 refine ZB ht (zm hp) ?_
 simp only[go_sem,zb hp,h2]
 refine sB (by simp) ?_
 refine gi hT h (zm hp) (by simp;rfl) ?_
 rw[Fy hr] at hk ⊢
 simp only[go_sem,zb hp]
 cases r
 exact ER hk
theorem Kk {T:List Tk} (hT:T.length≤100000) {pid:Nat} {e:PM Nd} (he:HC T pid 170 e):HC T pid 172 (Yf T e):=by
 intro p r p' h K st hp hk
 unfold Yf at h
 simp only[Option.bind_eq_some_iff,Prod.exists] at h
 obtain⟨t,ht,b,p1,hm,h⟩:=h
 have hm2:=hm
 unfold Xx Jn at hm2
 rw[ht] at hm2
 simp only[Option.map_some,Option.bind_some] at hm2
 cases b with
 | true =>
  simp only[if_true,Option.some.injEq,Prod.mk.injEq] at h
  obtain⟨rfl,rfl⟩:=h
  refine zM (zE [] func172 rfl results172 ntmps172 ?_)
  simp only[go_sem]
  refine qv ht (zI hp) ?_
  simp only[go_sem]
  refine YQ hT hm (zI hp) ?_
  simp only[go_sem,zb hp]
  first | (unfold zl;simp only[ze,zc,zq,List.set_cons_succ,List.set_cons_zero,List.getD_cons_succ,List.getD_cons_zero]) | skip
  refine Xl rfl rfl rfl rfl (fun _=>rfl) (ql (.inr rfl) (fun x hx=>by cases hx)) ?_
  unfold Q1
  simp only[go_sem,zb hp]
  exact Ym (z1:=0) (z2:=0) (m1 :=.full) (m2 :=.full) (nd:=zT 24 t.pos [] []) hk (.inr rfl) (.inr rfl)
 | false =>
  have hb:isT t [95]=false:=by
   cases h9:isT t [95] with
   | false=>rfl
   | true=>rw[h9] at hm2;simp only[if_true,Option.map_eq_some_iff] at hm2;obtain⟨_,_,h⟩:=hm2;cases h
  rw[hb] at hm2
  simp only[Bool.false_eq_true,if_false,Option.some.injEq,Prod.mk.injEq,true_and] at hm2
  subst hm2
  simp only[Bool.false_eq_true,if_false,Option.bind_eq_some_iff] at h
  obtain⟨b2,h2,h⟩:=h
  unfold Jn at h2
  rw[ht] at h2
  simp only[Option.map_some,Option.some.injEq] at h2
  cases b2 with
  | false =>
   simp only[Bool.false_eq_true,if_false] at h
   refine zM (LX hT ht hb h2 h hp ⟨_,mK (Y7 h),hk⟩)
  | true =>
   rw[if_pos rfl] at h
   refine zM (zE [] func172 rfl results172 ntmps172 ?_)
   simp only[go_sem]
   refine qv ht (zI hp) ?_
   simp only[go_sem]
   refine YQ hT hm (zI hp) ?_
   simp only[go_sem,zb hp]
   first | (unfold zl;simp only[ze,zc,zq,List.set_cons_succ,List.set_cons_zero,List.getD_cons_succ,List.getD_cons_zero]) | skip
   refine ZB ht (zm hp) ?_
   simp only[go_sem,zb hp,h2]
   first | (unfold zl;simp only[ze,zc,zq,List.set_cons_succ,List.set_cons_zero,List.getD_cons_succ,List.getD_cons_zero]) | skip
   refine vS hT he rfl h (zm hp) ?_
   simp only[go_sem,zb hp]
   exact Zw hk
end Go.Proofs
namespace Go.Proofs
open Go Go.AL Tryz
theorem ul {T:List Tk} (hT:T.length≤100000) {pid:Nat} {p p':PS} {r:Nd} {t:Tk} (ht:zR T p=some t) (b1:isT t [109,97,116,99,104]=false) (b2:isT t [116,114,121]=false) (b3:isT t [114,101,116,114,121]=false) (b4:isT t [40]=false)
  (h:Xs T [(1,1),(2,2),(3,4),(4,5)] p=some (r,p')) {K:SV→St→Prop} {st:St} (hp:Wz T pid p st)
  (hk:K (yv r) (st.set pid (.cells (Z9 T p')))):ACalls prog 152 [.ptr pid 0] K st:=by
 refine Z3 [] func152 rfl results152 ntmps152 ?_
 have hr:=Y7 h
 simp only[go_sem]
 refine qv ht (zI hp) ?_
 simp only[go_sem]
 refine ZB ht (zI hp) ?_
 simp only[go_sem,b1]
 first | (unfold zl;simp only[ze,zc,zq,List.set_cons_succ,List.set_cons_zero,List.getD_cons_succ,List.getD_cons_zero]) | skip
 refine ZB ht (zI hp) ?_
 simp only[go_sem,b2]
 first | (unfold zl;simp only[ze,zc,zq,List.set_cons_succ,List.set_cons_zero,List.getD_cons_succ,List.getD_cons_zero]) | skip
 refine ZB ht (zI hp) ?_
 simp only[go_sem,b3]
 first | (unfold zl;simp only[ze,zc,zq,List.set_cons_succ,List.set_cons_zero,List.getD_cons_succ,List.getD_cons_zero]) | skip
 refine ZB ht (zI hp) ?_
 simp only[go_sem,b4]
 refine rB (by simp) ?_
 refine gi hT h (zI hp) (by simp;rfl) ?_
 rw[Fy hr] at hk ⊢
 simp only[go_sem,zb hp]
 cases r
 exact ER hk
theorem Hh {T:List Tk} (hT:T.length≤100000) {pid:Nat} {e pt:PM Nd} (he:HC T pid 79 e) (hpt:HC T pid 170 pt):HC T pid 152 (Xz T e pt):=by
 intro p r p' h K st hp hk
 unfold Xz at h
 rw[Option.bind_eq_some_iff] at h
 obtain⟨t,ht,h⟩:=h
 cases b1:isT t [109,97,116,99,104] with
 | true =>
  rw[b1,if_pos rfl] at h
  refine zM (zE [] func152 rfl results152 ntmps152 ?_)
  simp only[go_sem]
  refine qv ht (zI hp) ?_
  simp only[go_sem]
  refine ZB ht (zI hp) ?_
  simp only[go_sem,b1]
  first | (unfold zl;simp only[ze,zc,zq,List.set_cons_succ,List.set_cons_zero,List.getD_cons_succ,List.getD_cons_zero]) | skip
  refine bB hT he hpt _ _ _ h _ _ (zI hp) ?_
  simp only[go_sem,zb hp]
  exact Zw hk
 | false =>
 rw[b1,if_neg (by decide)] at h
 cases b2:isT t [116,114,121] with
 | true =>
  rw[b2,if_pos rfl] at h
  refine zM (zE [] func152 rfl results152 ntmps152 ?_)
  simp only[go_sem]
  refine qv ht (zI hp) ?_
  simp only[go_sem]
  refine ZB ht (zI hp) ?_
  simp only[go_sem,b1]
  first | (unfold zl;simp only[ze,zc,zq,List.set_cons_succ,List.set_cons_zero,List.getD_cons_succ,List.getD_cons_zero]) | skip
  refine ZB ht (zI hp) ?_
  simp only[go_sem,b2]
  first | (unfold zl;simp only[ze,zc,zq,List.set_cons_succ,List.set_cons_zero,List.getD_cons_succ,List.getD_cons_zero]) | skip
  refine rY hT he _ _ _ h _ _ (zI hp) ?_
  simp only[go_sem,zb hp]
  exact Zw hk
 | false =>
 rw[b2,if_neg (by decide)] at h
 cases b3:isT t [114,101,116,114,121] with
 | true =>
  rw[b3,if_pos rfl] at h
  rw[Option.map_eq_some_iff] at h
  obtain⟨⟨t1,p1⟩,h1,h⟩:=h
  cases h
  refine zM (zE [] func152 rfl results152 ntmps152 ?_)
  simp only[go_sem]
  refine qv ht (zI hp) ?_
  simp only[go_sem]
  refine ZB ht (zI hp) ?_
  simp only[go_sem,b1]
  first | (unfold zl;simp only[ze,zc,zq,List.set_cons_succ,List.set_cons_zero,List.getD_cons_succ,List.getD_cons_zero]) | skip
  refine ZB ht (zI hp) ?_
  simp only[go_sem,b2]
  first | (unfold zl;simp only[ze,zc,zq,List.set_cons_succ,List.set_cons_zero,List.getD_cons_succ,List.getD_cons_zero]) | skip
  refine ZB ht (zI hp) ?_
  simp only[go_sem,b3]
  first | (unfold zl;simp only[ze,zc,zq,List.set_cons_succ,List.set_cons_zero,List.getD_cons_succ,List.getD_cons_zero]) | skip
  refine QQ hT h1 (zI hp) ?_
  simp only[go_sem,zb hp]
  first | (unfold zl;simp only[ze,zc,zq,List.set_cons_succ,List.set_cons_zero,List.getD_cons_succ,List.getD_cons_zero]) | skip
  refine Xl rfl rfl rfl rfl (fun _=>rfl) (ql (.inr rfl) (fun x hx=>by cases hx)) ?_
  unfold Q1
  simp only[go_sem,zb hp]
  exact Ym (z1:=0) (z2:=0) (m1 :=.full) (m2 :=.full) (nd:=zT 19 t.pos [] []) hk (.inr rfl) (.inr rfl)
 | false =>
 rw[b3,if_neg (by decide)] at h
 cases b4:isT t [40] with
 | false =>
  rw[b4,if_neg (by decide)] at h
  exact zM (ul hT ht b1 b2 b3 b4 h hp ⟨_,mK (Y7 h),hk⟩)
 | true =>
  rw[b4,if_pos rfl] at h
  simp only[Option.bind_eq_some_iff,Prod.exists] at h
  obtain⟨t1,p1,h1,b5,p2,h2,h⟩:=h
  cases b5 with
  | true =>
   simp only[if_true,Option.some.injEq,Prod.mk.injEq] at h
   obtain⟨rfl,rfl⟩:=h
   refine zM (zE [] func152 rfl results152 ntmps152 ?_)
   simp only[go_sem]
   refine qv ht (zI hp) ?_
   simp only[go_sem]
   refine ZB ht (zI hp) ?_
   simp only[go_sem,b1]
   first | (unfold zl;simp only[ze,zc,zq,List.set_cons_succ,List.set_cons_zero,List.getD_cons_succ,List.getD_cons_zero]) | skip
   refine ZB ht (zI hp) ?_
   simp only[go_sem,b2]
   first | (unfold zl;simp only[ze,zc,zq,List.set_cons_succ,List.set_cons_zero,List.getD_cons_succ,List.getD_cons_zero]) | skip
   refine ZB ht (zI hp) ?_
   simp only[go_sem,b3]
   first | (unfold zl;simp only[ze,zc,zq,List.set_cons_succ,List.set_cons_zero,List.getD_cons_succ,List.getD_cons_zero]) | skip
   refine ZB ht (zI hp) ?_
   simp only[go_sem,b4]
   first | (unfold zl;simp only[ze,zc,zq,List.set_cons_succ,List.set_cons_zero,List.getD_cons_succ,List.getD_cons_zero]) | skip
   refine QQ hT h1 (zI hp) ?_
   simp only[go_sem,zb hp]
   first | (unfold zl;simp only[ze,zc,zq,List.set_cons_succ,List.set_cons_zero,List.getD_cons_succ,List.getD_cons_zero]) | skip
   refine YQ hT h2 (zm hp) ?_
   simp only[go_sem,zb hp]
   first | (unfold zl;simp only[ze,zc,zq,List.set_cons_succ,List.set_cons_zero,List.getD_cons_succ,List.getD_cons_zero]) | skip
   refine Xl rfl rfl rfl rfl (fun _=>rfl) (ql (.inr rfl) (fun x hx=>by cases hx)) ?_
   unfold Q1
   simp only[go_sem,zb hp]
   exact Ym (z1:=0) (z2:=0) (m1 :=.full) (m2 :=.full) (nd:=zT 3 t.pos [] []) hk (.inr rfl) (.inr rfl)
  | false =>
   simp only[Bool.false_eq_true,if_false,Option.bind_eq_some_iff,Option.map_eq_some_iff,Prod.exists,Prod.mk.injEq] at h
   obtain⟨x,p3,h3,p4,h4,rfl,rfl⟩:=h
   refine zM (zE [] func152 rfl results152 ntmps152 ?_)
   simp only[go_sem]
   refine qv ht (zI hp) ?_
   simp only[go_sem]
   refine ZB ht (zI hp) ?_
   simp only[go_sem,b1]
   first | (unfold zl;simp only[ze,zc,zq,List.set_cons_succ,List.set_cons_zero,List.getD_cons_succ,List.getD_cons_zero]) | skip
   refine ZB ht (zI hp) ?_
   simp only[go_sem,b2]
   first | (unfold zl;simp only[ze,zc,zq,List.set_cons_succ,List.set_cons_zero,List.getD_cons_succ,List.getD_cons_zero]) | skip
   refine ZB ht (zI hp) ?_
   simp only[go_sem,b3]
   first | (unfold zl;simp only[ze,zc,zq,List.set_cons_succ,List.set_cons_zero,List.getD_cons_succ,List.getD_cons_zero]) | skip
   refine ZB ht (zI hp) ?_
   simp only[go_sem,b4]
   first | (unfold zl;simp only[ze,zc,zq,List.set_cons_succ,List.set_cons_zero,List.getD_cons_succ,List.getD_cons_zero]) | skip
   refine QQ hT h1 (zI hp) ?_
   simp only[go_sem,zb hp]
   first | (unfold zl;simp only[ze,zc,zq,List.set_cons_succ,List.set_cons_zero,List.getD_cons_succ,List.getD_cons_zero]) | skip
   refine YQ hT h2 (zm hp) ?_
   simp only[go_sem,zb hp]
   first | (unfold zl;simp only[ze,zc,zq,List.set_cons_succ,List.set_cons_zero,List.getD_cons_succ,List.getD_cons_zero]) | skip
   refine V0 hT he _ _ _ h3 _ _ (zm hp) ?_
   simp only[go_sem,zb hp]
   first | (unfold zl;simp only[ze,zc,zq,List.set_cons_succ,List.set_cons_zero,List.getD_cons_succ,List.getD_cons_zero]) | skip
   refine Z2 hT h4 (zm hp) fun _=>?_
   simp only[go_sem,zb hp]
   exact Zw hk
end Go.Proofs
