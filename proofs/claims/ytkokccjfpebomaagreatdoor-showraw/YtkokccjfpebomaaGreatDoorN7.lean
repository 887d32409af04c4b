/- leaf as a node, atoms, patterns. -/
import Derived.Test.YtkokccjfpebomaaGreatDoorK4
set_option linter.all false
set_option maxHeartbeats 4000000
set_option maxRecDepth 8000
namespace Go.Proofs
open Go Go.AL Tryz
def k4:List (Int×Int):=[(1,1),(2,2),(3,4),(4,5)]
def k3:List (Int×Int):=[(1,1),(3,4),(4,5)]
theorem Jt{T:List Tk}{kinds:List (Int×Int)}{p p':PS}{r:Nd}(h:Xc T kinds p=some (r,p')):r.names=[]∧r.kids=[]:=by
 unfold Xc at h;rw[xoB] at h;obtain⟨t,_,h⟩:=h;simp only at h;split at h
 ·rw[xoM] at h;obtain⟨_,_,h⟩:=h;cases h;exact⟨rfl,rfl⟩
 ·rw[xoM] at h;obtain⟨_,_,h⟩:=h;cases h;exact⟨rfl,rfl⟩
theorem ie{n v:Int}{mid:Nat}{kinds:List (Int×Int)}{st:St}{N:St→Prop}(hm:st[mid]?=some (.map (XY kinds)))(hn:Vn (XY kinds) (.int .i64 n) (.sc (.int .i64 v))=XY (kinds++[(n,v)])) :
  Zm prog 149 st (.mp mid) (.sc (.int .i64 n)) (.sc (.int .i64 v)) N=N (st.set mid (.map (XY (kinds++[(n,v)])))):=by
 rw[oN Tryz.amap149 (Wk hm).2 (Lj kinds),hn]
theorem Jp{n v:Int}{S:St}{a b:Ob}{kinds:List (Int×Int)}{N:St→Prop}{mid:Nat}(hmid:mid=S.length+2)(hn:Vn (XY kinds) (.int .i64 n) (.sc (.int .i64 v))=XY (kinds++[(n,v)]))
  (h:N (S++[a,b,.map (XY (kinds++[(n,v)]))])):Zm prog 149 (S++[a,b,.map (XY kinds)]) (.mp mid) (.sc (.int .i64 n)) (.sc (.int .i64 v)) N:=by
 subst hmid;rw[ie (kinds:=kinds) (by simp) hn];have:(S++[a,b,.map (XY kinds)]).set (S.length+2) (.map (XY (kinds++[(n,v)])))=S++[a,b,.map (XY (kinds++[(n,v)]))]:=by
  rw[List.set_append_right _ _ (by simp)];simp
 rw[this];exact h
theorem Oc{S:St}{a b:Ob}{N:St→Prop}{mid:Nat}(hmid:mid=S.length+2)(h:N (S++[a,b,.map (XY k3)])) :
  Zm prog 149 (S++[a,b,.map []]) (.mp mid) (.sc (.int .i64 1)) (.sc (.int .i64 1)) fun x=>Zm prog 149 x (.mp mid) (.sc (.int .i64 3)) (.sc (.int .i64 4)) fun x=>Zm prog 149 x (.mp mid) (.sc (.int .i64 4)) (.sc (.int .i64 5)) N :=
 Jp (kinds:=[]) hmid rfl (Jp (kinds:=[(1,1)]) hmid rfl (Jp (kinds:=[(1,1),(3,4)]) hmid rfl h))
theorem NQ{S:St}{a b:Ob}{N:St→Prop}{mid:Nat}(hmid:mid=S.length+2)(h:N (S++[a,b,.map (XY k4)])) :
  Zm prog 149 (S++[a,b,.map []]) (.mp mid) (.sc (.int .i64 1)) (.sc (.int .i64 1)) fun x=>Zm prog 149 x (.mp mid) (.sc (.int .i64 2)) (.sc (.int .i64 2)) fun x=>Zm prog 149 x (.mp mid) (.sc (.int .i64 3)) (.sc (.int .i64 4)) fun x=>Zm prog 149 x (.mp mid) (.sc (.int .i64 4)) (.sc (.int .i64 5)) N :=
 Jp (kinds:=[]) hmid rfl (Jp (kinds:=[(1,1)]) hmid rfl (Jp (kinds:=[(1,1),(2,2)]) hmid rfl (Jp (kinds:=[(1,1),(2,2),(3,4)]) hmid rfl h)))
theorem L5{r:Nd}(h:r.names=[]∧r.kids=[]):pI r = .agg [.sc (.int .i64 r.kind),.sc (.string (ba r.text)),.sc (.int .i64 r.num),.sc (.int .i64 r.pos),.slice .full 0 [],.slice .full 0 []]:=by
 unfold pI Kv;rw[h.1,h.2];rfl
theorem fO{r:Nd}(h:r.names=[]∧r.kids=[]):SVle (pI r) (zq r):=pC (US (.inr h.1) (.inr h.2))
theorem vO{T:List Tk}(hT:T.length≤100000){pid:Nat}{p p':PS}{r:Nd}{t:Tk}(ht:zH T p=some t)(h1:isT t [95]=false)(h2:isT t [40]=false)(h:Xc T [(1,1),(3,4),(4,5)] p=some (r,p')){K:SV→St→Prop}{st:St}(hp:KF T pid p st)
  (hk:K (pI r) (st.set pid (.cells (Qn T p')))):ACalls prog 172 [.ptr pid 0] K st:=by
 refine Qj [] func172 rfl results172 ntmps172 ?_;have hm:Xd T [95] p=some (false,p):=by
  unfold Xd Yj;rw[ht];simp[h1]
 have hr:=Jt h;simp only[go_sem];refine qi ht (zu hp) ?_;simp only[go_sem];refine Jg hT hm (zu hp) ?_;simp only[go_sem,zb hp];first | (unfold zf;simp only[ze,zc,zl,xsS,xsZ,xgS,xgZ]) | skip
 refine ZG ht (zh hp) ?_;simp only[go_sem,zb hp,h2];refine Oc (by simp) ?_;refine nY hT h (zh hp) (by simp;rfl) ?_;rw[L5 hr] at hk ⊢;simp only[go_sem,zb hp];cases r;exact D4 hk
theorem Ui{T:List Tk}(hT:T.length≤100000){pid:Nat}{e:PM Nd}(he:HC T pid 170 e):HC T pid 172 (Qo T e):=by
 intro p r p' h K st hp hk;unfold Qo at h;simp only[xoB,xpX] at h;obtain⟨t,ht,b,p1,hm,h⟩:=h;have hm2:=hm;unfold Xd Yj at hm2;rw[ht] at hm2;simp only[xmS,xbS] at hm2;cases b with
 | true =>
  simp only[if_true,xsJ,xpJ] at h;obtain⟨rfl,rfl⟩:=h;refine zA (zp [] func172 rfl results172 ntmps172 ?_);simp only[go_sem];refine qi ht (zu hp) ?_;simp only[go_sem];refine Jg hT hm (zu hp) ?_;simp only[go_sem,zb hp];first | (unfold zf;simp only[ze,zc,zl,xsS,xsZ,xgS,xgZ]) | skip
  refine XF rfl rfl rfl rfl (fun _=>rfl) (zT (.inr rfl) (fun x hx=>by cases hx)) ?_;unfold Xk;simp only[go_sem,zb hp];exact YO (z1:=0) (z2:=0) (m1 :=.full) (m2 :=.full) (nd:=zw 24 t.pos [] []) hk (.inr rfl) (.inr rfl)
 | false =>
  have hb:isT t [95]=false:=by
   cases h9:isT t [95] with
   | false=>rfl
   | true=>rw[h9] at hm2;simp only[if_true,xoM] at hm2;obtain⟨_,_,h⟩:=hm2;cases h
  rw[hb] at hm2;simp only[XU,if_false,xsJ,xpJ,true_and] at hm2;subst hm2;simp only[XU,if_false,xoB] at h;obtain⟨b2,h2,h⟩:=h;unfold Yj at h2;rw[ht] at h2;simp only[xmS,xsJ] at h2;cases b2 with
  | false =>
   simp only[XU,if_false] at h;refine zA (vO hT ht hb h2 h hp ⟨_,fO (Jt h),hk⟩)
  | true =>
   rw[if_pos rfl] at h;refine zA (zp [] func172 rfl results172 ntmps172 ?_);simp only[go_sem];refine qi ht (zu hp) ?_;simp only[go_sem];refine Jg hT hm (zu hp) ?_;simp only[go_sem,zb hp];first | (unfold zf;simp only[ze,zc,zl,xsS,xsZ,xgS,xgZ]) | skip
   refine ZG ht (zh hp) ?_;simp only[go_sem,zb hp,h2];first | (unfold zf;simp only[ze,zc,zl,xsS,xsZ,xgS,xgZ]) | skip
   refine pB hT he rfl h (zh hp) ?_;simp only[go_sem,zb hp];exact Zw hk
theorem hO{T:List Tk}(hT:T.length≤100000){pid:Nat}{p p':PS}{r:Nd}{t:Tk}(ht:zH T p=some t)(b1:isT t [109,97,116,99,104]=false)(b2:isT t [116,114,121]=false)(b3:isT t [114,101,116,114,121]=false)(b4:isT t [40]=false)
  (h:Xc T [(1,1),(2,2),(3,4),(4,5)] p=some (r,p')) {K:SV→St→Prop} {st:St} (hp:KF T pid p st)
  (hk:K (pI r) (st.set pid (.cells (Qn T p')))):ACalls prog 152 [.ptr pid 0] K st:=by
 refine Qj [] func152 rfl results152 ntmps152 ?_;have hr:=Jt h;simp only[go_sem];refine qi ht (zu hp) ?_;simp only[go_sem];refine ZG ht (zu hp) ?_;simp only[go_sem,b1];first | (unfold zf;simp only[ze,zc,zl,xsS,xsZ,xgS,xgZ]) | skip
 refine ZG ht (zu hp) ?_;simp only[go_sem,b2];first | (unfold zf;simp only[ze,zc,zl,xsS,xsZ,xgS,xgZ]) | skip
 refine ZG ht (zu hp) ?_;simp only[go_sem,b3];first | (unfold zf;simp only[ze,zc,zl,xsS,xsZ,xgS,xgZ]) | skip
 refine ZG ht (zu hp) ?_;simp only[go_sem,b4];refine NQ (by simp) ?_;refine nY hT h (zu hp) (by simp;rfl) ?_;rw[L5 hr] at hk ⊢;simp only[go_sem,zb hp];cases r;exact D4 hk
theorem EC{T:List Tk}(hT:T.length≤100000){pid:Nat}{e pt:PM Nd}(he:HC T pid 79 e)(hpt:HC T pid 170 pt):HC T pid 152 (ZL T e pt):=by
 intro p r p' h K st hp hk;unfold ZL at h;rw[xoB] at h;obtain⟨t,ht,h⟩:=h;cases b1:isT t [109,97,116,99,104] with
 | true =>
  rw[b1,if_pos rfl] at h;refine zA (zp [] func152 rfl results152 ntmps152 ?_);simp only[go_sem];refine qi ht (zu hp) ?_;simp only[go_sem];refine ZG ht (zu hp) ?_;simp only[go_sem,b1];first | (unfold zf;simp only[ze,zc,zl,xsS,xsZ,xgS,xgZ]) | skip
  refine o0 hT he hpt _ _ _ h _ _ (zu hp) ?_;simp only[go_sem,zb hp];exact Zw hk
 | false =>
 rw[b1,if_neg (by decide)] at h;cases b2:isT t [116,114,121] with
 | true =>
  rw[b2,if_pos rfl] at h;refine zA (zp [] func152 rfl results152 ntmps152 ?_);simp only[go_sem];refine qi ht (zu hp) ?_;simp only[go_sem];refine ZG ht (zu hp) ?_;simp only[go_sem,b1];first | (unfold zf;simp only[ze,zc,zl,xsS,xsZ,xgS,xgZ]) | skip
  refine ZG ht (zu hp) ?_;simp only[go_sem,b2];first | (unfold zf;simp only[ze,zc,zl,xsS,xsZ,xgS,xgZ]) | skip
  refine Nn hT he _ _ _ h _ _ (zu hp) ?_;simp only[go_sem,zb hp];exact Zw hk
 | false =>
 rw[b2,if_neg (by decide)] at h;cases b3:isT t [114,101,116,114,121] with
 | true =>
  rw[b3,if_pos rfl] at h;rw[xoM] at h;obtain⟨⟨t1,p1⟩,h1,h⟩:=h;cases h;refine zA (zp [] func152 rfl results152 ntmps152 ?_);simp only[go_sem];refine qi ht (zu hp) ?_;simp only[go_sem];refine ZG ht (zu hp) ?_;simp only[go_sem,b1];first | (unfold zf;simp only[ze,zc,zl,xsS,xsZ,xgS,xgZ]) | skip
  refine ZG ht (zu hp) ?_;simp only[go_sem,b2];first | (unfold zf;simp only[ze,zc,zl,xsS,xsZ,xgS,xgZ]) | skip
  refine ZG ht (zu hp) ?_;simp only[go_sem,b3];first | (unfold zf;simp only[ze,zc,zl,xsS,xsZ,xgS,xgZ]) | skip
  refine Q9 hT h1 (zu hp) ?_;simp only[go_sem,zb hp];first | (unfold zf;simp only[ze,zc,zl,xsS,xsZ,xgS,xgZ]) | skip
  refine XF rfl rfl rfl rfl (fun _=>rfl) (zT (.inr rfl) (fun x hx=>by cases hx)) ?_;unfold Xk;simp only[go_sem,zb hp];exact YO (z1:=0) (z2:=0) (m1 :=.full) (m2 :=.full) (nd:=zw 19 t.pos [] []) hk (.inr rfl) (.inr rfl)
 | false =>
 rw[b3,if_neg (by decide)] at h;cases b4:isT t [40] with
 | false =>
  rw[b4,if_neg (by decide)] at h;exact zA (hO hT ht b1 b2 b3 b4 h hp ⟨_,fO (Jt h),hk⟩)
 | true =>
  rw[b4,if_pos rfl] at h;simp only[xoB,xpX] at h;obtain⟨t1,p1,h1,b5,p2,h2,h⟩:=h;cases b5 with
  | true =>
   simp only[if_true,xsJ,xpJ] at h;obtain⟨rfl,rfl⟩:=h;refine zA (zp [] func152 rfl results152 ntmps152 ?_);simp only[go_sem];refine qi ht (zu hp) ?_;simp only[go_sem];refine ZG ht (zu hp) ?_;simp only[go_sem,b1];first | (unfold zf;simp only[ze,zc,zl,xsS,xsZ,xgS,xgZ]) | skip
   refine ZG ht (zu hp) ?_;simp only[go_sem,b2];first | (unfold zf;simp only[ze,zc,zl,xsS,xsZ,xgS,xgZ]) | skip
   refine ZG ht (zu hp) ?_;simp only[go_sem,b3];first | (unfold zf;simp only[ze,zc,zl,xsS,xsZ,xgS,xgZ]) | skip
   refine ZG ht (zu hp) ?_;simp only[go_sem,b4];first | (unfold zf;simp only[ze,zc,zl,xsS,xsZ,xgS,xgZ]) | skip
   refine Q9 hT h1 (zu hp) ?_;simp only[go_sem,zb hp];first | (unfold zf;simp only[ze,zc,zl,xsS,xsZ,xgS,xgZ]) | skip
   refine Jg hT h2 (zh hp) ?_;simp only[go_sem,zb hp];first | (unfold zf;simp only[ze,zc,zl,xsS,xsZ,xgS,xgZ]) | skip
   refine XF rfl rfl rfl rfl (fun _=>rfl) (zT (.inr rfl) (fun x hx=>by cases hx)) ?_;unfold Xk;simp only[go_sem,zb hp];exact YO (z1:=0) (z2:=0) (m1 :=.full) (m2 :=.full) (nd:=zw 3 t.pos [] []) hk (.inr rfl) (.inr rfl)
  | false =>
   simp only[XU,if_false,xoB,xoM,xpX,xpJ] at h;obtain⟨x,p3,h3,p4,h4,rfl,rfl⟩:=h;refine zA (zp [] func152 rfl results152 ntmps152 ?_);simp only[go_sem];refine qi ht (zu hp) ?_;simp only[go_sem];refine ZG ht (zu hp) ?_;simp only[go_sem,b1];first | (unfold zf;simp only[ze,zc,zl,xsS,xsZ,xgS,xgZ]) | skip
   refine ZG ht (zu hp) ?_;simp only[go_sem,b2];first | (unfold zf;simp only[ze,zc,zl,xsS,xsZ,xgS,xgZ]) | skip
   refine ZG ht (zu hp) ?_;simp only[go_sem,b3];first | (unfold zf;simp only[ze,zc,zl,xsS,xsZ,xgS,xgZ]) | skip
   refine ZG ht (zu hp) ?_;simp only[go_sem,b4];first | (unfold zf;simp only[ze,zc,zl,xsS,xsZ,xgS,xgZ]) | skip
   refine Q9 hT h1 (zu hp) ?_;simp only[go_sem,zb hp];first | (unfold zf;simp only[ze,zc,zl,xsS,xsZ,xgS,xgZ]) | skip
   refine Jg hT h2 (zh hp) ?_;simp only[go_sem,zb hp];first | (unfold zf;simp only[ze,zc,zl,xsS,xsZ,xgS,xgZ]) | skip
   refine Ko hT he _ _ _ h3 _ _ (zh hp) ?_;simp only[go_sem,zb hp];first | (unfold zf;simp only[ze,zc,zl,xsS,xsZ,xgS,xgZ]) | skip
   refine Qe hT h4 (zh hp) fun _=>?_;simp only[go_sem,zb hp];exact Zw hk
end Go.Proofs
