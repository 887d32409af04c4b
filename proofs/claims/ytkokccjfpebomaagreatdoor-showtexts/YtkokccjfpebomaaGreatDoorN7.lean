/- leaf as a node, atoms, patterns. -/
import Derived.Test.YtkokccjfpebomaaGreatDoorK4
set_option linter.all false
set_option maxHeartbeats 4000000
set_option maxRecDepth 8000
namespace Go.Proofs
open Go Go.AL Tryz
def k4:List (Int×Int):=[(1,1),(2,2),(3,4),(4,5)]
def k3:List (Int×Int):=[(1,1),(3,4),(4,5)]
theorem Jr{T:List Tk}{kinds:List (Int×Int)}{p p':PS}{r:Nd}(h:XC T kinds p=some (r,p')):r.names=[]∧r.kids=[]:=by
 unfold XC at h;rw[xoB] at h;obtain⟨t,_,h⟩:=h;simp only at h;split at h
 ·rw[xoM] at h;obtain⟨_,_,h⟩:=h;cases h;exact⟨rfl,rfl⟩
 ·rw[xoM] at h;obtain⟨_,_,h⟩:=h;cases h;exact⟨rfl,rfl⟩
theorem ls{n v:Int}{mid:Nat}{kinds:List (Int×Int)}{st:St}{N:St→Prop}(hm:st[mid]?=some (.map (XP kinds)))(hn:J5 (XP kinds) (.int .i64 n) (.sc (.int .i64 v))=XP (kinds++[(n,v)])) :
  Ze prog 149 st (.mp mid) (.sc (.int .i64 n)) (.sc (.int .i64 v)) N=N (st.set mid (.map (XP (kinds++[(n,v)])))):=by
 rw[od Tryz.amap149 (V6 hm).2 (Bn kinds),hn]
theorem Jn{n v:Int}{S:St}{a b:Ob}{kinds:List (Int×Int)}{N:St→Prop}{mid:Nat}(hmid:mid=S.length+2)(hn:J5 (XP kinds) (.int .i64 n) (.sc (.int .i64 v))=XP (kinds++[(n,v)]))
  (h:N (S++[a,b,.map (XP (kinds++[(n,v)]))])):Ze prog 149 (S++[a,b,.map (XP kinds)]) (.mp mid) (.sc (.int .i64 n)) (.sc (.int .i64 v)) N:=by
 subst hmid;rw[ls (kinds:=kinds) (by simp) hn];have:(S++[a,b,.map (XP kinds)]).set (S.length+2) (.map (XP (kinds++[(n,v)])))=S++[a,b,.map (XP (kinds++[(n,v)]))]:=by
  rw[List.set_append_right _ _ (by simp)];simp
 rw[this];exact h
theorem CV{S:St}{a b:Ob}{N:St→Prop}{mid:Nat}(hmid:mid=S.length+2)(h:N (S++[a,b,.map (XP k3)])) :
  Ze prog 149 (S++[a,b,.map []]) (.mp mid) (.sc (.int .i64 1)) (.sc (.int .i64 1)) fun x=>Ze prog 149 x (.mp mid) (.sc (.int .i64 3)) (.sc (.int .i64 4)) fun x=>Ze prog 149 x (.mp mid) (.sc (.int .i64 4)) (.sc (.int .i64 5)) N :=
 Jn (kinds:=[]) hmid rfl (Jn (kinds:=[(1,1)]) hmid rfl (Jn (kinds:=[(1,1),(3,4)]) hmid rfl h))
theorem IL{S:St}{a b:Ob}{N:St→Prop}{mid:Nat}(hmid:mid=S.length+2)(h:N (S++[a,b,.map (XP k4)])) :
  Ze prog 149 (S++[a,b,.map []]) (.mp mid) (.sc (.int .i64 1)) (.sc (.int .i64 1)) fun x=>Ze prog 149 x (.mp mid) (.sc (.int .i64 2)) (.sc (.int .i64 2)) fun x=>Ze prog 149 x (.mp mid) (.sc (.int .i64 3)) (.sc (.int .i64 4)) fun x=>Ze prog 149 x (.mp mid) (.sc (.int .i64 4)) (.sc (.int .i64 5)) N :=
 Jn (kinds:=[]) hmid rfl (Jn (kinds:=[(1,1)]) hmid rfl (Jn (kinds:=[(1,1),(2,2)]) hmid rfl (Jn (kinds:=[(1,1),(2,2),(3,4)]) hmid rfl h)))
theorem LB{r:Nd}(h:r.names=[]∧r.kids=[]):pg r = .agg [.sc (.int .i64 r.kind),.sc (.string (ba r.text)),.sc (.int .i64 r.num),.sc (.int .i64 r.pos),.slice .full 0 [],.slice .full 0 []]:=by
 unfold pg W2;rw[h.1,h.2];rfl
theorem my{r:Nd}(h:r.names=[]∧r.kids=[]):SVle (pg r) (zq r):=yZ (Ej (.inr h.1) (.inr h.2))
theorem wY{T:List Tk}(hT:T.length≤100000){pid:Nat}{p p':PS}{r:Nd}{t:Tk}(ht:zE T p=some t)(h1:isT t [95]=false)(h2:isT t [40]=false)(h:XC T [(1,1),(3,4),(4,5)] p=some (r,p')){K:SV→St→Prop}{st:St}(hp:W8 T pid p st)
  (hk:K (pg r) (st.set pid (.cells (Qa T p')))):ACalls prog 172 [.ptr pid 0] K st:=by
 refine Z4 [] func172 rfl results172 ntmps172 ?_;have hm:Xc T [95] p=some (false,p):=by
  unfold Xc Ye;rw[ht];simp[h1]
 have hr:=Jr h;simp only[go_sem];refine qd ht (zo hp) ?_;simp only[go_sem];refine Y9 hT hm (zo hp) ?_;simp only[go_sem,zb hp];try (unfold zd;simp only[qc])
 refine Zy ht (ze hp) ?_;simp only[go_sem,zb hp,h2];refine CV (by simp) ?_;refine cT hT h (ze hp) (by simp;rfl) ?_;rw[LB hr] at hk ⊢;simp only[go_sem,zb hp];cases r;exact Dd hk
theorem KJ{T:List Tk}(hT:T.length≤100000){pid:Nat}{e:PM Nd}(he:HC T pid 170 e):HC T pid 172 (QW T e):=by
 intro p r p' h K st hp hk;unfold QW at h;simp only[xoB,xpX] at h;obtain⟨t,ht,b,p1,hm,h⟩:=h;have hm2:=hm;unfold Xc Ye at hm2;rw[ht] at hm2;simp only[xmS,xbS] at hm2;cases b with
 | true =>
  simp only[if_true,xsJ,xpJ] at h;obtain⟨rfl,rfl⟩:=h;refine zw (zl [] func172 rfl results172 ntmps172 ?_);simp only[go_sem];refine qd ht (zo hp) ?_;simp only[go_sem];refine Y9 hT hm (zo hp) ?_;simp only[go_sem,zb hp];try (unfold zd;simp only[qc])
  refine Xx rfl rfl rfl rfl (fun _=>rfl) (zQ (.inr rfl) (fun x hx=>by cases hx)) ?_;unfold Q8;simp only[go_sem,zb hp];exact YA (z1:=0) (z2:=0) (m1 :=.full) (m2 :=.full) (nd:=zr 24 t.pos [] []) hk (.inr rfl) (.inr rfl)
 | false =>
  have hb:isT t [95]=false:=by
   cases h9:isT t [95] with
   | false=>rfl
   | true=>rw[h9] at hm2;simp only[if_true,xoM] at hm2;obtain⟨_,_,h⟩:=hm2;cases h
  rw[hb] at hm2;simp only[Yd,if_false,xsJ,xpJ,true_and] at hm2;subst hm2;simp only[Yd,if_false,xoB] at h;obtain⟨b2,h2,h⟩:=h;unfold Ye at h2;rw[ht] at h2;simp only[xmS,xsJ] at h2;cases b2 with
  | false =>
   simp only[Yd,if_false] at h;refine zw (wY hT ht hb h2 h hp ⟨_,my (Jr h),hk⟩)
  | true =>
   rw[if_pos rfl] at h;refine zw (zl [] func172 rfl results172 ntmps172 ?_);simp only[go_sem];refine qd ht (zo hp) ?_;simp only[go_sem];refine Y9 hT hm (zo hp) ?_;simp only[go_sem,zb hp];try (unfold zd;simp only[qc])
   refine Zy ht (ze hp) ?_;simp only[go_sem,zb hp,h2];try (unfold zd;simp only[qc])
   refine uE hT he rfl h (ze hp) ?_;simp only[go_sem,zb hp];exact Zs hk
theorem xb{T:List Tk}(hT:T.length≤100000){pid:Nat}{p p':PS}{r:Nd}{t:Tk}(ht:zE T p=some t)(b1:isT t [109,97,116,99,104]=false)(b2:isT t [116,114,121]=false)(b3:isT t [114,101,116,114,121]=false)(b4:isT t [40]=false)
  (h:XC T [(1,1),(2,2),(3,4),(4,5)] p=some (r,p')) {K:SV→St→Prop} {st:St} (hp:W8 T pid p st)
  (hk:K (pg r) (st.set pid (.cells (Qa T p')))):ACalls prog 152 [.ptr pid 0] K st:=by
 refine Z4 [] func152 rfl results152 ntmps152 ?_;have hr:=Jr h;simp only[go_sem];refine qd ht (zo hp) ?_;simp only[go_sem];refine Zy ht (zo hp) ?_;simp only[go_sem,b1];try (unfold zd;simp only[qc])
 refine Zy ht (zo hp) ?_;simp only[go_sem,b2];try (unfold zd;simp only[qc])
 refine Zy ht (zo hp) ?_;simp only[go_sem,b3];try (unfold zd;simp only[qc])
 refine Zy ht (zo hp) ?_;simp only[go_sem,b4];refine IL (by simp) ?_;refine cT hT h (zo hp) (by simp;rfl) ?_;rw[LB hr] at hk ⊢;simp only[go_sem,zb hp];cases r;exact Dd hk
theorem HY{T:List Tk}(hT:T.length≤100000){pid:Nat}{e pt:PM Nd}(he:HC T pid 79 e)(hpt:HC T pid 170 pt):HC T pid 152 (ZV T e pt):=by
 intro p r p' h K st hp hk;unfold ZV at h;rw[xoB] at h;obtain⟨t,ht,h⟩:=h;cases b1:isT t [109,97,116,99,104] with
 | true =>
  rw[b1,if_pos rfl] at h;refine zw (zl [] func152 rfl results152 ntmps152 ?_);simp only[go_sem];refine qd ht (zo hp) ?_;simp only[go_sem];refine Zy ht (zo hp) ?_;simp only[go_sem,b1];try (unfold zd;simp only[qc])
  refine fV hT he hpt _ _ _ h _ _ (zo hp) ?_;simp only[go_sem,zb hp];exact Zs hk
 | false =>
 rw[b1,if_neg (by decide)] at h;cases b2:isT t [116,114,121] with
 | true =>
  rw[b2,if_pos rfl] at h;refine zw (zl [] func152 rfl results152 ntmps152 ?_);simp only[go_sem];refine qd ht (zo hp) ?_;simp only[go_sem];refine Zy ht (zo hp) ?_;simp only[go_sem,b1];try (unfold zd;simp only[qc])
  refine Zy ht (zo hp) ?_;simp only[go_sem,b2];try (unfold zd;simp only[qc])
  refine A0 hT he _ _ _ h _ _ (zo hp) ?_;simp only[go_sem,zb hp];exact Zs hk
 | false =>
 rw[b2,if_neg (by decide)] at h;cases b3:isT t [114,101,116,114,121] with
 | true =>
  rw[b3,if_pos rfl] at h;rw[xoM] at h;obtain⟨⟨t1,p1⟩,h1,h⟩:=h;cases h;refine zw (zl [] func152 rfl results152 ntmps152 ?_);simp only[go_sem];refine qd ht (zo hp) ?_;simp only[go_sem];refine Zy ht (zo hp) ?_;simp only[go_sem,b1];try (unfold zd;simp only[qc])
  refine Zy ht (zo hp) ?_;simp only[go_sem,b2];try (unfold zd;simp only[qc])
  refine Zy ht (zo hp) ?_;simp only[go_sem,b3];try (unfold zd;simp only[qc])
  refine QT hT h1 (zo hp) ?_;simp only[go_sem,zb hp];try (unfold zd;simp only[qc])
  refine Xx rfl rfl rfl rfl (fun _=>rfl) (zQ (.inr rfl) (fun x hx=>by cases hx)) ?_;unfold Q8;simp only[go_sem,zb hp];exact YA (z1:=0) (z2:=0) (m1 :=.full) (m2 :=.full) (nd:=zr 19 t.pos [] []) hk (.inr rfl) (.inr rfl)
 | false =>
 rw[b3,if_neg (by decide)] at h;cases b4:isT t [40] with
 | false =>
  rw[b4,if_neg (by decide)] at h;exact zw (xb hT ht b1 b2 b3 b4 h hp ⟨_,my (Jr h),hk⟩)
 | true =>
  rw[b4,if_pos rfl] at h;simp only[xoB,xpX] at h;obtain⟨t1,p1,h1,b5,p2,h2,h⟩:=h;cases b5 with
  | true =>
   simp only[if_true,xsJ,xpJ] at h;obtain⟨rfl,rfl⟩:=h;refine zw (zl [] func152 rfl results152 ntmps152 ?_);simp only[go_sem];refine qd ht (zo hp) ?_;simp only[go_sem];refine Zy ht (zo hp) ?_;simp only[go_sem,b1];try (unfold zd;simp only[qc])
   refine Zy ht (zo hp) ?_;simp only[go_sem,b2];try (unfold zd;simp only[qc])
   refine Zy ht (zo hp) ?_;simp only[go_sem,b3];try (unfold zd;simp only[qc])
   refine Zy ht (zo hp) ?_;simp only[go_sem,b4];try (unfold zd;simp only[qc])
   refine QT hT h1 (zo hp) ?_;simp only[go_sem,zb hp];try (unfold zd;simp only[qc])
   refine Y9 hT h2 (ze hp) ?_;simp only[go_sem,zb hp];try (unfold zd;simp only[qc])
   refine Xx rfl rfl rfl rfl (fun _=>rfl) (zQ (.inr rfl) (fun x hx=>by cases hx)) ?_;unfold Q8;simp only[go_sem,zb hp];exact YA (z1:=0) (z2:=0) (m1 :=.full) (m2 :=.full) (nd:=zr 3 t.pos [] []) hk (.inr rfl) (.inr rfl)
  | false =>
   simp only[Yd,if_false,xoB,xoM,xpX,xpJ] at h;obtain⟨x,p3,h3,p4,h4,rfl,rfl⟩:=h;refine zw (zl [] func152 rfl results152 ntmps152 ?_);simp only[go_sem];refine qd ht (zo hp) ?_;simp only[go_sem];refine Zy ht (zo hp) ?_;simp only[go_sem,b1];try (unfold zd;simp only[qc])
   refine Zy ht (zo hp) ?_;simp only[go_sem,b2];try (unfold zd;simp only[qc])
   refine Zy ht (zo hp) ?_;simp only[go_sem,b3];try (unfold zd;simp only[qc])
   refine Zy ht (zo hp) ?_;simp only[go_sem,b4];try (unfold zd;simp only[qc])
   refine QT hT h1 (zo hp) ?_;simp only[go_sem,zb hp];try (unfold zd;simp only[qc])
   refine Y9 hT h2 (ze hp) ?_;simp only[go_sem,zb hp];try (unfold zd;simp only[qc])
   refine WQ hT he _ _ _ h3 _ _ (ze hp) ?_;simp only[go_sem,zb hp];try (unfold zd;simp only[qc])
   refine Z6 hT h4 (ze hp) fun _=>?_;simp only[go_sem,zb hp];exact Zs hk
end Go.Proofs
