/- value, decl, fun, branch. -/
import Derived.Test.YtkokccjfpebomaaGreatDoorW5
set_option linter.all false
set_option maxHeartbeats 4000000
set_option maxRecDepth 8000
namespace Go.AL
theorem Da(n:Nat)(x:Tx)(b:Bool)(v:Nd):Ids n (.tuple [.sc (.string (ba x)),.sc (.bool b),zq v])=True:=eq_true (.tuple _ (by
 intro i hi;match i with
 | 0=>exact .sc _
 | 1=>exact .sc _
 | 2=>exact VI n v
 | i+3=>simp at hi;omega))
theorem UX(x:Tx)(b:Bool)(v:Nd):norm (.tuple [.sc (.string (ba x)),.sc (.bool b),zq v]) = .tuple [.sc (.string (ba x)),.sc (.bool b),zq v]:=by
 show SV.tuple [_,_,norm1 (zq v)]=_;rw[Kx];rfl
theorem UB{T:List Tk}{pid:Nat}{p:PS}{st:St}(hp:W8 T pid p st):HT st pid=True∧Qd st pid=True∧Zl st pid=[.slice .imm 4 (T.map ZC),.sc (.int .i64 p.pos),.sc (.int .i64 p.deep),.sc (.bool p.flat),.sc (.int .i64 p.bad),.sc (.int .i64 p.e)]:=zF hp
end Go.AL
namespace Go.Proofs
open Go Go.AL Tryz
def HV(T:List Tk)(pid:Nat)(f:FuncId)(e:PM (Tx×Bool×Nd)):Prop:=∀ (p:PS) (nm:Tx) (rc:Bool) (v:Nd) (p':PS),e p=some ((nm,rc,v),p')→∀ (K:SV→St→Prop) (st:St),W8 T pid p st→K (.tuple [.sc (.string (ba nm)),.sc (.bool rc),zq v]) (st.set pid (.cells (Qa T p')))→ACalls prog f [.ptr pid 0] K st
theorem Lj{T:List Tk}(hT:T.length≤100000){pid:Nat}{e:PM Nd}(he:HC T pid 79 e):HV T pid 104 (Xh T e):=by
 intro p nm rc v p' h K st hp hk;refine zl [] func104 rfl results104 ntmps104 ?_;unfold Xh Ye at h;simp only[xoB,xoM,xpX,xpJ] at h;obtain⟨b0,p1,h1,t1,p2,h2,p3,h3,p4,h4,v1,p5,h5,⟨rfl,rfl,rfl⟩,rfl⟩:=h;have y1:=UB (QJ (p':=p3) hp);cases b0 with
 | false =>
  simp only[Yd,false_and,if_false,xsJ] at h4;subst h4;simp only[go_sem];refine Y9 hT h1 (zo hp) ?_;simp only[go_sem,zb hp];refine Wi hT h2 (ze hp) ?_;simp only[go_sem,zb hp];refine Z6 hT h3 (ze hp) fun _=>?_;simp only[go_sem,zb hp,y1.1,y1.2.1,y1.2.2];try (unfold zd;simp only[qc])
  refine WI he rfl h5 (ze hp) ?_;simp only[go_sem,zb hp];exact Du (fun n=>Da n t1.text false v1) hk (UX _ _ _)
 | true =>
  by_cases hd:p3.deep<40
  ·rw[if_pos ⟨rfl,hd⟩] at h4;rw[xoB] at h4;obtain⟨b,h6,h4⟩:=h4;have c1:decide ((p3.deep:Int)<40)=true:=by simp;omega
   rw[xoM] at h6;obtain⟨t,h6,rfl⟩:=h6;cases hb:isT t [102,117,110] with
   | true =>
    rw[hb] at h4;rw[if_pos rfl] at h4;cases h4;simp only[go_sem];refine Y9 hT h1 (zo hp) ?_;simp only[go_sem,zb hp];refine Wi hT h2 (ze hp) ?_;simp only[go_sem,zb hp];refine Z6 hT h3 (ze hp) fun _=>?_;unfold Qa;simp only[go_sem,zb hp,y1.1,y1.2.1,y1.2.2,c1];try (unfold zd;simp only[qc])
    refine Zy h6 (ze hp) ?_;simp only[go_sem,zb hp,hb,c1];try (unfold zd;simp only[qc])
    refine WI he rfl h5 (ze hp) ?_;simp only[go_sem,zb hp];exact Du (fun n=>Da n t1.text true v1) hk (UX _ _ _)
   | false =>
    rw[hb] at h4;rw[if_neg (by simp)] at h4;simp only[go_sem];refine Y9 hT h1 (zo hp) ?_;simp only[go_sem,zb hp];refine Wi hT h2 (ze hp) ?_;simp only[go_sem,zb hp];refine Z6 hT h3 (ze hp) fun _=>?_;unfold Qa;simp only[go_sem,zb hp,y1.1,y1.2.1,y1.2.2,c1];try (unfold zd;simp only[qc])
    refine Zy h6 (ze hp) ?_;simp only[go_sem,zb hp,hb,c1];try (unfold zd;simp only[qc])
    refine Un h4 (ze hp) fun _=>?_;simp only[go_sem,zb hp];try (unfold zd;simp only[qc])
    refine WI he rfl h5 (ze hp) ?_;simp only[go_sem,zb hp];exact Du (fun n=>Da n t1.text true v1) hk (UX _ _ _)
  ·rw[if_neg (by simp[hd])] at h4;cases h4;have c1:decide ((p3.deep:Int)<40)=false:=by simp;omega
   simp only[go_sem];refine Y9 hT h1 (zo hp) ?_;simp only[go_sem,zb hp];refine Wi hT h2 (ze hp) ?_;simp only[go_sem,zb hp];refine Z6 hT h3 (ze hp) fun _=>?_;unfold Qa;simp only[go_sem,zb hp,y1.1,y1.2.1,y1.2.2,c1];try (unfold zd;simp only[qc])
   refine WI he rfl h5 (ze hp) ?_;simp only[go_sem,zb hp];exact Du (fun n=>Da n t1.text true v1) hk (UX _ _ _)
theorem Cr{T:List Tk}(hT:T.length≤100000){pid:Nat}{e:PM Nd}(he:HC T pid 79 e):HC T pid 124 (Ll T e):=by
 intro p r p' h K st hp hk;refine zw (zl [] func124 rfl results124 ntmps124 ?_);unfold Ll at h;simp only[xoB,xoM,xpX,xpJ] at h;obtain⟨t0,p1,h1,t1,p2,h2,p3,h3,x,p4,h4,rfl,rfl⟩:=h;simp only[go_sem];refine QT hT h1 (zo hp) ?_;simp only[go_sem,zb hp];refine Wi hT h2 (ze hp) ?_;simp only[go_sem,zb hp];refine Z6 hT h3 (ze hp) fun _=>?_;simp only[go_sem,zb hp];refine WI he rfl h4 (ze hp) ?_;simp only[go_sem,zb hp];refine Xx rfl rfl rfl rfl (fun _=>rfl) (zK _ _ (.inr rfl) 6 [x]) ?_;unfold Q8;simp only[go_sem,zb hp];exact YA (z1:=0) (z2:=6) (m1 :=.full) (m2 :=.full) (nd:=zr 6 t0.pos t1.text [x]) hk (.inr rfl) (.inl rfl)
theorem du{T:List Tk}(hT:T.length≤100000){pid:Nat}{e:PM Nd}(he:HC T pid 79 e):HC T pid 125 (JV T e):=by
 intro p r p' h K st hp hk;refine zw (zl [] func125 rfl results125 ntmps125 ?_);unfold JV at h;simp only[xoB,xoM,xpX,xpJ] at h;obtain⟨t0,p1,h1,x1,p2,h2,p3,h3,x2,p4,h4,p5,h5,x3,p6,h6,rfl,rfl⟩:=h;simp only[go_sem];refine QT hT h1 (zo hp) ?_;simp only[go_sem,zb hp];refine WI he rfl h2 (ze hp) ?_;simp only[go_sem,zb hp];refine Z6 hT h3 (ze hp) fun _=>?_;simp only[go_sem,zb hp];refine WI he rfl h4 (ze hp) ?_;simp only[go_sem,zb hp];refine Z6 hT h5 (ze hp) fun _=>?_;simp only[go_sem,zb hp];refine zA [] [(0,[6]),(0,[6]),(0,[6]),(0,[]),(3,[6]),(0,[]),(3,[7]),(1,[8])] mixed rfl ?_;simp only[go_sem];refine⟨_,_,WI he rfl h6 (ze hp) ⟨rfl,rfl⟩,?_⟩;simp only[go_sem,zb hp];rw[zp];refine⟨.slice .full 6 [zq x1,zq x2,zq x3],?_,?_⟩
 ·simp only[go_sem];exact⟨⟨[],by simp⟩,zK _ _ (.inr rfl) _ [_,_,_],.inl rfl⟩
 refine⟨_,_,Xx rfl rfl rfl rfl (fun _=>rfl) (zK _ _ (.inr rfl) 6 [x1,x2,x3]) ⟨rfl,rfl⟩,?_⟩;unfold Q8;simp only[go_sem,zb hp];exact YA (z1:=0) (z2:=6) (m1 :=.full) (m2 :=.full) (nd:=zr 10 t0.pos [] [x1,x2,x3]) hk (.inr rfl) (.inl rfl)
theorem m9{T:List Tk}(hT:T.length≤100000){pid:Nat}{e ty:PM Nd}(he:HC T pid 79 e)(hy:HC T pid 138 ty):HC T pid 76 (Jy T e ty):=by
 intro p r p' h K st hp hk;refine zw (zl [] func76 rfl results76 ntmps76 ?_);unfold Jy Ye at h;simp only[xoB,xoM,xpX,xpJ] at h;obtain⟨b,⟨t,h0,rfl⟩,u,pu,h1,p1,h2,rfl,rfl⟩:=h;cases hb:isT t [116,121,112,101] with
 | true =>
  rw[hb,if_pos rfl] at h1;simp only[go_sem];refine Zy h0 (zo hp) ?_;simp only[go_sem,hb];refine uk hT hy _ _ _ h1 _ _ (zo hp) ?_;simp only[go_sem,zb hp];refine Z6 hT h2 (ze hp) fun _=>?_;simp only[go_sem,zb hp];exact Zs hk
 | false =>
  rw[hb,if_neg (by simp)] at h1;simp only[xoB,xoM,xpX,xpJ] at h1;obtain⟨t1,p2,h3,nm,rc,v,p3,h4,rfl,rfl⟩:=h1;cases rc with
  | true =>
   simp only[go_sem];refine Zy h0 (zo hp) ?_;simp only[go_sem,hb];refine QT hT h3 (zo hp) ?_;have y1:=UB (QJ (p':=p2) hp);unfold Qa;simp only[go_sem,zb hp,y1.1,y1.2.1,y1.2.2];try (unfold zd;simp only[qc])
   refine Lj hT he _ _ _ _ _ h4 _ _ (ze hp) ?_;have y2:=UB (QJ (p':=p3) hp);unfold Qa;simp only[go_sem,zb hp,y2.1,y2.2.1,y2.2.2];try (unfold zd;simp only[qc])
   refine Xx rfl rfl rfl rfl (fun _=>rfl) (zK _ _ (.inr rfl) 6 [v]) ?_;unfold Q8;simp only[go_sem,zb hp];try (unfold zd;simp only[qc])
   refine Z6 hT h2 (ze hp) fun _=>?_;simp only[go_sem,zb hp];exact YA (z1:=0) (z2:=6) (m1 :=.full) (m2 :=.full) (nd:=zr 29 t1.pos nm [v]) hk (.inr rfl) (.inl rfl)
  | false =>
   simp only[go_sem];refine Zy h0 (zo hp) ?_;simp only[go_sem,hb];refine QT hT h3 (zo hp) ?_;have y1:=UB (QJ (p':=p2) hp);unfold Qa;simp only[go_sem,zb hp,y1.1,y1.2.1,y1.2.2];try (unfold zd;simp only[qc])
   refine Lj hT he _ _ _ _ _ h4 _ _ (ze hp) ?_;have y2:=UB (QJ (p':=p3) hp);unfold Qa;simp only[go_sem,zb hp,y2.1,y2.2.1,y2.2.2];try (unfold zd;simp only[qc])
   refine Xx rfl rfl rfl rfl (fun _=>rfl) (zK _ _ (.inr rfl) 6 [v]) ?_;unfold Q8;simp only[go_sem,zb hp];try (unfold zd;simp only[qc])
   refine Z6 hT h2 (ze hp) fun _=>?_;simp only[go_sem,zb hp];exact YA (z1:=0) (z2:=6) (m1 :=.full) (m2 :=.full) (nd:=zr 28 t1.pos nm [v]) hk (.inr rfl) (.inl rfl)
end Go.Proofs
