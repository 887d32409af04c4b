/- value, decl, fun, branch. -/
import Derived.Test.YtkokccjfpebomaaGreatDoorW5
set_option linter.all false
set_option maxHeartbeats 4000000
set_option maxRecDepth 8000
namespace Go.AL
theorem D'(n:Nat)(x:Tx)(b:Bool)(v:Nd):Ids n (.tuple [.sc (.string (ba x)),.sc (.bool b),zq v])=True:=eq_true (.tuple _ (by
 intro i hi;match i with
 | 0=>exact .sc _
 | 1=>exact .sc _
 | 2=>exact JX n v
 | i+3=>simp at hi;omega))
theorem Eh(x:Tx)(b:Bool)(v:Nd):norm (.tuple [.sc (.string (ba x)),.sc (.bool b),zq v]) = .tuple [.sc (.string (ba x)),.sc (.bool b),zq v]:=by
 show SV.tuple [_,_,norm1 (zq v)]=_;rw[KQ];rfl
theorem UV{T:List Tk}{pid:Nat}{p:PS}{st:St}(hp:KF T pid p st):Ex st pid=True∧ZH st pid=True∧qF st pid=[.slice .imm 4 (T.map ZF),.sc (.int .i64 p.pos),.sc (.int .i64 p.deep),.sc (.bool p.flat),.sc (.int .i64 p.bad),.sc (.int .i64 p.e)]:=zI hp
end Go.AL
namespace Go.Proofs
open Go Go.AL Tryz
def HV(T:List Tk)(pid:Nat)(f:FuncId)(e:PM (Tx×Bool×Nd)):Prop:=∀ (p:PS) (nm:Tx) (rc:Bool) (v:Nd) (p':PS),e p=some ((nm,rc,v),p')→∀ (K:SV→St→Prop) (st:St),KF T pid p st→K (.tuple [.sc (.string (ba nm)),.sc (.bool rc),zq v]) (st.set pid (.cells (Qn T p')))→ACalls prog f [.ptr pid 0] K st
theorem wc{T:List Tk}(hT:T.length≤100000){pid:Nat}{e:PM Nd}(he:HC T pid 79 e):HV T pid 104 (Q2 T e):=by
 intro p nm rc v p' h K st hp hk;refine zp [] func104 rfl results104 ntmps104 ?_;unfold Q2 Yj at h;simp only[xoB,xoM,xpX,xpJ] at h;obtain⟨b0,p1,h1,t1,p2,h2,p3,h3,p4,h4,v1,p5,h5,⟨rfl,rfl,rfl⟩,rfl⟩:=h;have y1:=UV (QV (p':=p3) hp);cases b0 with
 | false =>
  simp only[XU,false_and,if_false,xsJ] at h4;subst h4;simp only[go_sem];refine Jg hT h1 (zu hp) ?_;simp only[go_sem,zb hp];refine WU hT h2 (zh hp) ?_;simp only[go_sem,zb hp];refine Qe hT h3 (zh hp) fun _=>?_;simp only[go_sem,zb hp,y1.1,y1.2.1,y1.2.2];first | (unfold zf;simp only[ze,zc,zl,xsS,xsZ,xgS,xgZ]) | skip
  refine W1 he rfl h5 (zh hp) ?_;simp only[go_sem,zb hp];exact Bb (fun n=>D' n t1.text false v1) hk (Eh _ _ _)
 | true =>
  by_cases hd:p3.deep<40
  ·rw[if_pos ⟨rfl,hd⟩] at h4;rw[xoB] at h4;obtain⟨b,h6,h4⟩:=h4;have c1:decide ((p3.deep:Int)<40)=true:=by simp;omega
   rw[xoM] at h6;obtain⟨t,h6,rfl⟩:=h6;cases hb:isT t [102,117,110] with
   | true =>
    rw[hb] at h4;rw[if_pos rfl] at h4;cases h4;simp only[go_sem];refine Jg hT h1 (zu hp) ?_;simp only[go_sem,zb hp];refine WU hT h2 (zh hp) ?_;simp only[go_sem,zb hp];refine Qe hT h3 (zh hp) fun _=>?_;unfold Qn;simp only[go_sem,zb hp,y1.1,y1.2.1,y1.2.2,c1];first | (unfold zf;simp only[ze,zc,zl,xsS,xsZ,xgS,xgZ]) | skip
    refine ZG h6 (zh hp) ?_;simp only[go_sem,zb hp,hb,c1];first | (unfold zf;simp only[ze,zc,zl,xsS,xsZ,xgS,xgZ]) | skip
    refine W1 he rfl h5 (zh hp) ?_;simp only[go_sem,zb hp];exact Bb (fun n=>D' n t1.text true v1) hk (Eh _ _ _)
   | false =>
    rw[hb] at h4;rw[if_neg (by simp)] at h4;simp only[go_sem];refine Jg hT h1 (zu hp) ?_;simp only[go_sem,zb hp];refine WU hT h2 (zh hp) ?_;simp only[go_sem,zb hp];refine Qe hT h3 (zh hp) fun _=>?_;unfold Qn;simp only[go_sem,zb hp,y1.1,y1.2.1,y1.2.2,c1];first | (unfold zf;simp only[ze,zc,zl,xsS,xsZ,xgS,xgZ]) | skip
    refine ZG h6 (zh hp) ?_;simp only[go_sem,zb hp,hb,c1];first | (unfold zf;simp only[ze,zc,zl,xsS,xsZ,xgS,xgZ]) | skip
    refine U3 h4 (zh hp) fun _=>?_;simp only[go_sem,zb hp];first | (unfold zf;simp only[ze,zc,zl,xsS,xsZ,xgS,xgZ]) | skip
    refine W1 he rfl h5 (zh hp) ?_;simp only[go_sem,zb hp];exact Bb (fun n=>D' n t1.text true v1) hk (Eh _ _ _)
  ·rw[if_neg (by simp[hd])] at h4;cases h4;have c1:decide ((p3.deep:Int)<40)=false:=by simp;omega
   simp only[go_sem];refine Jg hT h1 (zu hp) ?_;simp only[go_sem,zb hp];refine WU hT h2 (zh hp) ?_;simp only[go_sem,zb hp];refine Qe hT h3 (zh hp) fun _=>?_;unfold Qn;simp only[go_sem,zb hp,y1.1,y1.2.1,y1.2.2,c1];first | (unfold zf;simp only[ze,zc,zl,xsS,xsZ,xgS,xgZ]) | skip
   refine W1 he rfl h5 (zh hp) ?_;simp only[go_sem,zb hp];exact Bb (fun n=>D' n t1.text true v1) hk (Eh _ _ _)
theorem OO{T:List Tk}(hT:T.length≤100000){pid:Nat}{e:PM Nd}(he:HC T pid 79 e):HC T pid 124 (Fl T e):=by
 intro p r p' h K st hp hk;refine zA (zp [] func124 rfl results124 ntmps124 ?_);unfold Fl at h;simp only[xoB,xoM,xpX,xpJ] at h;obtain⟨t0,p1,h1,t1,p2,h2,p3,h3,x,p4,h4,rfl,rfl⟩:=h;simp only[go_sem];refine Q9 hT h1 (zu hp) ?_;simp only[go_sem,zb hp];refine WU hT h2 (zh hp) ?_;simp only[go_sem,zb hp];refine Qe hT h3 (zh hp) fun _=>?_;simp only[go_sem,zb hp];refine W1 he rfl h4 (zh hp) ?_;simp only[go_sem,zb hp];refine XF rfl rfl rfl rfl (fun _=>rfl) (zM _ _ (.inr rfl) 6 [x]) ?_;unfold Xk;simp only[go_sem,zb hp];exact YO (z1:=0) (z2:=6) (m1 :=.full) (m2 :=.full) (nd:=zw 6 t0.pos t1.text [x]) hk (.inr rfl) (.inl rfl)
theorem dr{T:List Tk}(hT:T.length≤100000){pid:Nat}{e:PM Nd}(he:HC T pid 79 e):HC T pid 125 (JD T e):=by
 intro p r p' h K st hp hk;refine zA (zp [] func125 rfl results125 ntmps125 ?_);unfold JD at h;simp only[xoB,xoM,xpX,xpJ] at h;obtain⟨t0,p1,h1,x1,p2,h2,p3,h3,x2,p4,h4,p5,h5,x3,p6,h6,rfl,rfl⟩:=h;simp only[go_sem];refine Q9 hT h1 (zu hp) ?_;simp only[go_sem,zb hp];refine W1 he rfl h2 (zh hp) ?_;simp only[go_sem,zb hp];refine Qe hT h3 (zh hp) fun _=>?_;simp only[go_sem,zb hp];refine W1 he rfl h4 (zh hp) ?_;simp only[go_sem,zb hp];refine Qe hT h5 (zh hp) fun _=>?_;simp only[go_sem,zb hp];refine zB [] [(0,[6]),(0,[6]),(0,[6]),(0,[]),(3,[6]),(0,[]),(3,[7]),(1,[8])] mixed rfl ?_;simp only[go_sem];refine⟨_,_,W1 he rfl h6 (zh hp) ⟨rfl,rfl⟩,?_⟩;simp only[go_sem,zb hp];rw[zt];refine⟨.slice .full 6 [zq x1,zq x2,zq x3],?_,?_⟩
 ·simp only[go_sem];exact⟨⟨[],by simp⟩,zM _ _ (.inr rfl) _ [_,_,_],.inl rfl⟩
 refine⟨_,_,XF rfl rfl rfl rfl (fun _=>rfl) (zM _ _ (.inr rfl) 6 [x1,x2,x3]) ⟨rfl,rfl⟩,?_⟩;unfold Xk;simp only[go_sem,zb hp];exact YO (z1:=0) (z2:=6) (m1 :=.full) (m2 :=.full) (nd:=zw 10 t0.pos [] [x1,x2,x3]) hk (.inr rfl) (.inl rfl)
theorem nR{T:List Tk}(hT:T.length≤100000){pid:Nat}{e ty:PM Nd}(he:HC T pid 79 e)(hy:HC T pid 138 ty):HC T pid 76 (Y7 T e ty):=by
 intro p r p' h K st hp hk;refine zA (zp [] func76 rfl results76 ntmps76 ?_);unfold Y7 Yj at h;simp only[xoB,xoM,xpX,xpJ] at h;obtain⟨b,⟨t,h0,rfl⟩,u,pu,h1,p1,h2,rfl,rfl⟩:=h;cases hb:isT t [116,121,112,101] with
 | true =>
  rw[hb,if_pos rfl] at h1;simp only[go_sem];refine ZG h0 (zu hp) ?_;simp only[go_sem,hb];refine uX hT hy _ _ _ h1 _ _ (zu hp) ?_;simp only[go_sem,zb hp];refine Qe hT h2 (zh hp) fun _=>?_;simp only[go_sem,zb hp];exact Zw hk
 | false =>
  rw[hb,if_neg (by simp)] at h1;simp only[xoB,xoM,xpX,xpJ] at h1;obtain⟨t1,p2,h3,nm,rc,v,p3,h4,rfl,rfl⟩:=h1;cases rc with
  | true =>
   simp only[go_sem];refine ZG h0 (zu hp) ?_;simp only[go_sem,hb];refine Q9 hT h3 (zu hp) ?_;have y1:=UV (QV (p':=p2) hp);unfold Qn;simp only[go_sem,zb hp,y1.1,y1.2.1,y1.2.2];first | (unfold zf;simp only[ze,zc,zl,xsS,xsZ,xgS,xgZ]) | skip
   refine wc hT he _ _ _ _ _ h4 _ _ (zh hp) ?_;have y2:=UV (QV (p':=p3) hp);unfold Qn;simp only[go_sem,zb hp,y2.1,y2.2.1,y2.2.2];first | (unfold zf;simp only[ze,zc,zl,xsS,xsZ,xgS,xgZ]) | skip
   refine XF rfl rfl rfl rfl (fun _=>rfl) (zM _ _ (.inr rfl) 6 [v]) ?_;unfold Xk;simp only[go_sem,zb hp];first | (unfold zf;simp only[ze,zc,zl,xsS,xsZ,xgS,xgZ]) | skip
   refine Qe hT h2 (zh hp) fun _=>?_;simp only[go_sem,zb hp];exact YO (z1:=0) (z2:=6) (m1 :=.full) (m2 :=.full) (nd:=zw 29 t1.pos nm [v]) hk (.inr rfl) (.inl rfl)
  | false =>
   simp only[go_sem];refine ZG h0 (zu hp) ?_;simp only[go_sem,hb];refine Q9 hT h3 (zu hp) ?_;have y1:=UV (QV (p':=p2) hp);unfold Qn;simp only[go_sem,zb hp,y1.1,y1.2.1,y1.2.2];first | (unfold zf;simp only[ze,zc,zl,xsS,xsZ,xgS,xgZ]) | skip
   refine wc hT he _ _ _ _ _ h4 _ _ (zh hp) ?_;have y2:=UV (QV (p':=p3) hp);unfold Qn;simp only[go_sem,zb hp,y2.1,y2.2.1,y2.2.2];first | (unfold zf;simp only[ze,zc,zl,xsS,xsZ,xgS,xgZ]) | skip
   refine XF rfl rfl rfl rfl (fun _=>rfl) (zM _ _ (.inr rfl) 6 [v]) ?_;unfold Xk;simp only[go_sem,zb hp];first | (unfold zf;simp only[ze,zc,zl,xsS,xsZ,xgS,xgZ]) | skip
   refine Qe hT h2 (zh hp) fun _=>?_;simp only[go_sem,zb hp];exact YO (z1:=0) (z2:=6) (m1 :=.full) (m2 :=.full) (nd:=zw 28 t1.pos nm [v]) hk (.inr rfl) (.inl rfl)
end Go.Proofs
