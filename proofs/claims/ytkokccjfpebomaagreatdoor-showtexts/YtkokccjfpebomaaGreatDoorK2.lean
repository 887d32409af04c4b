/- The document's parser: app. Written by gen_w65.py. -/
import Derived.Test.YtkokccjfpebomaaGreatDoorN3
set_option linter.all false
set_option maxHeartbeats 4000000
set_option maxRecDepth 8000
namespace Go.AL
def keysK:List Tx:=[[112,114,105,110,116],[114,97,105,115,101],[115,112,97,119,110],[97,116,111,109,105,99,97,108,108,121],[116,118,97,114],[114,101,97,100],[119,114,105,116,101],[111,114,101,108,115,101]]
def kindsK:List Int:=[15,16,17,18,21,22,23,20]
theorem mF:∀ i:Fin 8,qT (keysK.getD i.1 [])=(kindsK.getD i.1 0,if 6≤i.1 then 2 else 1):=by decide
theorem xz:∀ i j:Fin 8,keysK.getD i.1 []=keysK.getD j.1 []→i=j:=by decide
theorem GV{t:Tk}{i:Nat}(hi:i<8)(h:isT t (keysK.getD i [])=true):YW t=(kindsK.getD i 0,if 6≤i then 2 else 1):=by
 obtain⟨h1,h2⟩:=Qm.1 h;unfold YW;rw[if_pos h1,h2];exact mF ⟨i,hi⟩
theorem gK{s:Tx}(h:0<(qT s).1):∃ i,i<8∧s=keysK.getD i []:=by
 unfold qT at h;repeat' split at h
 ·exact⟨0,by omega,by assumption⟩
 ·exact⟨1,by omega,by assumption⟩
 ·exact⟨2,by omega,by assumption⟩
 ·exact⟨3,by omega,by assumption⟩
 ·exact⟨4,by omega,by assumption⟩
 ·exact⟨5,by omega,by assumption⟩
 ·exact⟨6,by omega,by assumption⟩
 ·exact⟨7,by omega,by assumption⟩
 ·exact absurd h (by decide)
theorem gk{t:Tk}(h:0<(YW t).1):∃ i,i<8∧isT t (keysK.getD i [])=true:=by
 unfold YW at h;by_cases c:t.kind=5∨t.kind=6
 ·rw[if_pos c] at h;obtain⟨i,hi,hs⟩:=gK h;exact⟨i,hi,Qm.2 ⟨c,hs⟩⟩
 ·rw[if_neg c] at h;exact absurd h (by decide)
theorem GG:∀ i:Fin 8,0<(kindsK.getD i.1 0):=by decide
theorem HQ{i:Nat}(h:i<8):(keysK.map z8).getD i .any = .sc (.string (ba (keysK.getD i []))):=by
 have hl:i<keysK.length:=h;simp[xgE,hl,z8]
theorem kK{i:Nat}(h:i<8):(kindsK.map fun n=>SV.sc (.int .i64 n)).getD i .any = .sc (.int .i64 (kindsK.getD i 0)):=by
 have hl:i<kindsK.length:=h;simp[xgE,hl]
end Go.AL
namespace Go.Proofs
open Go Go.AL Tryz
def DE(T:List Tk)(pid:Nat)(f:FuncId)(e:PM Nd):Prop:=∀ (p:PS) (t:Tk) (r:Nd) (p':PS),zE T p=some t→t.kind=4→e p=some (r,p')→(r.names=[]∧r.kids=[])∧∀ (K:SV→St→Prop) (st:St),Jb T pid p st→K (pg r) (st.set pid (.cells (qz T p')))→ACalls prog f [.ptr pid 0] K st
theorem fB{T:List Tk}(hT:T.length≤100000){pid:Nat}{at':PM Nd}(ha:DC T pid 142 at'){p p':PS}{t:Tk}{r:Nd}(ht:zE T p=some t)(hc:0<(YW t).1)
  (h:((Zv T p).bind fun r=>(at' r.2).bind fun q=>if (YW t).2=2 then (at' q.2).map fun u=>(zr (YW t).1 r.1.pos [] [q.1,u.1],u.2) else some (zr (YW t).1 r.1.pos [] [q.1],q.2))=some (r,p')) {K:SV→St→Prop} {st:St} (hp:Jb T pid p st) (hk:K (zq r) (st.set pid (.cells (qz T p')))):ACalls prog 127 [.ptr pid 0] K st:=by
 obtain⟨i0,hi0,hb0⟩:=gk hc;have hkr:=GV hi0 hb0;rw[hkr] at h;refine zw (zl [] func127 rfl results127 ntmps127 ?_);simp only[go_sem];refine zt [] (fun k env s=>∃ i:Nat,k+i=8∧i≤i0∧env=(.ptr pid 0 :: .any :: .ptr st.length 0 :: .slice .full 1 (keysK.map z8) :: .slice .full 1 (kindsK.map fun n=>SV.sc (.int .i64 n)) :: .sc (.int .i64 i) :: .any :: .any :: .any::XQ (JW (QX [])))∧s=st++[.cells qu]) (n:=8) ?_ ⟨0,by omega,Nat.zero_le _,rfl,rfl⟩ ?_
 ·exact qv
 rintro k env s ⟨i,hi,hinv,rfl,rfl⟩;have hk8:(keysK.length:Int)=8:=rfl;have hk8':(kindsK.length:Int)=8:=rfl;have hlt:i<8:=by omega
 have c3:decide ((i:Int)<8)=true:=by simp;omega
 have w1:=KL i;have g:=HQ hlt;have g2:=kK hlt;cases hb:isT t (keysK.getD i []) with
 | false =>
  have hne:i≠i0:=by rintro rfl;rw[hb0] at hb;cases hb
  simp only[go_sem,xlM,hk8,hk8',c3,g];refine⟨by omega,?_⟩;refine qf ht hb (zm hp) ?_;simp only[go_sem,w1];refine⟨k-1,_,by omega,?_,i+1,by omega,by omega,rfl⟩;exact qv
 | true =>
  have hii:i=i0:=by
   have e1:=(Qm.1 hb).2;have e2:=(Qm.1 hb0).2;have:=xz ⟨i,hlt⟩ ⟨i0,hi0⟩ (e1.symm.trans e2);exact congrArg Fin.val this
  subst hii;simp only[xoB,xpX] at h;obtain⟨u,p1,h1,x,p2,h2,h⟩:=h;simp only[go_sem,xlM,hk8,hk8',c3,g];refine⟨by omega,?_⟩;refine qf ht hb (zm hp) ?_;simp only[go_sem];refine qH hT h1 (zm hp) ?_;simp only[go_sem,zb hp];refine zA [] [(0,[8]),(0,[8]),(0,[8]),(0,[8]),(0,[8]),(0,[8]),(0,[8]),(3,[8]),(1,[9])] mixed rfl ?_;simp only[go_sem,xlM,hk8,hk8',g2];refine⟨by omega,?_⟩;rw[zp];refine⟨.agg [.sc (.int .i64 (kindsK.getD i 0)),.sc (.string ⟨#[]⟩),.sc (.int .i64 0),.sc (.int .i64 u.pos),.slice .full 0 [],.slice .full 0 []],?_,?_⟩
  ·simp only[go_sem];exact⟨⟨[],by simp⟩,Uu (t:=[]) (zQ (.inr rfl) (fun x hx=>by cases hx)),.inl rfl⟩
  refine⟨_,_,⟨rfl,rfl⟩,?_⟩;simp only[go_sem,xlM,hk8,hk8',g2];refine⟨⟨?_,by omega⟩,?_⟩
  ·rw[zp];refine⟨_,?_,rfl⟩;simp only[go_sem];exact⟨⟨[],by simp⟩,Uu (t:=[]) (zQ (.inr rfl) (fun x hx=>by cases hx)),.inl rfl⟩
  refine Z2 (st.length+2) 5 6 0 (Za 2) (by simp) rfl ?_;rw[Qu];simp only[xlA,Xv,xlC,xlN,xsS,xsZ,xaA,xcA,xnA,Nat.zero_add,Nat.reduceAdd];refine zA [] [(0,[5]),(0,[5]),(0,[]),(3,[5]),(0,[]),(3,[7]),(0,[]),(1,[8])] mixed rfl ?_;simp only[go_sem];refine⟨_,_,ha _ _ _ h2 _ _ (zj hp) ⟨rfl,rfl⟩,?_⟩;simp only[go_sem,zb hp];rw[zp];refine⟨.slice .full 6 [zq x],?_,?_⟩
  ·simp only[go_sem];exact⟨⟨[],by simp⟩,zK _ _ (.inr rfl) _ [_],.inl rfl⟩
  simp only[go_sem];refine⟨_,_,⟨Tryz.app6d (by simp),rfl,rfl⟩,?_⟩;by_cases h6:6≤i
  ·have c6:decide ((6:Int)≤(i:Int))=true:=by simp;omega
   simp only[if_pos h6,if_true,xoM,xpX,xpJ] at h;obtain⟨y,p3,h3,rfl,rfl⟩:=h;simp only[go_sem,ge_iff_le,c6];refine zA [] [(0,[5]),(0,[5]),(0,[]),(3,[5]),(0,[]),(3,[7]),(0,[]),(1,[8])] mixed rfl ?_;simp only[go_sem];refine⟨_,_,ha _ _ _ h3 _ _ (zj hp) ⟨rfl,rfl⟩,?_⟩;simp only[go_sem,zb hp];rw[zp];refine⟨.slice .full 6 [zq y],?_,?_⟩
   ·simp only[go_sem];exact⟨⟨[],by simp⟩,zK _ _ (.inr rfl) _ [_],.inl rfl⟩
   simp only[go_sem];refine⟨_,_,⟨Tryz.app6d (by simp),rfl,rfl⟩,?_⟩;simp only[go_sem];exact⟨by decide,Qx (nd:=zr (kindsK.getD i 0) u.pos [] [x,y]) hk rfl⟩
  ·have c6:decide ((6:Int)≤(i:Int))=false:=by simp;omega
   rw[if_neg (by rw[if_neg h6];decide)] at h;cases h;simp only[go_sem,ge_iff_le,c6];exact⟨by decide,Qx (nd:=zr (kindsK.getD i 0) u.pos [] [x]) hk rfl⟩
theorem bR{T:List Tk}(hT:T.length≤100000){pid:Nat}{e pt:PM Nd}(ha:DC T pid 142 (Je T e pt))(hE:DE T pid 142 (Je T e pt)){p p':PS}{t:Tk}{r:Nd}(ht:zE T p=some t)(hc:¬ 0<(YW t).1)(h4:t.kind=4)
  (h:((Je T e pt p).bind fun r=>Kr T e pt (T.length+2) true r.1 r.2)=some (r,p')) {K:SV→St→Prop} {st:St} (hp:Jb T pid p st) (hk:K (zq r) (st.set pid (.cells (qz T p')))):ACalls prog 127 [.ptr pid 0] K st:=by
 simp only[xoB,xpX] at h;obtain⟨n0,p1,h1,hL⟩:=h;have c4:(t.kind==4)=true:=by simp[h4]
 obtain⟨hnm0,hE⟩:=hE _ _ _ _ ht h4 h1;refine zw (zl [] func127 rfl results127 ntmps127 ?_);simp only[go_sem];refine zt [] (fun k env s=>∃ i:Nat,k+i=8∧True∧env=(.ptr pid 0 :: .any :: .ptr st.length 0 :: .slice .full 1 (keysK.map z8) :: .slice .full 1 (kindsK.map fun n=>SV.sc (.int .i64 n)) :: .sc (.int .i64 i) :: .any :: .any :: .any::XQ (JW (QX [])))∧s=st++[.cells qu]) (n:=8) ?_ ⟨0,by omega,trivial,rfl,rfl⟩ ?_
 ·exact qv
 rintro k env s ⟨i,hi,hinv,rfl,rfl⟩;have hk8:(keysK.length:Int)=8:=rfl;have hk8':(kindsK.length:Int)=8:=rfl;by_cases hlt:i<8
 ·have c3:decide ((i:Int)<8)=true:=by simp;omega
  have w1:=KL i;have g:=HQ hlt;have hb:isT t (keysK.getD i [])=false:=by
   cases hb:isT t (keysK.getD i []) with
   | false=>rfl
   | true =>
    exfalso;apply hc;rw[GV hlt hb];exact GG ⟨i,hlt⟩
  simp only[go_sem,xlM,hk8,hk8',c3,g];refine⟨by omega,?_⟩;refine qf ht hb (zm hp) ?_;simp only[go_sem,w1];refine⟨k-1,_,by omega,?_,i+1,by omega,rfl⟩;exact qv
 have c3:decide ((i:Int)<8)=false:=by simp;omega
 simp only[go_sem,c3];refine zX ht (zm hp) ?_;simp only[go_sem,c4];refine hE _ _ (zm hp) ?_;rw[Fs hnm0];unfold qu;simp only[go_sem,zb hp,c4];refine Z2 (st.length+1) 5 6 0 (Za 1) (by simp) rfl ?_;rw[Qu];simp only[xlA,Xv,xlC,xlN,xsS,xsZ,xaA,xcA,xnA,Nat.zero_add,Nat.reduceAdd];refine zt [] (fun m env s=>∃ (nd:Nd) (q:PS) (k:Nat) (ex:St),Kr T e pt m true nd q=some (r,p')∧m+nd.kids.length≤T.length+2∧nd.names=[]∧env=(.ptr pid 0 :: .any :: .ptr st.length 0 :: .any :: .any::XQ (.sc (.bool true) :: .ptr (st.length+1) 0 :: .any :: .any::JW (QX []))) ∧
  s=st.set pid (.cells (qz T q))++(.cells qu :: .cells (qg (st.length+2) k nd) :: .tok k::ex)) (n:=T.length+2) ?_ ⟨n0,_,0,[],hL,by rw[hnm0.2];simp,hnm0.1,rfl,by unfold qg;rw[hnm0.2];rfl⟩ ?_
 ·exact qv
 rintro m env s ⟨nd,q,k,ex,hl,hm,hnm,rfl,rfl⟩;cases m with
 | zero=>cases hl
 | succ m =>
 unfold Kr at hl;rw[xoB] at hl;obtain⟨t,ht,hl⟩:=hl;unfold qg qu;cases hb:qx t with
 | false =>
  rw[if_neg (by rw[hb];decide)] at hl;cases hl;simp only[go_sem];refine VY ht hb (zj hp) ?_;simp only[go_sem];exact Qx hk hnm
 | true =>
  rw[if_pos hb,if_pos rfl] at hl;by_cases l4:nd.kids.length=4
  ·have l1:((nd.kids.length:Int)==4)=true:=by simp[l4]
   rw[if_pos l4,xoM] at hl;obtain⟨p2,h6,hl⟩:=hl;cases hl;simp only[go_sem];refine VY ht hb (zj hp) ?_;simp only[go_sem,xlM,l1];try (unfold zd;simp only[qc])
   refine Qk h6 (zj hp) fun _=>?_;simp only[go_sem,zb hp];exact Qx hk hnm
  ·have l1:((nd.kids.length:Int)==4)=false:=by simp;omega
   rw[if_neg l4,xoB] at hl;obtain⟨⟨x,p2⟩,h6,hl⟩:=hl;simp only[go_sem];refine VY ht hb (zj hp) ?_;simp only[go_sem,xlM,l1];refine zA [] [(0,[5]),(0,[5]),(0,[]),(3,[5]),(0,[]),(3,[7]),(0,[]),(1,[8])] mixed rfl ?_;simp only[go_sem];refine⟨_,_,ha _ _ _ h6 _ _ (zj hp) ⟨rfl,rfl⟩,?_⟩;simp only[go_sem,zb hp];rw[zp];refine⟨.slice .full 6 [zq x],?_,?_⟩
   ·simp only[go_sem];exact⟨⟨[],by simp⟩,zK _ _ (.inr rfl) _ [_],.inl rfl⟩
   simp only[go_sem];refine⟨_,_,⟨Tryz.app6d (by omega),rfl,rfl⟩,?_⟩;simp only[go_sem];refine⟨m,_,by omega,?_,nd.addKid x,p2,k+1,_,hl,by rw[zM];simp;omega,by rw[qb];exact hnm,rfl,by rw[qK,qI,Zo,Zn,zM,xmA];rfl⟩;exact qv
theorem tZ{T:List Tk}(hT:T.length≤100000){pid:Nat}{e pt:PM Nd}(ha:DC T pid 142 (Je T e pt)){p p':PS}{t:Tk}{r:Nd}(ht:zE T p=some t)(hc:¬ 0<(YW t).1)(h4:t.kind≠4)
  (h:((Je T e pt p).bind fun r=>Kr T e pt (T.length+2) false r.1 r.2)=some (r,p')) {K:SV→St→Prop} {st:St} (hp:Jb T pid p st) (hk:K (zq r) (st.set pid (.cells (qz T p')))):ACalls prog 127 [.ptr pid 0] K st:=by
 simp only[xoB,xpX] at h;obtain⟨n0,p1,h1,hL⟩:=h;have c4:(t.kind==4)=false:=by simp[h4]
 refine zw (zl [] func127 rfl results127 ntmps127 ?_);simp only[go_sem];refine zt [] (fun k env s=>∃ i:Nat,k+i=8∧True∧env=(.ptr pid 0 :: .any :: .ptr st.length 0 :: .slice .full 1 (keysK.map z8) :: .slice .full 1 (kindsK.map fun n=>SV.sc (.int .i64 n)) :: .sc (.int .i64 i) :: .any :: .any :: .any::XQ (JW (QX [])))∧s=st++[.cells qu]) (n:=8) ?_ ⟨0,by omega,trivial,rfl,rfl⟩ ?_
 ·exact qv
 rintro k env s ⟨i,hi,hinv,rfl,rfl⟩;have hk8:(keysK.length:Int)=8:=rfl;have hk8':(kindsK.length:Int)=8:=rfl;by_cases hlt:i<8
 ·have c3:decide ((i:Int)<8)=true:=by simp;omega
  have w1:=KL i;have g:=HQ hlt;have hb:isT t (keysK.getD i [])=false:=by
   cases hb:isT t (keysK.getD i []) with
   | false=>rfl
   | true =>
    exfalso;apply hc;rw[GV hlt hb];exact GG ⟨i,hlt⟩
  simp only[go_sem,xlM,hk8,hk8',c3,g];refine⟨by omega,?_⟩;refine qf ht hb (zm hp) ?_;simp only[go_sem,w1];refine⟨k-1,_,by omega,?_,i+1,by omega,rfl⟩;exact qv
 have c3:decide ((i:Int)<8)=false:=by simp;omega
 simp only[go_sem,c3];refine zX ht (zm hp) ?_;simp only[go_sem,c4];refine ha _ _ _ h1 _ _ (zm hp) ?_;unfold qu;simp only[go_sem,zb hp,c4];refine VE [] (st.length+1) (fun m env s=>∃ (nd:Nd) (q:PS) (ex:St),Kr T e pt m false nd q=some (r,p')∧env=(.ptr pid 0 :: .any :: .ptr st.length 0 :: .any :: .any::XQ (.sc (.bool false) :: .ptr (st.length+1) 0 :: .any :: .any::JW (QX []))) ∧
  s=st.set pid (.cells (qz T q))++(.cells qu :: .cells (zk nd)::ex)) (n:=T.length+2) ?_ ⟨_,_,Za 1,Yp _,n0,_,[],hL,rfl,by rw[Qu,za];rfl⟩ ?_
 ·exact qv
 rintro m env s ⟨nd,q,ex,hl,rfl,rfl⟩;cases m with
 | zero=>cases hl
 | succ m =>
 unfold Kr at hl;rw[xoB] at hl;obtain⟨t,ht,hl⟩:=hl;unfold zk qu;cases hb:qx t with
 | false =>
  rw[if_neg (by rw[hb];decide)] at hl;cases hl;simp only[go_sem];refine VY ht hb (zj hp) ?_;simp only[go_sem];exact Xf (m1 :=.imm) (m2 :=.imm) (z1:=1) (z2:=6) hk (.inl rfl) (.inl rfl)
 | true =>
  rw[if_pos hb,if_neg (by decide),xoB] at hl;obtain⟨⟨x,p2⟩,h6,hl⟩:=hl;simp only[go_sem];refine VY ht hb (zj hp) ?_;simp only[go_sem];refine zA [] [(0,[7]),(0,[7]),(0,[7]),(0,[]),(3,[7]),(0,[]),(0,[]),(1,[8])] mixed rfl ?_;simp only[go_sem];refine⟨_,_,ha _ _ _ h6 _ _ (zj hp) ⟨rfl,rfl⟩,?_⟩;simp only[go_sem,zb hp];rw[zp];refine⟨.slice .full 6 [.agg (zk nd),zq x],?_,?_⟩
  ·unfold zk;simp only[go_sem];exact⟨⟨[],by simp⟩,Yn _ nd x,.inl rfl⟩
  rw[zp];refine⟨.agg [.sc (.int .i64 7),.sc (.string ⟨#[]⟩),.sc (.int .i64 0),.sc (.int .i64 nd.pos),.slice .full 0 [],.slice .full 6 [.agg (zk nd),zq x]],?_,?_⟩
  ·unfold zk;simp only[go_sem];exact⟨⟨[],by simp⟩,Uu (t:=[]) (Yn _ nd x),.inl rfl⟩
  unfold zk;simp only[go_sem];refine⟨_,_,Nat.lt_succ_self _,?_,_,_,Za 1,kz (t:=[]),zr 7 nd.pos [] [nd,x],p2,_,hl,rfl,rfl⟩;exact qv
theorem rY{T:List Tk}(hT:T.length≤100000){pid:Nat}{e pt:PM Nd}(ha:DC T pid 142 (Je T e pt))(hE:DE T pid 142 (Je T e pt)):DC T pid 127 (wm T e pt):=by
 intro p r p' h K st hp hk;unfold wm at h;rw[xoB] at h;obtain⟨t,ht,h⟩:=h;by_cases hc:0<(YW t).1
 ·rw[if_pos hc] at h;exact fB hT ha ht hc h hp hk
 ·rw[if_neg hc] at h;by_cases h4:t.kind=4
  ·rw[show (t.kind==4)=true by simp[h4]] at h;exact bR hT ha hE ht hc h4 h hp hk
  ·rw[show (t.kind==4)=false by simp[h4]] at h;exact tZ hT ha ht hc h4 h hp hk
theorem Y6{T:List Tk}{pid:Nat}{p:PS}{t:Tk}(h:zE T p=some t){K:SV→St→Prop}{st:St}(hp:Jb T pid p st)(hk:K (.sc (.int .i64 t.pos)) st):ACalls prog 19 [.ptr pid 0] K st :=
 uK (by unfold bU;rw[h];rfl) hp hk
theorem mR{T:List Tk}(hT:T.length≤100000){pid:Nat}{e pt:PM Nd}:DE T pid 142 (Je T e pt):=by
 intro p t r p' ht h4 h;unfold Je at h;rw[ht] at h;simp only[xbS] at h;rw[if_neg (by omega),if_neg (by omega),if_neg (by omega),if_pos h4] at h;have hr:=Kb h;refine⟨hr,fun K st hp hk=>?_⟩;refine Z4 [] func142 rfl results142 ntmps142 ?_;have d1:(t.kind==1)=false:=by simp[h4]
 have d2:(t.kind==2)=false:=by simp[h4]
 have d3:(t.kind==3)=false:=by simp[h4]
 have d4:(t.kind==4)=true:=by simp[h4]
 rw[Fs hr] at hk;simp only[go_sem];refine Y6 ht (zm hp) ?_;simp only[go_sem];refine zX ht (zm hp) ?_;simp only[go_sem,d1,d2,d3,d4];refine wv hT h (zm hp) ?_;rw[Fs hr];simp only[go_sem,zb hp];exact⟨_,_,rfl,(Mod.refl _).set _ _ (Vt _ _ _),by
  rw[Z9];simp only[List.forall_mem_cons,YV,true_and];exact⟨zQ (.inr rfl) (fun x hx=>by cases hx),zQ (.inr rfl) (fun x hx=>by cases hx),fun x hx=>by cases hx⟩,hk⟩
theorem Hw{T:List Tk}(hT:T.length≤100000){pid:Nat}{k:Int}{p p':PS}{t:Tk}{r:Nd}(ht:zE T p=some t)(hk':(t.kind=1∧k=1)∨(t.kind=2∧k=2)∨(t.kind=3∧k=4)∨(t.kind=4∧k=5))(h:Y8 T k p=some (r,p')){K:SV→St→Prop}{st:St}(hp:Jb T pid p st)(hk:K (zq r) (st.set pid (.cells (qz T p')))):ACalls prog 142 [.ptr pid 0] K st:=by
 refine zw (zl [] func142 rfl results142 ntmps142 ?_);rcases hk' with⟨g,rfl⟩ | ⟨g,rfl⟩ | ⟨g,rfl⟩ | ⟨g,rfl⟩
 ·have d1:(t.kind==1)=true:=by simp[g]
  simp only[go_sem];refine Y6 ht (zm hp) ?_;simp only[go_sem];refine zX ht (zm hp) ?_;simp only[go_sem,d1];refine Wg hT h (zm hp) ?_;simp only[go_sem,zb hp];exact QA hk
 ·have d1:(t.kind==1)=false:=by simp[g]
  have d2:(t.kind==2)=true:=by simp[g]
  simp only[go_sem];refine Y6 ht (zm hp) ?_;simp only[go_sem];refine zX ht (zm hp) ?_;simp only[go_sem,d1,d2];refine Wg hT h (zm hp) ?_;simp only[go_sem,zb hp];exact QA hk
 ·have d1:(t.kind==1)=false:=by simp[g]
  have d2:(t.kind==2)=false:=by simp[g]
  have d3:(t.kind==3)=true:=by simp[g]
  simp only[go_sem];refine Y6 ht (zm hp) ?_;simp only[go_sem];refine zX ht (zm hp) ?_;simp only[go_sem,d1,d2,d3];refine Wg hT h (zm hp) ?_;simp only[go_sem,zb hp];exact QA hk
 ·have d1:(t.kind==1)=false:=by simp[g]
  have d2:(t.kind==2)=false:=by simp[g]
  have d3:(t.kind==3)=false:=by simp[g]
  have d4:(t.kind==4)=true:=by simp[g]
  simp only[go_sem];refine Y6 ht (zm hp) ?_;simp only[go_sem];refine zX ht (zm hp) ?_;simp only[go_sem,d1,d2,d3,d4];refine Wg hT h (zm hp) ?_;simp only[go_sem,zb hp];exact QA hk
theorem pY{T:List Tk}(hT:T.length≤100000){pid:Nat}{e pt:PM Nd}(hw:DC T pid 156 (QY e))(hpt:DC T pid 157 pt){p p':PS}{t:Tk}{r:Nd}(ht:zE T p=some t)(g:¬ t.kind=1∧¬ t.kind=2∧¬ t.kind=3∧¬ t.kind=4)
  (b1:isT t [114,101,116,114,121]=false) (b2:isT t [109,97,116,99,104]=false) (b3:isT t [116,114,121]=false) (b4:isT t [40]=false) (h:((Zh T 14 p).map fun p1=>(VQ,p1))=some (r,p')) {K:SV→St→Prop} {st:St} (hp:Jb T pid p st) (hk:K (zq r) (st.set pid (.cells (qz T p')))):ACalls prog 142 [.ptr pid 0] K st:=by
 refine zw (zl [] func142 rfl results142 ntmps142 ?_);have d1:(t.kind==1)=false:=by simp[g.1]
 have d2:(t.kind==2)=false:=by simp[g.2.1]
 have d3:(t.kind==3)=false:=by simp[g.2.2.1]
 have d4:(t.kind==4)=false:=by simp[g.2.2.2]
 simp only[xoM,xpJ] at h;obtain⟨q,h1,rfl,rfl⟩:=h;simp only[go_sem];refine Y6 ht (zm hp) ?_;simp only[go_sem];refine zX ht (zm hp) ?_;simp only[go_sem,d1,d2,d3,d4];refine qf ht b1 (zm hp) ?_;simp only[go_sem];refine qf ht b2 (zm hp) ?_;simp only[go_sem];refine qf ht b3 (zm hp) ?_;simp only[go_sem];refine qf ht b4 (zm hp) ?_;simp only[go_sem];refine Qk h1 (zm hp) fun _=>?_;simp only[go_sem,zb hp];exact Xf (m1 :=.full) (m2 :=.full) (z1:=0) (z2:=0) (nd:=VQ) hk (.inr rfl) (.inr rfl)
theorem pS{T:List Tk}(hT:T.length≤100000){pid:Nat}{e pt:PM Nd}(hw:DC T pid 156 (QY e))(hpt:DC T pid 157 pt){p p':PS}{t:Tk}{r:Nd}(ht:zE T p=some t)(g:¬ t.kind=1∧¬ t.kind=2∧¬ t.kind=3∧¬ t.kind=4)
  (b1:isT t [114,101,116,114,121]=true) (b2:isT t [109,97,116,99,104]=false) (b3:isT t [116,114,121]=false) (b4:isT t [40]=false) (h:((Zv T p).map fun r=>(zr 19 t.pos [] [],r.2))=some (r,p')) {K:SV→St→Prop} {st:St} (hp:Jb T pid p st) (hk:K (zq r) (st.set pid (.cells (qz T p')))):ACalls prog 142 [.ptr pid 0] K st:=by
 refine zw (zl [] func142 rfl results142 ntmps142 ?_);have d1:(t.kind==1)=false:=by simp[g.1]
 have d2:(t.kind==2)=false:=by simp[g.2.1]
 have d3:(t.kind==3)=false:=by simp[g.2.2.1]
 have d4:(t.kind==4)=false:=by simp[g.2.2.2]
 simp only[xoM,xpX,xpJ] at h;obtain⟨u,q,h1,rfl,rfl⟩:=h;simp only[go_sem];refine Y6 ht (zm hp) ?_;simp only[go_sem];refine zX ht (zm hp) ?_;simp only[go_sem,d1,d2,d3,d4];refine qf ht b1 (zm hp) ?_;simp only[go_sem];refine qf ht b2 (zm hp) ?_;simp only[go_sem];refine qf ht b3 (zm hp) ?_;simp only[go_sem];refine qf ht b4 (zm hp) ?_;simp only[go_sem];refine qH hT h1 (zm hp) ?_;simp only[go_sem,zb hp];exact Xf (m1 :=.full) (m2 :=.full) (z1:=0) (z2:=0) (nd:=zr 19 t.pos [] []) hk (.inr rfl) (.inr rfl)
theorem dg{T:List Tk}(hT:T.length≤100000){pid:Nat}{e pt:PM Nd}(hw:DC T pid 156 (QY e))(hpt:DC T pid 157 pt){p p':PS}{t:Tk}{r:Nd}(ht:zE T p=some t)(g:¬ t.kind=1∧¬ t.kind=2∧¬ t.kind=3∧¬ t.kind=4)
  (b1:isT t [114,101,116,114,121]=false) (b2:isT t [109,97,116,99,104]=false) (b3:isT t [116,114,121]=false) (b4:isT t [40]=true) (h:((Zv T p).bind fun r=>(Xc T [41] r.2).bind fun q=>if q.1 then some (zr 3 t.pos [] [],q.2) else (QY e q.2).bind fun u=>(qp T [41] u.2).map fun p1=>(u.1,p1))=some (r,p')) {K:SV→St→Prop} {st:St} (hp:Jb T pid p st) (hk:K (zq r) (st.set pid (.cells (qz T p')))):ACalls prog 142 [.ptr pid 0] K st:=by
 refine zw (zl [] func142 rfl results142 ntmps142 ?_);have d1:(t.kind==1)=false:=by simp[g.1]
 have d2:(t.kind==2)=false:=by simp[g.2.1]
 have d3:(t.kind==3)=false:=by simp[g.2.2.1]
 have d4:(t.kind==4)=false:=by simp[g.2.2.2]
 simp only[xoB,xpX] at h;obtain⟨u,p1,h1,b,p2,h2,h⟩:=h;obtain⟨t2,g1,g2,g3,g4,g5⟩:=WF h2;cases b with
 | true =>
  rw[if_pos rfl] at h;cases h;simp only[go_sem];refine Y6 ht (zm hp) ?_;simp only[go_sem];refine zX ht (zm hp) ?_;simp only[go_sem,d1,d2,d3,d4];refine qf ht b1 (zm hp) ?_;simp only[go_sem];refine qf ht b2 (zm hp) ?_;simp only[go_sem];refine qf ht b3 (zm hp) ?_;simp only[go_sem];refine qf ht b4 (zm hp) ?_;simp only[go_sem];refine qH hT h1 (zm hp) ?_;simp only[go_sem,zb hp];refine Q2 g3 (zj hp) ?_;simp only[go_sem,zb hp];try (unfold zd;simp only[qc])
  refine qH hT (g4 rfl).1 (zj hp) ?_;simp only[go_sem,zb hp];exact Xf (m1 :=.full) (m2 :=.full) (z1:=0) (z2:=0) (nd:=zr 3 t.pos [] []) hk (.inr rfl) (.inr rfl)
 | false =>
  obtain rfl:=g5 rfl;rw[if_neg (by decide)] at h;simp only[xoB,xoM,xpX,xpJ] at h;obtain⟨x,p3,h3,p4,h4,rfl,rfl⟩:=h;simp only[go_sem];refine Y6 ht (zm hp) ?_;simp only[go_sem];refine zX ht (zm hp) ?_;simp only[go_sem,d1,d2,d3,d4];refine qf ht b1 (zm hp) ?_;simp only[go_sem];refine qf ht b2 (zm hp) ?_;simp only[go_sem];refine qf ht b3 (zm hp) ?_;simp only[go_sem];refine qf ht b4 (zm hp) ?_;simp only[go_sem];refine qH hT h1 (zm hp) ?_;simp only[go_sem,zb hp];refine Q2 g3 (zj hp) ?_;simp only[go_sem,zb hp];try (unfold zd;simp only[qc])
  refine hw _ _ _ h3 _ _ (zj hp) ?_;simp only[go_sem,zb hp];try (unfold zd;simp only[qc])
  refine q9 hT h4 (zj hp) fun _=>?_;simp only[go_sem,zb hp];exact QA hk
theorem dR{T:List Tk}(hT:T.length≤100000){pid:Nat}{e pt:PM Nd}(hw:DC T pid 156 (QY e))(hpt:DC T pid 157 pt){p p':PS}{t:Tk}{r:Nd}(ht:zE T p=some t)(g:¬ t.kind=1∧¬ t.kind=2∧¬ t.kind=3∧¬ t.kind=4)
  (b1:isT t [114,101,116,114,121]=false) (b2:isT t [109,97,116,99,104]=false) (b3:isT t [116,114,121]=true) (b4:isT t [40]=false) (h:((Zv T p).bind fun r=>(QY e r.2).bind fun q=>(qp T [119,105,116,104] q.2).bind fun p1=>cy T e t.pos q.1 p1)=some (r,p')) {K:SV→St→Prop} {st:St} (hp:Jb T pid p st) (hk:K (zq r) (st.set pid (.cells (qz T p')))):ACalls prog 142 [.ptr pid 0] K st:=by
 refine zw (zl [] func142 rfl results142 ntmps142 ?_);have d1:(t.kind==1)=false:=by simp[g.1]
 have d2:(t.kind==2)=false:=by simp[g.2.1]
 have d3:(t.kind==3)=false:=by simp[g.2.2.1]
 have d4:(t.kind==4)=false:=by simp[g.2.2.2]
 unfold cy at h;simp only[xoB,xoM,xpX,xpJ] at h;obtain⟨u,p1,h1,x,p2,h2,p3,h3,s,p4,h4,p5,h5,v,p6,h6,p7,h7,rfl,rfl⟩:=h;simp only[go_sem];refine Y6 ht (zm hp) ?_;simp only[go_sem];refine zX ht (zm hp) ?_;simp only[go_sem,d1,d2,d3,d4];refine qf ht b1 (zm hp) ?_;simp only[go_sem];refine qf ht b2 (zm hp) ?_;simp only[go_sem];refine qf ht b3 (zm hp) ?_;simp only[go_sem];refine qf ht b4 (zm hp) ?_;simp only[go_sem];refine qH hT h1 (zm hp) ?_;simp only[go_sem,zb hp];refine Z2 (st.length+1) 5 6 0 (Za 1) (by simp) rfl ?_;rw[Qu];simp only[xlA,Xv,xlC,xlN,xsS,xsZ,xaA,xcA,xnA,Nat.zero_add,Nat.reduceAdd];refine zA [] [(0,[5]),(0,[5]),(0,[]),(3,[5]),(0,[]),(3,[7]),(0,[]),(1,[8])] mixed rfl ?_;simp only[go_sem];refine⟨_,_,hw _ _ _ h2 _ _ (zj hp) ⟨rfl,rfl⟩,?_⟩;simp only[go_sem,zb hp];rw[zp];refine⟨.slice .full 6 [zq x],?_,?_⟩
 ·simp only[go_sem];exact⟨⟨[],by simp⟩,zK _ _ (.inr rfl) _ [_],.inl rfl⟩
 simp only[go_sem];refine⟨_,_,⟨Tryz.app6d (by simp),rfl,rfl⟩,?_⟩;simp only[go_sem];try (unfold zd;simp only[qc])
 refine q9 hT h3 (zj hp) fun _=>?_;simp only[go_sem,zb hp];try (unfold zd;simp only[qc])
 refine JU hT (by decide) h4 (zj hp) ?_;simp only[go_sem,zb hp];try (unfold zd;simp only[qc])
 refine q9 hT h5 (zj hp) fun _=>?_;simp only[go_sem,zb hp];refine zA [] [(0,[5]),(0,[5]),(0,[]),(3,[5]),(0,[]),(3,[7]),(0,[]),(1,[8])] mixed rfl ?_;simp only[go_sem];refine⟨_,_,hw _ _ _ h6 _ _ (zj hp) ⟨rfl,rfl⟩,?_⟩;simp only[go_sem,zb hp];rw[zp];refine⟨.slice .full 6 [zq v],?_,?_⟩
 ·simp only[go_sem];exact⟨⟨[],by simp⟩,zK _ _ (.inr rfl) _ [_],.inl rfl⟩
 simp only[go_sem];refine⟨_,_,⟨Tryz.app6d (by simp),rfl,rfl⟩,?_⟩;simp only[go_sem];try (unfold zd;simp only[qc])
 refine q9 hT h7 (zj hp) fun _=>?_;simp only[go_sem,zb hp];exact Qx (nd:=zr 12 t.pos s [x,v]) hk rfl
theorem dJ{T:List Tk}(hT:T.length≤100000){pid:Nat}{e pt:PM Nd}(hw:DC T pid 156 (QY e))(hpt:DC T pid 157 pt){p p':PS}{t:Tk}{r:Nd}(ht:zE T p=some t)(g:¬ t.kind=1∧¬ t.kind=2∧¬ t.kind=3∧¬ t.kind=4)
  (b1:isT t [114,101,116,114,121]=false) (b2:isT t [109,97,116,99,104]=true) (b3:isT t [116,114,121]=false) (b4:isT t [40]=false) (h:((Zv T p).bind fun r=>(QY e r.2).bind fun q=>(qp T [119,105,116,104] q.2).bind fun p1=>GF T e pt t.pos q.1 p1)=some (r,p')) {K:SV→St→Prop} {st:St} (hp:Jb T pid p st) (hk:K (zq r) (st.set pid (.cells (qz T p')))):ACalls prog 142 [.ptr pid 0] K st:=by
 refine zw (zl [] func142 rfl results142 ntmps142 ?_);have d1:(t.kind==1)=false:=by simp[g.1]
 have d2:(t.kind==2)=false:=by simp[g.2.1]
 have d3:(t.kind==3)=false:=by simp[g.2.2.1]
 have d4:(t.kind==4)=false:=by simp[g.2.2.2]
 unfold GF at h;simp only[xoB,xoM,xpX,xpJ] at h;obtain⟨u,p1,h1,x,p2,h2,p3,h3,n1,p4,hL,p5,h5,rfl,rfl⟩:=h;simp only[go_sem];refine Y6 ht (zm hp) ?_;simp only[go_sem];refine zX ht (zm hp) ?_;simp only[go_sem,d1,d2,d3,d4];refine qf ht b1 (zm hp) ?_;simp only[go_sem];refine qf ht b2 (zm hp) ?_;simp only[go_sem];refine qf ht b3 (zm hp) ?_;simp only[go_sem];refine qf ht b4 (zm hp) ?_;simp only[go_sem];refine qH hT h1 (zm hp) ?_;simp only[go_sem,zb hp];refine Z2 (st.length+1) 5 6 0 (Za 1) (by simp) rfl ?_;rw[Qu];simp only[xlA,Xv,xlC,xlN,xsS,xsZ,xaA,xcA,xnA,Nat.zero_add,Nat.reduceAdd];refine zA [] [(0,[5]),(0,[5]),(0,[]),(3,[5]),(0,[]),(3,[7]),(0,[]),(1,[8])] mixed rfl ?_;simp only[go_sem];refine⟨_,_,hw _ _ _ h2 _ _ (zj hp) ⟨rfl,rfl⟩,?_⟩;simp only[go_sem,zb hp];rw[zp];refine⟨.slice .full 6 [zq x],?_,?_⟩
 ·simp only[go_sem];exact⟨⟨[],by simp⟩,zK _ _ (.inr rfl) _ [_],.inl rfl⟩
 simp only[go_sem];refine⟨_,_,⟨Tryz.app6d (by simp),rfl,rfl⟩,?_⟩;simp only[go_sem];try (unfold zd;simp only[qc])
 refine q9 hT h3 (zj hp) fun _=>?_;simp only[go_sem,zb hp];refine zt [] (fun m env s=>∃ (nd:Nd) (q:PS) (k:Nat) (more:Bool) (ex:St),KY T e pt m more nd q=some (n1,p4)∧2*m+nd.kids.length≤2*T.length+10∧nd.names=[]∧env=(.ptr pid 0 :: .any :: .ptr st.length 0 :: .ptr (st.length+1) 0 :: .any :: .any::XQ (.sc (.bool more) :: .any::JW (X3 (XD (QX []))))) ∧
  s=st.set pid (.cells (qz T q))++(.cells qu :: .cells (qg (st.length+2) k nd) :: .tok k::ex)) (n:=T.length+2) ?_ ⟨zr 11 t.pos [] [x],_,1,true,[],hL,by simp[zr,Nd.kids];omega,rfl,rfl,rfl⟩ ?_
 ·exact qv
 rintro m env s ⟨nd,q,k,more,ex,hl,hm,hnm,rfl,rfl⟩;cases m with
 | zero=>cases hl
 | succ m =>
 unfold KY at hl;unfold qg qu;cases more with
 | false =>
  rw[if_neg (by decide)] at hl;cases hl;simp only[go_sem];refine q9 hT h5 (zj hp) fun _=>?_;simp only[go_sem,zb hp];exact Qx hk hnm
 | true =>
  rw[if_pos rfl] at hl;simp only[xoB,xpX] at hl;obtain⟨q1,c1,q2,c2,y,q3,c3,q4,c4,w,q5,c5,b,c6,hl⟩:=hl;have hkid:((nd.addKid y).addKid w).kids.length=nd.kids.length+2:=by rw[zM,zM];simp
  by_cases l4:nd.kids.length=41
  ·have l1:((nd.kids.length:Int)==41)=true:=by simp[l4]
   unfold U5 at c1;rw[if_pos l4] at c1;simp only[go_sem,xlM,l1];refine Qk c1 (zj hp) fun _=>?_;simp only[go_sem,zb hp];try (unfold zd;simp only[qc])
   refine q9 hT c2 (zj hp) fun _=>?_;simp only[go_sem,zb hp];refine zA [] [(0,[5]),(0,[5]),(0,[]),(3,[5]),(0,[]),(3,[7]),(0,[]),(1,[8])] mixed rfl ?_;simp only[go_sem];refine⟨_,_,hpt _ _ _ c3 _ _ (zj hp) ⟨rfl,rfl⟩,?_⟩;simp only[go_sem,zb hp];rw[zp];refine⟨.slice .full 6 [zq y],?_,?_⟩
   ·simp only[go_sem];exact⟨⟨[],by simp⟩,zK _ _ (.inr rfl) _ [_],.inl rfl⟩
   simp only[go_sem];refine⟨_,_,⟨Tryz.app6d (by omega),rfl,rfl⟩,?_⟩;simp only[go_sem];try (unfold zd;simp only[qc])
   refine q9 hT c4 (zj hp) fun _=>?_;simp only[go_sem,zb hp];refine zA [] [(0,[5]),(0,[5]),(0,[]),(3,[5]),(0,[]),(3,[7]),(0,[]),(1,[8])] mixed rfl ?_;simp only[go_sem];refine⟨_,_,hw _ _ _ c5 _ _ (zj hp) ⟨rfl,rfl⟩,?_⟩;simp only[go_sem,zb hp];rw[zp];refine⟨.slice .full 6 [zq w],?_,?_⟩
   ·simp only[go_sem];exact⟨⟨[],by simp⟩,zK _ _ (.inr rfl) _ [_],.inl rfl⟩
   simp only[go_sem];refine⟨_,_,⟨Tryz.app6d (by simp;omega),rfl,rfl⟩,?_⟩;simp only[go_sem];try (unfold zd;simp only[qc])
   refine Q2 c6 (zj hp) ?_;simp only[go_sem,zb hp];refine⟨m,_,by omega,?_,(nd.addKid y).addKid w,q5,k+2,b,_,hl,by rw[hkid];omega,by rw[qb,qb];exact hnm,rfl,by rw[qK,qK,qI,qI,Zo,Zo,Zn,Zn,zM,zM,xmA,xmA,xaA];rfl⟩;exact qv
  ·have l1:((nd.kids.length:Int)==41)=false:=by simp;omega
   unfold U5 at c1;rw[if_neg l4] at c1;cases c1;simp only[go_sem,xlM,l1];try (unfold zd;simp only[qc])
   refine q9 hT c2 (zj hp) fun _=>?_;simp only[go_sem,zb hp];refine zA [] [(0,[5]),(0,[5]),(0,[]),(3,[5]),(0,[]),(3,[7]),(0,[]),(1,[8])] mixed rfl ?_;simp only[go_sem];refine⟨_,_,hpt _ _ _ c3 _ _ (zj hp) ⟨rfl,rfl⟩,?_⟩;simp only[go_sem,zb hp];rw[zp];refine⟨.slice .full 6 [zq y],?_,?_⟩
   ·simp only[go_sem];exact⟨⟨[],by simp⟩,zK _ _ (.inr rfl) _ [_],.inl rfl⟩
   simp only[go_sem];refine⟨_,_,⟨Tryz.app6d (by omega),rfl,rfl⟩,?_⟩;simp only[go_sem];try (unfold zd;simp only[qc])
   refine q9 hT c4 (zj hp) fun _=>?_;simp only[go_sem,zb hp];refine zA [] [(0,[5]),(0,[5]),(0,[]),(3,[5]),(0,[]),(3,[7]),(0,[]),(1,[8])] mixed rfl ?_;simp only[go_sem];refine⟨_,_,hw _ _ _ c5 _ _ (zj hp) ⟨rfl,rfl⟩,?_⟩;simp only[go_sem,zb hp];rw[zp];refine⟨.slice .full 6 [zq w],?_,?_⟩
   ·simp only[go_sem];exact⟨⟨[],by simp⟩,zK _ _ (.inr rfl) _ [_],.inl rfl⟩
   simp only[go_sem];refine⟨_,_,⟨Tryz.app6d (by simp;omega),rfl,rfl⟩,?_⟩;simp only[go_sem];try (unfold zd;simp only[qc])
   refine Q2 c6 (zj hp) ?_;simp only[go_sem,zb hp];refine⟨m,_,by omega,?_,(nd.addKid y).addKid w,q5,k+2,b,_,hl,by rw[hkid];omega,by rw[qb,qb];exact hnm,rfl,by rw[qK,qK,qI,qI,Zo,Zo,Zn,Zn,zM,zM,xmA,xmA,xaA];rfl⟩;exact qv
theorem fx{T:List Tk}(hT:T.length≤100000){pid:Nat}{e pt:PM Nd}(hw:DC T pid 156 (QY e))(hpt:DC T pid 157 pt):DC T pid 142 (Je T e pt):=by
 intro p r p' h K st hp hk;unfold Je at h;rw[xoB] at h;obtain⟨t,ht,h⟩:=h;by_cases k1:t.kind=1
 ·rw[if_pos k1] at h;exact Hw hT ht (.inl ⟨k1,rfl⟩) h hp hk
 rw[if_neg k1] at h;by_cases k2:t.kind=2
 ·rw[if_pos k2] at h;exact Hw hT ht (.inr (.inl ⟨k2,rfl⟩)) h hp hk
 rw[if_neg k2] at h;by_cases k3:t.kind=3
 ·rw[if_pos k3] at h;exact Hw hT ht (.inr (.inr (.inl ⟨k3,rfl⟩))) h hp hk
 rw[if_neg k3] at h;by_cases k4:t.kind=4
 ·rw[if_pos k4] at h;exact Hw hT ht (.inr (.inr (.inr ⟨k4,rfl⟩))) h hp hk
 rw[if_neg k4] at h;have no:∀ {a b:Tx},isT t a=true→a≠b→isT t b=false:=fun {a b} h1 h2=>by
  cases hb:isT t b with
  | false=>rfl
  | true=>exact absurd ((Qm.1 h1).2.symm.trans (Qm.1 hb).2) h2
 cases b1:isT t [114,101,116,114,121] with
 | true =>
  rw[if_pos b1] at h;exact pS hT hw hpt ht ⟨k1,k2,k3,k4⟩ b1 (no b1 (by decide)) (no b1 (by decide)) (no b1 (by decide)) h hp hk
 | false =>
 rw[if_neg (by rw[b1];decide)] at h;cases b4:isT t [40] with
 | true =>
  rw[if_pos b4] at h;exact dg hT hw hpt ht ⟨k1,k2,k3,k4⟩ b1 (no b4 (by decide)) (no b4 (by decide)) b4 h hp hk
 | false =>
 rw[if_neg (by rw[b4];decide)] at h;cases b3:isT t [116,114,121] with
 | true =>
  rw[if_pos b3] at h;exact dR hT hw hpt ht ⟨k1,k2,k3,k4⟩ b1 (no b3 (by decide)) b3 b4 h hp hk
 | false =>
 rw[if_neg (by rw[b3];decide)] at h;cases b2:isT t [109,97,116,99,104] with
 | true =>
  rw[if_pos b2] at h;exact dJ hT hw hpt ht ⟨k1,k2,k3,k4⟩ b1 b2 b3 b4 h hp hk
 | false =>
 rw[if_neg (by rw[b2];decide)] at h;exact pY hT hw hpt ht ⟨k1,k2,k3,k4⟩ b1 b2 b3 b4 h hp hk
end Go.Proofs
