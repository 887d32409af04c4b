/- The document's parser: app. Written by gen_w65.py. -/
import Derived.Test.YtkokccjfpebomaaGreatDoorN3
set_option linter.all false
set_option maxHeartbeats 4000000
set_option maxRecDepth 8000
namespace Go.AL
def keysK:List Tx:=[[112,114,105,110,116],[114,97,105,115,101],[115,112,97,119,110],[97,116,111,109,105,99,97,108,108,121],[116,118,97,114],[114,101,97,100],[119,114,105,116,101],[111,114,101,108,115,101]]
def kindsK:List Int:=[15,16,17,18,21,22,23,20]
theorem tG:∀ i:Fin 8,qJ (keysK.getD i.1 [])=(kindsK.getD i.1 0,if 6≤i.1 then 2 else 1):=by decide
theorem cB:∀ i j:Fin 8,keysK.getD i.1 []=keysK.getD j.1 []→i=j:=by decide
theorem Gm{t:Tk}{i:Nat}(hi:i<8)(h:isT t (keysK.getD i [])=true):Y6 t=(kindsK.getD i 0,if 6≤i then 2 else 1):=by
 obtain⟨h1,h2⟩:=Qu.1 h;unfold Y6;rw[if_pos h1,h2];exact tG ⟨i,hi⟩
theorem cS{s:Tx}(h:0<(qJ s).1):∃ i,i<8∧s=keysK.getD i []:=by
 unfold qJ at h;repeat' split at h
 ·exact⟨0,by omega,by assumption⟩
 ·exact⟨1,by omega,by assumption⟩
 ·exact⟨2,by omega,by assumption⟩
 ·exact⟨3,by omega,by assumption⟩
 ·exact⟨4,by omega,by assumption⟩
 ·exact⟨5,by omega,by assumption⟩
 ·exact⟨6,by omega,by assumption⟩
 ·exact⟨7,by omega,by assumption⟩
 ·exact absurd h (by decide)
theorem mM{t:Tk}(h:0<(Y6 t).1):∃ i,i<8∧isT t (keysK.getD i [])=true:=by
 unfold Y6 at h;by_cases c:t.kind=5∨t.kind=6
 ·rw[if_pos c] at h;obtain⟨i,hi,hs⟩:=cS h;exact⟨i,hi,Qu.2 ⟨c,hs⟩⟩
 ·rw[if_neg c] at h;exact absurd h (by decide)
theorem GH:∀ i:Fin 8,0<(kindsK.getD i.1 0):=by decide
theorem ES{i:Nat}(h:i<8):(keysK.map qc).getD i .any = .sc (.string (ba (keysK.getD i []))):=by
 have hl:i<keysK.length:=h;simp[xgE,hl,qc]
theorem xm{i:Nat}(h:i<8):(kindsK.map fun n=>SV.sc (.int .i64 n)).getD i .any = .sc (.int .i64 (kindsK.getD i 0)):=by
 have hl:i<kindsK.length:=h;simp[xgE,hl]
end Go.AL
namespace Go.Proofs
open Go Go.AL Tryz
def DE(T:List Tk)(pid:Nat)(f:FuncId)(e:PM Nd):Prop:=∀ (p:PS) (t:Tk) (r:Nd) (p':PS),zH T p=some t→t.kind=4→e p=some (r,p')→(r.names=[]∧r.kids=[])∧∀ (K:SV→St→Prop) (st:St),Jl T pid p st→K (pI r) (st.set pid (.cells (qK T p')))→ACalls prog f [.ptr pid 0] K st
theorem eX{T:List Tk}(hT:T.length≤100000){pid:Nat}{at':PM Nd}(ha:DC T pid 142 at'){p p':PS}{t:Tk}{r:Nd}(ht:zH T p=some t)(hc:0<(Y6 t).1)
  (h:((ZD T p).bind fun r=>(at' r.2).bind fun q=>if (Y6 t).2=2 then (at' q.2).map fun u=>(zw (Y6 t).1 r.1.pos [] [q.1,u.1],u.2) else some (zw (Y6 t).1 r.1.pos [] [q.1],q.2))=some (r,p')) {K:SV→St→Prop} {st:St} (hp:Jl T pid p st) (hk:K (zq r) (st.set pid (.cells (qK T p')))):ACalls prog 127 [.ptr pid 0] K st:=by
 obtain⟨i0,hi0,hb0⟩:=mM hc;have hkr:=Gm hi0 hb0;rw[hkr] at h;refine zA (zp [] func127 rfl results127 ntmps127 ?_);simp only[go_sem];refine zx [] (fun k env s=>∃ i:Nat,k+i=8∧i≤i0∧env=[.ptr pid 0,.any,.ptr st.length 0,.slice .full 1 (keysK.map qc),.slice .full 1 (kindsK.map fun n=>SV.sc (.int .i64 n)),.sc (.int .i64 i),.any,.any,.any,.any,.any,.any,.any,.any,.any,.any,.any,.any,.any,.any,.any,.any,.any,.any,.any,.any,.any,.any,.any,.any,.any,.any,.any,.any,.any,.any,.any,.any,.any,.any,.any,.any,.any,.any,.any,.any,.any,.any,.any,.any,.any,.any,.any,.any,.any,.any,.any,.any,.any,.any,.any,.any,.any,.any,.any,.any,.any,.any,.any,.any,.any,.any,.any,.any,.any,.any,.any,.any,.any,.any,.any,.any,.any,.any,.any]∧s=st++[.cells qv]) (n:=8) ?_ ⟨0,by omega,Nat.zero_le _,rfl,rfl⟩ ?_
 ·exact qu
 rintro k env s ⟨i,hi,hinv,rfl,rfl⟩;have hk8:(keysK.length:Int)=8:=rfl;have hk8':(kindsK.length:Int)=8:=rfl;have hlt:i<8:=by omega
 have c3:decide ((i:Int)<8)=true:=by simp;omega
 have w1:IntKind.i64.wrap ((i:Int)+1)=((i+1:Nat):Int):=by rw[IntWalk.i64_in _ (by omega)];rfl
 have g:=ES hlt;have g2:=xm hlt;cases hb:isT t (keysK.getD i []) with
 | false =>
  have hne:i≠i0:=by rintro rfl;rw[hb0] at hb;cases hb
  simp only[go_sem,xlM,hk8,hk8',c3,g];refine⟨by omega,?_⟩;refine qj ht hb (zr hp) ?_;simp only[go_sem,w1];refine⟨k-1,_,by omega,?_,i+1,by omega,by omega,rfl⟩;exact qu
 | true =>
  have hii:i=i0:=by
   have e1:=(Qu.1 hb).2;have e2:=(Qu.1 hb0).2;have:=cB ⟨i,hlt⟩ ⟨i0,hi0⟩ (e1.symm.trans e2);exact congrArg Fin.val this
  subst hii;simp only[xoB,xpX] at h;obtain⟨u,p1,h1,x,p2,h2,h⟩:=h;simp only[go_sem,xlM,hk8,hk8',c3,g];refine⟨by omega,?_⟩;refine qj ht hb (zr hp) ?_;simp only[go_sem];refine qQ hT h1 (zr hp) ?_;simp only[go_sem,zb hp];refine zB [] [(0,[8]),(0,[8]),(0,[8]),(0,[8]),(0,[8]),(0,[8]),(0,[8]),(3,[8]),(1,[9])] mixed rfl ?_;simp only[go_sem,xlM,hk8,hk8',g2];refine⟨by omega,?_⟩;rw[zt];refine⟨.agg [.sc (.int .i64 (kindsK.getD i 0)),.sc (.string ⟨#[]⟩),.sc (.int .i64 0),.sc (.int .i64 u.pos),.slice .full 0 [],.slice .full 0 []],?_,?_⟩
  ·simp only[go_sem];exact⟨⟨[],by simp⟩,U0 (t:=[]) (zT (.inr rfl) (fun x hx=>by cases hx)),.inl rfl⟩
  refine⟨_,_,⟨rfl,rfl⟩,?_⟩;simp only[go_sem,xlM,hk8,hk8',g2];refine⟨⟨?_,by omega⟩,?_⟩
  ·rw[zt];refine⟨_,?_,rfl⟩;simp only[go_sem];exact⟨⟨[],by simp⟩,U0 (t:=[]) (zT (.inr rfl) (fun x hx=>by cases hx)),.inl rfl⟩
  refine ZS (st.length+2) 5 6 0 (Zi 2) (by simp) rfl ?_;rw[QK];simp only[xlA,XG,xlC,xlN,xsS,xsZ,xaA,xcA,xnA,Nat.zero_add,Nat.reduceAdd];refine zB [] [(0,[5]),(0,[5]),(0,[]),(3,[5]),(0,[]),(3,[7]),(0,[]),(1,[8])] mixed rfl ?_;simp only[go_sem];refine⟨_,_,ha _ _ _ h2 _ _ (zm hp) ⟨rfl,rfl⟩,?_⟩;simp only[go_sem,zb hp];rw[zt];refine⟨.slice .full 6 [zq x],?_,?_⟩
  ·simp only[go_sem];exact⟨⟨[],by simp⟩,zM _ _ (.inr rfl) _ [_],.inl rfl⟩
  simp only[go_sem];refine⟨_,_,⟨Tryz.app6d (by simp),rfl,rfl⟩,?_⟩;by_cases h6:6≤i
  ·have c6:decide ((6:Int)≤(i:Int))=true:=by simp;omega
   simp only[if_pos h6,if_true,xoM,xpX,xpJ] at h;obtain⟨y,p3,h3,rfl,rfl⟩:=h;simp only[go_sem,ge_iff_le,c6];refine zB [] [(0,[5]),(0,[5]),(0,[]),(3,[5]),(0,[]),(3,[7]),(0,[]),(1,[8])] mixed rfl ?_;simp only[go_sem];refine⟨_,_,ha _ _ _ h3 _ _ (zm hp) ⟨rfl,rfl⟩,?_⟩;simp only[go_sem,zb hp];rw[zt];refine⟨.slice .full 6 [zq y],?_,?_⟩
   ·simp only[go_sem];exact⟨⟨[],by simp⟩,zM _ _ (.inr rfl) _ [_],.inl rfl⟩
   simp only[go_sem];refine⟨_,_,⟨Tryz.app6d (by simp),rfl,rfl⟩,?_⟩;simp only[go_sem];exact⟨by decide,QL (nd:=zw (kindsK.getD i 0) u.pos [] [x,y]) hk rfl⟩
  ·have c6:decide ((6:Int)≤(i:Int))=false:=by simp;omega
   rw[if_neg (by rw[if_neg h6];decide)] at h;cases h;simp only[go_sem,ge_iff_le,c6];exact⟨by decide,QL (nd:=zw (kindsK.getD i 0) u.pos [] [x]) hk rfl⟩
theorem aN{T:List Tk}(hT:T.length≤100000){pid:Nat}{e pt:PM Nd}(ha:DC T pid 142 (Ji T e pt))(hE:DE T pid 142 (Ji T e pt)){p p':PS}{t:Tk}{r:Nd}(ht:zH T p=some t)(hc:¬ 0<(Y6 t).1)(h4:t.kind=4)
  (h:((Ji T e pt p).bind fun r=>K8 T e pt (T.length+2) true r.1 r.2)=some (r,p')) {K:SV→St→Prop} {st:St} (hp:Jl T pid p st) (hk:K (zq r) (st.set pid (.cells (qK T p')))):ACalls prog 127 [.ptr pid 0] K st:=by
 simp only[xoB,xpX] at h;obtain⟨n0,p1,h1,hL⟩:=h;have c4:(t.kind==4)=true:=by simp[h4]
 obtain⟨hnm0,hE⟩:=hE _ _ _ _ ht h4 h1;refine zA (zp [] func127 rfl results127 ntmps127 ?_);simp only[go_sem];refine zx [] (fun k env s=>∃ i:Nat,k+i=8∧True∧env=[.ptr pid 0,.any,.ptr st.length 0,.slice .full 1 (keysK.map qc),.slice .full 1 (kindsK.map fun n=>SV.sc (.int .i64 n)),.sc (.int .i64 i),.any,.any,.any,.any,.any,.any,.any,.any,.any,.any,.any,.any,.any,.any,.any,.any,.any,.any,.any,.any,.any,.any,.any,.any,.any,.any,.any,.any,.any,.any,.any,.any,.any,.any,.any,.any,.any,.any,.any,.any,.any,.any,.any,.any,.any,.any,.any,.any,.any,.any,.any,.any,.any,.any,.any,.any,.any,.any,.any,.any,.any,.any,.any,.any,.any,.any,.any,.any,.any,.any,.any,.any,.any,.any,.any,.any,.any,.any,.any]∧s=st++[.cells qv]) (n:=8) ?_ ⟨0,by omega,trivial,rfl,rfl⟩ ?_
 ·exact qu
 rintro k env s ⟨i,hi,hinv,rfl,rfl⟩;have hk8:(keysK.length:Int)=8:=rfl;have hk8':(kindsK.length:Int)=8:=rfl;by_cases hlt:i<8
 ·have c3:decide ((i:Int)<8)=true:=by simp;omega
  have w1:IntKind.i64.wrap ((i:Int)+1)=((i+1:Nat):Int):=by rw[IntWalk.i64_in _ (by omega)];rfl
  have g:=ES hlt;have hb:isT t (keysK.getD i [])=false:=by
   cases hb:isT t (keysK.getD i []) with
   | false=>rfl
   | true =>
    exfalso;apply hc;rw[Gm hlt hb];exact GH ⟨i,hlt⟩
  simp only[go_sem,xlM,hk8,hk8',c3,g];refine⟨by omega,?_⟩;refine qj ht hb (zr hp) ?_;simp only[go_sem,w1];refine⟨k-1,_,by omega,?_,i+1,by omega,rfl⟩;exact qu
 have c3:decide ((i:Int)<8)=false:=by simp;omega
 simp only[go_sem,c3];refine qd ht (zr hp) ?_;simp only[go_sem,c4];refine hE _ _ (zr hp) ?_;rw[Lp hnm0];unfold qv;simp only[go_sem,zb hp,c4];refine ZS (st.length+1) 5 6 0 (Zi 1) (by simp) rfl ?_;rw[QK];simp only[xlA,XG,xlC,xlN,xsS,xsZ,xaA,xcA,xnA,Nat.zero_add,Nat.reduceAdd];refine zx [] (fun m env s=>∃ (nd:Nd) (q:PS) (k:Nat) (ex:St),K8 T e pt m true nd q=some (r,p')∧m+nd.kids.length≤T.length+2∧nd.names=[]∧env=[.ptr pid 0,.any,.ptr st.length 0,.any,.any,.any,.any,.any,.any,.sc (.bool true),.ptr (st.length+1) 0,.any,.any,.any,.any,.any,.any,.any,.any,.any,.any,.any,.any,.any,.any,.any,.any,.any,.any,.any,.any,.any,.any,.any,.any,.any,.any,.any,.any,.any,.any,.any,.any,.any,.any,.any,.any,.any,.any,.any,.any,.any,.any,.any,.any,.any,.any,.any,.any,.any,.any,.any,.any,.any,.any,.any,.any,.any,.any,.any,.any,.any,.any,.any,.any,.any,.any,.any,.any,.any,.any,.any,.any,.any,.any] ∧
  s=st.set pid (.cells (qK T q))++(.cells qv :: .cells (qk (st.length+2) k nd) :: .tok k::ex)) (n:=T.length+2) ?_ ⟨n0,_,0,[],hL,by rw[hnm0.2];simp,hnm0.1,rfl,by unfold qk;rw[hnm0.2];rfl⟩ ?_
 ·exact qu
 rintro m env s ⟨nd,q,k,ex,hl,hm,hnm,rfl,rfl⟩;cases m with
 | zero=>cases hl
 | succ m =>
 unfold K8 at hl;rw[xoB] at hl;obtain⟨t,ht,hl⟩:=hl;unfold qk qv;cases hb:qI t with
 | false =>
  rw[if_neg (by rw[hb];decide)] at hl;cases hl;simp only[go_sem];refine Ww ht hb (zm hp) ?_;simp only[go_sem];exact QL hk hnm
 | true =>
  rw[if_pos hb,if_pos rfl] at hl;by_cases l4:nd.kids.length=4
  ·have l1:((nd.kids.length:Int)==4)=true:=by simp[l4]
   rw[if_pos l4,xoM] at hl;obtain⟨p2,h6,hl⟩:=hl;cases hl;simp only[go_sem];refine Ww ht hb (zm hp) ?_;simp only[go_sem,xlM,l1];first | (unfold zf;simp only[ze,zc,zl,xsS,xsZ,xgS,xgZ]) | skip
   refine Qw h6 (zm hp) fun _=>?_;simp only[go_sem,zb hp];exact QL hk hnm
  ·have l1:((nd.kids.length:Int)==4)=false:=by simp;omega
   rw[if_neg l4,xoB] at hl;obtain⟨⟨x,p2⟩,h6,hl⟩:=hl;simp only[go_sem];refine Ww ht hb (zm hp) ?_;simp only[go_sem,xlM,l1];refine zB [] [(0,[5]),(0,[5]),(0,[]),(3,[5]),(0,[]),(3,[7]),(0,[]),(1,[8])] mixed rfl ?_;simp only[go_sem];refine⟨_,_,ha _ _ _ h6 _ _ (zm hp) ⟨rfl,rfl⟩,?_⟩;simp only[go_sem,zb hp];rw[zt];refine⟨.slice .full 6 [zq x],?_,?_⟩
   ·simp only[go_sem];exact⟨⟨[],by simp⟩,zM _ _ (.inr rfl) _ [_],.inl rfl⟩
   simp only[go_sem];refine⟨_,_,⟨Tryz.app6d (by omega),rfl,rfl⟩,?_⟩;simp only[go_sem];refine⟨m,_,by omega,?_,nd.addKid x,p2,k+1,_,hl,by rw[zQ];simp;omega,by rw[qh];exact hnm,rfl,by rw[qV,qT,Zv,Zu,zQ,xmA];rfl⟩;exact qu
theorem eZ{T:List Tk}(hT:T.length≤100000){pid:Nat}{e pt:PM Nd}(ha:DC T pid 142 (Ji T e pt)){p p':PS}{t:Tk}{r:Nd}(ht:zH T p=some t)(hc:¬ 0<(Y6 t).1)(h4:t.kind≠4)
  (h:((Ji T e pt p).bind fun r=>K8 T e pt (T.length+2) false r.1 r.2)=some (r,p')) {K:SV→St→Prop} {st:St} (hp:Jl T pid p st) (hk:K (zq r) (st.set pid (.cells (qK T p')))):ACalls prog 127 [.ptr pid 0] K st:=by
 simp only[xoB,xpX] at h;obtain⟨n0,p1,h1,hL⟩:=h;have c4:(t.kind==4)=false:=by simp[h4]
 refine zA (zp [] func127 rfl results127 ntmps127 ?_);simp only[go_sem];refine zx [] (fun k env s=>∃ i:Nat,k+i=8∧True∧env=[.ptr pid 0,.any,.ptr st.length 0,.slice .full 1 (keysK.map qc),.slice .full 1 (kindsK.map fun n=>SV.sc (.int .i64 n)),.sc (.int .i64 i),.any,.any,.any,.any,.any,.any,.any,.any,.any,.any,.any,.any,.any,.any,.any,.any,.any,.any,.any,.any,.any,.any,.any,.any,.any,.any,.any,.any,.any,.any,.any,.any,.any,.any,.any,.any,.any,.any,.any,.any,.any,.any,.any,.any,.any,.any,.any,.any,.any,.any,.any,.any,.any,.any,.any,.any,.any,.any,.any,.any,.any,.any,.any,.any,.any,.any,.any,.any,.any,.any,.any,.any,.any,.any,.any,.any,.any,.any,.any]∧s=st++[.cells qv]) (n:=8) ?_ ⟨0,by omega,trivial,rfl,rfl⟩ ?_
 ·exact qu
 rintro k env s ⟨i,hi,hinv,rfl,rfl⟩;have hk8:(keysK.length:Int)=8:=rfl;have hk8':(kindsK.length:Int)=8:=rfl;by_cases hlt:i<8
 ·have c3:decide ((i:Int)<8)=true:=by simp;omega
  have w1:IntKind.i64.wrap ((i:Int)+1)=((i+1:Nat):Int):=by rw[IntWalk.i64_in _ (by omega)];rfl
  have g:=ES hlt;have hb:isT t (keysK.getD i [])=false:=by
   cases hb:isT t (keysK.getD i []) with
   | false=>rfl
   | true =>
    exfalso;apply hc;rw[Gm hlt hb];exact GH ⟨i,hlt⟩
  simp only[go_sem,xlM,hk8,hk8',c3,g];refine⟨by omega,?_⟩;refine qj ht hb (zr hp) ?_;simp only[go_sem,w1];refine⟨k-1,_,by omega,?_,i+1,by omega,rfl⟩;exact qu
 have c3:decide ((i:Int)<8)=false:=by simp;omega
 simp only[go_sem,c3];refine qd ht (zr hp) ?_;simp only[go_sem,c4];refine ha _ _ _ h1 _ _ (zr hp) ?_;unfold qv;simp only[go_sem,zb hp,c4];refine V3 [] (st.length+1) (fun m env s=>∃ (nd:Nd) (q:PS) (ex:St),K8 T e pt m false nd q=some (r,p')∧env=[.ptr pid 0,.any,.ptr st.length 0,.any,.any,.any,.any,.any,.any,.sc (.bool false),.ptr (st.length+1) 0,.any,.any,.any,.any,.any,.any,.any,.any,.any,.any,.any,.any,.any,.any,.any,.any,.any,.any,.any,.any,.any,.any,.any,.any,.any,.any,.any,.any,.any,.any,.any,.any,.any,.any,.any,.any,.any,.any,.any,.any,.any,.any,.any,.any,.any,.any,.any,.any,.any,.any,.any,.any,.any,.any,.any,.any,.any,.any,.any,.any,.any,.any,.any,.any,.any,.any,.any,.any,.any,.any,.any,.any,.any,.any] ∧
  s=st.set pid (.cells (qK T q))++(.cells qv :: .cells (zn nd)::ex)) (n:=T.length+2) ?_ ⟨_,_,Zi 1,YB _,n0,_,[],hL,rfl,by rw[QK,za];rfl⟩ ?_
 ·exact qu
 rintro m env s ⟨nd,q,ex,hl,rfl,rfl⟩;cases m with
 | zero=>cases hl
 | succ m =>
 unfold K8 at hl;rw[xoB] at hl;obtain⟨t,ht,hl⟩:=hl;unfold zn qv;cases hb:qI t with
 | false =>
  rw[if_neg (by rw[hb];decide)] at hl;cases hl;simp only[go_sem];refine Ww ht hb (zm hp) ?_;simp only[go_sem];exact Xv (m1 :=.imm) (m2 :=.imm) (z1:=1) (z2:=6) hk (.inl rfl) (.inl rfl)
 | true =>
  rw[if_pos hb,if_neg (by decide),xoB] at hl;obtain⟨⟨x,p2⟩,h6,hl⟩:=hl;simp only[go_sem];refine Ww ht hb (zm hp) ?_;simp only[go_sem];refine zB [] [(0,[7]),(0,[7]),(0,[7]),(0,[]),(3,[7]),(0,[]),(0,[]),(1,[8])] mixed rfl ?_;simp only[go_sem];refine⟨_,_,ha _ _ _ h6 _ _ (zm hp) ⟨rfl,rfl⟩,?_⟩;simp only[go_sem,zb hp];rw[zt];refine⟨.slice .full 6 [.agg (zn nd),zq x],?_,?_⟩
  ·unfold zn;simp only[go_sem];exact⟨⟨[],by simp⟩,Yv _ nd x,.inl rfl⟩
  rw[zt];refine⟨.agg [.sc (.int .i64 7),.sc (.string ⟨#[]⟩),.sc (.int .i64 0),.sc (.int .i64 nd.pos),.slice .full 0 [],.slice .full 6 [.agg (zn nd),zq x]],?_,?_⟩
  ·unfold zn;simp only[go_sem];exact⟨⟨[],by simp⟩,U0 (t:=[]) (Yv _ nd x),.inl rfl⟩
  unfold zn;simp only[go_sem];refine⟨_,_,Nat.lt_succ_self _,?_,_,_,Zi 1,yQ (t:=[]),zw 7 nd.pos [] [nd,x],p2,_,hl,rfl,rfl⟩;exact qu
theorem AQ{T:List Tk}(hT:T.length≤100000){pid:Nat}{e pt:PM Nd}(ha:DC T pid 142 (Ji T e pt))(hE:DE T pid 142 (Ji T e pt)):DC T pid 127 (vI T e pt):=by
 intro p r p' h K st hp hk;unfold vI at h;rw[xoB] at h;obtain⟨t,ht,h⟩:=h;by_cases hc:0<(Y6 t).1
 ·rw[if_pos hc] at h;exact eX hT ha ht hc h hp hk
 ·rw[if_neg hc] at h;by_cases h4:t.kind=4
  ·rw[show (t.kind==4)=true by simp[h4]] at h;exact aN hT ha hE ht hc h4 h hp hk
  ·rw[show (t.kind==4)=false by simp[h4]] at h;exact eZ hT ha ht hc h4 h hp hk
theorem Jk{T:List Tk}{pid:Nat}{p:PS}{t:Tk}(h:zH T p=some t){K:SV→St→Prop}{st:St}(hp:Jl T pid p st)(hk:K (.sc (.int .i64 t.pos)) st):ACalls prog 19 [.ptr pid 0] K st :=
 xP (by unfold lP;rw[h];rfl) hp hk
theorem bt{T:List Tk}(hT:T.length≤100000){pid:Nat}{e pt:PM Nd}:DE T pid 142 (Ji T e pt):=by
 intro p t r p' ht h4 h;unfold Ji at h;rw[ht] at h;simp only[xbS] at h;rw[if_neg (by omega),if_neg (by omega),if_neg (by omega),if_pos h4] at h;have hr:=Ub h;refine⟨hr,fun K st hp hk=>?_⟩;refine Qj [] func142 rfl results142 ntmps142 ?_;have d1:(t.kind==1)=false:=by simp[h4]
 have d2:(t.kind==2)=false:=by simp[h4]
 have d3:(t.kind==3)=false:=by simp[h4]
 have d4:(t.kind==4)=true:=by simp[h4]
 rw[Lp hr] at hk;simp only[go_sem];refine Jk ht (zr hp) ?_;simp only[go_sem];refine qd ht (zr hp) ?_;simp only[go_sem,d1,d2,d3,d4];refine kL hT h (zr hp) ?_;rw[Lp hr];simp only[go_sem,zb hp];exact⟨_,_,rfl,(Mod.refl _).set _ _ (VO _ _ _),by
  rw[Qc];simp only[List.forall_mem_cons,Y8,true_and];exact⟨zT (.inr rfl) (fun x hx=>by cases hx),zT (.inr rfl) (fun x hx=>by cases hx),fun x hx=>by cases hx⟩,hk⟩
theorem Hy{T:List Tk}(hT:T.length≤100000){pid:Nat}{k:Int}{p p':PS}{t:Tk}{r:Nd}(ht:zH T p=some t)(hk':(t.kind=1∧k=1)∨(t.kind=2∧k=2)∨(t.kind=3∧k=4)∨(t.kind=4∧k=5))(h:Jh T k p=some (r,p')){K:SV→St→Prop}{st:St}(hp:Jl T pid p st)(hk:K (zq r) (st.set pid (.cells (qK T p')))):ACalls prog 142 [.ptr pid 0] K st:=by
 refine zA (zp [] func142 rfl results142 ntmps142 ?_);rcases hk' with⟨g,rfl⟩ | ⟨g,rfl⟩ | ⟨g,rfl⟩ | ⟨g,rfl⟩
 ·have d1:(t.kind==1)=true:=by simp[g]
  simp only[go_sem];refine Jk ht (zr hp) ?_;simp only[go_sem];refine qd ht (zr hp) ?_;simp only[go_sem,d1];refine W6 hT h (zr hp) ?_;simp only[go_sem,zb hp];exact QJ hk
 ·have d1:(t.kind==1)=false:=by simp[g]
  have d2:(t.kind==2)=true:=by simp[g]
  simp only[go_sem];refine Jk ht (zr hp) ?_;simp only[go_sem];refine qd ht (zr hp) ?_;simp only[go_sem,d1,d2];refine W6 hT h (zr hp) ?_;simp only[go_sem,zb hp];exact QJ hk
 ·have d1:(t.kind==1)=false:=by simp[g]
  have d2:(t.kind==2)=false:=by simp[g]
  have d3:(t.kind==3)=true:=by simp[g]
  simp only[go_sem];refine Jk ht (zr hp) ?_;simp only[go_sem];refine qd ht (zr hp) ?_;simp only[go_sem,d1,d2,d3];refine W6 hT h (zr hp) ?_;simp only[go_sem,zb hp];exact QJ hk
 ·have d1:(t.kind==1)=false:=by simp[g]
  have d2:(t.kind==2)=false:=by simp[g]
  have d3:(t.kind==3)=false:=by simp[g]
  have d4:(t.kind==4)=true:=by simp[g]
  simp only[go_sem];refine Jk ht (zr hp) ?_;simp only[go_sem];refine qd ht (zr hp) ?_;simp only[go_sem,d1,d2,d3,d4];refine W6 hT h (zr hp) ?_;simp only[go_sem,zb hp];exact QJ hk
theorem bu{T:List Tk}(hT:T.length≤100000){pid:Nat}{e pt:PM Nd}(hw:DC T pid 156 (Xm e))(hpt:DC T pid 157 pt){p p':PS}{t:Tk}{r:Nd}(ht:zH T p=some t)(g:¬ t.kind=1∧¬ t.kind=2∧¬ t.kind=3∧¬ t.kind=4)
  (b1:isT t [114,101,116,114,121]=false) (b2:isT t [109,97,116,99,104]=false) (b3:isT t [116,114,121]=false) (b4:isT t [40]=false) (h:((Zq T 14 p).map fun p1=>(Wf,p1))=some (r,p')) {K:SV→St→Prop} {st:St} (hp:Jl T pid p st) (hk:K (zq r) (st.set pid (.cells (qK T p')))):ACalls prog 142 [.ptr pid 0] K st:=by
 refine zA (zp [] func142 rfl results142 ntmps142 ?_);have d1:(t.kind==1)=false:=by simp[g.1]
 have d2:(t.kind==2)=false:=by simp[g.2.1]
 have d3:(t.kind==3)=false:=by simp[g.2.2.1]
 have d4:(t.kind==4)=false:=by simp[g.2.2.2]
 simp only[xoM,xpJ] at h;obtain⟨q,h1,rfl,rfl⟩:=h;simp only[go_sem];refine Jk ht (zr hp) ?_;simp only[go_sem];refine qd ht (zr hp) ?_;simp only[go_sem,d1,d2,d3,d4];refine qj ht b1 (zr hp) ?_;simp only[go_sem];refine qj ht b2 (zr hp) ?_;simp only[go_sem];refine qj ht b3 (zr hp) ?_;simp only[go_sem];refine qj ht b4 (zr hp) ?_;simp only[go_sem];refine Qw h1 (zr hp) fun _=>?_;simp only[go_sem,zb hp];exact Xv (m1 :=.full) (m2 :=.full) (z1:=0) (z2:=0) (nd:=Wf) hk (.inr rfl) (.inr rfl)
theorem fI{T:List Tk}(hT:T.length≤100000){pid:Nat}{e pt:PM Nd}(hw:DC T pid 156 (Xm e))(hpt:DC T pid 157 pt){p p':PS}{t:Tk}{r:Nd}(ht:zH T p=some t)(g:¬ t.kind=1∧¬ t.kind=2∧¬ t.kind=3∧¬ t.kind=4)
  (b1:isT t [114,101,116,114,121]=true) (b2:isT t [109,97,116,99,104]=false) (b3:isT t [116,114,121]=false) (b4:isT t [40]=false) (h:((ZD T p).map fun r=>(zw 19 t.pos [] [],r.2))=some (r,p')) {K:SV→St→Prop} {st:St} (hp:Jl T pid p st) (hk:K (zq r) (st.set pid (.cells (qK T p')))):ACalls prog 142 [.ptr pid 0] K st:=by
 refine zA (zp [] func142 rfl results142 ntmps142 ?_);have d1:(t.kind==1)=false:=by simp[g.1]
 have d2:(t.kind==2)=false:=by simp[g.2.1]
 have d3:(t.kind==3)=false:=by simp[g.2.2.1]
 have d4:(t.kind==4)=false:=by simp[g.2.2.2]
 simp only[xoM,xpX,xpJ] at h;obtain⟨u,q,h1,rfl,rfl⟩:=h;simp only[go_sem];refine Jk ht (zr hp) ?_;simp only[go_sem];refine qd ht (zr hp) ?_;simp only[go_sem,d1,d2,d3,d4];refine qj ht b1 (zr hp) ?_;simp only[go_sem];refine qj ht b2 (zr hp) ?_;simp only[go_sem];refine qj ht b3 (zr hp) ?_;simp only[go_sem];refine qj ht b4 (zr hp) ?_;simp only[go_sem];refine qQ hT h1 (zr hp) ?_;simp only[go_sem,zb hp];exact Xv (m1 :=.full) (m2 :=.full) (z1:=0) (z2:=0) (nd:=zw 19 t.pos [] []) hk (.inr rfl) (.inr rfl)
theorem dL{T:List Tk}(hT:T.length≤100000){pid:Nat}{e pt:PM Nd}(hw:DC T pid 156 (Xm e))(hpt:DC T pid 157 pt){p p':PS}{t:Tk}{r:Nd}(ht:zH T p=some t)(g:¬ t.kind=1∧¬ t.kind=2∧¬ t.kind=3∧¬ t.kind=4)
  (b1:isT t [114,101,116,114,121]=false) (b2:isT t [109,97,116,99,104]=false) (b3:isT t [116,114,121]=false) (b4:isT t [40]=true) (h:((ZD T p).bind fun r=>(Xd T [41] r.2).bind fun q=>if q.1 then some (zw 3 t.pos [] [],q.2) else (Xm e q.2).bind fun u=>(qy T [41] u.2).map fun p1=>(u.1,p1))=some (r,p')) {K:SV→St→Prop} {st:St} (hp:Jl T pid p st) (hk:K (zq r) (st.set pid (.cells (qK T p')))):ACalls prog 142 [.ptr pid 0] K st:=by
 refine zA (zp [] func142 rfl results142 ntmps142 ?_);have d1:(t.kind==1)=false:=by simp[g.1]
 have d2:(t.kind==2)=false:=by simp[g.2.1]
 have d3:(t.kind==3)=false:=by simp[g.2.2.1]
 have d4:(t.kind==4)=false:=by simp[g.2.2.2]
 simp only[xoB,xpX] at h;obtain⟨u,p1,h1,b,p2,h2,h⟩:=h;obtain⟨t2,g1,g2,g3,g4,g5⟩:=Kq h2;cases b with
 | true =>
  rw[if_pos rfl] at h;cases h;simp only[go_sem];refine Jk ht (zr hp) ?_;simp only[go_sem];refine qd ht (zr hp) ?_;simp only[go_sem,d1,d2,d3,d4];refine qj ht b1 (zr hp) ?_;simp only[go_sem];refine qj ht b2 (zr hp) ?_;simp only[go_sem];refine qj ht b3 (zr hp) ?_;simp only[go_sem];refine qj ht b4 (zr hp) ?_;simp only[go_sem];refine qQ hT h1 (zr hp) ?_;simp only[go_sem,zb hp];refine Xo g3 (zm hp) ?_;simp only[go_sem,zb hp];first | (unfold zf;simp only[ze,zc,zl,xsS,xsZ,xgS,xgZ]) | skip
  refine qQ hT (g4 rfl).1 (zm hp) ?_;simp only[go_sem,zb hp];exact Xv (m1 :=.full) (m2 :=.full) (z1:=0) (z2:=0) (nd:=zw 3 t.pos [] []) hk (.inr rfl) (.inr rfl)
 | false =>
  obtain rfl:=g5 rfl;rw[if_neg (by decide)] at h;simp only[xoB,xoM,xpX,xpJ] at h;obtain⟨x,p3,h3,p4,h4,rfl,rfl⟩:=h;simp only[go_sem];refine Jk ht (zr hp) ?_;simp only[go_sem];refine qd ht (zr hp) ?_;simp only[go_sem,d1,d2,d3,d4];refine qj ht b1 (zr hp) ?_;simp only[go_sem];refine qj ht b2 (zr hp) ?_;simp only[go_sem];refine qj ht b3 (zr hp) ?_;simp only[go_sem];refine qj ht b4 (zr hp) ?_;simp only[go_sem];refine qQ hT h1 (zr hp) ?_;simp only[go_sem,zb hp];refine Xo g3 (zm hp) ?_;simp only[go_sem,zb hp];first | (unfold zf;simp only[ze,zc,zl,xsS,xsZ,xgS,xgZ]) | skip
  refine hw _ _ _ h3 _ _ (zm hp) ?_;simp only[go_sem,zb hp];first | (unfold zf;simp only[ze,zc,zl,xsS,xsZ,xgS,xgZ]) | skip
  refine Ze hT h4 (zm hp) fun _=>?_;simp only[go_sem,zb hp];exact QJ hk
theorem dV{T:List Tk}(hT:T.length≤100000){pid:Nat}{e pt:PM Nd}(hw:DC T pid 156 (Xm e))(hpt:DC T pid 157 pt){p p':PS}{t:Tk}{r:Nd}(ht:zH T p=some t)(g:¬ t.kind=1∧¬ t.kind=2∧¬ t.kind=3∧¬ t.kind=4)
  (b1:isT t [114,101,116,114,121]=false) (b2:isT t [109,97,116,99,104]=false) (b3:isT t [116,114,121]=true) (b4:isT t [40]=false) (h:((ZD T p).bind fun r=>(Xm e r.2).bind fun q=>(qy T [119,105,116,104] q.2).bind fun p1=>dE T e t.pos q.1 p1)=some (r,p')) {K:SV→St→Prop} {st:St} (hp:Jl T pid p st) (hk:K (zq r) (st.set pid (.cells (qK T p')))):ACalls prog 142 [.ptr pid 0] K st:=by
 refine zA (zp [] func142 rfl results142 ntmps142 ?_);have d1:(t.kind==1)=false:=by simp[g.1]
 have d2:(t.kind==2)=false:=by simp[g.2.1]
 have d3:(t.kind==3)=false:=by simp[g.2.2.1]
 have d4:(t.kind==4)=false:=by simp[g.2.2.2]
 unfold dE at h;simp only[xoB,xoM,xpX,xpJ] at h;obtain⟨u,p1,h1,x,p2,h2,p3,h3,s,p4,h4,p5,h5,v,p6,h6,p7,h7,rfl,rfl⟩:=h;simp only[go_sem];refine Jk ht (zr hp) ?_;simp only[go_sem];refine qd ht (zr hp) ?_;simp only[go_sem,d1,d2,d3,d4];refine qj ht b1 (zr hp) ?_;simp only[go_sem];refine qj ht b2 (zr hp) ?_;simp only[go_sem];refine qj ht b3 (zr hp) ?_;simp only[go_sem];refine qj ht b4 (zr hp) ?_;simp only[go_sem];refine qQ hT h1 (zr hp) ?_;simp only[go_sem,zb hp];refine ZS (st.length+1) 5 6 0 (Zi 1) (by simp) rfl ?_;rw[QK];simp only[xlA,XG,xlC,xlN,xsS,xsZ,xaA,xcA,xnA,Nat.zero_add,Nat.reduceAdd];refine zB [] [(0,[5]),(0,[5]),(0,[]),(3,[5]),(0,[]),(3,[7]),(0,[]),(1,[8])] mixed rfl ?_;simp only[go_sem];refine⟨_,_,hw _ _ _ h2 _ _ (zm hp) ⟨rfl,rfl⟩,?_⟩;simp only[go_sem,zb hp];rw[zt];refine⟨.slice .full 6 [zq x],?_,?_⟩
 ·simp only[go_sem];exact⟨⟨[],by simp⟩,zM _ _ (.inr rfl) _ [_],.inl rfl⟩
 simp only[go_sem];refine⟨_,_,⟨Tryz.app6d (by simp),rfl,rfl⟩,?_⟩;simp only[go_sem];first | (unfold zf;simp only[ze,zc,zl,xsS,xsZ,xgS,xgZ]) | skip
 refine Ze hT h3 (zm hp) fun _=>?_;simp only[go_sem,zb hp];first | (unfold zf;simp only[ze,zc,zl,xsS,xsZ,xgS,xgZ]) | skip
 refine Vb hT (by decide) h4 (zm hp) ?_;simp only[go_sem,zb hp];first | (unfold zf;simp only[ze,zc,zl,xsS,xsZ,xgS,xgZ]) | skip
 refine Ze hT h5 (zm hp) fun _=>?_;simp only[go_sem,zb hp];refine zB [] [(0,[5]),(0,[5]),(0,[]),(3,[5]),(0,[]),(3,[7]),(0,[]),(1,[8])] mixed rfl ?_;simp only[go_sem];refine⟨_,_,hw _ _ _ h6 _ _ (zm hp) ⟨rfl,rfl⟩,?_⟩;simp only[go_sem,zb hp];rw[zt];refine⟨.slice .full 6 [zq v],?_,?_⟩
 ·simp only[go_sem];exact⟨⟨[],by simp⟩,zM _ _ (.inr rfl) _ [_],.inl rfl⟩
 simp only[go_sem];refine⟨_,_,⟨Tryz.app6d (by simp),rfl,rfl⟩,?_⟩;simp only[go_sem];first | (unfold zf;simp only[ze,zc,zl,xsS,xsZ,xgS,xgZ]) | skip
 refine Ze hT h7 (zm hp) fun _=>?_;simp only[go_sem,zb hp];exact QL (nd:=zw 12 t.pos s [x,v]) hk rfl
theorem dy{T:List Tk}(hT:T.length≤100000){pid:Nat}{e pt:PM Nd}(hw:DC T pid 156 (Xm e))(hpt:DC T pid 157 pt){p p':PS}{t:Tk}{r:Nd}(ht:zH T p=some t)(g:¬ t.kind=1∧¬ t.kind=2∧¬ t.kind=3∧¬ t.kind=4)
  (b1:isT t [114,101,116,114,121]=false) (b2:isT t [109,97,116,99,104]=true) (b3:isT t [116,114,121]=false) (b4:isT t [40]=false) (h:((ZD T p).bind fun r=>(Xm e r.2).bind fun q=>(qy T [119,105,116,104] q.2).bind fun p1=>BV T e pt t.pos q.1 p1)=some (r,p')) {K:SV→St→Prop} {st:St} (hp:Jl T pid p st) (hk:K (zq r) (st.set pid (.cells (qK T p')))):ACalls prog 142 [.ptr pid 0] K st:=by
 refine zA (zp [] func142 rfl results142 ntmps142 ?_);have d1:(t.kind==1)=false:=by simp[g.1]
 have d2:(t.kind==2)=false:=by simp[g.2.1]
 have d3:(t.kind==3)=false:=by simp[g.2.2.1]
 have d4:(t.kind==4)=false:=by simp[g.2.2.2]
 unfold BV at h;simp only[xoB,xoM,xpX,xpJ] at h;obtain⟨u,p1,h1,x,p2,h2,p3,h3,n1,p4,hL,p5,h5,rfl,rfl⟩:=h;simp only[go_sem];refine Jk ht (zr hp) ?_;simp only[go_sem];refine qd ht (zr hp) ?_;simp only[go_sem,d1,d2,d3,d4];refine qj ht b1 (zr hp) ?_;simp only[go_sem];refine qj ht b2 (zr hp) ?_;simp only[go_sem];refine qj ht b3 (zr hp) ?_;simp only[go_sem];refine qj ht b4 (zr hp) ?_;simp only[go_sem];refine qQ hT h1 (zr hp) ?_;simp only[go_sem,zb hp];refine ZS (st.length+1) 5 6 0 (Zi 1) (by simp) rfl ?_;rw[QK];simp only[xlA,XG,xlC,xlN,xsS,xsZ,xaA,xcA,xnA,Nat.zero_add,Nat.reduceAdd];refine zB [] [(0,[5]),(0,[5]),(0,[]),(3,[5]),(0,[]),(3,[7]),(0,[]),(1,[8])] mixed rfl ?_;simp only[go_sem];refine⟨_,_,hw _ _ _ h2 _ _ (zm hp) ⟨rfl,rfl⟩,?_⟩;simp only[go_sem,zb hp];rw[zt];refine⟨.slice .full 6 [zq x],?_,?_⟩
 ·simp only[go_sem];exact⟨⟨[],by simp⟩,zM _ _ (.inr rfl) _ [_],.inl rfl⟩
 simp only[go_sem];refine⟨_,_,⟨Tryz.app6d (by simp),rfl,rfl⟩,?_⟩;simp only[go_sem];first | (unfold zf;simp only[ze,zc,zl,xsS,xsZ,xgS,xgZ]) | skip
 refine Ze hT h3 (zm hp) fun _=>?_;simp only[go_sem,zb hp];refine zx [] (fun m env s=>∃ (nd:Nd) (q:PS) (k:Nat) (more:Bool) (ex:St),Ut T e pt m more nd q=some (n1,p4)∧2*m+nd.kids.length≤2*T.length+10∧nd.names=[]∧env=[.ptr pid 0,.any,.ptr st.length 0,.ptr (st.length+1) 0,.any,.any,.any,.any,.any,.any,.sc (.bool more),.any,.any,.any,.any,.any,.any,.any,.any,.any,.any,.any,.any,.any,.any,.any,.any,.any,.any,.any,.any,.any,.any,.any,.any,.any,.any,.any,.any,.any,.any,.any,.any,.any,.any,.any,.any,.any,.any,.any,.any,.any,.any,.any,.any,.any,.any,.any,.any,.any,.any,.any,.any,.any,.any,.any,.any,.any,.any,.any,.any,.any,.any,.any,.any,.any,.any,.any,.any,.any,.any,.any,.any,.any,.any,.any,.any,.any,.any,.any,.any,.any,.any,.any,.any,.any,.any,.any,.any,.any,.any,.any,.any,.any,.any,.any,.any,.any,.any,.any,.any,.any,.any,.any,.any,.any,.any,.any,.any,.any,.any,.any,.any,.any,.any,.any,.any,.any,.any,.any,.any,.any] ∧
  s=st.set pid (.cells (qK T q))++(.cells qv :: .cells (qk (st.length+2) k nd) :: .tok k::ex)) (n:=T.length+2) ?_ ⟨zw 11 t.pos [] [x],_,1,true,[],hL,by simp[zw,Nd.kids];omega,rfl,rfl,rfl⟩ ?_
 ·exact qu
 rintro m env s ⟨nd,q,k,more,ex,hl,hm,hnm,rfl,rfl⟩;cases m with
 | zero=>cases hl
 | succ m =>
 unfold Ut at hl;unfold qk qv;cases more with
 | false =>
  rw[if_neg (by decide)] at hl;cases hl;simp only[go_sem];refine Ze hT h5 (zm hp) fun _=>?_;simp only[go_sem,zb hp];exact QL hk hnm
 | true =>
  rw[if_pos rfl] at hl;simp only[xoB,xpX] at hl;obtain⟨q1,c1,q2,c2,y,q3,c3,q4,c4,w,q5,c5,b,c6,hl⟩:=hl;have hkid:((nd.addKid y).addKid w).kids.length=nd.kids.length+2:=by rw[zQ,zQ];simp
  by_cases l4:nd.kids.length=41
  ·have l1:((nd.kids.length:Int)==41)=true:=by simp[l4]
   unfold HZ at c1;rw[if_pos l4] at c1;simp only[go_sem,xlM,l1];refine Qw c1 (zm hp) fun _=>?_;simp only[go_sem,zb hp];first | (unfold zf;simp only[ze,zc,zl,xsS,xsZ,xgS,xgZ]) | skip
   refine Ze hT c2 (zm hp) fun _=>?_;simp only[go_sem,zb hp];refine zB [] [(0,[5]),(0,[5]),(0,[]),(3,[5]),(0,[]),(3,[7]),(0,[]),(1,[8])] mixed rfl ?_;simp only[go_sem];refine⟨_,_,hpt _ _ _ c3 _ _ (zm hp) ⟨rfl,rfl⟩,?_⟩;simp only[go_sem,zb hp];rw[zt];refine⟨.slice .full 6 [zq y],?_,?_⟩
   ·simp only[go_sem];exact⟨⟨[],by simp⟩,zM _ _ (.inr rfl) _ [_],.inl rfl⟩
   simp only[go_sem];refine⟨_,_,⟨Tryz.app6d (by omega),rfl,rfl⟩,?_⟩;simp only[go_sem];first | (unfold zf;simp only[ze,zc,zl,xsS,xsZ,xgS,xgZ]) | skip
   refine Ze hT c4 (zm hp) fun _=>?_;simp only[go_sem,zb hp];refine zB [] [(0,[5]),(0,[5]),(0,[]),(3,[5]),(0,[]),(3,[7]),(0,[]),(1,[8])] mixed rfl ?_;simp only[go_sem];refine⟨_,_,hw _ _ _ c5 _ _ (zm hp) ⟨rfl,rfl⟩,?_⟩;simp only[go_sem,zb hp];rw[zt];refine⟨.slice .full 6 [zq w],?_,?_⟩
   ·simp only[go_sem];exact⟨⟨[],by simp⟩,zM _ _ (.inr rfl) _ [_],.inl rfl⟩
   simp only[go_sem];refine⟨_,_,⟨Tryz.app6d (by simp;omega),rfl,rfl⟩,?_⟩;simp only[go_sem];first | (unfold zf;simp only[ze,zc,zl,xsS,xsZ,xgS,xgZ]) | skip
   refine Xo c6 (zm hp) ?_;simp only[go_sem,zb hp];refine⟨m,_,by omega,?_,(nd.addKid y).addKid w,q5,k+2,b,_,hl,by rw[hkid];omega,by rw[qh,qh];exact hnm,rfl,by rw[qV,qV,qT,qT,Zv,Zv,Zu,Zu,zQ,zQ,xmA,xmA,xaA];rfl⟩;exact qu
  ·have l1:((nd.kids.length:Int)==41)=false:=by simp;omega
   unfold HZ at c1;rw[if_neg l4] at c1;cases c1;simp only[go_sem,xlM,l1];first | (unfold zf;simp only[ze,zc,zl,xsS,xsZ,xgS,xgZ]) | skip
   refine Ze hT c2 (zm hp) fun _=>?_;simp only[go_sem,zb hp];refine zB [] [(0,[5]),(0,[5]),(0,[]),(3,[5]),(0,[]),(3,[7]),(0,[]),(1,[8])] mixed rfl ?_;simp only[go_sem];refine⟨_,_,hpt _ _ _ c3 _ _ (zm hp) ⟨rfl,rfl⟩,?_⟩;simp only[go_sem,zb hp];rw[zt];refine⟨.slice .full 6 [zq y],?_,?_⟩
   ·simp only[go_sem];exact⟨⟨[],by simp⟩,zM _ _ (.inr rfl) _ [_],.inl rfl⟩
   simp only[go_sem];refine⟨_,_,⟨Tryz.app6d (by omega),rfl,rfl⟩,?_⟩;simp only[go_sem];first | (unfold zf;simp only[ze,zc,zl,xsS,xsZ,xgS,xgZ]) | skip
   refine Ze hT c4 (zm hp) fun _=>?_;simp only[go_sem,zb hp];refine zB [] [(0,[5]),(0,[5]),(0,[]),(3,[5]),(0,[]),(3,[7]),(0,[]),(1,[8])] mixed rfl ?_;simp only[go_sem];refine⟨_,_,hw _ _ _ c5 _ _ (zm hp) ⟨rfl,rfl⟩,?_⟩;simp only[go_sem,zb hp];rw[zt];refine⟨.slice .full 6 [zq w],?_,?_⟩
   ·simp only[go_sem];exact⟨⟨[],by simp⟩,zM _ _ (.inr rfl) _ [_],.inl rfl⟩
   simp only[go_sem];refine⟨_,_,⟨Tryz.app6d (by simp;omega),rfl,rfl⟩,?_⟩;simp only[go_sem];first | (unfold zf;simp only[ze,zc,zl,xsS,xsZ,xgS,xgZ]) | skip
   refine Xo c6 (zm hp) ?_;simp only[go_sem,zb hp];refine⟨m,_,by omega,?_,(nd.addKid y).addKid w,q5,k+2,b,_,hl,by rw[hkid];omega,by rw[qh,qh];exact hnm,rfl,by rw[qV,qV,qT,qT,Zv,Zv,Zu,Zu,zQ,zQ,xmA,xmA,xaA];rfl⟩;exact qu
theorem lQ{T:List Tk}(hT:T.length≤100000){pid:Nat}{e pt:PM Nd}(hw:DC T pid 156 (Xm e))(hpt:DC T pid 157 pt):DC T pid 142 (Ji T e pt):=by
 intro p r p' h K st hp hk;unfold Ji at h;rw[xoB] at h;obtain⟨t,ht,h⟩:=h;by_cases k1:t.kind=1
 ·rw[if_pos k1] at h;exact Hy hT ht (.inl ⟨k1,rfl⟩) h hp hk
 rw[if_neg k1] at h;by_cases k2:t.kind=2
 ·rw[if_pos k2] at h;exact Hy hT ht (.inr (.inl ⟨k2,rfl⟩)) h hp hk
 rw[if_neg k2] at h;by_cases k3:t.kind=3
 ·rw[if_pos k3] at h;exact Hy hT ht (.inr (.inr (.inl ⟨k3,rfl⟩))) h hp hk
 rw[if_neg k3] at h;by_cases k4:t.kind=4
 ·rw[if_pos k4] at h;exact Hy hT ht (.inr (.inr (.inr ⟨k4,rfl⟩))) h hp hk
 rw[if_neg k4] at h;have no:∀ {a b:Tx},isT t a=true→a≠b→isT t b=false:=fun {a b} h1 h2=>by
  cases hb:isT t b with
  | false=>rfl
  | true=>exact absurd ((Qu.1 h1).2.symm.trans (Qu.1 hb).2) h2
 cases b1:isT t [114,101,116,114,121] with
 | true =>
  rw[if_pos b1] at h;exact fI hT hw hpt ht ⟨k1,k2,k3,k4⟩ b1 (no b1 (by decide)) (no b1 (by decide)) (no b1 (by decide)) h hp hk
 | false =>
 rw[if_neg (by rw[b1];decide)] at h;cases b4:isT t [40] with
 | true =>
  rw[if_pos b4] at h;exact dL hT hw hpt ht ⟨k1,k2,k3,k4⟩ b1 (no b4 (by decide)) (no b4 (by decide)) b4 h hp hk
 | false =>
 rw[if_neg (by rw[b4];decide)] at h;cases b3:isT t [116,114,121] with
 | true =>
  rw[if_pos b3] at h;exact dV hT hw hpt ht ⟨k1,k2,k3,k4⟩ b1 (no b3 (by decide)) b3 b4 h hp hk
 | false =>
 rw[if_neg (by rw[b3];decide)] at h;cases b2:isT t [109,97,116,99,104] with
 | true =>
  rw[if_pos b2] at h;exact dy hT hw hpt ht ⟨k1,k2,k3,k4⟩ b1 b2 b3 b4 h hp hk
 | false =>
 rw[if_neg (by rw[b2];decide)] at h;exact bu hT hw hpt ht ⟨k1,k2,k3,k4⟩ b1 b2 b3 b4 h hp hk
end Go.Proofs
