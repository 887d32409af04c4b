/- The document's parser: all of it, and Program. Written by gen_w70.py. -/
import Derived.Test.YtkokccjfpebomaaGreatDoorK3
import Derived.Test.YtkokccjfpebomaaGreatDoorK1
set_option linter.all false
set_option maxHeartbeats 4000000
set_option maxRecDepth 8000
namespace Go.AL
def RY(T:List Tk)(st:St)(p1:PS)(n1:Nd)(e:Exit)(env:List SV)(s:St):Prop:=e = .exit 0∧(∃ y0 y3 y4 y5 y6 y7 y10 y11 y12 y13 y14 y15 y16 y17 y18 y19 y20 y21 y22 y23 y24 y25 y26 y27 y28 y29 y30 y31 y32 y33 y34 y35 y36 y37 y38 y39 y40 y41 y42 y43 y44 y45 y46 y47 y48 y49 y50 y51,env=[y0,.any,.ptr st.length 0,y3,y4,y5,y6,y7,.ptr (st.length+1) 0,.ptr (st.length+2) 0,y10,y11,y12,y13,y14,y15,y16,y17,y18,y19,y20,y21,y22,y23,y24,y25,y26,y27,y28,y29,y30,y31,y32,y33,y34,y35,y36,y37,y38,y39,y40,y41,y42,y43,y44,y45,y46,y47,y48,y49,y50,y51,.any,.any,.any,.any,.any,.any,.any,.any,.any,.any,.any,.any,.any,.any,.any,.any,.any,.any,.any,.any,.any,.any,.any,.any,.any,.any,.any,.any,.any])∧∃ (k:Nat) (ex:St),(n1.names=[]∧n1.kids.length≤T.length+2)∧s=st++(.cells qv :: .cells (qK T p1) :: .cells (qk (st.length+3) k n1) :: .tok k::ex)
variable {T:List Tk} {st:St} {q:PS}
theorem Xu{a:Ob}{ex:St}:Jl T (st.length+1) q (st++(a :: .cells (qK T q)::ex)):=by unfold Jl;simp
theorem dO{st ex:St}(k:Nat):(st++ex)[st.length+k]?=ex[k]?:=by rw[List.getElem?_append_right (by simp)];simp
theorem xA{st ex:St}{Y:Ob}(k:Nat):(st++ex).set (st.length+k) Y=st++ex.set k Y:=by rw[List.set_append_right _ _ (by simp)];simp
theorem H8{a X:Ob}{ex:St}{Y:Ob}:(st++(a::X::ex)).set (st.length+1) Y=st++(a::Y::ex):=xA 1
theorem AN{kid ver:Nat}{nd:Nd}(h:nd.names=[]):SVle (.agg (qk kid ver nd)) (zq nd):=fun s σ w v hr=>by
 have:=US (m1 :=.full) (m2 :=.own kid ver) (z1:=0) (z2:=6) (n:=nd) (.inr h) (.inl rfl) s σ w v (by
  have h2:=hr.norm;unfold Kv;rw[h];exact h2)
 exact this
theorem OD{l r:List SV}(h:SVles l r):SVle (.tuple l) (.tuple r):=by
 intro st σ w v hv;generalize hx:SV.tuple l=x at hv;cases hv with
 | tuple l' vs h1 h2 =>
  cases hx;exact .tuple r vs (h1.trans h.len) fun i hi=>h.at i _ _ _ _ (h2 i (by rw[h.len];exact hi))
 | _=>cases hx
theorem Us{ex:St}{K:SV→St→Prop}{x:SV}{nd:Nd}{a e:Value}(hle:SVle x (zq nd))(hk:K (.tuple [zq nd,.sc a,.sc e]) st):wl (Fu st K) (.tuple [x,.sc a,.sc e]) (st++ex):=by
 refine⟨.tuple [zq nd,.sc a,.sc e],OD (.cons hle (.cons (SVle.refl _) (.cons (SVle.refl _) .nil))),⟨ex,rfl⟩,?_,?_⟩
 ·simp only[UW,List.map_cons,List.map_nil,KQ];refine .tuple _ ?_;intro i hi;match i with
  | 0=>exact JX _ _
  | 1=>exact .sc _
  | 2=>exact .sc _
  | i+3=>simp at hi;omega
 ·simp only[UW,List.map_cons,List.map_nil,KQ];exact hk
theorem Di{P:Program}{f:FuncId}{args:List SV}{K:SV→St→Prop}(h:ACalls P f args (Fu st K) st):ACalls P f args K st:=Dn (h.mono fun x s ⟨⟨ex,e⟩,h1,h2⟩=>⟨ex,e,h1,h2⟩)
theorem Ay:SVle (.agg qv) (zq Wf):=fun s σ w v hr=>US (m1 :=.full) (m2 :=.full) (z1:=0) (z2:=0) (n:=Wf) (.inr rfl) (.inr rfl) s σ w v hr.norm
theorem bO(n:Nat):Ids n (.agg qv):=by
 rw[Qc];intro x hx;simp only[qv,List.mem_cons,List.not_mem_nil,or_false] at hx;rcases hx with rfl | rfl | rfl | rfl | rfl | rfl
 ·exact .sc _
 ·exact .sc _
 ·exact .sc _
 ·exact .sc _
 ·exact zT (.inr rfl) fun x hx=>by cases hx
 ·exact zT (.inr rfl) fun x hx=>by cases hx
end Go.AL
namespace Go.Proofs
open Go Go.AL Tryz
theorem Nq{T:List Tk}(hT:T.length≤100000){pid:Nat}:∀ n,DC T pid 59 (Y9 T (Pf T n)):=by
 intro n;induction n with
 | zero=>exact rv hT fun p r q h=>by cases h
 | succ n ih=>exact rv hT fun p r q h=>⟨_,ih,h⟩
theorem iV{T:List Tk}(hT:T.length≤100000){pid:Nat}:∀ n,DC T pid 157 (Y9 T (lU T n)):=by
 intro n;induction n with
 | zero=>exact nw hT fun p r q h=>by cases h
 | succ n ih=>exact nw hT fun p r q h=>⟨_,ih,h⟩
theorem Cm{T:List Tk}(hT:T.length≤100000){pid:Nat}:∀ n,DC T pid 24 (Y9 T (af T n)):=by
 intro n;induction n with
 | zero=>exact fC fun p r q h=>by cases h
 | succ n ih=>exact fC (nM hT ih (Al hT (i7 hT (l5 hT (AQ hT (lQ hT (b7 ih) (iV hT (n+1))) (bt hT))))))
theorem bn{s:Tx}{K:SV→St→Prop}{st:St}{a:Nat}{e:Int}(he:e≠0)(htok:∀ (K:SV→St→Prop) (st:St),(∀ x,K (.tuple [x,.sc (.int .i64 a),.sc (.int .i64 e)]) st)→ACalls prog 18 [.sc (.string (ba s))] K st)(hk:K (.tuple [zq Wf,.sc (.int .i64 a),.sc (.int .i64 e)]) st):ACalls prog 10 [.sc (.string (ba s))] K st:=by
 refine Di (zA (QF (M:=[25]) func10 rfl results10 ntmps10 ?_));have c1:(e != 0)=true:=by simp[he]
 simp only[go_sem];refine htok _ _ fun x=>?_;simp only[go_sem,c1];exact Us Ay hk
theorem b8{s:Tx}{K:SV→St→Prop}{st:St}{T:List Tk}(hT:T.length≤100000)(htok:∀ (K:SV→St→Prop) (st:St),K (.tuple [.slice .imm 4 (T.map ZF),.sc (.int .i64 0),.sc (.int .i64 0)]) st→ACalls prog 18 [.sc (.string (ba s))] K st){nd:Nd}{q:PS}{e ty:PM Nd}(he:DC T (st.length+1) 24 e)(hy:DC T (st.length+1) 59 ty)
  (h:hG T e ty ⟨0,0,false,0,0⟩=some (nd,q)) (hk:K (.tuple [zq (if q.e=0 then nd else Wf),.sc (.int .i64 (if q.e=0 then 0 else q.bad)),.sc (.int .i64 q.e)]) st):ACalls prog 10 [.sc (.string (ba s))] K st:=by
 refine Di (zA (QF (M:=[25]) func10 rfl results10 ntmps10 ?_));have hdc:=lL hT he (iP hT hy);have d00:((0:Int) != 0)=false:=rfl;unfold hG at h;simp only[xoB,xoM,xpX,xpJ] at h;obtain⟨a0,ha,n1,p1,hL,p2,h3,u,p3,h4,t',h5,p4,h6,rfl,rfl⟩:=h;simp only[go_sem];refine htok _ _ ?_;simp only[go_sem,d00];refine xP (T:=T) (p:=⟨0,0,false,0,0⟩) ha (Xu (ex:=[])) ?_;simp only[go_sem];refine ZS (st.length+2) 5 6 0 (dO 2) (by simp) rfl ?_;rw[xA];simp only[xlA,xlC,xlN,xsS,xsZ,xaA,xcA,xnA,Nat.zero_add,Nat.reduceAdd];refine AWp.mono (Q:=RY T st p1 n1) ?_ ?_
 ·refine zx [] (fun m env s=>∃ (nd:Nd) (q:PS) (k:Nat) (ex:St),Df T e ty m nd q=some (n1,p1)∧m+nd.kids.length≤T.length+2∧nd.names=[]∧env=[.any,.any,.ptr st.length 0,.any,.any,.any,.any,.any,.ptr (st.length+1) 0,.ptr (st.length+2) 0,.any,.any,.any,.any,.any,.any,.any,.any,.any,.any,.any,.any,.any,.any,.any,.any,.any,.any,.any,.any,.any,.any,.any,.any,.any,.any,.any,.any,.any,.any,.any,.any,.any,.any,.any,.any,.any,.any,.any,.any,.any,.any,.any,.any,.any,.any,.any,.any,.any,.any,.any,.any,.any,.any,.any,.any,.any,.any,.any,.any,.any,.any,.any,.any,.any,.any,.any,.any,.any,.any,.any]∧s=st++(.cells qv :: .cells (qK T q) :: .cells (qk (st.length+3) k nd) :: .tok k::ex)) (n:=T.length+2) ?_ ⟨_,_,0,[],hL,by simp[zw,Nd.kids],rfl,rfl,rfl⟩ ?_
  ·exact qu
  rintro m env s ⟨nd,q,k,ex,hl,hm,hnm,rfl,rfl⟩;cases m with
  | zero=>cases hl
  | succ m =>
  unfold Df at hl;rw[xoB] at hl;obtain⟨t,ht,hl⟩:=hl;cases b1:isT t [116,121,112,101] with
  | false =>
   cases b2:isT t [108,101,116] with
   | false =>
    rw[if_neg (by rw[b1,b2];decide)] at hl;cases hl;simp only[go_sem];refine qj ht b1 Xu ?_;simp only[go_sem];refine qj ht b2 Xu ?_;simp only[go_sem];exact⟨rfl,⟨_,_,_,_,_,_,_,_,_,_,_,_,_,_,_,_,_,_,_,_,_,_,_,_,_,_,_,_,_,_,_,_,_,_,_,_,_,_,_,_,_,_,_,_,_,_,_,_,rfl⟩,_,_,⟨hnm,by omega⟩,rfl⟩
   | true =>
    rw[if_pos (.inr b2)] at hl;by_cases l6:nd.kids.length=60
    ·have l1:((nd.kids.length:Int)==60)=true:=by simp[l6]
     rw[if_pos l6,xoM] at hl;obtain⟨q1,c5,hl⟩:=hl;cases hl;simp only[go_sem];refine qj ht b1 Xu ?_;simp only[go_sem];refine qj ht b2 Xu ?_;unfold qk;simp only[go_sem,xlM,l1];refine Qw c5 Xu fun _=>?_;simp only[H8];simp only[go_sem];exact⟨rfl,⟨_,_,_,_,_,_,_,_,_,_,_,_,_,_,_,_,_,_,_,_,_,_,_,_,_,_,_,_,_,_,_,_,_,_,_,_,_,_,_,_,_,_,_,_,_,_,_,_,rfl⟩,_,_,⟨hnm,by omega⟩,rfl⟩
    ·have l1:((nd.kids.length:Int)==60)=false:=by simp;omega
     rw[if_neg l6,xoB] at hl;obtain⟨⟨x,q1⟩,c5,hl⟩:=hl;simp only[go_sem];refine qj ht b1 Xu ?_;simp only[go_sem];refine qj ht b2 Xu ?_;unfold qk;simp only[go_sem,xlM,l1];refine zB [] [(0,[5]),(0,[5]),(0,[]),(3,[5]),(0,[]),(3,[7]),(0,[]),(1,[8])] mixed rfl ?_;simp only[go_sem];refine⟨_,_,hdc _ _ _ c5 _ _ Xu ⟨rfl,rfl⟩,?_⟩;simp only[go_sem,H8];rw[zt];refine⟨.slice .full 6 [zq x],?_,?_⟩
     ·simp only[go_sem];exact⟨⟨[],by simp⟩,zM _ _ (.inr rfl) _ [_],.inl rfl⟩
     simp only[go_sem];refine⟨_,_,⟨Tryz.app6d (by omega),rfl,rfl⟩,?_⟩;simp only[go_sem];refine⟨m,_,by omega,?_,nd.addKid x,q1,k+1,_,hl,by rw[zQ];simp;omega,by rw[qh];exact hnm,rfl,by rw[qV,qT,Zv,Zu,zQ,xmA];rfl⟩;exact qu
  | true =>
   rw[if_pos (.inl b1)] at hl;have b2:isT t [108,101,116]=false:=by
    cases hb:isT t [108,101,116] with
    | false=>rfl
    | true=>exact absurd ((Qu.1 b1).2.symm.trans (Qu.1 hb).2) (by decide)
   by_cases l6:nd.kids.length=60
   ·have l1:((nd.kids.length:Int)==60)=true:=by simp[l6]
    rw[if_pos l6,xoM] at hl;obtain⟨q1,c5,hl⟩:=hl;cases hl;simp only[go_sem];refine qj ht b1 Xu ?_;simp only[go_sem];refine qj ht b2 Xu ?_;unfold qk;simp only[go_sem,xlM,l1];refine Qw c5 Xu fun _=>?_;simp only[H8];simp only[go_sem];exact⟨rfl,⟨_,_,_,_,_,_,_,_,_,_,_,_,_,_,_,_,_,_,_,_,_,_,_,_,_,_,_,_,_,_,_,_,_,_,_,_,_,_,_,_,_,_,_,_,_,_,_,_,rfl⟩,_,_,⟨hnm,by omega⟩,rfl⟩
   ·have l1:((nd.kids.length:Int)==60)=false:=by simp;omega
    rw[if_neg l6,xoB] at hl;obtain⟨⟨x,q1⟩,c5,hl⟩:=hl;simp only[go_sem];refine qj ht b1 Xu ?_;simp only[go_sem];refine qj ht b2 Xu ?_;unfold qk;simp only[go_sem,xlM,l1];refine zB [] [(0,[5]),(0,[5]),(0,[]),(3,[5]),(0,[]),(3,[7]),(0,[]),(1,[8])] mixed rfl ?_;simp only[go_sem];refine⟨_,_,hdc _ _ _ c5 _ _ Xu ⟨rfl,rfl⟩,?_⟩;simp only[go_sem,H8];rw[zt];refine⟨.slice .full 6 [zq x],?_,?_⟩
    ·simp only[go_sem];exact⟨⟨[],by simp⟩,zM _ _ (.inr rfl) _ [_],.inl rfl⟩
    simp only[go_sem];refine⟨_,_,⟨Tryz.app6d (by omega),rfl,rfl⟩,?_⟩;simp only[go_sem];refine⟨m,_,by omega,?_,nd.addKid x,q1,k+1,_,hl,by rw[zQ];simp;omega,by rw[qh];exact hnm,rfl,by rw[qV,qT,Zv,Zu,zQ,xmA];rfl⟩;exact qu
 have yq:=fun ex:St=>zI (Xu (T:=T) (st:=st) (q:=p4) (a :=.cells qv) (ex:=ex));have hps:qK T p4=[.slice .imm 4 (T.map ZF),.sc (.int .i64 p4.pos),.sc (.int .i64 p4.deep),.sc (.int .i64 p4.bad),.sc (.bool p4.flat),.sc (.int .i64 p4.e)]:=rfl;have hown:∀ k,(qk (st.length+3) k (n1.addKid u))=[.sc (.int .i64 n1.kind),.sc (.string (ba n1.text)),.sc (.int .i64 n1.num),.sc (.int .i64 n1.pos),.slice .full 0 [],.slice (.own (st.length+3) k) 6 (n1.kids.map zq++[zq u])]:=fun k=>LR _ _ _ _;by_cases k0:t'.kind=0
 ·have c0:(t'.kind != 0)=false:=by simp[k0]
  rw[if_neg (by simp[k0])] at h6;cases h6;by_cases e0:p3.e=0
  ·have c1:(p3.e != 0)=false:=by simp[e0]
   simp only[e0,if_true] at hk;rintro e' env s ⟨rfl,⟨y0,y3,y4,y5,y6,y7,y10,y11,y12,y13,y14,y15,y16,y17,y18,y19,y20,y21,y22,y23,y24,y25,y26,y27,y28,y29,y30,y31,y32,y33,y34,y35,y36,y37,y38,y39,y40,y41,y42,y43,y44,y45,y46,y47,y48,y49,y50,y51,rfl⟩,k,ex,⟨hnm,hkl⟩,rfl⟩;simp only[go_sem];refine Ze hT h3 Xu fun _=>?_;simp only[H8];unfold qk;simp only[go_sem];refine zB [] [(0,[5]),(0,[5]),(0,[]),(3,[5]),(0,[]),(3,[7]),(0,[]),(1,[8])] mixed rfl ?_;simp only[go_sem];refine⟨_,_,he _ _ _ h4 _ _ Xu ⟨rfl,rfl⟩,?_⟩;simp only[go_sem,H8];rw[zt];refine⟨.slice .full 6 [zq u],?_,?_⟩
   ·simp only[go_sem];exact⟨⟨[],by simp⟩,zM _ _ (.inr rfl) _ [_],.inl rfl⟩
   simp only[go_sem];refine⟨_,_,⟨Tryz.app6d (by omega),rfl,rfl⟩,?_⟩;simp only[go_sem,H8];refine qd h5 Xu ?_;rw[hps];simp only[go_sem,c0,c1];refine⟨by decide,Us (nd:=n1.addKid u) ?_ hk⟩;have:=AN (kid:=st.length+3) (ver:=k+1) (nd:=n1.addKid u) (by rw[qh];exact hnm);rw[hown] at this;exact this
  ·have c1:(p3.e != 0)=true:=by simp[e0]
   simp only[e0,if_false] at hk;rintro e' env s ⟨rfl,⟨y0,y3,y4,y5,y6,y7,y10,y11,y12,y13,y14,y15,y16,y17,y18,y19,y20,y21,y22,y23,y24,y25,y26,y27,y28,y29,y30,y31,y32,y33,y34,y35,y36,y37,y38,y39,y40,y41,y42,y43,y44,y45,y46,y47,y48,y49,y50,y51,rfl⟩,k,ex,⟨hnm,hkl⟩,rfl⟩;simp only[go_sem];refine Ze hT h3 Xu fun _=>?_;simp only[H8];unfold qk;simp only[go_sem];refine zB [] [(0,[5]),(0,[5]),(0,[]),(3,[5]),(0,[]),(3,[7]),(0,[]),(1,[8])] mixed rfl ?_;simp only[go_sem];refine⟨_,_,he _ _ _ h4 _ _ Xu ⟨rfl,rfl⟩,?_⟩;simp only[go_sem,H8];rw[zt];refine⟨.slice .full 6 [zq u],?_,?_⟩
   ·simp only[go_sem];exact⟨⟨[],by simp⟩,zM _ _ (.inr rfl) _ [_],.inl rfl⟩
   simp only[go_sem];refine⟨_,_,⟨Tryz.app6d (by omega),rfl,rfl⟩,?_⟩;simp only[go_sem,H8];refine qd h5 Xu ?_;rw[hps];simp only[go_sem,c0,c1];refine zB [] [(0,[]),(0,[12]),(0,[12]),(0,[12]),(0,[12]),(0,[12]),(0,[12]),(0,[12]),(0,[12]),(1,[12]),(0,[]),(0,[])] mixed rfl ?_;simp only[go_sem,qv];rw[zt];refine⟨.agg qv,?_,?_⟩
   ·simp only[go_sem];exact⟨⟨[],by simp⟩,bO _,.inl rfl⟩
   simp only[go_sem,qv];exact Us Ay hk
 ·have c0:(t'.kind != 0)=true:=by simp[k0]
  rw[if_pos k0] at h6;have e0:p4.e≠0:=Qb h6 (by decide);have c1:(p4.e != 0)=true:=by simp[e0]
  simp only[e0,if_false] at hk;rintro e' env s ⟨rfl,⟨y0,y3,y4,y5,y6,y7,y10,y11,y12,y13,y14,y15,y16,y17,y18,y19,y20,y21,y22,y23,y24,y25,y26,y27,y28,y29,y30,y31,y32,y33,y34,y35,y36,y37,y38,y39,y40,y41,y42,y43,y44,y45,y46,y47,y48,y49,y50,y51,rfl⟩,k,ex,⟨hnm,hkl⟩,rfl⟩;simp only[go_sem];refine Ze hT h3 Xu fun _=>?_;simp only[H8];unfold qk;simp only[go_sem];refine zB [] [(0,[5]),(0,[5]),(0,[]),(3,[5]),(0,[]),(3,[7]),(0,[]),(1,[8])] mixed rfl ?_;simp only[go_sem];refine⟨_,_,he _ _ _ h4 _ _ Xu ⟨rfl,rfl⟩,?_⟩;simp only[go_sem,H8];rw[zt];refine⟨.slice .full 6 [zq u],?_,?_⟩
  ·simp only[go_sem];exact⟨⟨[],by simp⟩,zM _ _ (.inr rfl) _ [_],.inl rfl⟩
  simp only[go_sem];refine⟨_,_,⟨Tryz.app6d (by omega),rfl,rfl⟩,?_⟩;simp only[go_sem,H8];refine qd h5 Xu ?_;simp only[go_sem,c0];refine Qw h6 Xu fun _=>?_;simp only[H8];rw[hps];simp only[go_sem,c1];refine zB [] [(0,[]),(0,[12]),(0,[12]),(0,[12]),(0,[12]),(0,[12]),(0,[12]),(0,[12]),(0,[12]),(1,[12]),(0,[]),(0,[])] mixed rfl ?_;simp only[go_sem,qv];rw[zt];refine⟨.agg qv,?_,?_⟩
  ·simp only[go_sem];exact⟨⟨[],by simp⟩,bO _,.inl rfl⟩
  simp only[go_sem,qv];exact Us Ay hk
theorem Hg{s:Tx}{n:Nd}{a e:Int}(h:qp s=some (n,a,e))(hz:s.length≤100000){K:SV→St→Prop}{st:St}(hk:K (.tuple [zq n,.sc (.int .i64 a),.sc (.int .i64 e)]) st):ACalls prog 10 [.sc (.string (ba s))] K st:=by
 rcases wz h with⟨b,hl,rfl,rfl,he⟩ | ⟨T,hl,hT,hp⟩
 ·refine bn he (fun K st h=>?_) hk;refine EM hz ?_;rw[hl];exact h
 ·unfold D6 at hp;simp only[xoM,xpX] at hp;obtain⟨nd,q,hq,hr⟩:=hp;have hT':T.length≤100000:=by omega
  refine b8 hT' (fun K st h=>?_) (Cm hT' 42) (Nq hT' 42) hq ?_
  ·refine EM hz ?_;rw[hl];exact h
  ·by_cases z:q.e=0
   ·rw[if_pos z] at hr;cases hr;rw[if_pos z,if_pos z,z];exact hk
   ·rw[if_neg z] at hr;cases hr;rw[if_neg z,if_neg z];exact hk
end Go.Proofs
