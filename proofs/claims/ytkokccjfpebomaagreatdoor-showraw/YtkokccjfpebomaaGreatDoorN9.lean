/- program; the parser's functions, one in another. -/
import Derived.Test.YtkokccjfpebomaaGreatDoorW11
import Derived.Test.YtkokccjfpebomaaGreatDoorM4
set_option linter.all false
set_option maxHeartbeats 4000000
set_option maxRecDepth 8000
namespace Go.Proofs
open Go Go.AL Tryz
theorem Nf{T:List Tk}(hT:T.length≤100000){pid:Nat}:∀ n,HC T pid 138 (F3 T n):=by
 intro n;induction n with
 | zero=>intro p r p' h;cases h
 | succ n ih=>exact RD hT ih
theorem iT{T:List Tk}(hT:T.length≤100000){pid:Nat}:∀ n,HC T pid 170 (Qq T n):=by
 intro n;induction n with
 | zero=>intro p r p' h;cases h
 | succ n ih=>exact MX hT ih
theorem AZ{T:List Tk}(hT:T.length≤100000){pid:Nat}:∀ n,HC T pid 79 (Qf T n):=by
 intro n;induction n with
 | zero=>intro p r p' h;cases h
 | succ n ih=>exact Ms hT ih (iT hT (n+1))
theorem AB{st ex:St}(k:Nat):(st++ex)[st.length+k]?=ex[k]?:=by
 rw[List.getElem?_append_right (by omega)];simp
theorem AW{st ex:St}{Y:Ob}(k:Nat):(st++ex).set (st.length+k) Y=st++ex.set k Y:=by
 rw[List.set_append_right _ _ (by omega)];simp
theorem FC{T:List Tk}{pid kid ver:Nat}{p':PS}{nd:Nd}{st:St}{K:SV→St→Prop}{l:List SV}(hk:K (zq nd) (st.set pid (.cells (Qn T p'))))(hnm:nd.names=[])(hl:qk kid ver nd=l){ex:St} :
  YW st (wl K) (.agg l) (st.set pid (.cells (Qn T p'))++ex):=by
 rw[←hl];exact V1 hk hnm
theorem m9{T:List Tk}(hT:T.length≤100000){pid:Nat}{e ty:PM Nd}(he:HC T pid 79 e)(hy:HC T pid 138 ty):HC T pid 47 (KA T e ty):=by
 intro p r p' h K st hp hk;refine zA (zp [] func47 rfl results47 ntmps47 ?_);unfold KA at h;simp only[xoB,xoM,xpX,xpJ] at h;obtain⟨t0,h1,n1,p1,h2,p2,h3,u,p3,h4,t9,h5,p4,h6,rfl,rfl⟩:=h;simp only[go_sem];refine qi h1 (zu hp) ?_;simp only[go_sem];refine XF rfl rfl rfl rfl (fun _=>rfl) (zT (.inr rfl) (fun x hx=>by cases hx)) ?_;unfold Xk;simp only[go_sem];refine ZS (st.length+1) 5 6 0 (AB 1) (by simp) rfl ?_;rw[AW];simp only[xlA,XG,xlC,xlN,xsS,xsZ,xaA,xcA,xnA,Nat.zero_add,Nat.reduceAdd];refine zx [] (fun m env s=>∃ (nd:Nd) (q:PS) (k:Nat) (ex:St),YV T e ty m nd q=some (n1,p1)∧m+nd.kids.length≤T.length+2∧nd.names=[]∧env=[.ptr pid 0,.any,.ptr st.length 0,.ptr (st.length+1) 0,.any,.any,.any,.any,.any,.any,.any,.any,.any,.any,.any,.any,.any,.any,.any,.any,.any,.any,.any,.any,.any,.any,.any,.any,.any,.any,.any,.any,.any,.any,.any,.any,.any,.any,.any,.any,.any,.any] ∧
  s=st.set pid (.cells (Qn T q))++(.cells qv :: .cells (qk (st.length+2) k nd) :: .tok k::ex)) (n:=T.length+2) ?_ ⟨_,_,0,[],h2,by simp[zw,Nd.kids],rfl,rfl,by rw[yU hp];rfl⟩ ?_
 ·exact qu
 rintro m env s ⟨nd,q,k,ex,hl,hm,hnm,rfl,rfl⟩;cases m with
 | zero=>cases hl
 | succ m =>
 simp only[YV,Yj,xoB,xoM] at hl;obtain⟨a,⟨t,h7,ha⟩,b,hb,hl⟩:=hl;cases a with
 | true =>
  simp only[if_true,xsJ] at hb;subst hb;simp only[if_true,xoB,xpX] at hl;obtain⟨q1,h8,x,q2,h9,hl⟩:=hl;unfold qk;simp only[go_sem];refine ZG h7 (zh hp) ?_;simp only[go_sem,ha];first | (unfold zf;simp only[ze,zc,zl,xsS,xsZ,xgS,xgZ]) | skip
  refine Jq (p':=q1) (n:=nd.kids.length) (by simpa using h8) (zh hp) fun _=>?_;simp only[go_sem,zb hp];refine zB [] [(0,[5]),(0,[5]),(0,[]),(3,[5]),(0,[]),(3,[7]),(0,[]),(1,[8])] mixed rfl ?_;simp only[go_sem,qv];refine⟨_,_,nR hT he hy _ _ _ h9 _ _ (zh hp) ⟨rfl,rfl⟩,?_⟩;simp only[go_sem,zb hp];rw[zt];refine⟨.slice .full 6 [zq x],?_,?_⟩
  ·simp only[go_sem];exact⟨⟨[],by simp⟩,zM _ _ (.inr rfl) _ [_],.inl rfl⟩
  simp only[go_sem];refine⟨_,_,⟨Tryz.app6 (by omega),rfl,rfl⟩,?_⟩;simp only[go_sem];refine⟨m,_,by omega,?_,nd.addKid x,q2,k+1,_,hl,by rw[zQ];simp;omega,by rw[qh];exact hnm,rfl,by rw[qV,qT,Zv,Zu,zQ,xmA];rfl⟩;exact qu
 | false =>
  simp only[XU,if_false,xoM] at hb;obtain⟨t',h7',hb⟩:=hb;rw[h7] at h7';cases h7';cases b with
  | true =>
   simp only[if_true,xoB,xpX] at hl;obtain⟨q1,h8,x,q2,h9,hl⟩:=hl;unfold qk;simp only[go_sem];refine ZG h7 (zh hp) ?_;simp only[go_sem,ha];first | (unfold zf;simp only[ze,zc,zl,xsS,xsZ,xgS,xgZ]) | skip
   refine ZG h7 (zh hp) ?_;simp only[go_sem,ha,hb];first | (unfold zf;simp only[ze,zc,zl,xsS,xsZ,xgS,xgZ]) | skip
   refine Jq (p':=q1) (n:=nd.kids.length) (by simpa using h8) (zh hp) fun _=>?_;simp only[go_sem,zb hp];refine zB [] [(0,[5]),(0,[5]),(0,[]),(3,[5]),(0,[]),(3,[7]),(0,[]),(1,[8])] mixed rfl ?_;simp only[go_sem,qv];refine⟨_,_,nR hT he hy _ _ _ h9 _ _ (zh hp) ⟨rfl,rfl⟩,?_⟩;simp only[go_sem,zb hp];rw[zt];refine⟨.slice .full 6 [zq x],?_,?_⟩
   ·simp only[go_sem];exact⟨⟨[],by simp⟩,zM _ _ (.inr rfl) _ [_],.inl rfl⟩
   simp only[go_sem];refine⟨_,_,⟨Tryz.app6 (by omega),rfl,rfl⟩,?_⟩;simp only[go_sem];refine⟨m,_,by omega,?_,nd.addKid x,q2,k+1,_,hl,by rw[zQ];simp;omega,by rw[qh];exact hnm,rfl,by rw[qV,qT,Zv,Zu,zQ,xmA];rfl⟩;exact qu
  | false =>
   simp only[XU,if_false,xsJ,xpJ] at hl;obtain⟨rfl,rfl⟩:=hl;unfold qk;by_cases h0:t9.kind=0
   ·have c1:(t9.kind != 0)=false:=by simp[h0]
    rw[if_neg (by simp[h0])] at h6;cases h6;simp only[go_sem];refine ZG h7 (zh hp) ?_;simp only[go_sem,ha];first | (unfold zf;simp only[ze,zc,zl,xsS,xsZ,xgS,xgZ]) | skip
    refine ZG h7 (zh hp) ?_;simp only[go_sem,ha,hb];first | (unfold zf;simp only[ze,zc,zl,xsS,xsZ,xgS,xgZ]) | skip
    refine Qe hT h3 (zh hp) fun _=>?_;simp only[go_sem,zb hp];refine zB [] [(0,[5]),(0,[5]),(0,[]),(3,[5]),(0,[]),(3,[7]),(0,[]),(1,[8])] mixed rfl ?_;simp only[go_sem,qv];refine⟨_,_,W1 he rfl h4 (zh hp) ⟨rfl,rfl⟩,?_⟩;simp only[go_sem,zb hp];rw[zt];refine⟨.slice .full 6 [zq u],?_,?_⟩
    ·simp only[go_sem];exact⟨⟨[],by simp⟩,zM _ _ (.inr rfl) _ [_],.inl rfl⟩
    simp only[go_sem];refine⟨_,_,⟨Tryz.app6 (by omega),rfl,rfl⟩,?_⟩;simp only[go_sem];refine qi h5 (zh hp) ?_;simp only[go_sem,zb hp,c1,qv];exact FC hk (by rw[qh];exact hnm) (kid:=st.length+2) (ver:=k+1) (by unfold qk;simp[qV,qT,Zv,Zu,zQ])
   ·have c1:(t9.kind != 0)=true:=by simp[h0]
    rw[if_pos h0] at h6;simp only[go_sem];refine ZG h7 (zh hp) ?_;simp only[go_sem,ha];first | (unfold zf;simp only[ze,zc,zl,xsS,xsZ,xgS,xgZ]) | skip
    refine ZG h7 (zh hp) ?_;simp only[go_sem,ha,hb];first | (unfold zf;simp only[ze,zc,zl,xsS,xsZ,xgS,xgZ]) | skip
    refine Qe hT h3 (zh hp) fun _=>?_;simp only[go_sem,zb hp];refine zB [] [(0,[5]),(0,[5]),(0,[]),(3,[5]),(0,[]),(3,[7]),(0,[]),(1,[8])] mixed rfl ?_;simp only[go_sem,qv];refine⟨_,_,W1 he rfl h4 (zh hp) ⟨rfl,rfl⟩,?_⟩;simp only[go_sem,zb hp];rw[zt];refine⟨.slice .full 6 [zq u],?_,?_⟩
    ·simp only[go_sem];exact⟨⟨[],by simp⟩,zM _ _ (.inr rfl) _ [_],.inl rfl⟩
    simp only[go_sem];refine⟨_,_,⟨Tryz.app6 (by omega),rfl,rfl⟩,?_⟩;simp only[go_sem];refine qi h5 (zh hp) ?_;simp only[go_sem,zb hp,c1,qv];first | (unfold zf;simp only[ze,zc,zl,xsS,xsZ,xgS,xgZ]) | skip
    refine U3 h6 (zh hp) fun _=>?_;simp only[go_sem,zb hp,qv];exact FC hk (by rw[qh];exact hnm) (kid:=st.length+2) (ver:=k+1) (by unfold qk;simp[qV,qT,Zv,Zu,zQ])
end Go.Proofs
namespace Go.AL
theorem Hc:∀ (m:Nat) (s:Tx) (k:Nat) (out:List Tk),s.length<m →
  (∀ a e,Zs m s k out = .error (a,e)→e≠0∧a≤k+s.length)∧(∀ T,Zs m s k out = .ok T→T.length≤out.length+s.length+1)
 | 0,s,k,out,h=>absurd h (by omega)
 | m+1,s,k,out,h=>by
  have hsk:=V2 false s;cases hd:s.drop (qo false s) with
  | nil =>
   rw[Go.Proofs.tokensL_end hd];refine⟨fun a e h=>(by cases h),fun T h=>?_⟩;cases h;simp
  | cons c r =>
   rw[Go.Proofs.tokensL_step hd];have hl:=congrArg List.length hd;simp only[List.length_drop,xlC] at hl;generalize hR:VT c (c::r) ((k+qo false s:Nat):Int)=R;obtain⟨g,e,t,n⟩:=R;obtain⟨h1,h2,h3⟩:=Hj hR;rw[h1];by_cases he:e=0
   ·rw[if_pos he];obtain⟨n1,n2,n3⟩:=h3 he;simp only[xlC] at n2;obtain⟨i1,i2⟩:=Hc m ((c::r).drop n) (k+qo false s+n) (out++[t]) (by simp only[List.length_drop,xlC];omega);simp only[List.length_drop,xlC,xlA,xlN] at i1 i2;exact⟨fun a e h=>by have:=i1 a e h;exact⟨this.1,by omega⟩,fun T h=>by have:=i2 T h;omega⟩
   ·rw[if_neg he];refine⟨fun a e' h=>?_,fun T h=>(by cases h)⟩;cases h;exact⟨he,by omega⟩
theorem Wa{s:Tx}{a:Nat}{e:Int}(h:X8 s = .error (a,e)):e≠0:=by
 unfold X8 at h;split at h
 ·cases h;decide
 ·exact ((Hc _ _ _ _ (by omega)).1 _ _ h).1
theorem Bj{s:Tx}{T:List Tk}(h:X8 s = .ok T):T.length≤2001:=by
 unfold X8 at h;split at h
 ·cases h
 ·have:=(Hc _ _ _ _ (by omega)).2 _ h;simp at this;omega
end Go.AL
namespace Go.Proofs
open Go Go.AL Tryz
theorem gx(z:Nat):SVle (.slice .full 0 []) (.slice .imm z []):=fun _ _ _ _ h=>XE (Rep.norm1 h) (.inr rfl)
theorem uK:SVle (.agg qv) (zq Wf):=SVle.agg (.cons (SVle.refl _) (.cons (SVle.refl _) (.cons (SVle.refl _) (.cons (SVle.refl _) (.cons (gx 1) (.cons (gx 6) .nil))))))
theorem de(n:Nat)(x:SV)(a e:Value)(h:Ids n x):Ids n (.tuple [x,.sc a,.sc e]):=by
 refine .tuple _ ?_;intro i hi;match i with
 | 0=>exact h
 | 1=>exact .sc _
 | 2=>exact .sc _
 | i+3=>simp at hi;omega
theorem D5(n:Nat):Ids n (.agg qv):=by
 rw[Qc];intro x hx;simp only[qv,List.mem_cons,List.not_mem_nil,or_false] at hx;rcases hx with rfl | rfl | rfl | rfl | rfl | rfl
 ·exact .sc _
 ·exact .sc _
 ·exact .sc _
 ·exact .sc _
 ·exact zT (.inr rfl) fun x hx=>by cases hx
 ·exact zT (.inr rfl) fun x hx=>by cases hx
theorem HY{st ex:St}{K:SV→St→Prop}{x:SV}{nd:Nd}{a e:Value}(hi:Ids st.length x)(hx:norm1 x=x)(hle:SVle x (zq nd))(hk:K (.tuple [zq nd,.sc a,.sc e]) st):Fu st (wl K) (.tuple [x,.sc a,.sc e]) (st++ex):=by
 have hn:norm (.tuple [x,.sc a,.sc e]) = .tuple [x,.sc a,.sc e]:=by simp only[UW,List.map_cons,List.map_nil,hx];rfl
 refine⟨⟨ex,rfl⟩,?_,?_⟩
 ·rw[hn];exact de _ _ _ _ hi
 ·rw[hn];exact⟨_,SVle.tuple (.cons hle (.cons (SVle.refl _) (.cons (SVle.refl _) .nil))),hk⟩
theorem ce{s:Tx}{gid:Nat}{m:Int}{K:SV→St→Prop}{st:St}(hg:UC gid m st)(hz:s.length≤100000){a:Nat}{e:Int}(h:X8 s = .error (a,e))(hk:∀ x,K (.tuple [x,.sc (.int .i64 a),.sc (.int .i64 e)]) st):ACalls prog 46 [.sc (.string (ba s))] K st:=by
 refine wT hg ?_ hz;rw[h];exact hk
theorem FD{s:Tx}{gid:Nat}{m:Int}{K:SV→St→Prop}{st:St}(hg:UC gid m st)(hz:s.length≤100000){T:List Tk}(h:X8 s = .ok T)(hk:K (.tuple [.slice .imm 4 (T.map ZF),.sc (.int .i64 0),.sc (.int .i64 0)]) st):ACalls prog 46 [.sc (.string (ba s))] K st:=by
 refine wT hg ?_ hz;rw[h];exact hk
theorem uL{s:Tx}{gid:Nat}{m:Int}{K:SV→St→Prop}{st:St}(hg:UC gid m st)(hz:s.length≤100000){a:Nat}{e:Int}(h:X8 s = .error (a,e))(hk:K (.tuple [zq Wf,.sc (.int .i64 a),.sc (.int .i64 e)]) st):ACalls prog 29 [.sc (.string (ba s))] K st:=by
 refine zA (zd [23] func29 rfl results29 ntmps29 ?_);have he:(e != 0)=true:=by simp[Wa h]
 simp only[go_sem];refine ce (JJ hg) hz h fun x=>?_;simp only[go_sem,he];exact HY (D5 _) rfl uK hk
theorem uq{s:Tx}{gid:Nat}{m:Int}{K:SV→St→Prop}{st:St}(hg:UC gid m st)(hz:s.length≤100000){T:List Tk}(h:X8 s = .ok T){nd:Nd}{q:PS}(hP:KA T (Qf T 42) (F3 T 42) ⟨0,0,false,0,0⟩=some (nd,q))
  (hk:K (.tuple [zq (if q.e=0 then nd else Wf),.sc (.int .i64 (if q.e=0 then 0 else q.bad)),.sc (.int .i64 q.e)]) st):ACalls prog 29 [.sc (.string (ba s))] K st:=by
 refine zA (zd [23] func29 rfl results29 ntmps29 ?_);have hT:=Bj h;have hpat:KF T (st.length+1) ⟨0,0,false,0,0⟩ (st++[.cells qv,.cells (Qn T ⟨0,0,false,0,0⟩)]):=by unfold KF;simp
 have hset:∀ X:Ob,(st++[Ob.cells qv,Ob.cells (Qn T ⟨0,0,false,0,0⟩)]).set (st.length+1) X=st++[.cells qv,X]:=fun X=>by
  rw[List.set_append_right _ _ (by omega)];simp
 have hp17:=m9 (T:=T) (by omega) (pid:=st.length+1) (AZ (by omega) 42) (Nf (by omega) 42);have hrun:=fun K=>hp17 _ _ _ hP K _ hpat;simp only[hset] at hrun;have hps:Qn T q=[.slice .imm 4 (T.map ZF),.sc (.int .i64 q.pos),.sc (.int .i64 q.deep),.sc (.bool q.flat),.sc (.int .i64 q.bad),.sc (.int .i64 q.e)]:=rfl;rw[hps] at hrun;by_cases he:q.e=0
 ·have c1:(q.e != 0)=false:=by simp[he]
  simp only[he,if_true] at hk;simp only[go_sem];refine FD (JJ hg) hz h ?_;simp only[go_sem,CW];refine hrun _ ?_;simp only[go_sem,c1,qv];exact HY (JX _ _) (KQ _) (SVle.refl _) hk
 ·have c1:(q.e != 0)=true:=by simp[he]
  simp only[he,if_false] at hk;simp only[go_sem];refine FD (JJ hg) hz h ?_;simp only[go_sem,CW];refine hrun _ ?_;simp only[go_sem,c1];refine zB [] [(0,[]),(0,[12]),(0,[12]),(0,[12]),(0,[12]),(0,[12]),(0,[12]),(0,[12]),(0,[12]),(1,[12]),(0,[]),(0,[])] mixed rfl ?_;simp only[go_sem,qv];rw[zt];refine⟨.agg qv,?_,?_⟩
  ·simp only[go_sem];exact⟨⟨[],by simp⟩,D5 _,.inl rfl⟩
  simp only[go_sem,qv];exact HY (D5 _) rfl uK hk
theorem AJ{s:Tx}{nd:Nd}{a e:Int}(h:qp s=some (nd,a,e)){gid:Nat}{m:Int}{K:SV→St→Prop}{st:St}(hg:UC gid m st)(hz:s.length≤100000)(hk:K (.tuple [zq nd,.sc (.int .i64 a),.sc (.int .i64 e)]) st):ACalls prog 29 [.sc (.string (ba s))] K st:=by
 unfold qp at h;cases hl:X8 s with
 | error x =>
  obtain⟨b,f⟩:=x;rw[hl] at h;simp only[xsJ,xpJ] at h;obtain⟨rfl,rfl,rfl⟩:=h;exact uL hg hz hl hk
 | ok T =>
  rw[hl] at h;simp only[YI,xoM,xpX] at h;obtain⟨n,q,hP,h⟩:=h;refine uq hg hz hl hP ?_;by_cases he:q.e=0
  ·simp only[he,if_true,xpJ] at h ⊢;obtain⟨rfl,rfl,rfl⟩:=h;exact hk
  ·simp only[he,if_false,xpJ] at h ⊢;obtain⟨rfl,rfl,rfl⟩:=h;exact hk
end Go.Proofs
