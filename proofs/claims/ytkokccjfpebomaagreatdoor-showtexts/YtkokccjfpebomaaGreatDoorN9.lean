/- program; the parser's functions, one in another. -/
import Derived.Test.YtkokccjfpebomaaGreatDoorW11
import Derived.Test.YtkokccjfpebomaaGreatDoorM4
set_option linter.all false
set_option maxHeartbeats 4000000
set_option maxRecDepth 8000
namespace Go.Proofs
open Go Go.AL Tryz
theorem Ij{T:List Tk}(hT:T.length≤100000){pid:Nat}:∀ n,HC T pid 138 (BC T n):=by
 intro n;induction n with
 | zero=>intro p r p' h;cases h
 | succ n ih=>exact NC hT ih
theorem lH{T:List Tk}(hT:T.length≤100000){pid:Nat}:∀ n,HC T pid 170 (Qj T n):=by
 intro n;induction n with
 | zero=>intro p r p' h;cases h
 | succ n ih=>exact CM hT ih
theorem rv{T:List Tk}(hT:T.length≤100000){pid:Nat}:∀ n,HC T pid 79 (Z7 T n):=by
 intro n;induction n with
 | zero=>intro p r p' h;cases h
 | succ n ih=>exact IB hT ih (lH hT (n+1))
theorem aG{st ex:St}(k:Nat):(st++ex)[st.length+k]?=ex[k]?:=by
 rw[List.getElem?_append_right (by omega)];simp
theorem lV{st ex:St}{Y:Ob}(k:Nat):(st++ex).set (st.length+k) Y=st++ex.set k Y:=by
 rw[List.set_append_right _ _ (by omega)];simp
theorem FB{T:List Tk}{pid kid ver:Nat}{p':PS}{nd:Nd}{st:St}{K:SV→St→Prop}{l:List SV}(hk:K (zq nd) (st.set pid (.cells (Qa T p'))))(hnm:nd.names=[])(hl:qg kid ver nd=l){ex:St} :
  YU st (jy K) (.agg l) (st.set pid (.cells (Qa T p'))++ex):=by
 rw[←hl];exact VC hk hnm
theorem xr{T:List Tk}(hT:T.length≤100000){pid:Nat}{e ty:PM Nd}(he:HC T pid 79 e)(hy:HC T pid 138 ty):HC T pid 47 (KE T e ty):=by
 intro p r p' h K st hp hk;refine zw (zl [] func47 rfl results47 ntmps47 ?_);unfold KE at h;simp only[xoB,xoM,xpX,xpJ] at h;obtain⟨t0,h1,n1,p1,h2,p2,h3,u,p3,h4,t9,h5,p4,h6,rfl,rfl⟩:=h;simp only[go_sem];refine qd h1 (zo hp) ?_;simp only[go_sem];refine Xx rfl rfl rfl rfl (fun _=>rfl) (zQ (.inr rfl) (fun x hx=>by cases hx)) ?_;unfold Q8;simp only[go_sem];refine Z2 (st.length+1) 5 6 0 (aG 1) (by simp) rfl ?_;rw[lV];simp only[xlA,Xv,xlC,xlN,xsS,xsZ,xaA,xcA,xnA,Nat.zero_add,Nat.reduceAdd];refine zt [] (fun m env s=>∃ (nd:Nd) (q:PS) (k:Nat) (ex:St),Y' T e ty m nd q=some (n1,p1)∧m+nd.kids.length≤T.length+2∧nd.names=[]∧env=(.ptr pid 0 :: .any :: .ptr st.length 0 :: .ptr (st.length+1) 0 :: .any :: .any::XQ (XD [])) ∧
  s=st.set pid (.cells (Qa T q))++(.cells qu :: .cells (qg (st.length+2) k nd) :: .tok k::ex)) (n:=T.length+2) ?_ ⟨_,_,0,[],h2,by simp[zr,Nd.kids],rfl,rfl,by rw[kF hp];rfl⟩ ?_
 ·exact qv
 rintro m env s ⟨nd,q,k,ex,hl,hm,hnm,rfl,rfl⟩;cases m with
 | zero=>cases hl
 | succ m =>
 simp only[Y',Ye,xoB,xoM] at hl;obtain⟨a,⟨t,h7,ha⟩,b,hb,hl⟩:=hl;cases a with
 | true =>
  simp only[if_true,xsJ] at hb;subst hb;simp only[if_true,xoB,xpX] at hl;obtain⟨q1,h8,x,q2,h9,hl⟩:=hl;unfold qg;simp only[go_sem];refine Zy h7 (ze hp) ?_;simp only[go_sem,ha];try (unfold zd;simp only[qc])
  refine Jk (p':=q1) (n:=nd.kids.length) (by simpa using h8) (ze hp) fun _=>?_;simp only[go_sem,zb hp];refine zA [] [(0,[5]),(0,[5]),(0,[]),(3,[5]),(0,[]),(3,[7]),(0,[]),(1,[8])] mixed rfl ?_;simp only[go_sem,qu];refine⟨_,_,m9 hT he hy _ _ _ h9 _ _ (ze hp) ⟨rfl,rfl⟩,?_⟩;simp only[go_sem,zb hp];rw[zp];refine⟨.slice .full 6 [zq x],?_,?_⟩
  ·simp only[go_sem];exact⟨⟨[],by simp⟩,zK _ _ (.inr rfl) _ [_],.inl rfl⟩
  simp only[go_sem];refine⟨_,_,⟨Tryz.app6 (by omega),rfl,rfl⟩,?_⟩;simp only[go_sem];refine⟨m,_,by omega,?_,nd.addKid x,q2,k+1,_,hl,by rw[zM];simp;omega,by rw[qb];exact hnm,rfl,by rw[qK,qI,Zo,Zn,zM,xmA];rfl⟩;exact qv
 | false =>
  simp only[Yd,if_false,xoM] at hb;obtain⟨t',h7',hb⟩:=hb;rw[h7] at h7';cases h7';cases b with
  | true =>
   simp only[if_true,xoB,xpX] at hl;obtain⟨q1,h8,x,q2,h9,hl⟩:=hl;unfold qg;simp only[go_sem];refine Zy h7 (ze hp) ?_;simp only[go_sem,ha];try (unfold zd;simp only[qc])
   refine Zy h7 (ze hp) ?_;simp only[go_sem,ha,hb];try (unfold zd;simp only[qc])
   refine Jk (p':=q1) (n:=nd.kids.length) (by simpa using h8) (ze hp) fun _=>?_;simp only[go_sem,zb hp];refine zA [] [(0,[5]),(0,[5]),(0,[]),(3,[5]),(0,[]),(3,[7]),(0,[]),(1,[8])] mixed rfl ?_;simp only[go_sem,qu];refine⟨_,_,m9 hT he hy _ _ _ h9 _ _ (ze hp) ⟨rfl,rfl⟩,?_⟩;simp only[go_sem,zb hp];rw[zp];refine⟨.slice .full 6 [zq x],?_,?_⟩
   ·simp only[go_sem];exact⟨⟨[],by simp⟩,zK _ _ (.inr rfl) _ [_],.inl rfl⟩
   simp only[go_sem];refine⟨_,_,⟨Tryz.app6 (by omega),rfl,rfl⟩,?_⟩;simp only[go_sem];refine⟨m,_,by omega,?_,nd.addKid x,q2,k+1,_,hl,by rw[zM];simp;omega,by rw[qb];exact hnm,rfl,by rw[qK,qI,Zo,Zn,zM,xmA];rfl⟩;exact qv
  | false =>
   simp only[Yd,if_false,xsJ,xpJ] at hl;obtain⟨rfl,rfl⟩:=hl;unfold qg;by_cases h0:t9.kind=0
   ·have c1:(t9.kind != 0)=false:=by simp[h0]
    rw[if_neg (by simp[h0])] at h6;cases h6;simp only[go_sem];refine Zy h7 (ze hp) ?_;simp only[go_sem,ha];try (unfold zd;simp only[qc])
    refine Zy h7 (ze hp) ?_;simp only[go_sem,ha,hb];try (unfold zd;simp only[qc])
    refine Z6 hT h3 (ze hp) fun _=>?_;simp only[go_sem,zb hp];refine zA [] [(0,[5]),(0,[5]),(0,[]),(3,[5]),(0,[]),(3,[7]),(0,[]),(1,[8])] mixed rfl ?_;simp only[go_sem,qu];refine⟨_,_,WI he rfl h4 (ze hp) ⟨rfl,rfl⟩,?_⟩;simp only[go_sem,zb hp];rw[zp];refine⟨.slice .full 6 [zq u],?_,?_⟩
    ·simp only[go_sem];exact⟨⟨[],by simp⟩,zK _ _ (.inr rfl) _ [_],.inl rfl⟩
    simp only[go_sem];refine⟨_,_,⟨Tryz.app6 (by omega),rfl,rfl⟩,?_⟩;simp only[go_sem];refine qd h5 (ze hp) ?_;simp only[go_sem,zb hp,c1,qu];exact FB hk (by rw[qb];exact hnm) (kid:=st.length+2) (ver:=k+1) (by unfold qg;simp[qK,qI,Zo,Zn,zM])
   ·have c1:(t9.kind != 0)=true:=by simp[h0]
    rw[if_pos h0] at h6;simp only[go_sem];refine Zy h7 (ze hp) ?_;simp only[go_sem,ha];try (unfold zd;simp only[qc])
    refine Zy h7 (ze hp) ?_;simp only[go_sem,ha,hb];try (unfold zd;simp only[qc])
    refine Z6 hT h3 (ze hp) fun _=>?_;simp only[go_sem,zb hp];refine zA [] [(0,[5]),(0,[5]),(0,[]),(3,[5]),(0,[]),(3,[7]),(0,[]),(1,[8])] mixed rfl ?_;simp only[go_sem,qu];refine⟨_,_,WI he rfl h4 (ze hp) ⟨rfl,rfl⟩,?_⟩;simp only[go_sem,zb hp];rw[zp];refine⟨.slice .full 6 [zq u],?_,?_⟩
    ·simp only[go_sem];exact⟨⟨[],by simp⟩,zK _ _ (.inr rfl) _ [_],.inl rfl⟩
    simp only[go_sem];refine⟨_,_,⟨Tryz.app6 (by omega),rfl,rfl⟩,?_⟩;simp only[go_sem];refine qd h5 (ze hp) ?_;simp only[go_sem,zb hp,c1,qu];try (unfold zd;simp only[qc])
    refine Un h6 (ze hp) fun _=>?_;simp only[go_sem,zb hp,qu];exact FB hk (by rw[qb];exact hnm) (kid:=st.length+2) (ver:=k+1) (by unfold qg;simp[qK,qI,Zo,Zn,zM])
end Go.Proofs
namespace Go.AL
theorem Uf:∀ (m:Nat) (s:Tx) (k:Nat) (out:List Tk),s.length<m →
  (∀ a e,Zk m s k out = .error (a,e)→e≠0∧a≤k+s.length)∧(∀ T,Zk m s k out = .ok T→T.length≤out.length+s.length+1)
 | 0,s,k,out,h=>absurd h (by omega)
 | m+1,s,k,out,h=>by
  have hsk:=Vu false s;cases hd:s.drop (qi false s) with
  | nil =>
   rw[Go.Proofs.tokensL_end hd];refine⟨fun a e h=>(by cases h),fun T h=>?_⟩;cases h;simp
  | cons c r =>
   rw[Go.Proofs.tokensL_step hd];have hl:=congrArg List.length hd;simp only[List.length_drop,xlC] at hl;generalize hR:Vv c (c::r) ((k+qi false s:Nat):Int)=R;obtain⟨g,e,t,n⟩:=R;obtain⟨h1,h2,h3⟩:=Hn hR;rw[h1];by_cases he:e=0
   ·rw[if_pos he];obtain⟨n1,n2,n3⟩:=h3 he;simp only[xlC] at n2;obtain⟨i1,i2⟩:=Uf m ((c::r).drop n) (k+qi false s+n) (out++[t]) (by simp only[List.length_drop,xlC];omega);simp only[List.length_drop,xlC,xlA,xlN] at i1 i2;exact⟨fun a e h=>by have:=i1 a e h;exact⟨this.1,by omega⟩,fun T h=>by have:=i2 T h;omega⟩
   ·rw[if_neg he];refine⟨fun a e' h=>?_,fun T h=>(by cases h)⟩;cases h;exact⟨he,by omega⟩
theorem UE{s:Tx}{a:Nat}{e:Int}(h:YY s = .error (a,e)):e≠0:=by
 unfold YY at h;split at h
 ·cases h;decide
 ·exact ((Uf _ _ _ _ (by omega)).1 _ _ h).1
theorem D'{s:Tx}{T:List Tk}(h:YY s = .ok T):T.length≤2001:=by
 unfold YY at h;split at h
 ·cases h
 ·have:=(Uf _ _ _ _ (by omega)).2 _ h;simp at this;omega
end Go.AL
namespace Go.Proofs
open Go Go.AL Tryz
variable {K:SV→St→Prop}{st:St}
theorem yl(z:Nat):SVle (.slice .full 0 []) (.slice .imm z []):=fun _ _ _ _ h=>XY (Rep.norm1 h) (.inr rfl)
theorem vS:SVle (.agg qu) (zq VQ):=SVle.agg (.cons (SVle.refl _) (.cons (SVle.refl _) (.cons (SVle.refl _) (.cons (SVle.refl _) (.cons (yl 1) (.cons (yl 6) .nil))))))
theorem pJ(n:Nat)(x:SV)(a e:Value)(h:Ids n x):Ids n (.tuple [x,.sc a,.sc e]):=by
 refine .tuple _ ?_;intro i hi;match i with
 | 0=>exact h
 | 1=>exact .sc _
 | 2=>exact .sc _
 | i+3=>simp at hi;omega
theorem Do(n:Nat):Ids n (.agg qu):=by
 rw[Z9];intro x hx;simp only[qu,List.mem_cons,List.not_mem_nil,or_false] at hx;rcases hx with rfl | rfl | rfl | rfl | rfl | rfl
 ·exact .sc _
 ·exact .sc _
 ·exact .sc _
 ·exact .sc _
 ·exact zQ (.inr rfl) fun x hx=>by cases hx
 ·exact zQ (.inr rfl) fun x hx=>by cases hx
theorem UQ{st ex:St}{K:SV→St→Prop}{x:SV}{nd:Nd}{a e:Value}(hi:Ids st.length x)(hx:norm1 x=x)(hle:SVle x (zq nd))(hk:K (.tuple [zq nd,.sc a,.sc e]) st):Ba st (jy K) (.tuple [x,.sc a,.sc e]) (st++ex):=by
 have hn:norm (.tuple [x,.sc a,.sc e]) = .tuple [x,.sc a,.sc e]:=by simp only[Ut,List.map_cons,List.map_nil,hx];rfl
 refine⟨⟨ex,rfl⟩,?_,?_⟩
 ·rw[hn];exact pJ _ _ _ _ hi
 ·rw[hn];exact⟨_,SVle.tuple (.cons hle (.cons (SVle.refl _) (.cons (SVle.refl _) .nil))),hk⟩
theorem xH{s:Tx}{gid:Nat}{m:Int}(hg:UH gid m st)(hz:s.length≤100000){a:Nat}{e:Int}(h:YY s = .error (a,e))(hk:∀ x,K (.tuple [x,.sc (.int .i64 a),.sc (.int .i64 e)]) st):ACalls prog 46 [.sc (.string (ba s))] K st:=by
 refine jr hg ?_ hz;rw[h];exact hk
theorem Bw{s:Tx}{gid:Nat}{m:Int}(hg:UH gid m st)(hz:s.length≤100000){T:List Tk}(h:YY s = .ok T)(hk:K (.tuple [.slice .imm 4 (T.map ZC),.sc (.int .i64 0),.sc (.int .i64 0)]) st):ACalls prog 46 [.sc (.string (ba s))] K st:=by
 refine jr hg ?_ hz;rw[h];exact hk
theorem vI{s:Tx}{gid:Nat}{m:Int}(hg:UH gid m st)(hz:s.length≤100000){a:Nat}{e:Int}(h:YY s = .error (a,e))(hk:K (.tuple [zq VQ,.sc (.int .i64 a),.sc (.int .i64 e)]) st):ACalls prog 29 [.sc (.string (ba s))] K st:=by
 refine zw (zc [23] func29 rfl results29 ntmps29 ?_);have he:(e != 0)=true:=by simp[UE h]
 simp only[go_sem];refine xH (KN hg) hz h fun x=>?_;simp only[go_sem,he];exact UQ (Do _) rfl vS hk
theorem kC{s:Tx}{gid:Nat}{m:Int}(hg:UH gid m st)(hz:s.length≤100000){T:List Tk}(h:YY s = .ok T){nd:Nd}{q:PS}(hP:KE T (Z7 T 42) (BC T 42) ⟨0,0,false,0,0⟩=some (nd,q))
  (hk:K (.tuple [zq (if q.e=0 then nd else VQ),.sc (.int .i64 (if q.e=0 then 0 else q.bad)),.sc (.int .i64 q.e)]) st):ACalls prog 29 [.sc (.string (ba s))] K st:=by
 refine zw (zc [23] func29 rfl results29 ntmps29 ?_);have hT:=D' h;have hpat:W8 T (st.length+1) ⟨0,0,false,0,0⟩ (st++[.cells qu,.cells (Qa T ⟨0,0,false,0,0⟩)]):=by unfold W8;simp
 have hset:∀ X:Ob,(st++[Ob.cells qu,Ob.cells (Qa T ⟨0,0,false,0,0⟩)]).set (st.length+1) X=st++[.cells qu,X]:=fun X=>by
  rw[List.set_append_right _ _ (by omega)];simp
 have hp17:=xr (T:=T) (by omega) (pid:=st.length+1) (rv (by omega) 42) (Ij (by omega) 42);have hrun:=fun K=>hp17 _ _ _ hP K _ hpat;simp only[hset] at hrun;have hps:Qa T q=[.slice .imm 4 (T.map ZC),.sc (.int .i64 q.pos),.sc (.int .i64 q.deep),.sc (.bool q.flat),.sc (.int .i64 q.bad),.sc (.int .i64 q.e)]:=rfl;rw[hps] at hrun;by_cases he:q.e=0
 ·have c1:(q.e != 0)=false:=by simp[he]
  simp only[he,if_true] at hk;simp only[go_sem];refine Bw (KN hg) hz h ?_;simp only[go_sem,sY];refine hrun _ ?_;simp only[go_sem,c1,qu];exact UQ (VI _ _) (Kx _) (SVle.refl _) hk
 ·have c1:(q.e != 0)=true:=by simp[he]
  simp only[he,if_false] at hk;simp only[go_sem];refine Bw (KN hg) hz h ?_;simp only[go_sem,sY];refine hrun _ ?_;simp only[go_sem,c1];refine zA [] [(0,[]),(0,[12]),(0,[12]),(0,[12]),(0,[12]),(0,[12]),(0,[12]),(0,[12]),(0,[12]),(1,[12]),(0,[]),(0,[])] mixed rfl ?_;simp only[go_sem,qu];rw[zp];refine⟨.agg qu,?_,?_⟩
  ·simp only[go_sem];exact⟨⟨[],by simp⟩,Do _,.inl rfl⟩
  simp only[go_sem,qu];exact UQ (Do _) rfl vS hk
theorem ag{s:Tx}{nd:Nd}{a e:Int}(h:qC s=some (nd,a,e)){gid:Nat}{m:Int}(hg:UH gid m st)(hz:s.length≤100000)(hk:K (.tuple [zq nd,.sc (.int .i64 a),.sc (.int .i64 e)]) st):ACalls prog 29 [.sc (.string (ba s))] K st:=by
 unfold qC at h;cases hl:YY s with
 | error x =>
  obtain⟨b,f⟩:=x;rw[hl] at h;simp only[xsJ,xpJ] at h;obtain⟨rfl,rfl,rfl⟩:=h;exact vI hg hz hl hk
 | ok T =>
  rw[hl] at h;simp only[Jm,xoM,xpX] at h;obtain⟨n,q,hP,h⟩:=h;refine kC hg hz hl hP ?_;by_cases he:q.e=0
  ·simp only[he,if_true,xpJ] at h ⊢;obtain⟨rfl,rfl,rfl⟩:=h;exact hk
  ·simp only[he,if_false,xpJ] at h ⊢;obtain⟨rfl,rfl,rfl⟩:=h;exact hk
end Go.Proofs
