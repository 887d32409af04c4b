/- The lexer: next. -/
import Derived.Test.YtkokccjfpebomaaGreatDoorM3
set_option linter.all false
set_option maxHeartbeats 4000000
set_option maxRecDepth 8000
namespace Go.AL
open Go.Proofs (kj)
def VT(c:UInt8)(w:Tx)(a:Int):FuncId×Int×Tk×Nat :=
 if qb c then (95,(kj (w.take (zY qb w)) ⟨0,[],0,a⟩).1,(kj (w.take (zY qb w)) ⟨0,[],0,a⟩).2,zY qb w)
 else if c=34 then (96,(YG w).2.2,⟨2,(YG w).1,0,a⟩,(YG w).2.1.toNat)
 else if Zb c || qS c then (99,(FG (w.take (zY zL w)) ⟨0,[],0,a⟩).1,(FG (w.take (zY zL w)) ⟨0,[],0,a⟩).2,zY zL w)
 else if c∈signsL then (101,0,⟨5,w.take (if Lib.hasPrefix w [45,62] then 2 else 1),0,a⟩,if Lib.hasPrefix w [45,62] then 2 else 1)
 else (93,10,⟨0,[],0,a⟩,0)
end Go.AL
namespace Go.Proofs
open Go Go.AL Tryz
def Rd(g:FuncId)(s:Tx)(a:Nat)(e:Int)(t t':Tk)(n:Nat):Prop:=∀ (rid tid gid:Nat) (m:Int) (K:SV→St→Prop) (st:St),rid≠tid→gid≠rid→gid≠tid→UC gid m st→DJ s rid a st→DV tid t st→K (.sc (.int .i64 e)) (gb st rid tid s (a+n) t')→ACalls prog g [.ptr rid 0,.ptr tid 0] K st
theorem AD{s:Tx}{rid tid a:Nat}{t:Tk}{st:St}(hr:DJ s rid a st)(ht:DV tid t st):gb st rid tid s a t=st:=by
 rw[wG ht];exact jN hr
theorem RB{s:Tx}(hs:s.length≤100000){a:Nat}(ha:a<s.length):Rd (VT s[a] (s.drop a) a).1 s a (VT s[a] (s.drop a) a).2.1 ⟨0,[],0,a⟩ (VT s[a] (s.drop a) a).2.2.1 (VT s[a] (s.drop a) a).2.2.2:=by
 intro rid tid gid m K st h1 h2 h3 hg hr ht hk;unfold VT at hk ⊢;by_cases c1:qb s[a]=true
 ·rw[if_pos c1] at hk ⊢;exact dg (by omega) h1 ha hr ht rfl rfl hk
 rw[if_neg c1] at hk ⊢;by_cases c2:s[a]=34
 ·rw[if_pos c2] at hk ⊢;have hl:=kX (s.drop a);exact Cb hs h1 ha hr ht rfl (n:=(YG (s.drop a)).2.1.toNat) (by rw[Int.toNat_of_nonneg hl.1]) hk
 rw[if_neg c2] at hk ⊢;by_cases c3:(Zb s[a] || qS s[a])=true
 ·rw[if_pos c3] at hk ⊢;exact A8 (by omega) h1 h2 h3 ha (by unfold zL;simp only[Bool.or_eq_true] at c3 ⊢;rcases c3 with c3 | c3 <;> simp[c3]) hg hr ht hk
 rw[if_neg c3] at hk ⊢;by_cases c4:s[a]∈signsL
 ·rw[if_pos c4] at hk ⊢;exact iu (by omega) h1 ha hr ht _ rfl hk
 ·rw[if_neg c4] at hk ⊢;refine Np ?_;rw[show a+(93,(10:Int),(⟨0,[],0,a⟩:Tk),0).2.2.2=a from rfl] at hk;rw[AD hr ht] at hk;exact hk
theorem oA{s:Tx}{rid a b:Nat}{t:Tk}{A B:Ob}{st:St}(h:rid<st.length):gb (st.set rid (.cells (rL s b))++[A,B]) rid (st.length+1) s a t=st.set rid (.cells (rL s a))++[A,.cells (wC t)]:=by
 unfold gb;rw[List.set_append_right _ _ (by simp),List.set_append_left _ _ (by simpa using h)];simp
theorem Ad{st:St}{A:Ob}{t:Tk}{n:Nat}(h:st.length=n):DV (n+1) t (st++[A,.cells (wC t)]):=by subst h;unfold DV;simp[wC]
theorem Kg{s:Tx}(hs:s.length≤1000000){rid a b:Nat}(ha:a≤s.length){K:SV→St→Prop}{st:St}(hr:DJ s rid a st)(hb:a+qo false (s.drop a)=b)
  {s1:St} (he:st.set rid (.cells (rL s b))=s1) (hk:∀ x,K x s1):ACalls prog 92 [.ptr rid 0] K st:=by
 subst hb;subst he;exact A3 hs ha hr hk
def wk:Ob :=.cells [.sc (.int .i64 0),.sc (.string ⟨#[]⟩),.sc (.int .i64 0),.sc (.int .i64 0)]
theorem BC{rid:Nat}{X A:Ob}{st:St}(h:rid<st.length):(st++[A]).set rid X=st.set rid X++[A]:=List.set_append_left _ _ h
theorem Ke(t:Tk)(e:Int)(n:Nat):Ids n (Yi [ZF t,.sc (.int .i64 e)])=True:=eq_true (.tuple _ (by
 intro i hi;match i with
 | 0=>show Ids n (ZF t);rw[Vp];trivial
 | 1=>exact .sc _
 | i+2=>simp at hi;omega))
theorem xE(c:UInt8):decide (0≤Lib.indexByte signsL c)=decide (c∈signsL):=by
 rw[decide_eq_decide];have h:∀ (l:Tx),0≤Lib.indexByte l c↔c∈l:=by
  intro l;induction l with
  | nil=>simp[Lib.indexByte]
  | cons d l ih =>
   have hge:=Lib.indexByte_ge l c;unfold Lib.indexByte;by_cases hd:d=c
   ·simp[hd]
   ·have hb:(d==c)=false:=by simp[hd]
    have hc:¬ c=d:=fun h=>hd h.symm;simp only[hb,XU,if_false,List.mem_cons,hc,false_or,←ih];split
    ·rename_i h;simp at h;omega
    ·rename_i h;simp at h;omega
 exact h signsL
theorem iS{s:Tx}(hs:s.length≤100000){rid gid a b:Nat}{m:Int}(hgr:gid≠rid)(ha:a≤s.length){K:SV→St→Prop}{st:St}(hg:UC gid m st)(hr:DJ s rid a st)(hb:a+qo false (s.drop a)=b)(hlt:b<s.length)
  {g:FuncId} {e:Int} {t:Tk} {n:Nat} (hR:VT s[b] (s.drop b) b=(g,e,t,n))
  (hk:K (.tuple [ZF t,.sc (.int .i64 e)]) (st.set rid (.cells (rL s (b+n))))):ACalls prog 71 [.ptr rid 0] K st:=by
 refine zp [] func71 rfl results71 ntmps71 ?_;have hrl:=zk hr;have hgl:=zk hg;have hrd:=RB hs hlt;rw[hR] at hrd;simp only at hrd;have hrd2:=fun A K h=>hrd rid (st.length+1) gid m K (st.set rid (.cells (rL s b))++[A,.cells (wC ⟨0,[],0,b⟩)]) (by omega) hgr (by omega) (by unfold UC;rw[List.getElem?_append_left (by simpa using hgl),List.getElem?_set_ne (fun e=>hgr e.symm)];exact hg)
  (BN hr) (Ad (by simp)) h
 simp only[oA hrl] at hrd2;have y:=fun ex=>V5 (BN (b:=b) (ex:=ex) hr);have y1:=fun X=>(y X).1;have y2:=fun X=>(y X).2.1;have y3:=fun X=>(y X).2.2;have hgt:=ZJ hlt;have c0:((b:Int)==(s.length:Int))=false:=by
  rw[beq_eq_false_iff_ne];omega
 have e34:=ZC s[b] 34 34 rfl;unfold VT at hR;have gE:∀ g' e' t' n',(g',e',t',n')=(g,e,t,n)→g=g':=fun _ _ _ _ h=>(congrArg Prod.fst h).symm;by_cases c1:qb s[b]=true
 ·rw[if_pos c1] at hR;obtain rfl:=gE _ _ _ _ hR;simp only[go_sem];refine Kg (by omega) ha (Kf hr) hb (BC hrl) fun x=>?_;simp only[go_sem,y1,y2,y3];refine zC [] mixed rfl ?_;simp only[go_sem,y1,y2,y3,zg,c0];refine zC [] mixed rfl ?_;simp only[go_sem,y1,y2,y3,zg,c0,hgt];refine⟨by omega,?_⟩;refine Vd ?_;simp only[go_sem,c1];first | (unfold zf;simp only[ze,zc,zl,xsS,xsZ,xgS,xgZ]) | skip
  refine hrd2 _ _ ?_;simp only[go_sem,wC];exact Dm (Ke _ _) hk rfl
 rw[if_neg c1] at hR;have c1:qb s[b]=false:=by simpa using c1
 by_cases c2:s[b]=34
 ·rw[if_pos c2] at hR;obtain rfl:=gE _ _ _ _ hR;have f2:(s[b]==34)=true:=by simp[c2]
  simp only[go_sem];refine Kg (by omega) ha (Kf hr) hb (BC hrl) fun x=>?_;simp only[go_sem,y1,y2,y3];refine zC [] mixed rfl ?_;simp only[go_sem,y1,y2,y3,zg,c0];refine zC [] mixed rfl ?_;simp only[go_sem,y1,y2,y3,zg,c0,hgt];refine⟨by omega,?_⟩;refine Vd ?_;simp only[go_sem,y1,y2,y3,zg,hgt,c1,e34,f2];first | (unfold zf;simp only[ze,zc,zl,xsS,xsZ,xgS,xgZ]) | skip
  refine hrd2 _ _ ?_;simp only[go_sem,wC];exact Dm (Ke _ _) hk rfl
 rw[if_neg c2] at hR;have f2:(s[b]==34)=false:=by simp[c2]
 by_cases c3:Zb s[b]=true
 ·rw[if_pos (by simp[c3])] at hR;obtain rfl:=gE _ _ _ _ hR;simp only[go_sem];refine Kg (by omega) ha (Kf hr) hb (BC hrl) fun x=>?_;simp only[go_sem,y1,y2,y3];refine zC [] mixed rfl ?_;simp only[go_sem,y1,y2,y3,zg,c0];refine zC [] mixed rfl ?_;simp only[go_sem,y1,y2,y3,zg,c0,hgt];refine⟨by omega,?_⟩;refine Vd ?_;simp only[go_sem,y1,y2,y3,zg,hgt,c1,e34,f2];first | (unfold zf;simp only[ze,zc,zl,xsS,xsZ,xgS,xgZ]) | skip
  refine VY ?_;simp only[go_sem,y1,y2,y3,zg,hgt,c1,e34,f2,c3];first | (unfold zf;simp only[ze,zc,zl,xsS,xsZ,xgS,xgZ]) | skip
  refine hrd2 _ _ ?_;simp only[go_sem,wC];exact Dm (Ke _ _) hk rfl
 have c3:Zb s[b]=false:=by simpa using c3
 by_cases c4:qS s[b]=true
 ·rw[if_pos (by simp[c4])] at hR;obtain rfl:=gE _ _ _ _ hR;simp only[go_sem];refine Kg (by omega) ha (Kf hr) hb (BC hrl) fun x=>?_;simp only[go_sem,y1,y2,y3];refine zC [] mixed rfl ?_;simp only[go_sem,y1,y2,y3,zg,c0];refine zC [] mixed rfl ?_;simp only[go_sem,y1,y2,y3,zg,c0,hgt];refine⟨by omega,?_⟩;refine Vd ?_;simp only[go_sem,y1,y2,y3,zg,hgt,c1,e34,f2];first | (unfold zf;simp only[ze,zc,zl,xsS,xsZ,xgS,xgZ]) | skip
  refine VY ?_;simp only[go_sem,y1,y2,y3,zg,hgt,c1,e34,f2,c3];first | (unfold zf;simp only[ze,zc,zl,xsS,xsZ,xgS,xgZ]) | skip
  refine Vf ?_;simp only[go_sem,y1,y2,y3,zg,hgt,c1,e34,f2,c3,c4];first | (unfold zf;simp only[ze,zc,zl,xsS,xsZ,xgS,xgZ]) | skip
  refine hrd2 _ _ ?_;simp only[go_sem,wC];exact Dm (Ke _ _) hk rfl
 rw[if_neg (by simp[c3,c4])] at hR;have c4:qS s[b]=false:=by simpa using c4
 by_cases c5:s[b]∈signsL
 ·rw[if_pos c5] at hR;obtain rfl:=gE _ _ _ _ hR;have f5:decide (0≤Lib.indexByte signsL s[b])=true:=by rw[xE];simp[c5]
  simp only[go_sem];refine Kg (by omega) ha (Kf hr) hb (BC hrl) fun x=>?_;simp only[go_sem,y1,y2,y3];refine zC [] mixed rfl ?_;simp only[go_sem,y1,y2,y3,zg,c0];refine zC [] mixed rfl ?_;simp only[go_sem,y1,y2,y3,zg,c0,hgt];refine⟨by omega,?_⟩;refine Vd ?_;simp only[go_sem,y1,y2,y3,zg,hgt,c1,e34,f2];first | (unfold zf;simp only[ze,zc,zl,xsS,xsZ,xgS,xgZ]) | skip
  refine VY ?_;simp only[go_sem,y1,y2,y3,zg,hgt,c1,e34,f2,c3];first | (unfold zf;simp only[ze,zc,zl,xsS,xsZ,xgS,xgZ]) | skip
  refine Vf ?_;simp only[go_sem,y1,y2,y3,zg,hgt,c1,e34,f2,c3,c4];first | (unfold zf;simp only[ze,zc,zl,xsS,xsZ,xgS,xgZ]) | skip
  refine VQ (s:=signsL) ?_;simp only[go_sem,y1,y2,y3,zg,hgt,c1,e34,f2,c3,c4,ge_iff_le,f5];first | (unfold zf;simp only[ze,zc,zl,xsS,xsZ,xgS,xgZ]) | skip
  refine hrd2 _ _ ?_;simp only[go_sem,wC];exact Dm (Ke _ _) hk rfl
 rw[if_neg c5] at hR;obtain rfl:=gE _ _ _ _ hR;have f5:decide (0≤Lib.indexByte signsL s[b])=false:=by rw[xE];simp[c5]
 simp only[go_sem];refine Kg (by omega) ha (Kf hr) hb (BC hrl) fun x=>?_;simp only[go_sem,y1,y2,y3];refine zC [] mixed rfl ?_;simp only[go_sem,y1,y2,y3,zg,c0];refine zC [] mixed rfl ?_;simp only[go_sem,y1,y2,y3,zg,c0,hgt];refine⟨by omega,?_⟩;refine Vd ?_;simp only[go_sem,y1,y2,y3,zg,hgt,c1,e34,f2];first | (unfold zf;simp only[ze,zc,zl,xsS,xsZ,xgS,xgZ]) | skip
 refine VY ?_;simp only[go_sem,y1,y2,y3,zg,hgt,c1,e34,f2,c3];first | (unfold zf;simp only[ze,zc,zl,xsS,xsZ,xgS,xgZ]) | skip
 refine Vf ?_;simp only[go_sem,y1,y2,y3,zg,hgt,c1,e34,f2,c3,c4];first | (unfold zf;simp only[ze,zc,zl,xsS,xsZ,xgS,xgZ]) | skip
 refine VQ (s:=signsL) ?_;simp only[go_sem,y1,y2,y3,zg,hgt,c1,e34,f2,c3,c4,ge_iff_le,f5];first | (unfold zf;simp only[ze,zc,zl,xsS,xsZ,xgS,xgZ]) | skip
 refine hrd2 _ _ ?_;simp only[go_sem,wC];exact Dm (Ke _ _) hk rfl
end Go.Proofs
namespace Go.AL
open Go.Proofs (kj)
theorem Bk:∀ (m:Nat) (r b:Tx) (k:Nat) (e:Int),Yb m r b k = .error e→e≠0
 | 0,r,b,k,e,h=>by cases h;decide
 | m+1,[],b,k,e,h=>by cases h;decide
 | m+1,c::r,b,k,e,h=>by
  unfold Yb at h;split at h
  ·cases h;decide
  split at h
  ·split at h
   ·cases h;decide
   ·cases h
  split at h
  ·split at h
   ·rename_i e' he;cases h;rcases px he with rfl | rfl <;> decide
   ·exact Bk m _ _ _ _ h
  split at h
  ·exact Bk m _ _ _ _ h
  ·cases h;decide
theorem nF{s:Tx}{e:Int}(h:Wc s = .error e):e≠0:=by
 unfold Wc at h;split at h
 ·cases h;decide
 ·split at h
  ·exact Bk _ _ _ _ _ h
  ·cases h;decide
theorem Hj{c:UInt8}{r:Tx}{p:Int}{g:FuncId}{e:Int}{t:Tk}{n:Nat}(h:VT c (c::r) p=(g,e,t,n)) :
  XO (c::r) p=(if e=0 then .ok (t,n) else .error e)∧t.pos=p∧(e=0→1≤n∧n≤(c::r).length∧t.kind≠0):=by
 unfold VT at h;unfold XO;dsimp only;by_cases c1:qb c=true
 ·rw[if_pos c1] at h ⊢;unfold kj at h;have hp:0<zY qb (c::r):=by rw[WO c1];omega
  have hle:=V0 qb (c::r);by_cases hv:4611686018427387903<Z5 ((c::r).take (zY qb (c::r)))
  ·rw[if_pos hv] at h ⊢;simp only[xpJ] at h;obtain⟨_,rfl,rfl,rfl⟩:=h;exact⟨rfl,rfl,fun h=>by cases h⟩
  ·rw[if_neg hv] at h ⊢;simp only[xpJ] at h;obtain⟨_,rfl,rfl,rfl⟩:=h;exact⟨rfl,rfl,fun _=>⟨hp,hle,by simp⟩⟩
 rw[if_neg c1] at h ⊢;by_cases c2:c=34
 ·rw[if_pos c2] at h ⊢;simp only[xpJ] at h;obtain⟨_,rfl,rfl,rfl⟩:=h;cases hu:Wc (c::r) with
  | error e =>
   have:=nF hu;refine⟨?_,rfl,fun h=>absurd ?_ this⟩
   ·simp[YG,hu,this]
   ·simpa[YG,hu] using h
  | ok y =>
   obtain⟨x,k⟩:=y;have:=vE hu;refine⟨by simp[YG,hu],rfl,fun _=>?_⟩;simp only[YG,hu,Int.toNat_natCast];exact⟨by omega,this.1,by decide⟩
 rw[if_neg c2] at h ⊢;by_cases c3:(Zb c || qS c)=true
 ·rw[if_pos c3] at h ⊢;have hin:zL c=true:=by unfold zL;simp only[Bool.or_eq_true] at c3 ⊢;rcases c3 with c3 | c3 <;> simp[c3]
  have hp:0<zY zL (c::r):=by rw[WO hin];omega
  have hle:=V0 zL (c::r);have hlen:((c::r).take (zY zL (c::r))).length=zY zL (c::r):=by rw[List.length_take];omega
  have hhd:((c::r).take (zY zL (c::r))).headD 0=c:=by rw[WO hin];rfl
  unfold FG at h;rw[hlen,hhd] at h;by_cases h16:16<zY zL (c::r)
  ·rw[if_pos h16] at h ⊢;simp only[xpJ] at h;obtain⟨_,rfl,rfl,rfl⟩:=h;exact⟨rfl,rfl,fun h=>by cases h⟩
  rw[if_neg h16] at h ⊢;by_cases hL:qS c=true
  ·rw[if_pos hL] at h ⊢;simp only[xpJ] at h;obtain⟨_,rfl,rfl,rfl⟩:=h;exact⟨rfl,rfl,fun _=>⟨hp,hle,by simp⟩⟩
  rw[if_neg hL] at h ⊢;by_cases hK:(c::r).take (zY zL (c::r))∈keysL
  ·rw[if_pos hK] at h ⊢;simp only[xpJ] at h;obtain⟨_,rfl,rfl,rfl⟩:=h;exact⟨rfl,rfl,fun _=>⟨hp,hle,by simp⟩⟩
  ·rw[if_neg hK] at h ⊢;simp only[xpJ] at h;obtain⟨_,rfl,rfl,rfl⟩:=h;exact⟨rfl,rfl,fun _=>⟨hp,hle,by simp⟩⟩
 rw[if_neg c3] at h ⊢;by_cases c4:c∈signsL
 ·rw[if_pos c4] at h ⊢;have hx:Lib.hasPrefix (c::r) [45,62]=decide (r.head?=some 62∧c=45):=by
   unfold Lib.hasPrefix;cases r with
   | nil=>simp[List.isPrefixOf]
   | cons d r =>
    have e1:(45==c)=decide (c=45):=by rw[Bool.beq_eq_decide_eq,decide_eq_decide];exact eq_comm
    have e2:(62==d)=decide (d=62):=by rw[Bool.beq_eq_decide_eq,decide_eq_decide];exact eq_comm
    simp only[List.isPrefixOf,e1,e2,Bool.and_true,List.head?_cons,xsJ,Bool.decide_and];exact Bool.and_comm _ _
  rw[hx] at h;by_cases h2:r.head?=some 62∧c=45
  ·rw[if_pos h2];simp only[h2,and_self,decide_true,if_true,xpJ] at h;obtain⟨_,rfl,rfl,rfl⟩:=h;cases r with
   | nil=>simp at h2
   | cons d r =>
    simp only[List.head?_cons,xsJ] at h2;obtain⟨rfl,rfl⟩:=h2;exact⟨rfl,rfl,fun _=>⟨by decide,by simp,by simp⟩⟩
  ·rw[if_neg h2];simp only[h2,decide_false,XU,if_false,xpJ] at h;obtain⟨_,rfl,rfl,rfl⟩:=h;exact⟨rfl,rfl,fun _=>⟨by decide,by simp,by simp⟩⟩
 ·rw[if_neg c4] at h ⊢;simp only[xpJ] at h;obtain⟨_,rfl,rfl,rfl⟩:=h;exact⟨rfl,rfl,fun h=>by cases h⟩
end Go.AL
namespace Go.Proofs
open Go Go.AL Tryz
theorem lz{s:Tx}(hs:s.length≤100000){rid a b:Nat}(ha:a≤s.length){K:SV→St→Prop}{st s1:St}(hr:DJ s rid a st)(hb:a+qo false (s.drop a)=b)(hlt:b=s.length)(he:st.set rid (.cells (rL s b))=s1)
  (hk:K (.tuple [ZF ⟨0,[],0,b⟩,.sc (.int .i64 0)]) s1):ACalls prog 71 [.ptr rid 0] K st:=by
 refine zp [] func71 rfl results71 ntmps71 ?_;subst he;have hrl:=zk hr;have y:=fun ex=>V5 (BN (b:=b) (ex:=ex) hr);have y1:=fun X=>(y X).1;have y2:=fun X=>(y X).2.1;have y3:=fun X=>(y X).2.2;have c0:((b:Int)==(s.length:Int))=true:=by
  rw[beq_iff_eq];omega
 simp only[go_sem];refine Kg (by omega) ha (Kf hr) hb (BC hrl) fun x=>?_;simp only[go_sem,y1,y2,y3];refine zC [] mixed rfl ?_;simp only[go_sem,y1,y2,y3,zg,c0];exact Dm (Ke _ _) hk rfl
theorem xy{s:Tx}(hs:s.length≤100000){rid gid a b:Nat}{m:Int}(hgr:gid≠rid)(ha:a≤s.length){K:SV→St→Prop}{st s1:St}(hg:UC gid m st)(hr:DJ s rid a st)(hb:a+qo false (s.drop a)=b)(hlt:b<s.length)
  {g:FuncId} {e:Int} {t:Tk} {n:Nat} (hR:VT s[b] (s.drop b) b=(g,e,t,n)) (he:st.set rid (.cells (rL s (b+n)))=s1)
  (hk:K (.tuple [ZF t,.sc (.int .i64 e)]) s1):ACalls prog 71 [.ptr rid 0] K st:=by
 subst he;exact iS hs hgr ha hg hr hb hlt hR hk
theorem gg{n:Nat}(h:n≤1000000):AppOk prog 43 43 4 n:=Vm Tryz.aelem43 Tryz.aelem43 Tryz.asize47 Tryz.azero47 rfl Tryz.abytes47 (by omega) h
theorem tokensL_end{m:Nat}{s:Tx}{k:Nat}{out:List Tk}(h:s.drop (qo false s)=[]):Zs (m+1) s k out = .ok (out++[⟨0,[],0,((k+qo false s:Nat):Int)⟩]):=by
 rw[Zs,h]
theorem tokensL_step{m:Nat}{s r:Tx}{c:UInt8}{k:Nat}{out:List Tk}(h:s.drop (qo false s)=c::r):Zs (m+1) s k out=(match XO (c::r) ((k+qo false s:Nat):Int) with
   | .error e =>.error (k+qo false s,e)
   | .ok (t,n)=>Zs m ((c::r).drop n) (k+qo false s+n) (out++[t])):=by
 rw[Zs,h];rfl
theorem KH(n:Nat)(a e:Int):Ids n (norm (Yi [SV.slice .full 0 [],.sc (.int .i64 a),.sc (.int .i64 e)]))=True:=by
 refine eq_true (.tuple _ ?_);intro i hi;match i with
 | 0=>exact zT (.inl rfl) fun x hx=>by cases hx
 | 1=>exact .sc _
 | 2=>exact .sc _
 | i+3=>simp at hi;omega
theorem ee(n:Nat)(T:List Tk):∀ x∈T.map ZF,∀ y∈x.cells,Ids n y:=by
 intro x hx y hy;obtain⟨t,_,rfl⟩:=List.mem_map.1 hx;rw[Z3] at hy;simp only[List.mem_cons,List.not_mem_nil,or_false] at hy;rcases hy with rfl | rfl | rfl | rfl <;> exact .sc _
theorem kc(n:Nat)(T:List Tk)(a e:Int){x:SV}(h:norm x = .tuple [.slice .imm 4 (T.map ZF),.sc (.int .i64 a),.sc (.int .i64 e)]):Ids n (norm x)=True:=by
 rw[h];refine eq_true (.tuple _ ?_);intro i hi;match i with
 | 0=>exact zT (.inl rfl) (ee n T)
 | 1=>exact .sc _
 | 2=>exact .sc _
 | i+3=>simp at hi;omega
def pS(R:Except (Nat×Int) (List Tk))(K:SV→St→Prop)(st:St):Prop:=match R with
 | .ok T=>K (.tuple [.slice .imm 4 (T.map ZF),.sc (.int .i64 0),.sc (.int .i64 0)]) st
 | .error (a,e)=>∀ x,K (.tuple [x,.sc (.int .i64 a),.sc (.int .i64 e)]) st
theorem wT{s:Tx}{gid:Nat}{m:Int}{K:SV→St→Prop}{st:St}(hg:UC gid m st)(hk:pS (X8 s) K st)(hz:s.length≤100000):ACalls prog 46 [.sc (.string (ba s))] K st:=by
 refine zd [14] func46 rfl results46 ntmps46 ?_;by_cases hl:2000<s.length
 ·have c1:decide ((2000:Int)<(s.length:Int))=true:=by simp;omega
  unfold X8 at hk;rw[if_pos hl] at hk;simp only[go_sem,zg,gt_iff_lt,c1];exact zD (KH _ _ _) (hk _)
 have c1:decide ((2000:Int)<(s.length:Int))=false:=by simp;omega
 unfold X8 at hk;rw[if_neg hl] at hk;have hgl:=zk hg;simp only[go_sem,zg,gt_iff_lt,c1];refine Gd 6 4 0 rfl ?_;simp only[go_sem];refine zx [] (fun k env s'=>∃ (a:Nat) (out:List Tk) (ver:Nat) (ex:St),Zs (s.length+1) s 0 []=Zs k (s.drop a) a out∧s.length+1≤k+a∧a≤s.length∧out.length≤a∧env=[.sc (.string (ba s)),.any,.any,.any,.any,.ptr st.length 0,.slice (.own (st.length+1) ver) 4 (out.map ZF),.any,.any,.any,.any,.any,.any,.any,.any,.any,.any,.any,.any,.any,.any,.any,.any,.any,.any,.any,.any,.any,.any,.any,.any,.any,.any]∧s'=st++(.cells (rL s a) :: .tok ver::ex)) (n:=s.length+1) ?_ ⟨0,[],0,[],rfl,by omega,by omega,by simp,rfl,rfl⟩ ?_
 ·exact qu
 rintro k env s' ⟨a,out,ver,ex,hu,hm,hal,hol,rfl,rfl⟩;cases k with
 | zero=>omega
 | succ k =>
 have hr:DJ s st.length a (st++(.cells (rL s a) :: .tok ver::ex)):=by unfold DJ;simp
 have hg':UC gid m (st++(.cells (rL s a) :: .tok ver::ex)):=JJ hg;have hset:∀ X:Ob,(st++(.cells (rL s a) :: .tok ver::ex)).set st.length X=st++(X :: .tok ver::ex):=fun X=>by
  rw[List.set_append_right _ _ (Nat.le_refl _)];simp
 have hsk:=V2 false (s.drop a);simp only[List.length_drop] at hsk;generalize hb:a+qo false (s.drop a)=b at *;have hdd:(s.drop a).drop (qo false (s.drop a))=s.drop b:=by rw[List.drop_drop,hb]
 by_cases hlt:b<s.length
 ·have hdb:=Yd hlt;generalize hR:VT s[b] (s.drop b) b=R at *;obtain⟨g,e,t,n⟩:=R;rw[hdb] at hR;obtain⟨ht1,ht2,ht3⟩:=Hj hR;rw[←hdb] at hR;rw[tokensL_step (hdd.trans hdb),hb,ht1] at hu;by_cases he:e=0
  ·obtain⟨hn1,hn2,hkd⟩:=ht3 he;subst he;rw[if_pos rfl] at hu;simp only[xlC,List.length_drop] at hn2;simp only at hu;rw[←hdb,List.drop_drop] at hu;have c2:(t.kind==0)=false:=beq_eq_false_iff_ne.2 hkd;simp only[go_sem];refine xy hz (by omega) hal hg' hr hb hlt hR (hset _) ?_;simp only[go_sem,CW,c2];refine⟨gg (by omega),k,_,by omega,?_,b+n,out++[t],ver+1,_,hu,by omega,by omega,by simp only[xlA,xlC,xlN];omega,by rw[xmA,show [t].map ZF=[.agg [.sc (.int .i64 t.kind),.sc (.string (ba t.text)),.sc (.int .i64 t.num),.sc (.int .i64 t.pos)]] from rfl],rfl⟩;exact qu
  ·have c2:(e != 0)=true:=by simp[he]
   rw[if_neg he] at hu;rw[hu] at hk;simp only[go_sem];refine xy hz (by omega) hal hg' hr hb hlt hR (hset _) ?_;simp only[go_sem,c2];refine zC [] mixed rfl ?_;simp only[go_sem];simp only[pS] at hk;rw[←ht2] at hk;exact zF (KH _ _ _) (hk _)
 ·have hbl:b=s.length:=by omega
  have hdb:s.drop b=[]:=List.drop_of_length_le (by omega);rw[tokensL_end (hdd.trans hdb),hb] at hu;rw[hu] at hk;simp only[go_sem];refine lz hz hal hr hb hbl (hset _) ?_;simp only[go_sem,CW];refine⟨gg (by omega),fun _=>?_,fun h=>by cases h⟩;simp only[pS,xmA] at hk;exact zF (kc _ (out++[⟨0,[],0,b⟩]) _ _ (by rw[xmA];rfl)) hk
end Go.Proofs
