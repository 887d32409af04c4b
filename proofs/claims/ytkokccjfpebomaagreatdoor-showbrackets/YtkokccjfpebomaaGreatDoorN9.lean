/- program; the parser's functions, one in another. -/
import Derived.Test.YtkokccjfpebomaaGreatDoorW15
import Derived.Test.YtkokccjfpebomaaGreatDoorW11
import Derived.Test.YtkokccjfpebomaaGreatDoorN1
import Derived.Test.YtkokccjfpebomaaGreatDoorM4
set_option maxHeartbeats 4000000
set_option linter.unusedSimpArgs false
set_option linter.unusedVariables false
set_option maxRecDepth 8000
namespace Go.Proofs
open Go Go.AL Tryz
theorem sS {T:List Tk} (hT:T.length≤100000) {pid:Nat}:∀ n,HC T pid 138 (bU T n):=by
 intro n
 induction n with
 | zero=>intro p r p' h;cases h
 | succ n ih=>exact Az hT ih
theorem fR {T:List Tk} (hT:T.length≤100000) {pid:Nat}:∀ n,HC T pid 170 (Df T n):=by
 intro n
 induction n with
 | zero=>intro p r p' h;cases h
 | succ n ih=>exact ic hT ih
theorem fL {T:List Tk} (hT:T.length≤100000) {pid:Nat}:∀ n,HC T pid 79 (Wx T n):=by
 intro n
 induction n with
 | zero=>intro p r p' h;cases h
 | succ n ih=>exact rA hT ih (fR hT (n+1))
theorem eD {st ex:St} (k:Nat):(st++ex)[st.length+k]?=ex[k]?:=by
 rw[List.getElem?_append_right (by omega)];simp
theorem fN {st ex:St} {Y:Ob} (k:Nat):(st++ex).set (st.length+k) Y=st++ex.set k Y:=by
 rw[List.set_append_right _ _ (by omega)];simp
theorem BS {T:List Tk} {pid qI ver:Nat} {p':PS} {nd:Nd} {st:St} {K:SV→St→Prop} {l:List SV} (hk:K (zJ nd) (st.set pid (.cells (Z9 T p')))) (hnm:nd.names=[]) (hl:qw qI ver nd=l) {ex:St} :
  Yv st (wa K) (.agg l) (st.set pid (.cells (Z9 T p'))++ex):=by
 rw[←hl];exact Vj hk hnm
theorem xc {T:List Tk} (hT:T.length≤100000) {pid:Nat} {e ty:PM Nd} (he:HC T pid 79 e) (hy:HC T pid 138 ty):HC T pid 47 (KC T e ty):=by
 intro p r p' h K st hp hk
 refine zM (zE [] func47 rfl results47 ntmps47 ?_)
 unfold KC at h
 simp only[Option.bind_eq_some_iff,Option.map_eq_some_iff,Prod.exists,Prod.mk.injEq] at h
 obtain⟨t0,h1,n1,p1,h2,p2,h3,u,p3,h4,t9,h5,p4,h6,rfl,rfl⟩:=h
 simp only[go_sem]
 refine qv h1 (zI hp) ?_
 simp only[go_sem]
 refine Xl rfl rfl rfl rfl (fun _=>rfl) (ql (.inr rfl) (fun x hx=>by cases hx)) ?_
 unfold Q1
 simp only[go_sem]
 refine Z1 (st.length+1) 5 6 0 (eD 1) (by simp) rfl ?_
 rw[fN]
 simp only[List.length_append,Xn,List.length_cons,List.length_nil,List.set_cons_succ,List.set_cons_zero,List.append_assoc,List.cons_append,List.nil_append,Nat.zero_add,Nat.reduceAdd]
 refine zN [] (fun m env s=>∃ (nd:Nd) (q:PS) (k:Nat) (ex:St),VB T e ty m nd q=some (n1,p1)∧m+nd.kids.length≤T.length+2∧nd.names=[]∧env=[.ptr pid 0,.any,.ptr st.length 0,.ptr (st.length+1) 0,.any,.any,.any,.any,.any,.any,.any,.any,.any,.any,.any,.any,.any,.any,.any,.any,.any,.any,.any,.any,.any,.any,.any,.any,.any,.any,.any,.any,.any,.any,.any,.any,.any,.any,.any,.any,.any,.any] ∧
  s=st.set pid (.cells (Z9 T q))++(.cells qK :: .cells (qw (st.length+2) k nd) :: .tok k::ex)) (n:=T.length+2) ?_ ⟨_,_,0,[],h2,by simp[zT,Nd.kids],rfl,rfl,by rw[kL hp];rfl⟩ ?_
 ·repeat (first | exact zj | refine zk _ ?_ | refine zg _ ?_ | refine zf _ ?_)
 rintro m env s ⟨nd,q,k,ex,hl,hm,hnm,rfl,rfl⟩
 cases m with
 | zero=>cases hl
 | succ m =>
 simp only[VB,Jn,Option.bind_eq_some_iff,Option.map_eq_some_iff] at hl
 obtain⟨a,⟨t,h7,ha⟩,b,hb,hl⟩:=hl
 cases a with
 | true =>
  simp only[if_true,Option.some.injEq] at hb
  subst hb
  simp only[if_true,Option.bind_eq_some_iff,Prod.exists] at hl
  obtain⟨q1,h8,x,q2,h9,hl⟩:=hl
  unfold qw
  simp only[go_sem]
  refine ZB h7 (zm hp) ?_
  simp only[go_sem,ha]
  first | (unfold zl;simp only[ze,zc,zq,List.set_cons_succ,List.set_cons_zero,List.getD_cons_succ,List.getD_cons_zero]) | skip
  refine Y5 (p':=q1) (n:=nd.kids.length) (by simpa using h8) (zm hp) fun _=>?_
  simp only[go_sem,zb hp]
  refine zP [] [(0,[5]),(0,[5]),(0,[]),(3,[5]),(0,[]),(3,[7]),(0,[]),(1,[8])] mixed rfl ?_
  simp only[go_sem,zy,zu,zw,zt,zr,zG,zH,zx,zh,qK]
  refine⟨_,_,gW hT he hy _ _ _ h9 _ _ (zm hp) ⟨rfl,rfl⟩,?_⟩
  simp only[go_sem,zy,zu,zw,zt,zr,zG,zH,zx,zh,zb hp]
  rw[zL]
  refine⟨.slice .full 6 [zJ x],?_,?_⟩
  ·simp only[go_sem]
   exact⟨⟨[],by simp⟩,qb _ _ (.inr rfl) _ [_],.inl rfl⟩
  simp only[go_sem,zy,zu,zw,zt,zr,zG,zH,zx,zh]
  refine⟨_,_,⟨Tryz.app6 (by omega),rfl,rfl⟩,?_⟩
  simp only[go_sem]
  refine⟨m,_,by omega,?_,nd.addKid x,q2,k+1,_,hl,by rw[qc];simp;omega,by rw[qs];exact hnm,rfl,by rw[qV,qU,Zq,Zp,qc,List.map_append];rfl⟩
  repeat (first | exact zj | refine zk _ ?_ | refine zg _ ?_ | refine zf _ ?_)
 | false =>
  simp only[Bool.false_eq_true,if_false,Option.map_eq_some_iff] at hb
  obtain⟨t',h7',hb⟩:=hb
  rw[h7] at h7'
  cases h7'
  cases b with
  | true =>
   simp only[if_true,Option.bind_eq_some_iff,Prod.exists] at hl
   obtain⟨q1,h8,x,q2,h9,hl⟩:=hl
   unfold qw
   simp only[go_sem]
   refine ZB h7 (zm hp) ?_
   simp only[go_sem,ha]
   first | (unfold zl;simp only[ze,zc,zq,List.set_cons_succ,List.set_cons_zero,List.getD_cons_succ,List.getD_cons_zero]) | skip
   refine ZB h7 (zm hp) ?_
   simp only[go_sem,ha,hb]
   first | (unfold zl;simp only[ze,zc,zq,List.set_cons_succ,List.set_cons_zero,List.getD_cons_succ,List.getD_cons_zero]) | skip
   refine Y5 (p':=q1) (n:=nd.kids.length) (by simpa using h8) (zm hp) fun _=>?_
   simp only[go_sem,zb hp]
   refine zP [] [(0,[5]),(0,[5]),(0,[]),(3,[5]),(0,[]),(3,[7]),(0,[]),(1,[8])] mixed rfl ?_
   simp only[go_sem,zy,zu,zw,zt,zr,zG,zH,zx,zh,qK]
   refine⟨_,_,gW hT he hy _ _ _ h9 _ _ (zm hp) ⟨rfl,rfl⟩,?_⟩
   simp only[go_sem,zy,zu,zw,zt,zr,zG,zH,zx,zh,zb hp]
   rw[zL]
   refine⟨.slice .full 6 [zJ x],?_,?_⟩
   ·simp only[go_sem]
    exact⟨⟨[],by simp⟩,qb _ _ (.inr rfl) _ [_],.inl rfl⟩
   simp only[go_sem,zy,zu,zw,zt,zr,zG,zH,zx,zh]
   refine⟨_,_,⟨Tryz.app6 (by omega),rfl,rfl⟩,?_⟩
   simp only[go_sem]
   refine⟨m,_,by omega,?_,nd.addKid x,q2,k+1,_,hl,by rw[qc];simp;omega,by rw[qs];exact hnm,rfl,by rw[qV,qU,Zq,Zp,qc,List.map_append];rfl⟩
   repeat (first | exact zj | refine zk _ ?_ | refine zg _ ?_ | refine zf _ ?_)
  | false =>
   simp only[Bool.false_eq_true,if_false,Option.some.injEq,Prod.mk.injEq] at hl
   obtain⟨rfl,rfl⟩:=hl
   unfold qw
   by_cases h0:t9.kind=0
   ·have c1:(t9.kind != 0)=false:=by simp[h0]
    rw[if_neg (by simp[h0])] at h6
    cases h6
    simp only[go_sem]
    refine ZB h7 (zm hp) ?_
    simp only[go_sem,ha]
    first | (unfold zl;simp only[ze,zc,zq,List.set_cons_succ,List.set_cons_zero,List.getD_cons_succ,List.getD_cons_zero]) | skip
    refine ZB h7 (zm hp) ?_
    simp only[go_sem,ha,hb]
    first | (unfold zl;simp only[ze,zc,zq,List.set_cons_succ,List.set_cons_zero,List.getD_cons_succ,List.getD_cons_zero]) | skip
    refine Z2 hT h3 (zm hp) fun _=>?_
    simp only[go_sem,zb hp]
    refine zP [] [(0,[5]),(0,[5]),(0,[]),(3,[5]),(0,[]),(3,[7]),(0,[]),(1,[8])] mixed rfl ?_
    simp only[go_sem,zy,zu,zw,zt,zr,zG,zH,zx,zh,qK]
    refine⟨_,_,Wk he rfl h4 (zm hp) ⟨rfl,rfl⟩,?_⟩
    simp only[go_sem,zy,zu,zw,zt,zr,zG,zH,zx,zh,zb hp]
    rw[zL]
    refine⟨.slice .full 6 [zJ u],?_,?_⟩
    ·simp only[go_sem]
     exact⟨⟨[],by simp⟩,qb _ _ (.inr rfl) _ [_],.inl rfl⟩
    simp only[go_sem,zy,zu,zw,zt,zr,zG,zH,zx,zh]
    refine⟨_,_,⟨Tryz.app6 (by omega),rfl,rfl⟩,?_⟩
    simp only[go_sem]
    refine qv h5 (zm hp) ?_
    simp only[go_sem,zb hp,c1,qK]
    exact BS hk (by rw[qs];exact hnm) (qI:=st.length+2) (ver:=k+1) (by unfold qw;simp[qV,qU,Zq,Zp,qc])
   ·have c1:(t9.kind != 0)=true:=by simp[h0]
    rw[if_pos h0] at h6
    simp only[go_sem]
    refine ZB h7 (zm hp) ?_
    simp only[go_sem,ha]
    first | (unfold zl;simp only[ze,zc,zq,List.set_cons_succ,List.set_cons_zero,List.getD_cons_succ,List.getD_cons_zero]) | skip
    refine ZB h7 (zm hp) ?_
    simp only[go_sem,ha,hb]
    first | (unfold zl;simp only[ze,zc,zq,List.set_cons_succ,List.set_cons_zero,List.getD_cons_succ,List.getD_cons_zero]) | skip
    refine Z2 hT h3 (zm hp) fun _=>?_
    simp only[go_sem,zb hp]
    refine zP [] [(0,[5]),(0,[5]),(0,[]),(3,[5]),(0,[]),(3,[7]),(0,[]),(1,[8])] mixed rfl ?_
    simp only[go_sem,zy,zu,zw,zt,zr,zG,zH,zx,zh,qK]
    refine⟨_,_,Wk he rfl h4 (zm hp) ⟨rfl,rfl⟩,?_⟩
    simp only[go_sem,zy,zu,zw,zt,zr,zG,zH,zx,zh,zb hp]
    rw[zL]
    refine⟨.slice .full 6 [zJ u],?_,?_⟩
    ·simp only[go_sem]
     exact⟨⟨[],by simp⟩,qb _ _ (.inr rfl) _ [_],.inl rfl⟩
    simp only[go_sem,zy,zu,zw,zt,zr,zG,zH,zx,zh]
    refine⟨_,_,⟨Tryz.app6 (by omega),rfl,rfl⟩,?_⟩
    simp only[go_sem]
    refine qv h5 (zm hp) ?_
    simp only[go_sem,zb hp,c1,qK]
    first | (unfold zl;simp only[ze,zc,zq,List.set_cons_succ,List.set_cons_zero,List.getD_cons_succ,List.getD_cons_zero]) | skip
    refine K5 h6 (zm hp) fun _=>?_
    simp only[go_sem,zb hp,qK]
    exact BS hk (by rw[qs];exact hnm) (qI:=st.length+2) (ver:=k+1) (by unfold qw;simp[qV,qU,Zq,Zp,qc])
end Go.Proofs
namespace Go.AL
theorem KL:∀ (m:Nat) (s:Tx) (k:Nat) (out:List Tk),s.length<m →
  (∀ a e,Zn m s k out = .error (a,e)→e≠0∧a≤k+s.length)∧(∀ T,Zn m s k out = .ok T→T.length≤out.length+s.length+1)
 | 0,s,k,out,h=>absurd h (by omega)
 | m+1,s,k,out,h=>by
  have hsk:=Ve false s
  cases hd:s.drop (qh false s) with
  | nil =>
   rw[Go.Proofs.tokensL_end hd]
   refine⟨fun a e h=>(by cases h),fun T h=>?_⟩
   cases h;simp
  | cons c r =>
   rw[Go.Proofs.tokensL_step hd]
   have hl:=congrArg List.length hd
   simp only[List.length_drop,List.length_cons] at hl
   generalize hR:Vi c (c::r) ((k+qh false s:Nat):Int)=R
   obtain⟨g,e,t,n⟩:=R
   obtain⟨h1,h2,h3⟩:=UB hR
   rw[h1]
   by_cases he:e=0
   ·rw[if_pos he]
    obtain⟨n1,n2,n3⟩:=h3 he
    simp only[List.length_cons] at n2
    obtain⟨i1,i2⟩:=KL m ((c::r).drop n) (k+qh false s+n) (out++[t]) (by simp only[List.length_drop,List.length_cons];omega)
    simp only[List.length_drop,List.length_cons,List.length_append,List.length_nil] at i1 i2
    exact⟨fun a e h=>by have:=i1 a e h;exact⟨this.1,by omega⟩,fun T h=>by have:=i2 T h;omega⟩
   ·rw[if_neg he]
    refine⟨fun a e' h=>?_,fun T h=>(by cases h)⟩
    cases h;exact⟨he,by omega⟩
theorem U4 {s:Tx} {a:Nat} {e:Int} (h:Y0 s = .error (a,e)):e≠0:=by
 unfold Y0 at h
 split at h
 ·cases h;decide
 ·exact ((KL _ _ _ _ (by omega)).1 _ _ h).1
theorem Gy {s:Tx} {T:List Tk} (h:Y0 s = .ok T):T.length≤2001:=by
 unfold Y0 at h
 split at h
 ·cases h
 ·have:=(KL _ _ _ _ (by omega)).2 _ h
  simp at this
  omega
end Go.AL
namespace Go.Proofs
open Go Go.AL Tryz
theorem vH (z:Nat):SVle (.slice .full 0 []) (.slice .imm z []):=fun _ _ _ _ h=>Xk (Rep.norm1 h) (.inr rfl)
theorem wG:SVle (.agg qK) (zJ J9):=SVle.agg (.cons (SVle.refl _) (.cons (SVle.refl _) (.cons (SVle.refl _) (.cons (SVle.refl _) (.cons (vH 1) (.cons (vH 6) .nil))))))
theorem hG (n:Nat) (x:SV) (a e:Value) (h:Ids n x):Ids n (.tuple [x,.sc a,.sc e]):=by
 refine .tuple _ ?_
 intro i hi
 match i with
 | 0=>exact h
 | 1=>exact .sc _
 | 2=>exact .sc _
 | i+3=>simp at hi;omega
theorem EV (n:Nat):Ids n (.agg qK):=by
 rw[Z6]
 intro x hx
 simp only[qK,List.mem_cons,List.not_mem_nil,or_false] at hx
 rcases hx with rfl | rfl | rfl | rfl | rfl | rfl
 ·exact .sc _
 ·exact .sc _
 ·exact .sc _
 ·exact .sc _
 ·exact ql (.inr rfl) fun x hx=>by cases hx
 ·exact ql (.inr rfl) fun x hx=>by cases hx
theorem K9 {st ex:St} {K:SV→St→Prop} {x:SV} {nd:Nd} {a e:Value} (hi:Ids st.length x) (hx:norm1 x=x) (hle:SVle x (zJ nd)) (hk:K (.tuple [zJ nd,.sc a,.sc e]) st):GM st (wa K) (.tuple [x,.sc a,.sc e]) (st++ex):=by
 have hn:norm (.tuple [x,.sc a,.sc e]) = .tuple [x,.sc a,.sc e]:=by simp only[KO,List.map_cons,List.map_nil,hx];rfl
 refine⟨⟨ex,rfl⟩,?_,?_⟩
 ·rw[hn];exact hG _ _ _ _ hi
 ·rw[hn];exact⟨_,SVle.tuple (.cons hle (.cons (SVle.refl _) (.cons (SVle.refl _) .nil))),hk⟩
theorem yo {s:Tx} {gid:Nat} {m:Int} {K:SV→St→Prop} {st:St} (hg:K8 gid m st) (hz:s.length≤100000) {a:Nat} {e:Int} (h:Y0 s = .error (a,e)) (hk:∀ x,K (.tuple [x,.sc (.int .i64 a),.sc (.int .i64 e)]) st):ACalls prog 46 [.sc (.string (ba s))] K st:=by
 refine jr hg ?_ hz
 rw[h];exact hk
theorem Bc {s:Tx} {gid:Nat} {m:Int} {K:SV→St→Prop} {st:St} (hg:K8 gid m st) (hz:s.length≤100000) {T:List Tk} (h:Y0 s = .ok T) (hk:K (.tuple [.slice .imm 4 (T.map ZF),.sc (.int .i64 0),.sc (.int .i64 0)]) st):ACalls prog 46 [.sc (.string (ba s))] K st:=by
 refine jr hg ?_ hz
 rw[h];exact hk
theorem kW {s:Tx} {gid:Nat} {m:Int} {K:SV→St→Prop} {st:St} (hg:K8 gid m st) (hz:s.length≤100000) {a:Nat} {e:Int} (h:Y0 s = .error (a,e)) (hk:K (.tuple [zJ J9,.sc (.int .i64 a),.sc (.int .i64 e)]) st):ACalls prog 29 [.sc (.string (ba s))] K st:=by
 refine zM (zn [23] func29 rfl results29 ntmps29 ?_)
 have he:(e != 0)=true:=by simp[U4 h]
 simp only[go_sem]
 refine yo (Kw hg) hz h fun x=>?_
 simp only[go_sem,he]
 exact K9 (EV _) rfl wG hk
theorem vn {s:Tx} {gid:Nat} {m:Int} {K:SV→St→Prop} {st:St} (hg:K8 gid m st) (hz:s.length≤100000) {T:List Tk} (h:Y0 s = .ok T) {nd:Nd} {q:PS} (hP:KC T (Wx T 42) (bU T 42) ⟨0,0,false,0,0⟩=some (nd,q))
  (hk:K (.tuple [zJ (if q.e=0 then nd else J9),.sc (.int .i64 (if q.e=0 then 0 else q.bad)),.sc (.int .i64 q.e)]) st):ACalls prog 29 [.sc (.string (ba s))] K st:=by
 refine zM (zn [23] func29 rfl results29 ntmps29 ?_)
 have hT:=Gy h
 have hpat:Wz T (st.length+1) ⟨0,0,false,0,0⟩ (st++[.cells qK,.cells (Z9 T ⟨0,0,false,0,0⟩)]):=by unfold Wz;simp
 have hset:∀ X:Ob,(st++[Ob.cells qK,Ob.cells (Z9 T ⟨0,0,false,0,0⟩)]).set (st.length+1) X=st++[.cells qK,X]:=fun X=>by
  rw[List.set_append_right _ _ (by omega)];simp
 have hp17:=xc (T:=T) (by omega) (pid:=st.length+1) (fL (by omega) 42) (sS (by omega) 42)
 have hrun:=fun K=>hp17 _ _ _ hP K _ hpat
 simp only[hset] at hrun
 have hps:Z9 T q=[.slice .imm 4 (T.map ZF),.sc (.int .i64 q.pos),.sc (.int .i64 q.deep),.sc (.bool q.flat),.sc (.int .i64 q.bad),.sc (.int .i64 q.e)]:=rfl
 rw[hps] at hrun
 by_cases he:q.e=0
 ·have c1:(q.e != 0)=false:=by simp[he]
  simp only[he,if_true] at hk
  simp only[go_sem]
  refine Bc (Kw hg) hz h ?_
  simp only[go_sem,eF]
  refine hrun _ ?_
  simp only[go_sem,c1,qK]
  exact K9 (Vp _ _) (W1 _) (SVle.refl _) hk
 ·have c1:(q.e != 0)=true:=by simp[he]
  simp only[he,if_false] at hk
  simp only[go_sem]
  refine Bc (Kw hg) hz h ?_
  simp only[go_sem,eF]
  refine hrun _ ?_
  simp only[go_sem,c1]
  refine zP [] [(0,[]),(0,[12]),(0,[12]),(0,[12]),(0,[12]),(0,[12]),(0,[12]),(0,[12]),(0,[12]),(1,[12]),(0,[]),(0,[])] mixed rfl ?_
  simp only[go_sem,zy,zu,zw,zt,zr,zG,zH,zx,zh,qK]
  rw[zL]
  refine⟨.agg qK,?_,?_⟩
  ·simp only[go_sem]
   exact⟨⟨[],by simp⟩,EV _,.inl rfl⟩
  simp only[go_sem,zy,zu,zw,zt,zr,zG,zH,zx,zh,qK]
  exact K9 (EV _) rfl wG hk
theorem o8 {s:Tx} {nd:Nd} {a e:Int} (h:q8 s=some (nd,a,e)) {gid:Nat} {m:Int} {K:SV→St→Prop} {st:St} (hg:K8 gid m st) (hz:s.length≤100000) (hk:K (.tuple [zJ nd,.sc (.int .i64 a),.sc (.int .i64 e)]) st):ACalls prog 29 [.sc (.string (ba s))] K st:=by
 unfold q8 at h
 cases hl:Y0 s with
 | error x =>
  obtain⟨b,f⟩:=x
  rw[hl] at h
  simp only[Option.some.injEq,Prod.mk.injEq] at h
  obtain⟨rfl,rfl,rfl⟩:=h
  exact kW hg hz hl hk
 | ok T =>
  rw[hl] at h
  simp only[YO,Option.map_eq_some_iff,Prod.exists] at h
  obtain⟨n,q,hP,h⟩:=h
  refine vn hg hz hl hP ?_
  by_cases he:q.e=0
  ·simp only[he,if_true,Prod.mk.injEq] at h ⊢
   obtain⟨rfl,rfl,rfl⟩:=h
   exact hk
  ·simp only[he,if_false,Prod.mk.injEq] at h ⊢
   obtain⟨rfl,rfl,rfl⟩:=h
   exact hk
end Go.Proofs
