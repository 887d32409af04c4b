/- program; the parser's functions, one in another. -/
import Derived.Test.YtkokccjfpebomaaGreatDoorW15
import Derived.Test.YtkokccjfpebomaaGreatDoorW11
import Derived.Test.YtkokccjfpebomaaGreatDoorN1
import Derived.Test.YtkokccjfpebomaaGreatDoorM4
set_option maxHeartbeats 4000000
set_option linter.unusedSimpArgs false
set_option linter.unusedVariables false
set_option maxRecDepth 8000
namespace Go.Proofs
open Go Go.AL
theorem zyy {T:List Tk} (hT:T.length≤100000) {pid:Nat}:∀ n,HC T pid 138 (tyF T n):=by
 intro n
 induction n with
 | zero=>intro p r p' h;cases h
 | succ n ih=>exact zAJ hT ih
theorem zuH {T:List Tk} (hT:T.length≤100000) {pid:Nat}:∀ n,HC T pid 170 (zk4 T n):=by
 intro n
 induction n with
 | zero=>intro p r p' h;cases h
 | succ n ih=>exact zxM hT ih
theorem zu4 {T:List Tk} (hT:T.length≤100000) {pid:Nat}:∀ n,HC T pid 79 (zlu T n):=by
 intro n
 induction n with
 | zero=>intro p r p' h;cases h
 | succ n ih=>exact zyR hT ih (zuH hT (n+1))
theorem zub {st ex:St} (k:Nat):(st++ex)[st.length+k]?=ex[k]?:=by
 rw[List.getElem?_append_right (by omega)];simp
theorem zug {st ex:St} {Y:Ob} (k:Nat):(st++ex).set (st.length+k) Y=st++ex.set k Y:=by
 rw[List.set_append_right _ _ (by omega)];simp
theorem zf0 {T:List Tk} {pid qC ver:Nat} {p':PS} {nd:Nd} {st:St} {K:SV→St→Prop} {l:List SV} (hk:K (zH nd) (st.set pid (.cells (ZX T p')))) (hnm:nd.names=[]) (hl:qq qC ver nd=l) {ex:St} :
  Yd st (LeK K) (.agg l) (st.set pid (.cells (ZX T p'))++ex):=by
 rw[←hl];exact JT hk hnm
theorem znl {T:List Tk} (hT:T.length≤100000) {pid:Nat} {e ty:PM Nd} (he:HC T pid 79 e) (hy:HC T pid 138 ty):HC T pid 47 (zcp T e ty):=by
 intro p r p' h K st hp hk
 refine zK (zC [] Tryz.func47 rfl Tryz.results47 Tryz.ntmps47 ?_)
 unfold zcp at h
 simp only[Option.bind_eq_some_iff,Option.map_eq_some_iff,Prod.exists,Prod.mk.injEq] at h
 obtain⟨t0,h1,n1,p1,h2,p2,h3,u,p3,h4,t9,h5,p4,h6,rfl,rfl⟩:=h
 simp only[go_sem]
 refine qp h1 (zG hp) ?_
 simp only[go_sem]
 refine Q7 rfl rfl rfl rfl (fun _=>rfl) (qf (.inr rfl) (fun x hx=>by cases hx)) ?_
 unfold QM
 simp only[go_sem]
 refine ZU (st.length+1) 5 6 0 (zub 1) (by simp) rfl ?_
 rw[zug]
 simp only[List.length_append,Q9,List.length_cons,List.length_nil,List.set_cons_succ,List.set_cons_zero,List.append_assoc,List.cons_append,List.nil_append,Nat.zero_add,Nat.reduceAdd]
 refine zM [] (fun m env s=>∃ (nd:Nd) (q:PS) (k:Nat) (ex:St),Vo T e ty m nd q=some (n1,p1)∧m+nd.kids.length≤T.length+2∧nd.names=[]∧env=[.ptr pid 0,.any,.ptr st.length 0,.ptr (st.length+1) 0,.any,.any,.any,.any,.any,.any,.any,.any,.any,.any,.any,.any,.any,.any,.any,.any,.any,.any,.any,.any,.any,.any,.any,.any,.any,.any,.any,.any,.any,.any,.any,.any,.any,.any,.any,.any,.any,.any] ∧
  s=st.set pid (.cells (ZX T q))++(.cells qD :: .cells (qq (st.length+2) k nd) :: .tok k::ex)) (n:=T.length+2) ?_ ⟨_,_,0,[],h2,by simp[zR,Nd.kids],rfl,rfl,by rw[zkK hp];rfl⟩ ?_
 ·repeat (first | exact zi | refine zh _ ?_ | refine zf _ ?_ | refine ze _ ?_)
 rintro m env s ⟨nd,q,k,ex,hl,hm,hnm,rfl,rfl⟩
 cases m with
 | zero=>cases hl
 | succ m =>
 simp only[Vo,Y1,Option.bind_eq_some_iff,Option.map_eq_some_iff] at hl
 obtain⟨a,⟨t,h7,ha⟩,b,hb,hl⟩:=hl
 cases a with
 | true =>
  simp only[if_true,Option.some.injEq] at hb
  subst hb
  simp only[if_true,Option.bind_eq_some_iff,Prod.exists] at hl
  obtain⟨q1,h8,x,q2,h9,hl⟩:=hl
  unfold qq
  simp only[go_sem]
  refine Zs h7 (zl hp) ?_
  simp only[go_sem,ha]
  first | (unfold zk;simp only[zd,zb,zo,List.set_cons_succ,List.set_cons_zero,List.getD_cons_succ,List.getD_cons_zero]) | skip
  refine YD (p':=q1) (n:=nd.kids.length) (by simpa using h8) (zl hp) fun _=>?_
  simp only[go_sem,za hp]
  refine zO [] [(0,[5]),(0,[5]),(0,[]),(3,[5]),(0,[]),(3,[7]),(0,[]),(1,[8])] Tryz.mixed rfl ?_
  simp only[go_sem,zw,zt,zr,zp,zq,zE,zF,zu,zg,qD]
  refine⟨_,_,zpy hT he hy _ _ _ h9 _ _ (zl hp) ⟨rfl,rfl⟩,?_⟩
  simp only[go_sem,zw,zt,zr,zp,zq,zE,zF,zu,zg,za hp]
  rw[zJ]
  refine⟨.slice .full 6 [zH x],?_,?_⟩
  ·simp only[go_sem]
   exact⟨⟨[],by simp⟩,zY _ _ (.inr rfl) _ [_],.inl rfl⟩
  simp only[go_sem,zw,zt,zr,zp,zq,zE,zF,zu,zg]
  refine⟨_,_,⟨Tryz.app6 (by omega),rfl,rfl⟩,?_⟩
  simp only[go_sem]
  refine⟨m,_,by omega,?_,nd.addKid x,q2,k+1,_,hl,by rw[z8];simp;omega,by rw[qm];exact hnm,rfl,by rw[qM,qO,Zf,Zg,z8,List.map_append];rfl⟩
  repeat (first | exact zi | refine zh _ ?_ | refine zf _ ?_ | refine ze _ ?_)
 | false =>
  simp only[Bool.false_eq_true,if_false,Option.map_eq_some_iff] at hb
  obtain⟨t',h7',hb⟩:=hb
  rw[h7] at h7'
  cases h7'
  cases b with
  | true =>
   simp only[if_true,Option.bind_eq_some_iff,Prod.exists] at hl
   obtain⟨q1,h8,x,q2,h9,hl⟩:=hl
   unfold qq
   simp only[go_sem]
   refine Zs h7 (zl hp) ?_
   simp only[go_sem,ha]
   first | (unfold zk;simp only[zd,zb,zo,List.set_cons_succ,List.set_cons_zero,List.getD_cons_succ,List.getD_cons_zero]) | skip
   refine Zs h7 (zl hp) ?_
   simp only[go_sem,ha,hb]
   first | (unfold zk;simp only[zd,zb,zo,List.set_cons_succ,List.set_cons_zero,List.getD_cons_succ,List.getD_cons_zero]) | skip
   refine YD (p':=q1) (n:=nd.kids.length) (by simpa using h8) (zl hp) fun _=>?_
   simp only[go_sem,za hp]
   refine zO [] [(0,[5]),(0,[5]),(0,[]),(3,[5]),(0,[]),(3,[7]),(0,[]),(1,[8])] Tryz.mixed rfl ?_
   simp only[go_sem,zw,zt,zr,zp,zq,zE,zF,zu,zg,qD]
   refine⟨_,_,zpy hT he hy _ _ _ h9 _ _ (zl hp) ⟨rfl,rfl⟩,?_⟩
   simp only[go_sem,zw,zt,zr,zp,zq,zE,zF,zu,zg,za hp]
   rw[zJ]
   refine⟨.slice .full 6 [zH x],?_,?_⟩
   ·simp only[go_sem]
    exact⟨⟨[],by simp⟩,zY _ _ (.inr rfl) _ [_],.inl rfl⟩
   simp only[go_sem,zw,zt,zr,zp,zq,zE,zF,zu,zg]
   refine⟨_,_,⟨Tryz.app6 (by omega),rfl,rfl⟩,?_⟩
   simp only[go_sem]
   refine⟨m,_,by omega,?_,nd.addKid x,q2,k+1,_,hl,by rw[z8];simp;omega,by rw[qm];exact hnm,rfl,by rw[qM,qO,Zf,Zg,z8,List.map_append];rfl⟩
   repeat (first | exact zi | refine zh _ ?_ | refine zf _ ?_ | refine ze _ ?_)
  | false =>
   simp only[Bool.false_eq_true,if_false,Option.some.injEq,Prod.mk.injEq] at hl
   obtain⟨rfl,rfl⟩:=hl
   unfold qq
   by_cases h0:t9.kind=0
   ·have c1:(t9.kind != 0)=false:=by simp[h0]
    rw[if_neg (by simp[h0])] at h6
    cases h6
    simp only[go_sem]
    refine Zs h7 (zl hp) ?_
    simp only[go_sem,ha]
    first | (unfold zk;simp only[zd,zb,zo,List.set_cons_succ,List.set_cons_zero,List.getD_cons_succ,List.getD_cons_zero]) | skip
    refine Zs h7 (zl hp) ?_
    simp only[go_sem,ha,hb]
    first | (unfold zk;simp only[zd,zb,zo,List.set_cons_succ,List.set_cons_zero,List.getD_cons_succ,List.getD_cons_zero]) | skip
    refine ZQ hT h3 (zl hp) fun _=>?_
    simp only[go_sem,za hp]
    refine zO [] [(0,[5]),(0,[5]),(0,[]),(3,[5]),(0,[]),(3,[7]),(0,[]),(1,[8])] Tryz.mixed rfl ?_
    simp only[go_sem,zw,zt,zr,zp,zq,zE,zF,zu,zg,qD]
    refine⟨_,_,VJ he rfl h4 (zl hp) ⟨rfl,rfl⟩,?_⟩
    simp only[go_sem,zw,zt,zr,zp,zq,zE,zF,zu,zg,za hp]
    rw[zJ]
    refine⟨.slice .full 6 [zH u],?_,?_⟩
    ·simp only[go_sem]
     exact⟨⟨[],by simp⟩,zY _ _ (.inr rfl) _ [_],.inl rfl⟩
    simp only[go_sem,zw,zt,zr,zp,zq,zE,zF,zu,zg]
    refine⟨_,_,⟨Tryz.app6 (by omega),rfl,rfl⟩,?_⟩
    simp only[go_sem]
    refine qp h5 (zl hp) ?_
    simp only[go_sem,za hp,c1,qD]
    exact zf0 hk (by rw[qm];exact hnm) (qC:=st.length+2) (ver:=k+1) (by unfold qq;simp[qM,qO,Zf,Zg,z8])
   ·have c1:(t9.kind != 0)=true:=by simp[h0]
    rw[if_pos h0] at h6
    simp only[go_sem]
    refine Zs h7 (zl hp) ?_
    simp only[go_sem,ha]
    first | (unfold zk;simp only[zd,zb,zo,List.set_cons_succ,List.set_cons_zero,List.getD_cons_succ,List.getD_cons_zero]) | skip
    refine Zs h7 (zl hp) ?_
    simp only[go_sem,ha,hb]
    first | (unfold zk;simp only[zd,zb,zo,List.set_cons_succ,List.set_cons_zero,List.getD_cons_succ,List.getD_cons_zero]) | skip
    refine ZQ hT h3 (zl hp) fun _=>?_
    simp only[go_sem,za hp]
    refine zO [] [(0,[5]),(0,[5]),(0,[]),(3,[5]),(0,[]),(3,[7]),(0,[]),(1,[8])] Tryz.mixed rfl ?_
    simp only[go_sem,zw,zt,zr,zp,zq,zE,zF,zu,zg,qD]
    refine⟨_,_,VJ he rfl h4 (zl hp) ⟨rfl,rfl⟩,?_⟩
    simp only[go_sem,zw,zt,zr,zp,zq,zE,zF,zu,zg,za hp]
    rw[zJ]
    refine⟨.slice .full 6 [zH u],?_,?_⟩
    ·simp only[go_sem]
     exact⟨⟨[],by simp⟩,zY _ _ (.inr rfl) _ [_],.inl rfl⟩
    simp only[go_sem,zw,zt,zr,zp,zq,zE,zF,zu,zg]
    refine⟨_,_,⟨Tryz.app6 (by omega),rfl,rfl⟩,?_⟩
    simp only[go_sem]
    refine qp h5 (zl hp) ?_
    simp only[go_sem,za hp,c1,qD]
    first | (unfold zk;simp only[zd,zb,zo,List.set_cons_succ,List.set_cons_zero,List.getD_cons_succ,List.getD_cons_zero]) | skip
    refine zbz h6 (zl hp) fun _=>?_
    simp only[go_sem,za hp,qD]
    exact zf0 hk (by rw[qm];exact hnm) (qC:=st.length+2) (ver:=k+1) (by unfold qq;simp[qM,qO,Zf,Zg,z8])
end Go.Proofs
namespace Go.AL
theorem zbw:∀ (m:Nat) (s:Tx) (k:Nat) (out:List Tk),s.length<m →
  (∀ a e,Zo m s k out = .error (a,e)→e≠0∧a≤k+s.length)∧(∀ T,Zo m s k out = .ok T→T.length≤out.length+s.length+1)
 | 0,s,k,out,h=>absurd h (by omega)
 | m+1,s,k,out,h=>by
  have hsk:=JF false s
  cases hd:s.drop (qz false s) with
  | nil =>
   rw[Go.Proofs.tokensL_end hd]
   refine⟨fun a e h=>(by cases h),fun T h=>?_⟩
   cases h;simp
  | cons c r =>
   rw[Go.Proofs.tokensL_step hd]
   have hl:=congrArg List.length hd
   simp only[List.length_drop,List.length_cons] at hl
   generalize hR:JN c (c::r) ((k+qz false s:Nat):Int)=R
   obtain⟨g,e,t,n⟩:=R
   obtain⟨h1,h2,h3⟩:=zcy hR
   rw[h1]
   by_cases he:e=0
   ·rw[if_pos he]
    obtain⟨n1,n2,n3⟩:=h3 he
    simp only[List.length_cons] at n2
    obtain⟨i1,i2⟩:=zbw m ((c::r).drop n) (k+qz false s+n) (out++[t]) (by simp only[List.length_drop,List.length_cons];omega)
    simp only[List.length_drop,List.length_cons,List.length_append,List.length_nil] at i1 i2
    exact⟨fun a e h=>by have:=i1 a e h;exact⟨this.1,by omega⟩,fun T h=>by have:=i2 T h;omega⟩
   ·rw[if_neg he]
    refine⟨fun a e' h=>?_,fun T h=>(by cases h)⟩
    cases h;exact⟨he,by omega⟩
theorem zbP {s:Tx} {a:Nat} {e:Int} (h:YQ s = .error (a,e)):e≠0:=by
 unfold YQ at h
 split at h
 ·cases h;decide
 ·exact ((zbw _ _ _ _ (by omega)).1 _ _ h).1
theorem zfB {s:Tx} {T:List Tk} (h:YQ s = .ok T):T.length≤2001:=by
 unfold YQ at h
 split at h
 ·cases h
 ·have:=(zbw _ _ _ _ (by omega)).2 _ h
  simp at this
  omega
end Go.AL
namespace Go.Proofs
open Go Go.AL
theorem zl1 (z:Nat):SVle (.slice .full 0 []) (.slice .imm z []):=fun _ _ _ _ h=>Q5 (Rep.norm1 h) (.inr rfl)
theorem zkH:SVle (.agg qD) (zH JH):=SVle.agg (.cons (SVle.refl _) (.cons (SVle.refl _) (.cons (SVle.refl _) (.cons (SVle.refl _) (.cons (zl1 1) (.cons (zl1 6) .nil))))))
theorem zp3 (n:Nat) (x:SV) (a e:Value) (h:Ids n x):Ids n (.tuple [x,.sc a,.sc e]):=by
 refine .tuple _ ?_
 intro i hi
 match i with
 | 0=>exact h
 | 1=>exact .sc _
 | 2=>exact .sc _
 | i+3=>simp at hi;omega
theorem zdW (n:Nat):Ids n (.agg qD):=by
 rw[ZW]
 intro x hx
 simp only[qD,List.mem_cons,List.not_mem_nil,or_false] at hx
 rcases hx with rfl | rfl | rfl | rfl | rfl | rfl
 ·exact .sc _
 ·exact .sc _
 ·exact .sc _
 ·exact .sc _
 ·exact qf (.inr rfl) fun x hx=>by cases hx
 ·exact qf (.inr rfl) fun x hx=>by cases hx
theorem zcg {st ex:St} {K:SV→St→Prop} {x:SV} {nd:Nd} {a e:Value} (hi:Ids st.length x) (hx:norm1 x=x) (hle:SVle x (zH nd)) (hk:K (.tuple [zH nd,.sc a,.sc e]) st):zfK st (LeK K) (.tuple [x,.sc a,.sc e]) (st++ex):=by
 have hn:norm (.tuple [x,.sc a,.sc e]) = .tuple [x,.sc a,.sc e]:=by simp only[zbd,List.map_cons,List.map_nil,hx];rfl
 refine⟨⟨ex,rfl⟩,?_,?_⟩
 ·rw[hn];exact zp3 _ _ _ _ hi
 ·rw[hn];exact⟨_,SVle.tuple (.cons hle (.cons (SVle.refl _) (.cons (SVle.refl _) .nil))),hk⟩
theorem zn2 {s:Tx} {gid:Nat} {m:Int} {K:SV→St→Prop} {st:St} (hg:GAt gid m st) (hz:s.length≤100000) {a:Nat} {e:Int} (h:YQ s = .error (a,e)) (hk:∀ x,K (.tuple [x,.sc (.int .i64 a),.sc (.int .i64 e)]) st):ACalls Tryz.prog 46 [.sc (.string (ba s))] K st:=by
 refine zi1 hg ?_ hz
 rw[h];exact hk
theorem zgL {s:Tx} {gid:Nat} {m:Int} {K:SV→St→Prop} {st:St} (hg:GAt gid m st) (hz:s.length≤100000) {T:List Tk} (h:YQ s = .ok T) (hk:K (.tuple [.slice .imm 4 (T.map ZB),.sc (.int .i64 0),.sc (.int .i64 0)]) st):ACalls Tryz.prog 46 [.sc (.string (ba s))] K st:=by
 refine zi1 hg ?_ hz
 rw[h];exact hk
theorem zkw {s:Tx} {gid:Nat} {m:Int} {K:SV→St→Prop} {st:St} (hg:GAt gid m st) (hz:s.length≤100000) {a:Nat} {e:Int} (h:YQ s = .error (a,e)) (hk:K (.tuple [zH JH,.sc (.int .i64 a),.sc (.int .i64 e)]) st):ACalls Tryz.prog 29 [.sc (.string (ba s))] K st:=by
 refine zK (zj [23] Tryz.func29 rfl Tryz.results29 Tryz.ntmps29 ?_)
 have he:(e != 0)=true:=by simp[zbP h]
 simp only[go_sem]
 refine zn2 (XN hg) hz h fun x=>?_
 simp only[go_sem,he]
 exact zcg (zdW _) rfl zkH hk
theorem zkB {s:Tx} {gid:Nat} {m:Int} {K:SV→St→Prop} {st:St} (hg:GAt gid m st) (hz:s.length≤100000) {T:List Tk} (h:YQ s = .ok T) {nd:Nd} {q:PS} (hP:zcp T (zlu T 42) (tyF T 42) ⟨0,0,false,0,0⟩=some (nd,q))
  (hk:K (.tuple [zH (if q.e=0 then nd else JH),.sc (.int .i64 (if q.e=0 then 0 else q.bad)),.sc (.int .i64 q.e)]) st):ACalls Tryz.prog 29 [.sc (.string (ba s))] K st:=by
 refine zK (zj [23] Tryz.func29 rfl Tryz.results29 Tryz.ntmps29 ?_)
 have hT:=zfB h
 have hpat:V8 T (st.length+1) ⟨0,0,false,0,0⟩ (st++[.cells qD,.cells (ZX T ⟨0,0,false,0,0⟩)]):=by unfold V8;simp
 have hset:∀ X:Ob,(st++[Ob.cells qD,Ob.cells (ZX T ⟨0,0,false,0,0⟩)]).set (st.length+1) X=st++[.cells qD,X]:=fun X=>by
  rw[List.set_append_right _ _ (by omega)];simp
 have hp17:=znl (T:=T) (by omega) (pid:=st.length+1) (zu4 (by omega) 42) (zyy (by omega) 42)
 have hrun:=fun K=>hp17 _ _ _ hP K _ hpat
 simp only[hset] at hrun
 have hps:ZX T q=[.slice .imm 4 (T.map ZB),.sc (.int .i64 q.pos),.sc (.int .i64 q.deep),.sc (.bool q.flat),.sc (.int .i64 q.bad),.sc (.int .i64 q.e)]:=rfl
 rw[hps] at hrun
 by_cases he:q.e=0
 ·have c1:(q.e != 0)=false:=by simp[he]
  simp only[he,if_true] at hk
  simp only[go_sem]
  refine zgL (XN hg) hz h ?_
  simp only[go_sem,d0n]
  refine hrun _ ?_
  simp only[go_sem,c1,qD]
  exact zcg (JZ _ _) (zak _) (SVle.refl _) hk
 ·have c1:(q.e != 0)=true:=by simp[he]
  simp only[he,if_false] at hk
  simp only[go_sem]
  refine zgL (XN hg) hz h ?_
  simp only[go_sem,d0n]
  refine hrun _ ?_
  simp only[go_sem,c1]
  refine zO [] [(0,[]),(0,[12]),(0,[12]),(0,[12]),(0,[12]),(0,[12]),(0,[12]),(0,[12]),(0,[12]),(1,[12]),(0,[]),(0,[])] Tryz.mixed rfl ?_
  simp only[go_sem,zw,zt,zr,zp,zq,zE,zF,zu,zg,qD]
  rw[zJ]
  refine⟨.agg qD,?_,?_⟩
  ·simp only[go_sem]
   exact⟨⟨[],by simp⟩,zdW _,.inl rfl⟩
  simp only[go_sem,zw,zt,zr,zp,zq,zE,zF,zu,zg,qD]
  exact zcg (zdW _) rfl zkH hk
theorem zvk {s:Tx} {nd:Nd} {a e:Int} (h:qP s=some (nd,a,e)) {gid:Nat} {m:Int} {K:SV→St→Prop} {st:St} (hg:GAt gid m st) (hz:s.length≤100000) (hk:K (.tuple [zH nd,.sc (.int .i64 a),.sc (.int .i64 e)]) st):ACalls Tryz.prog 29 [.sc (.string (ba s))] K st:=by
 unfold qP at h
 cases hl:YQ s with
 | error x =>
  obtain⟨b,f⟩:=x
  rw[hl] at h
  simp only[Option.some.injEq,Prod.mk.injEq] at h
  obtain⟨rfl,rfl,rfl⟩:=h
  exact zkw hg hz hl hk
 | ok T =>
  rw[hl] at h
  simp only[VP,Option.map_eq_some_iff,Prod.exists] at h
  obtain⟨n,q,hP,h⟩:=h
  refine zkB hg hz hl hP ?_
  by_cases he:q.e=0
  ·simp only[he,if_true,Prod.mk.injEq] at h ⊢
   obtain⟨rfl,rfl,rfl⟩:=h
   exact hk
  ·simp only[he,if_false,Prod.mk.injEq] at h ⊢
   obtain⟨rfl,rfl,rfl⟩:=h
   exact hk
end Go.Proofs
