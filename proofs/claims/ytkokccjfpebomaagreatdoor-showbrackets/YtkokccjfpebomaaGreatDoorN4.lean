/- The document's parser: all of it, and Program. Written by gen_w70.py. -/
import Derived.Test.YtkokccjfpebomaaGreatDoorW69
import Derived.Test.YtkokccjfpebomaaGreatDoorW51
import Derived.Test.YtkokccjfpebomaaGreatDoorM7
set_option maxHeartbeats 4000000
set_option linter.unusedSimpArgs false
set_option linter.unusedVariables false
set_option maxRecDepth 8000
namespace Go.AL
def Ce (T:List Tk) (st:St) (p1:PS) (n1:Nd) (e:Exit) (env:List SV) (s:St):Prop:=e = .exit 0∧(∃ y0 y3 y4 y5 y6 y7 y10 y11 y12 y13 y14 y15 y16 y17 y18 y19 y20 y21 y22 y23 y24 y25 y26 y27 y28 y29 y30 y31 y32 y33 y34 y35 y36 y37 y38 y39 y40 y41 y42 y43 y44 y45 y46 y47 y48 y49 y50 y51,env=[y0,.any,.ptr st.length 0,y3,y4,y5,y6,y7,.ptr (st.length+1) 0,.ptr (st.length+2) 0,y10,y11,y12,y13,y14,y15,y16,y17,y18,y19,y20,y21,y22,y23,y24,y25,y26,y27,y28,y29,y30,y31,y32,y33,y34,y35,y36,y37,y38,y39,y40,y41,y42,y43,y44,y45,y46,y47,y48,y49,y50,y51,.any,.any,.any,.any,.any,.any,.any,.any,.any,.any,.any,.any,.any,.any,.any,.any,.any,.any,.any,.any,.any,.any,.any,.any,.any,.any,.any,.any,.any])∧∃ (k:Nat) (ex:St),(n1.names=[]∧n1.kids.length≤T.length+2)∧s=st++(.cells qK :: .cells (qN T p1) :: .cells (qw (st.length+3) k n1) :: .tok k::ex)
variable {T:List Tk} {st:St} {q:PS}
theorem Q5 {a:Ob} {ex:St}:YR T (st.length+1) q (st++(a :: .cells (qN T q)::ex)):=by unfold YR;simp
theorem rX {st ex:St} (k:Nat):(st++ex)[st.length+k]?=ex[k]?:=by rw[List.getElem?_append_right (by simp)];simp
theorem tL {st ex:St} {Y:Ob} (k:Nat):(st++ex).set (st.length+k) Y=st++ex.set k Y:=by rw[List.set_append_right _ _ (by simp)];simp
theorem UM {a X:Ob} {ex:St} {Y:Ob}:(st++(a::X::ex)).set (st.length+1) Y=st++(a::Y::ex):=tL 1
theorem oY {qI ver:Nat} {nd:Nd} (h:nd.names=[]):SVle (.agg (qw qI ver nd)) (zJ nd):=fun s σ w v hr=>by
 have:=Hi (m1 :=.full) (m2 :=.own qI ver) (z1:=0) (z2:=6) (n:=nd) (.inr h) (.inl rfl) s σ w v (by
  have h2:=hr.norm
  unfold Wo
  rw[h]
  exact h2)
 exact this
theorem sR {l r:List SV} (h:SVles l r):SVle (.tuple l) (.tuple r):=by
 intro st σ w v hv
 generalize hx:SV.tuple l=x at hv
 cases hv with
 | tuple l' vs h1 h2 =>
  cases hx
  exact .tuple r vs (h1.trans h.len) fun i hi=>h.at i _ _ _ _ (h2 i (by rw[h.len];exact hi))
 | _=>cases hx
theorem Kh {ex:St} {K:SV→St→Prop} {x:SV} {nd:Nd} {a e:Value} (hle:SVle x (zJ nd)) (hk:K (.tuple [zJ nd,.sc a,.sc e]) st):wa (GM st K) (.tuple [x,.sc a,.sc e]) (st++ex):=by
 refine⟨.tuple [zJ nd,.sc a,.sc e],sR (.cons hle (.cons (SVle.refl _) (.cons (SVle.refl _) .nil))),⟨ex,rfl⟩,?_,?_⟩
 ·simp only[KO,List.map_cons,List.map_nil,W1]
  refine .tuple _ ?_
  intro i hi
  match i with
  | 0=>exact Vp _ _
  | 1=>exact .sc _
  | 2=>exact .sc _
  | i+3=>simp at hi;omega
 ·simp only[KO,List.map_cons,List.map_nil,W1]
  exact hk
theorem Ec {P:Program} {f:FuncId} {args:List SV} {K:SV→St→Prop} (h:ACalls P f args (GM st K) st):ACalls P f args K st:=H7 (h.mono fun x s ⟨⟨ex,e⟩,h1,h2⟩=>⟨ex,e,h1,h2⟩)
theorem fI:SVle (.agg qK) (zJ J9):=fun s σ w v hr=>Hi (m1 :=.full) (m2 :=.full) (z1:=0) (z2:=0) (n:=J9) (.inr rfl) (.inr rfl) s σ w v hr.norm
theorem xL (n:Nat):Ids n (.agg qK):=by
 rw[Z6]
 intro x hx
 simp only[qK,List.mem_cons,List.not_mem_nil,or_false] at hx
 rcases hx with rfl | rfl | rfl | rfl | rfl | rfl
 ·exact .sc _
 ·exact .sc _
 ·exact .sc _
 ·exact .sc _
 ·exact ql (.inr rfl) fun x hx=>by cases hx
 ·exact ql (.inr rfl) fun x hx=>by cases hx
end Go.AL
namespace Go.Proofs
open Go Go.AL Tryz
theorem ru {T:List Tk} (hT:T.length≤100000) {pid:Nat}:∀ n,DC T pid 59 (Yt T (iO T n)):=by
 intro n
 induction n with
 | zero=>exact tb hT fun p r q h=>by cases h
 | succ n ih=>exact tb hT fun p r q h=>⟨_,ih,h⟩
theorem fw {T:List Tk} (hT:T.length≤100000) {pid:Nat}:∀ n,DC T pid 157 (Yt T (bh T n)):=by
 intro n
 induction n with
 | zero=>exact pT hT fun p r q h=>by cases h
 | succ n ih=>exact pT hT fun p r q h=>⟨_,ih,h⟩
theorem f8 {T:List Tk} (hT:T.length≤100000) {pid:Nat}:∀ n,DC T pid 24 (Yt T (nF T n)):=by
 intro n
 induction n with
 | zero=>exact pR fun p r q h=>by cases h
 | succ n ih=>exact pR (mv hT ih (oP hT (fU hT (dX hT (oT hT (dQ hT (gn ih) (fw hT (n+1))) (gy hT))))))
theorem ga {s:Tx} {K:SV→St→Prop} {st:St} {a:Nat} {e:Int} (he:e≠0) (htok:∀ (K:SV→St→Prop) (st:St),(∀ x,K (.tuple [x,.sc (.int .i64 a),.sc (.int .i64 e)]) st)→ACalls prog 18 [.sc (.string (ba s))] K st) (hk:K (.tuple [zJ J9,.sc (.int .i64 a),.sc (.int .i64 e)]) st):ACalls prog 10 [.sc (.string (ba s))] K st:=by
 refine Ec (zM (Qt (M:=[25]) func10 rfl results10 ntmps10 ?_))
 have c1:(e != 0)=true:=by simp[he]
 simp only[go_sem]
 refine htok _ _ fun x=>?_
 simp only[go_sem,c1]
 exact Kh fI hk
theorem mz {s:Tx} {K:SV→St→Prop} {st:St} {T:List Tk} (hT:T.length≤100000) (htok:∀ (K:SV→St→Prop) (st:St),K (.tuple [.slice .imm 4 (T.map ZF),.sc (.int .i64 0),.sc (.int .i64 0)]) st→ACalls prog 18 [.sc (.string (ba s))] K st) {nd:Nd} {q:PS} {e ty:PM Nd} (he:DC T (st.length+1) 24 e) (hy:DC T (st.length+1) 59 ty)
  (h:uR T e ty ⟨0,0,false,0,0⟩=some (nd,q)) (hk:K (.tuple [zJ (if q.e=0 then nd else J9),.sc (.int .i64 (if q.e=0 then 0 else q.bad)),.sc (.int .i64 q.e)]) st):ACalls prog 10 [.sc (.string (ba s))] K st:=by
 refine Ec (zM (Qt (M:=[25]) func10 rfl results10 ntmps10 ?_))
 have hdc:=nz hT he (fF hT hy)
 have d00:((0:Int) != 0)=false:=rfl
 unfold uR at h
 simp only[Option.bind_eq_some_iff,Option.map_eq_some_iff,Prod.exists,Prod.mk.injEq] at h
 obtain⟨a0,ha,n1,p1,hL,p2,h3,u,p3,h4,t',h5,p4,h6,rfl,rfl⟩:=h
 simp only[go_sem]
 refine htok _ _ ?_
 simp only[go_sem,d00]
 refine uf (T:=T) (p:=⟨0,0,false,0,0⟩) ha (Q5 (ex:=[])) ?_
 simp only[go_sem]
 refine Z1 (st.length+2) 5 6 0 (rX 2) (by simp) rfl ?_
 rw[tL]
 simp only[List.length_append,List.length_cons,List.length_nil,List.set_cons_succ,List.set_cons_zero,List.append_assoc,List.cons_append,List.nil_append,Nat.zero_add,Nat.reduceAdd]
 refine AWp.mono (Q:=Ce T st p1 n1) ?_ ?_
 ·refine zN [] (fun m env s=>∃ (nd:Nd) (q:PS) (k:Nat) (ex:St),HL T e ty m nd q=some (n1,p1)∧m+nd.kids.length≤T.length+2∧nd.names=[]∧env=[.any,.any,.ptr st.length 0,.any,.any,.any,.any,.any,.ptr (st.length+1) 0,.ptr (st.length+2) 0,.any,.any,.any,.any,.any,.any,.any,.any,.any,.any,.any,.any,.any,.any,.any,.any,.any,.any,.any,.any,.any,.any,.any,.any,.any,.any,.any,.any,.any,.any,.any,.any,.any,.any,.any,.any,.any,.any,.any,.any,.any,.any,.any,.any,.any,.any,.any,.any,.any,.any,.any,.any,.any,.any,.any,.any,.any,.any,.any,.any,.any,.any,.any,.any,.any,.any,.any,.any,.any,.any,.any]∧s=st++(.cells qK :: .cells (qN T q) :: .cells (qw (st.length+3) k nd) :: .tok k::ex)) (n:=T.length+2) ?_ ⟨_,_,0,[],hL,by simp[zT,Nd.kids],rfl,rfl,rfl⟩ ?_
  ·repeat (first | exact zj | refine zk _ ?_ | refine zg _ ?_ | refine zf _ ?_)
  rintro m env s ⟨nd,q,k,ex,hl,hm,hnm,rfl,rfl⟩
  cases m with
  | zero=>cases hl
  | succ m =>
  unfold HL at hl
  rw[Option.bind_eq_some_iff] at hl
  obtain⟨t,ht,hl⟩:=hl
  cases b1:isT t [116,121,112,101] with
  | false =>
   cases b2:isT t [108,101,116] with
   | false =>
    rw[if_neg (by rw[b1,b2];decide)] at hl
    cases hl
    simp only[go_sem]
    refine qx ht b1 Q5 ?_
    simp only[go_sem]
    refine qx ht b2 Q5 ?_
    simp only[go_sem]
    exact⟨rfl,⟨_,_,_,_,_,_,_,_,_,_,_,_,_,_,_,_,_,_,_,_,_,_,_,_,_,_,_,_,_,_,_,_,_,_,_,_,_,_,_,_,_,_,_,_,_,_,_,_,rfl⟩,_,_,⟨hnm,by omega⟩,rfl⟩
   | true =>
    rw[if_pos (.inr b2)] at hl
    by_cases l6:nd.kids.length=60
    ·have l1:((nd.kids.length:Int)==60)=true:=by simp[l6]
     rw[if_pos l6,Option.map_eq_some_iff] at hl
     obtain⟨q1,c5,hl⟩:=hl
     cases hl
     simp only[go_sem]
     refine qx ht b1 Q5 ?_
     simp only[go_sem]
     refine qx ht b2 Q5 ?_
     unfold qw
     simp only[go_sem,List.length_map,l1]
     refine Qg c5 Q5 fun _=>?_
     simp only[UM]
     simp only[go_sem]
     exact⟨rfl,⟨_,_,_,_,_,_,_,_,_,_,_,_,_,_,_,_,_,_,_,_,_,_,_,_,_,_,_,_,_,_,_,_,_,_,_,_,_,_,_,_,_,_,_,_,_,_,_,_,rfl⟩,_,_,⟨hnm,by omega⟩,rfl⟩
    ·have l1:((nd.kids.length:Int)==60)=false:=by simp;omega
     rw[if_neg l6,Option.bind_eq_some_iff] at hl
     obtain⟨⟨x,q1⟩,c5,hl⟩:=hl
     simp only[go_sem]
     refine qx ht b1 Q5 ?_
     simp only[go_sem]
     refine qx ht b2 Q5 ?_
     unfold qw
     simp only[go_sem,List.length_map,l1]
     refine zP [] [(0,[5]),(0,[5]),(0,[]),(3,[5]),(0,[]),(3,[7]),(0,[]),(1,[8])] mixed rfl ?_
     simp only[go_sem,zy,zu,zw,zt,zr,zG,zH,zx,zh]
     refine⟨_,_,hdc _ _ _ c5 _ _ Q5 ⟨rfl,rfl⟩,?_⟩
     simp only[go_sem,zy,zu,zw,zt,zr,zG,zH,zx,zh,UM]
     rw[zL]
     refine⟨.slice .full 6 [zJ x],?_,?_⟩
     ·simp only[go_sem]
      exact⟨⟨[],by simp⟩,qb _ _ (.inr rfl) _ [_],.inl rfl⟩
     simp only[go_sem,zy,zu,zw,zt,zr,zG,zH,zx,zh]
     refine⟨_,_,⟨Tryz.app6d (by omega),rfl,rfl⟩,?_⟩
     simp only[go_sem]
     refine⟨m,_,by omega,?_,nd.addKid x,q1,k+1,_,hl,by rw[qc];simp;omega,by rw[qs];exact hnm,rfl,by rw[qV,qU,Zq,Zp,qc,List.map_append];rfl⟩
     repeat (first | exact zj | refine zk _ ?_ | refine zg _ ?_ | refine zf _ ?_)
  | true =>
   rw[if_pos (.inl b1)] at hl
   have b2:isT t [108,101,116]=false:=by
    cases hb:isT t [108,101,116] with
    | false=>rfl
    | true=>exact absurd ((Qi.1 b1).2.symm.trans (Qi.1 hb).2) (by decide)
   by_cases l6:nd.kids.length=60
   ·have l1:((nd.kids.length:Int)==60)=true:=by simp[l6]
    rw[if_pos l6,Option.map_eq_some_iff] at hl
    obtain⟨q1,c5,hl⟩:=hl
    cases hl
    simp only[go_sem]
    refine qx ht b1 Q5 ?_
    simp only[go_sem]
    refine qx ht b2 Q5 ?_
    unfold qw
    simp only[go_sem,List.length_map,l1]
    refine Qg c5 Q5 fun _=>?_
    simp only[UM]
    simp only[go_sem]
    exact⟨rfl,⟨_,_,_,_,_,_,_,_,_,_,_,_,_,_,_,_,_,_,_,_,_,_,_,_,_,_,_,_,_,_,_,_,_,_,_,_,_,_,_,_,_,_,_,_,_,_,_,_,rfl⟩,_,_,⟨hnm,by omega⟩,rfl⟩
   ·have l1:((nd.kids.length:Int)==60)=false:=by simp;omega
    rw[if_neg l6,Option.bind_eq_some_iff] at hl
    obtain⟨⟨x,q1⟩,c5,hl⟩:=hl
    simp only[go_sem]
    refine qx ht b1 Q5 ?_
    simp only[go_sem]
    refine qx ht b2 Q5 ?_
    unfold qw
    simp only[go_sem,List.length_map,l1]
    refine zP [] [(0,[5]),(0,[5]),(0,[]),(3,[5]),(0,[]),(3,[7]),(0,[]),(1,[8])] mixed rfl ?_
    simp only[go_sem,zy,zu,zw,zt,zr,zG,zH,zx,zh]
    refine⟨_,_,hdc _ _ _ c5 _ _ Q5 ⟨rfl,rfl⟩,?_⟩
    simp only[go_sem,zy,zu,zw,zt,zr,zG,zH,zx,zh,UM]
    rw[zL]
    refine⟨.slice .full 6 [zJ x],?_,?_⟩
    ·simp only[go_sem]
     exact⟨⟨[],by simp⟩,qb _ _ (.inr rfl) _ [_],.inl rfl⟩
    simp only[go_sem,zy,zu,zw,zt,zr,zG,zH,zx,zh]
    refine⟨_,_,⟨Tryz.app6d (by omega),rfl,rfl⟩,?_⟩
    simp only[go_sem]
    refine⟨m,_,by omega,?_,nd.addKid x,q1,k+1,_,hl,by rw[qc];simp;omega,by rw[qs];exact hnm,rfl,by rw[qV,qU,Zq,Zp,qc,List.map_append];rfl⟩
    repeat (first | exact zj | refine zk _ ?_ | refine zg _ ?_ | refine zf _ ?_)
 have yq:=fun ex:St=>zV (Q5 (T:=T) (st:=st) (q:=p4) (a :=.cells qK) (ex:=ex))
 have hps:qN T p4=[.slice .imm 4 (T.map ZF),.sc (.int .i64 p4.pos),.sc (.int .i64 p4.deep),.sc (.int .i64 p4.bad),.sc (.bool p4.flat),.sc (.int .i64 p4.e)]:=rfl
 have hown:∀ k,(qw (st.length+3) k (n1.addKid u))=[.sc (.int .i64 n1.kind),.sc (.string (ba n1.text)),.sc (.int .i64 n1.num),.sc (.int .i64 n1.pos),.slice .full 0 [],.slice (.own (st.length+3) k) 6 (n1.kids.map zJ++[zJ u])]:=fun k=>Fh _ _ _ _
 by_cases k0:t'.kind=0
 ·have c0:(t'.kind != 0)=false:=by simp[k0]
  rw[if_neg (by simp[k0])] at h6
  cases h6
  by_cases e0:p3.e=0
  ·have c1:(p3.e != 0)=false:=by simp[e0]
   simp only[e0,if_true] at hk
   rintro e' env s ⟨rfl,⟨y0,y3,y4,y5,y6,y7,y10,y11,y12,y13,y14,y15,y16,y17,y18,y19,y20,y21,y22,y23,y24,y25,y26,y27,y28,y29,y30,y31,y32,y33,y34,y35,y36,y37,y38,y39,y40,y41,y42,y43,y44,y45,y46,y47,y48,y49,y50,y51,rfl⟩,k,ex,⟨hnm,hkl⟩,rfl⟩
   simp only[go_sem]
   refine Zd hT h3 Q5 fun _=>?_
   simp only[UM]
   unfold qw
   simp only[go_sem]
   refine zP [] [(0,[5]),(0,[5]),(0,[]),(3,[5]),(0,[]),(3,[7]),(0,[]),(1,[8])] mixed rfl ?_
   simp only[go_sem,zy,zu,zw,zt,zr,zG,zH,zx,zh]
   refine⟨_,_,he _ _ _ h4 _ _ Q5 ⟨rfl,rfl⟩,?_⟩
   simp only[go_sem,zy,zu,zw,zt,zr,zG,zH,zx,zh,UM]
   rw[zL]
   refine⟨.slice .full 6 [zJ u],?_,?_⟩
   ·simp only[go_sem]
    exact⟨⟨[],by simp⟩,qb _ _ (.inr rfl) _ [_],.inl rfl⟩
   simp only[go_sem,zy,zu,zw,zt,zr,zG,zH,zx,zh]
   refine⟨_,_,⟨Tryz.app6d (by omega),rfl,rfl⟩,?_⟩
   simp only[go_sem,UM]
   refine qr h5 Q5 ?_
   rw[hps]
   simp only[go_sem,c0,c1]
   refine⟨by decide,Kh (nd:=n1.addKid u) ?_ hk⟩
   have:=oY (qI:=st.length+3) (ver:=k+1) (nd:=n1.addKid u) (by rw[qs];exact hnm)
   rw[hown] at this
   exact this
  ·have c1:(p3.e != 0)=true:=by simp[e0]
   simp only[e0,if_false] at hk
   rintro e' env s ⟨rfl,⟨y0,y3,y4,y5,y6,y7,y10,y11,y12,y13,y14,y15,y16,y17,y18,y19,y20,y21,y22,y23,y24,y25,y26,y27,y28,y29,y30,y31,y32,y33,y34,y35,y36,y37,y38,y39,y40,y41,y42,y43,y44,y45,y46,y47,y48,y49,y50,y51,rfl⟩,k,ex,⟨hnm,hkl⟩,rfl⟩
   simp only[go_sem]
   refine Zd hT h3 Q5 fun _=>?_
   simp only[UM]
   unfold qw
   simp only[go_sem]
   refine zP [] [(0,[5]),(0,[5]),(0,[]),(3,[5]),(0,[]),(3,[7]),(0,[]),(1,[8])] mixed rfl ?_
   simp only[go_sem,zy,zu,zw,zt,zr,zG,zH,zx,zh]
   refine⟨_,_,he _ _ _ h4 _ _ Q5 ⟨rfl,rfl⟩,?_⟩
   simp only[go_sem,zy,zu,zw,zt,zr,zG,zH,zx,zh,UM]
   rw[zL]
   refine⟨.slice .full 6 [zJ u],?_,?_⟩
   ·simp only[go_sem]
    exact⟨⟨[],by simp⟩,qb _ _ (.inr rfl) _ [_],.inl rfl⟩
   simp only[go_sem,zy,zu,zw,zt,zr,zG,zH,zx,zh]
   refine⟨_,_,⟨Tryz.app6d (by omega),rfl,rfl⟩,?_⟩
   simp only[go_sem,UM]
   refine qr h5 Q5 ?_
   rw[hps]
   simp only[go_sem,c0,c1]
   refine zP [] [(0,[]),(0,[12]),(0,[12]),(0,[12]),(0,[12]),(0,[12]),(0,[12]),(0,[12]),(0,[12]),(1,[12]),(0,[]),(0,[])] mixed rfl ?_
   simp only[go_sem,zy,zu,zw,zt,zr,zG,zH,zx,zh,qK]
   rw[zL]
   refine⟨.agg qK,?_,?_⟩
   ·simp only[go_sem]
    exact⟨⟨[],by simp⟩,xL _,.inl rfl⟩
   simp only[go_sem,zy,zu,zw,zt,zr,zG,zH,zx,zh,qK]
   exact Kh fI hk
 ·have c0:(t'.kind != 0)=true:=by simp[k0]
  rw[if_pos k0] at h6
  have e0:p4.e≠0:=Qa h6 (by decide)
  have c1:(p4.e != 0)=true:=by simp[e0]
  simp only[e0,if_false] at hk
  rintro e' env s ⟨rfl,⟨y0,y3,y4,y5,y6,y7,y10,y11,y12,y13,y14,y15,y16,y17,y18,y19,y20,y21,y22,y23,y24,y25,y26,y27,y28,y29,y30,y31,y32,y33,y34,y35,y36,y37,y38,y39,y40,y41,y42,y43,y44,y45,y46,y47,y48,y49,y50,y51,rfl⟩,k,ex,⟨hnm,hkl⟩,rfl⟩
  simp only[go_sem]
  refine Zd hT h3 Q5 fun _=>?_
  simp only[UM]
  unfold qw
  simp only[go_sem]
  refine zP [] [(0,[5]),(0,[5]),(0,[]),(3,[5]),(0,[]),(3,[7]),(0,[]),(1,[8])] mixed rfl ?_
  simp only[go_sem,zy,zu,zw,zt,zr,zG,zH,zx,zh]
  refine⟨_,_,he _ _ _ h4 _ _ Q5 ⟨rfl,rfl⟩,?_⟩
  simp only[go_sem,zy,zu,zw,zt,zr,zG,zH,zx,zh,UM]
  rw[zL]
  refine⟨.slice .full 6 [zJ u],?_,?_⟩
  ·simp only[go_sem]
   exact⟨⟨[],by simp⟩,qb _ _ (.inr rfl) _ [_],.inl rfl⟩
  simp only[go_sem,zy,zu,zw,zt,zr,zG,zH,zx,zh]
  refine⟨_,_,⟨Tryz.app6d (by omega),rfl,rfl⟩,?_⟩
  simp only[go_sem,UM]
  refine qr h5 Q5 ?_
  simp only[go_sem,c0]
  refine Qg h6 Q5 fun _=>?_
  simp only[UM]
  rw[hps]
  simp only[go_sem,c1]
  refine zP [] [(0,[]),(0,[12]),(0,[12]),(0,[12]),(0,[12]),(0,[12]),(0,[12]),(0,[12]),(0,[12]),(1,[12]),(0,[]),(0,[])] mixed rfl ?_
  simp only[go_sem,zy,zu,zw,zt,zr,zG,zH,zx,zh,qK]
  rw[zL]
  refine⟨.agg qK,?_,?_⟩
  ·simp only[go_sem]
   exact⟨⟨[],by simp⟩,xL _,.inl rfl⟩
  simp only[go_sem,zy,zu,zw,zt,zr,zG,zH,zx,zh,qK]
  exact Kh fI hk
end Go.Proofs
namespace Go.Proofs
open Go Go.AL Tryz
theorem Dq {s:Tx} {n:Nd} {a e:Int} (h:q8 s=some (n,a,e)) (hz:s.length≤100000) {K:SV→St→Prop} {st:St} (hk:K (.tuple [zJ n,.sc (.int .i64 a),.sc (.int .i64 e)]) st):ACalls prog 10 [.sc (.string (ba s))] K st:=by
 rcases jw h with⟨b,hl,rfl,rfl,he⟩ | ⟨T,hl,hT,hp⟩
 ·refine ga he (fun K st h=>?_) hk
  refine B7 hz ?_
  rw[hl];exact h
 ·unfold EQ at hp
  simp only[Option.map_eq_some_iff,Prod.exists] at hp
  obtain⟨nd,q,hq,hr⟩:=hp
  have hT':T.length≤100000:=by omega
  refine mz hT' (fun K st h=>?_) (f8 hT' 42) (ru hT' 42) hq ?_
  ·refine B7 hz ?_
   rw[hl];exact h
  ·by_cases z:q.e=0
   ·rw[if_pos z] at hr
    cases hr
    rw[if_pos z,if_pos z,z];exact hk
   ·rw[if_neg z] at hr
    cases hr
    rw[if_neg z,if_neg z];exact hk
end Go.Proofs
