/- The document's parser: all of it, and Program. Written by gen_w70.py. -/
import Derived.Test.YtkokccjfpebomaaGreatDoorW69
import Derived.Test.YtkokccjfpebomaaGreatDoorW51
import Derived.Test.YtkokccjfpebomaaGreatDoorM7
set_option maxHeartbeats 4000000
set_option linter.unusedSimpArgs false
set_option linter.unusedVariables false
set_option maxRecDepth 8000
namespace Go.AL
def PrQ (T:List Tk) (st:St) (p1:PS) (n1:Nd) (e:Exit) (env:List SV) (s:St):Prop:=e = .exit 0∧(∃ y0 y3 y4 y5 y6 y7 y10 y11 y12 y13 y14 y15 y16 y17 y18 y19 y20 y21 y22 y23 y24 y25 y26 y27 y28 y29 y30 y31 y32 y33 y34 y35 y36 y37 y38 y39 y40 y41 y42 y43 y44 y45 y46 y47 y48 y49 y50 y51,env=[y0,.any,.ptr st.length 0,y3,y4,y5,y6,y7,.ptr (st.length+1) 0,.ptr (st.length+2) 0,y10,y11,y12,y13,y14,y15,y16,y17,y18,y19,y20,y21,y22,y23,y24,y25,y26,y27,y28,y29,y30,y31,y32,y33,y34,y35,y36,y37,y38,y39,y40,y41,y42,y43,y44,y45,y46,y47,y48,y49,y50,y51,.any,.any,.any,.any,.any,.any,.any,.any,.any,.any,.any,.any,.any,.any,.any,.any,.any,.any,.any,.any,.any,.any,.any,.any,.any,.any,.any,.any,.any])∧∃ (k:Nat) (ex:St),(n1.names=[]∧n1.kids.length≤T.length+2)∧s=st++(.cells qD :: .cells (qH T p1) :: .cells (qq (st.length+3) k n1) :: .tok k::ex)
variable {T:List Tk} {st:St} {q:PS}
theorem QS {a:Ob} {ex:St}:Yx T (st.length+1) q (st++(a :: .cells (qH T q)::ex)):=by unfold Yx;simp
theorem zzc {st ex:St} (k:Nat):(st++ex)[st.length+k]?=ex[k]?:=by rw[List.getElem?_append_right (by simp)];simp
theorem ztL {st ex:St} {Y:Ob} (k:Nat):(st++ex).set (st.length+k) Y=st++ex.set k Y:=by rw[List.set_append_right _ _ (by simp)];simp
theorem zch {a X:Ob} {ex:St} {Y:Ob}:(st++(a::X::ex)).set (st.length+1) Y=st++(a::Y::ex):=ztL 1
theorem zus {qC ver:Nat} {nd:Nd} (h:nd.names=[]):SVle (.agg (qq qC ver nd)) (zH nd):=fun s σ w v hr=>by
 have:=zcY (m1 :=.full) (m2 :=.own qC ver) (z1:=0) (z2:=6) (n:=nd) (.inr h) (.inl rfl) s σ w v (by
  have h2:=hr.norm
  unfold V5
  rw[h]
  exact h2)
 exact this
theorem zyd {l r:List SV} (h:SVles l r):SVle (.tuple l) (.tuple r):=by
 intro st σ w v hv
 generalize hx:SV.tuple l=x at hv
 cases hv with
 | tuple l' vs h1 h2 =>
  cases hx
  exact .tuple r vs (h1.trans h.len) fun i hi=>h.at i _ _ _ _ (h2 i (by rw[h.len];exact hi))
 | _=>cases hx
theorem zaW {ex:St} {K:SV→St→Prop} {x:SV} {nd:Nd} {a e:Value} (hle:SVle x (zH nd)) (hk:K (.tuple [zH nd,.sc a,.sc e]) st):LeK (zfK st K) (.tuple [x,.sc a,.sc e]) (st++ex):=by
 refine⟨.tuple [zH nd,.sc a,.sc e],zyd (.cons hle (.cons (SVle.refl _) (.cons (SVle.refl _) .nil))),⟨ex,rfl⟩,?_,?_⟩
 ·simp only[zbd,List.map_cons,List.map_nil,zak]
  refine .tuple _ ?_
  intro i hi
  match i with
  | 0=>exact JZ _ _
  | 1=>exact .sc _
  | 2=>exact .sc _
  | i+3=>simp at hi;omega
 ·simp only[zbd,List.map_cons,List.map_nil,zak]
  exact hk
theorem zdI {P:Program} {f:FuncId} {args:List SV} {K:SV→St→Prop} (h:ACalls P f args (zfK st K) st):ACalls P f args K st:=zdz (h.mono fun x s ⟨⟨ex,e⟩,h1,h2⟩=>⟨ex,e,h1,h2⟩)
theorem zvR:SVle (.agg qD) (zH JH):=fun s σ w v hr=>zcY (m1 :=.full) (m2 :=.full) (z1:=0) (z2:=0) (n:=JH) (.inr rfl) (.inr rfl) s σ w v hr.norm
theorem zoU (n:Nat):Ids n (.agg qD):=by
 rw[ZW]
 intro x hx
 simp only[qD,List.mem_cons,List.not_mem_nil,or_false] at hx
 rcases hx with rfl | rfl | rfl | rfl | rfl | rfl
 ·exact .sc _
 ·exact .sc _
 ·exact .sc _
 ·exact .sc _
 ·exact qf (.inr rfl) fun x hx=>by cases hx
 ·exact qf (.inr rfl) fun x hx=>by cases hx
end Go.AL
namespace Go.Proofs
open Go Go.AL
theorem zy5 {T:List Tk} (hT:T.length≤100000) {pid:Nat}:∀ n,DC T pid 59 (Ym T (tyI T n)):=by
 intro n
 induction n with
 | zero=>exact zt1 hT fun p r q h=>by cases h
 | succ n ih=>exact zt1 hT fun p r q h=>⟨_,ih,h⟩
theorem zvo {T:List Tk} (hT:T.length≤100000) {pid:Nat}:∀ n,DC T pid 157 (Ym T (zsz T n)):=by
 intro n
 induction n with
 | zero=>exact zpE hT fun p r q h=>by cases h
 | succ n ih=>exact zpE hT fun p r q h=>⟨_,ih,h⟩
theorem zv9 {T:List Tk} (hT:T.length≤100000) {pid:Nat}:∀ n,DC T pid 24 (Ym T (zto T n)):=by
 intro n
 induction n with
 | zero=>exact zpf fun p r q h=>by cases h
 | succ n ih=>exact zpf (zpq hT ih (zuD hT (zvJ hT (zrj hT (zvV hT (zsN hT (zpG ih) (zvo hT (n+1))) (zqi hT))))))
theorem zqq {s:Tx} {K:SV→St→Prop} {st:St} {a:Nat} {e:Int} (he:e≠0) (htok:∀ (K:SV→St→Prop) (st:St),(∀ x,K (.tuple [x,.sc (.int .i64 a),.sc (.int .i64 e)]) st)→ACalls Tryz.prog 18 [.sc (.string (ba s))] K st) (hk:K (.tuple [zH JH,.sc (.int .i64 a),.sc (.int .i64 e)]) st):ACalls Tryz.prog 10 [.sc (.string (ba s))] K st:=by
 refine zdI (zK (Qe (M:=[25]) Tryz.func10 rfl Tryz.results10 Tryz.ntmps10 ?_))
 have c1:(e != 0)=true:=by simp[he]
 simp only[go_sem]
 refine htok _ _ fun x=>?_
 simp only[go_sem,c1]
 exact zaW zvR hk
theorem zpC {s:Tx} {K:SV→St→Prop} {st:St} {T:List Tk} (hT:T.length≤100000) (htok:∀ (K:SV→St→Prop) (st:St),K (.tuple [.slice .imm 4 (T.map ZB),.sc (.int .i64 0),.sc (.int .i64 0)]) st→ACalls Tryz.prog 18 [.sc (.string (ba s))] K st) {nd:Nd} {q:PS} {e ty:PM Nd} (he:DC T (st.length+1) 24 e) (hy:DC T (st.length+1) 59 ty)
  (h:zmj T e ty ⟨0,0,false,0,0⟩=some (nd,q)) (hk:K (.tuple [zH (if q.e=0 then nd else JH),.sc (.int .i64 (if q.e=0 then 0 else q.bad)),.sc (.int .i64 q.e)]) st):ACalls Tryz.prog 10 [.sc (.string (ba s))] K st:=by
 refine zdI (zK (Qe (M:=[25]) Tryz.func10 rfl Tryz.results10 Tryz.ntmps10 ?_))
 have hdc:=zrU hT he (zvD hT hy)
 have d00:((0:Int) != 0)=false:=rfl
 unfold zmj at h
 simp only[Option.bind_eq_some_iff,Option.map_eq_some_iff,Prod.exists,Prod.mk.injEq] at h
 obtain⟨a0,ha,n1,p1,hL,p2,h3,u,p3,h4,t',h5,p4,h6,rfl,rfl⟩:=h
 simp only[go_sem]
 refine htok _ _ ?_
 simp only[go_sem,d00]
 refine zlX (T:=T) (p:=⟨0,0,false,0,0⟩) ha (QS (ex:=[])) ?_
 simp only[go_sem]
 refine ZU (st.length+2) 5 6 0 (zzc 2) (by simp) rfl ?_
 rw[ztL]
 simp only[List.length_append,List.length_cons,List.length_nil,List.set_cons_succ,List.set_cons_zero,List.append_assoc,List.cons_append,List.nil_append,Nat.zero_add,Nat.reduceAdd]
 refine AWp.mono (Q:=PrQ T st p1 n1) ?_ ?_
 ·refine zM [] (fun m env s=>∃ (nd:Nd) (q:PS) (k:Nat) (ex:St),zc1 T e ty m nd q=some (n1,p1)∧m+nd.kids.length≤T.length+2∧nd.names=[]∧env=[.any,.any,.ptr st.length 0,.any,.any,.any,.any,.any,.ptr (st.length+1) 0,.ptr (st.length+2) 0,.any,.any,.any,.any,.any,.any,.any,.any,.any,.any,.any,.any,.any,.any,.any,.any,.any,.any,.any,.any,.any,.any,.any,.any,.any,.any,.any,.any,.any,.any,.any,.any,.any,.any,.any,.any,.any,.any,.any,.any,.any,.any,.any,.any,.any,.any,.any,.any,.any,.any,.any,.any,.any,.any,.any,.any,.any,.any,.any,.any,.any,.any,.any,.any,.any,.any,.any,.any,.any,.any,.any]∧s=st++(.cells qD :: .cells (qH T q) :: .cells (qq (st.length+3) k nd) :: .tok k::ex)) (n:=T.length+2) ?_ ⟨_,_,0,[],hL,by simp[zR,Nd.kids],rfl,rfl,rfl⟩ ?_
  ·repeat (first | exact zi | refine zh _ ?_ | refine zf _ ?_ | refine ze _ ?_)
  rintro m env s ⟨nd,q,k,ex,hl,hm,hnm,rfl,rfl⟩
  cases m with
  | zero=>cases hl
  | succ m =>
  unfold zc1 at hl
  rw[Option.bind_eq_some_iff] at hl
  obtain⟨t,ht,hl⟩:=hl
  cases b1:isT t [116,121,112,101] with
  | false =>
   cases b2:isT t [108,101,116] with
   | false =>
    rw[if_neg (by rw[b1,b2];decide)] at hl
    cases hl
    simp only[go_sem]
    refine qr ht b1 QS ?_
    simp only[go_sem]
    refine qr ht b2 QS ?_
    simp only[go_sem]
    exact⟨rfl,⟨_,_,_,_,_,_,_,_,_,_,_,_,_,_,_,_,_,_,_,_,_,_,_,_,_,_,_,_,_,_,_,_,_,_,_,_,_,_,_,_,_,_,_,_,_,_,_,_,rfl⟩,_,_,⟨hnm,by omega⟩,rfl⟩
   | true =>
    rw[if_pos (.inr b2)] at hl
    by_cases l6:nd.kids.length=60
    ·have l1:((nd.kids.length:Int)==60)=true:=by simp[l6]
     rw[if_pos l6,Option.map_eq_some_iff] at hl
     obtain⟨q1,c5,hl⟩:=hl
     cases hl
     simp only[go_sem]
     refine qr ht b1 QS ?_
     simp only[go_sem]
     refine qr ht b2 QS ?_
     unfold qq
     simp only[go_sem,List.length_map,l1]
     refine Z7 c5 QS fun _=>?_
     simp only[zch]
     simp only[go_sem]
     exact⟨rfl,⟨_,_,_,_,_,_,_,_,_,_,_,_,_,_,_,_,_,_,_,_,_,_,_,_,_,_,_,_,_,_,_,_,_,_,_,_,_,_,_,_,_,_,_,_,_,_,_,_,rfl⟩,_,_,⟨hnm,by omega⟩,rfl⟩
    ·have l1:((nd.kids.length:Int)==60)=false:=by simp;omega
     rw[if_neg l6,Option.bind_eq_some_iff] at hl
     obtain⟨⟨x,q1⟩,c5,hl⟩:=hl
     simp only[go_sem]
     refine qr ht b1 QS ?_
     simp only[go_sem]
     refine qr ht b2 QS ?_
     unfold qq
     simp only[go_sem,List.length_map,l1]
     refine zO [] [(0,[5]),(0,[5]),(0,[]),(3,[5]),(0,[]),(3,[7]),(0,[]),(1,[8])] Tryz.mixed rfl ?_
     simp only[go_sem,zw,zt,zr,zp,zq,zE,zF,zu,zg]
     refine⟨_,_,hdc _ _ _ c5 _ _ QS ⟨rfl,rfl⟩,?_⟩
     simp only[go_sem,zw,zt,zr,zp,zq,zE,zF,zu,zg,zch]
     rw[zJ]
     refine⟨.slice .full 6 [zH x],?_,?_⟩
     ·simp only[go_sem]
      exact⟨⟨[],by simp⟩,zY _ _ (.inr rfl) _ [_],.inl rfl⟩
     simp only[go_sem,zw,zt,zr,zp,zq,zE,zF,zu,zg]
     refine⟨_,_,⟨Tryz.app6d (by omega),rfl,rfl⟩,?_⟩
     simp only[go_sem]
     refine⟨m,_,by omega,?_,nd.addKid x,q1,k+1,_,hl,by rw[z8];simp;omega,by rw[qm];exact hnm,rfl,by rw[qM,qO,Zf,Zg,z8,List.map_append];rfl⟩
     repeat (first | exact zi | refine zh _ ?_ | refine zf _ ?_ | refine ze _ ?_)
  | true =>
   rw[if_pos (.inl b1)] at hl
   have b2:isT t [108,101,116]=false:=by
    cases hb:isT t [108,101,116] with
    | false=>rfl
    | true=>exact absurd ((Z5.1 b1).2.symm.trans (Z5.1 hb).2) (by decide)
   by_cases l6:nd.kids.length=60
   ·have l1:((nd.kids.length:Int)==60)=true:=by simp[l6]
    rw[if_pos l6,Option.map_eq_some_iff] at hl
    obtain⟨q1,c5,hl⟩:=hl
    cases hl
    simp only[go_sem]
    refine qr ht b1 QS ?_
    simp only[go_sem]
    refine qr ht b2 QS ?_
    unfold qq
    simp only[go_sem,List.length_map,l1]
    refine Z7 c5 QS fun _=>?_
    simp only[zch]
    simp only[go_sem]
    exact⟨rfl,⟨_,_,_,_,_,_,_,_,_,_,_,_,_,_,_,_,_,_,_,_,_,_,_,_,_,_,_,_,_,_,_,_,_,_,_,_,_,_,_,_,_,_,_,_,_,_,_,_,rfl⟩,_,_,⟨hnm,by omega⟩,rfl⟩
   ·have l1:((nd.kids.length:Int)==60)=false:=by simp;omega
    rw[if_neg l6,Option.bind_eq_some_iff] at hl
    obtain⟨⟨x,q1⟩,c5,hl⟩:=hl
    simp only[go_sem]
    refine qr ht b1 QS ?_
    simp only[go_sem]
    refine qr ht b2 QS ?_
    unfold qq
    simp only[go_sem,List.length_map,l1]
    refine zO [] [(0,[5]),(0,[5]),(0,[]),(3,[5]),(0,[]),(3,[7]),(0,[]),(1,[8])] Tryz.mixed rfl ?_
    simp only[go_sem,zw,zt,zr,zp,zq,zE,zF,zu,zg]
    refine⟨_,_,hdc _ _ _ c5 _ _ QS ⟨rfl,rfl⟩,?_⟩
    simp only[go_sem,zw,zt,zr,zp,zq,zE,zF,zu,zg,zch]
    rw[zJ]
    refine⟨.slice .full 6 [zH x],?_,?_⟩
    ·simp only[go_sem]
     exact⟨⟨[],by simp⟩,zY _ _ (.inr rfl) _ [_],.inl rfl⟩
    simp only[go_sem,zw,zt,zr,zp,zq,zE,zF,zu,zg]
    refine⟨_,_,⟨Tryz.app6d (by omega),rfl,rfl⟩,?_⟩
    simp only[go_sem]
    refine⟨m,_,by omega,?_,nd.addKid x,q1,k+1,_,hl,by rw[z8];simp;omega,by rw[qm];exact hnm,rfl,by rw[qM,qO,Zf,Zg,z8,List.map_append];rfl⟩
    repeat (first | exact zi | refine zh _ ?_ | refine zf _ ?_ | refine ze _ ?_)
 have yq:=fun ex:St=>zT (QS (T:=T) (st:=st) (q:=p4) (a :=.cells qD) (ex:=ex))
 have hps:qH T p4=[.slice .imm 4 (T.map ZB),.sc (.int .i64 p4.pos),.sc (.int .i64 p4.deep),.sc (.int .i64 p4.bad),.sc (.bool p4.flat),.sc (.int .i64 p4.e)]:=rfl
 have hown:∀ k,(qq (st.length+3) k (n1.addKid u))=[.sc (.int .i64 n1.kind),.sc (.string (ba n1.text)),.sc (.int .i64 n1.num),.sc (.int .i64 n1.pos),.slice .full 0 [],.slice (.own (st.length+3) k) 6 (n1.kids.map zH++[zH u])]:=fun k=>zh4 _ _ _ _
 by_cases k0:t'.kind=0
 ·have c0:(t'.kind != 0)=false:=by simp[k0]
  rw[if_neg (by simp[k0])] at h6
  cases h6
  by_cases e0:p3.e=0
  ·have c1:(p3.e != 0)=false:=by simp[e0]
   simp only[e0,if_true] at hk
   rintro e' env s ⟨rfl,⟨y0,y3,y4,y5,y6,y7,y10,y11,y12,y13,y14,y15,y16,y17,y18,y19,y20,y21,y22,y23,y24,y25,y26,y27,y28,y29,y30,y31,y32,y33,y34,y35,y36,y37,y38,y39,y40,y41,y42,y43,y44,y45,y46,y47,y48,y49,y50,y51,rfl⟩,k,ex,⟨hnm,hkl⟩,rfl⟩
   simp only[go_sem]
   refine qX hT h3 QS fun _=>?_
   simp only[zch]
   unfold qq
   simp only[go_sem]
   refine zO [] [(0,[5]),(0,[5]),(0,[]),(3,[5]),(0,[]),(3,[7]),(0,[]),(1,[8])] Tryz.mixed rfl ?_
   simp only[go_sem,zw,zt,zr,zp,zq,zE,zF,zu,zg]
   refine⟨_,_,he _ _ _ h4 _ _ QS ⟨rfl,rfl⟩,?_⟩
   simp only[go_sem,zw,zt,zr,zp,zq,zE,zF,zu,zg,zch]
   rw[zJ]
   refine⟨.slice .full 6 [zH u],?_,?_⟩
   ·simp only[go_sem]
    exact⟨⟨[],by simp⟩,zY _ _ (.inr rfl) _ [_],.inl rfl⟩
   simp only[go_sem,zw,zt,zr,zp,zq,zE,zF,zu,zg]
   refine⟨_,_,⟨Tryz.app6d (by omega),rfl,rfl⟩,?_⟩
   simp only[go_sem,zch]
   refine qk h5 QS ?_
   rw[hps]
   simp only[go_sem,c0,c1]
   refine⟨by decide,zaW (nd:=n1.addKid u) ?_ hk⟩
   have:=zus (qC:=st.length+3) (ver:=k+1) (nd:=n1.addKid u) (by rw[qm];exact hnm)
   rw[hown] at this
   exact this
  ·have c1:(p3.e != 0)=true:=by simp[e0]
   simp only[e0,if_false] at hk
   rintro e' env s ⟨rfl,⟨y0,y3,y4,y5,y6,y7,y10,y11,y12,y13,y14,y15,y16,y17,y18,y19,y20,y21,y22,y23,y24,y25,y26,y27,y28,y29,y30,y31,y32,y33,y34,y35,y36,y37,y38,y39,y40,y41,y42,y43,y44,y45,y46,y47,y48,y49,y50,y51,rfl⟩,k,ex,⟨hnm,hkl⟩,rfl⟩
   simp only[go_sem]
   refine qX hT h3 QS fun _=>?_
   simp only[zch]
   unfold qq
   simp only[go_sem]
   refine zO [] [(0,[5]),(0,[5]),(0,[]),(3,[5]),(0,[]),(3,[7]),(0,[]),(1,[8])] Tryz.mixed rfl ?_
   simp only[go_sem,zw,zt,zr,zp,zq,zE,zF,zu,zg]
   refine⟨_,_,he _ _ _ h4 _ _ QS ⟨rfl,rfl⟩,?_⟩
   simp only[go_sem,zw,zt,zr,zp,zq,zE,zF,zu,zg,zch]
   rw[zJ]
   refine⟨.slice .full 6 [zH u],?_,?_⟩
   ·simp only[go_sem]
    exact⟨⟨[],by simp⟩,zY _ _ (.inr rfl) _ [_],.inl rfl⟩
   simp only[go_sem,zw,zt,zr,zp,zq,zE,zF,zu,zg]
   refine⟨_,_,⟨Tryz.app6d (by omega),rfl,rfl⟩,?_⟩
   simp only[go_sem,zch]
   refine qk h5 QS ?_
   rw[hps]
   simp only[go_sem,c0,c1]
   refine zO [] [(0,[]),(0,[12]),(0,[12]),(0,[12]),(0,[12]),(0,[12]),(0,[12]),(0,[12]),(0,[12]),(1,[12]),(0,[]),(0,[])] Tryz.mixed rfl ?_
   simp only[go_sem,zw,zt,zr,zp,zq,zE,zF,zu,zg,qD]
   rw[zJ]
   refine⟨.agg qD,?_,?_⟩
   ·simp only[go_sem]
    exact⟨⟨[],by simp⟩,zoU _,.inl rfl⟩
   simp only[go_sem,zw,zt,zr,zp,zq,zE,zF,zu,zg,qD]
   exact zaW zvR hk
 ·have c0:(t'.kind != 0)=true:=by simp[k0]
  rw[if_pos k0] at h6
  have e0:p4.e≠0:=Ys h6 (by decide)
  have c1:(p4.e != 0)=true:=by simp[e0]
  simp only[e0,if_false] at hk
  rintro e' env s ⟨rfl,⟨y0,y3,y4,y5,y6,y7,y10,y11,y12,y13,y14,y15,y16,y17,y18,y19,y20,y21,y22,y23,y24,y25,y26,y27,y28,y29,y30,y31,y32,y33,y34,y35,y36,y37,y38,y39,y40,y41,y42,y43,y44,y45,y46,y47,y48,y49,y50,y51,rfl⟩,k,ex,⟨hnm,hkl⟩,rfl⟩
  simp only[go_sem]
  refine qX hT h3 QS fun _=>?_
  simp only[zch]
  unfold qq
  simp only[go_sem]
  refine zO [] [(0,[5]),(0,[5]),(0,[]),(3,[5]),(0,[]),(3,[7]),(0,[]),(1,[8])] Tryz.mixed rfl ?_
  simp only[go_sem,zw,zt,zr,zp,zq,zE,zF,zu,zg]
  refine⟨_,_,he _ _ _ h4 _ _ QS ⟨rfl,rfl⟩,?_⟩
  simp only[go_sem,zw,zt,zr,zp,zq,zE,zF,zu,zg,zch]
  rw[zJ]
  refine⟨.slice .full 6 [zH u],?_,?_⟩
  ·simp only[go_sem]
   exact⟨⟨[],by simp⟩,zY _ _ (.inr rfl) _ [_],.inl rfl⟩
  simp only[go_sem,zw,zt,zr,zp,zq,zE,zF,zu,zg]
  refine⟨_,_,⟨Tryz.app6d (by omega),rfl,rfl⟩,?_⟩
  simp only[go_sem,zch]
  refine qk h5 QS ?_
  simp only[go_sem,c0]
  refine Z7 h6 QS fun _=>?_
  simp only[zch]
  rw[hps]
  simp only[go_sem,c1]
  refine zO [] [(0,[]),(0,[12]),(0,[12]),(0,[12]),(0,[12]),(0,[12]),(0,[12]),(0,[12]),(0,[12]),(1,[12]),(0,[]),(0,[])] Tryz.mixed rfl ?_
  simp only[go_sem,zw,zt,zr,zp,zq,zE,zF,zu,zg,qD]
  rw[zJ]
  refine⟨.agg qD,?_,?_⟩
  ·simp only[go_sem]
   exact⟨⟨[],by simp⟩,zoU _,.inl rfl⟩
  simp only[go_sem,zw,zt,zr,zp,zq,zE,zF,zu,zg,qD]
  exact zaW zvR hk
end Go.Proofs
namespace Go.Proofs
open Go Go.AL
theorem JB {s:Tx} {n:Nd} {a e:Int} (h:qP s=some (n,a,e)) (hz:s.length≤100000) {K:SV→St→Prop} {st:St} (hk:K (.tuple [zH n,.sc (.int .i64 a),.sc (.int .i64 e)]) st):ACalls Tryz.prog 10 [.sc (.string (ba s))] K st:=by
 rcases zi6 h with⟨b,hl,rfl,rfl,he⟩ | ⟨T,hl,hT,hp⟩
 ·refine zqq he (fun K st h=>?_) hk
  refine zgZ hz ?_
  rw[hl];exact h
 ·unfold zdY at hp
  simp only[Option.map_eq_some_iff,Prod.exists] at hp
  obtain⟨nd,q,hq,hr⟩:=hp
  have hT':T.length≤100000:=by omega
  refine zpC hT' (fun K st h=>?_) (zv9 hT' 42) (zy5 hT' 42) hq ?_
  ·refine zgZ hz ?_
   rw[hl];exact h
  ·by_cases z:q.e=0
   ·rw[if_pos z] at hr
    cases hr
    rw[if_pos z,if_pos z,z];exact hk
   ·rw[if_neg z] at hr
    cases hr
    rw[if_neg z,if_neg z];exact hk
end Go.Proofs
