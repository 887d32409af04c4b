/- The document's parser: decl. Written by gen_w69.py. -/
import Derived.Test.YtkokccjfpebomaaGreatDoorW68
set_option maxHeartbeats 4000000
set_option linter.unusedSimpArgs false
set_option linter.unusedVariables false
set_option maxRecDepth 8000
namespace Go.AL
variable {T:List Tk} {pid:Nat} {st:St} {p q:PS}
theorem zo4 (n:Nd) (c:Tx):(n.addName c).kind=n.kind:=by cases n;rfl
theorem zop (n:Nd) (c:Tx):(n.addName c).text=n.text:=by cases n;rfl
theorem zrC (n:Nd) (c:Tx):(n.addName c).num=n.num:=by cases n;rfl
theorem zr8 (n:Nd) (c:Tx):(n.addName c).pos=n.pos:=by cases n;rfl
theorem zgP (n:Nd) (c:Tx):(n.addName c).names=n.names++[c]:=by cases n;rfl
theorem zoJ (n:Nd) (c:Tx):(n.addName c).kids=n.kids:=by cases n;rfl
def zrG (nid nver aid aver:Nat) (n:Nd):List SV:=[.sc (.int .i64 n.kind),.sc (.string (ba n.text)),.sc (.int .i64 n.num),.sc (.int .i64 n.pos),.slice (.own nid nver) 1 (n.names.map qv),.arr aid aver n.kids.length]
theorem zgq (l:List Nd):(l.flatMap zy).length=l.length*6:=by
 induction l with
 | nil=>rfl
 | cons a r ih=>rw[List.flatMap_cons,List.length_append,ih,List.length_cons];simp only[zy,List.length_cons,List.length_nil];omega
theorem zds {nd:Nd} {K:SV→St→Prop} {nid nver aid ver:Nat} {cs:List SV} {ex s:St} (hk:K (zH nd) (st.set pid (.cells (qH T p)))) (hs:s=st.set pid (.cells (qH T p))++ex) (hid:s[aid]?=some (.arr ver 6 cs)) (hlen:st.length≤aid) (hcs:cs=nd.kids.flatMap zy) :
  zkc (Yd st (LeK K)) (.agg (zrG nid nver aid ver nd)) s:=by
 have hfl:(nd.kids.map zH).flatMap SV.cells=nd.kids.flatMap zy:=by
  rw[List.flatMap_map];exact congrArg (fun f=>nd.kids.flatMap f) (funext fun c=>zc c)
 refine⟨[.sc (.int .i64 nd.kind),.sc (.string (ba nd.text)),.sc (.int .i64 nd.num),.sc (.int .i64 nd.pos),.slice (.own nid nver) 1 (nd.names.map qv)],aid,ver,_,6,nd.kids.map zH,cs,rfl,hid,?_,by simp,?_,?_⟩
 ·rw[hcs,hfl]
  exact List.take_of_length_le (Nat.le_of_eq (zgq _))
 ·intro x hx
  obtain⟨c,_,rfl⟩:=List.mem_map.1 hx
  exact zk0 c
 ·subst hs
  rw[List.set_append_right _ _ (by simpa using hlen)]
  exact QU (T:=T) (pid:=pid) (m1 :=.own nid nver) (m2 :=.imm) (z1:=1) (z2:=6) hk (.inl rfl) (.inl rfl) (ex:=ex.set (aid-(st.set pid (.cells (qH T p))).length) (.arr (ver+1) 6 []))
theorem zpt (hp:Yx T pid p st) {X a:Ob} {ex:St} {l:List SV} {k:Nat} (hk:k=st.length+ex.length):S2 T pid k l q (st.set pid X++(ex++[a]))=st.set pid (.cells (qH T q))++(ex++[.cells l]):=by
 subst hk
 unfold S2
 rw[Qi,Q1 hp,List.set_append_right _ _ (Nat.le_refl _),Nat.sub_self]
 rfl
end Go.AL
namespace Go.Proofs
open Go Go.AL
theorem Tryz.app1d {n:Nat} (h:n≤1000000):AppOk Tryz.prog 23 23 1 n:=Jj Tryz.aelem23 Tryz.aelem23 Tryz.asize9 Tryz.azero9 rfl Tryz.abytes9 (by omega) h
theorem zgz (T:List Tk) (hT:T.length≤100000) {pid:Nat} {e:PM Nd} (he:DC T pid 24 e) {nd:Nd} {p p':PS} {x:Tx} {rc:Bool} {v:Nd} (h:J0 T e p=some ((x,rc,v),p')) {K:SV→St→Prop} {st:St} {p0:PS} (hp:Yx T pid p0 st) (a b:Ob) {k:Nat} (hk':k=st.length+2)
  (hk:K (.sc (.bool rc)) (st.set pid (.cells (qH T p'))++[a,b,.cells (YT (.mk nd.kind x nd.num nd.pos [] []) (.arr (st.length+3) 1 1)),.arr 1 6 (zy v)])) :
  ACalls Tryz.prog 37 [.ptr pid 0,.ptr k 0] K (st.set pid (.cells (qH T p))++[a,b,.cells (YT nd (.slice .full 0 []))]):=by
 subst hk'
 have hlt:=zn hp
 refine zji T hT (by omega) he h (zx hp) (qY 2) ?_
 rw[show ([a,b,.cells (YT nd (.slice .full 0 []))]:St)=[a,b]++[.cells (YT nd (.slice .full 0 []))] from rfl,zpt (ex:=[a,b]) (k:=st.length+2) hp rfl]
 simpa using hk
def TyQ (T:List Tk) (pid:Nat) (st:St) (p4:PS) (n1:Nd) (e:Exit) (env:List SV) (s:St):Prop:=e = .exit 0∧(∃ y3 y4 y6 y9 y10 y11 y12 y13 y14 y15 y16 y17 y18 y19 y20 y21 y22 y23 y24 y25 y26 y27 y28 y29 y30 y31 y32 y33 y34 y35 y36 y37 y38,env=[.ptr pid 0,.any,.ptr st.length 0,y3,y4,.ptr (st.length+2) 0,y6,.any,.any,y9,y10,y11,y12,y13,y14,y15,y16,y17,y18,y19,y20,y21,y22,y23,y24,y25,y26,y27,y28,y29,y30,y31,y32,y33,y34,y35,y36,y37,y38,.any,.any,.any,.any,.any,.any,.any,.any,.any,.any,.any,.any,.any,.any,.any,.any,.any,.any,.any,.any,.any,.any,.any,.any,.any,.any,.any,.any,.any,.any,.any,.any,.any,.any,.any,.any,.any,.any,.any,.any,.any,.any,.any,.any])∧∃ (kv:Nat) (b4:Ob) (ex:St),(n1.names.length≤T.length+2∧n1.kids=[])∧s=st.set pid (.cells (qH T p4))++(.cells qD::b4 :: .cells [.sc (.int .i64 n1.kind),.sc (.string (ba n1.text)),.sc (.int .i64 n1.num),.sc (.int .i64 n1.pos),.slice (.own (st.length+3) kv) 1 (n1.names.map qv),.arr (st.length+4) 0 0] :: .tok kv :: .arr 0 6 []::ex)
theorem zqv {T:List Tk} (hT:T.length≤100000) {pid:Nat} {e ty:PM Nd} (he:DC T pid 24 e) (hc:DC T pid 36 (zje T ty)) {p p':PS} {r:Nd}
  (hb:Y1 T [116,121,112,101] p=some false) (h:((Zp T p).bind fun r=>((J0 T e { r.2 with flat:=true }).map fun q=>(zR (if q.1.2.1 then 29 else 28) r.1.pos q.1.1 [q.1.2.2],{ q.2 with flat:=false })).bind fun u=>(qF T [59] u.2).map fun p1=>(u.1,p1))=some (r,p')) {K:SV→St→Prop} {st:St} (hp:Yx T pid p st) (hk:K (zH r) (st.set pid (.cells (qH T p')))):ACalls Tryz.prog 22 [.ptr pid 0] K st:=by
 refine zK (XY (XF (Qe (M:=[1000061]) Tryz.func22 rfl Tryz.results22 Tryz.ntmps22 ?_)))
 simp only[Option.bind_eq_some_iff,Option.map_eq_some_iff,Prod.exists,Prod.mk.injEq] at h
 obtain⟨u,p1,h1,n1,p2,⟨x,rc,v,p3,h3,rfl,rfl⟩,p4,h4,rfl,rfl⟩:=h
 have y1:=zT (XP (p':=p1) hp)
 unfold qH at y1
 have y3:=zT (XP (p':=p3) hp)
 unfold qH at y3
 cases rc with
 | true =>
  simp only[go_sem]
  refine QN hb (zD hp) ?_
  simp only[go_sem]
  refine qL hT h1 (zD hp) ?_
  unfold qH
  simp only[go_sem,za hp,y1.1,y1.2.1,y1.2.2]
  refine zgz T hT he (nd :=.mk 28 [] 0 u.pos [] []) (p:={ p1 with flat:=true }) h3 hp _ _ rfl ?_
  unfold YT qH
  simp only[go_sem,za hp,y3.1,y3.2.1,y3.2.2]
  refine qX hT h4 (zx (p':={ p3 with flat:=false }) hp) fun _=>?_
  simp only[go_sem,za hp]
  refine YI (nd:=zR 29 u.pos x [v]) (aid:=st.length+3) hk rfl ?_ (by omega) rfl rfl rfl
  exact (qY 3).trans rfl
 | false =>
  simp only[go_sem]
  refine QN hb (zD hp) ?_
  simp only[go_sem]
  refine qL hT h1 (zD hp) ?_
  unfold qH
  simp only[go_sem,za hp,y1.1,y1.2.1,y1.2.2]
  refine zgz T hT he (nd :=.mk 28 [] 0 u.pos [] []) (p:={ p1 with flat:=true }) h3 hp _ _ rfl ?_
  unfold YT qH
  simp only[go_sem,za hp,y3.1,y3.2.1,y3.2.2]
  refine qX hT h4 (zx (p':={ p3 with flat:=false }) hp) fun _=>?_
  simp only[go_sem,za hp]
  refine YI (nd:=zR 28 u.pos x [v]) (aid:=st.length+3) hk rfl ?_ (by omega) rfl rfl rfl
  exact (qY 3).trans rfl
theorem zqf {T:List Tk} (hT:T.length≤100000) {pid:Nat} {e ty:PM Nd} (he:DC T pid 24 e) (hc:DC T pid 36 (zje T ty)) {p p':PS} {r:Nd}
  (hb:Y1 T [116,121,112,101] p=some true) (h:((Zp T p).bind fun r=>(zlQ T ty r.1.pos r.2).bind fun u=>(qF T [59] u.2).map fun p1=>(u.1,p1))=some (r,p')) {K:SV→St→Prop} {st:St} (hp:Yx T pid p st) (hk:K (zH r) (st.set pid (.cells (qH T p')))):ACalls Tryz.prog 22 [.ptr pid 0] K st:=by
 refine zK (XY (XF (Qe (M:=[1000061]) Tryz.func22 rfl Tryz.results22 Tryz.ntmps22 ?_)))
 unfold zlQ at h
 simp only[Option.bind_eq_some_iff,Option.map_eq_some_iff,Prod.exists,Prod.mk.injEq] at h
 obtain⟨u,p1,h1,n2,p2,⟨x0,p3,h3,n1,p4,hL1,p5,h5,hL2⟩,p6,h6,rfl,rfl⟩:=h
 simp only[go_sem]
 refine QN hb (zD hp) ?_
 simp only[go_sem]
 refine qL hT h1 (zD hp) ?_
 simp only[go_sem,za hp]
 refine Jc hT (by decide) h3 (zx hp) ?_
 simp only[go_sem,za hp]
 refine ZU (st.length+2) 4 1 0 (qY 2) (by simp) rfl ?_
 rw[Qi]
 simp only[List.length_append,Q9,List.length_cons,List.length_nil,List.set_cons_succ,List.set_cons_zero,List.append_assoc,List.cons_append,List.nil_append,Nat.zero_add,Nat.reduceAdd]
 refine zoM (st.length+2) 5 6 0 (qY 2) (by simp) rfl ?_
 rw[Qi]
 simp only[List.length_append,Q9,List.length_cons,List.length_nil,List.set_cons_succ,List.set_cons_zero,List.append_assoc,List.cons_append,List.nil_append,Nat.zero_add,Nat.reduceAdd]
 refine AWp.mono (Q:=TyQ T pid st p4 n1) ?_ ?_
 ·refine zM [] (fun m env s=>∃ (nd:Nd) (q:PS) (kv:Nat) (b4:Ob) (ex:St),zaI T m nd q=some (n1,p4)∧m+nd.names.length≤T.length+2∧nd.kids=[]∧env=[.ptr pid 0,.any,.ptr st.length 0,.any,.any,.ptr (st.length+2) 0,.any,.any,.any,.any,.any,.any,.any,.any,.any,.any,.any,.any,.any,.any,.any,.any,.any,.any,.any,.any,.any,.any,.any,.any,.any,.any,.any,.any,.any,.any,.any,.any,.any,.any,.any,.any,.any,.any,.any,.any,.any,.any,.any,.any,.any,.any,.any,.any,.any,.any,.any,.any,.any,.any,.any,.any,.any,.any,.any,.any,.any,.any,.any,.any,.any,.any,.any,.any,.any,.any,.any,.any,.any,.any,.any,.any,.any] ∧
   s=st.set pid (.cells (qH T q))++(.cells qD::b4 :: .cells [.sc (.int .i64 nd.kind),.sc (.string (ba nd.text)),.sc (.int .i64 nd.num),.sc (.int .i64 nd.pos),.slice (.own (st.length+3) kv) 1 (nd.names.map qv),.arr (st.length+4) 0 0] :: .tok kv :: .arr 0 6 []::ex)) (n:=T.length+2) ?_ ⟨_,_,0,_,[],hL1,by simp[zR,Nd.names],rfl,rfl,rfl⟩ ?_
  ·repeat (first | exact zi | refine zh _ ?_ | refine zf _ ?_ | refine ze _ ?_)
  rintro m env s ⟨nd,q,kv,b4,ex,hl,hm,hkd,rfl,rfl⟩
  cases m with
  | zero=>cases hl
  | succ m =>
  unfold zaI at hl
  rw[Option.bind_eq_some_iff] at hl
  obtain⟨t,ht,hl⟩:=hl
  by_cases c3:t.kind=3
  ·have d3:(t.kind==3)=true:=by simp[c3]
   rw[if_pos c3] at hl
   by_cases c4:nd.names.length=4
   ·have l1:((nd.names.length:Int)==4)=true:=by simp[c4]
    rw[if_pos c4,Option.map_eq_some_iff] at hl
    obtain⟨q1,c5,hl⟩:=hl
    cases hl
    simp only[go_sem]
    refine qk ht (zx hp) ?_
    simp only[go_sem,d3,List.length_map,l1]
    refine Z7 c5 (zx hp) fun _=>?_
    simp only[go_sem,za hp]
    exact⟨rfl,⟨_,_,_,_,_,_,_,_,_,_,_,_,_,_,_,_,_,_,_,_,_,_,_,_,_,_,_,_,_,_,_,_,_,rfl⟩,_,_,_,⟨by omega,hkd⟩,rfl⟩
   ·have l1:((nd.names.length:Int)==4)=false:=by simp;omega
    rw[if_neg c4,Option.bind_eq_some_iff] at hl
    obtain⟨⟨w,q1⟩,c5,hl⟩:=hl
    simp only[go_sem]
    refine qk ht (zx hp) ?_
    simp only[go_sem,d3,List.length_map,l1]
    refine qL hT c5 (zx hp) ?_
    simp only[go_sem,za hp]
    refine⟨Tryz.app1d (by omega),m,_,by omega,?_,nd.addName w.text,q1,kv+1,b4,_,hl,by rw[zgP];simp;omega,by rw[zoJ];exact hkd,rfl,by rw[zo4,zop,zrC,zr8,zgP,List.map_append];rfl⟩
    repeat (first | exact zi | refine zh _ ?_ | refine zf _ ?_ | refine ze _ ?_)
  ·have d3:(t.kind==3)=false:=by simp[c3]
   rw[if_neg c3] at hl
   cases hl
   simp only[go_sem]
   refine qk ht (zx hp) ?_
   simp only[go_sem,d3]
   exact⟨rfl,⟨_,_,_,_,_,_,_,_,_,_,_,_,_,_,_,_,_,_,_,_,_,_,_,_,_,_,_,_,_,_,_,_,_,rfl⟩,_,_,_,⟨by omega,hkd⟩,rfl⟩
 rintro e env s ⟨rfl,⟨y3,y4,y6,y9,y10,y11,y12,y13,y14,y15,y16,y17,y18,y19,y20,y21,y22,y23,y24,y25,y26,y27,y28,y29,y30,y31,y32,y33,y34,y35,y36,y37,y38,rfl⟩,kv,b4,ex,⟨hn1,hkd⟩,rfl⟩
 simp only[go_sem]
 refine qX hT h5 (zx hp) fun _=>?_
 simp only[go_sem,za hp]
 refine zM [] (fun m env s=>∃ (nd:Nd) (q:PS) (av:Nat) (more:Bool) (b4:Ob) (ex:St),zdc T ty m more nd q=some (n2,p2)∧m+nd.kids.length≤T.length+2∧nd.names.length≤T.length+2∧env=[.ptr pid 0,.any,.ptr st.length 0,.any,.any,.ptr (st.length+2) 0,.any,.sc (.bool more),.any,.any,.any,.any,.any,.any,.any,.any,.any,.any,.any,.any,.any,.any,.any,.any,.any,.any,.any,.any,.any,.any,.any,.any,.any,.any,.any,.any,.any,.any,.any,.any,.any,.any,.any,.any,.any,.any,.any,.any,.any,.any,.any,.any,.any,.any,.any,.any,.any,.any,.any,.any,.any,.any,.any,.any,.any,.any,.any,.any,.any,.any,.any,.any,.any,.any,.any,.any,.any,.any,.any,.any,.any,.any,.any] ∧
  s=st.set pid (.cells (qH T q))++(.cells qD::b4 :: .cells (zrG (st.length+3) kv (st.length+4) av nd) :: .tok kv :: .arr av 6 (nd.kids.flatMap zy)::ex)) (n:=T.length+2) ?_ ⟨n1,_,0,true,b4,ex,hL2,by rw[hkd];simp,hn1,rfl,by unfold zrG;rw[hkd];rfl⟩ ?_
 ·repeat (first | exact zi | refine zh _ ?_ | refine zf _ ?_ | refine ze _ ?_)
 rintro m env s ⟨nd,q,av,more,b4,ex,hl,hm,hnl,rfl,rfl⟩
 cases m with
 | zero=>cases hl
 | succ m =>
 unfold zdc at hl
 have y:=zT (XP (p':=q) hp)
 unfold qH at y
 unfold zrG
 by_cases c0:more=true∧q.e=0
 rotate_left
 ·rw[if_neg c0] at hl
  cases hl
  cases more with
  | false =>
   simp only[go_sem]
   refine qX hT h6 (zx hp) fun _=>?_
   simp only[go_sem,za hp]
   refine⟨by decide,zds (nd:=n2) (nid:=st.length+3) (aid:=st.length+4) hk rfl ?_ (by omega) rfl⟩
   exact (qY 4).trans rfl
  | true =>
   have c1:(p2.e==0)=false:=by simpa using fun z=>c0 ⟨rfl,z⟩
   unfold qH
   simp only[go_sem,y.1,y.2.1,y.2.2,c1,za hp]
   refine qX hT h6 (zx hp) fun _=>?_
   simp only[go_sem,za hp]
   refine⟨by decide,zds (nd:=n2) (nid:=st.length+3) (aid:=st.length+4) hk rfl ?_ (by omega) rfl⟩
   exact (qY 4).trans rfl
 rw[if_pos c0] at hl
 obtain⟨rfl,c0⟩:=c0
 have c1:(q.e==0)=true:=by simp[c0]
 simp only[Option.bind_eq_some_iff,Prod.exists] at hl
 obtain⟨q1,d1,x,q2,d2,b,q3,d3,hl⟩:=hl
 obtain⟨t2,g1,g2,g3,g4,g5⟩:=VT d3
 have hln:=zgq nd.kids
 have htk:(nd.kids.flatMap zy).take (nd.kids.length*6)=nd.kids.flatMap zy:=List.take_of_length_le (by omega)
 have ht1:(nd.kids.flatMap zy++zW).take (nd.kids.length*6)=nd.kids.flatMap zy:=by rw[←hln];exact List.take_left
 have hd1:(nd.kids.flatMap zy++zW).drop (nd.kids.length*6+6)=[]:=List.drop_eq_nil_of_le (by rw[List.length_append,hln];simp[zW])
 have hlt:(nd.kids.length:Int)<((nd.kids.length+1:Nat):Int):=by omega
 have hfin:(nd.addKid x).kids.flatMap zy=nd.kids.flatMap zy++zy x:=by rw[z8];simp
 by_cases l20:nd.kids.length=20
 ·have l1:((nd.kids.length:Int)==20)=true:=by simp[l20]
  unfold zck at d1
  rw[if_pos l20] at d1
  cases b with
  | false =>
   obtain rfl:=g5 rfl
   unfold qH
   simp only[go_sem,y.1,y.2.1,y.2.2,c1,za hp,l1]
   refine Z7 d1 (zx hp) fun _=>?_
   simp only[go_sem,za hp]
   refine qI [1000061] [3,6,8,10] [([],st.set pid (.cells (qH T q1))++(.cells qD::b4 :: .cells [.sc (.int .i64 nd.kind),.sc (.string (ba nd.text)),.sc (.int .i64 nd.num),.sc (.int .i64 nd.pos),.slice (.own (st.length+3) kv) 1 (nd.names.map qv),.arr (st.length+4) av nd.kids.length] :: .tok kv :: .arr av 6 (nd.kids.flatMap zy)::ex)),([3],st.set pid (.cells (qH T q3))++(.cells qD::b4 :: .cells [.sc (.int .i64 nd.kind),.sc (.string (ba nd.text)),.sc (.int .i64 nd.num),.sc (.int .i64 nd.pos),.slice (.own (st.length+3) kv) 1 (nd.names.map qv),.arr (st.length+4) av nd.kids.length] :: .tok kv :: .arr av 6 (nd.kids.flatMap zy)::ex)),([3,6],st.set pid (.cells (qH T q3))++(.cells qD::b4 :: .cells [.sc (.int .i64 nd.kind),.sc (.string (ba nd.text)),.sc (.int .i64 nd.num),.sc (.int .i64 nd.pos),.slice (.own (st.length+3) kv) 1 (nd.names.map qv),.arr (st.length+4) av nd.kids.length] :: .tok kv :: .arr (av+1) 6 (nd.kids.flatMap zy++zW)::ex)),
    ([3,6,8],st.set pid (.cells (qH T q3))++(.cells qD::b4 :: .cells [.sc (.int .i64 nd.kind),.sc (.string (ba nd.text)),.sc (.int .i64 nd.num),.sc (.int .i64 nd.pos),.slice (.own (st.length+3) kv) 1 (nd.names.map qv),.arr (st.length+4) av nd.kids.length] :: .tok kv :: .arr (av+1) 6 (nd.kids.flatMap zy++zy x)::ex)),([3,6,10],st.set pid (.cells (qH T q3))++(.cells qD::b4 :: .cells [.sc (.int .i64 nd.kind),.sc (.string (ba nd.text)),.sc (.int .i64 nd.num),.sc (.int .i64 nd.pos),.slice (.own (st.length+3) kv) 1 (nd.names.map qv),.arr (st.length+4) (av+1) (nd.kids.length+1)] :: .tok kv :: .arr (av+1) 6 (nd.kids.flatMap zy++zW)::ex)),([3,6,8,10],st.set pid (.cells (qH T q3))++(.cells qD::b4 :: .cells [.sc (.int .i64 nd.kind),.sc (.string (ba nd.text)),.sc (.int .i64 nd.num),.sc (.int .i64 nd.pos),.slice (.own (st.length+3) kv) 1 (nd.names.map qv),.arr (st.length+4) (av+1) (nd.kids.length+1)] :: .tok kv :: .arr (av+1) 6 (nd.kids.flatMap zy++zy x)::ex))]
    [[[],[3]],[[],[3]],[[]],[[]],[[],[3]],[[],[3]],[[3]],[[3,6],[3,6,10]],[[3,6],[3,6,10]],[[3,6],[3,6,8]],[[3,6],[3,6,8]]] Tryz.mixed rfl rfl rfl rfl rfl ?_
   refine zV rfl (.ptr (st.length+2) 5) (by simp only[go_sem]) (by simp only[go_sem]) ?_
   refine zV rfl (.arr (st.length+4) av nd.kids.length) (by simp only[go_sem]) (by simp only[go_sem]) ?_
   refine Zl rfl (.ptr pid 0) (by simp only[go_sem]) ?_
   refine Zy (d:=[3]) rfl rfl (zH x) rfl ?_ ?_
   ·simp only[go_sem]
    exact hc _ _ _ d2 _ _ (zx hp) ⟨rfl,Q1 hp⟩
   refine zV rfl (.sc (.int .i64 nd.kids.length)) (by simp only[go_sem]) (by simp only[go_sem]) ?_
   refine zV rfl (.slice .full 6 [.agg zW]) ?_ ?_ ?_
   ·simp only[go_sem]
    refine⟨_,?_,rfl⟩
    simp only[go_sem]
    exact⟨⟨[],by simp⟩,ZC _,.inl rfl⟩
   ·simp only[go_sem]
    refine⟨_,?_,rfl⟩
    simp only[go_sem]
    exact⟨⟨[],by simp⟩,ZC _,.inl rfl⟩
   refine Zy (d:=[3,6]) rfl rfl (.arr (st.length+4) (av+1) (nd.kids.length+1)) rfl ?_ ?_
   ·simp only[go_sem,htk,ht1,hd1,hlt]
    exact⟨Tryz.app6d (by omega),rfl,rfl⟩
   refine zV rfl (.aptr (st.length+4) (av+1) (nd.kids.length*6)) ?_ ?_ ?_
   ·simp only[go_sem,htk,ht1,hd1,hlt]
   ·simp only[go_sem,htk,ht1,hd1,hlt]
   refine Z8 (d:=[3,6,8]) (d2:=[3,6,8,10]) rfl rfl rfl .any rfl ?_ ?_ ?_
   ·simp only[go_sem,zc,htk,ht1,hd1,hlt]
    exact⟨by rw[hln];exact Nat.le_refl _,rfl⟩
   ·simp only[go_sem,zc,htk,ht1,hd1,hlt]
    exact⟨by rw[hln];exact Nat.le_refl _,rfl⟩
   refine zV rfl (.ptr (st.length+2) 5) (by simp only[go_sem]) (by simp only[go_sem]) ?_
   refine Z8 (d:=[3,6,10]) (d2:=[3,6,8,10]) rfl rfl rfl .any rfl ?_ ?_ ?_
   ·simp only[go_sem]
   ·simp only[go_sem]
   refine ZZ ?_
   simp only[go_sem]
   refine QN g3 (zx hp) ?_
   simp only[go_sem,za hp]
   refine⟨m,_,by omega,?_,nd.addKid x,q3,av+1,false,b4,ex,hl,by rw[z8];simp;omega,by rw[qm];exact hnl,rfl,by rw[hfin];rw[qM,qO,Zf,Zg,qm,z8,List.length_append];rfl⟩
   repeat (first | exact zi | refine zh _ ?_ | refine zf _ ?_ | refine ze _ ?_)
  | true =>
   unfold qH
   simp only[go_sem,y.1,y.2.1,y.2.2,c1,za hp,l1]
   refine Z7 d1 (zx hp) fun _=>?_
   simp only[go_sem,za hp]
   refine qI [1000061] [3,6,8,10] [([],st.set pid (.cells (qH T q1))++(.cells qD::b4 :: .cells [.sc (.int .i64 nd.kind),.sc (.string (ba nd.text)),.sc (.int .i64 nd.num),.sc (.int .i64 nd.pos),.slice (.own (st.length+3) kv) 1 (nd.names.map qv),.arr (st.length+4) av nd.kids.length] :: .tok kv :: .arr av 6 (nd.kids.flatMap zy)::ex)),([3],st.set pid (.cells (qH T q2))++(.cells qD::b4 :: .cells [.sc (.int .i64 nd.kind),.sc (.string (ba nd.text)),.sc (.int .i64 nd.num),.sc (.int .i64 nd.pos),.slice (.own (st.length+3) kv) 1 (nd.names.map qv),.arr (st.length+4) av nd.kids.length] :: .tok kv :: .arr av 6 (nd.kids.flatMap zy)::ex)),([3,6],st.set pid (.cells (qH T q2))++(.cells qD::b4 :: .cells [.sc (.int .i64 nd.kind),.sc (.string (ba nd.text)),.sc (.int .i64 nd.num),.sc (.int .i64 nd.pos),.slice (.own (st.length+3) kv) 1 (nd.names.map qv),.arr (st.length+4) av nd.kids.length] :: .tok kv :: .arr (av+1) 6 (nd.kids.flatMap zy++zW)::ex)),
    ([3,6,8],st.set pid (.cells (qH T q2))++(.cells qD::b4 :: .cells [.sc (.int .i64 nd.kind),.sc (.string (ba nd.text)),.sc (.int .i64 nd.num),.sc (.int .i64 nd.pos),.slice (.own (st.length+3) kv) 1 (nd.names.map qv),.arr (st.length+4) av nd.kids.length] :: .tok kv :: .arr (av+1) 6 (nd.kids.flatMap zy++zy x)::ex)),([3,6,10],st.set pid (.cells (qH T q2))++(.cells qD::b4 :: .cells [.sc (.int .i64 nd.kind),.sc (.string (ba nd.text)),.sc (.int .i64 nd.num),.sc (.int .i64 nd.pos),.slice (.own (st.length+3) kv) 1 (nd.names.map qv),.arr (st.length+4) (av+1) (nd.kids.length+1)] :: .tok kv :: .arr (av+1) 6 (nd.kids.flatMap zy++zW)::ex)),([3,6,8,10],st.set pid (.cells (qH T q2))++(.cells qD::b4 :: .cells [.sc (.int .i64 nd.kind),.sc (.string (ba nd.text)),.sc (.int .i64 nd.num),.sc (.int .i64 nd.pos),.slice (.own (st.length+3) kv) 1 (nd.names.map qv),.arr (st.length+4) (av+1) (nd.kids.length+1)] :: .tok kv :: .arr (av+1) 6 (nd.kids.flatMap zy++zy x)::ex))]
    [[[],[3]],[[],[3]],[[]],[[]],[[],[3]],[[],[3]],[[3]],[[3,6],[3,6,10]],[[3,6],[3,6,10]],[[3,6],[3,6,8]],[[3,6],[3,6,8]]] Tryz.mixed rfl rfl rfl rfl rfl ?_
   refine zV rfl (.ptr (st.length+2) 5) (by simp only[go_sem]) (by simp only[go_sem]) ?_
   refine zV rfl (.arr (st.length+4) av nd.kids.length) (by simp only[go_sem]) (by simp only[go_sem]) ?_
   refine Zl rfl (.ptr pid 0) (by simp only[go_sem]) ?_
   refine Zy (d:=[3]) rfl rfl (zH x) rfl ?_ ?_
   ·simp only[go_sem]
    exact hc _ _ _ d2 _ _ (zx hp) ⟨rfl,Q1 hp⟩
   refine zV rfl (.sc (.int .i64 nd.kids.length)) (by simp only[go_sem]) (by simp only[go_sem]) ?_
   refine zV rfl (.slice .full 6 [.agg zW]) ?_ ?_ ?_
   ·simp only[go_sem]
    refine⟨_,?_,rfl⟩
    simp only[go_sem]
    exact⟨⟨[],by simp⟩,ZC _,.inl rfl⟩
   ·simp only[go_sem]
    refine⟨_,?_,rfl⟩
    simp only[go_sem]
    exact⟨⟨[],by simp⟩,ZC _,.inl rfl⟩
   refine Zy (d:=[3,6]) rfl rfl (.arr (st.length+4) (av+1) (nd.kids.length+1)) rfl ?_ ?_
   ·simp only[go_sem,htk,ht1,hd1,hlt]
    exact⟨Tryz.app6d (by omega),rfl,rfl⟩
   refine zV rfl (.aptr (st.length+4) (av+1) (nd.kids.length*6)) ?_ ?_ ?_
   ·simp only[go_sem,htk,ht1,hd1,hlt]
   ·simp only[go_sem,htk,ht1,hd1,hlt]
   refine Z8 (d:=[3,6,8]) (d2:=[3,6,8,10]) rfl rfl rfl .any rfl ?_ ?_ ?_
   ·simp only[go_sem,zc,htk,ht1,hd1,hlt]
    exact⟨by rw[hln];exact Nat.le_refl _,rfl⟩
   ·simp only[go_sem,zc,htk,ht1,hd1,hlt]
    exact⟨by rw[hln];exact Nat.le_refl _,rfl⟩
   refine zV rfl (.ptr (st.length+2) 5) (by simp only[go_sem]) (by simp only[go_sem]) ?_
   refine Z8 (d:=[3,6,10]) (d2:=[3,6,8,10]) rfl rfl rfl .any rfl ?_ ?_ ?_
   ·simp only[go_sem]
   ·simp only[go_sem]
   refine ZZ ?_
   simp only[go_sem]
   refine QN g3 (zx hp) ?_
   simp only[go_sem,za hp]
   refine qL hT (g4 rfl).1 (zx hp) ?_
   simp only[go_sem,za hp]
   refine⟨m,_,by omega,?_,nd.addKid x,q3,av+1,true,b4,ex,hl,by rw[z8];simp;omega,by rw[qm];exact hnl,rfl,by rw[hfin];rw[qM,qO,Zf,Zg,qm,z8,List.length_append];rfl⟩
   repeat (first | exact zi | refine zh _ ?_ | refine zf _ ?_ | refine ze _ ?_)
 ·have l1:((nd.kids.length:Int)==20)=false:=by simp;omega
  unfold zck at d1
  rw[if_neg l20] at d1
  cases d1
  cases b with
  | false =>
   obtain rfl:=g5 rfl
   unfold qH
   simp only[go_sem,y.1,y.2.1,y.2.2,c1,za hp,l1]
   refine qI [1000061] [3,6,8,10] [([],st.set pid (.cells (qH T q))++(.cells qD::b4 :: .cells [.sc (.int .i64 nd.kind),.sc (.string (ba nd.text)),.sc (.int .i64 nd.num),.sc (.int .i64 nd.pos),.slice (.own (st.length+3) kv) 1 (nd.names.map qv),.arr (st.length+4) av nd.kids.length] :: .tok kv :: .arr av 6 (nd.kids.flatMap zy)::ex)),([3],st.set pid (.cells (qH T q3))++(.cells qD::b4 :: .cells [.sc (.int .i64 nd.kind),.sc (.string (ba nd.text)),.sc (.int .i64 nd.num),.sc (.int .i64 nd.pos),.slice (.own (st.length+3) kv) 1 (nd.names.map qv),.arr (st.length+4) av nd.kids.length] :: .tok kv :: .arr av 6 (nd.kids.flatMap zy)::ex)),([3,6],st.set pid (.cells (qH T q3))++(.cells qD::b4 :: .cells [.sc (.int .i64 nd.kind),.sc (.string (ba nd.text)),.sc (.int .i64 nd.num),.sc (.int .i64 nd.pos),.slice (.own (st.length+3) kv) 1 (nd.names.map qv),.arr (st.length+4) av nd.kids.length] :: .tok kv :: .arr (av+1) 6 (nd.kids.flatMap zy++zW)::ex)),
    ([3,6,8],st.set pid (.cells (qH T q3))++(.cells qD::b4 :: .cells [.sc (.int .i64 nd.kind),.sc (.string (ba nd.text)),.sc (.int .i64 nd.num),.sc (.int .i64 nd.pos),.slice (.own (st.length+3) kv) 1 (nd.names.map qv),.arr (st.length+4) av nd.kids.length] :: .tok kv :: .arr (av+1) 6 (nd.kids.flatMap zy++zy x)::ex)),([3,6,10],st.set pid (.cells (qH T q3))++(.cells qD::b4 :: .cells [.sc (.int .i64 nd.kind),.sc (.string (ba nd.text)),.sc (.int .i64 nd.num),.sc (.int .i64 nd.pos),.slice (.own (st.length+3) kv) 1 (nd.names.map qv),.arr (st.length+4) (av+1) (nd.kids.length+1)] :: .tok kv :: .arr (av+1) 6 (nd.kids.flatMap zy++zW)::ex)),([3,6,8,10],st.set pid (.cells (qH T q3))++(.cells qD::b4 :: .cells [.sc (.int .i64 nd.kind),.sc (.string (ba nd.text)),.sc (.int .i64 nd.num),.sc (.int .i64 nd.pos),.slice (.own (st.length+3) kv) 1 (nd.names.map qv),.arr (st.length+4) (av+1) (nd.kids.length+1)] :: .tok kv :: .arr (av+1) 6 (nd.kids.flatMap zy++zy x)::ex))]
    [[[],[3]],[[],[3]],[[]],[[]],[[],[3]],[[],[3]],[[3]],[[3,6],[3,6,10]],[[3,6],[3,6,10]],[[3,6],[3,6,8]],[[3,6],[3,6,8]]] Tryz.mixed rfl rfl rfl rfl rfl ?_
   refine zV rfl (.ptr (st.length+2) 5) (by simp only[go_sem]) (by simp only[go_sem]) ?_
   refine zV rfl (.arr (st.length+4) av nd.kids.length) (by simp only[go_sem]) (by simp only[go_sem]) ?_
   refine Zl rfl (.ptr pid 0) (by simp only[go_sem]) ?_
   refine Zy (d:=[3]) rfl rfl (zH x) rfl ?_ ?_
   ·simp only[go_sem]
    exact hc _ _ _ d2 _ _ (zx hp) ⟨rfl,Q1 hp⟩
   refine zV rfl (.sc (.int .i64 nd.kids.length)) (by simp only[go_sem]) (by simp only[go_sem]) ?_
   refine zV rfl (.slice .full 6 [.agg zW]) ?_ ?_ ?_
   ·simp only[go_sem]
    refine⟨_,?_,rfl⟩
    simp only[go_sem]
    exact⟨⟨[],by simp⟩,ZC _,.inl rfl⟩
   ·simp only[go_sem]
    refine⟨_,?_,rfl⟩
    simp only[go_sem]
    exact⟨⟨[],by simp⟩,ZC _,.inl rfl⟩
   refine Zy (d:=[3,6]) rfl rfl (.arr (st.length+4) (av+1) (nd.kids.length+1)) rfl ?_ ?_
   ·simp only[go_sem,htk,ht1,hd1,hlt]
    exact⟨Tryz.app6d (by omega),rfl,rfl⟩
   refine zV rfl (.aptr (st.length+4) (av+1) (nd.kids.length*6)) ?_ ?_ ?_
   ·simp only[go_sem,htk,ht1,hd1,hlt]
   ·simp only[go_sem,htk,ht1,hd1,hlt]
   refine Z8 (d:=[3,6,8]) (d2:=[3,6,8,10]) rfl rfl rfl .any rfl ?_ ?_ ?_
   ·simp only[go_sem,zc,htk,ht1,hd1,hlt]
    exact⟨by rw[hln];exact Nat.le_refl _,rfl⟩
   ·simp only[go_sem,zc,htk,ht1,hd1,hlt]
    exact⟨by rw[hln];exact Nat.le_refl _,rfl⟩
   refine zV rfl (.ptr (st.length+2) 5) (by simp only[go_sem]) (by simp only[go_sem]) ?_
   refine Z8 (d:=[3,6,10]) (d2:=[3,6,8,10]) rfl rfl rfl .any rfl ?_ ?_ ?_
   ·simp only[go_sem]
   ·simp only[go_sem]
   refine ZZ ?_
   simp only[go_sem]
   refine QN g3 (zx hp) ?_
   simp only[go_sem,za hp]
   refine⟨m,_,by omega,?_,nd.addKid x,q3,av+1,false,b4,ex,hl,by rw[z8];simp;omega,by rw[qm];exact hnl,rfl,by rw[hfin];rw[qM,qO,Zf,Zg,qm,z8,List.length_append];rfl⟩
   repeat (first | exact zi | refine zh _ ?_ | refine zf _ ?_ | refine ze _ ?_)
  | true =>
   unfold qH
   simp only[go_sem,y.1,y.2.1,y.2.2,c1,za hp,l1]
   refine qI [1000061] [3,6,8,10] [([],st.set pid (.cells (qH T q))++(.cells qD::b4 :: .cells [.sc (.int .i64 nd.kind),.sc (.string (ba nd.text)),.sc (.int .i64 nd.num),.sc (.int .i64 nd.pos),.slice (.own (st.length+3) kv) 1 (nd.names.map qv),.arr (st.length+4) av nd.kids.length] :: .tok kv :: .arr av 6 (nd.kids.flatMap zy)::ex)),([3],st.set pid (.cells (qH T q2))++(.cells qD::b4 :: .cells [.sc (.int .i64 nd.kind),.sc (.string (ba nd.text)),.sc (.int .i64 nd.num),.sc (.int .i64 nd.pos),.slice (.own (st.length+3) kv) 1 (nd.names.map qv),.arr (st.length+4) av nd.kids.length] :: .tok kv :: .arr av 6 (nd.kids.flatMap zy)::ex)),([3,6],st.set pid (.cells (qH T q2))++(.cells qD::b4 :: .cells [.sc (.int .i64 nd.kind),.sc (.string (ba nd.text)),.sc (.int .i64 nd.num),.sc (.int .i64 nd.pos),.slice (.own (st.length+3) kv) 1 (nd.names.map qv),.arr (st.length+4) av nd.kids.length] :: .tok kv :: .arr (av+1) 6 (nd.kids.flatMap zy++zW)::ex)),
    ([3,6,8],st.set pid (.cells (qH T q2))++(.cells qD::b4 :: .cells [.sc (.int .i64 nd.kind),.sc (.string (ba nd.text)),.sc (.int .i64 nd.num),.sc (.int .i64 nd.pos),.slice (.own (st.length+3) kv) 1 (nd.names.map qv),.arr (st.length+4) av nd.kids.length] :: .tok kv :: .arr (av+1) 6 (nd.kids.flatMap zy++zy x)::ex)),([3,6,10],st.set pid (.cells (qH T q2))++(.cells qD::b4 :: .cells [.sc (.int .i64 nd.kind),.sc (.string (ba nd.text)),.sc (.int .i64 nd.num),.sc (.int .i64 nd.pos),.slice (.own (st.length+3) kv) 1 (nd.names.map qv),.arr (st.length+4) (av+1) (nd.kids.length+1)] :: .tok kv :: .arr (av+1) 6 (nd.kids.flatMap zy++zW)::ex)),([3,6,8,10],st.set pid (.cells (qH T q2))++(.cells qD::b4 :: .cells [.sc (.int .i64 nd.kind),.sc (.string (ba nd.text)),.sc (.int .i64 nd.num),.sc (.int .i64 nd.pos),.slice (.own (st.length+3) kv) 1 (nd.names.map qv),.arr (st.length+4) (av+1) (nd.kids.length+1)] :: .tok kv :: .arr (av+1) 6 (nd.kids.flatMap zy++zy x)::ex))]
    [[[],[3]],[[],[3]],[[]],[[]],[[],[3]],[[],[3]],[[3]],[[3,6],[3,6,10]],[[3,6],[3,6,10]],[[3,6],[3,6,8]],[[3,6],[3,6,8]]] Tryz.mixed rfl rfl rfl rfl rfl ?_
   refine zV rfl (.ptr (st.length+2) 5) (by simp only[go_sem]) (by simp only[go_sem]) ?_
   refine zV rfl (.arr (st.length+4) av nd.kids.length) (by simp only[go_sem]) (by simp only[go_sem]) ?_
   refine Zl rfl (.ptr pid 0) (by simp only[go_sem]) ?_
   refine Zy (d:=[3]) rfl rfl (zH x) rfl ?_ ?_
   ·simp only[go_sem]
    exact hc _ _ _ d2 _ _ (zx hp) ⟨rfl,Q1 hp⟩
   refine zV rfl (.sc (.int .i64 nd.kids.length)) (by simp only[go_sem]) (by simp only[go_sem]) ?_
   refine zV rfl (.slice .full 6 [.agg zW]) ?_ ?_ ?_
   ·simp only[go_sem]
    refine⟨_,?_,rfl⟩
    simp only[go_sem]
    exact⟨⟨[],by simp⟩,ZC _,.inl rfl⟩
   ·simp only[go_sem]
    refine⟨_,?_,rfl⟩
    simp only[go_sem]
    exact⟨⟨[],by simp⟩,ZC _,.inl rfl⟩
   refine Zy (d:=[3,6]) rfl rfl (.arr (st.length+4) (av+1) (nd.kids.length+1)) rfl ?_ ?_
   ·simp only[go_sem,htk,ht1,hd1,hlt]
    exact⟨Tryz.app6d (by omega),rfl,rfl⟩
   refine zV rfl (.aptr (st.length+4) (av+1) (nd.kids.length*6)) ?_ ?_ ?_
   ·simp only[go_sem,htk,ht1,hd1,hlt]
   ·simp only[go_sem,htk,ht1,hd1,hlt]
   refine Z8 (d:=[3,6,8]) (d2:=[3,6,8,10]) rfl rfl rfl .any rfl ?_ ?_ ?_
   ·simp only[go_sem,zc,htk,ht1,hd1,hlt]
    exact⟨by rw[hln];exact Nat.le_refl _,rfl⟩
   ·simp only[go_sem,zc,htk,ht1,hd1,hlt]
    exact⟨by rw[hln];exact Nat.le_refl _,rfl⟩
   refine zV rfl (.ptr (st.length+2) 5) (by simp only[go_sem]) (by simp only[go_sem]) ?_
   refine Z8 (d:=[3,6,10]) (d2:=[3,6,8,10]) rfl rfl rfl .any rfl ?_ ?_ ?_
   ·simp only[go_sem]
   ·simp only[go_sem]
   refine ZZ ?_
   simp only[go_sem]
   refine QN g3 (zx hp) ?_
   simp only[go_sem,za hp]
   refine qL hT (g4 rfl).1 (zx hp) ?_
   simp only[go_sem,za hp]
   refine⟨m,_,by omega,?_,nd.addKid x,q3,av+1,true,b4,ex,hl,by rw[z8];simp;omega,by rw[qm];exact hnl,rfl,by rw[hfin];rw[qM,qO,Zf,Zg,qm,z8,List.length_append];rfl⟩
   repeat (first | exact zi | refine zh _ ?_ | refine zf _ ?_ | refine ze _ ?_)
theorem zrU {T:List Tk} (hT:T.length≤100000) {pid:Nat} {e ty:PM Nd} (he:DC T pid 24 e) (hc:DC T pid 36 (zje T ty)):DC T pid 22 (zjo T e ty):=by
 intro p r p' h K st hp hk
 unfold zjo at h
 rw[Option.bind_eq_some_iff] at h
 obtain⟨b,hb,h⟩:=h
 cases b with
 | true=>exact zqf hT he hc hb h hp hk
 | false=>exact zqv hT he hc hb h hp hk
end Go.Proofs
