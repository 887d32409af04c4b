/- The document's parser: decl. Written by gen_w69.py. -/
import Derived.Test.YtkokccjfpebomaaGreatDoorW68
set_option maxHeartbeats 4000000
set_option linter.unusedSimpArgs false
set_option linter.unusedVariables false
set_option maxRecDepth 8000
namespace Go.AL
variable {T:List Tk} {pid:Nat} {st:St} {p q:PS}
theorem pj (n:Nd) (c:Tx):(n.addName c).kind=n.kind:=by cases n;rfl
theorem mD (n:Nd) (c:Tx):(n.addName c).text=n.text:=by cases n;rfl
theorem dK (n:Nd) (c:Tx):(n.addName c).num=n.num:=by cases n;rfl
theorem dP (n:Nd) (c:Tx):(n.addName c).pos=n.pos:=by cases n;rfl
theorem Bb (n:Nd) (c:Tx):(n.addName c).names=n.names++[c]:=by cases n;rfl
theorem pw (n:Nd) (c:Tx):(n.addName c).kids=n.kids:=by cases n;rfl
def ng (nid nver aid aver:Nat) (n:Nd):List SV:=[.sc (.int .i64 n.kind),.sc (.string (ba n.text)),.sc (.int .i64 n.num),.sc (.int .i64 n.pos),.slice (.own nid nver) 1 (n.names.map qD),.arr aid aver n.kids.length]
theorem Bx (l:List Nd):(l.flatMap zD).length=l.length*6:=by
 induction l with
 | nil=>rfl
 | cons a r ih=>rw[List.flatMap_cons,List.length_append,ih,List.length_cons];simp only[zD,List.length_cons,List.length_nil];omega
theorem Eh {nd:Nd} {K:SV→St→Prop} {nid nver aid ver:Nat} {cs:List SV} {ex s:St} (hk:K (zJ nd) (st.set pid (.cells (qN T p)))) (hs:s=st.set pid (.cells (qN T p))++ex) (hid:s[aid]?=some (.arr ver 6 cs)) (hlen:st.length≤aid) (hcs:cs=nd.kids.flatMap zD) :
  vl (Yv st (wa K)) (.agg (ng nid nver aid ver nd)) s:=by
 have hfl:(nd.kids.map zJ).flatMap SV.cells=nd.kids.flatMap zD:=by
  rw[List.flatMap_map];exact congrArg (fun f=>nd.kids.flatMap f) (funext fun c=>zd c)
 refine⟨[.sc (.int .i64 nd.kind),.sc (.string (ba nd.text)),.sc (.int .i64 nd.num),.sc (.int .i64 nd.pos),.slice (.own nid nver) 1 (nd.names.map qD)],aid,ver,_,6,nd.kids.map zJ,cs,rfl,hid,?_,by simp,?_,?_⟩
 ·rw[hcs,hfl]
  exact List.take_of_length_le (Nat.le_of_eq (Bx _))
 ·intro x hx
  obtain⟨c,_,rfl⟩:=List.mem_map.1 hx
  exact wI c
 ·subst hs
  rw[List.set_append_right _ _ (by simpa using hlen)]
  exact Q8 (T:=T) (pid:=pid) (m1 :=.own nid nver) (m2 :=.imm) (z1:=1) (z2:=6) hk (.inl rfl) (.inl rfl) (ex:=ex.set (aid-(st.set pid (.cells (qN T p))).length) (.arr (ver+1) 6 []))
theorem pE (hp:YR T pid p st) {X a:Ob} {ex:St} {l:List SV} {k:Nat} (hk:k=st.length+ex.length):S2 T pid k l q (st.set pid X++(ex++[a]))=st.set pid (.cells (qN T q))++(ex++[.cells l]):=by
 subst hk
 unfold S2
 rw[QA,Xf hp,List.set_append_right _ _ (Nat.le_refl _),Nat.sub_self]
 rfl
end Go.AL
namespace Go.Proofs
open Go Go.AL Tryz
theorem Tryz.app1d {n:Nat} (h:n≤1000000):AppOk prog 23 23 1 n:=JW Tryz.aelem23 Tryz.aelem23 Tryz.asize9 Tryz.azero9 rfl Tryz.abytes9 (by omega) h
theorem BH (T:List Tk) (hT:T.length≤100000) {pid:Nat} {e:PM Nd} (he:DC T pid 24 e) {nd:Nd} {p p':PS} {x:Tx} {rc:Bool} {v:Nd} (h:Vt T e p=some ((x,rc,v),p')) {K:SV→St→Prop} {st:St} {p0:PS} (hp:YR T pid p0 st) (a b:Ob) {k:Nat} (hk':k=st.length+2)
  (hk:K (.sc (.bool rc)) (st.set pid (.cells (qN T p'))++[a,b,.cells (Jo (.mk nd.kind x nd.num nd.pos [] []) (.arr (st.length+3) 1 1)),.arr 1 6 (zD v)])) :
  ACalls prog 37 [.ptr pid 0,.ptr k 0] K (st.set pid (.cells (qN T p))++[a,b,.cells (Jo nd (.slice .full 0 []))]):=by
 subst hk'
 have hlt:=zp hp
 refine jk T hT (by omega) he h (zA hp) (Zg 2) ?_
 rw[show ([a,b,.cells (Jo nd (.slice .full 0 []))]:St)=[a,b]++[.cells (Jo nd (.slice .full 0 []))] from rfl,pE (ex:=[a,b]) (k:=st.length+2) hp rfl]
 simpa using hk
def Ci (T:List Tk) (pid:Nat) (st:St) (p4:PS) (n1:Nd) (e:Exit) (env:List SV) (s:St):Prop:=e = .exit 0∧(∃ y3 y4 y6 y9 y10 y11 y12 y13 y14 y15 y16 y17 y18 y19 y20 y21 y22 y23 y24 y25 y26 y27 y28 y29 y30 y31 y32 y33 y34 y35 y36 y37 y38,env=[.ptr pid 0,.any,.ptr st.length 0,y3,y4,.ptr (st.length+2) 0,y6,.any,.any,y9,y10,y11,y12,y13,y14,y15,y16,y17,y18,y19,y20,y21,y22,y23,y24,y25,y26,y27,y28,y29,y30,y31,y32,y33,y34,y35,y36,y37,y38,.any,.any,.any,.any,.any,.any,.any,.any,.any,.any,.any,.any,.any,.any,.any,.any,.any,.any,.any,.any,.any,.any,.any,.any,.any,.any,.any,.any,.any,.any,.any,.any,.any,.any,.any,.any,.any,.any,.any,.any,.any,.any,.any,.any])∧∃ (kv:Nat) (b4:Ob) (ex:St),(n1.names.length≤T.length+2∧n1.kids=[])∧s=st.set pid (.cells (qN T p4))++(.cells qK::b4 :: .cells [.sc (.int .i64 n1.kind),.sc (.string (ba n1.text)),.sc (.int .i64 n1.num),.sc (.int .i64 n1.pos),.slice (.own (st.length+3) kv) 1 (n1.names.map qD),.arr (st.length+4) 0 0] :: .tok kv :: .arr 0 6 []::ex)
theorem xH {T:List Tk} (hT:T.length≤100000) {pid:Nat} {e ty:PM Nd} (he:DC T pid 24 e) (hc:DC T pid 36 (wk T ty)) {p p':PS} {r:Nd}
  (hb:Jn T [116,121,112,101] p=some false) (h:((ZA T p).bind fun r=>((Vt T e { r.2 with flat:=true }).map fun q=>(zT (if q.1.2.1 then 29 else 28) r.1.pos q.1.1 [q.1.2.2],{ q.2 with flat:=false })).bind fun u=>(qJ T [59] u.2).map fun p1=>(u.1,p1))=some (r,p')) {K:SV→St→Prop} {st:St} (hp:YR T pid p st) (hk:K (zJ r) (st.set pid (.cells (qN T p')))):ACalls prog 22 [.ptr pid 0] K st:=by
 refine zM (Yn (X3 (Qt (M:=[1000061]) func22 rfl results22 ntmps22 ?_)))
 simp only[Option.bind_eq_some_iff,Option.map_eq_some_iff,Prod.exists,Prod.mk.injEq] at h
 obtain⟨u,p1,h1,n1,p2,⟨x,rc,v,p3,h3,rfl,rfl⟩,p4,h4,rfl,rfl⟩:=h
 have y1:=zV (X7 (p':=p1) hp)
 unfold qN at y1
 have y3:=zV (X7 (p':=p3) hp)
 unfold qN at y3
 cases rc with
 | true =>
  simp only[go_sem]
  refine Q2 hb (zF hp) ?_
  simp only[go_sem]
  refine qS hT h1 (zF hp) ?_
  unfold qN
  simp only[go_sem,zb hp,y1.1,y1.2.1,y1.2.2]
  refine BH T hT he (nd :=.mk 28 [] 0 u.pos [] []) (p:={ p1 with flat:=true }) h3 hp _ _ rfl ?_
  unfold Jo qN
  simp only[go_sem,zb hp,y3.1,y3.2.1,y3.2.2]
  refine Zd hT h4 (zA (p':={ p3 with flat:=false }) hp) fun _=>?_
  simp only[go_sem,zb hp]
  refine Y8 (nd:=zT 29 u.pos x [v]) (aid:=st.length+3) hk rfl ?_ (by omega) rfl rfl rfl
  exact (Zg 3).trans rfl
 | false =>
  simp only[go_sem]
  refine Q2 hb (zF hp) ?_
  simp only[go_sem]
  refine qS hT h1 (zF hp) ?_
  unfold qN
  simp only[go_sem,zb hp,y1.1,y1.2.1,y1.2.2]
  refine BH T hT he (nd :=.mk 28 [] 0 u.pos [] []) (p:={ p1 with flat:=true }) h3 hp _ _ rfl ?_
  unfold Jo qN
  simp only[go_sem,zb hp,y3.1,y3.2.1,y3.2.2]
  refine Zd hT h4 (zA (p':={ p3 with flat:=false }) hp) fun _=>?_
  simp only[go_sem,zb hp]
  refine Y8 (nd:=zT 28 u.pos x [v]) (aid:=st.length+3) hk rfl ?_ (by omega) rfl rfl rfl
  exact (Zg 3).trans rfl
theorem gA {T:List Tk} (hT:T.length≤100000) {pid:Nat} {e ty:PM Nd} (he:DC T pid 24 e) (hc:DC T pid 36 (wk T ty)) {p p':PS} {r:Nd}
  (hb:Jn T [116,121,112,101] p=some true) (h:((ZA T p).bind fun r=>(uh T ty r.1.pos r.2).bind fun u=>(qJ T [59] u.2).map fun p1=>(u.1,p1))=some (r,p')) {K:SV→St→Prop} {st:St} (hp:YR T pid p st) (hk:K (zJ r) (st.set pid (.cells (qN T p')))):ACalls prog 22 [.ptr pid 0] K st:=by
 refine zM (Yn (X3 (Qt (M:=[1000061]) func22 rfl results22 ntmps22 ?_)))
 unfold uh at h
 simp only[Option.bind_eq_some_iff,Option.map_eq_some_iff,Prod.exists,Prod.mk.injEq] at h
 obtain⟨u,p1,h1,n2,p2,⟨x0,p3,h3,n1,p4,hL1,p5,h5,hL2⟩,p6,h6,rfl,rfl⟩:=h
 simp only[go_sem]
 refine Q2 hb (zF hp) ?_
 simp only[go_sem]
 refine qS hT h1 (zF hp) ?_
 simp only[go_sem,zb hp]
 refine JF hT (by decide) h3 (zA hp) ?_
 simp only[go_sem,zb hp]
 refine Z1 (st.length+2) 4 1 0 (Zg 2) (by simp) rfl ?_
 rw[QA]
 simp only[List.length_append,Xn,List.length_cons,List.length_nil,List.set_cons_succ,List.set_cons_zero,List.append_assoc,List.cons_append,List.nil_append,Nat.zero_add,Nat.reduceAdd]
 refine pV (st.length+2) 5 6 0 (Zg 2) (by simp) rfl ?_
 rw[QA]
 simp only[List.length_append,Xn,List.length_cons,List.length_nil,List.set_cons_succ,List.set_cons_zero,List.append_assoc,List.cons_append,List.nil_append,Nat.zero_add,Nat.reduceAdd]
 refine AWp.mono (Q:=Ci T pid st p4 n1) ?_ ?_
 ·refine zN [] (fun m env s=>∃ (nd:Nd) (q:PS) (kv:Nat) (b4:Ob) (ex:St),Kc T m nd q=some (n1,p4)∧m+nd.names.length≤T.length+2∧nd.kids=[]∧env=[.ptr pid 0,.any,.ptr st.length 0,.any,.any,.ptr (st.length+2) 0,.any,.any,.any,.any,.any,.any,.any,.any,.any,.any,.any,.any,.any,.any,.any,.any,.any,.any,.any,.any,.any,.any,.any,.any,.any,.any,.any,.any,.any,.any,.any,.any,.any,.any,.any,.any,.any,.any,.any,.any,.any,.any,.any,.any,.any,.any,.any,.any,.any,.any,.any,.any,.any,.any,.any,.any,.any,.any,.any,.any,.any,.any,.any,.any,.any,.any,.any,.any,.any,.any,.any,.any,.any,.any,.any,.any,.any] ∧
   s=st.set pid (.cells (qN T q))++(.cells qK::b4 :: .cells [.sc (.int .i64 nd.kind),.sc (.string (ba nd.text)),.sc (.int .i64 nd.num),.sc (.int .i64 nd.pos),.slice (.own (st.length+3) kv) 1 (nd.names.map qD),.arr (st.length+4) 0 0] :: .tok kv :: .arr 0 6 []::ex)) (n:=T.length+2) ?_ ⟨_,_,0,_,[],hL1,by simp[zT,Nd.names],rfl,rfl,rfl⟩ ?_
  ·repeat (first | exact zj | refine zk _ ?_ | refine zg _ ?_ | refine zf _ ?_)
  rintro m env s ⟨nd,q,kv,b4,ex,hl,hm,hkd,rfl,rfl⟩
  cases m with
  | zero=>cases hl
  | succ m =>
  unfold Kc at hl
  rw[Option.bind_eq_some_iff] at hl
  obtain⟨t,ht,hl⟩:=hl
  by_cases c3:t.kind=3
  ·have d3:(t.kind==3)=true:=by simp[c3]
   rw[if_pos c3] at hl
   by_cases c4:nd.names.length=4
   ·have l1:((nd.names.length:Int)==4)=true:=by simp[c4]
    rw[if_pos c4,Option.map_eq_some_iff] at hl
    obtain⟨q1,c5,hl⟩:=hl
    cases hl
    simp only[go_sem]
    refine qr ht (zA hp) ?_
    simp only[go_sem,d3,List.length_map,l1]
    refine Qg c5 (zA hp) fun _=>?_
    simp only[go_sem,zb hp]
    exact⟨rfl,⟨_,_,_,_,_,_,_,_,_,_,_,_,_,_,_,_,_,_,_,_,_,_,_,_,_,_,_,_,_,_,_,_,_,rfl⟩,_,_,_,⟨by omega,hkd⟩,rfl⟩
   ·have l1:((nd.names.length:Int)==4)=false:=by simp;omega
    rw[if_neg c4,Option.bind_eq_some_iff] at hl
    obtain⟨⟨w,q1⟩,c5,hl⟩:=hl
    simp only[go_sem]
    refine qr ht (zA hp) ?_
    simp only[go_sem,d3,List.length_map,l1]
    refine qS hT c5 (zA hp) ?_
    simp only[go_sem,zb hp]
    refine⟨Tryz.app1d (by omega),m,_,by omega,?_,nd.addName w.text,q1,kv+1,b4,_,hl,by rw[Bb];simp;omega,by rw[pw];exact hkd,rfl,by rw[pj,mD,dK,dP,Bb,List.map_append];rfl⟩
    repeat (first | exact zj | refine zk _ ?_ | refine zg _ ?_ | refine zf _ ?_)
  ·have d3:(t.kind==3)=false:=by simp[c3]
   rw[if_neg c3] at hl
   cases hl
   simp only[go_sem]
   refine qr ht (zA hp) ?_
   simp only[go_sem,d3]
   exact⟨rfl,⟨_,_,_,_,_,_,_,_,_,_,_,_,_,_,_,_,_,_,_,_,_,_,_,_,_,_,_,_,_,_,_,_,_,rfl⟩,_,_,_,⟨by omega,hkd⟩,rfl⟩
 rintro e env s ⟨rfl,⟨y3,y4,y6,y9,y10,y11,y12,y13,y14,y15,y16,y17,y18,y19,y20,y21,y22,y23,y24,y25,y26,y27,y28,y29,y30,y31,y32,y33,y34,y35,y36,y37,y38,rfl⟩,kv,b4,ex,⟨hn1,hkd⟩,rfl⟩
 simp only[go_sem]
 refine Zd hT h5 (zA hp) fun _=>?_
 simp only[go_sem,zb hp]
 refine zN [] (fun m env s=>∃ (nd:Nd) (q:PS) (av:Nat) (more:Bool) (b4:Ob) (ex:St),HA T ty m more nd q=some (n2,p2)∧m+nd.kids.length≤T.length+2∧nd.names.length≤T.length+2∧env=[.ptr pid 0,.any,.ptr st.length 0,.any,.any,.ptr (st.length+2) 0,.any,.sc (.bool more),.any,.any,.any,.any,.any,.any,.any,.any,.any,.any,.any,.any,.any,.any,.any,.any,.any,.any,.any,.any,.any,.any,.any,.any,.any,.any,.any,.any,.any,.any,.any,.any,.any,.any,.any,.any,.any,.any,.any,.any,.any,.any,.any,.any,.any,.any,.any,.any,.any,.any,.any,.any,.any,.any,.any,.any,.any,.any,.any,.any,.any,.any,.any,.any,.any,.any,.any,.any,.any,.any,.any,.any,.any,.any,.any] ∧
  s=st.set pid (.cells (qN T q))++(.cells qK::b4 :: .cells (ng (st.length+3) kv (st.length+4) av nd) :: .tok kv :: .arr av 6 (nd.kids.flatMap zD)::ex)) (n:=T.length+2) ?_ ⟨n1,_,0,true,b4,ex,hL2,by rw[hkd];simp,hn1,rfl,by unfold ng;rw[hkd];rfl⟩ ?_
 ·repeat (first | exact zj | refine zk _ ?_ | refine zg _ ?_ | refine zf _ ?_)
 rintro m env s ⟨nd,q,av,more,b4,ex,hl,hm,hnl,rfl,rfl⟩
 cases m with
 | zero=>cases hl
 | succ m =>
 unfold HA at hl
 have y:=zV (X7 (p':=q) hp)
 unfold qN at y
 unfold ng
 by_cases c0:more=true∧q.e=0
 rotate_left
 ·rw[if_neg c0] at hl
  cases hl
  cases more with
  | false =>
   simp only[go_sem]
   refine Zd hT h6 (zA hp) fun _=>?_
   simp only[go_sem,zb hp]
   refine⟨by decide,Eh (nd:=n2) (nid:=st.length+3) (aid:=st.length+4) hk rfl ?_ (by omega) rfl⟩
   exact (Zg 4).trans rfl
  | true =>
   have c1:(p2.e==0)=false:=by simpa using fun z=>c0 ⟨rfl,z⟩
   unfold qN
   simp only[go_sem,y.1,y.2.1,y.2.2,c1,zb hp]
   refine Zd hT h6 (zA hp) fun _=>?_
   simp only[go_sem,zb hp]
   refine⟨by decide,Eh (nd:=n2) (nid:=st.length+3) (aid:=st.length+4) hk rfl ?_ (by omega) rfl⟩
   exact (Zg 4).trans rfl
 rw[if_pos c0] at hl
 obtain⟨rfl,c0⟩:=c0
 have c1:(q.e==0)=true:=by simp[c0]
 simp only[Option.bind_eq_some_iff,Prod.exists] at hl
 obtain⟨q1,d1,x,q2,d2,b,q3,d3,hl⟩:=hl
 obtain⟨t2,g1,g2,g3,g4,g5⟩:=Wj d3
 have hln:=Bx nd.kids
 have htk:(nd.kids.flatMap zD).take (nd.kids.length*6)=nd.kids.flatMap zD:=List.take_of_length_le (by omega)
 have ht1:(nd.kids.flatMap zD++zW).take (nd.kids.length*6)=nd.kids.flatMap zD:=by rw[←hln];exact List.take_left
 have hd1:(nd.kids.flatMap zD++zW).drop (nd.kids.length*6+6)=[]:=List.drop_eq_nil_of_le (by rw[List.length_append,hln];simp[zW])
 have hlt:(nd.kids.length:Int)<((nd.kids.length+1:Nat):Int):=by omega
 have hfin:(nd.addKid x).kids.flatMap zD=nd.kids.flatMap zD++zD x:=by rw[qc];simp
 by_cases l20:nd.kids.length=20
 ·have l1:((nd.kids.length:Int)==20)=true:=by simp[l20]
  unfold U1 at d1
  rw[if_pos l20] at d1
  cases b with
  | false =>
   obtain rfl:=g5 rfl
   unfold qN
   simp only[go_sem,y.1,y.2.1,y.2.2,c1,zb hp,l1]
   refine Qg d1 (zA hp) fun _=>?_
   simp only[go_sem,zb hp]
   refine qO [1000061] [3,6,8,10] [([],st.set pid (.cells (qN T q1))++(.cells qK::b4 :: .cells [.sc (.int .i64 nd.kind),.sc (.string (ba nd.text)),.sc (.int .i64 nd.num),.sc (.int .i64 nd.pos),.slice (.own (st.length+3) kv) 1 (nd.names.map qD),.arr (st.length+4) av nd.kids.length] :: .tok kv :: .arr av 6 (nd.kids.flatMap zD)::ex)),([3],st.set pid (.cells (qN T q3))++(.cells qK::b4 :: .cells [.sc (.int .i64 nd.kind),.sc (.string (ba nd.text)),.sc (.int .i64 nd.num),.sc (.int .i64 nd.pos),.slice (.own (st.length+3) kv) 1 (nd.names.map qD),.arr (st.length+4) av nd.kids.length] :: .tok kv :: .arr av 6 (nd.kids.flatMap zD)::ex)),([3,6],st.set pid (.cells (qN T q3))++(.cells qK::b4 :: .cells [.sc (.int .i64 nd.kind),.sc (.string (ba nd.text)),.sc (.int .i64 nd.num),.sc (.int .i64 nd.pos),.slice (.own (st.length+3) kv) 1 (nd.names.map qD),.arr (st.length+4) av nd.kids.length] :: .tok kv :: .arr (av+1) 6 (nd.kids.flatMap zD++zW)::ex)),
    ([3,6,8],st.set pid (.cells (qN T q3))++(.cells qK::b4 :: .cells [.sc (.int .i64 nd.kind),.sc (.string (ba nd.text)),.sc (.int .i64 nd.num),.sc (.int .i64 nd.pos),.slice (.own (st.length+3) kv) 1 (nd.names.map qD),.arr (st.length+4) av nd.kids.length] :: .tok kv :: .arr (av+1) 6 (nd.kids.flatMap zD++zD x)::ex)),([3,6,10],st.set pid (.cells (qN T q3))++(.cells qK::b4 :: .cells [.sc (.int .i64 nd.kind),.sc (.string (ba nd.text)),.sc (.int .i64 nd.num),.sc (.int .i64 nd.pos),.slice (.own (st.length+3) kv) 1 (nd.names.map qD),.arr (st.length+4) (av+1) (nd.kids.length+1)] :: .tok kv :: .arr (av+1) 6 (nd.kids.flatMap zD++zW)::ex)),([3,6,8,10],st.set pid (.cells (qN T q3))++(.cells qK::b4 :: .cells [.sc (.int .i64 nd.kind),.sc (.string (ba nd.text)),.sc (.int .i64 nd.num),.sc (.int .i64 nd.pos),.slice (.own (st.length+3) kv) 1 (nd.names.map qD),.arr (st.length+4) (av+1) (nd.kids.length+1)] :: .tok kv :: .arr (av+1) 6 (nd.kids.flatMap zD++zD x)::ex))]
    [[[],[3]],[[],[3]],[[]],[[]],[[],[3]],[[],[3]],[[3]],[[3,6],[3,6,10]],[[3,6],[3,6,10]],[[3,6],[3,6,8]],[[3,6],[3,6,8]]] mixed rfl rfl rfl rfl rfl ?_
   refine zZ rfl (.ptr (st.length+2) 5) (by simp only[go_sem]) (by simp only[go_sem]) ?_
   refine zZ rfl (.arr (st.length+4) av nd.kids.length) (by simp only[go_sem]) (by simp only[go_sem]) ?_
   refine Zt rfl (.ptr pid 0) (by simp only[go_sem]) ?_
   refine ZG (d:=[3]) rfl rfl (zJ x) rfl ?_ ?_
   ·simp only[go_sem]
    exact hc _ _ _ d2 _ _ (zA hp) ⟨rfl,Xf hp⟩
   refine zZ rfl (.sc (.int .i64 nd.kids.length)) (by simp only[go_sem]) (by simp only[go_sem]) ?_
   refine zZ rfl (.slice .full 6 [.agg zW]) ?_ ?_ ?_
   ·simp only[go_sem]
    refine⟨_,?_,rfl⟩
    simp only[go_sem]
    exact⟨⟨[],by simp⟩,ZO _,.inl rfl⟩
   ·simp only[go_sem]
    refine⟨_,?_,rfl⟩
    simp only[go_sem]
    exact⟨⟨[],by simp⟩,ZO _,.inl rfl⟩
   refine ZG (d:=[3,6]) rfl rfl (.arr (st.length+4) (av+1) (nd.kids.length+1)) rfl ?_ ?_
   ·simp only[go_sem,htk,ht1,hd1,hlt]
    exact⟨Tryz.app6d (by omega),rfl,rfl⟩
   refine zZ rfl (.aptr (st.length+4) (av+1) (nd.kids.length*6)) ?_ ?_ ?_
   ·simp only[go_sem,htk,ht1,hd1,hlt]
   ·simp only[go_sem,htk,ht1,hd1,hlt]
   refine Qk (d:=[3,6,8]) (d2:=[3,6,8,10]) rfl rfl rfl .any rfl ?_ ?_ ?_
   ·simp only[go_sem,zd,htk,ht1,hd1,hlt]
    exact⟨by rw[hln];exact Nat.le_refl _,rfl⟩
   ·simp only[go_sem,zd,htk,ht1,hd1,hlt]
    exact⟨by rw[hln];exact Nat.le_refl _,rfl⟩
   refine zZ rfl (.ptr (st.length+2) 5) (by simp only[go_sem]) (by simp only[go_sem]) ?_
   refine Qk (d:=[3,6,10]) (d2:=[3,6,8,10]) rfl rfl rfl .any rfl ?_ ?_ ?_
   ·simp only[go_sem]
   ·simp only[go_sem]
   refine Qb ?_
   simp only[go_sem]
   refine Q2 g3 (zA hp) ?_
   simp only[go_sem,zb hp]
   refine⟨m,_,by omega,?_,nd.addKid x,q3,av+1,false,b4,ex,hl,by rw[qc];simp;omega,by rw[qs];exact hnl,rfl,by rw[hfin];rw[qV,qU,Zq,Zp,qs,qc,List.length_append];rfl⟩
   repeat (first | exact zj | refine zk _ ?_ | refine zg _ ?_ | refine zf _ ?_)
  | true =>
   unfold qN
   simp only[go_sem,y.1,y.2.1,y.2.2,c1,zb hp,l1]
   refine Qg d1 (zA hp) fun _=>?_
   simp only[go_sem,zb hp]
   refine qO [1000061] [3,6,8,10] [([],st.set pid (.cells (qN T q1))++(.cells qK::b4 :: .cells [.sc (.int .i64 nd.kind),.sc (.string (ba nd.text)),.sc (.int .i64 nd.num),.sc (.int .i64 nd.pos),.slice (.own (st.length+3) kv) 1 (nd.names.map qD),.arr (st.length+4) av nd.kids.length] :: .tok kv :: .arr av 6 (nd.kids.flatMap zD)::ex)),([3],st.set pid (.cells (qN T q2))++(.cells qK::b4 :: .cells [.sc (.int .i64 nd.kind),.sc (.string (ba nd.text)),.sc (.int .i64 nd.num),.sc (.int .i64 nd.pos),.slice (.own (st.length+3) kv) 1 (nd.names.map qD),.arr (st.length+4) av nd.kids.length] :: .tok kv :: .arr av 6 (nd.kids.flatMap zD)::ex)),([3,6],st.set pid (.cells (qN T q2))++(.cells qK::b4 :: .cells [.sc (.int .i64 nd.kind),.sc (.string (ba nd.text)),.sc (.int .i64 nd.num),.sc (.int .i64 nd.pos),.slice (.own (st.length+3) kv) 1 (nd.names.map qD),.arr (st.length+4) av nd.kids.length] :: .tok kv :: .arr (av+1) 6 (nd.kids.flatMap zD++zW)::ex)),
    ([3,6,8],st.set pid (.cells (qN T q2))++(.cells qK::b4 :: .cells [.sc (.int .i64 nd.kind),.sc (.string (ba nd.text)),.sc (.int .i64 nd.num),.sc (.int .i64 nd.pos),.slice (.own (st.length+3) kv) 1 (nd.names.map qD),.arr (st.length+4) av nd.kids.length] :: .tok kv :: .arr (av+1) 6 (nd.kids.flatMap zD++zD x)::ex)),([3,6,10],st.set pid (.cells (qN T q2))++(.cells qK::b4 :: .cells [.sc (.int .i64 nd.kind),.sc (.string (ba nd.text)),.sc (.int .i64 nd.num),.sc (.int .i64 nd.pos),.slice (.own (st.length+3) kv) 1 (nd.names.map qD),.arr (st.length+4) (av+1) (nd.kids.length+1)] :: .tok kv :: .arr (av+1) 6 (nd.kids.flatMap zD++zW)::ex)),([3,6,8,10],st.set pid (.cells (qN T q2))++(.cells qK::b4 :: .cells [.sc (.int .i64 nd.kind),.sc (.string (ba nd.text)),.sc (.int .i64 nd.num),.sc (.int .i64 nd.pos),.slice (.own (st.length+3) kv) 1 (nd.names.map qD),.arr (st.length+4) (av+1) (nd.kids.length+1)] :: .tok kv :: .arr (av+1) 6 (nd.kids.flatMap zD++zD x)::ex))]
    [[[],[3]],[[],[3]],[[]],[[]],[[],[3]],[[],[3]],[[3]],[[3,6],[3,6,10]],[[3,6],[3,6,10]],[[3,6],[3,6,8]],[[3,6],[3,6,8]]] mixed rfl rfl rfl rfl rfl ?_
   refine zZ rfl (.ptr (st.length+2) 5) (by simp only[go_sem]) (by simp only[go_sem]) ?_
   refine zZ rfl (.arr (st.length+4) av nd.kids.length) (by simp only[go_sem]) (by simp only[go_sem]) ?_
   refine Zt rfl (.ptr pid 0) (by simp only[go_sem]) ?_
   refine ZG (d:=[3]) rfl rfl (zJ x) rfl ?_ ?_
   ·simp only[go_sem]
    exact hc _ _ _ d2 _ _ (zA hp) ⟨rfl,Xf hp⟩
   refine zZ rfl (.sc (.int .i64 nd.kids.length)) (by simp only[go_sem]) (by simp only[go_sem]) ?_
   refine zZ rfl (.slice .full 6 [.agg zW]) ?_ ?_ ?_
   ·simp only[go_sem]
    refine⟨_,?_,rfl⟩
    simp only[go_sem]
    exact⟨⟨[],by simp⟩,ZO _,.inl rfl⟩
   ·simp only[go_sem]
    refine⟨_,?_,rfl⟩
    simp only[go_sem]
    exact⟨⟨[],by simp⟩,ZO _,.inl rfl⟩
   refine ZG (d:=[3,6]) rfl rfl (.arr (st.length+4) (av+1) (nd.kids.length+1)) rfl ?_ ?_
   ·simp only[go_sem,htk,ht1,hd1,hlt]
    exact⟨Tryz.app6d (by omega),rfl,rfl⟩
   refine zZ rfl (.aptr (st.length+4) (av+1) (nd.kids.length*6)) ?_ ?_ ?_
   ·simp only[go_sem,htk,ht1,hd1,hlt]
   ·simp only[go_sem,htk,ht1,hd1,hlt]
   refine Qk (d:=[3,6,8]) (d2:=[3,6,8,10]) rfl rfl rfl .any rfl ?_ ?_ ?_
   ·simp only[go_sem,zd,htk,ht1,hd1,hlt]
    exact⟨by rw[hln];exact Nat.le_refl _,rfl⟩
   ·simp only[go_sem,zd,htk,ht1,hd1,hlt]
    exact⟨by rw[hln];exact Nat.le_refl _,rfl⟩
   refine zZ rfl (.ptr (st.length+2) 5) (by simp only[go_sem]) (by simp only[go_sem]) ?_
   refine Qk (d:=[3,6,10]) (d2:=[3,6,8,10]) rfl rfl rfl .any rfl ?_ ?_ ?_
   ·simp only[go_sem]
   ·simp only[go_sem]
   refine Qb ?_
   simp only[go_sem]
   refine Q2 g3 (zA hp) ?_
   simp only[go_sem,zb hp]
   refine qS hT (g4 rfl).1 (zA hp) ?_
   simp only[go_sem,zb hp]
   refine⟨m,_,by omega,?_,nd.addKid x,q3,av+1,true,b4,ex,hl,by rw[qc];simp;omega,by rw[qs];exact hnl,rfl,by rw[hfin];rw[qV,qU,Zq,Zp,qs,qc,List.length_append];rfl⟩
   repeat (first | exact zj | refine zk _ ?_ | refine zg _ ?_ | refine zf _ ?_)
 ·have l1:((nd.kids.length:Int)==20)=false:=by simp;omega
  unfold U1 at d1
  rw[if_neg l20] at d1
  cases d1
  cases b with
  | false =>
   obtain rfl:=g5 rfl
   unfold qN
   simp only[go_sem,y.1,y.2.1,y.2.2,c1,zb hp,l1]
   refine qO [1000061] [3,6,8,10] [([],st.set pid (.cells (qN T q))++(.cells qK::b4 :: .cells [.sc (.int .i64 nd.kind),.sc (.string (ba nd.text)),.sc (.int .i64 nd.num),.sc (.int .i64 nd.pos),.slice (.own (st.length+3) kv) 1 (nd.names.map qD),.arr (st.length+4) av nd.kids.length] :: .tok kv :: .arr av 6 (nd.kids.flatMap zD)::ex)),([3],st.set pid (.cells (qN T q3))++(.cells qK::b4 :: .cells [.sc (.int .i64 nd.kind),.sc (.string (ba nd.text)),.sc (.int .i64 nd.num),.sc (.int .i64 nd.pos),.slice (.own (st.length+3) kv) 1 (nd.names.map qD),.arr (st.length+4) av nd.kids.length] :: .tok kv :: .arr av 6 (nd.kids.flatMap zD)::ex)),([3,6],st.set pid (.cells (qN T q3))++(.cells qK::b4 :: .cells [.sc (.int .i64 nd.kind),.sc (.string (ba nd.text)),.sc (.int .i64 nd.num),.sc (.int .i64 nd.pos),.slice (.own (st.length+3) kv) 1 (nd.names.map qD),.arr (st.length+4) av nd.kids.length] :: .tok kv :: .arr (av+1) 6 (nd.kids.flatMap zD++zW)::ex)),
    ([3,6,8],st.set pid (.cells (qN T q3))++(.cells qK::b4 :: .cells [.sc (.int .i64 nd.kind),.sc (.string (ba nd.text)),.sc (.int .i64 nd.num),.sc (.int .i64 nd.pos),.slice (.own (st.length+3) kv) 1 (nd.names.map qD),.arr (st.length+4) av nd.kids.length] :: .tok kv :: .arr (av+1) 6 (nd.kids.flatMap zD++zD x)::ex)),([3,6,10],st.set pid (.cells (qN T q3))++(.cells qK::b4 :: .cells [.sc (.int .i64 nd.kind),.sc (.string (ba nd.text)),.sc (.int .i64 nd.num),.sc (.int .i64 nd.pos),.slice (.own (st.length+3) kv) 1 (nd.names.map qD),.arr (st.length+4) (av+1) (nd.kids.length+1)] :: .tok kv :: .arr (av+1) 6 (nd.kids.flatMap zD++zW)::ex)),([3,6,8,10],st.set pid (.cells (qN T q3))++(.cells qK::b4 :: .cells [.sc (.int .i64 nd.kind),.sc (.string (ba nd.text)),.sc (.int .i64 nd.num),.sc (.int .i64 nd.pos),.slice (.own (st.length+3) kv) 1 (nd.names.map qD),.arr (st.length+4) (av+1) (nd.kids.length+1)] :: .tok kv :: .arr (av+1) 6 (nd.kids.flatMap zD++zD x)::ex))]
    [[[],[3]],[[],[3]],[[]],[[]],[[],[3]],[[],[3]],[[3]],[[3,6],[3,6,10]],[[3,6],[3,6,10]],[[3,6],[3,6,8]],[[3,6],[3,6,8]]] mixed rfl rfl rfl rfl rfl ?_
   refine zZ rfl (.ptr (st.length+2) 5) (by simp only[go_sem]) (by simp only[go_sem]) ?_
   refine zZ rfl (.arr (st.length+4) av nd.kids.length) (by simp only[go_sem]) (by simp only[go_sem]) ?_
   refine Zt rfl (.ptr pid 0) (by simp only[go_sem]) ?_
   refine ZG (d:=[3]) rfl rfl (zJ x) rfl ?_ ?_
   ·simp only[go_sem]
    exact hc _ _ _ d2 _ _ (zA hp) ⟨rfl,Xf hp⟩
   refine zZ rfl (.sc (.int .i64 nd.kids.length)) (by simp only[go_sem]) (by simp only[go_sem]) ?_
   refine zZ rfl (.slice .full 6 [.agg zW]) ?_ ?_ ?_
   ·simp only[go_sem]
    refine⟨_,?_,rfl⟩
    simp only[go_sem]
    exact⟨⟨[],by simp⟩,ZO _,.inl rfl⟩
   ·simp only[go_sem]
    refine⟨_,?_,rfl⟩
    simp only[go_sem]
    exact⟨⟨[],by simp⟩,ZO _,.inl rfl⟩
   refine ZG (d:=[3,6]) rfl rfl (.arr (st.length+4) (av+1) (nd.kids.length+1)) rfl ?_ ?_
   ·simp only[go_sem,htk,ht1,hd1,hlt]
    exact⟨Tryz.app6d (by omega),rfl,rfl⟩
   refine zZ rfl (.aptr (st.length+4) (av+1) (nd.kids.length*6)) ?_ ?_ ?_
   ·simp only[go_sem,htk,ht1,hd1,hlt]
   ·simp only[go_sem,htk,ht1,hd1,hlt]
   refine Qk (d:=[3,6,8]) (d2:=[3,6,8,10]) rfl rfl rfl .any rfl ?_ ?_ ?_
   ·simp only[go_sem,zd,htk,ht1,hd1,hlt]
    exact⟨by rw[hln];exact Nat.le_refl _,rfl⟩
   ·simp only[go_sem,zd,htk,ht1,hd1,hlt]
    exact⟨by rw[hln];exact Nat.le_refl _,rfl⟩
   refine zZ rfl (.ptr (st.length+2) 5) (by simp only[go_sem]) (by simp only[go_sem]) ?_
   refine Qk (d:=[3,6,10]) (d2:=[3,6,8,10]) rfl rfl rfl .any rfl ?_ ?_ ?_
   ·simp only[go_sem]
   ·simp only[go_sem]
   refine Qb ?_
   simp only[go_sem]
   refine Q2 g3 (zA hp) ?_
   simp only[go_sem,zb hp]
   refine⟨m,_,by omega,?_,nd.addKid x,q3,av+1,false,b4,ex,hl,by rw[qc];simp;omega,by rw[qs];exact hnl,rfl,by rw[hfin];rw[qV,qU,Zq,Zp,qs,qc,List.length_append];rfl⟩
   repeat (first | exact zj | refine zk _ ?_ | refine zg _ ?_ | refine zf _ ?_)
  | true =>
   unfold qN
   simp only[go_sem,y.1,y.2.1,y.2.2,c1,zb hp,l1]
   refine qO [1000061] [3,6,8,10] [([],st.set pid (.cells (qN T q))++(.cells qK::b4 :: .cells [.sc (.int .i64 nd.kind),.sc (.string (ba nd.text)),.sc (.int .i64 nd.num),.sc (.int .i64 nd.pos),.slice (.own (st.length+3) kv) 1 (nd.names.map qD),.arr (st.length+4) av nd.kids.length] :: .tok kv :: .arr av 6 (nd.kids.flatMap zD)::ex)),([3],st.set pid (.cells (qN T q2))++(.cells qK::b4 :: .cells [.sc (.int .i64 nd.kind),.sc (.string (ba nd.text)),.sc (.int .i64 nd.num),.sc (.int .i64 nd.pos),.slice (.own (st.length+3) kv) 1 (nd.names.map qD),.arr (st.length+4) av nd.kids.length] :: .tok kv :: .arr av 6 (nd.kids.flatMap zD)::ex)),([3,6],st.set pid (.cells (qN T q2))++(.cells qK::b4 :: .cells [.sc (.int .i64 nd.kind),.sc (.string (ba nd.text)),.sc (.int .i64 nd.num),.sc (.int .i64 nd.pos),.slice (.own (st.length+3) kv) 1 (nd.names.map qD),.arr (st.length+4) av nd.kids.length] :: .tok kv :: .arr (av+1) 6 (nd.kids.flatMap zD++zW)::ex)),
    ([3,6,8],st.set pid (.cells (qN T q2))++(.cells qK::b4 :: .cells [.sc (.int .i64 nd.kind),.sc (.string (ba nd.text)),.sc (.int .i64 nd.num),.sc (.int .i64 nd.pos),.slice (.own (st.length+3) kv) 1 (nd.names.map qD),.arr (st.length+4) av nd.kids.length] :: .tok kv :: .arr (av+1) 6 (nd.kids.flatMap zD++zD x)::ex)),([3,6,10],st.set pid (.cells (qN T q2))++(.cells qK::b4 :: .cells [.sc (.int .i64 nd.kind),.sc (.string (ba nd.text)),.sc (.int .i64 nd.num),.sc (.int .i64 nd.pos),.slice (.own (st.length+3) kv) 1 (nd.names.map qD),.arr (st.length+4) (av+1) (nd.kids.length+1)] :: .tok kv :: .arr (av+1) 6 (nd.kids.flatMap zD++zW)::ex)),([3,6,8,10],st.set pid (.cells (qN T q2))++(.cells qK::b4 :: .cells [.sc (.int .i64 nd.kind),.sc (.string (ba nd.text)),.sc (.int .i64 nd.num),.sc (.int .i64 nd.pos),.slice (.own (st.length+3) kv) 1 (nd.names.map qD),.arr (st.length+4) (av+1) (nd.kids.length+1)] :: .tok kv :: .arr (av+1) 6 (nd.kids.flatMap zD++zD x)::ex))]
    [[[],[3]],[[],[3]],[[]],[[]],[[],[3]],[[],[3]],[[3]],[[3,6],[3,6,10]],[[3,6],[3,6,10]],[[3,6],[3,6,8]],[[3,6],[3,6,8]]] mixed rfl rfl rfl rfl rfl ?_
   refine zZ rfl (.ptr (st.length+2) 5) (by simp only[go_sem]) (by simp only[go_sem]) ?_
   refine zZ rfl (.arr (st.length+4) av nd.kids.length) (by simp only[go_sem]) (by simp only[go_sem]) ?_
   refine Zt rfl (.ptr pid 0) (by simp only[go_sem]) ?_
   refine ZG (d:=[3]) rfl rfl (zJ x) rfl ?_ ?_
   ·simp only[go_sem]
    exact hc _ _ _ d2 _ _ (zA hp) ⟨rfl,Xf hp⟩
   refine zZ rfl (.sc (.int .i64 nd.kids.length)) (by simp only[go_sem]) (by simp only[go_sem]) ?_
   refine zZ rfl (.slice .full 6 [.agg zW]) ?_ ?_ ?_
   ·simp only[go_sem]
    refine⟨_,?_,rfl⟩
    simp only[go_sem]
    exact⟨⟨[],by simp⟩,ZO _,.inl rfl⟩
   ·simp only[go_sem]
    refine⟨_,?_,rfl⟩
    simp only[go_sem]
    exact⟨⟨[],by simp⟩,ZO _,.inl rfl⟩
   refine ZG (d:=[3,6]) rfl rfl (.arr (st.length+4) (av+1) (nd.kids.length+1)) rfl ?_ ?_
   ·simp only[go_sem,htk,ht1,hd1,hlt]
    exact⟨Tryz.app6d (by omega),rfl,rfl⟩
   refine zZ rfl (.aptr (st.length+4) (av+1) (nd.kids.length*6)) ?_ ?_ ?_
   ·simp only[go_sem,htk,ht1,hd1,hlt]
   ·simp only[go_sem,htk,ht1,hd1,hlt]
   refine Qk (d:=[3,6,8]) (d2:=[3,6,8,10]) rfl rfl rfl .any rfl ?_ ?_ ?_
   ·simp only[go_sem,zd,htk,ht1,hd1,hlt]
    exact⟨by rw[hln];exact Nat.le_refl _,rfl⟩
   ·simp only[go_sem,zd,htk,ht1,hd1,hlt]
    exact⟨by rw[hln];exact Nat.le_refl _,rfl⟩
   refine zZ rfl (.ptr (st.length+2) 5) (by simp only[go_sem]) (by simp only[go_sem]) ?_
   refine Qk (d:=[3,6,10]) (d2:=[3,6,8,10]) rfl rfl rfl .any rfl ?_ ?_ ?_
   ·simp only[go_sem]
   ·simp only[go_sem]
   refine Qb ?_
   simp only[go_sem]
   refine Q2 g3 (zA hp) ?_
   simp only[go_sem,zb hp]
   refine qS hT (g4 rfl).1 (zA hp) ?_
   simp only[go_sem,zb hp]
   refine⟨m,_,by omega,?_,nd.addKid x,q3,av+1,true,b4,ex,hl,by rw[qc];simp;omega,by rw[qs];exact hnl,rfl,by rw[hfin];rw[qV,qU,Zq,Zp,qs,qc,List.length_append];rfl⟩
   repeat (first | exact zj | refine zk _ ?_ | refine zg _ ?_ | refine zf _ ?_)
theorem nz {T:List Tk} (hT:T.length≤100000) {pid:Nat} {e ty:PM Nd} (he:DC T pid 24 e) (hc:DC T pid 36 (wk T ty)):DC T pid 22 (jg T e ty):=by
 intro p r p' h K st hp hk
 unfold jg at h
 rw[Option.bind_eq_some_iff] at h
 obtain⟨b,hb,h⟩:=h
 cases b with
 | true=>exact gA hT he hc hb h hp hk
 | false=>exact xH hT he hc hb h hp hk
end Go.Proofs
