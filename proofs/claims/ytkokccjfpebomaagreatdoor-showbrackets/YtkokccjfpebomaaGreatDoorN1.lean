/- value, decl, fun, branch. -/
import Derived.Test.YtkokccjfpebomaaGreatDoorW5
set_option maxHeartbeats 4000000
set_option linter.unusedSimpArgs false
set_option linter.unusedVariables false
set_option maxRecDepth 8000
namespace Go.AL
theorem ET (n:Nat) (x:Tx) (b:Bool) (v:Nd):Ids n (.tuple [.sc (.string (ba x)),.sc (.bool b),zJ v])=True:=eq_true (.tuple _ (by
 intro i hi
 match i with
 | 0=>exact .sc _
 | 1=>exact .sc _
 | 2=>exact Vp n v
 | i+3=>simp at hi;omega))
theorem Uw (x:Tx) (b:Bool) (v:Nd):norm (.tuple [.sc (.string (ba x)),.sc (.bool b),zJ v]) = .tuple [.sc (.string (ba x)),.sc (.bool b),zJ v]:=by
 show SV.tuple [_,_,norm1 (zJ v)]=_
 rw[W1];rfl
theorem KV {T:List Tk} {pid:Nat} {p:PS} {st:St} (hp:Wz T pid p st):HH st pid=True∧ZC st pid=True∧qM st pid=[.slice .imm 4 (T.map ZF),.sc (.int .i64 p.pos),.sc (.int .i64 p.deep),.sc (.bool p.flat),.sc (.int .i64 p.bad),.sc (.int .i64 p.e)]:=zV hp
end Go.AL
namespace Go.Proofs
open Go Go.AL Tryz
def HV (T:List Tk) (pid:Nat) (f:FuncId) (e:PM (Tx×Bool×Nd)):Prop:=∀ (p:PS) (nm:Tx) (rc:Bool) (v:Nd) (p':PS),e p=some ((nm,rc,v),p')→∀ (K:SV→St→Prop) (st:St),Wz T pid p st→K (.tuple [.sc (.string (ba nm)),.sc (.bool rc),zJ v]) (st.set pid (.cells (Z9 T p')))→ACalls prog f [.ptr pid 0] K st
theorem Fj {T:List Tk} (hT:T.length≤100000) {pid:Nat} {e:PM Nd} (he:HC T pid 79 e):HV T pid 104 (Ye T e):=by
 intro p nm rc v p' h K st hp hk
 refine zE [] func104 rfl results104 ntmps104 ?_
 unfold Ye Jn at h
 simp only[Option.bind_eq_some_iff,Option.map_eq_some_iff,Prod.exists,Prod.mk.injEq] at h
 obtain⟨b0,p1,h1,t1,p2,h2,p3,h3,p4,h4,v1,p5,h5,⟨rfl,rfl,rfl⟩,rfl⟩:=h
 have y1:=KV (QN (p':=p3) hp)
 cases b0 with
 | false =>
  simp only[Bool.false_eq_true,false_and,if_false,Option.some.injEq] at h4
  subst h4
  simp only[go_sem]
  refine YQ hT h1 (zI hp) ?_
  simp only[go_sem,zb hp]
  refine VX hT h2 (zm hp) ?_
  simp only[go_sem,zb hp]
  refine Z2 hT h3 (zm hp) fun _=>?_
  simp only[go_sem,zb hp,y1.1,y1.2.1,y1.2.2]
  first | (unfold zl;simp only[ze,zc,zq,List.set_cons_succ,List.set_cons_zero,List.getD_cons_succ,List.getD_cons_zero]) | skip
  refine Wk he rfl h5 (zm hp) ?_
  simp only[go_sem,zb hp]
  exact Gt (fun n=>ET n t1.text false v1) hk (Uw _ _ _)
 | true =>
  by_cases hd:p3.deep<40
  ·rw[if_pos ⟨rfl,hd⟩] at h4
   rw[Option.bind_eq_some_iff] at h4
   obtain⟨b,h6,h4⟩:=h4
   have c1:decide ((p3.deep:Int)<40)=true:=by simp;omega
   rw[Option.map_eq_some_iff] at h6
   obtain⟨t,h6,rfl⟩:=h6
   cases hb:isT t [102,117,110] with
   | true =>
    rw[hb] at h4
    rw[if_pos rfl] at h4
    cases h4
    simp only[go_sem]
    refine YQ hT h1 (zI hp) ?_
    simp only[go_sem,zb hp]
    refine VX hT h2 (zm hp) ?_
    simp only[go_sem,zb hp]
    refine Z2 hT h3 (zm hp) fun _=>?_
    unfold Z9
    simp only[go_sem,zb hp,y1.1,y1.2.1,y1.2.2,c1]
    first | (unfold zl;simp only[ze,zc,zq,List.set_cons_succ,List.set_cons_zero,List.getD_cons_succ,List.getD_cons_zero]) | skip
    refine ZB h6 (zm hp) ?_
    simp only[go_sem,zb hp,hb,c1]
    first | (unfold zl;simp only[ze,zc,zq,List.set_cons_succ,List.set_cons_zero,List.getD_cons_succ,List.getD_cons_zero]) | skip
    refine Wk he rfl h5 (zm hp) ?_
    simp only[go_sem,zb hp]
    exact Gt (fun n=>ET n t1.text true v1) hk (Uw _ _ _)
   | false =>
    rw[hb] at h4
    rw[if_neg (by simp)] at h4
    simp only[go_sem]
    refine YQ hT h1 (zI hp) ?_
    simp only[go_sem,zb hp]
    refine VX hT h2 (zm hp) ?_
    simp only[go_sem,zb hp]
    refine Z2 hT h3 (zm hp) fun _=>?_
    unfold Z9
    simp only[go_sem,zb hp,y1.1,y1.2.1,y1.2.2,c1]
    first | (unfold zl;simp only[ze,zc,zq,List.set_cons_succ,List.set_cons_zero,List.getD_cons_succ,List.getD_cons_zero]) | skip
    refine ZB h6 (zm hp) ?_
    simp only[go_sem,zb hp,hb,c1]
    first | (unfold zl;simp only[ze,zc,zq,List.set_cons_succ,List.set_cons_zero,List.getD_cons_succ,List.getD_cons_zero]) | skip
    refine K5 h4 (zm hp) fun _=>?_
    simp only[go_sem,zb hp]
    first | (unfold zl;simp only[ze,zc,zq,List.set_cons_succ,List.set_cons_zero,List.getD_cons_succ,List.getD_cons_zero]) | skip
    refine Wk he rfl h5 (zm hp) ?_
    simp only[go_sem,zb hp]
    exact Gt (fun n=>ET n t1.text true v1) hk (Uw _ _ _)
  ·rw[if_neg (by simp[hd])] at h4
   cases h4
   have c1:decide ((p3.deep:Int)<40)=false:=by simp;omega
   simp only[go_sem]
   refine YQ hT h1 (zI hp) ?_
   simp only[go_sem,zb hp]
   refine VX hT h2 (zm hp) ?_
   simp only[go_sem,zb hp]
   refine Z2 hT h3 (zm hp) fun _=>?_
   unfold Z9
   simp only[go_sem,zb hp,y1.1,y1.2.1,y1.2.2,c1]
   first | (unfold zl;simp only[ze,zc,zq,List.set_cons_succ,List.set_cons_zero,List.getD_cons_succ,List.getD_cons_zero]) | skip
   refine Wk he rfl h5 (zm hp) ?_
   simp only[go_sem,zb hp]
   exact Gt (fun n=>ET n t1.text true v1) hk (Uw _ _ _)
end Go.Proofs
namespace Go.Proofs
open Go Go.AL Tryz
theorem r9 {T:List Tk} (hT:T.length≤100000) {pid:Nat} {e:PM Nd} (he:HC T pid 79 e):HC T pid 124 (GO T e):=by
 intro p r p' h K st hp hk
 refine zM (zE [] func124 rfl results124 ntmps124 ?_)
 unfold GO at h
 simp only[Option.bind_eq_some_iff,Option.map_eq_some_iff,Prod.exists,Prod.mk.injEq] at h
 obtain⟨t0,p1,h1,t1,p2,h2,p3,h3,x,p4,h4,rfl,rfl⟩:=h
 simp only[go_sem]
 refine QQ hT h1 (zI hp) ?_
 simp only[go_sem,zb hp]
 refine VX hT h2 (zm hp) ?_
 simp only[go_sem,zb hp]
 refine Z2 hT h3 (zm hp) fun _=>?_
 simp only[go_sem,zb hp]
 refine Wk he rfl h4 (zm hp) ?_
 simp only[go_sem,zb hp]
 refine Xl rfl rfl rfl rfl (fun _=>rfl) (qb _ _ (.inr rfl) 6 [x]) ?_
 unfold Q1
 simp only[go_sem,zb hp]
 exact Ym (z1:=0) (z2:=6) (m1 :=.full) (m2 :=.full) (nd:=zT 6 t0.pos t1.text [x]) hk (.inr rfl) (.inl rfl)
end Go.Proofs
namespace Go.Proofs
open Go Go.AL Tryz
theorem gx {T:List Tk} (hT:T.length≤100000) {pid:Nat} {e:PM Nd} (he:HC T pid 79 e):HC T pid 125 (Jf T e):=by
 intro p r p' h K st hp hk
 refine zM (zE [] func125 rfl results125 ntmps125 ?_)
 unfold Jf at h
 simp only[Option.bind_eq_some_iff,Option.map_eq_some_iff,Prod.exists,Prod.mk.injEq] at h
 obtain⟨t0,p1,h1,x1,p2,h2,p3,h3,x2,p4,h4,p5,h5,x3,p6,h6,rfl,rfl⟩:=h
 simp only[go_sem]
 refine QQ hT h1 (zI hp) ?_
 simp only[go_sem,zb hp]
 refine Wk he rfl h2 (zm hp) ?_
 simp only[go_sem,zb hp]
 refine Z2 hT h3 (zm hp) fun _=>?_
 simp only[go_sem,zb hp]
 refine Wk he rfl h4 (zm hp) ?_
 simp only[go_sem,zb hp]
 refine Z2 hT h5 (zm hp) fun _=>?_
 simp only[go_sem,zb hp]
 refine zP [] [(0,[6]),(0,[6]),(0,[6]),(0,[]),(3,[6]),(0,[]),(3,[7]),(1,[8])] mixed rfl ?_
 simp only[go_sem,zy,zu,zw,zt,zr,zG,zH,zx,zh]
 refine⟨_,_,Wk he rfl h6 (zm hp) ⟨rfl,rfl⟩,?_⟩
 simp only[go_sem,zy,zu,zw,zt,zr,zG,zH,zx,zh,zb hp]
 rw[zL]
 refine⟨.slice .full 6 [zJ x1,zJ x2,zJ x3],?_,?_⟩
 ·simp only[go_sem]
  exact⟨⟨[],by simp⟩,qb _ _ (.inr rfl) _ [_,_,_],.inl rfl⟩
 refine⟨_,_,Xl rfl rfl rfl rfl (fun _=>rfl) (qb _ _ (.inr rfl) 6 [x1,x2,x3]) ⟨rfl,rfl⟩,?_⟩
 unfold Q1
 simp only[go_sem,zy,zu,zw,zt,zr,zG,zH,zx,zh,zb hp]
 exact Ym (z1:=0) (z2:=6) (m1 :=.full) (m2 :=.full) (nd:=zT 10 t0.pos [] [x1,x2,x3]) hk (.inr rfl) (.inl rfl)
end Go.Proofs
namespace Go.Proofs
open Go Go.AL Tryz
theorem gW {T:List Tk} (hT:T.length≤100000) {pid:Nat} {e ty:PM Nd} (he:HC T pid 79 e) (hy:HC T pid 138 ty):HC T pid 76 (WE T e ty):=by
 intro p r p' h K st hp hk
 refine zM (zE [] func76 rfl results76 ntmps76 ?_)
 unfold WE Jn at h
 simp only[Option.bind_eq_some_iff,Option.map_eq_some_iff,Prod.exists,Prod.mk.injEq] at h
 obtain⟨b,⟨t,h0,rfl⟩,u,pu,h1,p1,h2,rfl,rfl⟩:=h
 cases hb:isT t [116,121,112,101] with
 | true =>
  rw[hb,if_pos rfl] at h1
  simp only[go_sem]
  refine ZB h0 (zI hp) ?_
  simp only[go_sem,hb]
  refine vt hT hy _ _ _ h1 _ _ (zI hp) ?_
  simp only[go_sem,zb hp]
  refine Z2 hT h2 (zm hp) fun _=>?_
  simp only[go_sem,zb hp]
  exact Zw hk
 | false =>
  rw[hb,if_neg (by simp)] at h1
  simp only[Option.bind_eq_some_iff,Option.map_eq_some_iff,Prod.exists,Prod.mk.injEq] at h1
  obtain⟨t1,p2,h3,nm,rc,v,p3,h4,rfl,rfl⟩:=h1
  cases rc with
  | true =>
   simp only[go_sem]
   refine ZB h0 (zI hp) ?_
   simp only[go_sem,hb]
   refine QQ hT h3 (zI hp) ?_
   have y1:=KV (QN (p':=p2) hp)
   unfold Z9
   simp only[go_sem,zb hp,y1.1,y1.2.1,y1.2.2]
   first | (unfold zl;simp only[ze,zc,zq,List.set_cons_succ,List.set_cons_zero,List.getD_cons_succ,List.getD_cons_zero]) | skip
   refine Fj hT he _ _ _ _ _ h4 _ _ (zm hp) ?_
   have y2:=KV (QN (p':=p3) hp)
   unfold Z9
   simp only[go_sem,zb hp,y2.1,y2.2.1,y2.2.2]
   first | (unfold zl;simp only[ze,zc,zq,List.set_cons_succ,List.set_cons_zero,List.getD_cons_succ,List.getD_cons_zero]) | skip
   refine Xl rfl rfl rfl rfl (fun _=>rfl) (qb _ _ (.inr rfl) 6 [v]) ?_
   unfold Q1
   simp only[go_sem,zb hp]
   first | (unfold zl;simp only[ze,zc,zq,List.set_cons_succ,List.set_cons_zero,List.getD_cons_succ,List.getD_cons_zero]) | skip
   refine Z2 hT h2 (zm hp) fun _=>?_
   simp only[go_sem,zb hp]
   exact Ym (z1:=0) (z2:=6) (m1 :=.full) (m2 :=.full) (nd:=zT 29 t1.pos nm [v]) hk (.inr rfl) (.inl rfl)
  | false =>
   simp only[go_sem]
   refine ZB h0 (zI hp) ?_
   simp only[go_sem,hb]
   refine QQ hT h3 (zI hp) ?_
   have y1:=KV (QN (p':=p2) hp)
   unfold Z9
   simp only[go_sem,zb hp,y1.1,y1.2.1,y1.2.2]
   first | (unfold zl;simp only[ze,zc,zq,List.set_cons_succ,List.set_cons_zero,List.getD_cons_succ,List.getD_cons_zero]) | skip
   refine Fj hT he _ _ _ _ _ h4 _ _ (zm hp) ?_
   have y2:=KV (QN (p':=p3) hp)
   unfold Z9
   simp only[go_sem,zb hp,y2.1,y2.2.1,y2.2.2]
   first | (unfold zl;simp only[ze,zc,zq,List.set_cons_succ,List.set_cons_zero,List.getD_cons_succ,List.getD_cons_zero]) | skip
   refine Xl rfl rfl rfl rfl (fun _=>rfl) (qb _ _ (.inr rfl) 6 [v]) ?_
   unfold Q1
   simp only[go_sem,zb hp]
   first | (unfold zl;simp only[ze,zc,zq,List.set_cons_succ,List.set_cons_zero,List.getD_cons_succ,List.getD_cons_zero]) | skip
   refine Z2 hT h2 (zm hp) fun _=>?_
   simp only[go_sem,zb hp]
   exact Ym (z1:=0) (z2:=6) (m1 :=.full) (m2 :=.full) (nd:=zT 28 t1.pos nm [v]) hk (.inr rfl) (.inl rfl)
end Go.Proofs
