/- value, decl, fun, branch. -/
import Derived.Test.YtkokccjfpebomaaGreatDoorW5
set_option maxHeartbeats 4000000
set_option linter.unusedSimpArgs false
set_option linter.unusedVariables false
set_option maxRecDepth 8000
namespace Go.AL
theorem zeb (n:Nat) (x:Tx) (b:Bool) (v:Nd):Ids n (.tuple [.sc (.string (ba x)),.sc (.bool b),zH v])=True:=eq_true (.tuple _ (by
 intro i hi
 match i with
 | 0=>exact .sc _
 | 1=>exact .sc _
 | 2=>exact JZ n v
 | i+3=>simp at hi;omega))
theorem zcs (x:Tx) (b:Bool) (v:Nd):norm (.tuple [.sc (.string (ba x)),.sc (.bool b),zH v]) = .tuple [.sc (.string (ba x)),.sc (.bool b),zH v]:=by
 show SV.tuple [_,_,norm1 (zH v)]=_
 rw[zak];rfl
theorem zbh {T:List Tk} {pid:Nat} {p:PS} {st:St} (hp:V8 T pid p st):inS st pid=True∧Zr st pid=True∧qG st pid=[.slice .imm 4 (T.map ZB),.sc (.int .i64 p.pos),.sc (.int .i64 p.deep),.sc (.bool p.flat),.sc (.int .i64 p.bad),.sc (.int .i64 p.e)]:=zT hp
end Go.AL
namespace Go.Proofs
open Go Go.AL
def HV (T:List Tk) (pid:Nat) (f:FuncId) (e:PM (Tx×Bool×Nd)):Prop:=∀ (p:PS) (nm:Tx) (rc:Bool) (v:Nd) (p':PS),e p=some ((nm,rc,v),p')→∀ (K:SV→St→Prop) (st:St),V8 T pid p st→K (.tuple [.sc (.string (ba nm)),.sc (.bool rc),zH v]) (st.set pid (.cells (ZX T p')))→ACalls Tryz.prog f [.ptr pid 0] K st
theorem zhR {T:List Tk} (hT:T.length≤100000) {pid:Nat} {e:PM Nd} (he:HC T pid 79 e):HV T pid 104 (YB T e):=by
 intro p nm rc v p' h K st hp hk
 refine zC [] Tryz.func104 rfl Tryz.results104 Tryz.ntmps104 ?_
 unfold YB Y1 at h
 simp only[Option.bind_eq_some_iff,Option.map_eq_some_iff,Prod.exists,Prod.mk.injEq] at h
 obtain⟨b0,p1,h1,t1,p2,h2,p3,h3,p4,h4,v1,p5,h5,⟨rfl,rfl,rfl⟩,rfl⟩:=h
 have y1:=zbh (Qy (p':=p3) hp)
 cases b0 with
 | false =>
  simp only[Bool.false_eq_true,false_and,if_false,Option.some.injEq] at h4
  subst h4
  simp only[go_sem]
  refine Yv hT h1 (zG hp) ?_
  simp only[go_sem,za hp]
  refine VW hT h2 (zl hp) ?_
  simp only[go_sem,za hp]
  refine ZQ hT h3 (zl hp) fun _=>?_
  simp only[go_sem,za hp,y1.1,y1.2.1,y1.2.2]
  first | (unfold zk;simp only[zd,zb,zo,List.set_cons_succ,List.set_cons_zero,List.getD_cons_succ,List.getD_cons_zero]) | skip
  refine VJ he rfl h5 (zl hp) ?_
  simp only[go_sem,za hp]
  exact zeW (fun n=>zeb n t1.text false v1) hk (zcs _ _ _)
 | true =>
  by_cases hd:p3.deep<40
  ·rw[if_pos ⟨rfl,hd⟩] at h4
   rw[Option.bind_eq_some_iff] at h4
   obtain⟨b,h6,h4⟩:=h4
   have c1:decide ((p3.deep:Int)<40)=true:=by simp;omega
   rw[Option.map_eq_some_iff] at h6
   obtain⟨t,h6,rfl⟩:=h6
   cases hb:isT t [102,117,110] with
   | true =>
    rw[hb] at h4
    rw[if_pos rfl] at h4
    cases h4
    simp only[go_sem]
    refine Yv hT h1 (zG hp) ?_
    simp only[go_sem,za hp]
    refine VW hT h2 (zl hp) ?_
    simp only[go_sem,za hp]
    refine ZQ hT h3 (zl hp) fun _=>?_
    unfold ZX
    simp only[go_sem,za hp,y1.1,y1.2.1,y1.2.2,c1]
    first | (unfold zk;simp only[zd,zb,zo,List.set_cons_succ,List.set_cons_zero,List.getD_cons_succ,List.getD_cons_zero]) | skip
    refine Zs h6 (zl hp) ?_
    simp only[go_sem,za hp,hb,c1]
    first | (unfold zk;simp only[zd,zb,zo,List.set_cons_succ,List.set_cons_zero,List.getD_cons_succ,List.getD_cons_zero]) | skip
    refine VJ he rfl h5 (zl hp) ?_
    simp only[go_sem,za hp]
    exact zeW (fun n=>zeb n t1.text true v1) hk (zcs _ _ _)
   | false =>
    rw[hb] at h4
    rw[if_neg (by simp)] at h4
    simp only[go_sem]
    refine Yv hT h1 (zG hp) ?_
    simp only[go_sem,za hp]
    refine VW hT h2 (zl hp) ?_
    simp only[go_sem,za hp]
    refine ZQ hT h3 (zl hp) fun _=>?_
    unfold ZX
    simp only[go_sem,za hp,y1.1,y1.2.1,y1.2.2,c1]
    first | (unfold zk;simp only[zd,zb,zo,List.set_cons_succ,List.set_cons_zero,List.getD_cons_succ,List.getD_cons_zero]) | skip
    refine Zs h6 (zl hp) ?_
    simp only[go_sem,za hp,hb,c1]
    first | (unfold zk;simp only[zd,zb,zo,List.set_cons_succ,List.set_cons_zero,List.getD_cons_succ,List.getD_cons_zero]) | skip
    refine zbz h4 (zl hp) fun _=>?_
    simp only[go_sem,za hp]
    first | (unfold zk;simp only[zd,zb,zo,List.set_cons_succ,List.set_cons_zero,List.getD_cons_succ,List.getD_cons_zero]) | skip
    refine VJ he rfl h5 (zl hp) ?_
    simp only[go_sem,za hp]
    exact zeW (fun n=>zeb n t1.text true v1) hk (zcs _ _ _)
  ·rw[if_neg (by simp[hd])] at h4
   cases h4
   have c1:decide ((p3.deep:Int)<40)=false:=by simp;omega
   simp only[go_sem]
   refine Yv hT h1 (zG hp) ?_
   simp only[go_sem,za hp]
   refine VW hT h2 (zl hp) ?_
   simp only[go_sem,za hp]
   refine ZQ hT h3 (zl hp) fun _=>?_
   unfold ZX
   simp only[go_sem,za hp,y1.1,y1.2.1,y1.2.2,c1]
   first | (unfold zk;simp only[zd,zb,zo,List.set_cons_succ,List.set_cons_zero,List.getD_cons_succ,List.getD_cons_zero]) | skip
   refine VJ he rfl h5 (zl hp) ?_
   simp only[go_sem,za hp]
   exact zeW (fun n=>zeb n t1.text true v1) hk (zcs _ _ _)
end Go.Proofs
namespace Go.Proofs
open Go Go.AL
theorem zxZ {T:List Tk} (hT:T.length≤100000) {pid:Nat} {e:PM Nd} (he:HC T pid 79 e):HC T pid 124 (zkt T e):=by
 intro p r p' h K st hp hk
 refine zK (zC [] Tryz.func124 rfl Tryz.results124 Tryz.ntmps124 ?_)
 unfold zkt at h
 simp only[Option.bind_eq_some_iff,Option.map_eq_some_iff,Prod.exists,Prod.mk.injEq] at h
 obtain⟨t0,p1,h1,t1,p2,h2,p3,h3,x,p4,h4,rfl,rfl⟩:=h
 simp only[go_sem]
 refine QC hT h1 (zG hp) ?_
 simp only[go_sem,za hp]
 refine VW hT h2 (zl hp) ?_
 simp only[go_sem,za hp]
 refine ZQ hT h3 (zl hp) fun _=>?_
 simp only[go_sem,za hp]
 refine VJ he rfl h4 (zl hp) ?_
 simp only[go_sem,za hp]
 refine Q7 rfl rfl rfl rfl (fun _=>rfl) (zY _ _ (.inr rfl) 6 [x]) ?_
 unfold QM
 simp only[go_sem,za hp]
 exact XT (z1:=0) (z2:=6) (m1 :=.full) (m2 :=.full) (nd:=zR 6 t0.pos t1.text [x]) hk (.inr rfl) (.inl rfl)
end Go.Proofs
namespace Go.Proofs
open Go Go.AL
theorem zpj {T:List Tk} (hT:T.length≤100000) {pid:Nat} {e:PM Nd} (he:HC T pid 79 e):HC T pid 125 (VB T e):=by
 intro p r p' h K st hp hk
 refine zK (zC [] Tryz.func125 rfl Tryz.results125 Tryz.ntmps125 ?_)
 unfold VB at h
 simp only[Option.bind_eq_some_iff,Option.map_eq_some_iff,Prod.exists,Prod.mk.injEq] at h
 obtain⟨t0,p1,h1,x1,p2,h2,p3,h3,x2,p4,h4,p5,h5,x3,p6,h6,rfl,rfl⟩:=h
 simp only[go_sem]
 refine QC hT h1 (zG hp) ?_
 simp only[go_sem,za hp]
 refine VJ he rfl h2 (zl hp) ?_
 simp only[go_sem,za hp]
 refine ZQ hT h3 (zl hp) fun _=>?_
 simp only[go_sem,za hp]
 refine VJ he rfl h4 (zl hp) ?_
 simp only[go_sem,za hp]
 refine ZQ hT h5 (zl hp) fun _=>?_
 simp only[go_sem,za hp]
 refine zO [] [(0,[6]),(0,[6]),(0,[6]),(0,[]),(3,[6]),(0,[]),(3,[7]),(1,[8])] Tryz.mixed rfl ?_
 simp only[go_sem,zw,zt,zr,zp,zq,zE,zF,zu,zg]
 refine⟨_,_,VJ he rfl h6 (zl hp) ⟨rfl,rfl⟩,?_⟩
 simp only[go_sem,zw,zt,zr,zp,zq,zE,zF,zu,zg,za hp]
 rw[zJ]
 refine⟨.slice .full 6 [zH x1,zH x2,zH x3],?_,?_⟩
 ·simp only[go_sem]
  exact⟨⟨[],by simp⟩,zY _ _ (.inr rfl) _ [_,_,_],.inl rfl⟩
 refine⟨_,_,Q7 rfl rfl rfl rfl (fun _=>rfl) (zY _ _ (.inr rfl) 6 [x1,x2,x3]) ⟨rfl,rfl⟩,?_⟩
 unfold QM
 simp only[go_sem,zw,zt,zr,zp,zq,zE,zF,zu,zg,za hp]
 exact XT (z1:=0) (z2:=6) (m1 :=.full) (m2 :=.full) (nd:=zR 10 t0.pos [] [x1,x2,x3]) hk (.inr rfl) (.inl rfl)
end Go.Proofs
namespace Go.Proofs
open Go Go.AL
theorem zpy {T:List Tk} (hT:T.length≤100000) {pid:Nat} {e ty:PM Nd} (he:HC T pid 79 e) (hy:HC T pid 138 ty):HC T pid 76 (zah T e ty):=by
 intro p r p' h K st hp hk
 refine zK (zC [] Tryz.func76 rfl Tryz.results76 Tryz.ntmps76 ?_)
 unfold zah Y1 at h
 simp only[Option.bind_eq_some_iff,Option.map_eq_some_iff,Prod.exists,Prod.mk.injEq] at h
 obtain⟨b,⟨t,h0,rfl⟩,u,pu,h1,p1,h2,rfl,rfl⟩:=h
 cases hb:isT t [116,121,112,101] with
 | true =>
  rw[hb,if_pos rfl] at h1
  simp only[go_sem]
  refine Zs h0 (zG hp) ?_
  simp only[go_sem,hb]
  refine zku hT hy _ _ _ h1 _ _ (zG hp) ?_
  simp only[go_sem,za hp]
  refine ZQ hT h2 (zl hp) fun _=>?_
  simp only[go_sem,za hp]
  exact Zk hk
 | false =>
  rw[hb,if_neg (by simp)] at h1
  simp only[Option.bind_eq_some_iff,Option.map_eq_some_iff,Prod.exists,Prod.mk.injEq] at h1
  obtain⟨t1,p2,h3,nm,rc,v,p3,h4,rfl,rfl⟩:=h1
  cases rc with
  | true =>
   simp only[go_sem]
   refine Zs h0 (zG hp) ?_
   simp only[go_sem,hb]
   refine QC hT h3 (zG hp) ?_
   have y1:=zbh (Qy (p':=p2) hp)
   unfold ZX
   simp only[go_sem,za hp,y1.1,y1.2.1,y1.2.2]
   first | (unfold zk;simp only[zd,zb,zo,List.set_cons_succ,List.set_cons_zero,List.getD_cons_succ,List.getD_cons_zero]) | skip
   refine zhR hT he _ _ _ _ _ h4 _ _ (zl hp) ?_
   have y2:=zbh (Qy (p':=p3) hp)
   unfold ZX
   simp only[go_sem,za hp,y2.1,y2.2.1,y2.2.2]
   first | (unfold zk;simp only[zd,zb,zo,List.set_cons_succ,List.set_cons_zero,List.getD_cons_succ,List.getD_cons_zero]) | skip
   refine Q7 rfl rfl rfl rfl (fun _=>rfl) (zY _ _ (.inr rfl) 6 [v]) ?_
   unfold QM
   simp only[go_sem,za hp]
   first | (unfold zk;simp only[zd,zb,zo,List.set_cons_succ,List.set_cons_zero,List.getD_cons_succ,List.getD_cons_zero]) | skip
   refine ZQ hT h2 (zl hp) fun _=>?_
   simp only[go_sem,za hp]
   exact XT (z1:=0) (z2:=6) (m1 :=.full) (m2 :=.full) (nd:=zR 29 t1.pos nm [v]) hk (.inr rfl) (.inl rfl)
  | false =>
   simp only[go_sem]
   refine Zs h0 (zG hp) ?_
   simp only[go_sem,hb]
   refine QC hT h3 (zG hp) ?_
   have y1:=zbh (Qy (p':=p2) hp)
   unfold ZX
   simp only[go_sem,za hp,y1.1,y1.2.1,y1.2.2]
   first | (unfold zk;simp only[zd,zb,zo,List.set_cons_succ,List.set_cons_zero,List.getD_cons_succ,List.getD_cons_zero]) | skip
   refine zhR hT he _ _ _ _ _ h4 _ _ (zl hp) ?_
   have y2:=zbh (Qy (p':=p3) hp)
   unfold ZX
   simp only[go_sem,za hp,y2.1,y2.2.1,y2.2.2]
   first | (unfold zk;simp only[zd,zb,zo,List.set_cons_succ,List.set_cons_zero,List.getD_cons_succ,List.getD_cons_zero]) | skip
   refine Q7 rfl rfl rfl rfl (fun _=>rfl) (zY _ _ (.inr rfl) 6 [v]) ?_
   unfold QM
   simp only[go_sem,za hp]
   first | (unfold zk;simp only[zd,zb,zo,List.set_cons_succ,List.set_cons_zero,List.getD_cons_succ,List.getD_cons_zero]) | skip
   refine ZQ hT h2 (zl hp) fun _=>?_
   simp only[go_sem,za hp]
   exact XT (z1:=0) (z2:=6) (m1 :=.full) (m2 :=.full) (nd:=zR 28 t1.pos nm [v]) hk (.inr rfl) (.inl rfl)
end Go.Proofs
