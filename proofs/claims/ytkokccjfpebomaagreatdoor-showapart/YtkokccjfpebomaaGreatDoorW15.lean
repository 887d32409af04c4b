/- exp: the map of what reads an exp by its key. -/
import Derived.Test.YtkokccjfpebomaaGreatDoorQ1
import Derived.Test.YtkokccjfpebomaaGreatDoorW8
import Derived.Test.YtkokccjfpebomaaGreatDoorN1
set_option maxHeartbeats 4000000
set_option linter.unusedSimpArgs false
set_option linter.unusedVariables false
set_option maxRecDepth 8000
namespace Go.AL
def zeA (S:St) (X:Ob):List (List Nat×St):=[([],S),([0],S++[X])]
theorem z7 {S:St} {X:Ob}:XD (zeA S X) []=S:=rfl
theorem zZ {S:St} {X:Ob}:XD (zeA S X) [0]=S++[X]:=rfl
end Go.AL
namespace Go.Proofs
open Go Go.AL
theorem Tryz.amap110:zc6 Tryz.prog 110=some (9,.string,96):=by kernel_rfl
theorem Tryz.zeroSV96:Y2 Tryz.prog 96=some (.sc .nilFunc):=by kernel_rfl
def fnE (l:List (Tx×FuncId)):List (Value×SV):=l.map fun q=>(.string (ba q.1),.func (.func q.2) [] [])
def zag:List (Tx×FuncId):=[([108,101,116],123),([102,117,110],124),([105,102],125)]
theorem zal {P:Program} {kt:TypeId} (b:ByteArray):qR P kt .string (.string b)=true:=by simp[qR,Zv]
theorem zlM {P:Program} {kt:TypeId} (l:List (Tx×FuncId)):(fnE l).all (fun q=>qR P kt .string q.1)=true:=by
 rw[List.all_eq_true]
 intro q hq
 obtain⟨a,_,rfl⟩:=List.mem_map.1 hq
 exact zal _
theorem zAW {s:Tx} {f:FuncId} {mid:Nat} {l:List (Tx×FuncId)} {st:St} {N:St→Prop} (hm:st[mid]?=some (.map (fnE l))) (hn:Jv (fnE l) (.string (ba s)) (.func (.func f) [] [])=fnE (l++[(s,f)])) :
  q7 Tryz.prog 110 st (.mp mid) (.sc (.string (ba s))) (.func (.func f) [] []) N=N (st.set mid (.map (fnE (l++[(s,f)])))):=by
 simp only[q7,V3,AL.keyOf,Tryz.amap110,(Vb hm).2,zal,zlM,Bool.and_self,if_true,hn]
theorem zcL {s:Tx} {f:FuncId} {st:St} {l:List (Tx×FuncId)} {N:St→Prop} (hn:Jv (fnE l) (.string (ba s)) (.func (.func f) [] [])=fnE (l++[(s,f)]))
  (h:N (st++[.map (fnE (l++[(s,f)]))])):q7 Tryz.prog 110 (st++[.map (fnE l)]) (.mp st.length) (.sc (.string (ba s))) (.func (.func f) [] []) N:=by
 rw[zAW (l:=l) (by simp) hn]
 have:(st++[Ob.map (fnE l)]).set st.length (.map (fnE (l++[(s,f)])))=st++[.map (fnE (l++[(s,f)]))]:=by
  rw[List.set_append_right _ _ (Nat.le_refl _)];simp
 rw[this];exact h
theorem zya {st:St} {N:St→Prop} (h:N (st++[.map (fnE zag)])) :
  q7 Tryz.prog 110 (st++[.map []]) (.mp st.length) (.sc (.string ⟨#[108,101,116]⟩)) (.func (.func 123) [] []) fun x=>q7 Tryz.prog 110 x (.mp st.length) (.sc (.string ⟨#[102,117,110]⟩)) (.func (.func 124) [] []) fun x=>q7 Tryz.prog 110 x (.mp st.length) (.sc (.string ⟨#[105,102]⟩)) (.func (.func 125) [] []) N :=
 zcL (l:=[]) (s:=[108,101,116]) rfl (zcL (l:=[([108,101,116],123)]) (s:=[102,117,110]) rfl (zcL (l:=[([108,101,116],123),([102,117,110],124)]) (s:=[105,102]) rfl h))
theorem zcS {K:SV→St→Prop} {st:St} (hk:K (.mp st.length) (st++[.map (fnE zag)])):ACalls Tryz.prog 107 [] K st:=by
 refine Qe (M:=[]) Tryz.func107 rfl Tryz.results107 Tryz.ntmps107 ?_
 simp only[go_sem]
 exact zya hk
theorem zvP (s t:Tx):YY (.string (ba s)) (.string (ba t))=decide (s=t):=by
 have:=VV (d :=.string) (a :=.string (ba s)) (b :=.string (ba t)) (by simp[Zv]) (by simp[Zv])
 by_cases hc:s=t
 ·subst hc;simp only[decide_true];exact this.2 rfl
 ·simp only[hc,decide_false]
  cases hk:YY (.string (ba s)) (.string (ba t)) with
  | false=>rfl
  | true =>
   exfalso;apply hc
   have h:=this.1 hk
   have h2:ba s=ba t:=Value.string.inj h
   have h3:=congrArg (fun b:ByteArray=>b.data.toList) h2
   exact h3
theorem zp1 {st:St} {id:Nat} (hid:Z9 st id=some (fnE zag)) (s:Tx):Xn Tryz.prog 110 st (.mp id) (.sc (.string (ba s))) =
  some (if s=[108,101,116] then (.func (.func 123) [] [],true) else if s=[102,117,110] then (.func (.func 124) [] [],true) else if s=[105,102] then (.func (.func 125) [] [],true) else (.sc .nilFunc,false)):=by
 simp only[Xn,AL.keyOf,Tryz.amap110,hid,Tryz.zeroSV96,zal,zlM,Bool.and_self,if_true]
 unfold keyIdx fnE zag
 simp only[List.map_cons,List.map_nil,List.findIdx?_cons,zvP,List.findIdx?_nil]
 by_cases h1:s=[108,101,116]
 ·simp[h1]
 by_cases h2:s=[102,117,110]
 ·simp[h1,h2]
 by_cases h3:s=[105,102]
 ·simp[h1,h2,h3]
 ·simp[h1,h2,h3]
theorem Tryz.aIsFunc96:Jd Tryz.prog 96=true:=by kernel_rfl
theorem ziQ {T:List Tk} {p:PS} {b:Bool} (h:p.flat=b):[SV.slice .imm 4 (T.map ZB),.sc (.int .i64 p.pos),.sc (.int .i64 p.deep),.sc (.bool b),.sc (.int .i64 p.bad),.sc (.int .i64 p.e)]=ZX T p:=by subst h;rfl
theorem zaP {T:List Tk} {pid:Nat} {p p0:PS} {b:Bool} (h:p.flat=b) {st ex:St} (hp:V8 T pid p0 st) :
  V8 T pid p (st.set pid (.cells [SV.slice .imm 4 (T.map ZB),.sc (.int .i64 p.pos),.sc (.int .i64 p.deep),.sc (.bool b),.sc (.int .i64 p.bad),.sc (.int .i64 p.e)])++ex):=by
 rw[ziQ h];exact zl hp
theorem zlI {T:List Tk} {pid:Nat} {p':PS} {nd:Nd} {st:St} {K:SV→St→Prop} {b:Bool} (h:p'.flat=b) (hk:K (zH nd) (st.set pid (.cells (ZX T p')))) {ex:St} :
  Yd st (LeK K) (zH nd) (st.set pid (.cells [SV.slice .imm 4 (T.map ZB),.sc (.int .i64 p'.pos),.sc (.int .i64 p'.deep),.sc (.bool b),.sc (.int .i64 p'.bad),.sc (.int .i64 p'.e)])++ex):=by
 rw[ziQ h];exact Zk hk
theorem zyR {T:List Tk} (hT:T.length≤100000) {pid:Nat} {e pt:PM Nd} (he:HC T pid 79 e) (hpt:HC T pid 170 pt):HC T pid 79 (zh2 T e pt):=by
 intro p r p' h K st hp hk
 refine zK (zC [] Tryz.func79 rfl Tryz.results79 Tryz.ntmps79 ?_)
 have y:=zT hp
 unfold ZX at y
 unfold zh2 at h
 rw[Option.bind_eq_some_iff] at h
 obtain⟨t,h1,h⟩:=h
 by_cases hc:t.kind=6
 ·have c1:(t.kind==6)=true:=by simp[hc]
  have hg:=fun a b=>zp1 (st:=st++[a,b,.map (fnE zag)]) (id:=st.length+2) (Vb (by simp)).2 t.text
  by_cases k1:t.text=[108,101,116]
  ·rw[if_pos ⟨hc,k1⟩] at h
   simp only[if_pos k1] at hg
   simp only[go_sem]
   refine qp h1 (zG hp) ?_
   simp only[go_sem,c1]
   refine qI [] [0] (zeA (st++[.cells qD,.cells (ZB t).cells]) (.map (fnE zag))) [[[]],[[],[0]],[[],[0]],[[0]],[[0]]] Tryz.mixed rfl rfl rfl rfl rfl ?_
   refine Zy (d:=[0]) rfl rfl (.mp (st.length+2)) rfl ?_ ?_
   ·simp only[go_sem,z7,zZ]
    exact zcS ⟨by simp,by simp⟩
   refine zV rfl (.ptr (st.length+1) 1) (by simp only[go_sem,z7,zZ]) (by simp only[go_sem,z7,zZ]) ?_
   refine zV rfl (.sc (.string (ba t.text))) (by simp only[go_sem,z7,zZ,Ql]) (by simp only[go_sem,z7,zZ,Ql]) ?_
   refine Zl rfl (.func (.func 123) [] []) (by simp only[go_sem,z7,zZ,hg,Option.isSome_some]) ?_
   refine Zl rfl (.func (.func 123) [] []) (by simp only[go_sem,z7,zZ]) ?_
   refine ZZ ?_
   simp only[go_sem,z7,zZ,qD]
   refine⟨Tryz.aIsFunc96,?_⟩
   refine zzt hT he _ _ _ h _ _ (zG hp) ?_
   simp only[go_sem,za hp]
   exact Zk hk
  ·rw[if_neg (fun q=>k1 q.2)] at h
   simp only[if_neg k1] at hg
   by_cases k2:t.text=[102,117,110]
   ·rw[if_pos ⟨hc,k2⟩] at h
    simp only[if_pos k2] at hg
    simp only[go_sem]
    refine qp h1 (zG hp) ?_
    simp only[go_sem,c1]
    refine qI [] [0] (zeA (st++[.cells qD,.cells (ZB t).cells]) (.map (fnE zag))) [[[]],[[],[0]],[[],[0]],[[0]],[[0]]] Tryz.mixed rfl rfl rfl rfl rfl ?_
    refine Zy (d:=[0]) rfl rfl (.mp (st.length+2)) rfl ?_ ?_
    ·simp only[go_sem,z7,zZ]
     exact zcS ⟨by simp,by simp⟩
    refine zV rfl (.ptr (st.length+1) 1) (by simp only[go_sem,z7,zZ]) (by simp only[go_sem,z7,zZ]) ?_
    refine zV rfl (.sc (.string (ba t.text))) (by simp only[go_sem,z7,zZ,Ql]) (by simp only[go_sem,z7,zZ,Ql]) ?_
    refine Zl rfl (.func (.func 124) [] []) (by simp only[go_sem,z7,zZ,hg,Option.isSome_some]) ?_
    refine Zl rfl (.func (.func 124) [] []) (by simp only[go_sem,z7,zZ]) ?_
    refine ZZ ?_
    simp only[go_sem,z7,zZ,qD]
    refine⟨Tryz.aIsFunc96,?_⟩
    refine zxZ hT he _ _ _ h _ _ (zG hp) ?_
    simp only[go_sem,za hp]
    exact Zk hk
   ·rw[if_neg (fun q=>k2 q.2)] at h
    simp only[if_neg k2] at hg
    by_cases k3:t.text=[105,102]
    ·rw[if_pos ⟨hc,k3⟩] at h
     simp only[if_pos k3] at hg
     simp only[go_sem]
     refine qp h1 (zG hp) ?_
     simp only[go_sem,c1]
     refine qI [] [0] (zeA (st++[.cells qD,.cells (ZB t).cells]) (.map (fnE zag))) [[[]],[[],[0]],[[],[0]],[[0]],[[0]]] Tryz.mixed rfl rfl rfl rfl rfl ?_
     refine Zy (d:=[0]) rfl rfl (.mp (st.length+2)) rfl ?_ ?_
     ·simp only[go_sem,z7,zZ]
      exact zcS ⟨by simp,by simp⟩
     refine zV rfl (.ptr (st.length+1) 1) (by simp only[go_sem,z7,zZ]) (by simp only[go_sem,z7,zZ]) ?_
     refine zV rfl (.sc (.string (ba t.text))) (by simp only[go_sem,z7,zZ,Ql]) (by simp only[go_sem,z7,zZ,Ql]) ?_
     refine Zl rfl (.func (.func 125) [] []) (by simp only[go_sem,z7,zZ,hg,Option.isSome_some]) ?_
     refine Zl rfl (.func (.func 125) [] []) (by simp only[go_sem,z7,zZ]) ?_
     refine ZZ ?_
     simp only[go_sem,z7,zZ,qD]
     refine⟨Tryz.aIsFunc96,?_⟩
     refine zpj hT he _ _ _ h _ _ (zG hp) ?_
     simp only[go_sem,za hp]
     exact Zk hk
    ·rw[if_neg (fun q=>k3 q.2)] at h
     simp only[if_neg k3] at hg
     simp only[Option.bind_eq_some_iff,Prod.exists] at h
     obtain⟨n0,p1,h2,b,p2,h3,h⟩:=h
     have y1:=zbh (Qy (p':=p1) hp)
     cases hf:p1.flat with
     | true =>
      rw[hf,if_pos rfl] at h3
      cases h3
      simp only[Bool.false_eq_true,if_false,Option.some.injEq,Prod.mk.injEq] at h
      obtain⟨rfl,rfl⟩:=h
      rw[hf] at y1
      simp only[go_sem]
      refine qp h1 (zG hp) ?_
      simp only[go_sem,c1]
      refine qI [] [0] (zeA (st++[.cells qD,.cells (ZB t).cells]) (.map (fnE zag))) [[[]],[[],[0]],[[],[0]],[[0]],[[0]]] Tryz.mixed rfl rfl rfl rfl rfl ?_
      refine Zy (d:=[0]) rfl rfl (.mp (st.length+2)) rfl ?_ ?_
      ·simp only[go_sem,z7,zZ]
       exact zcS ⟨by simp,by simp⟩
      refine zV rfl (.ptr (st.length+1) 1) (by simp only[go_sem,z7,zZ]) (by simp only[go_sem,z7,zZ]) ?_
      refine zV rfl (.sc (.string (ba t.text))) (by simp only[go_sem,z7,zZ,Ql]) (by simp only[go_sem,z7,zZ,Ql]) ?_
      refine Zl rfl (.sc .nilFunc) (by simp only[go_sem,z7,zZ,hg,Option.isSome_some]) ?_
      refine Zl rfl (.sc .nilFunc) (by simp only[go_sem,z7,zZ]) ?_
      refine ZZ ?_
      simp only[go_sem,z7,zZ,qD]
      refine⟨Tryz.aIsFunc96,?_⟩
      refine zgo hT he hpt _ _ _ h2 _ _ (zG hp) ?_
      unfold ZX
      simp only[go_sem,za hp,hf,y1.1,y1.2.1,y1.2.2]
      exact zlI hf hk
     | false =>
      rw[hf,if_neg (by decide)] at h3
      rw[hf] at y1
      cases b with
      | false =>
       simp only[Bool.false_eq_true,if_false,Option.some.injEq,Prod.mk.injEq] at h
       obtain⟨rfl,rfl⟩:=h
       simp only[go_sem]
       refine qp h1 (zG hp) ?_
       simp only[go_sem,c1]
       refine qI [] [0] (zeA (st++[.cells qD,.cells (ZB t).cells]) (.map (fnE zag))) [[[]],[[],[0]],[[],[0]],[[0]],[[0]]] Tryz.mixed rfl rfl rfl rfl rfl ?_
       refine Zy (d:=[0]) rfl rfl (.mp (st.length+2)) rfl ?_ ?_
       ·simp only[go_sem,z7,zZ]
        exact zcS ⟨by simp,by simp⟩
       refine zV rfl (.ptr (st.length+1) 1) (by simp only[go_sem,z7,zZ]) (by simp only[go_sem,z7,zZ]) ?_
       refine zV rfl (.sc (.string (ba t.text))) (by simp only[go_sem,z7,zZ,Ql]) (by simp only[go_sem,z7,zZ,Ql]) ?_
       refine Zl rfl (.sc .nilFunc) (by simp only[go_sem,z7,zZ,hg,Option.isSome_some]) ?_
       refine Zl rfl (.sc .nilFunc) (by simp only[go_sem,z7,zZ]) ?_
       refine ZZ ?_
       simp only[go_sem,z7,zZ,qD]
       refine⟨Tryz.aIsFunc96,?_⟩
       refine zgo hT he hpt _ _ _ h2 _ _ (zG hp) ?_
       unfold ZX
       simp only[go_sem,za hp,hf,y1.1,y1.2.1,y1.2.2]
       first | (unfold zk;simp only[zd,zb,zo,List.set_cons_succ,List.set_cons_zero,List.getD_cons_succ,List.getD_cons_zero]) | skip
       refine Yv hT h3 (zaP hf hp) ?_
       simp only[go_sem,za hp]
       exact Zk hk
      | true =>
       simp only[if_true,Option.map_eq_some_iff,Prod.exists,Prod.mk.injEq] at h
       obtain⟨x,p3,h4,rfl,rfl⟩:=h
       simp only[go_sem]
       refine qp h1 (zG hp) ?_
       simp only[go_sem,c1]
       refine qI [] [0] (zeA (st++[.cells qD,.cells (ZB t).cells]) (.map (fnE zag))) [[[]],[[],[0]],[[],[0]],[[0]],[[0]]] Tryz.mixed rfl rfl rfl rfl rfl ?_
       refine Zy (d:=[0]) rfl rfl (.mp (st.length+2)) rfl ?_ ?_
       ·simp only[go_sem,z7,zZ]
        exact zcS ⟨by simp,by simp⟩
       refine zV rfl (.ptr (st.length+1) 1) (by simp only[go_sem,z7,zZ]) (by simp only[go_sem,z7,zZ]) ?_
       refine zV rfl (.sc (.string (ba t.text))) (by simp only[go_sem,z7,zZ,Ql]) (by simp only[go_sem,z7,zZ,Ql]) ?_
       refine Zl rfl (.sc .nilFunc) (by simp only[go_sem,z7,zZ,hg,Option.isSome_some]) ?_
       refine Zl rfl (.sc .nilFunc) (by simp only[go_sem,z7,zZ]) ?_
       refine ZZ ?_
       simp only[go_sem,z7,zZ,qD]
       refine⟨Tryz.aIsFunc96,?_⟩
       refine zgo hT he hpt _ _ _ h2 _ _ (zG hp) ?_
       unfold ZX
       simp only[go_sem,za hp,hf,y1.1,y1.2.1,y1.2.2]
       first | (unfold zk;simp only[zd,zb,zo,List.set_cons_succ,List.set_cons_zero,List.getD_cons_succ,List.getD_cons_zero]) | skip
       refine Yv hT h3 (zaP hf hp) ?_
       simp only[go_sem,za hp]
       refine zO [] [(0,[6]),(0,[6]),(0,[6]),(0,[]),(3,[6]),(0,[]),(3,[7]),(1,[8])] Tryz.mixed rfl ?_
       simp only[go_sem,zw,zt,zr,zp,zq,zE,zF,zu,zg,QA]
       refine⟨_,_,VJ he rfl h4 (zl hp) ⟨rfl,rfl⟩,?_⟩
       simp only[go_sem,zw,zt,zr,zp,zq,zE,zF,zu,zg,za hp,QA]
       rw[zJ]
       refine⟨.slice .full 6 [zH n0,zH x],?_,?_⟩
       ·simp only[go_sem]
        exact⟨⟨[],by simp⟩,zY _ _ (.inr rfl) _ [_,_],.inl rfl⟩
       refine⟨_,_,JK (kids:=[n0,x]) (.inl rfl) ⟨rfl,rfl⟩,?_⟩
       simp only[go_sem,zw,zt,zr,zp,zq,zE,zF,zu,zg,za hp]
       exact Zk hk
 ·have c1:(t.kind==6)=false:=by simp[hc]
  rw[if_neg (fun q=>hc q.1),if_neg (fun q=>hc q.1),if_neg (fun q=>hc q.1)] at h
  simp only[Option.bind_eq_some_iff,Prod.exists] at h
  obtain⟨n0,p1,h2,b,p2,h3,h⟩:=h
  have y1:=zbh (Qy (p':=p1) hp)
  cases hf:p1.flat with
  | true =>
   rw[hf,if_pos rfl] at h3
   cases h3
   simp only[Bool.false_eq_true,if_false,Option.some.injEq,Prod.mk.injEq] at h
   obtain⟨rfl,rfl⟩:=h
   rw[hf] at y1
   simp only[go_sem]
   refine qp h1 (zG hp) ?_
   simp only[go_sem,c1]
   refine zgo hT he hpt _ _ _ h2 _ _ (zG hp) ?_
   unfold ZX
   simp only[go_sem,za hp,hf,y1.1,y1.2.1,y1.2.2]
   exact zlI hf hk
  | false =>
   rw[hf,if_neg (by decide)] at h3
   rw[hf] at y1
   cases b with
   | false =>
    simp only[Bool.false_eq_true,if_false,Option.some.injEq,Prod.mk.injEq] at h
    obtain⟨rfl,rfl⟩:=h
    simp only[go_sem]
    refine qp h1 (zG hp) ?_
    simp only[go_sem,c1]
    refine zgo hT he hpt _ _ _ h2 _ _ (zG hp) ?_
    unfold ZX
    simp only[go_sem,za hp,hf,y1.1,y1.2.1,y1.2.2]
    first | (unfold zk;simp only[zd,zb,zo,List.set_cons_succ,List.set_cons_zero,List.getD_cons_succ,List.getD_cons_zero]) | skip
    refine Yv hT h3 (zaP hf hp) ?_
    simp only[go_sem,za hp]
    exact Zk hk
   | true =>
    simp only[if_true,Option.map_eq_some_iff,Prod.exists,Prod.mk.injEq] at h
    obtain⟨x,p3,h4,rfl,rfl⟩:=h
    simp only[go_sem]
    refine qp h1 (zG hp) ?_
    simp only[go_sem,c1]
    refine zgo hT he hpt _ _ _ h2 _ _ (zG hp) ?_
    unfold ZX
    simp only[go_sem,za hp,hf,y1.1,y1.2.1,y1.2.2]
    first | (unfold zk;simp only[zd,zb,zo,List.set_cons_succ,List.set_cons_zero,List.getD_cons_succ,List.getD_cons_zero]) | skip
    refine Yv hT h3 (zaP hf hp) ?_
    simp only[go_sem,za hp]
    refine zO [] [(0,[6]),(0,[6]),(0,[6]),(0,[]),(3,[6]),(0,[]),(3,[7]),(1,[8])] Tryz.mixed rfl ?_
    simp only[go_sem,zw,zt,zr,zp,zq,zE,zF,zu,zg,QA]
    refine⟨_,_,VJ he rfl h4 (zl hp) ⟨rfl,rfl⟩,?_⟩
    simp only[go_sem,zw,zt,zr,zp,zq,zE,zF,zu,zg,za hp,QA]
    rw[zJ]
    refine⟨.slice .full 6 [zH n0,zH x],?_,?_⟩
    ·simp only[go_sem]
     exact⟨⟨[],by simp⟩,zY _ _ (.inr rfl) _ [_,_],.inl rfl⟩
    refine⟨_,_,JK (kids:=[n0,x]) (.inl rfl) ⟨rfl,rfl⟩,?_⟩
    simp only[go_sem,zw,zt,zr,zp,zq,zE,zF,zu,zg,za hp]
    exact Zk hk
end Go.Proofs
