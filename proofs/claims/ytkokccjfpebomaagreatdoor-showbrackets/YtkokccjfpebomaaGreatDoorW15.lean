/- exp: the map of what reads an exp by its key. -/
import Derived.Test.YtkokccjfpebomaaGreatDoorQ1
import Derived.Test.YtkokccjfpebomaaGreatDoorW8
import Derived.Test.YtkokccjfpebomaaGreatDoorN1
set_option maxHeartbeats 4000000
set_option linter.unusedSimpArgs false
set_option linter.unusedVariables false
set_option maxRecDepth 8000
namespace Go.AL
def DG (S:St) (X:Ob):List (List Nat×St):=[([],S),([0],S++[X])]
theorem z8 {S:St} {X:Ob}:XX (DG S X) []=S:=rfl
theorem qa {S:St} {X:Ob}:XX (DG S X) [0]=S++[X]:=rfl
end Go.AL
namespace Go.Proofs
open Go Go.AL Tryz
theorem Tryz.amap110:Hr prog 110=some (9,.string,96):=by kernel_rfl
theorem Tryz.zeroSV96:Js prog 96=some (.sc .nilFunc):=by kernel_rfl
def Gg (l:List (Tx×FuncId)):List (Value×SV):=l.map fun q=>(.string (ba q.1),.func (.func q.2) [] [])
def WC:List (Tx×FuncId):=[([108,101,116],123),([102,117,110],124),([105,102],125)]
theorem WN {P:Program} {kt:TypeId} (b:ByteArray):qY P kt .string (.string b)=true:=by simp[qY,ZJ]
theorem um {P:Program} {kt:TypeId} (l:List (Tx×FuncId)):(Gg l).all (fun q=>qY P kt .string q.1)=true:=by
 rw[List.all_eq_true]
 intro q hq
 obtain⟨a,_,rfl⟩:=List.mem_map.1 hq
 exact WN _
theorem As {s:Tx} {f:FuncId} {mid:Nat} {l:List (Tx×FuncId)} {st:St} {N:St→Prop} (hm:st[mid]?=some (.map (Gg l))) (hn:JZ (Gg l) (.string (ba s)) (.func (.func f) [] [])=Gg (l++[(s,f)])) :
  Zi prog 110 st (.mp mid) (.sc (.string (ba s))) (.func (.func f) [] []) N=N (st.set mid (.map (Gg (l++[(s,f)])))):=by
 simp only[Zi,Ws,AL.keyOf,Tryz.amap110,(VQ hm).2,WN,um,Bool.and_self,if_true,hn]
theorem HY {s:Tx} {f:FuncId} {st:St} {l:List (Tx×FuncId)} {N:St→Prop} (hn:JZ (Gg l) (.string (ba s)) (.func (.func f) [] [])=Gg (l++[(s,f)]))
  (h:N (st++[.map (Gg (l++[(s,f)]))])):Zi prog 110 (st++[.map (Gg l)]) (.mp st.length) (.sc (.string (ba s))) (.func (.func f) [] []) N:=by
 rw[As (l:=l) (by simp) hn]
 have:(st++[Ob.map (Gg l)]).set st.length (.map (Gg (l++[(s,f)])))=st++[.map (Gg (l++[(s,f)]))]:=by
  rw[List.set_append_right _ _ (Nat.le_refl _)];simp
 rw[this];exact h
theorem sx {st:St} {N:St→Prop} (h:N (st++[.map (Gg WC)])) :
  Zi prog 110 (st++[.map []]) (.mp st.length) (.sc (.string ⟨#[108,101,116]⟩)) (.func (.func 123) [] []) fun x=>Zi prog 110 x (.mp st.length) (.sc (.string ⟨#[102,117,110]⟩)) (.func (.func 124) [] []) fun x=>Zi prog 110 x (.mp st.length) (.sc (.string ⟨#[105,102]⟩)) (.func (.func 125) [] []) N :=
 HY (l:=[]) (s:=[108,101,116]) rfl (HY (l:=[([108,101,116],123)]) (s:=[102,117,110]) rfl (HY (l:=[([108,101,116],123),([102,117,110],124)]) (s:=[105,102]) rfl h))
theorem Hn {K:SV→St→Prop} {st:St} (hk:K (.mp st.length) (st++[.map (Gg WC)])):ACalls prog 107 [] K st:=by
 refine Qt (M:=[]) func107 rfl results107 ntmps107 ?_
 simp only[go_sem]
 exact sx hk
theorem o0 (s t:Tx):Jk (.string (ba s)) (.string (ba t))=decide (s=t):=by
 have:=V2 (d :=.string) (a :=.string (ba s)) (b :=.string (ba t)) (by simp[ZJ]) (by simp[ZJ])
 by_cases hc:s=t
 ·subst hc;simp only[decide_true];exact this.2 rfl
 ·simp only[hc,decide_false]
  cases hk:Jk (.string (ba s)) (.string (ba t)) with
  | false=>rfl
  | true =>
   exfalso;apply hc
   have h:=this.1 hk
   have h2:ba s=ba t:=Value.string.inj h
   have h3:=congrArg (fun b:ByteArray=>b.data.toList) h2
   exact h3
theorem mh {st:St} {id:Nat} (hid:Qn st id=some (Gg WC)) (s:Tx):XH prog 110 st (.mp id) (.sc (.string (ba s))) =
  some (if s=[108,101,116] then (.func (.func 123) [] [],true) else if s=[102,117,110] then (.func (.func 124) [] [],true) else if s=[105,102] then (.func (.func 125) [] [],true) else (.sc .nilFunc,false)):=by
 simp only[XH,AL.keyOf,Tryz.amap110,hid,Tryz.zeroSV96,WN,um,Bool.and_self,if_true]
 unfold keyIdx Gg WC
 simp only[List.map_cons,List.map_nil,List.findIdx?_cons,o0,List.findIdx?_nil]
 by_cases h1:s=[108,101,116]
 ·simp[h1]
 by_cases h2:s=[102,117,110]
 ·simp[h1,h2]
 by_cases h3:s=[105,102]
 ·simp[h1,h2,h3]
 ·simp[h1,h2,h3]
theorem Tryz.aIsFunc96:JC prog 96=true:=by kernel_rfl
theorem jV {T:List Tk} {p:PS} {b:Bool} (h:p.flat=b):[SV.slice .imm 4 (T.map ZF),.sc (.int .i64 p.pos),.sc (.int .i64 p.deep),.sc (.bool b),.sc (.int .i64 p.bad),.sc (.int .i64 p.e)]=Z9 T p:=by subst h;rfl
theorem Ku {T:List Tk} {pid:Nat} {p p0:PS} {b:Bool} (h:p.flat=b) {st ex:St} (hp:Wz T pid p0 st) :
  Wz T pid p (st.set pid (.cells [SV.slice .imm 4 (T.map ZF),.sc (.int .i64 p.pos),.sc (.int .i64 p.deep),.sc (.bool b),.sc (.int .i64 p.bad),.sc (.int .i64 p.e)])++ex):=by
 rw[jV h];exact zm hp
theorem vC {T:List Tk} {pid:Nat} {p':PS} {nd:Nd} {st:St} {K:SV→St→Prop} {b:Bool} (h:p'.flat=b) (hk:K (zJ nd) (st.set pid (.cells (Z9 T p')))) {ex:St} :
  Yv st (wa K) (zJ nd) (st.set pid (.cells [SV.slice .imm 4 (T.map ZF),.sc (.int .i64 p'.pos),.sc (.int .i64 p'.deep),.sc (.bool b),.sc (.int .i64 p'.bad),.sc (.int .i64 p'.e)])++ex):=by
 rw[jV h];exact Zw hk
theorem rA {T:List Tk} (hT:T.length≤100000) {pid:Nat} {e pt:PM Nd} (he:HC T pid 79 e) (hpt:HC T pid 170 pt):HC T pid 79 (UJ T e pt):=by
 intro p r p' h K st hp hk
 refine zM (zE [] func79 rfl results79 ntmps79 ?_)
 have y:=zV hp
 unfold Z9 at y
 unfold UJ at h
 rw[Option.bind_eq_some_iff] at h
 obtain⟨t,h1,h⟩:=h
 by_cases hc:t.kind=6
 ·have c1:(t.kind==6)=true:=by simp[hc]
  have hg:=fun a b=>mh (st:=st++[a,b,.map (Gg WC)]) (id:=st.length+2) (VQ (by simp)).2 t.text
  by_cases k1:t.text=[108,101,116]
  ·rw[if_pos ⟨hc,k1⟩] at h
   simp only[if_pos k1] at hg
   simp only[go_sem]
   refine qv h1 (zI hp) ?_
   simp only[go_sem,c1]
   refine qO [] [0] (DG (st++[.cells qK,.cells (ZF t).cells]) (.map (Gg WC))) [[[]],[[],[0]],[[],[0]],[[0]],[[0]]] mixed rfl rfl rfl rfl rfl ?_
   refine ZG (d:=[0]) rfl rfl (.mp (st.length+2)) rfl ?_ ?_
   ·simp only[go_sem,z8,qa]
    exact Hn ⟨by simp,by simp⟩
   refine zZ rfl (.ptr (st.length+1) 1) (by simp only[go_sem,z8,qa]) (by simp only[go_sem,z8,qa]) ?_
   refine zZ rfl (.sc (.string (ba t.text))) (by simp only[go_sem,z8,qa,Qy]) (by simp only[go_sem,z8,qa,Qy]) ?_
   refine Zt rfl (.func (.func 123) [] []) (by simp only[go_sem,z8,qa,hg,Option.isSome_some]) ?_
   refine Zt rfl (.func (.func 123) [] []) (by simp only[go_sem,z8,qa]) ?_
   refine Qb ?_
   simp only[go_sem,z8,qa,qK]
   refine⟨Tryz.aIsFunc96,?_⟩
   refine sU hT he _ _ _ h _ _ (zI hp) ?_
   simp only[go_sem,zb hp]
   exact Zw hk
  ·rw[if_neg (fun q=>k1 q.2)] at h
   simp only[if_neg k1] at hg
   by_cases k2:t.text=[102,117,110]
   ·rw[if_pos ⟨hc,k2⟩] at h
    simp only[if_pos k2] at hg
    simp only[go_sem]
    refine qv h1 (zI hp) ?_
    simp only[go_sem,c1]
    refine qO [] [0] (DG (st++[.cells qK,.cells (ZF t).cells]) (.map (Gg WC))) [[[]],[[],[0]],[[],[0]],[[0]],[[0]]] mixed rfl rfl rfl rfl rfl ?_
    refine ZG (d:=[0]) rfl rfl (.mp (st.length+2)) rfl ?_ ?_
    ·simp only[go_sem,z8,qa]
     exact Hn ⟨by simp,by simp⟩
    refine zZ rfl (.ptr (st.length+1) 1) (by simp only[go_sem,z8,qa]) (by simp only[go_sem,z8,qa]) ?_
    refine zZ rfl (.sc (.string (ba t.text))) (by simp only[go_sem,z8,qa,Qy]) (by simp only[go_sem,z8,qa,Qy]) ?_
    refine Zt rfl (.func (.func 124) [] []) (by simp only[go_sem,z8,qa,hg,Option.isSome_some]) ?_
    refine Zt rfl (.func (.func 124) [] []) (by simp only[go_sem,z8,qa]) ?_
    refine Qb ?_
    simp only[go_sem,z8,qa,qK]
    refine⟨Tryz.aIsFunc96,?_⟩
    refine r9 hT he _ _ _ h _ _ (zI hp) ?_
    simp only[go_sem,zb hp]
    exact Zw hk
   ·rw[if_neg (fun q=>k2 q.2)] at h
    simp only[if_neg k2] at hg
    by_cases k3:t.text=[105,102]
    ·rw[if_pos ⟨hc,k3⟩] at h
     simp only[if_pos k3] at hg
     simp only[go_sem]
     refine qv h1 (zI hp) ?_
     simp only[go_sem,c1]
     refine qO [] [0] (DG (st++[.cells qK,.cells (ZF t).cells]) (.map (Gg WC))) [[[]],[[],[0]],[[],[0]],[[0]],[[0]]] mixed rfl rfl rfl rfl rfl ?_
     refine ZG (d:=[0]) rfl rfl (.mp (st.length+2)) rfl ?_ ?_
     ·simp only[go_sem,z8,qa]
      exact Hn ⟨by simp,by simp⟩
     refine zZ rfl (.ptr (st.length+1) 1) (by simp only[go_sem,z8,qa]) (by simp only[go_sem,z8,qa]) ?_
     refine zZ rfl (.sc (.string (ba t.text))) (by simp only[go_sem,z8,qa,Qy]) (by simp only[go_sem,z8,qa,Qy]) ?_
     refine Zt rfl (.func (.func 125) [] []) (by simp only[go_sem,z8,qa,hg,Option.isSome_some]) ?_
     refine Zt rfl (.func (.func 125) [] []) (by simp only[go_sem,z8,qa]) ?_
     refine Qb ?_
     simp only[go_sem,z8,qa,qK]
     refine⟨Tryz.aIsFunc96,?_⟩
     refine gx hT he _ _ _ h _ _ (zI hp) ?_
     simp only[go_sem,zb hp]
     exact Zw hk
    ·rw[if_neg (fun q=>k3 q.2)] at h
     simp only[if_neg k3] at hg
     simp only[Option.bind_eq_some_iff,Prod.exists] at h
     obtain⟨n0,p1,h2,b,p2,h3,h⟩:=h
     have y1:=KV (QN (p':=p1) hp)
     cases hf:p1.flat with
     | true =>
      rw[hf,if_pos rfl] at h3
      cases h3
      simp only[Bool.false_eq_true,if_false,Option.some.injEq,Prod.mk.injEq] at h
      obtain⟨rfl,rfl⟩:=h
      rw[hf] at y1
      simp only[go_sem]
      refine qv h1 (zI hp) ?_
      simp only[go_sem,c1]
      refine qO [] [0] (DG (st++[.cells qK,.cells (ZF t).cells]) (.map (Gg WC))) [[[]],[[],[0]],[[],[0]],[[0]],[[0]]] mixed rfl rfl rfl rfl rfl ?_
      refine ZG (d:=[0]) rfl rfl (.mp (st.length+2)) rfl ?_ ?_
      ·simp only[go_sem,z8,qa]
       exact Hn ⟨by simp,by simp⟩
      refine zZ rfl (.ptr (st.length+1) 1) (by simp only[go_sem,z8,qa]) (by simp only[go_sem,z8,qa]) ?_
      refine zZ rfl (.sc (.string (ba t.text))) (by simp only[go_sem,z8,qa,Qy]) (by simp only[go_sem,z8,qa,Qy]) ?_
      refine Zt rfl (.sc .nilFunc) (by simp only[go_sem,z8,qa,hg,Option.isSome_some]) ?_
      refine Zt rfl (.sc .nilFunc) (by simp only[go_sem,z8,qa]) ?_
      refine Qb ?_
      simp only[go_sem,z8,qa,qK]
      refine⟨Tryz.aIsFunc96,?_⟩
      refine B8 hT he hpt _ _ _ h2 _ _ (zI hp) ?_
      unfold Z9
      simp only[go_sem,zb hp,hf,y1.1,y1.2.1,y1.2.2]
      exact vC hf hk
     | false =>
      rw[hf,if_neg (by decide)] at h3
      rw[hf] at y1
      cases b with
      | false =>
       simp only[Bool.false_eq_true,if_false,Option.some.injEq,Prod.mk.injEq] at h
       obtain⟨rfl,rfl⟩:=h
       simp only[go_sem]
       refine qv h1 (zI hp) ?_
       simp only[go_sem,c1]
       refine qO [] [0] (DG (st++[.cells qK,.cells (ZF t).cells]) (.map (Gg WC))) [[[]],[[],[0]],[[],[0]],[[0]],[[0]]] mixed rfl rfl rfl rfl rfl ?_
       refine ZG (d:=[0]) rfl rfl (.mp (st.length+2)) rfl ?_ ?_
       ·simp only[go_sem,z8,qa]
        exact Hn ⟨by simp,by simp⟩
       refine zZ rfl (.ptr (st.length+1) 1) (by simp only[go_sem,z8,qa]) (by simp only[go_sem,z8,qa]) ?_
       refine zZ rfl (.sc (.string (ba t.text))) (by simp only[go_sem,z8,qa,Qy]) (by simp only[go_sem,z8,qa,Qy]) ?_
       refine Zt rfl (.sc .nilFunc) (by simp only[go_sem,z8,qa,hg,Option.isSome_some]) ?_
       refine Zt rfl (.sc .nilFunc) (by simp only[go_sem,z8,qa]) ?_
       refine Qb ?_
       simp only[go_sem,z8,qa,qK]
       refine⟨Tryz.aIsFunc96,?_⟩
       refine B8 hT he hpt _ _ _ h2 _ _ (zI hp) ?_
       unfold Z9
       simp only[go_sem,zb hp,hf,y1.1,y1.2.1,y1.2.2]
       first | (unfold zl;simp only[ze,zc,zq,List.set_cons_succ,List.set_cons_zero,List.getD_cons_succ,List.getD_cons_zero]) | skip
       refine YQ hT h3 (Ku hf hp) ?_
       simp only[go_sem,zb hp]
       exact Zw hk
      | true =>
       simp only[if_true,Option.map_eq_some_iff,Prod.exists,Prod.mk.injEq] at h
       obtain⟨x,p3,h4,rfl,rfl⟩:=h
       simp only[go_sem]
       refine qv h1 (zI hp) ?_
       simp only[go_sem,c1]
       refine qO [] [0] (DG (st++[.cells qK,.cells (ZF t).cells]) (.map (Gg WC))) [[[]],[[],[0]],[[],[0]],[[0]],[[0]]] mixed rfl rfl rfl rfl rfl ?_
       refine ZG (d:=[0]) rfl rfl (.mp (st.length+2)) rfl ?_ ?_
       ·simp only[go_sem,z8,qa]
        exact Hn ⟨by simp,by simp⟩
       refine zZ rfl (.ptr (st.length+1) 1) (by simp only[go_sem,z8,qa]) (by simp only[go_sem,z8,qa]) ?_
       refine zZ rfl (.sc (.string (ba t.text))) (by simp only[go_sem,z8,qa,Qy]) (by simp only[go_sem,z8,qa,Qy]) ?_
       refine Zt rfl (.sc .nilFunc) (by simp only[go_sem,z8,qa,hg,Option.isSome_some]) ?_
       refine Zt rfl (.sc .nilFunc) (by simp only[go_sem,z8,qa]) ?_
       refine Qb ?_
       simp only[go_sem,z8,qa,qK]
       refine⟨Tryz.aIsFunc96,?_⟩
       refine B8 hT he hpt _ _ _ h2 _ _ (zI hp) ?_
       unfold Z9
       simp only[go_sem,zb hp,hf,y1.1,y1.2.1,y1.2.2]
       first | (unfold zl;simp only[ze,zc,zq,List.set_cons_succ,List.set_cons_zero,List.getD_cons_succ,List.getD_cons_zero]) | skip
       refine YQ hT h3 (Ku hf hp) ?_
       simp only[go_sem,zb hp]
       refine zP [] [(0,[6]),(0,[6]),(0,[6]),(0,[]),(3,[6]),(0,[]),(3,[7]),(1,[8])] mixed rfl ?_
       simp only[go_sem,zy,zu,zw,zt,zr,zG,zH,zx,zh,QO]
       refine⟨_,_,Wk he rfl h4 (zm hp) ⟨rfl,rfl⟩,?_⟩
       simp only[go_sem,zy,zu,zw,zt,zr,zG,zH,zx,zh,zb hp,QO]
       rw[zL]
       refine⟨.slice .full 6 [zJ n0,zJ x],?_,?_⟩
       ·simp only[go_sem]
        exact⟨⟨[],by simp⟩,qb _ _ (.inr rfl) _ [_,_],.inl rfl⟩
       refine⟨_,_,Vl (kids:=[n0,x]) (.inl rfl) ⟨rfl,rfl⟩,?_⟩
       simp only[go_sem,zy,zu,zw,zt,zr,zG,zH,zx,zh,zb hp]
       exact Zw hk
 ·have c1:(t.kind==6)=false:=by simp[hc]
  rw[if_neg (fun q=>hc q.1),if_neg (fun q=>hc q.1),if_neg (fun q=>hc q.1)] at h
  simp only[Option.bind_eq_some_iff,Prod.exists] at h
  obtain⟨n0,p1,h2,b,p2,h3,h⟩:=h
  have y1:=KV (QN (p':=p1) hp)
  cases hf:p1.flat with
  | true =>
   rw[hf,if_pos rfl] at h3
   cases h3
   simp only[Bool.false_eq_true,if_false,Option.some.injEq,Prod.mk.injEq] at h
   obtain⟨rfl,rfl⟩:=h
   rw[hf] at y1
   simp only[go_sem]
   refine qv h1 (zI hp) ?_
   simp only[go_sem,c1]
   refine B8 hT he hpt _ _ _ h2 _ _ (zI hp) ?_
   unfold Z9
   simp only[go_sem,zb hp,hf,y1.1,y1.2.1,y1.2.2]
   exact vC hf hk
  | false =>
   rw[hf,if_neg (by decide)] at h3
   rw[hf] at y1
   cases b with
   | false =>
    simp only[Bool.false_eq_true,if_false,Option.some.injEq,Prod.mk.injEq] at h
    obtain⟨rfl,rfl⟩:=h
    simp only[go_sem]
    refine qv h1 (zI hp) ?_
    simp only[go_sem,c1]
    refine B8 hT he hpt _ _ _ h2 _ _ (zI hp) ?_
    unfold Z9
    simp only[go_sem,zb hp,hf,y1.1,y1.2.1,y1.2.2]
    first | (unfold zl;simp only[ze,zc,zq,List.set_cons_succ,List.set_cons_zero,List.getD_cons_succ,List.getD_cons_zero]) | skip
    refine YQ hT h3 (Ku hf hp) ?_
    simp only[go_sem,zb hp]
    exact Zw hk
   | true =>
    simp only[if_true,Option.map_eq_some_iff,Prod.exists,Prod.mk.injEq] at h
    obtain⟨x,p3,h4,rfl,rfl⟩:=h
    simp only[go_sem]
    refine qv h1 (zI hp) ?_
    simp only[go_sem,c1]
    refine B8 hT he hpt _ _ _ h2 _ _ (zI hp) ?_
    unfold Z9
    simp only[go_sem,zb hp,hf,y1.1,y1.2.1,y1.2.2]
    first | (unfold zl;simp only[ze,zc,zq,List.set_cons_succ,List.set_cons_zero,List.getD_cons_succ,List.getD_cons_zero]) | skip
    refine YQ hT h3 (Ku hf hp) ?_
    simp only[go_sem,zb hp]
    refine zP [] [(0,[6]),(0,[6]),(0,[6]),(0,[]),(3,[6]),(0,[]),(3,[7]),(1,[8])] mixed rfl ?_
    simp only[go_sem,zy,zu,zw,zt,zr,zG,zH,zx,zh,QO]
    refine⟨_,_,Wk he rfl h4 (zm hp) ⟨rfl,rfl⟩,?_⟩
    simp only[go_sem,zy,zu,zw,zt,zr,zG,zH,zx,zh,zb hp,QO]
    rw[zL]
    refine⟨.slice .full 6 [zJ n0,zJ x],?_,?_⟩
    ·simp only[go_sem]
     exact⟨⟨[],by simp⟩,qb _ _ (.inr rfl) _ [_,_],.inl rfl⟩
    refine⟨_,_,Vl (kids:=[n0,x]) (.inl rfl) ⟨rfl,rfl⟩,?_⟩
    simp only[go_sem,zy,zu,zw,zt,zr,zG,zH,zx,zh,zb hp]
    exact Zw hk
end Go.Proofs
