/- exp: the map of what reads an exp by its key. -/
import Derived.Test.YtkokccjfpebomaaGreatDoorQ1
set_option linter.all false
set_option maxHeartbeats 4000000
set_option maxRecDepth 8000
namespace Go.AL
def Ds(S:St)(X:Ob):List (List Nat×St):=[([],S),([0],S++[X])]
theorem zI{S:St}{X:Ob}:XX (Ds S X) []=S:=rfl
theorem zJ{S:St}{X:Ob}:XX (Ds S X) [0]=S++[X]:=rfl
end Go.AL
namespace Go.Proofs
open Go Go.AL Tryz
theorem Tryz.amap110:Ep prog 110=some (9,.string,96):=by kernel_rfl
theorem Tryz.zeroSV96:WH prog 96=some (.sc .nilFunc):=by kernel_rfl
def D5(l:List (Tx×FuncId)):List (Value×SV):=l.map fun q=>(.string (ba q.1),.func (.func q.2) [] [])
def Kf:List (Tx×FuncId):=[([108,101,116],123),([102,117,110],124),([105,102],125)]
theorem Kt{P:Program}{kt:TypeId}(b:ByteArray):qN P kt .string (.string b)=true:=by simp[qN,ZI]
theorem uP{P:Program}{kt:TypeId}(l:List (Tx×FuncId)):(D5 l).all (fun q=>qN P kt .string q.1)=true:=by
 rw[List.all_eq_true];intro q hq;obtain⟨a,_,rfl⟩:=List.mem_map.1 hq;exact Kt _
theorem NH{s:Tx}{f:FuncId}{mid:Nat}{l:List (Tx×FuncId)}{st:St}{N:St→Prop}(hm:st[mid]?=some (.map (D5 l)))(hn:J5 (D5 l) (.string (ba s)) (.func (.func f) [] [])=D5 (l++[(s,f)])) :
  Ze prog 110 st (.mp mid) (.sc (.string (ba s))) (.func (.func f) [] []) N=N (st.set mid (.map (D5 (l++[(s,f)])))):=by
 simp only[Ze,EE,AL.keyOf,Tryz.amap110,(V6 hm).2,Kt,uP,Bool.and_self,if_true,hn]
theorem Er{s:Tx}{f:FuncId}{st:St}{l:List (Tx×FuncId)}{N:St→Prop}(hn:J5 (D5 l) (.string (ba s)) (.func (.func f) [] [])=D5 (l++[(s,f)]))
  (h:N (st++[.map (D5 (l++[(s,f)]))])):Ze prog 110 (st++[.map (D5 l)]) (.mp st.length) (.sc (.string (ba s))) (.func (.func f) [] []) N:=by
 rw[NH (l:=l) (by simp) hn];have:(st++[Ob.map (D5 l)]).set st.length (.map (D5 (l++[(s,f)])))=st++[.map (D5 (l++[(s,f)]))]:=by
  rw[List.set_append_right _ _ (Nat.le_refl _)];simp
 rw[this];exact h
theorem Cf{st:St}{N:St→Prop}(h:N (st++[.map (D5 Kf)])) :
  Ze prog 110 (st++[.map []]) (.mp st.length) (.sc (.string ⟨#[108,101,116]⟩)) (.func (.func 123) [] []) fun x=>Ze prog 110 x (.mp st.length) (.sc (.string ⟨#[102,117,110]⟩)) (.func (.func 124) [] []) fun x=>Ze prog 110 x (.mp st.length) (.sc (.string ⟨#[105,102]⟩)) (.func (.func 125) [] []) N :=
 Er (l:=[]) (s:=[108,101,116]) rfl (Er (l:=[([108,101,116],123)]) (s:=[102,117,110]) rfl (Er (l:=[([108,101,116],123),([102,117,110],124)]) (s:=[105,102]) rfl h))
theorem HU{K:SV→St→Prop}{st:St}(hk:K (.mp st.length) (st++[.map (D5 Kf)])):ACalls prog 107 [] K st:=by
 refine Qr (M:=[]) func107 rfl results107 ntmps107 ?_;simp only[go_sem];exact Cf hk
theorem ri(s t:Tx):JA (.string (ba s)) (.string (ba t))=decide (s=t):=by
 have:=Wt (d :=.string) (a :=.string (ba s)) (b :=.string (ba t)) (by simp[ZI]) (by simp[ZI]);by_cases hc:s=t
 ·subst hc;simp only[decide_true];exact this.2 rfl
 ·simp only[hc,decide_false];cases hk:JA (.string (ba s)) (.string (ba t)) with
  | false=>rfl
  | true =>
   exfalso;apply hc;have h:=this.1 hk;have h2:ba s=ba t:=Value.string.inj h;have h3:=congrArg (fun b:ByteArray=>b.data.toList) h2;exact h3
theorem cW{st:St}{id:Nat}(hid:QM st id=some (D5 Kf))(s:Tx):XI prog 110 st (.mp id) (.sc (.string (ba s))) =
  some (if s=[108,101,116] then (.func (.func 123) [] [],true) else if s=[102,117,110] then (.func (.func 124) [] [],true) else if s=[105,102] then (.func (.func 125) [] [],true) else (.sc .nilFunc,false)):=by
 simp only[XI,AL.keyOf,Tryz.amap110,hid,Tryz.zeroSV96,Kt,uP,Bool.and_self,if_true];unfold keyIdx D5 Kf;simp only[List.map_cons,List.map_nil,List.findIdx?_cons,ri,List.findIdx?_nil];by_cases h1:s=[108,101,116]
 ·simp[h1]
 by_cases h2:s=[102,117,110]
 ·simp[h1,h2]
 by_cases h3:s=[105,102]
 ·simp[h1,h2,h3]
 ·simp[h1,h2,h3]
theorem Tryz.aIsFunc96:JL prog 96=true:=by kernel_rfl
theorem wV{T:List Tk}{p:PS}{b:Bool}(h:p.flat=b):[SV.slice .imm 4 (T.map ZC),.sc (.int .i64 p.pos),.sc (.int .i64 p.deep),.sc (.bool b),.sc (.int .i64 p.bad),.sc (.int .i64 p.e)]=Qa T p:=by subst h;rfl
theorem K1{T:List Tk}{pid:Nat}{p p0:PS}{b:Bool}(h:p.flat=b){st ex:St}(hp:W8 T pid p0 st) :
  W8 T pid p (st.set pid (.cells [SV.slice .imm 4 (T.map ZC),.sc (.int .i64 p.pos),.sc (.int .i64 p.deep),.sc (.bool b),.sc (.int .i64 p.bad),.sc (.int .i64 p.e)])++ex):=by
 rw[wV h];exact ze hp
theorem uF{T:List Tk}{pid:Nat}{p':PS}{nd:Nd}{st:St}{K:SV→St→Prop}{b:Bool}(h:p'.flat=b)(hk:K (zq nd) (st.set pid (.cells (Qa T p')))){ex:St} :
  YU st (jy K) (zq nd) (st.set pid (.cells [SV.slice .imm 4 (T.map ZC),.sc (.int .i64 p'.pos),.sc (.int .i64 p'.deep),.sc (.bool b),.sc (.int .i64 p'.bad),.sc (.int .i64 p'.e)])++ex):=by
 rw[wV h];exact Zs hk
theorem IB{T:List Tk}(hT:T.length≤100000){pid:Nat}{e pt:PM Nd}(he:HC T pid 79 e)(hpt:HC T pid 170 pt):HC T pid 79 (J9 T e pt):=by
 intro p r p' h K st hp hk;refine zw (zl [] func79 rfl results79 ntmps79 ?_);have y:=zF hp;unfold Qa at y;unfold J9 at h;rw[xoB] at h;obtain⟨t,h1,h⟩:=h;by_cases hc:t.kind=6
 ·have c1:(t.kind==6)=true:=by simp[hc]
  have hg:=fun a b=>cW (st:=st++[a,b,.map (D5 Kf)]) (id:=st.length+2) (V6 (by simp)).2 t.text;by_cases k1:t.text=[108,101,116]
  ·rw[if_pos ⟨hc,k1⟩] at h;simp only[if_pos k1] at hg;simp only[go_sem];refine qd h1 (zo hp) ?_;simp only[go_sem,c1];refine qE [] [0] (Ds (st++[.cells qu,.cells (ZC t).cells]) (.map (D5 Kf))) [[[]],[[],[0]],[[],[0]],[[0]],[[0]]] mixed rfl rfl rfl rfl rfl ?_;refine ZH (d:=[0]) rfl rfl (.mp (st.length+2)) rfl ?_ ?_
   ·simp only[go_sem,zI,zJ];exact HU ⟨by simp,by simp⟩
   refine qm rfl (.ptr (st.length+1) 1) (by simp only[go_sem,zI,zJ]) (by simp only[go_sem,zI,zJ]) ?_;refine qm rfl (.sc (.string (ba t.text))) (by simp only[go_sem,zI,zJ,Qw]) (by simp only[go_sem,zI,zJ,Qw]) ?_;refine Zr rfl (.func (.func 123) [] []) (by simp only[go_sem,zI,zJ,hg,Option.isSome_some]) ?_;refine Zr rfl (.func (.func 123) [] []) (by simp only[go_sem,zI,zJ]) ?_;refine Qc ?_;simp only[go_sem,zI,zJ,qu];refine⟨Tryz.aIsFunc96,?_⟩;refine Ci hT he _ _ _ h _ _ (zo hp) ?_;simp only[go_sem,zb hp];exact Zs hk
  ·rw[if_neg (fun q=>k1 q.2)] at h;simp only[if_neg k1] at hg;by_cases k2:t.text=[102,117,110]
   ·rw[if_pos ⟨hc,k2⟩] at h;simp only[if_pos k2] at hg;simp only[go_sem];refine qd h1 (zo hp) ?_;simp only[go_sem,c1];refine qE [] [0] (Ds (st++[.cells qu,.cells (ZC t).cells]) (.map (D5 Kf))) [[[]],[[],[0]],[[],[0]],[[0]],[[0]]] mixed rfl rfl rfl rfl rfl ?_;refine ZH (d:=[0]) rfl rfl (.mp (st.length+2)) rfl ?_ ?_
    ·simp only[go_sem,zI,zJ];exact HU ⟨by simp,by simp⟩
    refine qm rfl (.ptr (st.length+1) 1) (by simp only[go_sem,zI,zJ]) (by simp only[go_sem,zI,zJ]) ?_;refine qm rfl (.sc (.string (ba t.text))) (by simp only[go_sem,zI,zJ,Qw]) (by simp only[go_sem,zI,zJ,Qw]) ?_;refine Zr rfl (.func (.func 124) [] []) (by simp only[go_sem,zI,zJ,hg,Option.isSome_some]) ?_;refine Zr rfl (.func (.func 124) [] []) (by simp only[go_sem,zI,zJ]) ?_;refine Qc ?_;simp only[go_sem,zI,zJ,qu];refine⟨Tryz.aIsFunc96,?_⟩;refine Cr hT he _ _ _ h _ _ (zo hp) ?_;simp only[go_sem,zb hp];exact Zs hk
   ·rw[if_neg (fun q=>k2 q.2)] at h;simp only[if_neg k2] at hg;by_cases k3:t.text=[105,102]
    ·rw[if_pos ⟨hc,k3⟩] at h;simp only[if_pos k3] at hg;simp only[go_sem];refine qd h1 (zo hp) ?_;simp only[go_sem,c1];refine qE [] [0] (Ds (st++[.cells qu,.cells (ZC t).cells]) (.map (D5 Kf))) [[[]],[[],[0]],[[],[0]],[[0]],[[0]]] mixed rfl rfl rfl rfl rfl ?_;refine ZH (d:=[0]) rfl rfl (.mp (st.length+2)) rfl ?_ ?_
     ·simp only[go_sem,zI,zJ];exact HU ⟨by simp,by simp⟩
     refine qm rfl (.ptr (st.length+1) 1) (by simp only[go_sem,zI,zJ]) (by simp only[go_sem,zI,zJ]) ?_;refine qm rfl (.sc (.string (ba t.text))) (by simp only[go_sem,zI,zJ,Qw]) (by simp only[go_sem,zI,zJ,Qw]) ?_;refine Zr rfl (.func (.func 125) [] []) (by simp only[go_sem,zI,zJ,hg,Option.isSome_some]) ?_;refine Zr rfl (.func (.func 125) [] []) (by simp only[go_sem,zI,zJ]) ?_;refine Qc ?_;simp only[go_sem,zI,zJ,qu];refine⟨Tryz.aIsFunc96,?_⟩;refine du hT he _ _ _ h _ _ (zo hp) ?_;simp only[go_sem,zb hp];exact Zs hk
    ·rw[if_neg (fun q=>k3 q.2)] at h;simp only[if_neg k3] at hg;simp only[xoB,xpX] at h;obtain⟨n0,p1,h2,b,p2,h3,h⟩:=h;have y1:=UB (QJ (p':=p1) hp);cases hf:p1.flat with
     | true =>
      rw[hf,if_pos rfl] at h3;cases h3;simp only[Yd,if_false,xsJ,xpJ] at h;obtain⟨rfl,rfl⟩:=h;rw[hf] at y1;simp only[go_sem];refine qd h1 (zo hp) ?_;simp only[go_sem,c1];refine qE [] [0] (Ds (st++[.cells qu,.cells (ZC t).cells]) (.map (D5 Kf))) [[[]],[[],[0]],[[],[0]],[[0]],[[0]]] mixed rfl rfl rfl rfl rfl ?_;refine ZH (d:=[0]) rfl rfl (.mp (st.length+2)) rfl ?_ ?_
      ·simp only[go_sem,zI,zJ];exact HU ⟨by simp,by simp⟩
      refine qm rfl (.ptr (st.length+1) 1) (by simp only[go_sem,zI,zJ]) (by simp only[go_sem,zI,zJ]) ?_;refine qm rfl (.sc (.string (ba t.text))) (by simp only[go_sem,zI,zJ,Qw]) (by simp only[go_sem,zI,zJ,Qw]) ?_;refine Zr rfl (.sc .nilFunc) (by simp only[go_sem,zI,zJ,hg,Option.isSome_some]) ?_;refine Zr rfl (.sc .nilFunc) (by simp only[go_sem,zI,zJ]) ?_;refine Qc ?_;simp only[go_sem,zI,zJ,qu];refine⟨Tryz.aIsFunc96,?_⟩;refine Fo hT he hpt _ _ _ h2 _ _ (zo hp) ?_;unfold Qa;simp only[go_sem,zb hp,hf,y1.1,y1.2.1,y1.2.2];exact uF hf hk
     | false =>
      rw[hf,if_neg (by decide)] at h3;rw[hf] at y1;cases b with
      | false =>
       simp only[Yd,if_false,xsJ,xpJ] at h;obtain⟨rfl,rfl⟩:=h;simp only[go_sem];refine qd h1 (zo hp) ?_;simp only[go_sem,c1];refine qE [] [0] (Ds (st++[.cells qu,.cells (ZC t).cells]) (.map (D5 Kf))) [[[]],[[],[0]],[[],[0]],[[0]],[[0]]] mixed rfl rfl rfl rfl rfl ?_;refine ZH (d:=[0]) rfl rfl (.mp (st.length+2)) rfl ?_ ?_
       ·simp only[go_sem,zI,zJ];exact HU ⟨by simp,by simp⟩
       refine qm rfl (.ptr (st.length+1) 1) (by simp only[go_sem,zI,zJ]) (by simp only[go_sem,zI,zJ]) ?_;refine qm rfl (.sc (.string (ba t.text))) (by simp only[go_sem,zI,zJ,Qw]) (by simp only[go_sem,zI,zJ,Qw]) ?_;refine Zr rfl (.sc .nilFunc) (by simp only[go_sem,zI,zJ,hg,Option.isSome_some]) ?_;refine Zr rfl (.sc .nilFunc) (by simp only[go_sem,zI,zJ]) ?_;refine Qc ?_;simp only[go_sem,zI,zJ,qu];refine⟨Tryz.aIsFunc96,?_⟩;refine Fo hT he hpt _ _ _ h2 _ _ (zo hp) ?_;unfold Qa;simp only[go_sem,zb hp,hf,y1.1,y1.2.1,y1.2.2];try (unfold zd;simp only[qc])
       refine Y9 hT h3 (K1 hf hp) ?_;simp only[go_sem,zb hp];exact Zs hk
      | true =>
       simp only[if_true,xoM,xpX,xpJ] at h;obtain⟨x,p3,h4,rfl,rfl⟩:=h;simp only[go_sem];refine qd h1 (zo hp) ?_;simp only[go_sem,c1];refine qE [] [0] (Ds (st++[.cells qu,.cells (ZC t).cells]) (.map (D5 Kf))) [[[]],[[],[0]],[[],[0]],[[0]],[[0]]] mixed rfl rfl rfl rfl rfl ?_;refine ZH (d:=[0]) rfl rfl (.mp (st.length+2)) rfl ?_ ?_
       ·simp only[go_sem,zI,zJ];exact HU ⟨by simp,by simp⟩
       refine qm rfl (.ptr (st.length+1) 1) (by simp only[go_sem,zI,zJ]) (by simp only[go_sem,zI,zJ]) ?_;refine qm rfl (.sc (.string (ba t.text))) (by simp only[go_sem,zI,zJ,Qw]) (by simp only[go_sem,zI,zJ,Qw]) ?_;refine Zr rfl (.sc .nilFunc) (by simp only[go_sem,zI,zJ,hg,Option.isSome_some]) ?_;refine Zr rfl (.sc .nilFunc) (by simp only[go_sem,zI,zJ]) ?_;refine Qc ?_;simp only[go_sem,zI,zJ,qu];refine⟨Tryz.aIsFunc96,?_⟩;refine Fo hT he hpt _ _ _ h2 _ _ (zo hp) ?_;unfold Qa;simp only[go_sem,zb hp,hf,y1.1,y1.2.1,y1.2.2];try (unfold zd;simp only[qc])
       refine Y9 hT h3 (K1 hf hp) ?_;simp only[go_sem,zb hp];refine zA [] [(0,[6]),(0,[6]),(0,[6]),(0,[]),(3,[6]),(0,[]),(3,[7]),(1,[8])] mixed rfl ?_;simp only[go_sem,QO];refine⟨_,_,WI he rfl h4 (ze hp) ⟨rfl,rfl⟩,?_⟩;simp only[go_sem,zb hp,QO];rw[zp];refine⟨.slice .full 6 [zq n0,zq x],?_,?_⟩
       ·simp only[go_sem];exact⟨⟨[],by simp⟩,zK _ _ (.inr rfl) _ [_,_],.inl rfl⟩
       refine⟨_,_,Vs (kids:=[n0,x]) (.inl rfl) ⟨rfl,rfl⟩,?_⟩;simp only[go_sem,zb hp];exact Zs hk
 ·have c1:(t.kind==6)=false:=by simp[hc]
  rw[if_neg (fun q=>hc q.1),if_neg (fun q=>hc q.1),if_neg (fun q=>hc q.1)] at h;simp only[xoB,xpX] at h;obtain⟨n0,p1,h2,b,p2,h3,h⟩:=h;have y1:=UB (QJ (p':=p1) hp);cases hf:p1.flat with
  | true =>
   rw[hf,if_pos rfl] at h3;cases h3;simp only[Yd,if_false,xsJ,xpJ] at h;obtain⟨rfl,rfl⟩:=h;rw[hf] at y1;simp only[go_sem];refine qd h1 (zo hp) ?_;simp only[go_sem,c1];refine Fo hT he hpt _ _ _ h2 _ _ (zo hp) ?_;unfold Qa;simp only[go_sem,zb hp,hf,y1.1,y1.2.1,y1.2.2];exact uF hf hk
  | false =>
   rw[hf,if_neg (by decide)] at h3;rw[hf] at y1;cases b with
   | false =>
    simp only[Yd,if_false,xsJ,xpJ] at h;obtain⟨rfl,rfl⟩:=h;simp only[go_sem];refine qd h1 (zo hp) ?_;simp only[go_sem,c1];refine Fo hT he hpt _ _ _ h2 _ _ (zo hp) ?_;unfold Qa;simp only[go_sem,zb hp,hf,y1.1,y1.2.1,y1.2.2];try (unfold zd;simp only[qc])
    refine Y9 hT h3 (K1 hf hp) ?_;simp only[go_sem,zb hp];exact Zs hk
   | true =>
    simp only[if_true,xoM,xpX,xpJ] at h;obtain⟨x,p3,h4,rfl,rfl⟩:=h;simp only[go_sem];refine qd h1 (zo hp) ?_;simp only[go_sem,c1];refine Fo hT he hpt _ _ _ h2 _ _ (zo hp) ?_;unfold Qa;simp only[go_sem,zb hp,hf,y1.1,y1.2.1,y1.2.2];try (unfold zd;simp only[qc])
    refine Y9 hT h3 (K1 hf hp) ?_;simp only[go_sem,zb hp];refine zA [] [(0,[6]),(0,[6]),(0,[6]),(0,[]),(3,[6]),(0,[]),(3,[7]),(1,[8])] mixed rfl ?_;simp only[go_sem,QO];refine⟨_,_,WI he rfl h4 (ze hp) ⟨rfl,rfl⟩,?_⟩;simp only[go_sem,zb hp,QO];rw[zp];refine⟨.slice .full 6 [zq n0,zq x],?_,?_⟩
    ·simp only[go_sem];exact⟨⟨[],by simp⟩,zK _ _ (.inr rfl) _ [_,_],.inl rfl⟩
    refine⟨_,_,Vs (kids:=[n0,x]) (.inl rfl) ⟨rfl,rfl⟩,?_⟩;simp only[go_sem,zb hp];exact Zs hk
end Go.Proofs
