/- exp: the map of what reads an exp by its key. -/
import Derived.Test.YtkokccjfpebomaaGreatDoorQ1
set_option linter.all false
set_option maxHeartbeats 4000000
set_option maxRecDepth 8000
namespace Go.AL
def GM(S:St)(X:Ob):List (List Nat×St):=[([],S),([0],S++[X])]
theorem zO{S:St}{X:Ob}:Yf (GM S X) []=S:=rfl
theorem zN{S:St}{X:Ob}:Yf (GM S X) [0]=S++[X]:=rfl
end Go.AL
namespace Go.Proofs
open Go Go.AL Tryz
theorem Tryz.amap110:E3 prog 110=some (9,.string,96):=by kernel_rfl
theorem Tryz.zeroSV96:JY prog 96=some (.sc .nilFunc):=by kernel_rfl
def Gs(l:List (Tx×FuncId)):List (Value×SV):=l.map fun q=>(.string (ba q.1),.func (.func q.2) [] [])
def KS:List (Tx×FuncId):=[([108,101,116],123),([102,117,110],124),([105,102],125)]
theorem KL{P:Program}{kt:TypeId}(b:ByteArray):qY P kt .string (.string b)=true:=by simp[qY,ZN]
theorem gn{P:Program}{kt:TypeId}(l:List (Tx×FuncId)):(Gs l).all (fun q=>qY P kt .string q.1)=true:=by
 rw[List.all_eq_true];intro q hq;obtain⟨a,_,rfl⟩:=List.mem_map.1 hq;exact KL _
theorem Ry{s:Tx}{f:FuncId}{mid:Nat}{l:List (Tx×FuncId)}{st:St}{N:St→Prop}(hm:st[mid]?=some (.map (Gs l)))(hn:Vn (Gs l) (.string (ba s)) (.func (.func f) [] [])=Gs (l++[(s,f)])) :
  Zm prog 110 st (.mp mid) (.sc (.string (ba s))) (.func (.func f) [] []) N=N (st.set mid (.map (Gs (l++[(s,f)])))):=by
 simp only[Zm,Ky,AL.keyOf,Tryz.amap110,(Wk hm).2,KL,gn,Bool.and_self,if_true,hn]
theorem Er{s:Tx}{f:FuncId}{st:St}{l:List (Tx×FuncId)}{N:St→Prop}(hn:Vn (Gs l) (.string (ba s)) (.func (.func f) [] [])=Gs (l++[(s,f)]))
  (h:N (st++[.map (Gs (l++[(s,f)]))])):Zm prog 110 (st++[.map (Gs l)]) (.mp st.length) (.sc (.string (ba s))) (.func (.func f) [] []) N:=by
 rw[Ry (l:=l) (by simp) hn];have:(st++[Ob.map (Gs l)]).set st.length (.map (Gs (l++[(s,f)])))=st++[.map (Gs (l++[(s,f)]))]:=by
  rw[List.set_append_right _ _ (Nat.le_refl _)];simp
 rw[this];exact h
theorem Nm{st:St}{N:St→Prop}(h:N (st++[.map (Gs KS)])) :
  Zm prog 110 (st++[.map []]) (.mp st.length) (.sc (.string ⟨#[108,101,116]⟩)) (.func (.func 123) [] []) fun x=>Zm prog 110 x (.mp st.length) (.sc (.string ⟨#[102,117,110]⟩)) (.func (.func 124) [] []) fun x=>Zm prog 110 x (.mp st.length) (.sc (.string ⟨#[105,102]⟩)) (.func (.func 125) [] []) N :=
 Er (l:=[]) (s:=[108,101,116]) rfl (Er (l:=[([108,101,116],123)]) (s:=[102,117,110]) rfl (Er (l:=[([108,101,116],123),([102,117,110],124)]) (s:=[105,102]) rfl h))
theorem EJ{K:SV→St→Prop}{st:St}(hk:K (.mp st.length) (st++[.map (Gs KS)])):ACalls prog 107 [] K st:=by
 refine QF (M:=[]) func107 rfl results107 ntmps107 ?_;simp only[go_sem];exact Nm hk
theorem Cz(s t:Tx):JN (.string (ba s)) (.string (ba t))=decide (s=t):=by
 have:=WQ (d :=.string) (a :=.string (ba s)) (b :=.string (ba t)) (by simp[ZN]) (by simp[ZN]);by_cases hc:s=t
 ·subst hc;simp only[decide_true];exact this.2 rfl
 ·simp only[hc,decide_false];cases hk:JN (.string (ba s)) (.string (ba t)) with
  | false=>rfl
  | true =>
   exfalso;apply hc;have h:=this.1 hk;have h2:ba s=ba t:=Value.string.inj h;have h3:=congrArg (fun b:ByteArray=>b.data.toList) h2;exact h3
theorem nP{st:St}{id:Nat}(hid:QB st id=some (Gs KS))(s:Tx):XR prog 110 st (.mp id) (.sc (.string (ba s))) =
  some (if s=[108,101,116] then (.func (.func 123) [] [],true) else if s=[102,117,110] then (.func (.func 124) [] [],true) else if s=[105,102] then (.func (.func 125) [] [],true) else (.sc .nilFunc,false)):=by
 simp only[XR,AL.keyOf,Tryz.amap110,hid,Tryz.zeroSV96,KL,gn,Bool.and_self,if_true];unfold keyIdx Gs KS;simp only[List.map_cons,List.map_nil,List.findIdx?_cons,Cz,List.findIdx?_nil];by_cases h1:s=[108,101,116]
 ·simp[h1]
 by_cases h2:s=[102,117,110]
 ·simp[h1,h2]
 by_cases h3:s=[105,102]
 ·simp[h1,h2,h3]
 ·simp[h1,h2,h3]
theorem Tryz.aIsFunc96:Ve prog 96=true:=by kernel_rfl
theorem wE{T:List Tk}{p:PS}{b:Bool}(h:p.flat=b):[SV.slice .imm 4 (T.map ZF),.sc (.int .i64 p.pos),.sc (.int .i64 p.deep),.sc (.bool b),.sc (.int .i64 p.bad),.sc (.int .i64 p.e)]=Qn T p:=by subst h;rfl
theorem Ux{T:List Tk}{pid:Nat}{p p0:PS}{b:Bool}(h:p.flat=b){st ex:St}(hp:KF T pid p0 st) :
  KF T pid p (st.set pid (.cells [SV.slice .imm 4 (T.map ZF),.sc (.int .i64 p.pos),.sc (.int .i64 p.deep),.sc (.bool b),.sc (.int .i64 p.bad),.sc (.int .i64 p.e)])++ex):=by
 rw[wE h];exact zh hp
theorem pF{T:List Tk}{pid:Nat}{p':PS}{nd:Nd}{st:St}{K:SV→St→Prop}{b:Bool}(h:p'.flat=b)(hk:K (zq nd) (st.set pid (.cells (Qn T p')))){ex:St} :
  YW st (wl K) (zq nd) (st.set pid (.cells [SV.slice .imm 4 (T.map ZF),.sc (.int .i64 p'.pos),.sc (.int .i64 p'.deep),.sc (.bool b),.sc (.int .i64 p'.bad),.sc (.int .i64 p'.e)])++ex):=by
 rw[wE h];exact Zw hk
theorem Ms{T:List Tk}(hT:T.length≤100000){pid:Nat}{e pt:PM Nd}(he:HC T pid 79 e)(hpt:HC T pid 170 pt):HC T pid 79 (JZ T e pt):=by
 intro p r p' h K st hp hk;refine zA (zp [] func79 rfl results79 ntmps79 ?_);have y:=zI hp;unfold Qn at y;unfold JZ at h;rw[xoB] at h;obtain⟨t,h1,h⟩:=h;by_cases hc:t.kind=6
 ·have c1:(t.kind==6)=true:=by simp[hc]
  have hg:=fun a b=>nP (st:=st++[a,b,.map (Gs KS)]) (id:=st.length+2) (Wk (by simp)).2 t.text;by_cases k1:t.text=[108,101,116]
  ·rw[if_pos ⟨hc,k1⟩] at h;simp only[if_pos k1] at hg;simp only[go_sem];refine qi h1 (zu hp) ?_;simp only[go_sem,c1];refine qN [] [0] (GM (st++[.cells qv,.cells (ZF t).cells]) (.map (Gs KS))) [[[]],[[],[0]],[[],[0]],[[0]],[[0]]] mixed rfl rfl rfl rfl rfl ?_;refine ZP (d:=[0]) rfl rfl (.mp (st.length+2)) rfl ?_ ?_
   ·simp only[go_sem,zO,zN];exact EJ ⟨by simp,by simp⟩
   refine qt rfl (.ptr (st.length+1) 1) (by simp only[go_sem,zO,zN]) (by simp only[go_sem,zO,zN]) ?_;refine qt rfl (.sc (.string (ba t.text))) (by simp only[go_sem,zO,zN,Z3]) (by simp only[go_sem,zO,zN,Z3]) ?_;refine Zy rfl (.func (.func 123) [] []) (by simp only[go_sem,zO,zN,hg,Option.isSome_some]) ?_;refine Zy rfl (.func (.func 123) [] []) (by simp only[go_sem,zO,zN]) ?_;refine Qp ?_;simp only[go_sem,zO,zN,qv];refine⟨Tryz.aIsFunc96,?_⟩;refine Nj hT he _ _ _ h _ _ (zu hp) ?_;simp only[go_sem,zb hp];exact Zw hk
  ·rw[if_neg (fun q=>k1 q.2)] at h;simp only[if_neg k1] at hg;by_cases k2:t.text=[102,117,110]
   ·rw[if_pos ⟨hc,k2⟩] at h;simp only[if_pos k2] at hg;simp only[go_sem];refine qi h1 (zu hp) ?_;simp only[go_sem,c1];refine qN [] [0] (GM (st++[.cells qv,.cells (ZF t).cells]) (.map (Gs KS))) [[[]],[[],[0]],[[],[0]],[[0]],[[0]]] mixed rfl rfl rfl rfl rfl ?_;refine ZP (d:=[0]) rfl rfl (.mp (st.length+2)) rfl ?_ ?_
    ·simp only[go_sem,zO,zN];exact EJ ⟨by simp,by simp⟩
    refine qt rfl (.ptr (st.length+1) 1) (by simp only[go_sem,zO,zN]) (by simp only[go_sem,zO,zN]) ?_;refine qt rfl (.sc (.string (ba t.text))) (by simp only[go_sem,zO,zN,Z3]) (by simp only[go_sem,zO,zN,Z3]) ?_;refine Zy rfl (.func (.func 124) [] []) (by simp only[go_sem,zO,zN,hg,Option.isSome_some]) ?_;refine Zy rfl (.func (.func 124) [] []) (by simp only[go_sem,zO,zN]) ?_;refine Qp ?_;simp only[go_sem,zO,zN,qv];refine⟨Tryz.aIsFunc96,?_⟩;refine OO hT he _ _ _ h _ _ (zu hp) ?_;simp only[go_sem,zb hp];exact Zw hk
   ·rw[if_neg (fun q=>k2 q.2)] at h;simp only[if_neg k2] at hg;by_cases k3:t.text=[105,102]
    ·rw[if_pos ⟨hc,k3⟩] at h;simp only[if_pos k3] at hg;simp only[go_sem];refine qi h1 (zu hp) ?_;simp only[go_sem,c1];refine qN [] [0] (GM (st++[.cells qv,.cells (ZF t).cells]) (.map (Gs KS))) [[[]],[[],[0]],[[],[0]],[[0]],[[0]]] mixed rfl rfl rfl rfl rfl ?_;refine ZP (d:=[0]) rfl rfl (.mp (st.length+2)) rfl ?_ ?_
     ·simp only[go_sem,zO,zN];exact EJ ⟨by simp,by simp⟩
     refine qt rfl (.ptr (st.length+1) 1) (by simp only[go_sem,zO,zN]) (by simp only[go_sem,zO,zN]) ?_;refine qt rfl (.sc (.string (ba t.text))) (by simp only[go_sem,zO,zN,Z3]) (by simp only[go_sem,zO,zN,Z3]) ?_;refine Zy rfl (.func (.func 125) [] []) (by simp only[go_sem,zO,zN,hg,Option.isSome_some]) ?_;refine Zy rfl (.func (.func 125) [] []) (by simp only[go_sem,zO,zN]) ?_;refine Qp ?_;simp only[go_sem,zO,zN,qv];refine⟨Tryz.aIsFunc96,?_⟩;refine dr hT he _ _ _ h _ _ (zu hp) ?_;simp only[go_sem,zb hp];exact Zw hk
    ·rw[if_neg (fun q=>k3 q.2)] at h;simp only[if_neg k3] at hg;simp only[xoB,xpX] at h;obtain⟨n0,p1,h2,b,p2,h3,h⟩:=h;have y1:=UV (QV (p':=p1) hp);cases hf:p1.flat with
     | true =>
      rw[hf,if_pos rfl] at h3;cases h3;simp only[XU,if_false,xsJ,xpJ] at h;obtain⟨rfl,rfl⟩:=h;rw[hf] at y1;simp only[go_sem];refine qi h1 (zu hp) ?_;simp only[go_sem,c1];refine qN [] [0] (GM (st++[.cells qv,.cells (ZF t).cells]) (.map (Gs KS))) [[[]],[[],[0]],[[],[0]],[[0]],[[0]]] mixed rfl rfl rfl rfl rfl ?_;refine ZP (d:=[0]) rfl rfl (.mp (st.length+2)) rfl ?_ ?_
      ·simp only[go_sem,zO,zN];exact EJ ⟨by simp,by simp⟩
      refine qt rfl (.ptr (st.length+1) 1) (by simp only[go_sem,zO,zN]) (by simp only[go_sem,zO,zN]) ?_;refine qt rfl (.sc (.string (ba t.text))) (by simp only[go_sem,zO,zN,Z3]) (by simp only[go_sem,zO,zN,Z3]) ?_;refine Zy rfl (.sc .nilFunc) (by simp only[go_sem,zO,zN,hg,Option.isSome_some]) ?_;refine Zy rfl (.sc .nilFunc) (by simp only[go_sem,zO,zN]) ?_;refine Qp ?_;simp only[go_sem,zO,zN,qv];refine⟨Tryz.aIsFunc96,?_⟩;refine Fz hT he hpt _ _ _ h2 _ _ (zu hp) ?_;unfold Qn;simp only[go_sem,zb hp,hf,y1.1,y1.2.1,y1.2.2];exact pF hf hk
     | false =>
      rw[hf,if_neg (by decide)] at h3;rw[hf] at y1;cases b with
      | false =>
       simp only[XU,if_false,xsJ,xpJ] at h;obtain⟨rfl,rfl⟩:=h;simp only[go_sem];refine qi h1 (zu hp) ?_;simp only[go_sem,c1];refine qN [] [0] (GM (st++[.cells qv,.cells (ZF t).cells]) (.map (Gs KS))) [[[]],[[],[0]],[[],[0]],[[0]],[[0]]] mixed rfl rfl rfl rfl rfl ?_;refine ZP (d:=[0]) rfl rfl (.mp (st.length+2)) rfl ?_ ?_
       ·simp only[go_sem,zO,zN];exact EJ ⟨by simp,by simp⟩
       refine qt rfl (.ptr (st.length+1) 1) (by simp only[go_sem,zO,zN]) (by simp only[go_sem,zO,zN]) ?_;refine qt rfl (.sc (.string (ba t.text))) (by simp only[go_sem,zO,zN,Z3]) (by simp only[go_sem,zO,zN,Z3]) ?_;refine Zy rfl (.sc .nilFunc) (by simp only[go_sem,zO,zN,hg,Option.isSome_some]) ?_;refine Zy rfl (.sc .nilFunc) (by simp only[go_sem,zO,zN]) ?_;refine Qp ?_;simp only[go_sem,zO,zN,qv];refine⟨Tryz.aIsFunc96,?_⟩;refine Fz hT he hpt _ _ _ h2 _ _ (zu hp) ?_;unfold Qn;simp only[go_sem,zb hp,hf,y1.1,y1.2.1,y1.2.2];first | (unfold zf;simp only[ze,zc,zl,xsS,xsZ,xgS,xgZ]) | skip
       refine Jg hT h3 (Ux hf hp) ?_;simp only[go_sem,zb hp];exact Zw hk
      | true =>
       simp only[if_true,xoM,xpX,xpJ] at h;obtain⟨x,p3,h4,rfl,rfl⟩:=h;simp only[go_sem];refine qi h1 (zu hp) ?_;simp only[go_sem,c1];refine qN [] [0] (GM (st++[.cells qv,.cells (ZF t).cells]) (.map (Gs KS))) [[[]],[[],[0]],[[],[0]],[[0]],[[0]]] mixed rfl rfl rfl rfl rfl ?_;refine ZP (d:=[0]) rfl rfl (.mp (st.length+2)) rfl ?_ ?_
       ·simp only[go_sem,zO,zN];exact EJ ⟨by simp,by simp⟩
       refine qt rfl (.ptr (st.length+1) 1) (by simp only[go_sem,zO,zN]) (by simp only[go_sem,zO,zN]) ?_;refine qt rfl (.sc (.string (ba t.text))) (by simp only[go_sem,zO,zN,Z3]) (by simp only[go_sem,zO,zN,Z3]) ?_;refine Zy rfl (.sc .nilFunc) (by simp only[go_sem,zO,zN,hg,Option.isSome_some]) ?_;refine Zy rfl (.sc .nilFunc) (by simp only[go_sem,zO,zN]) ?_;refine Qp ?_;simp only[go_sem,zO,zN,qv];refine⟨Tryz.aIsFunc96,?_⟩;refine Fz hT he hpt _ _ _ h2 _ _ (zu hp) ?_;unfold Qn;simp only[go_sem,zb hp,hf,y1.1,y1.2.1,y1.2.2];first | (unfold zf;simp only[ze,zc,zl,xsS,xsZ,xgS,xgZ]) | skip
       refine Jg hT h3 (Ux hf hp) ?_;simp only[go_sem,zb hp];refine zB [] [(0,[6]),(0,[6]),(0,[6]),(0,[]),(3,[6]),(0,[]),(3,[7]),(1,[8])] mixed rfl ?_;simp only[go_sem,QU];refine⟨_,_,W1 he rfl h4 (zh hp) ⟨rfl,rfl⟩,?_⟩;simp only[go_sem,zb hp,QU];rw[zt];refine⟨.slice .full 6 [zq n0,zq x],?_,?_⟩
       ·simp only[go_sem];exact⟨⟨[],by simp⟩,zM _ _ (.inr rfl) _ [_,_],.inl rfl⟩
       refine⟨_,_,VX (kids:=[n0,x]) (.inl rfl) ⟨rfl,rfl⟩,?_⟩;simp only[go_sem,zb hp];exact Zw hk
 ·have c1:(t.kind==6)=false:=by simp[hc]
  rw[if_neg (fun q=>hc q.1),if_neg (fun q=>hc q.1),if_neg (fun q=>hc q.1)] at h;simp only[xoB,xpX] at h;obtain⟨n0,p1,h2,b,p2,h3,h⟩:=h;have y1:=UV (QV (p':=p1) hp);cases hf:p1.flat with
  | true =>
   rw[hf,if_pos rfl] at h3;cases h3;simp only[XU,if_false,xsJ,xpJ] at h;obtain⟨rfl,rfl⟩:=h;rw[hf] at y1;simp only[go_sem];refine qi h1 (zu hp) ?_;simp only[go_sem,c1];refine Fz hT he hpt _ _ _ h2 _ _ (zu hp) ?_;unfold Qn;simp only[go_sem,zb hp,hf,y1.1,y1.2.1,y1.2.2];exact pF hf hk
  | false =>
   rw[hf,if_neg (by decide)] at h3;rw[hf] at y1;cases b with
   | false =>
    simp only[XU,if_false,xsJ,xpJ] at h;obtain⟨rfl,rfl⟩:=h;simp only[go_sem];refine qi h1 (zu hp) ?_;simp only[go_sem,c1];refine Fz hT he hpt _ _ _ h2 _ _ (zu hp) ?_;unfold Qn;simp only[go_sem,zb hp,hf,y1.1,y1.2.1,y1.2.2];first | (unfold zf;simp only[ze,zc,zl,xsS,xsZ,xgS,xgZ]) | skip
    refine Jg hT h3 (Ux hf hp) ?_;simp only[go_sem,zb hp];exact Zw hk
   | true =>
    simp only[if_true,xoM,xpX,xpJ] at h;obtain⟨x,p3,h4,rfl,rfl⟩:=h;simp only[go_sem];refine qi h1 (zu hp) ?_;simp only[go_sem,c1];refine Fz hT he hpt _ _ _ h2 _ _ (zu hp) ?_;unfold Qn;simp only[go_sem,zb hp,hf,y1.1,y1.2.1,y1.2.2];first | (unfold zf;simp only[ze,zc,zl,xsS,xsZ,xgS,xgZ]) | skip
    refine Jg hT h3 (Ux hf hp) ?_;simp only[go_sem,zb hp];refine zB [] [(0,[6]),(0,[6]),(0,[6]),(0,[]),(3,[6]),(0,[]),(3,[7]),(1,[8])] mixed rfl ?_;simp only[go_sem,QU];refine⟨_,_,W1 he rfl h4 (zh hp) ⟨rfl,rfl⟩,?_⟩;simp only[go_sem,zb hp,QU];rw[zt];refine⟨.slice .full 6 [zq n0,zq x],?_,?_⟩
    ·simp only[go_sem];exact⟨⟨[],by simp⟩,zM _ _ (.inr rfl) _ [_,_],.inl rfl⟩
    refine⟨_,_,VX (kids:=[n0,x]) (.inl rfl) ⟨rfl,rfl⟩,?_⟩;simp only[go_sem,zb hp];exact Zw hk
end Go.Proofs
