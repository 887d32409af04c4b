/- The document's parser: value. -/
import Derived.Test.YtkokccjfpebomaaGreatDoorK2
set_option linter.all false
set_option maxHeartbeats 4000000
set_option maxRecDepth 8000
namespace Go.AL
def JU(nd:Nd)(x:SV):List SV:=[.sc (.int .i64 nd.kind),.sc (.string (ba nd.text)),.sc (.int .i64 nd.num),.sc (.int .i64 nd.pos),.slice .full 0 [],x]
def zW:List SV:=[.sc (.int .i64 0),.sc (.string ⟨#[]⟩),.sc (.int .i64 0),.sc (.int .i64 0),.slice .imm 0 [],.slice .imm 0 []]
def S2(T:List Tk)(pid nid:Nat)(l:List SV)(p:PS)(st:St):St:=(st.set nid (.cells l)).set pid (.cells (qK T p))
variable {T:List Tk} {pid nid:Nat} {st:St} {p q:PS} {l m:List SV}
theorem JM(hp:Jl T pid p st):Jl T pid q (S2 T pid nid l q st):=by
 have:=zk hp;exact qm (by simpa using this)
theorem RG(hne:nid≠pid)(hn:Ex st nid):(S2 T pid nid l p st)[nid]?=some (.cells l):=by
 unfold S2;rw[zE hne];exact qm hn
theorem rh:(S2 T pid nid l p st).set pid (.cells (qK T q))=S2 T pid nid l q st:=by unfold S2;rw[List.set_set]
theorem eW(hne:nid≠pid):(S2 T pid nid l p st).set nid (.cells m)=S2 T pid nid m p st:=by
 unfold S2;rw[List.set_comm _ _ (Ne.symm hne),List.set_set]
theorem OU(hne:nid≠pid)(hn:st[nid]?=some (.cells l)):st.set pid (.cells (qK T p))=S2 T pid nid l p st:=by
 unfold S2;obtain⟨h1,h2⟩:=List.getElem?_eq_some_iff.1 hn;rw[←h2,List.set_getElem_self]
theorem z7:(S2 T pid nid l p st).length=st.length:=by unfold S2;simp
theorem Z0(n:Nat):Ids n (.slice .full 6 [.agg zW]):=zT (.inr rfl) fun x hx y hy=>by
 simp only[List.mem_singleton] at hx;subst hx;simp only[SV.cells,zW,List.mem_cons,List.not_mem_nil,or_false] at hy;rcases hy with rfl | rfl | rfl | rfl | rfl | rfl
 ·exact .sc _
 ·exact .sc _
 ·exact .sc _
 ·exact .sc _
 ·exact zT (.inl rfl) (fun x hx=>by cases hx)
 ·exact zT (.inl rfl) (fun x hx=>by cases hx)
end Go.AL
namespace Go.Proofs
open Go Go.AL Tryz
theorem vn(T:List Tk)(hT:T.length≤100000){pid nid:Nat}(hne:nid≠pid){e:PM Nd}(he:DC T pid 24 e){nd:Nd}{p p':PS}{x:Tx}{rc:Bool}{v:Nd}(h:V8 T e p=some ((x,rc,v),p')){K:SV→St→Prop}{st:St}(hp:Jl T pid p st)
  (hn:st[nid]?=some (.cells (JU nd (.slice .full 0 [])))) (hk:K (.sc (.bool rc)) (S2 T pid nid (JU (.mk nd.kind x nd.num nd.pos [] []) (.arr st.length 1 1)) p' st++[.arr 1 6 (zn v)])):ACalls prog 37 [.ptr pid 0,.ptr nid 0] K st:=by
 refine QF (M:=[1000043]) func37 rfl results37 ntmps37 ?_;unfold V8 at h;simp only[xoB,xoM,xpX,xpJ] at h;obtain⟨b,p1,h1,x1,p2,h2,p3,h3,f,h4,p4,h5,v1,p5,h6,⟨rfl,rfl,rfl⟩,rfl⟩:=h;obtain⟨t1,g1,g2,g3,g4,g5⟩:=Kq h1;have hin:Ex st nid:=zb hn;have hst0:=fun q:PS=>OU (T:=T) (pid:=pid) (p:=q) hne hn;have y0:=fun (l:List SV) (q:PS)=>zI (RG (T:=T) (pid:=pid) (st:=st) (p:=q) (l:=l) hne hin);have y1:=fun l q=>(y0 l q).1;have y2:=fun l q=>(y0 l q).2.1;have y3:=fun l q=>(y0 l q).2.2;have hsn:=fun (l m:List SV) (q:PS)=>eW (T:=T) (pid:=pid) (st:=st) (p:=q) (l:=l) (m:=m) hne;have hsp:=fun (l:List SV) (q q':PS)=>rh (T:=T) (pid:=pid) (nid:=nid) (st:=st) (p:=q) (q:=q') (l:=l);have yp0:=fun (l:List SV) (q:PS)=>zI (JM (nid:=nid) (l:=l) (q:=q) hp);have yp1:=fun l q=>(yp0 l q).1;have yp2:=fun l q=>(yp0 l q).2.1;have yp3:=fun l q=>(yp0 l q).2.2;cases b with
 | false =>
  obtain rfl:=g5 rfl;have hc:(if false=true∧¬ f=true∧p3.deep<40 then Zq T 14 p3 else some p3)=some p4:=h5;rw[if_neg (by simp)] at hc;cases hc;simp only[go_sem];refine Xo g3 hp ?_;simp only[go_sem];refine Vb hT (by decide) h2 hp ?_;simp only[hst0];simp only[go_sem,y1,y2,y3,hsn,JU];refine Ze hT h3 (JM hp) fun _=>?_;simp only[hsp];simp only[go_sem,y1,y2,y3,hsn];refine Xo h4 (JM hp) ?_;simp only[go_sem,y1,y2,y3,hsn,yp1,yp2,yp3,qK];refine qN [1000043] [5,8,10,13] [([],S2 T pid nid [.sc (.int .i64 nd.kind),.sc (.string (ba x1)),.sc (.int .i64 nd.num),.sc (.int .i64 nd.pos),.slice .full 0 [],.slice .full 0 []] p3 st),([5],S2 T pid nid [.sc (.int .i64 nd.kind),.sc (.string (ba x1)),.sc (.int .i64 nd.num),.sc (.int .i64 nd.pos),.slice .full 0 [],.slice .full 0 []] p5 st),([5,8],S2 T pid nid [.sc (.int .i64 nd.kind),.sc (.string (ba x1)),.sc (.int .i64 nd.num),.sc (.int .i64 nd.pos),.slice .full 0 [],.slice .full 0 []] p5 st++[.arr 1 6 zW]),
   ([5,8,10],S2 T pid nid [.sc (.int .i64 nd.kind),.sc (.string (ba x1)),.sc (.int .i64 nd.num),.sc (.int .i64 nd.pos),.slice .full 0 [],.slice .full 0 []] p5 st++[.arr 1 6 (zn v1)]),([5,8,13],S2 T pid nid [.sc (.int .i64 nd.kind),.sc (.string (ba x1)),.sc (.int .i64 nd.num),.sc (.int .i64 nd.pos),.slice .full 0 [],.arr st.length 1 1] p5 st++[.arr 1 6 zW]),([5,8,10,13],S2 T pid nid [.sc (.int .i64 nd.kind),.sc (.string (ba x1)),.sc (.int .i64 nd.num),.sc (.int .i64 nd.pos),.slice .full 0 [],.arr st.length 1 1] p5 st++[.arr 1 6 (zn v1)])]
   [[[],[5]],[[],[5]],[[],[5]],[[],[5]],[[]],[[]],[[],[5]],[[],[5]],[[5]],[[5,8],[5,8,13]],[[5,8],[5,8,13]],[[5,8],[5,8,10]],[[5,8],[5,8,10]],[[5,8],[5,8,10]]] mixed rfl rfl rfl rfl rfl ?_
  refine Zd rfl (.ptr nid 0) ?_;refine qt rfl (.ptr nid 0) (by simp only[go_sem,y1,y2,y3,hsn,z7]) (by simp only[go_sem,y1,y2,y3,hsn,z7]) ?_;refine qt rfl (.ptr nid 5) (by simp only[go_sem,y1,y2,y3,hsn,z7]) (by simp only[go_sem,y1,y2,y3,hsn,z7]) ?_;refine qt rfl (.slice .full 0 []) (by simp only[go_sem,y1,y2,y3,hsn,z7]) (by simp only[go_sem,y1,y2,y3,hsn,z7]) ?_;refine Zy rfl (.ptr pid 0) (by simp only[go_sem]) ?_;refine ZP (d:=[5]) rfl rfl (zq v1) rfl ?_ ?_
  ·simp only[go_sem];exact he _ _ _ h6 _ _ (JM hp) ⟨rfl,hsp _ _ _⟩
  refine Zd rfl (.sc (.int .i64 ((0:Nat):Int))) ?_;refine qt rfl (.slice .full 6 [.agg zW]) ?_ ?_ ?_
  ·simp only[go_sem];refine⟨_,?_,rfl⟩;simp only[go_sem];exact⟨⟨[],by simp⟩,Z0 _,.inl rfl⟩
  ·simp only[go_sem];refine⟨_,?_,rfl⟩;simp only[go_sem];exact⟨⟨[],by simp⟩,Z0 _,.inl rfl⟩
  refine ZP (d:=[5,8]) rfl rfl (.arr st.length 1 1) rfl ?_ ?_
  ·simp only[go_sem,y1,y2,y3,hsn,z7,zW];exact⟨Tryz.app6d (by omega),rfl⟩
  refine qt rfl (.aptr st.length 1 0) ?_ ?_ ?_
  ·simp only[go_sem,y1,y2,y3,hsn,z7];decide
  ·simp only[go_sem,y1,y2,y3,hsn,z7];decide
  refine Qz (d:=[5,8,10]) (d2:=[5,8,10,13]) rfl rfl rfl .any rfl ?_ ?_ ?_
  ·simp only[go_sem,y1,y2,y3,hsn,z7,za];exact⟨by decide,rfl⟩
  ·simp only[go_sem,y1,y2,y3,hsn,z7,za];exact⟨by decide,rfl⟩
  refine qt rfl (.ptr nid 0) (by simp only[go_sem,y1,y2,y3,hsn,z7]) (by simp only[go_sem,y1,y2,y3,hsn,z7]) ?_;refine qt rfl (.ptr nid 5) (by simp only[go_sem,y1,y2,y3,hsn,z7]) (by simp only[go_sem,y1,y2,y3,hsn,z7]) ?_;refine Qz (d:=[5,8,13]) (d2:=[5,8,10,13]) rfl rfl rfl .any rfl ?_ ?_ ?_
  ·simp only[go_sem,y1,y2,y3,hsn,z7]
  ·simp only[go_sem,y1,y2,y3,hsn,z7]
  refine Qp ?_;simp only[go_sem];exact hk
 | true =>
  have hs1:=(g4 rfl).1;cases f with
  | true =>
   rw[if_neg (by simp)] at h5;cases h5;simp only[go_sem];refine Xo g3 hp ?_;simp only[go_sem];refine qQ hT hs1 hp ?_;simp only[hst0];simp only[go_sem];refine Vb hT (by decide) h2 (JM hp) ?_;simp only[hsp];simp only[go_sem,y1,y2,y3,hsn,JU];refine Ze hT h3 (JM hp) fun _=>?_;simp only[hsp];simp only[go_sem,y1,y2,y3,hsn];refine Xo h4 (JM hp) ?_;simp only[go_sem,y1,y2,y3,hsn,yp1,yp2,yp3,qK];refine qN [1000043] [5,8,10,13] [([],S2 T pid nid [.sc (.int .i64 nd.kind),.sc (.string (ba x1)),.sc (.int .i64 nd.num),.sc (.int .i64 nd.pos),.slice .full 0 [],.slice .full 0 []] p3 st),([5],S2 T pid nid [.sc (.int .i64 nd.kind),.sc (.string (ba x1)),.sc (.int .i64 nd.num),.sc (.int .i64 nd.pos),.slice .full 0 [],.slice .full 0 []] p5 st),([5,8],S2 T pid nid [.sc (.int .i64 nd.kind),.sc (.string (ba x1)),.sc (.int .i64 nd.num),.sc (.int .i64 nd.pos),.slice .full 0 [],.slice .full 0 []] p5 st++[.arr 1 6 zW]),
    ([5,8,10],S2 T pid nid [.sc (.int .i64 nd.kind),.sc (.string (ba x1)),.sc (.int .i64 nd.num),.sc (.int .i64 nd.pos),.slice .full 0 [],.slice .full 0 []] p5 st++[.arr 1 6 (zn v1)]),([5,8,13],S2 T pid nid [.sc (.int .i64 nd.kind),.sc (.string (ba x1)),.sc (.int .i64 nd.num),.sc (.int .i64 nd.pos),.slice .full 0 [],.arr st.length 1 1] p5 st++[.arr 1 6 zW]),([5,8,10,13],S2 T pid nid [.sc (.int .i64 nd.kind),.sc (.string (ba x1)),.sc (.int .i64 nd.num),.sc (.int .i64 nd.pos),.slice .full 0 [],.arr st.length 1 1] p5 st++[.arr 1 6 (zn v1)])]
    [[[],[5]],[[],[5]],[[],[5]],[[],[5]],[[]],[[]],[[],[5]],[[],[5]],[[5]],[[5,8],[5,8,13]],[[5,8],[5,8,13]],[[5,8],[5,8,10]],[[5,8],[5,8,10]],[[5,8],[5,8,10]]] mixed rfl rfl rfl rfl rfl ?_
   refine Zd rfl (.ptr nid 0) ?_;refine qt rfl (.ptr nid 0) (by simp only[go_sem,y1,y2,y3,hsn,z7]) (by simp only[go_sem,y1,y2,y3,hsn,z7]) ?_;refine qt rfl (.ptr nid 5) (by simp only[go_sem,y1,y2,y3,hsn,z7]) (by simp only[go_sem,y1,y2,y3,hsn,z7]) ?_;refine qt rfl (.slice .full 0 []) (by simp only[go_sem,y1,y2,y3,hsn,z7]) (by simp only[go_sem,y1,y2,y3,hsn,z7]) ?_;refine Zy rfl (.ptr pid 0) (by simp only[go_sem]) ?_;refine ZP (d:=[5]) rfl rfl (zq v1) rfl ?_ ?_
   ·simp only[go_sem];exact he _ _ _ h6 _ _ (JM hp) ⟨rfl,hsp _ _ _⟩
   refine Zd rfl (.sc (.int .i64 ((0:Nat):Int))) ?_;refine qt rfl (.slice .full 6 [.agg zW]) ?_ ?_ ?_
   ·simp only[go_sem];refine⟨_,?_,rfl⟩;simp only[go_sem];exact⟨⟨[],by simp⟩,Z0 _,.inl rfl⟩
   ·simp only[go_sem];refine⟨_,?_,rfl⟩;simp only[go_sem];exact⟨⟨[],by simp⟩,Z0 _,.inl rfl⟩
   refine ZP (d:=[5,8]) rfl rfl (.arr st.length 1 1) rfl ?_ ?_
   ·simp only[go_sem,y1,y2,y3,hsn,z7,zW];exact⟨Tryz.app6d (by omega),rfl⟩
   refine qt rfl (.aptr st.length 1 0) ?_ ?_ ?_
   ·simp only[go_sem,y1,y2,y3,hsn,z7];decide
   ·simp only[go_sem,y1,y2,y3,hsn,z7];decide
   refine Qz (d:=[5,8,10]) (d2:=[5,8,10,13]) rfl rfl rfl .any rfl ?_ ?_ ?_
   ·simp only[go_sem,y1,y2,y3,hsn,z7,za];exact⟨by decide,rfl⟩
   ·simp only[go_sem,y1,y2,y3,hsn,z7,za];exact⟨by decide,rfl⟩
   refine qt rfl (.ptr nid 0) (by simp only[go_sem,y1,y2,y3,hsn,z7]) (by simp only[go_sem,y1,y2,y3,hsn,z7]) ?_;refine qt rfl (.ptr nid 5) (by simp only[go_sem,y1,y2,y3,hsn,z7]) (by simp only[go_sem,y1,y2,y3,hsn,z7]) ?_;refine Qz (d:=[5,8,13]) (d2:=[5,8,10,13]) rfl rfl rfl .any rfl ?_ ?_ ?_
   ·simp only[go_sem,y1,y2,y3,hsn,z7]
   ·simp only[go_sem,y1,y2,y3,hsn,z7]
   refine Qp ?_;simp only[go_sem];exact hk
  | false =>
   by_cases hd:p3.deep<40
   ·have c1:decide ((p3.deep:Int)<40)=true:=by simp;omega
    rw[if_pos ⟨rfl,by simp,hd⟩] at h5;simp only[go_sem];refine Xo g3 hp ?_;simp only[go_sem];refine qQ hT hs1 hp ?_;simp only[hst0];simp only[go_sem];refine Vb hT (by decide) h2 (JM hp) ?_;simp only[hsp];simp only[go_sem,y1,y2,y3,hsn,JU];refine Ze hT h3 (JM hp) fun _=>?_;simp only[hsp];simp only[go_sem,y1,y2,y3,hsn];refine Xo h4 (JM hp) ?_;simp only[go_sem,y1,y2,y3,hsn,yp1,yp2,yp3,qK,c1];refine Qw h5 (JM hp) fun _=>?_;simp only[hsp];simp only[go_sem];refine qN [1000043] [5,8,10,13] [([],S2 T pid nid [.sc (.int .i64 nd.kind),.sc (.string (ba x1)),.sc (.int .i64 nd.num),.sc (.int .i64 nd.pos),.slice .full 0 [],.slice .full 0 []] p4 st),([5],S2 T pid nid [.sc (.int .i64 nd.kind),.sc (.string (ba x1)),.sc (.int .i64 nd.num),.sc (.int .i64 nd.pos),.slice .full 0 [],.slice .full 0 []] p5 st),([5,8],S2 T pid nid [.sc (.int .i64 nd.kind),.sc (.string (ba x1)),.sc (.int .i64 nd.num),.sc (.int .i64 nd.pos),.slice .full 0 [],.slice .full 0 []] p5 st++[.arr 1 6 zW]),
     ([5,8,10],S2 T pid nid [.sc (.int .i64 nd.kind),.sc (.string (ba x1)),.sc (.int .i64 nd.num),.sc (.int .i64 nd.pos),.slice .full 0 [],.slice .full 0 []] p5 st++[.arr 1 6 (zn v1)]),([5,8,13],S2 T pid nid [.sc (.int .i64 nd.kind),.sc (.string (ba x1)),.sc (.int .i64 nd.num),.sc (.int .i64 nd.pos),.slice .full 0 [],.arr st.length 1 1] p5 st++[.arr 1 6 zW]),([5,8,10,13],S2 T pid nid [.sc (.int .i64 nd.kind),.sc (.string (ba x1)),.sc (.int .i64 nd.num),.sc (.int .i64 nd.pos),.slice .full 0 [],.arr st.length 1 1] p5 st++[.arr 1 6 (zn v1)])]
     [[[],[5]],[[],[5]],[[],[5]],[[],[5]],[[]],[[]],[[],[5]],[[],[5]],[[5]],[[5,8],[5,8,13]],[[5,8],[5,8,13]],[[5,8],[5,8,10]],[[5,8],[5,8,10]],[[5,8],[5,8,10]]] mixed rfl rfl rfl rfl rfl ?_
    refine Zd rfl (.ptr nid 0) ?_;refine qt rfl (.ptr nid 0) (by simp only[go_sem,y1,y2,y3,hsn,z7]) (by simp only[go_sem,y1,y2,y3,hsn,z7]) ?_;refine qt rfl (.ptr nid 5) (by simp only[go_sem,y1,y2,y3,hsn,z7]) (by simp only[go_sem,y1,y2,y3,hsn,z7]) ?_;refine qt rfl (.slice .full 0 []) (by simp only[go_sem,y1,y2,y3,hsn,z7]) (by simp only[go_sem,y1,y2,y3,hsn,z7]) ?_;refine Zy rfl (.ptr pid 0) (by simp only[go_sem]) ?_;refine ZP (d:=[5]) rfl rfl (zq v1) rfl ?_ ?_
    ·simp only[go_sem];exact he _ _ _ h6 _ _ (JM hp) ⟨rfl,hsp _ _ _⟩
    refine Zd rfl (.sc (.int .i64 ((0:Nat):Int))) ?_;refine qt rfl (.slice .full 6 [.agg zW]) ?_ ?_ ?_
    ·simp only[go_sem];refine⟨_,?_,rfl⟩;simp only[go_sem];exact⟨⟨[],by simp⟩,Z0 _,.inl rfl⟩
    ·simp only[go_sem];refine⟨_,?_,rfl⟩;simp only[go_sem];exact⟨⟨[],by simp⟩,Z0 _,.inl rfl⟩
    refine ZP (d:=[5,8]) rfl rfl (.arr st.length 1 1) rfl ?_ ?_
    ·simp only[go_sem,y1,y2,y3,hsn,z7,zW];exact⟨Tryz.app6d (by omega),rfl⟩
    refine qt rfl (.aptr st.length 1 0) ?_ ?_ ?_
    ·simp only[go_sem,y1,y2,y3,hsn,z7];decide
    ·simp only[go_sem,y1,y2,y3,hsn,z7];decide
    refine Qz (d:=[5,8,10]) (d2:=[5,8,10,13]) rfl rfl rfl .any rfl ?_ ?_ ?_
    ·simp only[go_sem,y1,y2,y3,hsn,z7,za];exact⟨by decide,rfl⟩
    ·simp only[go_sem,y1,y2,y3,hsn,z7,za];exact⟨by decide,rfl⟩
    refine qt rfl (.ptr nid 0) (by simp only[go_sem,y1,y2,y3,hsn,z7]) (by simp only[go_sem,y1,y2,y3,hsn,z7]) ?_;refine qt rfl (.ptr nid 5) (by simp only[go_sem,y1,y2,y3,hsn,z7]) (by simp only[go_sem,y1,y2,y3,hsn,z7]) ?_;refine Qz (d:=[5,8,13]) (d2:=[5,8,10,13]) rfl rfl rfl .any rfl ?_ ?_ ?_
    ·simp only[go_sem,y1,y2,y3,hsn,z7]
    ·simp only[go_sem,y1,y2,y3,hsn,z7]
    refine Qp ?_;simp only[go_sem];exact hk
   ·have c1:decide ((p3.deep:Int)<40)=false:=by simp;omega
    rw[if_neg (fun x=>hd x.2.2)] at h5;cases h5;simp only[go_sem];refine Xo g3 hp ?_;simp only[go_sem];refine qQ hT hs1 hp ?_;simp only[hst0];simp only[go_sem];refine Vb hT (by decide) h2 (JM hp) ?_;simp only[hsp];simp only[go_sem,y1,y2,y3,hsn,JU];refine Ze hT h3 (JM hp) fun _=>?_;simp only[hsp];simp only[go_sem,y1,y2,y3,hsn];refine Xo h4 (JM hp) ?_;simp only[go_sem,y1,y2,y3,hsn,yp1,yp2,yp3,qK,c1];refine qN [1000043] [5,8,10,13] [([],S2 T pid nid [.sc (.int .i64 nd.kind),.sc (.string (ba x1)),.sc (.int .i64 nd.num),.sc (.int .i64 nd.pos),.slice .full 0 [],.slice .full 0 []] p3 st),([5],S2 T pid nid [.sc (.int .i64 nd.kind),.sc (.string (ba x1)),.sc (.int .i64 nd.num),.sc (.int .i64 nd.pos),.slice .full 0 [],.slice .full 0 []] p5 st),([5,8],S2 T pid nid [.sc (.int .i64 nd.kind),.sc (.string (ba x1)),.sc (.int .i64 nd.num),.sc (.int .i64 nd.pos),.slice .full 0 [],.slice .full 0 []] p5 st++[.arr 1 6 zW]),
     ([5,8,10],S2 T pid nid [.sc (.int .i64 nd.kind),.sc (.string (ba x1)),.sc (.int .i64 nd.num),.sc (.int .i64 nd.pos),.slice .full 0 [],.slice .full 0 []] p5 st++[.arr 1 6 (zn v1)]),([5,8,13],S2 T pid nid [.sc (.int .i64 nd.kind),.sc (.string (ba x1)),.sc (.int .i64 nd.num),.sc (.int .i64 nd.pos),.slice .full 0 [],.arr st.length 1 1] p5 st++[.arr 1 6 zW]),([5,8,10,13],S2 T pid nid [.sc (.int .i64 nd.kind),.sc (.string (ba x1)),.sc (.int .i64 nd.num),.sc (.int .i64 nd.pos),.slice .full 0 [],.arr st.length 1 1] p5 st++[.arr 1 6 (zn v1)])]
     [[[],[5]],[[],[5]],[[],[5]],[[],[5]],[[]],[[]],[[],[5]],[[],[5]],[[5]],[[5,8],[5,8,13]],[[5,8],[5,8,13]],[[5,8],[5,8,10]],[[5,8],[5,8,10]],[[5,8],[5,8,10]]] mixed rfl rfl rfl rfl rfl ?_
    refine Zd rfl (.ptr nid 0) ?_;refine qt rfl (.ptr nid 0) (by simp only[go_sem,y1,y2,y3,hsn,z7]) (by simp only[go_sem,y1,y2,y3,hsn,z7]) ?_;refine qt rfl (.ptr nid 5) (by simp only[go_sem,y1,y2,y3,hsn,z7]) (by simp only[go_sem,y1,y2,y3,hsn,z7]) ?_;refine qt rfl (.slice .full 0 []) (by simp only[go_sem,y1,y2,y3,hsn,z7]) (by simp only[go_sem,y1,y2,y3,hsn,z7]) ?_;refine Zy rfl (.ptr pid 0) (by simp only[go_sem]) ?_;refine ZP (d:=[5]) rfl rfl (zq v1) rfl ?_ ?_
    ·simp only[go_sem];exact he _ _ _ h6 _ _ (JM hp) ⟨rfl,hsp _ _ _⟩
    refine Zd rfl (.sc (.int .i64 ((0:Nat):Int))) ?_;refine qt rfl (.slice .full 6 [.agg zW]) ?_ ?_ ?_
    ·simp only[go_sem];refine⟨_,?_,rfl⟩;simp only[go_sem];exact⟨⟨[],by simp⟩,Z0 _,.inl rfl⟩
    ·simp only[go_sem];refine⟨_,?_,rfl⟩;simp only[go_sem];exact⟨⟨[],by simp⟩,Z0 _,.inl rfl⟩
    refine ZP (d:=[5,8]) rfl rfl (.arr st.length 1 1) rfl ?_ ?_
    ·simp only[go_sem,y1,y2,y3,hsn,z7,zW];exact⟨Tryz.app6d (by omega),rfl⟩
    refine qt rfl (.aptr st.length 1 0) ?_ ?_ ?_
    ·simp only[go_sem,y1,y2,y3,hsn,z7];decide
    ·simp only[go_sem,y1,y2,y3,hsn,z7];decide
    refine Qz (d:=[5,8,10]) (d2:=[5,8,10,13]) rfl rfl rfl .any rfl ?_ ?_ ?_
    ·simp only[go_sem,y1,y2,y3,hsn,z7,za];exact⟨by decide,rfl⟩
    ·simp only[go_sem,y1,y2,y3,hsn,z7,za];exact⟨by decide,rfl⟩
    refine qt rfl (.ptr nid 0) (by simp only[go_sem,y1,y2,y3,hsn,z7]) (by simp only[go_sem,y1,y2,y3,hsn,z7]) ?_;refine qt rfl (.ptr nid 5) (by simp only[go_sem,y1,y2,y3,hsn,z7]) (by simp only[go_sem,y1,y2,y3,hsn,z7]) ?_;refine Qz (d:=[5,8,13]) (d2:=[5,8,10,13]) rfl rfl rfl .any rfl ?_ ?_ ?_
    ·simp only[go_sem,y1,y2,y3,hsn,z7]
    ·simp only[go_sem,y1,y2,y3,hsn,z7]
    refine Qp ?_;simp only[go_sem];exact hk
end Go.Proofs
namespace Go.AL
variable {T:List Tk} {pid:Nat} {st:St} {p q:PS}
theorem XA(hp:Jl T pid p st){X Y:Ob}{ex:St}:(st.set pid X++ex).set pid Y=st.set pid Y++ex:=by
 have:=zk hp;rw[List.set_append_left _ _ (by simpa using this),List.set_set]
theorem aR(hp:Jl T pid p st){X a b:Ob}{l:List SV}{k:Nat}(hk:k=st.length+1):S2 T pid k l q (st.set pid X++[a,b])=st.set pid (.cells (qK T q))++[a,.cells l]:=by
 subst hk;unfold S2;rw[QK,XA hp];rfl
theorem Jv{nd:Nd}{K:SV→St→Prop}{aid ver:Nat}{cs:List SV}{ex s:St}(hk:K (zq nd) (st.set pid (.cells (qK T p))))(hs:s=st.set pid (.cells (qK T p))++ex)(hid:s[aid]?=some (.arr ver 6 cs))(hlen:st.length≤aid)(hcs:cs=nd.kids.flatMap zn)(hnm:nd.names=[]){n:Nat}(hn:n=nd.kids.length) :
  ux (YW st (wl K)) (.agg (JU nd (.arr aid ver n))) s:=by
 subst hn;have hfl:(nd.kids.map zq).flatMap SV.cells=nd.kids.flatMap zn:=by
  rw[List.flatMap_map];exact congrArg (fun f=>nd.kids.flatMap f) (funext fun c=>za c)
 refine⟨[.sc (.int .i64 nd.kind),.sc (.string (ba nd.text)),.sc (.int .i64 nd.num),.sc (.int .i64 nd.pos),.slice .full 0 []],aid,ver,_,6,nd.kids.map zq,cs,rfl,hid,?_,by simp,?_,?_⟩
 ·rw[hcs,hfl];refine List.take_of_length_le ?_;clear hcs hfl hnm hk;induction nd.kids with
  | nil=>simp
  | cons a l ih=>rw[List.flatMap_cons,xlA,xlC];simp only[zn,xlC,xlN] at ih ⊢;omega
 ·intro x hx;obtain⟨c,_,rfl⟩:=List.mem_map.1 hx;exact uD c
 ·subst hs;rw[List.set_append_right _ _ (by simpa using hlen)];have:=Xv (T:=T) (pid:=pid) (m1 :=.full) (m2 :=.imm) (z1:=0) (z2:=6) hk (.inr hnm) (.inl rfl) (ex:=ex.set (aid-(st.set pid (.cells (qK T p))).length) (.arr (ver+1) 6 []));unfold Kv at this;rw[hnm] at this;exact this
theorem nJ{p0:PS}{b:Bool}{ex:St}(hp:Jl T pid p0 st)(h:p.flat=b) :
  Jl T pid p (st.set pid (.cells [.slice .imm 4 (T.map ZF),.sc (.int .i64 p.pos),.sc (.int .i64 p.deep),.sc (.int .i64 p.bad),.sc (.bool b),.sc (.int .i64 p.e)])++ex):=by
 subst h;exact zm hp
theorem dC{nd:Nd}{K:SV→St→Prop}{b:Bool}(h:p.flat=b)(hk:K (zq nd) (st.set pid (.cells (qK T p)))){ex:St} :
  YW st (wl K) (zq nd) (st.set pid (.cells [.slice .imm 4 (T.map ZF),.sc (.int .i64 p.pos),.sc (.int .i64 p.deep),.sc (.int .i64 p.bad),.sc (.bool b),.sc (.int .i64 p.e)])++ex):=by
 subst h;exact QJ hk
end Go.AL
namespace Go.Proofs
open Go Go.AL Tryz
theorem LN(T:List Tk)(hT:T.length≤100000){pid:Nat}{e:PM Nd}(he:DC T pid 24 e){nd:Nd}{p p':PS}{x:Tx}{rc:Bool}{v:Nd}(h:V8 T e p=some ((x,rc,v),p')){K:SV→St→Prop}{st:St}{p0:PS}(hp:Jl T pid p0 st){a:Ob}{k:Nat}(hk':k=st.length+1)
  (hk:K (.sc (.bool rc)) (st.set pid (.cells (qK T p'))++[a,.cells (JU (.mk nd.kind x nd.num nd.pos [] []) (.arr (st.length+2) 1 1)),.arr 1 6 (zn v)])) :
  ACalls prog 37 [.ptr pid 0,.ptr k 0] K (st.set pid (.cells (qK T p))++[a,.cells (JU nd (.slice .full 0 []))]):=by
 subst hk';have hlt:=zk hp;refine vn T hT (by omega) he h (zm hp) (Zi 1) ?_;rw[aR hp rfl];simpa using hk
theorem mI{T:List Tk}(hT:T.length≤100000){pid:Nat}{e pt:PM Nd}(he:DC T pid 24 e)(hc:DC T pid 60 (GV T e pt)){p p':PS}{t:Tk}{r:Nd}(ht:zH T p=some t)
  (b1:isT t [108,101,116]=false) (b2:isT t [102,117,110]=true) (b3:isT t [105,102]=false) (h:((ZD T p).bind fun r=>(Vw T 3 r.2).bind fun q=>(qy T [45,62] q.2).bind fun p1=>(e p1).map fun u=>(zw 6 t.pos q.1 [u.1],u.2))=some (r,p')) {K:SV→St→Prop} {st:St} (hp:Jl T pid p st) (hk:K (zq r) (st.set pid (.cells (qK T p')))):ACalls prog 39 [.ptr pid 0] K st:=by
 refine zA (YJ (Yw (QF (M:=[1000054]) func39 rfl results39 ntmps39 ?_)));simp only[xoB,xoM,xpX,xpJ] at h;obtain⟨u,p1,h1,x,p2,h2,p3,h3,w,p4,h4,rfl,rfl⟩:=h;simp only[go_sem];refine Jk ht (zr hp) ?_;simp only[go_sem];refine qj ht b1 (zr hp) ?_;simp only[go_sem];refine qj ht b2 (zr hp) ?_;simp only[go_sem];refine qj ht b3 (zr hp) ?_;simp only[go_sem];refine qQ hT h1 (zr hp) ?_;simp only[go_sem,zb hp];refine Vb hT (by decide) h2 (zm hp) ?_;simp only[go_sem,zb hp];refine Ze hT h3 (zm hp) fun _=>?_;simp only[go_sem,zb hp];refine qN [1000054] [3,6,8,10] [([],st.set pid (.cells (qK T p3))++[.cells qv,.cells [.sc (.int .i64 6),.sc (.string (ba x)),.sc (.int .i64 0),.sc (.int .i64 t.pos),.slice .full 0 [],.slice .full 0 []]]),([3],st.set pid (.cells (qK T p4))++[.cells qv,.cells [.sc (.int .i64 6),.sc (.string (ba x)),.sc (.int .i64 0),.sc (.int .i64 t.pos),.slice .full 0 [],.slice .full 0 []]]),([3,6],st.set pid (.cells (qK T p4))++[.cells qv,.cells [.sc (.int .i64 6),.sc (.string (ba x)),.sc (.int .i64 0),.sc (.int .i64 t.pos),.slice .full 0 [],.slice .full 0 []],.arr 1 6 (zW)]),
  ([3,6,8],st.set pid (.cells (qK T p4))++[.cells qv,.cells [.sc (.int .i64 6),.sc (.string (ba x)),.sc (.int .i64 0),.sc (.int .i64 t.pos),.slice .full 0 [],.slice .full 0 []],.arr 1 6 (zn w)]),([3,6,10],st.set pid (.cells (qK T p4))++[.cells qv,.cells [.sc (.int .i64 6),.sc (.string (ba x)),.sc (.int .i64 0),.sc (.int .i64 t.pos),.slice .full 0 [],.arr (st.length+2) 1 1],.arr 1 6 (zW)]),([3,6,8,10],st.set pid (.cells (qK T p4))++[.cells qv,.cells [.sc (.int .i64 6),.sc (.string (ba x)),.sc (.int .i64 0),.sc (.int .i64 t.pos),.slice .full 0 [],.arr (st.length+2) 1 1],.arr 1 6 (zn w)])]
  [[[],[3]],[[],[3]],[[]],[[]],[[],[3]],[[],[3]],[[3]],[[3,6],[3,6,10]],[[3,6],[3,6,10]],[[3,6],[3,6,8]],[[3,6],[3,6,8]]] mixed rfl rfl rfl rfl rfl ?_
 refine Zd rfl (.ptr (st.length+1) 5) ?_;refine Zd rfl (.slice .full 0 []) ?_;refine Zy rfl (.ptr pid 0) (by simp only[go_sem]) ?_;refine ZP (d:=[3]) rfl rfl (zq w) rfl ?_ ?_
 ·simp only[go_sem];exact he _ _ _ h4 _ _ (zm hp) ⟨rfl,XA hp⟩
 refine Zd rfl (.sc (.int .i64 ((0:Nat):Int))) ?_;refine qt rfl (.slice .full 6 [.agg zW]) ?_ ?_ ?_
 ·simp only[go_sem];refine⟨_,?_,rfl⟩;simp only[go_sem];exact⟨⟨[],by simp⟩,Z0 _,.inl rfl⟩
 ·simp only[go_sem];refine⟨_,?_,rfl⟩;simp only[go_sem];exact⟨⟨[],by simp⟩,Z0 _,.inl rfl⟩
 refine ZP (d:=[3,6]) rfl rfl (.arr (st.length+2) 1 1) rfl ?_ ?_
 ·simp only[go_sem,zW];exact⟨Tryz.app6d (by omega),rfl⟩
 refine qt rfl (.aptr (st.length+2) 1 0) ?_ ?_ ?_
 ·simp only[go_sem];decide
 ·simp only[go_sem];decide
 refine Qz (d:=[3,6,8]) (d2:=[3,6,8,10]) rfl rfl rfl .any rfl ?_ ?_ ?_
 ·simp only[go_sem,za];exact⟨by simp[zn,zW],rfl⟩
 ·simp only[go_sem,za];exact⟨by simp[zn,zW],rfl⟩
 refine Zd rfl (.ptr (st.length+1) 5) ?_;refine Qz (d:=[3,6,10]) (d2:=[3,6,8,10]) rfl rfl rfl .any rfl ?_ ?_ ?_
 ·simp only[go_sem]
 ·simp only[go_sem]
 refine Qp ?_;simp only[go_sem];refine⟨by decide,Jv (nd:=zw 6 t.pos x [w]) (aid:=st.length+2) hk rfl ?_ (by omega) rfl rfl rfl⟩;exact (Zi 2).trans rfl
theorem mN{T:List Tk}(hT:T.length≤100000){pid:Nat}{e pt:PM Nd}(he:DC T pid 24 e)(hc:DC T pid 60 (GV T e pt)){p p':PS}{t:Tk}{r:Nd}(ht:zH T p=some t)
  (b1:isT t [108,101,116]=false) (b2:isT t [102,117,110]=false) (b3:isT t [105,102]=true) (h:((ZD T p).bind fun r=>(e r.2).bind fun c=>(qy T [116,104,101,110] c.2).bind fun p1=>(e p1).bind fun a=>(qy T [101,108,115,101] a.2).bind fun p2=>(e p2).map fun b=>(zw 10 t.pos [] [c.1,a.1,b.1],b.2))=some (r,p')) {K:SV→St→Prop} {st:St} (hp:Jl T pid p st) (hk:K (zq r) (st.set pid (.cells (qK T p')))):ACalls prog 39 [.ptr pid 0] K st:=by
 refine zA (YJ (Yw (QF (M:=[1000068]) func39 rfl results39 ntmps39 ?_)));simp only[xoB,xoM,xpX,xpJ] at h;obtain⟨u,p1,h1,x,p2,h2,p3,h3,y,p4,h4,p5,h5,w,p6,h6,rfl,rfl⟩:=h;simp only[go_sem];refine Jk ht (zr hp) ?_;simp only[go_sem];refine qj ht b1 (zr hp) ?_;simp only[go_sem];refine qj ht b2 (zr hp) ?_;simp only[go_sem];refine qj ht b3 (zr hp) ?_;simp only[go_sem];refine qQ hT h1 (zr hp) ?_;simp only[go_sem,zb hp];refine qN [1000068] [3,6,8,10] [([],st.set pid (.cells (qK T p1))++[.cells qv,.cells [.sc (.int .i64 10),.sc (.string ⟨#[]⟩),.sc (.int .i64 0),.sc (.int .i64 t.pos),.slice .full 0 [],.slice .full 0 []]]),([3],st.set pid (.cells (qK T p2))++[.cells qv,.cells [.sc (.int .i64 10),.sc (.string ⟨#[]⟩),.sc (.int .i64 0),.sc (.int .i64 t.pos),.slice .full 0 [],.slice .full 0 []]]),([3,6],st.set pid (.cells (qK T p2))++[.cells qv,.cells [.sc (.int .i64 10),.sc (.string ⟨#[]⟩),.sc (.int .i64 0),.sc (.int .i64 t.pos),.slice .full 0 [],.slice .full 0 []],.arr 1 6 (zW)]),
  ([3,6,8],st.set pid (.cells (qK T p2))++[.cells qv,.cells [.sc (.int .i64 10),.sc (.string ⟨#[]⟩),.sc (.int .i64 0),.sc (.int .i64 t.pos),.slice .full 0 [],.slice .full 0 []],.arr 1 6 (zn x)]),([3,6,10],st.set pid (.cells (qK T p2))++[.cells qv,.cells [.sc (.int .i64 10),.sc (.string ⟨#[]⟩),.sc (.int .i64 0),.sc (.int .i64 t.pos),.slice .full 0 [],.arr (st.length+2) 1 1],.arr 1 6 (zW)]),([3,6,8,10],st.set pid (.cells (qK T p2))++[.cells qv,.cells [.sc (.int .i64 10),.sc (.string ⟨#[]⟩),.sc (.int .i64 0),.sc (.int .i64 t.pos),.slice .full 0 [],.arr (st.length+2) 1 1],.arr 1 6 (zn x)])]
  [[[],[3]],[[],[3]],[[]],[[]],[[],[3]],[[],[3]],[[3]],[[3,6],[3,6,10]],[[3,6],[3,6,10]],[[3,6],[3,6,8]],[[3,6],[3,6,8]]] mixed rfl rfl rfl rfl rfl ?_
 refine Zd rfl (.ptr (st.length+1) 5) ?_;refine Zd rfl (.slice .full 0 []) ?_;refine Zy rfl (.ptr pid 0) (by simp only[go_sem]) ?_;refine ZP (d:=[3]) rfl rfl (zq x) rfl ?_ ?_
 ·simp only[go_sem];exact he _ _ _ h2 _ _ (zm hp) ⟨rfl,XA hp⟩
 refine Zd rfl (.sc (.int .i64 ((0:Nat):Int))) ?_;refine qt rfl (.slice .full 6 [.agg zW]) ?_ ?_ ?_
 ·simp only[go_sem];refine⟨_,?_,rfl⟩;simp only[go_sem];exact⟨⟨[],by simp⟩,Z0 _,.inl rfl⟩
 ·simp only[go_sem];refine⟨_,?_,rfl⟩;simp only[go_sem];exact⟨⟨[],by simp⟩,Z0 _,.inl rfl⟩
 refine ZP (d:=[3,6]) rfl rfl (.arr (st.length+2) 1 1) rfl ?_ ?_
 ·simp only[go_sem,zW];exact⟨Tryz.app6d (by omega),rfl⟩
 refine qt rfl (.aptr (st.length+2) 1 0) ?_ ?_ ?_
 ·simp only[go_sem];decide
 ·simp only[go_sem];decide
 refine Qz (d:=[3,6,8]) (d2:=[3,6,8,10]) rfl rfl rfl .any rfl ?_ ?_ ?_
 ·simp only[go_sem,za];exact⟨by simp[zn,zW],rfl⟩
 ·simp only[go_sem,za];exact⟨by simp[zn,zW],rfl⟩
 refine Zd rfl (.ptr (st.length+1) 5) ?_;refine Qz (d:=[3,6,10]) (d2:=[3,6,8,10]) rfl rfl rfl .any rfl ?_ ?_ ?_
 ·simp only[go_sem]
 ·simp only[go_sem]
 refine Qp ?_;simp only[go_sem];first | (unfold zf;simp only[ze,zc,zl,xsS,xsZ,xgS,xgZ]) | skip
 refine Ze hT h3 (zm hp) fun _=>?_;simp only[go_sem,zb hp];refine qN [1000068] [3,6,8,10] [([],st.set pid (.cells (qK T p3))++[.cells qv,.cells [.sc (.int .i64 10),.sc (.string ⟨#[]⟩),.sc (.int .i64 0),.sc (.int .i64 t.pos),.slice .full 0 [],.arr (st.length+2) 1 1],.arr 1 6 (zn x)]),([3],st.set pid (.cells (qK T p4))++[.cells qv,.cells [.sc (.int .i64 10),.sc (.string ⟨#[]⟩),.sc (.int .i64 0),.sc (.int .i64 t.pos),.slice .full 0 [],.arr (st.length+2) 1 1],.arr 1 6 (zn x)]),([3,6],st.set pid (.cells (qK T p4))++[.cells qv,.cells [.sc (.int .i64 10),.sc (.string ⟨#[]⟩),.sc (.int .i64 0),.sc (.int .i64 t.pos),.slice .full 0 [],.arr (st.length+2) 1 1],.arr 2 6 (zn x++zW)]),
  ([3,6,8],st.set pid (.cells (qK T p4))++[.cells qv,.cells [.sc (.int .i64 10),.sc (.string ⟨#[]⟩),.sc (.int .i64 0),.sc (.int .i64 t.pos),.slice .full 0 [],.arr (st.length+2) 1 1],.arr 2 6 (zn x++zn y)]),([3,6,10],st.set pid (.cells (qK T p4))++[.cells qv,.cells [.sc (.int .i64 10),.sc (.string ⟨#[]⟩),.sc (.int .i64 0),.sc (.int .i64 t.pos),.slice .full 0 [],.arr (st.length+2) 2 2],.arr 2 6 (zn x++zW)]),([3,6,8,10],st.set pid (.cells (qK T p4))++[.cells qv,.cells [.sc (.int .i64 10),.sc (.string ⟨#[]⟩),.sc (.int .i64 0),.sc (.int .i64 t.pos),.slice .full 0 [],.arr (st.length+2) 2 2],.arr 2 6 (zn x++zn y)])]
  [[[],[3]],[[],[3]],[[]],[[]],[[],[3]],[[],[3]],[[3]],[[3,6],[3,6,10]],[[3,6],[3,6,10]],[[3,6],[3,6,8]],[[3,6],[3,6,8]]] mixed rfl rfl rfl rfl rfl ?_
 refine Zd rfl (.ptr (st.length+1) 5) ?_;refine Zd rfl (.arr (st.length+2) 1 1) ?_;refine Zy rfl (.ptr pid 0) (by simp only[go_sem]) ?_;refine ZP (d:=[3]) rfl rfl (zq y) rfl ?_ ?_
 ·simp only[go_sem];exact he _ _ _ h4 _ _ (zm hp) ⟨rfl,XA hp⟩
 refine Zd rfl (.sc (.int .i64 ((1:Nat):Int))) ?_;refine qt rfl (.slice .full 6 [.agg zW]) ?_ ?_ ?_
 ·simp only[go_sem];refine⟨_,?_,rfl⟩;simp only[go_sem];exact⟨⟨[],by simp⟩,Z0 _,.inl rfl⟩
 ·simp only[go_sem];refine⟨_,?_,rfl⟩;simp only[go_sem];exact⟨⟨[],by simp⟩,Z0 _,.inl rfl⟩
 refine ZP (d:=[3,6]) rfl rfl (.arr (st.length+2) 2 2) rfl ?_ ?_
 ·simp only[go_sem,zW];exact⟨Tryz.app6d (by omega),rfl⟩
 refine qt rfl (.aptr (st.length+2) 2 6) ?_ ?_ ?_
 ·simp only[go_sem];decide
 ·simp only[go_sem];decide
 refine Qz (d:=[3,6,8]) (d2:=[3,6,8,10]) rfl rfl rfl .any rfl ?_ ?_ ?_
 ·simp only[go_sem,za];exact⟨by simp[zn,zW],rfl⟩
 ·simp only[go_sem,za];exact⟨by simp[zn,zW],rfl⟩
 refine Zd rfl (.ptr (st.length+1) 5) ?_;refine Qz (d:=[3,6,10]) (d2:=[3,6,8,10]) rfl rfl rfl .any rfl ?_ ?_ ?_
 ·simp only[go_sem]
 ·simp only[go_sem]
 refine Qp ?_;simp only[go_sem];first | (unfold zf;simp only[ze,zc,zl,xsS,xsZ,xgS,xgZ]) | skip
 refine Ze hT h5 (zm hp) fun _=>?_;simp only[go_sem,zb hp];refine qN [1000068] [3,6,8,10] [([],st.set pid (.cells (qK T p5))++[.cells qv,.cells [.sc (.int .i64 10),.sc (.string ⟨#[]⟩),.sc (.int .i64 0),.sc (.int .i64 t.pos),.slice .full 0 [],.arr (st.length+2) 2 2],.arr 2 6 (zn x++zn y)]),([3],st.set pid (.cells (qK T p6))++[.cells qv,.cells [.sc (.int .i64 10),.sc (.string ⟨#[]⟩),.sc (.int .i64 0),.sc (.int .i64 t.pos),.slice .full 0 [],.arr (st.length+2) 2 2],.arr 2 6 (zn x++zn y)]),([3,6],st.set pid (.cells (qK T p6))++[.cells qv,.cells [.sc (.int .i64 10),.sc (.string ⟨#[]⟩),.sc (.int .i64 0),.sc (.int .i64 t.pos),.slice .full 0 [],.arr (st.length+2) 2 2],.arr 3 6 (zn x++zn y++zW)]),
  ([3,6,8],st.set pid (.cells (qK T p6))++[.cells qv,.cells [.sc (.int .i64 10),.sc (.string ⟨#[]⟩),.sc (.int .i64 0),.sc (.int .i64 t.pos),.slice .full 0 [],.arr (st.length+2) 2 2],.arr 3 6 (zn x++zn y++zn w)]),([3,6,10],st.set pid (.cells (qK T p6))++[.cells qv,.cells [.sc (.int .i64 10),.sc (.string ⟨#[]⟩),.sc (.int .i64 0),.sc (.int .i64 t.pos),.slice .full 0 [],.arr (st.length+2) 3 3],.arr 3 6 (zn x++zn y++zW)]),([3,6,8,10],st.set pid (.cells (qK T p6))++[.cells qv,.cells [.sc (.int .i64 10),.sc (.string ⟨#[]⟩),.sc (.int .i64 0),.sc (.int .i64 t.pos),.slice .full 0 [],.arr (st.length+2) 3 3],.arr 3 6 (zn x++zn y++zn w)])]
  [[[],[3]],[[],[3]],[[]],[[]],[[],[3]],[[],[3]],[[3]],[[3,6],[3,6,10]],[[3,6],[3,6,10]],[[3,6],[3,6,8]],[[3,6],[3,6,8]]] mixed rfl rfl rfl rfl rfl ?_
 refine Zd rfl (.ptr (st.length+1) 5) ?_;refine Zd rfl (.arr (st.length+2) 2 2) ?_;refine Zy rfl (.ptr pid 0) (by simp only[go_sem]) ?_;refine ZP (d:=[3]) rfl rfl (zq w) rfl ?_ ?_
 ·simp only[go_sem];exact he _ _ _ h6 _ _ (zm hp) ⟨rfl,XA hp⟩
 refine Zd rfl (.sc (.int .i64 ((2:Nat):Int))) ?_;refine qt rfl (.slice .full 6 [.agg zW]) ?_ ?_ ?_
 ·simp only[go_sem];refine⟨_,?_,rfl⟩;simp only[go_sem];exact⟨⟨[],by simp⟩,Z0 _,.inl rfl⟩
 ·simp only[go_sem];refine⟨_,?_,rfl⟩;simp only[go_sem];exact⟨⟨[],by simp⟩,Z0 _,.inl rfl⟩
 refine ZP (d:=[3,6]) rfl rfl (.arr (st.length+2) 3 3) rfl ?_ ?_
 ·simp only[go_sem,zW];exact⟨Tryz.app6d (by omega),rfl⟩
 refine qt rfl (.aptr (st.length+2) 3 12) ?_ ?_ ?_
 ·simp only[go_sem];decide
 ·simp only[go_sem];decide
 refine Qz (d:=[3,6,8]) (d2:=[3,6,8,10]) rfl rfl rfl .any rfl ?_ ?_ ?_
 ·simp only[go_sem,za];exact⟨by simp[zn,zW],rfl⟩
 ·simp only[go_sem,za];exact⟨by simp[zn,zW],rfl⟩
 refine Zd rfl (.ptr (st.length+1) 5) ?_;refine Qz (d:=[3,6,10]) (d2:=[3,6,8,10]) rfl rfl rfl .any rfl ?_ ?_ ?_
 ·simp only[go_sem]
 ·simp only[go_sem]
 refine Qp ?_;simp only[go_sem];refine⟨by decide,Jv (nd:=zw 10 t.pos [] [x,y,w]) (aid:=st.length+2) hk rfl ?_ (by omega) rfl rfl rfl⟩;exact (Zi 2).trans rfl
theorem pV{T:List Tk}(hT:T.length≤100000){pid:Nat}{e pt:PM Nd}(he:DC T pid 24 e)(hc:DC T pid 60 (GV T e pt)){p p':PS}{t:Tk}{r:Nd}(ht:zH T p=some t)
  (b1:isT t [108,101,116]=true) (b2:isT t [102,117,110]=false) (b3:isT t [105,102]=false) (h:((ZD T p).bind fun r=>(V8 T e r.2).bind fun q=>(qy T [105,110] q.2).bind fun p1=>(e p1).map fun u=>(zw (if q.1.2.1 then 9 else 8) t.pos q.1.1 [q.1.2.2,u.1],u.2))=some (r,p')) {K:SV→St→Prop} {st:St} (hp:Jl T pid p st) (hk:K (zq r) (st.set pid (.cells (qK T p')))):ACalls prog 39 [.ptr pid 0] K st:=by
 refine zA (YJ (Yw (QF (M:=[]) func39 rfl results39 ntmps39 ?_)));simp only[xoB,xoM,xpX,xpJ] at h;obtain⟨u,p1,h1,x,rc,v,p2,h2,p3,h3,w,p4,h4,rfl,rfl⟩:=h;cases rc with
 | true =>
  simp only[go_sem];refine Jk ht (zr hp) ?_;simp only[go_sem];refine qj ht b1 (zr hp) ?_;simp only[go_sem];refine qj ht b2 (zr hp) ?_;simp only[go_sem];refine qj ht b3 (zr hp) ?_;simp only[go_sem];refine qQ hT h1 (zr hp) ?_;simp only[go_sem,zb hp];refine LN T hT he (nd :=.mk 8 [] 0 t.pos [] []) h2 hp rfl ?_;unfold JU;simp only[go_sem,zb hp];refine Ze hT h3 (zm hp) fun _=>?_;simp only[go_sem,zb hp];refine qN [] [3,6,8,10] [([],st.set pid (.cells (qK T p3))++[.cells qv,.cells [.sc (.int .i64 9),.sc (.string (ba x)),.sc (.int .i64 0),.sc (.int .i64 t.pos),.slice .full 0 [],.arr (st.length+2) 1 1],.arr 1 6 (zn v)]),([3],st.set pid (.cells (qK T p4))++[.cells qv,.cells [.sc (.int .i64 9),.sc (.string (ba x)),.sc (.int .i64 0),.sc (.int .i64 t.pos),.slice .full 0 [],.arr (st.length+2) 1 1],.arr 1 6 (zn v)]),([3,6],st.set pid (.cells (qK T p4))++[.cells qv,.cells [.sc (.int .i64 9),.sc (.string (ba x)),.sc (.int .i64 0),.sc (.int .i64 t.pos),.slice .full 0 [],.arr (st.length+2) 1 1],.arr 2 6 (zn v++zW)]),
   ([3,6,8],st.set pid (.cells (qK T p4))++[.cells qv,.cells [.sc (.int .i64 9),.sc (.string (ba x)),.sc (.int .i64 0),.sc (.int .i64 t.pos),.slice .full 0 [],.arr (st.length+2) 1 1],.arr 2 6 (zn v++zn w)]),([3,6,10],st.set pid (.cells (qK T p4))++[.cells qv,.cells [.sc (.int .i64 9),.sc (.string (ba x)),.sc (.int .i64 0),.sc (.int .i64 t.pos),.slice .full 0 [],.arr (st.length+2) 2 2],.arr 2 6 (zn v++zW)]),([3,6,8,10],st.set pid (.cells (qK T p4))++[.cells qv,.cells [.sc (.int .i64 9),.sc (.string (ba x)),.sc (.int .i64 0),.sc (.int .i64 t.pos),.slice .full 0 [],.arr (st.length+2) 2 2],.arr 2 6 (zn v++zn w)])]
   [[[],[3]],[[],[3]],[[]],[[]],[[],[3]],[[],[3]],[[3]],[[3,6],[3,6,10]],[[3,6],[3,6,10]],[[3,6],[3,6,8]],[[3,6],[3,6,8]]] mixed rfl rfl rfl rfl rfl ?_
  refine Zd rfl (.ptr (st.length+1) 5) ?_;refine Zd rfl (.arr (st.length+2) 1 1) ?_;refine Zy rfl (.ptr pid 0) (by simp only[go_sem]) ?_;refine ZP (d:=[3]) rfl rfl (zq w) rfl ?_ ?_
  ·simp only[go_sem];exact he _ _ _ h4 _ _ (zm hp) ⟨rfl,XA hp⟩
  refine Zd rfl (.sc (.int .i64 ((1:Nat):Int))) ?_;refine qt rfl (.slice .full 6 [.agg zW]) ?_ ?_ ?_
  ·simp only[go_sem];refine⟨_,?_,rfl⟩;simp only[go_sem];exact⟨⟨[],by simp⟩,Z0 _,.inl rfl⟩
  ·simp only[go_sem];refine⟨_,?_,rfl⟩;simp only[go_sem];exact⟨⟨[],by simp⟩,Z0 _,.inl rfl⟩
  refine ZP (d:=[3,6]) rfl rfl (.arr (st.length+2) 2 2) rfl ?_ ?_
  ·simp only[go_sem,zW];exact⟨Tryz.app6d (by omega),rfl⟩
  refine qt rfl (.aptr (st.length+2) 2 6) ?_ ?_ ?_
  ·simp only[go_sem];decide
  ·simp only[go_sem];decide
  refine Qz (d:=[3,6,8]) (d2:=[3,6,8,10]) rfl rfl rfl .any rfl ?_ ?_ ?_
  ·simp only[go_sem,za];exact⟨by simp[zn,zW],rfl⟩
  ·simp only[go_sem,za];exact⟨by simp[zn,zW],rfl⟩
  refine Zd rfl (.ptr (st.length+1) 5) ?_;refine Qz (d:=[3,6,10]) (d2:=[3,6,8,10]) rfl rfl rfl .any rfl ?_ ?_ ?_
  ·simp only[go_sem]
  ·simp only[go_sem]
  refine Qp ?_;simp only[go_sem];refine⟨by decide,Jv (nd:=zw 9 t.pos x [v,w]) (aid:=st.length+2) hk rfl ?_ (by omega) rfl rfl rfl⟩;exact (Zi 2).trans rfl
 | false =>
  simp only[go_sem];refine Jk ht (zr hp) ?_;simp only[go_sem];refine qj ht b1 (zr hp) ?_;simp only[go_sem];refine qj ht b2 (zr hp) ?_;simp only[go_sem];refine qj ht b3 (zr hp) ?_;simp only[go_sem];refine qQ hT h1 (zr hp) ?_;simp only[go_sem,zb hp];refine LN T hT he (nd :=.mk 8 [] 0 t.pos [] []) h2 hp rfl ?_;unfold JU;simp only[go_sem,zb hp];refine Ze hT h3 (zm hp) fun _=>?_;simp only[go_sem,zb hp];refine qN [] [3,6,8,10] [([],st.set pid (.cells (qK T p3))++[.cells qv,.cells [.sc (.int .i64 8),.sc (.string (ba x)),.sc (.int .i64 0),.sc (.int .i64 t.pos),.slice .full 0 [],.arr (st.length+2) 1 1],.arr 1 6 (zn v)]),([3],st.set pid (.cells (qK T p4))++[.cells qv,.cells [.sc (.int .i64 8),.sc (.string (ba x)),.sc (.int .i64 0),.sc (.int .i64 t.pos),.slice .full 0 [],.arr (st.length+2) 1 1],.arr 1 6 (zn v)]),([3,6],st.set pid (.cells (qK T p4))++[.cells qv,.cells [.sc (.int .i64 8),.sc (.string (ba x)),.sc (.int .i64 0),.sc (.int .i64 t.pos),.slice .full 0 [],.arr (st.length+2) 1 1],.arr 2 6 (zn v++zW)]),
   ([3,6,8],st.set pid (.cells (qK T p4))++[.cells qv,.cells [.sc (.int .i64 8),.sc (.string (ba x)),.sc (.int .i64 0),.sc (.int .i64 t.pos),.slice .full 0 [],.arr (st.length+2) 1 1],.arr 2 6 (zn v++zn w)]),([3,6,10],st.set pid (.cells (qK T p4))++[.cells qv,.cells [.sc (.int .i64 8),.sc (.string (ba x)),.sc (.int .i64 0),.sc (.int .i64 t.pos),.slice .full 0 [],.arr (st.length+2) 2 2],.arr 2 6 (zn v++zW)]),([3,6,8,10],st.set pid (.cells (qK T p4))++[.cells qv,.cells [.sc (.int .i64 8),.sc (.string (ba x)),.sc (.int .i64 0),.sc (.int .i64 t.pos),.slice .full 0 [],.arr (st.length+2) 2 2],.arr 2 6 (zn v++zn w)])]
   [[[],[3]],[[],[3]],[[]],[[]],[[],[3]],[[],[3]],[[3]],[[3,6],[3,6,10]],[[3,6],[3,6,10]],[[3,6],[3,6,8]],[[3,6],[3,6,8]]] mixed rfl rfl rfl rfl rfl ?_
  refine Zd rfl (.ptr (st.length+1) 5) ?_;refine Zd rfl (.arr (st.length+2) 1 1) ?_;refine Zy rfl (.ptr pid 0) (by simp only[go_sem]) ?_;refine ZP (d:=[3]) rfl rfl (zq w) rfl ?_ ?_
  ·simp only[go_sem];exact he _ _ _ h4 _ _ (zm hp) ⟨rfl,XA hp⟩
  refine Zd rfl (.sc (.int .i64 ((1:Nat):Int))) ?_;refine qt rfl (.slice .full 6 [.agg zW]) ?_ ?_ ?_
  ·simp only[go_sem];refine⟨_,?_,rfl⟩;simp only[go_sem];exact⟨⟨[],by simp⟩,Z0 _,.inl rfl⟩
  ·simp only[go_sem];refine⟨_,?_,rfl⟩;simp only[go_sem];exact⟨⟨[],by simp⟩,Z0 _,.inl rfl⟩
  refine ZP (d:=[3,6]) rfl rfl (.arr (st.length+2) 2 2) rfl ?_ ?_
  ·simp only[go_sem,zW];exact⟨Tryz.app6d (by omega),rfl⟩
  refine qt rfl (.aptr (st.length+2) 2 6) ?_ ?_ ?_
  ·simp only[go_sem];decide
  ·simp only[go_sem];decide
  refine Qz (d:=[3,6,8]) (d2:=[3,6,8,10]) rfl rfl rfl .any rfl ?_ ?_ ?_
  ·simp only[go_sem,za];exact⟨by simp[zn,zW],rfl⟩
  ·simp only[go_sem,za];exact⟨by simp[zn,zW],rfl⟩
  refine Zd rfl (.ptr (st.length+1) 5) ?_;refine Qz (d:=[3,6,10]) (d2:=[3,6,8,10]) rfl rfl rfl .any rfl ?_ ?_ ?_
  ·simp only[go_sem]
  ·simp only[go_sem]
  refine Qp ?_;simp only[go_sem];refine⟨by decide,Jv (nd:=zw 8 t.pos x [v,w]) (aid:=st.length+2) hk rfl ?_ (by omega) rfl rfl rfl⟩;exact (Zi 2).trans rfl
theorem pH{T:List Tk}(hT:T.length≤100000){pid:Nat}{e pt:PM Nd}(he:DC T pid 24 e)(hc:DC T pid 60 (GV T e pt)){p p':PS}{t:Tk}{r:Nd}(ht:zH T p=some t)
  (b1:isT t [108,101,116]=false) (b2:isT t [102,117,110]=false) (b3:isT t [105,102]=false) (h:((GV T e pt p).bind fun r=>(Yj T [59] r.2).bind fun b=>if b∧¬ r.2.flat then (ZD T r.2).bind fun q=>(e q.2).map fun u=>(zw 14 r.1.pos [] [r.1,u.1],u.2) else some (r.1,r.2))=some (r,p')) {K:SV→St→Prop} {st:St} (hp:Jl T pid p st) (hk:K (zq r) (st.set pid (.cells (qK T p')))):ACalls prog 39 [.ptr pid 0] K st:=by
 refine zA (zp [] func39 rfl results39 ntmps39 ?_);simp only[xoB,xpX] at h;obtain⟨x,p1,h1,b,h2,h⟩:=h;have y1:=zI (YF (p':=p1) hp);unfold qK at y1;cases b with
 | false =>
  rw[if_neg (by simp)] at h;cases h;simp only[go_sem];refine Jk ht (zr hp) ?_;simp only[go_sem];refine qj ht b1 (zr hp) ?_;simp only[go_sem];refine qj ht b2 (zr hp) ?_;simp only[go_sem];refine qj ht b3 (zr hp) ?_;simp only[go_sem];refine hc _ _ _ h1 _ _ (zr hp) ?_;simp only[go_sem,zb hp];refine Xo h2 (zm hp) ?_;simp only[go_sem,zb hp];exact QJ hk
 | true =>
  by_cases hf:p1.flat=true
  ·rw[if_neg (by simp[hf])] at h;cases h;simp only[go_sem];refine Jk ht (zr hp) ?_;simp only[go_sem];refine qj ht b1 (zr hp) ?_;simp only[go_sem];refine qj ht b2 (zr hp) ?_;simp only[go_sem];refine qj ht b3 (zr hp) ?_;simp only[go_sem];refine hc _ _ _ h1 _ _ (zr hp) ?_;simp only[go_sem,zb hp];refine Xo h2 (zm hp) ?_;unfold qK;simp only[go_sem,zb hp,y1.1,y1.2.1,y1.2.2,hf];exact dC hf hk
  ·have hf:p1.flat=false:=by simpa using hf
   rw[if_pos ⟨rfl,by simp[hf]⟩] at h;simp only[xoB,xoM,xpX,xpJ] at h;obtain⟨u,p2,h3,w,p3,h4,rfl,rfl⟩:=h;simp only[go_sem];refine Jk ht (zr hp) ?_;simp only[go_sem];refine qj ht b1 (zr hp) ?_;simp only[go_sem];refine qj ht b2 (zr hp) ?_;simp only[go_sem];refine qj ht b3 (zr hp) ?_;simp only[go_sem];refine hc _ _ _ h1 _ _ (zr hp) ?_;simp only[go_sem,zb hp];refine Xo h2 (zm hp) ?_;unfold qK;simp only[go_sem,zb hp,y1.1,y1.2.1,y1.2.2,hf];first | (unfold zf;simp only[ze,zc,zl,xsS,xsZ,xgS,xgZ]) | skip
   refine qQ hT h3 (nJ hp hf) ?_;simp only[go_sem,zb hp];refine zB [] [(0,[7]),(0,[7]),(0,[7]),(0,[]),(3,[7]),(0,[]),(0,[]),(1,[8])] mixed rfl ?_;simp only[go_sem,za];refine⟨_,_,he _ _ _ h4 _ _ (zm hp) ⟨rfl,rfl⟩,?_⟩;simp only[go_sem,zb hp];rw[zt];refine⟨.slice .full 6 [.agg (zn x),zq w],?_,?_⟩
   ·unfold zn;simp only[go_sem];exact⟨⟨[],by simp⟩,Yv _ x w,.inl rfl⟩
   rw[zt];refine⟨.agg [.sc (.int .i64 14),.sc (.string ⟨#[]⟩),.sc (.int .i64 0),.sc (.int .i64 x.pos),.slice .full 0 [],.slice .full 6 [.agg (zn x),zq w]],?_,?_⟩
   ·unfold zn;simp only[go_sem];exact⟨⟨[],by simp⟩,U0 (t:=[]) (Yv _ x w),.inl rfl⟩
   unfold zn;simp only[go_sem];exact kh (t:=[]) hk
theorem nM{T:List Tk}(hT:T.length≤100000){pid:Nat}{e pt:PM Nd}(he:DC T pid 24 e)(hc:DC T pid 60 (GV T e pt)):DC T pid 39 (BD T e pt):=by
 intro p r p' h K st hp hk;unfold BD at h;rw[xoB] at h;obtain⟨t,ht,h⟩:=h;have no:∀ {a b:Tx},isT t a=true→a≠b→isT t b=false:=fun {a b} h1 h2=>by
  cases hb:isT t b with
  | false=>rfl
  | true=>exact absurd ((Qu.1 h1).2.symm.trans (Qu.1 hb).2) h2
 cases b1:isT t [108,101,116] with
 | true =>
  rw[if_pos b1] at h;exact pV hT he hc ht b1 (no b1 (by decide)) (no b1 (by decide)) h hp hk
 | false =>
 rw[if_neg (by rw[b1];decide)] at h;cases b2:isT t [102,117,110] with
 | true =>
  rw[if_pos b2] at h;exact mI hT he hc ht b1 b2 (no b2 (by decide)) h hp hk
 | false =>
 rw[if_neg (by rw[b2];decide)] at h;cases b3:isT t [105,102] with
 | true =>
  rw[if_pos b3] at h;exact mN hT he hc ht b1 b2 b3 h hp hk
 | false =>
 rw[if_neg (by rw[b3];decide)] at h;exact pH hT he hc ht b1 b2 b3 h hp hk
end Go.Proofs
namespace Go.AL
variable {T:List Tk} {pid:Nat} {st:St} {p q:PS}
theorem tN(n:Nd)(c:Tx):(n.addName c).kind=n.kind:=by cases n;rfl
theorem bJ(n:Nd)(c:Tx):(n.addName c).text=n.text:=by cases n;rfl
theorem oX(n:Nd)(c:Tx):(n.addName c).num=n.num:=by cases n;rfl
theorem eM(n:Nd)(c:Tx):(n.addName c).pos=n.pos:=by cases n;rfl
theorem FA(n:Nd)(c:Tx):(n.addName c).names=n.names++[c]:=by cases n;rfl
theorem dU(n:Nd)(c:Tx):(n.addName c).kids=n.kids:=by cases n;rfl
def aH(nid nver aid aver:Nat)(n:Nd):List SV:=[.sc (.int .i64 n.kind),.sc (.string (ba n.text)),.sc (.int .i64 n.num),.sc (.int .i64 n.pos),.slice (.own nid nver) 1 (n.names.map qc),.arr aid aver n.kids.length]
theorem LK(l:List Nd):(l.flatMap zn).length=l.length*6:=by
 induction l with
 | nil=>rfl
 | cons a r ih=>rw[List.flatMap_cons,xlA,ih,xlC];simp only[zn,xlC,xlN];omega
theorem Dw{nd:Nd}{K:SV→St→Prop}{nid nver aid ver:Nat}{cs:List SV}{ex s:St}(hk:K (zq nd) (st.set pid (.cells (qK T p))))(hs:s=st.set pid (.cells (qK T p))++ex)(hid:s[aid]?=some (.arr ver 6 cs))(hlen:st.length≤aid)(hcs:cs=nd.kids.flatMap zn) :
  ux (YW st (wl K)) (.agg (aH nid nver aid ver nd)) s:=by
 have hfl:(nd.kids.map zq).flatMap SV.cells=nd.kids.flatMap zn:=by
  rw[List.flatMap_map];exact congrArg (fun f=>nd.kids.flatMap f) (funext fun c=>za c)
 refine⟨[.sc (.int .i64 nd.kind),.sc (.string (ba nd.text)),.sc (.int .i64 nd.num),.sc (.int .i64 nd.pos),.slice (.own nid nver) 1 (nd.names.map qc)],aid,ver,_,6,nd.kids.map zq,cs,rfl,hid,?_,by simp,?_,?_⟩
 ·rw[hcs,hfl];exact List.take_of_length_le (Nat.le_of_eq (LK _))
 ·intro x hx;obtain⟨c,_,rfl⟩:=List.mem_map.1 hx;exact uD c
 ·subst hs;rw[List.set_append_right _ _ (by simpa using hlen)];exact Xv (T:=T) (pid:=pid) (m1 :=.own nid nver) (m2 :=.imm) (z1:=1) (z2:=6) hk (.inl rfl) (.inl rfl) (ex:=ex.set (aid-(st.set pid (.cells (qK T p))).length) (.arr (ver+1) 6 []))
theorem fj(hp:Jl T pid p st){X a:Ob}{ex:St}{l:List SV}{k:Nat}(hk:k=st.length+ex.length):S2 T pid k l q (st.set pid X++(ex++[a]))=st.set pid (.cells (qK T q))++(ex++[.cells l]):=by
 subst hk;unfold S2;rw[QK,XA hp,List.set_append_right _ _ (Nat.le_refl _),Nat.sub_self];rfl
end Go.AL
namespace Go.Proofs
open Go Go.AL Tryz
theorem Tryz.app1d{n:Nat}(h:n≤1000000):AppOk prog 23 23 1 n:=Vm Tryz.aelem23 Tryz.aelem23 Tryz.asize9 Tryz.azero9 rfl Tryz.abytes9 (by omega) h
theorem Lz(T:List Tk)(hT:T.length≤100000){pid:Nat}{e:PM Nd}(he:DC T pid 24 e){nd:Nd}{p p':PS}{x:Tx}{rc:Bool}{v:Nd}(h:V8 T e p=some ((x,rc,v),p')){K:SV→St→Prop}{st:St}{p0:PS}(hp:Jl T pid p0 st)(a b:Ob){k:Nat}(hk':k=st.length+2)
  (hk:K (.sc (.bool rc)) (st.set pid (.cells (qK T p'))++[a,b,.cells (JU (.mk nd.kind x nd.num nd.pos [] []) (.arr (st.length+3) 1 1)),.arr 1 6 (zn v)])) :
  ACalls prog 37 [.ptr pid 0,.ptr k 0] K (st.set pid (.cells (qK T p))++[a,b,.cells (JU nd (.slice .full 0 []))]):=by
 subst hk';have hlt:=zk hp;refine vn T hT (by omega) he h (zm hp) (Zi 2) ?_;rw[show ([a,b,.cells (JU nd (.slice .full 0 []))]:St)=[a,b]++[.cells (JU nd (.slice .full 0 []))] from rfl,fj (ex:=[a,b]) (k:=st.length+2) hp rfl];simpa using hk
def RX(T:List Tk)(pid:Nat)(st:St)(p4:PS)(n1:Nd)(e:Exit)(env:List SV)(s:St):Prop:=e = .exit 0∧(∃ y3 y4 y6 y9 y10 y11 y12 y13 y14 y15 y16 y17 y18 y19 y20 y21 y22 y23 y24 y25 y26 y27 y28 y29 y30 y31 y32 y33 y34 y35 y36 y37 y38,env=[.ptr pid 0,.any,.ptr st.length 0,y3,y4,.ptr (st.length+2) 0,y6,.any,.any,y9,y10,y11,y12,y13,y14,y15,y16,y17,y18,y19,y20,y21,y22,y23,y24,y25,y26,y27,y28,y29,y30,y31,y32,y33,y34,y35,y36,y37,y38,.any,.any,.any,.any,.any,.any,.any,.any,.any,.any,.any,.any,.any,.any,.any,.any,.any,.any,.any,.any,.any,.any,.any,.any,.any,.any,.any,.any,.any,.any,.any,.any,.any,.any,.any,.any,.any,.any,.any,.any,.any,.any,.any,.any])∧∃ (kv:Nat) (b4:Ob) (ex:St),(n1.names.length≤T.length+2∧n1.kids=[])∧s=st.set pid (.cells (qK T p4))++(.cells qv::b4 :: .cells [.sc (.int .i64 n1.kind),.sc (.string (ba n1.text)),.sc (.int .i64 n1.num),.sc (.int .i64 n1.pos),.slice (.own (st.length+3) kv) 1 (n1.names.map qc),.arr (st.length+4) 0 0] :: .tok kv :: .arr 0 6 []::ex)
theorem nt{T:List Tk}(hT:T.length≤100000){pid:Nat}{e ty:PM Nd}(he:DC T pid 24 e)(hc:DC T pid 36 (uj T ty)){p p':PS}{r:Nd}
  (hb:Yj T [116,121,112,101] p=some false) (h:((ZD T p).bind fun r=>((V8 T e { r.2 with flat:=true }).map fun q=>(zw (if q.1.2.1 then 29 else 28) r.1.pos q.1.1 [q.1.2.2],{ q.2 with flat:=false })).bind fun u=>(qy T [59] u.2).map fun p1=>(u.1,p1))=some (r,p')) {K:SV→St→Prop} {st:St} (hp:Jl T pid p st) (hk:K (zq r) (st.set pid (.cells (qK T p')))):ACalls prog 22 [.ptr pid 0] K st:=by
 refine zA (YJ (Yw (QF (M:=[1000061]) func22 rfl results22 ntmps22 ?_)));simp only[xoB,xoM,xpX,xpJ] at h;obtain⟨u,p1,h1,n1,p2,⟨x,rc,v,p3,h3,rfl,rfl⟩,p4,h4,rfl,rfl⟩:=h;have y1:=zI (YF (p':=p1) hp);unfold qK at y1;have y3:=zI (YF (p':=p3) hp);unfold qK at y3;cases rc with
 | true =>
  simp only[go_sem];refine Xo hb (zr hp) ?_;simp only[go_sem];refine qQ hT h1 (zr hp) ?_;unfold qK;simp only[go_sem,zb hp,y1.1,y1.2.1,y1.2.2];refine Lz T hT he (nd :=.mk 28 [] 0 u.pos [] []) (p:={ p1 with flat:=true }) h3 hp _ _ rfl ?_;unfold JU qK;simp only[go_sem,zb hp,y3.1,y3.2.1,y3.2.2];refine Ze hT h4 (zm (p':={ p3 with flat:=false }) hp) fun _=>?_;simp only[go_sem,zb hp];refine Jv (nd:=zw 29 u.pos x [v]) (aid:=st.length+3) hk rfl ?_ (by omega) rfl rfl rfl;exact (Zi 3).trans rfl
 | false =>
  simp only[go_sem];refine Xo hb (zr hp) ?_;simp only[go_sem];refine qQ hT h1 (zr hp) ?_;unfold qK;simp only[go_sem,zb hp,y1.1,y1.2.1,y1.2.2];refine Lz T hT he (nd :=.mk 28 [] 0 u.pos [] []) (p:={ p1 with flat:=true }) h3 hp _ _ rfl ?_;unfold JU qK;simp only[go_sem,zb hp,y3.1,y3.2.1,y3.2.2];refine Ze hT h4 (zm (p':={ p3 with flat:=false }) hp) fun _=>?_;simp only[go_sem,zb hp];refine Jv (nd:=zw 28 u.pos x [v]) (aid:=st.length+3) hk rfl ?_ (by omega) rfl rfl rfl;exact (Zi 3).trans rfl
theorem ng{T:List Tk}(hT:T.length≤100000){pid:Nat}{e ty:PM Nd}(he:DC T pid 24 e)(hc:DC T pid 36 (uj T ty)){p p':PS}{r:Nd}
  (hb:Yj T [116,121,112,101] p=some true) (h:((ZD T p).bind fun r=>(gH T ty r.1.pos r.2).bind fun u=>(qy T [59] u.2).map fun p1=>(u.1,p1))=some (r,p')) {K:SV→St→Prop} {st:St} (hp:Jl T pid p st) (hk:K (zq r) (st.set pid (.cells (qK T p')))):ACalls prog 22 [.ptr pid 0] K st:=by
 refine zA (YJ (Yw (QF (M:=[1000061]) func22 rfl results22 ntmps22 ?_)));unfold gH at h;simp only[xoB,xoM,xpX,xpJ] at h;obtain⟨u,p1,h1,n2,p2,⟨x0,p3,h3,n1,p4,hL1,p5,h5,hL2⟩,p6,h6,rfl,rfl⟩:=h;simp only[go_sem];refine Xo hb (zr hp) ?_;simp only[go_sem];refine qQ hT h1 (zr hp) ?_;simp only[go_sem,zb hp];refine Vb hT (by decide) h3 (zm hp) ?_;simp only[go_sem,zb hp];refine ZS (st.length+2) 4 1 0 (Zi 2) (by simp) rfl ?_;rw[QK];simp only[xlA,XG,xlC,xlN,xsS,xsZ,xaA,xcA,xnA,Nat.zero_add,Nat.reduceAdd];refine fx (st.length+2) 5 6 0 (Zi 2) (by simp) rfl ?_;rw[QK];simp only[xlA,XG,xlC,xlN,xsS,xsZ,xaA,xcA,xnA,Nat.zero_add,Nat.reduceAdd];refine AWp.mono (Q:=RX T pid st p4 n1) ?_ ?_
 ·refine zx [] (fun m env s=>∃ (nd:Nd) (q:PS) (kv:Nat) (b4:Ob) (ex:St),Uq T m nd q=some (n1,p4)∧m+nd.names.length≤T.length+2∧nd.kids=[]∧env=[.ptr pid 0,.any,.ptr st.length 0,.any,.any,.ptr (st.length+2) 0,.any,.any,.any,.any,.any,.any,.any,.any,.any,.any,.any,.any,.any,.any,.any,.any,.any,.any,.any,.any,.any,.any,.any,.any,.any,.any,.any,.any,.any,.any,.any,.any,.any,.any,.any,.any,.any,.any,.any,.any,.any,.any,.any,.any,.any,.any,.any,.any,.any,.any,.any,.any,.any,.any,.any,.any,.any,.any,.any,.any,.any,.any,.any,.any,.any,.any,.any,.any,.any,.any,.any,.any,.any,.any,.any,.any,.any] ∧
   s=st.set pid (.cells (qK T q))++(.cells qv::b4 :: .cells [.sc (.int .i64 nd.kind),.sc (.string (ba nd.text)),.sc (.int .i64 nd.num),.sc (.int .i64 nd.pos),.slice (.own (st.length+3) kv) 1 (nd.names.map qc),.arr (st.length+4) 0 0] :: .tok kv :: .arr 0 6 []::ex)) (n:=T.length+2) ?_ ⟨_,_,0,_,[],hL1,by simp[zw,Nd.names],rfl,rfl,rfl⟩ ?_
  ·exact qu
  rintro m env s ⟨nd,q,kv,b4,ex,hl,hm,hkd,rfl,rfl⟩;cases m with
  | zero=>cases hl
  | succ m =>
  unfold Uq at hl;rw[xoB] at hl;obtain⟨t,ht,hl⟩:=hl;by_cases c3:t.kind=3
  ·have d3:(t.kind==3)=true:=by simp[c3]
   rw[if_pos c3] at hl;by_cases c4:nd.names.length=4
   ·have l1:((nd.names.length:Int)==4)=true:=by simp[c4]
    rw[if_pos c4,xoM] at hl;obtain⟨q1,c5,hl⟩:=hl;cases hl;simp only[go_sem];refine qd ht (zm hp) ?_;simp only[go_sem,d3,xlM,l1];refine Qw c5 (zm hp) fun _=>?_;simp only[go_sem,zb hp];exact⟨rfl,⟨_,_,_,_,_,_,_,_,_,_,_,_,_,_,_,_,_,_,_,_,_,_,_,_,_,_,_,_,_,_,_,_,_,rfl⟩,_,_,_,⟨by omega,hkd⟩,rfl⟩
   ·have l1:((nd.names.length:Int)==4)=false:=by simp;omega
    rw[if_neg c4,xoB] at hl;obtain⟨⟨w,q1⟩,c5,hl⟩:=hl;simp only[go_sem];refine qd ht (zm hp) ?_;simp only[go_sem,d3,xlM,l1];refine qQ hT c5 (zm hp) ?_;simp only[go_sem,zb hp];refine⟨Tryz.app1d (by omega),m,_,by omega,?_,nd.addName w.text,q1,kv+1,b4,_,hl,by rw[FA];simp;omega,by rw[dU];exact hkd,rfl,by rw[tN,bJ,oX,eM,FA,xmA];rfl⟩;exact qu
  ·have d3:(t.kind==3)=false:=by simp[c3]
   rw[if_neg c3] at hl;cases hl;simp only[go_sem];refine qd ht (zm hp) ?_;simp only[go_sem,d3];exact⟨rfl,⟨_,_,_,_,_,_,_,_,_,_,_,_,_,_,_,_,_,_,_,_,_,_,_,_,_,_,_,_,_,_,_,_,_,rfl⟩,_,_,_,⟨by omega,hkd⟩,rfl⟩
 rintro e env s ⟨rfl,⟨y3,y4,y6,y9,y10,y11,y12,y13,y14,y15,y16,y17,y18,y19,y20,y21,y22,y23,y24,y25,y26,y27,y28,y29,y30,y31,y32,y33,y34,y35,y36,y37,y38,rfl⟩,kv,b4,ex,⟨hn1,hkd⟩,rfl⟩;simp only[go_sem];refine Ze hT h5 (zm hp) fun _=>?_;simp only[go_sem,zb hp];refine zx [] (fun m env s=>∃ (nd:Nd) (q:PS) (av:Nat) (more:Bool) (b4:Ob) (ex:St),EE T ty m more nd q=some (n2,p2)∧m+nd.kids.length≤T.length+2∧nd.names.length≤T.length+2∧env=[.ptr pid 0,.any,.ptr st.length 0,.any,.any,.ptr (st.length+2) 0,.any,.sc (.bool more),.any,.any,.any,.any,.any,.any,.any,.any,.any,.any,.any,.any,.any,.any,.any,.any,.any,.any,.any,.any,.any,.any,.any,.any,.any,.any,.any,.any,.any,.any,.any,.any,.any,.any,.any,.any,.any,.any,.any,.any,.any,.any,.any,.any,.any,.any,.any,.any,.any,.any,.any,.any,.any,.any,.any,.any,.any,.any,.any,.any,.any,.any,.any,.any,.any,.any,.any,.any,.any,.any,.any,.any,.any,.any,.any] ∧
  s=st.set pid (.cells (qK T q))++(.cells qv::b4 :: .cells (aH (st.length+3) kv (st.length+4) av nd) :: .tok kv :: .arr av 6 (nd.kids.flatMap zn)::ex)) (n:=T.length+2) ?_ ⟨n1,_,0,true,b4,ex,hL2,by rw[hkd];simp,hn1,rfl,by unfold aH;rw[hkd];rfl⟩ ?_
 ·exact qu
 rintro m env s ⟨nd,q,av,more,b4,ex,hl,hm,hnl,rfl,rfl⟩;cases m with
 | zero=>cases hl
 | succ m =>
 unfold EE at hl;have y:=zI (YF (p':=q) hp);unfold qK at y;unfold aH;by_cases c0:more=true∧q.e=0
 rotate_left
 ·rw[if_neg c0] at hl;cases hl;cases more with
  | false =>
   simp only[go_sem];refine Ze hT h6 (zm hp) fun _=>?_;simp only[go_sem,zb hp];refine⟨by decide,Dw (nd:=n2) (nid:=st.length+3) (aid:=st.length+4) hk rfl ?_ (by omega) rfl⟩;exact (Zi 4).trans rfl
  | true =>
   have c1:(p2.e==0)=false:=by simpa using fun z=>c0 ⟨rfl,z⟩
   unfold qK;simp only[go_sem,y.1,y.2.1,y.2.2,c1,zb hp];refine Ze hT h6 (zm hp) fun _=>?_;simp only[go_sem,zb hp];refine⟨by decide,Dw (nd:=n2) (nid:=st.length+3) (aid:=st.length+4) hk rfl ?_ (by omega) rfl⟩;exact (Zi 4).trans rfl
 rw[if_pos c0] at hl;obtain⟨rfl,c0⟩:=c0;have c1:(q.e==0)=true:=by simp[c0]
 simp only[xoB,xpX] at hl;obtain⟨q1,d1,x,q2,d2,b,q3,d3,hl⟩:=hl;obtain⟨t2,g1,g2,g3,g4,g5⟩:=Kq d3;have hln:=LK nd.kids;have htk:(nd.kids.flatMap zn).take (nd.kids.length*6)=nd.kids.flatMap zn:=List.take_of_length_le (by omega);have ht1:(nd.kids.flatMap zn++zW).take (nd.kids.length*6)=nd.kids.flatMap zn:=by rw[←hln];exact List.take_left
 have hd1:(nd.kids.flatMap zn++zW).drop (nd.kids.length*6+6)=[]:=List.drop_eq_nil_of_le (by rw[xlA,hln];simp[zW]);have hlt:(nd.kids.length:Int)<((nd.kids.length+1:Nat):Int):=by omega
 have hfin:(nd.addKid x).kids.flatMap zn=nd.kids.flatMap zn++zn x:=by rw[zQ];simp
 by_cases l20:nd.kids.length=20
 ·have l1:((nd.kids.length:Int)==20)=true:=by simp[l20]
  unfold HZ at d1;rw[if_pos l20] at d1;cases b with
  | false =>
   obtain rfl:=g5 rfl;unfold qK;simp only[go_sem,y.1,y.2.1,y.2.2,c1,zb hp,l1];refine Qw d1 (zm hp) fun _=>?_;simp only[go_sem,zb hp];refine qN [1000061] [3,6,8,10] [([],st.set pid (.cells (qK T q1))++(.cells qv::b4 :: .cells [.sc (.int .i64 nd.kind),.sc (.string (ba nd.text)),.sc (.int .i64 nd.num),.sc (.int .i64 nd.pos),.slice (.own (st.length+3) kv) 1 (nd.names.map qc),.arr (st.length+4) av nd.kids.length] :: .tok kv :: .arr av 6 (nd.kids.flatMap zn)::ex)),([3],st.set pid (.cells (qK T q3))++(.cells qv::b4 :: .cells [.sc (.int .i64 nd.kind),.sc (.string (ba nd.text)),.sc (.int .i64 nd.num),.sc (.int .i64 nd.pos),.slice (.own (st.length+3) kv) 1 (nd.names.map qc),.arr (st.length+4) av nd.kids.length] :: .tok kv :: .arr av 6 (nd.kids.flatMap zn)::ex)),([3,6],st.set pid (.cells (qK T q3))++(.cells qv::b4 :: .cells [.sc (.int .i64 nd.kind),.sc (.string (ba nd.text)),.sc (.int .i64 nd.num),.sc (.int .i64 nd.pos),.slice (.own (st.length+3) kv) 1 (nd.names.map qc),.arr (st.length+4) av nd.kids.length] :: .tok kv :: .arr (av+1) 6 (nd.kids.flatMap zn++zW)::ex)),
    ([3,6,8],st.set pid (.cells (qK T q3))++(.cells qv::b4 :: .cells [.sc (.int .i64 nd.kind),.sc (.string (ba nd.text)),.sc (.int .i64 nd.num),.sc (.int .i64 nd.pos),.slice (.own (st.length+3) kv) 1 (nd.names.map qc),.arr (st.length+4) av nd.kids.length] :: .tok kv :: .arr (av+1) 6 (nd.kids.flatMap zn++zn x)::ex)),([3,6,10],st.set pid (.cells (qK T q3))++(.cells qv::b4 :: .cells [.sc (.int .i64 nd.kind),.sc (.string (ba nd.text)),.sc (.int .i64 nd.num),.sc (.int .i64 nd.pos),.slice (.own (st.length+3) kv) 1 (nd.names.map qc),.arr (st.length+4) (av+1) (nd.kids.length+1)] :: .tok kv :: .arr (av+1) 6 (nd.kids.flatMap zn++zW)::ex)),([3,6,8,10],st.set pid (.cells (qK T q3))++(.cells qv::b4 :: .cells [.sc (.int .i64 nd.kind),.sc (.string (ba nd.text)),.sc (.int .i64 nd.num),.sc (.int .i64 nd.pos),.slice (.own (st.length+3) kv) 1 (nd.names.map qc),.arr (st.length+4) (av+1) (nd.kids.length+1)] :: .tok kv :: .arr (av+1) 6 (nd.kids.flatMap zn++zn x)::ex))]
    [[[],[3]],[[],[3]],[[]],[[]],[[],[3]],[[],[3]],[[3]],[[3,6],[3,6,10]],[[3,6],[3,6,10]],[[3,6],[3,6,8]],[[3,6],[3,6,8]]] mixed rfl rfl rfl rfl rfl ?_
   refine Zd rfl (.ptr (st.length+2) 5) ?_;refine Zd rfl (.arr (st.length+4) av nd.kids.length) ?_;refine Zy rfl (.ptr pid 0) (by simp only[go_sem]) ?_;refine ZP (d:=[3]) rfl rfl (zq x) rfl ?_ ?_
   ·simp only[go_sem];exact hc _ _ _ d2 _ _ (zm hp) ⟨rfl,XA hp⟩
   refine Zd rfl (.sc (.int .i64 nd.kids.length)) ?_;refine qt rfl (.slice .full 6 [.agg zW]) ?_ ?_ ?_
   ·simp only[go_sem];refine⟨_,?_,rfl⟩;simp only[go_sem];exact⟨⟨[],by simp⟩,Z0 _,.inl rfl⟩
   ·simp only[go_sem];refine⟨_,?_,rfl⟩;simp only[go_sem];exact⟨⟨[],by simp⟩,Z0 _,.inl rfl⟩
   refine ZP (d:=[3,6]) rfl rfl (.arr (st.length+4) (av+1) (nd.kids.length+1)) rfl ?_ ?_
   ·simp only[go_sem,htk,ht1,hd1,hlt];exact⟨Tryz.app6d (by omega),rfl,rfl⟩
   refine qt rfl (.aptr (st.length+4) (av+1) (nd.kids.length*6)) ?_ ?_ ?_
   ·simp only[go_sem,htk,ht1,hd1,hlt]
   ·simp only[go_sem,htk,ht1,hd1,hlt]
   refine Qz (d:=[3,6,8]) (d2:=[3,6,8,10]) rfl rfl rfl .any rfl ?_ ?_ ?_
   ·simp only[go_sem,za,htk,ht1,hd1,hlt];exact⟨by rw[hln];exact Nat.le_refl _,rfl⟩
   ·simp only[go_sem,za,htk,ht1,hd1,hlt];exact⟨by rw[hln];exact Nat.le_refl _,rfl⟩
   refine Zd rfl (.ptr (st.length+2) 5) ?_;refine Qz (d:=[3,6,10]) (d2:=[3,6,8,10]) rfl rfl rfl .any rfl ?_ ?_ ?_
   ·simp only[go_sem]
   ·simp only[go_sem]
   refine Qp ?_;simp only[go_sem];refine Xo g3 (zm hp) ?_;simp only[go_sem,zb hp];refine⟨m,_,by omega,?_,nd.addKid x,q3,av+1,false,b4,ex,hl,by rw[zQ];simp;omega,by rw[qh];exact hnl,rfl,by rw[hfin];rw[qV,qT,Zv,Zu,qh,zQ,xlA];rfl⟩;exact qu
  | true =>
   unfold qK;simp only[go_sem,y.1,y.2.1,y.2.2,c1,zb hp,l1];refine Qw d1 (zm hp) fun _=>?_;simp only[go_sem,zb hp];refine qN [1000061] [3,6,8,10] [([],st.set pid (.cells (qK T q1))++(.cells qv::b4 :: .cells [.sc (.int .i64 nd.kind),.sc (.string (ba nd.text)),.sc (.int .i64 nd.num),.sc (.int .i64 nd.pos),.slice (.own (st.length+3) kv) 1 (nd.names.map qc),.arr (st.length+4) av nd.kids.length] :: .tok kv :: .arr av 6 (nd.kids.flatMap zn)::ex)),([3],st.set pid (.cells (qK T q2))++(.cells qv::b4 :: .cells [.sc (.int .i64 nd.kind),.sc (.string (ba nd.text)),.sc (.int .i64 nd.num),.sc (.int .i64 nd.pos),.slice (.own (st.length+3) kv) 1 (nd.names.map qc),.arr (st.length+4) av nd.kids.length] :: .tok kv :: .arr av 6 (nd.kids.flatMap zn)::ex)),([3,6],st.set pid (.cells (qK T q2))++(.cells qv::b4 :: .cells [.sc (.int .i64 nd.kind),.sc (.string (ba nd.text)),.sc (.int .i64 nd.num),.sc (.int .i64 nd.pos),.slice (.own (st.length+3) kv) 1 (nd.names.map qc),.arr (st.length+4) av nd.kids.length] :: .tok kv :: .arr (av+1) 6 (nd.kids.flatMap zn++zW)::ex)),
    ([3,6,8],st.set pid (.cells (qK T q2))++(.cells qv::b4 :: .cells [.sc (.int .i64 nd.kind),.sc (.string (ba nd.text)),.sc (.int .i64 nd.num),.sc (.int .i64 nd.pos),.slice (.own (st.length+3) kv) 1 (nd.names.map qc),.arr (st.length+4) av nd.kids.length] :: .tok kv :: .arr (av+1) 6 (nd.kids.flatMap zn++zn x)::ex)),([3,6,10],st.set pid (.cells (qK T q2))++(.cells qv::b4 :: .cells [.sc (.int .i64 nd.kind),.sc (.string (ba nd.text)),.sc (.int .i64 nd.num),.sc (.int .i64 nd.pos),.slice (.own (st.length+3) kv) 1 (nd.names.map qc),.arr (st.length+4) (av+1) (nd.kids.length+1)] :: .tok kv :: .arr (av+1) 6 (nd.kids.flatMap zn++zW)::ex)),([3,6,8,10],st.set pid (.cells (qK T q2))++(.cells qv::b4 :: .cells [.sc (.int .i64 nd.kind),.sc (.string (ba nd.text)),.sc (.int .i64 nd.num),.sc (.int .i64 nd.pos),.slice (.own (st.length+3) kv) 1 (nd.names.map qc),.arr (st.length+4) (av+1) (nd.kids.length+1)] :: .tok kv :: .arr (av+1) 6 (nd.kids.flatMap zn++zn x)::ex))]
    [[[],[3]],[[],[3]],[[]],[[]],[[],[3]],[[],[3]],[[3]],[[3,6],[3,6,10]],[[3,6],[3,6,10]],[[3,6],[3,6,8]],[[3,6],[3,6,8]]] mixed rfl rfl rfl rfl rfl ?_
   refine Zd rfl (.ptr (st.length+2) 5) ?_;refine Zd rfl (.arr (st.length+4) av nd.kids.length) ?_;refine Zy rfl (.ptr pid 0) (by simp only[go_sem]) ?_;refine ZP (d:=[3]) rfl rfl (zq x) rfl ?_ ?_
   ·simp only[go_sem];exact hc _ _ _ d2 _ _ (zm hp) ⟨rfl,XA hp⟩
   refine Zd rfl (.sc (.int .i64 nd.kids.length)) ?_;refine qt rfl (.slice .full 6 [.agg zW]) ?_ ?_ ?_
   ·simp only[go_sem];refine⟨_,?_,rfl⟩;simp only[go_sem];exact⟨⟨[],by simp⟩,Z0 _,.inl rfl⟩
   ·simp only[go_sem];refine⟨_,?_,rfl⟩;simp only[go_sem];exact⟨⟨[],by simp⟩,Z0 _,.inl rfl⟩
   refine ZP (d:=[3,6]) rfl rfl (.arr (st.length+4) (av+1) (nd.kids.length+1)) rfl ?_ ?_
   ·simp only[go_sem,htk,ht1,hd1,hlt];exact⟨Tryz.app6d (by omega),rfl,rfl⟩
   refine qt rfl (.aptr (st.length+4) (av+1) (nd.kids.length*6)) ?_ ?_ ?_
   ·simp only[go_sem,htk,ht1,hd1,hlt]
   ·simp only[go_sem,htk,ht1,hd1,hlt]
   refine Qz (d:=[3,6,8]) (d2:=[3,6,8,10]) rfl rfl rfl .any rfl ?_ ?_ ?_
   ·simp only[go_sem,za,htk,ht1,hd1,hlt];exact⟨by rw[hln];exact Nat.le_refl _,rfl⟩
   ·simp only[go_sem,za,htk,ht1,hd1,hlt];exact⟨by rw[hln];exact Nat.le_refl _,rfl⟩
   refine Zd rfl (.ptr (st.length+2) 5) ?_;refine Qz (d:=[3,6,10]) (d2:=[3,6,8,10]) rfl rfl rfl .any rfl ?_ ?_ ?_
   ·simp only[go_sem]
   ·simp only[go_sem]
   refine Qp ?_;simp only[go_sem];refine Xo g3 (zm hp) ?_;simp only[go_sem,zb hp];refine qQ hT (g4 rfl).1 (zm hp) ?_;simp only[go_sem,zb hp];refine⟨m,_,by omega,?_,nd.addKid x,q3,av+1,true,b4,ex,hl,by rw[zQ];simp;omega,by rw[qh];exact hnl,rfl,by rw[hfin];rw[qV,qT,Zv,Zu,qh,zQ,xlA];rfl⟩;exact qu
 ·have l1:((nd.kids.length:Int)==20)=false:=by simp;omega
  unfold HZ at d1;rw[if_neg l20] at d1;cases d1;cases b with
  | false =>
   obtain rfl:=g5 rfl;unfold qK;simp only[go_sem,y.1,y.2.1,y.2.2,c1,zb hp,l1];refine qN [1000061] [3,6,8,10] [([],st.set pid (.cells (qK T q))++(.cells qv::b4 :: .cells [.sc (.int .i64 nd.kind),.sc (.string (ba nd.text)),.sc (.int .i64 nd.num),.sc (.int .i64 nd.pos),.slice (.own (st.length+3) kv) 1 (nd.names.map qc),.arr (st.length+4) av nd.kids.length] :: .tok kv :: .arr av 6 (nd.kids.flatMap zn)::ex)),([3],st.set pid (.cells (qK T q3))++(.cells qv::b4 :: .cells [.sc (.int .i64 nd.kind),.sc (.string (ba nd.text)),.sc (.int .i64 nd.num),.sc (.int .i64 nd.pos),.slice (.own (st.length+3) kv) 1 (nd.names.map qc),.arr (st.length+4) av nd.kids.length] :: .tok kv :: .arr av 6 (nd.kids.flatMap zn)::ex)),([3,6],st.set pid (.cells (qK T q3))++(.cells qv::b4 :: .cells [.sc (.int .i64 nd.kind),.sc (.string (ba nd.text)),.sc (.int .i64 nd.num),.sc (.int .i64 nd.pos),.slice (.own (st.length+3) kv) 1 (nd.names.map qc),.arr (st.length+4) av nd.kids.length] :: .tok kv :: .arr (av+1) 6 (nd.kids.flatMap zn++zW)::ex)),
    ([3,6,8],st.set pid (.cells (qK T q3))++(.cells qv::b4 :: .cells [.sc (.int .i64 nd.kind),.sc (.string (ba nd.text)),.sc (.int .i64 nd.num),.sc (.int .i64 nd.pos),.slice (.own (st.length+3) kv) 1 (nd.names.map qc),.arr (st.length+4) av nd.kids.length] :: .tok kv :: .arr (av+1) 6 (nd.kids.flatMap zn++zn x)::ex)),([3,6,10],st.set pid (.cells (qK T q3))++(.cells qv::b4 :: .cells [.sc (.int .i64 nd.kind),.sc (.string (ba nd.text)),.sc (.int .i64 nd.num),.sc (.int .i64 nd.pos),.slice (.own (st.length+3) kv) 1 (nd.names.map qc),.arr (st.length+4) (av+1) (nd.kids.length+1)] :: .tok kv :: .arr (av+1) 6 (nd.kids.flatMap zn++zW)::ex)),([3,6,8,10],st.set pid (.cells (qK T q3))++(.cells qv::b4 :: .cells [.sc (.int .i64 nd.kind),.sc (.string (ba nd.text)),.sc (.int .i64 nd.num),.sc (.int .i64 nd.pos),.slice (.own (st.length+3) kv) 1 (nd.names.map qc),.arr (st.length+4) (av+1) (nd.kids.length+1)] :: .tok kv :: .arr (av+1) 6 (nd.kids.flatMap zn++zn x)::ex))]
    [[[],[3]],[[],[3]],[[]],[[]],[[],[3]],[[],[3]],[[3]],[[3,6],[3,6,10]],[[3,6],[3,6,10]],[[3,6],[3,6,8]],[[3,6],[3,6,8]]] mixed rfl rfl rfl rfl rfl ?_
   refine Zd rfl (.ptr (st.length+2) 5) ?_;refine Zd rfl (.arr (st.length+4) av nd.kids.length) ?_;refine Zy rfl (.ptr pid 0) (by simp only[go_sem]) ?_;refine ZP (d:=[3]) rfl rfl (zq x) rfl ?_ ?_
   ·simp only[go_sem];exact hc _ _ _ d2 _ _ (zm hp) ⟨rfl,XA hp⟩
   refine Zd rfl (.sc (.int .i64 nd.kids.length)) ?_;refine qt rfl (.slice .full 6 [.agg zW]) ?_ ?_ ?_
   ·simp only[go_sem];refine⟨_,?_,rfl⟩;simp only[go_sem];exact⟨⟨[],by simp⟩,Z0 _,.inl rfl⟩
   ·simp only[go_sem];refine⟨_,?_,rfl⟩;simp only[go_sem];exact⟨⟨[],by simp⟩,Z0 _,.inl rfl⟩
   refine ZP (d:=[3,6]) rfl rfl (.arr (st.length+4) (av+1) (nd.kids.length+1)) rfl ?_ ?_
   ·simp only[go_sem,htk,ht1,hd1,hlt];exact⟨Tryz.app6d (by omega),rfl,rfl⟩
   refine qt rfl (.aptr (st.length+4) (av+1) (nd.kids.length*6)) ?_ ?_ ?_
   ·simp only[go_sem,htk,ht1,hd1,hlt]
   ·simp only[go_sem,htk,ht1,hd1,hlt]
   refine Qz (d:=[3,6,8]) (d2:=[3,6,8,10]) rfl rfl rfl .any rfl ?_ ?_ ?_
   ·simp only[go_sem,za,htk,ht1,hd1,hlt];exact⟨by rw[hln];exact Nat.le_refl _,rfl⟩
   ·simp only[go_sem,za,htk,ht1,hd1,hlt];exact⟨by rw[hln];exact Nat.le_refl _,rfl⟩
   refine Zd rfl (.ptr (st.length+2) 5) ?_;refine Qz (d:=[3,6,10]) (d2:=[3,6,8,10]) rfl rfl rfl .any rfl ?_ ?_ ?_
   ·simp only[go_sem]
   ·simp only[go_sem]
   refine Qp ?_;simp only[go_sem];refine Xo g3 (zm hp) ?_;simp only[go_sem,zb hp];refine⟨m,_,by omega,?_,nd.addKid x,q3,av+1,false,b4,ex,hl,by rw[zQ];simp;omega,by rw[qh];exact hnl,rfl,by rw[hfin];rw[qV,qT,Zv,Zu,qh,zQ,xlA];rfl⟩;exact qu
  | true =>
   unfold qK;simp only[go_sem,y.1,y.2.1,y.2.2,c1,zb hp,l1];refine qN [1000061] [3,6,8,10] [([],st.set pid (.cells (qK T q))++(.cells qv::b4 :: .cells [.sc (.int .i64 nd.kind),.sc (.string (ba nd.text)),.sc (.int .i64 nd.num),.sc (.int .i64 nd.pos),.slice (.own (st.length+3) kv) 1 (nd.names.map qc),.arr (st.length+4) av nd.kids.length] :: .tok kv :: .arr av 6 (nd.kids.flatMap zn)::ex)),([3],st.set pid (.cells (qK T q2))++(.cells qv::b4 :: .cells [.sc (.int .i64 nd.kind),.sc (.string (ba nd.text)),.sc (.int .i64 nd.num),.sc (.int .i64 nd.pos),.slice (.own (st.length+3) kv) 1 (nd.names.map qc),.arr (st.length+4) av nd.kids.length] :: .tok kv :: .arr av 6 (nd.kids.flatMap zn)::ex)),([3,6],st.set pid (.cells (qK T q2))++(.cells qv::b4 :: .cells [.sc (.int .i64 nd.kind),.sc (.string (ba nd.text)),.sc (.int .i64 nd.num),.sc (.int .i64 nd.pos),.slice (.own (st.length+3) kv) 1 (nd.names.map qc),.arr (st.length+4) av nd.kids.length] :: .tok kv :: .arr (av+1) 6 (nd.kids.flatMap zn++zW)::ex)),
    ([3,6,8],st.set pid (.cells (qK T q2))++(.cells qv::b4 :: .cells [.sc (.int .i64 nd.kind),.sc (.string (ba nd.text)),.sc (.int .i64 nd.num),.sc (.int .i64 nd.pos),.slice (.own (st.length+3) kv) 1 (nd.names.map qc),.arr (st.length+4) av nd.kids.length] :: .tok kv :: .arr (av+1) 6 (nd.kids.flatMap zn++zn x)::ex)),([3,6,10],st.set pid (.cells (qK T q2))++(.cells qv::b4 :: .cells [.sc (.int .i64 nd.kind),.sc (.string (ba nd.text)),.sc (.int .i64 nd.num),.sc (.int .i64 nd.pos),.slice (.own (st.length+3) kv) 1 (nd.names.map qc),.arr (st.length+4) (av+1) (nd.kids.length+1)] :: .tok kv :: .arr (av+1) 6 (nd.kids.flatMap zn++zW)::ex)),([3,6,8,10],st.set pid (.cells (qK T q2))++(.cells qv::b4 :: .cells [.sc (.int .i64 nd.kind),.sc (.string (ba nd.text)),.sc (.int .i64 nd.num),.sc (.int .i64 nd.pos),.slice (.own (st.length+3) kv) 1 (nd.names.map qc),.arr (st.length+4) (av+1) (nd.kids.length+1)] :: .tok kv :: .arr (av+1) 6 (nd.kids.flatMap zn++zn x)::ex))]
    [[[],[3]],[[],[3]],[[]],[[]],[[],[3]],[[],[3]],[[3]],[[3,6],[3,6,10]],[[3,6],[3,6,10]],[[3,6],[3,6,8]],[[3,6],[3,6,8]]] mixed rfl rfl rfl rfl rfl ?_
   refine Zd rfl (.ptr (st.length+2) 5) ?_;refine Zd rfl (.arr (st.length+4) av nd.kids.length) ?_;refine Zy rfl (.ptr pid 0) (by simp only[go_sem]) ?_;refine ZP (d:=[3]) rfl rfl (zq x) rfl ?_ ?_
   ·simp only[go_sem];exact hc _ _ _ d2 _ _ (zm hp) ⟨rfl,XA hp⟩
   refine Zd rfl (.sc (.int .i64 nd.kids.length)) ?_;refine qt rfl (.slice .full 6 [.agg zW]) ?_ ?_ ?_
   ·simp only[go_sem];refine⟨_,?_,rfl⟩;simp only[go_sem];exact⟨⟨[],by simp⟩,Z0 _,.inl rfl⟩
   ·simp only[go_sem];refine⟨_,?_,rfl⟩;simp only[go_sem];exact⟨⟨[],by simp⟩,Z0 _,.inl rfl⟩
   refine ZP (d:=[3,6]) rfl rfl (.arr (st.length+4) (av+1) (nd.kids.length+1)) rfl ?_ ?_
   ·simp only[go_sem,htk,ht1,hd1,hlt];exact⟨Tryz.app6d (by omega),rfl,rfl⟩
   refine qt rfl (.aptr (st.length+4) (av+1) (nd.kids.length*6)) ?_ ?_ ?_
   ·simp only[go_sem,htk,ht1,hd1,hlt]
   ·simp only[go_sem,htk,ht1,hd1,hlt]
   refine Qz (d:=[3,6,8]) (d2:=[3,6,8,10]) rfl rfl rfl .any rfl ?_ ?_ ?_
   ·simp only[go_sem,za,htk,ht1,hd1,hlt];exact⟨by rw[hln];exact Nat.le_refl _,rfl⟩
   ·simp only[go_sem,za,htk,ht1,hd1,hlt];exact⟨by rw[hln];exact Nat.le_refl _,rfl⟩
   refine Zd rfl (.ptr (st.length+2) 5) ?_;refine Qz (d:=[3,6,10]) (d2:=[3,6,8,10]) rfl rfl rfl .any rfl ?_ ?_ ?_
   ·simp only[go_sem]
   ·simp only[go_sem]
   refine Qp ?_;simp only[go_sem];refine Xo g3 (zm hp) ?_;simp only[go_sem,zb hp];refine qQ hT (g4 rfl).1 (zm hp) ?_;simp only[go_sem,zb hp];refine⟨m,_,by omega,?_,nd.addKid x,q3,av+1,true,b4,ex,hl,by rw[zQ];simp;omega,by rw[qh];exact hnl,rfl,by rw[hfin];rw[qV,qT,Zv,Zu,qh,zQ,xlA];rfl⟩;exact qu
theorem lL{T:List Tk}(hT:T.length≤100000){pid:Nat}{e ty:PM Nd}(he:DC T pid 24 e)(hc:DC T pid 36 (uj T ty)):DC T pid 22 (kH T e ty):=by
 intro p r p' h K st hp hk;unfold kH at h;rw[xoB] at h;obtain⟨b,hb,h⟩:=h;cases b with
 | true=>exact ng hT he hc hb h hp hk
 | false=>exact nt hT he hc hb h hp hk
end Go.Proofs
