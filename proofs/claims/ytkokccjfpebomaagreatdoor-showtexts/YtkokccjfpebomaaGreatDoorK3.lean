/- The document's parser: value. -/
import Derived.Test.YtkokccjfpebomaaGreatDoorK2
set_option linter.all false
set_option maxHeartbeats 4000000
set_option maxRecDepth 8000
namespace Go.AL
def Jw(nd:Nd)(x:SV):List SV:=[.sc (.int .i64 nd.kind),.sc (.string (ba nd.text)),.sc (.int .i64 nd.num),.sc (.int .i64 nd.pos),.slice .full 0 [],x]
def zW:List SV:=[.sc (.int .i64 0),.sc (.string ⟨#[]⟩),.sc (.int .i64 0),.sc (.int .i64 0),.slice .imm 0 [],.slice .imm 0 []]
def S2(T:List Tk)(pid nid:Nat)(l:List SV)(p:PS)(st:St):St:=(st.set nid (.cells l)).set pid (.cells (qz T p))
variable {T:List Tk} {pid nid:Nat} {st:St} {p q:PS} {l m:List SV}
theorem Jz(hp:Jb T pid p st):Jb T pid q (S2 T pid nid l q st):=by
 have:=zi hp;exact ql (by simpa using this)
theorem M4(hne:nid≠pid)(hn:HT st nid):(S2 T pid nid l p st)[nid]?=some (.cells l):=by
 unfold S2;rw[zx hne];exact ql hn
theorem tS:(S2 T pid nid l p st).set pid (.cells (qz T q))=S2 T pid nid l q st:=by unfold S2;rw[List.set_set]
theorem b9(hne:nid≠pid):(S2 T pid nid l p st).set nid (.cells m)=S2 T pid nid m p st:=by
 unfold S2;rw[List.set_comm _ _ (Ne.symm hne),List.set_set]
theorem C2(hne:nid≠pid)(hn:st[nid]?=some (.cells l)):st.set pid (.cells (qz T p))=S2 T pid nid l p st:=by
 unfold S2;obtain⟨h1,h2⟩:=List.getElem?_eq_some_iff.1 hn;rw[←h2,List.set_getElem_self]
theorem zU:(S2 T pid nid l p st).length=st.length:=by unfold S2;simp
theorem ZL(n:Nat):Ids n (.slice .full 6 [.agg zW]):=zQ (.inr rfl) fun x hx y hy=>by
 simp only[List.mem_singleton] at hx;subst hx;simp only[SV.cells,zW,List.mem_cons,List.not_mem_nil,or_false] at hy;rcases hy with rfl | rfl | rfl | rfl | rfl | rfl
 ·exact .sc _
 ·exact .sc _
 ·exact .sc _
 ·exact .sc _
 ·exact zQ (.inl rfl) (fun x hx=>by cases hx)
 ·exact zQ (.inl rfl) (fun x hx=>by cases hx)
end Go.AL
namespace Go.Proofs
open Go Go.AL Tryz
theorem wc(T:List Tk)(hT:T.length≤100000){pid nid:Nat}(hne:nid≠pid){e:PM Nd}(he:DC T pid 24 e){nd:Nd}{p p':PS}{x:Tx}{rc:Bool}{v:Nd}(h:VG T e p=some ((x,rc,v),p')){K:SV→St→Prop}{st:St}(hp:Jb T pid p st)
  (hn:st[nid]?=some (.cells (Jw nd (.slice .full 0 [])))) (hk:K (.sc (.bool rc)) (S2 T pid nid (Jw (.mk nd.kind x nd.num nd.pos [] []) (.arr st.length 1 1)) p' st++[.arr 1 6 (zk v)])):ACalls prog 37 [.ptr pid 0,.ptr nid 0] K st:=by
 refine Qr (M:=[1000043]) func37 rfl results37 ntmps37 ?_;unfold VG at h;simp only[xoB,xoM,xpX,xpJ] at h;obtain⟨b,p1,h1,x1,p2,h2,p3,h3,f,h4,p4,h5,v1,p5,h6,⟨rfl,rfl,rfl⟩,rfl⟩:=h;obtain⟨t1,g1,g2,g3,g4,g5⟩:=WF h1;have hin:HT st nid:=zb hn;have hst0:=fun q:PS=>C2 (T:=T) (pid:=pid) (p:=q) hne hn;have y0:=fun (l:List SV) (q:PS)=>zF (M4 (T:=T) (pid:=pid) (st:=st) (p:=q) (l:=l) hne hin);have y1:=fun l q=>(y0 l q).1;have y2:=fun l q=>(y0 l q).2.1;have y3:=fun l q=>(y0 l q).2.2;have hsn:=fun (l m:List SV) (q:PS)=>b9 (T:=T) (pid:=pid) (st:=st) (p:=q) (l:=l) (m:=m) hne;have hsp:=fun (l:List SV) (q q':PS)=>tS (T:=T) (pid:=pid) (nid:=nid) (st:=st) (p:=q) (q:=q') (l:=l);have yp0:=fun (l:List SV) (q:PS)=>zF (Jz (nid:=nid) (l:=l) (q:=q) hp);have yp1:=fun l q=>(yp0 l q).1;have yp2:=fun l q=>(yp0 l q).2.1;have yp3:=fun l q=>(yp0 l q).2.2;cases b with
 | false =>
  obtain rfl:=g5 rfl;have hc:(if false=true∧¬ f=true∧p3.deep<40 then Zh T 14 p3 else some p3)=some p4:=h5;rw[if_neg (by simp)] at hc;cases hc;simp only[go_sem];refine Q2 g3 hp ?_;simp only[go_sem];refine JU hT (by decide) h2 hp ?_;simp only[hst0];simp only[go_sem,y1,y2,y3,hsn,Jw];refine q9 hT h3 (Jz hp) fun _=>?_;simp only[hsp];simp only[go_sem,y1,y2,y3,hsn];refine Q2 h4 (Jz hp) ?_;simp only[go_sem,y1,y2,y3,hsn,yp1,yp2,yp3,qz];refine qE [1000043] [5,8,10,13] [([],S2 T pid nid [.sc (.int .i64 nd.kind),.sc (.string (ba x1)),.sc (.int .i64 nd.num),.sc (.int .i64 nd.pos),.slice .full 0 [],.slice .full 0 []] p3 st),([5],S2 T pid nid [.sc (.int .i64 nd.kind),.sc (.string (ba x1)),.sc (.int .i64 nd.num),.sc (.int .i64 nd.pos),.slice .full 0 [],.slice .full 0 []] p5 st),([5,8],S2 T pid nid [.sc (.int .i64 nd.kind),.sc (.string (ba x1)),.sc (.int .i64 nd.num),.sc (.int .i64 nd.pos),.slice .full 0 [],.slice .full 0 []] p5 st++[.arr 1 6 zW]),
   ([5,8,10],S2 T pid nid [.sc (.int .i64 nd.kind),.sc (.string (ba x1)),.sc (.int .i64 nd.num),.sc (.int .i64 nd.pos),.slice .full 0 [],.slice .full 0 []] p5 st++[.arr 1 6 (zk v1)]),([5,8,13],S2 T pid nid [.sc (.int .i64 nd.kind),.sc (.string (ba x1)),.sc (.int .i64 nd.num),.sc (.int .i64 nd.pos),.slice .full 0 [],.arr st.length 1 1] p5 st++[.arr 1 6 zW]),([5,8,10,13],S2 T pid nid [.sc (.int .i64 nd.kind),.sc (.string (ba x1)),.sc (.int .i64 nd.num),.sc (.int .i64 nd.pos),.slice .full 0 [],.arr st.length 1 1] p5 st++[.arr 1 6 (zk v1)])]
   [[[],[5]],[[],[5]],[[],[5]],[[],[5]],[[]],[[]],[[],[5]],[[],[5]],[[5]],[[5,8],[5,8,13]],[[5,8],[5,8,13]],[[5,8],[5,8,10]],[[5,8],[5,8,10]],[[5,8],[5,8,10]]] mixed rfl rfl rfl rfl rfl ?_
  refine qW rfl (.ptr nid 0) ?_;refine qm rfl (.ptr nid 0) (by simp only[go_sem,y1,y2,y3,hsn,zU]) (by simp only[go_sem,y1,y2,y3,hsn,zU]) ?_;refine qm rfl (.ptr nid 5) (by simp only[go_sem,y1,y2,y3,hsn,zU]) (by simp only[go_sem,y1,y2,y3,hsn,zU]) ?_;refine qm rfl (.slice .full 0 []) (by simp only[go_sem,y1,y2,y3,hsn,zU]) (by simp only[go_sem,y1,y2,y3,hsn,zU]) ?_;refine Zr rfl (.ptr pid 0) (by simp only[go_sem]) ?_;refine ZH (d:=[5]) rfl rfl (zq v1) rfl ?_ ?_
  ·simp only[go_sem];exact he _ _ _ h6 _ _ (Jz hp) ⟨rfl,hsp _ _ _⟩
  refine qW rfl (.sc (.int .i64 ((0:Nat):Int))) ?_;refine qm rfl (.slice .full 6 [.agg zW]) ?_ ?_ ?_
  ·simp only[go_sem];refine⟨_,?_,rfl⟩;simp only[go_sem];exact⟨⟨[],by simp⟩,ZL _,.inl rfl⟩
  ·simp only[go_sem];refine⟨_,?_,rfl⟩;simp only[go_sem];exact⟨⟨[],by simp⟩,ZL _,.inl rfl⟩
  refine ZH (d:=[5,8]) rfl rfl (.arr st.length 1 1) rfl ?_ ?_
  ·simp only[go_sem,y1,y2,y3,hsn,zU,zW];exact⟨Tryz.app6d (by omega),rfl⟩
  refine qm rfl (.aptr st.length 1 0) ?_ ?_ ?_
  ·simp only[go_sem,y1,y2,y3,hsn,zU];decide
  ·simp only[go_sem,y1,y2,y3,hsn,zU];decide
  refine Qp (d:=[5,8,10]) (d2:=[5,8,10,13]) rfl rfl rfl .any rfl ?_ ?_ ?_
  ·simp only[go_sem,y1,y2,y3,hsn,zU,za];exact⟨by decide,rfl⟩
  ·simp only[go_sem,y1,y2,y3,hsn,zU,za];exact⟨by decide,rfl⟩
  refine qm rfl (.ptr nid 0) (by simp only[go_sem,y1,y2,y3,hsn,zU]) (by simp only[go_sem,y1,y2,y3,hsn,zU]) ?_;refine qm rfl (.ptr nid 5) (by simp only[go_sem,y1,y2,y3,hsn,zU]) (by simp only[go_sem,y1,y2,y3,hsn,zU]) ?_;refine Qp (d:=[5,8,13]) (d2:=[5,8,10,13]) rfl rfl rfl .any rfl ?_ ?_ ?_
  ·simp only[go_sem,y1,y2,y3,hsn,zU]
  ·simp only[go_sem,y1,y2,y3,hsn,zU]
  refine Qc ?_;simp only[go_sem];exact hk
 | true =>
  have hs1:=(g4 rfl).1;cases f with
  | true =>
   rw[if_neg (by simp)] at h5;cases h5;simp only[go_sem];refine Q2 g3 hp ?_;simp only[go_sem];refine qH hT hs1 hp ?_;simp only[hst0];simp only[go_sem];refine JU hT (by decide) h2 (Jz hp) ?_;simp only[hsp];simp only[go_sem,y1,y2,y3,hsn,Jw];refine q9 hT h3 (Jz hp) fun _=>?_;simp only[hsp];simp only[go_sem,y1,y2,y3,hsn];refine Q2 h4 (Jz hp) ?_;simp only[go_sem,y1,y2,y3,hsn,yp1,yp2,yp3,qz];refine qE [1000043] [5,8,10,13] [([],S2 T pid nid [.sc (.int .i64 nd.kind),.sc (.string (ba x1)),.sc (.int .i64 nd.num),.sc (.int .i64 nd.pos),.slice .full 0 [],.slice .full 0 []] p3 st),([5],S2 T pid nid [.sc (.int .i64 nd.kind),.sc (.string (ba x1)),.sc (.int .i64 nd.num),.sc (.int .i64 nd.pos),.slice .full 0 [],.slice .full 0 []] p5 st),([5,8],S2 T pid nid [.sc (.int .i64 nd.kind),.sc (.string (ba x1)),.sc (.int .i64 nd.num),.sc (.int .i64 nd.pos),.slice .full 0 [],.slice .full 0 []] p5 st++[.arr 1 6 zW]),
    ([5,8,10],S2 T pid nid [.sc (.int .i64 nd.kind),.sc (.string (ba x1)),.sc (.int .i64 nd.num),.sc (.int .i64 nd.pos),.slice .full 0 [],.slice .full 0 []] p5 st++[.arr 1 6 (zk v1)]),([5,8,13],S2 T pid nid [.sc (.int .i64 nd.kind),.sc (.string (ba x1)),.sc (.int .i64 nd.num),.sc (.int .i64 nd.pos),.slice .full 0 [],.arr st.length 1 1] p5 st++[.arr 1 6 zW]),([5,8,10,13],S2 T pid nid [.sc (.int .i64 nd.kind),.sc (.string (ba x1)),.sc (.int .i64 nd.num),.sc (.int .i64 nd.pos),.slice .full 0 [],.arr st.length 1 1] p5 st++[.arr 1 6 (zk v1)])]
    [[[],[5]],[[],[5]],[[],[5]],[[],[5]],[[]],[[]],[[],[5]],[[],[5]],[[5]],[[5,8],[5,8,13]],[[5,8],[5,8,13]],[[5,8],[5,8,10]],[[5,8],[5,8,10]],[[5,8],[5,8,10]]] mixed rfl rfl rfl rfl rfl ?_
   refine qW rfl (.ptr nid 0) ?_;refine qm rfl (.ptr nid 0) (by simp only[go_sem,y1,y2,y3,hsn,zU]) (by simp only[go_sem,y1,y2,y3,hsn,zU]) ?_;refine qm rfl (.ptr nid 5) (by simp only[go_sem,y1,y2,y3,hsn,zU]) (by simp only[go_sem,y1,y2,y3,hsn,zU]) ?_;refine qm rfl (.slice .full 0 []) (by simp only[go_sem,y1,y2,y3,hsn,zU]) (by simp only[go_sem,y1,y2,y3,hsn,zU]) ?_;refine Zr rfl (.ptr pid 0) (by simp only[go_sem]) ?_;refine ZH (d:=[5]) rfl rfl (zq v1) rfl ?_ ?_
   ·simp only[go_sem];exact he _ _ _ h6 _ _ (Jz hp) ⟨rfl,hsp _ _ _⟩
   refine qW rfl (.sc (.int .i64 ((0:Nat):Int))) ?_;refine qm rfl (.slice .full 6 [.agg zW]) ?_ ?_ ?_
   ·simp only[go_sem];refine⟨_,?_,rfl⟩;simp only[go_sem];exact⟨⟨[],by simp⟩,ZL _,.inl rfl⟩
   ·simp only[go_sem];refine⟨_,?_,rfl⟩;simp only[go_sem];exact⟨⟨[],by simp⟩,ZL _,.inl rfl⟩
   refine ZH (d:=[5,8]) rfl rfl (.arr st.length 1 1) rfl ?_ ?_
   ·simp only[go_sem,y1,y2,y3,hsn,zU,zW];exact⟨Tryz.app6d (by omega),rfl⟩
   refine qm rfl (.aptr st.length 1 0) ?_ ?_ ?_
   ·simp only[go_sem,y1,y2,y3,hsn,zU];decide
   ·simp only[go_sem,y1,y2,y3,hsn,zU];decide
   refine Qp (d:=[5,8,10]) (d2:=[5,8,10,13]) rfl rfl rfl .any rfl ?_ ?_ ?_
   ·simp only[go_sem,y1,y2,y3,hsn,zU,za];exact⟨by decide,rfl⟩
   ·simp only[go_sem,y1,y2,y3,hsn,zU,za];exact⟨by decide,rfl⟩
   refine qm rfl (.ptr nid 0) (by simp only[go_sem,y1,y2,y3,hsn,zU]) (by simp only[go_sem,y1,y2,y3,hsn,zU]) ?_;refine qm rfl (.ptr nid 5) (by simp only[go_sem,y1,y2,y3,hsn,zU]) (by simp only[go_sem,y1,y2,y3,hsn,zU]) ?_;refine Qp (d:=[5,8,13]) (d2:=[5,8,10,13]) rfl rfl rfl .any rfl ?_ ?_ ?_
   ·simp only[go_sem,y1,y2,y3,hsn,zU]
   ·simp only[go_sem,y1,y2,y3,hsn,zU]
   refine Qc ?_;simp only[go_sem];exact hk
  | false =>
   by_cases hd:p3.deep<40
   ·have c1:decide ((p3.deep:Int)<40)=true:=by simp;omega
    rw[if_pos ⟨rfl,by simp,hd⟩] at h5;simp only[go_sem];refine Q2 g3 hp ?_;simp only[go_sem];refine qH hT hs1 hp ?_;simp only[hst0];simp only[go_sem];refine JU hT (by decide) h2 (Jz hp) ?_;simp only[hsp];simp only[go_sem,y1,y2,y3,hsn,Jw];refine q9 hT h3 (Jz hp) fun _=>?_;simp only[hsp];simp only[go_sem,y1,y2,y3,hsn];refine Q2 h4 (Jz hp) ?_;simp only[go_sem,y1,y2,y3,hsn,yp1,yp2,yp3,qz,c1];refine Qk h5 (Jz hp) fun _=>?_;simp only[hsp];simp only[go_sem];refine qE [1000043] [5,8,10,13] [([],S2 T pid nid [.sc (.int .i64 nd.kind),.sc (.string (ba x1)),.sc (.int .i64 nd.num),.sc (.int .i64 nd.pos),.slice .full 0 [],.slice .full 0 []] p4 st),([5],S2 T pid nid [.sc (.int .i64 nd.kind),.sc (.string (ba x1)),.sc (.int .i64 nd.num),.sc (.int .i64 nd.pos),.slice .full 0 [],.slice .full 0 []] p5 st),([5,8],S2 T pid nid [.sc (.int .i64 nd.kind),.sc (.string (ba x1)),.sc (.int .i64 nd.num),.sc (.int .i64 nd.pos),.slice .full 0 [],.slice .full 0 []] p5 st++[.arr 1 6 zW]),
     ([5,8,10],S2 T pid nid [.sc (.int .i64 nd.kind),.sc (.string (ba x1)),.sc (.int .i64 nd.num),.sc (.int .i64 nd.pos),.slice .full 0 [],.slice .full 0 []] p5 st++[.arr 1 6 (zk v1)]),([5,8,13],S2 T pid nid [.sc (.int .i64 nd.kind),.sc (.string (ba x1)),.sc (.int .i64 nd.num),.sc (.int .i64 nd.pos),.slice .full 0 [],.arr st.length 1 1] p5 st++[.arr 1 6 zW]),([5,8,10,13],S2 T pid nid [.sc (.int .i64 nd.kind),.sc (.string (ba x1)),.sc (.int .i64 nd.num),.sc (.int .i64 nd.pos),.slice .full 0 [],.arr st.length 1 1] p5 st++[.arr 1 6 (zk v1)])]
     [[[],[5]],[[],[5]],[[],[5]],[[],[5]],[[]],[[]],[[],[5]],[[],[5]],[[5]],[[5,8],[5,8,13]],[[5,8],[5,8,13]],[[5,8],[5,8,10]],[[5,8],[5,8,10]],[[5,8],[5,8,10]]] mixed rfl rfl rfl rfl rfl ?_
    refine qW rfl (.ptr nid 0) ?_;refine qm rfl (.ptr nid 0) (by simp only[go_sem,y1,y2,y3,hsn,zU]) (by simp only[go_sem,y1,y2,y3,hsn,zU]) ?_;refine qm rfl (.ptr nid 5) (by simp only[go_sem,y1,y2,y3,hsn,zU]) (by simp only[go_sem,y1,y2,y3,hsn,zU]) ?_;refine qm rfl (.slice .full 0 []) (by simp only[go_sem,y1,y2,y3,hsn,zU]) (by simp only[go_sem,y1,y2,y3,hsn,zU]) ?_;refine Zr rfl (.ptr pid 0) (by simp only[go_sem]) ?_;refine ZH (d:=[5]) rfl rfl (zq v1) rfl ?_ ?_
    ·simp only[go_sem];exact he _ _ _ h6 _ _ (Jz hp) ⟨rfl,hsp _ _ _⟩
    refine qW rfl (.sc (.int .i64 ((0:Nat):Int))) ?_;refine qm rfl (.slice .full 6 [.agg zW]) ?_ ?_ ?_
    ·simp only[go_sem];refine⟨_,?_,rfl⟩;simp only[go_sem];exact⟨⟨[],by simp⟩,ZL _,.inl rfl⟩
    ·simp only[go_sem];refine⟨_,?_,rfl⟩;simp only[go_sem];exact⟨⟨[],by simp⟩,ZL _,.inl rfl⟩
    refine ZH (d:=[5,8]) rfl rfl (.arr st.length 1 1) rfl ?_ ?_
    ·simp only[go_sem,y1,y2,y3,hsn,zU,zW];exact⟨Tryz.app6d (by omega),rfl⟩
    refine qm rfl (.aptr st.length 1 0) ?_ ?_ ?_
    ·simp only[go_sem,y1,y2,y3,hsn,zU];decide
    ·simp only[go_sem,y1,y2,y3,hsn,zU];decide
    refine Qp (d:=[5,8,10]) (d2:=[5,8,10,13]) rfl rfl rfl .any rfl ?_ ?_ ?_
    ·simp only[go_sem,y1,y2,y3,hsn,zU,za];exact⟨by decide,rfl⟩
    ·simp only[go_sem,y1,y2,y3,hsn,zU,za];exact⟨by decide,rfl⟩
    refine qm rfl (.ptr nid 0) (by simp only[go_sem,y1,y2,y3,hsn,zU]) (by simp only[go_sem,y1,y2,y3,hsn,zU]) ?_;refine qm rfl (.ptr nid 5) (by simp only[go_sem,y1,y2,y3,hsn,zU]) (by simp only[go_sem,y1,y2,y3,hsn,zU]) ?_;refine Qp (d:=[5,8,13]) (d2:=[5,8,10,13]) rfl rfl rfl .any rfl ?_ ?_ ?_
    ·simp only[go_sem,y1,y2,y3,hsn,zU]
    ·simp only[go_sem,y1,y2,y3,hsn,zU]
    refine Qc ?_;simp only[go_sem];exact hk
   ·have c1:decide ((p3.deep:Int)<40)=false:=by simp;omega
    rw[if_neg (fun x=>hd x.2.2)] at h5;cases h5;simp only[go_sem];refine Q2 g3 hp ?_;simp only[go_sem];refine qH hT hs1 hp ?_;simp only[hst0];simp only[go_sem];refine JU hT (by decide) h2 (Jz hp) ?_;simp only[hsp];simp only[go_sem,y1,y2,y3,hsn,Jw];refine q9 hT h3 (Jz hp) fun _=>?_;simp only[hsp];simp only[go_sem,y1,y2,y3,hsn];refine Q2 h4 (Jz hp) ?_;simp only[go_sem,y1,y2,y3,hsn,yp1,yp2,yp3,qz,c1];refine qE [1000043] [5,8,10,13] [([],S2 T pid nid [.sc (.int .i64 nd.kind),.sc (.string (ba x1)),.sc (.int .i64 nd.num),.sc (.int .i64 nd.pos),.slice .full 0 [],.slice .full 0 []] p3 st),([5],S2 T pid nid [.sc (.int .i64 nd.kind),.sc (.string (ba x1)),.sc (.int .i64 nd.num),.sc (.int .i64 nd.pos),.slice .full 0 [],.slice .full 0 []] p5 st),([5,8],S2 T pid nid [.sc (.int .i64 nd.kind),.sc (.string (ba x1)),.sc (.int .i64 nd.num),.sc (.int .i64 nd.pos),.slice .full 0 [],.slice .full 0 []] p5 st++[.arr 1 6 zW]),
     ([5,8,10],S2 T pid nid [.sc (.int .i64 nd.kind),.sc (.string (ba x1)),.sc (.int .i64 nd.num),.sc (.int .i64 nd.pos),.slice .full 0 [],.slice .full 0 []] p5 st++[.arr 1 6 (zk v1)]),([5,8,13],S2 T pid nid [.sc (.int .i64 nd.kind),.sc (.string (ba x1)),.sc (.int .i64 nd.num),.sc (.int .i64 nd.pos),.slice .full 0 [],.arr st.length 1 1] p5 st++[.arr 1 6 zW]),([5,8,10,13],S2 T pid nid [.sc (.int .i64 nd.kind),.sc (.string (ba x1)),.sc (.int .i64 nd.num),.sc (.int .i64 nd.pos),.slice .full 0 [],.arr st.length 1 1] p5 st++[.arr 1 6 (zk v1)])]
     [[[],[5]],[[],[5]],[[],[5]],[[],[5]],[[]],[[]],[[],[5]],[[],[5]],[[5]],[[5,8],[5,8,13]],[[5,8],[5,8,13]],[[5,8],[5,8,10]],[[5,8],[5,8,10]],[[5,8],[5,8,10]]] mixed rfl rfl rfl rfl rfl ?_
    refine qW rfl (.ptr nid 0) ?_;refine qm rfl (.ptr nid 0) (by simp only[go_sem,y1,y2,y3,hsn,zU]) (by simp only[go_sem,y1,y2,y3,hsn,zU]) ?_;refine qm rfl (.ptr nid 5) (by simp only[go_sem,y1,y2,y3,hsn,zU]) (by simp only[go_sem,y1,y2,y3,hsn,zU]) ?_;refine qm rfl (.slice .full 0 []) (by simp only[go_sem,y1,y2,y3,hsn,zU]) (by simp only[go_sem,y1,y2,y3,hsn,zU]) ?_;refine Zr rfl (.ptr pid 0) (by simp only[go_sem]) ?_;refine ZH (d:=[5]) rfl rfl (zq v1) rfl ?_ ?_
    ·simp only[go_sem];exact he _ _ _ h6 _ _ (Jz hp) ⟨rfl,hsp _ _ _⟩
    refine qW rfl (.sc (.int .i64 ((0:Nat):Int))) ?_;refine qm rfl (.slice .full 6 [.agg zW]) ?_ ?_ ?_
    ·simp only[go_sem];refine⟨_,?_,rfl⟩;simp only[go_sem];exact⟨⟨[],by simp⟩,ZL _,.inl rfl⟩
    ·simp only[go_sem];refine⟨_,?_,rfl⟩;simp only[go_sem];exact⟨⟨[],by simp⟩,ZL _,.inl rfl⟩
    refine ZH (d:=[5,8]) rfl rfl (.arr st.length 1 1) rfl ?_ ?_
    ·simp only[go_sem,y1,y2,y3,hsn,zU,zW];exact⟨Tryz.app6d (by omega),rfl⟩
    refine qm rfl (.aptr st.length 1 0) ?_ ?_ ?_
    ·simp only[go_sem,y1,y2,y3,hsn,zU];decide
    ·simp only[go_sem,y1,y2,y3,hsn,zU];decide
    refine Qp (d:=[5,8,10]) (d2:=[5,8,10,13]) rfl rfl rfl .any rfl ?_ ?_ ?_
    ·simp only[go_sem,y1,y2,y3,hsn,zU,za];exact⟨by decide,rfl⟩
    ·simp only[go_sem,y1,y2,y3,hsn,zU,za];exact⟨by decide,rfl⟩
    refine qm rfl (.ptr nid 0) (by simp only[go_sem,y1,y2,y3,hsn,zU]) (by simp only[go_sem,y1,y2,y3,hsn,zU]) ?_;refine qm rfl (.ptr nid 5) (by simp only[go_sem,y1,y2,y3,hsn,zU]) (by simp only[go_sem,y1,y2,y3,hsn,zU]) ?_;refine Qp (d:=[5,8,13]) (d2:=[5,8,10,13]) rfl rfl rfl .any rfl ?_ ?_ ?_
    ·simp only[go_sem,y1,y2,y3,hsn,zU]
    ·simp only[go_sem,y1,y2,y3,hsn,zU]
    refine Qc ?_;simp only[go_sem];exact hk
end Go.Proofs
namespace Go.AL
variable {T:List Tk} {pid:Nat} {st:St} {p q:PS}
theorem Xn(hp:Jb T pid p st){X Y:Ob}{ex:St}:(st.set pid X++ex).set pid Y=st.set pid Y++ex:=by
 have:=zi hp;rw[List.set_append_left _ _ (by simpa using this),List.set_set]
theorem oP(hp:Jb T pid p st){X a b:Ob}{l:List SV}{k:Nat}(hk:k=st.length+1):S2 T pid k l q (st.set pid X++[a,b])=st.set pid (.cells (qz T q))++[a,.cells l]:=by
 subst hk;unfold S2;rw[Qu,Xn hp];rfl
theorem Jj{nd:Nd}{K:SV→St→Prop}{aid ver:Nat}{cs:List SV}{ex s:St}(hk:K (zq nd) (st.set pid (.cells (qz T p))))(hs:s=st.set pid (.cells (qz T p))++ex)(hid:s[aid]?=some (.arr ver 6 cs))(hlen:st.length≤aid)(hcs:cs=nd.kids.flatMap zk)(hnm:nd.names=[]){n:Nat}(hn:n=nd.kids.length) :
  k8 (YU st (jy K)) (.agg (Jw nd (.arr aid ver n))) s:=by
 subst hn;have hfl:(nd.kids.map zq).flatMap SV.cells=nd.kids.flatMap zk:=by
  rw[List.flatMap_map];exact congrArg (fun f=>nd.kids.flatMap f) (funext fun c=>za c)
 refine⟨[.sc (.int .i64 nd.kind),.sc (.string (ba nd.text)),.sc (.int .i64 nd.num),.sc (.int .i64 nd.pos),.slice .full 0 []],aid,ver,_,6,nd.kids.map zq,cs,rfl,hid,?_,by simp,?_,?_⟩
 ·rw[hcs,hfl];refine List.take_of_length_le ?_;clear hcs hfl hnm hk;induction nd.kids with
  | nil=>simp
  | cons a l ih=>rw[List.flatMap_cons,xlA,xlC];simp only[zk,xlC,xlN] at ih ⊢;omega
 ·intro x hx;obtain⟨c,_,rfl⟩:=List.mem_map.1 hx;exact uB c
 ·subst hs;rw[List.set_append_right _ _ (by simpa using hlen)];have:=Xf (T:=T) (pid:=pid) (m1 :=.full) (m2 :=.imm) (z1:=0) (z2:=6) hk (.inr hnm) (.inl rfl) (ex:=ex.set (aid-(st.set pid (.cells (qz T p))).length) (.arr (ver+1) 6 []));unfold W2 at this;rw[hnm] at this;exact this
theorem dM{p0:PS}{b:Bool}{ex:St}(hp:Jb T pid p0 st)(h:p.flat=b) :
  Jb T pid p (st.set pid (.cells [.slice .imm 4 (T.map ZC),.sc (.int .i64 p.pos),.sc (.int .i64 p.deep),.sc (.int .i64 p.bad),.sc (.bool b),.sc (.int .i64 p.e)])++ex):=by
 subst h;exact zj hp
theorem dB{nd:Nd}{K:SV→St→Prop}{b:Bool}(h:p.flat=b)(hk:K (zq nd) (st.set pid (.cells (qz T p)))){ex:St} :
  YU st (jy K) (zq nd) (st.set pid (.cells [.slice .imm 4 (T.map ZC),.sc (.int .i64 p.pos),.sc (.int .i64 p.deep),.sc (.int .i64 p.bad),.sc (.bool b),.sc (.int .i64 p.e)])++ex):=by
 subst h;exact QA hk
end Go.AL
namespace Go.Proofs
open Go Go.AL Tryz
theorem Bv(T:List Tk)(hT:T.length≤100000){pid:Nat}{e:PM Nd}(he:DC T pid 24 e){nd:Nd}{p p':PS}{x:Tx}{rc:Bool}{v:Nd}(h:VG T e p=some ((x,rc,v),p')){K:SV→St→Prop}{st:St}{p0:PS}(hp:Jb T pid p0 st){a:Ob}{k:Nat}(hk':k=st.length+1)
  (hk:K (.sc (.bool rc)) (st.set pid (.cells (qz T p'))++[a,.cells (Jw (.mk nd.kind x nd.num nd.pos [] []) (.arr (st.length+2) 1 1)),.arr 1 6 (zk v)])) :
  ACalls prog 37 [.ptr pid 0,.ptr k 0] K (st.set pid (.cells (qz T p))++[a,.cells (Jw nd (.slice .full 0 []))]):=by
 subst hk';have hlt:=zi hp;refine wc T hT (by omega) he h (zj hp) (Za 1) ?_;rw[oP hp rfl];simpa using hk
theorem hF{T:List Tk}(hT:T.length≤100000){pid:Nat}{e pt:PM Nd}(he:DC T pid 24 e)(hc:DC T pid 60 (GL T e pt)){p p':PS}{t:Tk}{r:Nd}(ht:zE T p=some t)
  (b1:isT t [108,101,116]=false) (b2:isT t [102,117,110]=true) (b3:isT t [105,102]=false) (h:((Zv T p).bind fun r=>(J3 T 3 r.2).bind fun q=>(qp T [45,62] q.2).bind fun p1=>(e p1).map fun u=>(zr 6 t.pos q.1 [u.1],u.2))=some (r,p')) {K:SV→St→Prop} {st:St} (hp:Jb T pid p st) (hk:K (zq r) (st.set pid (.cells (qz T p')))):ACalls prog 39 [.ptr pid 0] K st:=by
 refine zw (YC (Yh (Qr (M:=[1000054]) func39 rfl results39 ntmps39 ?_)));simp only[xoB,xoM,xpX,xpJ] at h;obtain⟨u,p1,h1,x,p2,h2,p3,h3,w,p4,h4,rfl,rfl⟩:=h;simp only[go_sem];refine Y6 ht (zm hp) ?_;simp only[go_sem];refine qf ht b1 (zm hp) ?_;simp only[go_sem];refine qf ht b2 (zm hp) ?_;simp only[go_sem];refine qf ht b3 (zm hp) ?_;simp only[go_sem];refine qH hT h1 (zm hp) ?_;simp only[go_sem,zb hp];refine JU hT (by decide) h2 (zj hp) ?_;simp only[go_sem,zb hp];refine q9 hT h3 (zj hp) fun _=>?_;simp only[go_sem,zb hp];refine qE [1000054] [3,6,8,10] [([],st.set pid (.cells (qz T p3))++[.cells qu,.cells [.sc (.int .i64 6),.sc (.string (ba x)),.sc (.int .i64 0),.sc (.int .i64 t.pos),.slice .full 0 [],.slice .full 0 []]]),([3],st.set pid (.cells (qz T p4))++[.cells qu,.cells [.sc (.int .i64 6),.sc (.string (ba x)),.sc (.int .i64 0),.sc (.int .i64 t.pos),.slice .full 0 [],.slice .full 0 []]]),([3,6],st.set pid (.cells (qz T p4))++[.cells qu,.cells [.sc (.int .i64 6),.sc (.string (ba x)),.sc (.int .i64 0),.sc (.int .i64 t.pos),.slice .full 0 [],.slice .full 0 []],.arr 1 6 (zW)]),
  ([3,6,8],st.set pid (.cells (qz T p4))++[.cells qu,.cells [.sc (.int .i64 6),.sc (.string (ba x)),.sc (.int .i64 0),.sc (.int .i64 t.pos),.slice .full 0 [],.slice .full 0 []],.arr 1 6 (zk w)]),([3,6,10],st.set pid (.cells (qz T p4))++[.cells qu,.cells [.sc (.int .i64 6),.sc (.string (ba x)),.sc (.int .i64 0),.sc (.int .i64 t.pos),.slice .full 0 [],.arr (st.length+2) 1 1],.arr 1 6 (zW)]),([3,6,8,10],st.set pid (.cells (qz T p4))++[.cells qu,.cells [.sc (.int .i64 6),.sc (.string (ba x)),.sc (.int .i64 0),.sc (.int .i64 t.pos),.slice .full 0 [],.arr (st.length+2) 1 1],.arr 1 6 (zk w)])]
  [[[],[3]],[[],[3]],[[]],[[]],[[],[3]],[[],[3]],[[3]],[[3,6],[3,6,10]],[[3,6],[3,6,10]],[[3,6],[3,6,8]],[[3,6],[3,6,8]]] mixed rfl rfl rfl rfl rfl ?_
 refine qW rfl (.ptr (st.length+1) 5) ?_;refine qW rfl (.slice .full 0 []) ?_;refine Zr rfl (.ptr pid 0) (by simp only[go_sem]) ?_;refine ZH (d:=[3]) rfl rfl (zq w) rfl ?_ ?_
 ·simp only[go_sem];exact he _ _ _ h4 _ _ (zj hp) ⟨rfl,Xn hp⟩
 refine qW rfl (.sc (.int .i64 ((0:Nat):Int))) ?_;refine qm rfl (.slice .full 6 [.agg zW]) ?_ ?_ ?_
 ·simp only[go_sem];refine⟨_,?_,rfl⟩;simp only[go_sem];exact⟨⟨[],by simp⟩,ZL _,.inl rfl⟩
 ·simp only[go_sem];refine⟨_,?_,rfl⟩;simp only[go_sem];exact⟨⟨[],by simp⟩,ZL _,.inl rfl⟩
 refine ZH (d:=[3,6]) rfl rfl (.arr (st.length+2) 1 1) rfl ?_ ?_
 ·simp only[go_sem,zW];exact⟨Tryz.app6d (by omega),rfl⟩
 refine qm rfl (.aptr (st.length+2) 1 0) ?_ ?_ ?_
 ·simp only[go_sem];decide
 ·simp only[go_sem];decide
 refine Qp (d:=[3,6,8]) (d2:=[3,6,8,10]) rfl rfl rfl .any rfl ?_ ?_ ?_
 ·simp only[go_sem,za];exact⟨by simp[zk,zW],rfl⟩
 ·simp only[go_sem,za];exact⟨by simp[zk,zW],rfl⟩
 refine qW rfl (.ptr (st.length+1) 5) ?_;refine Qp (d:=[3,6,10]) (d2:=[3,6,8,10]) rfl rfl rfl .any rfl ?_ ?_ ?_
 ·simp only[go_sem]
 ·simp only[go_sem]
 refine Qc ?_;simp only[go_sem];refine⟨by decide,Jj (nd:=zr 6 t.pos x [w]) (aid:=st.length+2) hk rfl ?_ (by omega) rfl rfl rfl⟩;exact (Za 2).trans rfl
theorem xI{T:List Tk}(hT:T.length≤100000){pid:Nat}{e pt:PM Nd}(he:DC T pid 24 e)(hc:DC T pid 60 (GL T e pt)){p p':PS}{t:Tk}{r:Nd}(ht:zE T p=some t)
  (b1:isT t [108,101,116]=false) (b2:isT t [102,117,110]=false) (b3:isT t [105,102]=true) (h:((Zv T p).bind fun r=>(e r.2).bind fun c=>(qp T [116,104,101,110] c.2).bind fun p1=>(e p1).bind fun a=>(qp T [101,108,115,101] a.2).bind fun p2=>(e p2).map fun b=>(zr 10 t.pos [] [c.1,a.1,b.1],b.2))=some (r,p')) {K:SV→St→Prop} {st:St} (hp:Jb T pid p st) (hk:K (zq r) (st.set pid (.cells (qz T p')))):ACalls prog 39 [.ptr pid 0] K st:=by
 refine zw (YC (Yh (Qr (M:=[1000068]) func39 rfl results39 ntmps39 ?_)));simp only[xoB,xoM,xpX,xpJ] at h;obtain⟨u,p1,h1,x,p2,h2,p3,h3,y,p4,h4,p5,h5,w,p6,h6,rfl,rfl⟩:=h;simp only[go_sem];refine Y6 ht (zm hp) ?_;simp only[go_sem];refine qf ht b1 (zm hp) ?_;simp only[go_sem];refine qf ht b2 (zm hp) ?_;simp only[go_sem];refine qf ht b3 (zm hp) ?_;simp only[go_sem];refine qH hT h1 (zm hp) ?_;simp only[go_sem,zb hp];refine qE [1000068] [3,6,8,10] [([],st.set pid (.cells (qz T p1))++[.cells qu,.cells [.sc (.int .i64 10),.sc (.string ⟨#[]⟩),.sc (.int .i64 0),.sc (.int .i64 t.pos),.slice .full 0 [],.slice .full 0 []]]),([3],st.set pid (.cells (qz T p2))++[.cells qu,.cells [.sc (.int .i64 10),.sc (.string ⟨#[]⟩),.sc (.int .i64 0),.sc (.int .i64 t.pos),.slice .full 0 [],.slice .full 0 []]]),([3,6],st.set pid (.cells (qz T p2))++[.cells qu,.cells [.sc (.int .i64 10),.sc (.string ⟨#[]⟩),.sc (.int .i64 0),.sc (.int .i64 t.pos),.slice .full 0 [],.slice .full 0 []],.arr 1 6 (zW)]),
  ([3,6,8],st.set pid (.cells (qz T p2))++[.cells qu,.cells [.sc (.int .i64 10),.sc (.string ⟨#[]⟩),.sc (.int .i64 0),.sc (.int .i64 t.pos),.slice .full 0 [],.slice .full 0 []],.arr 1 6 (zk x)]),([3,6,10],st.set pid (.cells (qz T p2))++[.cells qu,.cells [.sc (.int .i64 10),.sc (.string ⟨#[]⟩),.sc (.int .i64 0),.sc (.int .i64 t.pos),.slice .full 0 [],.arr (st.length+2) 1 1],.arr 1 6 (zW)]),([3,6,8,10],st.set pid (.cells (qz T p2))++[.cells qu,.cells [.sc (.int .i64 10),.sc (.string ⟨#[]⟩),.sc (.int .i64 0),.sc (.int .i64 t.pos),.slice .full 0 [],.arr (st.length+2) 1 1],.arr 1 6 (zk x)])]
  [[[],[3]],[[],[3]],[[]],[[]],[[],[3]],[[],[3]],[[3]],[[3,6],[3,6,10]],[[3,6],[3,6,10]],[[3,6],[3,6,8]],[[3,6],[3,6,8]]] mixed rfl rfl rfl rfl rfl ?_
 refine qW rfl (.ptr (st.length+1) 5) ?_;refine qW rfl (.slice .full 0 []) ?_;refine Zr rfl (.ptr pid 0) (by simp only[go_sem]) ?_;refine ZH (d:=[3]) rfl rfl (zq x) rfl ?_ ?_
 ·simp only[go_sem];exact he _ _ _ h2 _ _ (zj hp) ⟨rfl,Xn hp⟩
 refine qW rfl (.sc (.int .i64 ((0:Nat):Int))) ?_;refine qm rfl (.slice .full 6 [.agg zW]) ?_ ?_ ?_
 ·simp only[go_sem];refine⟨_,?_,rfl⟩;simp only[go_sem];exact⟨⟨[],by simp⟩,ZL _,.inl rfl⟩
 ·simp only[go_sem];refine⟨_,?_,rfl⟩;simp only[go_sem];exact⟨⟨[],by simp⟩,ZL _,.inl rfl⟩
 refine ZH (d:=[3,6]) rfl rfl (.arr (st.length+2) 1 1) rfl ?_ ?_
 ·simp only[go_sem,zW];exact⟨Tryz.app6d (by omega),rfl⟩
 refine qm rfl (.aptr (st.length+2) 1 0) ?_ ?_ ?_
 ·simp only[go_sem];decide
 ·simp only[go_sem];decide
 refine Qp (d:=[3,6,8]) (d2:=[3,6,8,10]) rfl rfl rfl .any rfl ?_ ?_ ?_
 ·simp only[go_sem,za];exact⟨by simp[zk,zW],rfl⟩
 ·simp only[go_sem,za];exact⟨by simp[zk,zW],rfl⟩
 refine qW rfl (.ptr (st.length+1) 5) ?_;refine Qp (d:=[3,6,10]) (d2:=[3,6,8,10]) rfl rfl rfl .any rfl ?_ ?_ ?_
 ·simp only[go_sem]
 ·simp only[go_sem]
 refine Qc ?_;simp only[go_sem];try (unfold zd;simp only[qc])
 refine q9 hT h3 (zj hp) fun _=>?_;simp only[go_sem,zb hp];refine qE [1000068] [3,6,8,10] [([],st.set pid (.cells (qz T p3))++[.cells qu,.cells [.sc (.int .i64 10),.sc (.string ⟨#[]⟩),.sc (.int .i64 0),.sc (.int .i64 t.pos),.slice .full 0 [],.arr (st.length+2) 1 1],.arr 1 6 (zk x)]),([3],st.set pid (.cells (qz T p4))++[.cells qu,.cells [.sc (.int .i64 10),.sc (.string ⟨#[]⟩),.sc (.int .i64 0),.sc (.int .i64 t.pos),.slice .full 0 [],.arr (st.length+2) 1 1],.arr 1 6 (zk x)]),([3,6],st.set pid (.cells (qz T p4))++[.cells qu,.cells [.sc (.int .i64 10),.sc (.string ⟨#[]⟩),.sc (.int .i64 0),.sc (.int .i64 t.pos),.slice .full 0 [],.arr (st.length+2) 1 1],.arr 2 6 (zk x++zW)]),
  ([3,6,8],st.set pid (.cells (qz T p4))++[.cells qu,.cells [.sc (.int .i64 10),.sc (.string ⟨#[]⟩),.sc (.int .i64 0),.sc (.int .i64 t.pos),.slice .full 0 [],.arr (st.length+2) 1 1],.arr 2 6 (zk x++zk y)]),([3,6,10],st.set pid (.cells (qz T p4))++[.cells qu,.cells [.sc (.int .i64 10),.sc (.string ⟨#[]⟩),.sc (.int .i64 0),.sc (.int .i64 t.pos),.slice .full 0 [],.arr (st.length+2) 2 2],.arr 2 6 (zk x++zW)]),([3,6,8,10],st.set pid (.cells (qz T p4))++[.cells qu,.cells [.sc (.int .i64 10),.sc (.string ⟨#[]⟩),.sc (.int .i64 0),.sc (.int .i64 t.pos),.slice .full 0 [],.arr (st.length+2) 2 2],.arr 2 6 (zk x++zk y)])]
  [[[],[3]],[[],[3]],[[]],[[]],[[],[3]],[[],[3]],[[3]],[[3,6],[3,6,10]],[[3,6],[3,6,10]],[[3,6],[3,6,8]],[[3,6],[3,6,8]]] mixed rfl rfl rfl rfl rfl ?_
 refine qW rfl (.ptr (st.length+1) 5) ?_;refine qW rfl (.arr (st.length+2) 1 1) ?_;refine Zr rfl (.ptr pid 0) (by simp only[go_sem]) ?_;refine ZH (d:=[3]) rfl rfl (zq y) rfl ?_ ?_
 ·simp only[go_sem];exact he _ _ _ h4 _ _ (zj hp) ⟨rfl,Xn hp⟩
 refine qW rfl (.sc (.int .i64 ((1:Nat):Int))) ?_;refine qm rfl (.slice .full 6 [.agg zW]) ?_ ?_ ?_
 ·simp only[go_sem];refine⟨_,?_,rfl⟩;simp only[go_sem];exact⟨⟨[],by simp⟩,ZL _,.inl rfl⟩
 ·simp only[go_sem];refine⟨_,?_,rfl⟩;simp only[go_sem];exact⟨⟨[],by simp⟩,ZL _,.inl rfl⟩
 refine ZH (d:=[3,6]) rfl rfl (.arr (st.length+2) 2 2) rfl ?_ ?_
 ·simp only[go_sem,zW];exact⟨Tryz.app6d (by omega),rfl⟩
 refine qm rfl (.aptr (st.length+2) 2 6) ?_ ?_ ?_
 ·simp only[go_sem];decide
 ·simp only[go_sem];decide
 refine Qp (d:=[3,6,8]) (d2:=[3,6,8,10]) rfl rfl rfl .any rfl ?_ ?_ ?_
 ·simp only[go_sem,za];exact⟨by simp[zk,zW],rfl⟩
 ·simp only[go_sem,za];exact⟨by simp[zk,zW],rfl⟩
 refine qW rfl (.ptr (st.length+1) 5) ?_;refine Qp (d:=[3,6,10]) (d2:=[3,6,8,10]) rfl rfl rfl .any rfl ?_ ?_ ?_
 ·simp only[go_sem]
 ·simp only[go_sem]
 refine Qc ?_;simp only[go_sem];try (unfold zd;simp only[qc])
 refine q9 hT h5 (zj hp) fun _=>?_;simp only[go_sem,zb hp];refine qE [1000068] [3,6,8,10] [([],st.set pid (.cells (qz T p5))++[.cells qu,.cells [.sc (.int .i64 10),.sc (.string ⟨#[]⟩),.sc (.int .i64 0),.sc (.int .i64 t.pos),.slice .full 0 [],.arr (st.length+2) 2 2],.arr 2 6 (zk x++zk y)]),([3],st.set pid (.cells (qz T p6))++[.cells qu,.cells [.sc (.int .i64 10),.sc (.string ⟨#[]⟩),.sc (.int .i64 0),.sc (.int .i64 t.pos),.slice .full 0 [],.arr (st.length+2) 2 2],.arr 2 6 (zk x++zk y)]),([3,6],st.set pid (.cells (qz T p6))++[.cells qu,.cells [.sc (.int .i64 10),.sc (.string ⟨#[]⟩),.sc (.int .i64 0),.sc (.int .i64 t.pos),.slice .full 0 [],.arr (st.length+2) 2 2],.arr 3 6 (zk x++zk y++zW)]),
  ([3,6,8],st.set pid (.cells (qz T p6))++[.cells qu,.cells [.sc (.int .i64 10),.sc (.string ⟨#[]⟩),.sc (.int .i64 0),.sc (.int .i64 t.pos),.slice .full 0 [],.arr (st.length+2) 2 2],.arr 3 6 (zk x++zk y++zk w)]),([3,6,10],st.set pid (.cells (qz T p6))++[.cells qu,.cells [.sc (.int .i64 10),.sc (.string ⟨#[]⟩),.sc (.int .i64 0),.sc (.int .i64 t.pos),.slice .full 0 [],.arr (st.length+2) 3 3],.arr 3 6 (zk x++zk y++zW)]),([3,6,8,10],st.set pid (.cells (qz T p6))++[.cells qu,.cells [.sc (.int .i64 10),.sc (.string ⟨#[]⟩),.sc (.int .i64 0),.sc (.int .i64 t.pos),.slice .full 0 [],.arr (st.length+2) 3 3],.arr 3 6 (zk x++zk y++zk w)])]
  [[[],[3]],[[],[3]],[[]],[[]],[[],[3]],[[],[3]],[[3]],[[3,6],[3,6,10]],[[3,6],[3,6,10]],[[3,6],[3,6,8]],[[3,6],[3,6,8]]] mixed rfl rfl rfl rfl rfl ?_
 refine qW rfl (.ptr (st.length+1) 5) ?_;refine qW rfl (.arr (st.length+2) 2 2) ?_;refine Zr rfl (.ptr pid 0) (by simp only[go_sem]) ?_;refine ZH (d:=[3]) rfl rfl (zq w) rfl ?_ ?_
 ·simp only[go_sem];exact he _ _ _ h6 _ _ (zj hp) ⟨rfl,Xn hp⟩
 refine qW rfl (.sc (.int .i64 ((2:Nat):Int))) ?_;refine qm rfl (.slice .full 6 [.agg zW]) ?_ ?_ ?_
 ·simp only[go_sem];refine⟨_,?_,rfl⟩;simp only[go_sem];exact⟨⟨[],by simp⟩,ZL _,.inl rfl⟩
 ·simp only[go_sem];refine⟨_,?_,rfl⟩;simp only[go_sem];exact⟨⟨[],by simp⟩,ZL _,.inl rfl⟩
 refine ZH (d:=[3,6]) rfl rfl (.arr (st.length+2) 3 3) rfl ?_ ?_
 ·simp only[go_sem,zW];exact⟨Tryz.app6d (by omega),rfl⟩
 refine qm rfl (.aptr (st.length+2) 3 12) ?_ ?_ ?_
 ·simp only[go_sem];decide
 ·simp only[go_sem];decide
 refine Qp (d:=[3,6,8]) (d2:=[3,6,8,10]) rfl rfl rfl .any rfl ?_ ?_ ?_
 ·simp only[go_sem,za];exact⟨by simp[zk,zW],rfl⟩
 ·simp only[go_sem,za];exact⟨by simp[zk,zW],rfl⟩
 refine qW rfl (.ptr (st.length+1) 5) ?_;refine Qp (d:=[3,6,10]) (d2:=[3,6,8,10]) rfl rfl rfl .any rfl ?_ ?_ ?_
 ·simp only[go_sem]
 ·simp only[go_sem]
 refine Qc ?_;simp only[go_sem];refine⟨by decide,Jj (nd:=zr 10 t.pos [] [x,y,w]) (aid:=st.length+2) hk rfl ?_ (by omega) rfl rfl rfl⟩;exact (Za 2).trans rfl
theorem gq{T:List Tk}(hT:T.length≤100000){pid:Nat}{e pt:PM Nd}(he:DC T pid 24 e)(hc:DC T pid 60 (GL T e pt)){p p':PS}{t:Tk}{r:Nd}(ht:zE T p=some t)
  (b1:isT t [108,101,116]=true) (b2:isT t [102,117,110]=false) (b3:isT t [105,102]=false) (h:((Zv T p).bind fun r=>(VG T e r.2).bind fun q=>(qp T [105,110] q.2).bind fun p1=>(e p1).map fun u=>(zr (if q.1.2.1 then 9 else 8) t.pos q.1.1 [q.1.2.2,u.1],u.2))=some (r,p')) {K:SV→St→Prop} {st:St} (hp:Jb T pid p st) (hk:K (zq r) (st.set pid (.cells (qz T p')))):ACalls prog 39 [.ptr pid 0] K st:=by
 refine zw (YC (Yh (Qr (M:=[]) func39 rfl results39 ntmps39 ?_)));simp only[xoB,xoM,xpX,xpJ] at h;obtain⟨u,p1,h1,x,rc,v,p2,h2,p3,h3,w,p4,h4,rfl,rfl⟩:=h;cases rc with
 | true =>
  simp only[go_sem];refine Y6 ht (zm hp) ?_;simp only[go_sem];refine qf ht b1 (zm hp) ?_;simp only[go_sem];refine qf ht b2 (zm hp) ?_;simp only[go_sem];refine qf ht b3 (zm hp) ?_;simp only[go_sem];refine qH hT h1 (zm hp) ?_;simp only[go_sem,zb hp];refine Bv T hT he (nd :=.mk 8 [] 0 t.pos [] []) h2 hp rfl ?_;unfold Jw;simp only[go_sem,zb hp];refine q9 hT h3 (zj hp) fun _=>?_;simp only[go_sem,zb hp];refine qE [] [3,6,8,10] [([],st.set pid (.cells (qz T p3))++[.cells qu,.cells [.sc (.int .i64 9),.sc (.string (ba x)),.sc (.int .i64 0),.sc (.int .i64 t.pos),.slice .full 0 [],.arr (st.length+2) 1 1],.arr 1 6 (zk v)]),([3],st.set pid (.cells (qz T p4))++[.cells qu,.cells [.sc (.int .i64 9),.sc (.string (ba x)),.sc (.int .i64 0),.sc (.int .i64 t.pos),.slice .full 0 [],.arr (st.length+2) 1 1],.arr 1 6 (zk v)]),([3,6],st.set pid (.cells (qz T p4))++[.cells qu,.cells [.sc (.int .i64 9),.sc (.string (ba x)),.sc (.int .i64 0),.sc (.int .i64 t.pos),.slice .full 0 [],.arr (st.length+2) 1 1],.arr 2 6 (zk v++zW)]),
   ([3,6,8],st.set pid (.cells (qz T p4))++[.cells qu,.cells [.sc (.int .i64 9),.sc (.string (ba x)),.sc (.int .i64 0),.sc (.int .i64 t.pos),.slice .full 0 [],.arr (st.length+2) 1 1],.arr 2 6 (zk v++zk w)]),([3,6,10],st.set pid (.cells (qz T p4))++[.cells qu,.cells [.sc (.int .i64 9),.sc (.string (ba x)),.sc (.int .i64 0),.sc (.int .i64 t.pos),.slice .full 0 [],.arr (st.length+2) 2 2],.arr 2 6 (zk v++zW)]),([3,6,8,10],st.set pid (.cells (qz T p4))++[.cells qu,.cells [.sc (.int .i64 9),.sc (.string (ba x)),.sc (.int .i64 0),.sc (.int .i64 t.pos),.slice .full 0 [],.arr (st.length+2) 2 2],.arr 2 6 (zk v++zk w)])]
   [[[],[3]],[[],[3]],[[]],[[]],[[],[3]],[[],[3]],[[3]],[[3,6],[3,6,10]],[[3,6],[3,6,10]],[[3,6],[3,6,8]],[[3,6],[3,6,8]]] mixed rfl rfl rfl rfl rfl ?_
  refine qW rfl (.ptr (st.length+1) 5) ?_;refine qW rfl (.arr (st.length+2) 1 1) ?_;refine Zr rfl (.ptr pid 0) (by simp only[go_sem]) ?_;refine ZH (d:=[3]) rfl rfl (zq w) rfl ?_ ?_
  ·simp only[go_sem];exact he _ _ _ h4 _ _ (zj hp) ⟨rfl,Xn hp⟩
  refine qW rfl (.sc (.int .i64 ((1:Nat):Int))) ?_;refine qm rfl (.slice .full 6 [.agg zW]) ?_ ?_ ?_
  ·simp only[go_sem];refine⟨_,?_,rfl⟩;simp only[go_sem];exact⟨⟨[],by simp⟩,ZL _,.inl rfl⟩
  ·simp only[go_sem];refine⟨_,?_,rfl⟩;simp only[go_sem];exact⟨⟨[],by simp⟩,ZL _,.inl rfl⟩
  refine ZH (d:=[3,6]) rfl rfl (.arr (st.length+2) 2 2) rfl ?_ ?_
  ·simp only[go_sem,zW];exact⟨Tryz.app6d (by omega),rfl⟩
  refine qm rfl (.aptr (st.length+2) 2 6) ?_ ?_ ?_
  ·simp only[go_sem];decide
  ·simp only[go_sem];decide
  refine Qp (d:=[3,6,8]) (d2:=[3,6,8,10]) rfl rfl rfl .any rfl ?_ ?_ ?_
  ·simp only[go_sem,za];exact⟨by simp[zk,zW],rfl⟩
  ·simp only[go_sem,za];exact⟨by simp[zk,zW],rfl⟩
  refine qW rfl (.ptr (st.length+1) 5) ?_;refine Qp (d:=[3,6,10]) (d2:=[3,6,8,10]) rfl rfl rfl .any rfl ?_ ?_ ?_
  ·simp only[go_sem]
  ·simp only[go_sem]
  refine Qc ?_;simp only[go_sem];refine⟨by decide,Jj (nd:=zr 9 t.pos x [v,w]) (aid:=st.length+2) hk rfl ?_ (by omega) rfl rfl rfl⟩;exact (Za 2).trans rfl
 | false =>
  simp only[go_sem];refine Y6 ht (zm hp) ?_;simp only[go_sem];refine qf ht b1 (zm hp) ?_;simp only[go_sem];refine qf ht b2 (zm hp) ?_;simp only[go_sem];refine qf ht b3 (zm hp) ?_;simp only[go_sem];refine qH hT h1 (zm hp) ?_;simp only[go_sem,zb hp];refine Bv T hT he (nd :=.mk 8 [] 0 t.pos [] []) h2 hp rfl ?_;unfold Jw;simp only[go_sem,zb hp];refine q9 hT h3 (zj hp) fun _=>?_;simp only[go_sem,zb hp];refine qE [] [3,6,8,10] [([],st.set pid (.cells (qz T p3))++[.cells qu,.cells [.sc (.int .i64 8),.sc (.string (ba x)),.sc (.int .i64 0),.sc (.int .i64 t.pos),.slice .full 0 [],.arr (st.length+2) 1 1],.arr 1 6 (zk v)]),([3],st.set pid (.cells (qz T p4))++[.cells qu,.cells [.sc (.int .i64 8),.sc (.string (ba x)),.sc (.int .i64 0),.sc (.int .i64 t.pos),.slice .full 0 [],.arr (st.length+2) 1 1],.arr 1 6 (zk v)]),([3,6],st.set pid (.cells (qz T p4))++[.cells qu,.cells [.sc (.int .i64 8),.sc (.string (ba x)),.sc (.int .i64 0),.sc (.int .i64 t.pos),.slice .full 0 [],.arr (st.length+2) 1 1],.arr 2 6 (zk v++zW)]),
   ([3,6,8],st.set pid (.cells (qz T p4))++[.cells qu,.cells [.sc (.int .i64 8),.sc (.string (ba x)),.sc (.int .i64 0),.sc (.int .i64 t.pos),.slice .full 0 [],.arr (st.length+2) 1 1],.arr 2 6 (zk v++zk w)]),([3,6,10],st.set pid (.cells (qz T p4))++[.cells qu,.cells [.sc (.int .i64 8),.sc (.string (ba x)),.sc (.int .i64 0),.sc (.int .i64 t.pos),.slice .full 0 [],.arr (st.length+2) 2 2],.arr 2 6 (zk v++zW)]),([3,6,8,10],st.set pid (.cells (qz T p4))++[.cells qu,.cells [.sc (.int .i64 8),.sc (.string (ba x)),.sc (.int .i64 0),.sc (.int .i64 t.pos),.slice .full 0 [],.arr (st.length+2) 2 2],.arr 2 6 (zk v++zk w)])]
   [[[],[3]],[[],[3]],[[]],[[]],[[],[3]],[[],[3]],[[3]],[[3,6],[3,6,10]],[[3,6],[3,6,10]],[[3,6],[3,6,8]],[[3,6],[3,6,8]]] mixed rfl rfl rfl rfl rfl ?_
  refine qW rfl (.ptr (st.length+1) 5) ?_;refine qW rfl (.arr (st.length+2) 1 1) ?_;refine Zr rfl (.ptr pid 0) (by simp only[go_sem]) ?_;refine ZH (d:=[3]) rfl rfl (zq w) rfl ?_ ?_
  ·simp only[go_sem];exact he _ _ _ h4 _ _ (zj hp) ⟨rfl,Xn hp⟩
  refine qW rfl (.sc (.int .i64 ((1:Nat):Int))) ?_;refine qm rfl (.slice .full 6 [.agg zW]) ?_ ?_ ?_
  ·simp only[go_sem];refine⟨_,?_,rfl⟩;simp only[go_sem];exact⟨⟨[],by simp⟩,ZL _,.inl rfl⟩
  ·simp only[go_sem];refine⟨_,?_,rfl⟩;simp only[go_sem];exact⟨⟨[],by simp⟩,ZL _,.inl rfl⟩
  refine ZH (d:=[3,6]) rfl rfl (.arr (st.length+2) 2 2) rfl ?_ ?_
  ·simp only[go_sem,zW];exact⟨Tryz.app6d (by omega),rfl⟩
  refine qm rfl (.aptr (st.length+2) 2 6) ?_ ?_ ?_
  ·simp only[go_sem];decide
  ·simp only[go_sem];decide
  refine Qp (d:=[3,6,8]) (d2:=[3,6,8,10]) rfl rfl rfl .any rfl ?_ ?_ ?_
  ·simp only[go_sem,za];exact⟨by simp[zk,zW],rfl⟩
  ·simp only[go_sem,za];exact⟨by simp[zk,zW],rfl⟩
  refine qW rfl (.ptr (st.length+1) 5) ?_;refine Qp (d:=[3,6,10]) (d2:=[3,6,8,10]) rfl rfl rfl .any rfl ?_ ?_ ?_
  ·simp only[go_sem]
  ·simp only[go_sem]
  refine Qc ?_;simp only[go_sem];refine⟨by decide,Jj (nd:=zr 8 t.pos x [v,w]) (aid:=st.length+2) hk rfl ?_ (by omega) rfl rfl rfl⟩;exact (Za 2).trans rfl
theorem gL{T:List Tk}(hT:T.length≤100000){pid:Nat}{e pt:PM Nd}(he:DC T pid 24 e)(hc:DC T pid 60 (GL T e pt)){p p':PS}{t:Tk}{r:Nd}(ht:zE T p=some t)
  (b1:isT t [108,101,116]=false) (b2:isT t [102,117,110]=false) (b3:isT t [105,102]=false) (h:((GL T e pt p).bind fun r=>(Ye T [59] r.2).bind fun b=>if b∧¬ r.2.flat then (Zv T r.2).bind fun q=>(e q.2).map fun u=>(zr 14 r.1.pos [] [r.1,u.1],u.2) else some (r.1,r.2))=some (r,p')) {K:SV→St→Prop} {st:St} (hp:Jb T pid p st) (hk:K (zq r) (st.set pid (.cells (qz T p')))):ACalls prog 39 [.ptr pid 0] K st:=by
 refine zw (zl [] func39 rfl results39 ntmps39 ?_);simp only[xoB,xpX] at h;obtain⟨x,p1,h1,b,h2,h⟩:=h;have y1:=zF (Yo (p':=p1) hp);unfold qz at y1;cases b with
 | false =>
  rw[if_neg (by simp)] at h;cases h;simp only[go_sem];refine Y6 ht (zm hp) ?_;simp only[go_sem];refine qf ht b1 (zm hp) ?_;simp only[go_sem];refine qf ht b2 (zm hp) ?_;simp only[go_sem];refine qf ht b3 (zm hp) ?_;simp only[go_sem];refine hc _ _ _ h1 _ _ (zm hp) ?_;simp only[go_sem,zb hp];refine Q2 h2 (zj hp) ?_;simp only[go_sem,zb hp];exact QA hk
 | true =>
  by_cases hf:p1.flat=true
  ·rw[if_neg (by simp[hf])] at h;cases h;simp only[go_sem];refine Y6 ht (zm hp) ?_;simp only[go_sem];refine qf ht b1 (zm hp) ?_;simp only[go_sem];refine qf ht b2 (zm hp) ?_;simp only[go_sem];refine qf ht b3 (zm hp) ?_;simp only[go_sem];refine hc _ _ _ h1 _ _ (zm hp) ?_;simp only[go_sem,zb hp];refine Q2 h2 (zj hp) ?_;unfold qz;simp only[go_sem,zb hp,y1.1,y1.2.1,y1.2.2,hf];exact dB hf hk
  ·have hf:p1.flat=false:=by simpa using hf
   rw[if_pos ⟨rfl,by simp[hf]⟩] at h;simp only[xoB,xoM,xpX,xpJ] at h;obtain⟨u,p2,h3,w,p3,h4,rfl,rfl⟩:=h;simp only[go_sem];refine Y6 ht (zm hp) ?_;simp only[go_sem];refine qf ht b1 (zm hp) ?_;simp only[go_sem];refine qf ht b2 (zm hp) ?_;simp only[go_sem];refine qf ht b3 (zm hp) ?_;simp only[go_sem];refine hc _ _ _ h1 _ _ (zm hp) ?_;simp only[go_sem,zb hp];refine Q2 h2 (zj hp) ?_;unfold qz;simp only[go_sem,zb hp,y1.1,y1.2.1,y1.2.2,hf];try (unfold zd;simp only[qc])
   refine qH hT h3 (dM hp hf) ?_;simp only[go_sem,zb hp];refine zA [] [(0,[7]),(0,[7]),(0,[7]),(0,[]),(3,[7]),(0,[]),(0,[]),(1,[8])] mixed rfl ?_;simp only[go_sem,za];refine⟨_,_,he _ _ _ h4 _ _ (zj hp) ⟨rfl,rfl⟩,?_⟩;simp only[go_sem,zb hp];rw[zp];refine⟨.slice .full 6 [.agg (zk x),zq w],?_,?_⟩
   ·unfold zk;simp only[go_sem];exact⟨⟨[],by simp⟩,Yn _ x w,.inl rfl⟩
   rw[zp];refine⟨.agg [.sc (.int .i64 14),.sc (.string ⟨#[]⟩),.sc (.int .i64 0),.sc (.int .i64 x.pos),.slice .full 0 [],.slice .full 6 [.agg (zk x),zq w]],?_,?_⟩
   ·unfold zk;simp only[go_sem];exact⟨⟨[],by simp⟩,Uu (t:=[]) (Yn _ x w),.inl rfl⟩
   unfold zk;simp only[go_sem];exact jn (t:=[]) hk
theorem cC{T:List Tk}(hT:T.length≤100000){pid:Nat}{e pt:PM Nd}(he:DC T pid 24 e)(hc:DC T pid 60 (GL T e pt)):DC T pid 39 (D3 T e pt):=by
 intro p r p' h K st hp hk;unfold D3 at h;rw[xoB] at h;obtain⟨t,ht,h⟩:=h;have no:∀ {a b:Tx},isT t a=true→a≠b→isT t b=false:=fun {a b} h1 h2=>by
  cases hb:isT t b with
  | false=>rfl
  | true=>exact absurd ((Qm.1 h1).2.symm.trans (Qm.1 hb).2) h2
 cases b1:isT t [108,101,116] with
 | true =>
  rw[if_pos b1] at h;exact gq hT he hc ht b1 (no b1 (by decide)) (no b1 (by decide)) h hp hk
 | false =>
 rw[if_neg (by rw[b1];decide)] at h;cases b2:isT t [102,117,110] with
 | true =>
  rw[if_pos b2] at h;exact hF hT he hc ht b1 b2 (no b2 (by decide)) h hp hk
 | false =>
 rw[if_neg (by rw[b2];decide)] at h;cases b3:isT t [105,102] with
 | true =>
  rw[if_pos b3] at h;exact xI hT he hc ht b1 b2 b3 h hp hk
 | false =>
 rw[if_neg (by rw[b3];decide)] at h;exact gL hT he hc ht b1 b2 b3 h hp hk
end Go.Proofs
namespace Go.AL
variable {T:List Tk} {pid:Nat} {st:St} {p q:PS}
theorem dG(n:Nd)(c:Tx):(n.addName c).kind=n.kind:=by cases n;rfl
theorem pL(n:Nd)(c:Tx):(n.addName c).text=n.text:=by cases n;rfl
theorem oB(n:Nd)(c:Tx):(n.addName c).num=n.num:=by cases n;rfl
theorem tu(n:Nd)(c:Tx):(n.addName c).pos=n.pos:=by cases n;rfl
theorem Fx(n:Nd)(c:Tx):(n.addName c).names=n.names++[c]:=by cases n;rfl
theorem nL(n:Nd)(c:Tx):(n.addName c).kids=n.kids:=by cases n;rfl
def fT(nid nver aid aver:Nat)(n:Nd):List SV:=[.sc (.int .i64 n.kind),.sc (.string (ba n.text)),.sc (.int .i64 n.num),.sc (.int .i64 n.pos),.slice (.own nid nver) 1 (n.names.map z8),.arr aid aver n.kids.length]
theorem Ff(l:List Nd):(l.flatMap zk).length=l.length*6:=by
 induction l with
 | nil=>rfl
 | cons a r ih=>rw[List.flatMap_cons,xlA,ih,xlC];simp only[zk,xlC,xlN];omega
theorem Ey{nd:Nd}{K:SV→St→Prop}{nid nver aid ver:Nat}{cs:List SV}{ex s:St}(hk:K (zq nd) (st.set pid (.cells (qz T p))))(hs:s=st.set pid (.cells (qz T p))++ex)(hid:s[aid]?=some (.arr ver 6 cs))(hlen:st.length≤aid)(hcs:cs=nd.kids.flatMap zk) :
  k8 (YU st (jy K)) (.agg (fT nid nver aid ver nd)) s:=by
 have hfl:(nd.kids.map zq).flatMap SV.cells=nd.kids.flatMap zk:=by
  rw[List.flatMap_map];exact congrArg (fun f=>nd.kids.flatMap f) (funext fun c=>za c)
 refine⟨[.sc (.int .i64 nd.kind),.sc (.string (ba nd.text)),.sc (.int .i64 nd.num),.sc (.int .i64 nd.pos),.slice (.own nid nver) 1 (nd.names.map z8)],aid,ver,_,6,nd.kids.map zq,cs,rfl,hid,?_,by simp,?_,?_⟩
 ·rw[hcs,hfl];exact List.take_of_length_le (Nat.le_of_eq (Ff _))
 ·intro x hx;obtain⟨c,_,rfl⟩:=List.mem_map.1 hx;exact uB c
 ·subst hs;rw[List.set_append_right _ _ (by simpa using hlen)];exact Xf (T:=T) (pid:=pid) (m1 :=.own nid nver) (m2 :=.imm) (z1:=1) (z2:=6) hk (.inl rfl) (.inl rfl) (ex:=ex.set (aid-(st.set pid (.cells (qz T p))).length) (.arr (ver+1) 6 []))
theorem cJ(hp:Jb T pid p st){X a:Ob}{ex:St}{l:List SV}{k:Nat}(hk:k=st.length+ex.length):S2 T pid k l q (st.set pid X++(ex++[a]))=st.set pid (.cells (qz T q))++(ex++[.cells l]):=by
 subst hk;unfold S2;rw[Qu,Xn hp,List.set_append_right _ _ (Nat.le_refl _),Nat.sub_self];rfl
end Go.AL
namespace Go.Proofs
open Go Go.AL Tryz
theorem Tryz.app1d{n:Nat}(h:n≤1000000):AppOk prog 23 23 1 n:=J4 Tryz.aelem23 Tryz.aelem23 Tryz.asize9 Tryz.azero9 rfl Tryz.abytes9 (by omega) h
theorem BG(T:List Tk)(hT:T.length≤100000){pid:Nat}{e:PM Nd}(he:DC T pid 24 e){nd:Nd}{p p':PS}{x:Tx}{rc:Bool}{v:Nd}(h:VG T e p=some ((x,rc,v),p')){K:SV→St→Prop}{st:St}{p0:PS}(hp:Jb T pid p0 st)(a b:Ob){k:Nat}(hk':k=st.length+2)
  (hk:K (.sc (.bool rc)) (st.set pid (.cells (qz T p'))++[a,b,.cells (Jw (.mk nd.kind x nd.num nd.pos [] []) (.arr (st.length+3) 1 1)),.arr 1 6 (zk v)])) :
  ACalls prog 37 [.ptr pid 0,.ptr k 0] K (st.set pid (.cells (qz T p))++[a,b,.cells (Jw nd (.slice .full 0 []))]):=by
 subst hk';have hlt:=zi hp;refine wc T hT (by omega) he h (zj hp) (Za 2) ?_;rw[show ([a,b,.cells (Jw nd (.slice .full 0 []))]:St)=[a,b]++[.cells (Jw nd (.slice .full 0 []))] from rfl,cJ (ex:=[a,b]) (k:=st.length+2) hp rfl];simpa using hk
def Og(T:List Tk)(pid:Nat)(st:St)(p4:PS)(n1:Nd)(e:Exit)(env:List SV)(s:St):Prop:=e = .exit 0∧(∃ y3 y4 y6 y9 y10 y11 y12 y13 y14 y15 y16 y17 y18 y19 y20 y21 y22 y23 y24 y25 y26 y27 y28 y29 y30 y31 y32 y33 y34 y35 y36 y37 y38,env=(.ptr pid 0 :: .any :: .ptr st.length 0::y3::y4 :: .ptr (st.length+2) 0::y6 :: .any :: .any::y9::y10::y11::y12::y13::y14::y15::y16::y17::y18::y19::y20::y21::y22::y23::y24::y25::y26::y27::y28::y29::y30::y31::y32::y33::y34::y35::y36::y37::y38::XQ (JW (XD []))))∧∃ (kv:Nat) (b4:Ob) (ex:St),(n1.names.length≤T.length+2∧n1.kids=[])∧s=st.set pid (.cells (qz T p4))++(.cells qu::b4 :: .cells [.sc (.int .i64 n1.kind),.sc (.string (ba n1.text)),.sc (.int .i64 n1.num),.sc (.int .i64 n1.pos),.slice (.own (st.length+3) kv) 1 (n1.names.map z8),.arr (st.length+4) 0 0] :: .tok kv :: .arr 0 6 []::ex)
theorem n8{T:List Tk}(hT:T.length≤100000){pid:Nat}{e ty:PM Nd}(he:DC T pid 24 e)(hc:DC T pid 36 (wX T ty)){p p':PS}{r:Nd}
  (hb:Ye T [116,121,112,101] p=some false) (h:((Zv T p).bind fun r=>((VG T e { r.2 with flat:=true }).map fun q=>(zr (if q.1.2.1 then 29 else 28) r.1.pos q.1.1 [q.1.2.2],{ q.2 with flat:=false })).bind fun u=>(qp T [59] u.2).map fun p1=>(u.1,p1))=some (r,p')) {K:SV→St→Prop} {st:St} (hp:Jb T pid p st) (hk:K (zq r) (st.set pid (.cells (qz T p')))):ACalls prog 22 [.ptr pid 0] K st:=by
 refine zw (YC (Yh (Qr (M:=[1000061]) func22 rfl results22 ntmps22 ?_)));simp only[xoB,xoM,xpX,xpJ] at h;obtain⟨u,p1,h1,n1,p2,⟨x,rc,v,p3,h3,rfl,rfl⟩,p4,h4,rfl,rfl⟩:=h;have y1:=zF (Yo (p':=p1) hp);unfold qz at y1;have y3:=zF (Yo (p':=p3) hp);unfold qz at y3;cases rc with
 | true =>
  simp only[go_sem];refine Q2 hb (zm hp) ?_;simp only[go_sem];refine qH hT h1 (zm hp) ?_;unfold qz;simp only[go_sem,zb hp,y1.1,y1.2.1,y1.2.2];refine BG T hT he (nd :=.mk 28 [] 0 u.pos [] []) (p:={ p1 with flat:=true }) h3 hp _ _ rfl ?_;unfold Jw qz;simp only[go_sem,zb hp,y3.1,y3.2.1,y3.2.2];refine q9 hT h4 (zj (p':={ p3 with flat:=false }) hp) fun _=>?_;simp only[go_sem,zb hp];refine Jj (nd:=zr 29 u.pos x [v]) (aid:=st.length+3) hk rfl ?_ (by omega) rfl rfl rfl;exact (Za 3).trans rfl
 | false =>
  simp only[go_sem];refine Q2 hb (zm hp) ?_;simp only[go_sem];refine qH hT h1 (zm hp) ?_;unfold qz;simp only[go_sem,zb hp,y1.1,y1.2.1,y1.2.2];refine BG T hT he (nd :=.mk 28 [] 0 u.pos [] []) (p:={ p1 with flat:=true }) h3 hp _ _ rfl ?_;unfold Jw qz;simp only[go_sem,zb hp,y3.1,y3.2.1,y3.2.2];refine q9 hT h4 (zj (p':={ p3 with flat:=false }) hp) fun _=>?_;simp only[go_sem,zb hp];refine Jj (nd:=zr 28 u.pos x [v]) (aid:=st.length+3) hk rfl ?_ (by omega) rfl rfl rfl;exact (Za 3).trans rfl
theorem nv{T:List Tk}(hT:T.length≤100000){pid:Nat}{e ty:PM Nd}(he:DC T pid 24 e)(hc:DC T pid 36 (wX T ty)){p p':PS}{r:Nd}
  (hb:Ye T [116,121,112,101] p=some true) (h:((Zv T p).bind fun r=>(u6 T ty r.1.pos r.2).bind fun u=>(qp T [59] u.2).map fun p1=>(u.1,p1))=some (r,p')) {K:SV→St→Prop} {st:St} (hp:Jb T pid p st) (hk:K (zq r) (st.set pid (.cells (qz T p')))):ACalls prog 22 [.ptr pid 0] K st:=by
 refine zw (YC (Yh (Qr (M:=[1000061]) func22 rfl results22 ntmps22 ?_)));unfold u6 at h;simp only[xoB,xoM,xpX,xpJ] at h;obtain⟨u,p1,h1,n2,p2,⟨x0,p3,h3,n1,p4,hL1,p5,h5,hL2⟩,p6,h6,rfl,rfl⟩:=h;simp only[go_sem];refine Q2 hb (zm hp) ?_;simp only[go_sem];refine qH hT h1 (zm hp) ?_;simp only[go_sem,zb hp];refine JU hT (by decide) h3 (zj hp) ?_;simp only[go_sem,zb hp];refine Z2 (st.length+2) 4 1 0 (Za 2) (by simp) rfl ?_;rw[Qu];simp only[xlA,Xv,xlC,xlN,xsS,xsZ,xaA,xcA,xnA,Nat.zero_add,Nat.reduceAdd];refine nC (st.length+2) 5 6 0 (Za 2) (by simp) rfl ?_;rw[Qu];simp only[xlA,Xv,xlC,xlN,xsS,xsZ,xaA,xcA,xnA,Nat.zero_add,Nat.reduceAdd];refine AWp.mono (Q:=Og T pid st p4 n1) ?_ ?_
 ·refine zt [] (fun m env s=>∃ (nd:Nd) (q:PS) (kv:Nat) (b4:Ob) (ex:St),KX T m nd q=some (n1,p4)∧m+nd.names.length≤T.length+2∧nd.kids=[]∧env=(.ptr pid 0 :: .any :: .ptr st.length 0 :: .any :: .any :: .ptr (st.length+2) 0 :: .any::XQ (JW (QX []))) ∧
   s=st.set pid (.cells (qz T q))++(.cells qu::b4 :: .cells [.sc (.int .i64 nd.kind),.sc (.string (ba nd.text)),.sc (.int .i64 nd.num),.sc (.int .i64 nd.pos),.slice (.own (st.length+3) kv) 1 (nd.names.map z8),.arr (st.length+4) 0 0] :: .tok kv :: .arr 0 6 []::ex)) (n:=T.length+2) ?_ ⟨_,_,0,_,[],hL1,by simp[zr,Nd.names],rfl,rfl,rfl⟩ ?_
  ·exact qv
  rintro m env s ⟨nd,q,kv,b4,ex,hl,hm,hkd,rfl,rfl⟩;cases m with
  | zero=>cases hl
  | succ m =>
  unfold KX at hl;rw[xoB] at hl;obtain⟨t,ht,hl⟩:=hl;by_cases c3:t.kind=3
  ·have d3:(t.kind==3)=true:=by simp[c3]
   rw[if_pos c3] at hl;by_cases c4:nd.names.length=4
   ·have l1:((nd.names.length:Int)==4)=true:=by simp[c4]
    rw[if_pos c4,xoM] at hl;obtain⟨q1,c5,hl⟩:=hl;cases hl;simp only[go_sem];refine zX ht (zj hp) ?_;simp only[go_sem,d3,xlM,l1];refine Qk c5 (zj hp) fun _=>?_;simp only[go_sem,zb hp];exact⟨rfl,⟨_,_,_,_,_,_,_,_,_,_,_,_,_,_,_,_,_,_,_,_,_,_,_,_,_,_,_,_,_,_,_,_,_,rfl⟩,_,_,_,⟨by omega,hkd⟩,rfl⟩
   ·have l1:((nd.names.length:Int)==4)=false:=by simp;omega
    rw[if_neg c4,xoB] at hl;obtain⟨⟨w,q1⟩,c5,hl⟩:=hl;simp only[go_sem];refine zX ht (zj hp) ?_;simp only[go_sem,d3,xlM,l1];refine qH hT c5 (zj hp) ?_;simp only[go_sem,zb hp];refine⟨Tryz.app1d (by omega),m,_,by omega,?_,nd.addName w.text,q1,kv+1,b4,_,hl,by rw[Fx];simp;omega,by rw[nL];exact hkd,rfl,by rw[dG,pL,oB,tu,Fx,xmA];rfl⟩;exact qv
  ·have d3:(t.kind==3)=false:=by simp[c3]
   rw[if_neg c3] at hl;cases hl;simp only[go_sem];refine zX ht (zj hp) ?_;simp only[go_sem,d3];exact⟨rfl,⟨_,_,_,_,_,_,_,_,_,_,_,_,_,_,_,_,_,_,_,_,_,_,_,_,_,_,_,_,_,_,_,_,_,rfl⟩,_,_,_,⟨by omega,hkd⟩,rfl⟩
 rintro e env s ⟨rfl,⟨y3,y4,y6,y9,y10,y11,y12,y13,y14,y15,y16,y17,y18,y19,y20,y21,y22,y23,y24,y25,y26,y27,y28,y29,y30,y31,y32,y33,y34,y35,y36,y37,y38,rfl⟩,kv,b4,ex,⟨hn1,hkd⟩,rfl⟩;simp only[go_sem];refine q9 hT h5 (zj hp) fun _=>?_;simp only[go_sem,zb hp];refine zt [] (fun m env s=>∃ (nd:Nd) (q:PS) (av:Nat) (more:Bool) (b4:Ob) (ex:St),H0 T ty m more nd q=some (n2,p2)∧m+nd.kids.length≤T.length+2∧nd.names.length≤T.length+2∧env=(.ptr pid 0 :: .any :: .ptr st.length 0 :: .any :: .any :: .ptr (st.length+2) 0 :: .any :: .sc (.bool more) :: .any :: .any :: .any::JW (QX [])) ∧
  s=st.set pid (.cells (qz T q))++(.cells qu::b4 :: .cells (fT (st.length+3) kv (st.length+4) av nd) :: .tok kv :: .arr av 6 (nd.kids.flatMap zk)::ex)) (n:=T.length+2) ?_ ⟨n1,_,0,true,b4,ex,hL2,by rw[hkd];simp,hn1,rfl,by unfold fT;rw[hkd];rfl⟩ ?_
 ·exact qv
 rintro m env s ⟨nd,q,av,more,b4,ex,hl,hm,hnl,rfl,rfl⟩;cases m with
 | zero=>cases hl
 | succ m =>
 unfold H0 at hl;have y:=zF (Yo (p':=q) hp);unfold qz at y;unfold fT;by_cases c0:more=true∧q.e=0
 rotate_left
 ·rw[if_neg c0] at hl;cases hl;cases more with
  | false =>
   simp only[go_sem];refine q9 hT h6 (zj hp) fun _=>?_;simp only[go_sem,zb hp];refine⟨by decide,Ey (nd:=n2) (nid:=st.length+3) (aid:=st.length+4) hk rfl ?_ (by omega) rfl⟩;exact (Za 4).trans rfl
  | true =>
   have c1:(p2.e==0)=false:=by simpa using fun z=>c0 ⟨rfl,z⟩
   unfold qz;simp only[go_sem,y.1,y.2.1,y.2.2,c1,zb hp];refine q9 hT h6 (zj hp) fun _=>?_;simp only[go_sem,zb hp];refine⟨by decide,Ey (nd:=n2) (nid:=st.length+3) (aid:=st.length+4) hk rfl ?_ (by omega) rfl⟩;exact (Za 4).trans rfl
 rw[if_pos c0] at hl;obtain⟨rfl,c0⟩:=c0;have c1:(q.e==0)=true:=by simp[c0]
 simp only[xoB,xpX] at hl;obtain⟨q1,d1,x,q2,d2,b,q3,d3,hl⟩:=hl;obtain⟨t2,g1,g2,g3,g4,g5⟩:=WF d3;have hln:=Ff nd.kids;have htk:(nd.kids.flatMap zk).take (nd.kids.length*6)=nd.kids.flatMap zk:=List.take_of_length_le (by omega);have ht1:(nd.kids.flatMap zk++zW).take (nd.kids.length*6)=nd.kids.flatMap zk:=by rw[←hln];exact List.take_left
 have hd1:(nd.kids.flatMap zk++zW).drop (nd.kids.length*6+6)=[]:=List.drop_eq_nil_of_le (by rw[xlA,hln];simp[zW]);have hlt:(nd.kids.length:Int)<((nd.kids.length+1:Nat):Int):=by omega
 have hfin:(nd.addKid x).kids.flatMap zk=nd.kids.flatMap zk++zk x:=by rw[zM];simp
 by_cases l20:nd.kids.length=20
 ·have l1:((nd.kids.length:Int)==20)=true:=by simp[l20]
  unfold U5 at d1;rw[if_pos l20] at d1;cases b with
  | false =>
   obtain rfl:=g5 rfl;unfold qz;simp only[go_sem,y.1,y.2.1,y.2.2,c1,zb hp,l1];refine Qk d1 (zj hp) fun _=>?_;simp only[go_sem,zb hp];refine qE [1000061] [3,6,8,10] [([],st.set pid (.cells (qz T q1))++(.cells qu::b4 :: .cells [.sc (.int .i64 nd.kind),.sc (.string (ba nd.text)),.sc (.int .i64 nd.num),.sc (.int .i64 nd.pos),.slice (.own (st.length+3) kv) 1 (nd.names.map z8),.arr (st.length+4) av nd.kids.length] :: .tok kv :: .arr av 6 (nd.kids.flatMap zk)::ex)),([3],st.set pid (.cells (qz T q3))++(.cells qu::b4 :: .cells [.sc (.int .i64 nd.kind),.sc (.string (ba nd.text)),.sc (.int .i64 nd.num),.sc (.int .i64 nd.pos),.slice (.own (st.length+3) kv) 1 (nd.names.map z8),.arr (st.length+4) av nd.kids.length] :: .tok kv :: .arr av 6 (nd.kids.flatMap zk)::ex)),([3,6],st.set pid (.cells (qz T q3))++(.cells qu::b4 :: .cells [.sc (.int .i64 nd.kind),.sc (.string (ba nd.text)),.sc (.int .i64 nd.num),.sc (.int .i64 nd.pos),.slice (.own (st.length+3) kv) 1 (nd.names.map z8),.arr (st.length+4) av nd.kids.length] :: .tok kv :: .arr (av+1) 6 (nd.kids.flatMap zk++zW)::ex)),
    ([3,6,8],st.set pid (.cells (qz T q3))++(.cells qu::b4 :: .cells [.sc (.int .i64 nd.kind),.sc (.string (ba nd.text)),.sc (.int .i64 nd.num),.sc (.int .i64 nd.pos),.slice (.own (st.length+3) kv) 1 (nd.names.map z8),.arr (st.length+4) av nd.kids.length] :: .tok kv :: .arr (av+1) 6 (nd.kids.flatMap zk++zk x)::ex)),([3,6,10],st.set pid (.cells (qz T q3))++(.cells qu::b4 :: .cells [.sc (.int .i64 nd.kind),.sc (.string (ba nd.text)),.sc (.int .i64 nd.num),.sc (.int .i64 nd.pos),.slice (.own (st.length+3) kv) 1 (nd.names.map z8),.arr (st.length+4) (av+1) (nd.kids.length+1)] :: .tok kv :: .arr (av+1) 6 (nd.kids.flatMap zk++zW)::ex)),([3,6,8,10],st.set pid (.cells (qz T q3))++(.cells qu::b4 :: .cells [.sc (.int .i64 nd.kind),.sc (.string (ba nd.text)),.sc (.int .i64 nd.num),.sc (.int .i64 nd.pos),.slice (.own (st.length+3) kv) 1 (nd.names.map z8),.arr (st.length+4) (av+1) (nd.kids.length+1)] :: .tok kv :: .arr (av+1) 6 (nd.kids.flatMap zk++zk x)::ex))]
    [[[],[3]],[[],[3]],[[]],[[]],[[],[3]],[[],[3]],[[3]],[[3,6],[3,6,10]],[[3,6],[3,6,10]],[[3,6],[3,6,8]],[[3,6],[3,6,8]]] mixed rfl rfl rfl rfl rfl ?_
   refine qW rfl (.ptr (st.length+2) 5) ?_;refine qW rfl (.arr (st.length+4) av nd.kids.length) ?_;refine Zr rfl (.ptr pid 0) (by simp only[go_sem]) ?_;refine ZH (d:=[3]) rfl rfl (zq x) rfl ?_ ?_
   ·simp only[go_sem];exact hc _ _ _ d2 _ _ (zj hp) ⟨rfl,Xn hp⟩
   refine qW rfl (.sc (.int .i64 nd.kids.length)) ?_;refine qm rfl (.slice .full 6 [.agg zW]) ?_ ?_ ?_
   ·simp only[go_sem];refine⟨_,?_,rfl⟩;simp only[go_sem];exact⟨⟨[],by simp⟩,ZL _,.inl rfl⟩
   ·simp only[go_sem];refine⟨_,?_,rfl⟩;simp only[go_sem];exact⟨⟨[],by simp⟩,ZL _,.inl rfl⟩
   refine ZH (d:=[3,6]) rfl rfl (.arr (st.length+4) (av+1) (nd.kids.length+1)) rfl ?_ ?_
   ·simp only[go_sem,htk,ht1,hd1,hlt];exact⟨Tryz.app6d (by omega),rfl,rfl⟩
   refine qm rfl (.aptr (st.length+4) (av+1) (nd.kids.length*6)) ?_ ?_ ?_
   ·simp only[go_sem,htk,ht1,hd1,hlt]
   ·simp only[go_sem,htk,ht1,hd1,hlt]
   refine Qp (d:=[3,6,8]) (d2:=[3,6,8,10]) rfl rfl rfl .any rfl ?_ ?_ ?_
   ·simp only[go_sem,za,htk,ht1,hd1,hlt];exact⟨by rw[hln];exact Nat.le_refl _,rfl⟩
   ·simp only[go_sem,za,htk,ht1,hd1,hlt];exact⟨by rw[hln];exact Nat.le_refl _,rfl⟩
   refine qW rfl (.ptr (st.length+2) 5) ?_;refine Qp (d:=[3,6,10]) (d2:=[3,6,8,10]) rfl rfl rfl .any rfl ?_ ?_ ?_
   ·simp only[go_sem]
   ·simp only[go_sem]
   refine Qc ?_;simp only[go_sem];refine Q2 g3 (zj hp) ?_;simp only[go_sem,zb hp];refine⟨m,_,by omega,?_,nd.addKid x,q3,av+1,false,b4,ex,hl,by rw[zM];simp;omega,by rw[qb];exact hnl,rfl,by rw[hfin];rw[qK,qI,Zo,Zn,qb,zM,xlA];rfl⟩;exact qv
  | true =>
   unfold qz;simp only[go_sem,y.1,y.2.1,y.2.2,c1,zb hp,l1];refine Qk d1 (zj hp) fun _=>?_;simp only[go_sem,zb hp];refine qE [1000061] [3,6,8,10] [([],st.set pid (.cells (qz T q1))++(.cells qu::b4 :: .cells [.sc (.int .i64 nd.kind),.sc (.string (ba nd.text)),.sc (.int .i64 nd.num),.sc (.int .i64 nd.pos),.slice (.own (st.length+3) kv) 1 (nd.names.map z8),.arr (st.length+4) av nd.kids.length] :: .tok kv :: .arr av 6 (nd.kids.flatMap zk)::ex)),([3],st.set pid (.cells (qz T q2))++(.cells qu::b4 :: .cells [.sc (.int .i64 nd.kind),.sc (.string (ba nd.text)),.sc (.int .i64 nd.num),.sc (.int .i64 nd.pos),.slice (.own (st.length+3) kv) 1 (nd.names.map z8),.arr (st.length+4) av nd.kids.length] :: .tok kv :: .arr av 6 (nd.kids.flatMap zk)::ex)),([3,6],st.set pid (.cells (qz T q2))++(.cells qu::b4 :: .cells [.sc (.int .i64 nd.kind),.sc (.string (ba nd.text)),.sc (.int .i64 nd.num),.sc (.int .i64 nd.pos),.slice (.own (st.length+3) kv) 1 (nd.names.map z8),.arr (st.length+4) av nd.kids.length] :: .tok kv :: .arr (av+1) 6 (nd.kids.flatMap zk++zW)::ex)),
    ([3,6,8],st.set pid (.cells (qz T q2))++(.cells qu::b4 :: .cells [.sc (.int .i64 nd.kind),.sc (.string (ba nd.text)),.sc (.int .i64 nd.num),.sc (.int .i64 nd.pos),.slice (.own (st.length+3) kv) 1 (nd.names.map z8),.arr (st.length+4) av nd.kids.length] :: .tok kv :: .arr (av+1) 6 (nd.kids.flatMap zk++zk x)::ex)),([3,6,10],st.set pid (.cells (qz T q2))++(.cells qu::b4 :: .cells [.sc (.int .i64 nd.kind),.sc (.string (ba nd.text)),.sc (.int .i64 nd.num),.sc (.int .i64 nd.pos),.slice (.own (st.length+3) kv) 1 (nd.names.map z8),.arr (st.length+4) (av+1) (nd.kids.length+1)] :: .tok kv :: .arr (av+1) 6 (nd.kids.flatMap zk++zW)::ex)),([3,6,8,10],st.set pid (.cells (qz T q2))++(.cells qu::b4 :: .cells [.sc (.int .i64 nd.kind),.sc (.string (ba nd.text)),.sc (.int .i64 nd.num),.sc (.int .i64 nd.pos),.slice (.own (st.length+3) kv) 1 (nd.names.map z8),.arr (st.length+4) (av+1) (nd.kids.length+1)] :: .tok kv :: .arr (av+1) 6 (nd.kids.flatMap zk++zk x)::ex))]
    [[[],[3]],[[],[3]],[[]],[[]],[[],[3]],[[],[3]],[[3]],[[3,6],[3,6,10]],[[3,6],[3,6,10]],[[3,6],[3,6,8]],[[3,6],[3,6,8]]] mixed rfl rfl rfl rfl rfl ?_
   refine qW rfl (.ptr (st.length+2) 5) ?_;refine qW rfl (.arr (st.length+4) av nd.kids.length) ?_;refine Zr rfl (.ptr pid 0) (by simp only[go_sem]) ?_;refine ZH (d:=[3]) rfl rfl (zq x) rfl ?_ ?_
   ·simp only[go_sem];exact hc _ _ _ d2 _ _ (zj hp) ⟨rfl,Xn hp⟩
   refine qW rfl (.sc (.int .i64 nd.kids.length)) ?_;refine qm rfl (.slice .full 6 [.agg zW]) ?_ ?_ ?_
   ·simp only[go_sem];refine⟨_,?_,rfl⟩;simp only[go_sem];exact⟨⟨[],by simp⟩,ZL _,.inl rfl⟩
   ·simp only[go_sem];refine⟨_,?_,rfl⟩;simp only[go_sem];exact⟨⟨[],by simp⟩,ZL _,.inl rfl⟩
   refine ZH (d:=[3,6]) rfl rfl (.arr (st.length+4) (av+1) (nd.kids.length+1)) rfl ?_ ?_
   ·simp only[go_sem,htk,ht1,hd1,hlt];exact⟨Tryz.app6d (by omega),rfl,rfl⟩
   refine qm rfl (.aptr (st.length+4) (av+1) (nd.kids.length*6)) ?_ ?_ ?_
   ·simp only[go_sem,htk,ht1,hd1,hlt]
   ·simp only[go_sem,htk,ht1,hd1,hlt]
   refine Qp (d:=[3,6,8]) (d2:=[3,6,8,10]) rfl rfl rfl .any rfl ?_ ?_ ?_
   ·simp only[go_sem,za,htk,ht1,hd1,hlt];exact⟨by rw[hln];exact Nat.le_refl _,rfl⟩
   ·simp only[go_sem,za,htk,ht1,hd1,hlt];exact⟨by rw[hln];exact Nat.le_refl _,rfl⟩
   refine qW rfl (.ptr (st.length+2) 5) ?_;refine Qp (d:=[3,6,10]) (d2:=[3,6,8,10]) rfl rfl rfl .any rfl ?_ ?_ ?_
   ·simp only[go_sem]
   ·simp only[go_sem]
   refine Qc ?_;simp only[go_sem];refine Q2 g3 (zj hp) ?_;simp only[go_sem,zb hp];refine qH hT (g4 rfl).1 (zj hp) ?_;simp only[go_sem,zb hp];refine⟨m,_,by omega,?_,nd.addKid x,q3,av+1,true,b4,ex,hl,by rw[zM];simp;omega,by rw[qb];exact hnl,rfl,by rw[hfin];rw[qK,qI,Zo,Zn,qb,zM,xlA];rfl⟩;exact qv
 ·have l1:((nd.kids.length:Int)==20)=false:=by simp;omega
  unfold U5 at d1;rw[if_neg l20] at d1;cases d1;cases b with
  | false =>
   obtain rfl:=g5 rfl;unfold qz;simp only[go_sem,y.1,y.2.1,y.2.2,c1,zb hp,l1];refine qE [1000061] [3,6,8,10] [([],st.set pid (.cells (qz T q))++(.cells qu::b4 :: .cells [.sc (.int .i64 nd.kind),.sc (.string (ba nd.text)),.sc (.int .i64 nd.num),.sc (.int .i64 nd.pos),.slice (.own (st.length+3) kv) 1 (nd.names.map z8),.arr (st.length+4) av nd.kids.length] :: .tok kv :: .arr av 6 (nd.kids.flatMap zk)::ex)),([3],st.set pid (.cells (qz T q3))++(.cells qu::b4 :: .cells [.sc (.int .i64 nd.kind),.sc (.string (ba nd.text)),.sc (.int .i64 nd.num),.sc (.int .i64 nd.pos),.slice (.own (st.length+3) kv) 1 (nd.names.map z8),.arr (st.length+4) av nd.kids.length] :: .tok kv :: .arr av 6 (nd.kids.flatMap zk)::ex)),([3,6],st.set pid (.cells (qz T q3))++(.cells qu::b4 :: .cells [.sc (.int .i64 nd.kind),.sc (.string (ba nd.text)),.sc (.int .i64 nd.num),.sc (.int .i64 nd.pos),.slice (.own (st.length+3) kv) 1 (nd.names.map z8),.arr (st.length+4) av nd.kids.length] :: .tok kv :: .arr (av+1) 6 (nd.kids.flatMap zk++zW)::ex)),
    ([3,6,8],st.set pid (.cells (qz T q3))++(.cells qu::b4 :: .cells [.sc (.int .i64 nd.kind),.sc (.string (ba nd.text)),.sc (.int .i64 nd.num),.sc (.int .i64 nd.pos),.slice (.own (st.length+3) kv) 1 (nd.names.map z8),.arr (st.length+4) av nd.kids.length] :: .tok kv :: .arr (av+1) 6 (nd.kids.flatMap zk++zk x)::ex)),([3,6,10],st.set pid (.cells (qz T q3))++(.cells qu::b4 :: .cells [.sc (.int .i64 nd.kind),.sc (.string (ba nd.text)),.sc (.int .i64 nd.num),.sc (.int .i64 nd.pos),.slice (.own (st.length+3) kv) 1 (nd.names.map z8),.arr (st.length+4) (av+1) (nd.kids.length+1)] :: .tok kv :: .arr (av+1) 6 (nd.kids.flatMap zk++zW)::ex)),([3,6,8,10],st.set pid (.cells (qz T q3))++(.cells qu::b4 :: .cells [.sc (.int .i64 nd.kind),.sc (.string (ba nd.text)),.sc (.int .i64 nd.num),.sc (.int .i64 nd.pos),.slice (.own (st.length+3) kv) 1 (nd.names.map z8),.arr (st.length+4) (av+1) (nd.kids.length+1)] :: .tok kv :: .arr (av+1) 6 (nd.kids.flatMap zk++zk x)::ex))]
    [[[],[3]],[[],[3]],[[]],[[]],[[],[3]],[[],[3]],[[3]],[[3,6],[3,6,10]],[[3,6],[3,6,10]],[[3,6],[3,6,8]],[[3,6],[3,6,8]]] mixed rfl rfl rfl rfl rfl ?_
   refine qW rfl (.ptr (st.length+2) 5) ?_;refine qW rfl (.arr (st.length+4) av nd.kids.length) ?_;refine Zr rfl (.ptr pid 0) (by simp only[go_sem]) ?_;refine ZH (d:=[3]) rfl rfl (zq x) rfl ?_ ?_
   ·simp only[go_sem];exact hc _ _ _ d2 _ _ (zj hp) ⟨rfl,Xn hp⟩
   refine qW rfl (.sc (.int .i64 nd.kids.length)) ?_;refine qm rfl (.slice .full 6 [.agg zW]) ?_ ?_ ?_
   ·simp only[go_sem];refine⟨_,?_,rfl⟩;simp only[go_sem];exact⟨⟨[],by simp⟩,ZL _,.inl rfl⟩
   ·simp only[go_sem];refine⟨_,?_,rfl⟩;simp only[go_sem];exact⟨⟨[],by simp⟩,ZL _,.inl rfl⟩
   refine ZH (d:=[3,6]) rfl rfl (.arr (st.length+4) (av+1) (nd.kids.length+1)) rfl ?_ ?_
   ·simp only[go_sem,htk,ht1,hd1,hlt];exact⟨Tryz.app6d (by omega),rfl,rfl⟩
   refine qm rfl (.aptr (st.length+4) (av+1) (nd.kids.length*6)) ?_ ?_ ?_
   ·simp only[go_sem,htk,ht1,hd1,hlt]
   ·simp only[go_sem,htk,ht1,hd1,hlt]
   refine Qp (d:=[3,6,8]) (d2:=[3,6,8,10]) rfl rfl rfl .any rfl ?_ ?_ ?_
   ·simp only[go_sem,za,htk,ht1,hd1,hlt];exact⟨by rw[hln];exact Nat.le_refl _,rfl⟩
   ·simp only[go_sem,za,htk,ht1,hd1,hlt];exact⟨by rw[hln];exact Nat.le_refl _,rfl⟩
   refine qW rfl (.ptr (st.length+2) 5) ?_;refine Qp (d:=[3,6,10]) (d2:=[3,6,8,10]) rfl rfl rfl .any rfl ?_ ?_ ?_
   ·simp only[go_sem]
   ·simp only[go_sem]
   refine Qc ?_;simp only[go_sem];refine Q2 g3 (zj hp) ?_;simp only[go_sem,zb hp];refine⟨m,_,by omega,?_,nd.addKid x,q3,av+1,false,b4,ex,hl,by rw[zM];simp;omega,by rw[qb];exact hnl,rfl,by rw[hfin];rw[qK,qI,Zo,Zn,qb,zM,xlA];rfl⟩;exact qv
  | true =>
   unfold qz;simp only[go_sem,y.1,y.2.1,y.2.2,c1,zb hp,l1];refine qE [1000061] [3,6,8,10] [([],st.set pid (.cells (qz T q))++(.cells qu::b4 :: .cells [.sc (.int .i64 nd.kind),.sc (.string (ba nd.text)),.sc (.int .i64 nd.num),.sc (.int .i64 nd.pos),.slice (.own (st.length+3) kv) 1 (nd.names.map z8),.arr (st.length+4) av nd.kids.length] :: .tok kv :: .arr av 6 (nd.kids.flatMap zk)::ex)),([3],st.set pid (.cells (qz T q2))++(.cells qu::b4 :: .cells [.sc (.int .i64 nd.kind),.sc (.string (ba nd.text)),.sc (.int .i64 nd.num),.sc (.int .i64 nd.pos),.slice (.own (st.length+3) kv) 1 (nd.names.map z8),.arr (st.length+4) av nd.kids.length] :: .tok kv :: .arr av 6 (nd.kids.flatMap zk)::ex)),([3,6],st.set pid (.cells (qz T q2))++(.cells qu::b4 :: .cells [.sc (.int .i64 nd.kind),.sc (.string (ba nd.text)),.sc (.int .i64 nd.num),.sc (.int .i64 nd.pos),.slice (.own (st.length+3) kv) 1 (nd.names.map z8),.arr (st.length+4) av nd.kids.length] :: .tok kv :: .arr (av+1) 6 (nd.kids.flatMap zk++zW)::ex)),
    ([3,6,8],st.set pid (.cells (qz T q2))++(.cells qu::b4 :: .cells [.sc (.int .i64 nd.kind),.sc (.string (ba nd.text)),.sc (.int .i64 nd.num),.sc (.int .i64 nd.pos),.slice (.own (st.length+3) kv) 1 (nd.names.map z8),.arr (st.length+4) av nd.kids.length] :: .tok kv :: .arr (av+1) 6 (nd.kids.flatMap zk++zk x)::ex)),([3,6,10],st.set pid (.cells (qz T q2))++(.cells qu::b4 :: .cells [.sc (.int .i64 nd.kind),.sc (.string (ba nd.text)),.sc (.int .i64 nd.num),.sc (.int .i64 nd.pos),.slice (.own (st.length+3) kv) 1 (nd.names.map z8),.arr (st.length+4) (av+1) (nd.kids.length+1)] :: .tok kv :: .arr (av+1) 6 (nd.kids.flatMap zk++zW)::ex)),([3,6,8,10],st.set pid (.cells (qz T q2))++(.cells qu::b4 :: .cells [.sc (.int .i64 nd.kind),.sc (.string (ba nd.text)),.sc (.int .i64 nd.num),.sc (.int .i64 nd.pos),.slice (.own (st.length+3) kv) 1 (nd.names.map z8),.arr (st.length+4) (av+1) (nd.kids.length+1)] :: .tok kv :: .arr (av+1) 6 (nd.kids.flatMap zk++zk x)::ex))]
    [[[],[3]],[[],[3]],[[]],[[]],[[],[3]],[[],[3]],[[3]],[[3,6],[3,6,10]],[[3,6],[3,6,10]],[[3,6],[3,6,8]],[[3,6],[3,6,8]]] mixed rfl rfl rfl rfl rfl ?_
   refine qW rfl (.ptr (st.length+2) 5) ?_;refine qW rfl (.arr (st.length+4) av nd.kids.length) ?_;refine Zr rfl (.ptr pid 0) (by simp only[go_sem]) ?_;refine ZH (d:=[3]) rfl rfl (zq x) rfl ?_ ?_
   ·simp only[go_sem];exact hc _ _ _ d2 _ _ (zj hp) ⟨rfl,Xn hp⟩
   refine qW rfl (.sc (.int .i64 nd.kids.length)) ?_;refine qm rfl (.slice .full 6 [.agg zW]) ?_ ?_ ?_
   ·simp only[go_sem];refine⟨_,?_,rfl⟩;simp only[go_sem];exact⟨⟨[],by simp⟩,ZL _,.inl rfl⟩
   ·simp only[go_sem];refine⟨_,?_,rfl⟩;simp only[go_sem];exact⟨⟨[],by simp⟩,ZL _,.inl rfl⟩
   refine ZH (d:=[3,6]) rfl rfl (.arr (st.length+4) (av+1) (nd.kids.length+1)) rfl ?_ ?_
   ·simp only[go_sem,htk,ht1,hd1,hlt];exact⟨Tryz.app6d (by omega),rfl,rfl⟩
   refine qm rfl (.aptr (st.length+4) (av+1) (nd.kids.length*6)) ?_ ?_ ?_
   ·simp only[go_sem,htk,ht1,hd1,hlt]
   ·simp only[go_sem,htk,ht1,hd1,hlt]
   refine Qp (d:=[3,6,8]) (d2:=[3,6,8,10]) rfl rfl rfl .any rfl ?_ ?_ ?_
   ·simp only[go_sem,za,htk,ht1,hd1,hlt];exact⟨by rw[hln];exact Nat.le_refl _,rfl⟩
   ·simp only[go_sem,za,htk,ht1,hd1,hlt];exact⟨by rw[hln];exact Nat.le_refl _,rfl⟩
   refine qW rfl (.ptr (st.length+2) 5) ?_;refine Qp (d:=[3,6,10]) (d2:=[3,6,8,10]) rfl rfl rfl .any rfl ?_ ?_ ?_
   ·simp only[go_sem]
   ·simp only[go_sem]
   refine Qc ?_;simp only[go_sem];refine Q2 g3 (zj hp) ?_;simp only[go_sem,zb hp];refine qH hT (g4 rfl).1 (zj hp) ?_;simp only[go_sem,zb hp];refine⟨m,_,by omega,?_,nd.addKid x,q3,av+1,true,b4,ex,hl,by rw[zM];simp;omega,by rw[qb];exact hnl,rfl,by rw[hfin];rw[qK,qI,Zo,Zn,qb,zM,xlA];rfl⟩;exact qv
theorem bS{T:List Tk}(hT:T.length≤100000){pid:Nat}{e ty:PM Nd}(he:DC T pid 24 e)(hc:DC T pid 36 (wX T ty)):DC T pid 22 (jE T e ty):=by
 intro p r p' h K st hp hk;unfold jE at h;rw[xoB] at h;obtain⟨b,hb,h⟩:=h;cases b with
 | true=>exact nv hT he hc hb h hp hk
 | false=>exact n8 hT he hc hb h hp hk
end Go.Proofs
