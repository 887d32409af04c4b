/- The document's parser: value. -/
import Derived.Test.YtkokccjfpebomaaGreatDoorW66
set_option maxHeartbeats 4000000
set_option linter.unusedSimpArgs false
set_option linter.unusedVariables false
set_option maxRecDepth 8000
namespace Go.AL
def Jo (nd:Nd) (x:SV):List SV:=[.sc (.int .i64 nd.kind),.sc (.string (ba nd.text)),.sc (.int .i64 nd.num),.sc (.int .i64 nd.pos),.slice .full 0 [],x]
def zW:List SV:=[.sc (.int .i64 0),.sc (.string ⟨#[]⟩),.sc (.int .i64 0),.sc (.int .i64 0),.slice .imm 0 [],.slice .imm 0 []]
def S2 (T:List Tk) (pid nid:Nat) (l:List SV) (p:PS) (st:St):St:=(st.set nid (.cells l)).set pid (.cells (qN T p))
variable {T:List Tk} {pid nid:Nat} {st:St} {p q:PS} {l m:List SV}
theorem Jl (hp:YR T pid p st):YR T pid q (S2 T pid nid l q st):=by
 have:=zp hp
 exact qA (by simpa using this)
theorem AX (hne:nid≠pid) (hn:HH st nid):(S2 T pid nid l p st)[nid]?=some (.cells l):=by
 unfold S2
 rw[zO hne]
 exact qA hn
theorem cZ:(S2 T pid nid l p st).set pid (.cells (qN T q))=S2 T pid nid l q st:=by unfold S2;rw[List.set_set]
theorem dY (hne:nid≠pid):(S2 T pid nid l p st).set nid (.cells m)=S2 T pid nid m p st:=by
 unfold S2
 rw[List.set_comm _ _ (Ne.symm hne),List.set_set]
theorem sC (hne:nid≠pid) (hn:st[nid]?=some (.cells l)):st.set pid (.cells (qN T p))=S2 T pid nid l p st:=by
 unfold S2
 obtain⟨h1,h2⟩:=List.getElem?_eq_some_iff.1 hn
 rw[←h2,List.set_getElem_self]
theorem qn:(S2 T pid nid l p st).length=st.length:=by unfold S2;simp
theorem ZO (n:Nat):Ids n (.slice .full 6 [.agg zW]):=ql (.inr rfl) fun x hx y hy=>by
 simp only[List.mem_singleton] at hx
 subst hx
 simp only[SV.cells,zW,List.mem_cons,List.not_mem_nil,or_false] at hy
 rcases hy with rfl | rfl | rfl | rfl | rfl | rfl
 ·exact .sc _
 ·exact .sc _
 ·exact .sc _
 ·exact .sc _
 ·exact ql (.inl rfl) (fun x hx=>by cases hx)
 ·exact ql (.inl rfl) (fun x hx=>by cases hx)
end Go.AL
namespace Go.Proofs
open Go Go.AL Tryz
theorem jk (T:List Tk) (hT:T.length≤100000) {pid nid:Nat} (hne:nid≠pid) {e:PM Nd} (he:DC T pid 24 e) {nd:Nd} {p p':PS} {x:Tx} {rc:Bool} {v:Nd} (h:Vt T e p=some ((x,rc,v),p')) {K:SV→St→Prop} {st:St} (hp:YR T pid p st)
  (hn:st[nid]?=some (.cells (Jo nd (.slice .full 0 [])))) (hk:K (.sc (.bool rc)) (S2 T pid nid (Jo (.mk nd.kind x nd.num nd.pos [] []) (.arr st.length 1 1)) p' st++[.arr 1 6 (zD v)])):ACalls prog 37 [.ptr pid 0,.ptr nid 0] K st:=by
 refine Qt (M:=[1000043]) func37 rfl results37 ntmps37 ?_
 unfold Vt at h
 simp only[Option.bind_eq_some_iff,Option.map_eq_some_iff,Prod.exists,Prod.mk.injEq] at h
 obtain⟨b,p1,h1,x1,p2,h2,p3,h3,f,h4,p4,h5,v1,p5,h6,⟨rfl,rfl,rfl⟩,rfl⟩:=h
 obtain⟨t1,g1,g2,g3,g4,g5⟩:=Wj h1
 have hin:HH st nid:=zb hn
 have hst0:=fun q:PS=>sC (T:=T) (pid:=pid) (p:=q) hne hn
 have y0:=fun (l:List SV) (q:PS)=>zV (AX (T:=T) (pid:=pid) (st:=st) (p:=q) (l:=l) hne hin)
 have y1:=fun l q=>(y0 l q).1
 have y2:=fun l q=>(y0 l q).2.1
 have y3:=fun l q=>(y0 l q).2.2
 have hsn:=fun (l m:List SV) (q:PS)=>dY (T:=T) (pid:=pid) (st:=st) (p:=q) (l:=l) (m:=m) hne
 have hsp:=fun (l:List SV) (q q':PS)=>cZ (T:=T) (pid:=pid) (nid:=nid) (st:=st) (p:=q) (q:=q') (l:=l)
 have yp0:=fun (l:List SV) (q:PS)=>zV (Jl (nid:=nid) (l:=l) (q:=q) hp)
 have yp1:=fun l q=>(yp0 l q).1
 have yp2:=fun l q=>(yp0 l q).2.1
 have yp3:=fun l q=>(yp0 l q).2.2
 cases b with
 | false =>
  obtain rfl:=g5 rfl
  have hc:(if false=true∧¬ f=true∧p3.deep<40 then Za T 14 p3 else some p3)=some p4:=h5
  rw[if_neg (by simp)] at hc
  cases hc
  simp only[go_sem]
  refine Q2 g3 hp ?_
  simp only[go_sem]
  refine JF hT (by decide) h2 hp ?_
  simp only[hst0]
  simp only[go_sem,y1,y2,y3,hsn,Jo]
  refine Zd hT h3 (Jl hp) fun _=>?_
  simp only[hsp]
  simp only[go_sem,y1,y2,y3,hsn]
  refine Q2 h4 (Jl hp) ?_
  simp only[go_sem,y1,y2,y3,hsn,yp1,yp2,yp3,qN]
  refine qO [1000043] [5,8,10,13] [([],S2 T pid nid [.sc (.int .i64 nd.kind),.sc (.string (ba x1)),.sc (.int .i64 nd.num),.sc (.int .i64 nd.pos),.slice .full 0 [],.slice .full 0 []] p3 st),([5],S2 T pid nid [.sc (.int .i64 nd.kind),.sc (.string (ba x1)),.sc (.int .i64 nd.num),.sc (.int .i64 nd.pos),.slice .full 0 [],.slice .full 0 []] p5 st),([5,8],S2 T pid nid [.sc (.int .i64 nd.kind),.sc (.string (ba x1)),.sc (.int .i64 nd.num),.sc (.int .i64 nd.pos),.slice .full 0 [],.slice .full 0 []] p5 st++[.arr 1 6 zW]),
   ([5,8,10],S2 T pid nid [.sc (.int .i64 nd.kind),.sc (.string (ba x1)),.sc (.int .i64 nd.num),.sc (.int .i64 nd.pos),.slice .full 0 [],.slice .full 0 []] p5 st++[.arr 1 6 (zD v1)]),([5,8,13],S2 T pid nid [.sc (.int .i64 nd.kind),.sc (.string (ba x1)),.sc (.int .i64 nd.num),.sc (.int .i64 nd.pos),.slice .full 0 [],.arr st.length 1 1] p5 st++[.arr 1 6 zW]),([5,8,10,13],S2 T pid nid [.sc (.int .i64 nd.kind),.sc (.string (ba x1)),.sc (.int .i64 nd.num),.sc (.int .i64 nd.pos),.slice .full 0 [],.arr st.length 1 1] p5 st++[.arr 1 6 (zD v1)])]
   [[[],[5]],[[],[5]],[[],[5]],[[],[5]],[[]],[[]],[[],[5]],[[],[5]],[[5]],[[5,8],[5,8,13]],[[5,8],[5,8,13]],[[5,8],[5,8,10]],[[5,8],[5,8,10]],[[5,8],[5,8,10]]] mixed rfl rfl rfl rfl rfl ?_
  refine zZ rfl (.ptr nid 0) (by simp only[go_sem]) (by simp only[go_sem]) ?_
  refine zZ rfl (.ptr nid 0) (by simp only[go_sem,y1,y2,y3,hsn,qn]) (by simp only[go_sem,y1,y2,y3,hsn,qn]) ?_
  refine zZ rfl (.ptr nid 5) (by simp only[go_sem,y1,y2,y3,hsn,qn]) (by simp only[go_sem,y1,y2,y3,hsn,qn]) ?_
  refine zZ rfl (.slice .full 0 []) (by simp only[go_sem,y1,y2,y3,hsn,qn]) (by simp only[go_sem,y1,y2,y3,hsn,qn]) ?_
  refine Zt rfl (.ptr pid 0) (by simp only[go_sem]) ?_
  refine ZG (d:=[5]) rfl rfl (zJ v1) rfl ?_ ?_
  ·simp only[go_sem]
   exact he _ _ _ h6 _ _ (Jl hp) ⟨rfl,hsp _ _ _⟩
  refine zZ rfl (.sc (.int .i64 ((0:Nat):Int))) (by simp only[go_sem]) (by simp only[go_sem]) ?_
  refine zZ rfl (.slice .full 6 [.agg zW]) ?_ ?_ ?_
  ·simp only[go_sem]
   refine⟨_,?_,rfl⟩
   simp only[go_sem]
   exact⟨⟨[],by simp⟩,ZO _,.inl rfl⟩
  ·simp only[go_sem]
   refine⟨_,?_,rfl⟩
   simp only[go_sem]
   exact⟨⟨[],by simp⟩,ZO _,.inl rfl⟩
  refine ZG (d:=[5,8]) rfl rfl (.arr st.length 1 1) rfl ?_ ?_
  ·simp only[go_sem,y1,y2,y3,hsn,qn,zW]
   exact⟨Tryz.app6d (by omega),rfl⟩
  refine zZ rfl (.aptr st.length 1 0) ?_ ?_ ?_
  ·simp only[go_sem,y1,y2,y3,hsn,qn]
   decide
  ·simp only[go_sem,y1,y2,y3,hsn,qn]
   decide
  refine Qk (d:=[5,8,10]) (d2:=[5,8,10,13]) rfl rfl rfl .any rfl ?_ ?_ ?_
  ·simp only[go_sem,y1,y2,y3,hsn,qn,zd]
   exact⟨by decide,rfl⟩
  ·simp only[go_sem,y1,y2,y3,hsn,qn,zd]
   exact⟨by decide,rfl⟩
  refine zZ rfl (.ptr nid 0) (by simp only[go_sem,y1,y2,y3,hsn,qn]) (by simp only[go_sem,y1,y2,y3,hsn,qn]) ?_
  refine zZ rfl (.ptr nid 5) (by simp only[go_sem,y1,y2,y3,hsn,qn]) (by simp only[go_sem,y1,y2,y3,hsn,qn]) ?_
  refine Qk (d:=[5,8,13]) (d2:=[5,8,10,13]) rfl rfl rfl .any rfl ?_ ?_ ?_
  ·simp only[go_sem,y1,y2,y3,hsn,qn]
  ·simp only[go_sem,y1,y2,y3,hsn,qn]
  refine Qb ?_
  simp only[go_sem]
  exact hk
 | true =>
  have hs1:=(g4 rfl).1
  cases f with
  | true =>
   rw[if_neg (by simp)] at h5
   cases h5
   simp only[go_sem]
   refine Q2 g3 hp ?_
   simp only[go_sem]
   refine qS hT hs1 hp ?_
   simp only[hst0]
   simp only[go_sem]
   refine JF hT (by decide) h2 (Jl hp) ?_
   simp only[hsp]
   simp only[go_sem,y1,y2,y3,hsn,Jo]
   refine Zd hT h3 (Jl hp) fun _=>?_
   simp only[hsp]
   simp only[go_sem,y1,y2,y3,hsn]
   refine Q2 h4 (Jl hp) ?_
   simp only[go_sem,y1,y2,y3,hsn,yp1,yp2,yp3,qN]
   refine qO [1000043] [5,8,10,13] [([],S2 T pid nid [.sc (.int .i64 nd.kind),.sc (.string (ba x1)),.sc (.int .i64 nd.num),.sc (.int .i64 nd.pos),.slice .full 0 [],.slice .full 0 []] p3 st),([5],S2 T pid nid [.sc (.int .i64 nd.kind),.sc (.string (ba x1)),.sc (.int .i64 nd.num),.sc (.int .i64 nd.pos),.slice .full 0 [],.slice .full 0 []] p5 st),([5,8],S2 T pid nid [.sc (.int .i64 nd.kind),.sc (.string (ba x1)),.sc (.int .i64 nd.num),.sc (.int .i64 nd.pos),.slice .full 0 [],.slice .full 0 []] p5 st++[.arr 1 6 zW]),
    ([5,8,10],S2 T pid nid [.sc (.int .i64 nd.kind),.sc (.string (ba x1)),.sc (.int .i64 nd.num),.sc (.int .i64 nd.pos),.slice .full 0 [],.slice .full 0 []] p5 st++[.arr 1 6 (zD v1)]),([5,8,13],S2 T pid nid [.sc (.int .i64 nd.kind),.sc (.string (ba x1)),.sc (.int .i64 nd.num),.sc (.int .i64 nd.pos),.slice .full 0 [],.arr st.length 1 1] p5 st++[.arr 1 6 zW]),([5,8,10,13],S2 T pid nid [.sc (.int .i64 nd.kind),.sc (.string (ba x1)),.sc (.int .i64 nd.num),.sc (.int .i64 nd.pos),.slice .full 0 [],.arr st.length 1 1] p5 st++[.arr 1 6 (zD v1)])]
    [[[],[5]],[[],[5]],[[],[5]],[[],[5]],[[]],[[]],[[],[5]],[[],[5]],[[5]],[[5,8],[5,8,13]],[[5,8],[5,8,13]],[[5,8],[5,8,10]],[[5,8],[5,8,10]],[[5,8],[5,8,10]]] mixed rfl rfl rfl rfl rfl ?_
   refine zZ rfl (.ptr nid 0) (by simp only[go_sem]) (by simp only[go_sem]) ?_
   refine zZ rfl (.ptr nid 0) (by simp only[go_sem,y1,y2,y3,hsn,qn]) (by simp only[go_sem,y1,y2,y3,hsn,qn]) ?_
   refine zZ rfl (.ptr nid 5) (by simp only[go_sem,y1,y2,y3,hsn,qn]) (by simp only[go_sem,y1,y2,y3,hsn,qn]) ?_
   refine zZ rfl (.slice .full 0 []) (by simp only[go_sem,y1,y2,y3,hsn,qn]) (by simp only[go_sem,y1,y2,y3,hsn,qn]) ?_
   refine Zt rfl (.ptr pid 0) (by simp only[go_sem]) ?_
   refine ZG (d:=[5]) rfl rfl (zJ v1) rfl ?_ ?_
   ·simp only[go_sem]
    exact he _ _ _ h6 _ _ (Jl hp) ⟨rfl,hsp _ _ _⟩
   refine zZ rfl (.sc (.int .i64 ((0:Nat):Int))) (by simp only[go_sem]) (by simp only[go_sem]) ?_
   refine zZ rfl (.slice .full 6 [.agg zW]) ?_ ?_ ?_
   ·simp only[go_sem]
    refine⟨_,?_,rfl⟩
    simp only[go_sem]
    exact⟨⟨[],by simp⟩,ZO _,.inl rfl⟩
   ·simp only[go_sem]
    refine⟨_,?_,rfl⟩
    simp only[go_sem]
    exact⟨⟨[],by simp⟩,ZO _,.inl rfl⟩
   refine ZG (d:=[5,8]) rfl rfl (.arr st.length 1 1) rfl ?_ ?_
   ·simp only[go_sem,y1,y2,y3,hsn,qn,zW]
    exact⟨Tryz.app6d (by omega),rfl⟩
   refine zZ rfl (.aptr st.length 1 0) ?_ ?_ ?_
   ·simp only[go_sem,y1,y2,y3,hsn,qn]
    decide
   ·simp only[go_sem,y1,y2,y3,hsn,qn]
    decide
   refine Qk (d:=[5,8,10]) (d2:=[5,8,10,13]) rfl rfl rfl .any rfl ?_ ?_ ?_
   ·simp only[go_sem,y1,y2,y3,hsn,qn,zd]
    exact⟨by decide,rfl⟩
   ·simp only[go_sem,y1,y2,y3,hsn,qn,zd]
    exact⟨by decide,rfl⟩
   refine zZ rfl (.ptr nid 0) (by simp only[go_sem,y1,y2,y3,hsn,qn]) (by simp only[go_sem,y1,y2,y3,hsn,qn]) ?_
   refine zZ rfl (.ptr nid 5) (by simp only[go_sem,y1,y2,y3,hsn,qn]) (by simp only[go_sem,y1,y2,y3,hsn,qn]) ?_
   refine Qk (d:=[5,8,13]) (d2:=[5,8,10,13]) rfl rfl rfl .any rfl ?_ ?_ ?_
   ·simp only[go_sem,y1,y2,y3,hsn,qn]
   ·simp only[go_sem,y1,y2,y3,hsn,qn]
   refine Qb ?_
   simp only[go_sem]
   exact hk
  | false =>
   by_cases hd:p3.deep<40
   ·have c1:decide ((p3.deep:Int)<40)=true:=by simp;omega
    rw[if_pos ⟨rfl,by simp,hd⟩] at h5
    simp only[go_sem]
    refine Q2 g3 hp ?_
    simp only[go_sem]
    refine qS hT hs1 hp ?_
    simp only[hst0]
    simp only[go_sem]
    refine JF hT (by decide) h2 (Jl hp) ?_
    simp only[hsp]
    simp only[go_sem,y1,y2,y3,hsn,Jo]
    refine Zd hT h3 (Jl hp) fun _=>?_
    simp only[hsp]
    simp only[go_sem,y1,y2,y3,hsn]
    refine Q2 h4 (Jl hp) ?_
    simp only[go_sem,y1,y2,y3,hsn,yp1,yp2,yp3,qN,c1]
    refine Qg h5 (Jl hp) fun _=>?_
    simp only[hsp]
    simp only[go_sem]
    refine qO [1000043] [5,8,10,13] [([],S2 T pid nid [.sc (.int .i64 nd.kind),.sc (.string (ba x1)),.sc (.int .i64 nd.num),.sc (.int .i64 nd.pos),.slice .full 0 [],.slice .full 0 []] p4 st),([5],S2 T pid nid [.sc (.int .i64 nd.kind),.sc (.string (ba x1)),.sc (.int .i64 nd.num),.sc (.int .i64 nd.pos),.slice .full 0 [],.slice .full 0 []] p5 st),([5,8],S2 T pid nid [.sc (.int .i64 nd.kind),.sc (.string (ba x1)),.sc (.int .i64 nd.num),.sc (.int .i64 nd.pos),.slice .full 0 [],.slice .full 0 []] p5 st++[.arr 1 6 zW]),
     ([5,8,10],S2 T pid nid [.sc (.int .i64 nd.kind),.sc (.string (ba x1)),.sc (.int .i64 nd.num),.sc (.int .i64 nd.pos),.slice .full 0 [],.slice .full 0 []] p5 st++[.arr 1 6 (zD v1)]),([5,8,13],S2 T pid nid [.sc (.int .i64 nd.kind),.sc (.string (ba x1)),.sc (.int .i64 nd.num),.sc (.int .i64 nd.pos),.slice .full 0 [],.arr st.length 1 1] p5 st++[.arr 1 6 zW]),([5,8,10,13],S2 T pid nid [.sc (.int .i64 nd.kind),.sc (.string (ba x1)),.sc (.int .i64 nd.num),.sc (.int .i64 nd.pos),.slice .full 0 [],.arr st.length 1 1] p5 st++[.arr 1 6 (zD v1)])]
     [[[],[5]],[[],[5]],[[],[5]],[[],[5]],[[]],[[]],[[],[5]],[[],[5]],[[5]],[[5,8],[5,8,13]],[[5,8],[5,8,13]],[[5,8],[5,8,10]],[[5,8],[5,8,10]],[[5,8],[5,8,10]]] mixed rfl rfl rfl rfl rfl ?_
    refine zZ rfl (.ptr nid 0) (by simp only[go_sem]) (by simp only[go_sem]) ?_
    refine zZ rfl (.ptr nid 0) (by simp only[go_sem,y1,y2,y3,hsn,qn]) (by simp only[go_sem,y1,y2,y3,hsn,qn]) ?_
    refine zZ rfl (.ptr nid 5) (by simp only[go_sem,y1,y2,y3,hsn,qn]) (by simp only[go_sem,y1,y2,y3,hsn,qn]) ?_
    refine zZ rfl (.slice .full 0 []) (by simp only[go_sem,y1,y2,y3,hsn,qn]) (by simp only[go_sem,y1,y2,y3,hsn,qn]) ?_
    refine Zt rfl (.ptr pid 0) (by simp only[go_sem]) ?_
    refine ZG (d:=[5]) rfl rfl (zJ v1) rfl ?_ ?_
    ·simp only[go_sem]
     exact he _ _ _ h6 _ _ (Jl hp) ⟨rfl,hsp _ _ _⟩
    refine zZ rfl (.sc (.int .i64 ((0:Nat):Int))) (by simp only[go_sem]) (by simp only[go_sem]) ?_
    refine zZ rfl (.slice .full 6 [.agg zW]) ?_ ?_ ?_
    ·simp only[go_sem]
     refine⟨_,?_,rfl⟩
     simp only[go_sem]
     exact⟨⟨[],by simp⟩,ZO _,.inl rfl⟩
    ·simp only[go_sem]
     refine⟨_,?_,rfl⟩
     simp only[go_sem]
     exact⟨⟨[],by simp⟩,ZO _,.inl rfl⟩
    refine ZG (d:=[5,8]) rfl rfl (.arr st.length 1 1) rfl ?_ ?_
    ·simp only[go_sem,y1,y2,y3,hsn,qn,zW]
     exact⟨Tryz.app6d (by omega),rfl⟩
    refine zZ rfl (.aptr st.length 1 0) ?_ ?_ ?_
    ·simp only[go_sem,y1,y2,y3,hsn,qn]
     decide
    ·simp only[go_sem,y1,y2,y3,hsn,qn]
     decide
    refine Qk (d:=[5,8,10]) (d2:=[5,8,10,13]) rfl rfl rfl .any rfl ?_ ?_ ?_
    ·simp only[go_sem,y1,y2,y3,hsn,qn,zd]
     exact⟨by decide,rfl⟩
    ·simp only[go_sem,y1,y2,y3,hsn,qn,zd]
     exact⟨by decide,rfl⟩
    refine zZ rfl (.ptr nid 0) (by simp only[go_sem,y1,y2,y3,hsn,qn]) (by simp only[go_sem,y1,y2,y3,hsn,qn]) ?_
    refine zZ rfl (.ptr nid 5) (by simp only[go_sem,y1,y2,y3,hsn,qn]) (by simp only[go_sem,y1,y2,y3,hsn,qn]) ?_
    refine Qk (d:=[5,8,13]) (d2:=[5,8,10,13]) rfl rfl rfl .any rfl ?_ ?_ ?_
    ·simp only[go_sem,y1,y2,y3,hsn,qn]
    ·simp only[go_sem,y1,y2,y3,hsn,qn]
    refine Qb ?_
    simp only[go_sem]
    exact hk
   ·have c1:decide ((p3.deep:Int)<40)=false:=by simp;omega
    rw[if_neg (fun x=>hd x.2.2)] at h5
    cases h5
    simp only[go_sem]
    refine Q2 g3 hp ?_
    simp only[go_sem]
    refine qS hT hs1 hp ?_
    simp only[hst0]
    simp only[go_sem]
    refine JF hT (by decide) h2 (Jl hp) ?_
    simp only[hsp]
    simp only[go_sem,y1,y2,y3,hsn,Jo]
    refine Zd hT h3 (Jl hp) fun _=>?_
    simp only[hsp]
    simp only[go_sem,y1,y2,y3,hsn]
    refine Q2 h4 (Jl hp) ?_
    simp only[go_sem,y1,y2,y3,hsn,yp1,yp2,yp3,qN,c1]
    refine qO [1000043] [5,8,10,13] [([],S2 T pid nid [.sc (.int .i64 nd.kind),.sc (.string (ba x1)),.sc (.int .i64 nd.num),.sc (.int .i64 nd.pos),.slice .full 0 [],.slice .full 0 []] p3 st),([5],S2 T pid nid [.sc (.int .i64 nd.kind),.sc (.string (ba x1)),.sc (.int .i64 nd.num),.sc (.int .i64 nd.pos),.slice .full 0 [],.slice .full 0 []] p5 st),([5,8],S2 T pid nid [.sc (.int .i64 nd.kind),.sc (.string (ba x1)),.sc (.int .i64 nd.num),.sc (.int .i64 nd.pos),.slice .full 0 [],.slice .full 0 []] p5 st++[.arr 1 6 zW]),
     ([5,8,10],S2 T pid nid [.sc (.int .i64 nd.kind),.sc (.string (ba x1)),.sc (.int .i64 nd.num),.sc (.int .i64 nd.pos),.slice .full 0 [],.slice .full 0 []] p5 st++[.arr 1 6 (zD v1)]),([5,8,13],S2 T pid nid [.sc (.int .i64 nd.kind),.sc (.string (ba x1)),.sc (.int .i64 nd.num),.sc (.int .i64 nd.pos),.slice .full 0 [],.arr st.length 1 1] p5 st++[.arr 1 6 zW]),([5,8,10,13],S2 T pid nid [.sc (.int .i64 nd.kind),.sc (.string (ba x1)),.sc (.int .i64 nd.num),.sc (.int .i64 nd.pos),.slice .full 0 [],.arr st.length 1 1] p5 st++[.arr 1 6 (zD v1)])]
     [[[],[5]],[[],[5]],[[],[5]],[[],[5]],[[]],[[]],[[],[5]],[[],[5]],[[5]],[[5,8],[5,8,13]],[[5,8],[5,8,13]],[[5,8],[5,8,10]],[[5,8],[5,8,10]],[[5,8],[5,8,10]]] mixed rfl rfl rfl rfl rfl ?_
    refine zZ rfl (.ptr nid 0) (by simp only[go_sem]) (by simp only[go_sem]) ?_
    refine zZ rfl (.ptr nid 0) (by simp only[go_sem,y1,y2,y3,hsn,qn]) (by simp only[go_sem,y1,y2,y3,hsn,qn]) ?_
    refine zZ rfl (.ptr nid 5) (by simp only[go_sem,y1,y2,y3,hsn,qn]) (by simp only[go_sem,y1,y2,y3,hsn,qn]) ?_
    refine zZ rfl (.slice .full 0 []) (by simp only[go_sem,y1,y2,y3,hsn,qn]) (by simp only[go_sem,y1,y2,y3,hsn,qn]) ?_
    refine Zt rfl (.ptr pid 0) (by simp only[go_sem]) ?_
    refine ZG (d:=[5]) rfl rfl (zJ v1) rfl ?_ ?_
    ·simp only[go_sem]
     exact he _ _ _ h6 _ _ (Jl hp) ⟨rfl,hsp _ _ _⟩
    refine zZ rfl (.sc (.int .i64 ((0:Nat):Int))) (by simp only[go_sem]) (by simp only[go_sem]) ?_
    refine zZ rfl (.slice .full 6 [.agg zW]) ?_ ?_ ?_
    ·simp only[go_sem]
     refine⟨_,?_,rfl⟩
     simp only[go_sem]
     exact⟨⟨[],by simp⟩,ZO _,.inl rfl⟩
    ·simp only[go_sem]
     refine⟨_,?_,rfl⟩
     simp only[go_sem]
     exact⟨⟨[],by simp⟩,ZO _,.inl rfl⟩
    refine ZG (d:=[5,8]) rfl rfl (.arr st.length 1 1) rfl ?_ ?_
    ·simp only[go_sem,y1,y2,y3,hsn,qn,zW]
     exact⟨Tryz.app6d (by omega),rfl⟩
    refine zZ rfl (.aptr st.length 1 0) ?_ ?_ ?_
    ·simp only[go_sem,y1,y2,y3,hsn,qn]
     decide
    ·simp only[go_sem,y1,y2,y3,hsn,qn]
     decide
    refine Qk (d:=[5,8,10]) (d2:=[5,8,10,13]) rfl rfl rfl .any rfl ?_ ?_ ?_
    ·simp only[go_sem,y1,y2,y3,hsn,qn,zd]
     exact⟨by decide,rfl⟩
    ·simp only[go_sem,y1,y2,y3,hsn,qn,zd]
     exact⟨by decide,rfl⟩
    refine zZ rfl (.ptr nid 0) (by simp only[go_sem,y1,y2,y3,hsn,qn]) (by simp only[go_sem,y1,y2,y3,hsn,qn]) ?_
    refine zZ rfl (.ptr nid 5) (by simp only[go_sem,y1,y2,y3,hsn,qn]) (by simp only[go_sem,y1,y2,y3,hsn,qn]) ?_
    refine Qk (d:=[5,8,13]) (d2:=[5,8,10,13]) rfl rfl rfl .any rfl ?_ ?_ ?_
    ·simp only[go_sem,y1,y2,y3,hsn,qn]
    ·simp only[go_sem,y1,y2,y3,hsn,qn]
    refine Qb ?_
    simp only[go_sem]
    exact hk
end Go.Proofs
