/- The lexer: escape. -/
import Derived.Test.YtkokccjfpebomaaGreatDoorN6
import Derived.Test.YtkokccjfpebomaaGreatDoorW15
set_option linter.all false
set_option maxHeartbeats 4000000
set_option maxRecDepth 8000
namespace Go.AL
def VT(s:Tx):UInt8×Int×Int:=match Jl s with | .ok (x,n)=>(x,n,0) | .error e=>(0,0,e)
end Go.AL
namespace Go.Proofs
open Go Go.AL Tryz
variable {K:SV→St→Prop}{st:St}
theorem vC{c v:UInt8}{r:Tx}(hg:XI prog 139 (st++[.map (X9 W0)]) (.mp st.length) (.sc (.int .u8 c.toNat))=some (.sc (.int .u8 v.toNat),true))
  (hk:K (.tuple [QK v,.sc (.int .i64 1),.sc (.int .i64 0)]) st):ACalls prog 134 [.sc (.string (ba (c::r)))] K st:=by
 refine zc [] func134 rfl results134 ntmps134 ?_;have c1:((c::r:Tx)==[])=false:=rfl;have hgt:(ba (c::r)).get! 0=c:=rfl;simp only[go_sem,c1];refine qE [] [0] (Ds st (.map (X9 W0))) [[[]],[[],[0]],[[],[0]],[[0]],[[0]],[[0]],[[0]],[[0]],[[0]]] mixed rfl rfl rfl rfl rfl ?_;refine ZH (d:=[0]) rfl rfl (.mp st.length) rfl ?_ ?_
 ·simp only[go_sem,zI,zJ];exact DY ⟨rfl,rfl⟩
 refine qm rfl (.sc (.string (ba (c::r)))) (by simp only[go_sem,zI,zJ]) (by simp only[go_sem,zI,zJ]) ?_;refine qm rfl (.sc (.int .u8 c.toNat)) (by simp only[go_sem,zI,zJ,zf,hgt,xlC];omega) (by simp only[go_sem,zI,zJ,zf,hgt,xlC];omega) ?_;refine Zr rfl (.tuple [(.sc (.int .u8 v.toNat)),.sc (.bool true)]) (by simp only[go_sem,zI,zJ,hg,Option.isSome_some]) ?_;refine Zr rfl (.tuple [(.sc (.int .u8 v.toNat)),.sc (.bool true)]) (by simp only[go_sem,zI,zJ]) ?_;refine Zr rfl (.sc (.int .u8 v.toNat)) (by simp only[go_sem,zI,zJ]) ?_;refine Zr rfl (.sc (.bool true)) (by simp only[go_sem,zI,zJ]) ?_;refine Zr rfl (.sc (.int .u8 v.toNat)) (by simp only[go_sem,zI,zJ]) ?_;refine Zr rfl (.sc (.bool true)) (by simp only[go_sem,zI,zJ]) ?_;refine Qc ?_;simp only[go_sem,zI,zJ];exact zB (qt _ _ _ _) hk
theorem rK{c:UInt8}{r:Tx}(hx:¬ c=120)(hg:XI prog 139 (st++[.map (X9 W0)]) (.mp st.length) (.sc (.int .u8 c.toNat))=some (.sc (.int .u8 0),false))
  (hk:K (.tuple [QK 0,.sc (.int .i64 0),.sc (.int .i64 10)]) st):ACalls prog 134 [.sc (.string (ba (c::r)))] K st:=by
 refine zc [] func134 rfl results134 ntmps134 ?_;have c1:((c::r:Tx)==[])=false:=rfl;have hgt:(ba (c::r)).get! 0=c:=rfl;have e1:=EN c 120 120 rfl;have f1:(c != 120)=true:=by simp[hx]
 simp only[go_sem,c1];refine qE [] [0] (Ds st (.map (X9 W0))) [[[]],[[],[0]],[[],[0]],[[0]],[[0]],[[0]],[[0]],[[0]],[[0]]] mixed rfl rfl rfl rfl rfl ?_;refine ZH (d:=[0]) rfl rfl (.mp st.length) rfl ?_ ?_
 ·simp only[go_sem,zI,zJ];exact DY ⟨rfl,rfl⟩
 refine qm rfl (.sc (.string (ba (c::r)))) (by simp only[go_sem,zI,zJ]) (by simp only[go_sem,zI,zJ]) ?_;refine qm rfl (.sc (.int .u8 c.toNat)) (by simp only[go_sem,zI,zJ,zf,hgt,xlC];omega) (by simp only[go_sem,zI,zJ,zf,hgt,xlC];omega) ?_;refine Zr rfl (.tuple [(.sc (.int .u8 0)),.sc (.bool false)]) (by simp only[go_sem,zI,zJ,hg,Option.isSome_some]) ?_;refine Zr rfl (.tuple [(.sc (.int .u8 0)),.sc (.bool false)]) (by simp only[go_sem,zI,zJ]) ?_;refine Zr rfl (.sc (.int .u8 0)) (by simp only[go_sem,zI,zJ]) ?_;refine Zr rfl (.sc (.bool false)) (by simp only[go_sem,zI,zJ]) ?_;refine Zr rfl (.sc (.int .u8 0)) (by simp only[go_sem,zI,zJ]) ?_;refine Zr rfl (.sc (.bool false)) (by simp only[go_sem,zI,zJ]) ?_;refine Qc ?_;simp only[go_sem,zI,zJ,zf,hgt,e1,f1,xlC];exact⟨by omega,zB (qt _ _ _ _) hk⟩
theorem Tryz.i5:W3 prog 5=some .u8:=by kernel_rfl
theorem Tryz.i3:W3 prog 3=some .i64:=by kernel_rfl
theorem Tryz.z5:WH prog 5=some (.sc (.int .u8 0)):=by kernel_rfl
theorem m1:decide ((-1:Int)<0)=true:=rfl
def Oe(r:Tx)(j:Nat)(n:Nat):Prop:=(j=1∧n=0)∨(j=2∧∃ a r2 x,r=a::r2∧YK a=some x∧n=x)∨(j=3∧∃ a b r2 x y,r=a::b::r2∧YK a=some x∧YK b=some y∧n=16*x+y)
theorem sf{r:Tx}(hs:r.length≤1000000)(hg:XI prog 139 (st++[.map (X9 W0)]) (.mp st.length) (.sc (.int .u8 (120:UInt8).toNat))=some (.sc (.int .u8 0),false))
  (hk:K (.tuple [QK (VT (120::r)).1,.sc (.int .i64 (VT (120::r)).2.1),.sc (.int .i64 (VT (120::r)).2.2)]) st):ACalls prog 134 [.sc (.string (ba (120::r)))] K st:=by
 refine zc [] func134 rfl results134 ntmps134 ?_;have c1:((120::r:Tx)==[])=false:=rfl;have hgt:(ba (120::r)).get! 0=120:=rfl;have f1:(((120:UInt8).toNat:Int) != 120)=false:=by decide
 simp only[go_sem,c1];refine qE [] [0] (Ds st (.map (X9 W0))) [[[]],[[],[0]],[[],[0]],[[0]],[[0]],[[0]],[[0]],[[0]],[[0]]] mixed rfl rfl rfl rfl rfl ?_;refine ZH (d:=[0]) rfl rfl (.mp st.length) rfl ?_ ?_
 ·simp only[go_sem,zI,zJ];exact DY ⟨rfl,rfl⟩
 refine qm rfl (.sc (.string (ba (120::r)))) (by simp only[go_sem,zI,zJ]) (by simp only[go_sem,zI,zJ]) ?_;refine qm rfl (.sc (.int .u8 (120:UInt8).toNat)) (by simp only[go_sem,zI,zJ,zf,hgt,xlC];omega) (by simp only[go_sem,zI,zJ,zf,hgt,xlC];omega) ?_;refine Zr rfl (.tuple [(.sc (.int .u8 0)),.sc (.bool false)]) (by simp only[go_sem,zI,zJ,hg,Option.isSome_some]) ?_;refine Zr rfl (.tuple [(.sc (.int .u8 0)),.sc (.bool false)]) (by simp only[go_sem,zI,zJ]) ?_;refine Zr rfl (.sc (.int .u8 0)) (by simp only[go_sem,zI,zJ]) ?_;refine Zr rfl (.sc (.bool false)) (by simp only[go_sem,zI,zJ]) ?_;refine Zr rfl (.sc (.int .u8 0)) (by simp only[go_sem,zI,zJ]) ?_;refine Zr rfl (.sc (.bool false)) (by simp only[go_sem,zI,zJ]) ?_;refine Qc ?_;simp only[go_sem,zI,zJ,zf,hgt,f1,xlC];refine⟨by omega,?_⟩;refine Fi ?_;simp only[go_sem];refine⟨rfl,by rfl,by decide,?_⟩;refine zt [] (fun m env s=>∃ (j n:Nat),m+j=3∧Oe r j n∧env=(.sc (.string (ba (120::r))) :: .any :: .any::XQ (.ptr (st.length+1) 0 :: .sc (.int .i64 n) :: .sc (.int .i64 j) :: .any::XQ (XD [])))∧s=st++[.map (X9 W0),.cells (hexL.map QK)]) (n:=2) ?_ ⟨1,0,rfl,.inl ⟨rfl,rfl⟩,rfl,rfl⟩ ?_
 ·exact qv
 rintro m env s ⟨j,n,hj,hx,rfl,rfl⟩;by_cases h3:j≤2
 ·have c2:decide ((j:Int)≤2)=true:=by simp;omega
  by_cases hlen:r.length+1≤j
  ·have c3:decide (((r.length+1:Nat):Int)≤(j:Int))=true:=by simp;omega
   have hE:VT (120::r)=(0,0,11):=by
    rcases hx with⟨rfl,rfl⟩ | ⟨rfl,a,r2,x,rfl,hx,rfl⟩ | ⟨rfl,_⟩
    ·have:r=[]:=List.length_eq_zero_iff.1 (by omega);subst this;rfl
    ·have:r2=[]:=List.length_eq_zero_iff.1 (by simp only[xlC] at hlen;omega);subst this;simp[VT,Jl,hx]
    ·omega
   rw[hE] at hk;simp only[go_sem,zf,xlC,ge_iff_le,c2,c3];exact zB (qt _ _ _ _) hk
  ·have c3:decide (((r.length+1:Nat):Int)≤(j:Int))=false:=by simp;omega
   have hlt:j<(120::r).length:=by simp;omega
   have hgj:=ZJ hlt;simp only[go_sem,zf,xlC,ge_iff_le,c2,c3];refine zy [] mixed rfl ?_;simp only[go_sem,zf,xlC,hgj];refine⟨by omega,?_⟩;rw[zp];cases hq:YK (120::r)[j] with
   | none =>
    have hE:VT (120::r)=(0,0,10):=by
     rcases hx with⟨rfl,rfl⟩ | ⟨rfl,a,r2,x,rfl,hx,rfl⟩ | ⟨rfl,_⟩
     ·cases r with
      | nil=>simp at hlt
      | cons a r2 =>
       have hq':YK a=none:=hq;simp[VT,Jl,hq']
     ·cases r2 with
      | nil=>simp at hlt
      | cons b r3 =>
       have hq':YK b=none:=hq;simp[VT,Jl,hx,hq']
     ·omega
    rw[hE] at hk;refine⟨.sc (.int .i64 (-1)),?_,?_⟩
    ·simp only[go_sem];refine wB (l:=hexL) (by decide) (by simp) ?_;unfold YK at hq;rw[hq];exact⟨⟨[],by simp⟩,.sc _,.inl rfl⟩
    simp only[go_sem,m1];exact zB (qt _ _ _ _) hk
   | some k =>
    have hk16:k<16:=by
     unfold YK at hq;have:=List.findIdx?_eq_some_iff_findIdx_eq.1 hq;simpa[hexL] using this.1
    have hn16:n<16:=by
     rcases hx with⟨rfl,rfl⟩ | ⟨rfl,a,r2,x,rfl,hx,rfl⟩ | ⟨rfl,_⟩
     ·omega
     ·unfold YK at hx;have:=List.findIdx?_eq_some_iff_findIdx_eq.1 hx;simpa[hexL] using this.1
     ·omega
    have m2:decide ((k:Int)<0)=false:=by simp
    have w1:IntKind.i64.wrap (16*(n:Int))=((16*n:Nat):Int):=by rw[IntWalk.i64_in _ (by omega)];omega
    have w2:IntKind.i64.wrap (((16*n:Nat):Int)+(k:Int))=((16*n+k:Nat):Int):=by rw[IntWalk.i64_in _ (by omega)];omega
    have w3:=KL j;refine⟨.sc (.int .i64 k),?_,?_⟩
    ·simp only[go_sem];refine wB (l:=hexL) (by decide) (by simp) ?_;unfold YK at hq;rw[hq];exact⟨⟨[],by simp⟩,.sc _,.inl rfl⟩
    simp only[go_sem,m2,w1,w2,w3];refine⟨m-1,_,by omega,?_,j+1,16*n+k,by omega,?_,rfl⟩
    ·exact qv
    rcases hx with⟨rfl,rfl⟩ | ⟨rfl,a,r2,x,rfl,hx,rfl⟩ | ⟨rfl,_⟩
    ·cases r with
     | nil=>simp at hlt
     | cons a r2=>exact .inr (.inl ⟨rfl,a,r2,k,rfl,hq,by omega⟩)
    ·cases r2 with
     | nil=>simp at hlt
     | cons b r3=>exact .inr (.inr ⟨rfl,a,b,r3,_,k,rfl,hx,hq,rfl⟩)
    ·omega
 ·have c2:decide ((j:Int)≤2)=false:=by simp;omega
  have hE:VT (120::r)=(UInt8.ofNat n,3,0):=by
   rcases hx with⟨rfl,rfl⟩ | ⟨rfl,a,r2,x,rfl,hx,rfl⟩ | ⟨rfl,a,b,r2,x,y,rfl,hx,hy,rfl⟩
   ·omega
   ·omega
   ·simp[VT,Jl,hx,hy]
  rw[hE] at hk;have hw8:IntKind.u8.wrap (n:Int)=((UInt8.ofNat n).toNat:Int):=by
   simp[IntKind.wrap,show IntKind.u8.signed=false from rfl,show IntKind.u8.bits=8 from rfl]
  simp only[go_sem,c2,Tryz.i5,Tryz.i3,Option.isSome_some,Gw,XU,hw8];rw[XU (k' :=.u8) _ _ Tryz.i5,hw8];exact zB (qt _ _ _ _) hk
theorem lX(hk:K (.tuple [QK 0,.sc (.int .i64 0),.sc (.int .i64 11)]) st):ACalls prog 134 [.sc (.string (ba []))] K st:=by
 refine zc [] func134 rfl results134 ntmps134 ?_;have c1:(([]:Tx)==[])=true:=rfl;simp only[go_sem,c1];exact zD (qt _ _ _ _) hk
theorem dh{s:Tx}(hs:s.length≤1000000)(hk:K (.tuple [QK (VT s).1,.sc (.int .i64 (VT s).2.1),.sc (.int .i64 (VT s).2.2)]) st):ACalls prog 134 [.sc (.string (ba s))] K st:=by
 cases s with
 | nil=>exact lX hk
 | cons c r =>
  have hg:=xT (st:=st++[.map (X9 W0)]) (id:=st.length) (by simp[QM]) Tryz.z5 c;by_cases h1:c=110
  ·subst h1;exact vC hg hk
  by_cases h2:c=34
  ·subst h2;exact vC hg hk
  by_cases h3:c=92
  ·subst h3;exact vC hg hk
  rw[if_neg h1,if_neg h2,if_neg h3] at hg;by_cases h4:c=120
  ·subst h4;exact sf (by simpa using Nat.le_of_succ_le hs) hg hk
  ·refine rK h4 hg ?_;have hE:VT (c::r)=(0,0,10):=by simp[VT,Jl,h1,h2,h3,h4]
   rw[hE] at hk;exact hk
end Go.Proofs
namespace Go.AL
def Yx(s:Tx):Tx×Int×Int:=match VN s with | .ok (x,n)=>(x,n,0) | .error e=>([],0,e)
def yK(x:Except Int (Tx×Nat)):Tx×Int×Int:=match x with | .ok (x,n)=>(x,n,0) | .error e=>([],0,e)
theorem dP{r:Tx}{x:UInt8}{m:Nat}(h:Jl r = .ok (x,m)):1≤m∧m≤r.length:=by
 unfold Jl at h;split at h
 ·cases h
 ·split at h
  ·cases h;simp
  split at h
  ·cases h;simp
  split at h
  ·cases h;simp
  split at h
  ·cases h
  split at h
  ·cases h
  split at h
  ·cases h
  split at h
  ·cases h
  split at h
  ·cases h
  ·cases h;simp
theorem yb{r:Tx}{e:Int}(h:Jl r = .error e):e=10∨e=11:=by
 unfold Jl at h;repeat' (split at h)
 all_goals (cases h;try (first | exact .inl rfl | exact .inr rfl))
theorem mV(b:Tx):XL (b.map fun c=>SV.sc (.int .u8 c.toNat))=ba b:=by
 have h:∀ (b:Tx) (r:ByteArray),(b.map fun c=>SV.sc (.int .u8 c.toNat)).foldl (fun r x=>r.push (UInt8.ofNat (Kv x).toNat)) r=r++ba b:=by
  intro b;induction b with
  | nil=>intro r;simp only[List.map_nil,List.foldl_nil];apply ByteArray.ext;simp[ba]
  | cons c b ih =>
   intro r;rw[List.map_cons,List.foldl_cons,ih];apply ByteArray.ext
   simp[ba,Kv]
 unfold XL;rw[List.foldl_map,h];apply ByteArray.ext;simp[ba]
theorem xM(b:Tx):(b.map fun c=>SV.sc (.int .u8 c.toNat)).all Wy=true:=by
 rw[List.all_eq_true];intro x hx;obtain⟨c,_,rfl⟩:=List.mem_map.1 hx;simp[Wy]
end Go.AL
namespace Go.Proofs
open Go Go.AL Tryz
theorem BS{s s':Tx}(hs:s.length≤1000000)(he:s'=s){x:UInt8}{n e:Int}(h:VT s=(x,n,e)){K:SV→St→Prop}{st:St}(hk:K (.tuple [.sc (.int .u8 x.toNat),.sc (.int .i64 n),.sc (.int .i64 e)]) st):ACalls prog 134 [.sc (.string (ba s'))] K st:=by
 subst he;refine dh hs ?_;rw[h];exact hk
theorem WR(b:Tx){m:AL.Mode}:Yc prog 77 9 (.slice m 1 (b.map QK)):=⟨by kernel_rfl,by kernel_rfl,xM b⟩
theorem VD(b:Tx){m:AL.Mode}:Y5 prog 9 (.slice m 1 (b.map QK)) = .sc (.string (ba b)):=by
 show SV.sc (.string (XL (b.map QK)))=_;rw[show b.map QK=b.map (fun c=>SV.sc (.int .u8 c.toNat)) from rfl,mV]
theorem VW{n:Nat}(h:n≤1000000):AppOk prog 77 77 1 n:=J4 Tryz.aelem77 Tryz.aelem77 Tryz.asize5 Tryz.azero5 rfl Tryz.abytes5 (by omega) h
theorem unq_step{m:Nat}{c:UInt8}{r b:Tx}{k:Nat}:XR (m+1) (c::r) b k=if c=10 then .error 11 else if c=34 then (if 60<b.length then .error 12 else .ok (b,k+1))
  else if c=92 then (match Jl r with
   | .error e =>.error e
   | .ok (x,m')=>XR m (r.drop m') (b++[x]) (k+1+m'))
  else if YB c then XR m r (b++[c]) (k+1) else .error 10:=rfl
theorem sY:((0:Int) != 0)=false:=rfl
theorem pe{s:Tx}(hs:s.length≤100000){K:SV→St→Prop}{st:St}(hk:K (.tuple [.sc (.string (ba (Yx s).1)),.sc (.int .i64 (Yx s).2.1),.sc (.int .i64 (Yx s).2.2)]) st):ACalls prog 116 [.sc (.string (ba s))] K st:=by
 refine zc [] func116 rfl results116 ntmps116 ?_;cases s with
 | nil =>
  have c1:(([]:Tx)==[])=true:=rfl;simp only[go_sem,c1];exact zD (qt _ _ _ _) hk
 | cons q r =>
 have hs':r.length+1≤100000:=hs;have c1:((q::r:Tx)==[])=false:=rfl;have hgt:(ba (q::r)).get! 0=q:=rfl;have e1:=EN q 34 34 rfl;by_cases hq:q=34
 rotate_left
 ·have f1:(q != 34)=true:=by simp[hq]
  have hE:Yx (q::r)=([],0,14):=by simp[Yx,VN,hq]
  rw[hE] at hk;simp only[go_sem,c1,hgt,e1,f1,zf,xlC];exact⟨by omega,zD (qt _ _ _ _) hk⟩
 have f1:(q != 34)=false:=by simp[hq]
 have hE:Yx (q::r)=yK (XR (r.length+1) r [] 1):=by simp[Yx,yK,VN,hq]
 rw[hE] at hk;have hz:(ba (q::r)).size=r.length+1:=by rw[zf];rfl
 have hcut:∀ k:Nat,(q::r).drop (k+2)=r.drop (k+1):=fun k=>rfl;simp only[go_sem,c1,hgt,e1,f1,zf,xlC];refine⟨by omega,?_⟩;refine Dj 5 1 0 rfl ?_;simp only[go_sem];refine zt [] (fun m env s'=>∃ (k:Nat) (b:Tx) (ver:Nat),XR (r.length+1) r [] 1=XR m (r.drop k) b (k+1)∧r.length+1≤m+k∧k≤r.length∧b.length≤k∧env=(.sc (.string (ba (q::r)))::XQ (.slice (.own st.length ver) 1 (b.map QK) :: .sc (.int .i64 ((k+1:Nat):Int))::JW (QX [])))∧s'=st++[.tok ver]) (n:=r.length+1) ?_ ⟨0,[],0,rfl,by omega,by omega,by simp,rfl,rfl⟩ ?_
 ·exact qv
 rintro m env s' ⟨k,b,ver,hu,hm,hkl,hbl,rfl,rfl⟩;cases m with
 | zero=>omega
 | succ m =>
 by_cases hlt:k<r.length
 ·have c2:decide (((r.length+1:Nat):Int)≤((k+1:Nat):Int))=false:=by simp;omega
  have hgk:(ba (q::r)).get! (k+1)=r[k]:=ZJ (s:=q::r) (i:=k+1) (by simp;omega);rw[XT hlt,unq_step] at hu;generalize hc:r[k]=c at *;have g1:=Zw c 10 10 rfl;have g2:=Zw c 34 34 rfl;have g3:=Zw c 92 92 rfl;by_cases h10:c=10
  ·have d1:(c==10)=true:=by simp[h10]
   rw[hu,if_pos h10] at hk;simp only[go_sem,zf,xlC,ge_iff_le,c2,hgk,g1,d1];exact⟨by omega,zB (qt _ _ _ _) hk⟩
  have d1:(c==10)=false:=by simp[h10]
  rw[if_neg h10] at hu;by_cases h34:c=34
  ·have d2:(c==34)=true:=by simp[h34]
   rw[if_pos h34] at hu;by_cases h60:60<b.length
   ·have c3:decide ((60:Int)<(b.length:Int))=true:=by simp;omega
    rw[hu,if_pos h60] at hk;simp only[go_sem,zf,xlC,ge_iff_le,c2,hgk,g1,d1,g2,d2,gt_iff_lt,c3];exact⟨by omega,by omega,zB (qt _ _ _ _) hk⟩
   ·have c3:decide ((60:Int)<(b.length:Int))=false:=by simp;omega
    have hw:IntKind.i64.wrap (((k+1:Nat):Int)+1)=((k+2:Nat):Int):=by rw[IntWalk.i64_in _ (by omega)];rfl
    rw[hu,if_neg h60] at hk;simp only[go_sem,zf,xlC,ge_iff_le,c2,hgk,g1,d1,g2,d2,gt_iff_lt,c3,hw];refine⟨by omega,by omega,WR b,?_⟩;rw[VD];exact zB (qt _ _ _ _) hk
  have d2:(c==34)=false:=by simp[h34]
  rw[if_neg h34] at hu;by_cases h92:c=92
  ·have d3:(c==92)=true:=by simp[h92]
   rw[if_pos h92] at hu;have hw:IntKind.i64.wrap (((k+1:Nat):Int)+1)=((k+2:Nat):Int):=by rw[IntWalk.i64_in _ (by omega)];rfl
   have hdr:((r.drop (k+1)).take (r.length+1-(k+2)))=r.drop (k+1):=by
    exact List.take_of_length_le (by simp only[List.length_drop];omega)
   cases hx:Jl (r.drop (k+1)) with
   | error e =>
    rw[hx] at hu;rw[hu] at hk;have d4:(e != 0)=true:=by rcases yb hx with rfl | rfl <;> rfl
    have hR:VT (r.drop (k+1))=(0,0,e):=by unfold VT;rw[hx]
    simp only[go_sem,zf,xlC,ge_iff_le,c2,hgk,g1,d1,g2,d2,g3,d3,hw,qD,hcut];refine⟨by omega,by omega,by omega,by omega,?_⟩;try (unfold zd;simp only[qc])
    refine BS (by simp;omega) hdr hR ?_;simp only[go_sem,d4];exact zB (qt _ _ _ _) hk
   | ok y =>
    obtain⟨x,m'⟩:=y;rw[hx] at hu;obtain⟨hm1,hm2⟩:=dP hx;simp only[List.length_drop] at hm2;have hR:VT (r.drop (k+1))=(x,(m':Int),0):=by unfold VT;rw[hx]
    have w1:IntKind.i64.wrap (1+(m':Int))=((1+m':Nat):Int):=by rw[IntWalk.i64_in _ (by omega)];omega
    have w2:IntKind.i64.wrap (((k+1:Nat):Int)+((1+m':Nat):Int))=((k+1+m'+1:Nat):Int):=by rw[IntWalk.i64_in _ (by omega)];omega
    simp only[go_sem,zf,xlC,ge_iff_le,c2,hgk,g1,d1,g2,d2,g3,d3,hw,qD,hcut];refine⟨by omega,by omega,by omega,by omega,?_⟩;try (unfold zd;simp only[qc])
    refine BS (by simp;omega) hdr hR ?_;simp only[go_sem,sY,w1,w2];refine⟨VW (by omega),m,_,by omega,?_,k+(1+m'),b++[x],ver+1,?_,by omega,by omega,by simp only[xlA,xlC,xlN];omega,by rw[xmA,show [x].map QK=[.sc (.int .u8 x.toNat)] from rfl],rfl⟩
    ·exact qv
    ·rw[hu];show XR m ((r.drop (k+1)).drop m') (b++[x]) (k+1+1+m')=_;rw[List.drop_drop,show k+1+m'=k+(1+m') by omega,show k+1+1+m'=k+(1+m')+1 by omega]
  have d3:(c==92)=false:=by simp[h92]
  rw[if_neg h92] at hu;cases hp:YB c with
  | false =>
   rw[hp,if_neg (by decide)] at hu;rw[hu] at hk;simp only[go_sem,zf,xlC,ge_iff_le,c2,hgk,g1,d1,g2,d2,g3,d3];refine⟨by omega,by omega,by omega,by omega,?_⟩;try (unfold zd;simp only[qc])
   refine Wj ?_;simp only[go_sem,hp];exact zB (qt _ _ _ _) hk
  | true =>
   rw[hp,if_pos rfl] at hu;have hw:IntKind.i64.wrap (((k+1:Nat):Int)+1)=((k+2:Nat):Int):=by rw[IntWalk.i64_in _ (by omega)];rfl
   simp only[go_sem,zf,xlC,ge_iff_le,c2,hgk,g1,d1,g2,d2,g3,d3];refine⟨by omega,by omega,by omega,by omega,?_⟩;try (unfold zd;simp only[qc])
   refine Wj ?_;simp only[go_sem,hp,zf,xlC,hgk,hw];refine⟨by omega,VW (by omega),m,_,by omega,?_,k+1,b++[c],ver+1,hu,by omega,by omega,by simp only[xlA,xlC,xlN];omega,by rw[xmA,show [c].map QK=[.sc (.int .u8 c.toNat)] from rfl],rfl⟩;exact qv
 ·have c2:decide (((r.length+1:Nat):Int)≤((k+1:Nat):Int))=true:=by simp;omega
  rw[hu,List.drop_of_length_le (by omega)] at hk;simp only[go_sem,zf,xlC,ge_iff_le,c2];exact zB (qt _ _ _ _) hk
end Go.Proofs
namespace Go.AL
theorem DM:∀ (m:Nat) (r b:Tx) (k:Nat) (x:Tx) (n:Nat),XR m r b k = .ok (x,n)→n≤k+r.length∧k+1≤n
 | 0,r,b,k,x,n,h=>by simp[XR] at h
 | m+1,[],b,k,x,n,h=>by simp[XR] at h
 | m+1,c::r,b,k,x,n,h=>by
  unfold XR at h;split at h
  ·cases h
  split at h
  ·split at h
   ·cases h
   ·cases h;simp
  split at h
  ·split at h
   ·cases h
   ·rename_i y z he;have:=dP he;have ih:=DM m _ _ _ _ _ h;simp only[List.length_drop,xlC] at ih ⊢;omega
  split at h
  ·have ih:=DM m _ _ _ _ _ h;simp only[xlC] at ih ⊢;omega
  ·cases h
theorem L'{s x:Tx}{n:Nat}(h:VN s = .ok (x,n)):n≤s.length∧2≤n:=by
 unfold VN at h;split at h
 ·cases h
 ·split at h
  ·have:=DM _ _ _ _ _ _ h;simp only[xlC];omega
  ·cases h
theorem jt(s:Tx):0≤(Yx s).2.1∧(Yx s).2.1≤s.length:=by
 unfold Yx;cases h:VN s with
 | error e=>simp
 | ok y=>have:=L' h;simp;omega
end Go.AL
namespace Go.Proofs
open Go Go.AL Tryz
theorem lU{s:Tx}(hs:s.length≤100000){rid tid a:Nat}(hne:rid≠tid)(ha:a<s.length){t:Tk}{K:SV→St→Prop}{st:St}(hr:EB s rid a st)(ht:EZ tid t st){w:Tx}(hw:s.drop a=w){x:Tx}{n:Nat}{e:Int}(hu:Yx w=(x,(n:Int),e))
  (hk:K (.sc (.int .i64 e)) (yI st rid tid s (a+n) ⟨2,x,t.num,t.pos⟩)):ACalls prog 96 [.ptr rid 0,.ptr tid 0] K st:=by
 refine zl [] func96 rfl results96 ntmps96 ?_;have y:=VH hr;have z:=zF ht;have hwl:w.length=s.length-a:=by subst hw;simp
 have hw2:w.take (s.length-a)=w:=List.take_of_length_le (by omega);have hul:=jt w;rw[hu] at hul;simp only at hul;have q:=fun X=>VH (kE hne (X:=X) hr);have q1:=fun X=>(q X).1;have q2:=fun X=>(q X).2.1;have q3:=fun X=>(q X).2.2;have hww:IntKind.i64.wrap ((a:Int)+(n:Int))=((a+n:Nat):Int):=by rw[IntWalk.i64_in _ (by omega)];rfl
 simp only[go_sem];refine zy [] mixed rfl ?_;simp only[go_sem,y.1,y.2.1,y.2.2,zf,qD,hw,hw2];refine⟨by omega,?_⟩;rw[zp];refine⟨.tuple [.sc (.string (ba x)),.sc (.int .i64 n),.sc (.int .i64 e)],?_,?_⟩
 ·simp only[go_sem];refine pe (by omega) ?_;rw[hu];exact⟨⟨[],by simp⟩,.tuple _ (by
   intro i hi;match i with
   | 0=>exact .sc _
   | 1=>exact .sc _
   | 2=>exact .sc _
   | i+3=>simp at hi;omega),.inl rfl⟩
 simp only[go_sem,y.1,y.2.1,y.2.2,z.1,z.2.1,z.2.2,q1,q2,q3,hww];exact yR (zh _) hk rfl
end Go.Proofs
