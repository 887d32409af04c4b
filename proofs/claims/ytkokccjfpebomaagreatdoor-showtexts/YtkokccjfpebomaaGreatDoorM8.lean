/- The document's lexer: what bytes may be, keys, signs. -/
import Derived.Test.YtkokccjfpebomaaGreatDoorN9
set_option linter.all false
set_option maxHeartbeats 4000000
set_option maxRecDepth 8000
namespace Go.Proofs
open Go Go.AL Tryz
variable {K:SV→St→Prop}{st:St}
theorem ZR{c:UInt8}(hk:K (.sc (.bool (zV c))) st):ACalls prog 53 [.sc (.int .u8 c.toNat)] K st:=by
 refine zc [] func53 rfl results53 ntmps53 ?_;have e1:=Ua c 48 48 rfl;have e2:=K7 c 57 57 rfl;unfold zV at hk;cases h1:decide (48≤c) with
 | false=>rw[h1] at hk e1;simp only[go_sem,ge_iff_le,e1];exact zD (zh _ _) hk
 | true=>rw[h1] at hk e1;simp only[go_sem,ge_iff_le,e1,e2];exact zD (zh _ _) hk
theorem Z0{c:UInt8}(hk:K (.sc (.bool (qY c))) st):ACalls prog 55 [.sc (.int .u8 c.toNat)] K st:=by
 refine zc [] func55 rfl results55 ntmps55 ?_;have e1:=Ua c 97 97 rfl;have e2:=K7 c 122 122 rfl;unfold qY at hk;cases h1:decide (97≤c) with
 | false=>rw[h1] at hk e1;simp only[go_sem,ge_iff_le,e1];exact zD (zh _ _) hk
 | true=>rw[h1] at hk e1;simp only[go_sem,ge_iff_le,e1,e2];exact zD (zh _ _) hk
theorem Z1{c:UInt8}(hk:K (.sc (.bool (qL c))) st):ACalls prog 56 [.sc (.int .u8 c.toNat)] K st:=by
 refine zc [] func56 rfl results56 ntmps56 ?_;have e1:=Ua c 65 65 rfl;have e2:=K7 c 90 90 rfl;unfold qL at hk;cases h1:decide (65≤c) with
 | false=>rw[h1] at hk e1;simp only[go_sem,ge_iff_le,e1];exact zD (zh _ _) hk
 | true=>rw[h1] at hk e1;simp only[go_sem,ge_iff_le,e1,e2];exact zD (zh _ _) hk
theorem fX{c:UInt8}(hk:K (.sc (.bool (decide (c∈signsL)))) st):ACalls prog 58 [.sc (.int .u8 c.toNat)] K st:=by
 refine zc [] func58 rfl results58 ntmps58 ?_;have hsz:(ba signsL).size=14:=rfl;simp only[go_sem];refine zt [] (fun k env s=>∃ i:Nat,k+i=14∧c ∉ signsL.take i∧env=(.sc (.int .u8 c.toNat) :: .any :: .any :: .sc (.string (ba signsL)) :: .sc (.int .i64 i) :: .any :: .any :: .any::JW [])∧s=st) (n:=14) ?_ ⟨0,by omega,by simp,rfl,rfl⟩ ?_
 ·exact qv
 rintro k env s ⟨i,hi,hx,rfl,rfl⟩;have hl14:signsL.length=14:=rfl;by_cases hlt:i<14
 ·have c2:decide ((i:Int)<14)=true:=by simp;omega
  have c3:decide ((i:Int)<((14:Nat):Int))=true:=by simp;omega
  have w1:=KL i;have hlt':i<signsL.length:=by omega
  have g:=ZJ hlt';have e1:=Zw signsL[i] c (c.toNat:Int) rfl;by_cases he:signsL[i]=c
  ·have d1:(signsL[i]==c)=true:=by simp[he]
   rw[show decide (c∈signsL)=true by simp;rw[←he];exact List.getElem_mem hlt'] at hk;simp only[go_sem,hsz,c2,c3,g,e1,d1,w1];exact⟨by omega,zD (zh _ _) hk⟩
  ·have d1:(signsL[i]==c)=false:=by simp[he]
   simp only[go_sem,hsz,c2,c3,g,e1,d1,w1];refine⟨by omega,k-1,_,by omega,?_,i+1,by omega,?_,rfl⟩
   ·exact qv
   ·rw[List.take_succ_eq_append_getElem hlt',List.mem_append,List.mem_singleton];rintro (h | h)
    ·exact hx h
    ·exact he h.symm
 ·have c2:decide ((i:Int)<14)=false:=by simp;omega
  have c3:decide ((i:Int)<((14:Nat):Int))=false:=by simp;omega
  rw[List.take_of_length_le (by omega)] at hx;rw[show decide (c∈signsL)=false by simp[hx]] at hk;simp only[go_sem,hsz,c2,c3];exact zD (zh _ _) hk
theorem sv{w:Tx}(hk:K (.sc (.bool (decide (w∈keysL)))) st):ACalls prog 57 [.sc (.string (ba w))] K st:=by
 refine zc [] func57 rfl results57 ntmps57 ?_;simp only[go_sem];refine zt [] (fun k env s=>∃ i:Nat,k+i=23∧w ∉ keysL.take i∧env=(.sc (.string (ba w)) :: .any :: .any :: .slice .full 1 (keysL.map z8) :: .sc (.int .i64 i) :: .any::XQ (JW []))∧s=st) (n:=23) ?_ ⟨0,by omega,by simp,rfl,rfl⟩ ?_
 ·exact qv
 rintro k env s ⟨i,hi,hx,rfl,rfl⟩;have hl23:keysL.length=23:=rfl;by_cases hlt:i<23
 ·have c3:decide ((i:Int)<((keysL.length:Nat):Int))=true:=by simp;omega
  have w1:=KL i;have hlt':i<keysL.length:=by omega
  have g:(keysL.map z8).getD i .any = .sc (.string (ba keysL[i])):=by simp[xgE,hlt',z8]
  by_cases he:keysL[i]=w
  ·have d1:(keysL[i]==w)=true:=by simp[he]
   rw[show decide (w∈keysL)=true by simp only[decide_eq_true_eq];rw[←he];exact List.getElem_mem hlt'] at hk;simp only[go_sem,xlM,c3,g,d1,w1];exact⟨by omega,zD (zh _ _) hk⟩
  ·have d1:(keysL[i]==w)=false:=by simp[he]
   simp only[go_sem,xlM,c3,g,d1,w1];refine⟨by omega,k-1,_,by omega,?_,i+1,by omega,?_,rfl⟩
   ·exact qv
   ·rw[List.take_succ_eq_append_getElem hlt',List.mem_append,List.mem_singleton];rintro (h | h)
    ·exact hx h
    ·exact he h.symm
 ·have c3:decide ((i:Int)<((keysL.length:Nat):Int))=false:=by simp;omega
  rw[List.take_of_length_le (by omega)] at hx;rw[show decide (w∈keysL)=false by simp[hx]] at hk;simp only[go_sem,xlM,c3];exact zD (zh _ _) hk
end Go.Proofs
namespace Go.AL
def LX(c:UInt8):Int:=match YK c with | some k=>(k:Int) | none => -1
theorem tM(c:UInt8):LX c=if decide (48≤c)&&decide (c≤57) then (c.toNat:Int)-48 else if decide (97≤c)&&decide (c≤102) then (c.toNat:Int)-87 else -1:=by
 have h:∀ n:Fin 256,LX (UInt8.ofNat n.1)=if decide (48≤UInt8.ofNat n.1)&&decide (UInt8.ofNat n.1≤57) then ((UInt8.ofNat n.1).toNat:Int)-48 else if decide (97≤UInt8.ofNat n.1)&&decide (UInt8.ofNat n.1≤102) then ((UInt8.ofNat n.1).toNat:Int)-87 else -1:=by decide +kernel
 have:=h ⟨c.toNat,c.toNat_lt⟩;simpa using this
theorem xK{c:UInt8}(h:YK c=none):LX c = -1:=by unfold LX;rw[h]
theorem BV{c:UInt8}{k:Nat}(h:YK c=some k):LX c=k∧k<16:=by
 refine⟨by unfold LX;rw[h],?_⟩;unfold YK at h;have:=List.findIdx?_eq_some_iff_findIdx_eq.1 h;simpa[hexL] using this.1
end Go.AL
namespace Go.Proofs
open Go Go.AL Tryz
theorem NJ{n:Int}(h0:0≤n)(h1:n<256):IntKind.u8.wrap n=n:=by
 simp[IntKind.wrap,show IntKind.u8.signed=false from rfl,show IntKind.u8.bits=8 from rfl];omega
theorem lB{c:UInt8}{K:SV→St→Prop}{st:St}(hk:K (.sc (.int .i64 (LX c))) st):ACalls prog 84 [.sc (.int .u8 c.toNat)] K st:=by
 refine zc [] func84 rfl results84 ntmps84 ?_;have e1:=Ua c 48 48 rfl;have e2:=K7 c 57 57 rfl;have e3:=Ua c 97 97 rfl;have e4:=K7 c 102 102 rfl;have hlt:=c.toNat_lt;rw[tM] at hk;cases h1:decide (48≤c) with
 | false =>
  have h3:decide (97≤c)=false:=by
   simp only[decide_eq_false_iff_not,UInt8.le_iff_toNat_le] at h1 ⊢;have:(48:UInt8).toNat=48:=rfl;have:(97:UInt8).toNat=97:=rfl;omega
  rw[h1] at hk e1;rw[h3] at hk e3;simp only[Bool.false_and,Yd,if_false] at hk;simp only[go_sem,ge_iff_le,e1,e3];exact zD (zh _ _) hk
 | true =>
  rw[h1] at hk e1;cases h2:decide (c≤57) with
  | true =>
   rw[h2] at hk e2;simp only[Bool.and_self,if_true] at hk;simp only[decide_eq_true_eq,UInt8.le_iff_toNat_le] at h1 h2;have q1:(48:UInt8).toNat=48:=rfl;have q2:(57:UInt8).toNat=57:=rfl;have w:=NJ (n:=(c.toNat:Int)-48) (by omega) (by omega);have w2:IntKind.i64.wrap ((c.toNat:Int)-48)=(c.toNat:Int)-48:=IntWalk.i64_in _ (by omega);have cv:Y5 prog 3 (.sc (.int .u8 ((c.toNat:Int)-48))) = .sc (.int .i64 ((c.toNat:Int)-48)):=by rw[XU (k' :=.i64) _ _ Tryz.i3,w2]
   have co:Yc prog 5 3 (.sc (.int .u8 ((c.toNat:Int)-48)))=True:=eq_true ⟨by rw[Tryz.i5];rfl,.inl (by rw[Tryz.i3];rfl)⟩;simp only[go_sem,ge_iff_le,e1,e2,w,cv,co];exact zD (zh _ _) hk
  | false =>
   rw[h2] at hk e2;simp only[Bool.and_false,Yd,if_false] at hk;cases h3:decide (97≤c) with
   | false =>
    rw[h3] at hk e3;simp only[Bool.false_and,Yd,if_false] at hk;simp only[go_sem,ge_iff_le,e1,e2,e3];exact zD (zh _ _) hk
   | true =>
    rw[h3] at hk e3;cases h4:decide (c≤102) with
    | false =>
     rw[h4] at hk e4;simp only[Bool.and_false,Yd,if_false] at hk;simp only[go_sem,ge_iff_le,e1,e2,e3,e4];exact zD (zh _ _) hk
    | true =>
     rw[h4] at hk e4;simp only[Bool.and_self,if_true] at hk;simp only[decide_eq_true_eq,UInt8.le_iff_toNat_le] at h3 h4;have q1:(97:UInt8).toNat=97:=rfl;have q2:(102:UInt8).toNat=102:=rfl;have w:=NJ (n:=(c.toNat:Int)-97) (by omega) (by omega);have w2:IntKind.i64.wrap ((c.toNat:Int)-97)=(c.toNat:Int)-97:=IntWalk.i64_in _ (by omega);have w3:IntKind.i64.wrap ((c.toNat:Int)-97+10)=(c.toNat:Int)-87:=by rw[IntWalk.i64_in _ (by omega)];omega
     have cv:Y5 prog 3 (.sc (.int .u8 ((c.toNat:Int)-97))) = .sc (.int .i64 ((c.toNat:Int)-97)):=by rw[XU (k' :=.i64) _ _ Tryz.i3,w2]
     have co:Yc prog 5 3 (.sc (.int .u8 ((c.toNat:Int)-97)))=True:=eq_true ⟨by rw[Tryz.i5];rfl,.inl (by rw[Tryz.i3];rfl)⟩;simp only[go_sem,ge_iff_le,e1,e2,e3,e4,w,cv,co,w3];exact zD (zh _ _) hk
end Go.Proofs
namespace Go.AL
def Lu(R:Except Int (Tk×Nat))(K:SV→St→Prop)(st:St):Prop:=match R with
 | .ok (t,n)=>K (.tuple [ZC t,.sc (.int .i64 n),.sc (.int .i64 0)]) st
 | .error e=>∀ (x:Tk) (n:Int),K (.tuple [ZC x,.sc (.int .i64 n),.sc (.int .i64 e)]) st
end Go.AL
namespace Go.Proofs
open Go Go.AL Tryz
theorem Xy(n:Nat)(t:Tk)(a e:Value):Ids n (norm (X7 [ZC t,.sc a,.sc e]))=True:=eq_true (.tuple _ (by
 intro i hi;match i with
 | 0=>show Ids n (ZC t);rw[J7];trivial
 | 1=>exact .sc _
 | 2=>exact .sc _
 | i+3=>simp[norm] at hi;omega))
theorem Xk{p:UInt8→Bool}{s:Tx}{i:Nat}(h:i+zR p (s.drop i)=zR p s)(hl:i<s.length)(hp:p s[i]=true):i+1+zR p (s.drop (i+1))=zR p s:=by
 rw[XT hl,Wv hp] at h;omega
theorem JZ{p:UInt8→Bool}{s:Tx}{i:Nat}(h:i+zR p (s.drop i)=zR p s)(hp:∀ hl:i<s.length,p s[i]=false):i=zR p s:=by
 by_cases hl:i<s.length
 ·rw[XT hl,FM (hp hl)] at h;omega
 ·rw[List.drop_of_length_le (by omega)] at h;exact h
theorem rh{s:Tx}(hs:s.length≤100000)(h0:0<s.length)(hd:zV s[0]=true){K:SV→St→Prop}{st:St}(hk:Lu (XE s 0) K st):ACalls prog 33 [.sc (.string (ba s))] K st:=by
 refine zc [] func33 rfl results33 ntmps33 ?_;have hz:1+zR zV (s.drop 1)=zR zV s:=Xk (i:=0) (by simp) h0 hd;have hg0:=ZJ h0;have hle:=Vo zV s;obtain⟨z,hzz⟩:∃ z,z=zR zV s:=⟨_,rfl⟩;simp only[go_sem,zf,hg0];refine⟨by omega,?_⟩;refine ZR ?_;simp only[go_sem,hd];refine AWp.mono (Q:=fun e env s'=>e = .exit 0∧(∃ x1 x2 x3 x4 x5 x6 x7 x8 x9 x10,env=(.sc (.string (ba s)) :: .any :: .ptr st.length 0 :: .any :: .any :: .any :: .sc (.int .i64 z) :: .any :: .any :: .any::JW (x1::x2::x3::x4::x5::x6::x7::x8::x9::x10 :: .any::XQ (JW (XD (QX []))))))∧s'=st++[LW]) ?_ ?_
 ·refine zt [] (fun m env s'=>∃ i:Nat,m+i=s.length∧i+zR zV (s.drop i)=zR zV s∧env=(.sc (.string (ba s)) :: .any :: .ptr st.length 0 :: .any :: .any :: .any :: .sc (.int .i64 i) :: .any :: .any::QX (QX []))∧s'=st++[LW]) (n:=s.length-1) ?_ ⟨1,by omega,hz,rfl,rfl⟩ ?_
  ·exact qv
  rintro m env s' ⟨i,hm,hi,rfl,rfl⟩;have w1:=KL i;by_cases hl:i<s.length
  ·have c1:decide ((i:Int)<(s.length:Int))=true:=by simp;omega
   have hgi:=ZJ hl;cases hdi:zV s[i] with
   | true =>
    simp only[go_sem,zf,c1,hgi];refine⟨by omega,?_⟩;refine ZR ?_;simp only[go_sem,zf,hgi,hdi,c1,w1];refine⟨m-1,_,by omega,?_,i+1,by omega,Xk hi hl hdi,rfl⟩;exact qv
   | false =>
    have:=JZ hi (fun _=>hdi);simp only[go_sem,zf,c1,hgi];refine⟨by omega,?_⟩;refine ZR ?_;simp only[go_sem,zf,hgi,hdi,c1,w1];obtain rfl:i=z:=by omega
    exact⟨_,_,_,_,_,_,_,_,_,_,rfl⟩
  ·have c1:decide ((i:Int)<(s.length:Int))=false:=by simp;omega
   have:=JZ hi (fun h=>absurd h hl);simp only[go_sem,zf,c1];obtain rfl:i=z:=by omega
   exact⟨_,_,_,_,_,_,_,_,_,_,rfl⟩
 ·rintro e env s' ⟨rfl,⟨x1,x2,x3,x4,x5,x6,x7,x8,x9,x10,rfl⟩,rfl⟩;simp only[go_sem];have hall:∀ (i:Nat) (h:i<z),∃ h2:i<s.length,zV s[i]=true:=fun i h=>by
   have h2:i<s.length:=by omega
   refine⟨h2,?_⟩;have hm:s[i]∈s.take (zR zV s):=by
    rw[List.mem_take_iff_getElem];exact⟨i,by omega,rfl⟩
   exact DG _ hm
  have hv:XE s 0=if 4611686018427387903<ZS (s.take z) then .error 13 else .ok (⟨1,[],ZS (s.take z),0⟩,z):=by
   rw[hzz];cases s with
   | nil=>simp at h0
   | cons c r =>
    have hd':zV c=true:=hd;unfold XE;dsimp only;rw[if_pos hd']
  rw[hv] at hk;refine zt [] (fun m env s'=>∃ (i v:Nat),m+i=z∧v=ZS (s.take i)∧v≤4611686018427387903∧env=(.sc (.string (ba s)) :: .any :: .ptr st.length 0 :: .any :: .any :: .any :: .sc (.int .i64 z) :: .sc (.int .i64 v) :: .sc (.int .i64 i)::QX (QX []))∧s'=st++[LW]) (n:=z) ?_ ⟨0,0,by omega,by simp[ZS],by omega,rfl,rfl⟩ ?_
  ·exact qv
  rintro m env s' ⟨i,v,hm,hvi,hvm,rfl,rfl⟩;have w1:=KL i;by_cases hl:i<z
  ·obtain⟨h2,hdi⟩:=hall i hl;have c1:decide ((i:Int)<(z:Int))=true:=by simp;omega
   have hgi:=ZJ h2;have hrng:=KZ hdi;have hlt:=s[i].toNat_lt;obtain⟨dd,hdd⟩:∃ dd:Nat,dd=s[i].toNat-48:=⟨_,rfl⟩;have hd9:dd≤9:=by omega
   have e0:(s[i].toNat:Int)-48=(dd:Int):=by omega
   have w2:IntKind.u8.wrap ((s[i].toNat:Int)-48)=(dd:Int):=by rw[e0];exact NJ (by omega) (by omega)
   have w3:IntKind.i64.wrap (dd:Int)=(dd:Int):=IntWalk.i64_in _ (by omega);have cv:Y5 prog 3 (.sc (.int .u8 (dd:Int))) = .sc (.int .i64 (dd:Int)):=by rw[XU (k' :=.i64) _ _ Tryz.i3,w3]
   have co:Yc prog 5 3 (.sc (.int .u8 (dd:Int)))=True:=eq_true ⟨by rw[Tryz.i5];rfl,.inl (by rw[Tryz.i3];rfl)⟩;have hvs:ZS (s.take (i+1))=10*v+dd:=by rw[wi h2,hvi,hdd]
   have w4:IntKind.i64.wrap (4611686018427387903-(dd:Int))=4611686018427387903-(dd:Int):=IntWalk.i64_in _ (by omega);have w5:(4611686018427387903-(dd:Int)).tdiv 10=(((4611686018427387903-dd) / 10:Nat):Int):=by
    rw[show (4611686018427387903-(dd:Int))=((4611686018427387903-dd:Nat):Int) by omega];rfl
   have w6:IntKind.i64.wrap ((((4611686018427387903-dd) / 10:Nat):Int))=((((4611686018427387903-dd) / 10:Nat):Int)):=IntWalk.i64_in _ (by omega);by_cases hov:4611686018427387903<10*v+dd
   ·have c2:decide ((((4611686018427387903-dd) / 10:Nat):Int)<(v:Int))=true:=by simp;omega
    have hbig:4611686018427387903<ZS (s.take z):=by
     have:=EG (s.take z) (i+1);rw[List.take_take,Nat.min_eq_left (by omega),hvs] at this;omega
    rw[if_pos hbig] at hk;simp only[go_sem,zf,c1,hgi,w2,cv,co,w4,w5,w6,gt_iff_lt,c2,LW];exact⟨by omega,zB (Xy _ gQ _ _) (hk gQ 0)⟩
   ·have c2:decide ((((4611686018427387903-dd) / 10:Nat):Int)<(v:Int))=false:=by simp;omega
    have w7:IntKind.i64.wrap (10*(v:Int))=((10*v:Nat):Int):=by rw[IntWalk.i64_in _ (by omega)];omega
    have w8:IntKind.i64.wrap (((10*v:Nat):Int)+(dd:Int))=((10*v+dd:Nat):Int):=by rw[IntWalk.i64_in _ (by omega)];omega
    simp only[go_sem,zf,c1,hgi,w2,cv,co,w4,w5,w6,gt_iff_lt,c2,w7,w8,w1];refine⟨by omega,m-1,_,by omega,?_,i+1,10*v+dd,by omega,hvs.symm,by omega,rfl⟩;exact qv
  ·have c1:decide ((i:Int)<(z:Int))=false:=by simp;omega
   obtain rfl:i=z:=by omega
   rw[if_neg (by omega)] at hk;simp only[go_sem,c1,LW];rw[←hvi] at hk;exact zB (Xy _ ⟨1,[],v,0⟩ _ _) hk
end Go.Proofs
