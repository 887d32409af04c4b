/- The lexer: numbers. -/
import Derived.Test.YtkokccjfpebomaaGreatDoorM2
set_option linter.all false
set_option maxHeartbeats 4000000
set_option maxRecDepth 8000
namespace Go.AL
theorem Iv(c d:UInt8)(n:Int)(h:(d.toNat:Int)=n):decide ((c.toNat:Int)<n)=decide (c<d):=by
 subst h;rw[decide_eq_decide,UInt8.lt_iff_toNat_lt];omega
theorem CE(c d:UInt8)(n:Int)(h:(d.toNat:Int)=n):decide (n<(c.toNat:Int))=decide (d<c):=by
 subst h;rw[decide_eq_decide,UInt8.lt_iff_toNat_lt];omega
theorem KZ{c:UInt8}(h:zV c=true):48≤c.toNat∧c.toNat≤57:=by
 unfold zV at h;simp only[Y4,decide_eq_true_eq,UInt8.le_iff_toNat_le] at h;exact h
theorem qt(n:Nat)(a b c:Value):Ids n (X7 [.sc a,.sc b,.sc c])=True:=eq_true (.tuple _ (by
 intro i hi;match i with
 | 0=>exact .sc _
 | 1=>exact .sc _
 | 2=>exact .sc _
 | i+3=>simp at hi;omega))
theorem Yf(n:Nat)(a b:Value):Ids n (X7 [.sc a,.sc b])=True:=eq_true (.tuple _ (by
 intro i hi;match i with
 | 0=>exact .sc _
 | 1=>exact .sc _
 | i+2=>simp at hi;omega))
end Go.AL
namespace Go.Proofs
open Go Go.AL Tryz
variable {K:SV→St→Prop}{st:St}
theorem Cz{n:Int}(hk:K (.sc (.bool (decide (-4611686018427387904≤n)&&decide (n≤4611686018427387903)))) st):ACalls prog 133 [.sc (.int .i64 n)] K st:=by
 refine zc [] func133 rfl results133 ntmps133 ?_;cases h1:decide (-4611686018427387904≤n) with
 | false=>rw[h1] at hk;simp only[go_sem,ge_iff_le,h1];exact zD (zh _ _) hk
 | true=>rw[h1] at hk;simp only[go_sem,ge_iff_le,h1];exact zD (zh _ _) hk
theorem m6{d:Tx}(hd:d.length≤1000000)(h0:d≠[])(hall:∀ c∈d,zV c=true)(hz:d.headD 0≠48∨d.length=1)(hk:K (.tuple [.sc (.string (ba d)),.sc (.bool false),.sc (.bool true)]) st):ACalls prog 132 [.sc (.string (ba d))] K st:=by
 refine zc [] func132 rfl results132 ntmps132 ?_;have hlen:0<d.length:=List.length_pos_iff.2 h0;have c1:decide ((0:Int)<(d.length:Int))=true:=by simp;omega
 have hhd:=eT h0;have hdm:zV (d.headD 0)=true:=by
  cases d with
  | nil=>exact absurd rfl h0
  | cons c r=>exact hall c List.mem_cons_self
 have e1:=Zw (d.headD 0) 45 45 rfl;have f1:(d.headD 0==45)=false:=by
  cases h:d.headD 0==45 with
  | false=>rfl
  | true=>rw[beq_iff_eq.1 h] at hdm;revert hdm;decide
 have e2:=Zw (d.headD 0) 48 48 rfl;have c2:(d==[])=false:=by simp[h0]
 by_cases hz2:d.headD 0=48
 ·have hl1:d.length=1:=hz.resolve_left (fun h=>h hz2);have f2:(d.headD 0==48)=true:=beq_iff_eq.2 hz2;have c3:decide ((1:Int)<(d.length:Int))=false:=by simp;omega
  simp only[go_sem,zf,gt_iff_lt,c1,hhd,e1,f1,c2,e2,f2,c3];refine⟨by omega,by omega,?_⟩;refine zt [] (fun m env s=>∃ j:Nat,m+j=d.length∧env=(.sc (.string (ba d))::XQ (.sc (.bool false)::XQ (JW (X3 (.sc (.int .i64 d.length) :: .sc (.int .i64 j) :: .any :: .any :: .any::XQ (JW []))))))∧s=st) (n:=d.length) ?_ ⟨0,by omega,rfl,rfl⟩ ?_
  ·exact qv
  rintro m env s ⟨j,hj,rfl,rfl⟩;by_cases hlt:j<d.length
  ·have c4:decide ((j:Int)<(d.length:Int))=true:=by simp;omega
   have hgt:=ZJ hlt;have hdg:=hall d[j] (List.getElem_mem hlt);obtain⟨r1,r2⟩:=KZ hdg;have c5:decide ((d[j].toNat:Int)<48)=false:=by simp;omega
   have c6:decide ((57:Int)<(d[j].toNat:Int))=false:=by simp;omega
   have hw:IntKind.i64.wrap ((j:Int)+1)=((j+1:Nat):Int):=by rw[IntWalk.i64_in _ (by omega)];rfl
   simp only[go_sem,zf,hgt,c4,c5,c6,gt_iff_lt,hw];refine⟨by omega,by omega,m-1,_,by omega,?_,j+1,by omega,rfl⟩;exact qv
  ·have c4:decide ((j:Int)<(d.length:Int))=false:=by simp;omega
   simp only[go_sem,c4];exact zD (qt _ _ _ _) hk
 ·have f2:(d.headD 0==48)=false:=beq_eq_false_iff_ne.2 hz2;simp only[go_sem,zf,gt_iff_lt,c1,hhd,e1,f1,c2,e2,f2];refine⟨by omega,by omega,?_⟩;refine zt [] (fun m env s=>∃ j:Nat,m+j=d.length∧env=(.sc (.string (ba d))::XQ (.sc (.bool false)::XQ (JW (X3 (.sc (.int .i64 d.length) :: .sc (.int .i64 j) :: .any :: .any :: .any::XQ (JW []))))))∧s=st) (n:=d.length) ?_ ⟨0,by omega,rfl,rfl⟩ ?_
  ·exact qv
  rintro m env s ⟨j,hj,rfl,rfl⟩;by_cases hlt:j<d.length
  ·have c4:decide ((j:Int)<(d.length:Int))=true:=by simp;omega
   have hgt:=ZJ hlt;have hdg:=hall d[j] (List.getElem_mem hlt);obtain⟨r1,r2⟩:=KZ hdg;have c5:decide ((d[j].toNat:Int)<48)=false:=by simp;omega
   have c6:decide ((57:Int)<(d[j].toNat:Int))=false:=by simp;omega
   have hw:IntKind.i64.wrap ((j:Int)+1)=((j+1:Nat):Int):=by rw[IntWalk.i64_in _ (by omega)];rfl
   simp only[go_sem,zf,hgt,c4,c5,c6,gt_iff_lt,hw];refine⟨by omega,by omega,m-1,_,by omega,?_,j+1,by omega,rfl⟩;exact qv
  ·have c4:decide ((j:Int)<(d.length:Int))=false:=by simp;omega
   simp only[go_sem,c4];exact zD (qt _ _ _ _) hk
theorem Dr{d:Tx}(hd:d.length≤1000000)(h0:d≠[])(hall:∀ c∈d,zV c=true)(hz:d.headD 0≠48∨d.length=1)(hk:K (.tuple [.sc (.int .i64 (K6 d).1),.sc (.int .i64 (K6 d).2)]) st):ACalls prog 115 [.sc (.string (ba d))] K st:=by
 refine zc [] func115 rfl results115 ntmps115 ?_;simp only[go_sem];refine m6 hd h0 hall hz ?_;simp only[go_sem,zf];refine zt [] (fun m env s=>∃ j:Nat,m+j=d.length∧ZS (d.take j)≤4611686018427387904∧env=(XQ (.sc (.string (ba d)) :: .sc (.bool false) :: .any :: .sc (.int .i64 (-(ZS (d.take j):Int))) :: .any :: .any :: .any::JW (.sc (.int .i64 d.length) :: .sc (.int .i64 j) :: .any::JW (X3 []))))∧s=st) (n:=d.length) ?_ ⟨0,by omega,by simp[ZS],rfl,rfl⟩ ?_
 ·exact qv
 rintro m env s ⟨j,hj,hv,rfl,rfl⟩;by_cases hlt:j<d.length
 ·have c4:decide ((j:Int)<(d.length:Int))=true:=by simp;omega
  have hgt:=ZJ hlt;have hdg:=hall d[j] (List.getElem_mem hlt);obtain⟨r1,r2⟩:=KZ hdg;have hvt:=wi hlt;have hw:IntKind.i64.wrap ((j:Int)+1)=((j+1:Nat):Int):=by rw[IntWalk.i64_in _ (by omega)];rfl
  have hw1:IntKind.u8.wrap ((d[j].toNat:Int)-48)=((d[j].toNat-48:Nat):Int):=by rw[IntWalk.u8_in _ (by omega)];omega
  generalize hk9:d[j].toNat-48=k at *;have hk10:k≤9:=by omega
  have hcv:Y5 prog 3 (.sc (.int .u8 (k:Int))) = .sc (.int .i64 (k:Int)):=by
   rw[XU (k' :=.i64) .u8 (k:Int) (by kernel_rfl),IntWalk.i64_in _ (by omega)]
  have hco:Yc prog 5 3 (.sc (.int .u8 (k:Int))):=by rw[Gw .u8 _ (by kernel_rfl)];exact⟨by kernel_rfl,by kernel_rfl⟩
  have hov:=nY (ZS (d.take j)) k hk10 hv;generalize hv9:ZS (d.take j)=v at *;have hw2:IntKind.i64.wrap (-4611686018427387904+(k:Int)) = -4611686018427387904+(k:Int):=IntWalk.i64_in _ (by omega);have hq : -4611686018427387904≤Int.tdiv (-4611686018427387904+(k:Int)) 10∧Int.tdiv (-4611686018427387904+(k:Int)) 10≤0:=by
   have h:(-4611686018427387904+(k:Int)) = -((4611686018427387904-k:Nat):Int):=by omega
   rw[h,Int.neg_tdiv,show Int.tdiv ((4611686018427387904-k:Nat):Int) 10=(((4611686018427387904-k) / 10:Nat):Int) by rfl];omega
  have hw3:IntKind.i64.wrap (Int.tdiv (-4611686018427387904+(k:Int)) 10)=Int.tdiv (-4611686018427387904+(k:Int)) 10:=IntWalk.i64_in _ (by omega);by_cases hx:4611686018427387904<10*v+k
  ·have c5:decide (-(v:Int)<Int.tdiv (-4611686018427387904+(k:Int)) 10)=true:=by simp only[decide_eq_true_eq];exact hov.2 hx
   have hr:K6 d=(0,13):=by
    have:=EG d (j+1);unfold K6;rw[if_pos (by omega)]
   rw[hr] at hk;dsimp only at hk;simp only[go_sem,zf,hgt,c4,hw1,hcv,hw2,hw3,c5];refine⟨by omega,hco,?_⟩;exact zD (Yf _ _ _) hk
  ·have c5:decide (-(v:Int)<Int.tdiv (-4611686018427387904+(k:Int)) 10)=false:=by simp only[decide_eq_false_iff_not];exact fun h=>hx (hov.1 h)
   have hw4:IntKind.i64.wrap (10 * -(v:Int))=10 * -(v:Int):=IntWalk.i64_in _ (by omega);have hw5:IntKind.i64.wrap (10 * -(v:Int)-(k:Int)) = -(ZS (d.take (j+1)):Int):=by rw[IntWalk.i64_in _ (by omega),hvt];omega
   simp only[go_sem,zf,hgt,c4,hw1,hcv,hw2,hw3,hw4,hw5,hw,c5];refine⟨by omega,hco,m-1,_,by omega,?_,j+1,by omega,by omega,rfl⟩;exact qv
 ·have c4:decide ((j:Int)<(d.length:Int))=false:=by simp;omega
  rw[List.take_of_length_le (by omega)] at hv ⊢;have hw:IntKind.i64.wrap (0 - -(ZS d:Int))=(ZS d:Int):=by rw[IntWalk.i64_in _ (by omega)];omega
  simp only[go_sem,c4,hw];refine Cz ?_;by_cases hx:4611686018427387903<ZS d
  ·have c5:(decide (-4611686018427387904≤(ZS d:Int))&&decide ((ZS d:Int)≤4611686018427387903))=false:=by simp;omega
   rw[show K6 d=(0,13) by unfold K6;rw[if_pos hx]] at hk;dsimp only at hk;simp only[go_sem,c5];exact zD (Yf _ _ _) hk
  ·have c5:(decide (-4611686018427387904≤(ZS d:Int))&&decide ((ZS d:Int)≤4611686018427387903))=true:=by simp;omega
   rw[show K6 d=((ZS d:Int),0) by unfold K6;rw[if_neg hx]] at hk;dsimp only at hk;simp only[go_sem,c5,hw];exact zD (Yf _ _ _) hk
theorem DG{p:UInt8→Bool}:∀ {l:Tx},∀ c∈l.take (zR p l),p c=true
 | [],c,h=>by cases h
 | d::l,c,h=>by
  cases hd:p d with
  | true =>
   rw[Wv hd,List.take_succ_cons] at h;rcases List.mem_cons.1 h with rfl | h
   ·exact hd
   ·exact DG c h
  | false=>rw[FM hd] at h;cases h
theorem L8{s:Tx}{rid tid a:Nat}{t:Tk}{st:St}(ht:EZ tid t st):yI st rid tid s a t=st.set rid (.cells (rL s a)):=by
 unfold yI;obtain⟨h1,h2⟩:=List.getElem?_eq_some_iff.1 ht;have:st.set tid (.cells (wM t))=st:=by
  have h3:wM t=[.sc (.int .i64 t.kind),.sc (.string (ba t.text)),.sc (.int .i64 t.num),.sc (.int .i64 t.pos)]:=rfl;rw[h3,←h2,List.set_getElem_self]
 rw[this]
def jJ(w:Tx)(t:Tk):Int×Tk:=if 4611686018427387903<ZS w then (13,t) else (0,⟨1,t.text,ZS w,t.pos⟩)
theorem dA{s:Tx}(hs:s.length≤1000000){rid tid a:Nat}(hne:rid≠tid)(ha:a<s.length){t:Tk}(hr:EB s rid a st)(ht:EZ tid t st){z:Nat}{w:Tx}(hz:zR zV (s.drop a)=z)(hw:(s.drop a).take z=w)
  (hk:K (.sc (.int .i64 (jJ w t).1)) (yI st rid tid s (a+z) (jJ w t).2)):ACalls prog 95 [.ptr rid 0,.ptr tid 0] K st:=by
 refine zl [] func95 rfl results95 ntmps95 ?_;have hall:∀ c∈w,zV c=true:=by subst hz;subst hw;exact fun c hc=>DG c hc
 have hle:w.length≤1000000:=by subst hw;rw[List.length_take,List.length_drop];omega
 have hok:=ot w hall;have hvt:=nB w;have hlt:(Vy w).length≤1000000:=by
  unfold Vy;split
  ·simp
  ·exact Nat.le_trans (List.dropWhile_sublist _).length_le hle
 have z1:=zF (dL (rid:=rid) (X :=.cells (rL s (a+z))) hne ht);have hrd:K6 (Vy w)=if 4611686018427387903<ZS w then (0,13) else ((ZS w:Int),0):=by unfold K6;rw[hvt]
 have d13:((13:Int) != 0)=true:=rfl;have d0:((0:Int) != 0)=false:=rfl;unfold jJ at hk;have fin13:∀ h:4611686018427387903<ZS w,K (.sc (.int .i64 13)) (st.set rid (.cells (rL s (a+z)))):=fun h=>by
  rw[if_pos h,L8 ht] at hk;exact hk
 by_cases hE:w.dropWhile (· == 48)=[]
 ·have hT:Vy w=[48]:=by unfold Vy;rw[if_pos hE]
  have c1:(w.dropWhile (· == 48)==[])=true:=by rw[hE];rfl
  by_cases hx:4611686018427387903<ZS w
  ·rw[if_pos hx] at hrd;have r1:=congrArg Prod.fst hrd;have r2:=congrArg Prod.snd hrd;dsimp only at r1 r2;simp only[go_sem];refine Ke hs (by omega) Hh rfl hr hz hw ?_;simp only[go_sem];try (unfold zd;simp only[qc])
   refine Wm (by decide) ?_;simp only[go_sem,c1];try (unfold zd;simp only[qc])
   refine Dr (d:=[48]) (by decide) (by decide) (by decide) (by decide) ?_;rw[←hT,r1,r2];simp only[go_sem,d13];exact Ef (zh _) (fin13 hx) rfl
  ·rw[if_neg hx] at hrd hk;have r1:=congrArg Prod.fst hrd;have r2:=congrArg Prod.snd hrd;dsimp only at r1 r2 hk;simp only[go_sem];refine Ke hs (by omega) Hh rfl hr hz hw ?_;simp only[go_sem];try (unfold zd;simp only[qc])
   refine Wm (by decide) ?_;simp only[go_sem,c1];try (unfold zd;simp only[qc])
   refine Dr (d:=[48]) (by decide) (by decide) (by decide) (by decide) ?_;rw[←hT,r1,r2];simp only[go_sem,d0,z1.1,z1.2.1,z1.2.2];exact HH hne (zh _) hk rfl
 ·have hT:Vy w=w.dropWhile (· == 48):=by unfold Vy;rw[if_neg hE]
  rw[hT] at hok hlt hrd;have c1:(w.dropWhile (· == 48)==[])=false:=by simp[hE]
  by_cases hx:4611686018427387903<ZS w
  ·rw[if_pos hx] at hrd;have r1:=congrArg Prod.fst hrd;have r2:=congrArg Prod.snd hrd;dsimp only at r1 r2;simp only[go_sem];refine Ke hs (by omega) Hh rfl hr hz hw ?_;simp only[go_sem];try (unfold zd;simp only[qc])
   refine Wm (by decide) ?_;simp only[go_sem,c1];try (unfold zd;simp only[qc])
   refine Dr hlt hok.1 hok.2.1 hok.2.2 ?_;rw[r1,r2];simp only[go_sem,d13];exact Ef (zh _) (fin13 hx) rfl
  ·rw[if_neg hx] at hrd hk;have r1:=congrArg Prod.fst hrd;have r2:=congrArg Prod.snd hrd;dsimp only at r1 r2 hk;simp only[go_sem];refine Ke hs (by omega) Hh rfl hr hz hw ?_;simp only[go_sem];try (unfold zd;simp only[qc])
   refine Wm (by decide) ?_;simp only[go_sem,c1];try (unfold zd;simp only[qc])
   refine Dr hlt hok.1 hok.2.1 hok.2.2 ?_;rw[r1,r2];simp only[go_sem,d0,z1.1,z1.2.1,z1.2.2];exact HH hne (zh _) hk rfl
end Go.Proofs
