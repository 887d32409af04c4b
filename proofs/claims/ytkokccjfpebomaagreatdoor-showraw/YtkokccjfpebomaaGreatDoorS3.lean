/- ints.Show. -/
import Derived.Test.YtkokccjfpebomaaGreatDoorS2
import Derived.Test.YtkokccjfpebomaaGreatDoorM3
set_option linter.all false
set_option maxHeartbeats 4000000
set_option maxRecDepth 8000
namespace Go.Proofs
open Go Go.AL Tryz
def HX(c:UInt8):SV :=.sc (.int .u8 c.toNat)
theorem Je{n:Int}(h : -9223372036854775808≤n∧n≤9223372036854775807):IntKind.i64.wrap n=n:=by
 simp[IntKind.wrap,IntKind.signed,IntKind.bits];split <;> omega
theorem cA(m:Int):((m.natAbs % 10:Nat):Int)=(Int.tmod m 10).natAbs∧(Int.tmod m 10=(m.natAbs % 10:Nat)∨Int.tmod m 10 = -((m.natAbs % 10:Nat):Int))∧(Int.tdiv m 10=(m.natAbs / 10:Nat)∨Int.tdiv m 10 = -((m.natAbs / 10:Nat):Int)):=by
 obtain⟨a,rfl | rfl⟩:=Int.eq_nat_or_neg m
 ·have h1:Int.tmod (a:Int) 10=((a % 10:Nat):Int):=(Int.ofNat_tmod a 10).symm;have h2:Int.tdiv (a:Int) 10=((a / 10:Nat):Int):=(Int.ofNat_tdiv a 10).symm;rw[h1,h2];exact⟨by simp only[Int.natAbs_natCast],.inl (by simp),.inl (by simp)⟩
 ·have h1:Int.tmod (-(a:Int)) 10 = -((a % 10:Nat):Int):=by rw[Int.neg_tmod];exact congrArg _ (Int.ofNat_tmod a 10).symm
  have h2:Int.tdiv (-(a:Int)) 10 = -((a / 10:Nat):Int):=by rw[Int.neg_tdiv];exact congrArg _ (Int.ofNat_tdiv a 10).symm
  rw[h1,h2];exact⟨by simp only[Int.natAbs_natCast,Int.natAbs_neg],.inr (by simp),.inr (by simp)⟩
theorem Lm(m:Int)(h : -9223372036854775808≤m)(h2:m≤9223372036854775807):(Int.tmod m 10).natAbs≤9∧(decide (Int.tmod m 10<0)=true→IntKind.i64.wrap (0-Int.tmod m 10)=(Int.tmod m 10).natAbs)∧(decide (Int.tmod m 10<0)=false→Int.tmod m 10=(Int.tmod m 10).natAbs) ∧
 IntKind.i64.wrap (48+((Int.tmod m 10).natAbs:Int))=48+(Int.tmod m 10).natAbs∧IntKind.u8.wrap (48+((Int.tmod m 10).natAbs:Int))=((UInt8.ofNat (48+(Int.tmod m 10).natAbs)).toNat:Int)∧IntKind.i64.wrap (Int.tdiv m 10)=Int.tdiv m 10∧(Int.tdiv m 10).natAbs=m.natAbs / 10:=by
 obtain⟨q1,q2,q3⟩:=cA m;generalize Int.tmod m 10=d at *;generalize Int.tdiv m 10=e at *;have a1:d.natAbs≤9:=by omega
 refine⟨a1,fun h=>?_,fun h=>?_,?_,?_,?_,?_⟩
 ·simp at h;rw[Je (by omega)];omega
 ·simp at h;omega
 ·exact Je (by omega)
 ·generalize d.natAbs=d at *;simp[IntKind.wrap,IntKind.signed,IntKind.bits]
 ·exact Je (by omega)
 ·omega
theorem eC(n:Int):(IntKind.i64.wrap (n*2 ^ min 1 64)).fdiv (2 ^ min 1 64)=Z9 n:=by
 have h:IntKind.i64.wrap (n*2)=if 9223372036854775808≤n*2 % 18446744073709551616 then n*2 % 18446744073709551616-18446744073709551616 else n*2 % 18446744073709551616:=by
  simp[IntKind.wrap,IntKind.signed,IntKind.bits]
 show (IntKind.i64.wrap (n*2)).fdiv 2=_;rw[h,Int.fdiv_eq_ediv_of_nonneg _ (by decide)];unfold Z9;simp only[Int.bmod_def];split <;> split <;> omega
theorem BR(n:Int):(Z9 n).natAbs≤4611686018427387904:=by
 unfold Z9;simp only[Int.bmod_def];split <;> omega
def cY(i:Nat)(l:Tx):List SV:=List.replicate i (HX 0)++l.map HX
theorem jt(i:Nat)(l:Tx):(cY i l).length=i+l.length:=by simp[cY]
theorem xz{j k:Nat}(h:k=j+1)(l:Tx)(x:UInt8):List.take j (cY k l)++(HX x::List.drop (j+1) (cY k l))=cY j (x::l):=by
 subst h;unfold cY;rw[List.take_append_of_le_length (by simp),List.take_replicate,List.drop_append,List.drop_of_length_le (by simp)];simp only[List.length_replicate,List.map_cons,xnA,Nat.sub_self,List.drop_zero,Nat.min_eq_left (Nat.le_succ j)]
theorem gf(j:Nat)(l:Tx)(n:Nat)(h:l.length=n):List.take n (List.drop j (cY j l))=l.map HX:=by
 unfold cY;rw[List.drop_append,List.drop_of_length_le (by simp),List.length_replicate,Nat.sub_self,List.drop_zero,xnA];exact List.take_of_length_le (by simp;omega)
theorem Ws(l:Tx):XS (l.map HX)=ba l:=by
 unfold XS;have h1:(l.map HX).map K0=l.map (fun c=>(c.toNat:Int)):=by simp[Function.comp_def,HX,K0]
 rw[h1];have key:∀ (l:Tx) (b:ByteArray),(l.map (fun c=>(c.toNat:Int))).foldl (fun r n=>r.push (UInt8.ofNat n.toNat)) b=⟨b.data++l.toArray⟩:=by
  intro l;induction l with
  | nil=>intro b;simp
  | cons c r ih =>
   intro b;rw[List.map_cons,List.foldl_cons,ih];congr 1
   simp[ByteArray.push]
 rw[key];simp[ByteArray.empty,ByteArray.emptyWithCapacity,ba];rfl
theorem F'(l:Tx):(l.map HX).all Ka=true:=by
 rw[List.all_eq_true];intro x hx;obtain⟨c,_,rfl⟩:=List.mem_map.1 hx;rfl
theorem H2(c:UInt8):(HX c).cells=[HX c]:=rfl
theorem H6(c:UInt8):qP (HX c)=true:=rfl
theorem pe(c:UInt8):[HX c].all QG=true:=rfl
theorem OR:SV.sc (.int .u8 45)=HX 45:=rfl
theorem PL(n:Int):Yk prog 3 5 (.sc (.int .i64 n))=True:=eq_true ⟨by kernel_rfl,.inl (by kernel_rfl)⟩
theorem PP(n:Int):Jm prog 5 (.sc (.int .i64 n)) = .sc (.int .u8 (IntKind.u8.wrap n)):=X4 .i64 n (by kernel_rfl)
theorem An{n:Int}{K:SV→St→Prop}{st:St}(hk:K (.sc (.int .i64 (Z9 n))) st):ACalls prog 89 [.sc (.int .i64 n)] K st:=by
 refine zd [] func89 rfl results89 ntmps89 ?_;simp only[go_sem,eC];exact zy (zi _ _) hk
theorem iH{n:Int}{K:SV→St→Prop}{st:St}(hk:K (.sc (.string (ba (Yh n)))) st):ACalls prog 67 [.sc (.int .i64 n)] K st:=by
 refine zd [3] func67 rfl results67 ntmps67 ?_;simp only[go_sem];refine An ?_;simp only[go_sem];have a5:KE prog 5=some .u8:=by kernel_rfl
 have a9:WR prog 9=true:=by kernel_rfl
 refine zx [] (fun k env s=>∃ (a2:Nat) (m:Int) (acc:Tx) (ex:St),k+acc.length=20∧1≤k∧a2=k+4∧KC k m acc=KC 20 (Z9 n) []∧m.natAbs<10 ^ k∧m.natAbs≤4611686018427387904∧env=[.sc (.int .i64 m),.any,.any,.ptr st.length 0,.sc (.int .i64 (a2:Nat)),.sc (.bool (decide (Z9 n<0))),.any,.any,.any,.any,.any,.any,.any,.any,.any,.any,.any,.any,.any,.any,.any,.any,.any,.any,.any,.any,.any,.any,.any,.any,.any,.any,.any,.any,.any,.any]∧s=st++(.cells (cY a2 acc)::ex)) (n:=20) ?_ ⟨24,Z9 n,[],[],rfl,by decide,rfl,rfl,Nat.lt_of_le_of_lt (BR n) (by decide),BR n,rfl,rfl⟩ ?_
 ·exact qu
 rintro k env s ⟨a2,m,acc,ex,hk1,hk2,hi,hdg,hm,hm2,rfl,rfl⟩;obtain⟨q,rfl⟩:∃ q,k=q+1:=⟨k-1,by omega⟩;obtain⟨f1,f2,f3,f4,f5,f6,f7⟩:=Lm m (by omega) (by omega);obtain⟨a1,h2⟩:∃ a1,a2=a1+1:=⟨a2-1,by omega⟩;obtain⟨a0,h1⟩:∃ a0,a1=a0+1:=⟨a1-1,by omega⟩;have w3:IntKind.i64.wrap ((a2:Int)-1)=(a1:Int):=by rw[Je (by omega)];omega
 have w5:IntKind.i64.wrap ((a1:Int)-1)=(a0:Int):=by rw[Je (by omega)];omega
 have hdg:(if Int.tdiv m 10=0 then UInt8.ofNat (48+(Int.tmod m 10).natAbs)::acc else KC q (Int.tdiv m 10) (UInt8.ofNat (48+(Int.tmod m 10).natAbs)::acc))=KC 20 (Z9 n) []:=hdg;generalize hx:UInt8.ofNat (48+(Int.tmod m 10).natAbs)=x at *;have hby:SV.sc (.int .u8 (x.toNat:Int))=HX x:=rfl;have g1:=xz h2 acc x;have g2:=xz h1 (x::acc) 45;have n1:(24=a1)=False:=eq_false (by omega);have n2:(24=a0)=False:=eq_false (by omega);have L2:(cY a2 acc).length=24:=by rw[jt];omega
 have L1:(cY a1 (x::acc)).length=24:=by rw[jt,xlC];omega
 have L0:(cY a0 (45::x::acc)).length=24:=by rw[jt,xlC,xlC];omega
 have e1:=gf a1 (x::acc) (24-a1) (by simp;omega);have e2:=gf a0 (45::x::acc) (24-a0) (by simp;omega);have hp:Int.tdiv m 10≠0→(Int.tdiv m 10).natAbs<10 ^ q∧1≤q:=by
  intro h;have h1:(Int.tdiv m 10).natAbs<10 ^ q:=by
   rw[f7];rw[Nat.pow_succ] at hm;omega
  refine⟨h1,?_⟩;cases q with
  | zero=>simp at h1;omega
  | succ q=>omega
 have hneg:Yh n=(if Z9 n<0 then [45] else [])++KC 20 (Z9 n) []:=rfl;generalize hdd:(Int.tmod m 10).natAbs=dd at *;cases b1:decide (Int.tmod m 10<0) with
 | true =>
  have w0:=f2 b1;simp only[go_sem,b1,w0,f4,f6,PL,PP,f5,w3,w5,hby,H2,H6,pe,OR,Nat.mul_one,xlC,xlN,xcA,xnA,g1,g2,n1,n2,e1,e2,L0,L1,L2,a5,a9,F',Ws];refine⟨by omega,by omega,fun hz=>⟨fun hn=>⟨by omega,by omega,by omega,⟨by omega,rfl⟩,?_⟩,fun hn=>⟨by omega,⟨by omega,rfl⟩,?_⟩⟩,fun hz=>?_⟩
  ·have e:XS (HX 45::HX x::acc.map HX)=ba (Yh n):=by
    rw[hneg,if_pos (by simpa using hn),←hdg,if_pos (by simpa using hz)];exact Ws (45::x::acc)
   rw[e];exact zF (zi _ _) hk
  ·have e:XS (HX x::acc.map HX)=ba (Yh n):=by
    rw[hneg,if_neg (by simpa using hn),←hdg,if_pos (by simpa using hz)];exact Ws (x::acc)
   rw[e];exact zF (zi _ _) hk
  ·have hz':Int.tdiv m 10≠0:=by simpa using hz
   refine⟨q,_,by omega,?_,a1,Int.tdiv m 10,x::acc,ex,by simp;omega,(hp hz').2,by omega,by rw[←hdg,if_neg hz'],(hp hz').1,by omega,rfl,rfl⟩;exact qu
 | false =>
  have w0:=f3 b1;rw[w0] at b1;simp only[go_sem,b1,w0,f4,f6,PL,PP,f5,w3,w5,hby,H2,H6,pe,OR,Nat.mul_one,xlC,xlN,xcA,xnA,g1,g2,n1,n2,e1,e2,L0,L1,L2,a5,a9,F',Ws];refine⟨by omega,by omega,fun hz=>⟨fun hn=>⟨by omega,by omega,by omega,⟨by omega,rfl⟩,?_⟩,fun hn=>⟨by omega,⟨by omega,rfl⟩,?_⟩⟩,fun hz=>?_⟩
  ·have e:XS (HX 45::HX x::acc.map HX)=ba (Yh n):=by
    rw[hneg,if_pos (by simpa using hn),←hdg,if_pos (by simpa using hz)];exact Ws (45::x::acc)
   rw[e];exact zF (zi _ _) hk
  ·have e:XS (HX x::acc.map HX)=ba (Yh n):=by
    rw[hneg,if_neg (by simpa using hn),←hdg,if_pos (by simpa using hz)];exact Ws (x::acc)
   rw[e];exact zF (zi _ _) hk
  ·have hz':Int.tdiv m 10≠0:=by simpa using hz
   refine⟨q,_,by omega,?_,a1,Int.tdiv m 10,x::acc,ex,by simp;omega,(hp hz').2,by omega,by rw[←hdg,if_neg hz'],(hp hz').1,by omega,rfl,rfl⟩;exact qu
end Go.Proofs
namespace Go.AL
variable {P:Program}
theorem fE{c:Code}{Q:Exit→List SV→St→Prop}{env:List SV}{st:St}(d z:Nat)(x:List SV)(he:env.getD d .any = .slice .full z x)
  (h:AWp P c Q (env.set d (.slice (.own st.length 0) z x)) (st++[.tok 0])):AWp P c Q env st:=by
 intro σ w t hI hR D hd;have hX:Ext st σ w (st++[.tok 0]) (σ.setMu st.length none) w:=Ext.newTok none;have hI':=hI.newTok none (fun c hc=>by cases hc);have hr:=hR.get d;rw[he] at hr;have hr2:Rep (st++[.tok 0]) (σ.setMu st.length none) w (.slice (.own st.length 0) z x) (t.tmps.getD d undef):=Ea (by simp) (hr.ext hX);have hR':RepEnv (st++[.tok 0]) (σ.setMu st.length none) w (env.set d (.slice (.own st.length 0) z x)) t.tmps:=by
  have h4:=hR.ext hX;refine⟨by simpa using h4.1,fun i hi=>?_⟩;simp only[List.length_set] at hi;by_cases e:d=i
  ·subst e;simpa[xgE,hi] using hr2
  ·have:=h4.2 i hi;simpa[xgE,List.getElem?_set_ne e] using this
 exact wp_mono (h _ _ t hI' hR' hd) fun e a w hp=>hp.ext hX
end Go.AL
namespace Go.Proofs
open Go Go.AL Tryz
theorem GJ(s:Tx)(i:Nat)(h:i<s.length):(s.take (i+1)).flatMap qE=(s.take i).flatMap qE++qE s[i]:=by
 rw[List.take_succ_eq_append_getElem h,List.flatMap_append];simp
theorem Km(c:UInt8):(c >>> 4).toNat<16∧(c &&& 15).toNat<16∧(c.toNat:Int).fdiv (2 ^ min (Int.toNat 4) 8)=((c >>> 4).toNat:Int):=by
 have key:∀ n:Fin 256,(UInt8.ofNat n.val >>> 4).toNat<16∧(UInt8.ofNat n.val &&& 15).toNat<16∧((UInt8.ofNat n.val).toNat:Int).fdiv (2 ^ min (Int.toNat 4) 8)=((UInt8.ofNat n.val >>> 4).toNat:Int):=by
  decide +kernel
 have h:=key ⟨c.toNat,c.toNat_lt⟩;simp only[UInt8.ofNat_toNat] at h;exact h
theorem ei(c:UInt8):IntKind.u8.wrap ((BitVec.ofInt IntKind.u8.bits (c.toNat:Int) &&& BitVec.ofInt IntKind.u8.bits 15).toNat:Int)=((c &&& 15).toNat:Int):=by
 have key:∀ n:Fin 256,IntKind.u8.wrap ((BitVec.ofInt IntKind.u8.bits ((UInt8.ofNat n.val).toNat:Int) &&& BitVec.ofInt IntKind.u8.bits 15).toNat:Int)=((UInt8.ofNat n.val &&& 15).toNat:Int):=by
  decide +kernel
 have h:=key ⟨c.toNat,c.toNat_lt⟩;simp only[UInt8.ofNat_toNat] at h;exact h
theorem ub{v:UInt8}(h:v.toNat<16):cellsOf prog 5 (List.drop v.toNat (hexL.map QY))=some (QY (YX v)):=by
 unfold YX;generalize v.toNat=n at *;have key:∀ n:Fin 16,cellsOf prog 5 (List.drop n.val (hexL.map QY))=some (QY (hexL.getD n.val 0)):=by
  intro ⟨n,hn⟩;match n,hn with
  | 0,_ | 1,_ | 2,_ | 3,_ | 4,_ | 5,_ | 6,_ | 7,_ | 8,_ | 9,_ | 10,_ | 11,_ | 12,_ | 13,_ | 14,_ | 15,_=>rfl
  | n+16,h=>omega
 exact key ⟨n,h⟩
theorem G9(c:UInt8):(qE c).length≤4:=by
 unfold qE;repeat' split
 all_goals simp
theorem ly{s:Tx}(hs:s.length≤100000){K:SV→St→Prop}{st:St}(hk:K (.sc (.string (ba (Ym s)))) st):ACalls prog 68 [.sc (.string (ba s))] K st:=by
 refine zd [3] func68 rfl results68 ntmps68 ?_;simp only[go_sem];refine Ly ?_;simp only[go_sem];refine⟨rfl,rfl,Nat.le_refl 16,?_⟩;refine fE 4 1 [QY 34] rfl ?_;simp only[go_sem,zg];refine zx [] (fun k env s'=>∃ (i:Nat) (b:Tx) (ver:Nat),k+i=s.length∧b=34::(s.take i).flatMap qE∧b.length≤1+4*i∧env=[.sc (.string (ba s)),.any,.any,.ptr st.length 0,.slice (.own (st.length+1) ver) 1 (b.map QY),.any,.any,.any,.any,.any,.sc (.int .i64 s.length),.sc (.int .i64 i),.any,.any,.any,.any,.any,.any,.any,.any,.any,.any,.any,.any,.any,.any,.any,.any,.any,.any,.any,.any,.any,.any,.any,.any,.any,.any,.any,.any,.any,.any,.any,.any,.any,.any,.any,.any,.any,.any,.any,.any,.any,.any,.any,.any,.any]∧s'=st++[.cells (hexL.map QY),.tok ver]) (n:=s.length) ?_ ⟨0,[34],0,by omega,by simp,by simp,rfl,by simp;decide⟩ ?_
 ·exact qu
 rintro k env s' ⟨i,b,ver,hi,hb,hbl,rfl,rfl⟩;by_cases hlt:i<s.length
 rotate_left
 ·have c2:decide ((i:Int)<(s.length:Int))=false:=by simp;omega
  simp only[go_sem,c2];have e:b.map QY++[SV.sc (.int .u8 34)]=(Ym s).map QY:=by
   rw[List.take_of_length_le (by omega)] at hb;unfold Ym;rw[hb,←xcA,xmA];rfl
  have el:b.length+1=(Ym s).length:=by
   have:=congrArg List.length e;simpa using this
  rw[e];refine⟨WI (by omega),Kc _,?_⟩;rw[VZ];exact zF (zi _ _) hk
 have c2:decide ((i:Int)<(s.length:Int))=true:=by simp;omega
 have w1:IntKind.i64.wrap ((i:Int)+1)=((i+1:Nat):Int):=by rw[IntWalk.i64_in _ (by omega)];rfl
 have hgk:(ba s).get! i=s[i]:=ZJ hlt;have hst:=GJ s i hlt;generalize hc:s[i]=c at *;have g1:=ZC c 10 10 rfl;have g2:=ZC c 34 34 rfl;have g3:=ZC c 92 92 rfl;have hql:=G9 c;cases hp:YK c with
 | true =>
  have hq:qE c=[c]:=by unfold qE;rw[if_pos hp]
  rw[hq] at hst;simp only[go_sem,c2,zg,hgk];refine⟨by omega,?_⟩;first | (unfold zf;simp only[ze,zc,zl,xsS,xsZ,xgS,xgZ]) | skip
  refine WY ?_;simp only[go_sem,hp,w1,hgk];refine⟨WI (by omega),k-1,_,by omega,?_,i+1,b++[c],ver+1,by omega,by rw[hst,hb];rfl,by simp;omega,by rw[xmA],rfl⟩;exact qu
 | false =>
  by_cases h10:c=10
  ·have d1:(c==10)=true:=by simp[h10]
   have hq:qE c=[92,110]:=by unfold qE;rw[if_neg (by rw[hp];decide),if_pos h10]
   rw[hq] at hst;simp only[go_sem,c2,zg,hgk];refine⟨by omega,?_⟩;first | (unfold zf;simp only[ze,zc,zl,xsS,xsZ,xgS,xgZ]) | skip
   refine WY ?_;simp only[go_sem,hp,w1,hgk,g1,d1];refine⟨WI (by omega),k-1,_,by omega,?_,i+1,b++[92,110],ver+1,by omega,by rw[hst,hb];rfl,by simp;omega,by rw[xmA],rfl⟩;exact qu
  have d1:(c==10)=false:=by simp[h10]
  by_cases h34:c=34
  ·have d2:(c==34)=true:=by simp[h34]
   have hq:qE c=[92,c]:=by unfold qE;rw[if_neg (by rw[hp];decide),if_neg h10,if_pos (.inl h34)]
   rw[hq] at hst;simp only[go_sem,c2,zg,hgk];refine⟨by omega,?_⟩;first | (unfold zf;simp only[ze,zc,zl,xsS,xsZ,xgS,xgZ]) | skip
   refine WY ?_;simp only[go_sem,hp,w1,hgk,g1,d1,g2,d2];refine⟨WI (by omega),k-1,_,by omega,?_,i+1,b++[92,c],ver+1,by omega,by rw[hst,hb];rfl,by simp;omega,by rw[xmA],rfl⟩;exact qu
  have d2:(c==34)=false:=by simp[h34]
  by_cases h92:c=92
  ·have d3:(c==92)=true:=by simp[h92]
   have hq:qE c=[92,c]:=by unfold qE;rw[if_neg (by rw[hp];decide),if_neg h10,if_pos (.inr h92)]
   rw[hq] at hst;simp only[go_sem,c2,zg,hgk];refine⟨by omega,?_⟩;first | (unfold zf;simp only[ze,zc,zl,xsS,xsZ,xgS,xgZ]) | skip
   refine WY ?_;simp only[go_sem,hp,w1,hgk,g1,d1,g2,d2,g3,d3];refine⟨WI (by omega),k-1,_,by omega,?_,i+1,b++[92,c],ver+1,by omega,by rw[hst,hb];rfl,by simp;omega,by rw[xmA],rfl⟩;exact qu
  have d3:(c==92)=false:=by simp[h92]
  have hq:qE c=[92,120,YX (c >>> 4),YX (c &&& 15)]:=by
   unfold qE;rw[if_neg (by rw[hp];decide),if_neg h10,if_neg (by rintro (h | h) <;> contradiction)]
  rw[hq] at hst;simp only[go_sem,c2,zg,hgk];refine⟨by omega,?_⟩;first | (unfold zf;simp only[ze,zc,zl,xsS,xsZ,xgS,xgZ]) | skip
  refine WY ?_;simp only[go_sem,hp,w1,hgk,g1,d1,g2,d2,g3,d3];have q4:((c >>> 4).toNat:Int)<16:=by have:=(Km c).1;omega
  have q15:((c &&& 15).toNat:Int)<16:=by have:=(Km c).2.1;omega
  have r4:=ub (Km c).1;have r15:=ub (Km c).2.1;have h15:=(ei c);simp only[IntKind.bits] at h15;refine zB [] [(0,[]),(0,[]),(0,[]),(0,[]),(0,[]),(0,[]),(0,[]),(0,[]),(0,[]),(0,[]),(3,[12]),(0,[])] mixed rfl ?_;simp only[go_sem,w1,(Km c).2.2,h15,r4,r15,Nat.mul_one];refine⟨q4,q15,?_⟩;rw[zt];refine⟨.slice .full 1 ([92,120,YX (c >>> 4),YX (c &&& 15)].map QY),?_,?_⟩
  ·simp only[go_sem];exact⟨⟨⟨rfl,rfl⟩,rfl,rfl⟩,⟨[],by simp⟩,zT (.inr rfl) (fun x hx y hy=>by
    obtain⟨v,_,rfl⟩:=List.mem_map.1 (show x∈[92,120,YX (c >>> 4),YX (c &&& 15)].map QY from hx);simp only[QY,SV.cells,List.mem_singleton] at hy;subst hy;exact .sc _),.inl rfl⟩
  simp only[go_sem,w1];refine⟨_,_,⟨WI (by omega),⟨rfl,rfl,rfl,rfl⟩,rfl,rfl⟩,k-1,_,by omega,?_,i+1,b++[92,120,YX (c >>> 4),YX (c &&& 15)],ver+1,by omega,by rw[hst,hb];rfl,by simp;omega,by rw[xmA],rfl⟩;exact qu
end Go.Proofs
