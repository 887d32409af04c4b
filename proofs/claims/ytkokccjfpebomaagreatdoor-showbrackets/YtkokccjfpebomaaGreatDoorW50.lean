/- The document's lexer: names; token. -/
import Derived.Test.YtkokccjfpebomaaGreatDoorW49
set_option maxHeartbeats 4000000
set_option linter.unusedSimpArgs false
set_option linter.unusedVariables false
set_option maxRecDepth 8000
namespace Go.Proofs
open Go Go.AL Tryz
theorem vN {w:Tx} {v:Bool} (hv:decide (w∈keysL)=v) {K:SV→St→Prop} {st:St} (hk:K (.sc (.bool v)) st):ACalls prog 57 [.sc (.string (ba w))] K st:=by
 subst hv;exact fM hk
def tz (s:Tx) (st:St) (z:Nat) (c0:UInt8) (e:Exit) (env:List SV) (s':St):Prop:=e = .exit 4∧(∃ y71 y72 y73 y74 y75 y76 y77 y78 y79 y80 y81 y82 y83 y84 y85 y86 y87 y88 y89 y90 y91 y92 y93 y94 y95 y96 y97 y98,env=[.sc (.string (ba s)),.any,.ptr st.length 0,.any,.any,.sc (.int .u8 c0.toNat),.sc (.int .i64 z),.any,.any,.any,.any,.any,.any,.any,.any,.any,.any,.any,.any,.any,.any,.any,.any,.any,.any,.any,.any,.any,.any,.any,.any,.any,.any,.any,.any,.any,.any,.any,.any,.any,.any,.any,.any,.any,.any,.any,.any,.any,.any,.any,.any,.any,.any,.any,.any,.any,.any,.any,.any,.any,.any,.any,.any,.any,.any,.any,.any,.any,.any,.any,.any,y71,y72,y73,y74,y75,y76,y77,y78,y79,y80,y81,y82,y83,y84,y85,y86,y87,y88,y89,y90,y91,y92,y93,y94,y95,y96,y97,y98,.any,.any,.any,.any,.any,.any,.any,.any,.any,.any,.any,.any,.any,.any,.any,.any,.any,.any,.any,.any,.any,.any,.any,.any,.any,.any,.any,.any,.any,.any,.any,.any,.any,.any,.any,.any,.any,.any])∧s'=st++[Li]
theorem LL:∀ {c:UInt8},Qh c=true→ZK c=false:=fun {c}=>FM (P:=fun c=>Qh c=true→ZK c=false) (by decide +kernel) c
theorem oQ {s:Tx} (hs:s.length≤100000) (h0:0<s.length) (hd:qu s[0]=false) (h34:¬ s[0]=34) (hsm:Qh s[0]=true) {K:SV→St→Prop} {st:St} (hk:FU (Xc s 0) K st):ACalls prog 33 [.sc (.string (ba s))] K st:=by
 refine zn [] func33 rfl results33 ntmps33 ?_
 have hg0:=ZQ h0
 have hin0:qe s[0]=true:=by unfold qe;simp[hsm]
 rw[tok_hd h0,hd,if_neg (by decide),if_neg h34,if_pos (by simp[hsm])] at hk
 have e34:=ZI s[0] 34 34 rfl
 have f34:(s[0]==34)=false:=by simp[h34]
 have hz:1+qp qe (s.drop 1)=qp qe s:=Q9 (i:=0) (by simp) h0 hin0
 have hle:=JJ qe s
 obtain⟨z,hzz⟩:∃ z,z=qp qe s:=⟨_,rfl⟩
 rw[←hzz] at hk
 generalize hc0:s[0]=c0 at *
 simp only[go_sem,zo,hg0]
 refine⟨by omega,?_⟩
 refine ZS ?_
 simp only[go_sem,hd,e34,f34,zo,hg0]
 first | (unfold zl;simp only[ze,zc,zq,List.set_cons_succ,List.set_cons_zero,List.getD_cons_succ,List.getD_cons_zero]) | skip
 refine ZZ ?_
 simp only[go_sem,hd,e34,f34,zo,hg0,hsm]
 refine AWp.mono (Q:=tz s st z c0) ?_ ?_
 ·refine zN [] (fun m env s'=>∃ i:Nat,m+i=s.length∧i+qp qe (s.drop i)=qp qe s∧env=[.sc (.string (ba s)),.any,.ptr st.length 0,.any,.any,.sc (.int .u8 c0.toNat),.sc (.int .i64 i),.any,.any,.any,.any,.any,.any,.any,.any,.any,.any,.any,.any,.any,.any,.any,.any,.any,.any,.any,.any,.any,.any,.any,.any,.any,.any,.any,.any,.any,.any,.any,.any,.any,.any,.any,.any,.any,.any,.any,.any,.any,.any,.any,.any,.any,.any,.any,.any,.any,.any,.any,.any,.any,.any,.any,.any,.any,.any,.any,.any,.any,.any,.any,.any,.any,.any,.any,.any,.any,.any,.any,.any,.any,.any,.any,.any,.any,.any,.any,.any,.any,.any,.any,.any,.any,.any,.any,.any,.any,.any,.any,.any,.any,.any,.any,.any,.any,.any,.any,.any,.any,.any,.any,.any,.any,.any,.any,.any,.any,.any,.any,.any,.any,.any,.any,.any,.any,.any,.any,.any,.any,.any,.any,.any,.any,.any,.any,.any,.any,.any]∧s'=st++[Li]) (n:=s.length-1) ?_ ⟨1,by omega,hz,rfl,rfl⟩ ?_
  ·repeat (first | exact zj | refine zk _ ?_ | refine zg _ ?_ | refine zf _ ?_)
  rintro m env s' ⟨i,hm,hi,rfl,rfl⟩
  have w1:IntKind.i64.wrap ((i:Int)+1)=((i+1:Nat):Int):=by rw[IntWalk.i64_in _ (by omega)];rfl
  by_cases hl:i<s.length
  rotate_left
  ·have c1:decide ((i:Int)<(s.length:Int))=false:=by simp;omega
   have:=JM hi (fun h=>absurd h hl)
   simp only[go_sem,zo,c1]
   obtain rfl:i=z:=by omega
   exact⟨rfl,⟨_,_,_,_,_,_,_,_,_,_,_,_,_,_,_,_,_,_,_,_,_,_,_,_,_,_,_,_,rfl⟩,rfl⟩
  have c1:decide ((i:Int)<(s.length:Int))=true:=by simp;omega
  have hgi:=ZQ hl
  obtain⟨c,hc⟩:∃ c,c=s[i]:=⟨_,rfl⟩
  have hin:qe c=qe s[i]:=by rw[hc]
  rw[←hc] at hgi
  have e95:=ZI c 95 95 rfl
  cases a1:Qh c with
  | true =>
   have hin:qe s[i]=true:=by rw[←hc];unfold qe;simp[a1]
   simp only[go_sem,zo,c1,hgi]
   refine⟨by omega,?_⟩
   first | (unfold zl;simp only[ze,zc,zq,List.set_cons_succ,List.set_cons_zero,List.getD_cons_succ,List.getD_cons_zero]) | skip
   refine ZZ ?_
   simp only[go_sem,zo,c1,hgi,a1,w1]
   refine⟨m-1,_,by omega,?_,i+1,by omega,Q9 hi hl hin,rfl⟩
   repeat (first | exact zj | refine zk _ ?_ | refine zg _ ?_ | refine zf _ ?_)
  | false =>
   cases a2:ZK c with
   | true =>
    have hin:qe s[i]=true:=by rw[←hc];unfold qe;simp[a2]
    simp only[go_sem,zo,c1,hgi]
    refine⟨by omega,?_⟩
    first | (unfold zl;simp only[ze,zc,zq,List.set_cons_succ,List.set_cons_zero,List.getD_cons_succ,List.getD_cons_zero]) | skip
    refine ZZ ?_
    simp only[go_sem,zo,c1,hgi,a1]
    refine⟨by omega,?_⟩
    first | (unfold zl;simp only[ze,zc,zq,List.set_cons_succ,List.set_cons_zero,List.getD_cons_succ,List.getD_cons_zero]) | skip
    refine ZY ?_
    simp only[go_sem,zo,c1,hgi,a1,a2,w1]
    refine⟨m-1,_,by omega,?_,i+1,by omega,Q9 hi hl hin,rfl⟩
    repeat (first | exact zj | refine zk _ ?_ | refine zg _ ?_ | refine zf _ ?_)
   | false =>
    cases a3:qu c with
    | true =>
     have hin:qe s[i]=true:=by rw[←hc];unfold qe;simp[a3]
     simp only[go_sem,zo,c1,hgi]
     refine⟨by omega,?_⟩
     first | (unfold zl;simp only[ze,zc,zq,List.set_cons_succ,List.set_cons_zero,List.getD_cons_succ,List.getD_cons_zero]) | skip
     refine ZZ ?_
     simp only[go_sem,zo,c1,hgi,a1]
     refine⟨by omega,?_⟩
     first | (unfold zl;simp only[ze,zc,zq,List.set_cons_succ,List.set_cons_zero,List.getD_cons_succ,List.getD_cons_zero]) | skip
     refine ZY ?_
     simp only[go_sem,zo,c1,hgi,a1,a2]
     refine⟨by omega,?_⟩
     first | (unfold zl;simp only[ze,zc,zq,List.set_cons_succ,List.set_cons_zero,List.getD_cons_succ,List.getD_cons_zero]) | skip
     refine ZS ?_
     simp only[go_sem,zo,c1,hgi,a1,a2,a3,w1]
     refine⟨m-1,_,by omega,?_,i+1,by omega,Q9 hi hl hin,rfl⟩
     repeat (first | exact zj | refine zk _ ?_ | refine zg _ ?_ | refine zf _ ?_)
    | false =>
     by_cases h95:c=95
     ·have f95:(c==95)=true:=by simp[h95]
      have hin:qe s[i]=true:=by rw[←hc];unfold qe;simp[h95]
      simp only[go_sem,zo,c1,hgi]
      refine⟨by omega,?_⟩
      first | (unfold zl;simp only[ze,zc,zq,List.set_cons_succ,List.set_cons_zero,List.getD_cons_succ,List.getD_cons_zero]) | skip
      refine ZZ ?_
      simp only[go_sem,zo,c1,hgi,a1]
      refine⟨by omega,?_⟩
      first | (unfold zl;simp only[ze,zc,zq,List.set_cons_succ,List.set_cons_zero,List.getD_cons_succ,List.getD_cons_zero]) | skip
      refine ZY ?_
      simp only[go_sem,zo,c1,hgi,a1,a2]
      refine⟨by omega,?_⟩
      first | (unfold zl;simp only[ze,zc,zq,List.set_cons_succ,List.set_cons_zero,List.getD_cons_succ,List.getD_cons_zero]) | skip
      refine ZS ?_
      simp only[go_sem,zo,c1,hgi,a1,a2,a3,e95,f95,w1]
      refine⟨by omega,m-1,_,by omega,?_,i+1,by omega,Q9 hi hl hin,rfl⟩
      repeat (first | exact zj | refine zk _ ?_ | refine zg _ ?_ | refine zf _ ?_)
     ·have f95:(c==95)=false:=by simp[h95]
      have hin:qe s[i]=false:=by rw[←hc];unfold qe;simp[a1,a2,a3,h95]
      have:=JM hi (fun _=>hin)
      simp only[go_sem,zo,c1,hgi]
      refine⟨by omega,?_⟩
      first | (unfold zl;simp only[ze,zc,zq,List.set_cons_succ,List.set_cons_zero,List.getD_cons_succ,List.getD_cons_zero]) | skip
      refine ZZ ?_
      simp only[go_sem,zo,c1,hgi,a1]
      refine⟨by omega,?_⟩
      first | (unfold zl;simp only[ze,zc,zq,List.set_cons_succ,List.set_cons_zero,List.getD_cons_succ,List.getD_cons_zero]) | skip
      refine ZY ?_
      simp only[go_sem,zo,c1,hgi,a1,a2]
      refine⟨by omega,?_⟩
      first | (unfold zl;simp only[ze,zc,zq,List.set_cons_succ,List.set_cons_zero,List.getD_cons_succ,List.getD_cons_zero]) | skip
      refine ZS ?_
      simp only[go_sem,zo,c1,hgi,a1,a2,a3,e95,f95,w1]
      obtain rfl:i=z:=by omega
      exact⟨by omega,rfl,⟨_,_,_,_,_,_,_,_,_,_,_,_,_,_,_,_,_,_,_,_,_,_,_,_,_,_,_,_,rfl⟩,rfl⟩
 ·rintro e env s' ⟨rfl,⟨y71,y72,y73,y74,y75,y76,y77,y78,y79,y80,y81,y82,y83,y84,y85,y86,y87,y88,y89,y90,y91,y92,y93,y94,y95,y96,y97,y98,rfl⟩,rfl⟩
  have hx:∀ n,(ba s).extract 0 n=ba (s.take n):=fun n=>by rw[qR];simp
  by_cases h16:16<z
  ·have c1:decide ((16:Int)<(z:Int))=true:=by simp;omega
   rw[if_pos h16] at hk
   simp only[go_sem,gt_iff_lt,c1,Li]
   exact zQ (Xt _ ⟨0,[],0,0⟩ _ _) (hk ⟨0,[],0,0⟩ 0)
  ·have c1:decide ((16:Int)<(z:Int))=false:=by simp;omega
   rw[if_neg h16] at hk
   have hlg:ZK c0=false:=LL hsm
   rw[hlg,if_neg (by decide)] at hk
   by_cases hkey:s.take z∈keysL
   ·have ck:decide (s.take z∈keysL)=true:=by simp[hkey]
    rw[if_pos hkey] at hk
    simp only[go_sem,gt_iff_lt,c1,Li,zo,hx]
    refine⟨by omega,?_⟩
    first | (unfold zl;simp only[ze,zc,zq,List.set_cons_succ,List.set_cons_zero,List.getD_cons_succ,List.getD_cons_zero]) | skip
    refine ZY ?_
    simp only[go_sem,gt_iff_lt,c1,Li,zo,hx,hlg]
    refine⟨by omega,?_⟩
    first | (unfold zl;simp only[ze,zc,zq,List.set_cons_succ,List.set_cons_zero,List.getD_cons_succ,List.getD_cons_zero]) | skip
    refine vN ck ?_
    simp only[go_sem,gt_iff_lt,c1,Li,zo,hx,hlg]
    exact zQ (Xt _ ⟨6,s.take z,0,0⟩ _ _) hk
   ·have ck:decide (s.take z∈keysL)=false:=by simp[hkey]
    rw[if_neg hkey] at hk
    simp only[go_sem,gt_iff_lt,c1,Li,zo,hx]
    refine⟨by omega,?_⟩
    first | (unfold zl;simp only[ze,zc,zq,List.set_cons_succ,List.set_cons_zero,List.getD_cons_succ,List.getD_cons_zero]) | skip
    refine ZY ?_
    simp only[go_sem,gt_iff_lt,c1,Li,zo,hx,hlg]
    refine⟨by omega,?_⟩
    first | (unfold zl;simp only[ze,zc,zq,List.set_cons_succ,List.set_cons_zero,List.getD_cons_succ,List.getD_cons_zero]) | skip
    refine vN ck ?_
    simp only[go_sem,gt_iff_lt,c1,Li,zo,hx,hlg]
    exact zQ (Xt _ ⟨3,s.take z,0,0⟩ _ _) hk
theorem tX {s:Tx} (hs:s.length≤100000) (h0:0<s.length) (hd:qu s[0]=false) (h34:¬ s[0]=34) (hsm:Qh s[0]=false) (hlg:ZK s[0]=true) {K:SV→St→Prop} {st:St} (hk:FU (Xc s 0) K st):ACalls prog 33 [.sc (.string (ba s))] K st:=by
 refine zn [] func33 rfl results33 ntmps33 ?_
 have hg0:=ZQ h0
 have hin0:qe s[0]=true:=by unfold qe;simp[hsm,hlg]
 rw[tok_hd h0,hd,if_neg (by decide),if_neg h34,if_pos (by simp[hsm,hlg])] at hk
 have e34:=ZI s[0] 34 34 rfl
 have f34:(s[0]==34)=false:=by simp[h34]
 have hz:1+qp qe (s.drop 1)=qp qe s:=Q9 (i:=0) (by simp) h0 hin0
 have hle:=JJ qe s
 obtain⟨z,hzz⟩:∃ z,z=qp qe s:=⟨_,rfl⟩
 rw[←hzz] at hk
 generalize hc0:s[0]=c0 at *
 simp only[go_sem,zo,hg0]
 refine⟨by omega,?_⟩
 refine ZS ?_
 simp only[go_sem,hd,e34,f34,zo,hg0]
 first | (unfold zl;simp only[ze,zc,zq,List.set_cons_succ,List.set_cons_zero,List.getD_cons_succ,List.getD_cons_zero]) | skip
 refine ZZ ?_
 simp only[go_sem,hd,e34,f34,zo,hg0,hsm]
 first | (unfold zl;simp only[ze,zc,zq,List.set_cons_succ,List.set_cons_zero,List.getD_cons_succ,List.getD_cons_zero]) | skip
 refine ZY ?_
 simp only[go_sem,hd,e34,f34,zo,hg0,hsm,hlg]
 refine AWp.mono (Q:=tz s st z c0) ?_ ?_
 ·refine zN [] (fun m env s'=>∃ i:Nat,m+i=s.length∧i+qp qe (s.drop i)=qp qe s∧env=[.sc (.string (ba s)),.any,.ptr st.length 0,.any,.any,.sc (.int .u8 c0.toNat),.sc (.int .i64 i),.any,.any,.any,.any,.any,.any,.any,.any,.any,.any,.any,.any,.any,.any,.any,.any,.any,.any,.any,.any,.any,.any,.any,.any,.any,.any,.any,.any,.any,.any,.any,.any,.any,.any,.any,.any,.any,.any,.any,.any,.any,.any,.any,.any,.any,.any,.any,.any,.any,.any,.any,.any,.any,.any,.any,.any,.any,.any,.any,.any,.any,.any,.any,.any,.any,.any,.any,.any,.any,.any,.any,.any,.any,.any,.any,.any,.any,.any,.any,.any,.any,.any,.any,.any,.any,.any,.any,.any,.any,.any,.any,.any,.any,.any,.any,.any,.any,.any,.any,.any,.any,.any,.any,.any,.any,.any,.any,.any,.any,.any,.any,.any,.any,.any,.any,.any,.any,.any,.any,.any,.any,.any,.any,.any,.any,.any,.any,.any,.any,.any]∧s'=st++[Li]) (n:=s.length-1) ?_ ⟨1,by omega,hz,rfl,rfl⟩ ?_
  ·repeat (first | exact zj | refine zk _ ?_ | refine zg _ ?_ | refine zf _ ?_)
  rintro m env s' ⟨i,hm,hi,rfl,rfl⟩
  have w1:IntKind.i64.wrap ((i:Int)+1)=((i+1:Nat):Int):=by rw[IntWalk.i64_in _ (by omega)];rfl
  by_cases hl:i<s.length
  rotate_left
  ·have c1:decide ((i:Int)<(s.length:Int))=false:=by simp;omega
   have:=JM hi (fun h=>absurd h hl)
   simp only[go_sem,zo,c1]
   obtain rfl:i=z:=by omega
   exact⟨rfl,⟨_,_,_,_,_,_,_,_,_,_,_,_,_,_,_,_,_,_,_,_,_,_,_,_,_,_,_,_,rfl⟩,rfl⟩
  have c1:decide ((i:Int)<(s.length:Int))=true:=by simp;omega
  have hgi:=ZQ hl
  obtain⟨c,hc⟩:∃ c,c=s[i]:=⟨_,rfl⟩
  have hin:qe c=qe s[i]:=by rw[hc]
  rw[←hc] at hgi
  have e95:=ZI c 95 95 rfl
  cases a1:Qh c with
  | true =>
   have hin:qe s[i]=true:=by rw[←hc];unfold qe;simp[a1]
   simp only[go_sem,zo,c1,hgi]
   refine⟨by omega,?_⟩
   first | (unfold zl;simp only[ze,zc,zq,List.set_cons_succ,List.set_cons_zero,List.getD_cons_succ,List.getD_cons_zero]) | skip
   refine ZZ ?_
   simp only[go_sem,zo,c1,hgi,a1,w1]
   refine⟨m-1,_,by omega,?_,i+1,by omega,Q9 hi hl hin,rfl⟩
   repeat (first | exact zj | refine zk _ ?_ | refine zg _ ?_ | refine zf _ ?_)
  | false =>
   cases a2:ZK c with
   | true =>
    have hin:qe s[i]=true:=by rw[←hc];unfold qe;simp[a2]
    simp only[go_sem,zo,c1,hgi]
    refine⟨by omega,?_⟩
    first | (unfold zl;simp only[ze,zc,zq,List.set_cons_succ,List.set_cons_zero,List.getD_cons_succ,List.getD_cons_zero]) | skip
    refine ZZ ?_
    simp only[go_sem,zo,c1,hgi,a1]
    refine⟨by omega,?_⟩
    first | (unfold zl;simp only[ze,zc,zq,List.set_cons_succ,List.set_cons_zero,List.getD_cons_succ,List.getD_cons_zero]) | skip
    refine ZY ?_
    simp only[go_sem,zo,c1,hgi,a1,a2,w1]
    refine⟨m-1,_,by omega,?_,i+1,by omega,Q9 hi hl hin,rfl⟩
    repeat (first | exact zj | refine zk _ ?_ | refine zg _ ?_ | refine zf _ ?_)
   | false =>
    cases a3:qu c with
    | true =>
     have hin:qe s[i]=true:=by rw[←hc];unfold qe;simp[a3]
     simp only[go_sem,zo,c1,hgi]
     refine⟨by omega,?_⟩
     first | (unfold zl;simp only[ze,zc,zq,List.set_cons_succ,List.set_cons_zero,List.getD_cons_succ,List.getD_cons_zero]) | skip
     refine ZZ ?_
     simp only[go_sem,zo,c1,hgi,a1]
     refine⟨by omega,?_⟩
     first | (unfold zl;simp only[ze,zc,zq,List.set_cons_succ,List.set_cons_zero,List.getD_cons_succ,List.getD_cons_zero]) | skip
     refine ZY ?_
     simp only[go_sem,zo,c1,hgi,a1,a2]
     refine⟨by omega,?_⟩
     first | (unfold zl;simp only[ze,zc,zq,List.set_cons_succ,List.set_cons_zero,List.getD_cons_succ,List.getD_cons_zero]) | skip
     refine ZS ?_
     simp only[go_sem,zo,c1,hgi,a1,a2,a3,w1]
     refine⟨m-1,_,by omega,?_,i+1,by omega,Q9 hi hl hin,rfl⟩
     repeat (first | exact zj | refine zk _ ?_ | refine zg _ ?_ | refine zf _ ?_)
    | false =>
     by_cases h95:c=95
     ·have f95:(c==95)=true:=by simp[h95]
      have hin:qe s[i]=true:=by rw[←hc];unfold qe;simp[h95]
      simp only[go_sem,zo,c1,hgi]
      refine⟨by omega,?_⟩
      first | (unfold zl;simp only[ze,zc,zq,List.set_cons_succ,List.set_cons_zero,List.getD_cons_succ,List.getD_cons_zero]) | skip
      refine ZZ ?_
      simp only[go_sem,zo,c1,hgi,a1]
      refine⟨by omega,?_⟩
      first | (unfold zl;simp only[ze,zc,zq,List.set_cons_succ,List.set_cons_zero,List.getD_cons_succ,List.getD_cons_zero]) | skip
      refine ZY ?_
      simp only[go_sem,zo,c1,hgi,a1,a2]
      refine⟨by omega,?_⟩
      first | (unfold zl;simp only[ze,zc,zq,List.set_cons_succ,List.set_cons_zero,List.getD_cons_succ,List.getD_cons_zero]) | skip
      refine ZS ?_
      simp only[go_sem,zo,c1,hgi,a1,a2,a3,e95,f95,w1]
      refine⟨by omega,m-1,_,by omega,?_,i+1,by omega,Q9 hi hl hin,rfl⟩
      repeat (first | exact zj | refine zk _ ?_ | refine zg _ ?_ | refine zf _ ?_)
     ·have f95:(c==95)=false:=by simp[h95]
      have hin:qe s[i]=false:=by rw[←hc];unfold qe;simp[a1,a2,a3,h95]
      have:=JM hi (fun _=>hin)
      simp only[go_sem,zo,c1,hgi]
      refine⟨by omega,?_⟩
      first | (unfold zl;simp only[ze,zc,zq,List.set_cons_succ,List.set_cons_zero,List.getD_cons_succ,List.getD_cons_zero]) | skip
      refine ZZ ?_
      simp only[go_sem,zo,c1,hgi,a1]
      refine⟨by omega,?_⟩
      first | (unfold zl;simp only[ze,zc,zq,List.set_cons_succ,List.set_cons_zero,List.getD_cons_succ,List.getD_cons_zero]) | skip
      refine ZY ?_
      simp only[go_sem,zo,c1,hgi,a1,a2]
      refine⟨by omega,?_⟩
      first | (unfold zl;simp only[ze,zc,zq,List.set_cons_succ,List.set_cons_zero,List.getD_cons_succ,List.getD_cons_zero]) | skip
      refine ZS ?_
      simp only[go_sem,zo,c1,hgi,a1,a2,a3,e95,f95,w1]
      obtain rfl:i=z:=by omega
      exact⟨by omega,rfl,⟨_,_,_,_,_,_,_,_,_,_,_,_,_,_,_,_,_,_,_,_,_,_,_,_,_,_,_,_,rfl⟩,rfl⟩
 ·rintro e env s' ⟨rfl,⟨y71,y72,y73,y74,y75,y76,y77,y78,y79,y80,y81,y82,y83,y84,y85,y86,y87,y88,y89,y90,y91,y92,y93,y94,y95,y96,y97,y98,rfl⟩,rfl⟩
  have hx:∀ n,(ba s).extract 0 n=ba (s.take n):=fun n=>by rw[qR];simp
  by_cases h16:16<z
  ·have c1:decide ((16:Int)<(z:Int))=true:=by simp;omega
   rw[if_pos h16] at hk
   simp only[go_sem,gt_iff_lt,c1,Li]
   exact zQ (Xt _ ⟨0,[],0,0⟩ _ _) (hk ⟨0,[],0,0⟩ 0)
  ·have c1:decide ((16:Int)<(z:Int))=false:=by simp;omega
   rw[if_neg h16] at hk
   simp only[go_sem,gt_iff_lt,c1,Li,zo,hx]
   refine⟨by omega,?_⟩
   first | (unfold zl;simp only[ze,zc,zq,List.set_cons_succ,List.set_cons_zero,List.getD_cons_succ,List.getD_cons_zero]) | skip
   refine ZY ?_
   rw[hlg,if_pos rfl] at hk
   simp only[go_sem,gt_iff_lt,c1,Li,zo,hx,hlg]
   exact zQ (Xt _ ⟨4,s.take z,0,0⟩ _ _) hk
theorem mP {s:Tx} (hs:s.length≤100000) (h0:0<s.length) {K:SV→St→Prop} {st:St} (hk:FU (Xc s 0) K st):ACalls prog 33 [.sc (.string (ba s))] K st:=by
 cases hd:qu s[0] with
 | true=>exact fQ hs h0 hd hk
 | false =>
  by_cases h34:s[0]=34
  ·exact cV hs h0 hd h34 hk
  cases hsm:Qh s[0] with
  | true=>exact oQ hs h0 hd h34 hsm hk
  | false =>
   cases hlg:ZK s[0] with
   | true=>exact tX hs h0 hd h34 hsm hlg hk
   | false =>
    by_cases h45:s[0]=45
    ·by_cases h1:1<s.length
     ·by_cases h62:s[1]=62
      ·exact gP hs h0 hd h34 hsm hlg hk h1 h45 h62
      ·exact Lr hs h0 hd h34 hsm hlg hk h45 (fun _=>h62)
     ·exact Lr hs h0 hd h34 hsm hlg hk h45 (fun h=>absurd h h1)
    ·exact pU hs h0 hd h34 hsm hlg hk h45
end Go.Proofs
