/- The document's lexer: names; token. -/
import Derived.Test.YtkokccjfpebomaaGreatDoorW49
import Derived.Test.YtkokccjfpebomaaGreatDoorS7
set_option linter.all false
set_option maxHeartbeats 4000000
set_option maxRecDepth 8000
namespace Go.Proofs
open Go Go.AL Tryz
theorem gI{w:Tx}{v:Bool}(hv:decide (w∈keysL)=v){K:SV→St→Prop}{st:St}(hk:K (.sc (.bool v)) st):ACalls prog 57 [.sc (.string (ba w))] K st:=by
 subst hv;exact sC hk
def sm(s:Tx)(st:St)(z:Nat)(c0:UInt8)(e:Exit)(env:List SV)(s':St):Prop:=e = .exit 4∧(∃ y71 y72 y73 y74 y75 y76 y77 y78 y79 y80 y81 y82 y83 y84 y85 y86 y87 y88 y89 y90 y91 y92 y93 y94 y95 y96 y97 y98,env=[.sc (.string (ba s)),.any,.ptr st.length 0,.any,.any,.sc (.int .u8 c0.toNat),.sc (.int .i64 z),.any,.any,.any,.any,.any,.any,.any,.any,.any,.any,.any,.any,.any,.any,.any,.any,.any,.any,.any,.any,.any,.any,.any,.any,.any,.any,.any,.any,.any,.any,.any,.any,.any,.any,.any,.any,.any,.any,.any,.any,.any,.any,.any,.any,.any,.any,.any,.any,.any,.any,.any,.any,.any,.any,.any,.any,.any,.any,.any,.any,.any,.any,.any,.any,y71,y72,y73,y74,y75,y76,y77,y78,y79,y80,y81,y82,y83,y84,y85,y86,y87,y88,y89,y90,y91,y92,y93,y94,y95,y96,y97,y98,.any,.any,.any,.any,.any,.any,.any,.any,.any,.any,.any,.any,.any,.any,.any,.any,.any,.any,.any,.any,.any,.any,.any,.any,.any,.any,.any,.any,.any,.any,.any,.any,.any,.any,.any,.any,.any,.any])∧s'=st++[wk]
theorem vB:∀ {c:UInt8},Zb c=true→qS c=false:=fun {c}=>jz (P:=fun c=>Zb c=true→qS c=false) (by decide +kernel) c
theorem Ct{s:Tx}(hs:s.length≤100000)(h0:0<s.length)(hd:qb s[0]=false)(h34:¬ s[0]=34)(hsm:Zb s[0]=true){K:SV→St→Prop}{st:St}(hk:LU (XO s 0) K st):ACalls prog 33 [.sc (.string (ba s))] K st:=by
 refine zd [] func33 rfl results33 ntmps33 ?_;have hg0:=ZJ h0;have hin0:zL s[0]=true:=by unfold zL;simp[hsm]
 rw[tok_hd h0,hd,if_neg (by decide),if_neg h34,if_pos (by simp[hsm])] at hk;have e34:=ZC s[0] 34 34 rfl;have f34:(s[0]==34)=false:=by simp[h34]
 have hz:1+zY zL (s.drop 1)=zY zL s:=Xx (i:=0) (by simp) h0 hin0;have hle:=V0 zL s;obtain⟨z,hzz⟩:∃ z,z=zY zL s:=⟨_,rfl⟩;rw[←hzz] at hk;generalize hc0:s[0]=c0 at *;simp only[go_sem,zg,hg0];refine⟨by omega,?_⟩;refine Z6 ?_;simp only[go_sem,hd,e34,f34,zg,hg0];first | (unfold zf;simp only[ze,zc,zl,xsS,xsZ,xgS,xgZ]) | skip
 refine Qg ?_;simp only[go_sem,hd,e34,f34,zg,hg0,hsm];refine AWp.mono (Q:=sm s st z c0) ?_ ?_
 ·refine zx [] (fun m env s'=>∃ i:Nat,m+i=s.length∧i+zY zL (s.drop i)=zY zL s∧env=[.sc (.string (ba s)),.any,.ptr st.length 0,.any,.any,.sc (.int .u8 c0.toNat),.sc (.int .i64 i),.any,.any,.any,.any,.any,.any,.any,.any,.any,.any,.any,.any,.any,.any,.any,.any,.any,.any,.any,.any,.any,.any,.any,.any,.any,.any,.any,.any,.any,.any,.any,.any,.any,.any,.any,.any,.any,.any,.any,.any,.any,.any,.any,.any,.any,.any,.any,.any,.any,.any,.any,.any,.any,.any,.any,.any,.any,.any,.any,.any,.any,.any,.any,.any,.any,.any,.any,.any,.any,.any,.any,.any,.any,.any,.any,.any,.any,.any,.any,.any,.any,.any,.any,.any,.any,.any,.any,.any,.any,.any,.any,.any,.any,.any,.any,.any,.any,.any,.any,.any,.any,.any,.any,.any,.any,.any,.any,.any,.any,.any,.any,.any,.any,.any,.any,.any,.any,.any,.any,.any,.any,.any,.any,.any,.any,.any,.any,.any,.any,.any]∧s'=st++[wk]) (n:=s.length-1) ?_ ⟨1,by omega,hz,rfl,rfl⟩ ?_
  ·exact qu
  rintro m env s' ⟨i,hm,hi,rfl,rfl⟩;have w1:IntKind.i64.wrap ((i:Int)+1)=((i+1:Nat):Int):=by rw[IntWalk.i64_in _ (by omega)];rfl
  by_cases hl:i<s.length
  rotate_left
  ·have c1:decide ((i:Int)<(s.length:Int))=false:=by simp;omega
   have:=Vk hi (fun h=>absurd h hl);simp only[go_sem,zg,c1];obtain rfl:i=z:=by omega
   exact⟨rfl,⟨_,_,_,_,_,_,_,_,_,_,_,_,_,_,_,_,_,_,_,_,_,_,_,_,_,_,_,_,rfl⟩,rfl⟩
  have c1:decide ((i:Int)<(s.length:Int))=true:=by simp;omega
  have hgi:=ZJ hl;obtain⟨c,hc⟩:∃ c,c=s[i]:=⟨_,rfl⟩;have hin:zL c=zL s[i]:=by rw[hc]
  rw[←hc] at hgi;have e95:=ZC c 95 95 rfl;cases a1:Zb c with
  | true =>
   have hin:zL s[i]=true:=by rw[←hc];unfold zL;simp[a1]
   simp only[go_sem,zg,c1,hgi];refine⟨by omega,?_⟩;first | (unfold zf;simp only[ze,zc,zl,xsS,xsZ,xgS,xgZ]) | skip
   refine Qg ?_;simp only[go_sem,zg,c1,hgi,a1,w1];refine⟨m-1,_,by omega,?_,i+1,by omega,Xx hi hl hin,rfl⟩;exact qu
  | false =>
   cases a2:qS c with
   | true =>
    have hin:zL s[i]=true:=by rw[←hc];unfold zL;simp[a2]
    simp only[go_sem,zg,c1,hgi];refine⟨by omega,?_⟩;first | (unfold zf;simp only[ze,zc,zl,xsS,xsZ,xgS,xgZ]) | skip
    refine Qg ?_;simp only[go_sem,zg,c1,hgi,a1];refine⟨by omega,?_⟩;first | (unfold zf;simp only[ze,zc,zl,xsS,xsZ,xgS,xgZ]) | skip
    refine Qi ?_;simp only[go_sem,zg,c1,hgi,a1,a2,w1];refine⟨m-1,_,by omega,?_,i+1,by omega,Xx hi hl hin,rfl⟩;exact qu
   | false =>
    cases a3:qb c with
    | true =>
     have hin:zL s[i]=true:=by rw[←hc];unfold zL;simp[a3]
     simp only[go_sem,zg,c1,hgi];refine⟨by omega,?_⟩;first | (unfold zf;simp only[ze,zc,zl,xsS,xsZ,xgS,xgZ]) | skip
     refine Qg ?_;simp only[go_sem,zg,c1,hgi,a1];refine⟨by omega,?_⟩;first | (unfold zf;simp only[ze,zc,zl,xsS,xsZ,xgS,xgZ]) | skip
     refine Qi ?_;simp only[go_sem,zg,c1,hgi,a1,a2];refine⟨by omega,?_⟩;first | (unfold zf;simp only[ze,zc,zl,xsS,xsZ,xgS,xgZ]) | skip
     refine Z6 ?_;simp only[go_sem,zg,c1,hgi,a1,a2,a3,w1];refine⟨m-1,_,by omega,?_,i+1,by omega,Xx hi hl hin,rfl⟩;exact qu
    | false =>
     by_cases h95:c=95
     ·have f95:(c==95)=true:=by simp[h95]
      have hin:zL s[i]=true:=by rw[←hc];unfold zL;simp[h95]
      simp only[go_sem,zg,c1,hgi];refine⟨by omega,?_⟩;first | (unfold zf;simp only[ze,zc,zl,xsS,xsZ,xgS,xgZ]) | skip
      refine Qg ?_;simp only[go_sem,zg,c1,hgi,a1];refine⟨by omega,?_⟩;first | (unfold zf;simp only[ze,zc,zl,xsS,xsZ,xgS,xgZ]) | skip
      refine Qi ?_;simp only[go_sem,zg,c1,hgi,a1,a2];refine⟨by omega,?_⟩;first | (unfold zf;simp only[ze,zc,zl,xsS,xsZ,xgS,xgZ]) | skip
      refine Z6 ?_;simp only[go_sem,zg,c1,hgi,a1,a2,a3,e95,f95,w1];refine⟨by omega,m-1,_,by omega,?_,i+1,by omega,Xx hi hl hin,rfl⟩;exact qu
     ·have f95:(c==95)=false:=by simp[h95]
      have hin:zL s[i]=false:=by rw[←hc];unfold zL;simp[a1,a2,a3,h95]
      have:=Vk hi (fun _=>hin);simp only[go_sem,zg,c1,hgi];refine⟨by omega,?_⟩;first | (unfold zf;simp only[ze,zc,zl,xsS,xsZ,xgS,xgZ]) | skip
      refine Qg ?_;simp only[go_sem,zg,c1,hgi,a1];refine⟨by omega,?_⟩;first | (unfold zf;simp only[ze,zc,zl,xsS,xsZ,xgS,xgZ]) | skip
      refine Qi ?_;simp only[go_sem,zg,c1,hgi,a1,a2];refine⟨by omega,?_⟩;first | (unfold zf;simp only[ze,zc,zl,xsS,xsZ,xgS,xgZ]) | skip
      refine Z6 ?_;simp only[go_sem,zg,c1,hgi,a1,a2,a3,e95,f95,w1];obtain rfl:i=z:=by omega
      exact⟨by omega,rfl,⟨_,_,_,_,_,_,_,_,_,_,_,_,_,_,_,_,_,_,_,_,_,_,_,_,_,_,_,_,rfl⟩,rfl⟩
 ·rintro e env s' ⟨rfl,⟨y71,y72,y73,y74,y75,y76,y77,y78,y79,y80,y81,y82,y83,y84,y85,y86,y87,y88,y89,y90,y91,y92,y93,y94,y95,y96,y97,y98,rfl⟩,rfl⟩;have hx:∀ n,(ba s).extract 0 n=ba (s.take n):=fun n=>by rw[qM];simp
  by_cases h16:16<z
  ·have c1:decide ((16:Int)<(z:Int))=true:=by simp;omega
   rw[if_pos h16] at hk;simp only[go_sem,gt_iff_lt,c1,wk];exact zF (XJ _ ⟨0,[],0,0⟩ _ _) (hk ⟨0,[],0,0⟩ 0)
  ·have c1:decide ((16:Int)<(z:Int))=false:=by simp;omega
   rw[if_neg h16] at hk;have hlg:qS c0=false:=vB hsm;rw[hlg,if_neg (by decide)] at hk;by_cases hkey:s.take z∈keysL
   ·have ck:decide (s.take z∈keysL)=true:=by simp[hkey]
    rw[if_pos hkey] at hk;simp only[go_sem,gt_iff_lt,c1,wk,zg,hx];refine⟨by omega,?_⟩;first | (unfold zf;simp only[ze,zc,zl,xsS,xsZ,xgS,xgZ]) | skip
    refine Qi ?_;simp only[go_sem,gt_iff_lt,c1,wk,zg,hx,hlg];refine⟨by omega,?_⟩;first | (unfold zf;simp only[ze,zc,zl,xsS,xsZ,xgS,xgZ]) | skip
    refine gI ck ?_;simp only[go_sem,gt_iff_lt,c1,wk,zg,hx,hlg];exact zF (XJ _ ⟨6,s.take z,0,0⟩ _ _) hk
   ·have ck:decide (s.take z∈keysL)=false:=by simp[hkey]
    rw[if_neg hkey] at hk;simp only[go_sem,gt_iff_lt,c1,wk,zg,hx];refine⟨by omega,?_⟩;first | (unfold zf;simp only[ze,zc,zl,xsS,xsZ,xgS,xgZ]) | skip
    refine Qi ?_;simp only[go_sem,gt_iff_lt,c1,wk,zg,hx,hlg];refine⟨by omega,?_⟩;first | (unfold zf;simp only[ze,zc,zl,xsS,xsZ,xgS,xgZ]) | skip
    refine gI ck ?_;simp only[go_sem,gt_iff_lt,c1,wk,zg,hx,hlg];exact zF (XJ _ ⟨3,s.take z,0,0⟩ _ _) hk
theorem Cx{s:Tx}(hs:s.length≤100000)(h0:0<s.length)(hd:qb s[0]=false)(h34:¬ s[0]=34)(hsm:Zb s[0]=false)(hlg:qS s[0]=true){K:SV→St→Prop}{st:St}(hk:LU (XO s 0) K st):ACalls prog 33 [.sc (.string (ba s))] K st:=by
 refine zd [] func33 rfl results33 ntmps33 ?_;have hg0:=ZJ h0;have hin0:zL s[0]=true:=by unfold zL;simp[hsm,hlg]
 rw[tok_hd h0,hd,if_neg (by decide),if_neg h34,if_pos (by simp[hsm,hlg])] at hk;have e34:=ZC s[0] 34 34 rfl;have f34:(s[0]==34)=false:=by simp[h34]
 have hz:1+zY zL (s.drop 1)=zY zL s:=Xx (i:=0) (by simp) h0 hin0;have hle:=V0 zL s;obtain⟨z,hzz⟩:∃ z,z=zY zL s:=⟨_,rfl⟩;rw[←hzz] at hk;generalize hc0:s[0]=c0 at *;simp only[go_sem,zg,hg0];refine⟨by omega,?_⟩;refine Z6 ?_;simp only[go_sem,hd,e34,f34,zg,hg0];first | (unfold zf;simp only[ze,zc,zl,xsS,xsZ,xgS,xgZ]) | skip
 refine Qg ?_;simp only[go_sem,hd,e34,f34,zg,hg0,hsm];first | (unfold zf;simp only[ze,zc,zl,xsS,xsZ,xgS,xgZ]) | skip
 refine Qi ?_;simp only[go_sem,hd,e34,f34,zg,hg0,hsm,hlg];refine AWp.mono (Q:=sm s st z c0) ?_ ?_
 ·refine zx [] (fun m env s'=>∃ i:Nat,m+i=s.length∧i+zY zL (s.drop i)=zY zL s∧env=[.sc (.string (ba s)),.any,.ptr st.length 0,.any,.any,.sc (.int .u8 c0.toNat),.sc (.int .i64 i),.any,.any,.any,.any,.any,.any,.any,.any,.any,.any,.any,.any,.any,.any,.any,.any,.any,.any,.any,.any,.any,.any,.any,.any,.any,.any,.any,.any,.any,.any,.any,.any,.any,.any,.any,.any,.any,.any,.any,.any,.any,.any,.any,.any,.any,.any,.any,.any,.any,.any,.any,.any,.any,.any,.any,.any,.any,.any,.any,.any,.any,.any,.any,.any,.any,.any,.any,.any,.any,.any,.any,.any,.any,.any,.any,.any,.any,.any,.any,.any,.any,.any,.any,.any,.any,.any,.any,.any,.any,.any,.any,.any,.any,.any,.any,.any,.any,.any,.any,.any,.any,.any,.any,.any,.any,.any,.any,.any,.any,.any,.any,.any,.any,.any,.any,.any,.any,.any,.any,.any,.any,.any,.any,.any,.any,.any,.any,.any,.any,.any]∧s'=st++[wk]) (n:=s.length-1) ?_ ⟨1,by omega,hz,rfl,rfl⟩ ?_
  ·exact qu
  rintro m env s' ⟨i,hm,hi,rfl,rfl⟩;have w1:IntKind.i64.wrap ((i:Int)+1)=((i+1:Nat):Int):=by rw[IntWalk.i64_in _ (by omega)];rfl
  by_cases hl:i<s.length
  rotate_left
  ·have c1:decide ((i:Int)<(s.length:Int))=false:=by simp;omega
   have:=Vk hi (fun h=>absurd h hl);simp only[go_sem,zg,c1];obtain rfl:i=z:=by omega
   exact⟨rfl,⟨_,_,_,_,_,_,_,_,_,_,_,_,_,_,_,_,_,_,_,_,_,_,_,_,_,_,_,_,rfl⟩,rfl⟩
  have c1:decide ((i:Int)<(s.length:Int))=true:=by simp;omega
  have hgi:=ZJ hl;obtain⟨c,hc⟩:∃ c,c=s[i]:=⟨_,rfl⟩;have hin:zL c=zL s[i]:=by rw[hc]
  rw[←hc] at hgi;have e95:=ZC c 95 95 rfl;cases a1:Zb c with
  | true =>
   have hin:zL s[i]=true:=by rw[←hc];unfold zL;simp[a1]
   simp only[go_sem,zg,c1,hgi];refine⟨by omega,?_⟩;first | (unfold zf;simp only[ze,zc,zl,xsS,xsZ,xgS,xgZ]) | skip
   refine Qg ?_;simp only[go_sem,zg,c1,hgi,a1,w1];refine⟨m-1,_,by omega,?_,i+1,by omega,Xx hi hl hin,rfl⟩;exact qu
  | false =>
   cases a2:qS c with
   | true =>
    have hin:zL s[i]=true:=by rw[←hc];unfold zL;simp[a2]
    simp only[go_sem,zg,c1,hgi];refine⟨by omega,?_⟩;first | (unfold zf;simp only[ze,zc,zl,xsS,xsZ,xgS,xgZ]) | skip
    refine Qg ?_;simp only[go_sem,zg,c1,hgi,a1];refine⟨by omega,?_⟩;first | (unfold zf;simp only[ze,zc,zl,xsS,xsZ,xgS,xgZ]) | skip
    refine Qi ?_;simp only[go_sem,zg,c1,hgi,a1,a2,w1];refine⟨m-1,_,by omega,?_,i+1,by omega,Xx hi hl hin,rfl⟩;exact qu
   | false =>
    cases a3:qb c with
    | true =>
     have hin:zL s[i]=true:=by rw[←hc];unfold zL;simp[a3]
     simp only[go_sem,zg,c1,hgi];refine⟨by omega,?_⟩;first | (unfold zf;simp only[ze,zc,zl,xsS,xsZ,xgS,xgZ]) | skip
     refine Qg ?_;simp only[go_sem,zg,c1,hgi,a1];refine⟨by omega,?_⟩;first | (unfold zf;simp only[ze,zc,zl,xsS,xsZ,xgS,xgZ]) | skip
     refine Qi ?_;simp only[go_sem,zg,c1,hgi,a1,a2];refine⟨by omega,?_⟩;first | (unfold zf;simp only[ze,zc,zl,xsS,xsZ,xgS,xgZ]) | skip
     refine Z6 ?_;simp only[go_sem,zg,c1,hgi,a1,a2,a3,w1];refine⟨m-1,_,by omega,?_,i+1,by omega,Xx hi hl hin,rfl⟩;exact qu
    | false =>
     by_cases h95:c=95
     ·have f95:(c==95)=true:=by simp[h95]
      have hin:zL s[i]=true:=by rw[←hc];unfold zL;simp[h95]
      simp only[go_sem,zg,c1,hgi];refine⟨by omega,?_⟩;first | (unfold zf;simp only[ze,zc,zl,xsS,xsZ,xgS,xgZ]) | skip
      refine Qg ?_;simp only[go_sem,zg,c1,hgi,a1];refine⟨by omega,?_⟩;first | (unfold zf;simp only[ze,zc,zl,xsS,xsZ,xgS,xgZ]) | skip
      refine Qi ?_;simp only[go_sem,zg,c1,hgi,a1,a2];refine⟨by omega,?_⟩;first | (unfold zf;simp only[ze,zc,zl,xsS,xsZ,xgS,xgZ]) | skip
      refine Z6 ?_;simp only[go_sem,zg,c1,hgi,a1,a2,a3,e95,f95,w1];refine⟨by omega,m-1,_,by omega,?_,i+1,by omega,Xx hi hl hin,rfl⟩;exact qu
     ·have f95:(c==95)=false:=by simp[h95]
      have hin:zL s[i]=false:=by rw[←hc];unfold zL;simp[a1,a2,a3,h95]
      have:=Vk hi (fun _=>hin);simp only[go_sem,zg,c1,hgi];refine⟨by omega,?_⟩;first | (unfold zf;simp only[ze,zc,zl,xsS,xsZ,xgS,xgZ]) | skip
      refine Qg ?_;simp only[go_sem,zg,c1,hgi,a1];refine⟨by omega,?_⟩;first | (unfold zf;simp only[ze,zc,zl,xsS,xsZ,xgS,xgZ]) | skip
      refine Qi ?_;simp only[go_sem,zg,c1,hgi,a1,a2];refine⟨by omega,?_⟩;first | (unfold zf;simp only[ze,zc,zl,xsS,xsZ,xgS,xgZ]) | skip
      refine Z6 ?_;simp only[go_sem,zg,c1,hgi,a1,a2,a3,e95,f95,w1];obtain rfl:i=z:=by omega
      exact⟨by omega,rfl,⟨_,_,_,_,_,_,_,_,_,_,_,_,_,_,_,_,_,_,_,_,_,_,_,_,_,_,_,_,rfl⟩,rfl⟩
 ·rintro e env s' ⟨rfl,⟨y71,y72,y73,y74,y75,y76,y77,y78,y79,y80,y81,y82,y83,y84,y85,y86,y87,y88,y89,y90,y91,y92,y93,y94,y95,y96,y97,y98,rfl⟩,rfl⟩;have hx:∀ n,(ba s).extract 0 n=ba (s.take n):=fun n=>by rw[qM];simp
  by_cases h16:16<z
  ·have c1:decide ((16:Int)<(z:Int))=true:=by simp;omega
   rw[if_pos h16] at hk;simp only[go_sem,gt_iff_lt,c1,wk];exact zF (XJ _ ⟨0,[],0,0⟩ _ _) (hk ⟨0,[],0,0⟩ 0)
  ·have c1:decide ((16:Int)<(z:Int))=false:=by simp;omega
   rw[if_neg h16] at hk;simp only[go_sem,gt_iff_lt,c1,wk,zg,hx];refine⟨by omega,?_⟩;first | (unfold zf;simp only[ze,zc,zl,xsS,xsZ,xgS,xgZ]) | skip
   refine Qi ?_;rw[hlg,if_pos rfl] at hk;simp only[go_sem,gt_iff_lt,c1,wk,zg,hx,hlg];exact zF (XJ _ ⟨4,s.take z,0,0⟩ _ _) hk
theorem dj{s:Tx}(hs:s.length≤100000)(h0:0<s.length){K:SV→St→Prop}{st:St}(hk:LU (XO s 0) K st):ACalls prog 33 [.sc (.string (ba s))] K st:=by
 cases hd:qb s[0] with
 | true=>exact sR hs h0 hd hk
 | false =>
  by_cases h34:s[0]=34
  ·exact lm hs h0 hd h34 hk
  cases hsm:Zb s[0] with
  | true=>exact Ct hs h0 hd h34 hsm hk
  | false =>
   cases hlg:qS s[0] with
   | true=>exact Cx hs h0 hd h34 hsm hlg hk
   | false =>
    by_cases h45:s[0]=45
    ·by_cases h1:1<s.length
     ·by_cases h62:s[1]=62
      ·exact dJ hs h0 hd h34 hsm hlg hk h1 h45 h62
      ·exact wm hs h0 hd h34 hsm hlg hk h45 (fun _=>h62)
     ·exact wm hs h0 hd h34 hsm hlg hk h45 (fun h=>absurd h h1)
    ·exact nD hs h0 hd h34 hsm hlg hk h45
end Go.Proofs
namespace Go.AL
theorem KM{f:Nat}{s:Tx}{i j:Nat}{out:List Tk}(h:i+qo false (s.drop i)=j+qo false (s.drop j)):Zs f (s.drop i) i out=Zs f (s.drop j) j out:=by
 cases f with
 | zero=>rfl
 | succ f =>
  have hd:(s.drop i).drop (qo false (s.drop i))=(s.drop j).drop (qo false (s.drop j)):=by
   rw[List.drop_drop,List.drop_drop,h]
  cases hc:(s.drop i).drop (qo false (s.drop i)) with
  | nil=>rw[Go.Proofs.tokensL_end hc,Go.Proofs.tokensL_end (hd▸hc),h]
  | cons c r =>
   rw[Go.Proofs.tokensL_step hc,Go.Proofs.tokensL_step (hd▸hc),h]
theorem Ci{s:Tx}(h0:0<s.length)(p:Int):XO s p=(match XO s 0 with | .ok (t,n) =>.ok (⟨t.kind,t.text,t.num,p⟩,n) | .error e =>.error e):=by
 rw[Go.Proofs.tok_hd h0 (p:=p),Go.Proofs.tok_hd h0 (p:=0)];by_cases c1:qb s[0]=true
 ·rw[if_pos c1,if_pos c1];split <;> rfl
 rw[if_neg c1,if_neg c1];by_cases c2:s[0]=34
 ·rw[if_pos c2,if_pos c2];cases Wc s with
  | error e=>rfl
  | ok y=>rfl
 rw[if_neg c2,if_neg c2];by_cases c3:(Zb s[0] || qS s[0])=true
 ·rw[if_pos c3,if_pos c3];split <;> rfl
 rw[if_neg c3,if_neg c3];by_cases c4:s[0]∈signsL
 ·rw[if_pos c4,if_pos c4];split <;> rfl
 ·rw[if_neg c4,if_neg c4]
end Go.AL
namespace Go.Proofs
open Go Go.AL Tryz
theorem F1{s w:Tx}{x:ByteArray}(hx:x=ba w)(hs:w.length≤100000)(h0:0<w.length){R:Except Int (Tk×Nat)}(hR:XO w 0=R){K:SV→St→Prop}{st:St}(hk:LU R K st):ACalls prog 33 [.sc (.string x)] K st:=by
 subst hx;subst hR;exact dj hs h0 hk
theorem cu{w:Tx}{x:ByteArray}(hx:x=ba w)(hs:w.length≤100000)(h0:0<w.length){t:Tk}{n:Nat}(hR:XO w 0 = .ok (t,n)){K:SV→St→Prop}{st:St}(hk:K (.tuple [ZF t,.sc (.int .i64 n),.sc (.int .i64 0)]) st):ACalls prog 33 [.sc (.string x)] K st :=
 F1 (s:=w) hx hs h0 hR hk
theorem mj{w:Tx}{x:ByteArray}(hx:x=ba w)(hs:w.length≤100000)(h0:0<w.length){e:Int}(hR:XO w 0 = .error e){K:SV→St→Prop}{st:St}(hk:∀ (t:Tk) (n:Int),K (.tuple [ZF t,.sc (.int .i64 n),.sc (.int .i64 e)]) st):ACalls prog 33 [.sc (.string x)] K st :=
 F1 (s:=w) hx hs h0 hR hk
theorem EM{s:Tx}(hz:s.length≤100000){K:SV→St→Prop}{st:St}(hk:pS (X8 s) K st):ACalls prog 18 [.sc (.string (ba s))] K st:=by
 refine zd [] func18 rfl results18 ntmps18 ?_;by_cases hl:2000<s.length
 ·have c1:decide ((2000:Int)<(s.length:Int))=true:=by simp;omega
  unfold X8 at hk;rw[if_pos hl] at hk;simp only[go_sem,zg,gt_iff_lt,c1];exact zD (KH _ _ _) (hk _)
 have c1:decide ((2000:Int)<(s.length:Int))=false:=by simp;omega
 unfold X8 at hk;rw[if_neg hl] at hk;simp only[go_sem,zg,gt_iff_lt,c1];refine Gd 5 4 0 rfl ?_;simp only[go_sem];refine zx [] (fun k env s'=>∃ (i f:Nat) (out:List Tk) (ver:Nat) (ex:St),k+i=s.length∧Zs (s.length+1) s 0 []=Zs f (s.drop i) i out∧s.length+1≤f+i∧out.length≤i∧env=[.sc (.string (ba s)),.any,.any,.any,.any,.slice (.own st.length ver) 4 (out.map ZF),.sc (.int .i64 i),.any,.any,.any,.any,.any,.any,.any,.any,.any,.any,.any,.any,.any,.any,.any,.any,.any,.any,.any,.any,.any,.any,.any,.any,.any,.any,.any,.any,.any,.any,.any,.any,.any,.any,.any,.any,.any,.any,.any,.any,.any,.any,.any,.any,.any,.any,.any,.any,.any,.any,.any,.any,.any,.any,.any,.any,.any,.any,.any,.any,.any,.any,.any,.any,.any,.any,.any]∧s'=st++(.tok ver::ex)) (n:=s.length) ?_ ⟨0,s.length+1,[],0,[],by omega,rfl,by omega,by simp,rfl,rfl⟩ ?_
 ·exact qu
 rintro k env s' ⟨i,f,out,ver,ex,hm,hu,hf,hol,rfl,rfl⟩;have w1:IntKind.i64.wrap ((i:Int)+1)=((i+1:Nat):Int):=by rw[IntWalk.i64_in _ (by omega)];rfl
 by_cases hlt:i<s.length
 rotate_left
 ·have c2:decide ((i:Int)<(s.length:Int))=false:=by simp;omega
  cases f with
  | zero=>omega
  | succ f =>
  have hdr:s.drop i=[]:=List.drop_of_length_le (by omega);have hil:i+qo false (s.drop i)=s.length:=by rw[hdr];show i+0=_;omega
  rw[tokensL_end (s:=s.drop i) (by rw[hdr];rfl),hil] at hu;rw[hu] at hk;simp only[go_sem,zg,c2];simp only[pS,xmA] at hk;exact⟨gg (by omega),zF (kc _ (out++[⟨0,[],0,s.length⟩]) _ _ (by rw[xmA];rfl)) hk⟩
 have c2:decide ((i:Int)<(s.length:Int))=true:=by simp;omega
 have hgi:=ZJ hlt;have hdi:=Yd hlt;obtain⟨c,hc⟩:∃ c,c=s[i]:=⟨_,rfl⟩;rw[←hc] at hgi hdi;have e32:=ZC c 32 32 rfl;have e9:=ZC c 9 9 rfl;have e10:=ZC c 10 10 rfl;have e35:=ZC c 35 35 rfl;by_cases hbl:c=32∨c=9∨c=10
 ·have hp:Zs f (s.drop i) i out=Zs f (s.drop (i+1)) (i+1) out:=KM (by rw[hdi,UZ hbl];omega);rw[hp] at hu;have fb:(c==32 || c==9 || c==10)=true:=by
   simp only[Bool.or_eq_true,beq_iff_eq];rcases hbl with h | h | h
   ·exact .inl (.inl h)
   ·exact .inl (.inr h)
   ·exact .inr h
  by_cases k1:c=32
  ·have f1:(c==32)=true:=by simp[k1]
   simp only[go_sem,zg,c2,hgi,e32,e9,e10,f1,w1];refine⟨by omega,k-1,_,by omega,?_,i+1,f,out,ver,ex,by omega,hu,by omega,by omega,rfl,rfl⟩;exact qu
  ·have f1:(c==32)=false:=by simp[k1]
   by_cases k2:c=9
   ·have f2:(c==9)=true:=by simp[k2]
    simp only[go_sem,zg,c2,hgi,e32,e9,e10,f1,f2,w1];refine⟨by omega,k-1,_,by omega,?_,i+1,f,out,ver,ex,by omega,hu,by omega,by omega,rfl,rfl⟩;exact qu
   ·have f2:(c==9)=false:=by simp[k2]
    have f3:(c==10)=true:=by
     rcases hbl with h | h | h
     ·exact absurd h k1
     ·exact absurd h k2
     ·simp[h]
    simp only[go_sem,zg,c2,hgi,e32,e9,e10,f1,f2,f3,w1];refine⟨by omega,k-1,_,by omega,?_,i+1,f,out,ver,ex,by omega,hu,by omega,by omega,rfl,rfl⟩;exact qu
 have f1:(c==32)=false:=by simp;exact fun h=>hbl (.inl h)
 have f2:(c==9)=false:=by simp;exact fun h=>hbl (.inr (.inl h))
 have f3:(c==10)=false:=by simp;exact fun h=>hbl (.inr (.inr h))
 by_cases h35:c=35
 ·have f4:(c==35)=true:=by simp[h35]
  have hR0:Zs (s.length+1) s 0 []=Zs f (s.drop i) i out:=hu;have hPt:i+qo true (s.drop i)=i+qo false (s.drop i):=by rw[hdi,h35];rfl
  simp only[go_sem,zg,c2,hgi,e32,e9,e10,e35,f1,f2,f3,f4];refine⟨by omega,?_⟩;refine zx [] (fun m env s'=>∃ j:Nat,m+j=s.length∧i≤j∧j+qo true (s.drop j)=i+qo false (s.drop i)∧env=[.sc (.string (ba s)),.any,.any,.any,.any,.slice (.own st.length ver) 4 (out.map ZF),.sc (.int .i64 j),.any,.any,.any,.any,.any,.any,.any,.any,.any,.any,.any,.any,.any,.any,.any,.any,.any,.any,.any,.any,.any,.any,.any,.any,.any,.any,.any,.any,.any,.any,.any,.any,.any,.any,.any,.any,.any,.any,.any,.any,.any,.any,.any,.any,.any,.any,.any,.any,.any,.any,.any,.any,.any,.any,.any,.any,.any,.any,.any,.any,.any,.any,.any,.any,.any,.any,.any]∧s'=st++(.tok ver::ex)) (n:=s.length-i) ?_ ⟨i,by omega,Nat.le_refl _,hPt,rfl,rfl⟩ ?_
  ·exact qu
  rintro m env s' ⟨j,hj,hij,hP,rfl,rfl⟩;have w2:IntKind.i64.wrap ((j:Int)+1)=((j+1:Nat):Int):=by rw[IntWalk.i64_in _ (by omega)];rfl
  by_cases hjl:j<s.length
  ·have c3:decide ((j:Int)<(s.length:Int))=true:=by simp;omega
   have hgj:=ZJ hjl;have e10j:=DN s[j] 10 10 rfl;by_cases h10:s[j]=10
   ·have f10:(s[j] != 10)=false:=by simp[h10]
    have hji:i<j:=by
     rcases Nat.lt_or_ge i j with h | h
     ·exact h
     ·have:i=j:=by omega
      subst this;rw[←hc,h35] at h10;exact absurd h10 (by decide)
    have hp2:Zs f (s.drop i) i out=Zs f (s.drop j) j out:=KM (by rw[←hP,Yd hjl,h10];rfl);rw[hp2] at hu;simp only[go_sem,zg,c3,hgj,e10j,f10];refine⟨by omega,k-(j-i),_,by omega,?_,j,f,out,ver,ex,by omega,hu,by omega,by omega,rfl,rfl⟩;exact qu
   ·have f10:(s[j] != 10)=true:=by simp[h10]
    simp only[go_sem,zg,c3,hgj,e10j,f10,w2];refine⟨by omega,m-1,_,by omega,?_,j+1,by omega,by omega,?_,rfl⟩
    ·exact qu
    ·rw[←hP,Yd hjl,Ri,if_neg h10];omega
  ·have c3:decide ((j:Int)<(s.length:Int))=false:=by simp;omega
   have hp2:Zs f (s.drop i) i out=Zs f (s.drop j) j out:=KM (by rw[←hP,List.drop_of_length_le (by omega)];rfl);rw[hp2] at hu;simp only[go_sem,zg,c3];refine⟨k-(j-i),_,by omega,?_,j,f,out,ver,ex,by omega,hu,by omega,by omega,rfl,rfl⟩;exact qu
 have f4:(c==35)=false:=by simp[h35]
 have hsk:qo false (s.drop i)=0:=by rw[hdi,LO hbl h35]
 have hw0:0<(s.drop i).length:=by simp;omega
 have hwl:(s.drop i).length≤100000:=by simp;omega
 have hcut:(ba s).extract i s.length=ba (s.drop i):=by rw[qM,We]
 cases f with
 | zero=>omega
 | succ f =>
 have hst:=tokensL_step (m:=f) (k:=i) (out:=out) (show (s.drop i).drop (qo false (s.drop i))=c::s.drop (i+1) by rw[hsk];exact hdi);rw[hsk,Nat.add_zero,←hdi] at hst;rw[hst,Ci hw0] at hu;cases hR:XO (s.drop i) 0 with
 | error e =>
  rw[hR] at hu;rw[hu] at hk;have he:e≠0:=by
   generalize hQ:VT c (c::s.drop (i+1)) 0=Q;obtain⟨g',e',t',n'⟩:=Q;have h1:=(Hj hQ).1;rw[←hdi,hR] at h1;by_cases h0:e'=0
   ·rw[if_pos h0] at h1;cases h1
   ·rw[if_neg h0] at h1;cases h1;exact h0
  have d1:(e != 0)=true:=by simp[he]
  simp only[go_sem,zg,c2,hgi,e32,e9,e10,e35,f1,f2,f3,f4];refine⟨by omega,by omega,?_⟩;first | (unfold zf;simp only[ze,zc,zl,xsS,xsZ,xgS,xgZ]) | skip
  refine mj hcut hwl hw0 hR fun t n=>?_;simp only[go_sem,zg,c2,hgi,e32,e9,e10,e35,f1,f2,f3,f4,d1];simp only[pS,Nat.add_zero] at hk;exact zF (KH _ _ _) (hk _)
 | ok y =>
  obtain⟨t,n⟩:=y;rw[hR] at hu;obtain⟨tp,n1,n2,tk⟩:=j9 (show XO (c::s.drop (i+1)) 0 = .ok (t,n) by rw[←hdi];exact hR);simp only[xlC,List.length_drop] at n2;have w5:IntKind.i64.wrap ((i:Int)+(n:Int))=((i+n:Nat):Int):=by rw[IntWalk.i64_in _ (by omega)];rfl
  simp only[go_sem,zg,c2,hgi,e32,e9,e10,e35,f1,f2,f3,f4];refine⟨by omega,by omega,?_⟩;first | (unfold zf;simp only[ze,zc,zl,xsS,xsZ,xgS,xgZ]) | skip
  refine cu hcut hwl hw0 hR ?_;simp only[go_sem,zg,c2,hgi,e32,e9,e10,e35,f1,f2,f3,f4,CW,w5];refine⟨gg (by omega),k-n,_,by omega,?_,i+n,f,out++[⟨t.kind,t.text,t.num,i⟩],ver+1,_,by omega,?_,by omega,by simp only[xlA,xlC,xlN];omega,by rw[xmA,show [(⟨t.kind,t.text,t.num,i⟩:Tk)].map ZF=[.agg [.sc (.int .i64 t.kind),.sc (.string (ba t.text)),.sc (.int .i64 t.num),.sc (.int .i64 i)]] from rfl],rfl⟩
  ·exact qu
  ·rw[hu];show Zs f ((s.drop i).drop n) (i+0+n) (out++[⟨t.kind,t.text,t.num,((i+0:Nat):Int)⟩])=_;rw[List.drop_drop,Nat.add_zero]
end Go.Proofs
