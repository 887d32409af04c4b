/- The document's lexer: texts, names, signs. -/
import Derived.Test.YtkokccjfpebomaaGreatDoorW47
set_option linter.all false
set_option maxHeartbeats 4000000
set_option maxRecDepth 8000
namespace Go.Proofs
open Go Go.AL Tryz
theorem DH{s:Tx}(hs:s.length≤100000){x:Tx}{n e:Int}(h:YG s=(x,n,e)){K:SV→St→Prop}{st:St}(hk:K (.tuple [.sc (.string (ba x)),.sc (.int .i64 n),.sc (.int .i64 e)]) st):ACalls prog 54 [.sc (.string (ba s))] K st:=by
 refine yN hs ?_;rw[h];exact hk
theorem tok_hd{s:Tx}(h0:0<s.length){p:Int}:XO s p=(if qb s[0] then (if 4611686018427387903<Z5 (s.take (zY qb s)) then .error 13 else .ok (⟨1,[],Z5 (s.take (zY qb s)),p⟩,zY qb s))
  else if s[0]=34 then (match Wc s with
   | .error e =>.error e
   | .ok (t,n) =>.ok (⟨2,t,0,p⟩,n))
  else if Zb s[0] || qS s[0] then (if 16<zY zL s then .error 12 else .ok (⟨if qS s[0] then 4 else if s.take (zY zL s)∈keysL then 6 else 3,s.take (zY zL s),0,p⟩,zY zL s))
  else if s[0]∈signsL then (if (s.drop 1).head?=some 62∧s[0]=45 then .ok (⟨5,[45,62],0,p⟩,2) else .ok (⟨5,[s[0]],0,p⟩,1))
  else .error 10):=by
 cases s with
 | nil=>simp at h0
 | cons c r=>rfl
theorem lm{s:Tx}(hs:s.length≤100000)(h0:0<s.length)(hd:qb s[0]=false)(h34:s[0]=34){K:SV→St→Prop}{st:St}(hk:LU (XO s 0) K st):ACalls prog 33 [.sc (.string (ba s))] K st:=by
 refine zd [] func33 rfl results33 ntmps33 ?_;have hg0:=ZJ h0;rw[tok_hd h0,hd,if_neg (by decide),if_pos h34] at hk;have e34:=ZC s[0] 34 34 rfl;have f34:(s[0]==34)=true:=by simp[h34]
 cases hu:Wc s with
 | error e =>
  rw[hu] at hk;have hR:YG s=([],0,e):=by unfold YG;rw[hu]
  simp only[go_sem,zg,hg0];refine⟨by omega,?_⟩;refine Z6 ?_;simp only[go_sem,hd,e34,f34,zg,hg0];first | (unfold zf;simp only[ze,zc,zl,xsS,xsZ,xgS,xgZ]) | skip
  refine DH hs hR ?_;simp only[go_sem,hd,e34,f34,zg,hg0];exact zF (XJ _ ⟨2,[],0,0⟩ _ _) (hk ⟨2,[],0,0⟩ 0)
 | ok y =>
  obtain⟨t,n⟩:=y;rw[hu] at hk;have hR:YG s=(t,(n:Int),0):=by unfold YG;rw[hu]
  simp only[go_sem,zg,hg0];refine⟨by omega,?_⟩;refine Z6 ?_;simp only[go_sem,hd,e34,f34,zg,hg0];first | (unfold zf;simp only[ze,zc,zl,xsS,xsZ,xgS,xgZ]) | skip
  refine DH hs hR ?_;simp only[go_sem,hd,e34,f34,zg,hg0];exact zF (XJ _ ⟨2,t,0,0⟩ _ _) hk
theorem Hv{c:UInt8}{v:Bool}(hv:decide (c∈signsL)=v){K:SV→St→Prop}{st:St}(hk:K (.sc (.bool v)) st):ACalls prog 58 [.sc (.int .u8 c.toNat)] K st:=by
 subst hv;exact ez hk
theorem dJ{s:Tx}(hs:s.length≤100000)(h0:0<s.length)(hd:qb s[0]=false)(h34:¬ s[0]=34)(hsm:Zb s[0]=false)(hlg:qS s[0]=false){K:SV→St→Prop}{st:St}(hk:LU (XO s 0) K st)(h1:1<s.length)(h45:s[0]=45)(h62:s[1]=62):ACalls prog 33 [.sc (.string (ba s))] K st:=by
 refine zd [] func33 rfl results33 ntmps33 ?_;have hg0:=ZJ h0;rw[tok_hd h0,hd,if_neg (by decide),if_neg h34,hsm,hlg,if_neg (by decide)] at hk;have e34:=ZC s[0] 34 34 rfl;have f34:(s[0]==34)=false:=by simp[h34]
 have e45:=ZC s[0] 45 45 rfl;have hx1:(ba s).extract 0 1=ba [s[0]]:=by rw[qM];cases s with | nil=>simp at h0 | cons c r=>rfl
 have f45:(s[0]==45)=true:=by simp[h45]
 rw[if_pos (by rw[h45];decide)] at hk;have c1:decide ((1:Int)<(s.length:Int))=true:=by simp;omega
 have hg1:=ZJ h1;have e62:=ZC s[1] 62 62 rfl;have f62:(s[1]==62)=true:=by simp[h62]
 rw[if_pos ⟨by rw[List.drop_eq_getElem_cons h1];simp[h62],h45⟩] at hk;simp only[go_sem,zg,hg0];refine⟨by omega,?_⟩;refine Z6 ?_;simp only[go_sem,hd,e34,f34,zg,hg0];first | (unfold zf;simp only[ze,zc,zl,xsS,xsZ,xgS,xgZ]) | skip
 refine Qg ?_;simp only[go_sem,hd,e34,f34,zg,hg0,hsm];first | (unfold zf;simp only[ze,zc,zl,xsS,xsZ,xgS,xgZ]) | skip
 refine Qi ?_;simp only[go_sem,hd,e34,f34,zg,hg0,hsm,hlg,e45,f45,gt_iff_lt,c1,hg1,e62,f62];exact⟨by omega,zF (XJ _ ⟨5,[45,62],0,0⟩ _ _) hk⟩
theorem wm{s:Tx}(hs:s.length≤100000)(h0:0<s.length)(hd:qb s[0]=false)(h34:¬ s[0]=34)(hsm:Zb s[0]=false)(hlg:qS s[0]=false){K:SV→St→Prop}{st:St}(hk:LU (XO s 0) K st)(h45:s[0]=45)(h62:∀ h:1<s.length,¬ s[1]=62):ACalls prog 33 [.sc (.string (ba s))] K st:=by
 refine zd [] func33 rfl results33 ntmps33 ?_;have hg0:=ZJ h0;rw[tok_hd h0,hd,if_neg (by decide),if_neg h34,hsm,hlg,if_neg (by decide)] at hk;have e34:=ZC s[0] 34 34 rfl;have f34:(s[0]==34)=false:=by simp[h34]
 have e45:=ZC s[0] 45 45 rfl;have hx1:(ba s).extract 0 1=ba [s[0]]:=by rw[qM];cases s with | nil=>simp at h0 | cons c r=>rfl
 have f45:(s[0]==45)=true:=by simp[h45]
 have hin:s[0]∈signsL:=by rw[h45];decide
 have hsg:decide (s[0]∈signsL)=true:=by simp[hin]
 rw[if_pos hin] at hk;by_cases h1:1<s.length
 ·have c1:decide ((1:Int)<(s.length:Int))=true:=by simp;omega
  have hg1:=ZJ h1;have e62:=ZC s[1] 62 62 rfl;have f62:(s[1]==62)=false:=by simp[h62 h1]
  rw[if_neg (by rintro⟨h,_⟩;rw[List.drop_eq_getElem_cons h1,List.head?_cons] at h;exact h62 h1 (Option.some.inj h))] at hk;simp only[go_sem,zg,hg0];refine⟨by omega,?_⟩;refine Z6 ?_;simp only[go_sem,hd,e34,f34,zg,hg0];first | (unfold zf;simp only[ze,zc,zl,xsS,xsZ,xgS,xgZ]) | skip
  refine Qg ?_;simp only[go_sem,hd,e34,f34,zg,hg0,hsm];first | (unfold zf;simp only[ze,zc,zl,xsS,xsZ,xgS,xgZ]) | skip
  refine Qi ?_;simp only[go_sem,hd,e34,f34,zg,hg0,hsm,hlg,e45,f45,gt_iff_lt,c1,hg1,e62,f62];refine⟨by omega,?_⟩;first | (unfold zf;simp only[ze,zc,zl,xsS,xsZ,xgS,xgZ]) | skip
  refine Hv hsg ?_;simp only[go_sem,hg0,hd,hsm,hlg,e45,f45,gt_iff_lt,c1,hg1,e62,f62,hx1];exact⟨by omega,zF (XJ _ ⟨5,[s[0]],0,0⟩ _ _) hk⟩
 ·have c1:decide ((1:Int)<(s.length:Int))=false:=by simp;omega
  rw[if_neg (by rintro⟨h,_⟩;rw[List.drop_of_length_le (by omega)] at h;cases h)] at hk;simp only[go_sem,zg,hg0];refine⟨by omega,?_⟩;refine Z6 ?_;simp only[go_sem,hd,e34,f34,zg,hg0];first | (unfold zf;simp only[ze,zc,zl,xsS,xsZ,xgS,xgZ]) | skip
  refine Qg ?_;simp only[go_sem,hd,e34,f34,zg,hg0,hsm];first | (unfold zf;simp only[ze,zc,zl,xsS,xsZ,xgS,xgZ]) | skip
  refine Qi ?_;simp only[go_sem,hd,e34,f34,zg,hg0,hsm,hlg,e45,f45,gt_iff_lt,c1];first | (unfold zf;simp only[ze,zc,zl,xsS,xsZ,xgS,xgZ]) | skip
  refine Hv hsg ?_;simp only[go_sem,hg0,hd,hsm,hlg,e45,f45,gt_iff_lt,c1,hx1];exact⟨by omega,zF (XJ _ ⟨5,[s[0]],0,0⟩ _ _) hk⟩
theorem nD{s:Tx}(hs:s.length≤100000)(h0:0<s.length)(hd:qb s[0]=false)(h34:¬ s[0]=34)(hsm:Zb s[0]=false)(hlg:qS s[0]=false){K:SV→St→Prop}{st:St}(hk:LU (XO s 0) K st)(h45:¬ s[0]=45):ACalls prog 33 [.sc (.string (ba s))] K st:=by
 refine zd [] func33 rfl results33 ntmps33 ?_;have hg0:=ZJ h0;rw[tok_hd h0,hd,if_neg (by decide),if_neg h34,hsm,hlg,if_neg (by decide)] at hk;have e34:=ZC s[0] 34 34 rfl;have f34:(s[0]==34)=false:=by simp[h34]
 have e45:=ZC s[0] 45 45 rfl;have hx1:(ba s).extract 0 1=ba [s[0]]:=by rw[qM];cases s with | nil=>simp at h0 | cons c r=>rfl
 have f45:(s[0]==45)=false:=by simp[h45]
 by_cases hin:s[0]∈signsL
 ·have hsg:decide (s[0]∈signsL)=true:=by simp[hin]
  rw[if_pos hin,if_neg (fun h=>h45 h.2)] at hk;simp only[go_sem,zg,hg0];refine⟨by omega,?_⟩;refine Z6 ?_;simp only[go_sem,hd,e34,f34,zg,hg0];first | (unfold zf;simp only[ze,zc,zl,xsS,xsZ,xgS,xgZ]) | skip
  refine Qg ?_;simp only[go_sem,hd,e34,f34,zg,hg0,hsm];first | (unfold zf;simp only[ze,zc,zl,xsS,xsZ,xgS,xgZ]) | skip
  refine Qi ?_;simp only[go_sem,hd,e34,f34,zg,hg0,hsm,hlg,e45,f45];first | (unfold zf;simp only[ze,zc,zl,xsS,xsZ,xgS,xgZ]) | skip
  refine Hv hsg ?_;simp only[go_sem,hg0,hd,hsm,hlg,e45,f45,hx1];exact⟨by omega,zF (XJ _ ⟨5,[s[0]],0,0⟩ _ _) hk⟩
 ·have hsg:decide (s[0]∈signsL)=false:=by simp[hin]
  rw[if_neg hin] at hk;simp only[go_sem,zg,hg0];refine⟨by omega,?_⟩;refine Z6 ?_;simp only[go_sem,hd,e34,f34,zg,hg0];first | (unfold zf;simp only[ze,zc,zl,xsS,xsZ,xgS,xgZ]) | skip
  refine Qg ?_;simp only[go_sem,hd,e34,f34,zg,hg0,hsm];first | (unfold zf;simp only[ze,zc,zl,xsS,xsZ,xgS,xgZ]) | skip
  refine Qi ?_;simp only[go_sem,hd,e34,f34,zg,hg0,hsm,hlg,e45,f45];first | (unfold zf;simp only[ze,zc,zl,xsS,xsZ,xgS,xgZ]) | skip
  refine Hv hsg ?_;simp only[go_sem,hg0,hd,hsm,hlg,e45,f45];exact zF (XJ _ ⟨0,[],0,0⟩ _ _) (hk ⟨0,[],0,0⟩ 0)
end Go.Proofs
