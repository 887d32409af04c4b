/- The document's lexer: texts, names, signs. -/
import Derived.Test.YtkokccjfpebomaaGreatDoorW47
set_option linter.all false
set_option maxHeartbeats 4000000
set_option maxRecDepth 8000
namespace Go.Proofs
open Go Go.AL Tryz
variable {K:SV→St→Prop}{st:St}
theorem Ev{s:Tx}(hs:s.length≤100000){x:Tx}{n e:Int}(h:Yx s=(x,n,e))(hk:K (.tuple [.sc (.string (ba x)),.sc (.int .i64 n),.sc (.int .i64 e)]) st):ACalls prog 54 [.sc (.string (ba s))] K st:=by
 refine kM hs ?_;rw[h];exact hk
theorem tok_hd{s:Tx}(h0:0<s.length){p:Int}:XE s p=(if zV s[0] then (if 4611686018427387903<ZS (s.take (zR zV s)) then .error 13 else .ok (⟨1,[],ZS (s.take (zR zV s)),p⟩,zR zV s))
  else if s[0]=34 then (match VN s with
   | .error e =>.error e
   | .ok (t,n) =>.ok (⟨2,t,0,p⟩,n))
  else if qY s[0] || qL s[0] then (if 16<zR zH s then .error 12 else .ok (⟨if qL s[0] then 4 else if s.take (zR zH s)∈keysL then 6 else 3,s.take (zR zH s),0,p⟩,zR zH s))
  else if s[0]∈signsL then (if (s.drop 1).head?=some 62∧s[0]=45 then .ok (⟨5,[45,62],0,p⟩,2) else .ok (⟨5,[s[0]],0,p⟩,1))
  else .error 10):=by
 cases s with
 | nil=>simp at h0
 | cons c r=>rfl
theorem oQ{s:Tx}(hs:s.length≤100000)(h0:0<s.length)(hd:zV s[0]=false)(h34:s[0]=34)(hk:Lu (XE s 0) K st):ACalls prog 33 [.sc (.string (ba s))] K st:=by
 refine zc [] func33 rfl results33 ntmps33 ?_;have hg0:=ZJ h0;rw[tok_hd h0,hd,if_neg (by decide),if_pos h34] at hk;have e34:=Zw s[0] 34 34 rfl;have f34:(s[0]==34)=true:=by simp[h34]
 cases hu:VN s with
 | error e =>
  rw[hu] at hk;have hR:Yx s=([],0,e):=by unfold Yx;rw[hu]
  simp only[go_sem,zf,hg0];refine⟨by omega,?_⟩;refine ZR ?_;simp only[go_sem,hd,e34,f34,zf,hg0];try (unfold zd;simp only[qc])
  refine Ev hs hR ?_;simp only[go_sem,hd,e34,f34,zf,hg0];exact zB (Xy _ ⟨2,[],0,0⟩ _ _) (hk ⟨2,[],0,0⟩ 0)
 | ok y =>
  obtain⟨t,n⟩:=y;rw[hu] at hk;have hR:Yx s=(t,(n:Int),0):=by unfold Yx;rw[hu]
  simp only[go_sem,zf,hg0];refine⟨by omega,?_⟩;refine ZR ?_;simp only[go_sem,hd,e34,f34,zf,hg0];try (unfold zd;simp only[qc])
  refine Ev hs hR ?_;simp only[go_sem,hd,e34,f34,zf,hg0];exact zB (Xy _ ⟨2,t,0,0⟩ _ _) hk
theorem UG{c:UInt8}{v:Bool}(hv:decide (c∈signsL)=v)(hk:K (.sc (.bool v)) st):ACalls prog 58 [.sc (.int .u8 c.toNat)] K st:=by
 subst hv;exact fX hk
theorem dY{s:Tx}(hs:s.length≤100000)(h0:0<s.length)(hd:zV s[0]=false)(h34:¬ s[0]=34)(hsm:qY s[0]=false)(hlg:qL s[0]=false)(hk:Lu (XE s 0) K st)(h1:1<s.length)(h45:s[0]=45)(h62:s[1]=62):ACalls prog 33 [.sc (.string (ba s))] K st:=by
 refine zc [] func33 rfl results33 ntmps33 ?_;have hg0:=ZJ h0;rw[tok_hd h0,hd,if_neg (by decide),if_neg h34,hsm,hlg,if_neg (by decide)] at hk;have e34:=Zw s[0] 34 34 rfl;have f34:(s[0]==34)=false:=by simp[h34]
 have e45:=Zw s[0] 45 45 rfl;have hx1:(ba s).extract 0 1=ba [s[0]]:=by rw[qD];cases s with | nil=>simp at h0 | cons c r=>rfl
 have f45:(s[0]==45)=true:=by simp[h45]
 rw[if_pos (by rw[h45];decide)] at hk;have c1:decide ((1:Int)<(s.length:Int))=true:=by simp;omega
 have hg1:=ZJ h1;have e62:=Zw s[1] 62 62 rfl;have f62:(s[1]==62)=true:=by simp[h62]
 rw[if_pos ⟨by rw[List.drop_eq_getElem_cons h1];simp[h62],h45⟩] at hk;simp only[go_sem,zf,hg0];refine⟨by omega,?_⟩;refine ZR ?_;simp only[go_sem,hd,e34,f34,zf,hg0];try (unfold zd;simp only[qc])
 refine Z0 ?_;simp only[go_sem,hd,e34,f34,zf,hg0,hsm];try (unfold zd;simp only[qc])
 refine Z1 ?_;simp only[go_sem,hd,e34,f34,zf,hg0,hsm,hlg,e45,f45,gt_iff_lt,c1,hg1,e62,f62];exact⟨by omega,zB (Xy _ ⟨5,[45,62],0,0⟩ _ _) hk⟩
theorem jC{s:Tx}(hs:s.length≤100000)(h0:0<s.length)(hd:zV s[0]=false)(h34:¬ s[0]=34)(hsm:qY s[0]=false)(hlg:qL s[0]=false)(hk:Lu (XE s 0) K st)(h45:s[0]=45)(h62:∀ h:1<s.length,¬ s[1]=62):ACalls prog 33 [.sc (.string (ba s))] K st:=by
 refine zc [] func33 rfl results33 ntmps33 ?_;have hg0:=ZJ h0;rw[tok_hd h0,hd,if_neg (by decide),if_neg h34,hsm,hlg,if_neg (by decide)] at hk;have e34:=Zw s[0] 34 34 rfl;have f34:(s[0]==34)=false:=by simp[h34]
 have e45:=Zw s[0] 45 45 rfl;have hx1:(ba s).extract 0 1=ba [s[0]]:=by rw[qD];cases s with | nil=>simp at h0 | cons c r=>rfl
 have f45:(s[0]==45)=true:=by simp[h45]
 have hin:s[0]∈signsL:=by rw[h45];decide
 have hsg:decide (s[0]∈signsL)=true:=by simp[hin]
 rw[if_pos hin] at hk;by_cases h1:1<s.length
 ·have c1:decide ((1:Int)<(s.length:Int))=true:=by simp;omega
  have hg1:=ZJ h1;have e62:=Zw s[1] 62 62 rfl;have f62:(s[1]==62)=false:=by simp[h62 h1]
  rw[if_neg (by rintro⟨h,_⟩;rw[List.drop_eq_getElem_cons h1,List.head?_cons] at h;exact h62 h1 (Option.some.inj h))] at hk;simp only[go_sem,zf,hg0];refine⟨by omega,?_⟩;refine ZR ?_;simp only[go_sem,hd,e34,f34,zf,hg0];try (unfold zd;simp only[qc])
  refine Z0 ?_;simp only[go_sem,hd,e34,f34,zf,hg0,hsm];try (unfold zd;simp only[qc])
  refine Z1 ?_;simp only[go_sem,hd,e34,f34,zf,hg0,hsm,hlg,e45,f45,gt_iff_lt,c1,hg1,e62,f62];refine⟨by omega,?_⟩;try (unfold zd;simp only[qc])
  refine UG hsg ?_;simp only[go_sem,hg0,hd,hsm,hlg,e45,f45,gt_iff_lt,c1,hg1,e62,f62,hx1];exact⟨by omega,zB (Xy _ ⟨5,[s[0]],0,0⟩ _ _) hk⟩
 ·have c1:decide ((1:Int)<(s.length:Int))=false:=by simp;omega
  rw[if_neg (by rintro⟨h,_⟩;rw[List.drop_of_length_le (by omega)] at h;cases h)] at hk;simp only[go_sem,zf,hg0];refine⟨by omega,?_⟩;refine ZR ?_;simp only[go_sem,hd,e34,f34,zf,hg0];try (unfold zd;simp only[qc])
  refine Z0 ?_;simp only[go_sem,hd,e34,f34,zf,hg0,hsm];try (unfold zd;simp only[qc])
  refine Z1 ?_;simp only[go_sem,hd,e34,f34,zf,hg0,hsm,hlg,e45,f45,gt_iff_lt,c1];try (unfold zd;simp only[qc])
  refine UG hsg ?_;simp only[go_sem,hg0,hd,hsm,hlg,e45,f45,gt_iff_lt,c1,hx1];exact⟨by omega,zB (Xy _ ⟨5,[s[0]],0,0⟩ _ _) hk⟩
theorem dl{s:Tx}(hs:s.length≤100000)(h0:0<s.length)(hd:zV s[0]=false)(h34:¬ s[0]=34)(hsm:qY s[0]=false)(hlg:qL s[0]=false)(hk:Lu (XE s 0) K st)(h45:¬ s[0]=45):ACalls prog 33 [.sc (.string (ba s))] K st:=by
 refine zc [] func33 rfl results33 ntmps33 ?_;have hg0:=ZJ h0;rw[tok_hd h0,hd,if_neg (by decide),if_neg h34,hsm,hlg,if_neg (by decide)] at hk;have e34:=Zw s[0] 34 34 rfl;have f34:(s[0]==34)=false:=by simp[h34]
 have e45:=Zw s[0] 45 45 rfl;have hx1:(ba s).extract 0 1=ba [s[0]]:=by rw[qD];cases s with | nil=>simp at h0 | cons c r=>rfl
 have f45:(s[0]==45)=false:=by simp[h45]
 by_cases hin:s[0]∈signsL
 ·have hsg:decide (s[0]∈signsL)=true:=by simp[hin]
  rw[if_pos hin,if_neg (fun h=>h45 h.2)] at hk;simp only[go_sem,zf,hg0];refine⟨by omega,?_⟩;refine ZR ?_;simp only[go_sem,hd,e34,f34,zf,hg0];try (unfold zd;simp only[qc])
  refine Z0 ?_;simp only[go_sem,hd,e34,f34,zf,hg0,hsm];try (unfold zd;simp only[qc])
  refine Z1 ?_;simp only[go_sem,hd,e34,f34,zf,hg0,hsm,hlg,e45,f45];try (unfold zd;simp only[qc])
  refine UG hsg ?_;simp only[go_sem,hg0,hd,hsm,hlg,e45,f45,hx1];exact⟨by omega,zB (Xy _ ⟨5,[s[0]],0,0⟩ _ _) hk⟩
 ·have hsg:decide (s[0]∈signsL)=false:=by simp[hin]
  rw[if_neg hin] at hk;simp only[go_sem,zf,hg0];refine⟨by omega,?_⟩;refine ZR ?_;simp only[go_sem,hd,e34,f34,zf,hg0];try (unfold zd;simp only[qc])
  refine Z0 ?_;simp only[go_sem,hd,e34,f34,zf,hg0,hsm];try (unfold zd;simp only[qc])
  refine Z1 ?_;simp only[go_sem,hd,e34,f34,zf,hg0,hsm,hlg,e45,f45];try (unfold zd;simp only[qc])
  refine UG hsg ?_;simp only[go_sem,hg0,hd,hsm,hlg,e45,f45];exact zB (Xy _ ⟨0,[],0,0⟩ _ _) (hk ⟨0,[],0,0⟩ 0)
end Go.Proofs
