/- The document's lexer: texts, names, signs. -/
import Derived.Test.YtkokccjfpebomaaGreatDoorM8
import Derived.Test.YtkokccjfpebomaaGreatDoorW47
set_option maxHeartbeats 4000000
set_option linter.unusedSimpArgs false
set_option linter.unusedVariables false
set_option maxRecDepth 8000
namespace Go.Proofs
open Go Go.AL
theorem zdG {s:Tx} (hs:s.length≤100000) {x:Tx} {n e:Int} (h:XW s=(x,n,e)) {K:SV→St→Prop} {st:St} (hk:K (.tuple [.sc (.string (ba x)),.sc (.int .i64 n),.sc (.int .i64 e)]) st):ACalls Tryz.prog 54 [.sc (.string (ba s))] K st:=by
 refine zlg hs ?_
 rw[h];exact hk
theorem tok_hd {s:Tx} (h0:0<s.length) {p:Int}:Yl s p=(if qt s[0] then (if 4611686018427387903<Qc (s.take (ql qt s)) then .error 13 else .ok (⟨1,[],Qc (s.take (ql qt s)),p⟩,ql qt s))
  else if s[0]=34 then (match zaZ s with
   | .error e =>.error e
   | .ok (t,n) =>.ok (⟨2,t,0,p⟩,n))
  else if Z4 s[0] || Zw s[0] then (if 16<ql qc s then .error 12 else .ok (⟨if Zw s[0] then 4 else if s.take (ql qc s)∈keysL then 6 else 3,s.take (ql qc s),0,p⟩,ql qc s))
  else if s[0]∈signsL then (if (s.drop 1).head?=some 62∧s[0]=45 then .ok (⟨5,[45,62],0,p⟩,2) else .ok (⟨5,[s[0]],0,p⟩,1))
  else .error 10):=by
 cases s with
 | nil=>simp at h0
 | cons c r=>rfl
theorem zsi {s:Tx} (hs:s.length≤100000) (h0:0<s.length) (hd:qt s[0]=false) (h34:s[0]=34) {K:SV→St→Prop} {st:St} (hk:zh7 (Yl s 0) K st):ACalls Tryz.prog 33 [.sc (.string (ba s))] K st:=by
 refine zj [] Tryz.func33 rfl Tryz.results33 Tryz.ntmps33 ?_
 have hg0:=ZF h0
 rw[tok_hd h0,hd,if_neg (by decide),if_pos h34] at hk
 have e34:=ZA s[0] 34 34 rfl
 have f34:(s[0]==34)=true:=by simp[h34]
 cases hu:zaZ s with
 | error e =>
  rw[hu] at hk
  have hR:XW s=([],0,e):=by unfold XW;rw[hu]
  simp only[go_sem,zm,hg0]
  refine⟨by omega,?_⟩
  refine ZG ?_
  simp only[go_sem,hd,e34,f34,zm,hg0]
  first | (unfold zk;simp only[zd,zb,zo,List.set_cons_succ,List.set_cons_zero,List.getD_cons_succ,List.getD_cons_zero]) | skip
  refine zdG hs hR ?_
  simp only[go_sem,hd,e34,f34,zm,hg0]
  exact zP (Xf _ ⟨2,[],0,0⟩ _ _) (hk ⟨2,[],0,0⟩ 0)
 | ok y =>
  obtain⟨t,n⟩:=y
  rw[hu] at hk
  have hR:XW s=(t,(n:Int),0):=by unfold XW;rw[hu]
  simp only[go_sem,zm,hg0]
  refine⟨by omega,?_⟩
  refine ZG ?_
  simp only[go_sem,hd,e34,f34,zm,hg0]
  first | (unfold zk;simp only[zd,zb,zo,List.set_cons_succ,List.set_cons_zero,List.getD_cons_succ,List.getD_cons_zero]) | skip
  refine zdG hs hR ?_
  simp only[go_sem,hd,e34,f34,zm,hg0]
  exact zP (Xf _ ⟨2,t,0,0⟩ _ _) hk
theorem zb6 {c:UInt8} {v:Bool} (hv:decide (c∈signsL)=v) {K:SV→St→Prop} {st:St} (hk:K (.sc (.bool v)) st):ACalls Tryz.prog 58 [.sc (.int .u8 c.toNat)] K st:=by
 subst hv;exact zse hk
theorem zoi {s:Tx} (hs:s.length≤100000) (h0:0<s.length) (hd:qt s[0]=false) (h34:¬ s[0]=34) (hsm:Z4 s[0]=false) (hlg:Zw s[0]=false) {K:SV→St→Prop} {st:St} (hk:zh7 (Yl s 0) K st) (h1:1<s.length) (h45:s[0]=45) (h62:s[1]=62):ACalls Tryz.prog 33 [.sc (.string (ba s))] K st:=by
 refine zj [] Tryz.func33 rfl Tryz.results33 Tryz.ntmps33 ?_
 have hg0:=ZF h0
 rw[tok_hd h0,hd,if_neg (by decide),if_neg h34,hsm,hlg,if_neg (by decide)] at hk
 have e34:=ZA s[0] 34 34 rfl
 have f34:(s[0]==34)=false:=by simp[h34]
 have e45:=ZA s[0] 45 45 rfl
 have hx1:(ba s).extract 0 1=ba [s[0]]:=by rw[qS];cases s with | nil=>simp at h0 | cons c r=>rfl
 have f45:(s[0]==45)=true:=by simp[h45]
 rw[if_pos (by rw[h45];decide)] at hk
 have c1:decide ((1:Int)<(s.length:Int))=true:=by simp;omega
 have hg1:=ZF h1
 have e62:=ZA s[1] 62 62 rfl
 have f62:(s[1]==62)=true:=by simp[h62]
 rw[if_pos ⟨by rw[List.drop_eq_getElem_cons h1];simp[h62],h45⟩] at hk
 simp only[go_sem,zm,hg0]
 refine⟨by omega,?_⟩
 refine ZG ?_
 simp only[go_sem,hd,e34,f34,zm,hg0]
 first | (unfold zk;simp only[zd,zb,zo,List.set_cons_succ,List.set_cons_zero,List.getD_cons_succ,List.getD_cons_zero]) | skip
 refine ZO ?_
 simp only[go_sem,hd,e34,f34,zm,hg0,hsm]
 first | (unfold zk;simp only[zd,zb,zo,List.set_cons_succ,List.set_cons_zero,List.getD_cons_succ,List.getD_cons_zero]) | skip
 refine ZN ?_
 simp only[go_sem,hd,e34,f34,zm,hg0,hsm,hlg,e45,f45,gt_iff_lt,c1,hg1,e62,f62]
 exact⟨by omega,zP (Xf _ ⟨5,[45,62],0,0⟩ _ _) hk⟩
theorem zjx {s:Tx} (hs:s.length≤100000) (h0:0<s.length) (hd:qt s[0]=false) (h34:¬ s[0]=34) (hsm:Z4 s[0]=false) (hlg:Zw s[0]=false) {K:SV→St→Prop} {st:St} (hk:zh7 (Yl s 0) K st) (h45:s[0]=45) (h62:∀ h:1<s.length,¬ s[1]=62):ACalls Tryz.prog 33 [.sc (.string (ba s))] K st:=by
 refine zj [] Tryz.func33 rfl Tryz.results33 Tryz.ntmps33 ?_
 have hg0:=ZF h0
 rw[tok_hd h0,hd,if_neg (by decide),if_neg h34,hsm,hlg,if_neg (by decide)] at hk
 have e34:=ZA s[0] 34 34 rfl
 have f34:(s[0]==34)=false:=by simp[h34]
 have e45:=ZA s[0] 45 45 rfl
 have hx1:(ba s).extract 0 1=ba [s[0]]:=by rw[qS];cases s with | nil=>simp at h0 | cons c r=>rfl
 have f45:(s[0]==45)=true:=by simp[h45]
 have hin:s[0]∈signsL:=by rw[h45];decide
 have hsg:decide (s[0]∈signsL)=true:=by simp[hin]
 rw[if_pos hin] at hk
 by_cases h1:1<s.length
 ·have c1:decide ((1:Int)<(s.length:Int))=true:=by simp;omega
  have hg1:=ZF h1
  have e62:=ZA s[1] 62 62 rfl
  have f62:(s[1]==62)=false:=by simp[h62 h1]
  rw[if_neg (by rintro⟨h,_⟩;rw[List.drop_eq_getElem_cons h1,List.head?_cons] at h;exact h62 h1 (Option.some.inj h))] at hk
  simp only[go_sem,zm,hg0]
  refine⟨by omega,?_⟩
  refine ZG ?_
  simp only[go_sem,hd,e34,f34,zm,hg0]
  first | (unfold zk;simp only[zd,zb,zo,List.set_cons_succ,List.set_cons_zero,List.getD_cons_succ,List.getD_cons_zero]) | skip
  refine ZO ?_
  simp only[go_sem,hd,e34,f34,zm,hg0,hsm]
  first | (unfold zk;simp only[zd,zb,zo,List.set_cons_succ,List.set_cons_zero,List.getD_cons_succ,List.getD_cons_zero]) | skip
  refine ZN ?_
  simp only[go_sem,hd,e34,f34,zm,hg0,hsm,hlg,e45,f45,gt_iff_lt,c1,hg1,e62,f62]
  refine⟨by omega,?_⟩
  first | (unfold zk;simp only[zd,zb,zo,List.set_cons_succ,List.set_cons_zero,List.getD_cons_succ,List.getD_cons_zero]) | skip
  refine zb6 hsg ?_
  simp only[go_sem,hg0,hd,hsm,hlg,e45,f45,gt_iff_lt,c1,hg1,e62,f62,hx1]
  exact⟨by omega,zP (Xf _ ⟨5,[s[0]],0,0⟩ _ _) hk⟩
 ·have c1:decide ((1:Int)<(s.length:Int))=false:=by simp;omega
  rw[if_neg (by rintro⟨h,_⟩;rw[List.drop_of_length_le (by omega)] at h;cases h)] at hk
  simp only[go_sem,zm,hg0]
  refine⟨by omega,?_⟩
  refine ZG ?_
  simp only[go_sem,hd,e34,f34,zm,hg0]
  first | (unfold zk;simp only[zd,zb,zo,List.set_cons_succ,List.set_cons_zero,List.getD_cons_succ,List.getD_cons_zero]) | skip
  refine ZO ?_
  simp only[go_sem,hd,e34,f34,zm,hg0,hsm]
  first | (unfold zk;simp only[zd,zb,zo,List.set_cons_succ,List.set_cons_zero,List.getD_cons_succ,List.getD_cons_zero]) | skip
  refine ZN ?_
  simp only[go_sem,hd,e34,f34,zm,hg0,hsm,hlg,e45,f45,gt_iff_lt,c1]
  first | (unfold zk;simp only[zd,zb,zo,List.set_cons_succ,List.set_cons_zero,List.getD_cons_succ,List.getD_cons_zero]) | skip
  refine zb6 hsg ?_
  simp only[go_sem,hg0,hd,hsm,hlg,e45,f45,gt_iff_lt,c1,hx1]
  exact⟨by omega,zP (Xf _ ⟨5,[s[0]],0,0⟩ _ _) hk⟩
theorem zp4 {s:Tx} (hs:s.length≤100000) (h0:0<s.length) (hd:qt s[0]=false) (h34:¬ s[0]=34) (hsm:Z4 s[0]=false) (hlg:Zw s[0]=false) {K:SV→St→Prop} {st:St} (hk:zh7 (Yl s 0) K st) (h45:¬ s[0]=45):ACalls Tryz.prog 33 [.sc (.string (ba s))] K st:=by
 refine zj [] Tryz.func33 rfl Tryz.results33 Tryz.ntmps33 ?_
 have hg0:=ZF h0
 rw[tok_hd h0,hd,if_neg (by decide),if_neg h34,hsm,hlg,if_neg (by decide)] at hk
 have e34:=ZA s[0] 34 34 rfl
 have f34:(s[0]==34)=false:=by simp[h34]
 have e45:=ZA s[0] 45 45 rfl
 have hx1:(ba s).extract 0 1=ba [s[0]]:=by rw[qS];cases s with | nil=>simp at h0 | cons c r=>rfl
 have f45:(s[0]==45)=false:=by simp[h45]
 by_cases hin:s[0]∈signsL
 ·have hsg:decide (s[0]∈signsL)=true:=by simp[hin]
  rw[if_pos hin,if_neg (fun h=>h45 h.2)] at hk
  simp only[go_sem,zm,hg0]
  refine⟨by omega,?_⟩
  refine ZG ?_
  simp only[go_sem,hd,e34,f34,zm,hg0]
  first | (unfold zk;simp only[zd,zb,zo,List.set_cons_succ,List.set_cons_zero,List.getD_cons_succ,List.getD_cons_zero]) | skip
  refine ZO ?_
  simp only[go_sem,hd,e34,f34,zm,hg0,hsm]
  first | (unfold zk;simp only[zd,zb,zo,List.set_cons_succ,List.set_cons_zero,List.getD_cons_succ,List.getD_cons_zero]) | skip
  refine ZN ?_
  simp only[go_sem,hd,e34,f34,zm,hg0,hsm,hlg,e45,f45]
  first | (unfold zk;simp only[zd,zb,zo,List.set_cons_succ,List.set_cons_zero,List.getD_cons_succ,List.getD_cons_zero]) | skip
  refine zb6 hsg ?_
  simp only[go_sem,hg0,hd,hsm,hlg,e45,f45,hx1]
  exact⟨by omega,zP (Xf _ ⟨5,[s[0]],0,0⟩ _ _) hk⟩
 ·have hsg:decide (s[0]∈signsL)=false:=by simp[hin]
  rw[if_neg hin] at hk
  simp only[go_sem,zm,hg0]
  refine⟨by omega,?_⟩
  refine ZG ?_
  simp only[go_sem,hd,e34,f34,zm,hg0]
  first | (unfold zk;simp only[zd,zb,zo,List.set_cons_succ,List.set_cons_zero,List.getD_cons_succ,List.getD_cons_zero]) | skip
  refine ZO ?_
  simp only[go_sem,hd,e34,f34,zm,hg0,hsm]
  first | (unfold zk;simp only[zd,zb,zo,List.set_cons_succ,List.set_cons_zero,List.getD_cons_succ,List.getD_cons_zero]) | skip
  refine ZN ?_
  simp only[go_sem,hd,e34,f34,zm,hg0,hsm,hlg,e45,f45]
  first | (unfold zk;simp only[zd,zb,zo,List.set_cons_succ,List.set_cons_zero,List.getD_cons_succ,List.getD_cons_zero]) | skip
  refine zb6 hsg ?_
  simp only[go_sem,hg0,hd,hsm,hlg,e45,f45]
  exact zP (Xf _ ⟨0,[],0,0⟩ _ _) (hk ⟨0,[],0,0⟩ 0)
end Go.Proofs
