/- The document's Tokens. -/
import Derived.Test.YtkokccjfpebomaaGreatDoorW50
import Derived.Test.YtkokccjfpebomaaGreatDoorS7
set_option maxHeartbeats 4000000
set_option linter.unusedSimpArgs false
set_option linter.unusedVariables false
set_option maxRecDepth 8000
namespace Go.AL
theorem WB {f:Nat} {s:Tx} {i j:Nat} {out:List Tk} (h:i+qh false (s.drop i)=j+qh false (s.drop j)):Zn f (s.drop i) i out=Zn f (s.drop j) j out:=by
 cases f with
 | zero=>rfl
 | succ f =>
  have hd:(s.drop i).drop (qh false (s.drop i))=(s.drop j).drop (qh false (s.drop j)):=by
   rw[List.drop_drop,List.drop_drop,h]
  cases hc:(s.drop i).drop (qh false (s.drop i)) with
  | nil=>rw[Go.Proofs.tokensL_end hc,Go.Proofs.tokensL_end (hd▸hc),h]
  | cons c r =>
   rw[Go.Proofs.tokensL_step hc,Go.Proofs.tokensL_step (hd▸hc),h]
theorem eC {s:Tx} (h0:0<s.length) (p:Int):Xc s p=(match Xc s 0 with | .ok (t,n) =>.ok (⟨t.kind,t.text,t.num,p⟩,n) | .error e =>.error e):=by
 rw[Go.Proofs.tok_hd h0 (p:=p),Go.Proofs.tok_hd h0 (p:=0)]
 by_cases c1:qu s[0]=true
 ·rw[if_pos c1,if_pos c1];split <;> rfl
 rw[if_neg c1,if_neg c1]
 by_cases c2:s[0]=34
 ·rw[if_pos c2,if_pos c2]
  cases Vx s with
  | error e=>rfl
  | ok y=>rfl
 rw[if_neg c2,if_neg c2]
 by_cases c3:(Qh s[0] || ZK s[0])=true
 ·rw[if_pos c3,if_pos c3];split <;> rfl
 rw[if_neg c3,if_neg c3]
 by_cases c4:s[0]∈signsL
 ·rw[if_pos c4,if_pos c4];split <;> rfl
 ·rw[if_neg c4,if_neg c4]
end Go.AL
namespace Go.Proofs
open Go Go.AL Tryz
theorem BU {s w:Tx} {x:ByteArray} (hx:x=ba w) (hs:w.length≤100000) (h0:0<w.length) {R:Except Int (Tk×Nat)} (hR:Xc w 0=R) {K:SV→St→Prop} {st:St} (hk:FU R K st):ACalls prog 33 [.sc (.string x)] K st:=by
 subst hx;subst hR;exact mP hs h0 hk
theorem uY {w:Tx} {x:ByteArray} (hx:x=ba w) (hs:w.length≤100000) (h0:0<w.length) {t:Tk} {n:Nat} (hR:Xc w 0 = .ok (t,n)) {K:SV→St→Prop} {st:St} (hk:K (.tuple [ZF t,.sc (.int .i64 n),.sc (.int .i64 0)]) st):ACalls prog 33 [.sc (.string x)] K st :=
 BU (s:=w) hx hs h0 hR hk
theorem xk {w:Tx} {x:ByteArray} (hx:x=ba w) (hs:w.length≤100000) (h0:0<w.length) {e:Int} (hR:Xc w 0 = .error e) {K:SV→St→Prop} {st:St} (hk:∀ (t:Tk) (n:Int),K (.tuple [ZF t,.sc (.int .i64 n),.sc (.int .i64 e)]) st):ACalls prog 33 [.sc (.string x)] K st :=
 BU (s:=w) hx hs h0 hR hk
theorem B7 {s:Tx} (hz:s.length≤100000) {K:SV→St→Prop} {st:St} (hk:yY (Y0 s) K st):ACalls prog 18 [.sc (.string (ba s))] K st:=by
 refine zn [] func18 rfl results18 ntmps18 ?_
 by_cases hl:2000<s.length
 ·have c1:decide ((2000:Int)<(s.length:Int))=true:=by simp;omega
  unfold Y0 at hk
  rw[if_pos hl] at hk
  simp only[go_sem,zo,gt_iff_lt,c1]
  exact zS (WJ _ _ _) (hk _)
 have c1:decide ((2000:Int)<(s.length:Int))=false:=by simp;omega
 unfold Y0 at hk
 rw[if_neg hl] at hk
 simp only[go_sem,zo,gt_iff_lt,c1]
 refine ES 5 4 0 rfl ?_
 simp only[go_sem]
 refine zN [] (fun k env s'=>∃ (i f:Nat) (out:List Tk) (ver:Nat) (ex:St),k+i=s.length∧Zn (s.length+1) s 0 []=Zn f (s.drop i) i out∧s.length+1≤f+i∧out.length≤i∧env=[.sc (.string (ba s)),.any,.any,.any,.any,.slice (.own st.length ver) 4 (out.map ZF),.sc (.int .i64 i),.any,.any,.any,.any,.any,.any,.any,.any,.any,.any,.any,.any,.any,.any,.any,.any,.any,.any,.any,.any,.any,.any,.any,.any,.any,.any,.any,.any,.any,.any,.any,.any,.any,.any,.any,.any,.any,.any,.any,.any,.any,.any,.any,.any,.any,.any,.any,.any,.any,.any,.any,.any,.any,.any,.any,.any,.any,.any,.any,.any,.any,.any,.any,.any,.any,.any,.any]∧s'=st++(.tok ver::ex)) (n:=s.length) ?_ ⟨0,s.length+1,[],0,[],by omega,rfl,by omega,by simp,rfl,rfl⟩ ?_
 ·repeat (first | exact zj | refine zk _ ?_ | refine zg _ ?_ | refine zf _ ?_)
 rintro k env s' ⟨i,f,out,ver,ex,hm,hu,hf,hol,rfl,rfl⟩
 have w1:IntKind.i64.wrap ((i:Int)+1)=((i+1:Nat):Int):=by rw[IntWalk.i64_in _ (by omega)];rfl
 by_cases hlt:i<s.length
 rotate_left
 ·have c2:decide ((i:Int)<(s.length:Int))=false:=by simp;omega
  cases f with
  | zero=>omega
  | succ f =>
  have hdr:s.drop i=[]:=List.drop_of_length_le (by omega)
  have hil:i+qh false (s.drop i)=s.length:=by rw[hdr];show i+0=_;omega
  rw[tokensL_end (s:=s.drop i) (by rw[hdr];rfl),hil] at hu
  rw[hu] at hk
  simp only[go_sem,zo,c2]
  simp only[yY,List.map_append] at hk
  exact⟨uB (by omega),zQ (Lv _ (out++[⟨0,[],0,s.length⟩]) _ _ (by rw[List.map_append];rfl)) hk⟩
 have c2:decide ((i:Int)<(s.length:Int))=true:=by simp;omega
 have hgi:=ZQ hlt
 have hdi:=XI hlt
 obtain⟨c,hc⟩:∃ c,c=s[i]:=⟨_,rfl⟩
 rw[←hc] at hgi hdi
 have e32:=ZI c 32 32 rfl
 have e9:=ZI c 9 9 rfl
 have e10:=ZI c 10 10 rfl
 have e35:=ZI c 35 35 rfl
 by_cases hbl:c=32∨c=9∨c=10
 ·have hp:Zn f (s.drop i) i out=Zn f (s.drop (i+1)) (i+1) out:=WB (by rw[hdi,Y4 hbl];omega)
  rw[hp] at hu
  have fb:(c==32 || c==9 || c==10)=true:=by
   simp only[Bool.or_eq_true,beq_iff_eq];rcases hbl with h | h | h
   ·exact .inl (.inl h)
   ·exact .inl (.inr h)
   ·exact .inr h
  by_cases k1:c=32
  ·have f1:(c==32)=true:=by simp[k1]
   simp only[go_sem,zo,c2,hgi,e32,e9,e10,f1,w1]
   refine⟨by omega,k-1,_,by omega,?_,i+1,f,out,ver,ex,by omega,hu,by omega,by omega,rfl,rfl⟩
   repeat (first | exact zj | refine zk _ ?_ | refine zg _ ?_ | refine zf _ ?_)
  ·have f1:(c==32)=false:=by simp[k1]
   by_cases k2:c=9
   ·have f2:(c==9)=true:=by simp[k2]
    simp only[go_sem,zo,c2,hgi,e32,e9,e10,f1,f2,w1]
    refine⟨by omega,k-1,_,by omega,?_,i+1,f,out,ver,ex,by omega,hu,by omega,by omega,rfl,rfl⟩
    repeat (first | exact zj | refine zk _ ?_ | refine zg _ ?_ | refine zf _ ?_)
   ·have f2:(c==9)=false:=by simp[k2]
    have f3:(c==10)=true:=by
     rcases hbl with h | h | h
     ·exact absurd h k1
     ·exact absurd h k2
     ·simp[h]
    simp only[go_sem,zo,c2,hgi,e32,e9,e10,f1,f2,f3,w1]
    refine⟨by omega,k-1,_,by omega,?_,i+1,f,out,ver,ex,by omega,hu,by omega,by omega,rfl,rfl⟩
    repeat (first | exact zj | refine zk _ ?_ | refine zg _ ?_ | refine zf _ ?_)
 have f1:(c==32)=false:=by simp;exact fun h=>hbl (.inl h)
 have f2:(c==9)=false:=by simp;exact fun h=>hbl (.inr (.inl h))
 have f3:(c==10)=false:=by simp;exact fun h=>hbl (.inr (.inr h))
 by_cases h35:c=35
 ·have f4:(c==35)=true:=by simp[h35]
  have hR0:Zn (s.length+1) s 0 []=Zn f (s.drop i) i out:=hu
  have hPt:i+qh true (s.drop i)=i+qh false (s.drop i):=by rw[hdi,h35];rfl
  simp only[go_sem,zo,c2,hgi,e32,e9,e10,e35,f1,f2,f3,f4]
  refine⟨by omega,?_⟩
  refine zN [] (fun m env s'=>∃ j:Nat,m+j=s.length∧i≤j∧j+qh true (s.drop j)=i+qh false (s.drop i)∧env=[.sc (.string (ba s)),.any,.any,.any,.any,.slice (.own st.length ver) 4 (out.map ZF),.sc (.int .i64 j),.any,.any,.any,.any,.any,.any,.any,.any,.any,.any,.any,.any,.any,.any,.any,.any,.any,.any,.any,.any,.any,.any,.any,.any,.any,.any,.any,.any,.any,.any,.any,.any,.any,.any,.any,.any,.any,.any,.any,.any,.any,.any,.any,.any,.any,.any,.any,.any,.any,.any,.any,.any,.any,.any,.any,.any,.any,.any,.any,.any,.any,.any,.any,.any,.any,.any,.any]∧s'=st++(.tok ver::ex)) (n:=s.length-i) ?_ ⟨i,by omega,Nat.le_refl _,hPt,rfl,rfl⟩ ?_
  ·repeat (first | exact zj | refine zk _ ?_ | refine zg _ ?_ | refine zf _ ?_)
  rintro m env s' ⟨j,hj,hij,hP,rfl,rfl⟩
  have w2:IntKind.i64.wrap ((j:Int)+1)=((j+1:Nat):Int):=by rw[IntWalk.i64_in _ (by omega)];rfl
  by_cases hjl:j<s.length
  ·have c3:decide ((j:Int)<(s.length:Int))=true:=by simp;omega
   have hgj:=ZQ hjl
   have e10j:=H1 s[j] 10 10 rfl
   by_cases h10:s[j]=10
   ·have f10:(s[j] != 10)=false:=by simp[h10]
    have hji:i<j:=by
     rcases Nat.lt_or_ge i j with h | h
     ·exact h
     ·have:i=j:=by omega
      subst this;rw[←hc,h35] at h10;exact absurd h10 (by decide)
    have hp2:Zn f (s.drop i) i out=Zn f (s.drop j) j out:=WB (by rw[←hP,XI hjl,h10];rfl)
    rw[hp2] at hu
    simp only[go_sem,zo,c3,hgj,e10j,f10]
    refine⟨by omega,k-(j-i),_,by omega,?_,j,f,out,ver,ex,by omega,hu,by omega,by omega,rfl,rfl⟩
    repeat (first | exact zj | refine zk _ ?_ | refine zg _ ?_ | refine zf _ ?_)
   ·have f10:(s[j] != 10)=true:=by simp[h10]
    simp only[go_sem,zo,c3,hgj,e10j,f10,w2]
    refine⟨by omega,m-1,_,by omega,?_,j+1,by omega,by omega,?_,rfl⟩
    ·repeat (first | exact zj | refine zk _ ?_ | refine zg _ ?_ | refine zf _ ?_)
    ·rw[←hP,XI hjl,od,if_neg h10];omega
  ·have c3:decide ((j:Int)<(s.length:Int))=false:=by simp;omega
   have hp2:Zn f (s.drop i) i out=Zn f (s.drop j) j out:=WB (by rw[←hP,List.drop_of_length_le (by omega)];rfl)
   rw[hp2] at hu
   simp only[go_sem,zo,c3]
   refine⟨k-(j-i),_,by omega,?_,j,f,out,ver,ex,by omega,hu,by omega,by omega,rfl,rfl⟩
   repeat (first | exact zj | refine zk _ ?_ | refine zg _ ?_ | refine zf _ ?_)
 have f4:(c==35)=false:=by simp[h35]
 have hsk:qh false (s.drop i)=0:=by rw[hdi,Bo hbl h35]
 have hw0:0<(s.drop i).length:=by simp;omega
 have hwl:(s.drop i).length≤100000:=by simp;omega
 have hcut:(ba s).extract i s.length=ba (s.drop i):=by rw[qR,VF]
 cases f with
 | zero=>omega
 | succ f =>
 have hst:=tokensL_step (m:=f) (k:=i) (out:=out) (show (s.drop i).drop (qh false (s.drop i))=c::s.drop (i+1) by rw[hsk];exact hdi)
 rw[hsk,Nat.add_zero,←hdi] at hst
 rw[hst,eC hw0] at hu
 cases hR:Xc (s.drop i) 0 with
 | error e =>
  rw[hR] at hu
  rw[hu] at hk
  have he:e≠0:=by
   generalize hQ:Vi c (c::s.drop (i+1)) 0=Q
   obtain⟨g',e',t',n'⟩:=Q
   have h1:=(UB hQ).1
   rw[←hdi,hR] at h1
   by_cases h0:e'=0
   ·rw[if_pos h0] at h1;cases h1
   ·rw[if_neg h0] at h1;cases h1;exact h0
  have d1:(e != 0)=true:=by simp[he]
  simp only[go_sem,zo,c2,hgi,e32,e9,e10,e35,f1,f2,f3,f4]
  refine⟨by omega,by omega,?_⟩
  first | (unfold zl;simp only[ze,zc,zq,List.set_cons_succ,List.set_cons_zero,List.getD_cons_succ,List.getD_cons_zero]) | skip
  refine xk hcut hwl hw0 hR fun t n=>?_
  simp only[go_sem,zo,c2,hgi,e32,e9,e10,e35,f1,f2,f3,f4,d1]
  simp only[yY,Nat.add_zero] at hk
  exact zQ (WJ _ _ _) (hk _)
 | ok y =>
  obtain⟨t,n⟩:=y
  rw[hR] at hu
  obtain⟨tp,n1,n2,tk⟩:=EZ (show Xc (c::s.drop (i+1)) 0 = .ok (t,n) by rw[←hdi];exact hR)
  simp only[List.length_cons,List.length_drop] at n2
  have w5:IntKind.i64.wrap ((i:Int)+(n:Int))=((i+n:Nat):Int):=by rw[IntWalk.i64_in _ (by omega)];rfl
  simp only[go_sem,zo,c2,hgi,e32,e9,e10,e35,f1,f2,f3,f4]
  refine⟨by omega,by omega,?_⟩
  first | (unfold zl;simp only[ze,zc,zq,List.set_cons_succ,List.set_cons_zero,List.getD_cons_succ,List.getD_cons_zero]) | skip
  refine uY hcut hwl hw0 hR ?_
  simp only[go_sem,zo,c2,hgi,e32,e9,e10,e35,f1,f2,f3,f4,eF,w5]
  refine⟨uB (by omega),k-n,_,by omega,?_,i+n,f,out++[⟨t.kind,t.text,t.num,i⟩],ver+1,_,by omega,?_,by omega,by simp only[List.length_append,List.length_cons,List.length_nil];omega,by rw[List.map_append,show [(⟨t.kind,t.text,t.num,i⟩:Tk)].map ZF=[.agg [.sc (.int .i64 t.kind),.sc (.string (ba t.text)),.sc (.int .i64 t.num),.sc (.int .i64 i)]] from rfl],rfl⟩
  ·repeat (first | exact zj | refine zk _ ?_ | refine zg _ ?_ | refine zf _ ?_)
  ·rw[hu]
   show Zn f ((s.drop i).drop n) (i+0+n) (out++[⟨t.kind,t.text,t.num,((i+0:Nat):Int)⟩])=_
   rw[List.drop_drop,Nat.add_zero]
end Go.Proofs
