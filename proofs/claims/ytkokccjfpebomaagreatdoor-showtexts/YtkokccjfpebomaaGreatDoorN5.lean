/- parse.Same. -/
import Derived.Test.YtkokccjfpebomaaGreatDoorN9
set_option linter.all false
set_option maxHeartbeats 4000000
set_option maxRecDepth 8000
namespace Go.Proofs
open Go Go.AL Tryz
variable {K:SV→St→Prop}{st:St}
theorem lR{l r:List Tx}(hl:l.length≤100000)(hr:r.length≤100000)(hk:K (.sc (.bool (decide (l=r)))) st):ACalls prog 48 [.slice .imm 1 (l.map z8),.slice .imm 1 (r.map z8)] K st:=by
 refine zc [] func48 rfl results48 ntmps48 ?_;by_cases hlen:l.length=r.length
 rotate_left
 ·have c1:((l.length:Int) != (r.length:Int))=true:=by simp;omega
  have he:decide (l=r)=false:=by simp;intro h;exact hlen (by rw[h])
  rw[he] at hk;simp only[go_sem,xlM,c1];exact zD (zh _ _) hk
 have c1:((l.length:Int) != (r.length:Int))=false:=by simp;omega
 simp only[go_sem,xlM,c1];refine zt [] (fun k env s=>∃ i:Nat,k+i=l.length∧l.take i=r.take i∧env=(.slice .imm 1 (l.map z8) :: .slice .imm 1 (r.map z8) :: .any :: .any::JW (.sc (.int .i64 l.length) :: .sc (.int .i64 i)::XQ (JW [])))∧s=st) (n:=l.length) ?_ ⟨0,by omega,by simp,rfl,rfl⟩ ?_
 ·exact qv
 rintro k env s ⟨i,hi,htk,rfl,rfl⟩;by_cases hlt:i<l.length
 ·have c2:decide ((i:Int)<(l.length:Int))=true:=by simp;omega
  have w1:=KL i;have hlt2:i<r.length:=by omega
  have g1:=DB hlt;have g2:=DB hlt2;by_cases he:l[i]=r[i]
  ·have c3:(l[i]==r[i])=true:=by simp[he]
   simp only[go_sem,c2,w1];refine zy [] mixed rfl ?_;simp only[go_sem,xlM,g1,g2,c3,w1];refine⟨by omega,by omega,k-1,_,by omega,?_,i+1,by omega,by rw[List.take_succ_eq_append_getElem hlt,List.take_succ_eq_append_getElem hlt2,htk,he],rfl⟩;exact qv
  ·have c3:(l[i]==r[i])=false:=by simp[he]
   have hd:decide (l=r)=false:=by
    simp only[decide_eq_false_iff_not];intro h;subst h;exact he rfl
   rw[hd] at hk;simp only[go_sem,c2,w1];refine zy [] mixed rfl ?_;simp only[go_sem,xlM,g1,g2,c3,w1];exact⟨by omega,by omega,zD (zh _ _) hk⟩
 ·have c2:decide ((i:Int)<(l.length:Int))=false:=by simp;omega
  have hd:decide (l=r)=true:=by
   rw[List.take_of_length_le (by omega),List.take_of_length_le (by omega)] at htk;simp[htk]
  rw[hd] at hk;simp only[go_sem,c2];exact zD (zh _ _) hk
theorem ay{l r:List Nd}(hl:l.length≤100000)(hr:r.length≤100000)(ih:∀ a∈l,∀ b∈r,∀ (K:SV→St→Prop) (st:St),K (.sc (.bool (Z3 a b))) st→ACalls prog 30 [zq a,zq b] K st)(hk:K (.sc (.bool (qX l r))) st) :
  ACalls prog 49 [.slice .imm 6 (l.map zq),.slice .imm 6 (r.map zq),.func (.func 30) [] []] K st:=by
 refine zc [] func49 rfl results49 ntmps49 ?_;by_cases hlen:l.length=r.length
 rotate_left
 ·have c1:((l.length:Int) != (r.length:Int))=true:=by simp;omega
  have he:qX l r=false:=by
   cases h:qX l r with
   | false=>rfl
   | true=>exact absurd (Uw h) hlen
  rw[he] at hk;simp only[go_sem,xlM,c1];exact zD (zh _ _) hk
 have c1:((l.length:Int) != (r.length:Int))=false:=by simp;omega
 simp only[go_sem,xlM,c1];refine zt [] (fun k env s=>∃ (i:Nat) (ex:St),k+i=l.length∧qX l r=qX (l.drop i) (r.drop i)∧env=(.slice .imm 6 (l.map zq) :: .slice .imm 6 (r.map zq) :: .func (.func 30) [] []::XQ (JW (.slice .imm 6 (l.map zq) :: .sc (.int .i64 l.length) :: .sc (.int .i64 i) :: .any :: .any::XQ (JW []))))∧s=st++ex) (n:=l.length) ?_ ⟨0,[],by omega,rfl,rfl,by simp⟩ ?_
 ·exact qv
 rintro k env s ⟨i,ex,hi,hsm,rfl,rfl⟩;by_cases hlt:i<l.length
 ·have c2:decide ((i:Int)<(l.length:Int))=true:=by simp;omega
  have w1:=KL i;have hlt2:i<r.length:=by omega
  have g1:=Zm hlt;have g2:=Zm hlt2;have hih:=ih l[i] (List.getElem_mem hlt) r[i] (List.getElem_mem hlt2);rw[List.drop_eq_getElem_cons hlt,List.drop_eq_getElem_cons hlt2] at hsm;rw[show qX (l[i]::l.drop (i+1)) (r[i]::r.drop (i+1))=(Z3 l[i] r[i]&&qX (l.drop (i+1)) (r.drop (i+1))) from rfl] at hsm;cases hb:Z3 l[i] r[i] with
  | true =>
   rw[hb] at hih hsm;rw[Bool.true_and] at hsm;simp only[go_sem,c2,w1,xlM,g1,g2];refine⟨by omega,by omega,?_⟩;refine hih _ _ ?_;simp only[go_sem,w1];refine⟨k-1,_,by omega,?_,i+1,_,by omega,hsm,rfl,rfl⟩;exact qv
  | false =>
   rw[hb] at hih hsm;rw[Bool.false_and] at hsm;rw[hsm] at hk;simp only[go_sem,c2,w1,xlM,g1,g2];refine⟨by omega,by omega,?_⟩;refine hih _ _ ?_;simp only[go_sem,w1];exact zB (zh _ _) hk
 ·have c2:decide ((i:Int)<(l.length:Int))=false:=by simp;omega
  rw[List.drop_of_length_le (by omega),List.drop_of_length_le (by omega)] at hsm;rw[hsm] at hk;simp only[go_sem,c2];exact zB (zh _ _) hk
theorem uD{l r:List Tx}(hl:l.length≤100000)(hr:r.length≤100000){v:Bool}(hv:decide (l=r)=v)(hk:K (.sc (.bool v)) st):ACalls prog 48 [.slice .imm 1 (l.map z8),.slice .imm 1 (r.map z8)] K st:=by
 subst hv;exact lR hl hr hk
theorem ov{a b:Nd}(ha:Few 100000 a)(hb:Few 100000 b)(ih:∀ x∈a.kids,∀ y∈b.kids,∀ (K:SV→St→Prop) (st:St),K (.sc (.bool (Z3 x y))) st→ACalls prog 30 [zq x,zq y] K st)(hk:K (.sc (.bool (Z3 a b))) st):ACalls prog 30 [zq a,zq b] K st:=by
 refine zc [] func30 rfl results30 ntmps30 ?_;have hs:Z3 a b=(decide (a.kind=b.kind)&&decide (a.text=b.text)&&decide (a.num=b.num)&&decide (a.names=b.names)&&qX a.kids b.kids):=by cases a;cases b;rfl
 rw[hs] at hk;cases ha with
 | mk _ _ la1 la2 =>
 cases hb with
 | mk _ _ lb1 lb2 =>
 by_cases c1:a.kind=b.kind
 rotate_left
 ·have d1:(a.kind==b.kind)=false:=by simp[c1]
  rw[show decide (a.kind=b.kind)=false by simp[c1]] at hk;simp only[Bool.false_and] at hk;simp only[go_sem,za,d1];exact zD (zh _ _) hk
 have d1:(a.kind==b.kind)=true:=by simp[c1]
 rw[show decide (a.kind=b.kind)=true by simp[c1],Bool.true_and] at hk;by_cases c2:a.text=b.text
 rotate_left
 ·have d2:(a.text==b.text)=false:=by simp[c2]
  rw[show decide (a.text=b.text)=false by simp[c2]] at hk;simp only[Bool.false_and] at hk;simp only[go_sem,za,d1,d2];exact zD (zh _ _) hk
 have d2:(a.text==b.text)=true:=by simp[c2]
 rw[show decide (a.text=b.text)=true by simp[c2],Bool.true_and] at hk;by_cases c3:a.num=b.num
 rotate_left
 ·have d3:(a.num==b.num)=false:=by simp[c3]
  rw[show decide (a.num=b.num)=false by simp[c3]] at hk;simp only[Bool.false_and] at hk;simp only[go_sem,za,d1,d2,d3];exact zD (zh _ _) hk
 have d3:(a.num==b.num)=true:=by simp[c3]
 rw[show decide (a.num=b.num)=true by simp[c3],Bool.true_and] at hk;cases h4:decide (a.names=b.names) with
 | false =>
  rw[h4] at hk;simp only[Bool.false_and] at hk;simp only[go_sem,za,d1,d2,d3];refine uD la2 lb2 h4 ?_;simp only[go_sem,za,d1,d2,d3];exact zD (zh _ _) hk
 | true =>
  rw[h4] at hk;simp only[Bool.true_and] at hk;simp only[go_sem,za,d1,d2,d3];refine uD la2 lb2 h4 ?_;simp only[go_sem,za,d1,d2,d3];refine ay la1 lb1 ih ?_;simp only[go_sem,za,d1,d2,d3];exact zD (zh _ _) hk
theorem af{a b:Nd}(ha:Few 100000 a)(hb:Few 100000 b):∀ {K:SV→St→Prop} {st:St} (hk:K (.sc (.bool (Z3 a b))) st),ACalls prog 30 [zq a,zq b] K st:=by
 induction ha generalizing b with
 | mk a h h1 h2 ih =>
  intro K st hk;have hb':=hb;cases hb' with
  | mk _ g g1 g2=>exact ov (.mk a h h1 h2) hb (fun x hx y hy K st hk=>ih x hx (g y hy) hk) hk
end Go.Proofs
