/- parse.Same. -/
import Derived.Test.YtkokccjfpebomaaGreatDoorN9
set_option linter.all false
set_option maxHeartbeats 4000000
set_option maxRecDepth 8000
namespace Go.Proofs
open Go Go.AL Tryz
theorem Ar{l r:List Tx}(hl:l.length≤100000)(hr:r.length≤100000){K:SV→St→Prop}{st:St}(hk:K (.sc (.bool (decide (l=r)))) st):ACalls prog 48 [.slice .imm 1 (l.map qc),.slice .imm 1 (r.map qc)] K st:=by
 refine zd [] func48 rfl results48 ntmps48 ?_;by_cases hlen:l.length=r.length
 rotate_left
 ·have c1:((l.length:Int) != (r.length:Int))=true:=by simp;omega
  have he:decide (l=r)=false:=by simp;intro h;exact hlen (by rw[h])
  rw[he] at hk;simp only[go_sem,xlM,c1];exact zD (zi _ _) hk
 have c1:((l.length:Int) != (r.length:Int))=false:=by simp;omega
 simp only[go_sem,xlM,c1];refine zx [] (fun k env s=>∃ i:Nat,k+i=l.length∧l.take i=r.take i∧env=[.slice .imm 1 (l.map qc),.slice .imm 1 (r.map qc),.any,.any,.any,.any,.any,.any,.any,.any,.any,.any,.sc (.int .i64 l.length),.sc (.int .i64 i),.any,.any,.any,.any,.any,.any,.any,.any,.any,.any,.any,.any]∧s=st) (n:=l.length) ?_ ⟨0,by omega,by simp,rfl,rfl⟩ ?_
 ·exact qu
 rintro k env s ⟨i,hi,htk,rfl,rfl⟩;by_cases hlt:i<l.length
 ·have c2:decide ((i:Int)<(l.length:Int))=true:=by simp;omega
  have w1:IntKind.i64.wrap ((i:Int)+1)=((i+1:Nat):Int):=by rw[IntWalk.i64_in _ (by omega)];rfl
  have hlt2:i<r.length:=by omega
  have g1:=Wr hlt;have g2:=Wr hlt2;by_cases he:l[i]=r[i]
  ·have c3:(l[i]==r[i])=true:=by simp[he]
   simp only[go_sem,c2,w1];refine zC [] mixed rfl ?_;simp only[go_sem,xlM,g1,g2,c3,w1];refine⟨by omega,by omega,k-1,_,by omega,?_,i+1,by omega,by rw[List.take_succ_eq_append_getElem hlt,List.take_succ_eq_append_getElem hlt2,htk,he],rfl⟩;exact qu
  ·have c3:(l[i]==r[i])=false:=by simp[he]
   have hd:decide (l=r)=false:=by
    simp only[decide_eq_false_iff_not];intro h;subst h;exact he rfl
   rw[hd] at hk;simp only[go_sem,c2,w1];refine zC [] mixed rfl ?_;simp only[go_sem,xlM,g1,g2,c3,w1];exact⟨by omega,by omega,zD (zi _ _) hk⟩
 ·have c2:decide ((i:Int)<(l.length:Int))=false:=by simp;omega
  have hd:decide (l=r)=true:=by
   rw[List.take_of_length_le (by omega),List.take_of_length_le (by omega)] at htk;simp[htk]
  rw[hd] at hk;simp only[go_sem,c2];exact zD (zi _ _) hk
theorem iG{l r:List Nd}(hl:l.length≤100000)(hr:r.length≤100000)(ih:∀ a∈l,∀ b∈r,∀ (K:SV→St→Prop) (st:St),K (.sc (.bool (Zg a b))) st→ACalls prog 30 [zq a,zq b] K st){K:SV→St→Prop}{st:St}(hk:K (.sc (.bool (qn l r))) st) :
  ACalls prog 49 [.slice .imm 6 (l.map zq),.slice .imm 6 (r.map zq),.func (.func 30) [] []] K st:=by
 refine zd [] func49 rfl results49 ntmps49 ?_;by_cases hlen:l.length=r.length
 rotate_left
 ·have c1:((l.length:Int) != (r.length:Int))=true:=by simp;omega
  have he:qn l r=false:=by
   cases h:qn l r with
   | false=>rfl
   | true=>exact absurd (Kk h) hlen
  rw[he] at hk;simp only[go_sem,xlM,c1];exact zD (zi _ _) hk
 have c1:((l.length:Int) != (r.length:Int))=false:=by simp;omega
 simp only[go_sem,xlM,c1];refine zx [] (fun k env s=>∃ (i:Nat) (ex:St),k+i=l.length∧qn l r=qn (l.drop i) (r.drop i)∧env=[.slice .imm 6 (l.map zq),.slice .imm 6 (r.map zq),.func (.func 30) [] [],.any,.any,.any,.any,.any,.any,.any,.any,.any,.any,.any,.any,.slice .imm 6 (l.map zq),.sc (.int .i64 l.length),.sc (.int .i64 i),.any,.any,.any,.any,.any,.any,.any,.any,.any,.any,.any,.any,.any,.any]∧s=st++ex) (n:=l.length) ?_ ⟨0,[],by omega,rfl,rfl,by simp⟩ ?_
 ·exact qu
 rintro k env s ⟨i,ex,hi,hsm,rfl,rfl⟩;by_cases hlt:i<l.length
 ·have c2:decide ((i:Int)<(l.length:Int))=true:=by simp;omega
  have w1:IntKind.i64.wrap ((i:Int)+1)=((i+1:Nat):Int):=by rw[IntWalk.i64_in _ (by omega)];rfl
  have hlt2:i<r.length:=by omega
  have g1:=q7 hlt;have g2:=q7 hlt2;have hih:=ih l[i] (List.getElem_mem hlt) r[i] (List.getElem_mem hlt2);rw[List.drop_eq_getElem_cons hlt,List.drop_eq_getElem_cons hlt2] at hsm;rw[show qn (l[i]::l.drop (i+1)) (r[i]::r.drop (i+1))=(Zg l[i] r[i]&&qn (l.drop (i+1)) (r.drop (i+1))) from rfl] at hsm;cases hb:Zg l[i] r[i] with
  | true =>
   rw[hb] at hih hsm;rw[Bool.true_and] at hsm;simp only[go_sem,c2,w1,xlM,g1,g2];refine⟨by omega,by omega,?_⟩;refine hih _ _ ?_;simp only[go_sem,w1];refine⟨k-1,_,by omega,?_,i+1,_,by omega,hsm,rfl,rfl⟩;exact qu
  | false =>
   rw[hb] at hih hsm;rw[Bool.false_and] at hsm;rw[hsm] at hk;simp only[go_sem,c2,w1,xlM,g1,g2];refine⟨by omega,by omega,?_⟩;refine hih _ _ ?_;simp only[go_sem,w1];exact zF (zi _ _) hk
 ·have c2:decide ((i:Int)<(l.length:Int))=false:=by simp;omega
  rw[List.drop_of_length_le (by omega),List.drop_of_length_le (by omega)] at hsm;rw[hsm] at hk;simp only[go_sem,c2];exact zF (zi _ _) hk
theorem gi{l r:List Tx}(hl:l.length≤100000)(hr:r.length≤100000){v:Bool}(hv:decide (l=r)=v){K:SV→St→Prop}{st:St}(hk:K (.sc (.bool v)) st):ACalls prog 48 [.slice .imm 1 (l.map qc),.slice .imm 1 (r.map qc)] K st:=by
 subst hv;exact Ar hl hr hk
theorem aC{a b:Nd}(ha:Few 100000 a)(hb:Few 100000 b)(ih:∀ x∈a.kids,∀ y∈b.kids,∀ (K:SV→St→Prop) (st:St),K (.sc (.bool (Zg x y))) st→ACalls prog 30 [zq x,zq y] K st){K:SV→St→Prop}{st:St}(hk:K (.sc (.bool (Zg a b))) st):ACalls prog 30 [zq a,zq b] K st:=by
 refine zd [] func30 rfl results30 ntmps30 ?_;have hs:Zg a b=(decide (a.kind=b.kind)&&decide (a.text=b.text)&&decide (a.num=b.num)&&decide (a.names=b.names)&&qn a.kids b.kids):=by cases a;cases b;rfl
 rw[hs] at hk;cases ha with
 | mk _ _ la1 la2 =>
 cases hb with
 | mk _ _ lb1 lb2 =>
 by_cases c1:a.kind=b.kind
 rotate_left
 ·have d1:(a.kind==b.kind)=false:=by simp[c1]
  rw[show decide (a.kind=b.kind)=false by simp[c1]] at hk;simp only[Bool.false_and] at hk;simp only[go_sem,za,d1];exact zD (zi _ _) hk
 have d1:(a.kind==b.kind)=true:=by simp[c1]
 rw[show decide (a.kind=b.kind)=true by simp[c1],Bool.true_and] at hk;by_cases c2:a.text=b.text
 rotate_left
 ·have d2:(a.text==b.text)=false:=by simp[c2]
  rw[show decide (a.text=b.text)=false by simp[c2]] at hk;simp only[Bool.false_and] at hk;simp only[go_sem,za,d1,d2];exact zD (zi _ _) hk
 have d2:(a.text==b.text)=true:=by simp[c2]
 rw[show decide (a.text=b.text)=true by simp[c2],Bool.true_and] at hk;by_cases c3:a.num=b.num
 rotate_left
 ·have d3:(a.num==b.num)=false:=by simp[c3]
  rw[show decide (a.num=b.num)=false by simp[c3]] at hk;simp only[Bool.false_and] at hk;simp only[go_sem,za,d1,d2,d3];exact zD (zi _ _) hk
 have d3:(a.num==b.num)=true:=by simp[c3]
 rw[show decide (a.num=b.num)=true by simp[c3],Bool.true_and] at hk;cases h4:decide (a.names=b.names) with
 | false =>
  rw[h4] at hk;simp only[Bool.false_and] at hk;simp only[go_sem,za,d1,d2,d3];refine gi la2 lb2 h4 ?_;simp only[go_sem,za,d1,d2,d3];exact zD (zi _ _) hk
 | true =>
  rw[h4] at hk;simp only[Bool.true_and] at hk;simp only[go_sem,za,d1,d2,d3];refine gi la2 lb2 h4 ?_;simp only[go_sem,za,d1,d2,d3];refine iG la1 lb1 ih ?_;simp only[go_sem,za,d1,d2,d3];exact zD (zi _ _) hk
theorem s8{a b:Nd}(ha:Few 100000 a)(hb:Few 100000 b):∀ {K:SV→St→Prop} {st:St} (hk:K (.sc (.bool (Zg a b))) st),ACalls prog 30 [zq a,zq b] K st:=by
 induction ha generalizing b with
 | mk a h h1 h2 ih =>
  intro K st hk;have hb':=hb;cases hb' with
  | mk _ g g1 g2=>exact aC (.mk a h h1 h2) hb (fun x hx y hy K st hk=>ih x hx (g y hy) hk) hk
end Go.Proofs
