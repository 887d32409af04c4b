/- parse.Same. -/
import Derived.Test.YtkokccjfpebomaaGreatDoorN9
import Derived.Test.YtkokccjfpebomaaGreatDoorW0b
set_option maxHeartbeats 4000000
set_option linter.unusedSimpArgs false
set_option linter.unusedVariables false
set_option maxRecDepth 8000
namespace Go.Proofs
open Go Go.AL
theorem zuM {l r:List Tx} (hl:l.length≤100000) (hr:r.length≤100000) {K:SV→St→Prop} {st:St} (hk:K (.sc (.bool (decide (l=r)))) st):ACalls Tryz.prog 48 [.slice .imm 1 (l.map qv),.slice .imm 1 (r.map qv)] K st:=by
 refine zj [] Tryz.func48 rfl Tryz.results48 Tryz.ntmps48 ?_
 by_cases hlen:l.length=r.length
 rotate_left
 ·have c1:((l.length:Int) != (r.length:Int))=true:=by simp;omega
  have he:decide (l=r)=false:=by simp;intro h;exact hlen (by rw[h])
  rw[he] at hk
  simp only[go_sem,List.length_map,c1]
  exact zL (zB _ _) hk
 have c1:((l.length:Int) != (r.length:Int))=false:=by simp;omega
 simp only[go_sem,List.length_map,c1]
 refine zM [] (fun k env s=>∃ i:Nat,k+i=l.length∧l.take i=r.take i∧env=[.slice .imm 1 (l.map qv),.slice .imm 1 (r.map qv),.any,.any,.any,.any,.any,.any,.any,.any,.any,.any,.sc (.int .i64 l.length),.sc (.int .i64 i),.any,.any,.any,.any,.any,.any,.any,.any,.any,.any,.any,.any]∧s=st) (n:=l.length) ?_ ⟨0,by omega,by simp,rfl,rfl⟩ ?_
 ·repeat (first | exact zi | refine zh _ ?_ | refine zf _ ?_ | refine ze _ ?_)
 rintro k env s ⟨i,hi,htk,rfl,rfl⟩
 by_cases hlt:i<l.length
 ·have c2:decide ((i:Int)<(l.length:Int))=true:=by simp;omega
  have w1:IntKind.i64.wrap ((i:Int)+1)=((i+1:Nat):Int):=by rw[IntWalk.i64_in _ (by omega)];rfl
  have hlt2:i<r.length:=by omega
  have g1:=zam hlt
  have g2:=zam hlt2
  by_cases he:l[i]=r[i]
  ·have c3:(l[i]==r[i])=true:=by simp[he]
   simp only[go_sem,c2,w1]
   refine zS [] Tryz.mixed rfl ?_
   simp only[go_sem,List.length_map,g1,g2,c3,w1]
   refine⟨by omega,by omega,k-1,_,by omega,?_,i+1,by omega,by rw[List.take_succ_eq_append_getElem hlt,List.take_succ_eq_append_getElem hlt2,htk,he],rfl⟩
   repeat (first | exact zi | refine zh _ ?_ | refine zf _ ?_ | refine ze _ ?_)
  ·have c3:(l[i]==r[i])=false:=by simp[he]
   have hd:decide (l=r)=false:=by
    simp only[decide_eq_false_iff_not]
    intro h;subst h;exact he rfl
   rw[hd] at hk
   simp only[go_sem,c2,w1]
   refine zS [] Tryz.mixed rfl ?_
   simp only[go_sem,List.length_map,g1,g2,c3,w1]
   exact⟨by omega,by omega,zL (zB _ _) hk⟩
 ·have c2:decide ((i:Int)<(l.length:Int))=false:=by simp;omega
  have hd:decide (l=r)=true:=by
   rw[List.take_of_length_le (by omega),List.take_of_length_le (by omega)] at htk
   simp[htk]
  rw[hd] at hk
  simp only[go_sem,c2]
  exact zL (zB _ _) hk
end Go.Proofs
namespace Go.Proofs
open Go Go.AL
theorem zu8 {l r:List Nd} (hl:l.length≤100000) (hr:r.length≤100000) (ih:∀ a∈l,∀ b∈r,∀ (K:SV→St→Prop) (st:St),K (.sc (.bool (qK a b))) st→ACalls Tryz.prog 30 [zH a,zH b] K st) {K:SV→St→Prop} {st:St} (hk:K (.sc (.bool (qb l r))) st) :
  ACalls Tryz.prog 49 [.slice .imm 6 (l.map zH),.slice .imm 6 (r.map zH),.func (.func 30) [] []] K st:=by
 refine zj [] Tryz.func49 rfl Tryz.results49 Tryz.ntmps49 ?_
 by_cases hlen:l.length=r.length
 rotate_left
 ·have c1:((l.length:Int) != (r.length:Int))=true:=by simp;omega
  have he:qb l r=false:=by
   cases h:qb l r with
   | false=>rfl
   | true=>exact absurd (VQ h) hlen
  rw[he] at hk
  simp only[go_sem,List.length_map,c1]
  exact zL (zB _ _) hk
 have c1:((l.length:Int) != (r.length:Int))=false:=by simp;omega
 simp only[go_sem,List.length_map,c1]
 refine zM [] (fun k env s=>∃ (i:Nat) (ex:St),k+i=l.length∧qb l r=qb (l.drop i) (r.drop i)∧env=[.slice .imm 6 (l.map zH),.slice .imm 6 (r.map zH),.func (.func 30) [] [],.any,.any,.any,.any,.any,.any,.any,.any,.any,.any,.any,.any,.slice .imm 6 (l.map zH),.sc (.int .i64 l.length),.sc (.int .i64 i),.any,.any,.any,.any,.any,.any,.any,.any,.any,.any,.any,.any,.any,.any]∧s=st++ex) (n:=l.length) ?_ ⟨0,[],by omega,rfl,rfl,by simp⟩ ?_
 ·repeat (first | exact zi | refine zh _ ?_ | refine zf _ ?_ | refine ze _ ?_)
 rintro k env s ⟨i,ex,hi,hsm,rfl,rfl⟩
 by_cases hlt:i<l.length
 ·have c2:decide ((i:Int)<(l.length:Int))=true:=by simp;omega
  have w1:IntKind.i64.wrap ((i:Int)+1)=((i+1:Nat):Int):=by rw[IntWalk.i64_in _ (by omega)];rfl
  have hlt2:i<r.length:=by omega
  have g1:=QJ hlt
  have g2:=QJ hlt2
  have hih:=ih l[i] (List.getElem_mem hlt) r[i] (List.getElem_mem hlt2)
  rw[List.drop_eq_getElem_cons hlt,List.drop_eq_getElem_cons hlt2] at hsm
  rw[show qb (l[i]::l.drop (i+1)) (r[i]::r.drop (i+1))=(qK l[i] r[i]&&qb (l.drop (i+1)) (r.drop (i+1))) from rfl] at hsm
  cases hb:qK l[i] r[i] with
  | true =>
   rw[hb] at hih hsm
   rw[Bool.true_and] at hsm
   simp only[go_sem,c2,w1,List.length_map,g1,g2]
   refine⟨by omega,by omega,?_⟩
   refine hih _ _ ?_
   simp only[go_sem,w1]
   refine⟨k-1,_,by omega,?_,i+1,_,by omega,hsm,rfl,rfl⟩
   repeat (first | exact zi | refine zh _ ?_ | refine zf _ ?_ | refine ze _ ?_)
  | false =>
   rw[hb] at hih hsm
   rw[Bool.false_and] at hsm
   rw[hsm] at hk
   simp only[go_sem,c2,w1,List.length_map,g1,g2]
   refine⟨by omega,by omega,?_⟩
   refine hih _ _ ?_
   simp only[go_sem,w1]
   exact zP (zB _ _) hk
 ·have c2:decide ((i:Int)<(l.length:Int))=false:=by simp;omega
  rw[List.drop_of_length_le (by omega),List.drop_of_length_le (by omega)] at hsm
  rw[hsm] at hk
  simp only[go_sem,c2]
  exact zP (zB _ _) hk
theorem zlY {l r:List Tx} (hl:l.length≤100000) (hr:r.length≤100000) {v:Bool} (hv:decide (l=r)=v) {K:SV→St→Prop} {st:St} (hk:K (.sc (.bool v)) st):ACalls Tryz.prog 48 [.slice .imm 1 (l.map qv),.slice .imm 1 (r.map qv)] K st:=by
 subst hv;exact zuM hl hr hk
theorem zs3 {a b:Nd} (ha:Few 100000 a) (hb:Few 100000 b) (ih:∀ x∈a.kids,∀ y∈b.kids,∀ (K:SV→St→Prop) (st:St),K (.sc (.bool (qK x y))) st→ACalls Tryz.prog 30 [zH x,zH y] K st) {K:SV→St→Prop} {st:St} (hk:K (.sc (.bool (qK a b))) st):ACalls Tryz.prog 30 [zH a,zH b] K st:=by
 refine zj [] Tryz.func30 rfl Tryz.results30 Tryz.ntmps30 ?_
 have hs:qK a b=(decide (a.kind=b.kind)&&decide (a.text=b.text)&&decide (a.num=b.num)&&decide (a.names=b.names)&&qb a.kids b.kids):=by cases a;cases b;rfl
 rw[hs] at hk
 cases ha with
 | mk _ _ la1 la2 =>
 cases hb with
 | mk _ _ lb1 lb2 =>
 by_cases c1:a.kind=b.kind
 rotate_left
 ·have d1:(a.kind==b.kind)=false:=by simp[c1]
  rw[show decide (a.kind=b.kind)=false by simp[c1]] at hk
  simp only[Bool.false_and] at hk
  simp only[go_sem,zc,d1]
  exact zL (zB _ _) hk
 have d1:(a.kind==b.kind)=true:=by simp[c1]
 rw[show decide (a.kind=b.kind)=true by simp[c1],Bool.true_and] at hk
 by_cases c2:a.text=b.text
 rotate_left
 ·have d2:(a.text==b.text)=false:=by simp[c2]
  rw[show decide (a.text=b.text)=false by simp[c2]] at hk
  simp only[Bool.false_and] at hk
  simp only[go_sem,zc,d1,d2]
  exact zL (zB _ _) hk
 have d2:(a.text==b.text)=true:=by simp[c2]
 rw[show decide (a.text=b.text)=true by simp[c2],Bool.true_and] at hk
 by_cases c3:a.num=b.num
 rotate_left
 ·have d3:(a.num==b.num)=false:=by simp[c3]
  rw[show decide (a.num=b.num)=false by simp[c3]] at hk
  simp only[Bool.false_and] at hk
  simp only[go_sem,zc,d1,d2,d3]
  exact zL (zB _ _) hk
 have d3:(a.num==b.num)=true:=by simp[c3]
 rw[show decide (a.num=b.num)=true by simp[c3],Bool.true_and] at hk
 cases h4:decide (a.names=b.names) with
 | false =>
  rw[h4] at hk
  simp only[Bool.false_and] at hk
  simp only[go_sem,zc,d1,d2,d3]
  refine zlY la2 lb2 h4 ?_
  simp only[go_sem,zc,d1,d2,d3]
  exact zL (zB _ _) hk
 | true =>
  rw[h4] at hk
  simp only[Bool.true_and] at hk
  simp only[go_sem,zc,d1,d2,d3]
  refine zlY la2 lb2 h4 ?_
  simp only[go_sem,zc,d1,d2,d3]
  refine zu8 la1 lb1 ih ?_
  simp only[go_sem,zc,d1,d2,d3]
  exact zL (zB _ _) hk
theorem zvZ {a b:Nd} (ha:Few 100000 a) (hb:Few 100000 b):∀ {K:SV→St→Prop} {st:St} (hk:K (.sc (.bool (qK a b))) st),ACalls Tryz.prog 30 [zH a,zH b] K st:=by
 induction ha generalizing b with
 | mk a h h1 h2 ih =>
  intro K st hk
  have hb':=hb
  cases hb' with
  | mk _ g g1 g2=>exact zs3 (.mk a h h1 h2) hb (fun x hx y hy K st hk=>ih x hx (g y hy) hk) hk
end Go.Proofs
namespace Go.Proofs
open Go Go.AL
def zpx (n:Nat) (a b:Nd):Prop:=∀ (K:SV→St→Prop) (st:St),K (.sc (.bool (qK a b))) st→ACalls Tryz.prog n [zH a,zH b,.sc (.bool false)] K st
theorem zsK {a b:Nd} (ha:Few 100000 a) (hb:Few 100000 b) (q1:a.kind=b.kind) (q2:a.text=b.text) (q3:a.num=b.num) (q4:a.names.length=b.names.length) (q5:a.kids.length=b.kids.length) (ih:∀ x∈a.kids,∀ y∈b.kids,zpx 13 x y) {K:SV→St→Prop} {st:St} (hk:K (.sc (.bool (decide (a.names=b.names)&&qb a.kids b.kids))) st):ACalls Tryz.prog 13 [zH a,zH b,.sc (.bool false)] K st:=by
 refine zj [] Tryz.func13 rfl Tryz.results13 Tryz.ntmps13 ?_
 have d1:(a.kind != b.kind)=false:=by simp[q1]
 have d2:(a.text==b.text)=true:=by simp[q2]
 have d3:(a.num != b.num)=false:=by simp[q3]
 have d4:((a.names.length:Int) != (b.names.length:Int))=false:=by simp[q4]
 have d5:((a.kids.length:Int) != (b.kids.length:Int))=false:=by simp[q5]
 cases ha with
 | mk _ _ la1 la2 =>
 cases hb with
 | mk _ _ lb1 lb2 =>
 simp only[go_sem,zc,List.length_map,d1,d2,d3,d4,d5]
 refine zM [] (fun k env s=>∃ i:Nat,k+i=a.names.length∧a.names.take i=b.names.take i∧env=[.any,.any,.sc (.bool false),.ref (zy a),.ref (zy b),.any,.sc (.bool false),.sc (.int .i64 i),.any,.any,.any,.any,.any,.any,.any,.any,.any,.any,.any,.any,.any,.any,.any,.any,.any,.any,.any,.any,.any,.any,.any,.any,.any,.any,.any,.any,.any,.any,.any,.any,.any,.any,.any,.any,.any,.any,.any,.any,.any,.any,.any,.any,.any,.any,.any,.any,.any,.any,.any,.any,.any,.any,.any,.any,.any,.any,.any,.any,.any,.any,.any,.any,.any,.any,.any,.any,.any,.any,.any,.any,.any,.any,.any,.any,.any,.any,.any,.any,.any,.any,.any,.any,.any,.any,.any,.any]∧s=st) (n:=a.names.length) ?_ ⟨0,by omega,by simp,rfl,rfl⟩ ?_
 ·repeat (first | exact zi | refine zh _ ?_ | refine zf _ ?_ | refine ze _ ?_)
 rintro k env s ⟨i,hi,htk,rfl,rfl⟩
 by_cases hlt:i<a.names.length
 ·have c2:decide ((i:Int)<(a.names.length:Int))=true:=by simp;omega
  have w1:IntKind.i64.wrap ((i:Int)+1)=((i+1:Nat):Int):=by rw[IntWalk.i64_in _ (by omega)];rfl
  have hlt2:i<b.names.length:=by omega
  have g1:=zam hlt
  have g2:=zam hlt2
  by_cases he:a.names[i]=b.names[i]
  ·have c3:(a.names[i]==b.names[i])=true:=by simp[he]
   simp only[go_sem,c2,w1,zy,List.length_map]
   refine zS [] Tryz.mixed rfl ?_
   simp only[go_sem,List.length_map,g1,g2,c3,w1,zy]
   refine⟨by omega,by omega,k-1,_,by omega,?_,i+1,by omega,by rw[List.take_succ_eq_append_getElem hlt,List.take_succ_eq_append_getElem hlt2,htk,he],rfl⟩
   repeat (first | exact zi | refine zh _ ?_ | refine zf _ ?_ | refine ze _ ?_)
  ·have c3:(a.names[i]==b.names[i])=false:=by simp[he]
   have hd:decide (a.names=b.names)=false:=by
    simp only[decide_eq_false_iff_not]
    intro h;simp only[h,not_true_eq_false] at he
   rw[hd,Bool.false_and] at hk
   simp only[go_sem,c2,w1,zy,List.length_map]
   refine zS [] Tryz.mixed rfl ?_
   simp only[go_sem,List.length_map,g1,g2,c3,w1,zy]
   exact⟨by omega,by omega,zL (zB _ _) hk⟩
 ·have c2:decide ((i:Int)<(a.names.length:Int))=false:=by simp;omega
  have hd:decide (a.names=b.names)=true:=by
   rw[List.take_of_length_le (by omega),List.take_of_length_le (by omega)] at htk
   simp[htk]
  rw[hd,Bool.true_and] at hk
  simp only[go_sem,c2,zy,List.length_map]
  refine zM [] (fun k env s'=>∃ (i:Nat) (ex:St),k+i=a.kids.length∧qb a.kids b.kids=qb (a.kids.drop i) (b.kids.drop i)∧env=[.any,.any,.sc (.bool false),.ref (zy a),.ref (zy b),.any,.sc (.bool false),.any,.sc (.int .i64 i),.any,.any,.any,.any,.any,.any,.any,.any,.any,.any,.any,.any,.any,.any,.any,.any,.any,.any,.any,.any,.any,.any,.any,.any,.any,.any,.any,.any,.any,.any,.any,.any,.any,.any,.any,.any,.any,.any,.any,.any,.any,.any,.any,.any,.any,.any,.any,.any,.any,.any,.any,.any,.any,.any,.any,.any,.any,.any,.any,.any,.any,.any,.any,.any,.any,.any,.any,.any,.any,.any,.any,.any,.any,.any,.any,.any,.any,.any,.any,.any,.any,.any,.any,.any,.any,.any,.any]∧s'=s++ex) (n:=a.kids.length) ?_ ⟨0,[],by omega,rfl,rfl,by simp⟩ ?_
  ·repeat (first | exact zi | refine zh _ ?_ | refine zf _ ?_ | refine ze _ ?_)
  rintro k env s' ⟨i,ex,hi,hsm,rfl,rfl⟩
  by_cases hlt:i<a.kids.length
  ·have c2:decide ((i:Int)<(a.kids.length:Int))=true:=by simp;omega
   have w1:IntKind.i64.wrap ((i:Int)+1)=((i+1:Nat):Int):=by rw[IntWalk.i64_in _ (by omega)];rfl
   have hlt2:i<b.kids.length:=by omega
   have g1:=QJ hlt
   have g2:=QJ hlt2
   have hih:=ih a.kids[i] (List.getElem_mem hlt) b.kids[i] (List.getElem_mem hlt2)
   rw[List.drop_eq_getElem_cons hlt,List.drop_eq_getElem_cons hlt2] at hsm
   rw[show qb (a.kids[i]::a.kids.drop (i+1)) (b.kids[i]::b.kids.drop (i+1))=(qK a.kids[i] b.kids[i]&&qb (a.kids.drop (i+1)) (b.kids.drop (i+1))) from rfl] at hsm
   unfold zpx at hih
   cases hb:qK a.kids[i] b.kids[i] with
   | true =>
    rw[hb] at hih hsm
    rw[Bool.true_and] at hsm
    simp only[go_sem,c2,w1,zy,List.length_map]
    refine zO [] [(0,[]),(0,[]),(0,[]),(0,[]),(0,[]),(0,[]),(0,[]),(0,[]),(0,[]),(0,[]),(0,[]),(3,[13]),(0,[])] Tryz.mixed rfl ?_
    simp only[go_sem,zw,zt,zr,zp,zq,zE,zF,zu,zg,List.length_map,g1,g2]
    refine⟨by omega,by omega,?_⟩
    refine⟨_,_,hih _ _ ⟨rfl,rfl⟩,?_⟩
    simp only[go_sem,zw,zt,zr,zp,zq,zE,zF,zu,zg,w1]
    refine⟨k-1,_,by omega,?_,i+1,_,by omega,hsm,rfl,rfl⟩
    repeat (first | exact zi | refine zh _ ?_ | refine zf _ ?_ | refine ze _ ?_)
   | false =>
    rw[hb] at hih hsm
    rw[Bool.false_and] at hsm
    rw[hsm] at hk
    simp only[go_sem,c2,w1,zy,List.length_map]
    refine zO [] [(0,[]),(0,[]),(0,[]),(0,[]),(0,[]),(0,[]),(0,[]),(0,[]),(0,[]),(0,[]),(0,[]),(3,[13]),(0,[])] Tryz.mixed rfl ?_
    simp only[go_sem,zw,zt,zr,zp,zq,zE,zF,zu,zg,List.length_map,g1,g2]
    refine⟨by omega,by omega,?_⟩
    refine⟨_,_,hih _ _ ⟨rfl,rfl⟩,?_⟩
    simp only[go_sem,zw,zt,zr,zp,zq,zE,zF,zu,zg,w1]
    exact zP (zB _ _) hk
  ·have c2:decide ((i:Int)<(a.kids.length:Int))=false:=by simp;omega
   rw[List.drop_of_length_le (by omega),List.drop_of_length_le (by omega)] at hsm
   rw[hsm] at hk
   simp only[go_sem,c2,zy,List.length_map]
   exact zP (zB _ _) hk
theorem zsj {a b:Nd} (h:¬ (a.kind=b.kind∧a.text=b.text∧a.num=b.num∧a.names.length=b.names.length∧a.kids.length=b.kids.length)) {K:SV→St→Prop} {st:St} (hk:K (.sc (.bool false)) st):ACalls Tryz.prog 13 [zH a,zH b,.sc (.bool false)] K st:=by
 refine zj [] Tryz.func13 rfl Tryz.results13 Tryz.ntmps13 ?_
 by_cases q1:a.kind=b.kind
 rotate_left
 ·have d1:(a.kind != b.kind)=true:=by simp[q1]
  simp only[go_sem,zc,List.length_map,d1]
  exact zL (zB _ _) hk
 have d1:(a.kind != b.kind)=false:=by simp[q1]
 by_cases q2:a.text=b.text
 rotate_left
 ·have d2:(a.text==b.text)=false:=by simp[q2]
  simp only[go_sem,zc,List.length_map,d1,d2]
  exact zL (zB _ _) hk
 have d2:(a.text==b.text)=true:=by simp[q2]
 by_cases q3:a.num=b.num
 rotate_left
 ·have d3:(a.num != b.num)=true:=by simp[q3]
  simp only[go_sem,zc,List.length_map,d1,d2,d3]
  exact zL (zB _ _) hk
 have d3:(a.num != b.num)=false:=by simp[q3]
 by_cases q4:a.names.length=b.names.length
 rotate_left
 ·have d4:((a.names.length:Int) != (b.names.length:Int))=true:=by simp;omega
  simp only[go_sem,zc,List.length_map,d1,d2,d3,d4]
  exact zL (zB _ _) hk
 have d4:((a.names.length:Int) != (b.names.length:Int))=false:=by simp[q4]
 have d5:((a.kids.length:Int) != (b.kids.length:Int))=true:=by
  have:a.kids.length≠b.kids.length:=fun q5=>h ⟨q1,q2,q3,q4,q5⟩
  simp;omega
 simp only[go_sem,zc,List.length_map,d1,d2,d3,d4,d5]
 exact zL (zB _ _) hk
theorem zsg {a b:Nd} (ha:Few 100000 a) (hb:Few 100000 b):zpx 13 a b:=by
 induction ha generalizing b with
 | mk a h h1 h2 ih =>
  intro K st hk
  have hb':=hb
  cases hb' with
  | mk _ g g1 g2 =>
  have hs:qK a b=(decide (a.kind=b.kind)&&decide (a.text=b.text)&&decide (a.num=b.num)&&decide (a.names=b.names)&&qb a.kids b.kids):=by cases a;cases b;rfl
  by_cases hq:a.kind=b.kind∧a.text=b.text∧a.num=b.num∧a.names.length=b.names.length∧a.kids.length=b.kids.length
  ·refine zsK (.mk a h h1 h2) hb hq.1 hq.2.1 hq.2.2.1 hq.2.2.2.1 hq.2.2.2.2 (fun x hx y hy=>ih x hx (g y hy)) ?_
   rw[hs] at hk
   simpa[hq.1,hq.2.1,hq.2.2.1] using hk
  ·refine zsj hq ?_
   have:qK a b=false:=by
    cases hh:qK a b with
    | false=>rfl
    | true =>
     obtain⟨x1,x2,x3,x4,x5⟩:=Zq hh
     exact absurd ⟨x1,x2,x3,by rw[x4],VQ x5⟩ hq
   rw[this] at hk;exact hk
end Go.Proofs
