/- parse.Program of any text; show.Program. -/
import Derived.Test.YtkokccjfpebomaaGreatDoorS4
import Derived.Test.YtkokccjfpebomaaGreatDoorN9
import Derived.Test.YtkokccjfpebomaaGreatDoorN5
import Derived.Test.YtkokccjfpebomaaGreatDoorS5
import Derived.Test.YtkokccjfpebomaaGreatDoorN4
set_option maxHeartbeats 4000000
set_option linter.unusedSimpArgs false
set_option linter.unusedVariables false
set_option maxRecDepth 8000
namespace Go.Proofs
open Go Go.AL Tryz
theorem jW {s:Tx} (hl:2000<s.length) {K:SV→St→Prop} {st:St} (hk:∀ x,K (.tuple [x,.sc (.int .i64 0),.sc (.int .i64 12)]) st):ACalls prog 46 [.sc (.string (ba s))] K st:=by
 refine zn [14] func46 rfl results46 ntmps46 ?_
 have c1:decide ((2000:Int)<(s.length:Int))=true:=by simp;omega
 simp only[go_sem,zo,gt_iff_lt,c1]
 exact qi (WJ _ _ _) (hk _)
theorem Ld {s:Tx} (hl:2000<s.length) {K:SV→St→Prop} {st:St} (hk:K (.tuple [zJ J9,.sc (.int .i64 0),.sc (.int .i64 12)]) st):ACalls prog 29 [.sc (.string (ba s))] K st:=by
 refine zM (zn [23] func29 rfl results29 ntmps29 ?_)
 have he:((12:Int) != 0)=true:=rfl
 simp only[go_sem]
 refine jW hl fun x=>?_
 simp only[go_sem,he]
 exact K9 (EV _) rfl wG hk
theorem yk {s:Tx} {nd:Nd} {a e:Int} (h:q8 s=some (nd,a,e)) {gid:Nat} {m:Int} {K:SV→St→Prop} {st:St} (hg:K8 gid m st) (hk:K (.tuple [zJ nd,.sc (.int .i64 a),.sc (.int .i64 e)]) st):ACalls prog 29 [.sc (.string (ba s))] K st:=by
 by_cases hl:2000<s.length
 ·unfold q8 Y0 at h
  rw[if_pos hl] at h
  cases h
  exact Ld hl hk
 ·exact o8 h hg (by omega) hk
theorem bt {a b:Nd} (ha:Few 100000 a) (hb:Few 100000 b) {v:Bool} (hv:qz a b=v) {K:SV→St→Prop} {st:St} (hk:K (.sc (.bool v)) st):ACalls prog 30 [zJ a,zJ b] K st:=by
 subst hv;exact om ha hb hk
theorem th {a b:Nd} (ha:Few 100000 a) (hb:Few 100000 b) {v:Bool} (hv:qz a b=v) {K:SV→St→Prop} {st:St} (hk:K (.sc (.bool v)) st) :
  ACalls prog 30 [.agg [.sc (.int .i64 a.kind),.sc (.string (ba a.text)),.sc (.int .i64 a.num),.sc (.int .i64 a.pos),.slice .imm 1 (a.names.map qD),.slice .imm 6 (a.kids.map zJ)],.agg [.sc (.int .i64 b.kind),.sc (.string (ba b.text)),.sc (.int .i64 b.num),.sc (.int .i64 b.pos),.slice .imm 1 (b.names.map qD),.slice .imm 6 (b.kids.map zJ)]] K st:=by
 have:=bt ha hb hv hk
 rw[Zz,Zz] at this
 exact this
theorem na {d:Nat} {n:Nd} (hd:Dep (d+1) n) (hf:Fit n) {t:Tx} {e:Int} (h:Wn d n=some (t,e)) (hl:(Q6 d n).length≤140737488355328) {gid:Nat} {gm:Int} {K:SV→St→Prop} {st:St} (hg:K8 gid gm st) (hk:K (.tuple [.sc (.string (ba t)),.sc (.int .i64 e)]) st):ACalls prog 12 [zJ n] K st:=by
 refine zn [] func12 rfl results12 ntmps12 ?_
 unfold Wn at h
 have hn:=hf.kids.2.1
 by_cases h0:n.kids.length=0
 ·have c0:((n.kids.length:Int)==0)=true:=by rw[beq_iff_eq];omega
  rw[if_pos h0] at h
  cases h
  simp only[go_sem,zd,List.length_map,c0]
  exact qi (YG _ _ _) hk
 have c0:((n.kids.length:Int)==0)=false:=by rw[beq_eq_false_iff_ne];omega
 have w0:IntKind.i64.wrap ((n.kids.length:Int)-1)=((n.kids.length-1:Nat):Int):=by rw[IntWalk.i64_in _ (by omega)];omega
 rw[if_neg h0] at h
 simp only[Option.map_eq_some_iff,Prod.exists] at h
 obtain⟨m,a,f,hp,hr⟩:=h
 generalize hL:n.kids.dropLast=l at *
 have hlen:l.length=n.kids.length-1:=by rw[←hL];simp
 have htk:List.take (n.kids.length-1) (n.kids.map zJ)=l.map zJ:=by rw[←List.map_take,←List.dropLast_eq_take,hL]
 have hfk:∀ c∈l,Fit c:=fun c hc=>hf.kids.1 c (by rw[←hL] at hc;exact (List.dropLast_sublist _).subset hc)
 have hdk:∀ c∈l,Dep d c:=fun c hc=>hd.kids c (by rw[←hL] at hc;exact (List.dropLast_sublist _).subset hc)
 have hlast:n.kids.getLastD J9∈n.kids:=by
  rw[List.getLastD_eq_getLast?,List.getLast?_eq_getElem?,List.getElem?_eq_getElem (by omega)]
  exact List.getElem_mem _
 have hlg:(n.kids.map zJ).getD (n.kids.length-1) .any=zJ (n.kids.getLastD J9):=by
  rw[XD (by omega),List.getLastD_eq_getLast?,List.getLast?_eq_getElem?,List.getElem?_eq_getElem (by omega)];rfl
 generalize hQ:n.kids.getLastD J9=q at *
 generalize hz:Yw d [] l=z
 have hwh:Q6 d n=z++Ql [[100,111],zB (zK d) q 7 7]:=by unfold Q6;rw[hL,hQ,hz]
 generalize hW:Q6 d n=W at *
 have hl2:=hl
 rw[hwh,List.length_append,Z4] at hl2
 have hl3:=hl
 rw[hwh,List.length_append] at hl3
 have hmf:Few 100000 m:=by
  obtain⟨m',a',f',h1,h2⟩:=Jy (s:=W)
  rw[hp] at h1;cases h1;exact h2
 simp only[go_sem,zd,List.length_map,c0,w0,htk,hlen]
 refine⟨⟨by omega,by omega⟩,?_⟩
 refine zN [] (fun k env s=>∃ (i:Nat) (v:Tx) (ex:St),k+i=l.length∧Yw d v (l.drop i)=z∧env=[.any,.ref [.sc (.int .i64 n.kind),.sc (.string (ba n.text)),.sc (.int .i64 n.num),.sc (.int .i64 n.pos),.slice .imm 1 (n.names.map qD),.slice .imm 6 (n.kids.map zJ)],.any,.any,.sc (.int .i64 (n.kids.length-1:Nat)),.sc (.string (ba v)),.any,.any,.any,.any,.any,.any,.any,.any,.any,.any,.any,.any,.any,.any,.any,.any,.slice .imm 6 (l.map zJ),.sc (.int .i64 (n.kids.length-1:Nat)),.sc (.int .i64 i),.any,.any,.any,.any,.any,.any,.any,.any,.any,.any,.any,.any,.any,.any,.any,.any,.any,.any,.any,.any,.any,.any,.any,.any,.any,.any,.any,.any,.any,.any,.any,.any,.any,.any,.any]∧s=st++ex) (n:=l.length) ?_ ⟨0,[],[],by omega,hz,rfl,by simp⟩ ?_
 ·repeat (first | exact zj | refine zk _ ?_ | refine zg _ ?_ | refine zf _ ?_)
 rintro k env s ⟨i,v,ex,hi,hv,rfl,rfl⟩
 by_cases hlt:i<l.length
 ·have c2:decide ((i:Int)<((n.kids.length-1:Nat):Int))=true:=by rw[decide_eq_true_eq];omega
  have w1:IntKind.i64.wrap ((i:Int)+1)=((i+1:Nat):Int):=by rw[IntWalk.i64_in _ (by omega)];rfl
  have g1:=XD hlt
  rw[List.drop_eq_getElem_cons hlt] at hv
  have hv:Yw d (v++Ql [XE d l[i],[59,32]]) (l.drop (i+1))=z:=hv
  have hle:=BX d (l.drop (i+1)) (v++Ql [XE d l[i],[59,32]])
  rw[hv,List.length_append] at hle
  have hle2:=hle
  rw[Z4] at hle2
  have hd1:Dep (d+1) l[i]:=(hdk _ (List.getElem_mem hlt)).mono (Nat.le_succ d)
  have hf1:=hfk _ (List.getElem_mem hlt)
  simp only[go_sem,c2,w1,List.length_map,g1,zd,hlen]
  refine⟨by omega,?_⟩
  refine sq hd1 hf1 rfl (by omega) ?_
  simp only[go_sem,w1]
  refine QM (l:=[XE d l[i],[59,32]]) (by simp) (by simp) rfl (by omega) ?_
  simp only[go_sem,w1,Jq]
  refine⟨by simp only[List.size_toArray];omega,k-1,_,by omega,?_,i+1,_,_,by omega,hv,rfl,rfl⟩
  repeat (first | exact zj | refine zk _ ?_ | refine zg _ ?_ | refine zf _ ?_)
 have c2:decide ((i:Int)<((n.kids.length-1:Nat):Int))=false:=by rw[decide_eq_false_iff_not];omega
 rw[List.drop_of_length_le (by omega)] at hv
 have hv:v=z:=hv
 subst hv
 simp only[go_sem,c2,List.length_map,hlg,zd]
 refine⟨by omega,?_⟩
 first | (unfold zl;simp only[ze,zc,zq,List.set_cons_succ,List.set_cons_zero,List.getD_cons_succ,List.getD_cons_zero]) | skip
 refine Zh (Wg d) (hd.kids q hlast) (hf.kids.1 q hlast) rfl (by omega) ?_
 simp only[go_sem]
 first | (unfold zl;simp only[ze,zc,zq,List.set_cons_succ,List.set_cons_zero,List.getD_cons_succ,List.getD_cons_zero]) | skip
 refine QM (l:=[[100,111],zB (zK d) q 7 7]) (by simp) (by simp) rfl (by omega) ?_
 simp only[go_sem,Jq,←hwh]
 refine⟨by simp only[List.size_toArray];omega,?_⟩
 first | (unfold zl;simp only[ze,zc,zq,List.set_cons_succ,List.set_cons_zero,List.getD_cons_succ,List.getD_cons_zero]) | skip
 refine yk hp (Kw hg) ?_
 by_cases hf0:f=0
 ·have c3:(f != 0)=false:=by simp[hf0]
  cases hsm:qz n m with
  | true =>
   rw[if_pos ⟨hf0,hsm⟩] at hr
   cases hr
   simp only[go_sem,c3,zd]
   first | (unfold zl;simp only[ze,zc,zq,List.set_cons_succ,List.set_cons_zero,List.getD_cons_succ,List.getD_cons_zero]) | skip
   refine th hf.few hmf hsm ?_
   simp only[go_sem,c3,zd]
   exact zQ (YG _ _ _) hk
  | false =>
   rw[if_neg (fun x=>by rw[hsm] at x;exact absurd x.2 (by decide))] at hr
   cases hr
   simp only[go_sem,c3,zd]
   first | (unfold zl;simp only[ze,zc,zq,List.set_cons_succ,List.set_cons_zero,List.getD_cons_succ,List.getD_cons_zero]) | skip
   refine th hf.few hmf hsm ?_
   simp only[go_sem,c3,zd]
   exact zQ (YG _ _ _) hk
 ·have c3:(f != 0)=true:=by simp[hf0]
  rw[if_neg (fun x=>hf0 x.1)] at hr
  cases hr
  simp only[go_sem,c3,zd]
  exact zQ (YG _ _ _) hk
end Go.Proofs
namespace Go.Proofs
open Go Go.AL Tryz
theorem ip {d:Nat} {n:Nd} (hd:Dep (d+1) n) (hf:Fit n) {t:Tx} {e:Int} (h:Wn d n=some (t,e)) (hl:(Q6 d n).length≤140737488355328) {gid:Nat} {gm:Int} {K:SV→St→Prop} {st:St} (hg:K8 gid gm st) (hk:K (.tuple [.sc (.string (ba t)),.sc (.int .i64 e)]) st) :
  ACalls prog 12 [.agg [.sc (.int .i64 n.kind),.sc (.string (ba n.text)),.sc (.int .i64 n.num),.sc (.int .i64 n.pos),.slice .imm 1 (n.names.map qD),.slice .imm 6 (n.kids.map zJ)]] K st:=by
 have:=na hd hf h hl hg hk
 rw[Zz] at this
 exact this
theorem gL {s:Tx} {n:Nd} {a e:Int} (hp:q8 s=some (n,a,e)) (hs:s.length≤1000) (he:e≠0) {K:SV→St→Prop} {st:St} (hk:K (.tuple [.sc (.string (ba [])),.sc (.int .i64 e)]) st):ACalls prog 14 [.sc (.string (ba s))] K st:=by
 refine zn [] func14 rfl results14 ntmps14 ?_
 have c1:(e != 0)=true:=by simp[he]
 simp only[go_sem]
 refine Dq hp (by omega) ?_
 simp only[go_sem,zd,c1]
 exact zQ (YG _ _ _) hk
theorem Lo {s:Tx} {n:Nd} {a:Int} (hp:q8 s=some (n,a,0)) (hs:s.length≤1000) {d:Nat} (hd:Dep (d+1) n) {t:Tx} {f:Int} (h:Wn d n=some (t,f)) {gid:Nat} {gm:Int} {K:SV→St→Prop} {st:St} (hg:K8 gid gm st)
  (hk:K (.tuple [.sc (.string (ba t)),.sc (.int .i64 f)]) st):ACalls prog 14 [.sc (.string (ba s))] K st:=by
 refine zn [] func14 rfl results14 ntmps14 ?_
 have c1:((0:Int) != 0)=false:=rfl
 simp only[go_sem]
 refine Dq hp (by omega) ?_
 simp only[go_sem,zd,c1]
 first | (unfold zl;simp only[ze,zc,zq,List.set_cons_succ,List.set_cons_zero,List.getD_cons_succ,List.getD_cons_zero]) | skip
 refine ip hd (Lu hp hs) h (wc (Dh hp hs) d) (Kw hg) ?_
 simp only[go_sem]
 exact zQ (YG _ _ _) hk
theorem X8 {gid:Nat} {gm:Int} {K:SV→St→Prop} {st:St} (hg:K8 gid gm st) (hk:K (.sc (.bool true)) st):ACalls prog 11 [] K st:=by
 refine zn [] func11 rfl results11 ntmps11 ?_
 simp only[go_sem]
 refine Lo (s:=fc) ef (by decide) fZ fa hg ?_
 have c1:((0:Int)==0)=true:=rfl
 have c2:(iq==[100,111,32,40,32,49,32,43,32,50,32,41,32,42,32,51,32,59,32,102,32,120,32,40,32,67,111,110,115,32,49,32,78,105,108,32,41])=true:=by decide
 simp only[go_sem,c1,c2]
 exact qi (zC _ _) hk
end Go.Proofs
namespace Go.AL
end Go.AL
namespace Go.Proofs
open Go Go.AL Tryz
end Go.Proofs
