/- parse.Program of any text; show.Program. -/
import Derived.Test.YtkokccjfpebomaaGreatDoorS4
import Derived.Test.YtkokccjfpebomaaGreatDoorN9
import Derived.Test.YtkokccjfpebomaaGreatDoorN5
import Derived.Test.YtkokccjfpebomaaGreatDoorS5
import Derived.Test.YtkokccjfpebomaaGreatDoorN4
set_option maxHeartbeats 4000000
set_option linter.unusedSimpArgs false
set_option linter.unusedVariables false
set_option maxRecDepth 8000
namespace Go.Proofs
open Go Go.AL
theorem zjB {s:Tx} (hl:2000<s.length) {K:SV→St→Prop} {st:St} (hk:∀ x,K (.tuple [x,.sc (.int .i64 0),.sc (.int .i64 12)]) st):ACalls Tryz.prog 46 [.sc (.string (ba s))] K st:=by
 refine zj [14] Tryz.func46 rfl Tryz.results46 Tryz.ntmps46 ?_
 have c1:decide ((2000:Int)<(s.length:Int))=true:=by simp;omega
 simp only[go_sem,zm,gt_iff_lt,c1]
 exact qo (zai _ _ _) (hk _)
theorem zhS {s:Tx} (hl:2000<s.length) {K:SV→St→Prop} {st:St} (hk:K (.tuple [zH JH,.sc (.int .i64 0),.sc (.int .i64 12)]) st):ACalls Tryz.prog 29 [.sc (.string (ba s))] K st:=by
 refine zK (zj [23] Tryz.func29 rfl Tryz.results29 Tryz.ntmps29 ?_)
 have he:((12:Int) != 0)=true:=rfl
 simp only[go_sem]
 refine zjB hl fun x=>?_
 simp only[go_sem,he]
 exact zcg (zdW _) rfl zkH hk
theorem znO {s:Tx} {nd:Nd} {a e:Int} (h:qP s=some (nd,a,e)) {gid:Nat} {m:Int} {K:SV→St→Prop} {st:St} (hg:GAt gid m st) (hk:K (.tuple [zH nd,.sc (.int .i64 a),.sc (.int .i64 e)]) st):ACalls Tryz.prog 29 [.sc (.string (ba s))] K st:=by
 by_cases hl:2000<s.length
 ·unfold qP YQ at h
  rw[if_pos hl] at h
  cases h
  exact zhS hl hk
 ·exact zvk h hg (by omega) hk
theorem ztf {a b:Nd} (ha:Few 100000 a) (hb:Few 100000 b) {v:Bool} (hv:qK a b=v) {K:SV→St→Prop} {st:St} (hk:K (.sc (.bool v)) st):ACalls Tryz.prog 30 [zH a,zH b] K st:=by
 subst hv;exact zvZ ha hb hk
theorem ztX {a b:Nd} (ha:Few 100000 a) (hb:Few 100000 b) {v:Bool} (hv:qK a b=v) {K:SV→St→Prop} {st:St} (hk:K (.sc (.bool v)) st) :
  ACalls Tryz.prog 30 [.agg [.sc (.int .i64 a.kind),.sc (.string (ba a.text)),.sc (.int .i64 a.num),.sc (.int .i64 a.pos),.slice .imm 1 (a.names.map qv),.slice .imm 6 (a.kids.map zH)],.agg [.sc (.int .i64 b.kind),.sc (.string (ba b.text)),.sc (.int .i64 b.num),.sc (.int .i64 b.pos),.slice .imm 1 (b.names.map qv),.slice .imm 6 (b.kids.map zH)]] K st:=by
 have:=ztf ha hb hv hk
 rw[Ze,Ze] at this
 exact this
theorem zsw {d:Nat} {n:Nd} (hd:Dep (d+1) n) (hf:Fit n) {t:Tx} {e:Int} (h:JQ d n=some (t,e)) (hl:(QH d n).length≤140737488355328) {gid:Nat} {gm:Int} {K:SV→St→Prop} {st:St} (hg:GAt gid gm st) (hk:K (.tuple [.sc (.string (ba t)),.sc (.int .i64 e)]) st):ACalls Tryz.prog 12 [zH n] K st:=by
 refine zj [] Tryz.func12 rfl Tryz.results12 Tryz.ntmps12 ?_
 unfold JQ at h
 have hn:=hf.kids.2.1
 by_cases h0:n.kids.length=0
 ·have c0:((n.kids.length:Int)==0)=true:=by rw[beq_iff_eq];omega
  rw[if_pos h0] at h
  cases h
  simp only[go_sem,zc,List.length_map,c0]
  exact qo (YR _ _ _) hk
 have c0:((n.kids.length:Int)==0)=false:=by rw[beq_eq_false_iff_ne];omega
 have w0:IntKind.i64.wrap ((n.kids.length:Int)-1)=((n.kids.length-1:Nat):Int):=by rw[IntWalk.i64_in _ (by omega)];omega
 rw[if_neg h0] at h
 simp only[Option.map_eq_some_iff,Prod.exists] at h
 obtain⟨m,a,f,hp,hr⟩:=h
 generalize hL:n.kids.dropLast=l at *
 have hlen:l.length=n.kids.length-1:=by rw[←hL];simp
 have htk:List.take (n.kids.length-1) (n.kids.map zH)=l.map zH:=by rw[←List.map_take,←List.dropLast_eq_take,hL]
 have hfk:∀ c∈l,Fit c:=fun c hc=>hf.kids.1 c (by rw[←hL] at hc;exact (List.dropLast_sublist _).subset hc)
 have hdk:∀ c∈l,Dep d c:=fun c hc=>hd.kids c (by rw[←hL] at hc;exact (List.dropLast_sublist _).subset hc)
 have hlast:n.kids.getLastD JH∈n.kids:=by
  rw[List.getLastD_eq_getLast?,List.getLast?_eq_getElem?,List.getElem?_eq_getElem (by omega)]
  exact List.getElem_mem _
 have hlg:(n.kids.map zH).getD (n.kids.length-1) .any=zH (n.kids.getLastD JH):=by
  rw[QJ (by omega),List.getLastD_eq_getLast?,List.getLast?_eq_getElem?,List.getElem?_eq_getElem (by omega)];rfl
 generalize hQ:n.kids.getLastD JH=q at *
 generalize hz:Yf d [] l=z
 have hwh:QH d n=z++Qa [[100,111],zA (zI d) q 7 7]:=by unfold QH;rw[hL,hQ,hz]
 generalize hW:QH d n=W at *
 have hl2:=hl
 rw[hwh,List.length_append,ZR] at hl2
 have hl3:=hl
 rw[hwh,List.length_append] at hl3
 have hmf:Few 100000 m:=by
  obtain⟨m',a',f',h1,h2⟩:=Jf (s:=W)
  rw[hp] at h1;cases h1;exact h2
 simp only[go_sem,zc,List.length_map,c0,w0,htk,hlen]
 refine⟨⟨by omega,by omega⟩,?_⟩
 refine zM [] (fun k env s=>∃ (i:Nat) (v:Tx) (ex:St),k+i=l.length∧Yf d v (l.drop i)=z∧env=[.any,.ref [.sc (.int .i64 n.kind),.sc (.string (ba n.text)),.sc (.int .i64 n.num),.sc (.int .i64 n.pos),.slice .imm 1 (n.names.map qv),.slice .imm 6 (n.kids.map zH)],.any,.any,.sc (.int .i64 (n.kids.length-1:Nat)),.sc (.string (ba v)),.any,.any,.any,.any,.any,.any,.any,.any,.any,.any,.any,.any,.any,.any,.any,.any,.slice .imm 6 (l.map zH),.sc (.int .i64 (n.kids.length-1:Nat)),.sc (.int .i64 i),.any,.any,.any,.any,.any,.any,.any,.any,.any,.any,.any,.any,.any,.any,.any,.any,.any,.any,.any,.any,.any,.any,.any,.any,.any,.any,.any,.any,.any,.any,.any,.any,.any,.any,.any]∧s=st++ex) (n:=l.length) ?_ ⟨0,[],[],by omega,hz,rfl,by simp⟩ ?_
 ·repeat (first | exact zi | refine zh _ ?_ | refine zf _ ?_ | refine ze _ ?_)
 rintro k env s ⟨i,v,ex,hi,hv,rfl,rfl⟩
 by_cases hlt:i<l.length
 ·have c2:decide ((i:Int)<((n.kids.length-1:Nat):Int))=true:=by rw[decide_eq_true_eq];omega
  have w1:IntKind.i64.wrap ((i:Int)+1)=((i+1:Nat):Int):=by rw[IntWalk.i64_in _ (by omega)];rfl
  have g1:=QJ hlt
  rw[List.drop_eq_getElem_cons hlt] at hv
  have hv:Yf d (v++Qa [Xl d l[i],[59,32]]) (l.drop (i+1))=z:=hv
  have hle:=zgg d (l.drop (i+1)) (v++Qa [Xl d l[i],[59,32]])
  rw[hv,List.length_append] at hle
  have hle2:=hle
  rw[ZR] at hle2
  have hd1:Dep (d+1) l[i]:=(hdk _ (List.getElem_mem hlt)).mono (Nat.le_succ d)
  have hf1:=hfk _ (List.getElem_mem hlt)
  simp only[go_sem,c2,w1,List.length_map,g1,zc,hlen]
  refine⟨by omega,?_⟩
  refine zy2 hd1 hf1 rfl (by omega) ?_
  simp only[go_sem,w1]
  refine Qz (l:=[Xl d l[i],[59,32]]) (by simp) (by simp) rfl (by omega) ?_
  simp only[go_sem,w1,zfb]
  refine⟨by simp only[List.size_toArray];omega,k-1,_,by omega,?_,i+1,_,_,by omega,hv,rfl,rfl⟩
  repeat (first | exact zi | refine zh _ ?_ | refine zf _ ?_ | refine ze _ ?_)
 have c2:decide ((i:Int)<((n.kids.length-1:Nat):Int))=false:=by rw[decide_eq_false_iff_not];omega
 rw[List.drop_of_length_le (by omega)] at hv
 have hv:v=z:=hv
 subst hv
 simp only[go_sem,c2,List.length_map,hlg,zc]
 refine⟨by omega,?_⟩
 first | (unfold zk;simp only[zd,zb,zo,List.set_cons_succ,List.set_cons_zero,List.getD_cons_succ,List.getD_cons_zero]) | skip
 refine q8 (VR d) (hd.kids q hlast) (hf.kids.1 q hlast) rfl (by omega) ?_
 simp only[go_sem]
 first | (unfold zk;simp only[zd,zb,zo,List.set_cons_succ,List.set_cons_zero,List.getD_cons_succ,List.getD_cons_zero]) | skip
 refine Qz (l:=[[100,111],zA (zI d) q 7 7]) (by simp) (by simp) rfl (by omega) ?_
 simp only[go_sem,zfb,←hwh]
 refine⟨by simp only[List.size_toArray];omega,?_⟩
 first | (unfold zk;simp only[zd,zb,zo,List.set_cons_succ,List.set_cons_zero,List.getD_cons_succ,List.getD_cons_zero]) | skip
 refine znO hp (XN hg) ?_
 by_cases hf0:f=0
 ·have c3:(f != 0)=false:=by simp[hf0]
  cases hsm:qK n m with
  | true =>
   rw[if_pos ⟨hf0,hsm⟩] at hr
   cases hr
   simp only[go_sem,c3,zc]
   first | (unfold zk;simp only[zd,zb,zo,List.set_cons_succ,List.set_cons_zero,List.getD_cons_succ,List.getD_cons_zero]) | skip
   refine ztX hf.few hmf hsm ?_
   simp only[go_sem,c3,zc]
   exact zP (YR _ _ _) hk
  | false =>
   rw[if_neg (fun x=>by rw[hsm] at x;exact absurd x.2 (by decide))] at hr
   cases hr
   simp only[go_sem,c3,zc]
   first | (unfold zk;simp only[zd,zb,zo,List.set_cons_succ,List.set_cons_zero,List.getD_cons_succ,List.getD_cons_zero]) | skip
   refine ztX hf.few hmf hsm ?_
   simp only[go_sem,c3,zc]
   exact zP (YR _ _ _) hk
 ·have c3:(f != 0)=true:=by simp[hf0]
  rw[if_neg (fun x=>hf0 x.1)] at hr
  cases hr
  simp only[go_sem,c3,zc]
  exact zP (YR _ _ _) hk
end Go.Proofs
namespace Go.Proofs
open Go Go.AL
theorem zqC {s r:Tx} (h:r=s.take 300) {K:SV→St→Prop} {st:St} (hk:K (.sc (.string (ba r))) st):ACalls Tryz.prog 9 [.sc (.string (ba s))] K st:=by
 subst h
 refine zj [] Tryz.func9 rfl Tryz.results9 Tryz.ntmps9 ?_
 by_cases hl:300<s.length
 ·have c1:decide ((300:Int)<(s.length:Int))=true:=by simp;omega
  simp only[go_sem,zm,gt_iff_lt,c1,qS]
  exact⟨⟨by omega,by omega⟩,qo (zB _ _) hk⟩
 ·have c1:decide ((300:Int)<(s.length:Int))=false:=by simp;omega
  rw[List.take_of_length_le (by omega)] at hk
  simp only[go_sem,zm,gt_iff_lt,c1,qS]
  exact qo (zB _ _) hk
theorem zlP {d:Nat} {n:Nd} (hd:Dep (d+1) n) (hf:Fit n) {t:Tx} {e:Int} (h:JQ d n=some (t,e)) (hl:(QH d n).length≤140737488355328) {gid:Nat} {gm:Int} {K:SV→St→Prop} {st:St} (hg:GAt gid gm st) (hk:K (.tuple [.sc (.string (ba t)),.sc (.int .i64 e)]) st) :
  ACalls Tryz.prog 12 [.agg [.sc (.int .i64 n.kind),.sc (.string (ba n.text)),.sc (.int .i64 n.num),.sc (.int .i64 n.pos),.slice .imm 1 (n.names.map qv),.slice .imm 6 (n.kids.map zH)]] K st:=by
 have:=zsw hd hf h hl hg hk
 rw[Ze] at this
 exact this
theorem zqt {a b:Nd} (ha:Few 100000 a) (hb:Few 100000 b) {v:Bool} (hv:qK a b=v) {K:SV→St→Prop} {st:St} (hk:K (.sc (.bool v)) st) :
  ACalls Tryz.prog 13 [.agg [.sc (.int .i64 a.kind),.sc (.string (ba a.text)),.sc (.int .i64 a.num),.sc (.int .i64 a.pos),.slice .imm 1 (a.names.map qv),.slice .imm 6 (a.kids.map zH)],.agg [.sc (.int .i64 b.kind),.sc (.string (ba b.text)),.sc (.int .i64 b.num),.sc (.int .i64 b.pos),.slice .imm 1 (b.names.map qv),.slice .imm 6 (b.kids.map zH)],.sc (.bool false)] K st:=by
 subst hv
 have:=zsg ha hb _ _ hk
 rw[Ze,Ze] at this
 exact this
theorem zqR {s:Tx} {n:Nd} {a:Int} (hp:qP s=some (n,a,0)) (hs:s.length≤1000) {d:Nat} (hd:Dep (d+1) n) {t:Tx} {f:Int} (h:JQ d n=some (t,f)) {gid:Nat} {gm:Int} {K:SV→St→Prop} {st:St} (hg:GAt gid gm st)
  (hk:K (.tuple [.sc (.string (ba t)),.sc (.int .i64 f)]) st):ACalls Tryz.prog 14 [.sc (.string (ba s))] K st:=by
 refine zj [] Tryz.func14 rfl Tryz.results14 Tryz.ntmps14 ?_
 have c1:((0:Int) != 0)=false:=rfl
 simp only[go_sem]
 refine JB hp (by omega) ?_
 simp only[go_sem,zc,c1]
 first | (unfold zk;simp only[zd,zb,zo,List.set_cons_succ,List.set_cons_zero,List.getD_cons_succ,List.getD_cons_zero]) | skip
 refine zlP hd (zaf hp hs) h (JV (Jk hp hs) d) (XN hg) ?_
 simp only[go_sem]
 exact zP (YR _ _ _) hk
theorem zhL {gid:Nat} {gm:Int} {K:SV→St→Prop} {st:St} (hg:GAt gid gm st) (hk:K (.sc (.bool true)) st):ACalls Tryz.prog 11 [] K st:=by
 refine zj [] Tryz.func11 rfl Tryz.results11 Tryz.ntmps11 ?_
 simp only[go_sem]
 refine zqR (s:=zut) zvb (by decide) zvq zuL hg ?_
 have c1:((0:Int)==0)=true:=rfl
 have c2:(zzk==[100,111,32,40,32,49,32,43,32,50,32,41,32,42,32,51,32,59,32,102,32,120,32,40,32,67,111,110,115,32,49,32,78,105,108,32,41])=true:=by decide
 simp only[go_sem,c1,c2]
 exact qo (zB _ _) hk
end Go.Proofs
namespace Go.AL
theorem zi0 {s:Tx} {n:Nd} {a:Int} (h:qP s=some (n,a,0)):s.length≤2000:=by
 unfold qP at h
 cases hl:YQ s with
 | error x =>
  obtain⟨b,f⟩:=x
  rw[hl] at h
  simp only[Option.some.injEq,Prod.mk.injEq] at h
  exact absurd h.2.2 (zbP hl)
 | ok T=>exact (zd5 hl).2
theorem zdm {s:Tx} {n:Nd} {a e:Int} (h:qP s=some (n,a,e)):Few 100000 n:=by
 obtain⟨n',a',e',h1,h2⟩:=Jf (s:=s)
 rw[h] at h1;cases h1;exact h2
end Go.AL
namespace Go.Proofs
open Go Go.AL
theorem e0f:((0:Int) != 0)=false:=rfl
theorem e0t:((0:Int)==0)=true:=rfl
theorem e1t:((1:Int) != 0)=true:=rfl
theorem zAK:((1:Int)==1)=true:=rfl
theorem zAR:(([]:Tx)==[])=true:=rfl
theorem zqN {s0 s:Tx} (h0:s=s0.take 300) (hs:s.length≤300) {n:Nd} {a e:Int} (hp:qP s=some (n,a,e)) (he:e≠0) {gid:Nat} {gm:Int} {K:SV→St→Prop} {st:St} (hg:GAt gid gm st) (hk:K (.sc (.bool true)) st):ACalls Tryz.prog 3 [.sc (.string (ba s0))] K st:=by
 refine zj [] Tryz.func3 rfl Tryz.results3 Tryz.ntmps3 ?_
 have c1:(e != 0)=true:=by simp[he]
 simp only[go_sem]
 refine zqC h0 ?_
 simp only[go_sem]
 refine JB hp (by omega) ?_
 simp only[go_sem,zc,c1]
 refine zhL (XN hg) ?_
 try simp only[go_sem]
 exact zP (zB _ _) hk
theorem zqb {s0 s:Tx} (h0:s=s0.take 300) (hs:s.length≤300) {n:Nd} {a:Int} (hp:qP s=some (n,a,0)) {d:Nat} (hd:Dep (d+1) n) (hsh:JQ d n=some ([],1)) {gid:Nat} {gm:Int} {K:SV→St→Prop} {st:St} (hg:GAt gid gm st) (hk:K (.sc (.bool true)) st):ACalls Tryz.prog 3 [.sc (.string (ba s0))] K st:=by
 refine zj [] Tryz.func3 rfl Tryz.results3 Tryz.ntmps3 ?_
 have hw:=JV (Jk hp (by omega)) d
 have hf:=zaf hp (by omega)
 simp only[go_sem]
 refine zqC h0 ?_
 simp only[go_sem]
 refine JB hp (by omega) ?_
 simp only[go_sem,zc,e0f]
 refine zlP hd hf hsh hw (XN hg) ?_
 simp only[go_sem,zc,e1t,zAK,zAR]
 refine zhL (XN hg) ?_
 try simp only[go_sem]
 exact zP (zB _ _) hk
theorem zqS {s0 s:Tx} (h0:s=s0.take 300) (hs:s.length≤300) {n:Nd} {a:Int} (hp:qP s=some (n,a,0)) {d:Nat} (hd:Dep (d+1) n) {t:Tx} (hsh:JQ d n=some (t,0)) {m:Nd} {b:Int} (hp2:qP t=some (m,b,0)) (hsm:qK n m=true) (hsh2:JQ d m=some (t,0))
  {gid:Nat} {gm:Int} {K:SV→St→Prop} {st:St} (hg:GAt gid gm st) (hk:K (.sc (.bool true)) st):ACalls Tryz.prog 3 [.sc (.string (ba s0))] K st:=by
 refine zj [] Tryz.func3 rfl Tryz.results3 Tryz.ntmps3 ?_
 have hw:=JV (Jk hp (by omega)) d
 have hf:=zaf hp (by omega)
 have hwm:wt m≤100000:=by rw[←zmD hsm];exact Jk hp (by omega)
 have hw2:=JV hwm d
 have hf2:=zlA m hwm
 have hd2:=zi8 hsm hd
 have ht:=zi0 hp2
 have hfn:=zdm hp
 have hfm:=zdm hp2
 have ett:(t==t)=true:=by simp
 simp only[go_sem]
 refine zqC h0 ?_
 simp only[go_sem]
 refine JB hp (by omega) ?_
 simp only[go_sem,zc,e0f]
 refine zlP hd hf hsh hw (XN hg) ?_
 simp only[go_sem,zc,e0f]
 refine JB hp2 (by omega) ?_
 simp only[go_sem,zc,e0f]
 refine zqt hfn hfm hsm ?_
 simp only[go_sem,zc,e0f]
 refine zlP hd2 hf2 hsh2 hw2 (XN hg) ?_
 simp only[go_sem,e0t,ett,Xk]
 refine zhL (XN hg) ?_
 simp only[go_sem,e0t,ett,Bool.and_self]
 exact zP (zB _ _) hk
theorem zqU {gid:Nat} {gm:Int} {K:SV→St→Prop} {st:St} (hg:GAt gid gm st) {s0:Tx} (hk:K (.sc (.bool true)) st):ACalls Tryz.prog 3 [.sc (.string (ba s0))] K st:=by
 obtain⟨n,a,e,hp,_⟩:=Jf (s:=s0.take 300)
 have hs:(s0.take 300).length≤300:=by simp;omega
 by_cases he:e=0
 ·subst he
  obtain⟨d,hd⟩:=zoe n
  have hd:=hd.mono (Nat.le_succ d)
  obtain⟨t,f,hsh⟩:=zmX d n
  rcases znU hsh with⟨rfl,ht,hk0,m,b,hp2,hsm⟩ | ⟨rfl,rfl⟩
  ·exact zqS rfl hs hp hd hsh hp2 hsm (zkz ht hk0 hp2 hsm) hg hk
  ·exact zqb rfl hs hp hd hsh hg hk
 ·exact zqN rfl hs hp he hg hk
end Go.Proofs
