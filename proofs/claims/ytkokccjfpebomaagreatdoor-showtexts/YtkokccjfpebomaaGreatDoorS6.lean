/- parse.Program of any text; show.Program. -/
import Derived.Test.YtkokccjfpebomaaGreatDoorS4
import Derived.Test.YtkokccjfpebomaaGreatDoorN5
import Derived.Test.YtkokccjfpebomaaGreatDoorS5
import Derived.Test.YtkokccjfpebomaaGreatDoorN4
set_option linter.all false
set_option maxHeartbeats 4000000
set_option maxRecDepth 8000
namespace Go.Proofs
open Go Go.AL Tryz
variable {K:SV→St→Prop}{st:St}
theorem LZ{s:Tx}(hl:2000<s.length)(hk:∀ x,K (.tuple [x,.sc (.int .i64 0),.sc (.int .i64 12)]) st):ACalls prog 46 [.sc (.string (ba s))] K st:=by
 refine zc [14] func46 rfl results46 ntmps46 ?_;have c1:decide ((2000:Int)<(s.length:Int))=true:=by simp;omega
 simp only[go_sem,zf,gt_iff_lt,c1];exact zu (KB _ _ _) (hk _)
theorem Lo{s:Tx}(hl:2000<s.length)(hk:K (.tuple [zq VQ,.sc (.int .i64 0),.sc (.int .i64 12)]) st):ACalls prog 29 [.sc (.string (ba s))] K st:=by
 refine zw (zc [23] func29 rfl results29 ntmps29 ?_);have he:((12:Int) != 0)=true:=rfl;simp only[go_sem];refine LZ hl fun x=>?_;simp only[go_sem,he];exact UQ (Do _) rfl vS hk
theorem xS{s:Tx}{nd:Nd}{a e:Int}(h:qC s=some (nd,a,e)){gid:Nat}{m:Int}(hg:UH gid m st)(hk:K (.tuple [zq nd,.sc (.int .i64 a),.sc (.int .i64 e)]) st):ACalls prog 29 [.sc (.string (ba s))] K st:=by
 by_cases hl:2000<s.length
 ·unfold qC YY at h;rw[if_pos hl] at h;cases h;exact Lo hl hk
 ·exact ag h hg (by omega) hk
theorem fJ{a b:Nd}(ha:Few 100000 a)(hb:Few 100000 b){v:Bool}(hv:Z3 a b=v)(hk:K (.sc (.bool v)) st):ACalls prog 30 [zq a,zq b] K st:=by
 subst hv;exact af ha hb hk
theorem ez{a b:Nd}(ha:Few 100000 a)(hb:Few 100000 b){v:Bool}(hv:Z3 a b=v)(hk:K (.sc (.bool v)) st) :
  ACalls prog 30 [.agg [.sc (.int .i64 a.kind),.sc (.string (ba a.text)),.sc (.int .i64 a.num),.sc (.int .i64 a.pos),.slice .imm 1 (a.names.map z8),.slice .imm 6 (a.kids.map zq)],.agg [.sc (.int .i64 b.kind),.sc (.string (ba b.text)),.sc (.int .i64 b.num),.sc (.int .i64 b.pos),.slice .imm 1 (b.names.map z8),.slice .imm 6 (b.kids.map zq)]] K st:=by
 have:=fJ ha hb hv hk;rw[qR,qR] at this;exact this
theorem fo{d:Nat}{n:Nd}(hd:Dep (d+1) n)(hf:Fit n){t:Tx}{e:Int}(h:Kw d n=some (t,e))(hl:(Zj d n).length≤140737488355328){gid:Nat}{gm:Int}(hg:UH gid gm st)(hk:K (.tuple [.sc (.string (ba t)),.sc (.int .i64 e)]) st):ACalls prog 12 [zq n] K st:=by
 refine zc [] func12 rfl results12 ntmps12 ?_;unfold Kw at h;have hn:=hf.kids.2.1;by_cases h0:n.kids.length=0
 ·have c0:((n.kids.length:Int)==0)=true:=by rw[beq_iff_eq];omega
  rw[if_pos h0] at h;cases h;simp only[go_sem,za,xlM,c0];exact zu (Yf _ _ _) hk
 have c0:((n.kids.length:Int)==0)=false:=by rw[beq_eq_false_iff_ne];omega
 have w0:IntKind.i64.wrap ((n.kids.length:Int)-1)=((n.kids.length-1:Nat):Int):=by rw[IntWalk.i64_in _ (by omega)];omega
 rw[if_neg h0] at h;simp only[xoM,xpX] at h;obtain⟨m,a,f,hp,hr⟩:=h;generalize hL:n.kids.dropLast=l at *;have hlen:l.length=n.kids.length-1:=by rw[←hL];simp
 have htk:List.take (n.kids.length-1) (n.kids.map zq)=l.map zq:=by rw[←List.map_take,←List.dropLast_eq_take,hL]
 have hfk:∀ c∈l,Fit c:=fun c hc=>hf.kids.1 c (by rw[←hL] at hc;exact (List.dropLast_sublist _).subset hc);have hdk:∀ c∈l,Dep d c:=fun c hc=>hd.kids c (by rw[←hL] at hc;exact (List.dropLast_sublist _).subset hc);have hlast:n.kids.getLastD VQ∈n.kids:=by
  rw[List.getLastD_eq_getLast?,List.getLast?_eq_getElem?,List.getElem?_eq_getElem (by omega)];exact List.getElem_mem _
 have hlg:(n.kids.map zq).getD (n.kids.length-1) .any=zq (n.kids.getLastD VQ):=by
  rw[Zm (by omega),List.getLastD_eq_getLast?,List.getLast?_eq_getElem?,List.getElem?_eq_getElem (by omega)];rfl
 generalize hQ:n.kids.getLastD VQ=q at *;generalize hz:Xt d [] l=z;have hwh:Zj d n=z++qF [[100,111],zg (zn d) q 7 7]:=by unfold Zj;rw[hL,hQ,hz]
 generalize hW:Zj d n=W at *;have hl2:=hl;rw[hwh,xlA,q8] at hl2;have hl3:=hl;rw[hwh,xlA] at hl3;have hmf:Few 100000 m:=by
  obtain⟨m',a',f',h1,h2⟩:=Ho (s:=W);rw[hp] at h1;cases h1;exact h2
 simp only[go_sem,za,xlM,c0,w0,htk,hlen];refine⟨⟨by omega,by omega⟩,?_⟩;refine zt [] (fun k env s=>∃ (i:Nat) (v:Tx) (ex:St),k+i=l.length∧Xt d v (l.drop i)=z∧env=(.any :: .ref [.sc (.int .i64 n.kind),.sc (.string (ba n.text)),.sc (.int .i64 n.num),.sc (.int .i64 n.pos),.slice .imm 1 (n.names.map z8),.slice .imm 6 (n.kids.map zq)] :: .any :: .any :: .sc (.int .i64 (n.kids.length-1:Nat)) :: .sc (.string (ba v))::X3 (.slice .imm 6 (l.map zq) :: .sc (.int .i64 (n.kids.length-1:Nat)) :: .sc (.int .i64 i) :: .any :: .any :: .any::XD []))∧s=st++ex) (n:=l.length) ?_ ⟨0,[],[],by omega,hz,rfl,by simp⟩ ?_
 ·exact qv
 rintro k env s ⟨i,v,ex,hi,hv,rfl,rfl⟩;by_cases hlt:i<l.length
 ·have c2:decide ((i:Int)<((n.kids.length-1:Nat):Int))=true:=by rw[decide_eq_true_eq];omega
  have w1:=KL i;have g1:=Zm hlt;rw[List.drop_eq_getElem_cons hlt] at hv;have hv:Xt d (v++qF [ZU d l[i],[59,32]]) (l.drop (i+1))=z:=hv;have hle:=FA d (l.drop (i+1)) (v++qF [ZU d l[i],[59,32]]);rw[hv,xlA] at hle;have hle2:=hle;rw[q8] at hle2;have hd1:Dep (d+1) l[i]:=(hdk _ (List.getElem_mem hlt)).mono (Nat.le_succ d);have hf1:=hfk _ (List.getElem_mem hlt);simp only[go_sem,c2,w1,xlM,g1,za,hlen];refine⟨by omega,?_⟩;refine CC hd1 hf1 rfl (by omega) ?_;simp only[go_sem,w1];refine QI (l:=[ZU d l[i],[59,32]]) (by simp) (by simp) rfl (by omega) ?_;simp only[go_sem,w1,zL];refine⟨by simp only[xsA];omega,k-1,_,by omega,?_,i+1,_,_,by omega,hv,rfl,rfl⟩;exact qv
 have c2:decide ((i:Int)<((n.kids.length-1:Nat):Int))=false:=by rw[decide_eq_false_iff_not];omega
 rw[List.drop_of_length_le (by omega)] at hv;have hv:v=z:=hv;subst hv;simp only[go_sem,c2,xlM,hlg,za];refine⟨by omega,?_⟩;try (unfold zd;simp only[qc])
 refine Zc (Wp d) (hd.kids q hlast) (hf.kids.1 q hlast) rfl (by omega) ?_;simp only[go_sem];try (unfold zd;simp only[qc])
 refine QI (l:=[[100,111],zg (zn d) q 7 7]) (by simp) (by simp) rfl (by omega) ?_;simp only[go_sem,zL,←hwh];refine⟨by simp only[xsA];omega,?_⟩;try (unfold zd;simp only[qc])
 refine xS hp (KN hg) ?_;by_cases hf0:f=0
 ·have c3:(f != 0)=false:=by simp[hf0]
  cases hsm:Z3 n m with
  | true =>
   rw[if_pos ⟨hf0,hsm⟩] at hr;cases hr;simp only[go_sem,c3,za];try (unfold zd;simp only[qc])
   refine ez hf.few hmf hsm ?_;simp only[go_sem,c3,za];exact zB (Yf _ _ _) hk
  | false =>
   rw[if_neg (fun x=>by rw[hsm] at x;exact absurd x.2 (by decide))] at hr;cases hr;simp only[go_sem,c3,za];try (unfold zd;simp only[qc])
   refine ez hf.few hmf hsm ?_;simp only[go_sem,c3,za];exact zB (Yf _ _ _) hk
 ·have c3:(f != 0)=true:=by simp[hf0]
  rw[if_neg (fun x=>hf0 x.1)] at hr;cases hr;simp only[go_sem,c3,za];exact zB (Yf _ _ _) hk
theorem cE{s r:Tx}(h:r=s.take 300)(hk:K (.sc (.string (ba r))) st):ACalls prog 9 [.sc (.string (ba s))] K st:=by
 subst h;refine zc [] func9 rfl results9 ntmps9 ?_;by_cases hl:300<s.length
 ·have c1:decide ((300:Int)<(s.length:Int))=true:=by simp;omega
  simp only[go_sem,zf,gt_iff_lt,c1,qD];exact⟨⟨by omega,by omega⟩,zu (zh _ _) hk⟩
 ·have c1:decide ((300:Int)<(s.length:Int))=false:=by simp;omega
  rw[List.take_of_length_le (by omega)] at hk;simp only[go_sem,zf,gt_iff_lt,c1,qD];exact zu (zh _ _) hk
theorem AG{d:Nat}{n:Nd}(hd:Dep (d+1) n)(hf:Fit n){t:Tx}{e:Int}(h:Kw d n=some (t,e))(hl:(Zj d n).length≤140737488355328){gid:Nat}{gm:Int}(hg:UH gid gm st)(hk:K (.tuple [.sc (.string (ba t)),.sc (.int .i64 e)]) st) :
  ACalls prog 12 [.agg [.sc (.int .i64 n.kind),.sc (.string (ba n.text)),.sc (.int .i64 n.num),.sc (.int .i64 n.pos),.slice .imm 1 (n.names.map z8),.slice .imm 6 (n.kids.map zq)]] K st:=by
 have:=fo hd hf h hl hg hk;rw[qR] at this;exact this
theorem Gz{s:Tx}{n:Nd}{a:Int}(hp:qC s=some (n,a,0))(hs:s.length≤1000){d:Nat}(hd:Dep (d+1) n){t:Tx}{f:Int}(h:Kw d n=some (t,f)){gid:Nat}{gm:Int}(hg:UH gid gm st)
  (hk:K (.tuple [.sc (.string (ba t)),.sc (.int .i64 f)]) st):ACalls prog 14 [.sc (.string (ba s))] K st:=by
 refine zc [] func14 rfl results14 ntmps14 ?_;have c1:((0:Int) != 0)=false:=rfl;simp only[go_sem];refine Uq hp (by omega) ?_;simp only[go_sem,za,c1];try (unfold zd;simp only[qc])
 refine AG hd (Eu hp hs) h (EL (Ux hp hs) d) (KN hg) ?_;simp only[go_sem];exact zB (Yf _ _ _) hk
theorem F0{gid:Nat}{gm:Int}(hg:UH gid gm st)(hk:K (.sc (.bool true)) st):ACalls prog 11 [] K st:=by
 refine zc [] func11 rfl results11 ntmps11 ?_;simp only[go_sem];refine Gz (s:=r9) aW (by decide) ae aJ hg ?_;have c1:((0:Int)==0)=true:=rfl;have c2:(CI==[100,111,32,40,32,49,32,43,32,50,32,41,32,42,32,51,32,59,32,102,32,120,32,40,32,67,111,110,115,32,49,32,78,105,108,32,41])=true:=by decide
 simp only[go_sem,c1,c2];exact zu (zh _ _) hk
end Go.Proofs
namespace Go.AL
end Go.AL
namespace Go.Proofs
open Go Go.AL Tryz
theorem Of:((0:Int) != 0)=false:=rfl
theorem N4:((0:Int)==0)=true:=rfl
theorem NL:((1:Int)==1)=true:=rfl
theorem NN:(([]:Tx)==[])=true:=rfl
end Go.Proofs
