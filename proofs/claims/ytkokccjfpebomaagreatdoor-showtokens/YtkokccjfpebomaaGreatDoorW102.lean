/- ShowTokens: the law. -/
import Derived.Test.YtkokccjfpebomaaGreatDoorS6
import Derived.Test.YtkokccjfpebomaaGreatDoorT5
set_option linter.all false
set_option maxHeartbeats 4000000
set_option maxRecDepth 8000
namespace Go.Proofs
open Go Go.AL Tryz
theorem uH{s:Tx}{T:List Tk}(hT:X8 s = .ok T)(hz:s.length≤100000){K:SV→St→Prop}{st:St}(hk:K (.tuple [.slice .imm 4 (T.map ZF),.sc (.int .i64 0),.sc (.int .i64 0)]) st):ACalls prog 18 [.sc (.string (ba s))] K st :=
 EM hz (by rw[hT];exact hk)
theorem wJ{l:List Tk}{i:Nat}(h:i<l.length):(l.map ZF).getD i .any=ZF (l.getD i F6):=by simp[xgE,h]
theorem jx{s:Tx}{i:Nat}(h:i<s.length):(ba s).get! i=s.getD i 0:=by rw[ZJ h];simp[xgE,h]
theorem gq{x:UInt8}(h:x≠32):((x.toNat:Int) != 32)=true:=by
 rw[bne_iff_ne];intro e;exact h (UInt8.toNat_inj.1 (show x.toNat=(32:UInt8).toNat by show x.toNat=32;omega))
theorem tR{x:UInt8}(h:x=32):((x.toNat:Int) != 32)=false:=by subst h;rfl
theorem nO{x:UInt8}(h:x≠32):((x.toNat:Int)==32)=false:=by
 have:=gq h;rw[bne_iff_ne] at this;rw[beq_eq_false_iff_ne];exact this
theorem Ab{s0 s:Tx}(h0:s=s0.take 300)(hs:s.length≤300){n:Nd}{a e:Int}(hp:qp s=some (n,a,e))(he:e≠0){gid:Nat}{gm:Int}{K:SV→St→Prop}{st:St}(hg:UC gid gm st)(hk:K (.sc (.bool true)) st):ACalls prog 8 [.sc (.string (ba s0))] K st:=by
 refine zd [] func8 rfl results8 ntmps8 ?_;have c1:(e != 0)=true:=by simp[he]
 try simp only[go_sem]
 refine Li h0 ?_;try simp only[go_sem]
 refine bM hp (by omega) he ?_;try simp only[go_sem,c1]
 refine HM hg ?_;try simp only[go_sem]
 exact zy (zi _ _) hk
theorem Cq{s0 s:Tx}(h0:s=s0.take 300)(hs:s.length≤300){n:Nd}{a:Int}(hp:qp s=some (n,a,0)){d:Nat}(hd:Dep (d+1) n)(hsh:JQ d n=some ([],1)){gid:Nat}{gm:Int}{K:SV→St→Prop}{st:St}(hg:UC gid gm st)(hk:K (.sc (.bool true)) st):ACalls prog 8 [.sc (.string (ba s0))] K st:=by
 refine zd [] func8 rfl results8 ntmps8 ?_;try simp only[go_sem]
 refine Li h0 ?_;try simp only[go_sem]
 refine GQ hp (by omega) hd hsh hg ?_;try simp only[go_sem,RQ]
 refine HM hg ?_;try simp only[go_sem]
 exact zy (zi _ _) hk
theorem Aa{s0 s:Tx}(h0:s=s0.take 300)(hs:s.length≤300){n:Nd}{a:Int}(hp:qp s=some (n,a,0)){d:Nat}(hd:Dep (d+1) n){t:Tx}(hsh:JQ d n=some (t,0)){T:List Tk}(hT:X8 t = .ok T)(hl:t.length≤2000)(hl2:2≤t.length)(hT2:2≤T.length)(hTl:T.length≤100000)(hgap:∀ i,i+1<T.length→iz t T i)(hpos:∀ i,i<T.length→0≤(T.getD i F6).pos)
  {gid:Nat} {gm:Int} {K:SV→St→Prop} {st:St} (hg:UC gid gm st) (hk:K (.sc (.bool true)) st):ACalls prog 8 [.sc (.string (ba s0))] K st:=by
 refine zd [] func8 rfl results8 ntmps8 ?_;have c2:decide ((t.length:Int)<2)=false:=by rw[decide_eq_false_iff_not];omega
 try simp only[go_sem]
 refine Li h0 ?_;try simp only[go_sem]
 refine GQ hp (by omega) hd hsh hg ?_;try simp only[go_sem,Mr]
 refine uH hT (by omega) ?_;try simp only[go_sem,Mr,zg,c2]
 refine zx [] (fun m env s=>∃ i:Nat,m+i+1=T.length∧i+1<T.length∧env=[.any,.any,.any,.sc (.string (ba t)),.any,.slice .imm 4 (T.map ZF),.any,.any,.sc (.int .i64 i),.any,.any,.any,.any,.any,.any,.any,.any,.any,.any,.any,.any,.any,.any,.any,.any,.any,.any,.any,.any,.any,.any,.any,.any,.any,.any,.any,.any,.any,.any,.any,.any,.any,.any,.any,.any,.any,.any,.any,.any,.any,.any,.any,.any,.any,.any,.any,.any,.any,.any,.any,.any,.any,.any,.any,.any,.any,.any,.any,.any,.any,.any,.any,.any,.any,.any,.any,.any,.any,.any,.any,.any,.any,.any,.any,.any,.any,.any,.any,.any,.any,.any,.any,.any,.any,.any,.any]∧s=st) (n:=T.length-1) ?_ ⟨0,by omega,by omega,rfl,rfl⟩ ?_
 ·exact qu
 rintro m env s ⟨i,hm,hi,rfl,rfl⟩;obtain⟨hg1,hg2⟩:=hgap i hi;have w1:IntKind.i64.wrap ((i:Int)+1)=((i+1:Nat):Int):=by rw[IntWalk.i64_in _ (by omega)];rfl
 have w2:IntKind.i64.wrap ((i:Int)+2)=((i+2:Nat):Int):=by rw[IntWalk.i64_in _ (by omega)];rfl
 have c3:decide (((i+1:Nat):Int)<(T.length:Int))=true:=by rw[decide_eq_true_eq];omega
 have g1:=wJ hi;have g0:=wJ (show i<T.length by omega);have b1:(0:Int)≤((i+1:Nat):Int)∧((i+1:Nat):Int)<(T.length:Int):=by omega
 by_cases hlast:i+2=T.length
 ·obtain⟨k1,k2,k3⟩:=hg1 hlast;have c4:(((i+2:Nat):Int)==(T.length:Int))=true:=by rw[beq_iff_eq];omega
  have w3:IntKind.i64.wrap ((t.length:Int)-1)=((t.length-1:Nat):Int):=by rw[IntWalk.i64_in _ (by omega)];omega
  have c5:((t.length:Int)==(t.length:Int))=true:=by simp
  have c6:((((ba t).get! (t.length-1)).toNat:Int) != 32)=true:=gq (by rw[jx (by omega)];exact k3);simp only[go_sem,w1,w2,c3,c4,xlM,g1,Z3,k1,zg,w3,c5,c6];refine⟨by omega,by omega,?_⟩;refine HM hg ?_;simp only[go_sem,w1,w2,c3,c4,xlM,g1,Z3,k1,zg,w3,c5,c6,Bool.and_self];exact zy (zi _ _) hk
 ·obtain⟨e,k1,k2,k3,k4,k5,k6⟩:=hg2 (by omega);have c4:(((i+2:Nat):Int)==(T.length:Int))=false:=by rw[beq_eq_false_iff_ne];omega
  have w3:IntKind.i64.wrap ((e:Int)-1)=((e-1:Nat):Int):=by rw[IntWalk.i64_in _ (by omega)];omega
  have w4:IntKind.i64.wrap ((e:Int)-2)=((e-2:Nat):Int):=by rw[IntWalk.i64_in _ (by omega)];omega
  have c5:((((ba t).get! (e-1)).toNat:Int) != 32)=false:=tR (by rw[jx (by omega)];exact k4);have c7:((((ba t).get! (e-2)).toNat:Int)==32)=false:=nO (by rw[jx (by omega)];exact k5);generalize hq:(T.getD i F6).pos=q at *;have hq0:0≤q:=by rw[←hq];exact hpos i (by omega)
  have w5:IntKind.i64.wrap (q-1)=q-1:=by rw[IntWalk.i64_in _ (by omega)]
  have c6:decide (((e-2:Nat):Int)≤q-1)=false:=by rw[decide_eq_false_iff_not];omega
  simp only[go_sem,w1,w2,c3,c4,xlM,g1,g0,Z3,k1,hq,zg,w3,w4,w5,c5,c6,c7];refine⟨by omega,by omega,by omega,by omega,m-1,_,by omega,?_,i+1,by omega,by omega,rfl⟩;exact qu
theorem pR{gid:Nat}{gm:Int}{K:SV→St→Prop}{st:St}(hg:UC gid gm st){s0:Tx}(hk:K (.sc (.bool true)) st):ACalls prog 8 [.sc (.string (ba s0))] K st:=by
 obtain⟨n,a,e,hp,_⟩:=J9 (s:=s0.take 300);have hs:(s0.take 300).length≤300:=by simp;omega
 by_cases he:e=0
 ·subst he;obtain⟨d,hd⟩:=bc n;have hd:=hd.mono (Nat.le_add_right d 2);by_cases hl:2000<(qR (d+1) n).length
  ·exact Cq rfl hs hp hd (m8 (gO (J' hp)) hl) hg hk
  ·obtain⟨T,h1,h2,h3⟩:=uN (J' hp) hd (by omega);obtain⟨_,_,h4,h5⟩:=uV (Uo h1).1;refine Aa rfl hs hp hd (uO hp hd (by omega)) h1 (by omega) ?_ h2 (by omega) h3 (fun i hi=>?_) hg hk
   ·unfold qR;simp[qO];omega
   ·have:=(h4 i (T.getD i F6) (by simp[xgE,hi])).1;simpa using this
 ·exact Ab rfl hs hp he hg hk
end Go.Proofs
