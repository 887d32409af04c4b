/- Whole; ShowTexts: the law. -/
import Derived.Test.YtkokccjfpebomaaGreatDoorR3
import Derived.Test.YtkokccjfpebomaaGreatDoorS6
import Derived.Test.YtkokccjfpebomaaGreatDoorT5
set_option linter.all false
set_option maxHeartbeats 4000000
set_option maxRecDepth 8000
namespace Go.Proofs
open Go Go.AL Tryz
variable {K:SV→St→Prop}{st:St}
theorem dT{s:Tx}{n:Nd}{a e:Int}(hp:qC s=some (n,a,e))(hs:s.length≤1000)(he:e≠0)(hk:K (.tuple [.sc (.string (ba [])),.sc (.bool false)]) st):ACalls prog 17 [.sc (.string (ba s))] K st:=by
 refine zc [] func17 rfl results17 ntmps17 ?_;have c1:(e != 0)=true:=by simp[he]
 try simp only[go_sem]
 refine Uq hp (by omega) ?_;simp only[go_sem,za,c1];exact zB (Yf _ _ _) hk
theorem jz{s:Tx}{n:Nd}{a:Int}(hp:qC s=some (n,a,0))(hs:s.length≤1000){d:Nat}(hd:Dep (d+2) n){t:Tx}(ht:Zj (d+1) n=t)(hk:K (.tuple [.sc (.string (ba t)),.sc (.bool true)]) st):ACalls prog 17 [.sc (.string (ba s))] K st:=by
 refine zc [] func17 rfl results17 ntmps17 ?_;have hw:=EL (Ux hp hs) (d+1);rw[ht] at hw;try simp only[go_sem]
 refine Uq hp (by omega) ?_;simp only[go_sem,za,Of];try (unfold zd;simp only[qc])
 refine sl (As (YR hp)) (Ik (YR hp)) hd (Eu hp hs) ht hw ?_;try simp only[go_sem]
 exact zB (Yf _ _ _) hk
theorem nM{s0 s:Tx}(h0:s=s0.take 300)(hs:s.length≤300){n:Nd}{a e:Int}(hp:qC s=some (n,a,e))(he:e≠0){gid:Nat}{gm:Int}(hg:UH gid gm st)(hk:K (.sc (.bool true)) st):ACalls prog 7 [.sc (.string (ba s0))] K st:=by
 refine zc [] func7 rfl results7 ntmps7 ?_;try simp only[go_sem]
 refine cE h0 ?_;try simp only[go_sem]
 refine dT hp (by omega) he ?_;try simp only[go_sem]
 refine F0 hg ?_;try simp only[go_sem]
 exact zu (zh _ _) hk
theorem mL{s0 s:Tx}(h0:s=s0.take 300)(hs:s.length≤300){n:Nd}{a:Int}(hp:qC s=some (n,a,0)){d:Nat}(hd:Dep (d+2) n){t:Tx}(ht:Zj (d+1) n=t)(hl:2000<t.length){gid:Nat}{gm:Int}(hg:UH gid gm st)(hk:K (.sc (.bool true)) st):ACalls prog 7 [.sc (.string (ba s0))] K st:=by
 refine zc [] func7 rfl results7 ntmps7 ?_;have hsh:Kw (d+1) n=some ([],1):=gZ (yJ (YR hp)) (by rw[ht];exact hl);have c1:decide ((2000:Int)<(t.length:Int))=true:=by rw[decide_eq_true_eq];omega
 try simp only[go_sem]
 refine cE h0 ?_;try simp only[go_sem]
 refine jz hp (by omega) hd ht ?_;try simp only[go_sem]
 refine Gz hp (by omega) hd hsh hg ?_;simp only[go_sem,zf,gt_iff_lt,c1,NL,NN];refine F0 hg ?_;try simp only[go_sem]
 exact zu (zh _ _) hk
theorem mg{s0 s:Tx}(h0:s=s0.take 300)(hs:s.length≤300){n:Nd}{a:Int}(hp:qC s=some (n,a,0)){d:Nat}(hd:Dep (d+2) n){t:Tx}(ht:Zj (d+1) n=t)(hl:¬ 2000<t.length){gid:Nat}{gm:Int}(hg:UH gid gm st)(hk:K (.sc (.bool true)) st):ACalls prog 7 [.sc (.string (ba s0))] K st:=by
 refine zc [] func7 rfl results7 ntmps7 ?_;have hsh:Kw (d+1) n=some (t,0):=by rw[←ht];exact uf hp hd (by rw[ht];omega)
 have c1:decide ((2000:Int)<(t.length:Int))=false:=by rw[decide_eq_false_iff_not];omega
 have ett:(t==t)=true:=by simp
 try simp only[go_sem]
 refine cE h0 ?_;try simp only[go_sem]
 refine jz hp (by omega) hd ht ?_;try simp only[go_sem]
 refine Gz hp (by omega) hd hsh hg ?_;simp only[go_sem,zf,gt_iff_lt,c1,N4,Qy,ett];refine F0 hg ?_;try simp only[go_sem,N4,ett,Bool.and_self]
 exact zu (zh _ _) hk
theorem nK{gid:Nat}{gm:Int}(hg:UH gid gm st){s0:Tx}(hk:K (.sc (.bool true)) st):ACalls prog 7 [.sc (.string (ba s0))] K st:=by
 obtain⟨n,a,e,hp,_⟩:=Ho (s:=s0.take 300);have hs:(s0.take 300).length≤300:=by simp;omega
 by_cases he:e=0
 ·subst he;obtain⟨d,hd⟩:=mK n;have hd:=hd.mono (Nat.le_add_right d 2);by_cases hl:2000<(Zj (d+1) n).length
  ·exact mL rfl hs hp hd rfl hl hg hk
  ·exact mg rfl hs hp hd rfl hl hg hk
 ·exact nM rfl hs hp he hg hk
end Go.Proofs
