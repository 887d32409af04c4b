/- ShowApart: the law. -/
import Derived.Test.YtkokccjfpebomaaGreatDoorS6
set_option maxHeartbeats 4000000
set_option linter.unusedSimpArgs false
set_option linter.unusedVariables false
set_option maxRecDepth 8000
namespace Go.AL
mutual
theorem zmG:∀ {a b:Nd},qK a b=true→qK b a=true
 | .mk k t m p ns ks,.mk k' t' m' p' ns' ks',h=>by
  have q:=Zq h
  exact zmu q.1.symm q.2.1.symm q.2.2.1.symm q.2.2.2.1.symm (zjr q.2.2.2.2)
theorem zjr:∀ {l r:List Nd},qb l r=true→qb r l=true
 | [],[],_=>rfl
 | [],_::_,h=>by simp[qb] at h
 | _::_,[],h=>by simp[qb] at h
 | a::l,b::r,h=>by
  simp only[qb,Bool.and_eq_true] at h ⊢
  exact⟨zmG h.1,zjr h.2⟩
end
mutual
theorem ziq:∀ {a b c:Nd},qK a b=true→qK b c=true→qK a c=true
 | .mk k t m p ns ks,.mk k' t' m' p' ns' ks',.mk _ _ _ _ _ _,h,g=>by
  have q:=Zq h
  have r:=Zq g
  exact zmu (q.1.trans r.1) (q.2.1.trans r.2.1) (q.2.2.1.trans r.2.2.1) (q.2.2.2.1.trans r.2.2.2.1) (zd4 q.2.2.2.2 r.2.2.2.2)
theorem zd4:∀ {l r s:List Nd},qb l r=true→qb r s=true→qb l s=true
 | [],[],[],_,_=>rfl
 | [],[],_::_,_,h=>by simp[qb] at h
 | [],_::_,_,h,_=>by simp[qb] at h
 | _::_,[],_,h,_=>by simp[qb] at h
 | _::_,_::_,[],_,h=>by simp[qb] at h
 | a::l,b::r,c::s,h,g=>by
  simp only[qb,Bool.and_eq_true] at h g ⊢
  exact⟨ziq h.1 g.1,zd4 h.2 g.2⟩
end
theorem zrA {d:Nat} {n m:Nd} {a b:Tx} (h:JQ d n=some (a,0)) (g:JQ d m=some (b,0)):(a==b)=qK n m:=by
 rcases znU h with⟨_,ha,_,n',x,hn,hs⟩ | ⟨h1,_⟩
 ·rcases znU g with⟨_,hb,_,m',y,hm,ht⟩ | ⟨h1,_⟩
  ·cases hh:qK n m with
   | true=>rw[ha,hb,zls d hh];simp
   | false =>
    by_cases e:a=b
    ·rw[←e,hn] at hm
     cases hm
     rw[ziq hs (zmG ht)] at hh
     cases hh
    ·simp[e]
  ·cases h1
 ·cases h1
end Go.AL
namespace Go.Proofs
open Go Go.AL
@[go_sem] theorem Tryz.aund4:Tryz.prog.underlying 4=some .bool:=by kernel_rfl
theorem zw8 (v:Bool):(v==v)=true:=by cases v <;> rfl
theorem zwX {s0 t0 s t:Tx} (h0:s=s0.take 300) (k0:t=t0.take 300) (hs:s.length≤300) (ht:t.length≤300) {n m:Nd} {a b e f:Int} (hp:qP s=some (n,a,e)) (hq:qP t=some (m,b,f)) (he:e≠0∨f≠0) {gid:Nat} {gm:Int} {K:SV→St→Prop} {st:St} (hg:GAt gid gm st) (hk:K (.sc (.bool true)) st):ACalls Tryz.prog 4 [.sc (.string (ba s0)),.sc (.string (ba t0))] K st:=by
 refine zj [] Tryz.func4 rfl Tryz.results4 Tryz.ntmps4 ?_
 by_cases h1:e=0
 ·have c1:(e != 0)=false:=by simp[h1]
  have c2:(f != 0)=true:=by simp[he.resolve_left (fun x=>x h1)]
  simp only[go_sem]
  refine zqC h0 ?_
  simp only[go_sem]
  refine JB hp (by omega) ?_
  simp only[go_sem,zc,c1]
  refine zqC k0 ?_
  simp only[go_sem,zc,c1]
  refine JB hq (by omega) ?_
  simp only[go_sem,zc,c1,c2]
  refine zhL (XN hg) ?_
  try simp only[go_sem]
  exact zP (zB _ _) hk
 ·have c1:(e != 0)=true:=by simp[h1]
  simp only[go_sem]
  refine zqC h0 ?_
  simp only[go_sem]
  refine JB hp (by omega) ?_
  simp only[go_sem,zc,c1]
  refine zqC k0 ?_
  simp only[go_sem,zc,c1]
  refine JB hq (by omega) ?_
  simp only[go_sem,zc,c1]
  refine zhL (XN hg) ?_
  try simp only[go_sem]
  exact zP (zB _ _) hk
theorem zw1 {s0 t0 s t:Tx} (h0:s=s0.take 300) (k0:t=t0.take 300) (hs:s.length≤300) (ht:t.length≤300) {n m:Nd} {a b:Int} (hp:qP s=some (n,a,0)) (hq:qP t=some (m,b,0)) {d:Nat} (hd:Dep (d+1) n) (hd2:Dep (d+1) m) {x y:Tx} {e f:Int} (hx:JQ d n=some (x,e)) (hy:JQ d m=some (y,f)) (he:e≠0∨f≠0)
  {gid:Nat} {gm:Int} {K:SV→St→Prop} {st:St} (hg:GAt gid gm st) (hk:K (.sc (.bool true)) st):ACalls Tryz.prog 4 [.sc (.string (ba s0)),.sc (.string (ba t0))] K st:=by
 refine zj [] Tryz.func4 rfl Tryz.results4 Tryz.ntmps4 ?_
 have hw:=JV (Jk hp (by omega)) d
 have hf:=zaf hp (by omega)
 have hw2:=JV (Jk hq (by omega)) d
 have hf2:=zaf hq (by omega)
 by_cases h1:e=0
 ·have c1:(e != 0)=false:=by simp[h1]
  have c2:(f != 0)=true:=by simp[he.resolve_left (fun x=>x h1)]
  simp only[go_sem]
  refine zqC h0 ?_
  simp only[go_sem]
  refine JB hp (by omega) ?_
  simp only[go_sem,zc,e0f]
  refine zqC k0 ?_
  simp only[go_sem,zc,e0f]
  refine JB hq (by omega) ?_
  simp only[go_sem,zc,e0f]
  refine zlP hd hf hx hw (XN hg) ?_
  simp only[go_sem,zc,e0f]
  refine zlP hd2 hf2 hy hw2 (XN hg) ?_
  simp only[go_sem,zc,c1,c2]
  refine zhL (XN hg) ?_
  try simp only[go_sem]
  exact zP (zB _ _) hk
 ·have c1:(e != 0)=true:=by simp[h1]
  simp only[go_sem]
  refine zqC h0 ?_
  simp only[go_sem]
  refine JB hp (by omega) ?_
  simp only[go_sem,zc,e0f]
  refine zqC k0 ?_
  simp only[go_sem,zc,e0f]
  refine JB hq (by omega) ?_
  simp only[go_sem,zc,e0f]
  refine zlP hd hf hx hw (XN hg) ?_
  simp only[go_sem,zc,e0f]
  refine zlP hd2 hf2 hy hw2 (XN hg) ?_
  simp only[go_sem,zc,c1]
  refine zhL (XN hg) ?_
  try simp only[go_sem]
  exact zP (zB _ _) hk
theorem zvK {s0 t0 s t:Tx} (h0:s=s0.take 300) (k0:t=t0.take 300) (hs:s.length≤300) (ht:t.length≤300) {n m:Nd} {a b:Int} (hp:qP s=some (n,a,0)) (hq:qP t=some (m,b,0)) {d:Nat} (hd:Dep (d+1) n) (hd2:Dep (d+1) m) {x y:Tx} (hx:JQ d n=some (x,0)) (hy:JQ d m=some (y,0)) {v:Bool} (hv:qK n m=v) (hxy:(x==y)=v)
  {gid:Nat} {gm:Int} {K:SV→St→Prop} {st:St} (hg:GAt gid gm st) (hk:K (.sc (.bool true)) st):ACalls Tryz.prog 4 [.sc (.string (ba s0)),.sc (.string (ba t0))] K st:=by
 refine zj [] Tryz.func4 rfl Tryz.results4 Tryz.ntmps4 ?_
 have hw:=JV (Jk hp (by omega)) d
 have hf:=zaf hp (by omega)
 have hw2:=JV (Jk hq (by omega)) d
 have hf2:=zaf hq (by omega)
 have hfn:=zdm hp
 have hfm:=zdm hq
 simp only[go_sem]
 refine zqC h0 ?_
 simp only[go_sem]
 refine JB hp (by omega) ?_
 simp only[go_sem,zc,e0f]
 refine zqC k0 ?_
 simp only[go_sem,zc,e0f]
 refine JB hq (by omega) ?_
 simp only[go_sem,zc,e0f]
 refine zlP hd hf hx hw (XN hg) ?_
 simp only[go_sem,zc,e0f]
 refine zlP hd2 hf2 hy hw2 (XN hg) ?_
 simp only[go_sem,zc,e0f]
 refine zqt hfn hfm hv ?_
 simp only[go_sem,Xk,hxy,zw8]
 refine zhL (XN hg) ?_
 simp only[go_sem,Xk,hxy,zw8]
 exact zP (zB _ _) hk
theorem ztO {gid:Nat} {gm:Int} {K:SV→St→Prop} {st:St} (hg:GAt gid gm st) {s0 s1:Tx} (hk:K (.sc (.bool true)) st):ACalls Tryz.prog 4 [.sc (.string (ba s0)),.sc (.string (ba s1))] K st:=by
 obtain⟨n,a,e,hp,_⟩:=Jf (s:=s0.take 300)
 obtain⟨m,b,f,hq,_⟩:=Jf (s:=s1.take 300)
 have hs:(s0.take 300).length≤300:=by simp;omega
 have ht:(s1.take 300).length≤300:=by simp;omega
 by_cases he:e=0∧f=0
 ·obtain⟨rfl,rfl⟩:=he
  obtain⟨d1,hd1⟩:=zoe n
  obtain⟨d2,hd2⟩:=zoe m
  have hd1:Dep (d1+d2+1) n:=hd1.mono (by omega)
  have hd2:Dep (d1+d2+1) m:=hd2.mono (by omega)
  obtain⟨x,e,hx⟩:=zmX (d1+d2) n
  obtain⟨y,f,hy⟩:=zmX (d1+d2) m
  by_cases he:e=0∧f=0
  ·obtain⟨rfl,rfl⟩:=he
   exact zvK rfl rfl hs ht hp hq hd1 hd2 hx hy rfl (zrA hx hy) hg hk
  ·exact zw1 rfl rfl hs ht hp hq hd1 hd2 hx hy (by omega) hg hk
 ·exact zwX rfl rfl hs ht hp hq (by omega) hg hk
end Go.Proofs
