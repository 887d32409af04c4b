/- What stands for tokens, nodes and the parser's state in memory. -/
import Derived.Test.YtkokccjfpebomaaGreatDoorM5
import Derived.Test.YtkokccjfpebomaaGreatDoorFacts
set_option linter.unusedSimpArgs false
set_option linter.unusedVariables false
set_option maxRecDepth 8000
namespace Go.AL
def ZF (t:Tk):SV :=.agg [.sc (.int .i64 t.kind),.sc (.string (ba t.text)),.sc (.int .i64 t.num),.sc (.int .i64 t.pos)]
mutual
def zJ:Nd→SV
 | .mk k t n a ns ks =>.agg [.sc (.int .i64 k),.sc (.string (ba t)),.sc (.int .i64 n),.sc (.int .i64 a),.slice .imm 1 (ns.map fun x =>.sc (.string (ba x))),.slice .imm 6 (Bj ks)]
def Bj:List Nd→List SV
 | []=>[]
 | n::r=>zJ n::Bj r
end
theorem wl (l:List Nd):Bj l=l.map zJ:=by
 induction l with
 | nil=>rfl
 | cons n r ih=>simp[Bj,ih]
def qD (x:Tx):SV :=.sc (.string (ba x))
def zD (n:Nd):List SV:=[.sc (.int .i64 n.kind),.sc (.string (ba n.text)),.sc (.int .i64 n.num),.sc (.int .i64 n.pos),.slice .imm 1 (n.names.map qD),.slice .imm 6 (n.kids.map zJ)]
theorem Zz (n:Nd):zJ n = .agg [.sc (.int .i64 n.kind),.sc (.string (ba n.text)),.sc (.int .i64 n.num),.sc (.int .i64 n.pos),.slice .imm 1 (n.names.map qD),.slice .imm 6 (n.kids.map zJ)]:=by
 cases n;simp[zJ,wl,Nd.kind,Nd.text,Nd.num,Nd.pos,Nd.names,Nd.kids,qD,Function.comp_def]
theorem zd (n:Nd):(zJ n).cells=[.sc (.int .i64 n.kind),.sc (.string (ba n.text)),.sc (.int .i64 n.num),.sc (.int .i64 n.pos),.slice .imm 1 (n.names.map qD),.slice .imm 6 (n.kids.map zJ)]:=by rw[Zz];rfl
theorem Qy (t:Tk):(ZF t).cells=[.sc (.int .i64 t.kind),.sc (.string (ba t.text)),.sc (.int .i64 t.num),.sc (.int .i64 t.pos)]:=rfl
def Z9 (T:List Tk) (p:PS):List SV:=[.slice .imm 4 (T.map ZF),.sc (.int .i64 p.pos),.sc (.int .i64 p.deep),.sc (.bool p.flat),.sc (.int .i64 p.bad),.sc (.int .i64 p.e)]
def Wz (T:List Tk) (pid:Nat) (p:PS) (st:St):Prop:=st[pid]?=some (.cells (Z9 T p))
theorem UF (n:Nd):norm (zJ n)=zJ n:=by rw[Zz];rfl
theorem W1 (n:Nd):norm1 (zJ n)=zJ n:=by rw[Zz];rfl
theorem gI (n:Nd):qP (zJ n)=true:=by rw[Zz];rfl
theorem vM (n:Nd):ZV (zJ n)=true:=by rw[Zz];rfl
theorem pz (n:Nd):ZE (zJ n)=zJ n:=by rw[Zz];rfl
theorem eA (n:Nd) (p:Prop):HO p (zJ n)=True:=by rw[Zz];rfl
theorem wI (n:Nd):(zJ n).cells.length=6:=by rw[zd];rfl
theorem oE (n:Nd):(zJ n).cells.all QC=true:=vM n
theorem wK {P:Program} {t:TypeId} (n:Nd) (h1:Jh P t=some true) (h2:qd P t=some 6):Zc P t (zJ n).cells=some (zJ n):=by
 rw[zd,Zz]
 simp[Zc,h1,h2]
theorem J7 (n:Nat) (t:Tk):Ids n (ZF t)=True:=eq_true (by
 unfold ZF;simp only[Z6,List.forall_mem_cons,YH,true_and];exact fun x hx=>by cases hx)
theorem ZX (n:Nat) (m:AL.Mode) (hm:m = .imm∨m = .full) (z:Nat) (l:List Tx):Ids n (.slice m z (l.map qD)) :=
 ql hm fun x hx y hy=>by
  obtain⟨t,_,rfl⟩:=List.mem_map.1 hx
  simp only[qD,SV.cells,List.mem_singleton] at hy
  subst hy;exact .sc _
mutual
theorem Vp (n:Nat):∀ x:Nd,Ids n (zJ x)
 | .mk k t m a ns ks=>by
  simp only[zJ,Z6,List.forall_mem_cons,YH,true_and]
  exact⟨ZX n _ (.inl rfl) 1 ns,ql (.inl rfl) (FN n ks),fun x hx=>by cases hx⟩
theorem FN (n:Nat):∀ l:List Nd,∀ x∈Bj l,∀ y∈x.cells,Ids n y
 | []=>fun x hx=>by cases hx
 | a::r=>fun x hx y hy=>by
  simp only[Bj,List.mem_cons] at hx
  rcases hx with rfl | hx
  ·have:=Vp n a
   rw[Zz,Z6] at this
   rw[zd] at hy
   exact this y hy
  ·exact FN n r x hx y hy
end
theorem qb (n:Nat) (m:AL.Mode) (hm:m = .imm∨m = .full) (z:Nat) (l:List Nd):Ids n (.slice m z (l.map zJ)):=by
 have:=FN n l
 rw[wl] at this
 exact ql hm this
theorem Zm (l:Tx):ByteArray.toList (ba l)=l:=by rw[ByteArray.toList_eq]
theorem YF (a:Array UInt8):ByteArray.toList ⟨a⟩=a.toList:=by rw[ByteArray.toList_eq]
theorem Uq (n:Nat) (T:List Tk) (p:PS):ObIds n (.cells (Z9 T p)):=by
 have:∀ x∈Z9 T p,Ids n x:=by
  unfold Z9
  simp only[List.forall_mem_cons,YH,true_and]
  refine⟨ql (.inl rfl) fun x hx y hy=>?_,fun x hx=>by cases hx⟩
  obtain⟨t,_,rfl⟩:=List.mem_map.1 hx
  rw[Qy] at hy
  simp only[List.mem_cons,List.not_mem_nil,or_false] at hy
  rcases hy with rfl | rfl | rfl | rfl <;> exact .sc _
 exact fun j hj=>this _ (by
  rw[List.getD_eq_getElem?_getD,List.getElem?_eq_getElem hj]
  exact List.getElem_mem hj)
theorem kL {T:List Tk} {pid:Nat} {p:PS} {st:St} (hp:Wz T pid p st):st.set pid (.cells (Z9 T p))=st:=by
 obtain⟨h1,h2⟩:=List.getElem?_eq_some_iff.1 hp
 rw[←h2,List.set_getElem_self]
theorem QN {T:List Tk} {pid:Nat} {p p':PS} {st:St} (hp:Wz T pid p st):Wz T pid p' (st.set pid (.cells (Z9 T p'))):=qA (zp hp)
theorem zm {T:List Tk} {pid:Nat} {p p':PS} {st ex:St} (hp:Wz T pid p st):Wz T pid p' (st.set pid (.cells (Z9 T p'))++ex):=Vm (QN hp) ex
theorem zI {T:List Tk} {pid:Nat} {p:PS} {st ex:St} (hp:Wz T pid p st):Wz T pid p (st++ex):=Vm hp ex
theorem Xb (n:Nat):Ids n (XQ [])=True:=eq_true (.tuple _ (by intro i hi;cases hi))
theorem zC (v:Value) (n:Nat):Ids n (.sc v)=True:=eq_true (.sc _)
theorem hO {st:St} {K:SV→St→Prop} {x y:SV} {ex:St} (hi:∀ n,Ids n y=True) (hk:K y st) (hx:norm x=y):Yv st K x (st++ex):=by
 subst hx;exact⟨st,ex,rfl,Mod.refl _,by rw[hi];trivial,hk⟩
theorem mG {T:List Tk} {pid:Nat} {p:PS} {st:St} {K:SV→St→Prop} {x y:SV} {ex:St} (hp:Wz T pid p st) (hi:∀ n,Ids n y=True) (hk:K y (st.set pid (.cells (Z9 T p)))) (hx:norm x=y):Yv st K x (st++ex) :=
 hO hi (by rw[kL hp] at hk;exact hk) hx
theorem kD {T:List Tk} {pid:Nat} {p:PS} {st:St} {K:SV→St→Prop} {x y:SV} (hp:Wz T pid p st) (hi:∀ n,Ids n y=True) (hk:K y (st.set pid (.cells (Z9 T p)))) (hx:norm x=y):Yv st K x st:=by
 have:=mG (ex:=[]) hp hi hk hx
 rwa[List.append_nil] at this
theorem Gt {T:List Tk} {pid:Nat} {p':PS} {st:St} {K:SV→St→Prop} {x y:SV} {ex:St} (hi:∀ n,Ids n y=True) (hk:K y (st.set pid (.cells (Z9 T p')))) (hx:norm x=y):Yv st K x (st.set pid (.cells (Z9 T p'))++ex):=by
 subst hx;exact⟨_,ex,rfl,(Mod.refl _).set _ _ (Uq _ _ _),by rw[hi];trivial,hk⟩
theorem DA {T:List Tk} {pid:Nat} {p':PS} {st:St} {K:SV→St→Prop} {x y:SV} (hi:∀ n,Ids n y=True) (hk:K y (st.set pid (.cells (Z9 T p')))) (hx:norm x=y):Yv st K x (st.set pid (.cells (Z9 T p'))):=by
 subst hx;exact⟨_,[],(List.append_nil _).symm,(Mod.refl _).set _ _ (Uq _ _ _),by rw[hi];trivial,hk⟩
theorem zQ {st:St} {K:SV→St→Prop} {x:SV} {ex:St} (hi:Ids st.length (norm x)=True) (hk:K (norm x) st):GM st K x (st++ex):=⟨⟨ex,rfl⟩,by rw[hi];trivial,hk⟩
attribute [go_sem] ZF Zm YF UF W1 gI vM pz eA wI oE wK
end Go.AL
namespace Go.AL
def Q1 (k:Int) (t:Tx) (m a:Int) (x:SV):SV :=.agg [.sc (.int .i64 k),.sc (.string (ba t)),.sc (.int .i64 m),.sc (.int .i64 a),.slice .full 0 [],x]
theorem ph {m:AL.Mode} {z:Nat} {l:List Nd} (hz:z=6∨l=[]):SVle (norm1 (.slice m z (l.map zJ))) (.slice .imm 6 (l.map zJ)):=by
 rcases hz with rfl | rfl
 ·exact SVle.refl _
 ·exact SVle.nil .imm _ _ (.inr rfl)
theorem hZ {m:AL.Mode} {z:Nat} {l:List Tx} (hz:z=1∨l=[]):SVle (norm1 (.slice m z (l.map qD))) (.slice .imm 1 (l.map qD)):=by
 rcases hz with rfl | rfl
 ·exact SVle.refl _
 ·exact SVle.nil .imm _ _ (.inr rfl)
def Wo (m1 m2:AL.Mode) (z1 z2:Nat) (n:Nd):SV :=.agg [.sc (.int .i64 n.kind),.sc (.string (ba n.text)),.sc (.int .i64 n.num),.sc (.int .i64 n.pos),.slice m1 z1 (n.names.map qD),.slice m2 z2 (n.kids.map zJ)]
theorem Hi {m1 m2:AL.Mode} {z1 z2:Nat} {n:Nd} (h1:z1=1∨n.names=[]) (h2:z2=6∨n.kids=[]):SVle (norm (Wo m1 m2 z1 z2 n)) (zJ n):=by
 rw[Zz]
 exact SVle.agg (.cons (SVle.refl _) (.cons (SVle.refl _) (.cons (SVle.refl _) (.cons (SVle.refl _) (.cons (hZ h1) (.cons (ph h2) .nil))))))
theorem uW {m1 m2:AL.Mode} {z1 z2:Nat} {nd:Nd} (n:Nat):Ids n (norm (Wo m1 m2 z1 z2 nd)):=by
 show Ids n (.agg _)
 rw[Z6]
 simp only[norm1,List.map_cons,List.map_nil,List.forall_mem_cons,YH,true_and]
 exact⟨ZX n _ (.inl rfl) z1 _,qb n _ (.inl rfl) z2 _,fun x hx=>by cases hx⟩
def wa (K:SV→St→Prop):SV→St→Prop:=fun x s=>∃ y,SVle x y∧K y s
theorem zM {P:Program} {f:FuncId} {args:List SV} {K:SV→St→Prop} {st:St} (h:ACalls P f args (wa K) st):ACalls P f args K st:=uZ h
theorem Ym {T:List Tk} {pid:Nat} {p':PS} {nd:Nd} {st:St} {K:SV→St→Prop} {m1 m2:AL.Mode} {z1 z2:Nat} (hk:K (zJ nd) (st.set pid (.cells (Z9 T p')))) (h1:z1=1∨nd.names=[]) (h2:z2=6∨nd.kids=[]) {ex:St} :
  Yv st (wa K) (Wo m1 m2 z1 z2 nd) (st.set pid (.cells (Z9 T p'))++ex) :=
 ⟨_,ex,rfl,(Mod.refl _).set _ _ (Uq _ _ _),uW _,_,Hi h1 h2,hk⟩
theorem nE {T:List Tk} {pid:Nat} {p':PS} {nd:Nd} {st:St} {K:SV→St→Prop} {m1 m2:AL.Mode} {z1 z2:Nat} (hp:Wz T pid p' st) (hk:K (zJ nd) (st.set pid (.cells (Z9 T p')))) (h1:z1=1∨nd.names=[]) (h2:z2=6∨nd.kids=[]) {ex:St} :
  Yv st (wa K) (Wo m1 m2 z1 z2 nd) (st++ex):=by
 have:=Ym (m1:=m1) (m2:=m2) (z1:=z1) (z2:=z2) hk h1 h2 (ex:=ex)
 rwa[kL hp] at this
theorem Zw {T:List Tk} {pid:Nat} {p':PS} {nd:Nd} {st:St} {K:SV→St→Prop} (hk:K (zJ nd) (st.set pid (.cells (Z9 T p')))) {ex:St} :
  Yv st (wa K) (zJ nd) (st.set pid (.cells (Z9 T p'))++ex) :=
 ⟨_,ex,rfl,(Mod.refl _).set _ _ (Uq _ _ _),by rw[UF];exact Vp _ _,_,by rw[UF];exact SVle.refl _,hk⟩
end Go.AL
namespace Go.AL
theorem qV (n c:Nd):(n.addKid c).kind=n.kind:=by cases n;rfl
theorem qU (n c:Nd):(n.addKid c).text=n.text:=by cases n;rfl
theorem Zq (n c:Nd):(n.addKid c).num=n.num:=by cases n;rfl
theorem Zp (n c:Nd):(n.addKid c).pos=n.pos:=by cases n;rfl
theorem qs (n c:Nd):(n.addKid c).names=n.names:=by cases n;rfl
theorem qc (n c:Nd):(n.addKid c).kids=n.kids++[c]:=by cases n;rfl
def qw (qI ver:Nat) (n:Nd):List SV:=[.sc (.int .i64 n.kind),.sc (.string (ba n.text)),.sc (.int .i64 n.num),.sc (.int .i64 n.pos),.slice .full 0 [],.slice (.own qI ver) 6 (n.kids.map zJ)]
def qK:List SV:=[.sc (.int .i64 0),.sc (.string ⟨#[]⟩),.sc (.int .i64 0),.sc (.int .i64 0),.slice .full 0 [],.slice .full 0 []]
theorem Fh (qI ver:Nat) (n c:Nd):qw qI ver (n.addKid c)=[.sc (.int .i64 n.kind),.sc (.string (ba n.text)),.sc (.int .i64 n.num),.sc (.int .i64 n.pos),.slice .full 0 [],.slice (.own qI ver) 6 (n.kids.map zJ++[zJ c])]:=by
 unfold qw;rw[qV,qU,Zq,Zp,qc];simp
theorem Vj {T:List Tk} {pid qI ver:Nat} {p':PS} {nd:Nd} {st:St} {K:SV→St→Prop} (hk:K (zJ nd) (st.set pid (.cells (Z9 T p')))) (hnm:nd.names=[]) {ex:St} :
  Yv st (wa K) (.agg (qw qI ver nd)) (st.set pid (.cells (Z9 T p'))++ex):=by
 have:=Ym (m1 :=.full) (m2 :=.own qI ver) (z1:=0) (z2:=6) hk (.inr hnm) (.inl rfl) (ex:=ex)
 unfold Wo at this
 rw[hnm] at this
 exact this
theorem Zg {st ex:St} {pid:Nat} {X:Ob} (k:Nat):(st.set pid X++ex)[st.length+k]?=ex[k]?:=by
 rw[List.getElem?_append_right (by simp)];simp
theorem QA {st ex:St} {pid:Nat} {X Y:Ob} (k:Nat):(st.set pid X++ex).set (st.length+k) Y=st.set pid X++ex.set k Y:=by
 rw[List.set_append_right _ _ (by simp)];simp
theorem Xn {st:St} {pid:Nat} {X:Ob}:(st.set pid X).length=st.length:=by simp
end Go.AL
namespace Go.AL
theorem nJ (n:Nd) (c:Tx):(n.addName c).kind=n.kind:=by cases n;rfl
theorem nK (n:Nd) (c:Tx):(n.addName c).text=n.text:=by cases n;rfl
theorem fT (n:Nd) (c:Tx):(n.addName c).num=n.num:=by cases n;rfl
theorem fD (n:Nd) (c:Tx):(n.addName c).pos=n.pos:=by cases n;rfl
theorem wd (n:Nd) (c:Tx):(n.addName c).names=n.names++[c]:=by cases n;rfl
theorem uo (n:Nd) (c:Tx):(n.addName c).kids=n.kids:=by cases n;rfl
def KH (nid nver qI kver:Nat) (n:Nd):List SV:=[.sc (.int .i64 n.kind),.sc (.string (ba n.text)),.sc (.int .i64 n.num),.sc (.int .i64 n.pos),.slice (.own nid nver) 1 (n.names.map qD),.slice (.own qI kver) 6 (n.kids.map zJ)]
theorem LR {T:List Tk} {pid nid nver qI kver:Nat} {p':PS} {nd:Nd} {st:St} {K:SV→St→Prop} (hk:K (zJ nd) (st.set pid (.cells (Z9 T p')))) {ex:St} :
  Yv st (wa K) (.agg (KH nid nver qI kver nd)) (st.set pid (.cells (Z9 T p'))++ex) :=
 Ym (m1 :=.own nid nver) (m2 :=.own qI kver) (z1:=1) (z2:=6) hk (.inl rfl) (.inl rfl) (ex:=ex)
def yv (r:Nd):SV:=Wo .full .full 0 0 r
end Go.AL
