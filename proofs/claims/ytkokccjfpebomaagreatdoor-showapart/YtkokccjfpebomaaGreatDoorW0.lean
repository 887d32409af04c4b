/- What stands for tokens, nodes and the parser's state in memory. -/
import Derived.Test.YtkokccjfpebomaaGreatDoorM5
import Derived.Test.YtkokccjfpebomaaGreatDoorFacts
set_option linter.unusedSimpArgs false
set_option linter.unusedVariables false
set_option maxRecDepth 8000
namespace Go.AL
def ZB (t:Tk):SV :=.agg [.sc (.int .i64 t.kind),.sc (.string (ba t.text)),.sc (.int .i64 t.num),.sc (.int .i64 t.pos)]
mutual
def zH:Nd→SV
 | .mk k t n a ns ks =>.agg [.sc (.int .i64 k),.sc (.string (ba t)),.sc (.int .i64 n),.sc (.int .i64 a),.slice .imm 1 (ns.map fun x =>.sc (.string (ba x))),.slice .imm 6 (zf2 ks)]
def zf2:List Nd→List SV
 | []=>[]
 | n::r=>zH n::zf2 r
end
theorem zjh (l:List Nd):zf2 l=l.map zH:=by
 induction l with
 | nil=>rfl
 | cons n r ih=>simp[zf2,ih]
def qv (x:Tx):SV :=.sc (.string (ba x))
def zy (n:Nd):List SV:=[.sc (.int .i64 n.kind),.sc (.string (ba n.text)),.sc (.int .i64 n.num),.sc (.int .i64 n.pos),.slice .imm 1 (n.names.map qv),.slice .imm 6 (n.kids.map zH)]
theorem Ze (n:Nd):zH n = .agg [.sc (.int .i64 n.kind),.sc (.string (ba n.text)),.sc (.int .i64 n.num),.sc (.int .i64 n.pos),.slice .imm 1 (n.names.map qv),.slice .imm 6 (n.kids.map zH)]:=by
 cases n;simp[zH,zjh,Nd.kind,Nd.text,Nd.num,Nd.pos,Nd.names,Nd.kids,qv,Function.comp_def]
theorem zc (n:Nd):(zH n).cells=[.sc (.int .i64 n.kind),.sc (.string (ba n.text)),.sc (.int .i64 n.num),.sc (.int .i64 n.pos),.slice .imm 1 (n.names.map qv),.slice .imm 6 (n.kids.map zH)]:=by rw[Ze];rfl
theorem Ql (t:Tk):(ZB t).cells=[.sc (.int .i64 t.kind),.sc (.string (ba t.text)),.sc (.int .i64 t.num),.sc (.int .i64 t.pos)]:=rfl
def ZX (T:List Tk) (p:PS):List SV:=[.slice .imm 4 (T.map ZB),.sc (.int .i64 p.pos),.sc (.int .i64 p.deep),.sc (.bool p.flat),.sc (.int .i64 p.bad),.sc (.int .i64 p.e)]
def V8 (T:List Tk) (pid:Nat) (p:PS) (st:St):Prop:=st[pid]?=some (.cells (ZX T p))
theorem zca (n:Nd):norm (zH n)=zH n:=by rw[Ze];rfl
theorem zak (n:Nd):norm1 (zH n)=zH n:=by rw[Ze];rfl
theorem zqE (n:Nd):qJ (zH n)=true:=by rw[Ze];rfl
theorem zlD (n:Nd):ZJ (zH n)=true:=by rw[Ze];rfl
theorem zqu (n:Nd):Zu (zH n)=zH n:=by rw[Ze];rfl
theorem zuK (n:Nd) (p:Prop):gIf p (zH n)=True:=by rw[Ze];rfl
theorem zk0 (n:Nd):(zH n).cells.length=6:=by rw[zc];rfl
theorem zve (n:Nd):(zH n).cells.all Qp=true:=zlD n
theorem zkY {P:Program} {t:TypeId} (n:Nd) (h1:YV P t=some true) (h2:qa P t=some 6):qW P t (zH n).cells=some (zH n):=by
 rw[zc,Ze]
 simp[qW,h1,h2]
theorem Ju (n:Nat) (t:Tk):Ids n (ZB t)=True:=eq_true (by
 unfold ZB;simp only[ZW,List.forall_mem_cons,Yj,true_and];exact fun x hx=>by cases hx)
theorem ZL (n:Nat) (m:AL.Mode) (hm:m = .imm∨m = .full) (z:Nat) (l:List Tx):Ids n (.slice m z (l.map qv)) :=
 qf hm fun x hx y hy=>by
  obtain⟨t,_,rfl⟩:=List.mem_map.1 hx
  simp only[qv,SV.cells,List.mem_singleton] at hy
  subst hy;exact .sc _
mutual
theorem JZ (n:Nat):∀ x:Nd,Ids n (zH x)
 | .mk k t m a ns ks=>by
  simp only[zH,ZW,List.forall_mem_cons,Yj,true_and]
  exact⟨ZL n _ (.inl rfl) 1 ns,qf (.inl rfl) (zhn n ks),fun x hx=>by cases hx⟩
theorem zhn (n:Nat):∀ l:List Nd,∀ x∈zf2 l,∀ y∈x.cells,Ids n y
 | []=>fun x hx=>by cases hx
 | a::r=>fun x hx y hy=>by
  simp only[zf2,List.mem_cons] at hx
  rcases hx with rfl | hx
  ·have:=JZ n a
   rw[Ze,ZW] at this
   rw[zc] at hy
   exact this y hy
  ·exact zhn n r x hx y hy
end
theorem zY (n:Nat) (m:AL.Mode) (hm:m = .imm∨m = .full) (z:Nat) (l:List Nd):Ids n (.slice m z (l.map zH)):=by
 have:=zhn n l
 rw[zjh] at this
 exact qf hm this
theorem Xk (l:Tx):ByteArray.toList (ba l)=l:=by rw[ByteArray.toList_eq]
theorem Yi (a:Array UInt8):ByteArray.toList ⟨a⟩=a.toList:=by rw[ByteArray.toList_eq]
theorem zcl (n:Nat) (T:List Tk) (p:PS):ObIds n (.cells (ZX T p)):=by
 have:∀ x∈ZX T p,Ids n x:=by
  unfold ZX
  simp only[List.forall_mem_cons,Yj,true_and]
  refine⟨qf (.inl rfl) fun x hx y hy=>?_,fun x hx=>by cases hx⟩
  obtain⟨t,_,rfl⟩:=List.mem_map.1 hx
  rw[Ql] at hy
  simp only[List.mem_cons,List.not_mem_nil,or_false] at hy
  rcases hy with rfl | rfl | rfl | rfl <;> exact .sc _
 exact fun j hj=>this _ (by
  rw[List.getD_eq_getElem?_getD,List.getElem?_eq_getElem hj]
  exact List.getElem_mem hj)
theorem zkK {T:List Tk} {pid:Nat} {p:PS} {st:St} (hp:V8 T pid p st):st.set pid (.cells (ZX T p))=st:=by
 obtain⟨h1,h2⟩:=List.getElem?_eq_some_iff.1 hp
 rw[←h2,List.set_getElem_self]
theorem Qy {T:List Tk} {pid:Nat} {p p':PS} {st:St} (hp:V8 T pid p st):V8 T pid p' (st.set pid (.cells (ZX T p'))):=qu (zn hp)
theorem zl {T:List Tk} {pid:Nat} {p p':PS} {st ex:St} (hp:V8 T pid p st):V8 T pid p' (st.set pid (.cells (ZX T p'))++ex):=JS (Qy hp) ex
theorem zG {T:List Tk} {pid:Nat} {p:PS} {st ex:St} (hp:V8 T pid p st):V8 T pid p (st++ex):=JS hp ex
theorem QZ (n:Nat):Ids n (Xx [])=True:=eq_true (.tuple _ (by intro i hi;cases hi))
theorem zB (v:Value) (n:Nat):Ids n (.sc v)=True:=eq_true (.sc _)
theorem zol {st:St} {K:SV→St→Prop} {x y:SV} {ex:St} (hi:∀ n,Ids n y=True) (hk:K y st) (hx:norm x=y):Yd st K x (st++ex):=by
 subst hx;exact⟨st,ex,rfl,Mod.refl _,by rw[hi];trivial,hk⟩
theorem zpR {T:List Tk} {pid:Nat} {p:PS} {st:St} {K:SV→St→Prop} {x y:SV} {ex:St} (hp:V8 T pid p st) (hi:∀ n,Ids n y=True) (hk:K y (st.set pid (.cells (ZX T p)))) (hx:norm x=y):Yd st K x (st++ex) :=
 zol hi (by rw[zkK hp] at hk;exact hk) hx
theorem zkq {T:List Tk} {pid:Nat} {p:PS} {st:St} {K:SV→St→Prop} {x y:SV} (hp:V8 T pid p st) (hi:∀ n,Ids n y=True) (hk:K y (st.set pid (.cells (ZX T p)))) (hx:norm x=y):Yd st K x st:=by
 have:=zpR (ex:=[]) hp hi hk hx
 rwa[List.append_nil] at this
theorem zeW {T:List Tk} {pid:Nat} {p':PS} {st:St} {K:SV→St→Prop} {x y:SV} {ex:St} (hi:∀ n,Ids n y=True) (hk:K y (st.set pid (.cells (ZX T p')))) (hx:norm x=y):Yd st K x (st.set pid (.cells (ZX T p'))++ex):=by
 subst hx;exact⟨_,ex,rfl,(Mod.refl _).set _ _ (zcl _ _ _),by rw[hi];trivial,hk⟩
theorem zfn {T:List Tk} {pid:Nat} {p':PS} {st:St} {K:SV→St→Prop} {x y:SV} (hi:∀ n,Ids n y=True) (hk:K y (st.set pid (.cells (ZX T p')))) (hx:norm x=y):Yd st K x (st.set pid (.cells (ZX T p'))):=by
 subst hx;exact⟨_,[],(List.append_nil _).symm,(Mod.refl _).set _ _ (zcl _ _ _),by rw[hi];trivial,hk⟩
theorem zP {st:St} {K:SV→St→Prop} {x:SV} {ex:St} (hi:Ids st.length (norm x)=True) (hk:K (norm x) st):zfK st K x (st++ex):=⟨⟨ex,rfl⟩,by rw[hi];trivial,hk⟩
attribute [go_sem] ZB Xk Yi zca zak zqE zlD zqu zuK zk0 zve zkY
end Go.AL
namespace Go.AL
def QM (k:Int) (t:Tx) (m a:Int) (x:SV):SV :=.agg [.sc (.int .i64 k),.sc (.string (ba t)),.sc (.int .i64 m),.sc (.int .i64 a),.slice .full 0 [],x]
theorem zo1 {m:AL.Mode} {z:Nat} {l:List Nd} (hz:z=6∨l=[]):SVle (norm1 (.slice m z (l.map zH))) (.slice .imm 6 (l.map zH)):=by
 rcases hz with rfl | rfl
 ·exact SVle.refl _
 ·exact SVle.nil .imm _ _ (.inr rfl)
theorem zoY {m:AL.Mode} {z:Nat} {l:List Tx} (hz:z=1∨l=[]):SVle (norm1 (.slice m z (l.map qv))) (.slice .imm 1 (l.map qv)):=by
 rcases hz with rfl | rfl
 ·exact SVle.refl _
 ·exact SVle.nil .imm _ _ (.inr rfl)
def V5 (m1 m2:AL.Mode) (z1 z2:Nat) (n:Nd):SV :=.agg [.sc (.int .i64 n.kind),.sc (.string (ba n.text)),.sc (.int .i64 n.num),.sc (.int .i64 n.pos),.slice m1 z1 (n.names.map qv),.slice m2 z2 (n.kids.map zH)]
theorem zcY {m1 m2:AL.Mode} {z1 z2:Nat} {n:Nd} (h1:z1=1∨n.names=[]) (h2:z2=6∨n.kids=[]):SVle (norm (V5 m1 m2 z1 z2 n)) (zH n):=by
 rw[Ze]
 exact SVle.agg (.cons (SVle.refl _) (.cons (SVle.refl _) (.cons (SVle.refl _) (.cons (SVle.refl _) (.cons (zoY h1) (.cons (zo1 h2) .nil))))))
theorem zmh {m1 m2:AL.Mode} {z1 z2:Nat} {nd:Nd} (n:Nat):Ids n (norm (V5 m1 m2 z1 z2 nd)):=by
 show Ids n (.agg _)
 rw[ZW]
 simp only[norm1,List.map_cons,List.map_nil,List.forall_mem_cons,Yj,true_and]
 exact⟨ZL n _ (.inl rfl) z1 _,zY n _ (.inl rfl) z2 _,fun x hx=>by cases hx⟩
def LeK (K:SV→St→Prop):SV→St→Prop:=fun x s=>∃ y,SVle x y∧K y s
theorem zK {P:Program} {f:FuncId} {args:List SV} {K:SV→St→Prop} {st:St} (h:ACalls P f args (LeK K) st):ACalls P f args K st:=znh h
theorem XT {T:List Tk} {pid:Nat} {p':PS} {nd:Nd} {st:St} {K:SV→St→Prop} {m1 m2:AL.Mode} {z1 z2:Nat} (hk:K (zH nd) (st.set pid (.cells (ZX T p')))) (h1:z1=1∨nd.names=[]) (h2:z2=6∨nd.kids=[]) {ex:St} :
  Yd st (LeK K) (V5 m1 m2 z1 z2 nd) (st.set pid (.cells (ZX T p'))++ex) :=
 ⟨_,ex,rfl,(Mod.refl _).set _ _ (zcl _ _ _),zmh _,_,zcY h1 h2,hk⟩
theorem zr7 {T:List Tk} {pid:Nat} {p':PS} {nd:Nd} {st:St} {K:SV→St→Prop} {m1 m2:AL.Mode} {z1 z2:Nat} (hp:V8 T pid p' st) (hk:K (zH nd) (st.set pid (.cells (ZX T p')))) (h1:z1=1∨nd.names=[]) (h2:z2=6∨nd.kids=[]) {ex:St} :
  Yd st (LeK K) (V5 m1 m2 z1 z2 nd) (st++ex):=by
 have:=XT (m1:=m1) (m2:=m2) (z1:=z1) (z2:=z2) hk h1 h2 (ex:=ex)
 rwa[zkK hp] at this
theorem Zk {T:List Tk} {pid:Nat} {p':PS} {nd:Nd} {st:St} {K:SV→St→Prop} (hk:K (zH nd) (st.set pid (.cells (ZX T p')))) {ex:St} :
  Yd st (LeK K) (zH nd) (st.set pid (.cells (ZX T p'))++ex) :=
 ⟨_,ex,rfl,(Mod.refl _).set _ _ (zcl _ _ _),by rw[zca];exact JZ _ _,_,by rw[zca];exact SVle.refl _,hk⟩
end Go.AL
namespace Go.AL
theorem qM (n c:Nd):(n.addKid c).kind=n.kind:=by cases n;rfl
theorem qO (n c:Nd):(n.addKid c).text=n.text:=by cases n;rfl
theorem Zf (n c:Nd):(n.addKid c).num=n.num:=by cases n;rfl
theorem Zg (n c:Nd):(n.addKid c).pos=n.pos:=by cases n;rfl
theorem qm (n c:Nd):(n.addKid c).names=n.names:=by cases n;rfl
theorem z8 (n c:Nd):(n.addKid c).kids=n.kids++[c]:=by cases n;rfl
def qq (qC ver:Nat) (n:Nd):List SV:=[.sc (.int .i64 n.kind),.sc (.string (ba n.text)),.sc (.int .i64 n.num),.sc (.int .i64 n.pos),.slice .full 0 [],.slice (.own qC ver) 6 (n.kids.map zH)]
def qD:List SV:=[.sc (.int .i64 0),.sc (.string ⟨#[]⟩),.sc (.int .i64 0),.sc (.int .i64 0),.slice .full 0 [],.slice .full 0 []]
theorem zh4 (qC ver:Nat) (n c:Nd):qq qC ver (n.addKid c)=[.sc (.int .i64 n.kind),.sc (.string (ba n.text)),.sc (.int .i64 n.num),.sc (.int .i64 n.pos),.slice .full 0 [],.slice (.own qC ver) 6 (n.kids.map zH++[zH c])]:=by
 unfold qq;rw[qM,qO,Zf,Zg,z8];simp
theorem JT {T:List Tk} {pid qC ver:Nat} {p':PS} {nd:Nd} {st:St} {K:SV→St→Prop} (hk:K (zH nd) (st.set pid (.cells (ZX T p')))) (hnm:nd.names=[]) {ex:St} :
  Yd st (LeK K) (.agg (qq qC ver nd)) (st.set pid (.cells (ZX T p'))++ex):=by
 have:=XT (m1 :=.full) (m2 :=.own qC ver) (z1:=0) (z2:=6) hk (.inr hnm) (.inl rfl) (ex:=ex)
 unfold V5 at this
 rw[hnm] at this
 exact this
theorem qY {st ex:St} {pid:Nat} {X:Ob} (k:Nat):(st.set pid X++ex)[st.length+k]?=ex[k]?:=by
 rw[List.getElem?_append_right (by simp)];simp
theorem Qi {st ex:St} {pid:Nat} {X Y:Ob} (k:Nat):(st.set pid X++ex).set (st.length+k) Y=st.set pid X++ex.set k Y:=by
 rw[List.set_append_right _ _ (by simp)];simp
theorem Q9 {st:St} {pid:Nat} {X:Ob}:(st.set pid X).length=st.length:=by simp
end Go.AL
namespace Go.AL
theorem zrV (n:Nd) (c:Tx):(n.addName c).kind=n.kind:=by cases n;rfl
theorem zsq (n:Nd) (c:Tx):(n.addName c).text=n.text:=by cases n;rfl
theorem zvO (n:Nd) (c:Tx):(n.addName c).num=n.num:=by cases n;rfl
theorem zuS (n:Nd) (c:Tx):(n.addName c).pos=n.pos:=by cases n;rfl
theorem zim (n:Nd) (c:Tx):(n.addName c).names=n.names++[c]:=by cases n;rfl
theorem zmo (n:Nd) (c:Tx):(n.addName c).kids=n.kids:=by cases n;rfl
def zbo (nid nver qC kver:Nat) (n:Nd):List SV:=[.sc (.int .i64 n.kind),.sc (.string (ba n.text)),.sc (.int .i64 n.num),.sc (.int .i64 n.pos),.slice (.own nid nver) 1 (n.names.map qv),.slice (.own qC kver) 6 (n.kids.map zH)]
theorem zj6 {T:List Tk} {pid nid nver qC kver:Nat} {p':PS} {nd:Nd} {st:St} {K:SV→St→Prop} (hk:K (zH nd) (st.set pid (.cells (ZX T p')))) {ex:St} :
  Yd st (LeK K) (.agg (zbo nid nver qC kver nd)) (st.set pid (.cells (ZX T p'))++ex) :=
 XT (m1 :=.own nid nver) (m2 :=.own qC kver) (z1:=1) (z2:=6) hk (.inl rfl) (.inl rfl) (ex:=ex)
def ndE (r:Nd):SV:=V5 .full .full 0 0 r
end Go.AL
