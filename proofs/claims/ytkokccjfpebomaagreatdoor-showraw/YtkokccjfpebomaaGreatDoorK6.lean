/- What stands for tokens, nodes and the parser's state in memory. -/
import Derived.Test.YtkokccjfpebomaaGreatDoorFacts
import Derived.Test.YtkokccjfpebomaaGreatDoorK5
set_option linter.all false
set_option maxRecDepth 8000
namespace Go.AL
def ZF(t:Tk):SV :=.agg [.sc (.int .i64 t.kind),.sc (.string (ba t.text)),.sc (.int .i64 t.num),.sc (.int .i64 t.pos)]
mutual
def zq:Nd→SV
 | .mk k t n a ns ks =>.agg [.sc (.int .i64 k),.sc (.string (ba t)),.sc (.int .i64 n),.sc (.int .i64 a),.slice .imm 1 (ns.map fun x =>.sc (.string (ba x))),.slice .imm 6 (Lw ks)]
def Lw:List Nd→List SV
 | []=>[]
 | n::r=>zq n::Lw r
end
theorem kB(l:List Nd):Lw l=l.map zq:=by
 induction l with
 | nil=>rfl
 | cons n r ih=>simp[Lw,ih]
def qc(x:Tx):SV :=.sc (.string (ba x))
def zn(n:Nd):List SV:=[.sc (.int .i64 n.kind),.sc (.string (ba n.text)),.sc (.int .i64 n.num),.sc (.int .i64 n.pos),.slice .imm 1 (n.names.map qc),.slice .imm 6 (n.kids.map zq)]
theorem qG(n:Nd):zq n = .agg [.sc (.int .i64 n.kind),.sc (.string (ba n.text)),.sc (.int .i64 n.num),.sc (.int .i64 n.pos),.slice .imm 1 (n.names.map qc),.slice .imm 6 (n.kids.map zq)]:=by
 cases n;simp[zq,kB,Nd.kind,Nd.text,Nd.num,Nd.pos,Nd.names,Nd.kids,qc,Function.comp_def]
theorem za(n:Nd):(zq n).cells=[.sc (.int .i64 n.kind),.sc (.string (ba n.text)),.sc (.int .i64 n.num),.sc (.int .i64 n.pos),.slice .imm 1 (n.names.map qc),.slice .imm 6 (n.kids.map zq)]:=by rw[qG];rfl
theorem Z3(t:Tk):(ZF t).cells=[.sc (.int .i64 t.kind),.sc (.string (ba t.text)),.sc (.int .i64 t.num),.sc (.int .i64 t.pos)]:=rfl
def Qn(T:List Tk)(p:PS):List SV:=[.slice .imm 4 (T.map ZF),.sc (.int .i64 p.pos),.sc (.int .i64 p.deep),.sc (.bool p.flat),.sc (.int .i64 p.bad),.sc (.int .i64 p.e)]
def KF(T:List Tk)(pid:Nat)(p:PS)(st:St):Prop:=st[pid]?=some (.cells (Qn T p))
theorem HE(n:Nd):norm (zq n)=zq n:=by rw[qG];rfl
theorem KQ(n:Nd):norm1 (zq n)=zq n:=by rw[qG];rfl
theorem tD(n:Nd):qP (zq n)=true:=by rw[qG];rfl
theorem xw(n:Nd):Z8 (zq n)=true:=by rw[qG];rfl
theorem n7(n:Nd):ZK (zq n)=zq n:=by rw[qG];rfl
theorem ic(n:Nd)(p:Prop):Dc p (zq n)=True:=by rw[qG];rfl
theorem uD(n:Nd):(zq n).cells.length=6:=by rw[za];rfl
theorem Cd(n:Nd):(zq n).cells.all QG=true:=xw n
theorem yf{P:Program}{t:TypeId}(n:Nd)(h1:JP P t=some true)(h2:zR P t=some 6):cellsOf P t (zq n).cells=some (zq n):=by
 rw[za,qG];simp[cellsOf,h1,h2]
theorem Vp(n:Nat)(t:Tk):Ids n (ZF t)=True:=eq_true (by
 unfold ZF;simp only[Qc,List.forall_mem_cons,Y8,true_and];exact fun x hx=>by cases hx)
theorem Z1(n:Nat)(m:AL.Mode)(hm:m = .imm∨m = .full)(z:Nat)(l:List Tx):Ids n (.slice m z (l.map qc)) :=
 zT hm fun x hx y hy=>by
  obtain⟨t,_,rfl⟩:=List.mem_map.1 hx;simp only[qc,SV.cells,List.mem_singleton] at hy;subst hy;exact .sc _
mutual
theorem JX(n:Nat):∀ x:Nd,Ids n (zq x)
 | .mk k t m a ns ks=>by
  simp only[zq,Qc,List.forall_mem_cons,Y8,true_and];exact⟨Z1 n _ (.inl rfl) 1 ns,zT (.inl rfl) (wa n ks),fun x hx=>by cases hx⟩
theorem wa(n:Nat):∀ l:List Nd,∀ x∈Lw l,∀ y∈x.cells,Ids n y
 | []=>fun x hx=>by cases hx
 | a::r=>fun x hx y hy=>by
  simp only[Lw,List.mem_cons] at hx;rcases hx with rfl | hx
  ·have:=JX n a;rw[qG,Qc] at this;rw[za] at hy;exact this y hy
  ·exact wa n r x hx y hy
end
theorem zM(n:Nat)(m:AL.Mode)(hm:m = .imm∨m = .full)(z:Nat)(l:List Nd):Ids n (.slice m z (l.map zq)):=by
 have:=wa n l;rw[kB] at this;exact zT hm this
theorem QH(l:Tx):ByteArray.toList (ba l)=l:=by rw[ByteArray.toList_eq]
theorem Y2(a:Array UInt8):ByteArray.toList ⟨a⟩=a.toList:=by rw[ByteArray.toList_eq]
theorem El(n:Nat)(T:List Tk)(p:PS):ObIds n (.cells (Qn T p)):=by
 have:∀ x∈Qn T p,Ids n x:=by
  unfold Qn;simp only[List.forall_mem_cons,Y8,true_and];refine⟨zT (.inl rfl) fun x hx y hy=>?_,fun x hx=>by cases hx⟩;obtain⟨t,_,rfl⟩:=List.mem_map.1 hx;rw[Z3] at hy;simp only[List.mem_cons,List.not_mem_nil,or_false] at hy;rcases hy with rfl | rfl | rfl | rfl <;> exact .sc _
 exact fun j hj=>this _ (by
  rw[xgE,List.getElem?_eq_getElem hj];exact List.getElem_mem hj)
theorem yU{T:List Tk}{pid:Nat}{p:PS}{st:St}(hp:KF T pid p st):st.set pid (.cells (Qn T p))=st:=by
 obtain⟨h1,h2⟩:=List.getElem?_eq_some_iff.1 hp;rw[←h2,List.set_getElem_self]
theorem QV{T:List Tk}{pid:Nat}{p p':PS}{st:St}(hp:KF T pid p st):KF T pid p' (st.set pid (.cells (Qn T p'))):=qm (zk hp)
theorem zh{T:List Tk}{pid:Nat}{p p':PS}{st ex:St}(hp:KF T pid p st):KF T pid p' (st.set pid (.cells (Qn T p'))++ex):=VP (QV hp) ex
theorem zu{T:List Tk}{pid:Nat}{p:PS}{st ex:St}(hp:KF T pid p st):KF T pid p (st++ex):=VP hp ex
theorem Xw(n:Nat):Ids n (Yi [])=True:=eq_true (.tuple _ (by intro i hi;cases hi))
theorem zi(v:Value)(n:Nat):Ids n (.sc v)=True:=eq_true (.sc _)
theorem tf{st:St}{K:SV→St→Prop}{x y:SV}{ex:St}(hi:∀ n,Ids n y=True)(hk:K y st)(hx:norm x=y):YW st K x (st++ex):=by
 subst hx;exact⟨st,ex,rfl,Mod.refl _,by rw[hi];trivial,hk⟩
theorem nV{T:List Tk}{pid:Nat}{p:PS}{st:St}{K:SV→St→Prop}{x y:SV}{ex:St}(hp:KF T pid p st)(hi:∀ n,Ids n y=True)(hk:K y (st.set pid (.cells (Qn T p))))(hx:norm x=y):YW st K x (st++ex) :=
 tf hi (by rw[yU hp] at hk;exact hk) hx
theorem yP{T:List Tk}{pid:Nat}{p:PS}{st:St}{K:SV→St→Prop}{x y:SV}(hp:KF T pid p st)(hi:∀ n,Ids n y=True)(hk:K y (st.set pid (.cells (Qn T p))))(hx:norm x=y):YW st K x st:=by
 have:=nV (ex:=[]) hp hi hk hx;rwa[xaN] at this
theorem Bb{T:List Tk}{pid:Nat}{p':PS}{st:St}{K:SV→St→Prop}{x y:SV}{ex:St}(hi:∀ n,Ids n y=True)(hk:K y (st.set pid (.cells (Qn T p'))))(hx:norm x=y):YW st K x (st.set pid (.cells (Qn T p'))++ex):=by
 subst hx;exact⟨_,ex,rfl,(Mod.refl _).set _ _ (El _ _ _),by rw[hi];trivial,hk⟩
theorem B6{T:List Tk}{pid:Nat}{p':PS}{st:St}{K:SV→St→Prop}{x y:SV}(hi:∀ n,Ids n y=True)(hk:K y (st.set pid (.cells (Qn T p'))))(hx:norm x=y):YW st K x (st.set pid (.cells (Qn T p'))):=by
 subst hx;exact⟨_,[],(xaN _).symm,(Mod.refl _).set _ _ (El _ _ _),by rw[hi];trivial,hk⟩
theorem zF{st:St}{K:SV→St→Prop}{x:SV}{ex:St}(hi:Ids st.length (norm x)=True)(hk:K (norm x) st):Fu st K x (st++ex):=⟨⟨ex,rfl⟩,by rw[hi];trivial,hk⟩
attribute [go_sem] ZF QH Y2 HE KQ tD xw n7 ic uD Cd yf
def Xk(k:Int)(t:Tx)(m a:Int)(x:SV):SV :=.agg [.sc (.int .i64 k),.sc (.string (ba t)),.sc (.int .i64 m),.sc (.int .i64 a),.slice .full 0 [],x]
theorem dk{m:AL.Mode}{z:Nat}{l:List Nd}(hz:z=6∨l=[]):SVle (norm1 (.slice m z (l.map zq))) (.slice .imm 6 (l.map zq)):=by
 rcases hz with rfl | rfl
 ·exact SVle.refl _
 ·exact SVle.nil .imm _ _ (.inr rfl)
theorem fF{m:AL.Mode}{z:Nat}{l:List Tx}(hz:z=1∨l=[]):SVle (norm1 (.slice m z (l.map qc))) (.slice .imm 1 (l.map qc)):=by
 rcases hz with rfl | rfl
 ·exact SVle.refl _
 ·exact SVle.nil .imm _ _ (.inr rfl)
def Kv(m1 m2:AL.Mode)(z1 z2:Nat)(n:Nd):SV :=.agg [.sc (.int .i64 n.kind),.sc (.string (ba n.text)),.sc (.int .i64 n.num),.sc (.int .i64 n.pos),.slice m1 z1 (n.names.map qc),.slice m2 z2 (n.kids.map zq)]
theorem US{m1 m2:AL.Mode}{z1 z2:Nat}{n:Nd}(h1:z1=1∨n.names=[])(h2:z2=6∨n.kids=[]):SVle (norm (Kv m1 m2 z1 z2 n)) (zq n):=by
 rw[qG];exact SVle.agg (.cons (SVle.refl _) (.cons (SVle.refl _) (.cons (SVle.refl _) (.cons (SVle.refl _) (.cons (fF h1) (.cons (dk h2) .nil))))))
theorem jg{m1 m2:AL.Mode}{z1 z2:Nat}{nd:Nd}(n:Nat):Ids n (norm (Kv m1 m2 z1 z2 nd)):=by
 show Ids n (.agg _);rw[Qc];simp only[norm1,List.map_cons,List.map_nil,List.forall_mem_cons,Y8,true_and];exact⟨Z1 n _ (.inl rfl) z1 _,zM n _ (.inl rfl) z2 _,fun x hx=>by cases hx⟩
def wl(K:SV→St→Prop):SV→St→Prop:=fun x s=>∃ y,SVle x y∧K y s
theorem zA{P:Program}{f:FuncId}{args:List SV}{K:SV→St→Prop}{st:St}(h:ACalls P f args (wl K) st):ACalls P f args K st:=mY h
theorem YO{T:List Tk}{pid:Nat}{p':PS}{nd:Nd}{st:St}{K:SV→St→Prop}{m1 m2:AL.Mode}{z1 z2:Nat}(hk:K (zq nd) (st.set pid (.cells (Qn T p'))))(h1:z1=1∨nd.names=[])(h2:z2=6∨nd.kids=[]){ex:St} :
  YW st (wl K) (Kv m1 m2 z1 z2 nd) (st.set pid (.cells (Qn T p'))++ex) :=
 ⟨_,ex,rfl,(Mod.refl _).set _ _ (El _ _ _),jg _,_,US h1 h2,hk⟩
theorem au{T:List Tk}{pid:Nat}{p':PS}{nd:Nd}{st:St}{K:SV→St→Prop}{m1 m2:AL.Mode}{z1 z2:Nat}(hp:KF T pid p' st)(hk:K (zq nd) (st.set pid (.cells (Qn T p'))))(h1:z1=1∨nd.names=[])(h2:z2=6∨nd.kids=[]){ex:St} :
  YW st (wl K) (Kv m1 m2 z1 z2 nd) (st++ex):=by
 have:=YO (m1:=m1) (m2:=m2) (z1:=z1) (z2:=z2) hk h1 h2 (ex:=ex);rwa[yU hp] at this
theorem Zw{T:List Tk}{pid:Nat}{p':PS}{nd:Nd}{st:St}{K:SV→St→Prop}(hk:K (zq nd) (st.set pid (.cells (Qn T p')))){ex:St} :
  YW st (wl K) (zq nd) (st.set pid (.cells (Qn T p'))++ex) :=
 ⟨_,ex,rfl,(Mod.refl _).set _ _ (El _ _ _),by rw[HE];exact JX _ _,_,by rw[HE];exact SVle.refl _,hk⟩
theorem qV(n c:Nd):(n.addKid c).kind=n.kind:=by cases n;rfl
theorem qT(n c:Nd):(n.addKid c).text=n.text:=by cases n;rfl
theorem Zv(n c:Nd):(n.addKid c).num=n.num:=by cases n;rfl
theorem Zu(n c:Nd):(n.addKid c).pos=n.pos:=by cases n;rfl
theorem qh(n c:Nd):(n.addKid c).names=n.names:=by cases n;rfl
theorem zQ(n c:Nd):(n.addKid c).kids=n.kids++[c]:=by cases n;rfl
def qk(kid ver:Nat)(n:Nd):List SV:=[.sc (.int .i64 n.kind),.sc (.string (ba n.text)),.sc (.int .i64 n.num),.sc (.int .i64 n.pos),.slice .full 0 [],.slice (.own kid ver) 6 (n.kids.map zq)]
def qv:List SV:=[.sc (.int .i64 0),.sc (.string ⟨#[]⟩),.sc (.int .i64 0),.sc (.int .i64 0),.slice .full 0 [],.slice .full 0 []]
theorem LR(kid ver:Nat)(n c:Nd):qk kid ver (n.addKid c)=[.sc (.int .i64 n.kind),.sc (.string (ba n.text)),.sc (.int .i64 n.num),.sc (.int .i64 n.pos),.slice .full 0 [],.slice (.own kid ver) 6 (n.kids.map zq++[zq c])]:=by
 unfold qk;rw[qV,qT,Zv,Zu,zQ];simp
theorem V1{T:List Tk}{pid kid ver:Nat}{p':PS}{nd:Nd}{st:St}{K:SV→St→Prop}(hk:K (zq nd) (st.set pid (.cells (Qn T p'))))(hnm:nd.names=[]){ex:St} :
  YW st (wl K) (.agg (qk kid ver nd)) (st.set pid (.cells (Qn T p'))++ex):=by
 have:=YO (m1 :=.full) (m2 :=.own kid ver) (z1:=0) (z2:=6) hk (.inr hnm) (.inl rfl) (ex:=ex);unfold Kv at this;rw[hnm] at this;exact this
theorem Zi{st ex:St}{pid:Nat}{X:Ob}(k:Nat):(st.set pid X++ex)[st.length+k]?=ex[k]?:=by
 rw[List.getElem?_append_right (by simp)];simp
theorem QK{st ex:St}{pid:Nat}{X Y:Ob}(k:Nat):(st.set pid X++ex).set (st.length+k) Y=st.set pid X++ex.set k Y:=by
 rw[List.set_append_right _ _ (by simp)];simp
theorem XG{st:St}{pid:Nat}{X:Ob}:(st.set pid X).length=st.length:=by simp
theorem oW(n:Nd)(c:Tx):(n.addName c).kind=n.kind:=by cases n;rfl
theorem aQ(n:Nd)(c:Tx):(n.addName c).text=n.text:=by cases n;rfl
theorem AC(n:Nd)(c:Tx):(n.addName c).num=n.num:=by cases n;rfl
theorem Aj(n:Nd)(c:Tx):(n.addName c).pos=n.pos:=by cases n;rfl
theorem wY(n:Nd)(c:Tx):(n.addName c).names=n.names++[c]:=by cases n;rfl
theorem gN(n:Nd)(c:Tx):(n.addName c).kids=n.kids:=by cases n;rfl
def Xh(nid nver kid kver:Nat)(n:Nd):List SV:=[.sc (.int .i64 n.kind),.sc (.string (ba n.text)),.sc (.int .i64 n.num),.sc (.int .i64 n.pos),.slice (.own nid nver) 1 (n.names.map qc),.slice (.own kid kver) 6 (n.kids.map zq)]
theorem kC{T:List Tk}{pid nid nver kid kver:Nat}{p':PS}{nd:Nd}{st:St}{K:SV→St→Prop}(hk:K (zq nd) (st.set pid (.cells (Qn T p')))){ex:St} :
  YW st (wl K) (.agg (Xh nid nver kid kver nd)) (st.set pid (.cells (Qn T p'))++ex) :=
 YO (m1 :=.own nid nver) (m2 :=.own kid kver) (z1:=1) (z2:=6) hk (.inl rfl) (.inl rfl) (ex:=ex)
def pI(r:Nd):SV:=Kv .full .full 0 0 r
inductive Few (N:Nat):Nd→Prop where
 | mk (n:Nd) (h:∀ c∈n.kids,Few N c) (h1:n.kids.length≤N) (h2:n.names.length≤N):Few N n
theorem Pl.few{T:List Tk}{n:Nd}(h:Pl T n){N:Nat}(hN:T.length+3≤N):Few N n:=by
 induction h with
 | mk n h h1 h2 h3 h4 ih=>exact .mk n ih (Nat.le_trans h3 hN) (Nat.le_trans h4 hN)
theorem xM(N:Nat):Few N Wf :=.mk _ (fun c hc=>by cases hc) (Nat.zero_le _) (Nat.zero_le _)
end Go.AL
namespace Go.Proofs
open Go Go.AL Tryz
theorem Wr{l:List Tx}{i:Nat}(h:i<l.length):(l.map qc).getD i .any = .sc (.string (ba l[i])):=by simp[xgE,h,qc]
theorem q7{l:List Nd}{i:Nat}(h:i<l.length):(l.map zq).getD i .any=zq l[i]:=by simp[xgE,h]
end Go.Proofs
