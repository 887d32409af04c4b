/- What stands for tokens, nodes and the parser's state in memory. -/
import Derived.Test.YtkokccjfpebomaaGreatDoorFacts
import Derived.Test.YtkokccjfpebomaaGreatDoorK5
set_option linter.all false
set_option maxRecDepth 8000
namespace Go.AL
def ZC(t:Tk):SV :=.agg [.sc (.int .i64 t.kind),.sc (.string (ba t.text)),.sc (.int .i64 t.num),.sc (.int .i64 t.pos)]
mutual
def zq:Nd→SV
 | .mk k t n a ns ks =>.agg [.sc (.int .i64 k),.sc (.string (ba t)),.sc (.int .i64 n),.sc (.int .i64 a),.slice .imm 1 (ns.map fun x =>.sc (.string (ba x))),.slice .imm 6 (Bt ks)]
def Bt:List Nd→List SV
 | []=>[]
 | n::r=>zq n::Bt r
end
theorem wk(l:List Nd):Bt l=l.map zq:=by
 induction l with
 | nil=>rfl
 | cons n r ih=>simp[Bt,ih]
def z8(x:Tx):SV :=.sc (.string (ba x))
def zk(n:Nd):List SV:=[.sc (.int .i64 n.kind),.sc (.string (ba n.text)),.sc (.int .i64 n.num),.sc (.int .i64 n.pos),.slice .imm 1 (n.names.map z8),.slice .imm 6 (n.kids.map zq)]
theorem qR(n:Nd):zq n = .agg [.sc (.int .i64 n.kind),.sc (.string (ba n.text)),.sc (.int .i64 n.num),.sc (.int .i64 n.pos),.slice .imm 1 (n.names.map z8),.slice .imm 6 (n.kids.map zq)]:=by
 cases n;simp[zq,wk,Nd.kind,Nd.text,Nd.num,Nd.pos,Nd.names,Nd.kids,z8,Function.comp_def]
theorem za(n:Nd):(zq n).cells=[.sc (.int .i64 n.kind),.sc (.string (ba n.text)),.sc (.int .i64 n.num),.sc (.int .i64 n.pos),.slice .imm 1 (n.names.map z8),.slice .imm 6 (n.kids.map zq)]:=by rw[qR];rfl
theorem Qw(t:Tk):(ZC t).cells=[.sc (.int .i64 t.kind),.sc (.string (ba t.text)),.sc (.int .i64 t.num),.sc (.int .i64 t.pos)]:=rfl
def Qa(T:List Tk)(p:PS):List SV:=[.slice .imm 4 (T.map ZC),.sc (.int .i64 p.pos),.sc (.int .i64 p.deep),.sc (.bool p.flat),.sc (.int .i64 p.bad),.sc (.int .i64 p.e)]
def W8(T:List Tk)(pid:Nat)(p:PS)(st:St):Prop:=st[pid]?=some (.cells (Qa T p))
theorem Hb(n:Nd):norm (zq n)=zq n:=by rw[qR];rfl
theorem Kx(n:Nd):norm1 (zq n)=zq n:=by rw[qR];rfl
theorem cK(n:Nd):qG (zq n)=true:=by rw[qR];rfl
theorem yP(n:Nd):Qt (zq n)=true:=by rw[qR];rfl
theorem nf(n:Nd):ZB (zq n)=zq n:=by rw[qR];rfl
theorem rq(n:Nd)(p:Prop):Eh p (zq n)=True:=by rw[qR];rfl
theorem uB(n:Nd):(zq n).cells.length=6:=by rw[za];rfl
theorem sm(n:Nd):(zq n).cells.all Yb=true:=yP n
theorem vP{P:Program}{t:TypeId}(n:Nd)(h1:JE P t=some true)(h2:zS P t=some 6):q7 P t (zq n).cells=some (zq n):=by
 rw[za,qR];simp[q7,h1,h2]
theorem J7(n:Nat)(t:Tk):Ids n (ZC t)=True:=eq_true (by
 unfold ZC;simp only[Z9,List.forall_mem_cons,YV,true_and];exact fun x hx=>by cases hx)
theorem ZX(n:Nat)(m:AL.Mode)(hm:m = .imm∨m = .full)(z:Nat)(l:List Tx):Ids n (.slice m z (l.map z8)) :=
 zQ hm fun x hx y hy=>by
  obtain⟨t,_,rfl⟩:=List.mem_map.1 hx;simp only[z8,SV.cells,List.mem_singleton] at hy;subst hy;exact .sc _
mutual
theorem VI(n:Nat):∀ x:Nd,Ids n (zq x)
 | .mk k t m a ns ks=>by
  simp only[zq,Z9,List.forall_mem_cons,YV,true_and];exact⟨ZX n _ (.inl rfl) 1 ns,zQ (.inl rfl) (F4 n ks),fun x hx=>by cases hx⟩
theorem F4(n:Nat):∀ l:List Nd,∀ x∈Bt l,∀ y∈x.cells,Ids n y
 | []=>fun x hx=>by cases hx
 | a::r=>fun x hx y hy=>by
  simp only[Bt,List.mem_cons] at hx;rcases hx with rfl | hx
  ·have:=VI n a;rw[qR,Z9] at this;rw[za] at hy;exact this y hy
  ·exact F4 n r x hx y hy
end
theorem zK(n:Nat)(m:AL.Mode)(hm:m = .imm∨m = .full)(z:Nat)(l:List Nd):Ids n (.slice m z (l.map zq)):=by
 have:=F4 n l;rw[wk] at this;exact zQ hm this
theorem Qy(l:Tx):ByteArray.toList (ba l)=l:=by rw[ByteArray.toList_eq]
theorem YQ(a:Array UInt8):ByteArray.toList ⟨a⟩=a.toList:=by rw[ByteArray.toList_eq]
theorem U'(n:Nat)(T:List Tk)(p:PS):ObIds n (.cells (Qa T p)):=by
 have:∀ x∈Qa T p,Ids n x:=by
  unfold Qa;simp only[List.forall_mem_cons,YV,true_and];refine⟨zQ (.inl rfl) fun x hx y hy=>?_,fun x hx=>by cases hx⟩;obtain⟨t,_,rfl⟩:=List.mem_map.1 hx;rw[Qw] at hy;simp only[List.mem_cons,List.not_mem_nil,or_false] at hy;rcases hy with rfl | rfl | rfl | rfl <;> exact .sc _
 exact fun j hj=>this _ (by
  rw[xgE,List.getElem?_eq_getElem hj];exact List.getElem_mem hj)
theorem kF{T:List Tk}{pid:Nat}{p:PS}{st:St}(hp:W8 T pid p st):st.set pid (.cells (Qa T p))=st:=by
 obtain⟨h1,h2⟩:=List.getElem?_eq_some_iff.1 hp;rw[←h2,List.set_getElem_self]
theorem QJ{T:List Tk}{pid:Nat}{p p':PS}{st:St}(hp:W8 T pid p st):W8 T pid p' (st.set pid (.cells (Qa T p'))):=ql (zi hp)
theorem ze{T:List Tk}{pid:Nat}{p p':PS}{st ex:St}(hp:W8 T pid p st):W8 T pid p' (st.set pid (.cells (Qa T p'))++ex):=VB (QJ hp) ex
theorem zo{T:List Tk}{pid:Nat}{p:PS}{st ex:St}(hp:W8 T pid p st):W8 T pid p (st++ex):=VB hp ex
theorem Xj(n:Nat):Ids n (X7 [])=True:=eq_true (.tuple _ (by intro i hi;cases hi))
theorem zh(v:Value)(n:Nat):Ids n (.sc v)=True:=eq_true (.sc _)
theorem dV{st:St}{K:SV→St→Prop}{x y:SV}{ex:St}(hi:∀ n,Ids n y=True)(hk:K y st)(hx:norm x=y):YU st K x (st++ex):=by
 subst hx;exact⟨st,ex,rfl,Mod.refl _,by rw[hi];trivial,hk⟩
theorem m8{T:List Tk}{pid:Nat}{p:PS}{st:St}{K:SV→St→Prop}{x y:SV}{ex:St}(hp:W8 T pid p st)(hi:∀ n,Ids n y=True)(hk:K y (st.set pid (.cells (Qa T p))))(hx:norm x=y):YU st K x (st++ex) :=
 dV hi (by rw[kF hp] at hk;exact hk) hx
theorem kD{T:List Tk}{pid:Nat}{p:PS}{st:St}{K:SV→St→Prop}{x y:SV}(hp:W8 T pid p st)(hi:∀ n,Ids n y=True)(hk:K y (st.set pid (.cells (Qa T p))))(hx:norm x=y):YU st K x st:=by
 have:=m8 (ex:=[]) hp hi hk hx;rwa[xaN] at this
theorem Du{T:List Tk}{pid:Nat}{p':PS}{st:St}{K:SV→St→Prop}{x y:SV}{ex:St}(hi:∀ n,Ids n y=True)(hk:K y (st.set pid (.cells (Qa T p'))))(hx:norm x=y):YU st K x (st.set pid (.cells (Qa T p'))++ex):=by
 subst hx;exact⟨_,ex,rfl,(Mod.refl _).set _ _ (U' _ _ _),by rw[hi];trivial,hk⟩
theorem Gv{T:List Tk}{pid:Nat}{p':PS}{st:St}{K:SV→St→Prop}{x y:SV}(hi:∀ n,Ids n y=True)(hk:K y (st.set pid (.cells (Qa T p'))))(hx:norm x=y):YU st K x (st.set pid (.cells (Qa T p'))):=by
 subst hx;exact⟨_,[],(xaN _).symm,(Mod.refl _).set _ _ (U' _ _ _),by rw[hi];trivial,hk⟩
theorem zB{st:St}{K:SV→St→Prop}{x:SV}{ex:St}(hi:Ids st.length (norm x)=True)(hk:K (norm x) st):Ba st K x (st++ex):=⟨⟨ex,rfl⟩,by rw[hi];trivial,hk⟩
attribute [go_sem] ZC Qy YQ Hb Kx cK yP nf rq uB sm vP
def Q8(k:Int)(t:Tx)(m a:Int)(x:SV):SV :=.agg [.sc (.int .i64 k),.sc (.string (ba t)),.sc (.int .i64 m),.sc (.int .i64 a),.slice .full 0 [],x]
theorem mE{m:AL.Mode}{z:Nat}{l:List Nd}(hz:z=6∨l=[]):SVle (norm1 (.slice m z (l.map zq))) (.slice .imm 6 (l.map zq)):=by
 rcases hz with rfl | rfl
 ·exact SVle.refl _
 ·exact SVle.nil .imm _ _ (.inr rfl)
theorem na{m:AL.Mode}{z:Nat}{l:List Tx}(hz:z=1∨l=[]):SVle (norm1 (.slice m z (l.map z8))) (.slice .imm 1 (l.map z8)):=by
 rcases hz with rfl | rfl
 ·exact SVle.refl _
 ·exact SVle.nil .imm _ _ (.inr rfl)
def W2(m1 m2:AL.Mode)(z1 z2:Nat)(n:Nd):SV :=.agg [.sc (.int .i64 n.kind),.sc (.string (ba n.text)),.sc (.int .i64 n.num),.sc (.int .i64 n.pos),.slice m1 z1 (n.names.map z8),.slice m2 z2 (n.kids.map zq)]
theorem Ej{m1 m2:AL.Mode}{z1 z2:Nat}{n:Nd}(h1:z1=1∨n.names=[])(h2:z2=6∨n.kids=[]):SVle (norm (W2 m1 m2 z1 z2 n)) (zq n):=by
 rw[qR];exact SVle.agg (.cons (SVle.refl _) (.cons (SVle.refl _) (.cons (SVle.refl _) (.cons (SVle.refl _) (.cons (na h1) (.cons (mE h2) .nil))))))
theorem uH{m1 m2:AL.Mode}{z1 z2:Nat}{nd:Nd}(n:Nat):Ids n (norm (W2 m1 m2 z1 z2 nd)):=by
 show Ids n (.agg _);rw[Z9];simp only[norm1,List.map_cons,List.map_nil,List.forall_mem_cons,YV,true_and];exact⟨ZX n _ (.inl rfl) z1 _,zK n _ (.inl rfl) z2 _,fun x hx=>by cases hx⟩
def jy(K:SV→St→Prop):SV→St→Prop:=fun x s=>∃ y,SVle x y∧K y s
theorem zw{P:Program}{f:FuncId}{args:List SV}{K:SV→St→Prop}{st:St}(h:ACalls P f args (jy K) st):ACalls P f args K st:=gy h
theorem YA{T:List Tk}{pid:Nat}{p':PS}{nd:Nd}{st:St}{K:SV→St→Prop}{m1 m2:AL.Mode}{z1 z2:Nat}(hk:K (zq nd) (st.set pid (.cells (Qa T p'))))(h1:z1=1∨nd.names=[])(h2:z2=6∨nd.kids=[]){ex:St} :
  YU st (jy K) (W2 m1 m2 z1 z2 nd) (st.set pid (.cells (Qa T p'))++ex) :=
 ⟨_,ex,rfl,(Mod.refl _).set _ _ (U' _ _ _),uH _,_,Ej h1 h2,hk⟩
theorem fI{T:List Tk}{pid:Nat}{p':PS}{nd:Nd}{st:St}{K:SV→St→Prop}{m1 m2:AL.Mode}{z1 z2:Nat}(hp:W8 T pid p' st)(hk:K (zq nd) (st.set pid (.cells (Qa T p'))))(h1:z1=1∨nd.names=[])(h2:z2=6∨nd.kids=[]){ex:St} :
  YU st (jy K) (W2 m1 m2 z1 z2 nd) (st++ex):=by
 have:=YA (m1:=m1) (m2:=m2) (z1:=z1) (z2:=z2) hk h1 h2 (ex:=ex);rwa[kF hp] at this
theorem Zs{T:List Tk}{pid:Nat}{p':PS}{nd:Nd}{st:St}{K:SV→St→Prop}(hk:K (zq nd) (st.set pid (.cells (Qa T p')))){ex:St} :
  YU st (jy K) (zq nd) (st.set pid (.cells (Qa T p'))++ex) :=
 ⟨_,ex,rfl,(Mod.refl _).set _ _ (U' _ _ _),by rw[Hb];exact VI _ _,_,by rw[Hb];exact SVle.refl _,hk⟩
theorem qK(n c:Nd):(n.addKid c).kind=n.kind:=by cases n;rfl
theorem qI(n c:Nd):(n.addKid c).text=n.text:=by cases n;rfl
theorem Zo(n c:Nd):(n.addKid c).num=n.num:=by cases n;rfl
theorem Zn(n c:Nd):(n.addKid c).pos=n.pos:=by cases n;rfl
theorem qb(n c:Nd):(n.addKid c).names=n.names:=by cases n;rfl
theorem zM(n c:Nd):(n.addKid c).kids=n.kids++[c]:=by cases n;rfl
def qg(kid ver:Nat)(n:Nd):List SV:=[.sc (.int .i64 n.kind),.sc (.string (ba n.text)),.sc (.int .i64 n.num),.sc (.int .i64 n.pos),.slice .full 0 [],.slice (.own kid ver) 6 (n.kids.map zq)]
def qu:List SV:=[.sc (.int .i64 0),.sc (.string ⟨#[]⟩),.sc (.int .i64 0),.sc (.int .i64 0),.slice .full 0 [],.slice .full 0 []]
theorem F9(kid ver:Nat)(n c:Nd):qg kid ver (n.addKid c)=[.sc (.int .i64 n.kind),.sc (.string (ba n.text)),.sc (.int .i64 n.num),.sc (.int .i64 n.pos),.slice .full 0 [],.slice (.own kid ver) 6 (n.kids.map zq++[zq c])]:=by
 unfold qg;rw[qK,qI,Zo,Zn,zM];simp
theorem VC{T:List Tk}{pid kid ver:Nat}{p':PS}{nd:Nd}{st:St}{K:SV→St→Prop}(hk:K (zq nd) (st.set pid (.cells (Qa T p'))))(hnm:nd.names=[]){ex:St} :
  YU st (jy K) (.agg (qg kid ver nd)) (st.set pid (.cells (Qa T p'))++ex):=by
 have:=YA (m1 :=.full) (m2 :=.own kid ver) (z1:=0) (z2:=6) hk (.inr hnm) (.inl rfl) (ex:=ex);unfold W2 at this;rw[hnm] at this;exact this
theorem Za{st ex:St}{pid:Nat}{X:Ob}(k:Nat):(st.set pid X++ex)[st.length+k]?=ex[k]?:=by
 rw[List.getElem?_append_right (by simp)];simp
theorem Qu{st ex:St}{pid:Nat}{X Y:Ob}(k:Nat):(st.set pid X++ex).set (st.length+k) Y=st.set pid X++ex.set k Y:=by
 rw[List.set_append_right _ _ (by simp)];simp
theorem Xv{st:St}{pid:Nat}{X:Ob}:(st.set pid X).length=st.length:=by simp
theorem fk(n:Nd)(c:Tx):(n.addName c).kind=n.kind:=by cases n;rfl
theorem fR(n:Nd)(c:Tx):(n.addName c).text=n.text:=by cases n;rfl
theorem rN(n:Nd)(c:Tx):(n.addName c).num=n.num:=by cases n;rfl
theorem aT(n:Nd)(c:Tx):(n.addName c).pos=n.pos:=by cases n;rfl
theorem jV(n:Nd)(c:Tx):(n.addName c).names=n.names++[c]:=by cases n;rfl
theorem yn(n:Nd)(c:Tx):(n.addName c).kids=n.kids:=by cases n;rfl
def UC(nid nver kid kver:Nat)(n:Nd):List SV:=[.sc (.int .i64 n.kind),.sc (.string (ba n.text)),.sc (.int .i64 n.num),.sc (.int .i64 n.pos),.slice (.own nid nver) 1 (n.names.map z8),.slice (.own kid kver) 6 (n.kids.map zq)]
theorem jO{T:List Tk}{pid nid nver kid kver:Nat}{p':PS}{nd:Nd}{st:St}{K:SV→St→Prop}(hk:K (zq nd) (st.set pid (.cells (Qa T p')))){ex:St} :
  YU st (jy K) (.agg (UC nid nver kid kver nd)) (st.set pid (.cells (Qa T p'))++ex) :=
 YA (m1 :=.own nid nver) (m2 :=.own kid kver) (z1:=1) (z2:=6) hk (.inl rfl) (.inl rfl) (ex:=ex)
def pg(r:Nd):SV:=W2 .full .full 0 0 r
inductive Few (N:Nat):Nd→Prop where
 | mk (n:Nd) (h:∀ c∈n.kids,Few N c) (h1:n.kids.length≤N) (h2:n.names.length≤N):Few N n
theorem Pl.few{T:List Tk}{n:Nd}(h:Pl T n){N:Nat}(hN:T.length+3≤N):Few N n:=by
 induction h with
 | mk n h h1 h2 h3 h4 ih=>exact .mk n ih (Nat.le_trans h3 hN) (Nat.le_trans h4 hN)
theorem uI(N:Nat):Few N VQ :=.mk _ (fun c hc=>by cases hc) (Nat.zero_le _) (Nat.zero_le _)
end Go.AL
namespace Go.Proofs
open Go Go.AL Tryz
theorem DB{l:List Tx}{i:Nat}(h:i<l.length):(l.map z8).getD i .any = .sc (.string (ba l[i])):=by simp[xgE,h,z8]
theorem Zm{l:List Nd}{i:Nat}(h:i<l.length):(l.map zq).getD i .any=zq l[i]:=by simp[xgE,h]
end Go.Proofs
