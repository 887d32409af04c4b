/- Two runs of the parser, side by side: each reader. -/
import Derived.Test.YtkokccjfpebomaaGreatDoorM4
set_option linter.all false
namespace Go.AL
variable {ex:Bool} {d lo:Nat} {T1 T2 T:List Tk} {m k:Nat}
theorem CQ{p:PS}(B:Bd T m p)(h:¬ 40≤p.deep):Bd T (m+1) { p with deep:=p.deep+1 }:=⟨B.lt,by show m+1≤p.deep+1;have:=B.lo;omega,by show p.deep+1≤40;omega⟩
theorem HJ(hT:TOK T):∀ (n:Nat) (nd:Nd) (p:PS) (r:Nd) (q:PS),Bd T m p→QF T n nd p=some (r,q)→Step T p q
 | 0,nd,p,r,q,B,h=>by cases h
 | n+1,nd,p,r,q,B,h=>by
  unfold QF at h;simp only[xoB] at h;obtain⟨t,k1,h⟩:=h;split at h
  ·simp only[xoB,xpX] at h;obtain⟨a1,k2,u,a2,k3,h⟩:=h;have s1:=Yq B.lt k2;have s2:=(Xz hT s1.lt k3).1;exact (s1.trans s2).trans (HJ hT n _ _ _ _ ((B.next s1).next s2) h)
  ·cases h;exact .refl B.lt
theorem jW(hT:TOK T){e:PM Nd}(A:Tot T (m+1) e):∀ (n:Nat) (more:Bool) (nd:Nd) (p:PS) (r:Nd) (q:PS),Bd T m p→Y7 T e n more nd p=some (r,q)→Step T p q
 | 0,more,nd,p,r,q,B,h=>by cases h
 | n+1,more,nd,p,r,q,B,h=>by
  unfold Y7 at h;split at h
  ·simp only[xoB,xpX] at h;obtain⟨a1,k1,n1,a2,k2,b,a3,k3,h⟩:=h;have s1:=Yq B.lt k1;have s2:=((LM hT A).st (B.next s1) k2).1;have s3:=WE hT s2.lt k3;exact (s1.trans (s2.trans s3)).trans (jW hT A n _ _ _ _ _ (((B.next s1).next s2).next s3) h)
  ·cases h;exact .refl B.lt
end Go.AL
namespace Go.AL
variable {ex:Bool} {d lo:Nat} {T1 T2 T:List Tk} {m k:Nat}
theorem yz(hT:TOK T){e:PM Nd}(A:Tot T (m+1) e):∀ (n:Nat) (c:Bool) (nd:Nd) (p:PS) (r:Nd) (q:PS),Bd T m p→JM T e n c nd p=some (r,q)→Step T p q
 | 0,c,nd,p,r,q,B,h=>by cases h
 | n+1,c,nd,p,r,q,B,h=>by
  unfold JM at h;split at h
  ·simp only[xoB] at h;obtain⟨b,k0,h⟩:=h;split at h
   ·simp only[xoB,xpX] at h;obtain⟨a1,k1,n1,a2,k2,h⟩:=h;have s1:=Yq B.lt k1;have s2:=((V7 hT A).st (B.next s1) k2).1;exact (s1.trans s2).trans (yz hT A n _ _ _ _ _ ((B.next s1).next s2) h)
   ·cases h;exact .refl B.lt
  ·cases h;exact .refl B.lt
theorem xj{p:PS}(B:Bd T m p)(f:Bool):Bd T m { p with flat:=f }:=⟨B.lt,B.lo,B.hi⟩
structure Row (T:List Tk) (e pt:PM Nd) (nd:Nd) (p:PS) (c w:Nd) (q:PS):Prop where
 h:∃ p1 p2 p3 p4,ZE T (Int.tdiv nd.kids.length 2) 20 p=some p1∧qp T [124] p1=some p2∧Ys T pt p2=some (c,p3)∧qp T [45,62] p3=some p4∧Xe T e p4=some (w,q)
theorem l8(hT:TOK T){e pt:PM Nd}(A:Tot T (m+1) e)(P:Tot T (m+1) pt){nd c w:Nd}{p q:PS}(B:Bd T m p)(h:Row T e pt nd p c w q):Step T p q:=by
 obtain⟨p1,p2,p3,p4,k1,k2,k3,k4,k5⟩:=h.h;have s1:=Yq B.lt k1;have s2:=(Zz hT s1.lt k2).1;have s3:=((Qh hT P).st ((B.next s1).next s2) k3).1;have s4:=(Zz hT s3.lt k4).1;have s5:=((Q4 hT A).st ((((B.next s1).next s2).next s3).next s4) k5).1;exact s1.trans (s2.trans (s3.trans (s4.trans s5)))
theorem Gl{e pt:PM Nd}{n:Nat}{nd:Nd}{p q:PS}{r:Nd}{f:Bool}(h:Q1 T e pt (n+1) f nd p=some (r,q)):∃ b,(if f=true then some true else Ye T [124] p)=some b∧((b=false∧r=nd∧q=p)∨(b=true∧∃ c w p5,Row T e pt nd p c w p5∧Q1 T e pt n false (nd.addKids [c,w]) p5=some (r,q))):=by
 unfold Q1 at h;simp only[xoB] at h;obtain⟨b,k0,h⟩:=h;refine⟨b,k0,?_⟩;cases b with
 | false=>simp only[Yd,if_false,xsJ,xpJ] at h;exact .inl ⟨rfl,h.1.symm,h.2.symm⟩
 | true =>
  simp only[if_true,xoB,xpX] at h;obtain⟨p1,k1,p2,k2,c,p3,k3,p4,k4,w,p5,k5,h⟩:=h;exact .inr ⟨rfl,c,w,p5,⟨p1,p2,p3,p4,k1,k2,k3,k4,k5⟩,h⟩
theorem BQ(hT:TOK T){e pt:PM Nd}(A:Tot T (m+1) e)(P:Tot T (m+1) pt):∀ (n:Nat) (f:Bool) (nd:Nd) (p:PS) (r:Nd) (q:PS),Bd T m p→Q1 T e pt n f nd p=some (r,q)→Step T p q
 | 0,f,nd,p,r,q,B,h=>by cases h
 | n+1,f,nd,p,r,q,B,h=>by
  obtain⟨b,_,h⟩:=Gl h;rcases h with⟨_,_,rfl⟩ | ⟨_,c,w,p5,hr,h⟩
  ·exact .refl B.lt
  ·have s:=l8 hT A P B hr;exact s.trans (BQ hT A P n _ _ _ _ _ (B.next s) h)
end Go.AL
namespace Go.AL
variable {ex:Bool} {d lo:Nat} {T1 T2 T:List Tk} {m k:Nat}
theorem F2(hT:TOK T){e pt:PM Nd}(A:Tot T (m+1) e)(P:Tot T (m+1) pt):∀ (n:Nat) (bare:Bool) (nd:Nd) (p:PS) (r:Nd) (q:PS),Bd T m p→YM T e pt n bare nd p=some (r,q)→Step T p q
 | 0,bare,nd,p,r,q,B,h=>by cases h
 | n+1,bare,nd,p,r,q,B,h=>by
  unfold YM at h;simp only[xoB] at h;obtain⟨t,k0,h⟩:=h;split at h
  ·cases bare with
   | true =>
    simp only[if_true,xoB,xpX] at h;obtain⟨a1,k1,c,a2,k2,h⟩:=h;have s1:=Yq B.lt k1;have s2:=((XF hT A P).st (B.next s1) k2).1;exact (s1.trans s2).trans (F2 hT A P n _ _ _ _ _ ((B.next s1).next s2) h)
   | false =>
    simp only[Yd,if_false,xoB,xpX] at h;obtain⟨c,a2,k2,h⟩:=h;have s2:=((XF hT A P).st B k2).1;exact s2.trans (F2 hT A P n _ _ _ _ _ (B.next s2) h)
  ·cases h;exact .refl B.lt
theorem Fk{e:PM Nd}{p q:PS}{x:Tx}{rc:Bool}{v:Nd}(h:Xh T e p=some ((x,rc,v),q)):∃ p1 t p2 p3 p4,Xc T [114,101,99] p=some (rc,p1)∧Qn T 3 p1=some (t,p2)∧x=t.text∧qp T [61] p2=some p3 ∧
  (if rc=true∧p3.deep<40 then (Ye T [102,117,110] p3).bind fun b=>if b then some p3 else Zh T 14 p3 else some p3)=some p4∧Ys T e p4=some (v,q):=by
 unfold Xh at h;simp only[xoB,xoM,xpX,xpJ] at h;obtain⟨b,p1,k1,t,p2,k2,p3,k3,p4,k4,n,p5,k5,⟨rfl,rfl,rfl⟩,rfl⟩:=h;exact⟨p1,t,p2,p3,p4,k1,k2,rfl,k3,k4,k5⟩
theorem cF{p3 p4:PS}{rc:Bool}(hp:p3.pos<T.length)(h:(if rc=true∧p3.deep<40 then (Ye T [102,117,110] p3).bind fun b=>if b then some p3 else Zh T 14 p3 else some p3)=some p4):Step T p3 p4:=by
 split at h
 ·simp only[xoB] at h;obtain⟨b,_,h⟩:=h;split at h
  ·cases h;exact .refl hp
  ·exact LG hp h
 ·cases h;exact .refl hp
theorem wD(hT:TOK T){e:PM Nd}(A:Tot T (m+1) e){p q:PS}{x:Tx}{rc:Bool}{v:Nd}(B:Bd T m p)(h:Xh T e p=some ((x,rc,v),q)):Step T p q∧Strict p q:=by
 obtain⟨p1,t,p2,p3,p4,k1,k2,_,k3,k4,k5⟩:=Fk h;have s1:=WE hT B.lt k1;obtain⟨s2,x2⟩:=Wx hT s1.lt (by decide) k2;have s3:=(Zz hT s2.lt k3).1;have s4:=cF s3.lt k4;have s5:=((Qh hT A).st ((((B.next s1).next s2).next s3).next s4) k5).1;have sr:=s3.trans (s4.trans s5);exact⟨s1.trans (s2.trans sr),Strict.r s1 (s2.trans sr) (x2.l sr)⟩
end Go.AL
namespace Go.AL
variable {ex:Bool} {d lo:Nat} {T1 T2 T:List Tk} {m k:Nat}
theorem fU(hT:TOK T){e ty:PM Nd}(A:Tot T (m+1) e)(Y:Tot T (m+1) ty){p q:PS}{r:Nd}(B:Bd T m p)(hf:p.flat=false)(h:Jy T e ty p=some (r,q)):Step T p q:=by
 obtain⟨nd,q',h1,h2,_⟩:=yF hT A Y B.lt B.lo B.hi hf;rw[h1] at h;cases h;exact h2
theorem B8{e ty:PM Nd}{n:Nat}{nd r:Nd}{p q:PS}(h:Y' T e ty (n+1) nd p=some (r,q)):∃ a b,Ye T [116,121,112,101] p=some a∧(if a=true then some true else Ye T [108,101,116] p)=some b ∧
  ((b=false∧r=nd∧q=p)∨(b=true∧∃ p1 c p2,ZE T nd.kids.length 60 p=some p1∧Jy T e ty p1=some (c,p2)∧Y' T e ty n (nd.addKid c) p2=some (r,q))):=by
 unfold Y' at h;simp only[xoB] at h;obtain⟨a,k0,b,k1,h⟩:=h;refine⟨a,b,k0,k1,?_⟩;cases b with
 | false=>simp only[Yd,if_false,xsJ,xpJ] at h;exact .inl ⟨rfl,h.1.symm,h.2.symm⟩
 | true =>
  simp only[if_true,xoB,xpX] at h;obtain⟨p1,k2,c,p2,k3,h⟩:=h;exact .inr ⟨rfl,p1,c,p2,k2,k3,h⟩
end Go.AL
namespace Go.AL
open Go.Proofs (tokensL_end tokensL_step)
inductive Lx:Tx→Nat→List Tk→Prop where
 | nil {s:Tx} {k:Nat} (h:s.drop (qi false s)=[]):Lx s k [⟨0,[],0,((k+qi false s:Nat):Int)⟩]
 | cons {s r:Tx} {c:UInt8} {k n:Nat} {t:Tk} {T:List Tk} (h:s.drop (qi false s)=c::r) (ht:XE (c::r) ((k+qi false s:Nat):Int) = .ok (t,n)) (hr:Lx ((c::r).drop n) (k+qi false s+n) T):Lx s k (t::T)
theorem FL{c:UInt8}{r:Tx}{p:Int}{t:Tk}{n:Nat}(h:XE (c::r) p = .ok (t,n)):t.pos=p∧1≤n∧n≤(c::r).length∧t.kind≠0:=by
 generalize hR:Vv c (c::r) p=R;obtain⟨g,e,t',n'⟩:=R;obtain⟨h1,h2,h3⟩:=Hn hR;rw[h1] at h;by_cases he:e=0
 ·rw[if_pos he] at h;cases h;exact⟨h2,h3 he⟩
 ·rw[if_neg he] at h;cases h
theorem eg:∀ (m:Nat) (s:Tx) (k:Nat) (out T:List Tk),Zk m s k out = .ok T→∃ Ts,T=out++Ts∧Lx s k Ts
 | 0,s,k,out,T,h=>by cases h
 | m+1,s,k,out,T,h=>by
  cases hd:s.drop (qi false s) with
  | nil=>rw[tokensL_end hd] at h;cases h;exact⟨_,rfl,.nil hd⟩
  | cons c r =>
   rw[tokensL_step hd] at h;cases ht:XE (c::r) ((k+qi false s:Nat):Int) with
   | error e=>rw[ht] at h;cases h
   | ok y =>
    obtain⟨t,n⟩:=y;rw[ht] at h;obtain⟨Ts,h1,h2⟩:=eg m _ _ _ _ h;exact⟨t::Ts,by rw[h1];simp,.cons hd ht h2⟩
theorem AZ{s:Tx}{k:Nat}{Ts:List Tk}(h:Lx s k Ts):∀ (m:Nat) (out:List Tk),s.length<m→Zk m s k out = .ok (out++Ts):=by
 induction h with
 | nil hd =>
  intro m out hm;cases m with
  | zero=>omega
  | succ m=>exact tokensL_end hd
 | @cons s r c k n t T hd ht _ ih =>
  intro m out hm;cases m with
  | zero=>omega
  | succ m =>
   rw[tokensL_step hd,ht];have hl:=congrArg List.length hd;simp only[List.length_drop,xlC] at hl;have hn:=(FL ht).2.1;show Zk m _ _ _=_;rw[ih m (out++[t]) (by simp only[List.length_drop,xlC];omega)];simp
theorem Dg{s:Tx}{T:List Tk}(h:YY s = .ok T):Lx s 0 T∧s.length≤2000:=by
 unfold YY at h;split at h
 ·cases h
 ·obtain⟨Ts,h1,h2⟩:=eg _ _ _ _ _ h;rw[xnA] at h1;subst h1;exact⟨h2,by omega⟩
theorem ff{s:Tx}{T:List Tk}(h:Lx s 0 T)(hl:s.length≤2000):YY s = .ok T:=by
 unfold YY;rw[if_neg (by omega)];exact AZ h _ [] (by omega)
theorem pG{s:Tx}{k:Nat}{T:List Tk}(h:Lx s k T):TOK T∧(∀ (i:Nat) (t:Tk),T[i]?=some t→t.kind=0→i+1=T.length)∧(∀ (i:Nat) (t:Tk),T[i]?=some t→(k:Int)≤t.pos∧t.pos≤((k+s.length:Nat):Int))∧T.length≤s.length+1:=by
 induction h with
 | @nil s k hd =>
  have hsk:=Vu false s;refine⟨⟨by simp,fun i t h hk=>?_,fun i j a b hij ha hb=>?_⟩,fun i t h _=>?_,fun i t h=>?_,by simp⟩
  ·cases i with
   | zero=>simp at h;rw[←h] at hk;exact absurd rfl hk
   | succ i=>simp at h
  ·cases i with
   | zero =>
    cases j with
    | zero=>simp at ha hb;rw[←ha,←hb];exact Int.le_refl _
    | succ j=>simp at hb
   | succ i=>simp at ha
  ·cases i with
   | zero=>rfl
   | succ i=>simp at h
  ·cases i with
   | zero=>simp at h;rw[←h];simp only;omega
   | succ i=>simp at h
 | @cons s r c k n t T hd ht _ ih =>
  obtain⟨i1,i2,i3,i4⟩:=ih;obtain⟨tp,tn,tl,tk⟩:=FL ht;have hl:=congrArg List.length hd;have hsk:=Vu false s;simp only[List.length_drop,xlC] at hl tl i3 i4;refine⟨⟨by simp,fun i u h hk=>?_,fun i j a b hij ha hb=>?_⟩,fun i u h hk=>?_,fun i u h=>?_,by simp only[xlC];omega⟩
  ·cases i with
   | zero=>have:=i1.pos;simp;omega
   | succ i=>have:=i1.last i u (by simpa using h) hk;simp;omega
  ·cases i with
   | zero =>
    simp only[List.getElem?_cons_zero,xsJ] at ha;cases j with
    | zero=>simp only[List.getElem?_cons_zero,xsJ] at hb;rw[←ha,←hb];exact Int.le_refl _
    | succ j =>
     have:=(i3 j b (by simpa using hb)).1;rw[←ha,tp];omega
   | succ i =>
    cases j with
    | zero=>omega
    | succ j=>exact i1.sorted i j a b (by omega) (by simpa using ha) (by simpa using hb)
  ·cases i with
   | zero=>simp at h;rw[←h] at hk;exact absurd hk tk
   | succ i=>have:=i2 i u (by simpa using h) hk;simp;omega
  ·cases i with
   | zero=>simp at h;rw[←h,tp];omega
   | succ i=>have:=i3 i u (by simpa using h);omega
theorem Nw(c:UInt8)(r:Tx):qi true (c::r)=if c=10 then qi false r+1 else qi true r+1:=rfl
theorem rr(c:UInt8)(r:Tx):qi false (c::r)=if c=32∨c=9∨c=10 then qi false r+1 else if c=35 then qi true r+1 else 0:=rfl
def cD(t:Tk)(p:Int):Tk:=⟨t.kind,t.text,t.num,p⟩
end Go.AL
