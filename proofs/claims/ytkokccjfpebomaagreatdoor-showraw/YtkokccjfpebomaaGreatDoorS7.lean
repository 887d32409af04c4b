/- Two runs of the parser, side by side: each reader. -/
import Derived.Test.YtkokccjfpebomaaGreatDoorM4
set_option linter.all false
namespace Go.AL
variable {ex:Bool} {d lo:Nat} {T1 T2 T:List Tk} {m k:Nat}
theorem OX{p:PS}(B:Bd T m p)(h:¬ 40≤p.deep):Bd T (m+1) { p with deep:=p.deep+1 }:=⟨B.lt,by show m+1≤p.deep+1;have:=B.lo;omega,by show p.deep+1≤40;omega⟩
theorem EF(hT:TOK T):∀ (n:Nat) (nd:Nd) (p:PS) (r:Nd) (q:PS),Bd T m p→Qx T n nd p=some (r,q)→Step T p q
 | 0,nd,p,r,q,B,h=>by cases h
 | n+1,nd,p,r,q,B,h=>by
  unfold Qx at h;simp only[xoB] at h;obtain⟨t,k1,h⟩:=h;split at h
  ·simp only[xoB,xpX] at h;obtain⟨a1,k2,u,a2,k3,h⟩:=h;have s1:=YC B.lt k2;have s2:=(XM hT s1.lt k3).1;exact (s1.trans s2).trans (EF hT n _ _ _ _ ((B.next s1).next s2) h)
  ·cases h;exact .refl B.lt
theorem ui(hT:TOK T){e:PM Nd}(A:Tot T (m+1) e):∀ (n:Nat) (more:Bool) (nd:Nd) (p:PS) (r:Nd) (q:PS),Bd T m p→YP T e n more nd p=some (r,q)→Step T p q
 | 0,more,nd,p,r,q,B,h=>by cases h
 | n+1,more,nd,p,r,q,B,h=>by
  unfold YP at h;split at h
  ·simp only[xoB,xpX] at h;obtain⟨a1,k1,n1,a2,k2,b,a3,k3,h⟩:=h;have s1:=YC B.lt k1;have s2:=((jf hT A).st (B.next s1) k2).1;have s3:=Kj hT s2.lt k3;exact (s1.trans (s2.trans s3)).trans (ui hT A n _ _ _ _ _ (((B.next s1).next s2).next s3) h)
  ·cases h;exact .refl B.lt
end Go.AL
namespace Go.AL
variable {ex:Bool} {d lo:Nat} {T1 T2 T:List Tk} {m k:Nat}
theorem hH(hT:TOK T){e:PM Nd}(A:Tot T (m+1) e):∀ (n:Nat) (c:Bool) (nd:Nd) (p:PS) (r:Nd) (q:PS),Bd T m p→JO T e n c nd p=some (r,q)→Step T p q
 | 0,c,nd,p,r,q,B,h=>by cases h
 | n+1,c,nd,p,r,q,B,h=>by
  unfold JO at h;split at h
  ·simp only[xoB] at h;obtain⟨b,k0,h⟩:=h;split at h
   ·simp only[xoB,xpX] at h;obtain⟨a1,k1,n1,a2,k2,h⟩:=h;have s1:=YC B.lt k1;have s2:=((Wo hT A).st (B.next s1) k2).1;exact (s1.trans s2).trans (hH hT A n _ _ _ _ _ ((B.next s1).next s2) h)
   ·cases h;exact .refl B.lt
  ·cases h;exact .refl B.lt
theorem gB{p:PS}(B:Bd T m p)(f:Bool):Bd T m { p with flat:=f }:=⟨B.lt,B.lo,B.hi⟩
structure Row (T:List Tk) (e pt:PM Nd) (nd:Nd) (p:PS) (c w:Nd) (q:PS):Prop where
 h:∃ p1 p2 p3 p4,ZO T (Int.tdiv nd.kids.length 2) 20 p=some p1∧qy T [124] p1=some p2∧Yn T pt p2=some (c,p3)∧qy T [45,62] p3=some p4∧Q4 T e p4=some (w,q)
theorem i8(hT:TOK T){e pt:PM Nd}(A:Tot T (m+1) e)(P:Tot T (m+1) pt){nd c w:Nd}{p q:PS}(B:Bd T m p)(h:Row T e pt nd p c w q):Step T p q:=by
 obtain⟨p1,p2,p3,p4,k1,k2,k3,k4,k5⟩:=h.h;have s1:=YC B.lt k1;have s2:=(ZI hT s1.lt k2).1;have s3:=((Qt hT P).st ((B.next s1).next s2) k3).1;have s4:=(ZI hT s3.lt k4).1;have s5:=((Xr hT A).st ((((B.next s1).next s2).next s3).next s4) k5).1;exact s1.trans (s2.trans (s3.trans (s4.trans s5)))
theorem GA{e pt:PM Nd}{n:Nat}{nd:Nd}{p q:PS}{r:Nd}{f:Bool}(h:QR T e pt (n+1) f nd p=some (r,q)):∃ b,(if f=true then some true else Yj T [124] p)=some b∧((b=false∧r=nd∧q=p)∨(b=true∧∃ c w p5,Row T e pt nd p c w p5∧QR T e pt n false (nd.addKids [c,w]) p5=some (r,q))):=by
 unfold QR at h;simp only[xoB] at h;obtain⟨b,k0,h⟩:=h;refine⟨b,k0,?_⟩;cases b with
 | false=>simp only[XU,if_false,xsJ,xpJ] at h;exact .inl ⟨rfl,h.1.symm,h.2.symm⟩
 | true =>
  simp only[if_true,xoB,xpX] at h;obtain⟨p1,k1,p2,k2,c,p3,k3,p4,k4,w,p5,k5,h⟩:=h;exact .inr ⟨rfl,c,w,p5,⟨p1,p2,p3,p4,k1,k2,k3,k4,k5⟩,h⟩
theorem LC(hT:TOK T){e pt:PM Nd}(A:Tot T (m+1) e)(P:Tot T (m+1) pt):∀ (n:Nat) (f:Bool) (nd:Nd) (p:PS) (r:Nd) (q:PS),Bd T m p→QR T e pt n f nd p=some (r,q)→Step T p q
 | 0,f,nd,p,r,q,B,h=>by cases h
 | n+1,f,nd,p,r,q,B,h=>by
  obtain⟨b,_,h⟩:=GA h;rcases h with⟨_,_,rfl⟩ | ⟨_,c,w,p5,hr,h⟩
  ·exact .refl B.lt
  ·have s:=i8 hT A P B hr;exact s.trans (LC hT A P n _ _ _ _ _ (B.next s) h)
end Go.AL
namespace Go.AL
variable {ex:Bool} {d lo:Nat} {T1 T2 T:List Tk} {m k:Nat}
theorem wj(hT:TOK T){e pt:PM Nd}(A:Tot T (m+1) e)(P:Tot T (m+1) pt):∀ (n:Nat) (bare:Bool) (nd:Nd) (p:PS) (r:Nd) (q:PS),Bd T m p→Yp T e pt n bare nd p=some (r,q)→Step T p q
 | 0,bare,nd,p,r,q,B,h=>by cases h
 | n+1,bare,nd,p,r,q,B,h=>by
  unfold Yp at h;simp only[xoB] at h;obtain⟨t,k0,h⟩:=h;split at h
  ·cases bare with
   | true =>
    simp only[if_true,xoB,xpX] at h;obtain⟨a1,k1,c,a2,k2,h⟩:=h;have s1:=YC B.lt k1;have s2:=((XV hT A P).st (B.next s1) k2).1;exact (s1.trans s2).trans (wj hT A P n _ _ _ _ _ ((B.next s1).next s2) h)
   | false =>
    simp only[XU,if_false,xoB,xpX] at h;obtain⟨c,a2,k2,h⟩:=h;have s2:=((XV hT A P).st B k2).1;exact s2.trans (wj hT A P n _ _ _ _ _ (B.next s2) h)
  ·cases h;exact .refl B.lt
theorem FU{e:PM Nd}{p q:PS}{x:Tx}{rc:Bool}{v:Nd}(h:Q2 T e p=some ((x,rc,v),q)):∃ p1 t p2 p3 p4,Xd T [114,101,99] p=some (rc,p1)∧Qy T 3 p1=some (t,p2)∧x=t.text∧qy T [61] p2=some p3 ∧
  (if rc=true∧p3.deep<40 then (Yj T [102,117,110] p3).bind fun b=>if b then some p3 else Zq T 14 p3 else some p3)=some p4∧Yn T e p4=some (v,q):=by
 unfold Q2 at h;simp only[xoB,xoM,xpX,xpJ] at h;obtain⟨b,p1,k1,t,p2,k2,p3,k3,p4,k4,n,p5,k5,⟨rfl,rfl,rfl⟩,rfl⟩:=h;exact⟨p1,t,p2,p3,p4,k1,k2,rfl,k3,k4,k5⟩
theorem tm{p3 p4:PS}{rc:Bool}(hp:p3.pos<T.length)(h:(if rc=true∧p3.deep<40 then (Yj T [102,117,110] p3).bind fun b=>if b then some p3 else Zq T 14 p3 else some p3)=some p4):Step T p3 p4:=by
 split at h
 ·simp only[xoB] at h;obtain⟨b,_,h⟩:=h;split at h
  ·cases h;exact .refl hp
  ·exact L6 hp h
 ·cases h;exact .refl hp
theorem k8(hT:TOK T){e:PM Nd}(A:Tot T (m+1) e){p q:PS}{x:Tx}{rc:Bool}{v:Nd}(B:Bd T m p)(h:Q2 T e p=some ((x,rc,v),q)):Step T p q∧Strict p q:=by
 obtain⟨p1,t,p2,p3,p4,k1,k2,_,k3,k4,k5⟩:=FU h;have s1:=Kj hT B.lt k1;obtain⟨s2,x2⟩:=Ks hT s1.lt (by decide) k2;have s3:=(ZI hT s2.lt k3).1;have s4:=tm s3.lt k4;have s5:=((Qt hT A).st ((((B.next s1).next s2).next s3).next s4) k5).1;have sr:=s3.trans (s4.trans s5);exact⟨s1.trans (s2.trans sr),Strict.r s1 (s2.trans sr) (x2.l sr)⟩
end Go.AL
namespace Go.AL
variable {ex:Bool} {d lo:Nat} {T1 T2 T:List Tk} {m k:Nat}
theorem aS(hT:TOK T){e ty:PM Nd}(A:Tot T (m+1) e)(Y:Tot T (m+1) ty){p q:PS}{r:Nd}(B:Bd T m p)(hf:p.flat=false)(h:Y7 T e ty p=some (r,q)):Step T p q:=by
 obtain⟨nd,q',h1,h2,_⟩:=pw hT A Y B.lt B.lo B.hi hf;rw[h1] at h;cases h;exact h2
theorem LA{e ty:PM Nd}{n:Nat}{nd r:Nd}{p q:PS}(h:YV T e ty (n+1) nd p=some (r,q)):∃ a b,Yj T [116,121,112,101] p=some a∧(if a=true then some true else Yj T [108,101,116] p)=some b ∧
  ((b=false∧r=nd∧q=p)∨(b=true∧∃ p1 c p2,ZO T nd.kids.length 60 p=some p1∧Y7 T e ty p1=some (c,p2)∧YV T e ty n (nd.addKid c) p2=some (r,q))):=by
 unfold YV at h;simp only[xoB] at h;obtain⟨a,k0,b,k1,h⟩:=h;refine⟨a,b,k0,k1,?_⟩;cases b with
 | false=>simp only[XU,if_false,xsJ,xpJ] at h;exact .inl ⟨rfl,h.1.symm,h.2.symm⟩
 | true =>
  simp only[if_true,xoB,xpX] at h;obtain⟨p1,k2,c,p2,k3,h⟩:=h;exact .inr ⟨rfl,p1,c,p2,k2,k3,h⟩
end Go.AL
namespace Go.AL
open Go.Proofs (tokensL_end tokensL_step)
inductive Lx:Tx→Nat→List Tk→Prop where
 | nil {s:Tx} {k:Nat} (h:s.drop (qo false s)=[]):Lx s k [⟨0,[],0,((k+qo false s:Nat):Int)⟩]
 | cons {s r:Tx} {c:UInt8} {k n:Nat} {t:Tk} {T:List Tk} (h:s.drop (qo false s)=c::r) (ht:XO (c::r) ((k+qo false s:Nat):Int) = .ok (t,n)) (hr:Lx ((c::r).drop n) (k+qo false s+n) T):Lx s k (t::T)
theorem j9{c:UInt8}{r:Tx}{p:Int}{t:Tk}{n:Nat}(h:XO (c::r) p = .ok (t,n)):t.pos=p∧1≤n∧n≤(c::r).length∧t.kind≠0:=by
 generalize hR:VT c (c::r) p=R;obtain⟨g,e,t',n'⟩:=R;obtain⟨h1,h2,h3⟩:=Hj hR;rw[h1] at h;by_cases he:e=0
 ·rw[if_pos he] at h;cases h;exact⟨h2,h3 he⟩
 ·rw[if_neg he] at h;cases h
theorem rm:∀ (m:Nat) (s:Tx) (k:Nat) (out T:List Tk),Zs m s k out = .ok T→∃ Ts,T=out++Ts∧Lx s k Ts
 | 0,s,k,out,T,h=>by cases h
 | m+1,s,k,out,T,h=>by
  cases hd:s.drop (qo false s) with
  | nil=>rw[tokensL_end hd] at h;cases h;exact⟨_,rfl,.nil hd⟩
  | cons c r =>
   rw[tokensL_step hd] at h;cases ht:XO (c::r) ((k+qo false s:Nat):Int) with
   | error e=>rw[ht] at h;cases h
   | ok y =>
    obtain⟨t,n⟩:=y;rw[ht] at h;obtain⟨Ts,h1,h2⟩:=rm m _ _ _ _ h;exact⟨t::Ts,by rw[h1];simp,.cons hd ht h2⟩
theorem N6{s:Tx}{k:Nat}{Ts:List Tk}(h:Lx s k Ts):∀ (m:Nat) (out:List Tk),s.length<m→Zs m s k out = .ok (out++Ts):=by
 induction h with
 | nil hd =>
  intro m out hm;cases m with
  | zero=>omega
  | succ m=>exact tokensL_end hd
 | @cons s r c k n t T hd ht _ ih =>
  intro m out hm;cases m with
  | zero=>omega
  | succ m =>
   rw[tokensL_step hd,ht];have hl:=congrArg List.length hd;simp only[List.length_drop,xlC] at hl;have hn:=(j9 ht).2.1;show Zs m _ _ _=_;rw[ih m (out++[t]) (by simp only[List.length_drop,xlC];omega)];simp
theorem Uo{s:Tx}{T:List Tk}(h:X8 s = .ok T):Lx s 0 T∧s.length≤2000:=by
 unfold X8 at h;split at h
 ·cases h
 ·obtain⟨Ts,h1,h2⟩:=rm _ _ _ _ _ h;rw[xnA] at h1;subst h1;exact⟨h2,by omega⟩
theorem xG{s:Tx}{T:List Tk}(h:Lx s 0 T)(hl:s.length≤2000):X8 s = .ok T:=by
 unfold X8;rw[if_neg (by omega)];exact N6 h _ [] (by omega)
theorem uV{s:Tx}{k:Nat}{T:List Tk}(h:Lx s k T):TOK T∧(∀ (i:Nat) (t:Tk),T[i]?=some t→t.kind=0→i+1=T.length)∧(∀ (i:Nat) (t:Tk),T[i]?=some t→(k:Int)≤t.pos∧t.pos≤((k+s.length:Nat):Int))∧T.length≤s.length+1:=by
 induction h with
 | @nil s k hd =>
  have hsk:=V2 false s;refine⟨⟨by simp,fun i t h hk=>?_,fun i j a b hij ha hb=>?_⟩,fun i t h _=>?_,fun i t h=>?_,by simp⟩
  ·cases i with
   | zero=>simp at h;rw[←h] at hk;exact absurd rfl hk
   | succ i=>simp at h
  ·cases i with
   | zero =>
    cases j with
    | zero=>simp at ha hb;rw[←ha,←hb];exact Int.le_refl _
    | succ j=>simp at hb
   | succ i=>simp at ha
  ·cases i with
   | zero=>rfl
   | succ i=>simp at h
  ·cases i with
   | zero=>simp at h;rw[←h];simp only;omega
   | succ i=>simp at h
 | @cons s r c k n t T hd ht _ ih =>
  obtain⟨i1,i2,i3,i4⟩:=ih;obtain⟨tp,tn,tl,tk⟩:=j9 ht;have hl:=congrArg List.length hd;have hsk:=V2 false s;simp only[List.length_drop,xlC] at hl tl i3 i4;refine⟨⟨by simp,fun i u h hk=>?_,fun i j a b hij ha hb=>?_⟩,fun i u h hk=>?_,fun i u h=>?_,by simp only[xlC];omega⟩
  ·cases i with
   | zero=>have:=i1.pos;simp;omega
   | succ i=>have:=i1.last i u (by simpa using h) hk;simp;omega
  ·cases i with
   | zero =>
    simp only[List.getElem?_cons_zero,xsJ] at ha;cases j with
    | zero=>simp only[List.getElem?_cons_zero,xsJ] at hb;rw[←ha,←hb];exact Int.le_refl _
    | succ j =>
     have:=(i3 j b (by simpa using hb)).1;rw[←ha,tp];omega
   | succ i =>
    cases j with
    | zero=>omega
    | succ j=>exact i1.sorted i j a b (by omega) (by simpa using ha) (by simpa using hb)
  ·cases i with
   | zero=>simp at h;rw[←h] at hk;exact absurd hk tk
   | succ i=>have:=i2 i u (by simpa using h) hk;simp;omega
  ·cases i with
   | zero=>simp at h;rw[←h,tp];omega
   | succ i=>have:=i3 i u (by simpa using h);omega
theorem Ri(c:UInt8)(r:Tx):qo true (c::r)=if c=10 then qo false r+1 else qo true r+1:=rfl
theorem iJ(c:UInt8)(r:Tx):qo false (c::r)=if c=32∨c=9∨c=10 then qo false r+1 else if c=35 then qo true r+1 else 0:=rfl
def ms(t:Tk)(p:Int):Tk:=⟨t.kind,t.text,t.num,p⟩
end Go.AL
