/- The parser on a text's tokens: steps, levels. -/
import Derived.Test.YtkokccjfpebomaaGreatDoorT2
set_option linter.all false
namespace Go.AL
variable {T:List Tk}
def z0(t:Tk):Tk:=ms t 0
def Tl(T:List Tk)(i:Nat)(l:List Tk):Prop:=(T.drop i).map z0=l
def zV(p:PS)(n:Nat):PS:={ p with pos:=p.pos+n }
theorem Tl.skip{i:Nat}{a b:List Tk}(h:Tl T i (a++b)):Tl T (i+a.length) b:=by
 unfold Tl at h ⊢;rw[←List.drop_drop,List.map_drop,h];simp
theorem Tl.next{i:Nat}{x:Tk}{b:List Tk}(h:Tl T i (x::b)):Tl T (i+1) b:=Tl.skip (a:=[x]) h
theorem Tl.get{i:Nat}{x:Tk}{b:List Tk}(h:Tl T i (x::b)):∃ t,T[i]?=some t∧z0 t=x:=by
 unfold Tl at h;cases hd:T.drop i with
 | nil=>rw[hd] at h;cases h
 | cons t r =>
  rw[hd] at h;simp only[List.map_cons,List.cons.injEq] at h;refine⟨t,?_,h.1⟩;have:=List.getElem?_drop (xs:=T) (i:=i) (j:=0);rw[hd] at this;simpa using this.symm
theorem Tl.len{i:Nat}{a:List Tk}{x:Tk}{b:List Tk}(h:Tl T i (a++x::b)):i+a.length<T.length:=by
 have:=congrArg List.length h;simp at this;omega
theorem Zj(p:PS)(a b:Nat):zV (zV p a) b=zV p (a+b):=by simp[zV,Nat.add_assoc]
theorem X5(p:PS)(a:Nat):(zV p a).pos=p.pos+a:=rfl
theorem X7{t x:Tk}(h:z0 t=x):t.kind=x.kind∧t.text=x.text∧t.num=x.num:=by subst h;exact⟨rfl,rfl,rfl⟩
theorem XX{t x:Tk}(h:z0 t=x)(s:Tx):isT t s=isT x s:=by subst h;rfl
theorem Wb{t x:Tk}(h:z0 t=x):qI t=qI x:=by subst h;rfl
section
variable {p:PS} {x:Tk} {R:List Tk}
theorem qq(he:p.e=0)(h:Tl T p.pos (x::R)):∃ t,zH T p=some t∧z0 t=x:=by
 obtain⟨t,h1,h2⟩:=h.get;exact⟨t,by unfold zH;rw[if_pos he,h1],h2⟩
theorem Qa(he:p.e=0)(h:Tl T p.pos (x::R))(hx:x.kind≠0):∃ t,ZR T p=some (t,zV p 1)∧z0 t=x:=by
 obtain⟨t,h1,h2⟩:=qq he h;refine⟨t,?_,h2⟩;unfold ZR;rw[h1,xmS,if_pos ⟨he,by rw[(X7 h2).1];exact hx⟩];rfl
theorem Jo(he:p.e=0)(h:Tl T p.pos (x::R))(s:Tx):Yj T s p=some (isT x s):=by
 obtain⟨t,h1,h2⟩:=qq he h;unfold Yj;rw[h1,xmS,XX h2]
theorem Va(he:p.e=0)(h:Tl T p.pos (x::R)){s:Tx}(hx:isT x s=true):Xd T s p=some (true,zV p 1):=by
 obtain⟨t,h1,_⟩:=Qa he h (E6 hx);unfold Xd;rw[Jo he h,xbS,if_pos hx,h1];rfl
theorem J6(he:p.e=0)(h:Tl T p.pos (x::R)){s:Tx}(hx:isT x s=false):Xd T s p=some (false,p):=by
 unfold Xd;rw[Jo he h,xbS,hx];rfl
theorem Zx(he:p.e=0)(h:Tl T p.pos (x::R)){s:Tx}(hx:isT x s=true):qy T s p=some (zV p 1):=by
 unfold qy;rw[Va he h hx];rfl
theorem Jb(he:p.e=0)(h:Tl T p.pos (x::R))(hx:x.kind≠0):∃ t,Qy T x.kind p=some (t,zV p 1)∧z0 t=x:=by
 obtain⟨t,h1,h2⟩:=qq he h;obtain⟨t',h3,h4⟩:=Qa he h hx;refine⟨t',?_,h4⟩;unfold Qy;rw[h1,xbS,if_neg (by rw[(X7 h2).1];simp),xbS,h3]
theorem W9{n m:Int}(h:n<m):ZO T n m p=some p:=by
 unfold ZO;rw[if_neg (by omega)]
theorem Jn{e:PM Nd}{n:Nd}{k:Nat}(he:p.e=0)(hd:p.deep<40)(h:e { p with deep:=p.deep+1 }=some (n,zV { p with deep:=p.deep+1 } k)):Yn T e p=some (n,zV p k):=by
 unfold Yn;rw[if_neg (by omega),xbS,if_neg (by simp[he]),h,xbS];show (if p.deep+1=0∨1000<p.deep+1 then none else some (n,{ zV { p with deep:=p.deep+1 } k with deep:=p.deep+1-1 }))=_;rw[if_neg (by omega)];rfl
theorem KO{e:PM Nd}{n:Nd}{k:Nat}(he:p.e=0)(hd:p.deep<40)(h:e { p with deep:=p.deep+1,flat:=false }=some (n,zV { p with deep:=p.deep+1,flat:=false } k)):Q4 T e p=some (n,zV p k):=by
 unfold Q4;rw[Jn (p:={ p with flat:=false }) he hd h];rfl
end
def Stop(m:Int)(f:Bool)(x:Tk):Prop:=(2≤m→qI x=false)∧(3≤m→¬ (x.kind=5∧x.text∈V6))∧(4≤m→¬ (x.kind=5∧x.text∈signsP))∧(5≤m→isT x [61]=false∧isT x [60]=false)∧(6≤m→f=false→isT x [59]=false)
theorem Stop.le{m m':Int}{f:Bool}{x:Tk}(h:Stop m f x)(hm:m'≤m):Stop m' f x :=
 ⟨fun a=>h.1 (by omega),fun a=>h.2.1 (by omega),fun a=>h.2.2.1 (by omega),fun a=>h.2.2.2.1 (by omega),fun a=>h.2.2.2.2 (by omega)⟩
def UU(T:List Tk)(g:PM Nd)(m:Int)(r:Nat)(f:Bool)(l:List Tk)(n:Nd):Prop:=∀ p x R,p.e=0→p.flat=f→p.deep+r≤40→Tl T p.pos (l++x::R)→Stop m f x→∃ n',g p=some (n',zV p l.length)∧Zg n' n=true
def SS(T:List Tk)(part:PM Nd)(signs:List Tx)(m:Int)(r:Nat)(f:Bool)(l:List Tk)(n:Nd):Prop:=∀ p x R,p.e=0→p.flat=f→p.deep+r≤40→Tl T p.pos (l++x::R)→Stop m f x →
 ∃ n' k,(∀ t,zH T (zV p l.length)=some t→JV T part signs p=JW T part signs k t n' (zV p l.length))∧T.length+2≤k+l.length∧Zg n' n=true
def SC(T:List Tk)(e pt:PM Nd)(r:Nat)(f:Bool)(l:List Tk)(n:Nd):Prop:=∀ p x R,p.e=0→p.flat=f→p.deep+r≤40→Tl T p.pos (l++x::R) →
 ∃ n' k,Jf T e pt p=Yp T e pt k false n' (zV p l.length)∧T.length+2≤k+l.length∧Zg n' n=true
def HK(t:Tk):Prop:=t.kind=6∧0<(qJ t.text).1
def HF(t:Tk):Prop:=t.kind=6∧(t.text=[108,101,116]∨t.text=[102,117,110]∨t.text=[105,102])
theorem EV{t:Tk}(h:qI t=true):¬ HK t∧¬ HF t:=by
 unfold qI isT at h;simp only[Bool.or_eq_true,XT,beq_iff_eq] at h;refine⟨fun ⟨a,b⟩=>?_,fun ⟨a,b⟩=>?_⟩
 ·rcases h with ((((((h | h) | h) | h) | h) | h) | h) | h
  ·omega
  ·omega
  ·omega
  ·omega
  all_goals (rw[h.2] at b;revert b;decide)
 ·rcases h with ((((((h | h) | h) | h) | h) | h) | h) | h
  ·omega
  ·omega
  ·omega
  ·omega
  all_goals (rw[h.2] at b;revert b;decide)
theorem Oj{t:Tk}(h:HK t):¬ HF t:=by
 rintro⟨a,b | b | b⟩ <;> (have:=h.2;rw[b] at this;revert this;decide)
section
variable {e pt:PM Nd} {r:Nat} {f:Bool} {l:List Tk} {n:Nd}
theorem mg(h:UU T (ZL T e pt) 0 r f l n){t:Tk}{l':List Tk}(hl:l=t::l')(hb:qI t=true)(h4:t.kind≠4):SC T e pt r f l n:=by
 intro p x R h1 h2 h3 h5;obtain⟨n',g1,g2⟩:=h p x R h1 h2 h3 h5 ⟨fun a=>by omega,fun a=>by omega,fun a=>by omega,fun a=>by omega,fun a=>by omega⟩;obtain⟨t',k1,k2⟩:=qq h1 (x:=t) (R:=l'++x::R) (by rw[hl] at h5;exact h5);refine⟨n',T.length+2,?_,by omega,g2⟩;unfold Jf;have nk:=(EV hb).1;have e1:=X7 k2;rw[k1,xbS,if_neg (by rw[e1.1,e1.2.1];exact nk),g1,xbS];have e4:(t'.kind==4)=false:=by rw[e1.1];simp[h4]
 rw[e4]
theorem bL(h:UU T (ZL T e pt) 0 r f l n){t:Tk}{l':List Tk}(hl:l=t::l')(hb:qI t=true):UU T (Jf T e pt) 2 r f l n:=by
 intro p x R h1 h2 h3 h5 hs;obtain⟨n',g1,g2⟩:=h p x R h1 h2 h3 h5 (hs.le (by omega));obtain⟨t',k1,k2⟩:=qq h1 (x:=t) (R:=l'++x::R) (by rw[hl] at h5;exact h5);obtain⟨t2,k3,k4⟩:=qq (p:=zV p l.length) h1 h5.skip;refine⟨n',?_,g2⟩;unfold Jf;have nk:=(EV hb).1;have e1:=X7 k2;rw[k1,xbS,if_neg (by rw[e1.1,e1.2.1];exact nk),g1,xbS];show Yp T e pt (T.length+1+1) _ _ _=_;unfold Yp;rw[k3,xbS,Wb k4,hs.1 (by omega)];rfl
theorem fN(h:SC T e pt r f l n):UU T (Jf T e pt) 2 r f l n:=by
 intro p x R h1 h2 h3 h5 hs;obtain⟨n',k,g1,g2,g3⟩:=h p x R h1 h2 h3 h5;obtain⟨t2,k3,k4⟩:=qq (p:=zV p l.length) h1 h5.skip;have hlen:=h5.len;refine⟨n',?_,g3⟩;obtain⟨k,rfl⟩:∃ j,k=j+1:=⟨k-1,by omega⟩;rw[g1];unfold Yp;rw[k3,xbS,Wb k4,hs.1 (by omega)];rfl
theorem F8{part:PM Nd}{m:Int}(signs:List Tx)(h:UU T part m r f l n):SS T part signs m r f l n:=by
 intro p x R h1 h2 h3 h5 hs;obtain⟨n',g1,g2⟩:=h p x R h1 h2 h3 h5 hs;refine⟨n',T.length+2,fun t ht=>?_,by omega,g2⟩;unfold JV;rw[g1,xbS];show (zH T (zV p l.length)).bind _=_;rw[ht];rfl
theorem vw{part:PM Nd}{m m':Int}{signs:List Tx}(hm:m≤m')(hx:∀ x f,Stop m' f x→¬ (x.kind=5∧x.text∈signs))(h:SS T part signs m r f l n):UU T (JV T part signs) m' r f l n:=by
 intro p x R h1 h2 h3 h5 hs;obtain⟨n',k,g1,g2,g3⟩:=h p x R h1 h2 h3 h5 (hs.le hm);obtain⟨t2,k3,k4⟩:=qq (p:=zV p l.length) h1 h5.skip;have hlen:=h5.len;refine⟨n',?_,g3⟩;obtain⟨k,rfl⟩:∃ j,k=j+1:=⟨k-1,by omega⟩;rw[g1 t2 k3];unfold JW;rw[if_neg (by have e1:=X7 k4;rw[e1.1,e1.2.1];exact hx x f hs)]
theorem aT(h:UU T (EK T e pt) 4 r f l n):UU T (Wn T e pt) 5 r f l n:=by
 intro p x R h1 h2 h3 h5 hs;obtain⟨n',g1,g2⟩:=h p x R h1 h2 h3 h5 (hs.le (by omega));obtain⟨t2,k3,k4⟩:=qq (p:=zV p l.length) h1 h5.skip;refine⟨n',?_,g2⟩;unfold Wn;rw[g1,xbS];show (zH T (zV p l.length)).bind _=_;rw[k3,xbS,if_neg];have hq:=hs.2.2.2.1 (by omega);rintro (z | z)
 ·rw[XX k4,hq.1] at z;cases z
 ·rw[XX k4,hq.2] at z;cases z
theorem aL(h:UU T (Wn T e pt) 5 r f l n){t:Tk}{l':List Tk}(hl:l=t::l')(hb:¬ HF t):UU T (JZ T e pt) 7 r f l n:=by
 intro p x R h1 h2 h3 h5 hs;obtain⟨n',g1,g2⟩:=h p x R h1 h2 h3 h5 (hs.le (by omega));obtain⟨t',k1,k2⟩:=qq h1 (x:=t) (R:=l'++x::R) (by rw[hl] at h5;exact h5);refine⟨n',?_,g2⟩;have e1:=X7 k2;unfold JZ;rw[k1,xbS,if_neg (by rw[e1.1,e1.2.1];exact fun z=>hb ⟨z.1,.inl z.2⟩),if_neg (by rw[e1.1,e1.2.1];exact fun z=>hb ⟨z.1,.inr (.inl z.2)⟩),if_neg (by rw[e1.1,e1.2.1];exact fun z=>hb ⟨z.1,.inr (.inr z.2)⟩),g1,xbS];have hf:(zV p l.length).flat=f:=h2;cases hff:f with
 | true=>rw[hff] at hf;dsimp only;rw[if_pos hf];rfl
 | false =>
  rw[hff] at hf;dsimp only;rw[if_neg (by rw[hf];decide),J6 (p:=zV p l.length) h1 h5.skip (hs.2.2.2.2 (by omega) hff)];rfl
end
structure Good (T:List Tk) (N r:Nat) (f:Bool) (b:Int) (l:List Tk) (n:Nd):Prop where
 hd:∃ t l',l=t::l'∧(b≤1→qI t=true)∧(b≤5→qI t=true∨HK t)∧t≠sg [41]∧(HF t∨HK t∨qI t=true)
 u0:b≤0→UU T (ZL T (Qf T N) (Qq T (N+1))) 0 r f l n
 s1:b≤1→(∀ t l',l=t::l'→t.kind≠4)→SC T (Qf T N) (Qq T (N+1)) r f l n
 u2:b≤2→UU T (Jf T (Qf T N) (Qq T (N+1))) 2 r f l n
 s3:b≤3→SS T (Jf T (Qf T N) (Qq T (N+1))) V6 2 r f l n
 u3:b≤3→UU T (wP T (Qf T N) (Qq T (N+1))) 3 r f l n
 s4:b≤4→SS T (wP T (Qf T N) (Qq T (N+1))) signsP 3 r f l n
 u4:b≤4→UU T (EK T (Qf T N) (Qq T (N+1))) 4 r f l n
 u5:b≤5→UU T (Wn T (Qf T N) (Qq T (N+1))) 5 r f l n
 u7:UU T (Qf T (N+1)) 7 r f l n
section
variable {N r:Nat} {f:Bool} {b:Int} {l:List Tk} {n:Nd} {t:Tk} {l':List Tk}
theorem Good.of7(hl:l=t::l')(ht:HF t)(h:UU T (Qf T (N+1)) 7 r f l n):Good T N r f 6 l n :=
 ⟨⟨t,l',hl,fun a=>by omega,fun a=>by omega,fun x=>(by rw[x] at ht;have:=ht.1;revert this;decide),.inl ht⟩,fun a=>by omega,fun a=>by omega,fun a=>by omega,fun a=>by omega,fun a=>by omega,fun a=>by omega,fun a=>by omega,fun a=>by omega,h⟩
theorem Good.seven(hl:l=t::l')(ht:qI t=true∨HK t)(hp:t≠sg [41])(h:UU T (Qf T (N+1)) 7 r f l n):Good T N r f 7 l n :=
 ⟨⟨t,l',hl,fun a=>by omega,fun a=>by omega,hp,by rcases ht with h | h <;> simp[h]⟩,fun a=>by omega,fun a=>by omega,fun a=>by omega,fun a=>by omega,fun a=>by omega,fun a=>by omega,fun a=>by omega,fun a=>by omega,h⟩
theorem sf(ht:qI t=true∨HK t):¬ HF t:=by
 rcases ht with h | h
 ·exact (EV h).2
 ·exact Oj h
theorem Lv(ht:qI t=true∨HK t):t≠sg [41]:=by
 rintro rfl;rcases ht with h | h
 ·revert h;decide
 ·have:=h.1;revert this;decide
theorem Good.of5(hl:l=t::l')(ht:qI t=true∨HK t)(h:UU T (Wn T (Qf T N) (Qq T (N+1))) 5 r f l n):Good T N r f 5 l n :=
 ⟨⟨t,l',hl,fun a=>by omega,fun _=>ht,Lv ht,by rcases ht with h | h <;> simp[h]⟩,fun a=>by omega,fun a=>by omega,fun a=>by omega,fun a=>by omega,fun a=>by omega,fun a=>by omega,fun a=>by omega,fun _=>h,aL h hl (sf ht)⟩
theorem Good.of4(hl:l=t::l')(ht:qI t=true∨HK t)(h:SS T (wP T (Qf T N) (Qq T (N+1))) signsP 3 r f l n):Good T N r f 4 l n:=by
 have h4:UU T (EK T (Qf T N) (Qq T (N+1))) 4 r f l n:=vw (by omega) (fun x f hs=>hs.2.2.1 (by omega)) h;have g:=Good.of5 hl ht (aT h4);exact { g with hd:=⟨t,l',hl,fun a=>by omega,fun _=>ht,Lv ht,by rcases ht with h | h <;> simp[h]⟩,u0:=fun a=>by omega,s1:=fun a=>by omega,u2:=fun a=>by omega,s3:=fun a=>by omega,u3:=fun a=>by omega,s4:=fun _=>h,u4:=fun _=>h4,u5:=fun _=>g.u5 (by omega) }
theorem Good.of3(hl:l=t::l')(ht:qI t=true∨HK t)(h:SS T (Jf T (Qf T N) (Qq T (N+1))) V6 2 r f l n):Good T N r f 3 l n:=by
 have h3:UU T (wP T (Qf T N) (Qq T (N+1))) 3 r f l n:=vw (by omega) (fun x f hs=>hs.2.1 (by omega)) h;have g:=Good.of4 hl ht (F8 signsP h3);exact { g with hd:=⟨t,l',hl,fun a=>by omega,fun _=>ht,Lv ht,by rcases ht with h | h <;> simp[h]⟩,u0:=fun a=>by omega,s1:=fun a=>by omega,u2:=fun a=>by omega,s3:=fun _=>h,u3:=fun _=>h3,s4:=fun _=>g.s4 (by omega),u4:=fun _=>g.u4 (by omega),u5:=fun _=>g.u5 (by omega) }
theorem Good.of2(hl:l=t::l')(ht:qI t=true∨HK t)(h:UU T (Jf T (Qf T N) (Qq T (N+1))) 2 r f l n):Good T N r f 2 l n:=by
 have g:=Good.of3 hl ht (F8 V6 h);exact { g with hd:=⟨t,l',hl,fun a=>by omega,fun _=>ht,Lv ht,by rcases ht with h | h <;> simp[h]⟩,u0:=fun a=>by omega,s1:=fun a=>by omega,u2:=fun _=>h,s3:=fun _=>g.s3 (by omega),u3:=fun _=>g.u3 (by omega),s4:=fun _=>g.s4 (by omega),u4:=fun _=>g.u4 (by omega),u5:=fun _=>g.u5 (by omega) }
theorem Good.of1(hl:l=t::l')(ht:qI t=true)(h:SC T (Qf T N) (Qq T (N+1)) r f l n):Good T N r f 1 l n:=by
 have g:=Good.of2 hl (.inl ht) (fN h);exact { g with hd:=⟨t,l',hl,fun _=>ht,fun _ =>.inl ht,Lv (.inl ht),by simp[ht]⟩,u0:=fun a=>by omega,s1:=fun _ _=>h,u2:=fun _=>g.u2 (by omega),s3:=fun _=>g.s3 (by omega),u3:=fun _=>g.u3 (by omega),s4:=fun _=>g.s4 (by omega),u4:=fun _=>g.u4 (by omega),u5:=fun _=>g.u5 (by omega) }
theorem Good.of0(hl:l=t::l')(ht:qI t=true)(h:UU T (ZL T (Qf T N) (Qq T (N+1))) 0 r f l n):Good T N r f 0 l n:=by
 have g:=Good.of2 hl (.inl ht) (bL h hl ht);exact { g with hd:=⟨t,l',hl,fun _=>ht,fun _ =>.inl ht,Lv (.inl ht),by simp[ht]⟩,u0:=fun _=>h,s1:=fun _ h4=>mg h hl ht (h4 t l' hl),u2:=fun _=>g.u2 (by omega),s3:=fun _=>g.s3 (by omega),u3:=fun _=>g.u3 (by omega),s4:=fun _=>g.s4 (by omega),u4:=fun _=>g.u4 (by omega),u5:=fun _=>g.u5 (by omega) }
theorem Good.le{b':Int}(h:Good T N r f b l n)(hb:b≤b'):Good T N r f b' l n:=by
 obtain⟨t,l',a1,a2,a3,a4,a5⟩:=h.hd;exact⟨⟨t,l',a1,fun a=>a2 (by omega),fun a=>a3 (by omega),a4,a5⟩,fun a=>h.u0 (by omega),fun a=>h.s1 (by omega),fun a=>h.u2 (by omega),fun a=>h.s3 (by omega),fun a=>h.u3 (by omega),fun a=>h.s4 (by omega),fun a=>h.u4 (by omega),fun a=>h.u5 (by omega),h.u7⟩
theorem Good.brackets{c:Nd}(h:Good T N r false b l c)(f:Bool):Good T (N+1) (r+1) f 0 (sg [40]::(l++[sg [41]])) c:=by
 refine .of0 rfl rfl ?_;intro p x R h1 h2 h3 h5 _;obtain⟨t0,l0,k0,_,_,k3,_⟩:=h.hd;have h6:Tl T (p.pos+1) (l++sg [41]::(x::R)):=by
  have:=h5.next;simpa using this
 have h7:Tl T (p.pos+1+l.length) (sg [41]::(x::R)):=h6.skip;obtain⟨t,g1,g2⟩:=qq h1 h5;obtain⟨t',g3,g4⟩:=Qa h1 h5 (by decide);have hnot:isT t0 [41]=false:=by
  cases hz:isT t0 [41] with
  | false=>rfl
  | true =>
   obtain⟨_,_,_,hb⟩:True∧True∧True∧(HF t0∨HK t0∨qI t0=true):=⟨trivial,trivial,trivial,by assumption⟩;have hk:=yG hz;have htx:=uF hz;rcases hb with hb | hb | hb
   ·rw[HF,htx] at hb;have:=hb.2;revert this;decide
   ·rw[HK,htx] at hb;have:=hb.2;revert this;decide
   ·unfold qI isT at hb;rw[htx] at hb;simp only[Bool.or_eq_true,XT,beq_iff_eq] at hb;rcases hb with ((((((hb | hb) | hb) | hb) | hb) | hb) | hb) | hb
    ·omega
    ·omega
    ·omega
    ·omega
    all_goals (have:=hb.2;revert this;decide)
 obtain⟨n',g5,g6⟩:=h.u7 { p with pos:=p.pos+1,deep:=p.deep+1,flat:=false } (sg [41]) (x::R) h1 rfl (by show p.deep+1+r≤40;omega) h6 (by unfold Stop;decide);refine⟨n',?_,g6⟩;have e1:∀ s,isT t s=isT (sg [40]) s:=fun s=>XX g2 s;unfold ZL;rw[g1,xbS,e1,e1,e1,e1,if_neg (by decide),if_neg (by decide),if_neg (by decide),if_pos (by decide),g3,xbS,J6 (p:=zV p 1) (x:=t0) (R:=l0++sg [41]::(x::R)) h1 (by rw[k0] at h6;exact h6) hnot,xbS,if_neg (by simp),KO (p:=zV p 1) (n:=n') (k:=l.length) h1 (by show p.deep<40;omega) g5,xbS,Zx (p:=zV (zV p 1) l.length) h1 h7 (by decide),xmS];simp only[Zj,xlC,xlA,xlN];congr 3;omega
end
end Go.AL
namespace Go.AL
variable {T:List Tk}
theorem ZA:∀ {a b:List Nd} {x y:Nd},Zg x y=true→qn a b=true→qn (x::a) (y::b)=true:=by
 intro a b x y h g;simp only[qn,h,g,Bool.and_self]
theorem Ld:∀ {a b c d:List Nd},qn a b=true→qn c d=true→qn (a++c) (b++d)=true
 | [],[],_,_,_,h=>h
 | [],_::_,_,_,h,_=>by simp[qn] at h
 | _::_,[],_,_,h,_=>by simp[qn] at h
 | x::a,y::b,c,d,h,g=>by
  simp only[qn,XT] at h;exact ZA h.1 (Ld h.2 g)
def FI(t:Tk):Bool:=isT t [95] || isT t [40] || t.kind==3 || t.kind==1 || t.kind==4
def UP(T:List Tk)(g:PM Nd)(r:Nat)(l:List Tk)(n:Nd)(stop:Tk→Prop):Prop:=∀ p x R,p.e=0→p.deep+r≤40→Tl T p.pos (l++x::R)→stop x→∃ n',g p=some (n',zV p l.length)∧Zg n' n=true
structure GoodP (T:List Tk) (N r:Nat) (b:Int) (l:List Tk) (n:Nd):Prop where
 hd:∃ t l',l=t::l'∧FI t=true
 p0:b≤0→UP T (Qo T (Qq T N)) r l n (fun _=>True)
 p7:UP T (Qq T (N+1)) r l n (fun x=>FI x=false)
theorem js{p:PS}{x:Tk}{R:List Tk}(he:p.e=0)(h:Tl T p.pos (x::R)):VV T p=some (FI x):=by
 obtain⟨t,h1,h2⟩:=qq he h;unfold VV;rw[h1,xmS];subst h2;rfl
theorem GoodP.of0{N r:Nat}{l:List Tk}{n:Nd}{t:Tk}{l':List Tk}(hl:l=t::l')(ht:FI t=true)(h:UP T (Qo T (Qq T N)) r l n (fun _=>True)):GoodP T N r 0 l n:=by
 refine⟨⟨t,l',hl,ht⟩,fun _=>h,?_⟩;intro p x R h1 h3 h5 hs;obtain⟨n',g1,g2⟩:=h p x R h1 h3 h5 trivial;obtain⟨t',k1,k2⟩:=qq h1 (x:=t) (R:=l'++x::R) (by rw[hl] at h5;exact h5);refine⟨n',?_,g2⟩;show HW T (Qq T N) p=_;unfold HW;rw[k1,xbS,g1,xbS];show JO T (Qq T N) (T.length+1+1) _ _ _=_;unfold JO;split
 ·rw[js (p:=zV p l.length) h1 h5.skip,hs];rfl
 ·rfl
theorem GoodP.le{N r:Nat}{b b':Int}{l:List Tk}{n:Nd}(h:GoodP T N r b l n)(hb:b≤b'):GoodP T N r b' l n:=⟨h.hd,fun a=>h.p0 (by omega),h.p7⟩
theorem xD{kinds:List (Int×Int)}{p:PS}{x:Tk}{R:List Tk}{k:Int}(he:p.e=0)(h:Tl T p.pos (x::R))(hf:kinds.find? (fun q=>q.1==x.kind)=some (x.kind,k))(hx:x.kind≠0)(hk:k≠0):∃ a,Xc T kinds p=some (.mk k x.text x.num a [] [],zV p 1):=by
 obtain⟨t,h1,h2⟩:=qq he h;obtain⟨t',h3,h4⟩:=Qa he h hx;have e:=X7 h2;refine⟨t.pos,?_⟩;unfold Xc;rw[h1,xbS,e.1,hf];dsimp only[Option.map_some,Option.getD_some];rw[if_neg hk,h3,xmS,e.2.1,e.2.2]
theorem JC(k:Int)(t:Tx)(m a b:Int):Zg (.mk k t m a [] []) (.mk k t m b [] [])=true:=Yy rfl rfl rfl rfl rfl
theorem W5{e:PM Nd}{r:Nat}{x:Tk}{k a:Int}(hx:x.kind=1∧k=1∨x.kind=3∧k=4∨x.kind=4∧k=5):UP T (Qo T e) r [x] (.mk k x.text x.num a [] []) (fun _=>True):=by
 intro p y R h1 h3 h5 _;have h5:Tl T p.pos (x::y::R):=h5;obtain⟨t,a1,a2⟩:=qq h1 h5;have no:∀ s,isT x s=false:=Gj (by omega) (by omega);obtain⟨a',b1⟩:=xD (kinds:=[(1,1),(3,4),(4,5)]) (k:=k) h1 h5 (by rcases hx with⟨h,rfl⟩ | ⟨h,rfl⟩ | ⟨h,rfl⟩ <;> rw[h] <;> rfl) (by omega) (by omega);refine⟨_,?_,JC _ _ _ a' a⟩;unfold Qo;rw[a1,xbS,J6 h1 h5 (no _),xbS,if_neg (by simp),Jo h1 h5,no,xbS,if_neg (by decide),b1];rfl
theorem mo{e:PM Nd}{r:Nat}{a:Int}:UP T (Qo T e) r [sg [95]] (.mk 24 [] 0 a [] []) (fun _=>True):=by
 intro p y R h1 h3 h5 _;have h5:Tl T p.pos (sg [95]::y::R):=h5;obtain⟨t,a1,a2⟩:=qq h1 h5;refine⟨_,?_,JC 24 [] 0 t.pos a⟩;unfold Qo;rw[a1,xbS,Va h1 h5 rfl,xbS,if_pos rfl];rfl
theorem GoodP.brackets{N r:Nat}{b:Int}{l:List Tk}{c:Nd}(h:GoodP T N r b l c):GoodP T (N+1) (r+1) 0 (sg [40]::(l++[sg [41]])) c:=by
 refine .of0 rfl rfl ?_;intro p x R h1 h3 h5 _;have h6:Tl T (p.pos+1) (l++sg [41]::(x::R)):=by
  have:=h5.next;simpa using this
 have h7:Tl T (p.pos+1+l.length) (sg [41]::(x::R)):=h6.skip;obtain⟨t,g1,g2⟩:=qq h1 h5;obtain⟨n',g5,g6⟩:=h.p7 { p with pos:=p.pos+1,deep:=p.deep+1 } (sg [41]) (x::R) h1 (by show p.deep+1+r≤40;omega) h6 (by decide);refine⟨n',?_,g6⟩;unfold Qo;rw[g1,xbS,J6 h1 h5 rfl,xbS,if_neg (by simp),Jo h1 h5,xbS,if_pos (show isT (sg [40]) [40]=true from rfl)];unfold Yl;rw[Zx h1 h5 rfl,xbS,Jn (p:=zV p 1) (n:=n') (k:=l.length) h1 (by show p.deep<40;omega) g5,xbS,Zx (p:=zV (zV p 1) l.length) h1 h7 rfl,xmS];simp only[Zj,xlC,xlA,xlN];congr 3;omega
theorem vX{N r:Nat}{X:Nd→Int→List Tk}{w:Int}{x:Tk}{R:List Tk}(hx:FI x=false):∀ (ks:List Nd) (nd:Nd) (p:PS) (k:Nat),(∀ c∈ks,GoodP T N r 0 (QN X c 0 w) c)→nd.kids.length+ks.length≤4→T.length≤p.pos+k→p.e=0→p.deep+r≤40→Tl T p.pos (J4 X w ks++x::R) →
  ∃ ks',JO T (Qq T N) k true nd p=some (nd.addKids ks',zV p (J4 X w ks).length)∧qn ks' ks=true
 | [],nd,p,k,_,hl,hk,he,hd,h=>by
  have hlen:=h.len;obtain⟨k,rfl⟩:∃ j,k=j+1:=⟨k-1,by simp[J4] at hlen;omega⟩;refine⟨[],?_,rfl⟩;unfold JO;rw[if_pos rfl,js he h,hx];cases nd;simp[Nd.addKids,J4,zV]
 | c::ks,nd,p,k,hg,hl,hk,he,hd,h=>by
  have hlen:=h.len;obtain⟨k,rfl⟩:∃ j,k=j+1:=⟨k-1,by omega⟩;have gc:=hg c List.mem_cons_self;obtain⟨t,l',e1,e2⟩:=gc.hd;have h':Tl T p.pos (QN X c 0 w++(J4 X w ks++x::R)):=by simpa[J4] using h
  obtain⟨y,R',ey⟩:∃ y R',J4 X w ks++x::R=y::R':=by
   cases hz:J4 X w ks++x::R with
   | nil=>simp at hz
   | cons y R'=>exact⟨y,R',rfl⟩
  have h'':=h';rw[ey] at h'';obtain⟨c',g1,g2⟩:=gc.p0 (by omega) p y R' he hd h'' trivial;have hpos:1≤(QN X c 0 w).length:=by rw[e1];simp
  simp only[xlC] at hl;have hkl:(nd.addKid c').kids.length=nd.kids.length+1:=by cases nd;simp[Nd.addKid,Nd.kids]
  obtain⟨ks',g3,g4⟩:=vX hx ks (nd.addKid c') (zV p (QN X c 0 w).length) k (fun z hz=>hg z (List.mem_cons_of_mem _ hz)) (by omega) (by rw[X5];omega) he hd h'.skip;refine⟨c'::ks',?_,ZA g2 g4⟩;unfold JO;rw[if_pos rfl,js he (x:=t) (R:=l'++(J4 X w ks++x::R)) (by rw[e1] at h';exact h'),e2,xbS,if_pos rfl,W9 (by omega),xbS,g1,xbS,g3,Zj];cases nd;simp[Nd.addKid,Nd.addKids,J4]
theorem wD{N r:Nat}{f:Bool}{X:Nd→Int→List Tk}{w:Int}{x:Tk}{R:List Tk}(hx:qI x=false):∀ (ks:List Nd) (nd:Nd) (p:PS) (k:Nat),(∀ c∈ks,Good T N r f 0 (QN X c 0 w) c)→nd.kids.length+ks.length≤4→T.length≤p.pos+k→p.e=0→p.flat=f→p.deep+r≤40→Tl T p.pos (J4 X w ks++x::R) →
  ∃ ks',Yp T (Qf T N) (Qq T (N+1)) k true nd p=some (nd.addKids ks',zV p (J4 X w ks).length)∧qn ks' ks=true
 | [],nd,p,k,_,hl,hk,he,hf,hd,h=>by
  have hlen:=h.len;obtain⟨k,rfl⟩:∃ j,k=j+1:=⟨k-1,by simp[J4] at hlen;omega⟩;refine⟨[],?_,rfl⟩;obtain⟨t,h1,h2⟩:=qq he h;unfold Yp;rw[h1,xbS,Wb h2,hx];cases nd;simp[Nd.addKids,J4,zV]
 | c::ks,nd,p,k,hg,hl,hk,he,hf,hd,h=>by
  have hlen:=h.len;obtain⟨k,rfl⟩:∃ j,k=j+1:=⟨k-1,by omega⟩;have gc:=hg c List.mem_cons_self;obtain⟨t,l',e1,e2,_⟩:=gc.hd;have h':Tl T p.pos (QN X c 0 w++(J4 X w ks++x::R)):=by simpa[J4] using h
  obtain⟨y,R',ey⟩:∃ y R',J4 X w ks++x::R=y::R':=by
   cases hz:J4 X w ks++x::R with
   | nil=>simp at hz
   | cons y R'=>exact⟨y,R',rfl⟩
  have h'':=h';rw[ey] at h'';obtain⟨c',g1,g2⟩:=gc.u0 (by omega) p y R' he hf hd h'' ⟨fun a=>by omega,fun a=>by omega,fun a=>by omega,fun a=>by omega,fun a=>by omega⟩;have hpos:1≤(QN X c 0 w).length:=by rw[e1];simp
  simp only[xlC] at hl;have hkl:(nd.addKid c').kids.length=nd.kids.length+1:=by cases nd;simp[Nd.addKid,Nd.kids]
  obtain⟨t',k1,k2⟩:=qq he (x:=t) (R:=l'++(J4 X w ks++x::R)) (by rw[e1] at h';exact h');obtain⟨ks',g3,g4⟩:=wD hx ks (nd.addKid c') (zV p (QN X c 0 w).length) k (fun z hz=>hg z (List.mem_cons_of_mem _ hz)) (by omega) (by rw[X5];omega) he hf hd h'.skip;refine⟨c'::ks',?_,ZA g2 g4⟩;unfold Yp;rw[k1,xbS,Wb k2,e2 (by omega),if_pos rfl,if_pos rfl,W9 (by omega),xbS,g1,xbS,g3,Zj];cases nd;simp[Nd.addKid,Nd.addKids,J4]
theorem aY{N r:Nat}{t:Tx}{a:Int}{ks:List Nd}{X:Nd→Int→List Tk}{w:Int}(hl:ks.length≤4)(hk:∀ c∈ks,GoodP T N r 0 (QN X c 0 w) c):UP T (Qq T (N+1)) r (cn t::J4 X w ks) (.mk 5 t 0 a [] ks) (fun x=>FI x=false):=by
 intro p x R h1 h3 h5 hs;have h5:Tl T p.pos (cn t::(J4 X w ks++x::R)):=h5;obtain⟨y,R',ey⟩:∃ y R',J4 X w ks++x::R=y::R':=by
  cases hz:J4 X w ks++x::R with
  | nil=>simp at hz
  | cons y R'=>exact⟨y,R',rfl⟩
 obtain⟨t',k1,k2⟩:=qq h1 h5;obtain⟨n',g1,g2⟩:=W5 (T:=T) (e:=Qq T N) (r:=r) (x:=cn t) (k:=5) (a:=0) (.inr (.inr ⟨rfl,rfl⟩)) p y R' h1 h3 (by rw[ey] at h5;exact h5) trivial;have hn:n'.kids=[]:=by
  have:=UA g2;exact List.eq_nil_of_length_eq_zero this
 obtain⟨ks',g3,g4⟩:=vX hs ks n' (zV p 1) (T.length+2) hk (by rw[hn];simpa using hl) (by omega) h1 h3 h5.next;refine⟨n'.addKids ks',?_,?_⟩
 ·show HW T (Qq T N) p=_;unfold HW;rw[k1,xbS,g1,xbS];have e4:(t'.kind==4)=true:=by rw[(X7 k2).1];rfl
  rw[e4];show JO T (Qq T N) (T.length+2) true n' (zV p 1)=_;rw[g3,Zj];simp[Nat.add_comm]
 ·have q:=XW g2;cases n' with
  | mk k tx m ps ns kd =>
   simp only[Nd.kids] at hn;subst hn;exact Yy q.1 q.2.1 q.2.2.1 q.2.2.2.1 (by simpa[Nd.addKids,Nd.kids] using g4)
theorem eJ{N r:Nat}{f:Bool}{t:Tx}{a:Int}{ks:List Nd}{X:Nd→Int→List Tk}{w:Int}(hl:ks.length≤4)(hk:∀ c∈ks,Good T N r f 0 (QN X c 0 w) c)(ha:∀ a,UU T (ZL T (Qf T N) (Qq T (N+1))) 0 r f [cn t] (.mk 5 t 0 a [] [])):UU T (Jf T (Qf T N) (Qq T (N+1))) 2 r f (cn t::J4 X w ks) (.mk 5 t 0 a [] ks):=by
 intro p x R h1 h2 h3 h5 hs;have h5:Tl T p.pos (cn t::(J4 X w ks++x::R)):=h5;obtain⟨y,R',ey⟩:∃ y R',J4 X w ks++x::R=y::R':=by
  cases hz:J4 X w ks++x::R with
  | nil=>simp at hz
  | cons y R'=>exact⟨y,R',rfl⟩
 obtain⟨t',k1,k2⟩:=qq h1 h5;obtain⟨n',g1,g2⟩:=ha 0 p y R' h1 h2 h3 (by rw[ey] at h5;exact h5) ⟨fun a=>by omega,fun a=>by omega,fun a=>by omega,fun a=>by omega,fun a=>by omega⟩;have hn:n'.kids=[]:=by
  have:=UA g2;exact List.eq_nil_of_length_eq_zero this
 obtain⟨ks',g3,g4⟩:=wD (hs.1 (by omega)) ks n' (zV p 1) (T.length+2) hk (by rw[hn];simpa using hl) (by omega) h1 h2 h3 h5.next;refine⟨n'.addKids ks',?_,?_⟩
 ·unfold Jf;have e:=X7 k2;have e4:(t'.kind==4)=true:=by rw[e.1];rfl
  rw[k1,xbS,if_neg (by rw[e.1];exact fun z=>absurd z.1 (by show ¬ ((4:Int)=6);decide)),g1,xbS,e4];show Yp T _ _ (T.length+2) true n' (zV p 1)=_;rw[g3,Zj];simp[Nat.add_comm]
 ·have q:=XW g2;cases n' with
  | mk k tx m ps ns kd =>
   simp only[Nd.kids] at hn;subst hn;exact Yy q.1 q.2.1 q.2.2.1 q.2.2.2.1 (by simpa[Nd.addKids,Nd.kids] using g4)
theorem xL{f:Bool}{x:Tk}:Stop 0 f x:=⟨fun a=>by omega,fun a=>by omega,fun a=>by omega,fun a=>by omega,fun a=>by omega⟩
theorem Uk{e pt:PM Nd}{r:Nat}{f:Bool}{x:Tk}{k a:Int}(hx:x.kind=1∧k=1∨x.kind=2∧k=2∨x.kind=3∧k=4∨x.kind=4∧k=5):UU T (ZL T e pt) 0 r f [x] (.mk k x.text x.num a [] []):=by
 intro p y R h1 h2 h3 h5 _;have h5:Tl T p.pos (x::y::R):=h5;obtain⟨t,a1,a2⟩:=qq h1 h5;have no:∀ s,isT t s=false:=fun s=>by rw[XX a2];exact Gj (by omega) (by omega) s
 obtain⟨a',b1⟩:=xD (kinds:=[(1,1),(2,2),(3,4),(4,5)]) (k:=k) h1 h5 (by rcases hx with⟨h,rfl⟩ | ⟨h,rfl⟩ | ⟨h,rfl⟩ | ⟨h,rfl⟩ <;> rw[h] <;> rfl) (by omega) (by omega);refine⟨_,?_,JC _ _ _ a' a⟩;unfold ZL;simp only[a1,xbS,no,XU,if_false];rw[b1];rfl
theorem m7{e pt:PM Nd}{r:Nat}{f:Bool}{a:Int}:UU T (ZL T e pt) 0 r f [sg [40],sg [41]] (.mk 3 [] 0 a [] []):=by
 intro p y R h1 h2 h3 h5 _;have h5:Tl T p.pos (sg [40]::sg [41]::y::R):=h5;obtain⟨t,a1,a2⟩:=qq h1 h5;obtain⟨t',b1,b2⟩:=Qa h1 h5 (by decide);refine⟨_,?_,JC 3 [] 0 t.pos a⟩;unfold ZL;rw[a1,xbS,XX a2,XX a2,XX a2,XX a2,if_neg (by decide),if_neg (by decide),if_neg (by decide),if_pos (show isT (sg [40]) [40]=true from rfl),b1,xbS,Va (p:=zV p 1) h1 h5.next rfl,xbS,if_pos rfl];rfl
theorem yB{e pt:PM Nd}{r:Nat}{f:Bool}{a:Int}:UU T (ZL T e pt) 0 r f [ky [114,101,116,114,121]] (.mk 19 [] 0 a [] []):=by
 intro p y R h1 h2 h3 h5 _;have h5:Tl T p.pos (ky [114,101,116,114,121]::y::R):=h5;obtain⟨t,a1,a2⟩:=qq h1 h5;obtain⟨t',b1,b2⟩:=Qa h1 h5 (by decide);refine⟨_,?_,JC 19 [] 0 t.pos a⟩;unfold ZL;rw[a1,xbS,XX a2,XX a2,XX a2,if_neg (by decide),if_neg (by decide),if_pos (show isT (ky [114,101,116,114,121]) [114,101,116,114,121]=true from rfl),b1,xmS];rfl
end Go.AL
