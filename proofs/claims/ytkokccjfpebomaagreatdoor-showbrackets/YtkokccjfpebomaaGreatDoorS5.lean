/- show.Program as a plain function. -/
import Derived.Test.YtkokccjfpebomaaGreatDoorS1
import Derived.Test.YtkokccjfpebomaaGreatDoorM7
import Derived.Test.YtkokccjfpebomaaGreatDoorW0b
import Derived.KernelRfl
set_option linter.unusedSimpArgs false
set_option linter.unusedVariables false
set_option maxRecDepth 8000
namespace Go.AL
def Wn (d:Nat) (n:Nd):Option (Tx×Int) :=
 if n.kids.length=0 then some ([],1) else (q8 (Q6 d n)).map fun r=>if r.2.2=0∧qz n r.1=true then (Q6 d n,0) else ([],1)
theorem BX (d:Nat):∀ (l:List Nd) (w:Tx),w.length≤(Yw d w l).length
 | [],w=>Nat.le_refl _
 | k::r,w=>by
  have h:=BX d r (w++Ql [XE d k,[59,32]])
  rw[List.length_append] at h
  show _≤(Yw d _ r).length
  omega
theorem Jy {s:Tx}:∃ n a e,q8 s=some (n,a,e)∧Few 100000 n:=by
 unfold q8
 cases hl:Y0 s with
 | error x =>
  obtain⟨a,e⟩:=x
  exact⟨_,_,_,rfl,uA _⟩
 | ok T =>
  have hlen:=Gy hl
  obtain⟨nd,b,e,h1,h2,h3⟩:=mH (Ha (Ki hl).1).1
  refine⟨nd,b,e,h1,?_⟩
  by_cases z:e=0
  ·exact (h2 z).2.few (by omega)
  ·rw[h3 z];exact uA _
theorem B' (d:Nat) (n:Nd):∃ t e,Wn d n=some (t,e):=by
 unfold Wn
 split
 ·exact⟨_,_,rfl⟩
 ·obtain⟨m,a,e,h,_⟩:=Jy (s:=Q6 d n)
  rw[h]
  exact⟨_,_,rfl⟩
theorem Fit.few {n:Nd} (h:Fit n):Few 100000 n:=by
 induction h with
 | mk n h h1 h2 h3 ih=>exact .mk n ih h1 h2
theorem BP {d:Nat} {n:Nd} {t:Tx} {e:Int} (h:Wn d n=some (t,e)):(e=0∧t=Q6 d n∧0<n.kids.length∧∃ m a,q8 t=some (m,a,0)∧qz n m=true)∨(e=1∧t=[]):=by
 unfold Wn at h
 split at h
 ·cases h;exact .inr ⟨rfl,rfl⟩
 ·rename_i hk
  simp only[Option.map_eq_some_iff,Prod.exists,Prod.mk.injEq] at h
  obtain⟨m,a,f,h1,h2⟩:=h
  split at h2
  ·rename_i hc
   cases h2
   refine .inl ⟨rfl,rfl,by omega,m,a,?_,hc.2⟩
   have:=hc.1
   rw[h1,this]
  ·cases h2;exact .inr ⟨rfl,rfl⟩
end Go.AL
namespace Go.AL
theorem KK:∀ (m:Nat) (r b:Tx) (k:Nat) (x:Tx) (n:Nat),Yu m r b k = .ok (x,n)→x.length≤60
 | 0,r,b,k,x,n,h=>by simp[Yu] at h
 | m+1,[],b,k,x,n,h=>by simp[Yu] at h
 | m+1,c::r,b,k,x,n,h=>by
  unfold Yu at h
  split at h
  ·cases h
  split at h
  ·split at h
   ·cases h
   ·cases h;omega
  split at h
  ·split at h
   ·cases h
   ·exact KK m _ _ _ _ _ h
  split at h
  ·exact KK m _ _ _ _ _ h
  ·cases h
theorem yQ {w:Tx} {p:Int} {t:Tk} {n:Nat} (h:Xc w p = .ok (t,n)):t.text.length≤60:=by
 unfold Xc at h
 split at h
 ·cases h
 split at h
 ·split at h
  ·cases h
  ·cases h;simp
 split at h
 ·split at h
  ·cases h
  ·rename_i hu
   cases h
   unfold Vx at hu
   split at hu
   ·cases hu
   ·split at hu
    ·exact KK _ _ _ _ _ _ hu
    ·cases hu
 split at h
 ·split at h
  ·cases h
  ·cases h
   simp only[List.length_take];omega
 split at h
 ·split at h
  ·cases h;simp
  ·cases h;simp
 ·cases h
theorem gc {s:Tx} {k:Nat} {T:List Tk} (h:Lx s k T):T.length≤s.length+1∧∀ t∈T,t.text.length≤60:=by
 induction h with
 | nil h=>exact⟨by simp,fun t ht=>by simp only[List.mem_singleton] at ht;subst ht;simp⟩
 | @cons s r c k n t T hd ht hr ih =>
  obtain⟨tp,tn,tl,tk⟩:=EZ ht
  have hl:=congrArg List.length hd
  simp only[List.length_drop,List.length_cons] at hl
  have h1:=ih.1
  simp only[List.length_drop,List.length_cons] at h1
  refine⟨by simp only[List.length_cons] at tl ⊢;omega,fun u hu=>?_⟩
  rcases List.mem_cons.1 hu with rfl | hu
  ·exact yQ ht
  ·exact ih.2 u hu
theorem Dh {s:Tx} {n:Nd} {a e:Int} (h:q8 s=some (n,a,e)) (hs:s.length≤1000):wt n≤100000:=by
 by_cases he:e=0
 ·subst he
  unfold q8 at h
  cases hl:Y0 s with
  | error x=>obtain⟨b,f⟩:=x;rw[hl] at h;cases h;decide
  | ok T =>
   rw[hl] at h
   obtain⟨h1,h2⟩:=gc (Ki hl).1
   have:=xM h h2
   omega
 ·rw[(Lc h).2 he];decide
theorem Lu {s:Tx} {n:Nd} {a e:Int} (h:q8 s=some (n,a,e)) (hs:s.length≤1000):Fit n:=pq n (Dh h hs)
theorem wc {n:Nd} (h:wt n≤100000) (d:Nat):(Q6 d n).length≤140737488355328:=by
 have:=uX d n
 omega
def ij:Nat→Nd→Bool
 | 0,_=>false
 | d+1,n=>n.kids.all (ij d)
theorem gh:∀ (d:Nat) (n:Nd),ij d n=true→Dep d n
 | 0,n,h=>by cases h
 | d+1,n,h =>.mk d n fun c hc=>gh d c (List.all_eq_true.1 h c hc)
def fc:Tx:=[100,111,40,49,43,50,41,42,51,59,102,40,120,41,40,67,111,110,115,32,49,32,78,105,108,41]
def iq:Tx:=[100,111,32,40,32,49,32,43,32,50,32,41,32,42,32,51,32,59,32,102,32,120,32,40,32,67,111,110,115,32,49,32,78,105,108,32,41]
def AP:Nd:=match q8 fc with
 | some (n,_,_)=>n
 | none=>J9
theorem ef:q8 fc=some (AP,0,0):=by kernel_rfl
theorem fZ:Dep 21 AP:=gh _ _ (by decide +kernel)
theorem fa:Wn 20 AP=some (iq,0):=by kernel_rfl
end Go.AL
