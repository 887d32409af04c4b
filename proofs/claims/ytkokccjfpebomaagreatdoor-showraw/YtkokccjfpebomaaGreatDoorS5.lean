/- show.Program as a plain function. -/
import Derived.Test.YtkokccjfpebomaaGreatDoorS1
import Derived.Test.YtkokccjfpebomaaGreatDoorM7
import Derived.KernelRfl
set_option linter.all false
set_option maxRecDepth 8000
namespace Go.AL
def JQ(d:Nat)(n:Nd):Option (Tx×Int) :=
 if n.kids.length=0 then some ([],1) else (qp (qR d n)).map fun r=>if r.2.2=0∧Zg n r.1=true then (qR d n,0) else ([],1)
theorem LL(d:Nat):∀ (l:List Nd) (w:Tx),w.length≤(XI d w l).length
 | [],w=>Nat.le_refl _
 | k::r,w=>by
  have h:=LL d r (w++qO [Z7 d k,[59,32]]);rw[xlA] at h;show _≤(XI d _ r).length;omega
theorem J9{s:Tx}:∃ n a e,qp s=some (n,a,e)∧Few 100000 n:=by
 unfold qp;cases hl:X8 s with
 | error x =>
  obtain⟨a,e⟩:=x;exact⟨_,_,_,rfl,xM _⟩
 | ok T =>
  have hlen:=Bj hl;obtain⟨nd,b,e,h1,h2,h3⟩:=bz (uV (Uo hl).1).1;refine⟨nd,b,e,h1,?_⟩;by_cases z:e=0
  ·exact (h2 z).2.few (by omega)
  ·rw[h3 z];exact xM _
theorem Fit.few{n:Nd}(h:Fit n):Few 100000 n:=by
 induction h with
 | mk n h h1 h2 h3 ih=>exact .mk n ih h1 h2
theorem Hb:∀ (m:Nat) (r b:Tx) (k:Nat) (x:Tx) (n:Nat),Yb m r b k = .ok (x,n)→x.length≤60
 | 0,r,b,k,x,n,h=>by simp[Yb] at h
 | m+1,[],b,k,x,n,h=>by simp[Yb] at h
 | m+1,c::r,b,k,x,n,h=>by
  unfold Yb at h;split at h
  ·cases h
  split at h
  ·split at h
   ·cases h
   ·cases h;omega
  split at h
  ·split at h
   ·cases h
   ·exact Hb m _ _ _ _ _ h
  split at h
  ·exact Hb m _ _ _ _ _ h
  ·cases h
theorem ma{w:Tx}{p:Int}{t:Tk}{n:Nat}(h:XO w p = .ok (t,n)):t.text.length≤60:=by
 unfold XO at h;split at h
 ·cases h
 split at h
 ·split at h
  ·cases h
  ·cases h;simp
 split at h
 ·split at h
  ·cases h
  ·rename_i hu;cases h;unfold Wc at hu;split at hu
   ·cases hu
   ·split at hu
    ·exact Hb _ _ _ _ _ _ hu
    ·cases hu
 split at h
 ·split at h
  ·cases h
  ·cases h;simp only[List.length_take];omega
 split at h
 ·split at h
  ·cases h;simp
  ·cases h;simp
 ·cases h
theorem df{s:Tx}{k:Nat}{T:List Tk}(h:Lx s k T):T.length≤s.length+1∧∀ t∈T,t.text.length≤60:=by
 induction h with
 | nil h=>exact⟨by simp,fun t ht=>by simp only[List.mem_singleton] at ht;subst ht;simp⟩
 | @cons s r c k n t T hd ht hr ih =>
  obtain⟨tp,tn,tl,tk⟩:=j9 ht;have hl:=congrArg List.length hd;simp only[List.length_drop,xlC] at hl;have h1:=ih.1;simp only[List.length_drop,xlC] at h1;refine⟨by simp only[xlC] at tl ⊢;omega,fun u hu=>?_⟩;rcases List.mem_cons.1 hu with rfl | hu
  ·exact ma ht
  ·exact ih.2 u hu
theorem BB{s:Tx}{n:Nd}{a e:Int}(h:qp s=some (n,a,e))(hs:s.length≤1000):wt n≤100000:=by
 by_cases he:e=0
 ·subst he;unfold qp at h;cases hl:X8 s with
  | error x=>obtain⟨b,f⟩:=x;rw[hl] at h;cases h;decide
  | ok T =>
   rw[hl] at h;obtain⟨h1,h2⟩:=df (Uo hl).1;have:=dz h h2;omega
 ·rw[(jO h).2 he];decide
theorem wZ{s:Tx}{n:Nd}{a e:Int}(h:qp s=some (n,a,e))(hs:s.length≤1000):Fit n:=n9 n (BB h hs)
theorem vi{n:Nd}(h:wt n≤100000)(d:Nat):(qR d n).length≤140737488355328:=by
 have:=FW d n;omega
def Nt:Nat→Nd→Bool
 | 0,_=>false
 | d+1,n=>n.kids.all (Nt d)
theorem tO:∀ (d:Nat) (n:Nd),Nt d n=true→Dep d n
 | 0,n,h=>by cases h
 | d+1,n,h =>.mk d n fun c hc=>tO d c (List.all_eq_true.1 h c hc)
def i9:Tx:=[100,111,40,49,43,50,41,42,51,59,102,40,120,41,40,67,111,110,115,32,49,32,78,105,108,41]
def NE:Tx:=[100,111,32,40,32,49,32,43,32,50,32,41,32,42,32,51,32,59,32,102,32,120,32,40,32,67,111,110,115,32,49,32,78,105,108,32,41]
def P5:Nd:=match qp i9 with
 | some (n,_,_)=>n
 | none=>Wf
theorem Aq:qp i9=some (P5,0,0):=by kernel_rfl
theorem AY:Dep 21 P5:=tO _ _ (by decide +kernel)
theorem iq:JQ 20 P5=some (NE,0):=by kernel_rfl
end Go.AL
