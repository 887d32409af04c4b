/- show.Program as a plain function. -/
import Derived.Test.YtkokccjfpebomaaGreatDoorS1
import Derived.Test.YtkokccjfpebomaaGreatDoorM7
import Derived.KernelRfl
set_option linter.all false
set_option maxRecDepth 8000
namespace Go.AL
def Kw(d:Nat)(n:Nd):Option (Tx×Int) :=
 if n.kids.length=0 then some ([],1) else (qC (Zj d n)).map fun r=>if r.2.2=0∧Z3 n r.1=true then (Zj d n,0) else ([],1)
theorem FA(d:Nat):∀ (l:List Nd) (w:Tx),w.length≤(Xt d w l).length
 | [],w=>Nat.le_refl _
 | k::r,w=>by
  have h:=FA d r (w++qF [ZU d k,[59,32]]);rw[xlA] at h;show _≤(Xt d _ r).length;omega
theorem Ho{s:Tx}:∃ n a e,qC s=some (n,a,e)∧Few 100000 n:=by
 unfold qC;cases hl:YY s with
 | error x =>
  obtain⟨a,e⟩:=x;exact⟨_,_,_,rfl,uI _⟩
 | ok T =>
  have hlen:=D' hl;obtain⟨nd,b,e,h1,h2,h3⟩:=di (pG (Dg hl).1).1;refine⟨nd,b,e,h1,?_⟩;by_cases z:e=0
  ·exact (h2 z).2.few (by omega)
  ·rw[h3 z];exact uI _
theorem Fit.few{n:Nd}(h:Fit n):Few 100000 n:=by
 induction h with
 | mk n h h1 h2 h3 ih=>exact .mk n ih h1 h2
theorem Ug:∀ (m:Nat) (r b:Tx) (k:Nat) (x:Tx) (n:Nat),XR m r b k = .ok (x,n)→x.length≤60
 | 0,r,b,k,x,n,h=>by simp[XR] at h
 | m+1,[],b,k,x,n,h=>by simp[XR] at h
 | m+1,c::r,b,k,x,n,h=>by
  unfold XR at h;split at h
  ·cases h
  split at h
  ·split at h
   ·cases h
   ·cases h;omega
  split at h
  ·split at h
   ·cases h
   ·exact Ug m _ _ _ _ _ h
  split at h
  ·exact Ug m _ _ _ _ _ h
  ·cases h
theorem xx{w:Tx}{p:Int}{t:Tk}{n:Nat}(h:XE w p = .ok (t,n)):t.text.length≤60:=by
 unfold XE at h;split at h
 ·cases h
 split at h
 ·split at h
  ·cases h
  ·cases h;simp
 split at h
 ·split at h
  ·cases h
  ·rename_i hu;cases h;unfold VN at hu;split at hu
   ·cases hu
   ·split at hu
    ·exact Ug _ _ _ _ _ _ hu
    ·cases hu
 split at h
 ·split at h
  ·cases h
  ·cases h;simp only[List.length_take];omega
 split at h
 ·split at h
  ·cases h;simp
  ·cases h;simp
 ·cases h
theorem cM{s:Tx}{k:Nat}{T:List Tk}(h:Lx s k T):T.length≤s.length+1∧∀ t∈T,t.text.length≤60:=by
 induction h with
 | nil h=>exact⟨by simp,fun t ht=>by simp only[List.mem_singleton] at ht;subst ht;simp⟩
 | @cons s r c k n t T hd ht hr ih =>
  obtain⟨tp,tn,tl,tk⟩:=FL ht;have hl:=congrArg List.length hd;simp only[List.length_drop,xlC] at hl;have h1:=ih.1;simp only[List.length_drop,xlC] at h1;refine⟨by simp only[xlC] at tl ⊢;omega,fun u hu=>?_⟩;rcases List.mem_cons.1 hu with rfl | hu
  ·exact xx ht
  ·exact ih.2 u hu
theorem Ux{s:Tx}{n:Nd}{a e:Int}(h:qC s=some (n,a,e))(hs:s.length≤1000):wt n≤100000:=by
 by_cases he:e=0
 ·subst he;unfold qC at h;cases hl:YY s with
  | error x=>obtain⟨b,f⟩:=x;rw[hl] at h;cases h;decide
  | ok T =>
   rw[hl] at h;obtain⟨h1,h2⟩:=cM (Dg hl).1;have:=cg h h2;omega
 ·rw[(LU h).2 he];decide
theorem Eu{s:Tx}{n:Nd}{a e:Int}(h:qC s=some (n,a,e))(hs:s.length≤1000):Fit n:=ny n (Ux h hs)
theorem EL{n:Nd}(h:wt n≤100000)(d:Nat):(Zj d n).length≤140737488355328:=by
 have:=xA d n;omega
def I1:Nat→Nd→Bool
 | 0,_=>false
 | d+1,n=>n.kids.all (I1 d)
theorem nE:∀ (d:Nat) (n:Nd),I1 d n=true→Dep d n
 | 0,n,h=>by cases h
 | d+1,n,h =>.mk d n fun c hc=>nE d c (List.all_eq_true.1 h c hc)
def r9:Tx:=[100,111,40,49,43,50,41,42,51,59,102,40,120,41,40,67,111,110,115,32,49,32,78,105,108,41]
def CI:Tx:=[100,111,32,40,32,49,32,43,32,50,32,41,32,42,32,51,32,59,32,102,32,120,32,40,32,67,111,110,115,32,49,32,78,105,108,32,41]
def M7:Nd:=match qC r9 with
 | some (n,_,_)=>n
 | none=>VQ
theorem aW:qC r9=some (M7,0,0):=by kernel_rfl
theorem ae:Dep 21 M7:=nE _ _ (by decide +kernel)
theorem aJ:Kw 20 M7=some (CI,0):=by kernel_rfl
end Go.AL
