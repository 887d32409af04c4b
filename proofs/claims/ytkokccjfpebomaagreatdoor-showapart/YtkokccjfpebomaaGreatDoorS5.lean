/- show.Program as a plain function. -/
import Derived.Test.YtkokccjfpebomaaGreatDoorS1
import Derived.Test.YtkokccjfpebomaaGreatDoorM7
import Derived.Test.YtkokccjfpebomaaGreatDoorW0b
import Derived.KernelRfl
set_option linter.unusedSimpArgs false
set_option linter.unusedVariables false
set_option maxRecDepth 8000
namespace Go.AL
def JQ (d:Nat) (n:Nd):Option (Tx×Int) :=
 if n.kids.length=0 then some ([],1) else (qP (QH d n)).map fun r=>if r.2.2=0∧qK n r.1=true then (QH d n,0) else ([],1)
theorem zgg (d:Nat):∀ (l:List Nd) (w:Tx),w.length≤(Yf d w l).length
 | [],w=>Nat.le_refl _
 | k::r,w=>by
  have h:=zgg d r (w++Qa [Xl d k,[59,32]])
  rw[List.length_append] at h
  show _≤(Yf d _ r).length
  omega
theorem Jf {s:Tx}:∃ n a e,qP s=some (n,a,e)∧Few 100000 n:=by
 unfold qP
 cases hl:YQ s with
 | error x =>
  obtain⟨a,e⟩:=x
  exact⟨_,_,_,rfl,zml _⟩
 | ok T =>
  have hlen:=zfB hl
  obtain⟨nd,b,e,h1,h2,h3⟩:=zqW (zok (zd5 hl).1).1
  refine⟨nd,b,e,h1,?_⟩
  by_cases z:e=0
  ·exact (h2 z).2.few (by omega)
  ·rw[h3 z];exact zml _
theorem zmX (d:Nat) (n:Nd):∃ t e,JQ d n=some (t,e):=by
 unfold JQ
 split
 ·exact⟨_,_,rfl⟩
 ·obtain⟨m,a,e,h,_⟩:=Jf (s:=QH d n)
  rw[h]
  exact⟨_,_,rfl⟩
theorem Fit.few {n:Nd} (h:Fit n):Few 100000 n:=by
 induction h with
 | mk n h h1 h2 h3 ih=>exact .mk n ih h1 h2
theorem znU {d:Nat} {n:Nd} {t:Tx} {e:Int} (h:JQ d n=some (t,e)):(e=0∧t=QH d n∧0<n.kids.length∧∃ m a,qP t=some (m,a,0)∧qK n m=true)∨(e=1∧t=[]):=by
 unfold JQ at h
 split at h
 ·cases h;exact .inr ⟨rfl,rfl⟩
 ·rename_i hk
  simp only[Option.map_eq_some_iff,Prod.exists,Prod.mk.injEq] at h
  obtain⟨m,a,f,h1,h2⟩:=h
  split at h2
  ·rename_i hc
   cases h2
   refine .inl ⟨rfl,rfl,by omega,m,a,?_,hc.2⟩
   have:=hc.1
   rw[h1,this]
  ·cases h2;exact .inr ⟨rfl,rfl⟩
theorem zkz {d:Nat} {n m:Nd} {a:Int} {t:Tx} (ht:t=QH d n) (hk:0<n.kids.length) (hp:qP t=some (m,a,0)) (hs:qK n m=true):JQ d m=some (t,0):=by
 have hw:=zls d hs
 unfold JQ
 rw[if_neg (by rw[←zaS hs];omega),←hw,←ht,hp]
 simp only[Option.map_some]
 rw[if_pos ⟨trivial,zgv m⟩]
end Go.AL
namespace Go.AL
theorem zby:∀ (m:Nat) (r b:Tx) (k:Nat) (x:Tx) (n:Nat),YS m r b k = .ok (x,n)→x.length≤60
 | 0,r,b,k,x,n,h=>by simp[YS] at h
 | m+1,[],b,k,x,n,h=>by simp[YS] at h
 | m+1,c::r,b,k,x,n,h=>by
  unfold YS at h
  split at h
  ·cases h
  split at h
  ·split at h
   ·cases h
   ·cases h;omega
  split at h
  ·split at h
   ·cases h
   ·exact zby m _ _ _ _ _ h
  split at h
  ·exact zby m _ _ _ _ _ h
  ·cases h
theorem znY {w:Tx} {p:Int} {t:Tk} {n:Nat} (h:Yl w p = .ok (t,n)):t.text.length≤60:=by
 unfold Yl at h
 split at h
 ·cases h
 split at h
 ·split at h
  ·cases h
  ·cases h;simp
 split at h
 ·split at h
  ·cases h
  ·rename_i hu
   cases h
   unfold zaZ at hu
   split at hu
   ·cases hu
   ·split at hu
    ·exact zby _ _ _ _ _ _ hu
    ·cases hu
 split at h
 ·split at h
  ·cases h
  ·cases h
   simp only[List.length_take];omega
 split at h
 ·split at h
  ·cases h;simp
  ·cases h;simp
 ·cases h
theorem zqQ {s:Tx} {k:Nat} {T:List Tk} (h:Lx s k T):T.length≤s.length+1∧∀ t∈T,t.text.length≤60:=by
 induction h with
 | nil h=>exact⟨by simp,fun t ht=>by simp only[List.mem_singleton] at ht;subst ht;simp⟩
 | @cons s r c k n t T hd ht hr ih =>
  obtain⟨tp,tn,tl,tk⟩:=zkE ht
  have hl:=congrArg List.length hd
  simp only[List.length_drop,List.length_cons] at hl
  have h1:=ih.1
  simp only[List.length_drop,List.length_cons] at h1
  refine⟨by simp only[List.length_cons] at tl ⊢;omega,fun u hu=>?_⟩
  rcases List.mem_cons.1 hu with rfl | hu
  ·exact znY ht
  ·exact ih.2 u hu
theorem Jk {s:Tx} {n:Nd} {a e:Int} (h:qP s=some (n,a,e)) (hs:s.length≤1000):wt n≤100000:=by
 by_cases he:e=0
 ·subst he
  unfold qP at h
  cases hl:YQ s with
  | error x=>obtain⟨b,f⟩:=x;rw[hl] at h;cases h;decide
  | ok T =>
   rw[hl] at h
   obtain⟨h1,h2⟩:=zqQ (zd5 hl).1
   have:=zoL h h2
   omega
 ·rw[(zhB h).2 he];decide
theorem zaf {s:Tx} {n:Nd} {a e:Int} (h:qP s=some (n,a,e)) (hs:s.length≤1000):Fit n:=zlA n (Jk h hs)
theorem JV {n:Nd} (h:wt n≤100000) (d:Nat):(QH d n).length≤140737488355328:=by
 have:=zn6 d n
 omega
def zyl:Nat→Nd→Bool
 | 0,_=>false
 | d+1,n=>n.kids.all (zyl d)
theorem zoR:∀ (d:Nat) (n:Nd),zyl d n=true→Dep d n
 | 0,n,h=>by cases h
 | d+1,n,h =>.mk d n fun c hc=>zoR d c (List.all_eq_true.1 h c hc)
def zut:Tx:=[100,111,40,49,43,50,41,42,51,59,102,40,120,41,40,67,111,110,115,32,49,32,78,105,108,41]
def zzk:Tx:=[100,111,32,40,32,49,32,43,32,50,32,41,32,42,32,51,32,59,32,102,32,120,32,40,32,67,111,110,115,32,49,32,78,105,108,32,41]
def ndL:Nd:=match qP zut with
 | some (n,_,_)=>n
 | none=>JH
theorem zvb:qP zut=some (ndL,0,0):=by kernel_rfl
theorem zvq:Dep 21 ndL:=zoR _ _ (by decide +kernel)
theorem zuL:JQ 20 ndL=some (zzk,0):=by kernel_rfl
end Go.AL
