/- The abstract layer, part 32a: a call whose code is walked by hand (for claims that leave parts 28 to 37 out). -/
import Derived.Test.YtkokccjfpebomaaGreatDoorA7
import Derived.Below
set_option linter.all false
namespace Go.AL
variable {P:Program}
end Go.AL
namespace Go.AL
open Go Go.RowKit
variable {P:Program}
theorem Wa{st:St}{σ:Sig}{w w':World}(hI:Inv st σ w)(hb:Below w.heap.size w w'):Ext st σ w st σ w' where
 os:=hb.os
 tape:=hb.tape
 output:=hb.output
 size:=hb.size
 lock:=fun b o v h k=>by
  have hlt:b<w.heap.size:=by
   unfold World.cell? at k;cases hx:w.heap[b]? with
   | none=>simp[hx] at k
   | some x=>exact qh hx
  refine⟨h,?_⟩;unfold World.cell? at k ⊢;rw[hb.block b hlt];exact k
 all:=fun b hlt _=>⟨rfl,hb.block b hlt⟩
 kcells:=fun id l h=>⟨⟨l,h⟩,rfl⟩
 ktok:=fun id v h=>⟨v,h,Nat.le_refl _,fun _=>⟨rfl,fun b hb'=>⟨rfl,hb.block b (hI.tok id v b h hb').1⟩⟩⟩
 karrs:=fun id v z cs h=>⟨v,cs,h,Nat.le_refl _,fun _=>⟨rfl,rfl,fun b vals T fr _ hh=>⟨vals,by rw[hb.block b (qh hh)];exact hh,rfl⟩⟩⟩
 kmaps:=fun id es h=>⟨⟨es,h⟩,rfl,fun b ents clock _ hh=>⟨ents,clock,by rw[hb.block b (qh hh)];exact hh,Nat.le_refl _,fun _ _=>rfl⟩⟩
theorem xG{st:St}{σ:Sig}{w w':World}(hI:Inv st σ w)(hb:Below w.heap.size w w'):Inv st σ w' where
 cells:=fun id l h=>by
  obtain⟨b,cs,T,h1,h2,h3,h4,h5⟩:=hI.cells id l h;exact⟨b,cs,T,h1,by rw[hb.block b (qh h2)];exact h2,h3,fun j hj=>(h4 j hj).ext (Wa hI hb),h5⟩
 tok:=fun id v b h hb'=>by
  obtain⟨h1,h2⟩:=hI.tok id v b h hb';exact⟨Nat.lt_of_lt_of_le h1 hb.size,h2⟩
 inj:=hI.inj
 fresh:=fun b h=>hI.fresh b (Nat.le_trans hb.size h)
 arrs:=fun id v z cs h=>(hI.arrs id v z cs h).imp (fun h=>h) fun ⟨b,vals,T,h1,h2,h3,h4,h5⟩=>⟨b,vals,T,h1,by rw[hb.block b (qh h2)];exact h2,h3,fun j hj=>(h4 j hj).ext (Wa hI hb),h5⟩
 maps:=fun id es h=>by
  obtain⟨b,ents,clock,h1,h2,h3,h4⟩:=hI.maps id es h;exact⟨b,ents,clock,h1,by rw[hb.block b (qh h2)];exact h2,⟨h3.1,fun j hj=>⟨(h3.2.1 j hj).1,(h3.2.1 j hj).2.ext (Wa hI hb)⟩,h3.2.2⟩,h4⟩
 globs:=hI.globs_ext (Wa hI hb) fun _ _ _ h=>⟨h,rfl⟩
end Go.AL
namespace Go.AL
variable {P:Program}
def K0:Op→Bool
 | .store _ _ _=>true
 | _=>false
def Fe(P:Program)(M:List Nat)(ds:List (Option Tmp))(R:St→Prop)(s0:St):List Nat→List Oper→List SV→St→(List SV→St→Prop)→Prop
 | [],[],env,st,K=>K env st
 | 0::tg,o::r,env,st,K=>Zg P M ds o env s0 fun x=>Fe P M ds R s0 tg r (Zx env o.dst x) st K
 | 1::tg,o::r,env,st,K=>K0 o.op=true∧o.guard=none∧qr P M o (ZN (qV o.op.operands.toList) 0 env) st fun x s=>R s∧Fe P M ds R s0 tg r (Zx env o.dst x) s K
 | 2::tg,o::r,env,st,K=>Zg P M ds o env st fun x=>(∀ s,R s→Zg P M ds o env s fun y=>y=x)∧Fe P M ds R s0 tg r (Zx env o.dst x) st K
 | 3::tg,o::r,env,st,K=>∃ X s',qr P M o (ZN (qV o.op.operands.toList) 0 env) st (fun x s=>x=X∧s=s')∧o.guard=none∧R s'∧Fe P M ds R s0 tg r (Zx env o.dst X) s' K
 | _,_,_,_,_=>False
section
variable {M:List Nat} {ds:List (Option Tmp)} {R:St→Prop} {s0 st:St} {tg:List Nat} {o:Oper} {r:List Oper} {env:List SV} {K:List SV→St→Prop}
theorem xW{t:TypeId}{a b:Operand}:K0 (.store t a b)=true:=rfl
end
theorem gG{M:List Nat}{o:Oper}{env:List SV}{st:St}{K:SV→St→Prop}(hs:K0 o.op=true)(h:qr P M o env st K):∃ X s',qr P M o env st (fun x s=>x=X∧s=s')∧K X s':=by
 unfold K0 at hs;split at hs
 ·rename_i t x y ho;unfold qr at h ⊢;rw[ho] at h ⊢;simp only at h ⊢;obtain⟨h1,h2⟩:=h;unfold YJ at h2 ⊢;split at h2
  ·rename_i e;rw[e] at *;obtain⟨a,b,c,d,f,g⟩:=h2;exact⟨_,_,⟨h1,a,b,c,d,f,rfl,rfl⟩,g⟩
  ·rename_i e;rw[e] at *;obtain⟨a,b,c,d,f,g⟩:=h2;exact⟨_,_,⟨h1,a,b,c,d,f,rfl,rfl⟩,g⟩
  ·exact h2.elim
 ·cases hs
end Go.AL
namespace Go.AL
variable {P:Program}
def BX(P:Program)(M:List Nat)(ds:List (Option Tmp)):Nat→List Oper→List SV→St→(List SV→St→Prop)→Prop
 | 0,o::r,env,st,K=>o.guard=none∧qr P M o (ZN (qV o.op.operands.toList) 0 env) st fun x s=>XG P M ds r (Zx env o.dst x) s fun e=>K e s
 | k+1,o::r,env,st,K=>Zg P M ds o env st fun x=>BX P M ds k r (Zx env o.dst x) st K
 | _,[],_,_,_=>False
section
variable {M:List Nat} {ds:List (Option Tmp)} {st:St} {o:Oper} {r:List Oper} {env:List SV}
theorem tB{K:List SV→St→Prop}:BX P M ds 0 (o::r) env st K=(o.guard=none∧qr P M o (ZN (qV o.op.operands.toList) 0 env) st fun x s=>XG P M ds r (Zx env o.dst x) s fun e=>K e s):=rfl
theorem om{k:Nat}{K:List SV→St→Prop}:BX P M ds (k+1) (o::r) env st K=Zg P M ds o env st fun x=>BX P M ds k r (Zx env o.dst x) st K:=rfl
theorem jZ{k:Nat}{l l':List Oper}{env':List SV}{st':St}{K:List SV→St→Prop}(h2:l=l')(h3:env=env')(h4:st=st'):BX P M ds k l env st K=BX P M ds k l' env' st' K:=by rw[h2,h3,h4]
theorem jc{R:St→Prop}{s0 s0':St}{tg:List Nat}{l l':List Oper}{env':List SV}{st':St}{K:List SV→St→Prop}(h2:l=l')(h3:env=env')(h4:st=st')(h5:s0=s0'):Fe P M ds R s0 tg l env st K=Fe P M ds R s0' tg l' env' st' K:=by rw[h2,h3,h4,h5]
attribute [congr] jZ jc
attribute [go_sem] tB om
end
end Go.AL
