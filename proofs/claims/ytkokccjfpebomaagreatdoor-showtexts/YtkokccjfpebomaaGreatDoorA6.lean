/- The abstract layer, part 21: what stands behind a call, a loop or a region that draws, held: simp does not look into it. -/
import Derived.Test.YtkokccjfpebomaaGreatDoorA3
import Derived.Carry
import Derived.ChangeBears
set_option linter.all false
namespace Go.AL
variable {P:Program}
class Held (α:Type) where
 val:α
def zd(P:Program)(f:FuncId)(args:List SV)(st:St)[h:Held (SV→St→Prop)]:Prop:=ACalls P f args h.val st
def IF(P:Program)(c:Code)(env:List SV)(st:St)[h:Held (Exit→List SV→St→Prop)]:Prop:=AWp P c h.val env st
theorem vW{K:SV→St→Prop}{st:St}{a xs ys:List SV}{q:FuncId}:V9 P a st (.func (.func q) xs ys) K=(zC P q=true ∧ @zd P q (xs++a++ys) st ⟨K⟩):=rfl
theorem bT{M:List Nat}{Q:Exit→List SV→St→Prop}{env:List SV}{st:St}(c:Code):Qo P M (.loop c) Q env st = @IF P (.loop c) env st ⟨Q⟩:=rfl
theorem bW{M:List Nat}{Q:Exit→List SV→St→Prop}{env:List SV}{st:St}(id:Nat)(ops:Array Oper):Qo P M (.region id ops true) Q env st = @IF P (.region id ops true) env st ⟨Q⟩:=rfl
theorem Ct{x:SV}:Eh False x=True:=by cases x <;> first | rfl | exact eq_true fun h=>h.elim
end Go.AL
namespace Go.AL
variable {P:Program}
theorem Z2{c:Code}{Q:Exit→List SV→St→Prop}{env:List SV}{st:St}(id j z z':Nat){l:List SV}(hl:st[id]?=some (.cells l))(hj:j<l.length)(he:l.getD j .any = .slice .full z' [])
  (h:AWp P c Q env (st.set id (.cells (l.set j (.slice (.own st.length 0) z [])))++[.tok 0])):AWp P c Q env st:=by
 intro σ w t hI hR D hd;have hX:Ext st σ w (st++[.tok 0]) (σ.setMu st.length none) w:=Ext.newTok none;have hI1:=hI.newTok none (fun c hc=>by cases hc);have hlt:=zi hl;have hl1:(st++[.tok 0])[id]?=some (.cells l):=by rw[List.getElem?_append_left hlt];exact hl
 obtain⟨b,cs,T,h1,h2,h3,h4,h5⟩:=hI1.cells id l hl1;have hr:∀ i,i<(l.set j (.slice (.own st.length 0) z [])).length→Rep (st++[.tok 0]) (σ.setMu st.length none) w ((l.set j (.slice (.own st.length 0) z [])).getD i .any) (cs.getD i default):=by
  intro i hi;simp only[List.length_set] at hi;by_cases e:j=i
  ·subst e;have h6:=h4 j hi;rw[he] at h6;have h7:=XY (z':=z) h6 (.inl rfl);have e2:(l.set j (.slice (.own st.length 0) z [])).getD j .any = .slice (.own st.length 0) z []:=by simp[xgE,hi]
   rw[e2];generalize cs.getD j default=v at h7;generalize hl':([]:List SV)=l' at h7;generalize hx:SV.slice .full z l'=x at h7;cases h7 with
   | nil m z hm=>cases hx;exact .nil _ _ ⟨0,by simp,Nat.le_refl _⟩
   | slice m z l a cap vals hcap hsp hzz hc hr hm =>
    cases hx;subst hl';exact .slice _ _ _ _ _ vals hcap hsp hzz hc hr ⟨0,by simp,Nat.le_refl _,fun _ =>.inl hm⟩
   | _=>cases hx
  ·have:=h4 i hi;simpa[xgE,List.getElem?_set_ne e] using this
 have hX2:=Ext.write (w':=w) (l':=l.set j (.slice (.own st.length 0) z [])) hI1 hl1 h1 h5 rfl rfl rfl rfl (fun _ _=>rfl);have hI2:=Inv.write (w':=w) (l':=l.set j (.slice (.own st.length 0) z [])) hI1 hl1 h1 h5 rfl rfl rfl rfl (fun _ _=>rfl) h2 (by simpa using h3) hr;have e:(st++[Ob.tok 0]).set id (.cells (l.set j (.slice (.own st.length 0) z [])))=st.set id (.cells (l.set j (.slice (.own st.length 0) z [])))++[.tok 0]:=by
  rw[List.set_append_left _ _ hlt]
 rw[e] at hX2 hI2;have hX3:=hX.trans hX2;exact wp_mono (h _ _ t hI2 (hR.ext hX3) hd) fun e a w hp=>hp.ext hX3
end Go.AL
namespace Go.AL
open Go Go.RowKit
variable {P:Program}
def FO(w:World):Sig:={ lock:=fun b=>if b<w.heap.size then .all else .upto 0,μ:=fun _=>none }
section
variable {H:Type} {enc:TypeId×Value→H} {w:World} {T:TypeId→Prop}
end
end Go.AL
