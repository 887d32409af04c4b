/- What a source's node is like: what is asked of its kids. -/
import Derived.Test.YtkokccjfpebomaaGreatDoorS1
set_option linter.all false
namespace Go.AL
inductive GE:Nd→Prop where
 | mk (n:Nd) (h:∀ c∈n.kids,GE c)
   (hk:n.kind=1∨n.kind=2∨n.kind=3∨n.kind=4∨n.kind=5∨n.kind=24∨n.kind=19∨(n.kind=6∧1≤n.kids.length)∨((n.kind=7∨n.kind=8∨n.kind=9∨n.kind=12∨n.kind=13∨n.kind=14)∧2≤n.kids.length)∨(n.kind=10∧3≤n.kids.length)∨(n.kind=11∧1≤n.kids.length) ∨
    ((n.kind=15∨n.kind=16∨n.kind=17∨n.kind=18∨n.kind=21∨n.kind=22∨n.kind=23∨n.kind=20)∧n.text=[])):GE n
theorem GE.kids{n:Nd}(h:GE n):∀ c∈n.kids,GE c:=by cases h;assumption
theorem Gj{t:Tk}(h5:t.kind≠5)(h6:t.kind≠6)(s:Tx):isT t s=false:=by
 cases h:isT t s with
 | false=>rfl
 | true =>
  unfold isT at h;simp only[XT,Bool.or_eq_true,beq_iff_eq] at h;rcases h.1 with x | x
  ·exact absurd x h5
  ·exact absurd x h6
inductive Nr:Nd→Prop where
 | mk (n:Nd) (h:∀ c∈n.kids,Nr c) (hk : -9223372036854775808≤n.num∧n.num≤9223372036854775807):Nr n
theorem Nr.kids{n:Nd}(h:Nr n):∀ c∈n.kids,Nr c:=by cases h;assumption
theorem Nr.num{n:Nd}(h:Nr n) : -9223372036854775808≤n.num∧n.num≤9223372036854775807:=by cases h;assumption
end Go.AL
