/- next, whole. -/
import Derived.Test.YtammbegfobhflaaGreatW21
import Derived.Test.YtammbegfobhflaaGreatW22
import Derived.Test.YtammbegfobhflaaGreatW20
import Derived.Test.YtammbegfobhflaaGreatM1
set_option linter.all false
namespace Go.Proofs
open Go Go.AL
section
variable {c : Cd} {m1 m2 m3 : AL.Mode} {z1 z2 z3 : Nat} {n : Nat} {f : Bd} {id : Nat} {st : St} {K : SV → St → Prop}
theorem next_c (hw : st[id]? = some (.cells (wkCells c m1 m2 m3 z1 z2 z3 n f))) (hz : c.funs ≠ [] → z1 = 4) (hl : c.funs.length ≤ 1000) (hn : c.funs.getD n default = f) (p : Nat) (hp : p < f.code.length) (hpl : p ≤ 100000) (s : Sta) {k : Nat} (hs : GoodS k s) (hk : k ≤ 10000) (hd : s.depth ≤ 60)
    (hb : 0 ≤ (f.code.getD p default).b ∧ (f.code.getD p default).b ≤ 65535)
    (h0 : nextF c n p s = none → ∀ X, K (.tuple [X, .sc (.bool false)]) st) (h1 : ∀ m, nextF c n p s = some m → ∀ z, (m ≠ [] → z = 3) → K (.tuple [.slice .imm z (m.map tgSV), .sc (.bool true)]) st) :
    ACalls Tryz.prog 60 [.ptr id 0, i64 p, staSV s] K st := by
  by_cases hr : lookS rulesL (.sc .nilFunc) (f.code.getD p default).op = .sc .nilFunc
  · exact next_none hw hz hl hn p hp hpl s hs hk hd hb hr h0 h1
  · exact next_rule hw hz hl hn p hp hpl s hs hk hd hb hr h0 h1
end
end Go.Proofs
set_option linter.unusedSimpArgs false
set_option linter.unusedVariables false
set_option maxRecDepth 8000
namespace Go.AL
end Go.AL
namespace Go.Proofs
open Go Go.AL
theorem far_c (i : In) (K : SV → St → Prop) (st : St) (h : K (.sc (.bool (farI i))) st) : ACalls Tryz.prog 11 [inSV i] K st := by
  unfold farI at h
  refine acalls_go_pure [] Tryz.func11 rfl Tryz.results11 Tryz.ntmps11 ?_
  cases b : (i.op == 18) with
  | false =>
    rw [b] at h
    simp only [↓reduceIte, ↓c_condI, ↓c_seqH, ↓c_blockH, ↓then_nH, ↓then_rH, ↓then_eH, ↓block_nH, ↓block_rH, ↓block_eH, go_sem, inSV, inCells, b]
    exact ⟨⟨[], by simp⟩, .sc _, h⟩
  | true =>
    rw [b] at h
    simp only [↓reduceIte, ↓c_condI, ↓c_seqH, ↓c_blockH, ↓then_nH, ↓then_rH, ↓then_eH, ↓block_nH, ↓block_rH, ↓block_eH, go_sem, inSV, inCells, b]
    exact ⟨⟨[], by simp⟩, .sc _, h⟩
theorem anyFar_c (l : List In) (m : AL.Mode) (z : Nat) (hz : l ≠ [] → z = 3) (hlen : l.length ≤ 1000000) (K : SV → St → Prop) (st : St) (h : K (.sc (.bool (l.any farI))) st) : ACalls Tryz.prog 10 [.slice m z (l.map inSV), .func (.func 11) [] []] K st :=
  containsF10_c inSV farI m l z hz 11 [] (by kernel_rfl) (fun i => cellsOf_in i Tryz.aagg56 Tryz.asize56) hlen st (fun i _ K hk => far_c i K _ hk) K h
end Go.Proofs
