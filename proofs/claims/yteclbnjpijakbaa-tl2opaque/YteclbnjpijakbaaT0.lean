/- The argument of the statements: deeds, as they are read. -/
import Derived.Test.YteclbnjpijakbaaH2
import Derived.Test.YteclbnjpijakbaaA6
import Derived.Test.YteclbnjpijakbaaA7
set_option linter.unusedSimpArgs false
set_option maxRecDepth 100000
namespace Go.Proofs
open Go Go.AL Go.RowKit

section
variable {H : Type} {enc : TypeId × Value → H} {w : World}

theorem cells_of3 : Try.prog.cellsOf 3 = 1 := by kernel_rfl
theorem cells_of31 : Try.prog.cellsOf 31 = 4 := by kernel_rfl
theorem agg31 : isAggD (Try.prog.underlying 31) = true := by rw [Try.underlying31]; rfl

/-- The numbers of a deed are numbers. -/
structure DdOk (d : Dd) : Prop where
  n : -9223372036854775808 ≤ d.n ∧ d.n ≤ 9223372036854775807
  v : -9223372036854775808 ≤ d.v ∧ d.v ≤ 9223372036854775807
  t : -9223372036854775808 ≤ d.t ∧ d.t ≤ 9223372036854775807

theorem rd_deeds {n : Nat} {cs : List Value} {x : DataW H × List MemPlace} (h : DataW.trod enc Try.prog w 0 (fun _ => true) true n 22 cs = some x) :
    ∃ l : List Dd, rd Try.prog w n 22 cs = [.slice .imm 4 (l.map ddSV)] ∧ l.length ≤ 9223372036854775807 ∧ ∀ d ∈ l, DdOk d := by
  obtain ⟨m, css, rfl, h1, h2, h3⟩ := rd_slice Try.underlying22 h
  obtain ⟨l, h4, h5⟩ := elems_map (fun d : { d : Dd // DdOk d } => ddSV d.1) (fun c => elemSV Try.prog 31 (rd Try.prog w m 31 c)) css fun c hc => by
    obtain ⟨y, hy⟩ := h3 c hc
    obtain ⟨m2, rfl, k1, k2⟩ := rd_struct Try.underlying31 hy
    obtain ⟨y0, (g0 : DataW.trod enc Try.prog w 0 (fun _ => true) true m2 3 ((c.drop 0).take (Try.prog.cellsOf 3)) = some y0)⟩ := k2 0 _ rfl
    obtain ⟨y1, (g1 : DataW.trod enc Try.prog w 0 (fun _ => true) true m2 3 ((c.drop 1).take (Try.prog.cellsOf 3)) = some y1)⟩ := k2 1 _ rfl
    obtain ⟨y2, (g2 : DataW.trod enc Try.prog w 0 (fun _ => true) true m2 3 ((c.drop 2).take (Try.prog.cellsOf 3)) = some y2)⟩ := k2 2 _ rfl
    obtain ⟨y3, (g3 : DataW.trod enc Try.prog w 0 (fun _ => true) true m2 3 ((c.drop 3).take (Try.prog.cellsOf 3)) = some y3)⟩ := k2 3 _ rfl
    obtain ⟨a0, e0, w0⟩ := rd_int Try.underlying3 g0
    obtain ⟨a1, e1, w1⟩ := rd_int Try.underlying3 g1
    obtain ⟨a2, e2, w2⟩ := rd_int Try.underlying3 g2
    obtain ⟨a3, e3, w3⟩ := rd_int Try.underlying3 g3
    refine ⟨⟨⟨a0, a1, a2, a3⟩, i64_wf w2, i64_wf w3, i64_wf w1⟩, ?_⟩
    rw [elemSV, agg31, if_pos rfl, k1]
    simp only [List.flatMap_cons, List.flatMap_nil]
    rw [e0, e1, e2, e3]
    rfl
  refine ⟨l.map (·.1), ?_, by rw [List.length_map, h5]; exact h2, fun d hd => ?_⟩
  · rw [h1, h4, cells_of31, List.map_map]; rfl
  · obtain ⟨a, _, rfl⟩ := List.mem_map.1 hd
    exact a.2

theorem laidOut : laidOutB Try.prog = true := by kernel_rfl
theorem read22 : Try.prog.readableRec 22 = true := by kernel_rfl
theorem row22 : 22 < Try.prog.types.size := of_decide_eq_true (by kernel_rfl)
theorem scal22 : ((Try.prog.book 22).all fun e => isAggD (Try.prog.underlying e) || Try.prog.cellsOf e == 1) = true := by kernel_rfl

theorem open_deeds {r : Reach} {base : Nat} {v : Value} {d : DataW H} {ps : List MemPlace} (hok : Value.okWide Try.prog w r base 22 v) (h : DataW.Trod enc Try.prog w 0 (fun _ => true) true 22 v d ps) :
    ∃ l : List Dd, l.length ≤ 9223372036854775807 ∧ (∀ d ∈ l, DdOk d) ∧ Rep [] (topS w) w (.slice .imm 4 (l.map ddSV)) v := by
  obtain ⟨n, hn⟩ := h
  obtain ⟨l, h1, h2, h3⟩ := rd_deeds hn
  have hr := rd_rep (kids_book laidOut read22) (fun t e ht hu => book_sized read22 ht hu) (fun e he ha => by
    have := List.all_eq_true.1 scal22 e he.2
    rw [ha] at this
    simpa using this) n 22 _ _ ⟨row22, book_self 22⟩ hn
  rw [h1, cells_of_ok Try.underlying22 hok] at hr
  exact ⟨l, h2, h3, hr.2 0 (by simp)⟩

end
end Go.Proofs
