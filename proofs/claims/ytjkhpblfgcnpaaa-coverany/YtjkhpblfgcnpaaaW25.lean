/- The argument of the statements: nodes, as they are read. -/
import Derived.Test.YtjkhpblfgcnpaaaW24
import Derived.Test.YtjkhpblfgcnpaaaA6
set_option linter.unusedSimpArgs false
set_option maxRecDepth 100000
namespace Go.Proofs
open Go Go.AL Go.RowKit

section
variable {H : Type} {enc : TypeId × Value → H} {w : World}

theorem cells_of3 : Try.prog.cellsOf 3 = 1 := by kernel_rfl
theorem cells_of9 : Try.prog.cellsOf 9 = 1 := by kernel_rfl
theorem cells_of22 : Try.prog.cellsOf 22 = 1 := by kernel_rfl
theorem cells_of23 : Try.prog.cellsOf 23 = 1 := by kernel_rfl
theorem cells_of25 : Try.prog.cellsOf 25 = 6 := by kernel_rfl
theorem agg9 : isAggD (Try.prog.underlying 9) = false := by rw [Try.underlying9]; rfl
theorem agg25 : isAggD (Try.prog.underlying 25) = true := by rw [Try.underlying25]; rfl

theorem rd_strs {n : Nat} {cs : List Value} {x : DataW H × List MemPlace} (h : DataW.trod enc Try.prog w 0 (fun _ => true) true n 23 cs = some x) : ∃ l, rd Try.prog w n 23 cs = [strsSV l] := by
  obtain ⟨m, css, rfl, h1, h2, h3⟩ := rd_slice Try.underlying23 h
  obtain ⟨l, h4, h5⟩ := elems_map (fun s : ByteArray => SV.sc (.string s)) (fun c => elemSV Try.prog 9 (rd Try.prog w m 9 c)) css fun c hc => by
    obtain ⟨y, hy⟩ := h3 c hc
    obtain ⟨s, hs, _⟩ := rd_string Try.underlying9 hy
    exact ⟨s, by rw [hs, elemSV, agg9]; rfl⟩
  exact ⟨l, by rw [h1, h4, cells_of9]; rfl⟩

theorem rd_nodes : ∀ (n : Nat), (∀ (cs : List Value) (x : DataW H × List MemPlace), DataW.trod enc Try.prog w 0 (fun _ => true) true n 25 cs = some x → ∃ nd, rd Try.prog w n 25 cs = (nodeSV nd).cells) ∧
    (∀ (cs : List Value) (x : DataW H × List MemPlace), DataW.trod enc Try.prog w 0 (fun _ => true) true n 22 cs = some x → ∃ l, rd Try.prog w n 22 cs = [nodesSV l] ∧ l.length ≤ 9223372036854775807) := by
  intro n
  induction n with
  | zero => exact ⟨fun cs x h => by simp [DataW.trod] at h, fun cs x h => by simp [DataW.trod] at h⟩
  | succ n ih =>
    refine ⟨fun cs x h => ?_, fun cs x h => ?_⟩
    · obtain ⟨m, hm, h1, h2⟩ := rd_struct Try.underlying25 h
      obtain rfl : n = m := by omega
      obtain ⟨y0, (g0 : DataW.trod enc Try.prog w 0 (fun _ => true) true n 3 ((cs.drop 0).take (Try.prog.cellsOf 3)) = some y0)⟩ := h2 0 _ rfl
      obtain ⟨y1, (g1 : DataW.trod enc Try.prog w 0 (fun _ => true) true n 9 ((cs.drop 1).take (Try.prog.cellsOf 9)) = some y1)⟩ := h2 1 _ rfl
      obtain ⟨y2, (g2 : DataW.trod enc Try.prog w 0 (fun _ => true) true n 3 ((cs.drop 2).take (Try.prog.cellsOf 3)) = some y2)⟩ := h2 2 _ rfl
      obtain ⟨y3, (g3 : DataW.trod enc Try.prog w 0 (fun _ => true) true n 3 ((cs.drop 3).take (Try.prog.cellsOf 3)) = some y3)⟩ := h2 3 _ rfl
      obtain ⟨y4, (g4 : DataW.trod enc Try.prog w 0 (fun _ => true) true n 23 ((cs.drop 4).take (Try.prog.cellsOf 23)) = some y4)⟩ := h2 4 _ rfl
      obtain ⟨y5, (g5 : DataW.trod enc Try.prog w 0 (fun _ => true) true n 22 ((cs.drop 5).take (Try.prog.cellsOf 22)) = some y5)⟩ := h2 5 _ rfl
      obtain ⟨k, e0, _⟩ := rd_int Try.underlying3 g0
      obtain ⟨s, e1, _⟩ := rd_string Try.underlying9 g1
      obtain ⟨nu, e2, _⟩ := rd_int Try.underlying3 g2
      obtain ⟨at_, e3, _⟩ := rd_int Try.underlying3 g3
      obtain ⟨ns, e4⟩ := rd_strs g4
      obtain ⟨ks, e5, _⟩ := ih.2 _ _ g5
      refine ⟨.mk k s nu at_ ns ks, ?_⟩
      rw [h1, cells_node]
      simp only [List.flatMap_cons, List.flatMap_nil] 
      rw [e0, e1, e2, e3, e4, e5]
      rfl
    · obtain ⟨m, css, hm, h1, h2, h3⟩ := rd_slice Try.underlying22 h
      obtain rfl : n = m := by omega
      obtain ⟨l, h4, h5⟩ := elems_map nodeSV (fun c => elemSV Try.prog 25 (rd Try.prog w n 25 c)) css fun c hc => by
        obtain ⟨y, hy⟩ := h3 c hc
        obtain ⟨nd, hn⟩ := ih.1 _ _ hy
        exact ⟨nd, by rw [hn, elemSV, agg25, if_pos rfl, nodeSV_eq]; rfl⟩
      refine ⟨l, by rw [h1, h4, cells_of25]; rfl, by rw [h5]; exact h2⟩

theorem laidOut : laidOutB Try.prog = true := by kernel_rfl
theorem read22 : Try.prog.readableRec 22 = true := by kernel_rfl
theorem row22 : 22 < Try.prog.types.size := of_decide_eq_true (by kernel_rfl)
theorem scal22 : ((Try.prog.book 22).all fun e => isAggD (Try.prog.underlying e) || Try.prog.cellsOf e == 1) = true := by kernel_rfl

theorem open_nodes {r : Reach} {base : Nat} {v : Value} {d : DataW H} {ps : List MemPlace} (hok : Value.okWide Try.prog w r base 22 v) (h : DataW.Trod enc Try.prog w 0 (fun _ => true) true 22 v d ps) :
    ∃ l, l.length ≤ 9223372036854775807 ∧ Rep [] (topS w) w (nodesSV l) v := by
  obtain ⟨n, hn⟩ := h
  obtain ⟨l, h1, h2⟩ := (rd_nodes n).2 _ _ hn
  have hr := rd_rep (kids_book laidOut read22) (fun t e ht hu => book_sized read22 ht hu) (fun e he ha => by
    have := List.all_eq_true.1 scal22 e he.2
    rw [ha] at this
    simpa using this) n 22 _ _ ⟨row22, book_self 22⟩ hn
  rw [h1, cells_of_ok Try.underlying22 hok] at hr
  exact ⟨l, h2, hr.2 0 (by simp)⟩

end
end Go.Proofs
