/- The arguments of the statements: lists of pairs of types, as they are read. -/
import Derived.Test.YteclbnjpijakbaaDoorW36a
import Derived.Test.YteclbnjpijakbaaDoorW9
set_option linter.unusedSimpArgs false
set_option maxRecDepth 100000
namespace Go.Proofs
open Go Go.AL Go.RowKit

section
variable {H : Type} {enc : TypeId × Value → H} {w : World}

theorem cells_of44 : Tryd.prog.cellsOf 44 = 6 := by kernel_rfl
theorem cells_of22 : Tryd.prog.cellsOf 22 = 1 := by kernel_rfl
theorem agg44 : isAggD (Tryd.prog.underlying 44) = true := by rw [Tryd.underlying44]; rfl

theorem rd_pr (n : Nat) (cs : List Value) (x : DataW H × List MemPlace) (h : DataW.trod enc Tryd.prog w 0 (fun _ => true) true n 44 cs = some x) : ∃ p : Ty × Ty, rd Tryd.prog w n 44 cs = (tySV p.1).cells ++ (tySV p.2).cells := by
  cases n with
  | zero => simp [DataW.trod] at h
  | succ n =>
    obtain ⟨m, hm, h1, h2⟩ := rd_struct Tryd.underlying44 h
    obtain rfl : n = m := by omega
    obtain ⟨y0, (g0 : DataW.trod enc Tryd.prog w 0 (fun _ => true) true n 25 ((cs.drop 0).take (Tryd.prog.cellsOf 25)) = some y0)⟩ := h2 0 _ rfl
    obtain ⟨y1, (g1 : DataW.trod enc Tryd.prog w 0 (fun _ => true) true n 25 ((cs.drop 3).take (Tryd.prog.cellsOf 25)) = some y1)⟩ := h2 1 _ rfl
    obtain ⟨a, e0⟩ := (rd_tys n).1 _ _ g0
    obtain ⟨b, e1⟩ := (rd_tys n).1 _ _ g1
    refine ⟨(a, b), ?_⟩
    rw [h1]
    simp only [List.flatMap_cons, List.flatMap_nil]
    rw [e0, e1, List.append_nil]

theorem rd_prs (n : Nat) (cs : List Value) (x : DataW H × List MemPlace) (h : DataW.trod enc Tryd.prog w 0 (fun _ => true) true n 22 cs = some x) : ∃ l : List (Ty × Ty), rd Tryd.prog w n 22 cs = [.slice .imm 6 (l.map prT)] ∧ l.length ≤ 9223372036854775807 := by
  cases n with
  | zero => simp [DataW.trod] at h
  | succ n =>
    obtain ⟨m, css, hm, h1, h2, h3⟩ := rd_slice Tryd.underlying22 h
    obtain rfl : n = m := by omega
    obtain ⟨l, h4, h5⟩ := elems_map prT (fun c => elemSV Tryd.prog 44 (rd Tryd.prog w n 44 c)) css fun c hc => by
      obtain ⟨y, hy⟩ := h3 c hc
      obtain ⟨t, hn⟩ := rd_pr n _ _ hy
      exact ⟨t, by rw [hn, elemSV, agg44, if_pos rfl]; rfl⟩
    refine ⟨l, by rw [h1, h4, cells_of44], by rw [h5]; exact h2⟩

theorem read22 : Tryd.prog.readableRec 22 = true := by kernel_rfl
theorem row22 : 22 < Tryd.prog.types.size := of_decide_eq_true (by kernel_rfl)
theorem scal22 : ((Tryd.prog.book 22).all fun e => isAggD (Tryd.prog.underlying e) || Tryd.prog.cellsOf e == 1) = true := by kernel_rfl

theorem open_prs {r : Reach} {base : Nat} {v : Value} {d : DataW H} {ps : List MemPlace} (hok : Value.okWide Tryd.prog w r base 22 v) (h : DataW.Trod enc Tryd.prog w 0 (fun _ => true) true 22 v d ps) :
    ∃ l : List (Ty × Ty), l.length ≤ 9223372036854775807 ∧ Rep [] (topS w) w (.slice .imm 6 (l.map prT)) v := by
  obtain ⟨n, hn⟩ := h
  obtain ⟨l, h1, h2⟩ := rd_prs n _ _ hn
  have hr := rd_rep (kids_book laidOut read22) (fun t e ht hu => book_sized read22 ht hu) (fun e he ha => by
    have := List.all_eq_true.1 scal22 e he.2
    rw [ha] at this
    simpa using this) n 22 _ _ ⟨row22, book_self 22⟩ hn
  rw [h1, cells_of_ok Tryd.underlying22 hok] at hr
  exact ⟨l, h2, hr.2 0 (by simp)⟩

end
end Go.Proofs
