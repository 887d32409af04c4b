/- The arguments of the statements: types, as they are read. -/
import Derived.Test.YteclbnjpijakbaaDoorData
import Derived.Test.YteclbnjpijakbaaDoorA8
set_option linter.unusedSimpArgs false
set_option maxRecDepth 100000
namespace Go.Proofs
open Go Go.AL Go.RowKit

section
variable {H : Type} {enc : TypeId × Value → H} {w : World}

theorem cells_of3 : Tryd.prog.cellsOf 3 = 1 := by kernel_rfl
theorem cells_of9 : Tryd.prog.cellsOf 9 = 1 := by kernel_rfl
theorem cells_of23 : Tryd.prog.cellsOf 23 = 1 := by kernel_rfl
theorem cells_of25 : Tryd.prog.cellsOf 25 = 3 := by kernel_rfl
theorem agg25 : isAggD (Tryd.prog.underlying 25) = true := by rw [Tryd.underlying25]; rfl

theorem rd_tys : ∀ (n : Nat), (∀ (cs : List Value) (x : DataW H × List MemPlace), DataW.trod enc Tryd.prog w 0 (fun _ => true) true n 25 cs = some x → ∃ t, rd Tryd.prog w n 25 cs = (tySV t).cells) ∧
    (∀ (cs : List Value) (x : DataW H × List MemPlace), DataW.trod enc Tryd.prog w 0 (fun _ => true) true n 23 cs = some x → ∃ l, rd Tryd.prog w n 23 cs = [tysSV l] ∧ l.length ≤ 9223372036854775807) := by
  intro n
  induction n with
  | zero => exact ⟨fun cs x h => by simp [DataW.trod] at h, fun cs x h => by simp [DataW.trod] at h⟩
  | succ n ih =>
    refine ⟨fun cs x h => ?_, fun cs x h => ?_⟩
    · obtain ⟨m, hm, h1, h2⟩ := rd_struct Tryd.underlying25 h
      obtain rfl : n = m := by omega
      obtain ⟨y0, (g0 : DataW.trod enc Tryd.prog w 0 (fun _ => true) true n 3 ((cs.drop 0).take (Tryd.prog.cellsOf 3)) = some y0)⟩ := h2 0 _ rfl
      obtain ⟨y1, (g1 : DataW.trod enc Tryd.prog w 0 (fun _ => true) true n 9 ((cs.drop 1).take (Tryd.prog.cellsOf 9)) = some y1)⟩ := h2 1 _ rfl
      obtain ⟨y2, (g2 : DataW.trod enc Tryd.prog w 0 (fun _ => true) true n 23 ((cs.drop 2).take (Tryd.prog.cellsOf 23)) = some y2)⟩ := h2 2 _ rfl
      obtain ⟨k, e0, _⟩ := rd_int Tryd.underlying3 g0
      obtain ⟨s, e1, _⟩ := rd_string Tryd.underlying9 g1
      obtain ⟨ks, e2, _⟩ := ih.2 _ _ g2
      refine ⟨.mk k s ks, ?_⟩
      rw [h1, cells_ty]
      simp only [List.flatMap_cons, List.flatMap_nil] 
      rw [e0, e1, e2]
      rfl
    · obtain ⟨m, css, hm, h1, h2, h3⟩ := rd_slice Tryd.underlying23 h
      obtain rfl : n = m := by omega
      obtain ⟨l, h4, h5⟩ := elems_map tySV (fun c => elemSV Tryd.prog 25 (rd Tryd.prog w n 25 c)) css fun c hc => by
        obtain ⟨y, hy⟩ := h3 c hc
        obtain ⟨t, hn⟩ := ih.1 _ _ hy
        exact ⟨t, by rw [hn, elemSV, agg25, if_pos rfl, tySV_eq]; rfl⟩
      refine ⟨l, by rw [h1, h4, cells_of25]; rfl, by rw [h5]; exact h2⟩

theorem laidOut : laidOutB Tryd.prog = true := by kernel_rfl
theorem read25 : Tryd.prog.readableRec 25 = true := by kernel_rfl
theorem row25 : 25 < Tryd.prog.types.size := of_decide_eq_true (by kernel_rfl)
theorem scal25 : ((Tryd.prog.book 25).all fun e => isAggD (Tryd.prog.underlying e) || Tryd.prog.cellsOf e == 1) = true := by kernel_rfl

theorem open_ty {r : Reach} {base : Nat} {v : Value} {d : DataW H} {ps : List MemPlace} (hok : Value.okWide Tryd.prog w r base 25 v) (h : DataW.Trod enc Tryd.prog w 0 (fun _ => true) true 25 v d ps) :
    ∃ t, Rep [] (topS w) w (tySV t) v := by
  obtain ⟨n, hn⟩ := h
  have hok' : ∃ cs, v = .agg cs ∧ cs.size = Tryd.prog.cellsOf 25 ∧ Row.okWide Tryd.prog w r base 25 cs := by
    unfold Value.okWide at hok
    rw [Tryd.underlying25] at hok
    exact hok
  obtain ⟨cs, rfl, _, _⟩ := hok'
  obtain ⟨t, h1⟩ := (rd_tys n).1 _ _ hn
  have hr := rd_rep (kids_book laidOut read25) (fun t e ht hu => book_sized read25 ht hu) (fun e he ha => by
    have := List.all_eq_true.1 scal25 e he.2
    rw [ha] at this
    simpa using this) n 25 _ _ ⟨row25, book_self 25⟩ hn
  rw [h1] at hr
  obtain ⟨hl, hr⟩ := hr
  rw [cells_ty] at hl hr
  have hc : (Value.agg cs).cells.toList = cs.toList := rfl
  rw [hc] at hl hr
  refine ⟨t, ?_⟩
  rw [tySV_eq]
  refine .agg _ cs (by simpa using hl.symm) fun i hi => ?_
  have := hr i hi
  rw [List.getD_eq_getElem?_getD (l := cs.toList), Array.getElem?_toList] at this
  rw [Array.getD_eq_getD_getElem?]
  exact this

/-- Of lists of types. -/
theorem open_tys {r : Reach} {base : Nat} {v : Value} {d : DataW H} {ps : List MemPlace} (hok : Value.okWide Tryd.prog w r base 23 v) (h : DataW.Trod enc Tryd.prog w 0 (fun _ => true) true 23 v d ps) (hrd : Tryd.prog.readableRec 23 = true) (hrow : 23 < Tryd.prog.types.size)
    (hsc : ((Tryd.prog.book 23).all fun e => isAggD (Tryd.prog.underlying e) || Tryd.prog.cellsOf e == 1) = true) :
    ∃ l, l.length ≤ 9223372036854775807 ∧ Rep [] (topS w) w (tysSV l) v := by
  obtain ⟨n, hn⟩ := h
  obtain ⟨l, h1, h2⟩ := (rd_tys n).2 _ _ hn
  have hr := rd_rep (kids_book laidOut hrd) (fun t e ht hu => book_sized hrd ht hu) (fun e he ha => by
    have := List.all_eq_true.1 hsc e he.2
    rw [ha] at this
    simpa using this) n 23 _ _ ⟨hrow, book_self 23⟩ hn
  rw [h1, cells_of_ok Tryd.underlying23 hok] at hr
  exact ⟨l, h2, hr.2 0 (by simp)⟩

end
end Go.Proofs
