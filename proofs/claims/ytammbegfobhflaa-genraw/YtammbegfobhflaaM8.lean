/- The argument of GenRaw: functions, as they are read. -/
import Derived.Test.YtammbegfobhflaaW33
import Derived.Test.YtammbegfobhflaaA9
import Derived.Test.YtammbegfobhflaaRows
import Derived.ProofKit
import Derived.LaidMore
import Derived.Lay
import Derived.OpenShut
import Derived.Stop.Joined
import Derived.Shelf.Vars
import Derived.ChangeMaps5
set_option linter.all false
set_option linter.unusedSimpArgs false
set_option maxRecDepth 100000
namespace Go.Proofs
open Go Go.AL Go.RowKit
section
variable {H : Type} {enc : TypeId × Value → H} {w : World}
theorem cells_of3 : Try.prog.cellsOf 3 = 1 := by kernel_rfl
theorem cells_of31 : Try.prog.cellsOf 31 = 9 := by kernel_rfl
theorem cells_of33 : Try.prog.cellsOf 33 = 11 := by kernel_rfl
theorem cells_of45 : Try.prog.cellsOf 45 = 1 := by kernel_rfl
theorem cells_of47 : Try.prog.cellsOf 47 = 2 := by kernel_rfl
theorem agg3 : isAggD (Try.prog.underlying 3) = false := by rw [Try.underlying3]; rfl
theorem agg45 : isAggD (Try.prog.underlying 45) = false := by rw [Try.underlying45]; rfl
theorem agg47 : isAggD (Try.prog.underlying 47) = true := by rw [Try.underlying47]; rfl
theorem agg31 : isAggD (Try.prog.underlying 31) = true := by rw [Try.underlying31]; rfl
theorem agg33 : isAggD (Try.prog.underlying 33) = true := by rw [Try.underlying33]; rfl
theorem cells_of28 : Try.prog.cellsOf 28 = 4 := by kernel_rfl
theorem cells_of145 : Try.prog.cellsOf 145 = 6 := by kernel_rfl
theorem rd_ints {n : Nat} {cs : List Value} {x : DataW H × List MemPlace} (h : DataW.trod enc Try.prog w 0 (fun _ => true) true n 24 cs = some x) : ∃ l : List Int, rd Try.prog w n 24 cs = [.slice .imm 1 (l.map i64)] := by
  obtain ⟨m, css, rfl, h1, h2, h3⟩ := rd_slice Try.underlying24 h
  obtain ⟨l, h4, h5⟩ := elems_map i64 (fun c => elemSV Try.prog 3 (rd Try.prog w m 3 c)) css fun c hc => by
    obtain ⟨y, hy⟩ := h3 c hc
    obtain ⟨s, hs, _⟩ := rd_int Try.underlying3 hy
    exact ⟨s, by rw [hs, elemSV, agg3]; rfl⟩
  exact ⟨l, by rw [h1, h4, cells_of3]⟩
theorem rd_bn {n : Nat} {cs : List Value} {x : DataW H × List MemPlace} (h : DataW.trod enc Try.prog w 0 (fun _ => true) true n 47 cs = some x) : ∃ b : Bn, rd Try.prog w n 47 cs = [i64 b.loc, .slice .imm 1 (b.path.map i64)] := by
  obtain ⟨n, rfl, h1, h2⟩ := rd_struct Try.underlying47 h
  obtain ⟨y0, (g0 : DataW.trod enc Try.prog w 0 (fun _ => true) true n 3 ((cs.drop 0).take (Try.prog.cellsOf 3)) = some y0)⟩ := h2 0 _ rfl
  obtain ⟨y1, (g1 : DataW.trod enc Try.prog w 0 (fun _ => true) true n 24 ((cs.drop 1).take (Try.prog.cellsOf 24)) = some y1)⟩ := h2 1 _ rfl
  obtain ⟨k, e0, _⟩ := rd_int Try.underlying3 g0
  obtain ⟨l, e1⟩ := rd_ints g1
  refine ⟨⟨k, l⟩, ?_⟩
  rw [h1]
  simp only [List.flatMap_cons, List.flatMap_nil]
  rw [e0, e1]
  rfl
theorem rd_bns {n : Nat} {cs : List Value} {x : DataW H × List MemPlace} (h : DataW.trod enc Try.prog w 0 (fun _ => true) true n 45 cs = some x) : ∃ l : List Bn, rd Try.prog w n 45 cs = [bnsSV l] := by
  obtain ⟨m, css, rfl, h1, h2, h3⟩ := rd_slice Try.underlying45 h
  obtain ⟨l, h4, h5⟩ := elems_map bnSV (fun c => elemSV Try.prog 47 (rd Try.prog w m 47 c)) css fun c hc => by
    obtain ⟨y, hy⟩ := h3 c hc
    obtain ⟨b, hb⟩ := rd_bn hy
    exact ⟨b, by rw [hb, elemSV, agg47, if_pos rfl]; rfl⟩
  exact ⟨l, by rw [h1, h4, cells_of47]; rfl⟩
theorem rd_bds {n : Nat} {cs : List Value} {x : DataW H × List MemPlace} (h : DataW.trod enc Try.prog w 0 (fun _ => true) true n 29 cs = some x) : ∃ l : List (List Bn), rd Try.prog w n 29 cs = [.slice .imm 1 (l.map bnsSV)] := by
  obtain ⟨m, css, rfl, h1, h2, h3⟩ := rd_slice Try.underlying29 h
  obtain ⟨l, h4, h5⟩ := elems_map bnsSV (fun c => elemSV Try.prog 45 (rd Try.prog w m 45 c)) css fun c hc => by
    obtain ⟨y, hy⟩ := h3 c hc
    obtain ⟨b, hb⟩ := rd_bns hy
    exact ⟨b, by rw [hb, elemSV, agg45]; rfl⟩
  exact ⟨l, by rw [h1, h4, cells_of45]⟩
theorem rd_tree {n : Nat} {cs : List Value} {x : DataW H × List MemPlace} (h : DataW.trod enc Try.prog w 0 (fun _ => true) true n 28 cs = some x) :
    ∃ (r : Int) (p : List Int) (a b : List SV), rd Try.prog w n 28 cs = [i64 r, .slice .imm 1 (p.map i64), .slice .imm 6 a, .slice .imm 4 b] := by
  obtain ⟨n, rfl, h1, h2⟩ := rd_struct Try.underlying28 h
  obtain ⟨y0, (g0 : DataW.trod enc Try.prog w 0 (fun _ => true) true n 3 ((cs.drop 0).take (Try.prog.cellsOf 3)) = some y0)⟩ := h2 0 _ rfl
  obtain ⟨y1, (g1 : DataW.trod enc Try.prog w 0 (fun _ => true) true n 24 ((cs.drop 1).take (Try.prog.cellsOf 24)) = some y1)⟩ := h2 1 _ rfl
  obtain ⟨y2, (g2 : DataW.trod enc Try.prog w 0 (fun _ => true) true n 25 ((cs.drop 2).take (Try.prog.cellsOf 25)) = some y2)⟩ := h2 2 _ rfl
  obtain ⟨y3, (g3 : DataW.trod enc Try.prog w 0 (fun _ => true) true n 26 ((cs.drop 3).take (Try.prog.cellsOf 26)) = some y3)⟩ := h2 3 _ rfl
  obtain ⟨k, e0, _⟩ := rd_int Try.underlying3 g0
  obtain ⟨l, e1⟩ := rd_ints g1
  obtain ⟨_, _, _, e2, _, _⟩ := rd_slice Try.underlying25 g2
  obtain ⟨_, _, _, e3, _, _⟩ := rd_slice Try.underlying26 g3
  rw [cells_of145] at e2
  rw [cells_of28] at e3
  obtain ⟨a, e2⟩ : ∃ a, rd Try.prog w n 25 ((cs.drop 2).take (Try.prog.cellsOf 25)) = [.slice .imm 6 a] := ⟨_, e2⟩
  obtain ⟨b, e3⟩ : ∃ b, rd Try.prog w n 26 ((cs.drop 3).take (Try.prog.cellsOf 26)) = [.slice .imm 4 b] := ⟨_, e3⟩
  refine ⟨k, l, a, b, ?_⟩
  rw [h1]
  simp only [List.flatMap_cons, List.flatMap_nil]
  rw [e0, e1, e2, e3]
  rfl
theorem rd_cores : ∀ (n : Nat), (∀ (cs : List Value) (x : DataW H × List MemPlace), DataW.trod enc Try.prog w 0 (fun _ => true) true n 31 cs = some x → ∃ c, rd Try.prog w n 31 cs = (ciSV c).cells) ∧
    (∀ (cs : List Value) (x : DataW H × List MemPlace), DataW.trod enc Try.prog w 0 (fun _ => true) true n 23 cs = some x → ∃ l : List CI, rd Try.prog w n 23 cs = [.slice .imm 9 (l.map ciSV)]) := by
  intro n
  induction n with
  | zero => exact ⟨fun cs x h => by simp [DataW.trod] at h, fun cs x h => by simp [DataW.trod] at h⟩
  | succ n ih =>
    refine ⟨fun cs x h => ?_, fun cs x h => ?_⟩
    · obtain ⟨m, hm, h1, h2⟩ := rd_struct Try.underlying31 h
      obtain rfl : n = m := by omega
      obtain ⟨y0, (g0 : DataW.trod enc Try.prog w 0 (fun _ => true) true n 3 ((cs.drop 0).take (Try.prog.cellsOf 3)) = some y0)⟩ := h2 0 _ rfl
      obtain ⟨y1, (g1 : DataW.trod enc Try.prog w 0 (fun _ => true) true n 3 ((cs.drop 1).take (Try.prog.cellsOf 3)) = some y1)⟩ := h2 1 _ rfl
      obtain ⟨y2, (g2 : DataW.trod enc Try.prog w 0 (fun _ => true) true n 9 ((cs.drop 2).take (Try.prog.cellsOf 9)) = some y2)⟩ := h2 2 _ rfl
      obtain ⟨y3, (g3 : DataW.trod enc Try.prog w 0 (fun _ => true) true n 23 ((cs.drop 3).take (Try.prog.cellsOf 23)) = some y3)⟩ := h2 3 _ rfl
      obtain ⟨y4, (g4 : DataW.trod enc Try.prog w 0 (fun _ => true) true n 28 ((cs.drop 4).take (Try.prog.cellsOf 28)) = some y4)⟩ := h2 4 _ rfl
      obtain ⟨y5, (g5 : DataW.trod enc Try.prog w 0 (fun _ => true) true n 29 ((cs.drop 8).take (Try.prog.cellsOf 29)) = some y5)⟩ := h2 5 _ rfl
      obtain ⟨k, e0, _⟩ := rd_int Try.underlying3 g0
      obtain ⟨nu, e1, _⟩ := rd_int Try.underlying3 g1
      obtain ⟨s, e2, _⟩ := rd_string Try.underlying9 g2
      obtain ⟨ks, e3⟩ := ih.2 _ _ g3
      obtain ⟨r, p, a, b, e4⟩ := rd_tree g4
      obtain ⟨bs, e5⟩ := rd_bds g5
      refine ⟨.mk k nu s r p a b ks bs, ?_⟩
      rw [h1, cells_ci]
      simp only [List.flatMap_cons, List.flatMap_nil]
      rw [e0, e1, e2, e3, e4, e5]
      rfl
    · obtain ⟨m, css, hm, h1, h2, h3⟩ := rd_slice Try.underlying23 h
      obtain rfl : n = m := by omega
      obtain ⟨l, h4, _⟩ := elems_map ciSV (fun c => elemSV Try.prog 31 (rd Try.prog w n 31 c)) css fun c hc => by
        obtain ⟨y, hy⟩ := h3 c hc
        obtain ⟨b, hb⟩ := ih.1 _ _ hy
        exact ⟨b, by rw [hb, elemSV, agg31, if_pos rfl, cells_ci, ciSV_eq]⟩
      exact ⟨l, by rw [h1, h4, cells_of31]⟩
theorem rd_fun {n : Nat} {cs : List Value} {x : DataW H × List MemPlace} (h : DataW.trod enc Try.prog w 0 (fun _ => true) true n 33 cs = some x) : ∃ f : FI, .agg (rd Try.prog w n 33 cs) = fiSV f := by
  obtain ⟨n, rfl, h1, h2⟩ := rd_struct Try.underlying33 h
  obtain ⟨y0, (g0 : DataW.trod enc Try.prog w 0 (fun _ => true) true n 3 ((cs.drop 0).take (Try.prog.cellsOf 3)) = some y0)⟩ := h2 0 _ rfl
  obtain ⟨y1, (g1 : DataW.trod enc Try.prog w 0 (fun _ => true) true n 3 ((cs.drop 1).take (Try.prog.cellsOf 3)) = some y1)⟩ := h2 1 _ rfl
  obtain ⟨y2, (g2 : DataW.trod enc Try.prog w 0 (fun _ => true) true n 31 ((cs.drop 2).take (Try.prog.cellsOf 31)) = some y2)⟩ := h2 2 _ rfl
  obtain ⟨k, e0, _⟩ := rd_int Try.underlying3 g0
  obtain ⟨nu, e1, _⟩ := rd_int Try.underlying3 g1
  obtain ⟨c, e2⟩ := (rd_cores n).1 _ _ g2
  refine ⟨⟨k, nu, c⟩, ?_⟩
  rw [h1, fiSV]
  simp only [List.flatMap_cons, List.flatMap_nil]
  rw [e0, e1, e2, cells_ci]
  rfl
theorem rd_funs {n : Nat} {cs : List Value} {x : DataW H × List MemPlace} (h : DataW.trod enc Try.prog w 0 (fun _ => true) true n 22 cs = some x) : ∃ l : List FI, rd Try.prog w n 22 cs = [.slice .imm 11 (l.map fiSV)] := by
  obtain ⟨m, css, rfl, h1, h2, h3⟩ := rd_slice Try.underlying22 h
  obtain ⟨l, h4, h5⟩ := elems_map fiSV (fun c => elemSV Try.prog 33 (rd Try.prog w m 33 c)) css fun c hc => by
    obtain ⟨y, hy⟩ := h3 c hc
    obtain ⟨b, hb⟩ := rd_fun hy
    exact ⟨b, by rw [elemSV, agg33, if_pos rfl, hb]⟩
  exact ⟨l, by rw [h1, h4, cells_of33]⟩
theorem laidOut : laidOutB Try.prog = true := by kernel_rfl
theorem read22 : Try.prog.readableRec 22 = true := by kernel_rfl
theorem row22 : 22 < Try.prog.types.size := of_decide_eq_true (by kernel_rfl)
theorem scal22 : ((Try.prog.book 22).all fun e => isAggD (Try.prog.underlying e) || Try.prog.cellsOf e == 1) = true := by kernel_rfl
theorem open_funs {r : Reach} {base : Nat} {v : Value} {d : DataW H} {ps : List MemPlace} (hok : Value.okWide Try.prog w r base 22 v) (h : DataW.Trod enc Try.prog w 0 (fun _ => true) true 22 v d ps) :
    ∃ l : List FI, Rep [] (topS w) w (.slice .imm 11 (l.map fiSV)) v := by
  obtain ⟨n, hn⟩ := h
  obtain ⟨l, h1⟩ := rd_funs hn
  have hr := rd_rep (kids_book laidOut read22) (fun t e ht hu => book_sized read22 ht hu) (fun e he ha => by
    have := List.all_eq_true.1 scal22 e he.2
    rw [ha] at this
    simpa using this) n 22 _ _ ⟨row22, book_self 22⟩ hn
  rw [h1, cells_of_ok Try.underlying22 hok] at hr
  exact ⟨l, hr.2 0 (by simp)⟩
end
end Go.Proofs
set_option linter.unusedVariables false
namespace Go.Proofs.Ytammbegfobhflaa.genRaw
open Go.ChangeMaps Go.ChangeShapes Go.WideShapes Go.ChangeAt Go.RowKit Go.AL Go.RowKit
theorem own : ownKnob Try.prog.godebug = none := by kernel_rfl
theorem glob0 {W : World} (h : W.ShapedOpen Try.prog) : ∃ m, W.cell? ⟨0, 0, none⟩ = some (.int .i64 m) :=
  cell_of_shapedOpen_int (zero := #[.int .i64 0]) (t := 3) h (by decide +kernel) (by kernel_rfl) rfl (by kernel_rfl) (by kernel_rfl) (by kernel_rfl)
set_option maxRecDepth 100000 in
theorem lifted (os : Os) (started : os.Started) (H : Type) (enc : TypeId × Value → H) :
    ReturnsInHanded {} Try.checked os 3 .any (Rows.genRawSpec.pre6 enc Try.prog Try.f3 Rows.genRawRow.domain false) (Rows.genRawSpec.post enc Try.prog Try.f3 false true false false) := by
  refine handed_open6 (C := Try.checked) own started (by kernel_rfl) Try.func3
    (ChangeSpec.witness_shaped (enc := enc) (C := Try.checked) (os := os) (X := fun _ _ => True) false (World.laidAll Try.prog os []) #[.slice none 0 0, .int .i64 0] 8 (World.laidAll_os _ _ _) (World.shaped_of_ZipB (by kernel_rfl) (by kernel_rfl)) (by kernel_rfl) (by kernel_rfl) (by kernel_rfl) trivial) ?_
  intro W base args ds gs before hsh hval0 hW
  have hval : ∀ (j : Nat) t v, Try.f3.params[j]? = some t → args[j]? = some v → Value.okWide Try.prog W .any base t v := hval0
  have hW' := hW
  obtain ⟨p, q, hA0, hV, rfl, hfz, hnd⟩ := hW
  have hA : DataW.TrodAll enc Try.prog W 0 (fun _ => true) true Try.f3.params.toList args.toList ds p := hA0
  rw [Try.params3] at hA hval
  obtain ⟨v0, vs0, d0, ds0, p0, q0, hargs, rfl, rfl, h0, r0⟩ := trodAll_cons hA
  obtain ⟨v1, vs1, d1, ds1, p1, q1, hargs1, rfl, rfl, h1, r1⟩ := trodAll_cons r0
  obtain ⟨rfl, rfl, rfl⟩ := trodAll_nil r1
  subst hargs1
  obtain rfl : args = #[v0, v1] := by cases args; simp_all
  obtain ⟨rfl, rfl⟩ := trodVars_none hV
  obtain ⟨l, hrep⟩ := open_funs (hval 0 22 v0 rfl rfl) h0
  obtain ⟨a1, rfl, rfl, rfl, g1⟩ := open_int Try.underlying3 (hval 1 3 v1 rfl rfl) h1
  clear hA0 hval0
  simp only [List.append_nil] at hW'
  obtain ⟨m, hm⟩ := glob0 hsh
  refine (calls_topG hm (args := [.slice .imm 11 (l.map fiSV), .sc (.int .i64 a1)]) (law_c l a1 (gid := 0) (gm := m) (fun x _ => x = .sc (.bool true)) [.glob 0 (.int .i64 m)] rfl rfl) ⟨rfl, fun i hi => ?_⟩).mono fun e W' ⟨he, hg⟩ => ?_
  · match i, hi with
    | 0, _ => exact hrep
    | 1, _ => exact .sc _
  subst he
  have hlt : ∀ x ∈ p0, x.block < W.heap.size := fun x hx => by simpa using hW'.lt x (by simp [hx])
  exact ⟨_, rfl, post_below (pa := p0) (pv := []) hW' (fun _ _ _ => (trodAll_cons_mk (shut_bool Try.underlying4 _) trodAll_mk0))
    (fun sp hsp => by
      have := trodAll_cons_mk (WideElems.Trod_stays (sp' := sp) laidOut read22 row22 h0 (fun x hx => hg.same (hlt x hx)) (fun x hx => hsp x hx)) (trodAll_cons_mk (shut_int Try.underlying3 g1) trodAll_mk0)
      simp only [List.append_nil] at this
      exact this) (fun _ _ => rfl) (by simp)
    hg (ok_one (by kernel_rfl) rfl (okWide_bool_mk Try.underlying4 _))⟩
theorem over : Rows.GenRawSaid :=
  OpenClaim.holds_of_wide 3 Try.f3 rfl rfl rfl rfl rfl rfl rfl ⟨rfl, rfl, rfl, rfl, rfl⟩ rfl rfl rfl rfl rfl (by kernel_rfl) Try.func3 (by kernel_rfl)
    (of_decide_eq_true (by kernel_rfl)) (by unfold Func.isWrapper; first | (rw [if_pos (by decide +kernel)]; kernel_rfl) | (rw [if_neg (by decide +kernel)]; exact ⟨rfl, rfl⟩))
    (fun os started H enc _ => lifted os started H enc)
theorem proved : Rows.GenRawSaid :=
  over
#print axioms proved
end Go.Proofs.Ytammbegfobhflaa.genRaw
