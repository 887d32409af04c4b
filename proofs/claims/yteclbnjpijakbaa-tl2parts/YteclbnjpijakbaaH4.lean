/- The harness: Tl2Parts. -/
import Derived.Test.YteclbnjpijakbaaP4
import Derived.Test.YteclbnjpijakbaaT0
set_option linter.unusedSimpArgs false
set_option linter.unusedVariables false
set_option maxRecDepth 8000
namespace Go.Proofs
open Go Go.AL

/-- A number made one that may be. -/
def nrm (n m : Int) : Int := (if n < 0 then -(n + 1) else n).tmod m

theorem nrm_in (n : Int) {m : Int} (hm : 0 < m) : 0 ≤ nrm n m ∧ nrm n m < m := by
  unfold nrm
  refine ⟨Int.tmod_nonneg _ (by split <;> omega), Int.tmod_lt_of_pos _ hm⟩
theorem nrm_neg {n m : Int} (h : n < 0) : (-(n + 1)).tmod m = nrm n m := by unfold nrm; rw [if_pos h]
theorem nrm_pos {n m : Int} (h : ¬ n < 0) : n.tmod m = nrm n m := by unfold nrm; rw [if_neg h]
theorem nrm_w1 {n : Int} (h : -9223372036854775808 ≤ n ∧ n ≤ 9223372036854775807) (hn : n < 0) : IntKind.i64.wrap (n + 1) = n + 1 := by rw [IntWalk.i64_in _ (by omega)]
theorem nrm_w2 {n : Int} (h : -9223372036854775808 ≤ n ∧ n ≤ 9223372036854775807) (hn : n < 0) : IntKind.i64.wrap (0 - (n + 1)) = -(n + 1) := by rw [IntWalk.i64_in _ (by omega)]; omega

theorem dd_get2 {l : List Dd} {k : Nat} (h : k < l.length) : (l.map ddSV).getD k .any = ddSV (l.getD k default) := by simp [List.getD_eq_getElem?_getD, h]

/-- The cells of a list of numbers, one of them another. -/
theorem want_set {l : List Int} {n : Nat} (h : n < l.length) (v : Int) : (l.map i64).take n ++ i64 v :: (l.map i64).drop (n + 1) = (l.set n v).map i64 := by
  rw [List.map_set, List.set_eq_take_append_cons_drop, if_pos (by simpa using h)]
theorem want_drop {l : List Int} {n : Nat} (h : n < l.length) : (l.map i64).drop n = i64 (l.getD n 0) :: (l.map i64).drop (n + 1) := by
  rw [List.drop_eq_getElem_cons (by simpa using h)]; simp [List.getD_eq_getElem?_getD, h]

/-- What stands ahead of round k. -/
structure HInv (e0 wid : Nat) (s : St) (E : EG) (b : Nat) (rs : List Int) (maps : List FM) (want : List Int) : Prop where
  eng : EngAt s E
  id : E.id = e0
  abs : E.abs = partsE rs maps
  fine : FineP b E.abs
  out : ¬ E.has wid
  box : s[wid]? = some (.arr 1 1 (want.map i64))

theorem HInv.turn {e0 wid : Nat} {s s' : St} {E E' : EG} {b b' : Nat} {rs rs' : List Int} {maps maps' : List FM} {want : List Int} (h : HInv e0 wid s E b rs maps want) (h1 : EngAt s' E') (h2 : Fr s E s' E') (h3 : E'.abs = partsE rs' maps') (h4 : FineP b' (partsE rs' maps')) : HInv e0 wid s' E' b' rs' maps' want where
  eng := h1
  id := h2.id.trans h.id
  abs := h3
  fine := by rw [h3]; exact h4
  out := fun e => by
    rcases h2.new wid e with q | q
    · exact h.out q
    · have := lt_of_get h.box; omega
  box := (h2.old wid (lt_of_get h.box) h.out).trans h.box

theorem HInv.set {e0 wid : Nat} {s : St} {E : EG} {b : Nat} {rs : List Int} {maps : List FM} {want : List Int} (h : HInv e0 wid s E b rs maps want) (want' : List Int) : HInv e0 wid (s.set wid (.arr 1 1 (want'.map i64))) E b rs maps want' where
  eng := h.eng.of_same fun j hj => List.getElem?_set_ne (by rintro rfl; exact h.out hj)
  id := h.id
  abs := h.abs
  fine := h.fine
  out := h.out
  box := List.getElem?_set_self (lt_of_get h.box)

def wr (maps : List FM) (n v : Int) : List FM := maps.set (maps.length - 1) (fmPut (maps.getD (maps.length - 1) fun _ => none) n v)

theorem HInv.write {e0 wid : Nat} {s : St} {E : EG} {b : Nat} {rs : List Int} {maps : List FM} {want : List Int} (h : HInv e0 wid s E b rs maps want) (hb : b ≤ 80000) {n : Int} (hn : 0 ≤ n ∧ n < 4) (v : Int) (K : SV → St → Prop)
    (k : ∀ s' E', HInv e0 wid s' E' (b + 1) rs (wr maps n v) want → K (i64 0) s') : ACalls Try.prog 14 [.ptr e0 0, i64 0, i64 n, i64 v] K s := by
  have hw := parts_write rs maps hn v
  have hf := fine_write h.fine 0 n v
  have c := write_c h.eng (h.fine.fine h.eng (by omega)) 0 n v
  rw [h.abs, hw] at hf
  rw [h.id, h.abs, hw] at c
  exact c K fun s' E' h1 h2 h3 => k s' E' (h.turn h1 h2 h3 hf)

theorem HInv.part {e0 wid : Nat} {s : St} {E : EG} {b : Nat} {rs : List Int} {maps : List FM} {want : List Int} (h : HInv e0 wid s E b rs maps want) (hb : b ≤ 80000) (K : SV → St → Prop)
    (k : ∀ s' E', HInv e0 wid s' E' (b + 1) rs (maps ++ [fun _ => none]) want → K (i64 0) s') : ACalls Try.prog 13 [.ptr e0 0, i64 0] K s := by
  have hf := fine_part h.fine 0
  have c := part_c h.eng (h.fine.fine h.eng (by omega)) 0
  rw [h.abs, parts_part] at hf
  rw [h.id, h.abs, parts_part] at c
  exact c K fun s' E' h1 h2 h3 => k s' E' (h.turn h1 h2 h3 hf)

theorem HInv.shut {e0 wid : Nat} {s : St} {E : EG} {b : Nat} {rs : List Int} {p q : FM} {want : List Int} (h : HInv e0 wid s E b rs [p, q] want) (hb : b ≤ 80000) :
    (∀ (K : SV → St → Prop), (∀ s' E', HInv e0 wid s' E' (b + 1) rs [fmOver q p] want → K (i64 0) s') → ACalls Try.prog 15 [.ptr e0 0, i64 0] K s) ∧
    (∀ (K : SV → St → Prop), (∀ s' E', HInv e0 wid s' E' (b + 1) rs [p] want → K (i64 0) s') → ACalls Try.prog 16 [.ptr e0 0, i64 0] K s) := by
  have hf := fine_shut h.fine 0 true
  have hf2 := fine_shut h.fine 0 false
  have c := join_c h.eng (h.fine.fine h.eng (by omega)) 0
  have c2 := undo_c h.eng (h.fine.fine h.eng (by omega)) 0
  rw [h.abs, parts_join] at hf
  rw [h.abs, parts_undo] at hf2
  rw [h.id, h.abs, parts_join] at c
  rw [h.id, h.abs, parts_undo] at c2
  exact ⟨fun K k => c K fun s' E' h1 h2 h3 => k s' E' (h.turn h1 h2 h3 hf), fun K k => c2 K fun s' E' h1 h2 h3 => k s' E' (h.turn h1 h2 h3 hf2)⟩

theorem HInv.read {e0 wid : Nat} {s : St} {E : EG} {b : Nat} {rs : List Int} {p : FM} {want : List Int} (h : HInv e0 wid s E b rs [p] want) (hb : b ≤ 80000) (hs : seen p want) {n : Int} (hn : 0 ≤ n ∧ n < 4) (K : SV → St → Prop)
    (k : ∀ s' E' rs', HInv e0 wid s' E' (b + 1) rs' [p] want → K (.tuple [i64 (want.getD n.toNat 0), i64 0]) s') : ACalls Try.prog 17 [.ptr e0 0, i64 0, i64 n] K s := by
  obtain ⟨rs', hr⟩ := parts_read rs p hn
  have hf := fine_read h.fine 0 n
  have c := read_c h.eng (h.fine.fine h.eng (by omega)) 0 n
  rw [h.abs, hr] at hf
  rw [h.id, h.abs, hr] at c
  refine c K fun s' E' h1 h2 h3 => ?_
  have := k s' E' rs' (h.turn h1 h2 h3 hf)
  rw [← hs n hn] at this
  exact this

theorem both_of {Z A B : Prop} (hz : Z) (h : Z → A ∧ B) : A ∧ B := h hz

set_option maxHeartbeats 16000000 in
theorem parts_law_c (l : List Dd) (hl : l.length ≤ 9223372036854775807) (hd : ∀ d ∈ l, DdOk d) (frm : Int) (hfr : -9223372036854775808 ≤ frm ∧ frm ≤ 9223372036854775807) (keep : Bool) (K : SV → St → Prop) (st : St) (h : ∀ s, K (.sc (.bool true)) s) :
    ACalls Try.prog 3 [.slice .imm 4 (l.map ddSV), i64 frm, .sc (.bool keep)] K st := by
  refine acalls_go (M := [1000024]) Try.func3 rfl Try.results3 Try.ntmps3 ?_
  have hb := @hbegin_c st
  simp -implicitDefEqProofs only [go_sem, reduceCtorEq, Nat.reduceAdd, Nat.reduceMul, Nat.reduceLeDiff, Nat.reduceLT, Int.reduceLE, Int.reduceLT, Int.reduceEq, Nat.reduceBEq, Nat.reduceEqDiff]
  refine hb _ fun s0 E0 R0 hB0 a0 r0 => ?_
  have f0 : FineP 4 E0.abs := by
    rw [a0]
    exact fine_make (fine_make (fine_make (fine_make fine_new _) _) _) _
  have hbg := begin_c hB0.eng 0
  rw [a0] at hbg
  simp -implicitDefEqProofs only [go_sem, reduceCtorEq, Nat.reduceAdd, Nat.reduceMul, Nat.reduceLeDiff, Nat.reduceLT, Int.reduceLE, Int.reduceLT, Int.reduceEq, Nat.reduceBEq, Nat.reduceEqDiff]
  refine hbg _ fun s1 E1 h1 q1 a1 => ?_
  have a1 : E1.abs = partsE [] [fun _ => none] := a1.trans parts_begin
  have e1 : E1.id = E0.id := q1.id
  have f1 : FineP 5 E1.abs := by
    have := fine_begin f0 0
    rw [a0] at this
    rw [a1, ← parts_begin]; exact this
  have hl1 : ∀ j, E1.has j → j ≠ s1.length := fun j hj => Nat.ne_of_lt (h1.has_lt hj)
  have hI0 : HInv E0.id s1.length (s1 ++ [Ob.arr 1 1 ([10, 11, 12, 13].map i64)]) E1 5 [] [fun _ => none] [10, 11, 12, 13] :=
    ⟨(h1.app _).1, e1, a1, f1, fun e => hl1 _ e rfl, by simp⟩
  obtain ⟨wid, hwid⟩ : ∃ wid, wid = s1.length := ⟨_, rfl⟩
  rw [← hwid] at hI0
  obtain ⟨f, hf⟩ : ∃ f, f = nrm frm 13 := ⟨_, rfl⟩
  have hfin := nrm_in frm (m := 13) (by decide)
  rw [← hf] at hfin
  simp -implicitDefEqProofs only [go_sem, reduceCtorEq, Nat.reduceAdd, Nat.reduceMul, Nat.reduceLeDiff, Nat.reduceLT, Int.reduceLE, Int.reduceLT, Int.reduceEq, Nat.reduceBEq, Nat.reduceEqDiff]
  apply both_of
  rotate_left
  · intro z
    refine ⟨fun c => ?_, fun c => ?_⟩
    · have c : frm < 0 := by simpa using c
      have x1 := nrm_w1 hfr c
      have x2 := nrm_w2 hfr c
      have x3 := nrm_neg (m := 13) c
      rw [← hf] at x3
      simp -implicitDefEqProofs only [go_sem, reduceCtorEq, Nat.reduceAdd, Nat.reduceMul, Nat.reduceLeDiff, Nat.reduceLT, Int.reduceLE, Int.reduceLT, Int.reduceEq, Nat.reduceBEq, Nat.reduceEqDiff, x1, x2, x3]
      rw [← hwid]
      refine awp_weaken (b := [.slice .imm 4 (l.map ddSV), i64 f, .sc (.bool keep), .any, .any, .any, .any, .ptr E0.id 0, .any, .arr wid 1 4, i64 0, .any, .any, .any, .any, .any, .any, .any, .any, .any, .any, .any, .any, .any, .any, .any, .any, .any, .any, .any, .any, .any, .any, .any, .any, .any, .any, .any, .any, .any, .any, .any, .any, .any, .any, .any, .any, .any, .any, .any, .any, .any, .any, .any, .any, .any, .any, .any, .any, .any, .any, .any, .any, .any, .any, .any, .any, .any, .any, .any, .any, .any, .any, .any, .any, .any, .any, .any, .any, .any, .any, .any, .any, .any, .any, .any, .any, .any, .any, .any, .any, .any, .any, .any, .any, .any, .any, .any, .any, .any, .any, .any, .any, .any, .any, .any, .any, .any, .any, .any, .any, .any, .any, .any, .any, .any, .any]) ?_ z
      repeat (first | exact leEnv_nil | refine leEnv_any _ ?_ | refine leEnv_same _ ?_ | refine leEnv_norm _ ?_)
    · have c : ¬ frm < 0 := by simpa using c
      have x3 := nrm_pos (m := 13) c
      rw [← hf] at x3
      simp -implicitDefEqProofs only [go_sem, reduceCtorEq, Nat.reduceAdd, Nat.reduceMul, Nat.reduceLeDiff, Nat.reduceLT, Int.reduceLE, Int.reduceLT, Int.reduceEq, Nat.reduceBEq, Nat.reduceEqDiff, x3]
      rw [← hwid]
      refine awp_weaken (b := [.slice .imm 4 (l.map ddSV), i64 f, .sc (.bool keep), .any, .any, .any, .any, .ptr E0.id 0, .any, .arr wid 1 4, i64 0, .any, .any, .any, .any, .any, .any, .any, .any, .any, .any, .any, .any, .any, .any, .any, .any, .any, .any, .any, .any, .any, .any, .any, .any, .any, .any, .any, .any, .any, .any, .any, .any, .any, .any, .any, .any, .any, .any, .any, .any, .any, .any, .any, .any, .any, .any, .any, .any, .any, .any, .any, .any, .any, .any, .any, .any, .any, .any, .any, .any, .any, .any, .any, .any, .any, .any, .any, .any, .any, .any, .any, .any, .any, .any, .any, .any, .any, .any, .any, .any, .any, .any, .any, .any, .any, .any, .any, .any, .any, .any, .any, .any, .any, .any, .any, .any, .any, .any, .any, .any, .any, .any, .any, .any, .any, .any]) ?_ z
      repeat (first | exact leEnv_nil | refine leEnv_any _ ?_ | refine leEnv_same _ ?_ | refine leEnv_norm _ ?_)
  refine awp_rounds [] (fun m e s => ∃ (k : Nat) (E : EG) (maps : List FM) (want : List Int), k + m = 12 ∧ k ≤ l.length ∧ HInv E0.id wid s E (5 + 2 * k) [] maps want ∧ PInv f keep k maps want ∧
    e = [.slice .imm 4 (l.map ddSV), i64 f, .sc (.bool keep), .any, .any, .any, .any, .ptr E0.id 0, .any, .arr wid 1 4, i64 k, .any, .any, .any, .any, .any, .any, .any, .any, .any, .any, .any, .any, .any, .any, .any, .any, .any, .any, .any, .any, .any, .any, .any, .any, .any, .any, .any, .any, .any, .any, .any, .any, .any, .any, .any, .any, .any, .any, .any, .any, .any, .any, .any, .any, .any, .any, .any, .any, .any, .any, .any, .any, .any, .any, .any, .any, .any, .any, .any, .any, .any, .any, .any, .any, .any, .any, .any, .any, .any, .any, .any, .any, .any, .any, .any, .any, .any, .any, .any, .any, .any, .any, .any, .any, .any, .any, .any, .any, .any, .any, .any, .any, .any, .any, .any, .any, .any, .any, .any, .any, .any, .any, .any, .any, .any, .any]) (n := 12) ?_ ⟨0, E1, _, _, by omega, Nat.zero_le _, hI0, pinv_0 f hfin.1 keep, rfl⟩ ?_
  · repeat (first | exact leEnv_nil | refine leEnv_any _ ?_ | refine leEnv_same _ ?_ | refine leEnv_norm _ ?_)
  rintro m e s ⟨k, E, maps, want, hkm, hkl, hI, hP, rfl⟩
  by_cases c : k < l.length ∧ k < 12
  · have c1 : (k : Int) < (l.length : Int) := by omega
    have c2 : (k : Int) < 12 := by omega
    have c0 : (0 : Int) ≤ (k : Int) := by omega
    have hw := wrapS k (by omega)
    obtain ⟨d, hdd⟩ : ∃ d, d = l.getD k default := ⟨_, rfl⟩
    have hgd := dd_get2 c.1
    rw [← hdd] at hgd
    have hgd' : (l.map ddSV).getD k .any = .agg [i64 d.kind, i64 d.t, i64 d.n, i64 d.v] := hgd
    have hdo : DdOk d := hd d (by rw [hdd]; simp [List.getD_eq_getElem?_getD, c.1])
    obtain ⟨nn, hnn⟩ : ∃ nn, nn = nrm d.n 4 := ⟨_, rfl⟩
    have hni := nrm_in d.n (m := 4) (by decide)
    rw [← hnn] at hni
    have hn4 : nn < ((4 : Nat) : Int) := hni.2
    have hwl : want.length = 4 := hP.1
    have hnw : nn.toNat < want.length := by omega
    have hws := want_set hnw d.v
    by_cases hneg : d.n < 0
    · have y1 := nrm_w1 hdo.n hneg
      have y2 := nrm_w2 hdo.n hneg
      have y3 := nrm_neg (m := 4) hneg
      rw [← hnn] at y3
      by_cases za : (k : Int) < f
      · have zf : ((k : Int) == f) = false := by simp; omega
        have zl : (k : Int) < f := za
        have hst := pinv_step hP hni d.v maps (by rw [if_neg (by omega)])
        rw [if_pos (.inl za)] at hst
        have cw := hI.write (by omega) hni d.v
        simp -implicitDefEqProofs only [go_sem, reduceCtorEq, Nat.reduceAdd, Nat.reduceMul, Nat.reduceLeDiff, Nat.reduceLT, Int.reduceLE, Int.reduceLT, Int.reduceEq, Nat.reduceBEq, Nat.reduceEqDiff, c1, c2, c0, hgd', hw, zf, zl, hneg, y1, y2, y3, hni.1, hn4, Int.toNat_natCast, Nat.mul_one]
        refine cw _ fun s3 E3 hI3 => ?_
        have g3 := arr_facts hI3.box
        have hI4 := hI3.set (want.set nn.toNat d.v)
        simp -implicitDefEqProofs only [go_sem, reduceCtorEq, Nat.reduceAdd, Nat.reduceMul, Nat.reduceLeDiff, Nat.reduceLT, Int.reduceLE, Int.reduceLT, Int.reduceEq, Nat.reduceBEq, Nat.reduceEqDiff, c1, c2, c0, hgd', hw, zf, zl, hneg, y1, y2, y3, hni.1, hn4, Int.toNat_natCast, Nat.mul_one, g3.1, g3.2.1, g3.2.2.1, g3.2.2.2]
        refine ⟨by omega, m - 1, _, by omega, ?_, k + 1, E3, _, _, by omega, by omega, by rw [hws]; exact ⟨hI4.eng, hI4.id, hI4.abs, hI4.fine.mono (by omega), hI4.out, hI4.box⟩, hst, rfl⟩
        repeat (first | exact leEnv_nil | refine leEnv_any _ ?_ | refine leEnv_same _ ?_ | refine leEnv_norm _ ?_)
      · by_cases zb : (k : Int) = f
        · cases hkeep : keep with
          | true =>
            rw [hkeep] at hP
            have zf : ((k : Int) == f) = true := by simp; omega
            have zl : ¬ (k : Int) < f := za
            have hst := pinv_step hP hni d.v (maps ++ [fun _ => none]) (by rw [if_pos (by omega)])
            rw [if_pos (.inr rfl)] at hst
            have cp := hI.part (by omega)
            simp -implicitDefEqProofs only [go_sem, reduceCtorEq, Nat.reduceAdd, Nat.reduceMul, Nat.reduceLeDiff, Nat.reduceLT, Int.reduceLE, Int.reduceLT, Int.reduceEq, Nat.reduceBEq, Nat.reduceEqDiff, c1, c2, c0, hgd', hw, zf, zl, hneg, y1, y2, y3, hni.1, hn4, Int.toNat_natCast, Nat.mul_one]
            refine cp _ fun s2 E2 hI2 => ?_
            have cw := hI2.write (by omega) hni d.v
            simp -implicitDefEqProofs only [go_sem, reduceCtorEq, Nat.reduceAdd, Nat.reduceMul, Nat.reduceLeDiff, Nat.reduceLT, Int.reduceLE, Int.reduceLT, Int.reduceEq, Nat.reduceBEq, Nat.reduceEqDiff, c1, c2, c0, hgd', hw, zf, zl, hneg, y1, y2, y3, hni.1, hn4, Int.toNat_natCast, Nat.mul_one]
            refine cw _ fun s3 E3 hI3 => ?_
            have g3 := arr_facts hI3.box
            have hI4 := hI3.set (want.set nn.toNat d.v)
            simp -implicitDefEqProofs only [go_sem, reduceCtorEq, Nat.reduceAdd, Nat.reduceMul, Nat.reduceLeDiff, Nat.reduceLT, Int.reduceLE, Int.reduceLT, Int.reduceEq, Nat.reduceBEq, Nat.reduceEqDiff, c1, c2, c0, hgd', hw, zf, zl, hneg, y1, y2, y3, hni.1, hn4, Int.toNat_natCast, Nat.mul_one, g3.1, g3.2.1, g3.2.2.1, g3.2.2.2]
            refine ⟨by omega, m - 1, _, by omega, ?_, k + 1, E3, _, _, by omega, by omega, by rw [hws]; exact ⟨hI4.eng, hI4.id, hI4.abs, hI4.fine.mono (by omega), hI4.out, hI4.box⟩, hst, rfl⟩
            repeat (first | exact leEnv_nil | refine leEnv_any _ ?_ | refine leEnv_same _ ?_ | refine leEnv_norm _ ?_)
          | false =>
            rw [hkeep] at hP
            have zf : ((k : Int) == f) = true := by simp; omega
            have zl : ¬ (k : Int) < f := za
            have hst := pinv_step hP hni d.v (maps ++ [fun _ => none]) (by rw [if_pos (by omega)])
            rw [if_neg (by rintro (q | q); omega; cases q)] at hst
            have cp := hI.part (by omega)
            simp -implicitDefEqProofs only [go_sem, reduceCtorEq, Nat.reduceAdd, Nat.reduceMul, Nat.reduceLeDiff, Nat.reduceLT, Int.reduceLE, Int.reduceLT, Int.reduceEq, Nat.reduceBEq, Nat.reduceEqDiff, c1, c2, c0, hgd', hw, zf, zl, hneg, y1, y2, y3, hni.1, hn4, Int.toNat_natCast, Nat.mul_one]
            refine cp _ fun s2 E2 hI2 => ?_
            have cw := hI2.write (by omega) hni d.v
            simp -implicitDefEqProofs only [go_sem, reduceCtorEq, Nat.reduceAdd, Nat.reduceMul, Nat.reduceLeDiff, Nat.reduceLT, Int.reduceLE, Int.reduceLT, Int.reduceEq, Nat.reduceBEq, Nat.reduceEqDiff, c1, c2, c0, hgd', hw, zf, zl, hneg, y1, y2, y3, hni.1, hn4, Int.toNat_natCast, Nat.mul_one]
            refine cw _ fun s3 E3 hI3 => ?_
            simp -implicitDefEqProofs only [go_sem, reduceCtorEq, Nat.reduceAdd, Nat.reduceMul, Nat.reduceLeDiff, Nat.reduceLT, Int.reduceLE, Int.reduceLT, Int.reduceEq, Nat.reduceBEq, Nat.reduceEqDiff, c1, c2, c0, hgd', hw, zf, zl, hneg, y1, y2, y3, hni.1, hn4, Int.toNat_natCast, Nat.mul_one]
            refine ⟨m - 1, _, by omega, ?_, k + 1, E3, _, _, by omega, by omega, ⟨hI3.eng, hI3.id, hI3.abs, hI3.fine.mono (by omega), hI3.out, hI3.box⟩, hst, rfl⟩
            repeat (first | exact leEnv_nil | refine leEnv_any _ ?_ | refine leEnv_same _ ?_ | refine leEnv_norm _ ?_)
        · cases hkeep : keep with
          | true =>
            rw [hkeep] at hP
            have zf : ((k : Int) == f) = false := by simp; omega
            have zl : ¬ (k : Int) < f := za
            have hst := pinv_step hP hni d.v maps (by rw [if_neg (by omega)])
            rw [if_pos (.inr rfl)] at hst
            have cw := hI.write (by omega) hni d.v
            simp -implicitDefEqProofs only [go_sem, reduceCtorEq, Nat.reduceAdd, Nat.reduceMul, Nat.reduceLeDiff, Nat.reduceLT, Int.reduceLE, Int.reduceLT, Int.reduceEq, Nat.reduceBEq, Nat.reduceEqDiff, c1, c2, c0, hgd', hw, zf, zl, hneg, y1, y2, y3, hni.1, hn4, Int.toNat_natCast, Nat.mul_one]
            refine cw _ fun s3 E3 hI3 => ?_
            have g3 := arr_facts hI3.box
            have hI4 := hI3.set (want.set nn.toNat d.v)
            simp -implicitDefEqProofs only [go_sem, reduceCtorEq, Nat.reduceAdd, Nat.reduceMul, Nat.reduceLeDiff, Nat.reduceLT, Int.reduceLE, Int.reduceLT, Int.reduceEq, Nat.reduceBEq, Nat.reduceEqDiff, c1, c2, c0, hgd', hw, zf, zl, hneg, y1, y2, y3, hni.1, hn4, Int.toNat_natCast, Nat.mul_one, g3.1, g3.2.1, g3.2.2.1, g3.2.2.2]
            refine ⟨by omega, m - 1, _, by omega, ?_, k + 1, E3, _, _, by omega, by omega, by rw [hws]; exact ⟨hI4.eng, hI4.id, hI4.abs, hI4.fine.mono (by omega), hI4.out, hI4.box⟩, hst, rfl⟩
            repeat (first | exact leEnv_nil | refine leEnv_any _ ?_ | refine leEnv_same _ ?_ | refine leEnv_norm _ ?_)
          | false =>
            rw [hkeep] at hP
            have zf : ((k : Int) == f) = false := by simp; omega
            have zl : ¬ (k : Int) < f := za
            have hst := pinv_step hP hni d.v maps (by rw [if_neg (by omega)])
            rw [if_neg (by rintro (q | q); omega; cases q)] at hst
            have cw := hI.write (by omega) hni d.v
            simp -implicitDefEqProofs only [go_sem, reduceCtorEq, Nat.reduceAdd, Nat.reduceMul, Nat.reduceLeDiff, Nat.reduceLT, Int.reduceLE, Int.reduceLT, Int.reduceEq, Nat.reduceBEq, Nat.reduceEqDiff, c1, c2, c0, hgd', hw, zf, zl, hneg, y1, y2, y3, hni.1, hn4, Int.toNat_natCast, Nat.mul_one]
            refine cw _ fun s3 E3 hI3 => ?_
            simp -implicitDefEqProofs only [go_sem, reduceCtorEq, Nat.reduceAdd, Nat.reduceMul, Nat.reduceLeDiff, Nat.reduceLT, Int.reduceLE, Int.reduceLT, Int.reduceEq, Nat.reduceBEq, Nat.reduceEqDiff, c1, c2, c0, hgd', hw, zf, zl, hneg, y1, y2, y3, hni.1, hn4, Int.toNat_natCast, Nat.mul_one]
            refine ⟨m - 1, _, by omega, ?_, k + 1, E3, _, _, by omega, by omega, ⟨hI3.eng, hI3.id, hI3.abs, hI3.fine.mono (by omega), hI3.out, hI3.box⟩, hst, rfl⟩
            repeat (first | exact leEnv_nil | refine leEnv_any _ ?_ | refine leEnv_same _ ?_ | refine leEnv_norm _ ?_)
    · have y3 := nrm_pos (m := 4) hneg
      rw [← hnn] at y3
      by_cases za : (k : Int) < f
      · have zf : ((k : Int) == f) = false := by simp; omega
        have zl : (k : Int) < f := za
        have hst := pinv_step hP hni d.v maps (by rw [if_neg (by omega)])
        rw [if_pos (.inl za)] at hst
        have cw := hI.write (by omega) hni d.v
        simp -implicitDefEqProofs only [go_sem, reduceCtorEq, Nat.reduceAdd, Nat.reduceMul, Nat.reduceLeDiff, Nat.reduceLT, Int.reduceLE, Int.reduceLT, Int.reduceEq, Nat.reduceBEq, Nat.reduceEqDiff, c1, c2, c0, hgd', hw, zf, zl, hneg, y3, hni.1, hn4, Int.toNat_natCast, Nat.mul_one]
        refine cw _ fun s3 E3 hI3 => ?_
        have g3 := arr_facts hI3.box
        have hI4 := hI3.set (want.set nn.toNat d.v)
        simp -implicitDefEqProofs only [go_sem, reduceCtorEq, Nat.reduceAdd, Nat.reduceMul, Nat.reduceLeDiff, Nat.reduceLT, Int.reduceLE, Int.reduceLT, Int.reduceEq, Nat.reduceBEq, Nat.reduceEqDiff, c1, c2, c0, hgd', hw, zf, zl, hneg, y3, hni.1, hn4, Int.toNat_natCast, Nat.mul_one, g3.1, g3.2.1, g3.2.2.1, g3.2.2.2]
        refine ⟨by omega, m - 1, _, by omega, ?_, k + 1, E3, _, _, by omega, by omega, by rw [hws]; exact ⟨hI4.eng, hI4.id, hI4.abs, hI4.fine.mono (by omega), hI4.out, hI4.box⟩, hst, rfl⟩
        repeat (first | exact leEnv_nil | refine leEnv_any _ ?_ | refine leEnv_same _ ?_ | refine leEnv_norm _ ?_)
      · by_cases zb : (k : Int) = f
        · cases hkeep : keep with
          | true =>
            rw [hkeep] at hP
            have zf : ((k : Int) == f) = true := by simp; omega
            have zl : ¬ (k : Int) < f := za
            have hst := pinv_step hP hni d.v (maps ++ [fun _ => none]) (by rw [if_pos (by omega)])
            rw [if_pos (.inr rfl)] at hst
            have cp := hI.part (by omega)
            simp -implicitDefEqProofs only [go_sem, reduceCtorEq, Nat.reduceAdd, Nat.reduceMul, Nat.reduceLeDiff, Nat.reduceLT, Int.reduceLE, Int.reduceLT, Int.reduceEq, Nat.reduceBEq, Nat.reduceEqDiff, c1, c2, c0, hgd', hw, zf, zl, hneg, y3, hni.1, hn4, Int.toNat_natCast, Nat.mul_one]
            refine cp _ fun s2 E2 hI2 => ?_
            have cw := hI2.write (by omega) hni d.v
            simp -implicitDefEqProofs only [go_sem, reduceCtorEq, Nat.reduceAdd, Nat.reduceMul, Nat.reduceLeDiff, Nat.reduceLT, Int.reduceLE, Int.reduceLT, Int.reduceEq, Nat.reduceBEq, Nat.reduceEqDiff, c1, c2, c0, hgd', hw, zf, zl, hneg, y3, hni.1, hn4, Int.toNat_natCast, Nat.mul_one]
            refine cw _ fun s3 E3 hI3 => ?_
            have g3 := arr_facts hI3.box
            have hI4 := hI3.set (want.set nn.toNat d.v)
            simp -implicitDefEqProofs only [go_sem, reduceCtorEq, Nat.reduceAdd, Nat.reduceMul, Nat.reduceLeDiff, Nat.reduceLT, Int.reduceLE, Int.reduceLT, Int.reduceEq, Nat.reduceBEq, Nat.reduceEqDiff, c1, c2, c0, hgd', hw, zf, zl, hneg, y3, hni.1, hn4, Int.toNat_natCast, Nat.mul_one, g3.1, g3.2.1, g3.2.2.1, g3.2.2.2]
            refine ⟨by omega, m - 1, _, by omega, ?_, k + 1, E3, _, _, by omega, by omega, by rw [hws]; exact ⟨hI4.eng, hI4.id, hI4.abs, hI4.fine.mono (by omega), hI4.out, hI4.box⟩, hst, rfl⟩
            repeat (first | exact leEnv_nil | refine leEnv_any _ ?_ | refine leEnv_same _ ?_ | refine leEnv_norm _ ?_)
          | false =>
            rw [hkeep] at hP
            have zf : ((k : Int) == f) = true := by simp; omega
            have zl : ¬ (k : Int) < f := za
            have hst := pinv_step hP hni d.v (maps ++ [fun _ => none]) (by rw [if_pos (by omega)])
            rw [if_neg (by rintro (q | q); omega; cases q)] at hst
            have cp := hI.part (by omega)
            simp -implicitDefEqProofs only [go_sem, reduceCtorEq, Nat.reduceAdd, Nat.reduceMul, Nat.reduceLeDiff, Nat.reduceLT, Int.reduceLE, Int.reduceLT, Int.reduceEq, Nat.reduceBEq, Nat.reduceEqDiff, c1, c2, c0, hgd', hw, zf, zl, hneg, y3, hni.1, hn4, Int.toNat_natCast, Nat.mul_one]
            refine cp _ fun s2 E2 hI2 => ?_
            have cw := hI2.write (by omega) hni d.v
            simp -implicitDefEqProofs only [go_sem, reduceCtorEq, Nat.reduceAdd, Nat.reduceMul, Nat.reduceLeDiff, Nat.reduceLT, Int.reduceLE, Int.reduceLT, Int.reduceEq, Nat.reduceBEq, Nat.reduceEqDiff, c1, c2, c0, hgd', hw, zf, zl, hneg, y3, hni.1, hn4, Int.toNat_natCast, Nat.mul_one]
            refine cw _ fun s3 E3 hI3 => ?_
            simp -implicitDefEqProofs only [go_sem, reduceCtorEq, Nat.reduceAdd, Nat.reduceMul, Nat.reduceLeDiff, Nat.reduceLT, Int.reduceLE, Int.reduceLT, Int.reduceEq, Nat.reduceBEq, Nat.reduceEqDiff, c1, c2, c0, hgd', hw, zf, zl, hneg, y3, hni.1, hn4, Int.toNat_natCast, Nat.mul_one]
            refine ⟨m - 1, _, by omega, ?_, k + 1, E3, _, _, by omega, by omega, ⟨hI3.eng, hI3.id, hI3.abs, hI3.fine.mono (by omega), hI3.out, hI3.box⟩, hst, rfl⟩
            repeat (first | exact leEnv_nil | refine leEnv_any _ ?_ | refine leEnv_same _ ?_ | refine leEnv_norm _ ?_)
        · cases hkeep : keep with
          | true =>
            rw [hkeep] at hP
            have zf : ((k : Int) == f) = false := by simp; omega
            have zl : ¬ (k : Int) < f := za
            have hst := pinv_step hP hni d.v maps (by rw [if_neg (by omega)])
            rw [if_pos (.inr rfl)] at hst
            have cw := hI.write (by omega) hni d.v
            simp -implicitDefEqProofs only [go_sem, reduceCtorEq, Nat.reduceAdd, Nat.reduceMul, Nat.reduceLeDiff, Nat.reduceLT, Int.reduceLE, Int.reduceLT, Int.reduceEq, Nat.reduceBEq, Nat.reduceEqDiff, c1, c2, c0, hgd', hw, zf, zl, hneg, y3, hni.1, hn4, Int.toNat_natCast, Nat.mul_one]
            refine cw _ fun s3 E3 hI3 => ?_
            have g3 := arr_facts hI3.box
            have hI4 := hI3.set (want.set nn.toNat d.v)
            simp -implicitDefEqProofs only [go_sem, reduceCtorEq, Nat.reduceAdd, Nat.reduceMul, Nat.reduceLeDiff, Nat.reduceLT, Int.reduceLE, Int.reduceLT, Int.reduceEq, Nat.reduceBEq, Nat.reduceEqDiff, c1, c2, c0, hgd', hw, zf, zl, hneg, y3, hni.1, hn4, Int.toNat_natCast, Nat.mul_one, g3.1, g3.2.1, g3.2.2.1, g3.2.2.2]
            refine ⟨by omega, m - 1, _, by omega, ?_, k + 1, E3, _, _, by omega, by omega, by rw [hws]; exact ⟨hI4.eng, hI4.id, hI4.abs, hI4.fine.mono (by omega), hI4.out, hI4.box⟩, hst, rfl⟩
            repeat (first | exact leEnv_nil | refine leEnv_any _ ?_ | refine leEnv_same _ ?_ | refine leEnv_norm _ ?_)
          | false =>
            rw [hkeep] at hP
            have zf : ((k : Int) == f) = false := by simp; omega
            have zl : ¬ (k : Int) < f := za
            have hst := pinv_step hP hni d.v maps (by rw [if_neg (by omega)])
            rw [if_neg (by rintro (q | q); omega; cases q)] at hst
            have cw := hI.write (by omega) hni d.v
            simp -implicitDefEqProofs only [go_sem, reduceCtorEq, Nat.reduceAdd, Nat.reduceMul, Nat.reduceLeDiff, Nat.reduceLT, Int.reduceLE, Int.reduceLT, Int.reduceEq, Nat.reduceBEq, Nat.reduceEqDiff, c1, c2, c0, hgd', hw, zf, zl, hneg, y3, hni.1, hn4, Int.toNat_natCast, Nat.mul_one]
            refine cw _ fun s3 E3 hI3 => ?_
            simp -implicitDefEqProofs only [go_sem, reduceCtorEq, Nat.reduceAdd, Nat.reduceMul, Nat.reduceLeDiff, Nat.reduceLT, Int.reduceLE, Int.reduceLT, Int.reduceEq, Nat.reduceBEq, Nat.reduceEqDiff, c1, c2, c0, hgd', hw, zf, zl, hneg, y3, hni.1, hn4, Int.toNat_natCast, Nat.mul_one]
            refine ⟨m - 1, _, by omega, ?_, k + 1, E3, _, _, by omega, by omega, ⟨hI3.eng, hI3.id, hI3.abs, hI3.fine.mono (by omega), hI3.out, hI3.box⟩, hst, rfl⟩
            repeat (first | exact leEnv_nil | refine leEnv_any _ ?_ | refine leEnv_same _ ?_ | refine leEnv_norm _ ?_)
  · have hnc : ¬ ((k : Int) < (l.length : Int) ∧ (k : Int) < 12) := fun q => c ⟨by omega, by omega⟩
    obtain ⟨hwl, hP⟩ := hP
    by_cases c1 : (k : Int) < (l.length : Int)
    · have c2 : ¬ (k : Int) < 12 := fun q => hnc ⟨c1, q⟩
      by_cases j : f < (l.length : Int) ∧ f < 12
      · have hkf : ¬ (k : Int) ≤ f := by omega
        have j1 := j.1
        have j2 := j.2
        rw [if_neg hkf] at hP
        obtain ⟨b, q, rfl, hs0⟩ := hP
        have csh := hI.shut (by omega)
        have z00 : ((0 : Int) != 0) = false := rfl
        by_cases hkeep : keep = true
        · rw [if_pos hkeep] at hs0
          obtain ⟨p, hp⟩ : ∃ p, p = fmOver q b := ⟨_, rfl⟩
          rw [← hp] at hs0 csh
          have hs := hs0
          have csh := csh.1
          simp -implicitDefEqProofs only [go_sem, reduceCtorEq, Nat.reduceAdd, Nat.reduceMul, Nat.reduceLeDiff, Nat.reduceLT, Int.reduceLE, Int.reduceLT, Int.reduceEq, Nat.reduceBEq, Nat.reduceEqDiff, c1, c2, j1, j2, hkeep]
          refine csh _ fun s2 E2 hI2 => ?_
          simp -implicitDefEqProofs only [go_sem, reduceCtorEq, Nat.reduceAdd, Nat.reduceMul, Nat.reduceLeDiff, Nat.reduceLT, Int.reduceLE, Int.reduceLT, Int.reduceEq, Nat.reduceBEq, Nat.reduceEqDiff, c1, c2, j1, j2, hkeep, z00]
          have hR0 : HInv E0.id wid s2 E2 (100 + 0) [] [p] want := ⟨hI2.eng, hI2.id, hI2.abs, hI2.fine.mono (by omega), hI2.out, hI2.box⟩
          refine awp_rounds [] (fun m e s => ∃ (i : Nat) (E : EG) (rs : List Int), i + m = 4 ∧ HInv E0.id wid s E (100 + i) rs [p] want ∧ e = [.any, .any, .any, .any, .any, .any, .any, .ptr E0.id 0, .any, .arr wid 1 4, .any, .any, .any, i64 i, .any, .any, .any, .any, .any, .any, .any, .any, .any, .any, .any, .any, .any, .any, .any, .any, .any, .any, .any, .any, .any, .any, .any, .any, .any, .any, .any, .any, .any, .any, .any, .any, .any, .any, .any, .any, .any, .any, .any, .any, .any, .any, .any, .any, .any, .any, .any, .any, .any, .any, .any, .any, .any, .any, .any, .any, .any, .any, .any, .any, .any, .any, .any, .any, .any, .any, .any, .any, .any, .any, .any, .any, .any, .any, .any, .any, .any, .any, .any, .any, .any, .any, .any, .any, .any, .any, .any, .any, .any, .any, .any, .any, .any, .any, .any, .any, .any, .any, .any, .any, .any, .any, .any]) (n := 4) ?_ ⟨0, _, _, by omega, hR0, rfl⟩ ?_
          · repeat (first | exact leEnv_nil | refine leEnv_any _ ?_ | refine leEnv_same _ ?_ | refine leEnv_norm _ ?_)
          rintro m2 e s2 ⟨i, E2, rs, him, hI2, rfl⟩
          by_cases hlt : i < 4
          · have i1 : (i : Int) < 4 := by omega
            have i0 : (0 : Int) ≤ (i : Int) := by omega
            have i4 : (i : Int) < ((4 : Nat) : Int) := by omega
            have hw := wrapS i (by omega)
            have cr := hI2.read (by omega) hs (n := i) ⟨i0, i1⟩
            rw [Int.toNat_natCast] at cr
            have hdw := want_drop (l := want) (n := i) (by omega)
            have hbne : (want.getD i 0 != want.getD i 0) = false := by simp
            simp -implicitDefEqProofs only [go_sem, reduceCtorEq, Nat.reduceAdd, Nat.reduceMul, Nat.reduceLeDiff, Nat.reduceLT, Int.reduceLE, Int.reduceLT, Int.reduceEq, Nat.reduceBEq, Nat.reduceEqDiff, i1, i0]
            refine cr _ fun s3 E3 rs3 hI3 => ?_
            have g3 := arr_facts hI3.box
            simp -implicitDefEqProofs only [go_sem, reduceCtorEq, Nat.reduceAdd, Nat.reduceMul, Nat.reduceLeDiff, Nat.reduceLT, Int.reduceLE, Int.reduceLT, Int.reduceEq, Nat.reduceBEq, Nat.reduceEqDiff, i1, i0, i4, g3.1, g3.2.1, g3.2.2.1, g3.2.2.2, Int.toNat_natCast, Nat.mul_one, hdw, hbne, z00, hw]
            refine ⟨m2 - 1, _, by omega, ?_, i + 1, E3, rs3, by omega, hI3, rfl⟩
            repeat (first | exact leEnv_nil | refine leEnv_any _ ?_ | refine leEnv_same _ ?_ | refine leEnv_norm _ ?_)
          · obtain rfl : i = 4 := by omega
            have i1 : ((4 : Nat) : Int) < 4 ↔ False := by simp
            have hlv := @lives_c s2
            simp -implicitDefEqProofs only [go_sem, reduceCtorEq, Nat.reduceAdd, Nat.reduceMul, Nat.reduceLeDiff, Nat.reduceLT, Int.reduceLE, Int.reduceLT, Int.reduceEq, Nat.reduceBEq, Nat.reduceEqDiff, i1]
            refine hlv _ fun s3 _ _ => ?_
            simp -implicitDefEqProofs only [go_sem, reduceCtorEq, Nat.reduceAdd, Nat.reduceMul, Nat.reduceLeDiff, Nat.reduceLT, Int.reduceLE, Int.reduceLT, Int.reduceEq, Nat.reduceBEq, Nat.reduceEqDiff]
            exact h s3
        by_cases hkeep : keep = false
        · rw [if_neg (by rw [hkeep]; decide)] at hs0
          obtain ⟨p, hp⟩ : ∃ p, p = b := ⟨_, rfl⟩
          rw [← hp] at hs0 csh
          have hs := hs0
          have csh := csh.2
          simp -implicitDefEqProofs only [go_sem, reduceCtorEq, Nat.reduceAdd, Nat.reduceMul, Nat.reduceLeDiff, Nat.reduceLT, Int.reduceLE, Int.reduceLT, Int.reduceEq, Nat.reduceBEq, Nat.reduceEqDiff, c1, c2, j1, j2, hkeep]
          refine csh _ fun s2 E2 hI2 => ?_
          simp -implicitDefEqProofs only [go_sem, reduceCtorEq, Nat.reduceAdd, Nat.reduceMul, Nat.reduceLeDiff, Nat.reduceLT, Int.reduceLE, Int.reduceLT, Int.reduceEq, Nat.reduceBEq, Nat.reduceEqDiff, c1, c2, j1, j2, hkeep, z00]
          have hR0 : HInv E0.id wid s2 E2 (100 + 0) [] [p] want := ⟨hI2.eng, hI2.id, hI2.abs, hI2.fine.mono (by omega), hI2.out, hI2.box⟩
          refine awp_rounds [] (fun m e s => ∃ (i : Nat) (E : EG) (rs : List Int), i + m = 4 ∧ HInv E0.id wid s E (100 + i) rs [p] want ∧ e = [.any, .any, .any, .any, .any, .any, .any, .ptr E0.id 0, .any, .arr wid 1 4, .any, .any, .any, i64 i, .any, .any, .any, .any, .any, .any, .any, .any, .any, .any, .any, .any, .any, .any, .any, .any, .any, .any, .any, .any, .any, .any, .any, .any, .any, .any, .any, .any, .any, .any, .any, .any, .any, .any, .any, .any, .any, .any, .any, .any, .any, .any, .any, .any, .any, .any, .any, .any, .any, .any, .any, .any, .any, .any, .any, .any, .any, .any, .any, .any, .any, .any, .any, .any, .any, .any, .any, .any, .any, .any, .any, .any, .any, .any, .any, .any, .any, .any, .any, .any, .any, .any, .any, .any, .any, .any, .any, .any, .any, .any, .any, .any, .any, .any, .any, .any, .any, .any, .any, .any, .any, .any, .any]) (n := 4) ?_ ⟨0, _, _, by omega, hR0, rfl⟩ ?_
          · repeat (first | exact leEnv_nil | refine leEnv_any _ ?_ | refine leEnv_same _ ?_ | refine leEnv_norm _ ?_)
          rintro m2 e s2 ⟨i, E2, rs, him, hI2, rfl⟩
          by_cases hlt : i < 4
          · have i1 : (i : Int) < 4 := by omega
            have i0 : (0 : Int) ≤ (i : Int) := by omega
            have i4 : (i : Int) < ((4 : Nat) : Int) := by omega
            have hw := wrapS i (by omega)
            have cr := hI2.read (by omega) hs (n := i) ⟨i0, i1⟩
            rw [Int.toNat_natCast] at cr
            have hdw := want_drop (l := want) (n := i) (by omega)
            have hbne : (want.getD i 0 != want.getD i 0) = false := by simp
            simp -implicitDefEqProofs only [go_sem, reduceCtorEq, Nat.reduceAdd, Nat.reduceMul, Nat.reduceLeDiff, Nat.reduceLT, Int.reduceLE, Int.reduceLT, Int.reduceEq, Nat.reduceBEq, Nat.reduceEqDiff, i1, i0]
            refine cr _ fun s3 E3 rs3 hI3 => ?_
            have g3 := arr_facts hI3.box
            simp -implicitDefEqProofs only [go_sem, reduceCtorEq, Nat.reduceAdd, Nat.reduceMul, Nat.reduceLeDiff, Nat.reduceLT, Int.reduceLE, Int.reduceLT, Int.reduceEq, Nat.reduceBEq, Nat.reduceEqDiff, i1, i0, i4, g3.1, g3.2.1, g3.2.2.1, g3.2.2.2, Int.toNat_natCast, Nat.mul_one, hdw, hbne, z00, hw]
            refine ⟨m2 - 1, _, by omega, ?_, i + 1, E3, rs3, by omega, hI3, rfl⟩
            repeat (first | exact leEnv_nil | refine leEnv_any _ ?_ | refine leEnv_same _ ?_ | refine leEnv_norm _ ?_)
          · obtain rfl : i = 4 := by omega
            have i1 : ((4 : Nat) : Int) < 4 ↔ False := by simp
            have hlv := @lives_c s2
            simp -implicitDefEqProofs only [go_sem, reduceCtorEq, Nat.reduceAdd, Nat.reduceMul, Nat.reduceLeDiff, Nat.reduceLT, Int.reduceLE, Int.reduceLT, Int.reduceEq, Nat.reduceBEq, Nat.reduceEqDiff, i1]
            refine hlv _ fun s3 _ _ => ?_
            simp -implicitDefEqProofs only [go_sem, reduceCtorEq, Nat.reduceAdd, Nat.reduceMul, Nat.reduceLeDiff, Nat.reduceLT, Int.reduceLE, Int.reduceLT, Int.reduceEq, Nat.reduceBEq, Nat.reduceEqDiff]
            exact h s3
        cases keep <;> simp_all
      · have hkf : (k : Int) ≤ f := by omega
        rw [if_pos hkf] at hP
        obtain ⟨p, rfl, hs⟩ := hP
        have z00 : ((0 : Int) != 0) = false := rfl
        have hR00 : HInv E0.id wid s E (100 + 0) [] [p] want := ⟨hI.eng, hI.id, hI.abs, hI.fine.mono (by omega), hI.out, hI.box⟩
        by_cases j1 : f < (l.length : Int)
        · have j2 : ¬ f < 12 := fun q => j ⟨j1, q⟩
          simp -implicitDefEqProofs only [go_sem, reduceCtorEq, Nat.reduceAdd, Nat.reduceMul, Nat.reduceLeDiff, Nat.reduceLT, Int.reduceLE, Int.reduceLT, Int.reduceEq, Nat.reduceBEq, Nat.reduceEqDiff, c1, c2, j1, j2]
          have hR0 : HInv E0.id wid s E (100 + 0) [] [p] want := hR00
          refine awp_rounds [] (fun m e s => ∃ (i : Nat) (E : EG) (rs : List Int), i + m = 4 ∧ HInv E0.id wid s E (100 + i) rs [p] want ∧ e = [.any, .any, .any, .any, .any, .any, .any, .ptr E0.id 0, .any, .arr wid 1 4, .any, .any, .any, i64 i, .any, .any, .any, .any, .any, .any, .any, .any, .any, .any, .any, .any, .any, .any, .any, .any, .any, .any, .any, .any, .any, .any, .any, .any, .any, .any, .any, .any, .any, .any, .any, .any, .any, .any, .any, .any, .any, .any, .any, .any, .any, .any, .any, .any, .any, .any, .any, .any, .any, .any, .any, .any, .any, .any, .any, .any, .any, .any, .any, .any, .any, .any, .any, .any, .any, .any, .any, .any, .any, .any, .any, .any, .any, .any, .any, .any, .any, .any, .any, .any, .any, .any, .any, .any, .any, .any, .any, .any, .any, .any, .any, .any, .any, .any, .any, .any, .any, .any, .any, .any, .any, .any, .any]) (n := 4) ?_ ⟨0, _, _, by omega, hR0, rfl⟩ ?_
          · repeat (first | exact leEnv_nil | refine leEnv_any _ ?_ | refine leEnv_same _ ?_ | refine leEnv_norm _ ?_)
          rintro m2 e s2 ⟨i, E2, rs, him, hI2, rfl⟩
          by_cases hlt : i < 4
          · have i1 : (i : Int) < 4 := by omega
            have i0 : (0 : Int) ≤ (i : Int) := by omega
            have i4 : (i : Int) < ((4 : Nat) : Int) := by omega
            have hw := wrapS i (by omega)
            have cr := hI2.read (by omega) hs (n := i) ⟨i0, i1⟩
            rw [Int.toNat_natCast] at cr
            have hdw := want_drop (l := want) (n := i) (by omega)
            have hbne : (want.getD i 0 != want.getD i 0) = false := by simp
            simp -implicitDefEqProofs only [go_sem, reduceCtorEq, Nat.reduceAdd, Nat.reduceMul, Nat.reduceLeDiff, Nat.reduceLT, Int.reduceLE, Int.reduceLT, Int.reduceEq, Nat.reduceBEq, Nat.reduceEqDiff, i1, i0]
            refine cr _ fun s3 E3 rs3 hI3 => ?_
            have g3 := arr_facts hI3.box
            simp -implicitDefEqProofs only [go_sem, reduceCtorEq, Nat.reduceAdd, Nat.reduceMul, Nat.reduceLeDiff, Nat.reduceLT, Int.reduceLE, Int.reduceLT, Int.reduceEq, Nat.reduceBEq, Nat.reduceEqDiff, i1, i0, i4, g3.1, g3.2.1, g3.2.2.1, g3.2.2.2, Int.toNat_natCast, Nat.mul_one, hdw, hbne, z00, hw]
            refine ⟨m2 - 1, _, by omega, ?_, i + 1, E3, rs3, by omega, hI3, rfl⟩
            repeat (first | exact leEnv_nil | refine leEnv_any _ ?_ | refine leEnv_same _ ?_ | refine leEnv_norm _ ?_)
          · obtain rfl : i = 4 := by omega
            have i1 : ((4 : Nat) : Int) < 4 ↔ False := by simp
            have hlv := @lives_c s2
            simp -implicitDefEqProofs only [go_sem, reduceCtorEq, Nat.reduceAdd, Nat.reduceMul, Nat.reduceLeDiff, Nat.reduceLT, Int.reduceLE, Int.reduceLT, Int.reduceEq, Nat.reduceBEq, Nat.reduceEqDiff, i1]
            refine hlv _ fun s3 _ _ => ?_
            simp -implicitDefEqProofs only [go_sem, reduceCtorEq, Nat.reduceAdd, Nat.reduceMul, Nat.reduceLeDiff, Nat.reduceLT, Int.reduceLE, Int.reduceLT, Int.reduceEq, Nat.reduceBEq, Nat.reduceEqDiff]
            exact h s3
        · simp -implicitDefEqProofs only [go_sem, reduceCtorEq, Nat.reduceAdd, Nat.reduceMul, Nat.reduceLeDiff, Nat.reduceLT, Int.reduceLE, Int.reduceLT, Int.reduceEq, Nat.reduceBEq, Nat.reduceEqDiff, c1, c2, j1]
          have hR0 : HInv E0.id wid s E (100 + 0) [] [p] want := hR00
          refine awp_rounds [] (fun m e s => ∃ (i : Nat) (E : EG) (rs : List Int), i + m = 4 ∧ HInv E0.id wid s E (100 + i) rs [p] want ∧ e = [.any, .any, .any, .any, .any, .any, .any, .ptr E0.id 0, .any, .arr wid 1 4, .any, .any, .any, i64 i, .any, .any, .any, .any, .any, .any, .any, .any, .any, .any, .any, .any, .any, .any, .any, .any, .any, .any, .any, .any, .any, .any, .any, .any, .any, .any, .any, .any, .any, .any, .any, .any, .any, .any, .any, .any, .any, .any, .any, .any, .any, .any, .any, .any, .any, .any, .any, .any, .any, .any, .any, .any, .any, .any, .any, .any, .any, .any, .any, .any, .any, .any, .any, .any, .any, .any, .any, .any, .any, .any, .any, .any, .any, .any, .any, .any, .any, .any, .any, .any, .any, .any, .any, .any, .any, .any, .any, .any, .any, .any, .any, .any, .any, .any, .any, .any, .any, .any, .any, .any, .any, .any, .any]) (n := 4) ?_ ⟨0, _, _, by omega, hR0, rfl⟩ ?_
          · repeat (first | exact leEnv_nil | refine leEnv_any _ ?_ | refine leEnv_same _ ?_ | refine leEnv_norm _ ?_)
          rintro m2 e s2 ⟨i, E2, rs, him, hI2, rfl⟩
          by_cases hlt : i < 4
          · have i1 : (i : Int) < 4 := by omega
            have i0 : (0 : Int) ≤ (i : Int) := by omega
            have i4 : (i : Int) < ((4 : Nat) : Int) := by omega
            have hw := wrapS i (by omega)
            have cr := hI2.read (by omega) hs (n := i) ⟨i0, i1⟩
            rw [Int.toNat_natCast] at cr
            have hdw := want_drop (l := want) (n := i) (by omega)
            have hbne : (want.getD i 0 != want.getD i 0) = false := by simp
            simp -implicitDefEqProofs only [go_sem, reduceCtorEq, Nat.reduceAdd, Nat.reduceMul, Nat.reduceLeDiff, Nat.reduceLT, Int.reduceLE, Int.reduceLT, Int.reduceEq, Nat.reduceBEq, Nat.reduceEqDiff, i1, i0]
            refine cr _ fun s3 E3 rs3 hI3 => ?_
            have g3 := arr_facts hI3.box
            simp -implicitDefEqProofs only [go_sem, reduceCtorEq, Nat.reduceAdd, Nat.reduceMul, Nat.reduceLeDiff, Nat.reduceLT, Int.reduceLE, Int.reduceLT, Int.reduceEq, Nat.reduceBEq, Nat.reduceEqDiff, i1, i0, i4, g3.1, g3.2.1, g3.2.2.1, g3.2.2.2, Int.toNat_natCast, Nat.mul_one, hdw, hbne, z00, hw]
            refine ⟨m2 - 1, _, by omega, ?_, i + 1, E3, rs3, by omega, hI3, rfl⟩
            repeat (first | exact leEnv_nil | refine leEnv_any _ ?_ | refine leEnv_same _ ?_ | refine leEnv_norm _ ?_)
          · obtain rfl : i = 4 := by omega
            have i1 : ((4 : Nat) : Int) < 4 ↔ False := by simp
            have hlv := @lives_c s2
            simp -implicitDefEqProofs only [go_sem, reduceCtorEq, Nat.reduceAdd, Nat.reduceMul, Nat.reduceLeDiff, Nat.reduceLT, Int.reduceLE, Int.reduceLT, Int.reduceEq, Nat.reduceBEq, Nat.reduceEqDiff, i1]
            refine hlv _ fun s3 _ _ => ?_
            simp -implicitDefEqProofs only [go_sem, reduceCtorEq, Nat.reduceAdd, Nat.reduceMul, Nat.reduceLeDiff, Nat.reduceLT, Int.reduceLE, Int.reduceLT, Int.reduceEq, Nat.reduceBEq, Nat.reduceEqDiff]
            exact h s3
    · have c2 : True := trivial
      by_cases j : f < (l.length : Int) ∧ f < 12
      · have hkf : ¬ (k : Int) ≤ f := by omega
        have j1 := j.1
        have j2 := j.2
        rw [if_neg hkf] at hP
        obtain ⟨b, q, rfl, hs0⟩ := hP
        have csh := hI.shut (by omega)
        have z00 : ((0 : Int) != 0) = false := rfl
        by_cases hkeep : keep = true
        · rw [if_pos hkeep] at hs0
          obtain ⟨p, hp⟩ : ∃ p, p = fmOver q b := ⟨_, rfl⟩
          rw [← hp] at hs0 csh
          have hs := hs0
          have csh := csh.1
          simp -implicitDefEqProofs only [go_sem, reduceCtorEq, Nat.reduceAdd, Nat.reduceMul, Nat.reduceLeDiff, Nat.reduceLT, Int.reduceLE, Int.reduceLT, Int.reduceEq, Nat.reduceBEq, Nat.reduceEqDiff, c1, c2, j1, j2, hkeep]
          refine csh _ fun s2 E2 hI2 => ?_
          simp -implicitDefEqProofs only [go_sem, reduceCtorEq, Nat.reduceAdd, Nat.reduceMul, Nat.reduceLeDiff, Nat.reduceLT, Int.reduceLE, Int.reduceLT, Int.reduceEq, Nat.reduceBEq, Nat.reduceEqDiff, c1, c2, j1, j2, hkeep, z00]
          have hR0 : HInv E0.id wid s2 E2 (100 + 0) [] [p] want := ⟨hI2.eng, hI2.id, hI2.abs, hI2.fine.mono (by omega), hI2.out, hI2.box⟩
          refine awp_rounds [] (fun m e s => ∃ (i : Nat) (E : EG) (rs : List Int), i + m = 4 ∧ HInv E0.id wid s E (100 + i) rs [p] want ∧ e = [.any, .any, .any, .any, .any, .any, .any, .ptr E0.id 0, .any, .arr wid 1 4, .any, .any, .any, i64 i, .any, .any, .any, .any, .any, .any, .any, .any, .any, .any, .any, .any, .any, .any, .any, .any, .any, .any, .any, .any, .any, .any, .any, .any, .any, .any, .any, .any, .any, .any, .any, .any, .any, .any, .any, .any, .any, .any, .any, .any, .any, .any, .any, .any, .any, .any, .any, .any, .any, .any, .any, .any, .any, .any, .any, .any, .any, .any, .any, .any, .any, .any, .any, .any, .any, .any, .any, .any, .any, .any, .any, .any, .any, .any, .any, .any, .any, .any, .any, .any, .any, .any, .any, .any, .any, .any, .any, .any, .any, .any, .any, .any, .any, .any, .any, .any, .any, .any, .any, .any, .any, .any, .any]) (n := 4) ?_ ⟨0, _, _, by omega, hR0, rfl⟩ ?_
          · repeat (first | exact leEnv_nil | refine leEnv_any _ ?_ | refine leEnv_same _ ?_ | refine leEnv_norm _ ?_)
          rintro m2 e s2 ⟨i, E2, rs, him, hI2, rfl⟩
          by_cases hlt : i < 4
          · have i1 : (i : Int) < 4 := by omega
            have i0 : (0 : Int) ≤ (i : Int) := by omega
            have i4 : (i : Int) < ((4 : Nat) : Int) := by omega
            have hw := wrapS i (by omega)
            have cr := hI2.read (by omega) hs (n := i) ⟨i0, i1⟩
            rw [Int.toNat_natCast] at cr
            have hdw := want_drop (l := want) (n := i) (by omega)
            have hbne : (want.getD i 0 != want.getD i 0) = false := by simp
            simp -implicitDefEqProofs only [go_sem, reduceCtorEq, Nat.reduceAdd, Nat.reduceMul, Nat.reduceLeDiff, Nat.reduceLT, Int.reduceLE, Int.reduceLT, Int.reduceEq, Nat.reduceBEq, Nat.reduceEqDiff, i1, i0]
            refine cr _ fun s3 E3 rs3 hI3 => ?_
            have g3 := arr_facts hI3.box
            simp -implicitDefEqProofs only [go_sem, reduceCtorEq, Nat.reduceAdd, Nat.reduceMul, Nat.reduceLeDiff, Nat.reduceLT, Int.reduceLE, Int.reduceLT, Int.reduceEq, Nat.reduceBEq, Nat.reduceEqDiff, i1, i0, i4, g3.1, g3.2.1, g3.2.2.1, g3.2.2.2, Int.toNat_natCast, Nat.mul_one, hdw, hbne, z00, hw]
            refine ⟨m2 - 1, _, by omega, ?_, i + 1, E3, rs3, by omega, hI3, rfl⟩
            repeat (first | exact leEnv_nil | refine leEnv_any _ ?_ | refine leEnv_same _ ?_ | refine leEnv_norm _ ?_)
          · obtain rfl : i = 4 := by omega
            have i1 : ((4 : Nat) : Int) < 4 ↔ False := by simp
            have hlv := @lives_c s2
            simp -implicitDefEqProofs only [go_sem, reduceCtorEq, Nat.reduceAdd, Nat.reduceMul, Nat.reduceLeDiff, Nat.reduceLT, Int.reduceLE, Int.reduceLT, Int.reduceEq, Nat.reduceBEq, Nat.reduceEqDiff, i1]
            refine hlv _ fun s3 _ _ => ?_
            simp -implicitDefEqProofs only [go_sem, reduceCtorEq, Nat.reduceAdd, Nat.reduceMul, Nat.reduceLeDiff, Nat.reduceLT, Int.reduceLE, Int.reduceLT, Int.reduceEq, Nat.reduceBEq, Nat.reduceEqDiff]
            exact h s3
        by_cases hkeep : keep = false
        · rw [if_neg (by rw [hkeep]; decide)] at hs0
          obtain ⟨p, hp⟩ : ∃ p, p = b := ⟨_, rfl⟩
          rw [← hp] at hs0 csh
          have hs := hs0
          have csh := csh.2
          simp -implicitDefEqProofs only [go_sem, reduceCtorEq, Nat.reduceAdd, Nat.reduceMul, Nat.reduceLeDiff, Nat.reduceLT, Int.reduceLE, Int.reduceLT, Int.reduceEq, Nat.reduceBEq, Nat.reduceEqDiff, c1, c2, j1, j2, hkeep]
          refine csh _ fun s2 E2 hI2 => ?_
          simp -implicitDefEqProofs only [go_sem, reduceCtorEq, Nat.reduceAdd, Nat.reduceMul, Nat.reduceLeDiff, Nat.reduceLT, Int.reduceLE, Int.reduceLT, Int.reduceEq, Nat.reduceBEq, Nat.reduceEqDiff, c1, c2, j1, j2, hkeep, z00]
          have hR0 : HInv E0.id wid s2 E2 (100 + 0) [] [p] want := ⟨hI2.eng, hI2.id, hI2.abs, hI2.fine.mono (by omega), hI2.out, hI2.box⟩
          refine awp_rounds [] (fun m e s => ∃ (i : Nat) (E : EG) (rs : List Int), i + m = 4 ∧ HInv E0.id wid s E (100 + i) rs [p] want ∧ e = [.any, .any, .any, .any, .any, .any, .any, .ptr E0.id 0, .any, .arr wid 1 4, .any, .any, .any, i64 i, .any, .any, .any, .any, .any, .any, .any, .any, .any, .any, .any, .any, .any, .any, .any, .any, .any, .any, .any, .any, .any, .any, .any, .any, .any, .any, .any, .any, .any, .any, .any, .any, .any, .any, .any, .any, .any, .any, .any, .any, .any, .any, .any, .any, .any, .any, .any, .any, .any, .any, .any, .any, .any, .any, .any, .any, .any, .any, .any, .any, .any, .any, .any, .any, .any, .any, .any, .any, .any, .any, .any, .any, .any, .any, .any, .any, .any, .any, .any, .any, .any, .any, .any, .any, .any, .any, .any, .any, .any, .any, .any, .any, .any, .any, .any, .any, .any, .any, .any, .any, .any, .any, .any]) (n := 4) ?_ ⟨0, _, _, by omega, hR0, rfl⟩ ?_
          · repeat (first | exact leEnv_nil | refine leEnv_any _ ?_ | refine leEnv_same _ ?_ | refine leEnv_norm _ ?_)
          rintro m2 e s2 ⟨i, E2, rs, him, hI2, rfl⟩
          by_cases hlt : i < 4
          · have i1 : (i : Int) < 4 := by omega
            have i0 : (0 : Int) ≤ (i : Int) := by omega
            have i4 : (i : Int) < ((4 : Nat) : Int) := by omega
            have hw := wrapS i (by omega)
            have cr := hI2.read (by omega) hs (n := i) ⟨i0, i1⟩
            rw [Int.toNat_natCast] at cr
            have hdw := want_drop (l := want) (n := i) (by omega)
            have hbne : (want.getD i 0 != want.getD i 0) = false := by simp
            simp -implicitDefEqProofs only [go_sem, reduceCtorEq, Nat.reduceAdd, Nat.reduceMul, Nat.reduceLeDiff, Nat.reduceLT, Int.reduceLE, Int.reduceLT, Int.reduceEq, Nat.reduceBEq, Nat.reduceEqDiff, i1, i0]
            refine cr _ fun s3 E3 rs3 hI3 => ?_
            have g3 := arr_facts hI3.box
            simp -implicitDefEqProofs only [go_sem, reduceCtorEq, Nat.reduceAdd, Nat.reduceMul, Nat.reduceLeDiff, Nat.reduceLT, Int.reduceLE, Int.reduceLT, Int.reduceEq, Nat.reduceBEq, Nat.reduceEqDiff, i1, i0, i4, g3.1, g3.2.1, g3.2.2.1, g3.2.2.2, Int.toNat_natCast, Nat.mul_one, hdw, hbne, z00, hw]
            refine ⟨m2 - 1, _, by omega, ?_, i + 1, E3, rs3, by omega, hI3, rfl⟩
            repeat (first | exact leEnv_nil | refine leEnv_any _ ?_ | refine leEnv_same _ ?_ | refine leEnv_norm _ ?_)
          · obtain rfl : i = 4 := by omega
            have i1 : ((4 : Nat) : Int) < 4 ↔ False := by simp
            have hlv := @lives_c s2
            simp -implicitDefEqProofs only [go_sem, reduceCtorEq, Nat.reduceAdd, Nat.reduceMul, Nat.reduceLeDiff, Nat.reduceLT, Int.reduceLE, Int.reduceLT, Int.reduceEq, Nat.reduceBEq, Nat.reduceEqDiff, i1]
            refine hlv _ fun s3 _ _ => ?_
            simp -implicitDefEqProofs only [go_sem, reduceCtorEq, Nat.reduceAdd, Nat.reduceMul, Nat.reduceLeDiff, Nat.reduceLT, Int.reduceLE, Int.reduceLT, Int.reduceEq, Nat.reduceBEq, Nat.reduceEqDiff]
            exact h s3
        cases keep <;> simp_all
      · have hkf : (k : Int) ≤ f := by omega
        rw [if_pos hkf] at hP
        obtain ⟨p, rfl, hs⟩ := hP
        have z00 : ((0 : Int) != 0) = false := rfl
        have hR00 : HInv E0.id wid s E (100 + 0) [] [p] want := ⟨hI.eng, hI.id, hI.abs, hI.fine.mono (by omega), hI.out, hI.box⟩
        by_cases j1 : f < (l.length : Int)
        · have j2 : ¬ f < 12 := fun q => j ⟨j1, q⟩
          simp -implicitDefEqProofs only [go_sem, reduceCtorEq, Nat.reduceAdd, Nat.reduceMul, Nat.reduceLeDiff, Nat.reduceLT, Int.reduceLE, Int.reduceLT, Int.reduceEq, Nat.reduceBEq, Nat.reduceEqDiff, c1, c2, j1, j2]
          have hR0 : HInv E0.id wid s E (100 + 0) [] [p] want := hR00
          refine awp_rounds [] (fun m e s => ∃ (i : Nat) (E : EG) (rs : List Int), i + m = 4 ∧ HInv E0.id wid s E (100 + i) rs [p] want ∧ e = [.any, .any, .any, .any, .any, .any, .any, .ptr E0.id 0, .any, .arr wid 1 4, .any, .any, .any, i64 i, .any, .any, .any, .any, .any, .any, .any, .any, .any, .any, .any, .any, .any, .any, .any, .any, .any, .any, .any, .any, .any, .any, .any, .any, .any, .any, .any, .any, .any, .any, .any, .any, .any, .any, .any, .any, .any, .any, .any, .any, .any, .any, .any, .any, .any, .any, .any, .any, .any, .any, .any, .any, .any, .any, .any, .any, .any, .any, .any, .any, .any, .any, .any, .any, .any, .any, .any, .any, .any, .any, .any, .any, .any, .any, .any, .any, .any, .any, .any, .any, .any, .any, .any, .any, .any, .any, .any, .any, .any, .any, .any, .any, .any, .any, .any, .any, .any, .any, .any, .any, .any, .any, .any]) (n := 4) ?_ ⟨0, _, _, by omega, hR0, rfl⟩ ?_
          · repeat (first | exact leEnv_nil | refine leEnv_any _ ?_ | refine leEnv_same _ ?_ | refine leEnv_norm _ ?_)
          rintro m2 e s2 ⟨i, E2, rs, him, hI2, rfl⟩
          by_cases hlt : i < 4
          · have i1 : (i : Int) < 4 := by omega
            have i0 : (0 : Int) ≤ (i : Int) := by omega
            have i4 : (i : Int) < ((4 : Nat) : Int) := by omega
            have hw := wrapS i (by omega)
            have cr := hI2.read (by omega) hs (n := i) ⟨i0, i1⟩
            rw [Int.toNat_natCast] at cr
            have hdw := want_drop (l := want) (n := i) (by omega)
            have hbne : (want.getD i 0 != want.getD i 0) = false := by simp
            simp -implicitDefEqProofs only [go_sem, reduceCtorEq, Nat.reduceAdd, Nat.reduceMul, Nat.reduceLeDiff, Nat.reduceLT, Int.reduceLE, Int.reduceLT, Int.reduceEq, Nat.reduceBEq, Nat.reduceEqDiff, i1, i0]
            refine cr _ fun s3 E3 rs3 hI3 => ?_
            have g3 := arr_facts hI3.box
            simp -implicitDefEqProofs only [go_sem, reduceCtorEq, Nat.reduceAdd, Nat.reduceMul, Nat.reduceLeDiff, Nat.reduceLT, Int.reduceLE, Int.reduceLT, Int.reduceEq, Nat.reduceBEq, Nat.reduceEqDiff, i1, i0, i4, g3.1, g3.2.1, g3.2.2.1, g3.2.2.2, Int.toNat_natCast, Nat.mul_one, hdw, hbne, z00, hw]
            refine ⟨m2 - 1, _, by omega, ?_, i + 1, E3, rs3, by omega, hI3, rfl⟩
            repeat (first | exact leEnv_nil | refine leEnv_any _ ?_ | refine leEnv_same _ ?_ | refine leEnv_norm _ ?_)
          · obtain rfl : i = 4 := by omega
            have i1 : ((4 : Nat) : Int) < 4 ↔ False := by simp
            have hlv := @lives_c s2
            simp -implicitDefEqProofs only [go_sem, reduceCtorEq, Nat.reduceAdd, Nat.reduceMul, Nat.reduceLeDiff, Nat.reduceLT, Int.reduceLE, Int.reduceLT, Int.reduceEq, Nat.reduceBEq, Nat.reduceEqDiff, i1]
            refine hlv _ fun s3 _ _ => ?_
            simp -implicitDefEqProofs only [go_sem, reduceCtorEq, Nat.reduceAdd, Nat.reduceMul, Nat.reduceLeDiff, Nat.reduceLT, Int.reduceLE, Int.reduceLT, Int.reduceEq, Nat.reduceBEq, Nat.reduceEqDiff]
            exact h s3
        · simp -implicitDefEqProofs only [go_sem, reduceCtorEq, Nat.reduceAdd, Nat.reduceMul, Nat.reduceLeDiff, Nat.reduceLT, Int.reduceLE, Int.reduceLT, Int.reduceEq, Nat.reduceBEq, Nat.reduceEqDiff, c1, c2, j1]
          have hR0 : HInv E0.id wid s E (100 + 0) [] [p] want := hR00
          refine awp_rounds [] (fun m e s => ∃ (i : Nat) (E : EG) (rs : List Int), i + m = 4 ∧ HInv E0.id wid s E (100 + i) rs [p] want ∧ e = [.any, .any, .any, .any, .any, .any, .any, .ptr E0.id 0, .any, .arr wid 1 4, .any, .any, .any, i64 i, .any, .any, .any, .any, .any, .any, .any, .any, .any, .any, .any, .any, .any, .any, .any, .any, .any, .any, .any, .any, .any, .any, .any, .any, .any, .any, .any, .any, .any, .any, .any, .any, .any, .any, .any, .any, .any, .any, .any, .any, .any, .any, .any, .any, .any, .any, .any, .any, .any, .any, .any, .any, .any, .any, .any, .any, .any, .any, .any, .any, .any, .any, .any, .any, .any, .any, .any, .any, .any, .any, .any, .any, .any, .any, .any, .any, .any, .any, .any, .any, .any, .any, .any, .any, .any, .any, .any, .any, .any, .any, .any, .any, .any, .any, .any, .any, .any, .any, .any, .any, .any, .any, .any]) (n := 4) ?_ ⟨0, _, _, by omega, hR0, rfl⟩ ?_
          · repeat (first | exact leEnv_nil | refine leEnv_any _ ?_ | refine leEnv_same _ ?_ | refine leEnv_norm _ ?_)
          rintro m2 e s2 ⟨i, E2, rs, him, hI2, rfl⟩
          by_cases hlt : i < 4
          · have i1 : (i : Int) < 4 := by omega
            have i0 : (0 : Int) ≤ (i : Int) := by omega
            have i4 : (i : Int) < ((4 : Nat) : Int) := by omega
            have hw := wrapS i (by omega)
            have cr := hI2.read (by omega) hs (n := i) ⟨i0, i1⟩
            rw [Int.toNat_natCast] at cr
            have hdw := want_drop (l := want) (n := i) (by omega)
            have hbne : (want.getD i 0 != want.getD i 0) = false := by simp
            simp -implicitDefEqProofs only [go_sem, reduceCtorEq, Nat.reduceAdd, Nat.reduceMul, Nat.reduceLeDiff, Nat.reduceLT, Int.reduceLE, Int.reduceLT, Int.reduceEq, Nat.reduceBEq, Nat.reduceEqDiff, i1, i0]
            refine cr _ fun s3 E3 rs3 hI3 => ?_
            have g3 := arr_facts hI3.box
            simp -implicitDefEqProofs only [go_sem, reduceCtorEq, Nat.reduceAdd, Nat.reduceMul, Nat.reduceLeDiff, Nat.reduceLT, Int.reduceLE, Int.reduceLT, Int.reduceEq, Nat.reduceBEq, Nat.reduceEqDiff, i1, i0, i4, g3.1, g3.2.1, g3.2.2.1, g3.2.2.2, Int.toNat_natCast, Nat.mul_one, hdw, hbne, z00, hw]
            refine ⟨m2 - 1, _, by omega, ?_, i + 1, E3, rs3, by omega, hI3, rfl⟩
            repeat (first | exact leEnv_nil | refine leEnv_any _ ?_ | refine leEnv_same _ ?_ | refine leEnv_norm _ ?_)
          · obtain rfl : i = 4 := by omega
            have i1 : ((4 : Nat) : Int) < 4 ↔ False := by simp
            have hlv := @lives_c s2
            simp -implicitDefEqProofs only [go_sem, reduceCtorEq, Nat.reduceAdd, Nat.reduceMul, Nat.reduceLeDiff, Nat.reduceLT, Int.reduceLE, Int.reduceLT, Int.reduceEq, Nat.reduceBEq, Nat.reduceEqDiff, i1]
            refine hlv _ fun s3 _ _ => ?_
            simp -implicitDefEqProofs only [go_sem, reduceCtorEq, Nat.reduceAdd, Nat.reduceMul, Nat.reduceLeDiff, Nat.reduceLT, Int.reduceLE, Int.reduceLT, Int.reduceEq, Nat.reduceBEq, Nat.reduceEqDiff]
            exact h s3

end Go.Proofs
