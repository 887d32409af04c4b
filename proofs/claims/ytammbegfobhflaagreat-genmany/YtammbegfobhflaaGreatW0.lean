/- Cores, codes, and what a writer writes, in memory. -/
import Derived.Test.YtammbegfobhflaaGreatM1
import Derived.Test.YtammbegfobhflaaGreatFacts
import Derived.Test.YtammbegfobhflaaGreatA9
import Derived.IntWalk
set_option linter.all false
set_option linter.unusedSimpArgs false
namespace Go.AL
abbrev i64 (n : Int) : SV := .sc (.int .i64 n)
abbrev str (s : ByteArray) : SV := .sc (.string s)
def bnSV (b : Bn) : SV := .agg [i64 b.loc, .slice .imm 1 (b.path.map i64)]
def bnsSV (l : List Bn) : SV := .slice .imm 2 (l.map bnSV)
def bdsSV (l : List (List Bn)) : SV := .slice .imm 1 (l.map bnsSV)
mutual
def coSV : Co → SV
  | .mk k n t ks bs => .agg [i64 k, i64 n, str t, .slice .imm 9 (coL ks), i64 0, .slice .imm 1 [], .slice .imm 6 [], .slice .imm 4 [], bdsSV bs]
def coL : List Co → List SV
  | [] => []
  | c :: r => coSV c :: coL r
end
theorem coL_eq (l : List Co) : coL l = l.map coSV := by
  induction l with
  | nil => rfl
  | cons n r ih => simp [coL, ih]
def cosSV (l : List Co) : SV := .slice .imm 9 (l.map coSV)
theorem coSV_eq (c : Co) : coSV c = .agg [i64 c.kind, i64 c.number, str c.text, cosSV c.kids, i64 0, .slice .imm 1 [], .slice .imm 6 [], .slice .imm 4 [], bdsSV c.binds] := by
  cases c; simp [coSV, cosSV, coL_eq, Co.kind, Co.number, Co.text, Co.kids, Co.binds]
theorem cells_co (c : Co) : (coSV c).cells = [i64 c.kind, i64 c.number, str c.text, cosSV c.kids, i64 0, .slice .imm 1 [], .slice .imm 6 [], .slice .imm 4 [], bdsSV c.binds] := by rw [coSV_eq]; rfl
theorem norm_co (c : Co) : norm (coSV c) = coSV c := by rw [coSV_eq]; rfl
theorem norm1_co (c : Co) : norm1 (coSV c) = coSV c := by rw [coSV_eq]; rfl
theorem shape_co (c : Co) : shapeOk (coSV c) = true := by rw [coSV_eq]; rfl
theorem elem_co (c : Co) : elemOk (coSV c) = true := by rw [coSV_eq]; rfl
theorem all_co (c : Co) : (coSV c).cells.all cellOk = true := elem_co c
theorem strip_co (c : Co) : strip (coSV c) = coSV c := by rw [coSV_eq]; rfl
theorem gIf_co (c : Co) (p : Prop) : gIf p (coSV c) = True := by rw [coSV_eq]; rfl
theorem co_len (c : Co) : (coSV c).cells.length = 9 := by rw [cells_co]; rfl
theorem splice_co (l : List SV) (c : Co) (h : l.length = 9) : splice l 0 (coSV c).cells = (coSV c).cells := by simp [splice, co_len, h]
theorem cellsOf_co {P : Program} {t : TypeId} (c : Co) (h1 : aAgg P t = some true) (h2 : aSize P t = some 9) : cellsOf P t (coSV c).cells = some (coSV c) := by
  rw [coSV_eq]; simp [cellsOf, h1, h2, SV.cells]
theorem getD_map' {α : Type} [Inhabited α] (f : α → SV) {l : List α} {i : Nat} (h : i < l.length) : (l.map f).getD i .any = f (l.getD i default) := by
  simp [List.getD_eq_getElem?_getD, h]
theorem ids_i64s (n : Nat) (m : AL.Mode) (hm : m = .imm ∨ m = .full) (l : List Int) : Ids n (.slice m 1 (l.map i64)) := by
  refine ids_slice hm fun x hx y hy => ?_
  obtain ⟨a, _, rfl⟩ := List.mem_map.1 hx
  simp only [SV.cells, List.mem_singleton] at hy
  subst hy
  exact .sc _
theorem ids_bns (n : Nat) (l : List Bn) : Ids n (bnsSV l) := by
  refine ids_slice (.inl rfl) fun x hx y hy => ?_
  obtain ⟨b, _, rfl⟩ := List.mem_map.1 hx
  simp only [bnSV, SV.cells, List.mem_cons, List.not_mem_nil, or_false] at hy
  rcases hy with rfl | rfl
  · exact .sc _
  · exact ids_i64s n _ (.inl rfl) _
theorem ids_bds (n : Nat) (l : List (List Bn)) : Ids n (bdsSV l) := by
  refine ids_slice (.inl rfl) fun x hx y hy => ?_
  obtain ⟨b, _, rfl⟩ := List.mem_map.1 hx
  simp only [bnsSV, SV.cells, List.mem_singleton] at hy
  subst hy
  exact ids_bns n b
theorem ids_nil (n : Nat) (m : AL.Mode) (z : Nat) (hm : m = .imm ∨ m = .full) : Ids n (.slice m z []) := ids_slice hm fun x hx => by cases hx
mutual
theorem ids_co (n : Nat) : ∀ c : Co, Ids n (coSV c)
  | .mk k m t ks bs => by
    simp only [coSV, ids_agg, List.forall_mem_cons, ids_sc, true_and]
    refine ⟨ids_slice (.inl rfl) (ids_coL n ks), ids_nil n _ _ (.inl rfl), ids_nil n _ _ (.inl rfl), ids_nil n _ _ (.inl rfl), ids_bds n bs, fun x hx => by cases hx⟩
theorem ids_coL (n : Nat) : ∀ l : List Co, ∀ x ∈ coL l, ∀ y ∈ x.cells, Ids n y
  | [] => fun x hx => by cases hx
  | a :: r => fun x hx y hy => by
    simp only [coL, List.mem_cons] at hx
    rcases hx with rfl | hx
    · have := ids_co n a
      rw [coSV_eq, ids_agg] at this
      rw [cells_co] at hy
      exact this y hy
    · exact ids_coL n r x hx y hy
end
attribute [go_sem] norm_co norm1_co shape_co elem_co all_co strip_co gIf_co co_len splice_co cellsOf_co cosSV bdsSV bnsSV
/-! Instructions. -/
def inCells (i : In) : List SV := [i64 i.op, i64 i.a, i64 i.b]
def inSV (i : In) : SV := .agg (inCells i)
def codeCells (l : List In) : List SV := l.flatMap inCells
theorem codeCells_len : ∀ l : List In, (codeCells l).length = l.length * 3
  | [] => rfl
  | i :: r => by
    show (inCells i ++ codeCells r).length = _
    rw [List.length_append, codeCells_len r]
    simp [inCells]; omega
theorem codeCells_app (a b : List In) : codeCells (a ++ b) = codeCells a ++ codeCells b := by simp [codeCells]
theorem codeCells_drop : ∀ (l : List In) (k : Nat), k < l.length → ∃ r, (codeCells l).drop (k * 3) = inCells (l.getD k default) ++ r
  | [], k, h => by cases h
  | i :: l, 0, h => ⟨codeCells l, rfl⟩
  | i :: l, k + 1, h => by
    obtain ⟨r, hr⟩ := codeCells_drop l k (by simpa using h)
    refine ⟨r, ?_⟩
    have e : (k + 1) * 3 = k * 3 + 1 + 1 + 1 := by omega
    rw [e]
    exact hr
theorem codeCells_set : ∀ (l : List In) (k : Nat) (x : In), k < l.length → codeCells (l.set k x) = (codeCells l).take (k * 3) ++ inCells x ++ (codeCells l).drop (k * 3 + 3)
  | [], k, x, h => by cases h
  | i :: l, 0, x, h => rfl
  | i :: l, k + 1, x, h => by
    have ih := codeCells_set l k x (by simpa using h)
    have e : (k + 1) * 3 = k * 3 + 1 + 1 + 1 := by omega
    have e2 : (k + 1) * 3 + 3 = (k * 3 + 3) + 1 + 1 + 1 := by omega
    rw [e2, e]
    show inCells i ++ codeCells (l.set k x) = _
    rw [ih]; rfl
/-- What is at a place: of an array's cells. -/
theorem code_at {l : List In} {k : Nat} (h : k < l.length) (j : Nat) (hj : j < 3) : (codeCells l).drop (k * 3 + j) = (inCells (l.getD k default)).drop j ++ (codeCells l).drop ((k + 1) * 3) := by
  obtain ⟨r, hr⟩ := codeCells_drop l k h
  have h3 : (inCells (l.getD k default)).length = 3 := rfl
  have e1 : (codeCells l).drop (k * 3 + j) = (inCells (l.getD k default)).drop j ++ r := by
    rw [← List.drop_drop, hr, List.drop_append_of_le_length (by omega)]
  have e2 : (codeCells l).drop ((k + 1) * 3) = r := by
    have : (k + 1) * 3 = k * 3 + 3 := by omega
    rw [this, ← List.drop_drop, hr, List.drop_append_of_le_length (by omega)]; rfl
  rw [e1, e2]
/-! A writer, its pool. -/
structure WL where
  w : Nat
  p : Nat
  a : Nat
  ti : Nat
  tt : Nat
structure GV where
  ver : Nat
  vi : Nat
  vt : Nat
def wOb (L : WL) (g : GS) (v : GV) : List SV := [.ptr L.p 0, .arr L.a v.ver g.code.length]
def pOb (L : WL) (g : GS) (v : GV) : List SV := [.slice .full 0 [], .slice (.own L.ti v.vi) 1 (g.ints.map i64), .slice (.own L.tt v.vt) 1 (g.texts.map str)]
def stW (s : St) (L : WL) (g : GS) (v : GV) : St := ((((s.set L.w (.cells (wOb L g v))).set L.p (.cells (pOb L g v))).set L.a (.arr v.ver 3 (codeCells g.code))).set L.ti (.tok v.vi)).set L.tt (.tok v.vt)
structure AtW (s : St) (L : WL) (g : GS) (v : GV) : Prop where
  w : s[L.w]? = some (.cells (wOb L g v))
  p : s[L.p]? = some (.cells (pOb L g v))
  a : s[L.a]? = some (.arr v.ver 3 (codeCells g.code))
  ti : s[L.ti]? = some (.tok v.vi)
  tt : s[L.tt]? = some (.tok v.vt)
  nwp : L.w ≠ L.p
  nii : L.ti ≠ L.tt
  gl : ∃ (gid : Nat) (m : Int), s[gid]? = some (Ob.glob 0 (.int .i64 m))
namespace AtW
variable {s : St} {L : WL} {g : GS} {v : GV}
theorem nwa (h : AtW s L g v) : L.w ≠ L.a := by intro e; have := h.w; rw [e, h.a] at this; cases this
theorem nwi (h : AtW s L g v) : L.w ≠ L.ti := by intro e; have := h.w; rw [e, h.ti] at this; cases this
theorem nwt (h : AtW s L g v) : L.w ≠ L.tt := by intro e; have := h.w; rw [e, h.tt] at this; cases this
theorem npa (h : AtW s L g v) : L.p ≠ L.a := by intro e; have := h.p; rw [e, h.a] at this; cases this
theorem npi (h : AtW s L g v) : L.p ≠ L.ti := by intro e; have := h.p; rw [e, h.ti] at this; cases this
theorem npt (h : AtW s L g v) : L.p ≠ L.tt := by intro e; have := h.p; rw [e, h.tt] at this; cases this
theorem nai (h : AtW s L g v) : L.a ≠ L.ti := by intro e; have := h.a; rw [e, h.ti] at this; cases this
theorem nat (h : AtW s L g v) : L.a ≠ L.tt := by intro e; have := h.a; rw [e, h.tt] at this; cases this
/-- All that is told of it, for simp. -/
theorem facts (h : AtW s L g v) : (inS s L.w = True ∧ isObj s L.w = True ∧ objAt s L.w = wOb L g v) ∧ (inS s L.p = True ∧ isObj s L.p = True ∧ objAt s L.p = pOb L g v) ∧
    (inS s L.a = True ∧ arrOk s L.a v.ver = True ∧ arrZ s L.a = 3 ∧ arrC s L.a = codeCells g.code) ∧ (inS s L.ti = True ∧ tokAt s L.ti v.vi = True) ∧ (inS s L.tt = True ∧ tokAt s L.tt v.vt = True) :=
  ⟨cells_facts h.w, cells_facts h.p, arr_facts h.a, ⟨inS_of h.ti, by rw [tokAt_eq h.ti]; simp⟩, ⟨inS_of h.tt, by rw [tokAt_eq h.tt]; simp⟩⟩
end AtW
section
variable {s s' : St} {L : WL} {g g' : GS} {v v' : GV}
theorem stW_len : (stW s L g v).length = s.length := by simp [stW]
theorem stW_out {j : Nat} (h : j ≠ L.w ∧ j ≠ L.p ∧ j ≠ L.a ∧ j ≠ L.ti ∧ j ≠ L.tt) : (stW s L g v)[j]? = s[j]? := by
  unfold stW
  rw [set_get_ne h.2.2.2.2, set_get_ne h.2.2.2.1, set_get_ne h.2.2.1, set_get_ne h.2.1, set_get_ne h.1]
theorem AtW.turn (h : AtW s L g v) (g' : GS) (v' : GV) : AtW (stW s L g' v') L g' v' := by
  have a := lt_of_get h.w
  have b := lt_of_get h.p
  have c := lt_of_get h.a
  have d := lt_of_get h.ti
  have e := lt_of_get h.tt
  have hgl : ∃ (gid : Nat) (m : Int), (stW s L g' v')[gid]? = some (Ob.glob 0 (.int .i64 m)) := by
    obtain ⟨gid, m, hg⟩ := h.gl
    refine ⟨gid, m, ?_⟩
    rw [stW_out, hg]
    refine ⟨?_, ?_, ?_, ?_, ?_⟩
    · rintro rfl; rw [h.w] at hg; cases hg
    · rintro rfl; rw [h.p] at hg; cases hg
    · rintro rfl; rw [h.a] at hg; cases hg
    · rintro rfl; rw [h.ti] at hg; cases hg
    · rintro rfl; rw [h.tt] at hg; cases hg
  refine ⟨?_, ?_, ?_, ?_, ?_, h.nwp, h.nii, hgl⟩ <;> unfold stW
  · rw [set_get_ne h.nwt, set_get_ne h.nwi, set_get_ne h.nwa, set_get_ne h.nwp, set_get a]
  · rw [set_get_ne h.npt, set_get_ne h.npi, set_get_ne h.npa, set_get (by simpa using b)]
  · rw [set_get_ne h.nat, set_get_ne h.nai, set_get (by simpa using c)]
  · rw [set_get_ne h.nii, set_get (by simpa using d)]
  · rw [set_get (by simpa using e)]
structure AtV (s : St) (L : WL) (g : GS) (v : GV) : Prop where
  w : s[L.w]? = some (.cells (wOb L g v))
  p : s[L.p]? = some (.cells (pOb L g v))
  a : s[L.a]? = some (.arr v.ver 3 (codeCells g.code))
  ti : s[L.ti]? = some (.tok v.vi)
  tt : s[L.tt]? = some (.tok v.vt)
theorem AtW.toV (h : AtW s L g v) : AtV s L g v := ⟨h.w, h.p, h.a, h.ti, h.tt⟩
theorem stW_of (hl : s'.length = s.length) (ho : ∀ j, j ≠ L.w ∧ j ≠ L.p ∧ j ≠ L.a ∧ j ≠ L.ti ∧ j ≠ L.tt → s'[j]? = s[j]?) (h : AtW s L g v) (h' : AtV s' L g' v') : s' = stW s L g' v' := by
  have k := h.turn g' v'
  refine List.ext_getElem? fun j => ?_
  by_cases e1 : j = L.w
  · rw [e1, h'.w, k.w]
  by_cases e2 : j = L.p
  · rw [e2, h'.p, k.p]
  by_cases e3 : j = L.a
  · rw [e3, h'.a, k.a]
  by_cases e4 : j = L.ti
  · rw [e4, h'.ti, k.ti]
  by_cases e5 : j = L.tt
  · rw [e5, h'.tt, k.tt]
  rw [ho j ⟨e1, e2, e3, e4, e5⟩, stW_out ⟨e1, e2, e3, e4, e5⟩]
theorem stW_self (h : AtW s L g v) : stW s L g v = s := (stW_of rfl (fun _ _ => rfl) h h.toV).symm
theorem stW_stW (h : AtW s L g v) {g1 : GS} {v1 : GV} : stW (stW s L g1 v1) L g' v' = stW s L g' v' := by
  refine (stW_of (by simp [stW_len]) (fun j hj => ?_) h ((h.turn g1 v1).turn g' v').toV)
  rw [stW_out hj, stW_out hj]
theorem AtW.app (h : AtW s L g v) (ex : St) : AtW (s ++ ex) L g v := ⟨get_app h.w ex, get_app h.p ex, get_app h.a ex, get_app h.ti ex, get_app h.tt ex, h.nwp, h.nii, by obtain ⟨gid, m, hg⟩ := h.gl; exact ⟨gid, m, get_app hg ex⟩⟩
theorem stW_app (h : AtW s L g v) (ex : St) : stW (s ++ ex) L g' v' = stW s L g' v' ++ ex := by
  refine (stW_of (by simp [stW_len]) (fun j hj => ?_) (h.app ex) ((h.turn g' v').app ex).toV).symm
  by_cases hlt : j < s.length
  · rw [List.getElem?_append_left (by rw [stW_len]; exact hlt), List.getElem?_append_left hlt, stW_out hj]
  · rw [List.getElem?_append_right (by rw [stW_len]; omega), List.getElem?_append_right (by omega), stW_len]
theorem mod_stW (h : AtW s L g v) : Mod s (stW s L g' v') := by
  have k := h.turn g' v'
  have lt : ∀ {j : Nat} {o : Ob}, s[j]? = some o → j < (stW s L g' v').length := fun hj => by rw [stW_len]; exact lt_of_get hj
  refine ⟨by rw [stW_len]; exact Nat.le_refl _, fun j o ho => ?_⟩
  have sl : ∀ {m : AL.Mode} {l : List SV}, (∀ id ver, m = .own id ver → id < (stW s L g' v').length) → (∀ x ∈ l, ∃ y, x = .sc y) → Ids (stW s L g' v').length (.slice m 1 l) := fun hm hl =>
    .slice _ _ _ hm fun i q hi hq => by
      obtain ⟨y', hy⟩ := hl _ (List.getElem_mem hi)
      obtain rfl : q = 0 := by omega
      simp only [List.getD_eq_getElem?_getD, List.getElem?_eq_getElem hi, Option.getD_some, hy, SV.cells]
      exact .sc _
  by_cases e1 : j = L.w
  · subst e1; rw [k.w] at ho; cases ho
    right
    rw [obIds_cells]
    simp only [wOb, List.forall_mem_cons]
    exact ⟨.ptr _ _ (lt h.p), .arr _ _ _ (lt h.a), fun x hx => by cases hx⟩
  by_cases e2 : j = L.p
  · subst e2; rw [k.p] at ho; cases ho
    right
    rw [obIds_cells]
    simp only [pOb, List.forall_mem_cons]
    refine ⟨ids_nil _ _ _ (.inr rfl), sl (fun id ver e => by cases e; exact lt h.ti) fun x hx => ?_, sl (fun id ver e => by cases e; exact lt h.tt) fun x hx => ?_, fun x hx => by cases hx⟩
    · obtain ⟨a, _, rfl⟩ := List.mem_map.1 hx; exact ⟨_, rfl⟩
    · obtain ⟨a, _, rfl⟩ := List.mem_map.1 hx; exact ⟨_, rfl⟩
  by_cases e3 : j = L.a
  · subst e3; rw [k.a] at ho; cases ho
    right
    rw [obIds_arr]
    intro x hx
    obtain ⟨i, _, hi⟩ := List.mem_flatMap.1 hx
    simp only [inCells, List.mem_cons, List.not_mem_nil, or_false] at hi
    rcases hi with rfl | rfl | rfl <;> exact .sc _
  by_cases e4 : j = L.ti
  · subst e4; rw [k.ti] at ho; cases ho; exact .inr trivial
  by_cases e5 : j = L.tt
  · subst e5; rw [k.tt] at ho; cases ho; exact .inr trivial
  rw [stW_out ⟨e1, e2, e3, e4, e5⟩] at ho
  exact .inl ho
/-- A writer's call ends: what it made is forgotten. -/
theorem fin_W (h : AtW s L g v) {K : SV → St → Prop} {x : SV} {ex : St} (hn : norm x = x) (hi : Ids s.length x) (hk : K x (stW s L g' v')) : FinM s K x (stW s L g' v' ++ ex) :=
  ⟨_, ex, rfl, mod_stW h, by rw [hn, stW_len]; exact hi, by rw [hn]; exact hk⟩
end
end Go.AL
