/- Lists of numbers: Index, Contains, Clone; the engine: Reads. -/
import Derived.Test.YteclbnjpijakbaaW12
import Derived.Test.YteclbnjpijakbaaA8
import Derived.Shelf.Slices.In.Clone
import Derived.Sort.EveryDepth
set_option linter.unusedSimpArgs false
set_option linter.unusedVariables false
set_option maxRecDepth 8000
namespace Go.Proofs
open Go Go.AL Go.Shelf
def Try.lays15_ren : Go.Shelf.Ren := ⟨fun | 15 => 82 | n => n, fun | 22 => 29 | 3 => 3 | 4 => 4 | n => n, fun | n => n⟩
theorem Try.lays15 : Go.Proofs.Lays2.n15 Try.prog Try.lays15_ren := {
  mixed := by kernel_rfl
  f15 := Try.func82.trans (congrArg some (by kernel_rfl))
  t3 := Try.underlying3
  a3 := Try.isAgg3
  z3 := Try.sizeOf3
  v3 := Try.zeroValue3
  t4 := Try.underlying4
  a4 := Try.isAgg4
  z4 := Try.sizeOf4
  v4 := Try.zeroValue4
  t22 := Try.underlying29
  a22 := Try.isAgg29
  z22 := Try.sizeOf29
  v22 := Try.zeroValue29
  i3 := by kernel_rfl }

def indexF (l : List Int) (n : Int) : Int := match l.findIdx? fun a => decide (n = a) with | some i => (i : Int) | none => -1

theorem index_c {st : St} (m : AL.Mode) {l : List Int} (hl : l.length ≤ 1000000) (n : Int) (K : SV → St → Prop) (h : K (i64 (indexF l n)) st) : ACalls Try.prog 76 [.slice m 1 (l.map i64), i64 n] K st := by
  refine acalls_go_pure [] Try.func76 rfl Try.results76 Try.ntmps76 ?_
  simp only [go_sem, reduceCtorEq, Nat.reduceAdd, Nat.reduceMul, Nat.reduceLeDiff, Nat.reduceLT, Int.reduceLE, Int.reduceLT, Int.reduceEq, Nat.reduceBEq, Nat.reduceEqDiff]
  refine awp_rounds [] (fun r e s => ∃ (k : Nat), k + r = l.length ∧ indexF l n = (match (l.drop k).findIdx? fun a => decide (n = a) with | some i => ((k + i : Nat) : Int) | none => -1) ∧ e = [.slice m 1 (l.map i64), i64 n, .any, .any, .any, .any, .any, i64 l.length, i64 k, .any, .any, .any, .any, .any, .any, .any, .any, .any, .any] ∧ s = st) (n := l.length) ?_ ⟨0, by omega, by unfold indexF; rw [List.drop_zero]; split <;> simp, rfl, rfl⟩ ?_
  · repeat (first | exact leEnv_nil | refine leEnv_any _ ?_ | refine leEnv_same _ ?_ | refine leEnv_norm _ ?_)
  rintro r e s ⟨k, hkm, hv, rfl, rfl⟩
  by_cases hlt : k < l.length
  · have c1 : (k : Int) < (l.length : Int) := by omega
    have c2 : (0 : Int) ≤ (k : Int) := by omega
    have hw := wrapS k (by omega)
    rw [drop_i64 hlt, List.findIdx?_cons] at hv
    obtain ⟨a, ha⟩ : ∃ a, a = l.getD k 0 := ⟨_, rfl⟩
    rw [← ha] at hv
    simp only [go_sem, reduceCtorEq, Nat.reduceAdd, Nat.reduceMul, Nat.reduceLeDiff, Nat.reduceLT, Int.reduceLE, Int.reduceLT, Int.reduceEq, Nat.reduceBEq, Nat.reduceEqDiff, c1, c2, getD_i64 hlt, hw, Int.toNat_natCast]
    rw [← ha]
    refine ⟨fun c => ?_, fun c => ⟨r - 1, _, by omega, ?_, k + 1, by omega, ?_, rfl⟩⟩
    · rw [if_pos (by simpa using c)] at hv
      rw [hv] at h
      exact fin_sc h
    · repeat (first | exact leEnv_nil | refine leEnv_any _ ?_ | refine leEnv_same _ ?_ | refine leEnv_norm _ ?_)
    · rw [if_neg (by simpa using c)] at hv
      rw [hv]
      cases (l.drop (k + 1)).findIdx? fun a => decide (n = a) with
      | none => rfl
      | some i => simp only [Option.map_some]; rw [show k + (i + 1) = k + 1 + i by omega]
  · obtain rfl : k = l.length := by omega
    simp only [go_sem, reduceCtorEq, Nat.reduceAdd, Nat.reduceMul, Nat.reduceLeDiff, Nat.reduceLT, Int.reduceLE, Int.reduceLT, Int.reduceEq, Nat.reduceBEq, Nat.reduceEqDiff, Int.lt_irrefl]
    rw [hv, List.drop_length] at h
    exact fin_sc h

def containsF (l : List Int) (n : Int) : Bool := decide (n ∈ l)

theorem contains_c {st : St} (m : AL.Mode) {l : List Int} (hl : l.length ≤ 1000000) (n : Int) (K : SV → St → Prop) (h : K (.sc (.bool (containsF l n))) st) : ACalls Try.prog 52 [.slice m 1 (l.map i64), i64 n] K st := by
  have hi := index_c (st := st) m hl n
  have hc : decide (0 ≤ indexF l n) = containsF l n := by
    unfold indexF containsF
    cases hf : l.findIdx? fun a => decide (n = a) with
    | none =>
      rw [List.findIdx?_eq_none_iff] at hf
      have : n ∉ l := fun h => by have := hf n h; simp at this
      simp [this]
    | some i =>
      obtain ⟨hi1, hi2, _⟩ := List.findIdx?_eq_some_iff_getElem.1 hf
      have : n ∈ l := by
        have e : n = l[i] := by simpa using hi2
        rw [e]; exact List.getElem_mem _
      simp [this]
  refine acalls_go_pure [] Try.func52 rfl Try.results52 Try.ntmps52 ?_
  simp only [go_sem, reduceCtorEq, Nat.reduceAdd, Nat.reduceMul, Nat.reduceLeDiff, Nat.reduceLT, Int.reduceLE, Int.reduceLT, Int.reduceEq, Nat.reduceBEq, Nat.reduceEqDiff]
  refine hi _ ?_
  simp only [go_sem, reduceCtorEq, Nat.reduceAdd, Nat.reduceMul, Nat.reduceLeDiff, Nat.reduceLT, Int.reduceLE, Int.reduceLT, Int.reduceEq, Nat.reduceBEq, Nat.reduceEqDiff, hc]
  exact fin_sc h

theorem ids_nums (n : Nat) (m : AL.Mode) (l : List Int) : Ids n (.slice .imm 1 (l.map i64)) := by
  refine .slice _ _ _ (fun _ _ e => by cases e) fun i j hi hj => ?_
  have hi' : i < l.length := by simpa using hi
  have : j = 0 := by omega
  subst this
  have e : (l.map i64).getD i .any = i64 (l.getD i 0) := by simp [List.getD_eq_getElem?_getD, hi']
  rw [e]
  exact .sc _

theorem clone0_c {st : St} (m : AL.Mode) (K : SV → St → Prop) (h : K (.slice .imm 1 []) st) : ACalls Try.prog 82 [.slice m 1 []] K st := by
  intro σ w vs hI hR
  obtain ⟨v, rfl, hr⟩ := args_one hR
  generalize hl : ([] : List SV) = l at hr
  cases hr with
  | nil =>
    refine (calls_of_every_depth (P := Try.prog) fun D => AnyS.slices_Clone_int_nil_in Try.lays15 D 0 0 w).mono ?_
    rintro e w' ⟨rfl, rfl⟩
    exact ⟨_, _, st, σ, rfl, h, hI, .nil _ _ trivial, Ext.refl _ _ _⟩
  | slice m z l a cap =>
    subst hl
    refine (calls_of_every_depth (P := Try.prog) fun D => AnyS.slices_Clone_int_zero_in Try.lays15 D a cap w).mono ?_
    rintro e w' ⟨v', rfl, ⟨_, ho⟩, _, hb⟩
    refine ⟨v', _, st, σ, rfl, h, inv_below hI hb, ?_, ext_below hI hb⟩
    rcases ho with ⟨rfl, _⟩ | ⟨g, cap, cur, rfl, _⟩
    · exact .nil _ _ trivial
    · exact .slice .imm 1 [] ⟨g, 0, none⟩ cap (fun _ _ => default) (Nat.zero_le _) (fun h => absurd rfl h) (fun i hi => by cases hi) (fun i j hi => by cases hi) (fun i j hi => by cases hi) trivial

theorem clone_c {st : St} (m : AL.Mode) {l : List Int} (hl : l.length ≤ 1000000) (K : SV → St → Prop) (h : K (.slice .imm 1 (l.map i64)) st) : ACalls Try.prog 82 [.slice m 1 (l.map i64)] K st := by
  cases l with
  | nil => exact clone0_c m K h
  | cons a r =>
    refine acalls_go_pure [] Try.func82 rfl Try.results82 Try.ntmps82 ?_
    have hap := app_i64s (n := (a :: r).length) (by omega)
    simp only [go_sem, reduceCtorEq, Nat.reduceAdd, Nat.reduceMul, Nat.reduceLeDiff, Nat.reduceLT, Int.reduceLE, Int.reduceLT, Int.reduceEq, Nat.reduceBEq, Nat.reduceEqDiff]
    exact ⟨hap, ⟨[.tok 0], rfl⟩, ids_nums _ .imm (a :: r), h⟩

theorem reads_c {st : St} {E : EG} (hE : EngAt st E) (hF : Fine E) (t : Int) (K : SV → St → Prop) (h : K (.slice .imm 1 ((match E.of t with | some x => x.reads | none => []).map i64)) st) : ACalls Try.prog 64 [.ptr E.id 0, i64 t] K st := by
  refine acalls_as ?_
  refine acalls_go_pure [] Try.func64 rfl Try.results64 Try.ntmps64 ?_
  have hof := of_c hE t
  cases hx : E.of t with
  | none =>
    rw [hx] at hof h
    simp only [go_sem, reduceCtorEq, Nat.reduceAdd, Nat.reduceMul, Nat.reduceLeDiff, Nat.reduceLT, Int.reduceLE, Int.reduceLT, Int.reduceEq, Nat.reduceBEq, Nat.reduceEqDiff]
    refine hof _ ?_
    simp only [txSV, go_sem, reduceCtorEq, Nat.reduceAdd, Nat.reduceMul, Nat.reduceLeDiff, Nat.reduceLT, Int.reduceLE, Int.reduceLT, Int.reduceEq, Nat.reduceBEq, Nat.reduceEqDiff]
    exact ⟨⟨[], by simp⟩, .slice _ _ _ (fun _ _ e => by cases e) (fun i j hi => by cases hi), _, fun σ w v hr => rep_empty hr, h⟩
  | some x =>
    rw [hx] at hof h
    have hxx := (of_some hx).2
    have g := cells_facts (hE.tx _ x hxx).cells
    have tk := tokAt_eq (v' := x.rver) (hE.tx _ x hxx).tok
    have hcl := clone_c (st := st) (.own x.rid x.rver) (l := x.reads) (by have := (hF.reads _ x hxx).2.1; omega)
    simp only [go_sem, reduceCtorEq, Nat.reduceAdd, Nat.reduceMul, Nat.reduceLeDiff, Nat.reduceLT, Int.reduceLE, Int.reduceLT, Int.reduceEq, Nat.reduceBEq, Nat.reduceEqDiff]
    refine hof _ ?_
    simp only [txSV, go_sem, reduceCtorEq, Nat.reduceAdd, Nat.reduceMul, Nat.reduceLeDiff, Nat.reduceLT, Int.reduceLE, Int.reduceLT, Int.reduceEq, Nat.reduceBEq, Nat.reduceEqDiff, g.1, g.2.1, g.2.2, TX.cells]
    refine hcl _ ?_
    simp only [go_sem, reduceCtorEq, Nat.reduceAdd, Nat.reduceMul, Nat.reduceLeDiff, Nat.reduceLT, Int.reduceLE, Int.reduceLT, Int.reduceEq, Nat.reduceBEq, Nat.reduceEqDiff]
    exact ⟨⟨[], by simp⟩, ids_nums _ .imm x.reads, _, fun σ w v hr => hr, h⟩

end Go.Proofs
