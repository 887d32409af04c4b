/- The harness: does. -/
import Derived.Test.YteclbnjpijakbaaH1
set_option linter.unusedSimpArgs false
set_option linter.unusedVariables false
set_option maxRecDepth 8000
namespace Go.Proofs
open Go Go.AL

/-- Something that is asked of an engine. -/
structure Dd where
  kind : Int
  t : Int
  n : Int
  v : Int
instance : Inhabited Dd := ⟨⟨0, 0, 0, 0⟩⟩
def ddSV (d : Dd) : SV := .agg [i64 d.kind, i64 d.t, i64 d.n, i64 d.v]

def validF (E : EP) (t : Int) : Int := match E.opn t with
  | some x => validL t x.start E.vars x.reads
  | none => 1
theorem validF_c {st : St} {E : EG} (hE : EngAt st E) (hF : Fine E) (t : Int) (K : SV → St → Prop) (h : K (i64 (validF E.abs t)) st) : ACalls Try.prog 58 [.ptr E.id 0, i64 t] K st := by
  refine Valid_c hE hF t K ?_
  unfold validF at h
  rw [abs_opn] at h
  cases hx : E.opn t with
  | none => rw [hx] at h; exact h
  | some x => rw [hx] at h; exact h

def doesF (E : EP) (d : Dd) : (Int × Int) × EP :=
  if d.kind = 0 then ((0, (beginF E d.t).1), (beginF E d.t).2) else
  if d.kind = 1 then readF E d.t d.n else
  if d.kind = 2 then ((0, (writeF E d.t d.n d.v).1), (writeF E d.t d.n d.v).2) else
  if d.kind = 3 then stepF E d.t else
  if d.kind = 4 then ((0, (partF E d.t).1), (partF E d.t).2) else
  if d.kind = 5 then ((0, (shutF E d.t true).1), (shutF E d.t true).2) else
  if d.kind = 6 then ((0, (shutF E d.t false).1), (shutF E d.t false).2) else
  if d.kind = 7 then ((0, (abortF E d.t).1), (abortF E d.t).2) else
  if d.kind = 8 then makeF E d.v else
  if d.kind = 9 then ((0, validF E d.t), E) else ((0, 0), E)

def doesR (R : RP) (d : Dd) : (Int × Int) × RP :=
  if d.kind = 0 then ((0, (beginR R d.t).1), (beginR R d.t).2) else
  if d.kind = 1 then readR R d.t d.n else
  if d.kind = 2 then ((0, (writeR R d.t d.n d.v).1), (writeR R d.t d.n d.v).2) else
  if d.kind = 3 then stepR R d.t else
  if d.kind = 4 then ((0, (partR R d.t).1), (partR R d.t).2) else
  if d.kind = 5 then ((0, (shutR R d.t true).1), (shutR R d.t true).2) else
  if d.kind = 6 then ((0, (shutR R d.t false).1), (shutR R d.t false).2) else
  if d.kind = 7 then ((0, (abortR R d.t).1), (abortR R d.t).2) else
  if d.kind = 8 then makeR R d.v else
  if d.kind = 9 then ((0, if R.opn d.t = true then validR d.t (R.get d.t).start R.vars (R.get d.t).reads else 1), R) else ((0, 0), R)

/-- The five boxes of a call. -/
structure Box5 (s : St) (n : Nat) (d : Dd) (a b : Int × Int) : Prop where
  b5 : s[n]? = some (.cells [i64 d.kind, i64 d.t, i64 d.n, i64 d.v])
  b6 : s[n + 1]? = some (.cells [i64 0, i64 0])
  b7 : s[n + 2]? = some (.cells [i64 0, i64 0])
  b8 : s[n + 3]? = some (.cells [i64 a.1, i64 a.2])
  b9 : s[n + 4]? = some (.cells [i64 b.1, i64 b.2])

theorem Box5.fr {s s' : St} {n : Nat} {d : Dd} {a b : Int × Int} (h : Box5 s n d a b) (hl : ∀ j, n ≤ j → j < s.length → s'[j]? = s[j]?) : Box5 s' n d a b :=
  ⟨(hl _ (by omega) (lt_of_get h.b5)).trans h.b5, (hl _ (by omega) (lt_of_get h.b6)).trans h.b6, (hl _ (by omega) (lt_of_get h.b7)).trans h.b7, (hl _ (by omega) (lt_of_get h.b8)).trans h.b8, (hl _ (by omega) (lt_of_get h.b9)).trans h.b9⟩
theorem Box5.set8 {s : St} {n : Nat} {d : Dd} {a b : Int × Int} (h : Box5 s n d a b) (x y : Int) : Box5 (s.set (n + 3) (.cells [i64 x, i64 y])) n d (x, y) b :=
  ⟨(List.getElem?_set_ne (by omega)).trans h.b5, (List.getElem?_set_ne (by omega)).trans h.b6, (List.getElem?_set_ne (by omega)).trans h.b7, List.getElem?_set_self (lt_of_get h.b8), (List.getElem?_set_ne (by omega)).trans h.b9⟩
theorem Box5.set9 {s : St} {n : Nat} {d : Dd} {a b : Int × Int} (h : Box5 s n d a b) (x y : Int) : Box5 (s.set (n + 4) (.cells [i64 x, i64 y])) n d a (x, y) :=
  ⟨(List.getElem?_set_ne (by omega)).trans h.b5, (List.getElem?_set_ne (by omega)).trans h.b6, (List.getElem?_set_ne (by omega)).trans h.b7, (List.getElem?_set_ne (by omega)).trans h.b8, List.getElem?_set_self (lt_of_get h.b9)⟩
theorem Box5.facts {s : St} {n : Nat} {d : Dd} {a b : Int × Int} (h : Box5 s n d a b) :
    (inS s n = True ∧ isObj s n = True ∧ objAt s n = [i64 d.kind, i64 d.t, i64 d.n, i64 d.v]) ∧ (inS s (n + 1) = True ∧ isObj s (n + 1) = True ∧ objAt s (n + 1) = [i64 0, i64 0]) ∧
    (inS s (n + 2) = True ∧ isObj s (n + 2) = True ∧ objAt s (n + 2) = [i64 0, i64 0]) ∧ (inS s (n + 3) = True ∧ isObj s (n + 3) = True ∧ objAt s (n + 3) = [i64 a.1, i64 a.2]) ∧
    (inS s (n + 4) = True ∧ isObj s (n + 4) = True ∧ objAt s (n + 4) = [i64 b.1, i64 b.2]) :=
  ⟨cells_facts h.b5, cells_facts h.b6, cells_facts h.b7, cells_facts h.b8, cells_facts h.b9⟩

/-- The engines lie below the boxes, or are new. -/
theorem Both.box {s : St} {E : EG} {R : RG} (h : Both s E R) {n m : Nat} (hE : ∀ j, E.has j → j < n ∨ m ≤ j) (hR : ∀ j, R.has j → j < n ∨ m ≤ j) {i : Nat} (h1 : n ≤ i) (h2 : i < m) (o : Ob) : Both (s.set i o) E R :=
  h.same fun j hj => List.getElem?_set_ne (by
    rcases hj with hj | hj
    · rcases hE j hj with h3 | h3 <;> omega
    · rcases hR j hj with h3 | h3 <;> omega)

theorem boxed {st : St} (d : Dd) : Box5 (st ++ [Ob.cells [i64 d.kind, i64 d.t, i64 d.n, i64 d.v], Ob.cells [i64 0, i64 0], Ob.cells [i64 0, i64 0], Ob.cells [i64 0, i64 0], Ob.cells [i64 0, i64 0]]) st.length d (0, 0) (0, 0) := by
  refine ⟨?_, ?_, ?_, ?_, ?_⟩ <;> rw [List.getElem?_append_right (by omega)] <;> simp

set_option maxHeartbeats 16000000 in
theorem does_c {st : St} {E : EG} {R : RG} (hB : Both st E R) (hF : Fine E) {b : Nat} (hG : FineR b R.abs) (d : Dd)
    (hD : 0 < (R.abs.get d.t).stamp → 0 ≤ (R.abs.get d.t).done ∧ (R.abs.get d.t).done < ((sortR 1 (R.abs.get d.t).puts).length : Int)) (K : SV → St → Prop)
    (h : ∀ s E' R', Both s E' R' → E'.id = E.id → R'.id = R.id → E'.abs = (doesF E.abs d).2 → R'.abs = (doesR R.abs d).2 → st.length ≤ s.length → (∀ j, j < st.length → ¬ E.has j → ¬ R.has j → s[j]? = st[j]?) → (∀ j, E'.has j ∨ R'.has j → E.has j ∨ R.has j ∨ st.length ≤ j) →
      K (.tuple [.agg [i64 (doesF E.abs d).1.1, i64 (doesF E.abs d).1.2], .agg [i64 (doesR R.abs d).1.1, i64 (doesR R.abs d).1.2]]) s) : ACalls Try.prog 19 [.ptr E.id 0, .ptr R.id 0, ddSV d] K st := by
  have hel : ∀ j, E.has j → j < st.length := fun j hj => hB.eng.has_lt hj
  have hrl : ∀ j, R.has j → j < st.length := fun j hj => hB.ref.has_lt hj
  obtain ⟨s1, hs1⟩ : ∃ s1, s1 = st ++ [Ob.cells [i64 d.kind, i64 d.t, i64 d.n, i64 d.v], Ob.cells [i64 0, i64 0], Ob.cells [i64 0, i64 0], Ob.cells [i64 0, i64 0], Ob.cells [i64 0, i64 0]] := ⟨_, rfl⟩
  have hB1 : Both s1 E R := by rw [hs1]; exact hB.app _
  have hb1 : Box5 s1 st.length d (0, 0) (0, 0) := by rw [hs1]; exact boxed d
  have hl1 : s1.length = st.length + 5 := by rw [hs1]; simp
  have hold1 : ∀ j, j < st.length → s1[j]? = st[j]? := fun j hj => by rw [hs1, List.getElem?_append_left hj]
  have hse := hs1.symm
  -- what is left of it all
  have fin : ∀ (s : St) (E' : EG) (R' : RG) (a b : Int × Int), Both s E' R' → Box5 s st.length d a b → E'.id = E.id → R'.id = R.id → E'.abs = (doesF E.abs d).2 → R'.abs = (doesR R.abs d).2 → a = (doesF E.abs d).1 → b = (doesR R.abs d).1 → st.length + 5 ≤ s.length →
      (∀ j, j < st.length → ¬ E.has j → ¬ R.has j → s[j]? = st[j]?) → (∀ j, E'.has j → E.has j ∨ st.length + 5 ≤ j) → (∀ j, R'.has j → R.has j ∨ st.length + 5 ≤ j) →
      K (.tuple [.agg [i64 a.1, i64 a.2], .agg [i64 b.1, i64 b.2]]) ((s.set (st.length + 1) (.cells [i64 a.1, i64 a.2])).set (st.length + 2) (.cells [i64 b.1, i64 b.2])) := by
    intro s E' R' a b h1 h2 h3 h4 h5 h6 h7 h8 h9 h10 h11 h12
    have w1 : ∀ j, E'.has j → j < st.length ∨ st.length + 5 ≤ j := fun j hj => (h11 j hj).imp (hel j) id
    have w2 : ∀ j, R'.has j → j < st.length ∨ st.length + 5 ≤ j := fun j hj => (h12 j hj).imp (hrl j) id
    have g1 := h1.box w1 w2 (i := st.length + 1) (by omega) (by omega) (.cells [i64 a.1, i64 a.2])
    have g2 := g1.box w1 w2 (i := st.length + 2) (by omega) (by omega) (.cells [i64 b.1, i64 b.2])
    subst h7 h8
    refine h _ E' R' g2 h3 h4 h5 h6 (by simp; omega) (fun j q1 q2 q3 => ?_) fun j hj => ?_
    · rw [List.getElem?_set_ne (by omega), List.getElem?_set_ne (by omega)]; exact h10 j q1 q2 q3
    · rcases hj with hj | hj
      · rcases h11 j hj with q | q
        · exact .inl q
        · exact .inr (.inr (by omega))
      · rcases h12 j hj with q | q
        · exact .inr (.inl q)
        · exact .inr (.inr (by omega))
  have b := hb1.facts
  have h12 : st.length + 1 ≠ st.length + 2 := by omega
  have h21 : st.length + 2 ≠ st.length + 1 := by omega
  by_cases k0 : d.kind = 0
  · have hdF : doesF E.abs d = ((0, (beginF E.abs d.t).1), (beginF E.abs d.t).2) := by unfold doesF; rw [if_pos k0]
    have hdR : doesR R.abs d = ((0, (beginR R.abs d.t).1), (beginR R.abs d.t).2) := by unfold doesR; rw [if_pos k0]
    have z0 : (d.kind == 0) = true := by simp [k0]
    have c1 := begin_c hB1.eng d.t
    refine acalls_go (M := [5]) Try.func19 rfl Try.results19 Try.ntmps19 ?_
    simp -implicitDefEqProofs only [go_sem, reduceCtorEq, Nat.reduceAdd, Nat.reduceMul, Nat.reduceLeDiff, Nat.reduceLT, Int.reduceLE, Int.reduceLT, Int.reduceEq, Nat.reduceBEq, Nat.reduceEqDiff, ddSV, hse, b.1.1, b.1.2.1, b.1.2.2, b.2.1.1, b.2.1.2.1, b.2.1.2.2, b.2.2.1.1, b.2.2.1.2.1, b.2.2.1.2.2, b.2.2.2.1.1, b.2.2.2.1.2.1, b.2.2.2.1.2.2, b.2.2.2.2.1, b.2.2.2.2.2.1, b.2.2.2.2.2.2, z0]
    refine c1 _ fun s2 E2 q1 q2 q3 => ?_
    have hB2 := hB1.engT q1 q2
    have hb2 := hb1.fr (fun j u v => q2.old j v (fun e => by have := hel j e; omega))
    have hE2 : ∀ j, E2.has j → E.has j ∨ st.length + 5 ≤ j := fun j hj => by rw [← hl1]; exact q2.new j hj
    have hid2 := q2.id
    have hl2 : st.length + 5 ≤ s2.length := by rw [← hl1]; exact q2.len
    have hold2 : ∀ j, j < st.length → ¬ E.has j → ¬ R.has j → s2[j]? = st[j]? := fun j u v w => (q2.old j (by omega) v).trans (hold1 j u)
    have b2 := hb2.facts
    have w1 : ∀ j, E2.has j → j < st.length ∨ st.length + 5 ≤ j := fun j hj => (hE2 j hj).imp (hel j) id
    have w2 : ∀ j, R.has j → j < st.length ∨ st.length + 5 ≤ j := fun j hj => .inl (hrl j hj)
    have hB3 := hB2.box w1 w2 (i := st.length + 3) (by omega) (by omega) (.cells [i64 (0), i64 ((beginF E.abs d.t).1)])
    have hb3 := hb2.set8 (0) ((beginF E.abs d.t).1)
    have b3 := hb3.facts
    have c2 := rbegin_c hB3.ref d.t
    simp -implicitDefEqProofs only [go_sem, reduceCtorEq, Nat.reduceAdd, Nat.reduceMul, Nat.reduceLeDiff, Nat.reduceLT, Int.reduceLE, Int.reduceLT, Int.reduceEq, Nat.reduceBEq, Nat.reduceEqDiff, hse, b.1.1, b.1.2.1, b.1.2.2, b.2.1.1, b.2.1.2.1, b.2.1.2.2, b.2.2.1.1, b.2.2.1.2.1, b.2.2.1.2.2, b.2.2.2.1.1, b.2.2.2.1.2.1, b.2.2.2.1.2.2, b.2.2.2.2.1, b.2.2.2.2.2.1, b.2.2.2.2.2.2, z0, b2.1.1, b2.1.2.1, b2.1.2.2, b2.2.2.2.1.1, b2.2.2.2.1.2.1, b2.2.2.2.1.2.2, b3.1.1, b3.1.2.1, b3.1.2.2, b3.2.2.2.1.1, b3.2.2.2.1.2.1, b3.2.2.2.1.2.2]
    refine c2 _ fun s4 R4 r1 r2 r3 => ?_
    have hB4 := hB3.refT r1 r2
    have hb4 := hb3.fr (fun j u v => r2.old j v (fun e => by have := hrl j e; omega))
    have hl3 : st.length + 5 ≤ (s2.set (st.length + 3) (.cells [i64 (0), i64 ((beginF E.abs d.t).1)])).length := by rw [List.length_set]; exact hl2
    have hR4 : ∀ j, R4.has j → R.has j ∨ st.length + 5 ≤ j := fun j hj => (r2.new j hj).imp id (fun q => Nat.le_trans hl3 q)
    have hid4 := r2.id
    have hl4 : st.length + 5 ≤ s4.length := Nat.le_trans hl3 r2.len
    have hold4 : ∀ j, j < st.length → ¬ E.has j → ¬ R.has j → s4[j]? = st[j]? := fun j u v w => (r2.old j (by omega) w).trans ((List.getElem?_set_ne (by omega)).trans (hold2 j u v w))
    have b4 := hb4.facts
    have w3 : ∀ j, R4.has j → j < st.length ∨ st.length + 5 ≤ j := fun j hj => (hR4 j hj).imp (hrl j) id
    have hB5 := hB4.box w1 w3 (i := st.length + 4) (by omega) (by omega) (.cells [i64 (0), i64 ((beginR R.abs d.t).1)])
    have hb5 := hb4.set9 (0) ((beginR R.abs d.t).1)
    have b5 := hb5.facts
    simp -implicitDefEqProofs only [go_sem, reduceCtorEq, Nat.reduceAdd, Nat.reduceMul, Nat.reduceLeDiff, Nat.reduceLT, Int.reduceLE, Int.reduceLT, Int.reduceEq, Nat.reduceBEq, Nat.reduceEqDiff, hse, z0, b.1.1, b.1.2.1, b.1.2.2, b.2.1.1, b.2.1.2.1, b.2.1.2.2, b.2.2.1.1, b.2.2.1.2.1, b.2.2.1.2.2, b.2.2.2.1.1, b.2.2.2.1.2.1, b.2.2.2.1.2.2, b.2.2.2.2.1, b.2.2.2.2.2.1, b.2.2.2.2.2.2, b2.1.1, b2.1.2.1, b2.1.2.2, b2.2.1.1, b2.2.1.2.1, b2.2.1.2.2, b2.2.2.1.1, b2.2.2.1.2.1, b2.2.2.1.2.2, b2.2.2.2.1.1, b2.2.2.2.1.2.1, b2.2.2.2.1.2.2, b2.2.2.2.2.1, b2.2.2.2.2.2.1, b2.2.2.2.2.2.2, b3.1.1, b3.1.2.1, b3.1.2.2, b3.2.1.1, b3.2.1.2.1, b3.2.1.2.2, b3.2.2.1.1, b3.2.2.1.2.1, b3.2.2.1.2.2, b3.2.2.2.1.1, b3.2.2.2.1.2.1, b3.2.2.2.1.2.2, b3.2.2.2.2.1, b3.2.2.2.2.2.1, b3.2.2.2.2.2.2, b4.1.1, b4.1.2.1, b4.1.2.2, b4.2.1.1, b4.2.1.2.1, b4.2.1.2.2, b4.2.2.1.1, b4.2.2.1.2.1, b4.2.2.1.2.2, b4.2.2.2.1.1, b4.2.2.2.1.2.1, b4.2.2.2.1.2.2, b4.2.2.2.2.1, b4.2.2.2.2.2.1, b4.2.2.2.2.2.2, b5.1.1, b5.1.2.1, b5.1.2.2, b5.2.1.1, b5.2.1.2.1, b5.2.1.2.2, b5.2.2.1.1, b5.2.2.1.2.1, b5.2.2.1.2.2, b5.2.2.2.1.1, b5.2.2.2.1.2.1, b5.2.2.2.1.2.2, b5.2.2.2.2.1, b5.2.2.2.2.2.1, b5.2.2.2.2.2.2]
    refine awp_drawT [] [0, 2, 1, 1] (fun s => s[st.length + 4]? = some (.cells [i64 (0), i64 ((beginR R.abs d.t).1)])) Try.mixed rfl hb5.b9 ?_
    simp -implicitDefEqProofs only [go_sem, reduceCtorEq, Nat.reduceAdd, Nat.reduceMul, Nat.reduceLeDiff, Nat.reduceLT, Int.reduceLE, Int.reduceLT, Int.reduceEq, Nat.reduceBEq, Nat.reduceEqDiff, drawU_n, drawU_0, drawU_1, drawU_2, drawU_3, isStore_s, h12, h21, b5.1.1, b5.1.2.1, b5.1.2.2, b5.2.1.1, b5.2.1.2.1, b5.2.1.2.2, b5.2.2.1.1, b5.2.2.1.2.1, b5.2.2.1.2.2, b5.2.2.2.1.1, b5.2.2.2.1.2.1, b5.2.2.2.1.2.2, b5.2.2.2.2.1, b5.2.2.2.2.2.1, b5.2.2.2.2.2.2]
    refine ⟨fun s hs => ?_, ?_, ?_, ?_⟩
    · have f2 := cells_facts hs
      simp -implicitDefEqProofs only [go_sem, reduceCtorEq, Nat.reduceAdd, Nat.reduceMul, Nat.reduceLeDiff, Nat.reduceLT, Int.reduceLE, Int.reduceLT, Int.reduceEq, Nat.reduceBEq, Nat.reduceEqDiff, f2.1, f2.2.1, f2.2.2]
    · exact (List.getElem?_set_ne (by omega)).trans hb5.b9
    · exact (List.getElem?_set_ne (by omega)).trans ((List.getElem?_set_ne (by omega)).trans hb5.b9)
    rw [hdF, hdR] at fin
    exact fin _ E2 R4 (0, (beginF E.abs d.t).1) (0, (beginR R.abs d.t).1) hB5 hb5 hid2 hid4 q3 r3 rfl rfl (by rw [List.length_set]; exact hl4) (fun j u v w => (List.getElem?_set_ne (by omega)).trans (hold4 j u v w)) hE2 hR4
  by_cases k1 : d.kind = 1
  · have hdF : doesF E.abs d = readF E.abs d.t d.n := by unfold doesF; rw [if_neg k0, if_pos k1]
    have hdR : doesR R.abs d = readR R.abs d.t d.n := by unfold doesR; rw [if_neg k0, if_pos k1]
    have z0 : (d.kind == 0) = false := by simp [k0, k1]
    have z1 : (d.kind == 1) = true := by simp [k1]
    have c1 := read_c hB1.eng hF d.t d.n
    refine acalls_go (M := [5]) Try.func19 rfl Try.results19 Try.ntmps19 ?_
    simp -implicitDefEqProofs only [go_sem, reduceCtorEq, Nat.reduceAdd, Nat.reduceMul, Nat.reduceLeDiff, Nat.reduceLT, Int.reduceLE, Int.reduceLT, Int.reduceEq, Nat.reduceBEq, Nat.reduceEqDiff, ddSV, hse, b.1.1, b.1.2.1, b.1.2.2, b.2.1.1, b.2.1.2.1, b.2.1.2.2, b.2.2.1.1, b.2.2.1.2.1, b.2.2.1.2.2, b.2.2.2.1.1, b.2.2.2.1.2.1, b.2.2.2.1.2.2, b.2.2.2.2.1, b.2.2.2.2.2.1, b.2.2.2.2.2.2, z0, z1]
    refine c1 _ fun s2 E2 q1 q2 q3 => ?_
    have hB2 := hB1.engT q1 q2
    have hb2 := hb1.fr (fun j u v => q2.old j v (fun e => by have := hel j e; omega))
    have hE2 : ∀ j, E2.has j → E.has j ∨ st.length + 5 ≤ j := fun j hj => by rw [← hl1]; exact q2.new j hj
    have hid2 := q2.id
    have hl2 : st.length + 5 ≤ s2.length := by rw [← hl1]; exact q2.len
    have hold2 : ∀ j, j < st.length → ¬ E.has j → ¬ R.has j → s2[j]? = st[j]? := fun j u v w => (q2.old j (by omega) v).trans (hold1 j u)
    have b2 := hb2.facts
    have w1 : ∀ j, E2.has j → j < st.length ∨ st.length + 5 ≤ j := fun j hj => (hE2 j hj).imp (hel j) id
    have w2 : ∀ j, R.has j → j < st.length ∨ st.length + 5 ≤ j := fun j hj => .inl (hrl j hj)
    have hB3 := hB2.box w1 w2 (i := st.length + 3) (by omega) (by omega) (.cells [i64 ((readF E.abs d.t d.n).1.1), i64 ((readF E.abs d.t d.n).1.2)])
    have hb3 := hb2.set8 ((readF E.abs d.t d.n).1.1) ((readF E.abs d.t d.n).1.2)
    have b3 := hb3.facts
    have c2 := rread_c hB3.ref hG d.t d.n
    simp -implicitDefEqProofs only [go_sem, reduceCtorEq, Nat.reduceAdd, Nat.reduceMul, Nat.reduceLeDiff, Nat.reduceLT, Int.reduceLE, Int.reduceLT, Int.reduceEq, Nat.reduceBEq, Nat.reduceEqDiff, hse, b.1.1, b.1.2.1, b.1.2.2, b.2.1.1, b.2.1.2.1, b.2.1.2.2, b.2.2.1.1, b.2.2.1.2.1, b.2.2.1.2.2, b.2.2.2.1.1, b.2.2.2.1.2.1, b.2.2.2.1.2.2, b.2.2.2.2.1, b.2.2.2.2.2.1, b.2.2.2.2.2.2, z0, z1, b2.1.1, b2.1.2.1, b2.1.2.2, b2.2.2.2.1.1, b2.2.2.2.1.2.1, b2.2.2.2.1.2.2, b3.1.1, b3.1.2.1, b3.1.2.2, b3.2.2.2.1.1, b3.2.2.2.1.2.1, b3.2.2.2.1.2.2]
    refine c2 _ fun s4 R4 r1 r2 r3 => ?_
    have hB4 := hB3.refT r1 r2
    have hb4 := hb3.fr (fun j u v => r2.old j v (fun e => by have := hrl j e; omega))
    have hl3 : st.length + 5 ≤ (s2.set (st.length + 3) (.cells [i64 ((readF E.abs d.t d.n).1.1), i64 ((readF E.abs d.t d.n).1.2)])).length := by rw [List.length_set]; exact hl2
    have hR4 : ∀ j, R4.has j → R.has j ∨ st.length + 5 ≤ j := fun j hj => (r2.new j hj).imp id (fun q => Nat.le_trans hl3 q)
    have hid4 := r2.id
    have hl4 : st.length + 5 ≤ s4.length := Nat.le_trans hl3 r2.len
    have hold4 : ∀ j, j < st.length → ¬ E.has j → ¬ R.has j → s4[j]? = st[j]? := fun j u v w => (r2.old j (by omega) w).trans ((List.getElem?_set_ne (by omega)).trans (hold2 j u v w))
    have b4 := hb4.facts
    have w3 : ∀ j, R4.has j → j < st.length ∨ st.length + 5 ≤ j := fun j hj => (hR4 j hj).imp (hrl j) id
    have hB5 := hB4.box w1 w3 (i := st.length + 4) (by omega) (by omega) (.cells [i64 ((readR R.abs d.t d.n).1.1), i64 ((readR R.abs d.t d.n).1.2)])
    have hb5 := hb4.set9 ((readR R.abs d.t d.n).1.1) ((readR R.abs d.t d.n).1.2)
    have b5 := hb5.facts
    simp -implicitDefEqProofs only [go_sem, reduceCtorEq, Nat.reduceAdd, Nat.reduceMul, Nat.reduceLeDiff, Nat.reduceLT, Int.reduceLE, Int.reduceLT, Int.reduceEq, Nat.reduceBEq, Nat.reduceEqDiff, hse, z0, z1, b.1.1, b.1.2.1, b.1.2.2, b.2.1.1, b.2.1.2.1, b.2.1.2.2, b.2.2.1.1, b.2.2.1.2.1, b.2.2.1.2.2, b.2.2.2.1.1, b.2.2.2.1.2.1, b.2.2.2.1.2.2, b.2.2.2.2.1, b.2.2.2.2.2.1, b.2.2.2.2.2.2, b2.1.1, b2.1.2.1, b2.1.2.2, b2.2.1.1, b2.2.1.2.1, b2.2.1.2.2, b2.2.2.1.1, b2.2.2.1.2.1, b2.2.2.1.2.2, b2.2.2.2.1.1, b2.2.2.2.1.2.1, b2.2.2.2.1.2.2, b2.2.2.2.2.1, b2.2.2.2.2.2.1, b2.2.2.2.2.2.2, b3.1.1, b3.1.2.1, b3.1.2.2, b3.2.1.1, b3.2.1.2.1, b3.2.1.2.2, b3.2.2.1.1, b3.2.2.1.2.1, b3.2.2.1.2.2, b3.2.2.2.1.1, b3.2.2.2.1.2.1, b3.2.2.2.1.2.2, b3.2.2.2.2.1, b3.2.2.2.2.2.1, b3.2.2.2.2.2.2, b4.1.1, b4.1.2.1, b4.1.2.2, b4.2.1.1, b4.2.1.2.1, b4.2.1.2.2, b4.2.2.1.1, b4.2.2.1.2.1, b4.2.2.1.2.2, b4.2.2.2.1.1, b4.2.2.2.1.2.1, b4.2.2.2.1.2.2, b4.2.2.2.2.1, b4.2.2.2.2.2.1, b4.2.2.2.2.2.2, b5.1.1, b5.1.2.1, b5.1.2.2, b5.2.1.1, b5.2.1.2.1, b5.2.1.2.2, b5.2.2.1.1, b5.2.2.1.2.1, b5.2.2.1.2.2, b5.2.2.2.1.1, b5.2.2.2.1.2.1, b5.2.2.2.1.2.2, b5.2.2.2.2.1, b5.2.2.2.2.2.1, b5.2.2.2.2.2.2]
    refine awp_drawT [] [0, 2, 1, 1] (fun s => s[st.length + 4]? = some (.cells [i64 ((readR R.abs d.t d.n).1.1), i64 ((readR R.abs d.t d.n).1.2)])) Try.mixed rfl hb5.b9 ?_
    simp -implicitDefEqProofs only [go_sem, reduceCtorEq, Nat.reduceAdd, Nat.reduceMul, Nat.reduceLeDiff, Nat.reduceLT, Int.reduceLE, Int.reduceLT, Int.reduceEq, Nat.reduceBEq, Nat.reduceEqDiff, drawU_n, drawU_0, drawU_1, drawU_2, drawU_3, isStore_s, h12, h21, b5.1.1, b5.1.2.1, b5.1.2.2, b5.2.1.1, b5.2.1.2.1, b5.2.1.2.2, b5.2.2.1.1, b5.2.2.1.2.1, b5.2.2.1.2.2, b5.2.2.2.1.1, b5.2.2.2.1.2.1, b5.2.2.2.1.2.2, b5.2.2.2.2.1, b5.2.2.2.2.2.1, b5.2.2.2.2.2.2]
    refine ⟨fun s hs => ?_, ?_, ?_, ?_⟩
    · have f2 := cells_facts hs
      simp -implicitDefEqProofs only [go_sem, reduceCtorEq, Nat.reduceAdd, Nat.reduceMul, Nat.reduceLeDiff, Nat.reduceLT, Int.reduceLE, Int.reduceLT, Int.reduceEq, Nat.reduceBEq, Nat.reduceEqDiff, f2.1, f2.2.1, f2.2.2]
    · exact (List.getElem?_set_ne (by omega)).trans hb5.b9
    · exact (List.getElem?_set_ne (by omega)).trans ((List.getElem?_set_ne (by omega)).trans hb5.b9)
    rw [hdF, hdR] at fin
    exact fin _ E2 R4 ((readF E.abs d.t d.n).1.1, (readF E.abs d.t d.n).1.2) ((readR R.abs d.t d.n).1.1, (readR R.abs d.t d.n).1.2) hB5 hb5 hid2 hid4 q3 r3 rfl rfl (by rw [List.length_set]; exact hl4) (fun j u v w => (List.getElem?_set_ne (by omega)).trans (hold4 j u v w)) hE2 hR4
  by_cases k2 : d.kind = 2
  · have hdF : doesF E.abs d = ((0, (writeF E.abs d.t d.n d.v).1), (writeF E.abs d.t d.n d.v).2) := by unfold doesF; rw [if_neg k0, if_neg k1, if_pos k2]
    have hdR : doesR R.abs d = ((0, (writeR R.abs d.t d.n d.v).1), (writeR R.abs d.t d.n d.v).2) := by unfold doesR; rw [if_neg k0, if_neg k1, if_pos k2]
    have z0 : (d.kind == 0) = false := by simp [k0, k2]
    have z1 : (d.kind == 1) = false := by simp [k1, k2]
    have z2 : (d.kind == 2) = true := by simp [k2]
    have c1 := write_c hB1.eng hF d.t d.n d.v
    refine acalls_go (M := [5]) Try.func19 rfl Try.results19 Try.ntmps19 ?_
    simp -implicitDefEqProofs only [go_sem, reduceCtorEq, Nat.reduceAdd, Nat.reduceMul, Nat.reduceLeDiff, Nat.reduceLT, Int.reduceLE, Int.reduceLT, Int.reduceEq, Nat.reduceBEq, Nat.reduceEqDiff, ddSV, hse, b.1.1, b.1.2.1, b.1.2.2, b.2.1.1, b.2.1.2.1, b.2.1.2.2, b.2.2.1.1, b.2.2.1.2.1, b.2.2.1.2.2, b.2.2.2.1.1, b.2.2.2.1.2.1, b.2.2.2.1.2.2, b.2.2.2.2.1, b.2.2.2.2.2.1, b.2.2.2.2.2.2, z0, z1, z2]
    refine c1 _ fun s2 E2 q1 q2 q3 => ?_
    have hB2 := hB1.engT q1 q2
    have hb2 := hb1.fr (fun j u v => q2.old j v (fun e => by have := hel j e; omega))
    have hE2 : ∀ j, E2.has j → E.has j ∨ st.length + 5 ≤ j := fun j hj => by rw [← hl1]; exact q2.new j hj
    have hid2 := q2.id
    have hl2 : st.length + 5 ≤ s2.length := by rw [← hl1]; exact q2.len
    have hold2 : ∀ j, j < st.length → ¬ E.has j → ¬ R.has j → s2[j]? = st[j]? := fun j u v w => (q2.old j (by omega) v).trans (hold1 j u)
    have b2 := hb2.facts
    have w1 : ∀ j, E2.has j → j < st.length ∨ st.length + 5 ≤ j := fun j hj => (hE2 j hj).imp (hel j) id
    have w2 : ∀ j, R.has j → j < st.length ∨ st.length + 5 ≤ j := fun j hj => .inl (hrl j hj)
    have hB3 := hB2.box w1 w2 (i := st.length + 3) (by omega) (by omega) (.cells [i64 (0), i64 ((writeF E.abs d.t d.n d.v).1)])
    have hb3 := hb2.set8 (0) ((writeF E.abs d.t d.n d.v).1)
    have b3 := hb3.facts
    have c2 := rwrite_c hB3.ref hG d.t d.n d.v
    simp -implicitDefEqProofs only [go_sem, reduceCtorEq, Nat.reduceAdd, Nat.reduceMul, Nat.reduceLeDiff, Nat.reduceLT, Int.reduceLE, Int.reduceLT, Int.reduceEq, Nat.reduceBEq, Nat.reduceEqDiff, hse, b.1.1, b.1.2.1, b.1.2.2, b.2.1.1, b.2.1.2.1, b.2.1.2.2, b.2.2.1.1, b.2.2.1.2.1, b.2.2.1.2.2, b.2.2.2.1.1, b.2.2.2.1.2.1, b.2.2.2.1.2.2, b.2.2.2.2.1, b.2.2.2.2.2.1, b.2.2.2.2.2.2, z0, z1, z2, b2.1.1, b2.1.2.1, b2.1.2.2, b2.2.2.2.1.1, b2.2.2.2.1.2.1, b2.2.2.2.1.2.2, b3.1.1, b3.1.2.1, b3.1.2.2, b3.2.2.2.1.1, b3.2.2.2.1.2.1, b3.2.2.2.1.2.2]
    refine c2 _ fun s4 R4 r1 r2 r3 => ?_
    have hB4 := hB3.refT r1 r2
    have hb4 := hb3.fr (fun j u v => r2.old j v (fun e => by have := hrl j e; omega))
    have hl3 : st.length + 5 ≤ (s2.set (st.length + 3) (.cells [i64 (0), i64 ((writeF E.abs d.t d.n d.v).1)])).length := by rw [List.length_set]; exact hl2
    have hR4 : ∀ j, R4.has j → R.has j ∨ st.length + 5 ≤ j := fun j hj => (r2.new j hj).imp id (fun q => Nat.le_trans hl3 q)
    have hid4 := r2.id
    have hl4 : st.length + 5 ≤ s4.length := Nat.le_trans hl3 r2.len
    have hold4 : ∀ j, j < st.length → ¬ E.has j → ¬ R.has j → s4[j]? = st[j]? := fun j u v w => (r2.old j (by omega) w).trans ((List.getElem?_set_ne (by omega)).trans (hold2 j u v w))
    have b4 := hb4.facts
    have w3 : ∀ j, R4.has j → j < st.length ∨ st.length + 5 ≤ j := fun j hj => (hR4 j hj).imp (hrl j) id
    have hB5 := hB4.box w1 w3 (i := st.length + 4) (by omega) (by omega) (.cells [i64 (0), i64 ((writeR R.abs d.t d.n d.v).1)])
    have hb5 := hb4.set9 (0) ((writeR R.abs d.t d.n d.v).1)
    have b5 := hb5.facts
    simp -implicitDefEqProofs only [go_sem, reduceCtorEq, Nat.reduceAdd, Nat.reduceMul, Nat.reduceLeDiff, Nat.reduceLT, Int.reduceLE, Int.reduceLT, Int.reduceEq, Nat.reduceBEq, Nat.reduceEqDiff, hse, z0, z1, z2, b.1.1, b.1.2.1, b.1.2.2, b.2.1.1, b.2.1.2.1, b.2.1.2.2, b.2.2.1.1, b.2.2.1.2.1, b.2.2.1.2.2, b.2.2.2.1.1, b.2.2.2.1.2.1, b.2.2.2.1.2.2, b.2.2.2.2.1, b.2.2.2.2.2.1, b.2.2.2.2.2.2, b2.1.1, b2.1.2.1, b2.1.2.2, b2.2.1.1, b2.2.1.2.1, b2.2.1.2.2, b2.2.2.1.1, b2.2.2.1.2.1, b2.2.2.1.2.2, b2.2.2.2.1.1, b2.2.2.2.1.2.1, b2.2.2.2.1.2.2, b2.2.2.2.2.1, b2.2.2.2.2.2.1, b2.2.2.2.2.2.2, b3.1.1, b3.1.2.1, b3.1.2.2, b3.2.1.1, b3.2.1.2.1, b3.2.1.2.2, b3.2.2.1.1, b3.2.2.1.2.1, b3.2.2.1.2.2, b3.2.2.2.1.1, b3.2.2.2.1.2.1, b3.2.2.2.1.2.2, b3.2.2.2.2.1, b3.2.2.2.2.2.1, b3.2.2.2.2.2.2, b4.1.1, b4.1.2.1, b4.1.2.2, b4.2.1.1, b4.2.1.2.1, b4.2.1.2.2, b4.2.2.1.1, b4.2.2.1.2.1, b4.2.2.1.2.2, b4.2.2.2.1.1, b4.2.2.2.1.2.1, b4.2.2.2.1.2.2, b4.2.2.2.2.1, b4.2.2.2.2.2.1, b4.2.2.2.2.2.2, b5.1.1, b5.1.2.1, b5.1.2.2, b5.2.1.1, b5.2.1.2.1, b5.2.1.2.2, b5.2.2.1.1, b5.2.2.1.2.1, b5.2.2.1.2.2, b5.2.2.2.1.1, b5.2.2.2.1.2.1, b5.2.2.2.1.2.2, b5.2.2.2.2.1, b5.2.2.2.2.2.1, b5.2.2.2.2.2.2]
    refine awp_drawT [] [0, 2, 1, 1] (fun s => s[st.length + 4]? = some (.cells [i64 (0), i64 ((writeR R.abs d.t d.n d.v).1)])) Try.mixed rfl hb5.b9 ?_
    simp -implicitDefEqProofs only [go_sem, reduceCtorEq, Nat.reduceAdd, Nat.reduceMul, Nat.reduceLeDiff, Nat.reduceLT, Int.reduceLE, Int.reduceLT, Int.reduceEq, Nat.reduceBEq, Nat.reduceEqDiff, drawU_n, drawU_0, drawU_1, drawU_2, drawU_3, isStore_s, h12, h21, b5.1.1, b5.1.2.1, b5.1.2.2, b5.2.1.1, b5.2.1.2.1, b5.2.1.2.2, b5.2.2.1.1, b5.2.2.1.2.1, b5.2.2.1.2.2, b5.2.2.2.1.1, b5.2.2.2.1.2.1, b5.2.2.2.1.2.2, b5.2.2.2.2.1, b5.2.2.2.2.2.1, b5.2.2.2.2.2.2]
    refine ⟨fun s hs => ?_, ?_, ?_, ?_⟩
    · have f2 := cells_facts hs
      simp -implicitDefEqProofs only [go_sem, reduceCtorEq, Nat.reduceAdd, Nat.reduceMul, Nat.reduceLeDiff, Nat.reduceLT, Int.reduceLE, Int.reduceLT, Int.reduceEq, Nat.reduceBEq, Nat.reduceEqDiff, f2.1, f2.2.1, f2.2.2]
    · exact (List.getElem?_set_ne (by omega)).trans hb5.b9
    · exact (List.getElem?_set_ne (by omega)).trans ((List.getElem?_set_ne (by omega)).trans hb5.b9)
    rw [hdF, hdR] at fin
    exact fin _ E2 R4 (0, (writeF E.abs d.t d.n d.v).1) (0, (writeR R.abs d.t d.n d.v).1) hB5 hb5 hid2 hid4 q3 r3 rfl rfl (by rw [List.length_set]; exact hl4) (fun j u v w => (List.getElem?_set_ne (by omega)).trans (hold4 j u v w)) hE2 hR4
  by_cases k3 : d.kind = 3
  · have hdF : doesF E.abs d = stepF E.abs d.t := by unfold doesF; rw [if_neg k0, if_neg k1, if_neg k2, if_pos k3]
    have hdR : doesR R.abs d = stepR R.abs d.t := by unfold doesR; rw [if_neg k0, if_neg k1, if_neg k2, if_pos k3]
    have z0 : (d.kind == 0) = false := by simp [k0, k3]
    have z1 : (d.kind == 1) = false := by simp [k1, k3]
    have z2 : (d.kind == 2) = false := by simp [k2, k3]
    have z3 : (d.kind == 3) = true := by simp [k3]
    have c1 := step_c hB1.eng hF d.t
    refine acalls_go (M := [5]) Try.func19 rfl Try.results19 Try.ntmps19 ?_
    simp -implicitDefEqProofs only [go_sem, reduceCtorEq, Nat.reduceAdd, Nat.reduceMul, Nat.reduceLeDiff, Nat.reduceLT, Int.reduceLE, Int.reduceLT, Int.reduceEq, Nat.reduceBEq, Nat.reduceEqDiff, ddSV, hse, b.1.1, b.1.2.1, b.1.2.2, b.2.1.1, b.2.1.2.1, b.2.1.2.2, b.2.2.1.1, b.2.2.1.2.1, b.2.2.1.2.2, b.2.2.2.1.1, b.2.2.2.1.2.1, b.2.2.2.1.2.2, b.2.2.2.2.1, b.2.2.2.2.2.1, b.2.2.2.2.2.2, z0, z1, z2, z3]
    refine c1 _ fun s2 E2 q1 q2 q3 => ?_
    have hB2 := hB1.engT q1 q2
    have hb2 := hb1.fr (fun j u v => q2.old j v (fun e => by have := hel j e; omega))
    have hE2 : ∀ j, E2.has j → E.has j ∨ st.length + 5 ≤ j := fun j hj => by rw [← hl1]; exact q2.new j hj
    have hid2 := q2.id
    have hl2 : st.length + 5 ≤ s2.length := by rw [← hl1]; exact q2.len
    have hold2 : ∀ j, j < st.length → ¬ E.has j → ¬ R.has j → s2[j]? = st[j]? := fun j u v w => (q2.old j (by omega) v).trans (hold1 j u)
    have b2 := hb2.facts
    have w1 : ∀ j, E2.has j → j < st.length ∨ st.length + 5 ≤ j := fun j hj => (hE2 j hj).imp (hel j) id
    have w2 : ∀ j, R.has j → j < st.length ∨ st.length + 5 ≤ j := fun j hj => .inl (hrl j hj)
    have hB3 := hB2.box w1 w2 (i := st.length + 3) (by omega) (by omega) (.cells [i64 ((stepF E.abs d.t).1.1), i64 ((stepF E.abs d.t).1.2)])
    have hb3 := hb2.set8 ((stepF E.abs d.t).1.1) ((stepF E.abs d.t).1.2)
    have b3 := hb3.facts
    have c2 := rstep_c hB3.ref hG d.t hD
    simp -implicitDefEqProofs only [go_sem, reduceCtorEq, Nat.reduceAdd, Nat.reduceMul, Nat.reduceLeDiff, Nat.reduceLT, Int.reduceLE, Int.reduceLT, Int.reduceEq, Nat.reduceBEq, Nat.reduceEqDiff, hse, b.1.1, b.1.2.1, b.1.2.2, b.2.1.1, b.2.1.2.1, b.2.1.2.2, b.2.2.1.1, b.2.2.1.2.1, b.2.2.1.2.2, b.2.2.2.1.1, b.2.2.2.1.2.1, b.2.2.2.1.2.2, b.2.2.2.2.1, b.2.2.2.2.2.1, b.2.2.2.2.2.2, z0, z1, z2, z3, b2.1.1, b2.1.2.1, b2.1.2.2, b2.2.2.2.1.1, b2.2.2.2.1.2.1, b2.2.2.2.1.2.2, b3.1.1, b3.1.2.1, b3.1.2.2, b3.2.2.2.1.1, b3.2.2.2.1.2.1, b3.2.2.2.1.2.2]
    refine c2 _ fun s4 R4 r1 r2 r3 => ?_
    have hB4 := hB3.refT r1 r2
    have hb4 := hb3.fr (fun j u v => r2.old j v (fun e => by have := hrl j e; omega))
    have hl3 : st.length + 5 ≤ (s2.set (st.length + 3) (.cells [i64 ((stepF E.abs d.t).1.1), i64 ((stepF E.abs d.t).1.2)])).length := by rw [List.length_set]; exact hl2
    have hR4 : ∀ j, R4.has j → R.has j ∨ st.length + 5 ≤ j := fun j hj => (r2.new j hj).imp id (fun q => Nat.le_trans hl3 q)
    have hid4 := r2.id
    have hl4 : st.length + 5 ≤ s4.length := Nat.le_trans hl3 r2.len
    have hold4 : ∀ j, j < st.length → ¬ E.has j → ¬ R.has j → s4[j]? = st[j]? := fun j u v w => (r2.old j (by omega) w).trans ((List.getElem?_set_ne (by omega)).trans (hold2 j u v w))
    have b4 := hb4.facts
    have w3 : ∀ j, R4.has j → j < st.length ∨ st.length + 5 ≤ j := fun j hj => (hR4 j hj).imp (hrl j) id
    have hB5 := hB4.box w1 w3 (i := st.length + 4) (by omega) (by omega) (.cells [i64 ((stepR R.abs d.t).1.1), i64 ((stepR R.abs d.t).1.2)])
    have hb5 := hb4.set9 ((stepR R.abs d.t).1.1) ((stepR R.abs d.t).1.2)
    have b5 := hb5.facts
    simp -implicitDefEqProofs only [go_sem, reduceCtorEq, Nat.reduceAdd, Nat.reduceMul, Nat.reduceLeDiff, Nat.reduceLT, Int.reduceLE, Int.reduceLT, Int.reduceEq, Nat.reduceBEq, Nat.reduceEqDiff, hse, z0, z1, z2, z3, b.1.1, b.1.2.1, b.1.2.2, b.2.1.1, b.2.1.2.1, b.2.1.2.2, b.2.2.1.1, b.2.2.1.2.1, b.2.2.1.2.2, b.2.2.2.1.1, b.2.2.2.1.2.1, b.2.2.2.1.2.2, b.2.2.2.2.1, b.2.2.2.2.2.1, b.2.2.2.2.2.2, b2.1.1, b2.1.2.1, b2.1.2.2, b2.2.1.1, b2.2.1.2.1, b2.2.1.2.2, b2.2.2.1.1, b2.2.2.1.2.1, b2.2.2.1.2.2, b2.2.2.2.1.1, b2.2.2.2.1.2.1, b2.2.2.2.1.2.2, b2.2.2.2.2.1, b2.2.2.2.2.2.1, b2.2.2.2.2.2.2, b3.1.1, b3.1.2.1, b3.1.2.2, b3.2.1.1, b3.2.1.2.1, b3.2.1.2.2, b3.2.2.1.1, b3.2.2.1.2.1, b3.2.2.1.2.2, b3.2.2.2.1.1, b3.2.2.2.1.2.1, b3.2.2.2.1.2.2, b3.2.2.2.2.1, b3.2.2.2.2.2.1, b3.2.2.2.2.2.2, b4.1.1, b4.1.2.1, b4.1.2.2, b4.2.1.1, b4.2.1.2.1, b4.2.1.2.2, b4.2.2.1.1, b4.2.2.1.2.1, b4.2.2.1.2.2, b4.2.2.2.1.1, b4.2.2.2.1.2.1, b4.2.2.2.1.2.2, b4.2.2.2.2.1, b4.2.2.2.2.2.1, b4.2.2.2.2.2.2, b5.1.1, b5.1.2.1, b5.1.2.2, b5.2.1.1, b5.2.1.2.1, b5.2.1.2.2, b5.2.2.1.1, b5.2.2.1.2.1, b5.2.2.1.2.2, b5.2.2.2.1.1, b5.2.2.2.1.2.1, b5.2.2.2.1.2.2, b5.2.2.2.2.1, b5.2.2.2.2.2.1, b5.2.2.2.2.2.2]
    refine awp_drawT [] [0, 2, 1, 1] (fun s => s[st.length + 4]? = some (.cells [i64 ((stepR R.abs d.t).1.1), i64 ((stepR R.abs d.t).1.2)])) Try.mixed rfl hb5.b9 ?_
    simp -implicitDefEqProofs only [go_sem, reduceCtorEq, Nat.reduceAdd, Nat.reduceMul, Nat.reduceLeDiff, Nat.reduceLT, Int.reduceLE, Int.reduceLT, Int.reduceEq, Nat.reduceBEq, Nat.reduceEqDiff, drawU_n, drawU_0, drawU_1, drawU_2, drawU_3, isStore_s, h12, h21, b5.1.1, b5.1.2.1, b5.1.2.2, b5.2.1.1, b5.2.1.2.1, b5.2.1.2.2, b5.2.2.1.1, b5.2.2.1.2.1, b5.2.2.1.2.2, b5.2.2.2.1.1, b5.2.2.2.1.2.1, b5.2.2.2.1.2.2, b5.2.2.2.2.1, b5.2.2.2.2.2.1, b5.2.2.2.2.2.2]
    refine ⟨fun s hs => ?_, ?_, ?_, ?_⟩
    · have f2 := cells_facts hs
      simp -implicitDefEqProofs only [go_sem, reduceCtorEq, Nat.reduceAdd, Nat.reduceMul, Nat.reduceLeDiff, Nat.reduceLT, Int.reduceLE, Int.reduceLT, Int.reduceEq, Nat.reduceBEq, Nat.reduceEqDiff, f2.1, f2.2.1, f2.2.2]
    · exact (List.getElem?_set_ne (by omega)).trans hb5.b9
    · exact (List.getElem?_set_ne (by omega)).trans ((List.getElem?_set_ne (by omega)).trans hb5.b9)
    rw [hdF, hdR] at fin
    exact fin _ E2 R4 ((stepF E.abs d.t).1.1, (stepF E.abs d.t).1.2) ((stepR R.abs d.t).1.1, (stepR R.abs d.t).1.2) hB5 hb5 hid2 hid4 q3 r3 rfl rfl (by rw [List.length_set]; exact hl4) (fun j u v w => (List.getElem?_set_ne (by omega)).trans (hold4 j u v w)) hE2 hR4
  by_cases k4 : d.kind = 4
  · have hdF : doesF E.abs d = ((0, (partF E.abs d.t).1), (partF E.abs d.t).2) := by unfold doesF; rw [if_neg k0, if_neg k1, if_neg k2, if_neg k3, if_pos k4]
    have hdR : doesR R.abs d = ((0, (partR R.abs d.t).1), (partR R.abs d.t).2) := by unfold doesR; rw [if_neg k0, if_neg k1, if_neg k2, if_neg k3, if_pos k4]
    have z0 : (d.kind == 0) = false := by simp [k0, k4]
    have z1 : (d.kind == 1) = false := by simp [k1, k4]
    have z2 : (d.kind == 2) = false := by simp [k2, k4]
    have z3 : (d.kind == 3) = false := by simp [k3, k4]
    have z4 : (d.kind == 4) = true := by simp [k4]
    have c1 := part_c hB1.eng hF d.t
    refine acalls_go (M := [5]) Try.func19 rfl Try.results19 Try.ntmps19 ?_
    simp -implicitDefEqProofs only [go_sem, reduceCtorEq, Nat.reduceAdd, Nat.reduceMul, Nat.reduceLeDiff, Nat.reduceLT, Int.reduceLE, Int.reduceLT, Int.reduceEq, Nat.reduceBEq, Nat.reduceEqDiff, ddSV, hse, b.1.1, b.1.2.1, b.1.2.2, b.2.1.1, b.2.1.2.1, b.2.1.2.2, b.2.2.1.1, b.2.2.1.2.1, b.2.2.1.2.2, b.2.2.2.1.1, b.2.2.2.1.2.1, b.2.2.2.1.2.2, b.2.2.2.2.1, b.2.2.2.2.2.1, b.2.2.2.2.2.2, z0, z1, z2, z3, z4]
    refine c1 _ fun s2 E2 q1 q2 q3 => ?_
    have hB2 := hB1.engT q1 q2
    have hb2 := hb1.fr (fun j u v => q2.old j v (fun e => by have := hel j e; omega))
    have hE2 : ∀ j, E2.has j → E.has j ∨ st.length + 5 ≤ j := fun j hj => by rw [← hl1]; exact q2.new j hj
    have hid2 := q2.id
    have hl2 : st.length + 5 ≤ s2.length := by rw [← hl1]; exact q2.len
    have hold2 : ∀ j, j < st.length → ¬ E.has j → ¬ R.has j → s2[j]? = st[j]? := fun j u v w => (q2.old j (by omega) v).trans (hold1 j u)
    have b2 := hb2.facts
    have w1 : ∀ j, E2.has j → j < st.length ∨ st.length + 5 ≤ j := fun j hj => (hE2 j hj).imp (hel j) id
    have w2 : ∀ j, R.has j → j < st.length ∨ st.length + 5 ≤ j := fun j hj => .inl (hrl j hj)
    have hB3 := hB2.box w1 w2 (i := st.length + 3) (by omega) (by omega) (.cells [i64 (0), i64 ((partF E.abs d.t).1)])
    have hb3 := hb2.set8 (0) ((partF E.abs d.t).1)
    have b3 := hb3.facts
    have c2 := rpart_c hB3.ref hG d.t
    simp -implicitDefEqProofs only [go_sem, reduceCtorEq, Nat.reduceAdd, Nat.reduceMul, Nat.reduceLeDiff, Nat.reduceLT, Int.reduceLE, Int.reduceLT, Int.reduceEq, Nat.reduceBEq, Nat.reduceEqDiff, hse, b.1.1, b.1.2.1, b.1.2.2, b.2.1.1, b.2.1.2.1, b.2.1.2.2, b.2.2.1.1, b.2.2.1.2.1, b.2.2.1.2.2, b.2.2.2.1.1, b.2.2.2.1.2.1, b.2.2.2.1.2.2, b.2.2.2.2.1, b.2.2.2.2.2.1, b.2.2.2.2.2.2, z0, z1, z2, z3, z4, b2.1.1, b2.1.2.1, b2.1.2.2, b2.2.2.2.1.1, b2.2.2.2.1.2.1, b2.2.2.2.1.2.2, b3.1.1, b3.1.2.1, b3.1.2.2, b3.2.2.2.1.1, b3.2.2.2.1.2.1, b3.2.2.2.1.2.2]
    refine c2 _ fun s4 R4 r1 r2 r3 => ?_
    have hB4 := hB3.refT r1 r2
    have hb4 := hb3.fr (fun j u v => r2.old j v (fun e => by have := hrl j e; omega))
    have hl3 : st.length + 5 ≤ (s2.set (st.length + 3) (.cells [i64 (0), i64 ((partF E.abs d.t).1)])).length := by rw [List.length_set]; exact hl2
    have hR4 : ∀ j, R4.has j → R.has j ∨ st.length + 5 ≤ j := fun j hj => (r2.new j hj).imp id (fun q => Nat.le_trans hl3 q)
    have hid4 := r2.id
    have hl4 : st.length + 5 ≤ s4.length := Nat.le_trans hl3 r2.len
    have hold4 : ∀ j, j < st.length → ¬ E.has j → ¬ R.has j → s4[j]? = st[j]? := fun j u v w => (r2.old j (by omega) w).trans ((List.getElem?_set_ne (by omega)).trans (hold2 j u v w))
    have b4 := hb4.facts
    have w3 : ∀ j, R4.has j → j < st.length ∨ st.length + 5 ≤ j := fun j hj => (hR4 j hj).imp (hrl j) id
    have hB5 := hB4.box w1 w3 (i := st.length + 4) (by omega) (by omega) (.cells [i64 (0), i64 ((partR R.abs d.t).1)])
    have hb5 := hb4.set9 (0) ((partR R.abs d.t).1)
    have b5 := hb5.facts
    simp -implicitDefEqProofs only [go_sem, reduceCtorEq, Nat.reduceAdd, Nat.reduceMul, Nat.reduceLeDiff, Nat.reduceLT, Int.reduceLE, Int.reduceLT, Int.reduceEq, Nat.reduceBEq, Nat.reduceEqDiff, hse, z0, z1, z2, z3, z4, b.1.1, b.1.2.1, b.1.2.2, b.2.1.1, b.2.1.2.1, b.2.1.2.2, b.2.2.1.1, b.2.2.1.2.1, b.2.2.1.2.2, b.2.2.2.1.1, b.2.2.2.1.2.1, b.2.2.2.1.2.2, b.2.2.2.2.1, b.2.2.2.2.2.1, b.2.2.2.2.2.2, b2.1.1, b2.1.2.1, b2.1.2.2, b2.2.1.1, b2.2.1.2.1, b2.2.1.2.2, b2.2.2.1.1, b2.2.2.1.2.1, b2.2.2.1.2.2, b2.2.2.2.1.1, b2.2.2.2.1.2.1, b2.2.2.2.1.2.2, b2.2.2.2.2.1, b2.2.2.2.2.2.1, b2.2.2.2.2.2.2, b3.1.1, b3.1.2.1, b3.1.2.2, b3.2.1.1, b3.2.1.2.1, b3.2.1.2.2, b3.2.2.1.1, b3.2.2.1.2.1, b3.2.2.1.2.2, b3.2.2.2.1.1, b3.2.2.2.1.2.1, b3.2.2.2.1.2.2, b3.2.2.2.2.1, b3.2.2.2.2.2.1, b3.2.2.2.2.2.2, b4.1.1, b4.1.2.1, b4.1.2.2, b4.2.1.1, b4.2.1.2.1, b4.2.1.2.2, b4.2.2.1.1, b4.2.2.1.2.1, b4.2.2.1.2.2, b4.2.2.2.1.1, b4.2.2.2.1.2.1, b4.2.2.2.1.2.2, b4.2.2.2.2.1, b4.2.2.2.2.2.1, b4.2.2.2.2.2.2, b5.1.1, b5.1.2.1, b5.1.2.2, b5.2.1.1, b5.2.1.2.1, b5.2.1.2.2, b5.2.2.1.1, b5.2.2.1.2.1, b5.2.2.1.2.2, b5.2.2.2.1.1, b5.2.2.2.1.2.1, b5.2.2.2.1.2.2, b5.2.2.2.2.1, b5.2.2.2.2.2.1, b5.2.2.2.2.2.2]
    refine awp_drawT [] [0, 2, 1, 1] (fun s => s[st.length + 4]? = some (.cells [i64 (0), i64 ((partR R.abs d.t).1)])) Try.mixed rfl hb5.b9 ?_
    simp -implicitDefEqProofs only [go_sem, reduceCtorEq, Nat.reduceAdd, Nat.reduceMul, Nat.reduceLeDiff, Nat.reduceLT, Int.reduceLE, Int.reduceLT, Int.reduceEq, Nat.reduceBEq, Nat.reduceEqDiff, drawU_n, drawU_0, drawU_1, drawU_2, drawU_3, isStore_s, h12, h21, b5.1.1, b5.1.2.1, b5.1.2.2, b5.2.1.1, b5.2.1.2.1, b5.2.1.2.2, b5.2.2.1.1, b5.2.2.1.2.1, b5.2.2.1.2.2, b5.2.2.2.1.1, b5.2.2.2.1.2.1, b5.2.2.2.1.2.2, b5.2.2.2.2.1, b5.2.2.2.2.2.1, b5.2.2.2.2.2.2]
    refine ⟨fun s hs => ?_, ?_, ?_, ?_⟩
    · have f2 := cells_facts hs
      simp -implicitDefEqProofs only [go_sem, reduceCtorEq, Nat.reduceAdd, Nat.reduceMul, Nat.reduceLeDiff, Nat.reduceLT, Int.reduceLE, Int.reduceLT, Int.reduceEq, Nat.reduceBEq, Nat.reduceEqDiff, f2.1, f2.2.1, f2.2.2]
    · exact (List.getElem?_set_ne (by omega)).trans hb5.b9
    · exact (List.getElem?_set_ne (by omega)).trans ((List.getElem?_set_ne (by omega)).trans hb5.b9)
    rw [hdF, hdR] at fin
    exact fin _ E2 R4 (0, (partF E.abs d.t).1) (0, (partR R.abs d.t).1) hB5 hb5 hid2 hid4 q3 r3 rfl rfl (by rw [List.length_set]; exact hl4) (fun j u v w => (List.getElem?_set_ne (by omega)).trans (hold4 j u v w)) hE2 hR4
  by_cases k5 : d.kind = 5
  · have hdF : doesF E.abs d = ((0, (shutF E.abs d.t true).1), (shutF E.abs d.t true).2) := by unfold doesF; rw [if_neg k0, if_neg k1, if_neg k2, if_neg k3, if_neg k4, if_pos k5]
    have hdR : doesR R.abs d = ((0, (shutR R.abs d.t true).1), (shutR R.abs d.t true).2) := by unfold doesR; rw [if_neg k0, if_neg k1, if_neg k2, if_neg k3, if_neg k4, if_pos k5]
    have z0 : (d.kind == 0) = false := by simp [k0, k5]
    have z1 : (d.kind == 1) = false := by simp [k1, k5]
    have z2 : (d.kind == 2) = false := by simp [k2, k5]
    have z3 : (d.kind == 3) = false := by simp [k3, k5]
    have z4 : (d.kind == 4) = false := by simp [k4, k5]
    have z5 : (d.kind == 5) = true := by simp [k5]
    have c1 := join_c hB1.eng hF d.t
    refine acalls_go (M := [5]) Try.func19 rfl Try.results19 Try.ntmps19 ?_
    simp -implicitDefEqProofs only [go_sem, reduceCtorEq, Nat.reduceAdd, Nat.reduceMul, Nat.reduceLeDiff, Nat.reduceLT, Int.reduceLE, Int.reduceLT, Int.reduceEq, Nat.reduceBEq, Nat.reduceEqDiff, ddSV, hse, b.1.1, b.1.2.1, b.1.2.2, b.2.1.1, b.2.1.2.1, b.2.1.2.2, b.2.2.1.1, b.2.2.1.2.1, b.2.2.1.2.2, b.2.2.2.1.1, b.2.2.2.1.2.1, b.2.2.2.1.2.2, b.2.2.2.2.1, b.2.2.2.2.2.1, b.2.2.2.2.2.2, z0, z1, z2, z3, z4, z5]
    refine c1 _ fun s2 E2 q1 q2 q3 => ?_
    have hB2 := hB1.engT q1 q2
    have hb2 := hb1.fr (fun j u v => q2.old j v (fun e => by have := hel j e; omega))
    have hE2 : ∀ j, E2.has j → E.has j ∨ st.length + 5 ≤ j := fun j hj => by rw [← hl1]; exact q2.new j hj
    have hid2 := q2.id
    have hl2 : st.length + 5 ≤ s2.length := by rw [← hl1]; exact q2.len
    have hold2 : ∀ j, j < st.length → ¬ E.has j → ¬ R.has j → s2[j]? = st[j]? := fun j u v w => (q2.old j (by omega) v).trans (hold1 j u)
    have b2 := hb2.facts
    have w1 : ∀ j, E2.has j → j < st.length ∨ st.length + 5 ≤ j := fun j hj => (hE2 j hj).imp (hel j) id
    have w2 : ∀ j, R.has j → j < st.length ∨ st.length + 5 ≤ j := fun j hj => .inl (hrl j hj)
    have hB3 := hB2.box w1 w2 (i := st.length + 3) (by omega) (by omega) (.cells [i64 (0), i64 ((shutF E.abs d.t true).1)])
    have hb3 := hb2.set8 (0) ((shutF E.abs d.t true).1)
    have b3 := hb3.facts
    have c2 := rshut_c hB3.ref hG d.t true
    simp -implicitDefEqProofs only [go_sem, reduceCtorEq, Nat.reduceAdd, Nat.reduceMul, Nat.reduceLeDiff, Nat.reduceLT, Int.reduceLE, Int.reduceLT, Int.reduceEq, Nat.reduceBEq, Nat.reduceEqDiff, hse, b.1.1, b.1.2.1, b.1.2.2, b.2.1.1, b.2.1.2.1, b.2.1.2.2, b.2.2.1.1, b.2.2.1.2.1, b.2.2.1.2.2, b.2.2.2.1.1, b.2.2.2.1.2.1, b.2.2.2.1.2.2, b.2.2.2.2.1, b.2.2.2.2.2.1, b.2.2.2.2.2.2, z0, z1, z2, z3, z4, z5, b2.1.1, b2.1.2.1, b2.1.2.2, b2.2.2.2.1.1, b2.2.2.2.1.2.1, b2.2.2.2.1.2.2, b3.1.1, b3.1.2.1, b3.1.2.2, b3.2.2.2.1.1, b3.2.2.2.1.2.1, b3.2.2.2.1.2.2]
    refine c2 _ fun s4 R4 r1 r2 r3 => ?_
    have hB4 := hB3.refT r1 r2
    have hb4 := hb3.fr (fun j u v => r2.old j v (fun e => by have := hrl j e; omega))
    have hl3 : st.length + 5 ≤ (s2.set (st.length + 3) (.cells [i64 (0), i64 ((shutF E.abs d.t true).1)])).length := by rw [List.length_set]; exact hl2
    have hR4 : ∀ j, R4.has j → R.has j ∨ st.length + 5 ≤ j := fun j hj => (r2.new j hj).imp id (fun q => Nat.le_trans hl3 q)
    have hid4 := r2.id
    have hl4 : st.length + 5 ≤ s4.length := Nat.le_trans hl3 r2.len
    have hold4 : ∀ j, j < st.length → ¬ E.has j → ¬ R.has j → s4[j]? = st[j]? := fun j u v w => (r2.old j (by omega) w).trans ((List.getElem?_set_ne (by omega)).trans (hold2 j u v w))
    have b4 := hb4.facts
    have w3 : ∀ j, R4.has j → j < st.length ∨ st.length + 5 ≤ j := fun j hj => (hR4 j hj).imp (hrl j) id
    have hB5 := hB4.box w1 w3 (i := st.length + 4) (by omega) (by omega) (.cells [i64 (0), i64 ((shutR R.abs d.t true).1)])
    have hb5 := hb4.set9 (0) ((shutR R.abs d.t true).1)
    have b5 := hb5.facts
    simp -implicitDefEqProofs only [go_sem, reduceCtorEq, Nat.reduceAdd, Nat.reduceMul, Nat.reduceLeDiff, Nat.reduceLT, Int.reduceLE, Int.reduceLT, Int.reduceEq, Nat.reduceBEq, Nat.reduceEqDiff, hse, z0, z1, z2, z3, z4, z5, b.1.1, b.1.2.1, b.1.2.2, b.2.1.1, b.2.1.2.1, b.2.1.2.2, b.2.2.1.1, b.2.2.1.2.1, b.2.2.1.2.2, b.2.2.2.1.1, b.2.2.2.1.2.1, b.2.2.2.1.2.2, b.2.2.2.2.1, b.2.2.2.2.2.1, b.2.2.2.2.2.2, b2.1.1, b2.1.2.1, b2.1.2.2, b2.2.1.1, b2.2.1.2.1, b2.2.1.2.2, b2.2.2.1.1, b2.2.2.1.2.1, b2.2.2.1.2.2, b2.2.2.2.1.1, b2.2.2.2.1.2.1, b2.2.2.2.1.2.2, b2.2.2.2.2.1, b2.2.2.2.2.2.1, b2.2.2.2.2.2.2, b3.1.1, b3.1.2.1, b3.1.2.2, b3.2.1.1, b3.2.1.2.1, b3.2.1.2.2, b3.2.2.1.1, b3.2.2.1.2.1, b3.2.2.1.2.2, b3.2.2.2.1.1, b3.2.2.2.1.2.1, b3.2.2.2.1.2.2, b3.2.2.2.2.1, b3.2.2.2.2.2.1, b3.2.2.2.2.2.2, b4.1.1, b4.1.2.1, b4.1.2.2, b4.2.1.1, b4.2.1.2.1, b4.2.1.2.2, b4.2.2.1.1, b4.2.2.1.2.1, b4.2.2.1.2.2, b4.2.2.2.1.1, b4.2.2.2.1.2.1, b4.2.2.2.1.2.2, b4.2.2.2.2.1, b4.2.2.2.2.2.1, b4.2.2.2.2.2.2, b5.1.1, b5.1.2.1, b5.1.2.2, b5.2.1.1, b5.2.1.2.1, b5.2.1.2.2, b5.2.2.1.1, b5.2.2.1.2.1, b5.2.2.1.2.2, b5.2.2.2.1.1, b5.2.2.2.1.2.1, b5.2.2.2.1.2.2, b5.2.2.2.2.1, b5.2.2.2.2.2.1, b5.2.2.2.2.2.2]
    refine awp_drawT [] [0, 2, 1, 1] (fun s => s[st.length + 4]? = some (.cells [i64 (0), i64 ((shutR R.abs d.t true).1)])) Try.mixed rfl hb5.b9 ?_
    simp -implicitDefEqProofs only [go_sem, reduceCtorEq, Nat.reduceAdd, Nat.reduceMul, Nat.reduceLeDiff, Nat.reduceLT, Int.reduceLE, Int.reduceLT, Int.reduceEq, Nat.reduceBEq, Nat.reduceEqDiff, drawU_n, drawU_0, drawU_1, drawU_2, drawU_3, isStore_s, h12, h21, b5.1.1, b5.1.2.1, b5.1.2.2, b5.2.1.1, b5.2.1.2.1, b5.2.1.2.2, b5.2.2.1.1, b5.2.2.1.2.1, b5.2.2.1.2.2, b5.2.2.2.1.1, b5.2.2.2.1.2.1, b5.2.2.2.1.2.2, b5.2.2.2.2.1, b5.2.2.2.2.2.1, b5.2.2.2.2.2.2]
    refine ⟨fun s hs => ?_, ?_, ?_, ?_⟩
    · have f2 := cells_facts hs
      simp -implicitDefEqProofs only [go_sem, reduceCtorEq, Nat.reduceAdd, Nat.reduceMul, Nat.reduceLeDiff, Nat.reduceLT, Int.reduceLE, Int.reduceLT, Int.reduceEq, Nat.reduceBEq, Nat.reduceEqDiff, f2.1, f2.2.1, f2.2.2]
    · exact (List.getElem?_set_ne (by omega)).trans hb5.b9
    · exact (List.getElem?_set_ne (by omega)).trans ((List.getElem?_set_ne (by omega)).trans hb5.b9)
    rw [hdF, hdR] at fin
    exact fin _ E2 R4 (0, (shutF E.abs d.t true).1) (0, (shutR R.abs d.t true).1) hB5 hb5 hid2 hid4 q3 r3 rfl rfl (by rw [List.length_set]; exact hl4) (fun j u v w => (List.getElem?_set_ne (by omega)).trans (hold4 j u v w)) hE2 hR4
  by_cases k6 : d.kind = 6
  · have hdF : doesF E.abs d = ((0, (shutF E.abs d.t false).1), (shutF E.abs d.t false).2) := by unfold doesF; rw [if_neg k0, if_neg k1, if_neg k2, if_neg k3, if_neg k4, if_neg k5, if_pos k6]
    have hdR : doesR R.abs d = ((0, (shutR R.abs d.t false).1), (shutR R.abs d.t false).2) := by unfold doesR; rw [if_neg k0, if_neg k1, if_neg k2, if_neg k3, if_neg k4, if_neg k5, if_pos k6]
    have z0 : (d.kind == 0) = false := by simp [k0, k6]
    have z1 : (d.kind == 1) = false := by simp [k1, k6]
    have z2 : (d.kind == 2) = false := by simp [k2, k6]
    have z3 : (d.kind == 3) = false := by simp [k3, k6]
    have z4 : (d.kind == 4) = false := by simp [k4, k6]
    have z5 : (d.kind == 5) = false := by simp [k5, k6]
    have z6 : (d.kind == 6) = true := by simp [k6]
    have c1 := undo_c hB1.eng hF d.t
    refine acalls_go (M := [5]) Try.func19 rfl Try.results19 Try.ntmps19 ?_
    simp -implicitDefEqProofs only [go_sem, reduceCtorEq, Nat.reduceAdd, Nat.reduceMul, Nat.reduceLeDiff, Nat.reduceLT, Int.reduceLE, Int.reduceLT, Int.reduceEq, Nat.reduceBEq, Nat.reduceEqDiff, ddSV, hse, b.1.1, b.1.2.1, b.1.2.2, b.2.1.1, b.2.1.2.1, b.2.1.2.2, b.2.2.1.1, b.2.2.1.2.1, b.2.2.1.2.2, b.2.2.2.1.1, b.2.2.2.1.2.1, b.2.2.2.1.2.2, b.2.2.2.2.1, b.2.2.2.2.2.1, b.2.2.2.2.2.2, z0, z1, z2, z3, z4, z5, z6]
    refine c1 _ fun s2 E2 q1 q2 q3 => ?_
    have hB2 := hB1.engT q1 q2
    have hb2 := hb1.fr (fun j u v => q2.old j v (fun e => by have := hel j e; omega))
    have hE2 : ∀ j, E2.has j → E.has j ∨ st.length + 5 ≤ j := fun j hj => by rw [← hl1]; exact q2.new j hj
    have hid2 := q2.id
    have hl2 : st.length + 5 ≤ s2.length := by rw [← hl1]; exact q2.len
    have hold2 : ∀ j, j < st.length → ¬ E.has j → ¬ R.has j → s2[j]? = st[j]? := fun j u v w => (q2.old j (by omega) v).trans (hold1 j u)
    have b2 := hb2.facts
    have w1 : ∀ j, E2.has j → j < st.length ∨ st.length + 5 ≤ j := fun j hj => (hE2 j hj).imp (hel j) id
    have w2 : ∀ j, R.has j → j < st.length ∨ st.length + 5 ≤ j := fun j hj => .inl (hrl j hj)
    have hB3 := hB2.box w1 w2 (i := st.length + 3) (by omega) (by omega) (.cells [i64 (0), i64 ((shutF E.abs d.t false).1)])
    have hb3 := hb2.set8 (0) ((shutF E.abs d.t false).1)
    have b3 := hb3.facts
    have c2 := rshut_c hB3.ref hG d.t false
    simp -implicitDefEqProofs only [go_sem, reduceCtorEq, Nat.reduceAdd, Nat.reduceMul, Nat.reduceLeDiff, Nat.reduceLT, Int.reduceLE, Int.reduceLT, Int.reduceEq, Nat.reduceBEq, Nat.reduceEqDiff, hse, b.1.1, b.1.2.1, b.1.2.2, b.2.1.1, b.2.1.2.1, b.2.1.2.2, b.2.2.1.1, b.2.2.1.2.1, b.2.2.1.2.2, b.2.2.2.1.1, b.2.2.2.1.2.1, b.2.2.2.1.2.2, b.2.2.2.2.1, b.2.2.2.2.2.1, b.2.2.2.2.2.2, z0, z1, z2, z3, z4, z5, z6, b2.1.1, b2.1.2.1, b2.1.2.2, b2.2.2.2.1.1, b2.2.2.2.1.2.1, b2.2.2.2.1.2.2, b3.1.1, b3.1.2.1, b3.1.2.2, b3.2.2.2.1.1, b3.2.2.2.1.2.1, b3.2.2.2.1.2.2]
    refine c2 _ fun s4 R4 r1 r2 r3 => ?_
    have hB4 := hB3.refT r1 r2
    have hb4 := hb3.fr (fun j u v => r2.old j v (fun e => by have := hrl j e; omega))
    have hl3 : st.length + 5 ≤ (s2.set (st.length + 3) (.cells [i64 (0), i64 ((shutF E.abs d.t false).1)])).length := by rw [List.length_set]; exact hl2
    have hR4 : ∀ j, R4.has j → R.has j ∨ st.length + 5 ≤ j := fun j hj => (r2.new j hj).imp id (fun q => Nat.le_trans hl3 q)
    have hid4 := r2.id
    have hl4 : st.length + 5 ≤ s4.length := Nat.le_trans hl3 r2.len
    have hold4 : ∀ j, j < st.length → ¬ E.has j → ¬ R.has j → s4[j]? = st[j]? := fun j u v w => (r2.old j (by omega) w).trans ((List.getElem?_set_ne (by omega)).trans (hold2 j u v w))
    have b4 := hb4.facts
    have w3 : ∀ j, R4.has j → j < st.length ∨ st.length + 5 ≤ j := fun j hj => (hR4 j hj).imp (hrl j) id
    have hB5 := hB4.box w1 w3 (i := st.length + 4) (by omega) (by omega) (.cells [i64 (0), i64 ((shutR R.abs d.t false).1)])
    have hb5 := hb4.set9 (0) ((shutR R.abs d.t false).1)
    have b5 := hb5.facts
    simp -implicitDefEqProofs only [go_sem, reduceCtorEq, Nat.reduceAdd, Nat.reduceMul, Nat.reduceLeDiff, Nat.reduceLT, Int.reduceLE, Int.reduceLT, Int.reduceEq, Nat.reduceBEq, Nat.reduceEqDiff, hse, z0, z1, z2, z3, z4, z5, z6, b.1.1, b.1.2.1, b.1.2.2, b.2.1.1, b.2.1.2.1, b.2.1.2.2, b.2.2.1.1, b.2.2.1.2.1, b.2.2.1.2.2, b.2.2.2.1.1, b.2.2.2.1.2.1, b.2.2.2.1.2.2, b.2.2.2.2.1, b.2.2.2.2.2.1, b.2.2.2.2.2.2, b2.1.1, b2.1.2.1, b2.1.2.2, b2.2.1.1, b2.2.1.2.1, b2.2.1.2.2, b2.2.2.1.1, b2.2.2.1.2.1, b2.2.2.1.2.2, b2.2.2.2.1.1, b2.2.2.2.1.2.1, b2.2.2.2.1.2.2, b2.2.2.2.2.1, b2.2.2.2.2.2.1, b2.2.2.2.2.2.2, b3.1.1, b3.1.2.1, b3.1.2.2, b3.2.1.1, b3.2.1.2.1, b3.2.1.2.2, b3.2.2.1.1, b3.2.2.1.2.1, b3.2.2.1.2.2, b3.2.2.2.1.1, b3.2.2.2.1.2.1, b3.2.2.2.1.2.2, b3.2.2.2.2.1, b3.2.2.2.2.2.1, b3.2.2.2.2.2.2, b4.1.1, b4.1.2.1, b4.1.2.2, b4.2.1.1, b4.2.1.2.1, b4.2.1.2.2, b4.2.2.1.1, b4.2.2.1.2.1, b4.2.2.1.2.2, b4.2.2.2.1.1, b4.2.2.2.1.2.1, b4.2.2.2.1.2.2, b4.2.2.2.2.1, b4.2.2.2.2.2.1, b4.2.2.2.2.2.2, b5.1.1, b5.1.2.1, b5.1.2.2, b5.2.1.1, b5.2.1.2.1, b5.2.1.2.2, b5.2.2.1.1, b5.2.2.1.2.1, b5.2.2.1.2.2, b5.2.2.2.1.1, b5.2.2.2.1.2.1, b5.2.2.2.1.2.2, b5.2.2.2.2.1, b5.2.2.2.2.2.1, b5.2.2.2.2.2.2]
    refine awp_drawT [] [0, 2, 1, 1] (fun s => s[st.length + 4]? = some (.cells [i64 (0), i64 ((shutR R.abs d.t false).1)])) Try.mixed rfl hb5.b9 ?_
    simp -implicitDefEqProofs only [go_sem, reduceCtorEq, Nat.reduceAdd, Nat.reduceMul, Nat.reduceLeDiff, Nat.reduceLT, Int.reduceLE, Int.reduceLT, Int.reduceEq, Nat.reduceBEq, Nat.reduceEqDiff, drawU_n, drawU_0, drawU_1, drawU_2, drawU_3, isStore_s, h12, h21, b5.1.1, b5.1.2.1, b5.1.2.2, b5.2.1.1, b5.2.1.2.1, b5.2.1.2.2, b5.2.2.1.1, b5.2.2.1.2.1, b5.2.2.1.2.2, b5.2.2.2.1.1, b5.2.2.2.1.2.1, b5.2.2.2.1.2.2, b5.2.2.2.2.1, b5.2.2.2.2.2.1, b5.2.2.2.2.2.2]
    refine ⟨fun s hs => ?_, ?_, ?_, ?_⟩
    · have f2 := cells_facts hs
      simp -implicitDefEqProofs only [go_sem, reduceCtorEq, Nat.reduceAdd, Nat.reduceMul, Nat.reduceLeDiff, Nat.reduceLT, Int.reduceLE, Int.reduceLT, Int.reduceEq, Nat.reduceBEq, Nat.reduceEqDiff, f2.1, f2.2.1, f2.2.2]
    · exact (List.getElem?_set_ne (by omega)).trans hb5.b9
    · exact (List.getElem?_set_ne (by omega)).trans ((List.getElem?_set_ne (by omega)).trans hb5.b9)
    rw [hdF, hdR] at fin
    exact fin _ E2 R4 (0, (shutF E.abs d.t false).1) (0, (shutR R.abs d.t false).1) hB5 hb5 hid2 hid4 q3 r3 rfl rfl (by rw [List.length_set]; exact hl4) (fun j u v w => (List.getElem?_set_ne (by omega)).trans (hold4 j u v w)) hE2 hR4
  by_cases k7 : d.kind = 7
  · have hdF : doesF E.abs d = ((0, (abortF E.abs d.t).1), (abortF E.abs d.t).2) := by unfold doesF; rw [if_neg k0, if_neg k1, if_neg k2, if_neg k3, if_neg k4, if_neg k5, if_neg k6, if_pos k7]
    have hdR : doesR R.abs d = ((0, (abortR R.abs d.t).1), (abortR R.abs d.t).2) := by unfold doesR; rw [if_neg k0, if_neg k1, if_neg k2, if_neg k3, if_neg k4, if_neg k5, if_neg k6, if_pos k7]
    have z0 : (d.kind == 0) = false := by simp [k0, k7]
    have z1 : (d.kind == 1) = false := by simp [k1, k7]
    have z2 : (d.kind == 2) = false := by simp [k2, k7]
    have z3 : (d.kind == 3) = false := by simp [k3, k7]
    have z4 : (d.kind == 4) = false := by simp [k4, k7]
    have z5 : (d.kind == 5) = false := by simp [k5, k7]
    have z6 : (d.kind == 6) = false := by simp [k6, k7]
    have z7 : (d.kind == 7) = true := by simp [k7]
    have c1 := abort_c hB1.eng d.t
    refine acalls_go (M := [5]) Try.func19 rfl Try.results19 Try.ntmps19 ?_
    simp -implicitDefEqProofs only [go_sem, reduceCtorEq, Nat.reduceAdd, Nat.reduceMul, Nat.reduceLeDiff, Nat.reduceLT, Int.reduceLE, Int.reduceLT, Int.reduceEq, Nat.reduceBEq, Nat.reduceEqDiff, ddSV, hse, b.1.1, b.1.2.1, b.1.2.2, b.2.1.1, b.2.1.2.1, b.2.1.2.2, b.2.2.1.1, b.2.2.1.2.1, b.2.2.1.2.2, b.2.2.2.1.1, b.2.2.2.1.2.1, b.2.2.2.1.2.2, b.2.2.2.2.1, b.2.2.2.2.2.1, b.2.2.2.2.2.2, z0, z1, z2, z3, z4, z5, z6, z7]
    refine c1 _ fun s2 E2 q1 q2 q3 => ?_
    have hB2 := hB1.engT q1 q2
    have hb2 := hb1.fr (fun j u v => q2.old j v (fun e => by have := hel j e; omega))
    have hE2 : ∀ j, E2.has j → E.has j ∨ st.length + 5 ≤ j := fun j hj => by rw [← hl1]; exact q2.new j hj
    have hid2 := q2.id
    have hl2 : st.length + 5 ≤ s2.length := by rw [← hl1]; exact q2.len
    have hold2 : ∀ j, j < st.length → ¬ E.has j → ¬ R.has j → s2[j]? = st[j]? := fun j u v w => (q2.old j (by omega) v).trans (hold1 j u)
    have b2 := hb2.facts
    have w1 : ∀ j, E2.has j → j < st.length ∨ st.length + 5 ≤ j := fun j hj => (hE2 j hj).imp (hel j) id
    have w2 : ∀ j, R.has j → j < st.length ∨ st.length + 5 ≤ j := fun j hj => .inl (hrl j hj)
    have hB3 := hB2.box w1 w2 (i := st.length + 3) (by omega) (by omega) (.cells [i64 (0), i64 ((abortF E.abs d.t).1)])
    have hb3 := hb2.set8 (0) ((abortF E.abs d.t).1)
    have b3 := hb3.facts
    have c2 := rabort_c hB3.ref d.t
    simp -implicitDefEqProofs only [go_sem, reduceCtorEq, Nat.reduceAdd, Nat.reduceMul, Nat.reduceLeDiff, Nat.reduceLT, Int.reduceLE, Int.reduceLT, Int.reduceEq, Nat.reduceBEq, Nat.reduceEqDiff, hse, b.1.1, b.1.2.1, b.1.2.2, b.2.1.1, b.2.1.2.1, b.2.1.2.2, b.2.2.1.1, b.2.2.1.2.1, b.2.2.1.2.2, b.2.2.2.1.1, b.2.2.2.1.2.1, b.2.2.2.1.2.2, b.2.2.2.2.1, b.2.2.2.2.2.1, b.2.2.2.2.2.2, z0, z1, z2, z3, z4, z5, z6, z7, b2.1.1, b2.1.2.1, b2.1.2.2, b2.2.2.2.1.1, b2.2.2.2.1.2.1, b2.2.2.2.1.2.2, b3.1.1, b3.1.2.1, b3.1.2.2, b3.2.2.2.1.1, b3.2.2.2.1.2.1, b3.2.2.2.1.2.2]
    refine c2 _ fun s4 R4 r1 r2 r3 => ?_
    have hB4 := hB3.refT r1 r2
    have hb4 := hb3.fr (fun j u v => r2.old j v (fun e => by have := hrl j e; omega))
    have hl3 : st.length + 5 ≤ (s2.set (st.length + 3) (.cells [i64 (0), i64 ((abortF E.abs d.t).1)])).length := by rw [List.length_set]; exact hl2
    have hR4 : ∀ j, R4.has j → R.has j ∨ st.length + 5 ≤ j := fun j hj => (r2.new j hj).imp id (fun q => Nat.le_trans hl3 q)
    have hid4 := r2.id
    have hl4 : st.length + 5 ≤ s4.length := Nat.le_trans hl3 r2.len
    have hold4 : ∀ j, j < st.length → ¬ E.has j → ¬ R.has j → s4[j]? = st[j]? := fun j u v w => (r2.old j (by omega) w).trans ((List.getElem?_set_ne (by omega)).trans (hold2 j u v w))
    have b4 := hb4.facts
    have w3 : ∀ j, R4.has j → j < st.length ∨ st.length + 5 ≤ j := fun j hj => (hR4 j hj).imp (hrl j) id
    have hB5 := hB4.box w1 w3 (i := st.length + 4) (by omega) (by omega) (.cells [i64 (0), i64 ((abortR R.abs d.t).1)])
    have hb5 := hb4.set9 (0) ((abortR R.abs d.t).1)
    have b5 := hb5.facts
    simp -implicitDefEqProofs only [go_sem, reduceCtorEq, Nat.reduceAdd, Nat.reduceMul, Nat.reduceLeDiff, Nat.reduceLT, Int.reduceLE, Int.reduceLT, Int.reduceEq, Nat.reduceBEq, Nat.reduceEqDiff, hse, z0, z1, z2, z3, z4, z5, z6, z7, b.1.1, b.1.2.1, b.1.2.2, b.2.1.1, b.2.1.2.1, b.2.1.2.2, b.2.2.1.1, b.2.2.1.2.1, b.2.2.1.2.2, b.2.2.2.1.1, b.2.2.2.1.2.1, b.2.2.2.1.2.2, b.2.2.2.2.1, b.2.2.2.2.2.1, b.2.2.2.2.2.2, b2.1.1, b2.1.2.1, b2.1.2.2, b2.2.1.1, b2.2.1.2.1, b2.2.1.2.2, b2.2.2.1.1, b2.2.2.1.2.1, b2.2.2.1.2.2, b2.2.2.2.1.1, b2.2.2.2.1.2.1, b2.2.2.2.1.2.2, b2.2.2.2.2.1, b2.2.2.2.2.2.1, b2.2.2.2.2.2.2, b3.1.1, b3.1.2.1, b3.1.2.2, b3.2.1.1, b3.2.1.2.1, b3.2.1.2.2, b3.2.2.1.1, b3.2.2.1.2.1, b3.2.2.1.2.2, b3.2.2.2.1.1, b3.2.2.2.1.2.1, b3.2.2.2.1.2.2, b3.2.2.2.2.1, b3.2.2.2.2.2.1, b3.2.2.2.2.2.2, b4.1.1, b4.1.2.1, b4.1.2.2, b4.2.1.1, b4.2.1.2.1, b4.2.1.2.2, b4.2.2.1.1, b4.2.2.1.2.1, b4.2.2.1.2.2, b4.2.2.2.1.1, b4.2.2.2.1.2.1, b4.2.2.2.1.2.2, b4.2.2.2.2.1, b4.2.2.2.2.2.1, b4.2.2.2.2.2.2, b5.1.1, b5.1.2.1, b5.1.2.2, b5.2.1.1, b5.2.1.2.1, b5.2.1.2.2, b5.2.2.1.1, b5.2.2.1.2.1, b5.2.2.1.2.2, b5.2.2.2.1.1, b5.2.2.2.1.2.1, b5.2.2.2.1.2.2, b5.2.2.2.2.1, b5.2.2.2.2.2.1, b5.2.2.2.2.2.2]
    refine awp_drawT [] [0, 2, 1, 1] (fun s => s[st.length + 4]? = some (.cells [i64 (0), i64 ((abortR R.abs d.t).1)])) Try.mixed rfl hb5.b9 ?_
    simp -implicitDefEqProofs only [go_sem, reduceCtorEq, Nat.reduceAdd, Nat.reduceMul, Nat.reduceLeDiff, Nat.reduceLT, Int.reduceLE, Int.reduceLT, Int.reduceEq, Nat.reduceBEq, Nat.reduceEqDiff, drawU_n, drawU_0, drawU_1, drawU_2, drawU_3, isStore_s, h12, h21, b5.1.1, b5.1.2.1, b5.1.2.2, b5.2.1.1, b5.2.1.2.1, b5.2.1.2.2, b5.2.2.1.1, b5.2.2.1.2.1, b5.2.2.1.2.2, b5.2.2.2.1.1, b5.2.2.2.1.2.1, b5.2.2.2.1.2.2, b5.2.2.2.2.1, b5.2.2.2.2.2.1, b5.2.2.2.2.2.2]
    refine ⟨fun s hs => ?_, ?_, ?_, ?_⟩
    · have f2 := cells_facts hs
      simp -implicitDefEqProofs only [go_sem, reduceCtorEq, Nat.reduceAdd, Nat.reduceMul, Nat.reduceLeDiff, Nat.reduceLT, Int.reduceLE, Int.reduceLT, Int.reduceEq, Nat.reduceBEq, Nat.reduceEqDiff, f2.1, f2.2.1, f2.2.2]
    · exact (List.getElem?_set_ne (by omega)).trans hb5.b9
    · exact (List.getElem?_set_ne (by omega)).trans ((List.getElem?_set_ne (by omega)).trans hb5.b9)
    rw [hdF, hdR] at fin
    exact fin _ E2 R4 (0, (abortF E.abs d.t).1) (0, (abortR R.abs d.t).1) hB5 hb5 hid2 hid4 q3 r3 rfl rfl (by rw [List.length_set]; exact hl4) (fun j u v w => (List.getElem?_set_ne (by omega)).trans (hold4 j u v w)) hE2 hR4
  by_cases k8 : d.kind = 8
  · have hdF : doesF E.abs d = makeF E.abs d.v := by unfold doesF; rw [if_neg k0, if_neg k1, if_neg k2, if_neg k3, if_neg k4, if_neg k5, if_neg k6, if_neg k7, if_pos k8]
    have hdR : doesR R.abs d = makeR R.abs d.v := by unfold doesR; rw [if_neg k0, if_neg k1, if_neg k2, if_neg k3, if_neg k4, if_neg k5, if_neg k6, if_neg k7, if_pos k8]
    have z0 : (d.kind == 0) = false := by simp [k0, k8]
    have z1 : (d.kind == 1) = false := by simp [k1, k8]
    have z2 : (d.kind == 2) = false := by simp [k2, k8]
    have z3 : (d.kind == 3) = false := by simp [k3, k8]
    have z4 : (d.kind == 4) = false := by simp [k4, k8]
    have z5 : (d.kind == 5) = false := by simp [k5, k8]
    have z6 : (d.kind == 6) = false := by simp [k6, k8]
    have z7 : (d.kind == 7) = false := by simp [k7, k8]
    have z8 : (d.kind == 8) = true := by simp [k8]
    have c1 := make_c hB1.eng d.v
    refine acalls_go (M := [5]) Try.func19 rfl Try.results19 Try.ntmps19 ?_
    simp -implicitDefEqProofs only [go_sem, reduceCtorEq, Nat.reduceAdd, Nat.reduceMul, Nat.reduceLeDiff, Nat.reduceLT, Int.reduceLE, Int.reduceLT, Int.reduceEq, Nat.reduceBEq, Nat.reduceEqDiff, ddSV, hse, b.1.1, b.1.2.1, b.1.2.2, b.2.1.1, b.2.1.2.1, b.2.1.2.2, b.2.2.1.1, b.2.2.1.2.1, b.2.2.1.2.2, b.2.2.2.1.1, b.2.2.2.1.2.1, b.2.2.2.1.2.2, b.2.2.2.2.1, b.2.2.2.2.2.1, b.2.2.2.2.2.2, z0, z1, z2, z3, z4, z5, z6, z7, z8]
    refine c1 _ fun s2 E2 q1 q2 q3 => ?_
    have hB2 := hB1.engT q1 q2
    have hb2 := hb1.fr (fun j u v => q2.old j v (fun e => by have := hel j e; omega))
    have hE2 : ∀ j, E2.has j → E.has j ∨ st.length + 5 ≤ j := fun j hj => by rw [← hl1]; exact q2.new j hj
    have hid2 := q2.id
    have hl2 : st.length + 5 ≤ s2.length := by rw [← hl1]; exact q2.len
    have hold2 : ∀ j, j < st.length → ¬ E.has j → ¬ R.has j → s2[j]? = st[j]? := fun j u v w => (q2.old j (by omega) v).trans (hold1 j u)
    have b2 := hb2.facts
    have w1 : ∀ j, E2.has j → j < st.length ∨ st.length + 5 ≤ j := fun j hj => (hE2 j hj).imp (hel j) id
    have w2 : ∀ j, R.has j → j < st.length ∨ st.length + 5 ≤ j := fun j hj => .inl (hrl j hj)
    have hB3 := hB2.box w1 w2 (i := st.length + 3) (by omega) (by omega) (.cells [i64 ((makeF E.abs d.v).1.1), i64 ((makeF E.abs d.v).1.2)])
    have hb3 := hb2.set8 ((makeF E.abs d.v).1.1) ((makeF E.abs d.v).1.2)
    have b3 := hb3.facts
    have c2 := rmake_c hB3.ref d.v
    simp -implicitDefEqProofs only [go_sem, reduceCtorEq, Nat.reduceAdd, Nat.reduceMul, Nat.reduceLeDiff, Nat.reduceLT, Int.reduceLE, Int.reduceLT, Int.reduceEq, Nat.reduceBEq, Nat.reduceEqDiff, hse, b.1.1, b.1.2.1, b.1.2.2, b.2.1.1, b.2.1.2.1, b.2.1.2.2, b.2.2.1.1, b.2.2.1.2.1, b.2.2.1.2.2, b.2.2.2.1.1, b.2.2.2.1.2.1, b.2.2.2.1.2.2, b.2.2.2.2.1, b.2.2.2.2.2.1, b.2.2.2.2.2.2, z0, z1, z2, z3, z4, z5, z6, z7, z8, b2.1.1, b2.1.2.1, b2.1.2.2, b2.2.2.2.1.1, b2.2.2.2.1.2.1, b2.2.2.2.1.2.2, b3.1.1, b3.1.2.1, b3.1.2.2, b3.2.2.2.1.1, b3.2.2.2.1.2.1, b3.2.2.2.1.2.2]
    refine c2 _ fun s4 R4 r1 r2 r3 => ?_
    have hB4 := hB3.refT r1 r2
    have hb4 := hb3.fr (fun j u v => r2.old j v (fun e => by have := hrl j e; omega))
    have hl3 : st.length + 5 ≤ (s2.set (st.length + 3) (.cells [i64 ((makeF E.abs d.v).1.1), i64 ((makeF E.abs d.v).1.2)])).length := by rw [List.length_set]; exact hl2
    have hR4 : ∀ j, R4.has j → R.has j ∨ st.length + 5 ≤ j := fun j hj => (r2.new j hj).imp id (fun q => Nat.le_trans hl3 q)
    have hid4 := r2.id
    have hl4 : st.length + 5 ≤ s4.length := Nat.le_trans hl3 r2.len
    have hold4 : ∀ j, j < st.length → ¬ E.has j → ¬ R.has j → s4[j]? = st[j]? := fun j u v w => (r2.old j (by omega) w).trans ((List.getElem?_set_ne (by omega)).trans (hold2 j u v w))
    have b4 := hb4.facts
    have w3 : ∀ j, R4.has j → j < st.length ∨ st.length + 5 ≤ j := fun j hj => (hR4 j hj).imp (hrl j) id
    have hB5 := hB4.box w1 w3 (i := st.length + 4) (by omega) (by omega) (.cells [i64 ((makeR R.abs d.v).1.1), i64 ((makeR R.abs d.v).1.2)])
    have hb5 := hb4.set9 ((makeR R.abs d.v).1.1) ((makeR R.abs d.v).1.2)
    have b5 := hb5.facts
    simp -implicitDefEqProofs only [go_sem, reduceCtorEq, Nat.reduceAdd, Nat.reduceMul, Nat.reduceLeDiff, Nat.reduceLT, Int.reduceLE, Int.reduceLT, Int.reduceEq, Nat.reduceBEq, Nat.reduceEqDiff, hse, z0, z1, z2, z3, z4, z5, z6, z7, z8, b.1.1, b.1.2.1, b.1.2.2, b.2.1.1, b.2.1.2.1, b.2.1.2.2, b.2.2.1.1, b.2.2.1.2.1, b.2.2.1.2.2, b.2.2.2.1.1, b.2.2.2.1.2.1, b.2.2.2.1.2.2, b.2.2.2.2.1, b.2.2.2.2.2.1, b.2.2.2.2.2.2, b2.1.1, b2.1.2.1, b2.1.2.2, b2.2.1.1, b2.2.1.2.1, b2.2.1.2.2, b2.2.2.1.1, b2.2.2.1.2.1, b2.2.2.1.2.2, b2.2.2.2.1.1, b2.2.2.2.1.2.1, b2.2.2.2.1.2.2, b2.2.2.2.2.1, b2.2.2.2.2.2.1, b2.2.2.2.2.2.2, b3.1.1, b3.1.2.1, b3.1.2.2, b3.2.1.1, b3.2.1.2.1, b3.2.1.2.2, b3.2.2.1.1, b3.2.2.1.2.1, b3.2.2.1.2.2, b3.2.2.2.1.1, b3.2.2.2.1.2.1, b3.2.2.2.1.2.2, b3.2.2.2.2.1, b3.2.2.2.2.2.1, b3.2.2.2.2.2.2, b4.1.1, b4.1.2.1, b4.1.2.2, b4.2.1.1, b4.2.1.2.1, b4.2.1.2.2, b4.2.2.1.1, b4.2.2.1.2.1, b4.2.2.1.2.2, b4.2.2.2.1.1, b4.2.2.2.1.2.1, b4.2.2.2.1.2.2, b4.2.2.2.2.1, b4.2.2.2.2.2.1, b4.2.2.2.2.2.2, b5.1.1, b5.1.2.1, b5.1.2.2, b5.2.1.1, b5.2.1.2.1, b5.2.1.2.2, b5.2.2.1.1, b5.2.2.1.2.1, b5.2.2.1.2.2, b5.2.2.2.1.1, b5.2.2.2.1.2.1, b5.2.2.2.1.2.2, b5.2.2.2.2.1, b5.2.2.2.2.2.1, b5.2.2.2.2.2.2]
    refine awp_drawT [] [0, 2, 1, 1] (fun s => s[st.length + 4]? = some (.cells [i64 ((makeR R.abs d.v).1.1), i64 ((makeR R.abs d.v).1.2)])) Try.mixed rfl hb5.b9 ?_
    simp -implicitDefEqProofs only [go_sem, reduceCtorEq, Nat.reduceAdd, Nat.reduceMul, Nat.reduceLeDiff, Nat.reduceLT, Int.reduceLE, Int.reduceLT, Int.reduceEq, Nat.reduceBEq, Nat.reduceEqDiff, drawU_n, drawU_0, drawU_1, drawU_2, drawU_3, isStore_s, h12, h21, b5.1.1, b5.1.2.1, b5.1.2.2, b5.2.1.1, b5.2.1.2.1, b5.2.1.2.2, b5.2.2.1.1, b5.2.2.1.2.1, b5.2.2.1.2.2, b5.2.2.2.1.1, b5.2.2.2.1.2.1, b5.2.2.2.1.2.2, b5.2.2.2.2.1, b5.2.2.2.2.2.1, b5.2.2.2.2.2.2]
    refine ⟨fun s hs => ?_, ?_, ?_, ?_⟩
    · have f2 := cells_facts hs
      simp -implicitDefEqProofs only [go_sem, reduceCtorEq, Nat.reduceAdd, Nat.reduceMul, Nat.reduceLeDiff, Nat.reduceLT, Int.reduceLE, Int.reduceLT, Int.reduceEq, Nat.reduceBEq, Nat.reduceEqDiff, f2.1, f2.2.1, f2.2.2]
    · exact (List.getElem?_set_ne (by omega)).trans hb5.b9
    · exact (List.getElem?_set_ne (by omega)).trans ((List.getElem?_set_ne (by omega)).trans hb5.b9)
    rw [hdF, hdR] at fin
    exact fin _ E2 R4 ((makeF E.abs d.v).1.1, (makeF E.abs d.v).1.2) ((makeR R.abs d.v).1.1, (makeR R.abs d.v).1.2) hB5 hb5 hid2 hid4 q3 r3 rfl rfl (by rw [List.length_set]; exact hl4) (fun j u v w => (List.getElem?_set_ne (by omega)).trans (hold4 j u v w)) hE2 hR4
  by_cases k9 : d.kind = 9
  · have hdF : doesF E.abs d = ((0, validF E.abs d.t), E.abs) := by unfold doesF; rw [if_neg k0, if_neg k1, if_neg k2, if_neg k3, if_neg k4, if_neg k5, if_neg k6, if_neg k7, if_neg k8, if_pos k9]
    have hdR : doesR R.abs d = ((0, if R.abs.opn d.t = true then validR d.t (R.abs.get d.t).start R.abs.vars (R.abs.get d.t).reads else 1), R.abs) := by unfold doesR; rw [if_neg k0, if_neg k1, if_neg k2, if_neg k3, if_neg k4, if_neg k5, if_neg k6, if_neg k7, if_neg k8, if_pos k9]
    have z0 : (d.kind == 0) = false := by simp [k0, k9]
    have z1 : (d.kind == 1) = false := by simp [k1, k9]
    have z2 : (d.kind == 2) = false := by simp [k2, k9]
    have z3 : (d.kind == 3) = false := by simp [k3, k9]
    have z4 : (d.kind == 4) = false := by simp [k4, k9]
    have z5 : (d.kind == 5) = false := by simp [k5, k9]
    have z6 : (d.kind == 6) = false := by simp [k6, k9]
    have z7 : (d.kind == 7) = false := by simp [k7, k9]
    have z8 : (d.kind == 8) = false := by simp [k8, k9]
    have z9 : (d.kind == 9) = true := by simp [k9]
    have c1 := validF_c hB1.eng hF d.t
    refine acalls_go (M := [5]) Try.func19 rfl Try.results19 Try.ntmps19 ?_
    simp -implicitDefEqProofs only [go_sem, reduceCtorEq, Nat.reduceAdd, Nat.reduceMul, Nat.reduceLeDiff, Nat.reduceLT, Int.reduceLE, Int.reduceLT, Int.reduceEq, Nat.reduceBEq, Nat.reduceEqDiff, ddSV, hse, b.1.1, b.1.2.1, b.1.2.2, b.2.1.1, b.2.1.2.1, b.2.1.2.2, b.2.2.1.1, b.2.2.1.2.1, b.2.2.1.2.2, b.2.2.2.1.1, b.2.2.2.1.2.1, b.2.2.2.1.2.2, b.2.2.2.2.1, b.2.2.2.2.2.1, b.2.2.2.2.2.2, z0, z1, z2, z3, z4, z5, z6, z7, z8, z9]
    refine c1 _ ?_
    have hB2 := hB1
    have hb2 := hb1
    have hE2 : ∀ j, E.has j → E.has j ∨ st.length + 5 ≤ j := fun j hj => .inl hj
    have hid2 : E.id = E.id := rfl
    have q3 : E.abs = E.abs := rfl
    have hl2 : st.length + 5 ≤ s1.length := by omega
    have hold2 : ∀ j, j < st.length → ¬ E.has j → ¬ R.has j → s1[j]? = st[j]? := fun j u v w => hold1 j u
    have b2 := hb2.facts
    have w1 : ∀ j, E.has j → j < st.length ∨ st.length + 5 ≤ j := fun j hj => (hE2 j hj).imp (hel j) id
    have w2 : ∀ j, R.has j → j < st.length ∨ st.length + 5 ≤ j := fun j hj => .inl (hrl j hj)
    have hB3 := hB2.box w1 w2 (i := st.length + 3) (by omega) (by omega) (.cells [i64 (0), i64 ((validF E.abs d.t))])
    have hb3 := hb2.set8 (0) ((validF E.abs d.t))
    have b3 := hb3.facts
    have c2 := rValid_c hB3.ref hG d.t
    simp -implicitDefEqProofs only [go_sem, reduceCtorEq, Nat.reduceAdd, Nat.reduceMul, Nat.reduceLeDiff, Nat.reduceLT, Int.reduceLE, Int.reduceLT, Int.reduceEq, Nat.reduceBEq, Nat.reduceEqDiff, hse, b.1.1, b.1.2.1, b.1.2.2, b.2.1.1, b.2.1.2.1, b.2.1.2.2, b.2.2.1.1, b.2.2.1.2.1, b.2.2.1.2.2, b.2.2.2.1.1, b.2.2.2.1.2.1, b.2.2.2.1.2.2, b.2.2.2.2.1, b.2.2.2.2.2.1, b.2.2.2.2.2.2, z0, z1, z2, z3, z4, z5, z6, z7, z8, z9, b2.1.1, b2.1.2.1, b2.1.2.2, b2.2.2.2.1.1, b2.2.2.2.1.2.1, b2.2.2.2.1.2.2, b3.1.1, b3.1.2.1, b3.1.2.2, b3.2.2.2.1.1, b3.2.2.2.1.2.1, b3.2.2.2.1.2.2]
    refine c2 _ ?_
    have hB4 := hB3
    have hb4 := hb3
    have hR4 : ∀ j, R.has j → R.has j ∨ st.length + 5 ≤ j := fun j hj => .inl hj
    have hid4 : R.id = R.id := rfl
    have r3 : R.abs = R.abs := rfl
    have hl4 : st.length + 5 ≤ (s1.set (st.length + 3) (.cells [i64 (0), i64 ((validF E.abs d.t))])).length := by rw [List.length_set]; exact hl2
    have hold4 : ∀ j, j < st.length → ¬ E.has j → ¬ R.has j → (s1.set (st.length + 3) (.cells [i64 (0), i64 ((validF E.abs d.t))]))[j]? = st[j]? := fun j u v w => (List.getElem?_set_ne (by omega)).trans (hold2 j u v w)
    have b4 := hb4.facts
    have w3 : ∀ j, R.has j → j < st.length ∨ st.length + 5 ≤ j := fun j hj => (hR4 j hj).imp (hrl j) id
    have hB5 := hB4.box w1 w3 (i := st.length + 4) (by omega) (by omega) (.cells [i64 (0), i64 ((if R.abs.opn d.t = true then validR d.t (R.abs.get d.t).start R.vars (R.abs.get d.t).reads else 1))])
    have hb5 := hb4.set9 (0) ((if R.abs.opn d.t = true then validR d.t (R.abs.get d.t).start R.vars (R.abs.get d.t).reads else 1))
    have b5 := hb5.facts
    simp -implicitDefEqProofs only [go_sem, reduceCtorEq, Nat.reduceAdd, Nat.reduceMul, Nat.reduceLeDiff, Nat.reduceLT, Int.reduceLE, Int.reduceLT, Int.reduceEq, Nat.reduceBEq, Nat.reduceEqDiff, hse, z0, z1, z2, z3, z4, z5, z6, z7, z8, z9, b.1.1, b.1.2.1, b.1.2.2, b.2.1.1, b.2.1.2.1, b.2.1.2.2, b.2.2.1.1, b.2.2.1.2.1, b.2.2.1.2.2, b.2.2.2.1.1, b.2.2.2.1.2.1, b.2.2.2.1.2.2, b.2.2.2.2.1, b.2.2.2.2.2.1, b.2.2.2.2.2.2, b2.1.1, b2.1.2.1, b2.1.2.2, b2.2.1.1, b2.2.1.2.1, b2.2.1.2.2, b2.2.2.1.1, b2.2.2.1.2.1, b2.2.2.1.2.2, b2.2.2.2.1.1, b2.2.2.2.1.2.1, b2.2.2.2.1.2.2, b2.2.2.2.2.1, b2.2.2.2.2.2.1, b2.2.2.2.2.2.2, b3.1.1, b3.1.2.1, b3.1.2.2, b3.2.1.1, b3.2.1.2.1, b3.2.1.2.2, b3.2.2.1.1, b3.2.2.1.2.1, b3.2.2.1.2.2, b3.2.2.2.1.1, b3.2.2.2.1.2.1, b3.2.2.2.1.2.2, b3.2.2.2.2.1, b3.2.2.2.2.2.1, b3.2.2.2.2.2.2, b4.1.1, b4.1.2.1, b4.1.2.2, b4.2.1.1, b4.2.1.2.1, b4.2.1.2.2, b4.2.2.1.1, b4.2.2.1.2.1, b4.2.2.1.2.2, b4.2.2.2.1.1, b4.2.2.2.1.2.1, b4.2.2.2.1.2.2, b4.2.2.2.2.1, b4.2.2.2.2.2.1, b4.2.2.2.2.2.2, b5.1.1, b5.1.2.1, b5.1.2.2, b5.2.1.1, b5.2.1.2.1, b5.2.1.2.2, b5.2.2.1.1, b5.2.2.1.2.1, b5.2.2.1.2.2, b5.2.2.2.1.1, b5.2.2.2.1.2.1, b5.2.2.2.1.2.2, b5.2.2.2.2.1, b5.2.2.2.2.2.1, b5.2.2.2.2.2.2]
    refine awp_drawT [] [0, 2, 1, 1] (fun s => s[st.length + 4]? = some (.cells [i64 (0), i64 ((if R.abs.opn d.t = true then validR d.t (R.abs.get d.t).start R.vars (R.abs.get d.t).reads else 1))])) Try.mixed rfl hb5.b9 ?_
    simp -implicitDefEqProofs only [go_sem, reduceCtorEq, Nat.reduceAdd, Nat.reduceMul, Nat.reduceLeDiff, Nat.reduceLT, Int.reduceLE, Int.reduceLT, Int.reduceEq, Nat.reduceBEq, Nat.reduceEqDiff, drawU_n, drawU_0, drawU_1, drawU_2, drawU_3, isStore_s, h12, h21, b5.1.1, b5.1.2.1, b5.1.2.2, b5.2.1.1, b5.2.1.2.1, b5.2.1.2.2, b5.2.2.1.1, b5.2.2.1.2.1, b5.2.2.1.2.2, b5.2.2.2.1.1, b5.2.2.2.1.2.1, b5.2.2.2.1.2.2, b5.2.2.2.2.1, b5.2.2.2.2.2.1, b5.2.2.2.2.2.2]
    refine ⟨fun s hs => ?_, ?_, ?_, ?_⟩
    · have f2 := cells_facts hs
      simp -implicitDefEqProofs only [go_sem, reduceCtorEq, Nat.reduceAdd, Nat.reduceMul, Nat.reduceLeDiff, Nat.reduceLT, Int.reduceLE, Int.reduceLT, Int.reduceEq, Nat.reduceBEq, Nat.reduceEqDiff, f2.1, f2.2.1, f2.2.2]
    · exact (List.getElem?_set_ne (by omega)).trans hb5.b9
    · exact (List.getElem?_set_ne (by omega)).trans ((List.getElem?_set_ne (by omega)).trans hb5.b9)
    rw [hdF, hdR] at fin
    exact fin _ E R (0, (validF E.abs d.t)) (0, (if R.abs.opn d.t = true then validR d.t (R.abs.get d.t).start R.vars (R.abs.get d.t).reads else 1)) hB5 hb5 hid2 hid4 q3 r3 rfl rfl (by rw [List.length_set]; exact hl4) (fun j u v w => (List.getElem?_set_ne (by omega)).trans (hold4 j u v w)) hE2 hR4
  have hdF : doesF E.abs d = ((0, 0), E.abs) := by unfold doesF; rw [if_neg k0, if_neg k1, if_neg k2, if_neg k3, if_neg k4, if_neg k5, if_neg k6, if_neg k7, if_neg k8, if_neg k9]
  have hdR : doesR R.abs d = ((0, 0), R.abs) := by unfold doesR; rw [if_neg k0, if_neg k1, if_neg k2, if_neg k3, if_neg k4, if_neg k5, if_neg k6, if_neg k7, if_neg k8, if_neg k9]
  have z0 : (d.kind == 0) = false := by simp [k0]
  have z1 : (d.kind == 1) = false := by simp [k1]
  have z2 : (d.kind == 2) = false := by simp [k2]
  have z3 : (d.kind == 3) = false := by simp [k3]
  have z4 : (d.kind == 4) = false := by simp [k4]
  have z5 : (d.kind == 5) = false := by simp [k5]
  have z6 : (d.kind == 6) = false := by simp [k6]
  have z7 : (d.kind == 7) = false := by simp [k7]
  have z8 : (d.kind == 8) = false := by simp [k8]
  have z9 : (d.kind == 9) = false := by simp [k9]
  refine acalls_go (M := [5]) Try.func19 rfl Try.results19 Try.ntmps19 ?_
  simp -implicitDefEqProofs only [go_sem, reduceCtorEq, Nat.reduceAdd, Nat.reduceMul, Nat.reduceLeDiff, Nat.reduceLT, Int.reduceLE, Int.reduceLT, Int.reduceEq, Nat.reduceBEq, Nat.reduceEqDiff, ddSV, hse, z0, z1, z2, z3, z4, z5, z6, z7, z8, z9, b.1.1, b.1.2.1, b.1.2.2, b.2.1.1, b.2.1.2.1, b.2.1.2.2, b.2.2.1.1, b.2.2.1.2.1, b.2.2.1.2.2, b.2.2.2.1.1, b.2.2.2.1.2.1, b.2.2.2.1.2.2, b.2.2.2.2.1, b.2.2.2.2.2.1, b.2.2.2.2.2.2]
  refine awp_drawT [] [0, 2, 1, 1] (fun s => s[st.length + 4]? = some (.cells [i64 0, i64 0])) Try.mixed rfl hb1.b9 ?_
  simp -implicitDefEqProofs only [go_sem, reduceCtorEq, Nat.reduceAdd, Nat.reduceMul, Nat.reduceLeDiff, Nat.reduceLT, Int.reduceLE, Int.reduceLT, Int.reduceEq, Nat.reduceBEq, Nat.reduceEqDiff, drawU_n, drawU_0, drawU_1, drawU_2, drawU_3, isStore_s, h12, h21, b.1.1, b.1.2.1, b.1.2.2, b.2.1.1, b.2.1.2.1, b.2.1.2.2, b.2.2.1.1, b.2.2.1.2.1, b.2.2.1.2.2, b.2.2.2.1.1, b.2.2.2.1.2.1, b.2.2.2.1.2.2, b.2.2.2.2.1, b.2.2.2.2.2.1, b.2.2.2.2.2.2]
  refine ⟨fun s hs => ?_, ?_, ?_, ?_⟩
  · have f2 := cells_facts hs
    simp -implicitDefEqProofs only [go_sem, reduceCtorEq, Nat.reduceAdd, Nat.reduceMul, Nat.reduceLeDiff, Nat.reduceLT, Int.reduceLE, Int.reduceLT, Int.reduceEq, Nat.reduceBEq, Nat.reduceEqDiff, f2.1, f2.2.1, f2.2.2]
  · exact (List.getElem?_set_ne (by omega)).trans hb1.b9
  · exact (List.getElem?_set_ne (by omega)).trans ((List.getElem?_set_ne (by omega)).trans hb1.b9)
  rw [hdF, hdR] at fin
  exact fin _ E R (0, 0) (0, 0) hB1 hb1 rfl rfl rfl rfl rfl rfl (by omega) (fun j u v w => hold1 j u) (fun j hj => .inl hj) (fun j hj => .inl hj)

end Go.Proofs
