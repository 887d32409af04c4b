/- Both engines side by side; the harness: begin. -/
import Derived.Test.YteclbnjpijakbaaM5
set_option linter.unusedSimpArgs false
set_option linter.unusedVariables false
set_option maxRecDepth 8000
namespace Go.Proofs
open Go Go.AL

theorem EngAt.has_lt {st : St} {E : EG} (h : EngAt st E) {j : Nat} (hj : E.has j) : j < st.length := by
  rcases hj with rfl | rfl | ⟨t, x, hx, hj⟩
  · exact lt_of_get h.cells
  · exact lt_of_get h.vars
  · exact (h.tx t x hx).has_lt hj

theorem EngAt.of_same {st s : St} {E : EG} (h : EngAt st E) (hs : ∀ j, E.has j → s[j]? = st[j]?) : EngAt s E where
  cells := by rw [hs _ (.inl rfl)]; exact h.cells
  vars := by rw [hs _ (.inr (.inl rfl))]; exact h.vars
  len := h.len
  many := h.many
  tx := fun t x hx => (h.tx t x hx).of_same fun j hj => hs j (.inr (.inr ⟨t, x, hx, hj⟩))
  apart := h.apart
  own := h.own

structure Both (st : St) (E : EG) (R : RG) : Prop where
  eng : EngAt st E
  ref : RefAt st R
  apart : ∀ j, E.has j → ¬ R.has j

theorem Both.engT {st s : St} {E E' : EG} {R : RG} (h : Both st E R) (h1 : EngAt s E') (h2 : Fr st E s E') : Both s E' R where
  eng := h1
  ref := h.ref.of_same fun j hj => h2.old j (h.ref.has_lt hj) fun he => h.apart j he hj
  apart := fun j hj hr => by
    rcases h2.new j hj with h3 | h3
    · exact h.apart j h3 hr
    · have := h.ref.has_lt hr; omega

theorem Both.refT {st s : St} {E : EG} {R R' : RG} (h : Both st E R) (h1 : RefAt s R') (h2 : RFr st R s R') : Both s E R' where
  eng := h.eng.of_same fun j hj => h2.old j (h.eng.has_lt hj) (h.apart j hj)
  ref := h1
  apart := fun j hj hr => by
    rcases h2.new j hr with h3 | h3
    · exact h.apart j hj h3
    · have := h.eng.has_lt hj; omega

theorem Both.app {st : St} {E : EG} {R : RG} (h : Both st E R) (l : St) : Both (st ++ l) E R where
  eng := (h.eng.app l).1
  ref := (h.ref.app l).1
  apart := h.apart

/-- Objects that neither engine has turn. -/
theorem Both.same {st s : St} {E : EG} {R : RG} (h : Both st E R) (hs : ∀ j, E.has j ∨ R.has j → s[j]? = st[j]?) : Both s E R where
  eng := h.eng.of_same fun j hj => hs j (.inl hj)
  ref := h.ref.of_same fun j hj => hs j (.inr hj)
  apart := h.apart

def makesF : Nat → EP
  | 0 => EP.new
  | k + 1 => (makeF (makesF k) (10 + k)).2
def makesR : Nat → RP
  | 0 => RP.new
  | k + 1 => (makeR (makesR k) (10 + k)).2

set_option maxHeartbeats 4000000 in
theorem hbegin_c {st : St} (K : SV → St → Prop) (h : ∀ s E R, Both s E R → E.abs = makesF 4 → R.abs = makesR 4 → K (.tuple [.ptr E.id 0, .ptr R.id 0]) s) : ACalls Try.prog 11 [] K st := by
  refine acalls_go (M := []) Try.func11 rfl Try.results11 Try.ntmps11 ?_
  have hnew := @new_c st
  simp only [go_sem, reduceCtorEq, Nat.reduceAdd, Nat.reduceMul, Nat.reduceLeDiff, Nat.reduceLT, Int.reduceLE, Int.reduceLT, Int.reduceEq, Nat.reduceBEq, Nat.reduceEqDiff]
  refine hnew _ fun s1 hE1 hold hlen => ?_
  have hrn := @rnew_c s1
  simp only [go_sem, reduceCtorEq, Nat.reduceAdd, Nat.reduceMul, Nat.reduceLeDiff, Nat.reduceLT, Int.reduceLE, Int.reduceLT, Int.reduceEq, Nat.reduceBEq, Nat.reduceEqDiff]
  refine hrn _ fun s2 R hR2 habs hhas hold2 hlen2 => ?_
  have hB : Both s2 (EG.new st.length) R := by
    have hlt : ∀ j, (EG.new st.length).has j → j < s1.length := fun j hj => hE1.has_lt hj
    exact ⟨hE1.of_same fun j hj => hold2 j (hlt j hj), hR2, fun j hj hr => by have := hlt j hj; have := hhas j hr; omega⟩
  clear hold2 hlen2 hold hlen hhas hnew hrn
  have hid : (EG.new st.length).id = st.length := rfl
  simp only [go_sem, reduceCtorEq, Nat.reduceAdd, Nat.reduceMul, Nat.reduceLeDiff, Nat.reduceLT, Int.reduceLE, Int.reduceLT, Int.reduceEq, Nat.reduceBEq, Nat.reduceEqDiff]
  refine awp_rounds [] (fun m e s => ∃ (k : Nat) (E' : EG) (R' : RG), k + m = 4 ∧ Both s E' R' ∧ E'.id = st.length ∧ R'.id = R.id ∧ E'.abs = makesF k ∧ R'.abs = makesR k ∧ e = [.any, .any, .ptr st.length 0, .ptr R.id 0, i64 k, .any, .any, .any, .any, .any, .any, .any, .any, .any, .any, .any, .any, .any, .any, .any, .any, .any, .any, .any, .any]) (n := 4) ?_ ⟨0, _, _, by omega, hB, hid, rfl, rfl, habs, rfl⟩ ?_
  · repeat (first | exact leEnv_nil | refine leEnv_any _ ?_ | refine leEnv_same _ ?_ | refine leEnv_norm _ ?_)
  rintro m e s ⟨k, E', R', hkm, hB, hi1, hi2, ha1, ha2, rfl⟩
  by_cases hlt : k < 4
  · have c1 : (k : Int) < 4 := by omega
    have hw := wrapS k (by omega)
    have hw2 : IntKind.i64.wrap (10 + (k : Int)) = 10 + (k : Int) := by rw [IntWalk.i64_in _ (by omega)]
    have hmk := make_c hB.eng (10 + k)
    rw [hi1] at hmk
    simp only [go_sem, reduceCtorEq, Nat.reduceAdd, Nat.reduceMul, Nat.reduceLeDiff, Nat.reduceLT, Int.reduceLE, Int.reduceLT, Int.reduceEq, Nat.reduceBEq, Nat.reduceEqDiff, c1, hw2]
    refine hmk _ fun s2 E2 k1 k2 k3 => ?_
    have hB2 := hB.engT k1 k2
    have hrm := rmake_c hB2.ref (10 + k)
    rw [hi2] at hrm
    simp only [go_sem, reduceCtorEq, Nat.reduceAdd, Nat.reduceMul, Nat.reduceLeDiff, Nat.reduceLT, Int.reduceLE, Int.reduceLT, Int.reduceEq, Nat.reduceBEq, Nat.reduceEqDiff, hw2]
    refine hrm _ fun s3 R3 q1 q2 q3 => ?_
    have hB3 := hB2.refT q1 q2
    simp only [go_sem, reduceCtorEq, Nat.reduceAdd, Nat.reduceMul, Nat.reduceLeDiff, Nat.reduceLT, Int.reduceLE, Int.reduceLT, Int.reduceEq, Nat.reduceBEq, Nat.reduceEqDiff, hw]
    refine ⟨m - 1, _, by omega, ?_, k + 1, E2, R3, by omega, hB3, k2.id.trans hi1, q2.id.trans hi2, by rw [k3, ha1]; rfl, by rw [q3, ha2]; rfl, rfl⟩
    repeat (first | exact leEnv_nil | refine leEnv_any _ ?_ | refine leEnv_same _ ?_ | refine leEnv_norm _ ?_)
  · obtain rfl : k = 4 := by omega
    have c1 : ((4 : Nat) : Int) < 4 ↔ False := by simp
    simp only [go_sem, reduceCtorEq, Nat.reduceAdd, Nat.reduceMul, Nat.reduceLeDiff, Nat.reduceLT, Int.reduceLE, Int.reduceLT, Int.reduceEq, Nat.reduceBEq, Nat.reduceEqDiff, c1]
    rw [← hi1, ← hi2]
    exact h s E' R' hB ha1 ha2

end Go.Proofs
