/- of. -/
import Derived.Test.YtjkhpblfgcnpaaaW6
set_option linter.unusedSimpArgs false
set_option maxRecDepth 4000
namespace Go.Proofs
open Go Go.AL

def ofL (cons : List Cn) (s : ByteArray) : List Cn := cons.filter fun c => c.of_.toList == s.toList

def qOf (s : ByteArray) (c : Cn) : Bool := !(c.of_.toList == s.toList)
def pOf (s : ByteArray) : SV → Bool
  | .agg (_ :: .sc (.string o) :: _) => !(o.toList == s.toList)
  | _ => false

theorem chunks_flatC (l : List Cn) (t : List SV) : chunks true 5 0 l.length (flatC l ++ t) = l.map conSV := by
  unfold chunks
  refine List.ext_getElem (by simp) fun i h1 h2 => ?_
  have hi : i < l.length := by simpa using h2
  have := flatC_at l t hi
  simp only [List.getElem_map, List.getElem_range, chunk, if_true, Nat.zero_add, this]
  rw [List.getD_eq_getElem?_getD, List.getElem?_eq_getElem hi]
  rfl

theorem ids_flatC (n : Nat) (l : List Cn) : ∀ y ∈ flatC l, Ids n y := by
  intro y hy
  obtain ⟨x, hx, hy⟩ := List.mem_flatMap.1 hy
  obtain ⟨c, _, rfl⟩ := List.mem_map.1 hx
  have := (ids_con n c).mpr trivial
  unfold conSV at this
  rw [ids_agg] at this
  exact this y hy

theorem of_c (cons : List Cn) (hne : cons ≠ []) (hb : cons.length ≤ 100000) (s : ByteArray) (K : SV → St → Prop) (st : St) (h : K (consSV (ofL cons s)) st) :
    ACalls Try.prog 19 [consSV cons, .sc (.string s)] K st := by
  refine acalls_freeze true ?_
  refine acalls_go (M := []) Try.func19 rfl Try.results19 Try.ntmps19 ?_
  simp only [go_sem, imp_self, implies_true, reduceCtorEq, false_imp_iff, true_imp_iff, decide_true, decide_false, Int.toNat_natCast, Int.toNat_zero, Int.toNat_one, Int.natCast_nonneg, Int.le_refl, Nat.le_refl, Nat.reduceAdd, Nat.reduceMul, Nat.reduceLeDiff, Nat.reduceLT, Int.reduceLE, Int.reduceLT, Nat.reduceBEq, Nat.reduceEqDiff, Bool.not_true, Bool.not_false, Bool.and_false, Bool.false_and, Bool.or_true, Bool.true_or, Bool.or_false, Bool.false_or, call_func, c_draw, c_loop]
  refine clone_c cons hne hb _ _ fun cap ex hcap => ?_
  refine delete_c cons cap (qOf s) (pOf s) (fun c => rfl) 39 _ Try.abody39 hb hcap _ _ (fun x hx s' K h => of1_c x s K s' h) _ fun cap' t' ex' hc => ?_
  have e : (cons.filter fun c => !qOf s c) = ofL cons s := by unfold ofL qOf; simp
  rw [e] at hc ⊢
  refine ⟨_, _, _, _, _, _, flatC (ofL cons s) ++ t', rfl, rfl, Nat.le_refl _, by simp, ?_, ?_, ?_⟩
  · rw [List.length_append, flatC_len]; omega
  · intro y hy
    rw [List.drop_zero, ← flatC_len, List.take_left] at hy
    exact ids_flatC _ _ y hy
  · rw [chunks_flatC]; exact h

end Go.Proofs
