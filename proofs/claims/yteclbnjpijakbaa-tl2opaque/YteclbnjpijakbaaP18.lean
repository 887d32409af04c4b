/- The plain law of Tl2Opaque: what the harness asks of the reference is what the law asks of the engine. -/
import Derived.Test.YteclbnjpijakbaaP15
import Derived.Test.YteclbnjpijakbaaM6
import Derived.Test.YteclbnjpijakbaaW24
set_option linter.unusedSimpArgs false
set_option linter.unusedVariables false
namespace Go.Proofs
open Go Go.AL

theorem hasN_top {l : List PW} {n : Int} : hasN l n = (topR n l none).isSome := by
  have hp := topR_spec (n := n) l none (fun q hq => by cases hq)
  cases ht : topR n l none with
  | none =>
    rw [ht] at hp
    unfold hasN
    rw [Option.isSome_none, List.any_eq_false]
    intro p hm
    simpa using hp.2 p hm
  | some p =>
    rw [ht] at hp
    have hm : p ∈ l := hp.2.1.resolve_left (by intro e; cases e)
    unfold hasN
    rw [Option.isSome_some, List.any_eq_true]
    exact ⟨p, hm, by simpa using hp.1⟩

theorem own_same {E : EP} {R : RP} (h : Sim E R) {t n : Int} {x : TP} (hx : E.opn t = some x) : wroteR R t n = (topGet x.maps n).isSome := by
  obtain ⟨_, hs, _⟩ := sim_open h hx
  have c := (pof_get (popn_get hx).1).1
  unfold wroteR
  rw [if_pos c, sim_top hs, Option.isSome_map, hasN_top]

theorem puts_same {E : EP} {R : RP} (h : Sim E R) {b : Nat} (hF : FineP b E) (hG : FineD b R) {t : Int} {x : TP} (hx : E.of t = some x) :
    (sortR 1 (R.get t).puts).map (·.n) = keysUpto x.base E.vars.length ∧ ∀ p ∈ sortR 1 (R.get t).puts, (x.base p.n).getD 0 = p.v := by
  have hg := pof_get hx
  have hs : SimX x (R.get t) := by
    have := h.at hg.1
    rw [hx] at this
    exact this
  have hT := hF.tx _ x hg.2
  have hX := hG.get t
  have hbase : x.base = getW (R.get t).puts 1 := by
    funext k
    exact hs.maps 0 (by have := hT.one; omega) k
  refine ⟨by rw [sort_names hX.puts 1, hbase, h.vars], fun p hp => ?_⟩
  have hm := sortG_mem hp
  rw [hbase, ← hm.2, getW_mem hs.uniq hm.1]; rfl

/-- The writes that the harness looks up. -/
def putsR (R : RP) (t : Int) : List PW := if 0 ≤ t ∧ t < 8 then sortR 1 (R.get t).puts else []
theorem putsR_same {E : EP} {R : RP} (h : Sim E R) {b : Nat} (hF : FineP b E) (hG : FineD b R) {t : Int} {x : TP} (hx : E.of t = some x) :
    (putsR R t).map (·.n) = keysUpto x.base E.vars.length ∧ ∀ p ∈ putsR R t, (x.base p.n).getD 0 = p.v := by
  unfold putsR
  rw [if_pos (pof_get hx).1]
  exact puts_same h hF hG hx
theorem putsR_in {R : RP} {b : Nat} (hG : FineD b R) (t : Int) : (∀ p ∈ putsR R t, 0 ≤ p.n ∧ p.n < (R.vars.length : Int)) ∧ (putsR R t).length ≤ b := by
  unfold putsR
  split
  · have hX := hG.get t
    refine ⟨fun p hp => hX.puts p (sortG_mem hp).1, ?_⟩
    exact Nat.le_trans (sortR_len _ _) hX.plen
  · exact ⟨fun p hp => (by cases hp), Nat.zero_le _⟩

theorem opqF_err {a : Int × Int} {d : Dd} {own : Bool} {puts : List PW} {S : List (List Int)} {seen : List SN} (h : a.2 ≠ 0) : opqF a d own puts S seen = (S, seen) := by unfold opqF; rw [if_pos h]

theorem opq_init : OpqI (makesF 4) [[10, 11, 12, 13]] := by
  have hno : ∀ (t : Nat) (x : TP), (makesF 4).txs[t]? = some (some x) → False := by
    intro t x hx
    have : (makesF 4).txs = List.replicate 8 none := rfl
    rw [this, List.getElem?_replicate] at hx
    split at hx <;> cases hx
  refine ⟨rfl, fun r hr => by simp only [List.mem_singleton] at hr; subst hr; rfl, fun t x hx => (hno t x hx).elim, fun t x hx => (hno t x hx).elim, fun t x hx => (hno t x hx).elim, fun t x hx => (hno t x hx).elim, fun n hn => .inr fun s h1 h2 => ?_, fun t x hx => (hno t x hx).elim⟩
  have hs : s = 0 := by simp at h2; omega
  subst hs
  have hn4 : n < 4 := hn
  match n, hn4 with
  | 0, _ => rfl
  | 1, _ => rfl
  | 2, _ => rfl
  | 3, _ => rfl

end Go.Proofs
