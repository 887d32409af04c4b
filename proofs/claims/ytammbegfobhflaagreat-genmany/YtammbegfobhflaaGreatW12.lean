/- slices.IndexFunc, slices.ContainsFunc (printed by gen_w12.py). -/
import Derived.Test.YtammbegfobhflaaGreatW11
set_option linter.all false
set_option linter.unusedSimpArgs false
set_option linter.unusedVariables false
set_option maxRecDepth 8000
namespace Go.AL
def idxA {α : Type} (q : α → Bool) (l : List α) : Int := match l.findIdx? q with | some k => (k : Int) | none => -1
theorem idxA_any {α : Type} (q : α → Bool) (l : List α) : decide ((0 : Int) ≤ idxA q l) = l.any q := by
  unfold idxA
  cases h : l.findIdx? q with
  | none =>
    rw [List.findIdx?_eq_none_iff] at h
    have : l.any q = false := by rw [List.any_eq_false]; intro x hx; rw [h x hx]; decide
    rw [this]; rfl
  | some i =>
    rw [List.findIdx?_eq_some_iff_getElem] at h
    obtain ⟨hi, hp, _⟩ := h
    have : l.any q = true := by rw [List.any_eq_true]; exact ⟨l[i], List.getElem_mem hi, hp⟩
    rw [this]
    simp
end Go.AL
namespace Go.Proofs
open Go Go.AL
set_option maxHeartbeats 4000000 in
theorem indexF25_c {α : Type} (enc : α → SV) (q : α → Bool) (m : AL.Mode) (l : List α) (z : Nat) (hz : l ≠ [] → z = 3) (g : FuncId) (caps : List SV) (hg : aBody Tryz.prog g = true) (hl : ∀ x : α, cellsOf Tryz.prog 56 (enc x).cells = some (enc x)) (hlen : l.length ≤ 1000000) (st : St)
    (hp : ∀ x ∈ l, ∀ K : SV → St → Prop, K (.sc (.bool (q x))) st → ACalls Tryz.prog g ([enc x] ++ caps) K st) (K : SV → St → Prop) (h : K (i64 (idxA q l)) st) :
    ACalls Tryz.prog 26 [.slice m z (l.map enc), .func (.func g) [] caps] K st := by
  refine acalls_go_pure [] Tryz.func26 rfl Tryz.results26 Tryz.ntmps26 ?_
  simp only [go_sem, List.length_map]
  refine awp_rounds [] (fun b e s => ∃ k, k + b = l.length ∧ (∀ j, j < k → ∀ x, l[j]? = some x → q x = false) ∧ e = [.slice m z (l.map enc), .func (.func g) [] caps, .any, .any, .any, .any, .any, i64 l.length, i64 k, .any, .any, .any, .any, .any, .any, .any, .any, .any, .any] ∧ s = st) (n := l.length) ?_ ⟨0, by omega, fun j hj => absurd hj (Nat.not_lt_zero _), rfl, rfl⟩ ?_
  · repeat (first | exact leEnv_nil | refine leEnv_any _ ?_ | refine leEnv_same _ ?_ | refine leEnv_norm _ ?_)
  rintro b e s ⟨k, hk, hno, rfl, rfl⟩
  by_cases hlt : k < l.length
  · have c1 : (k : Int) < (l.length : Int) := by omega
    have hw : IntKind.i64.wrap ((k : Int) + 1) = ((k + 1 : Nat) : Int) := by rw [IntWalk.i64_in _ (by omega)]; rfl
    have hgt : (l.map enc).getD k .any = enc l[k] := by simp [List.getD_eq_getElem?_getD, hlt]
    have hcell := hl l[k]
    obtain rfl := hz (by intro e; subst e; cases hlt)
    have hmem : l[k] ∈ l := List.getElem_mem hlt
    simp only [go_sem, c1, hw, hgt, hg, hcell, List.length_map]
    refine hp _ hmem _ ?_
    cases hL : q l[k]
    · simp only [go_sem, hw]
      refine ⟨b - 1, _, by omega, ?_, k + 1, by omega, fun j hj x hx => ?_, rfl⟩
      · repeat (first | exact leEnv_nil | refine leEnv_any _ ?_ | refine leEnv_same _ ?_ | refine leEnv_norm _ ?_)
      · by_cases e : j = k
        · subst e
          rw [List.getElem?_eq_getElem hlt] at hx
          cases hx
          exact hL
        · exact hno j (by omega) x hx
    · have e : idxA q l = (k : Int) := by unfold idxA; rw [find_step hno hlt hL]
      rw [e] at h
      simp only [go_sem]
      exact ⟨⟨[], by simp⟩, .sc _, h⟩
  · obtain rfl : k = l.length := by omega
    have c1 : ((l.length : Int) < (l.length : Int)) = False := eq_false (by omega)
    have e : idxA q l = -1 := by unfold idxA; rw [find_end hno]
    rw [e] at h
    simp only [go_sem, c1]
    exact ⟨⟨[], by simp⟩, .sc _, h⟩
theorem containsF10_c {α : Type} (enc : α → SV) (q : α → Bool) (m : AL.Mode) (l : List α) (z : Nat) (hz : l ≠ [] → z = 3) (g : FuncId) (caps : List SV) (hg : aBody Tryz.prog g = true) (hl : ∀ x : α, cellsOf Tryz.prog 56 (enc x).cells = some (enc x)) (hlen : l.length ≤ 1000000) (st : St)
    (hp : ∀ x ∈ l, ∀ K : SV → St → Prop, K (.sc (.bool (q x))) st → ACalls Tryz.prog g ([enc x] ++ caps) K st) (K : SV → St → Prop) (h : K (.sc (.bool (l.any q))) st) :
    ACalls Tryz.prog 10 [.slice m z (l.map enc), .func (.func g) [] caps] K st := by
  refine acalls_go_pure [] Tryz.func10 rfl Tryz.results10 Tryz.ntmps10 ?_
  simp only [go_sem]
  refine indexF25_c enc q m l z hz g caps hg hl hlen st hp _ ?_
  simp only [go_sem, idxA_any]
  exact ⟨⟨[], by simp⟩, .sc _, h⟩
set_option maxHeartbeats 4000000 in
theorem indexF61_c {α : Type} (enc : α → SV) (q : α → Bool) (m : AL.Mode) (l : List α) (z : Nat) (hz : l ≠ [] → z = 4) (g : FuncId) (caps : List SV) (hg : aBody Tryz.prog g = true) (hl : ∀ x : α, cellsOf Tryz.prog 59 (enc x).cells = some (enc x)) (hlen : l.length ≤ 1000000) (st : St)
    (hp : ∀ x ∈ l, ∀ K : SV → St → Prop, K (.sc (.bool (q x))) st → ACalls Tryz.prog g ([enc x] ++ caps) K st) (K : SV → St → Prop) (h : K (i64 (idxA q l)) st) :
    ACalls Tryz.prog 72 [.slice m z (l.map enc), .func (.func g) [] caps] K st := by
  refine acalls_go_pure [] Tryz.func72 rfl Tryz.results72 Tryz.ntmps72 ?_
  simp only [go_sem, List.length_map]
  refine awp_rounds [] (fun b e s => ∃ k, k + b = l.length ∧ (∀ j, j < k → ∀ x, l[j]? = some x → q x = false) ∧ e = [.slice m z (l.map enc), .func (.func g) [] caps, .any, .any, .any, .any, .any, i64 l.length, i64 k, .any, .any, .any, .any, .any, .any, .any, .any, .any, .any] ∧ s = st) (n := l.length) ?_ ⟨0, by omega, fun j hj => absurd hj (Nat.not_lt_zero _), rfl, rfl⟩ ?_
  · repeat (first | exact leEnv_nil | refine leEnv_any _ ?_ | refine leEnv_same _ ?_ | refine leEnv_norm _ ?_)
  rintro b e s ⟨k, hk, hno, rfl, rfl⟩
  by_cases hlt : k < l.length
  · have c1 : (k : Int) < (l.length : Int) := by omega
    have hw : IntKind.i64.wrap ((k : Int) + 1) = ((k + 1 : Nat) : Int) := by rw [IntWalk.i64_in _ (by omega)]; rfl
    have hgt : (l.map enc).getD k .any = enc l[k] := by simp [List.getD_eq_getElem?_getD, hlt]
    have hcell := hl l[k]
    obtain rfl := hz (by intro e; subst e; cases hlt)
    have hmem : l[k] ∈ l := List.getElem_mem hlt
    simp only [go_sem, c1, hw, hgt, hg, hcell, List.length_map]
    refine hp _ hmem _ ?_
    cases hL : q l[k]
    · simp only [go_sem, hw]
      refine ⟨b - 1, _, by omega, ?_, k + 1, by omega, fun j hj x hx => ?_, rfl⟩
      · repeat (first | exact leEnv_nil | refine leEnv_any _ ?_ | refine leEnv_same _ ?_ | refine leEnv_norm _ ?_)
      · by_cases e : j = k
        · subst e
          rw [List.getElem?_eq_getElem hlt] at hx
          cases hx
          exact hL
        · exact hno j (by omega) x hx
    · have e : idxA q l = (k : Int) := by unfold idxA; rw [find_step hno hlt hL]
      rw [e] at h
      simp only [go_sem]
      exact ⟨⟨[], by simp⟩, .sc _, h⟩
  · obtain rfl : k = l.length := by omega
    have c1 : ((l.length : Int) < (l.length : Int)) = False := eq_false (by omega)
    have e : idxA q l = -1 := by unfold idxA; rw [find_end hno]
    rw [e] at h
    simp only [go_sem, c1]
    exact ⟨⟨[], by simp⟩, .sc _, h⟩
theorem containsF43_c {α : Type} (enc : α → SV) (q : α → Bool) (m : AL.Mode) (l : List α) (z : Nat) (hz : l ≠ [] → z = 4) (g : FuncId) (caps : List SV) (hg : aBody Tryz.prog g = true) (hl : ∀ x : α, cellsOf Tryz.prog 59 (enc x).cells = some (enc x)) (hlen : l.length ≤ 1000000) (st : St)
    (hp : ∀ x ∈ l, ∀ K : SV → St → Prop, K (.sc (.bool (q x))) st → ACalls Tryz.prog g ([enc x] ++ caps) K st) (K : SV → St → Prop) (h : K (.sc (.bool (l.any q))) st) :
    ACalls Tryz.prog 54 [.slice m z (l.map enc), .func (.func g) [] caps] K st := by
  refine acalls_go_pure [] Tryz.func54 rfl Tryz.results54 Tryz.ntmps54 ?_
  simp only [go_sem]
  refine indexF61_c enc q m l z hz g caps hg hl hlen st hp _ ?_
  simp only [go_sem, idxA_any]
  exact ⟨⟨[], by simp⟩, .sc _, h⟩
set_option maxHeartbeats 4000000 in
theorem indexF63_c {α : Type} (enc : α → SV) (q : α → Bool) (m : AL.Mode) (l : List α) (z : Nat) (hz : l ≠ [] → z = 1) (g : FuncId) (caps : List SV) (hg : aBody Tryz.prog g = true) (hl : ∀ x : α, cellsOf Tryz.prog 3 (enc x).cells = some (enc x)) (hlen : l.length ≤ 1000000) (st : St)
    (hp : ∀ x ∈ l, ∀ K : SV → St → Prop, K (.sc (.bool (q x))) st → ACalls Tryz.prog g ([enc x] ++ caps) K st) (K : SV → St → Prop) (h : K (i64 (idxA q l)) st) :
    ACalls Tryz.prog 74 [.slice m z (l.map enc), .func (.func g) [] caps] K st := by
  refine acalls_go_pure [] Tryz.func74 rfl Tryz.results74 Tryz.ntmps74 ?_
  simp only [go_sem, List.length_map]
  refine awp_rounds [] (fun b e s => ∃ k, k + b = l.length ∧ (∀ j, j < k → ∀ x, l[j]? = some x → q x = false) ∧ e = [.slice m z (l.map enc), .func (.func g) [] caps, .any, .any, .any, .any, .any, i64 l.length, i64 k, .any, .any, .any, .any, .any, .any, .any, .any, .any, .any] ∧ s = st) (n := l.length) ?_ ⟨0, by omega, fun j hj => absurd hj (Nat.not_lt_zero _), rfl, rfl⟩ ?_
  · repeat (first | exact leEnv_nil | refine leEnv_any _ ?_ | refine leEnv_same _ ?_ | refine leEnv_norm _ ?_)
  rintro b e s ⟨k, hk, hno, rfl, rfl⟩
  by_cases hlt : k < l.length
  · have c1 : (k : Int) < (l.length : Int) := by omega
    have hw : IntKind.i64.wrap ((k : Int) + 1) = ((k + 1 : Nat) : Int) := by rw [IntWalk.i64_in _ (by omega)]; rfl
    have hgt : (l.map enc).getD k .any = enc l[k] := by simp [List.getD_eq_getElem?_getD, hlt]
    have hcell := hl l[k]
    obtain rfl := hz (by intro e; subst e; cases hlt)
    have hmem : l[k] ∈ l := List.getElem_mem hlt
    simp only [go_sem, c1, hw, hgt, hg, hcell, List.length_map]
    refine hp _ hmem _ ?_
    cases hL : q l[k]
    · simp only [go_sem, hw]
      refine ⟨b - 1, _, by omega, ?_, k + 1, by omega, fun j hj x hx => ?_, rfl⟩
      · repeat (first | exact leEnv_nil | refine leEnv_any _ ?_ | refine leEnv_same _ ?_ | refine leEnv_norm _ ?_)
      · by_cases e : j = k
        · subst e
          rw [List.getElem?_eq_getElem hlt] at hx
          cases hx
          exact hL
        · exact hno j (by omega) x hx
    · have e : idxA q l = (k : Int) := by unfold idxA; rw [find_step hno hlt hL]
      rw [e] at h
      simp only [go_sem]
      exact ⟨⟨[], by simp⟩, .sc _, h⟩
  · obtain rfl : k = l.length := by omega
    have c1 : ((l.length : Int) < (l.length : Int)) = False := eq_false (by omega)
    have e : idxA q l = -1 := by unfold idxA; rw [find_end hno]
    rw [e] at h
    simp only [go_sem, c1]
    exact ⟨⟨[], by simp⟩, .sc _, h⟩
theorem containsF45_c {α : Type} (enc : α → SV) (q : α → Bool) (m : AL.Mode) (l : List α) (z : Nat) (hz : l ≠ [] → z = 1) (g : FuncId) (caps : List SV) (hg : aBody Tryz.prog g = true) (hl : ∀ x : α, cellsOf Tryz.prog 3 (enc x).cells = some (enc x)) (hlen : l.length ≤ 1000000) (st : St)
    (hp : ∀ x ∈ l, ∀ K : SV → St → Prop, K (.sc (.bool (q x))) st → ACalls Tryz.prog g ([enc x] ++ caps) K st) (K : SV → St → Prop) (h : K (.sc (.bool (l.any q))) st) :
    ACalls Tryz.prog 56 [.slice m z (l.map enc), .func (.func g) [] caps] K st := by
  refine acalls_go_pure [] Tryz.func56 rfl Tryz.results56 Tryz.ntmps56 ?_
  simp only [go_sem]
  refine indexF63_c enc q m l z hz g caps hg hl hlen st hp _ ?_
  simp only [go_sem, idxA_any]
  exact ⟨⟨[], by simp⟩, .sc _, h⟩
set_option maxHeartbeats 4000000 in
theorem indexF64_c {α : Type} (enc : α → SV) (q : α → Bool) (m : AL.Mode) (l : List α) (z : Nat) (hz : l ≠ [] → z = 1) (g : FuncId) (caps : List SV) (hg : aBody Tryz.prog g = true) (hl : ∀ x : α, cellsOf Tryz.prog 9 (enc x).cells = some (enc x)) (hlen : l.length ≤ 1000000) (st : St)
    (hp : ∀ x ∈ l, ∀ K : SV → St → Prop, K (.sc (.bool (q x))) st → ACalls Tryz.prog g ([enc x] ++ caps) K st) (K : SV → St → Prop) (h : K (i64 (idxA q l)) st) :
    ACalls Tryz.prog 75 [.slice m z (l.map enc), .func (.func g) [] caps] K st := by
  refine acalls_go_pure [] Tryz.func75 rfl Tryz.results75 Tryz.ntmps75 ?_
  simp only [go_sem, List.length_map]
  refine awp_rounds [] (fun b e s => ∃ k, k + b = l.length ∧ (∀ j, j < k → ∀ x, l[j]? = some x → q x = false) ∧ e = [.slice m z (l.map enc), .func (.func g) [] caps, .any, .any, .any, .any, .any, i64 l.length, i64 k, .any, .any, .any, .any, .any, .any, .any, .any, .any, .any] ∧ s = st) (n := l.length) ?_ ⟨0, by omega, fun j hj => absurd hj (Nat.not_lt_zero _), rfl, rfl⟩ ?_
  · repeat (first | exact leEnv_nil | refine leEnv_any _ ?_ | refine leEnv_same _ ?_ | refine leEnv_norm _ ?_)
  rintro b e s ⟨k, hk, hno, rfl, rfl⟩
  by_cases hlt : k < l.length
  · have c1 : (k : Int) < (l.length : Int) := by omega
    have hw : IntKind.i64.wrap ((k : Int) + 1) = ((k + 1 : Nat) : Int) := by rw [IntWalk.i64_in _ (by omega)]; rfl
    have hgt : (l.map enc).getD k .any = enc l[k] := by simp [List.getD_eq_getElem?_getD, hlt]
    have hcell := hl l[k]
    obtain rfl := hz (by intro e; subst e; cases hlt)
    have hmem : l[k] ∈ l := List.getElem_mem hlt
    simp only [go_sem, c1, hw, hgt, hg, hcell, List.length_map]
    refine hp _ hmem _ ?_
    cases hL : q l[k]
    · simp only [go_sem, hw]
      refine ⟨b - 1, _, by omega, ?_, k + 1, by omega, fun j hj x hx => ?_, rfl⟩
      · repeat (first | exact leEnv_nil | refine leEnv_any _ ?_ | refine leEnv_same _ ?_ | refine leEnv_norm _ ?_)
      · by_cases e : j = k
        · subst e
          rw [List.getElem?_eq_getElem hlt] at hx
          cases hx
          exact hL
        · exact hno j (by omega) x hx
    · have e : idxA q l = (k : Int) := by unfold idxA; rw [find_step hno hlt hL]
      rw [e] at h
      simp only [go_sem]
      exact ⟨⟨[], by simp⟩, .sc _, h⟩
  · obtain rfl : k = l.length := by omega
    have c1 : ((l.length : Int) < (l.length : Int)) = False := eq_false (by omega)
    have e : idxA q l = -1 := by unfold idxA; rw [find_end hno]
    rw [e] at h
    simp only [go_sem, c1]
    exact ⟨⟨[], by simp⟩, .sc _, h⟩
theorem containsF47_c {α : Type} (enc : α → SV) (q : α → Bool) (m : AL.Mode) (l : List α) (z : Nat) (hz : l ≠ [] → z = 1) (g : FuncId) (caps : List SV) (hg : aBody Tryz.prog g = true) (hl : ∀ x : α, cellsOf Tryz.prog 9 (enc x).cells = some (enc x)) (hlen : l.length ≤ 1000000) (st : St)
    (hp : ∀ x ∈ l, ∀ K : SV → St → Prop, K (.sc (.bool (q x))) st → ACalls Tryz.prog g ([enc x] ++ caps) K st) (K : SV → St → Prop) (h : K (.sc (.bool (l.any q))) st) :
    ACalls Tryz.prog 58 [.slice m z (l.map enc), .func (.func g) [] caps] K st := by
  refine acalls_go_pure [] Tryz.func58 rfl Tryz.results58 Tryz.ntmps58 ?_
  simp only [go_sem]
  refine indexF64_c enc q m l z hz g caps hg hl hlen st hp _ ?_
  simp only [go_sem, idxA_any]
  exact ⟨⟨[], by simp⟩, .sc _, h⟩
set_option maxHeartbeats 4000000 in
theorem indexF90_c {α : Type} (enc : α → SV) (q : α → Bool) (m : AL.Mode) (l : List α) (z : Nat) (hz : l ≠ [] → z = 2) (g : FuncId) (caps : List SV) (hg : aBody Tryz.prog g = true) (hl : ∀ x : α, cellsOf Tryz.prog 145 (enc x).cells = some (enc x)) (hlen : l.length ≤ 1000000) (st : St)
    (hp : ∀ x ∈ l, ∀ K : SV → St → Prop, K (.sc (.bool (q x))) st → ACalls Tryz.prog g ([enc x] ++ caps) K st) (K : SV → St → Prop) (h : K (i64 (idxA q l)) st) :
    ACalls Tryz.prog 105 [.slice m z (l.map enc), .func (.func g) [] caps] K st := by
  refine acalls_go_pure [] Tryz.func105 rfl Tryz.results105 Tryz.ntmps105 ?_
  simp only [go_sem, List.length_map]
  refine awp_rounds [] (fun b e s => ∃ k, k + b = l.length ∧ (∀ j, j < k → ∀ x, l[j]? = some x → q x = false) ∧ e = [.slice m z (l.map enc), .func (.func g) [] caps, .any, .any, .any, .any, .any, i64 l.length, i64 k, .any, .any, .any, .any, .any, .any, .any, .any, .any, .any] ∧ s = st) (n := l.length) ?_ ⟨0, by omega, fun j hj => absurd hj (Nat.not_lt_zero _), rfl, rfl⟩ ?_
  · repeat (first | exact leEnv_nil | refine leEnv_any _ ?_ | refine leEnv_same _ ?_ | refine leEnv_norm _ ?_)
  rintro b e s ⟨k, hk, hno, rfl, rfl⟩
  by_cases hlt : k < l.length
  · have c1 : (k : Int) < (l.length : Int) := by omega
    have hw : IntKind.i64.wrap ((k : Int) + 1) = ((k + 1 : Nat) : Int) := by rw [IntWalk.i64_in _ (by omega)]; rfl
    have hgt : (l.map enc).getD k .any = enc l[k] := by simp [List.getD_eq_getElem?_getD, hlt]
    have hcell := hl l[k]
    obtain rfl := hz (by intro e; subst e; cases hlt)
    have hmem : l[k] ∈ l := List.getElem_mem hlt
    simp only [go_sem, c1, hw, hgt, hg, hcell, List.length_map]
    refine hp _ hmem _ ?_
    cases hL : q l[k]
    · simp only [go_sem, hw]
      refine ⟨b - 1, _, by omega, ?_, k + 1, by omega, fun j hj x hx => ?_, rfl⟩
      · repeat (first | exact leEnv_nil | refine leEnv_any _ ?_ | refine leEnv_same _ ?_ | refine leEnv_norm _ ?_)
      · by_cases e : j = k
        · subst e
          rw [List.getElem?_eq_getElem hlt] at hx
          cases hx
          exact hL
        · exact hno j (by omega) x hx
    · have e : idxA q l = (k : Int) := by unfold idxA; rw [find_step hno hlt hL]
      rw [e] at h
      simp only [go_sem]
      exact ⟨⟨[], by simp⟩, .sc _, h⟩
  · obtain rfl : k = l.length := by omega
    have c1 : ((l.length : Int) < (l.length : Int)) = False := eq_false (by omega)
    have e : idxA q l = -1 := by unfold idxA; rw [find_end hno]
    rw [e] at h
    simp only [go_sem, c1]
    exact ⟨⟨[], by simp⟩, .sc _, h⟩
theorem containsF69_c {α : Type} (enc : α → SV) (q : α → Bool) (m : AL.Mode) (l : List α) (z : Nat) (hz : l ≠ [] → z = 2) (g : FuncId) (caps : List SV) (hg : aBody Tryz.prog g = true) (hl : ∀ x : α, cellsOf Tryz.prog 145 (enc x).cells = some (enc x)) (hlen : l.length ≤ 1000000) (st : St)
    (hp : ∀ x ∈ l, ∀ K : SV → St → Prop, K (.sc (.bool (q x))) st → ACalls Tryz.prog g ([enc x] ++ caps) K st) (K : SV → St → Prop) (h : K (.sc (.bool (l.any q))) st) :
    ACalls Tryz.prog 80 [.slice m z (l.map enc), .func (.func g) [] caps] K st := by
  refine acalls_go_pure [] Tryz.func80 rfl Tryz.results80 Tryz.ntmps80 ?_
  simp only [go_sem]
  refine indexF90_c enc q m l z hz g caps hg hl hlen st hp _ ?_
  simp only [go_sem, idxA_any]
  exact ⟨⟨[], by simp⟩, .sc _, h⟩
end Go.Proofs
