/- What the three walks share. -/
import Derived.Test.YteclbnjpijakbaaDoorM13
set_option linter.unusedSimpArgs false
set_option linter.unusedVariables false
set_option maxRecDepth 8000
namespace Go.Proofs
open Go Go.AL

def B0 : Bd := fun _ => none
theorem rg0 : RG 6 B0 :=
  ⟨⟨fun v hv => ⟨1, en_free hv rfl⟩, fun v b h => by cases h⟩, fun v b h => (by cases h), fun v b h => by cases h⟩
theorem begun_ps {st s : St} (h : Begun st s 6) : ES s (st.length + 1) st.length B0 ∧ RS s (st.length + 2) B0 := by
  obtain ⟨va, vb, hr⟩ := h.ref
  have e1 : gmGet ([] : List (Int × Ty)) = B0 := rfl
  have e2 : gR (List.replicate 6 none) = B0 := by
    funext v
    unfold gR
    split
    · rw [List.getD_eq_getElem?_getD, List.getElem?_replicate]
      split <;> rfl
    · rfl
  refine ⟨⟨[], ⟨h.own, h.bound⟩, ⟨?_, ?_, ?_⟩, e1⟩, ⟨_, _, va, vb, _, hr, by simp, e2, rg0⟩⟩
  · rw [e1]; exact rg0.bg
  · rw [e1]; exact rg0.sm
  · rw [e1]; exact rg0.nm
theorem ES.set {st : St} {eid mid : Nat} {B : Bd} (h : ES st eid mid B) {j : Nat} {o : List SV} (hj : st[j]? = some (.cells o) ∨ st.length ≤ j) (hn : j ≠ eid) (x : Ob) : ES (st.set j x) eid mid B := by
  obtain ⟨M, k1, k2, k3⟩ := h.ex
  have hm : j ≠ mid := by
    rintro rfl
    rcases hj with q | q
    · have := q.symm.trans k1.hm; cases this
    · have := lt_of_get k1.hm; omega
  exact ⟨M, ⟨by rw [List.getElem?_set_ne hn]; exact k1.hid, by rw [List.getElem?_set_ne hm]; exact k1.hm⟩, k2, k3⟩
theorem apE_c {st : St} {eid mid : Nat} {B : Bd} (h : ES st eid mid B) (t : Ty) (K : SV → St → Prop) (hk : K (tySV (ApT 6 B t)) st) : ACalls Tryd.prog 11 [.ptr eid 0, tySV t] K st := by
  obtain ⟨M, h1, h2, rfl⟩ := h.ex
  exact Apply_c h2.bg.ends h2.bg.gp.gb t K st h1 hk
theorem six_good : goodB (ownP 6) sixT = true := by
  have h : ∀ v : Int, 1 ≤ v → v ≤ 6 → goodB (ownP 6) (mkv v) = true := fun v h1 h2 => by
    have h0 : v ≠ 0 := by omega
    rw [goodB_eq]
    show (if v = 0 then _ else (ByteArray.toList ⟨#[]⟩ == ByteArray.toList ⟨#[]⟩) && (([] : List Ty).length == 0) && ownP 6 v) = true
    rw [if_neg h0]
    unfold ownP
    simp [h1, h2]
  rw [goodB_eq]
  show (if (0 : Int) = 0 then !(ByteArray.toList ⟨#[115, 105, 120]⟩ == ByteArray.toList ⟨#[]⟩) && goodL (ownP 6) [mkv 1, mkv 2, mkv 3, mkv 4, mkv 5, mkv 6] else _) = true
  rw [if_pos rfl]
  have : (ByteArray.toList ⟨#[115, 105, 120]⟩ == ByteArray.toList ⟨#[]⟩) = false := by decide +kernel
  rw [this]
  simp [goodL, h]
theorem six_nm : nmB sixT = true := by rfl
/-- Six as it is shown. -/
noncomputable def sixS (B : Bd) : ByteArray := showA (ApT 6 B sixT)
theorem nm_p {a b : Ty} (ha : nmB a = true) (hb : nmB b = true) : nmB (pT a b) = true := by
  rw [nmB_eq]
  show (decide ((⟨#[112]⟩ : ByteArray).size ≤ 8) && nmL [a, b]) = true
  simp [nmL, ha, hb]
  decide

end Go.Proofs
