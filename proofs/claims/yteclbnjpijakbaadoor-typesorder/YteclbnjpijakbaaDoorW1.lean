/- maps.Clone of this program, told over abstract values. -/
import Derived.Ground.SlmcProg
import Derived.WalkKit
import Derived.Shelf.SlGeneric
import Derived.Shelf.SlMaps.Clone
import Derived.Test.YteclbnjpijakbaaDoorRows
import Derived.Test.YteclbnjpijakbaaDoorA8
import Derived.Test.YteclbnjpijakbaaDoorFacts
set_option linter.unusedVariables false
namespace Go.Proofs
open Go Go.AL Go.Shelf
def Tryd.cloneM_ren : Go.Shelf.Ren := ⟨fun | 5 => 32 | 7 => 48 | n => n, fun | 23 => 58 | 25 => 3 | 3 => 25 | 4 => 4 | 20 => 20 | n => n, fun | n => n⟩
theorem Tryd.cloneM : Go.Proofs.SlLaysW.n5 Tryd.prog Tryd.cloneM_ren := {
  mixed := by kernel_rfl
  f5 := ⟨Tryd.f32.name, by decide, Tryd.func32.trans (congrArg some (by kernel_rfl))⟩
  f7 := Tryd.func48.trans (congrArg some (by kernel_rfl))
  t4 := Tryd.underlying4
  a4 := Tryd.isAgg4
  z4 := Tryd.sizeOf4
  v4 := Tryd.zeroValue4
  t20 := Tryd.underlying20
  a20 := Tryd.isAgg20
  z20 := Tryd.sizeOf20
  v20 := Tryd.zeroValue20
  t23 := Tryd.underlying58
  a23 := Tryd.isAgg58
  z23 := Tryd.sizeOf58
  v23 := Tryd.zeroValue58 }

/-- A map is copied: the copy has the same entries. -/
theorem clone_c {id : Nat} {es : List (Value × SV)} {K : SV → St → Prop} {st : St} (hes : mapAt st id = some es) (hk : K (.mp st.length) (st ++ [.map es])) : ACalls Tryd.prog 32 [.mp id] K st := by
  intro σ w vs hI hR
  have hid := mapAt_of hes
  obtain ⟨hs, hr⟩ := hR
  have h0 := hr 0 (by simp)
  obtain ⟨b, ents, clock, q1, q2, q3, q4⟩ := hI.maps id es hid
  have hv : vs = #[.map (some b)] := by
    apply Array.ext (by simpa using hs)
    intro i h1 h2
    obtain rfl : i = 0 := by simp at h2; exact h2
    have h3 : Rep st σ w (.mp id) (vs.getD 0 undef) := h0
    generalize he : vs.getD 0 undef = v at h3
    cases h3 with
    | mp _ b' _ hb' =>
      rw [q1] at hb'; cases hb'
      have : vs[0] = vs.getD 0 undef := by simp [Array.getD, h1]
      simp [this, he]
  subst hv
  have hcon := AnyW.maps_Clone Tryd.cloneM b ents clock w q2
  change Calls Tryd.prog 32 _ _ _ at hcon
  refine hcon.mono ?_
  rintro e w' ⟨rfl, rfl⟩
  obtain ⟨σ', h1, h2, h3⟩ := new_map hI es ents clock q3
  exact ⟨_, _, _, σ', rfl, hk, h1, h3, h2⟩

def mapClone (st : St) : List SV → ER
  | [.mp id] => match mapAt st id with | some es => some (.mp st.length, st ++ [.map es], st.length) | none => none
  | _ => none

def mOf : FuncId → List Nat := fun f => match f with | 20 => [3] | 33 => [4, 5] | 31 => [3, 2000029] | 46 => [4] | 47 => [3] | 49 => [6] | _ => []

noncomputable def cfgT : Cfg := { M := mOf, keep := fun f => Nat.beq f 26, plug := fun f => if Nat.beq f 32 then some (fun _ args st => mapClone st args) else none }

theorem cfgT_ok : cfgT.ok Tryd.prog := by
  refine ⟨fun f m h => (by cases h), fun f g hg call hcall args st x s c h => ?_⟩
  have hg' : (if Nat.beq f 32 then some (fun (_ : Callf) args st => mapClone st args) else none) = some g := hg
  split at hg'
  · rename_i hf
    have hf := Nat.eq_of_beq_eq_true hf
    subst hf
    cases hg'
    simp only [mapClone] at h
    split at h
    · split at h
      · rename_i es hes
        cases h
        exact ⟨clone_c hes ⟨rfl, rfl⟩, Keeps.more _ _ _⟩
      · cases h
    · cases h
  · cases hg'

set_option maxRecDepth 100000 in
theorem lives_t : checkT Tryd.prog cfgT 1000 14 [] (.sc (.bool true)) = true := by decide +kernel

/-- The document's examples. -/
theorem lives_c {K : SV → St → Prop} {st : St} (hk : K (.sc (.bool true)) st) : ACalls Tryd.prog 14 [] K st := acalls_checkT cfgT_ok Tryd.mixed 1000 lives_t hk

end Go.Proofs
