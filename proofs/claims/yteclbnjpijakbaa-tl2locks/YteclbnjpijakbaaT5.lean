/- What is proved: Tl2Locks: behind its end no thread has a lock: for every input that the given row speaks of; no further condition. -/
import Derived.Test.YteclbnjpijakbaaH7
import Derived.Test.YteclbnjpijakbaaRows
set_option linter.unusedVariables false
namespace Go.Proofs.Yteclbnjpijakbaa.tl2Locks
open Go.ChangeShapes Go.WideShapes Go.ChangeAt Go.RowKit Go.AL Go.RowKit

theorem own : ownKnob Try.prog.godebug = none := by kernel_rfl

set_option maxRecDepth 100000 in
theorem lifted (os : Os) (started : os.Started) (H : Type) (enc : TypeId × Value → H) :
    ReturnsInHanded {} Try.checked os 9 .any (Rows.tl2LocksSpec.pre6 enc Try.prog Try.f9 Rows.tl2LocksRow.domain false) (Rows.tl2LocksSpec.post enc Try.prog Try.f9 false true false false) := by
  refine returnsInHanded_of_change (C := Try.checked) own started (by kernel_rfl) Try.func9
    (ChangeSpec.witness6 (enc := enc) (C := Try.checked) false ⟨#[], #[.slice none 0 0, .int .i64 0], []⟩ 8 (by kernel_rfl) (by kernel_rfl) (by kernel_rfl) (by kernel_rfl)) ?_
  intro W base args ds gs before hval0 hW hcnd _
  have hval : ∀ (j : Nat) t v, Try.f9.params[j]? = some t → args[j]? = some v → Value.okWide Try.prog W .any base t v := hval0
  have hW' := hW
  obtain ⟨p, q, hA0, hV, rfl, hfz, hnd⟩ := hW
  have hA : DataW.TrodAll enc Try.prog W 0 (fun _ => true) true Try.f9.params.toList args.toList ds p := hA0
  rw [Try.params9] at hA hval
  obtain ⟨v0, vs0, d0, ds0, p0, q0, hargs, rfl, rfl, h0, r0⟩ := trodAll_cons hA
  obtain ⟨v1, vs1, d1, ds1, p1, q1, hargs1, rfl, rfl, h1, r1⟩ := trodAll_cons r0
  obtain ⟨rfl, rfl, rfl⟩ := trodAll_nil r1
  obtain rfl : args = #[v0, v1] := by cases args; simp_all
  obtain ⟨rfl, rfl⟩ := trodVars_none hV
  obtain ⟨l, hl, hdk, hrep⟩ := open_deeds (hval 0 22 v0 rfl rfl) h0
  obtain ⟨n, rfl, rfl, rfl, hwf⟩ := open_int Try.underlying3 (hval 1 3 v1 rfl rfl) h1
  clear hA0 hval0
  simp only [List.append_nil] at hW'
  refine (calls_top (args := [.slice .imm 4 (l.map ddSV), i64 n]) (locks_law_c l hl n (i64_wf hwf) _ _ fun _ => rfl) ⟨rfl, fun i hi => ?_⟩).mono fun e W' ⟨he, hg⟩ => ?_
  · match i, hi with
    | 0, _ => exact hrep
    | 1, _ => exact .sc _
  subst he
  have hlt : ∀ x ∈ p0, x.block < W.heap.size := fun x hx => by simpa using hW'.lt x hx
  exact ⟨_, rfl, post_below (pa := p0) (pv := []) hW' (fun _ _ _ => (trodAll_cons_mk (shut_bool Try.underlying4 _) trodAll_mk0))
    (fun sp hsp => by
      have := trodAll_cons_mk (WideElems.Trod_stays (sp' := sp) laidOut read22 row22 h0 (fun x hx => hg.same (hlt x hx)) (fun x hx => hsp x hx))
        (trodAll_cons_mk (shut_int Try.underlying3 hwf) trodAll_mk0)
      simp only [List.append_nil] at this
      exact this) (fun _ _ => rfl) (by simp)
    hg (ok_one (by kernel_rfl) rfl (okWide_bool_mk Try.underlying4 _))⟩

theorem over : Rows.tl2LocksRow.holds Try.pinned (OpenSpec.ofChange Rows.tl2LocksSpec) :=
  OpenClaim.holds_of_wide 9 Try.f9 rfl rfl rfl rfl rfl rfl rfl ⟨rfl, rfl, rfl, rfl, rfl⟩ rfl rfl rfl rfl rfl (by kernel_rfl) Try.func9 (by kernel_rfl)
    (of_decide_eq_true (by kernel_rfl)) (by unfold Func.isWrapper; first | (rw [if_pos (by decide +kernel)]; kernel_rfl) | (rw [if_neg (by decide +kernel)]; exact ⟨rfl, rfl⟩))
    (fun os started H enc _ => lifted os started H enc)

theorem proved : Rows.Tl2LocksSaid :=
  over
#print axioms proved
end Go.Proofs.Yteclbnjpijakbaa.tl2Locks
