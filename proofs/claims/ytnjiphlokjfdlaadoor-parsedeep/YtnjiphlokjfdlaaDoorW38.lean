/- What is proved: ParseDeep: brackets may be in one another, up to as deep as may be, and no deeper: for every input that the given row speaks of; the listed package variables are tied to the program's text. -/
import Derived.Test.YtnjiphlokjfdlaaDoorW37
import Derived.Test.YtnjiphlokjfdlaaDoorP6
import Derived.Test.YtnjiphlokjfdlaaDoorP7
import Derived.Test.YtnjiphlokjfdlaaDoorA9
import Derived.Test.YtnjiphlokjfdlaaDoorCards
import Derived.Test.YtnjiphlokjfdlaaDoorTie
import Derived.ProofKit
import Derived.LaidMore
import Derived.Lay
import Derived.OpenShut
import Derived.Stop.Joined
import Derived.SevenTiedAt
import Derived.Shelf.Vars
set_option linter.unusedVariables false
namespace Go.Proofs.YtnjiphlokjfdlaaDoor.parseDeep
open Go.ChangeShapes Go.WideShapes Go.ChangeAt Go.RowKit Go.AL Go.RowKit

theorem own : ownKnob Tryd.prog.godebug = none := by kernel_rfl

theorem glob0 {W : World} (h : W.ShapedOpen Tryd.prog) : ∃ m, W.cell? ⟨0, 0, none⟩ = some (.int .i64 m) :=
  cell_of_shapedOpen_int (zero := #[.int .i64 0]) (t := 3) h (by decide +kernel) (by kernel_rfl) rfl (by kernel_rfl) (by kernel_rfl) (by kernel_rfl)

theorem deep2 {n : Nat} (hn : n < 61) : chkD n 2 = true := by
  by_cases h16 : n < 16
  · have := deep2_0 ⟨n - 0, by omega⟩; rwa [show 0 + (n - 0) = n by omega] at this
  by_cases h24 : n < 24
  · have := deep2_16 ⟨n - 16, by omega⟩; rwa [show 16 + (n - 16) = n by omega] at this
  by_cases h30 : n < 30
  · have := deep2_24 ⟨n - 24, by omega⟩; rwa [show 24 + (n - 24) = n by omega] at this
  by_cases h36 : n < 36
  · have := deep2_30 ⟨n - 30, by omega⟩; rwa [show 30 + (n - 30) = n by omega] at this
  by_cases h40 : n < 40
  · have := deep2_36 ⟨n - 36, by omega⟩; rwa [show 36 + (n - 36) = n by omega] at this
  by_cases h44 : n < 44
  · have := deep2_40 ⟨n - 40, by omega⟩; rwa [show 40 + (n - 40) = n by omega] at this
  by_cases h48 : n < 48
  · have := deep2_44 ⟨n - 44, by omega⟩; rwa [show 44 + (n - 44) = n by omega] at this
  by_cases h52 : n < 52
  · have := deep2_48 ⟨n - 48, by omega⟩; rwa [show 48 + (n - 48) = n by omega] at this
  by_cases h56 : n < 56
  · have := deep2_52 ⟨n - 52, by omega⟩; rwa [show 52 + (n - 52) = n by omega] at this
  by_cases h58 : n < 58
  · have := deep2_56 ⟨n - 56, by omega⟩; rwa [show 56 + (n - 56) = n by omega] at this
  have := deep2_58 ⟨n - 58, by omega⟩; rwa [show 58 + (n - 58) = n by omega] at this
theorem chk_all {n k : Nat} (hn : n < 61) (hk : k < 3) : chkD n k = true := by
  match k, hk with
  | 0, _ => exact deep0 ⟨n, hn⟩
  | 1, _ => exact deep1 ⟨n, hn⟩
  | 2, _ => exact deep2 hn

set_option maxRecDepth 100000 in
theorem lifted (os : Os) (started : os.Started) (H : Type) (enc : TypeId × Value → H) :
    ReturnsInHanded {} Tryd.checked os 4 .any (fun w args => (Rows.parseDeepSpec.pre enc Tryd.prog Tryd.f4 [] false w args ∧ laidMetH Tryd.prog Rows.parseDeepRow.laid w) ∧ sizedMet enc Tryd.prog Tryd.f4 (OpenSpec.ofChange Rows.parseDeepSpec) false w args)
      (Rows.parseDeepSpec.post enc Tryd.prog Tryd.f4 false true false false) := by
  refine handed_open (C := Tryd.checked) (X := fun w _ => laidMetH Tryd.prog Rows.parseDeepRow.laid w) own started (by kernel_rfl) Tryd.func4
    (ChangeSpec.witness_shaped (enc := enc) (C := Tryd.checked) (os := os) (X := fun w _ => laidMetH Tryd.prog Rows.parseDeepRow.laid w) false (World.laidAll Tryd.prog os Rows.parseDeepRow.laid) #[.int .i64 0, .int .i64 0] 8 (World.laidAll_os _ _ _) (World.shaped_of_ZipB (by kernel_rfl) (by kernel_rfl)) (by kernel_rfl) (by kernel_rfl) (by kernel_rfl)
      (by rw [MakeChecks.laidMetH_plain _ _ _ (by kernel_rfl)]; exact laidMet_laidAll _ (by kernel_rfl) (by kernel_rfl))) ?_
  intro W base args ds gs before hsh hval0 hW
  have hval : ∀ (j : Nat) t v, Tryd.f4.params[j]? = some t → args[j]? = some v → Value.okWide Tryd.prog W .any base t v := hval0
  have hW' := hW
  obtain ⟨p, q, hA0, hV, rfl, hfz, hnd⟩ := hW
  have hA : DataW.TrodAll enc Tryd.prog W 0 (fun _ => true) true Tryd.f4.params.toList args.toList ds p := hA0
  rw [Tryd.params4] at hA hval
  obtain ⟨v0, vs0, d0, ds0, p0, q0, hargs, rfl, rfl, h0, r0⟩ := trodAll_cons hA
  obtain ⟨v1, vs1, d1, ds1, p1, q1, rfl, rfl, rfl, h1, r1⟩ := trodAll_cons r0
  obtain ⟨rfl, rfl, rfl⟩ := trodAll_nil r1
  obtain rfl : args = #[v0, v1] := by cases args; simp_all
  obtain ⟨rfl, rfl⟩ := trodVars_none hV
  obtain ⟨a0, rfl, rfl, rfl, g0⟩ := open_int Tryd.underlying3 (hval 0 3 v0 rfl rfl) h0
  obtain ⟨a1, rfl, rfl, rfl, g1⟩ := open_int Tryd.underlying3 (hval 1 3 v1 rfl rfl) h1
  clear hA0 hval0
  simp only [List.append_nil] at hW'
  obtain ⟨m, hm⟩ := glob0 hsh
  obtain ⟨nn, hn1, hn2⟩ := pick_rng (c := a0) (n := 61) (by decide)
  obtain ⟨kk, hk1, hk2⟩ := pick_rng (c := a1) (n := 3) (by decide)
  refine (calls_topG hm (args := [.sc (.int .i64 a0), .sc (.int .i64 a1)]) (deep_c (gid := 0) (m := m) (show GAt 0 m [.glob 0 (.int .i64 m)] from rfl) (i64_wf g0) (i64_wf g1) hn2 hk2 hn1 hk1 (chk_all hn1 hk1) rfl) ⟨rfl, fun i hi => ?_⟩).mono fun e W' ⟨he, hg⟩ => ?_
  · match i, hi with
    | 0, _ => exact .sc _
    | 1, _ => exact .sc _
  subst he
  exact ⟨_, rfl, post_below (pa := []) (pv := []) hW' (fun _ _ _ => (trodAll_cons_mk (shut_bool Tryd.underlying4 _) trodAll_mk0))
    (fun sp hsp => (trodAll_cons_mk (shut_int Tryd.underlying3 g0) (trodAll_cons_mk (shut_int Tryd.underlying3 g1) trodAll_mk0))) (fun _ _ => rfl) rfl
    hg (ok_one (by kernel_rfl) rfl (okWide_bool_mk Tryd.underlying4 _))⟩

theorem over : Rows.ParseDeepSaid :=
  OpenClaim.holds_of_wide 4 Tryd.f4 rfl rfl rfl rfl rfl rfl rfl ⟨rfl, rfl, rfl, rfl, rfl⟩ rfl rfl rfl rfl rfl (by kernel_rfl) Tryd.func4 (by kernel_rfl)
    (of_decide_eq_true (by kernel_rfl)) (by unfold Func.isWrapper; first | (rw [if_pos (by decide +kernel)]; kernel_rfl) | (rw [if_neg (by decide +kernel)]; exact ⟨rfl, rfl⟩))
    (fun os started H enc _ => lifted os started H enc)

theorem proved : Rows.ParseDeepCardSaid :=
  Claim7.holds_tied_plain_at .later [] [.data, .pinned] true (true, "4aa1b4962111e18ed821b0eb8db7cc6819251e00cdf0a01326c4a17c001f5df1") false
    over (fun _ h => by cases h) (by kernel_rfl) (fun _ h => by cases h) parseDeep_row_tie rfl ⟨rfl, rfl⟩ (by kernel_rfl) rfl
    (fun f fn hf hfn => by
      obtain rfl : f = 4 := Option.some.inj ((show Tryd.prog.funcNamed "selvage/selvagelaw05.ParseDeep" = some 4 by kernel_rfl).symm.trans hf) |>.symm
      obtain rfl : fn = Tryd.f4 := (Option.some.inj (Tryd.func4.symm.trans hfn)).symm
      exact ⟨by kernel_rfl, fun j t ht => by
        rw [Tryd.params4] at ht
        have hm : t ∈ [3, 3] := by simpa using Array.mem_of_getElem? ht
        have hall : ([3, 3].all fun u => !Tryd.prog.wantsStandIn u) = true := by kernel_rfl
        exact (show Tryd.prog.wantsStandIn t = false by simpa using List.all_eq_true.1 hall t hm)⟩)
    (by kernel_rfl)
#print axioms proved
end Go.Proofs.YtnjiphlokjfdlaaDoor.parseDeep
