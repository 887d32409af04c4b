/- Closed runs: wild, for each number; what is known of 'of', for the runs; lives. -/
import Derived.Test.YtjkhpblfgcnpaaaW11
import Derived.Test.YtjkhpblfgcnpaaaA5
set_option linter.unusedSimpArgs false
set_option maxRecDepth 100000
namespace Go.Proofs
open Go Go.AL

theorem wild_c (n : Nat) (hn : n ≤ 5) (K : SV → St → Prop) (st : St) (h : K (.slice .full 6 ((List.replicate n anyN).map nodeSV)) st) : ACalls Try.prog 15 [.sc (.int .i64 n)] K st := by
  have key : checkT Try.prog {} 200 15 [.sc (.int .i64 (n : Int))] (.slice .full 6 ((List.replicate n anyN).map nodeSV)) = true := by
    match n, hn with
    | 0, _ => decide +kernel
    | 1, _ => decide +kernel
    | 2, _ => decide +kernel
    | 3, _ => decide +kernel
    | 4, _ => decide +kernel
    | 5, _ => decide +kernel
  exact acalls_checkT cfg_none Try.mixed 200 key h

def decC : SV → Option Cn
  | .agg [.sc (.string a), .sc (.string b), .sc (.int .i64 t), .sc (.int .i64 r), .sc (.int .i64 m)] => some ⟨a, b, t, r, m⟩
  | _ => none

def decL : List SV → Option (List Cn)
  | [] => some []
  | x :: r => match decC x, decL r with
    | some c, some l => some (c :: l)
    | _, _ => none

theorem decC_spec {x : SV} {c : Cn} (h : decC x = some c) : x = conSV c := by
  unfold decC at h
  split at h
  · cases h; rfl
  · cases h

theorem decL_spec : ∀ {l : List SV} {cs : List Cn}, decL l = some cs → l = cs.map conSV
  | [], cs, h => by cases h; rfl
  | x :: r, cs, h => by
    simp only [decL] at h
    split at h
    · rename_i c l h1 h2
      cases h
      rw [List.map_cons, ← decC_spec h1, ← decL_spec h2]
    · cases h

noncomputable def sumOf : List SV → Option SV
  | [.slice _ 5 l, .sc (.string s)] => match l with
    | [] => none
    | _ :: _ => if Nat.ble l.length 100000 then (decL l).map fun cs => .slice .imm 5 ((cs.filter fun c => strEq c.of_ s).map conSV) else none
  | _ => none

theorem sumOf_ok {args : List SV} {x : SV} (h : sumOf args = some x) (st : St) : ACalls Try.prog 19 args (fun x' s' => x' = x ∧ s' = st) st := by
  unfold sumOf at h
  split at h
  · rename_i m l s
    split at h
    · cases h
    · split at h
      · rename_i y r hlen
        obtain ⟨cs, h1, h2⟩ := AL.map_some h
        have e := decL_spec h1
        refine acalls_norm ?_
        simp only [List.map_cons, List.map_nil, norm, norm1]
        rw [e]
        have hl : cs.length ≤ 100000 := by
          have := congrArg List.length e
          simp only [List.length_map] at this
          simp only [Nat.ble_eq] at hlen
          omega
        refine of_c cs (by rintro rfl; cases e) hl s _ _ ⟨?_, rfl⟩
        rw [← h2]
        unfold ofL
        simp only [consSV, strEq_eq]
      · cases h
  · cases h

/-- For closed runs. -/
noncomputable def cfgT : Cfg := { sum := fun f => if Nat.beq f 19 then some sumOf else none }

theorem cfgT_ok : cfgT.ok Try.prog := by
  intro f m h args x hx st
  simp only [cfgT] at h
  split at h
  · rename_i hf
    cases h
    rw [Nat.eq_of_beq_eq_true hf]
    exact sumOf_ok hx st
  · cases h

theorem lives_c (K : SV → St → Prop) (st : St) (h : K (.sc (.bool true)) st) : ACalls Try.prog 8 [] K st :=
  acalls_checkT cfgT_ok Try.mixed 3000 (y := .sc (.bool true)) (by decide +kernel) h

end Go.Proofs
