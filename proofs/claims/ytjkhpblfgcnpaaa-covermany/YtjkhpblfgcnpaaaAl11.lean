/- Weaker abstract values. -/
import Derived.Test.YtjkhpblfgcnpaaaAl10
namespace Go.AL
open Go

variable {P : Program}

def SVle (x y : SV) : Prop := ∀ (st : St) (σ : Sig) (w : World) (v : Value), Rep st σ w x v → Rep st σ w y v

theorem SVle.refl (x : SV) : SVle x x := fun _ _ _ _ h => h
theorem SVle.any (x : SV) : SVle x .any := fun _ _ _ v _ => .any v

theorem acalls_le {f : FuncId} {args : List SV} {K : SV → St → Prop} {st : St} (h : ACalls P f args (fun x s => ∃ y, SVle x y ∧ K y s) st) : ACalls P f args K st := by
  intro σ w vs hI hR
  refine (h σ w vs hI hR).mono ?_
  rintro e w' ⟨v, x, s, σ', he, ⟨y, hle, hk⟩, hI', hr, hX⟩
  exact ⟨v, y, s, σ', he, hk, hI', hle _ _ _ _ hr, hX⟩

theorem SVle.nil (m : Mode) (z z' : Nat) (hm : m = .full ∨ m = .imm) : SVle (.slice m z []) (.slice m z' []) := fun _ _ _ _ h => rep_nil_z h hm

inductive SVles : List SV → List SV → Prop where
  | nil : SVles [] []
  | cons {x y : SV} {l r : List SV} : SVle x y → SVles l r → SVles (x :: l) (y :: r)

theorem SVles.len {l r : List SV} (h : SVles l r) : l.length = r.length := by
  induction h with
  | nil => rfl
  | cons _ _ ih => simp [ih]

theorem SVles.at {l r : List SV} (h : SVles l r) : ∀ i, SVle (l.getD i .any) (r.getD i .any) := by
  induction h with
  | nil => intro i; exact SVle.refl _
  | cons h1 _ ih =>
    intro i
    cases i with
    | zero => simpa using h1
    | succ i => simpa using ih i

theorem SVle.agg {l r : List SV} (h : SVles l r) : SVle (.agg l) (.agg r) := by
  intro st σ w v hv
  generalize hx : SV.agg l = x at hv
  cases hv with
  | agg l' vs h1 h2 =>
    cases hx
    exact .agg r vs (h1.trans h.len) fun i hi => h.at i _ _ _ _ (h2 i (by rw [h.len]; exact hi))
  | _ => cases hx

end Go.AL
