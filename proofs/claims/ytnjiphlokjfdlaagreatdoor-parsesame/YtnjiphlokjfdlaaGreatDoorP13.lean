import Derived.Test.YtnjiphlokjfdlaaGreatDoorP4
import Derived.Test.YtnjiphlokjfdlaaGreatDoorM4
set_option linter.unusedSimpArgs false
set_option linter.unusedVariables false
namespace Go.AL
open Go.Proofs (tokensL_end tokensL_step)
inductive Lx : Tx → Nat → List Tk → Prop where
  | nil {s : Tx} {k : Nat} (h : s.drop (skipN false s) = []) : Lx s k [⟨0,[],0,((k + skipN false s : Nat) : Int)⟩]
  | cons {s r : Tx} {c : UInt8} {k n : Nat} {t : Tk} {T : List Tk} (h : s.drop (skipN false s) = c :: r) (ht : tokF (c :: r) ((k + skipN false s : Nat) : Int) = .ok (t,n)) (hr : Lx ((c :: r).drop n) (k + skipN false s + n) T) : Lx s k (t :: T)
theorem tok_ok {c : UInt8} {r : Tx} {p : Int} {t : Tk} {n : Nat} (h : tokF (c :: r) p = .ok (t,n)) : t.pos = p ∧ 1 ≤ n ∧ n ≤ (c :: r).length ∧ t.kind ≠ 0 := by
  generalize hR : nextR c (c :: r) p = R
  obtain ⟨g,e,t',n'⟩ := R
  obtain ⟨h1,h2,h3⟩ := tok_next hR
  rw [h1] at h
  by_cases he : e = 0
  · rw [if_pos he] at h; cases h
    exact ⟨h2,h3 he⟩
  · rw [if_neg he] at h; cases h
theorem lx_of : ∀ (m : Nat) (s : Tx) (k : Nat) (out T : List Tk),tokensL m s k out = .ok T → ∃ Ts,T = out ++ Ts ∧ Lx s k Ts
  | 0,s,k,out,T,h => by cases h
  | m + 1,s,k,out,T,h => by
    cases hd : s.drop (skipN false s) with
    | nil => rw [tokensL_end hd] at h; cases h; exact ⟨_,rfl,.nil hd⟩
    | cons c r =>
      rw [tokensL_step hd] at h
      cases ht : tokF (c :: r) ((k + skipN false s : Nat) : Int) with
      | error e => rw [ht] at h; cases h
      | ok y =>
        obtain ⟨t,n⟩ := y
        rw [ht] at h
        obtain ⟨Ts,h1,h2⟩ := lx_of m _ _ _ _ h
        exact ⟨t :: Ts,by rw [h1]; simp,.cons hd ht h2⟩
theorem lexF_lx {s : Tx} {T : List Tk} (h : lexF s = .ok T) : Lx s 0 T ∧ s.length ≤ 2000 := by
  unfold lexF at h
  split at h
  · cases h
  · obtain ⟨Ts,h1,h2⟩ := lx_of _ _ _ _ _ h
    rw [List.nil_append] at h1
    subst h1; exact ⟨h2,by omega⟩
theorem lx_tok {s : Tx} {k : Nat} {T : List Tk} (h : Lx s k T) : TOK T ∧ (∀ (i : Nat) (t : Tk),T[i]? = some t → t.kind = 0 → i + 1 = T.length) ∧ (∀ (i : Nat) (t : Tk),T[i]? = some t → (k : Int) ≤ t.pos ∧ t.pos ≤ ((k + s.length : Nat) : Int)) ∧ T.length ≤ s.length + 1 := by
  induction h with
  | @nil s k hd =>
    have hsk := skip_le false s
    refine ⟨⟨by simp,fun i t h hk => ?_,fun i j a b hij ha hb => ?_⟩,fun i t h _ => ?_,fun i t h => ?_,by simp⟩
    · cases i with
      | zero => simp at h; rw [← h] at hk; exact absurd rfl hk
      | succ i => simp at h
    · cases i with
      | zero =>
        cases j with
        | zero => simp at ha hb; rw [← ha,← hb]; exact Int.le_refl _
        | succ j => simp at hb
      | succ i => simp at ha
    · cases i with
      | zero => rfl
      | succ i => simp at h
    · cases i with
      | zero => simp at h; rw [← h]; simp only; omega
      | succ i => simp at h
  | @cons s r c k n t T hd ht _ ih =>
    obtain ⟨i1,i2,i3,i4⟩ := ih
    obtain ⟨tp,tn,tl,tk⟩ := tok_ok ht
    have hl := congrArg List.length hd
    have hsk := skip_le false s
    simp only [List.length_drop,List.length_cons] at hl tl i3 i4
    refine ⟨⟨by simp,fun i u h hk => ?_,fun i j a b hij ha hb => ?_⟩,fun i u h hk => ?_,fun i u h => ?_,by simp only [List.length_cons]; omega⟩
    · cases i with
      | zero => have := i1.pos; simp; omega
      | succ i => have := i1.last i u (by simpa using h) hk; simp; omega
    · cases i with
      | zero =>
        simp only [List.getElem?_cons_zero,Option.some.injEq] at ha
        cases j with
        | zero => simp only [List.getElem?_cons_zero,Option.some.injEq] at hb; rw [← ha,← hb]; exact Int.le_refl _
        | succ j =>
          have := (i3 j b (by simpa using hb)).1
          rw [← ha,tp]; omega
      | succ i =>
        cases j with
        | zero => omega
        | succ j => exact i1.sorted i j a b (by omega) (by simpa using ha) (by simpa using hb)
    · cases i with
      | zero => simp at h; rw [← h] at hk; exact absurd hk tk
      | succ i => have := i2 i u (by simpa using h) hk; simp; omega
    · cases i with
      | zero => simp at h; rw [← h,tp]; omega
      | succ i => have := i3 i u (by simpa using h); omega
theorem sk_t (c : UInt8) (r : Tx) : skipN true (c :: r) = if c = 10 then skipN false r + 1 else skipN true r + 1 := rfl
end Go.AL
