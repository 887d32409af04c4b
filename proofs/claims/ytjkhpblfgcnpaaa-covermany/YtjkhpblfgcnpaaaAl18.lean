/- The abstract layer, part 18: closed runs over frames that are trees (the kernel reckons these fast): they come to what the runs of part 14 come to. -/
import Derived.Test.YtjkhpblfgcnpaaaAl17
set_option linter.unusedVariables false
set_option linter.unusedSimpArgs false
namespace Go.AL
variable {P : Program}

inductive ET where
  | leaf
  | node (l : ET) (v : SV) (r : ET)

noncomputable def ET.get (t : ET) : Nat → SV :=
  ET.rec (fun _ => .any) (fun _ v _ il ir n => Bool.rec (Bool.rec (il (Nat.div n 2)) (ir (Nat.sub (Nat.div n 2) 1)) (Nat.beq (Nat.mod n 2) 0)) v (Nat.beq n 0)) t
noncomputable def ET.set (t : ET) (x : SV) : Nat → ET :=
  ET.rec (fun _ => .leaf) (fun l v r il ir n => Bool.rec (Bool.rec (.node (il (Nat.div n 2)) v r) (.node l v (ir (Nat.sub (Nat.div n 2) 1))) (Nat.beq (Nat.mod n 2) 0)) (.node l x r) (Nat.beq n 0)) t
/-- Has the tree a place? -/
def ET.ins : ET → Nat → Prop
  | .leaf, _ => False
  | .node l _ r, n => if n = 0 then True else if n % 2 = 0 then r.ins (n / 2 - 1) else l.ins (n / 2)

theorem get_node (l r : ET) (v : SV) (n : Nat) : (ET.node l v r).get n = if n = 0 then v else if n % 2 = 0 then r.get (n / 2 - 1) else l.get (n / 2) := by
  show Bool.rec (motive := fun _ => SV) (Bool.rec (motive := fun _ => SV) (l.get (Nat.div n 2)) (r.get (Nat.sub (Nat.div n 2) 1)) (Nat.beq (Nat.mod n 2) 0)) v (Nat.beq n 0) = _
  by_cases h : n = 0
  · subst h; rfl
  · have e : Nat.beq n 0 = false := by cases hb : Nat.beq n 0 with | false => rfl | true => exact absurd (Nat.eq_of_beq_eq_true hb) h
    rw [e, if_neg h]
    by_cases h2 : n % 2 = 0
    · have e2 : Nat.beq (Nat.mod n 2) 0 = true := by have : Nat.mod n 2 = 0 := h2; rw [this]; rfl
      rw [e2, if_pos h2]; rfl
    · have e2 : Nat.beq (Nat.mod n 2) 0 = false := by cases hb : Nat.beq (Nat.mod n 2) 0 with | false => rfl | true => exact absurd (Nat.eq_of_beq_eq_true hb) h2
      rw [e2, if_neg h2]; rfl

theorem set_node (l r : ET) (v x : SV) (n : Nat) : (ET.node l v r).set x n = if n = 0 then .node l x r else if n % 2 = 0 then .node l v (r.set x (n / 2 - 1)) else .node (l.set x (n / 2)) v r := by
  show Bool.rec (motive := fun _ => ET) (Bool.rec (motive := fun _ => ET) (.node (l.set x (Nat.div n 2)) v r) (.node l v (r.set x (Nat.sub (Nat.div n 2) 1))) (Nat.beq (Nat.mod n 2) 0)) (.node l x r) (Nat.beq n 0) = _
  by_cases h : n = 0
  · subst h; rfl
  · have e : Nat.beq n 0 = false := by cases hb : Nat.beq n 0 with | false => rfl | true => exact absurd (Nat.eq_of_beq_eq_true hb) h
    rw [e, if_neg h]
    by_cases h2 : n % 2 = 0
    · have e2 : Nat.beq (Nat.mod n 2) 0 = true := by have : Nat.mod n 2 = 0 := h2; rw [this]; rfl
      rw [e2, if_pos h2]; rfl
    · have e2 : Nat.beq (Nat.mod n 2) 0 = false := by cases hb : Nat.beq (Nat.mod n 2) 0 with | false => rfl | true => exact absurd (Nat.eq_of_beq_eq_true hb) h2
      rw [e2, if_neg h2]; rfl

theorem get_set (x : SV) : ∀ (t : ET) (n i : Nat), t.ins n → (t.set x n).get i = if i = n then x else t.get i
  | .leaf, n, i, h => h.elim
  | .node l v r, n, i, h => by
    rw [set_node]
    simp only [ET.ins] at h
    by_cases hn : n = 0
    · rw [if_pos hn, get_node, get_node]
      subst hn
      by_cases hi : i = 0 <;> simp [hi]
    · rw [if_neg hn] at h ⊢
      by_cases h2 : n % 2 = 0
      · rw [if_pos h2] at h ⊢
        rw [get_node, get_node]
        by_cases hi : i = 0
        · rw [if_pos hi, if_pos hi, if_neg (by omega)]
        · rw [if_neg hi, if_neg hi]
          by_cases hi2 : i % 2 = 0
          · rw [if_pos hi2, if_pos hi2, get_set x r _ _ h]
            by_cases e : i = n
            · rw [if_pos (by rw [e]), if_pos e]
            · rw [if_neg (by omega), if_neg e]
          · rw [if_neg hi2, if_neg hi2, if_neg (by omega)]
      · rw [if_neg h2] at h ⊢
        rw [get_node, get_node]
        by_cases hi : i = 0
        · rw [if_pos hi, if_pos hi, if_neg (by omega)]
        · rw [if_neg hi, if_neg hi]
          by_cases hi2 : i % 2 = 0
          · rw [if_pos hi2, if_pos hi2, if_neg (by omega)]
          · rw [if_neg hi2, if_neg hi2, get_set x l _ _ h]
            by_cases e : i = n
            · rw [if_pos (by rw [e]), if_pos e]
            · rw [if_neg (by omega), if_neg e]

theorem ins_set (x : SV) : ∀ (t : ET) (n i : Nat), (t.set x n).ins i ↔ t.ins i
  | .leaf, n, i => Iff.rfl
  | .node l v r, n, i => by
    rw [set_node]
    by_cases hn : n = 0
    · rw [if_pos hn]; rfl
    · rw [if_neg hn]
      by_cases h2 : n % 2 = 0
      · rw [if_pos h2]
        simp only [ET.ins]
        by_cases hi : i = 0
        · simp [hi]
        · by_cases hi2 : i % 2 = 0
          · simp only [hi, hi2, if_false, if_true]; exact ins_set x r _ _
          · simp only [hi, hi2, if_false]
      · rw [if_neg h2]
        simp only [ET.ins]
        by_cases hi : i = 0
        · simp [hi]
        · by_cases hi2 : i % 2 = 0
          · simp only [hi, hi2, if_false, if_true]
          · simp only [hi, hi2, if_false]; exact ins_set x l _ _

/-- A tree of so many floors. -/
noncomputable def fullT (k : Nat) : ET := Nat.rec .leaf (fun _ t => .node t .any t) k

theorem full_get : ∀ (k i : Nat), (fullT k).get i = .any
  | 0, i => rfl
  | k + 1, i => by
    show (ET.node (fullT k) .any (fullT k)).get i = _
    rw [get_node]
    split
    · rfl
    · split <;> exact full_get k _

theorem full_ins : ∀ (k i : Nat), i + 1 < 2 ^ k → (fullT k).ins i
  | 0, i, h => by simp at h
  | k + 1, i, h => by
    show (ET.node (fullT k) .any (fullT k)).ins i
    simp only [ET.ins]
    rw [Nat.pow_succ] at h
    split
    · trivial
    · split
      · exact full_ins k _ (by omega)
      · exact full_ins k _ (by omega)

/-- A tree stands for a frame of so many slots. -/
structure Rl (n : Nat) (t : ET) (env : List SV) : Prop where
  len : env.length = n
  ins : ∀ i, i < n → t.ins i
  get : ∀ i, t.get i = env.getD i .any

noncomputable def putT (n : Nat) (t : ET) (d : Option Tmp) (x : SV) : ET :=
  match d with
  | some d => bif Nat.blt d n then t.set x d else t
  | none => t

theorem Rl.put {n : Nat} {t : ET} {env : List SV} (h : Rl n t env) (d : Option Tmp) (x : SV) : Rl n (putT n t d x) (putE env d x) := by
  cases d with
  | none => exact h
  | some d =>
    simp only [putT, putE]
    cases hb : Nat.blt d n with
    | true =>
      have hd : d < n := by simpa [Nat.blt_eq] using hb
      refine ⟨by simpa using h.len, fun i hi => (ins_set x t d i).2 (h.ins i hi), fun i => ?_⟩
      show (t.set x d).get i = _
      rw [get_set x t d i (h.ins d hd), h.get]
      have hl := h.len
      by_cases e : i = d
      · subst e; rw [if_pos rfl]; simp [List.getD_eq_getElem?_getD, show i < env.length by rw [hl]; exact hd]
      · rw [if_neg e]; simp [List.getD_eq_getElem?_getD, List.getElem?_set_ne (show d ≠ i from fun h => e h.symm)]
    | false =>
      have hd : ¬ d < n := by
        intro h
        have : Nat.blt d n = true := by rw [Nat.blt_eq]; exact h
        rw [this] at hb; cases hb
      have hl := h.len
      have e : env.set d x = env := by rw [List.set_eq_of_length_le (by rw [hl]; exact Nat.not_lt.1 hd)]
      rw [e]; exact h

noncomputable def evT (t : ET) : Operand → SV
  | .tmp i => t.get i
  | .const v => svOf v
  | .global _ => .any
  | .func f => .func (.func f) [] []

theorem Rl.ev {n : Nat} {t : ET} {env : List SV} (h : Rl n t env) : evT t = ev env := by
  funext x
  cases x with
  | tmp i => exact h.get i
  | _ => rfl

/-- The frame at a function's entry. -/
noncomputable def setsT (t : ET) (l : List SV) : Nat → ET := List.rec (motive := fun _ => Nat → ET) (fun _ => t) (fun x _ ih k => (ih (Nat.succ k)).set x k) l
noncomputable def entryT (n : Nat) (args : List SV) : ET := setsT (fullT (Nat.succ (Nat.log2 (Nat.succ n)))) args 0

theorem setsT_spec (t : ET) : ∀ (l : List SV) (k : Nat), (∀ i, i < k + l.length → t.ins i) → (∀ i, (setsT t l k).ins i ↔ t.ins i) ∧
    ∀ i, (setsT t l k).get i = if k ≤ i ∧ i < k + l.length then l.getD (i - k) .any else t.get i
  | [], k, h => ⟨fun i => Iff.rfl, fun i => by rw [if_neg (by simp)]; rfl⟩
  | x :: r, k, h => by
    obtain ⟨h1, h2⟩ := setsT_spec t r (k + 1) (fun i hi => h i (by simp; omega))
    have hk : (setsT t r (k + 1)).ins k := (h1 k).2 (h k (by simp))
    refine ⟨fun i => ?_, fun i => ?_⟩
    · show ((setsT t r (k + 1)).set x k).ins i ↔ _
      rw [ins_set, h1]
    · show ((setsT t r (k + 1)).set x k).get i = _
      rw [get_set _ _ _ _ hk, h2]
      by_cases e : i = k
      · subst e; simp
      · rw [if_neg e]
        by_cases c : k + 1 ≤ i ∧ i < k + 1 + r.length
        · rw [if_pos c, if_pos (by simp; omega), show i - k = (i - (k + 1)) + 1 by omega]; simp
        · rw [if_neg c, if_neg (by simp; omega)]

theorem entry_rl {n : Nat} {args : List SV} (h : args.length ≤ n) : Rl n (entryT n args) (args ++ List.replicate (n - args.length) .any) := by
  have hlog : n + 1 < 2 ^ (Nat.log2 (n + 1) + 1) := Nat.lt_log2_self
  have hins : ∀ i, i < n → (fullT (Nat.succ (Nat.log2 (Nat.succ n)))).ins i := fun i hi => full_ins _ _ (by show i + 1 < 2 ^ (Nat.log2 (n + 1) + 1); omega)
  obtain ⟨h1, h2⟩ := setsT_spec (fullT (Nat.succ (Nat.log2 (Nat.succ n)))) args 0 (fun i hi => hins i (by omega))
  refine ⟨by simp; omega, fun i hi => (h1 i).2 (hins i hi), fun i => ?_⟩
  show (setsT _ args 0).get i = _
  rw [h2]
  by_cases c : i < args.length
  · rw [if_pos (by omega), Nat.sub_zero, List.getD_eq_getElem?_getD, List.getD_eq_getElem?_getD, List.getElem?_append_left c]
  · rw [if_neg (by omega), full_get, List.getD_eq_getElem?_getD, List.getElem?_append_right (by omega), List.getElem?_replicate]
    split <;> rfl

end Go.AL
