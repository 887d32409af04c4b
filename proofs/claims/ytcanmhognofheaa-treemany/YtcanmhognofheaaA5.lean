/- The abstract layer, part 17: weaker values, reckoned. -/
import Derived.Test.YtcanmhognofheaaA4
set_option linter.all false
set_option linter.unusedSimpArgs false
set_option linter.unusedVariables false
namespace Go.AL
variable {P : Program}
noncomputable def scB : Value → Value → Bool
  | .int k n,.int k' n' => decide (k = k') && eqE n n'
  | .bool b,.bool b' => b == b'
  | .string a,.string b => strEq a b
  | .pointer none,.pointer none => true
  | .nilFunc,.nilFunc => true
  | _,_ => false
theorem scB_spec {v v' : Value} (h : scB v v' = true) : v = v' := by
  unfold scB at h
  split at h
  · simp only [Bool.and_eq_true,decide_eq_true_eq,eqE_iff,beq_iff_eq] at h
    rw [h.1,h.2]
  · simp only [beq_iff_eq] at h; rw [h]
  · rename_i a b
    rw [strEq_data] at h
    simp only [beq_iff_eq] at h
    have : a = b := ByteArray.ext (Array.ext' h)
    rw [this]
  · rfl
  · rfl
  · cases h
def modeLe : Mode → Mode → Bool
  | _,.imm => true
  | .full,.full => true
  | _,_ => false
def oneB : SV → Bool
  | .agg _ => false
  | _ => true
mutual
noncomputable def leB : SV → SV → Bool
  | _,.any => true
  | .sc v,.sc v' => scB v v'
  | .slice m z l,.slice m' z' l' => modeLe m m' && ((match l,l' with | [],[] => (match m with | .own _ _ => false | _ => true) | _,_ => false) || (Nat.beq z z' && leBE l l'))
  | .ref l,.ref l' => leBL l l'
  | .agg l,.agg l' => leBL l l'
  | .tuple l,.tuple l' => leBL l l'
  | _,_ => false
noncomputable def leBL : List SV → List SV → Bool
  | [],[] => true
  | x :: r,y :: r' => leB x y && leBL r r'
  | _,_ => false
noncomputable def leBE : List SV → List SV → Bool
  | [],[] => true
  | .agg l :: r,.agg l' :: r' => leBL l l' && leBE r r'
  | x :: r,y :: r' => oneB x && oneB y && leB x y && leBE r r'
  | _,_ => false
end
theorem SVles.refl : ∀ l : List SV,SVles l l
  | [] => .nil
  | x :: r => .cons (SVle.refl x) (SVles.refl r)
theorem SVle.tuple {l r : List SV} (h : SVles l r) : SVle (.tuple l) (.tuple r) := by
  intro st σ w v hv
  generalize hx : SV.tuple l = x at hv
  cases hv with
  | tuple l' vs h1 h2 =>
    cases hx
    exact .tuple r vs (h1.trans h.len) fun i hi => h.at i _ _ _ _ (h2 i (by rw [h.len]; exact hi))
  | _ => cases hx
theorem SVle.ref {l r : List SV} (h : SVles l r) : SVle (.ref l) (.ref r) := by
  intro st σ w v hv
  generalize hx : SV.ref l = x at hv
  cases hv with
  | ref l' b o vals hc hr =>
    cases hx
    exact .ref r b o vals (fun j hj => hc j (by rw [h.len]; exact hj)) fun j hj => h.at j _ _ _ _ (hr j (by rw [h.len]; exact hj))
  | _ => cases hx
inductive SVlesE : List SV → List SV → Prop where
  | nil : SVlesE [] []
  | cons {x y : SV} {l r : List SV} : SVles x.cells y.cells → SVlesE l r → SVlesE (x :: l) (y :: r)
theorem SVlesE.len {l r : List SV} (h : SVlesE l r) : l.length = r.length := by
  induction h with
  | nil => rfl
  | cons _ _ ih => simp [ih]
theorem SVlesE.at {l r : List SV} (h : SVlesE l r) : ∀ i,SVles (l.getD i .any).cells (r.getD i .any).cells := by
  induction h with
  | nil => intro i; exact SVles.refl _
  | cons h1 _ ih =>
    intro i
    cases i with
    | zero => simpa using h1
    | succ i => simpa using ih i
theorem SVle.slice {m m' : Mode} {z : Nat} {l r : List SV} (hm : modeLe m m' = true) (h : SVlesE l r) : SVle (.slice m z l) (.slice m' z r) := by
  intro st σ w v hv
  have hmode : ∀ {a : Addr} {len cap : Nat},ModeOk st σ w z a len cap m → ModeOk st σ w z a len cap m' := by
    intro a len cap h
    cases m' with
    | imm => trivial
    | full => cases m with
      | full => exact h
      | _ => cases hm
    | own _ _ => cases m <;> cases hm
  have hnil : ModeNil st m → ModeNil st m' := by
    intro h
    cases m' with
    | imm => trivial
    | full => trivial
    | own _ _ => cases m <;> cases hm
  have hlen := h.len
  generalize hx : SV.slice m z l = x at hv
  cases hv with
  | nil m z hm' =>
    cases hx
    cases h with
    | nil => exact .nil _ _ (hnil hm')
  | slice m z l a cap vals hcap hsp hz hc hr hm' =>
    cases hx
    rw [hlen]
    refine .slice m' z r a cap vals (by omega) (fun hne => hsp (by rintro rfl; apply hne; cases h; rfl)) (fun i hi => ?_) (fun i j hi hj => hc i j (by omega) hj) (fun i j hi hj => (h.at i).at j _ _ _ _ (hr i j (by omega) hj)) ?_
    · rw [← (h.at i).len]; exact hz i (by omega)
    · rw [← hlen]; exact hmode hm'
  | _ => cases hx
mutual
theorem leB_spec : ∀ x y : SV,leB x y = true → SVle x y
  | x,.any,_ => SVle.any x
  | .sc v,.sc v',h => by
    have e : v = v' := scB_spec (by simpa only [leB] using h)
    rw [e]; exact SVle.refl _
  | .slice m z l,.slice m' z' l',h => by
    simp only [leB,Bool.and_eq_true,Bool.or_eq_true] at h
    obtain ⟨h1,h2⟩ := h
    rcases h2 with h2 | h2
    · split at h2
      · intro st σ w v hv
        have hm : m = .full ∨ m = .imm := by cases m <;> first | exact .inl rfl | exact .inr rfl | cases h2
        exact SVle.slice h1 .nil st σ w v (rep_nil_z hv hm)
      · cases h2
    · rw [← Nat.eq_of_beq_eq_true h2.1]
      exact SVle.slice h1 (leBE_spec l l' h2.2)
  | .ref l,.ref l',h => SVle.ref (leBL_spec l l' (by simpa only [leB] using h))
  | .agg l,.agg l',h => SVle.agg (leBL_spec l l' (by simpa only [leB] using h))
  | .tuple l,.tuple l',h => SVle.tuple (leBL_spec l l' (by simpa only [leB] using h))
  | .gd _ _,.sc _,h | .gd _ _,.slice _ _ _,h | .gd _ _,.ref _,h | .gd _ _,.ptr _ _,h | .gd _ _,.func _ _ _,h | .gd _ _,.agg _,h | .gd _ _,.tuple _,h | .gd _ _,.gd _ _,h | .gd _ _,.slc _ _ _ _ _,h | .gd _ _,.mp _,h | .gd _ _,.stamp _ _,h | .gd _ _,.arr _ _ _,h | .gd _ _,.aptr _ _ _,h => by simp [leB] at h
  | .any,.sc _,h | .any,.slice _ _ _,h | .any,.ref _,h | .any,.ptr _ _,h | .any,.func _ _ _,h | .any,.agg _,h | .any,.tuple _,h | .any,.gd _ _,h | .any,.slc _ _ _ _ _,h | .any,.mp _,h | .any,.stamp _ _,h | .any,.arr _ _ _,h | .any,.aptr _ _ _,h => by simp [leB] at h
  | .ptr _ _,.sc _,h | .ptr _ _,.slice _ _ _,h | .ptr _ _,.ref _,h | .ptr _ _,.ptr _ _,h | .ptr _ _,.func _ _ _,h | .ptr _ _,.agg _,h | .ptr _ _,.tuple _,h | .ptr _ _,.gd _ _,h | .ptr _ _,.slc _ _ _ _ _,h | .ptr _ _,.mp _,h | .ptr _ _,.stamp _ _,h | .ptr _ _,.arr _ _ _,h | .ptr _ _,.aptr _ _ _,h => by simp [leB] at h
  | .func _ _ _,.sc _,h | .func _ _ _,.slice _ _ _,h | .func _ _ _,.ref _,h | .func _ _ _,.ptr _ _,h | .func _ _ _,.func _ _ _,h | .func _ _ _,.agg _,h | .func _ _ _,.tuple _,h | .func _ _ _,.gd _ _,h | .func _ _ _,.slc _ _ _ _ _,h | .func _ _ _,.mp _,h | .func _ _ _,.stamp _ _,h | .func _ _ _,.arr _ _ _,h | .func _ _ _,.aptr _ _ _,h => by simp [leB] at h
  | .slc _ _ _ _ _,.sc _,h | .slc _ _ _ _ _,.slice _ _ _,h | .slc _ _ _ _ _,.ref _,h | .slc _ _ _ _ _,.ptr _ _,h | .slc _ _ _ _ _,.func _ _ _,h | .slc _ _ _ _ _,.agg _,h | .slc _ _ _ _ _,.tuple _,h | .slc _ _ _ _ _,.gd _ _,h | .slc _ _ _ _ _,.slc _ _ _ _ _,h | .slc _ _ _ _ _,.mp _,h | .slc _ _ _ _ _,.stamp _ _,h | .slc _ _ _ _ _,.arr _ _ _,h | .slc _ _ _ _ _,.aptr _ _ _,h => by simp [leB] at h
  | .sc _,.slice _ _ _,h | .sc _,.ref _,h | .sc _,.ptr _ _,h | .sc _,.func _ _ _,h | .sc _,.agg _,h | .sc _,.tuple _,h | .sc _,.gd _ _,h | .sc _,.slc _ _ _ _ _,h | .sc _,.mp _,h | .sc _,.stamp _ _,h | .sc _,.arr _ _ _,h | .sc _,.aptr _ _ _,h => by simp [leB] at h
  | .slice _ _ _,.sc _,h | .slice _ _ _,.ref _,h | .slice _ _ _,.ptr _ _,h | .slice _ _ _,.func _ _ _,h | .slice _ _ _,.agg _,h | .slice _ _ _,.tuple _,h | .slice _ _ _,.gd _ _,h | .slice _ _ _,.slc _ _ _ _ _,h | .slice _ _ _,.mp _,h | .slice _ _ _,.stamp _ _,h | .slice _ _ _,.arr _ _ _,h | .slice _ _ _,.aptr _ _ _,h => by simp [leB] at h
  | .ref _,.sc _,h | .ref _,.slice _ _ _,h | .ref _,.ptr _ _,h | .ref _,.func _ _ _,h | .ref _,.agg _,h | .ref _,.tuple _,h | .ref _,.gd _ _,h | .ref _,.slc _ _ _ _ _,h | .ref _,.mp _,h | .ref _,.stamp _ _,h | .ref _,.arr _ _ _,h | .ref _,.aptr _ _ _,h => by simp [leB] at h
  | .agg _,.sc _,h | .agg _,.slice _ _ _,h | .agg _,.ref _,h | .agg _,.ptr _ _,h | .agg _,.func _ _ _,h | .agg _,.tuple _,h | .agg _,.gd _ _,h | .agg _,.slc _ _ _ _ _,h | .agg _,.mp _,h | .agg _,.stamp _ _,h | .agg _,.arr _ _ _,h | .agg _,.aptr _ _ _,h => by simp [leB] at h
  | .tuple _,.sc _,h | .tuple _,.slice _ _ _,h | .tuple _,.ref _,h | .tuple _,.ptr _ _,h | .tuple _,.func _ _ _,h | .tuple _,.agg _,h | .tuple _,.gd _ _,h | .tuple _,.slc _ _ _ _ _,h | .tuple _,.mp _,h | .tuple _,.stamp _ _,h | .tuple _,.arr _ _ _,h | .tuple _,.aptr _ _ _,h => by simp [leB] at h
  | .mp _,.sc _,h | .mp _,.slice _ _ _,h | .mp _,.ref _,h | .mp _,.ptr _ _,h | .mp _,.func _ _ _,h | .mp _,.agg _,h | .mp _,.tuple _,h | .mp _,.gd _ _,h | .mp _,.slc _ _ _ _ _,h | .mp _,.mp _,h | .mp _,.stamp _ _,h | .mp _,.arr _ _ _,h | .mp _,.aptr _ _ _,h => by simp [leB] at h
  | .stamp _ _,.sc _,h | .stamp _ _,.slice _ _ _,h | .stamp _ _,.ref _,h | .stamp _ _,.ptr _ _,h | .stamp _ _,.func _ _ _,h | .stamp _ _,.agg _,h | .stamp _ _,.tuple _,h | .stamp _ _,.gd _ _,h | .stamp _ _,.slc _ _ _ _ _,h | .stamp _ _,.mp _,h | .stamp _ _,.stamp _ _,h | .stamp _ _,.arr _ _ _,h | .stamp _ _,.aptr _ _ _,h => by simp [leB] at h
  | .arr _ _ _,.sc _,h | .arr _ _ _,.slice _ _ _,h | .arr _ _ _,.ref _,h | .arr _ _ _,.ptr _ _,h | .arr _ _ _,.func _ _ _,h | .arr _ _ _,.agg _,h | .arr _ _ _,.tuple _,h | .arr _ _ _,.gd _ _,h | .arr _ _ _,.slc _ _ _ _ _,h | .arr _ _ _,.mp _,h | .arr _ _ _,.stamp _ _,h | .arr _ _ _,.arr _ _ _,h | .arr _ _ _,.aptr _ _ _,h => by simp [leB] at h
  | .aptr _ _ _,.sc _,h | .aptr _ _ _,.slice _ _ _,h | .aptr _ _ _,.ref _,h | .aptr _ _ _,.ptr _ _,h | .aptr _ _ _,.func _ _ _,h | .aptr _ _ _,.agg _,h | .aptr _ _ _,.tuple _,h | .aptr _ _ _,.gd _ _,h | .aptr _ _ _,.slc _ _ _ _ _,h | .aptr _ _ _,.mp _,h | .aptr _ _ _,.stamp _ _,h | .aptr _ _ _,.arr _ _ _,h | .aptr _ _ _,.aptr _ _ _,h => by simp [leB] at h
theorem leBL_spec : ∀ l l' : List SV,leBL l l' = true → SVles l l'
  | [],[],_ => .nil
  | x :: r,y :: r',h => by
    simp only [leBL,Bool.and_eq_true] at h
    exact .cons (leB_spec x y h.1) (leBL_spec r r' h.2)
  | [],_ :: _,h => by simp [leBL] at h
  | _ :: _,[],h => by simp [leBL] at h
theorem leBE_spec : ∀ l l' : List SV,leBE l l' = true → SVlesE l l'
  | [],[],_ => .nil
  | .agg l :: r,.agg l' :: r',h => by
    simp only [leBE,Bool.and_eq_true] at h
    exact .cons (leBL_spec l l' h.1) (leBE_spec r r' h.2)
  | [],_ :: _,h => by simp [leBE] at h
  | _ :: _,[],h => by simp [leBE] at h
  | x :: r,y :: r',h => by
    have hx : (∃ l l',x = .agg l ∧ y = .agg l') ∨ oneB x = true ∧ oneB y = true ∧ leB x y = true ∧ leBE r r' = true := by
      cases x <;> cases y <;> first
        | (simp only [leBE,Bool.and_eq_true] at h; obtain ⟨⟨⟨h1,h2⟩,h3⟩,h4⟩ := h; exact .inr ⟨h1,h2,h3,h4⟩)
        | exact .inl ⟨_,_,rfl,rfl⟩
    rcases hx with ⟨l,l',rfl,rfl⟩ | hx
    · simp only [leBE,Bool.and_eq_true] at h
      exact .cons (leBL_spec l l' h.1) (leBE_spec r r' h.2)
    have cx : x.cells = [x] := by cases x <;> first | rfl | cases hx.1
    have cy : y.cells = [y] := by cases y <;> first | rfl | cases hx.2.1
    exact .cons (by rw [cx,cy]; exact .cons (leB_spec x y hx.2.2.1) .nil) (leBE_spec r r' hx.2.2.2)
end
end Go.AL
namespace Go.AL
variable {P : Program}
inductive ET where
  | leaf
  | node (l : ET) (v : SV) (r : ET)
noncomputable def ET.get (t : ET) : Nat → SV :=
  ET.rec (fun _ => .any) (fun _ v _ il ir n => Bool.rec (Bool.rec (il (Nat.div n 2)) (ir (Nat.sub (Nat.div n 2) 1)) (Nat.beq (Nat.mod n 2) 0)) v (Nat.beq n 0)) t
noncomputable def ET.set (t : ET) (x : SV) : Nat → ET :=
  ET.rec (fun _ => .leaf) (fun l v r il ir n => Bool.rec (Bool.rec (.node (il (Nat.div n 2)) v r) (.node l v (ir (Nat.sub (Nat.div n 2) 1))) (Nat.beq (Nat.mod n 2) 0)) (.node l x r) (Nat.beq n 0)) t
def ET.ins : ET → Nat → Prop
  | .leaf,_ => False
  | .node l _ r,n => if n = 0 then True else if n % 2 = 0 then r.ins (n / 2 - 1) else l.ins (n / 2)
theorem get_node (l r : ET) (v : SV) (n : Nat) : (ET.node l v r).get n = if n = 0 then v else if n % 2 = 0 then r.get (n / 2 - 1) else l.get (n / 2) := by
  show Bool.rec (motive := fun _ => SV) (Bool.rec (motive := fun _ => SV) (l.get (Nat.div n 2)) (r.get (Nat.sub (Nat.div n 2) 1)) (Nat.beq (Nat.mod n 2) 0)) v (Nat.beq n 0) = _
  by_cases h : n = 0
  · subst h; rfl
  · have e : Nat.beq n 0 = false := by cases hb : Nat.beq n 0 with | false => rfl | true => exact absurd (Nat.eq_of_beq_eq_true hb) h
    rw [e,if_neg h]
    by_cases h2 : n % 2 = 0
    · have e2 : Nat.beq (Nat.mod n 2) 0 = true := by have : Nat.mod n 2 = 0 := h2; rw [this]; rfl
      rw [e2,if_pos h2]; rfl
    · have e2 : Nat.beq (Nat.mod n 2) 0 = false := by cases hb : Nat.beq (Nat.mod n 2) 0 with | false => rfl | true => exact absurd (Nat.eq_of_beq_eq_true hb) h2
      rw [e2,if_neg h2]; rfl
theorem set_node (l r : ET) (v x : SV) (n : Nat) : (ET.node l v r).set x n = if n = 0 then .node l x r else if n % 2 = 0 then .node l v (r.set x (n / 2 - 1)) else .node (l.set x (n / 2)) v r := by
  show Bool.rec (motive := fun _ => ET) (Bool.rec (motive := fun _ => ET) (.node (l.set x (Nat.div n 2)) v r) (.node l v (r.set x (Nat.sub (Nat.div n 2) 1))) (Nat.beq (Nat.mod n 2) 0)) (.node l x r) (Nat.beq n 0) = _
  by_cases h : n = 0
  · subst h; rfl
  · have e : Nat.beq n 0 = false := by cases hb : Nat.beq n 0 with | false => rfl | true => exact absurd (Nat.eq_of_beq_eq_true hb) h
    rw [e,if_neg h]
    by_cases h2 : n % 2 = 0
    · have e2 : Nat.beq (Nat.mod n 2) 0 = true := by have : Nat.mod n 2 = 0 := h2; rw [this]; rfl
      rw [e2,if_pos h2]; rfl
    · have e2 : Nat.beq (Nat.mod n 2) 0 = false := by cases hb : Nat.beq (Nat.mod n 2) 0 with | false => rfl | true => exact absurd (Nat.eq_of_beq_eq_true hb) h2
      rw [e2,if_neg h2]; rfl
theorem get_set (x : SV) : ∀ (t : ET) (n i : Nat),t.ins n → (t.set x n).get i = if i = n then x else t.get i
  | .leaf,n,i,h => h.elim
  | .node l v r,n,i,h => by
    rw [set_node]
    simp only [ET.ins] at h
    by_cases hn : n = 0
    · rw [if_pos hn,get_node,get_node]
      subst hn
      by_cases hi : i = 0 <;> simp [hi]
    · rw [if_neg hn] at h ⊢
      by_cases h2 : n % 2 = 0
      · rw [if_pos h2] at h ⊢
        rw [get_node,get_node]
        by_cases hi : i = 0
        · rw [if_pos hi,if_pos hi,if_neg (by omega)]
        · rw [if_neg hi,if_neg hi]
          by_cases hi2 : i % 2 = 0
          · rw [if_pos hi2,if_pos hi2,get_set x r _ _ h]
            by_cases e : i = n
            · rw [if_pos (by rw [e]),if_pos e]
            · rw [if_neg (by omega),if_neg e]
          · rw [if_neg hi2,if_neg hi2,if_neg (by omega)]
      · rw [if_neg h2] at h ⊢
        rw [get_node,get_node]
        by_cases hi : i = 0
        · rw [if_pos hi,if_pos hi,if_neg (by omega)]
        · rw [if_neg hi,if_neg hi]
          by_cases hi2 : i % 2 = 0
          · rw [if_pos hi2,if_pos hi2,if_neg (by omega)]
          · rw [if_neg hi2,if_neg hi2,get_set x l _ _ h]
            by_cases e : i = n
            · rw [if_pos (by rw [e]),if_pos e]
            · rw [if_neg (by omega),if_neg e]
theorem ins_set (x : SV) : ∀ (t : ET) (n i : Nat),(t.set x n).ins i ↔ t.ins i
  | .leaf,n,i => Iff.rfl
  | .node l v r,n,i => by
    rw [set_node]
    by_cases hn : n = 0
    · rw [if_pos hn]; rfl
    · rw [if_neg hn]
      by_cases h2 : n % 2 = 0
      · rw [if_pos h2]
        simp only [ET.ins]
        by_cases hi : i = 0
        · simp [hi]
        · by_cases hi2 : i % 2 = 0
          · simp only [hi,hi2,if_false,if_true]; exact ins_set x r _ _
          · simp only [hi,hi2,if_false]
      · rw [if_neg h2]
        simp only [ET.ins]
        by_cases hi : i = 0
        · simp [hi]
        · by_cases hi2 : i % 2 = 0
          · simp only [hi,hi2,if_false,if_true]
          · simp only [hi,hi2,if_false]; exact ins_set x l _ _
noncomputable def fullT (k : Nat) : ET := Nat.rec .leaf (fun _ t => .node t .any t) k
theorem full_get : ∀ (k i : Nat),(fullT k).get i = .any
  | 0,i => rfl
  | k + 1,i => by
    show (ET.node (fullT k) .any (fullT k)).get i = _
    rw [get_node]
    split
    · rfl
    · split <;> exact full_get k _
theorem full_ins : ∀ (k i : Nat),i + 1 < 2 ^ k → (fullT k).ins i
  | 0,i,h => by simp at h
  | k + 1,i,h => by
    show (ET.node (fullT k) .any (fullT k)).ins i
    simp only [ET.ins]
    rw [Nat.pow_succ] at h
    split
    · trivial
    · split
      · exact full_ins k _ (by omega)
      · exact full_ins k _ (by omega)
structure Rl (n : Nat) (t : ET) (env : List SV) : Prop where
  len : env.length = n
  ins : ∀ i,i < n → t.ins i
  get : ∀ i,t.get i = env.getD i .any
noncomputable def putT (n : Nat) (t : ET) (d : Option Tmp) (x : SV) : ET :=
  match d with
  | some d => bif Nat.blt d n then t.set x d else t
  | none => t
theorem Rl.put {n : Nat} {t : ET} {env : List SV} (h : Rl n t env) (d : Option Tmp) (x : SV) : Rl n (putT n t d x) (putE env d x) := by
  cases d with
  | none => exact h
  | some d =>
    simp only [putT,putE]
    cases hb : Nat.blt d n with
    | true =>
      have hd : d < n := by simpa [Nat.blt_eq] using hb
      refine ⟨by simpa using h.len,fun i hi => (ins_set x t d i).2 (h.ins i hi),fun i => ?_⟩
      show (t.set x d).get i = _
      rw [get_set x t d i (h.ins d hd),h.get]
      have hl := h.len
      by_cases e : i = d
      · subst e; rw [if_pos rfl]; simp [List.getD_eq_getElem?_getD,show i < env.length by rw [hl]; exact hd]
      · rw [if_neg e]; simp [List.getD_eq_getElem?_getD,List.getElem?_set_ne (show d ≠ i from fun h => e h.symm)]
    | false =>
      have hd : ¬ d < n := by
        intro h
        have : Nat.blt d n = true := by rw [Nat.blt_eq]; exact h
        rw [this] at hb; cases hb
      have hl := h.len
      have e : env.set d x = env := by rw [List.set_eq_of_length_le (by rw [hl]; exact Nat.not_lt.1 hd)]
      rw [e]; exact h
noncomputable def evT (t : ET) : Operand → SV
  | .tmp i => t.get i
  | .const v => svOf v
  | .global _ => .any
  | .func f => .func (.func f) [] []
theorem Rl.ev {n : Nat} {t : ET} {env : List SV} (h : Rl n t env) : evT t = ev env := by
  funext x
  cases x with
  | tmp i => exact h.get i
  | _ => rfl
noncomputable def setsT (t : ET) (l : List SV) : Nat → ET := List.rec (motive := fun _ => Nat → ET) (fun _ => t) (fun x _ ih k => (ih (Nat.succ k)).set x k) l
noncomputable def entryT (n : Nat) (args : List SV) : ET := setsT (fullT (Nat.succ (Nat.log2 (Nat.succ n)))) args 0
theorem setsT_spec (t : ET) : ∀ (l : List SV) (k : Nat),(∀ i,i < k + l.length → t.ins i) → (∀ i,(setsT t l k).ins i ↔ t.ins i) ∧
    ∀ i,(setsT t l k).get i = if k ≤ i ∧ i < k + l.length then l.getD (i - k) .any else t.get i
  | [],k,h => ⟨fun i => Iff.rfl,fun i => by rw [if_neg (by simp)]; rfl⟩
  | x :: r,k,h => by
    obtain ⟨h1,h2⟩ := setsT_spec t r (k + 1) (fun i hi => h i (by simp; omega))
    have hk : (setsT t r (k + 1)).ins k := (h1 k).2 (h k (by simp))
    refine ⟨fun i => ?_,fun i => ?_⟩
    · show ((setsT t r (k + 1)).set x k).ins i ↔ _
      rw [ins_set,h1]
    · show ((setsT t r (k + 1)).set x k).get i = _
      rw [get_set _ _ _ _ hk,h2]
      by_cases e : i = k
      · subst e; simp
      · rw [if_neg e]
        by_cases c : k + 1 ≤ i ∧ i < k + 1 + r.length
        · rw [if_pos c,if_pos (by simp; omega),show i - k = (i - (k + 1)) + 1 by omega]; simp
        · rw [if_neg c,if_neg (by simp; omega)]
theorem entry_rl {n : Nat} {args : List SV} (h : args.length ≤ n) : Rl n (entryT n args) (args ++ List.replicate (n - args.length) .any) := by
  have hlog : n + 1 < 2 ^ (Nat.log2 (n + 1) + 1) := Nat.lt_log2_self
  have hins : ∀ i,i < n → (fullT (Nat.succ (Nat.log2 (Nat.succ n)))).ins i := fun i hi => full_ins _ _ (by show i + 1 < 2 ^ (Nat.log2 (n + 1) + 1); omega)
  obtain ⟨h1,h2⟩ := setsT_spec (fullT (Nat.succ (Nat.log2 (Nat.succ n)))) args 0 (fun i hi => hins i (by omega))
  refine ⟨by simp; omega,fun i hi => (h1 i).2 (hins i hi),fun i => ?_⟩
  show (setsT _ args 0).get i = _
  rw [h2]
  by_cases c : i < args.length
  · rw [if_pos (by omega),Nat.sub_zero,List.getD_eq_getElem?_getD,List.getD_eq_getElem?_getD,List.getElem?_append_left c]
  · rw [if_neg (by omega),full_get,List.getD_eq_getElem?_getD,List.getElem?_append_right (by omega),List.getElem?_replicate]
    split <;> rfl
end Go.AL
namespace Go.AL
variable {P : Program}
noncomputable def idsR (n : Nat) (x : SV) : Bool :=
  SV.rec (motive_1 := fun _ => Bool) (motive_2 := fun _ => Bool) true (fun _ => true) (fun m _ _ ih => bif modeB n m then ih else false) (fun _ ih => ih) (fun id _ => Nat.blt id n)
    (fun _ _ _ i1 i2 => bif i1 then i2 else false) (fun _ ih => ih) (fun _ ih => ih) (fun g _ ih => bif g then ih else true) (fun id _ _ _ _ => Nat.blt id n) (fun id => Nat.blt id n) (fun id _ => Nat.blt id n) (fun id _ _ => Nat.blt id n) (fun id _ _ => Nat.blt id n) true (fun _ _ i1 i2 => bif i1 then i2 else false) x
noncomputable def idsRL (n : Nat) (l : List SV) : Bool := List.rec true (fun x _ ih => bif idsR n x then ih else false) l
theorem bif_and (a b : Bool) : (bif a then b else false) = (a && b) := by cases a <;> rfl
mutual
theorem idsR_eq (n : Nat) : ∀ x : SV,idsR n x = idsB n x
  | .any => rfl
  | .sc v => rfl
  | .slice m z l => by show (bif modeB n m then _ else false) = _; rw [bif_and,idsB]; exact congrArg _ (idsRL_eq n l)
  | .ref l => (idsRL_eq n l).trans (by rw [idsB])
  | .ptr id off => rfl
  | .func fn l k => by show (bif _ then _ else false) = _; rw [bif_and,idsB]; exact congr (congrArg _ (idsRL_eq n l)) (idsRL_eq n k)
  | .agg l => (idsRL_eq n l).trans (by rw [idsB])
  | .tuple l => (idsRL_eq n l).trans (by rw [idsB])
  | .gd g x => by
    show (bif g then _ else true) = _
    rw [idsB]
    cases g
    · rfl
    · exact idsR_eq n x
  | .slc id z off len cap => rfl
  | .mp id => rfl
  | .stamp id j => rfl
  | .arr id j m => rfl
  | .aptr id j m => rfl
theorem idsRL_eq (n : Nat) : ∀ l : List SV,SV.rec_1 (motive_1 := fun _ => Bool) (motive_2 := fun _ => Bool) true (fun _ => true) (fun m _ _ ih => bif modeB n m then ih else false) (fun _ ih => ih) (fun id _ => Nat.blt id n)
    (fun _ _ _ i1 i2 => bif i1 then i2 else false) (fun _ ih => ih) (fun _ ih => ih) (fun g _ ih => bif g then ih else true) (fun id _ _ _ _ => Nat.blt id n) (fun id => Nat.blt id n) (fun id _ => Nat.blt id n) (fun id _ _ => Nat.blt id n) (fun id _ _ => Nat.blt id n) true (fun _ _ i1 i2 => bif i1 then i2 else false) l = idsBL n l
  | [] => rfl
  | x :: r => by show (bif idsR n x then _ else false) = _; rw [bif_and,idsBL]; exact congr (congrArg _ (idsR_eq n x)) (idsRL_eq n r)
end
noncomputable def finT (keep : Bool) (st : St) (x : SV) (s : St) (c : Nat) : ER :=
  if Nat.beq (lenR s) (lenR st) then some (x,s,c)
  else if Nat.ble (lenR st) c then
    match keep with
    | true => if idsR (lenR st) x then some (x,st,st.length) else some (x,s,c)
    | false => if idsR (lenR st) (norm x) then some (norm x,st,st.length) else
      match frzE st s x with
      | some y => some (y,st,st.length)
      | none => some (x,s,c)
  else if idsR (lenR st) (normK keep x) && tailB st.length c (s.take st.length) then some (normK keep x,s.take st.length,c)
  else some (x,s,c)
theorem finT_eq (keep : Bool) (st : St) (x : SV) (s : St) (c : Nat) : finT keep st x s c = finE keep st x s c := by
  unfold finT finE
  simp only [lenR_eq,idsR_eq]
  rfl
theorem opTmps_only {l : List Operand} {env : List SV} {y : Operand} (hy : y ∈ l) : ev (onlyAt (opTmps l) 0 env) y = ev env y := by
  cases y with
  | tmp t =>
    simp only [ev]
    by_cases hl : t < env.length
    · rw [getD_onlyAt _ _ _ _ hl,Nat.zero_add,if_pos (by simpa using opTmps_mem hy)]
    · rw [List.getD_eq_getElem?_getD,List.getElem?_eq_none (by rw [length_onlyAt]; exact Nat.not_lt.1 hl),List.getD_eq_getElem?_getD,List.getElem?_eq_none (Nat.not_lt.1 hl)]
  | _ => rfl
theorem strip_svOf (v : Value) : strip (svOf v) = svOf v := by
  unfold svOf
  split
  · rfl
  · unfold svOf1
    split <;> rfl
theorem opTmps_strip {l : List Operand} {env : List SV} {y : Operand} (hy : y ∈ l) : ev (stripAt (opTmps l) 0 (onlyAt (opTmps l) 0 env)) y = strip (ev env y) := by
  cases y with
  | tmp t =>
    have h0 := opTmps_only (env := env) hy
    simp only [ev] at h0 ⊢
    by_cases hl : t < env.length
    · rw [getD_stripAt _ _ _ _ (by rw [length_onlyAt]; exact hl),Nat.zero_add,if_pos (by simpa using opTmps_mem hy),h0]
    · rw [List.getD_eq_getElem?_getD,List.getElem?_eq_none (by rw [length_stripAt,length_onlyAt]; exact Nat.not_lt.1 hl),List.getD_eq_getElem?_getD,List.getElem?_eq_none (Nat.not_lt.1 hl)]
      rfl
  | const v => exact (strip_svOf v).symm
  | global g => rfl
  | func f => rfl
theorem mapR_congr {α β : Type} {f g : α → β} : ∀ {l : List α},(∀ x ∈ l,f x = g x) → mapR f l = mapR g l
  | [],_ => rfl
  | x :: r,h => by
    show f x :: mapR f r = g x :: mapR g r
    rw [h x (by simp),mapR_congr (l := r) (fun y hy => h y (by simp [hy]))]
theorem partsE_congr {z : Nat} {f g : Operand → SV} : ∀ {l : List (Nat × Operand)} (k : Nat),(∀ p ∈ l,f p.2 = g p.2) → partsE z f l k = partsE z g l k
  | [],_,_ => rfl
  | p :: r,k,h => by
    simp only [partsE]
    rw [h p (by simp),partsE_congr (k + 1) (fun q hq => h q (by simp [hq]))]
theorem bslE_congr {t : TypeId} {len : Nat} {parts : List (Nat × Operand)} {f g : Operand → SV} (h : ∀ p ∈ parts,f p.2 = g p.2) : bslE P t len parts f = bslE P t len parts g := by
  have e : (parts.map fun p => norm (f p.2)) = parts.map fun p => norm (g p.2) := List.map_congr_left fun p hp => by rw [h p hp]
  unfold bslE
  simp only [partsE_congr 0 h,e]
theorem biE_congr {st : St} {b : Builtin} {args : List Operand} {ts : List TypeId} {f g : Operand → SV} (h : ∀ y ∈ args,f y = g y) : biE P f st b args ts = biE P g st b args ts := by
  unfold biE
  split
  · rw [h _ (by simp),h _ (by simp)]
  · rw [h _ (by simp),h _ (by simp)]
  · rfl
theorem mkBiE_congr {st : St} {args : List Operand} {ts : List TypeId} {f g : Operand → SV} (h : ∀ y ∈ args,f y = g y) : mkBiE P f st args ts = mkBiE P g st args ts := by
  unfold mkBiE
  split
  · rw [h _ (by simp),h _ (by simp)]
  · rfl
theorem effE_congr {call : Callf} {M : List Nat} {o : Oper} {ρ ρ' : Operand → SV} {st : St} (h : ∀ y ∈ o.op.operands,ρ y = ρ' y) : effE P call M o ρ st = effE P call M o ρ' st := by
  obtain ⟨dst,op,ty,pos,after,guard⟩ := o
  unfold effE
  simp only at h ⊢
  cases op with
  | store t x y => simp only [h x (by simp [Op.operands]),h y (by simp [Op.operands])]
  | box t x => simp only [h x (by simp [Op.operands])]
  | build t parts =>
    have : (parts.toList.map fun p => (p.1,ρ p.2)) = parts.toList.map fun p => (p.1,ρ' p.2) := List.map_congr_left fun p hp => by rw [h p.2 (by simp [Op.operands]; exact ⟨p.1,by simpa using hp⟩)]
    simp only [this]
  | buildSlice t len parts =>
    have := bslE_congr (P := P) (t := t) (len := len) (parts := parts.toList) (f := ρ) (g := ρ') (fun p hp => h p.2 (by simp [Op.operands]; exact ⟨p.1,by simpa using hp⟩))
    simp only [this]
  | makeSlice t x y => simp only [h x (by simp [Op.operands]),h y (by simp [Op.operands])]
  | mapUpdate t m k v => simp only [h m (by simp [Op.operands]),h k (by simp [Op.operands]),h v (by simp [Op.operands])]
  | insert t m k v => simp only [h m (by simp [Op.operands]),h k (by simp [Op.operands]),h v (by simp [Op.operands])]
  | mapEntry t m k => simp only [h m (by simp [Op.operands]),h k (by simp [Op.operands])]
  | entryStore t m s v => simp only [h m (by simp [Op.operands]),h s (by simp [Op.operands]),h v (by simp [Op.operands])]
  | makeMap t r => cases r <;> rfl
  | call c =>
    obtain ⟨callee,args,ts⟩ := c
    simp only
    have ha : ∀ y ∈ args.toList,ρ y = ρ' y := fun y hy => h y (by simp [Op.operands,Call.operands]; right; simpa using hy)
    cases callee with
    | value f => simp only [mapR_congr ha,h f (by simp [Op.operands,Call.operands])]
    | builtin b => simp only [biE_congr (P := P) ha,mkBiE_congr (P := P) ha]
    | invoke r m => rfl
  | _ => rfl
theorem effE_mono {call call' : Callf} (hc : ∀ f args st r,call f args st = some r → call' f args st = some r) {M : List Nat} {o : Oper} {ρ : Operand → SV} {st : St} {r : SV × St × Nat} (h : effE P call M o ρ st = some r) :
    effE P call' M o ρ st = some r := by
  obtain ⟨dst,op,ty,pos,after,guard⟩ := o
  unfold effE at h ⊢
  cases op with
  | call c =>
    obtain ⟨callee,args,ts⟩ := c
    cases callee with
    | value f =>
      dsimp only at h ⊢
      unfold callE at h ⊢
      split at h
      · rename_i hf
        try simp only [hf]
        split at h
        · rename_i hb; rw [if_pos hb]; exact hc _ _ _ _ h
        · cases h
      · cases h
    | builtin b => exact h
    | invoke r m => exact h
  | makeMap t r => cases r <;> exact h
  | _ => exact h
noncomputable def opT (P : Program) (call : Callf) (M : List Nat) (o : Oper) (t : ET) (st : St) : ER :=
  match kindOf o.op with
  | .pure => (pureE P st (evT t) o.op).map fun x => (x,st,st.length)
  | .pick c x y => (pickE (evT t c) (evT t x) (evT t y)).map fun x => (x,st,st.length)
  | .eff => effE P call M o (evT t) st
def Knows (call call' : Callf) : Prop := ∀ f args st r,call f args st = some r → call' f args st = some r
theorem opT_spec {call call' : Callf} (hc : Knows call call') {M : List Nat} {o : Oper} {n : Nat} {t : ET} {env : List SV} (hR : Rl n t env) {st : St} {r : SV × St × Nat} (h : opT P call M o t st = some r) : opE P call' M o env st = some r := by
  unfold opT at h
  unfold opE
  rw [hR.ev] at h
  cases hk : kindOf o.op with
  | pure => rw [hk] at h; exact h
  | pick a b c => rw [hk] at h; exact h
  | eff => rw [hk] at h; exact effE_mono hc h
noncomputable def gSlotT (ds : List (Option Tmp)) (j : Nat) (t : ET) : SV :=
  match nthR ds j with
  | some (some d) => t.get d
  | _ => .any
theorem gSlotT_eq {ds : List (Option Tmp)} {j n : Nat} {t : ET} {env : List SV} (hR : Rl n t env) : gSlotT ds j t = gSlot ds j env := by
  unfold gSlotT gSlot
  rw [nthR_eq]
  cases h : ds[j]? with
  | none => rfl
  | some d => cases d with
    | none => rfl
    | some d => exact hR.get d
noncomputable def opsT (P : Program) (call : Callf) (M : List Nat) (ds : List (Option Tmp)) (n : Nat) (l : List Oper) : ET → St → Option (ET × St × Nat) :=
  List.rec (motive := fun _ => ET → St → Option (ET × St × Nat)) (fun t st => some (t,st,st.length))
    (fun o _ ih t st => match (match o.guard with
      | none => some true
      | some (j,want) => gE want (gSlotT ds j t)) with
    | some true => match opT P call M o t st with
      | some (x,s,c) => match ih (putT n t o.dst x) s with
        | some (t',s',c') => some (t',s',min c c')
        | none => none
      | none => none
    | some false => ih (putT n t o.dst skipV) st
    | none => none) l
theorem opsT_cons {call : Callf} {M : List Nat} {ds : List (Option Tmp)} {n : Nat} {o : Oper} {r : List Oper} {t : ET} {st : St} : opsT P call M ds n (o :: r) t st = (match (match o.guard with
      | none => some true
      | some (j,want) => gE want (gSlotT ds j t)) with
    | some true => match opT P call M o t st with
      | some (x,s,c) => match opsT P call M ds n r (putT n t o.dst x) s with
        | some (t',s',c') => some (t',s',min c c')
        | none => none
      | none => none
    | some false => opsT P call M ds n r (putT n t o.dst skipV) st
    | none => none) := rfl
theorem opsT_spec {call call' : Callf} (hc : Knows call call') {M : List Nat} {ds : List (Option Tmp)} {n : Nat} : ∀ (l : List Oper) (t : ET) (env : List SV) (st : St) (t' : ET) (s : St) (c : Nat),Rl n t env → opsT P call M ds n l t st = some (t',s,c) →
    ∃ e,opsE P call' M ds l env st = some (e,s,c) ∧ Rl n t' e
  | [],t,env,st,t',s,c,hR,h => by cases h; exact ⟨env,rfl,hR⟩
  | o :: r,t,env,st,t',s,c,hR,h => by
    have step : ∀ x s1 c1,opT P call M o t st = some (x,s1,c1) → (match opsT P call M ds n r (putT n t o.dst x) s1 with | some (t',s',c') => some (t',s',min c1 c') | none => none) = some (t',s,c) →
        ∃ e,(match opE P call' M o env st with | some (x,s,c) => (match opsE P call' M ds r (putE env o.dst x) s with | some (e,s',c') => some (e,s',min c c') | none => none) | none => none) = some (e,s,c) ∧ Rl n t' e := by
      intro x s1 c1 ho h
      split at h
      · rename_i t2 s2 c2 hr
        obtain ⟨e,h1,h2⟩ := opsT_spec hc r _ _ _ _ _ _ (hR.put o.dst x) hr
        cases h
        exact ⟨e,by rw [opT_spec hc hR ho]; simp only [h1],h2⟩
      · cases h
    rw [opsT_cons] at h
    simp only [opsE]
    cases hg : o.guard with
    | none =>
      simp only [hg] at h ⊢
      cases ho : opT P call M o t st with
      | none => rw [ho] at h; cases h
      | some x => rw [ho] at h; exact step _ _ _ ho h
    | some jw =>
      obtain ⟨j,want⟩ := jw
      simp only [hg,gSlotT_eq hR] at h ⊢
      cases hw : gE want (gSlot ds j env) with
      | none => rw [hw] at h; cases h
      | some b =>
        rw [hw] at h
        cases b with
        | true =>
          simp only at h ⊢
          cases ho : opT P call M o t st with
          | none => rw [ho] at h; cases h
          | some x => rw [ho] at h; exact step _ _ _ ho h
        | false => exact opsT_spec hc r _ _ _ _ _ _ (hR.put o.dst skipV) h
noncomputable def gAllT (ρ : Operand → SV) (l : List Operand) : Bool := allR (fun y => match ρ y with | .gd g _ => g | _ => true) l
theorem gAllT_eq (env : List SV) : ∀ l : List Operand,gAllT (ev env) l = gAllE env l
  | [] => rfl
  | y :: r => by
    show (bif _ then gAllT (ev env) r else false) = _
    rw [bif_and,gAllE,gAllT_eq env r]
    rfl
noncomputable def d1T (P : Program) (call : Callf) (M : List Nat) (ds : List (Option Tmp)) (o : Oper) (t : ET) (st : St) : Option SV :=
  match o.guard with
  | none => match kindOf o.op with
    | .pure => pureE P st (evT t) o.op
    | .pick c x y => pickE (evT t c) (evT t x) (evT t y)
    | .eff => if M.contains (o.dst.getD 0 + 2000000) then none else keptE st (effE P call M o (evT t) st)
  | some (j,want) => match gE want (gSlotT ds j t) with
    | some true => match kindOf o.op with
      | .pure => if gAllT (evT t) o.op.operands.toList then (pureE P st (fun y => strip (evT t y)) o.op).map (.gd true ·) else none
      | .pick c x y => (openE (evT t c)).bind fun c => (pickE c (evT t x) (evT t y)).map (.gd true ·)
      | .eff => if gAllT (evT t) o.op.operands.toList then (keptE st (effE P call M o (fun y => strip (evT t y)) st)).map (.gd true ·) else none
    | some false => match kindOf o.op with
      | .pure => some (.gd false (valCore P st (fun y => strip (evT t y)) o.op))
      | .pick c x y => some (.gd false (pickV (strip (evT t c)) (evT t x) (evT t y)))
      | .eff => some skipV
    | none => none
theorem keptE_mono {call call' : Callf} (hc : Knows call call') {M : List Nat} {o : Oper} {ρ ρ' : Operand → SV} (hρ : ∀ y ∈ o.op.operands,ρ y = ρ' y) {st : St} {X : SV} (h : keptE st (effE P call M o ρ st) = some X) :
    keptE st (effE P call' M o ρ' st) = some X := by
  rw [← effE_congr hρ]
  cases he : effE P call M o ρ st with
  | none => rw [he] at h; cases h
  | some r => rw [he] at h; rw [effE_mono hc he]; exact h
theorem d1T_spec {call call' : Callf} (hc : Knows call call') {M : List Nat} {ds : List (Option Tmp)} {o : Oper} {n : Nat} {t : ET} {env : List SV} (hR : Rl n t env) {st : St} {X : SV} (h : d1T P call M ds o t st = some X) :
    d1E P call' M ds o env st = some X := by
  have hm : ∀ y ∈ o.op.operands,ev env y = ev (onlyAt (opTmps o.op.operands.toList) 0 env) y := fun y hy => (opTmps_only (by simpa using hy)).symm
  have hs : ∀ y ∈ o.op.operands,strip (ev env y) = ev (stripAt (opTmps o.op.operands.toList) 0 (onlyAt (opTmps o.op.operands.toList) 0 env)) y := fun y hy => (opTmps_strip (by simpa using hy)).symm
  unfold d1T at h
  unfold d1E
  simp only [hR.ev,gSlotT_eq hR] at h
  split at h
  · rename_i hg
    simp only [hg]
    cases hk : kindOf o.op with
    | pure => rw [hk] at h; exact h
    | pick a b c => rw [hk] at h; exact h
    | eff =>
      rw [hk] at h
      simp only at h ⊢
      split at h
      · cases h
      · rename_i hno
        rw [if_neg hno]
        exact keptE_mono hc hm h
  · rename_i j want hg
    simp only [hg]
    split at h
    · rename_i hgd
      simp only [hgd]
      cases hk : kindOf o.op with
      | pure => rw [hk] at h; rw [gAllT_eq] at h; exact h
      | pick a b c => rw [hk] at h; exact h
      | eff =>
        rw [hk,gAllT_eq] at h
        simp only at h ⊢
        split at h
        · rename_i ha
          rw [if_pos ha]
          obtain ⟨v,h1,h2⟩ := map_some h
          rw [keptE_mono hc hs h1]
          exact congrArg some h2
        · cases h
    · rename_i hgd
      simp only [hgd]
      cases hk : kindOf o.op with
      | pure => rw [hk] at h; exact h
      | pick a b c => rw [hk] at h; exact h
      | eff => rw [hk] at h; exact h
    · cases h
noncomputable def drawLT (P : Program) (call : Callf) (M : List Nat) (ds : List (Option Tmp)) (n : Nat) (st : St) (l : List Oper) : ET → Option ET :=
  List.rec (motive := fun _ => ET → Option ET) (fun t => some t) (fun o _ ih t => match d1T P call M ds o t st with
    | some x => ih (putT n t o.dst x)
    | none => none) l
theorem drawLT_cons {call : Callf} {M : List Nat} {ds : List (Option Tmp)} {n : Nat} {o : Oper} {r : List Oper} {t : ET} {st : St} : drawLT P call M ds n st (o :: r) t = (match d1T P call M ds o t st with
    | some x => drawLT P call M ds n st r (putT n t o.dst x)
    | none => none) := rfl
theorem drawLT_spec {call call' : Callf} (hc : Knows call call') {M : List Nat} {ds : List (Option Tmp)} {n : Nat} {st : St} : ∀ (l : List Oper) (t : ET) (env : List SV) (t' : ET),Rl n t env → drawLT P call M ds n st l t = some t' →
    ∃ e,drawL P call' M ds l env st = some e ∧ Rl n t' e
  | [],t,env,t',hR,h => by cases h; exact ⟨env,rfl,hR⟩
  | o :: r,t,env,t',hR,h => by
    rw [drawLT_cons] at h
    simp only [drawL]
    split at h
    · rename_i x hx
      rw [d1T_spec hc hR hx]
      exact drawLT_spec hc r _ _ _ (hR.put o.dst x) h
    · cases h
structure TET where
  i : Nat
  o : Oper
  t : ET
  X : SV
  turned : Bool
noncomputable def traceTT (P : Program) (call : Callf) (M : List Nat) (ds : List (Option Tmp)) (n : Nat) (l : List Oper) : Nat → ET → St → Option (List TET × List St × ET × St × Nat) :=
  List.rec (motive := fun _ => Nat → ET → St → Option (List TET × List St × ET × St × Nat)) (fun _ t st => some ([],[],t,st,st.length))
    (fun o _ ih i t st => match d1T P call M ds o t st with
      | some x => match ih (i + 1) (putT n t o.dst x) st with
        | some (tr,ss,e,s,m) => some (⟨i,o,t,x,false⟩ :: tr,ss,e,s,m)
        | none => none
      | none => match o.guard with
        | some _ => none
        | none => match effE P call M o (evT t) st with
          | some (x,s,c) => match ih (i + 1) (putT n t o.dst x) s with
            | some (tr,ss,e,s',m) => some (⟨i,o,t,x,true⟩ :: tr,s :: ss,e,s',min c m)
            | none => none
          | none => none) l
theorem traceTT_cons {call : Callf} {M : List Nat} {ds : List (Option Tmp)} {n : Nat} {o : Oper} {r : List Oper} {i : Nat} {t : ET} {st : St} : traceTT P call M ds n (o :: r) i t st = (match d1T P call M ds o t st with
      | some x => match traceTT P call M ds n r (i + 1) (putT n t o.dst x) st with
        | some (tr,ss,e,s,m) => some (⟨i,o,t,x,false⟩ :: tr,ss,e,s,m)
        | none => none
      | none => match o.guard with
        | some _ => none
        | none => match effE P call M o (evT t) st with
          | some (x,s,c) => match traceTT P call M ds n r (i + 1) (putT n t o.dst x) s with
            | some (tr,ss,e,s',m) => some (⟨i,o,t,x,true⟩ :: tr,s :: ss,e,s',min c m)
            | none => none
          | none => none) := rfl
noncomputable def turnersT (l : List TET) : List Nat := List.rec [] (fun t _ ih => bif t.turned then t.i :: ih else ih) l
noncomputable def sameTT (P : Program) (call : Callf) (M : List Nat) (ds : List (Option Tmp)) (t : TET) (l : List St) : Bool :=
  allR (fun s => match d1T P call M ds t.o t.t s with | some x => eqB x t.X | none => false) l
noncomputable def goodTT (P : Program) (call : Callf) (M : List Nat) (ds : List (Option Tmp)) (ks : List Nat) (L : Nat → List St) (t : TET) : Bool :=
  match t.turned with
  | true => true
  | false => sameTT P call M ds t (L t.i)
noncomputable def drawTT (P : Program) (call : Callf) (M : List Nat) (n : Nat) (ops : Array Oper) (t : ET) (st : St) : Option (ET × St × Nat) :=
  match traceTT P call M (mapR (·.dst) ops.toList) n ops.toList 0 t st with
  | some (tr,ss,e,s,m) =>
    if ordOk ops (turnersT tr) && (turnersT tr).all (fun i => Nat.blt i ops.size) &&
        allR (goodTT P call M (mapR (·.dst) ops.toList) (turnersT tr) (meets ops st ((turnersT tr).zip ss))) tr then some (e,s,m) else none
  | none => none
inductive Recs (n : Nat) : Nat → List TET → List TE → Prop where
  | nil (i : Nat) : Recs n i [] []
  | cons {i : Nat} {o : Oper} {t : ET} {env : List SV} {X : SV} {b : Bool} {tr : List TET} {tr' : List TE} : Rl n t env → Recs n (i + 1) tr tr' → Recs n i (⟨i,o,t,X,b⟩ :: tr) (⟨i,o,env,X,b⟩ :: tr')
theorem Recs.turners {n i : Nat} {tr : List TET} {tr' : List TE} (h : Recs n i tr tr') : turnersT tr = AL.turners tr' := by
  induction h with
  | nil => rfl
  | cons hR _ ih =>
    rename_i i o t env X b tr tr' _
    show (bif b then i :: turnersT tr else turnersT tr) = AL.turners (_ :: tr')
    rw [ih]
    cases b <;> rfl
theorem turners_ge {n i : Nat} {tr : List TET} {tr' : List TE} (h : Recs n i tr tr') : ∀ k ∈ AL.turners tr',i ≤ k := by
  induction h with
  | nil => intro k hk; cases hk
  | cons hR _ ih =>
    rename_i i o t env X b tr tr' _
    intro k hk
    cases b with
    | true =>
      simp only [AL.turners,if_true,List.mem_cons] at hk
      rcases hk with rfl | hk
      · exact Nat.le_refl _
      · have := ih k hk; omega
    | false =>
      simp only [AL.turners,Bool.false_eq_true,if_false] at hk
      have := ih k hk; omega
theorem Recs.told {n i : Nat} {tr : List TET} {tr' : List TE} (h : Recs n i tr tr') : ∀ x ∈ tr',(AL.turners tr').contains x.i = x.turned := by
  induction h with
  | nil => intro x hx; cases hx
  | cons hR hr ih =>
    rename_i i o t env X b tr tr'
    intro x hx
    have hge := turners_ge hr
    have hne : ∀ y ∈ tr',i + 1 ≤ y.i := by
      clear ih hx hge
      generalize hk : i + 1 = k at hr ⊢
      have : ∀ {k : Nat} {tr : List TET} {tr' : List TE},Recs n k tr tr' → ∀ y ∈ tr',k ≤ y.i := by
        intro k tr tr' h
        induction h with
        | nil => intro y hy; cases hy
        | cons _ _ ih =>
          intro y hy
          cases hy with
          | head => exact Nat.le_refl _
          | tail _ hy => have := ih y hy; omega
      exact this hr
    cases hx with
    | head =>
      cases b with
      | true => simp [AL.turners]
      | false =>
        simp only [AL.turners,Bool.false_eq_true,if_false]
        cases hc : (AL.turners tr').contains i with
        | false => rfl
        | true =>
          have := hge i (by simpa using hc)
          omega
    | tail _ hx =>
      have h1 := ih x hx
      have h2 := hne x hx
      cases b with
      | true =>
        simp only [AL.turners,if_true]
        rw [List.contains_cons,h1]
        have : (x.i == i) = false := by simp; omega
        rw [this]; rfl
      | false => simp only [AL.turners,Bool.false_eq_true,if_false]; exact h1
theorem d1T_none {call call' : Callf} (hc : Knows call call') {M : List Nat} {ds : List (Option Tmp)} {o : Oper} {n : Nat} {t : ET} {env : List SV} (hR : Rl n t env) {st : St} {r : SV × St × Nat} (hg : o.guard = none)
    (h : d1T P call M ds o t st = none) (he : effE P call M o (evT t) st = some r) : d1E P call' M ds o env st = none ∧ effE P call' M o (ev (onlyAt (opTmps o.op.operands.toList) 0 env)) st = some r := by
  have hm : ∀ y ∈ o.op.operands,ev env y = ev (onlyAt (opTmps o.op.operands.toList) 0 env) y := fun y hy => (opTmps_only (by simpa using hy)).symm
  rw [hR.ev] at he
  have he' := effE_mono hc he
  rw [effE_congr hm] at he'
  refine ⟨?_,he'⟩
  unfold d1T at h
  unfold d1E
  simp only [hg,hR.ev] at h ⊢
  cases hk : kindOf o.op with
  | pure => rw [hk] at h; exact h
  | pick a b c => rw [hk] at h; exact h
  | eff => rw [hk] at h; simp only at h ⊢; rw [he']; rw [he] at h; exact h
theorem traceTT_spec {call call' : Callf} (hc : Knows call call') {M : List Nat} {ds : List (Option Tmp)} {n : Nat} : ∀ (l : List Oper) (i : Nat) (t : ET) (env : List SV) (st : St) (tr : List TET) (ss : List St) (t' : ET) (s : St) (m : Nat),
    Rl n t env → traceTT P call M ds n l i t st = some (tr,ss,t',s,m) → ∃ tr' e,traceT P call' M ds i l env st = some (tr',ss,e,s,m) ∧ Recs n i tr tr' ∧ Rl n t' e
  | [],i,t,env,st,tr,ss,t',s,m,hR,h => by cases h; exact ⟨[],env,rfl,.nil i,hR⟩
  | o :: r,i,t,env,st,tr,ss,t',s,m,hR,h => by
    rw [traceTT_cons] at h
    simp only [traceT]
    split at h
    · rename_i x hx
      rw [d1T_spec hc hR hx]
      split at h
      · rename_i tr1 ss1 t1 s1 m1 hr
        obtain ⟨tr',e,h1,h2,h3⟩ := traceTT_spec hc r _ _ _ _ _ _ _ _ _ (hR.put o.dst x) hr
        cases h
        exact ⟨_,e,by simp only [h1],.cons hR h2,h3⟩
      · cases h
    · rename_i hnone
      split at h
      · cases h
      · rename_i hg
        split at h
        · rename_i x s1 c he
          obtain ⟨k1,k2⟩ := d1T_none hc hR hg hnone he
          rw [k1]
          simp only [hg,k2]
          split at h
          · rename_i tr1 ss1 t1 s2 m1 hr
            obtain ⟨tr',e,h1,h2,h3⟩ := traceTT_spec hc r _ _ _ _ _ _ _ _ _ (hR.put o.dst x) hr
            cases h
            exact ⟨_,e,by simp only [h1],.cons hR h2,h3⟩
          · cases h
        · cases h
theorem sameTT_spec {call call' : Callf} (hc : Knows call call') {M : List Nat} {ds : List (Option Tmp)} {i n : Nat} {o : Oper} {t : ET} {env : List SV} {X : SV} {b b' : Bool} (hR : Rl n t env) : ∀ (l : List St),sameTT P call M ds ⟨i,o,t,X,b⟩ l = true → sameT P call' M ds ⟨i,o,env,X,b'⟩ l = true
  | [],_ => rfl
  | s :: r,h => by
    have h' : ((match d1T P call M ds o t s with | some x => eqB x X | none => false) && sameTT P call M ds ⟨i,o,t,X,b⟩ r) = true := by
      rw [← bif_and]; exact h
    simp only [Bool.and_eq_true] at h'
    simp only [sameT,Bool.and_eq_true]
    refine ⟨?_,sameTT_spec hc hR r h'.2⟩
    have h1 := h'.1
    split at h1
    · rename_i x hx; rw [d1T_spec hc hR hx]; exact h1
    · cases h1
theorem goodTT_spec {call call' : Callf} (hc : Knows call call') {M : List Nat} {ds : List (Option Tmp)} {ks : List Nat} {L : Nat → List St} {n i : Nat} {tr : List TET} {tr' : List TE} (h : Recs n i tr tr') :
    allR (goodTT P call M ds ks L) tr = true → (∀ x ∈ tr',ks.contains x.i = x.turned) → tr'.all (goodT P call' M ds ks L) = true := by
  induction h with
  | nil => intro _ _; rfl
  | cons hR _ ih =>
    rename_i i o t env X b tr tr' _
    intro ha ht
    rw [allR_eq,List.all_cons,Bool.and_eq_true,← allR_eq] at ha
    rw [List.all_cons,Bool.and_eq_true]
    refine ⟨?_,ih ha.2 fun x hx => ht x (List.mem_cons_of_mem _ hx)⟩
    have h1 := ht _ List.mem_cons_self
    have h2 := ha.1
    cases b with
    | true => simp only [goodT]; exact h1
    | false =>
      simp only [goodT,goodTT] at h1 h2 ⊢
      rw [h1]
      exact sameTT_spec hc hR _ h2
theorem drawTT_spec {call call' : Callf} (hc : Knows call call') {M : List Nat} {n : Nat} {ops : Array Oper} {t : ET} {env : List SV} {st : St} {t' : ET} {s : St} {m : Nat} (hR : Rl n t env)
    (h : drawTT P call M n ops t st = some (t',s,m)) : ∃ e,drawT P call' M ops env st = some (e,s,m) ∧ Rl n t' e := by
  unfold drawTT at h
  split at h
  · rename_i tr ss t1 s1 m1 htr
    split at h
    · rename_i hcond
      cases h
      simp only [Bool.and_eq_true] at hcond
      obtain ⟨⟨h1,h2⟩,h3⟩ := hcond
      rw [mapR_eq] at htr h3
      obtain ⟨tr',e,k1,k2,k3⟩ := traceTT_spec hc _ _ _ _ _ _ _ _ _ _ hR htr
      rw [k2.turners] at h1 h2 h3
      refine ⟨e,?_,k3⟩
      unfold drawT
      rw [k1]
      simp only
      rw [if_pos]
      simp only [Bool.and_eq_true]
      exact ⟨⟨h1,h2⟩,goodTT_spec hc k2 h3 k2.told⟩
    · cases h
  · cases h
inductive CRT where
  | fail
  | go (e : Exit) (t : ET) (s : St) (c : Nat)
noncomputable def CRT.also (c : Nat) (r : CRT) : CRT := CRT.rec .fail (fun e t s c' => .go e t s (min c c')) r
noncomputable def stepT (P : Program) (call : Callf) (M : List Nat) (n : Nat) (rec : Code → ET → St → CRT) (c : Code) (t : ET) (st : St) : CRT :=
  match c with
  | .skip => .go .normal t st st.length
  | .region _ ops draw => match draw with
    | false => match opsT P call M (mapR (·.dst) ops.toList) n ops.toList t st with
      | some (e,s,c) => .go .normal e s c
      | none => .fail
    | true => if flowOk ops then
        match drawLT P call M (mapR (·.dst) ops.toList) n st ops.toList t with
        | some e => .go .normal e st st.length
        | none => match drawTT P call M n ops t st with
          | some (e,s,m) => .go .normal e s m
          | none => .fail
      else .fail
  | .seq a b => match rec a t st with
    | .go .normal e s c => (rec b e s).also c
    | r => r
  | .cond c x y => match evT t c with
    | .sc (.bool true) => rec x t st
    | .sc (.bool false) => rec y t st
    | _ => .fail
  | .block id c => match rec c t st with
    | .go (.exit id') e s c => if Nat.beq id' id then .go .normal e s c else .go (.exit id') e s c
    | r => r
  | .loop c => match rec c t st with
    | .go .normal e s cl => (rec (.loop c) e s).also cl
    | r => r
  | .exit id => .go (.exit id) t st st.length
  | .ret => .go .ret t st st.length
  | .label _ => .go .normal t st st.length
  | _ => .fail
noncomputable def aResT1 (P : Program) (t : ET) (st : St) : ResultVar → Option SV
  | .tmp i => some (t.get i)
  | .cell a T => match t.get a with
    | .ptr id off => match st[id]? with
      | some (.cells l) => cellsOf P T (l.drop off)
      | _ => none
    | .ref l => cellsOf P T l
    | _ => none
noncomputable def aResT (P : Program) (t : ET) (st : St) (l : List ResultVar) : Option (List SV) :=
  List.rec (some []) (fun r _ ih => (aResT1 P t st r).bind fun x => ih.map (x :: ·)) l
theorem aResT_eq {n : Nat} {t : ET} {env : List SV} (hR : Rl n t env) {st : St} : ∀ l : List ResultVar,aResT P t st l = aResL P env st l
  | [] => rfl
  | r :: l => by
    show (aResT1 P t st r).bind _ = (aRes1 P env st r).bind _
    have e : aResT1 P t st r = aRes1 P env st r := by
      cases r with
      | tmp i => simp only [aResT1,aRes1,hR.get]
      | cell a T => simp only [aResT1,aRes1,hR.get]; rfl
    rw [e]
    congr 1
    funext x
    exact congrArg _ (aResT_eq hR l)
noncomputable def bodyFT (P : Program) (cfg : Cfg) (ev : List Nat → Nat → Code → ET → St → CRT) : Callf := fun f args st =>
  match cfg.sum f with
  | some m => (m args).map fun x => (x,st,st.length)
  | none => match P.funcs[f]? with
    | some fn => match fn.body with
      | some c => if Nat.ble (lenR args) fn.ntmps then
        match ev (cfg.M f) fn.ntmps c (entryT fn.ntmps args) st with
        | .go e t s c =>
          let fin : ER := match aResT P t s fn.results.toList with
            | some l => finT (cfg.keep f) st (oneOf l) s c
            | none => none
          match e with
          | .normal => fin
          | .ret => fin
          | _ => none
        | .fail => none
        else none
      | none => none
    | none => none
noncomputable def runFT (P : Program) (cfg : Cfg) (ev : List Nat → Nat → Code → ET → St → CRT) : Callf := fun f args st =>
  match cfg.plug f with
  | some g => g (bodyFT P cfg ev) args st
  | none => bodyFT P cfg ev f args st
end Go.AL
namespace Go.AL
variable {P : Program}
noncomputable def evCT (P : Program) (cfg : Cfg) (k : Nat) : List Nat → Nat → Code → ET → St → CRT :=
  Nat.rec (motive := fun _ => List Nat → Nat → Code → ET → St → CRT) (fun _ _ _ _ _ => .fail) (fun _ ih M n c t st => stepT P (runFT P cfg ih) M n (ih M n) c t st) k
theorem evCT_succ {cfg : Cfg} (k : Nat) (M : List Nat) (n : Nat) (c : Code) (t : ET) (st : St) : evCT P cfg (k + 1) M n c t st = stepT P (runFT P cfg (evCT P cfg k)) M n (evCT P cfg k M n) c t st := rfl
def SoundT (P : Program) (ev : List Nat → Nat → Code → ET → St → CRT) : Prop :=
  ∀ M n c t env st e t' s cl,Rl n t env → ev M n c t st = .go e t' s cl → ∃ env',AWp P c (fun e1 env1 s1 => e1 = e ∧ env1 = env' ∧ s1 = s) env st ∧ Keeps st s cl ∧ Rl n t' env'
theorem bodyFT_spec {cfg : Cfg} (hcfg : cfg.ok P) {ev : List Nat → Nat → Code → ET → St → CRT} (hev : SoundT P ev) : SoundCall P (bodyFT P cfg ev) := by
  intro f args st x s c h
  unfold bodyFT at h
  split at h
  · rename_i m hm
    obtain ⟨y,h1,h2⟩ := map_some h
    cases h2
    exact ⟨hcfg.1 f m hm args _ h1 _,Keeps.same _ _⟩
  · split at h
    · rename_i fn hfn
      split at h
      · rename_i cd hb
        split at h
        · rename_i hle
          rw [lenR_eq] at hle
          have hR := entry_rl (n := fn.ntmps) (args := args) (by simpa using hle)
          split at h
          · rename_i e t s' c' hcd
            obtain ⟨env',k1,k2,k3⟩ := hev _ _ _ _ _ _ _ _ _ _ hR hcd
            have fin : ∀ l,(e = .normal ∨ e = .ret) → aResL P env' s' fn.results.toList = some l → finE (cfg.keep f) st (oneOf l) s' c' = some (x,s,c) →
                ACalls P f args (fun x' s'_1 => x' = x ∧ s'_1 = s) st ∧ Keeps st s c := by
              intro l he hl hf
              refine fin_spec (acalls_of hfn hb (k1.mono fun e1 env1 s1 ⟨q1,q2,q3⟩ => ?_)) k2 hf
              subst q1; subst q2; subst q3
              exact ⟨by rcases he with rfl | rfl <;> trivial,l,hl,rfl,rfl⟩
            simp only [aResT_eq k3,finT_eq] at h
            cases e with
            | normal =>
              simp only at h
              split at h
              · rename_i l hl; exact fin l (.inl rfl) hl h
              · cases h
            | ret =>
              simp only at h
              split at h
              · rename_i l hl; exact fin l (.inr rfl) hl h
              · cases h
            | _ => simp only at h; cases h
          · cases h
        · cases h
      · cases h
    · cases h
theorem runFT_spec {cfg : Cfg} (hcfg : cfg.ok P) {ev : List Nat → Nat → Code → ET → St → CRT} (hev : SoundT P ev) : SoundCall P (runFT P cfg ev) := by
  intro f args st x s c h
  unfold runFT at h
  split at h
  · rename_i g hg
    exact hcfg.2 f g hg _ (bodyFT_spec hcfg hev) args st x s c h
  · exact bodyFT_spec hcfg hev f args st x s c h
theorem alsoT_go {c : Nat} {r : CRT} {e : Exit} {t : ET} {s : St} {m : Nat} (h : r.also c = .go e t s m) : ∃ m',r = .go e t s m' ∧ m = min c m' := by
  cases r with
  | fail => cases h
  | go e' t' s' m' =>
    have : CRT.go e' t' s' (min c m') = .go e t s m := h
    cases this
    exact ⟨m',rfl,rfl⟩
theorem evCT_spec {cfg : Cfg} (hcfg : cfg.ok P) (hmix : P.follows .mixedOrders = true) (k : Nat) : SoundT P (evCT P cfg k) := by
  induction k using Nat.strongRecOn with
  | _ k ih =>
    cases k with
    | zero => intro M n c t env st e t' s cl hR h; cases h
    | succ k =>
      have ihn := ih k (Nat.lt_succ_self k)
      have hcall := runFT_spec hcfg ihn
      have hself : Knows (runFT P cfg (evCT P cfg k)) (runFT P cfg (evCT P cfg k)) := fun _ _ _ _ h => h
      intro M n c t env st e t' s cl hR h
      rw [evCT_succ] at h
      cases c with
      | skip => simp only [stepT] at h; cases h; exact ⟨env,awp_skip ⟨rfl,rfl,rfl⟩,Keeps.same _ _,hR⟩
      | region id ops draw =>
        simp only [stepT,mapR_eq] at h
        cases draw with
        | false =>
          simp only at h
          split at h
          · rename_i t1 s1 m1 ho
            cases h
            obtain ⟨e',h1,h2⟩ := opsT_spec hself _ _ _ _ _ _ _ hR ho
            obtain ⟨k1,k2⟩ := opsE_spec hcall (K := fun e s => Exit.normal = Exit.normal ∧ e = e' ∧ s = _) 0 ops.toList env st _ _ _ rfl h1 ⟨rfl,rfl,rfl⟩
            refine ⟨e',awp_region ?_,k2,h2⟩
            rw [List.range_eq_range']
            simpa using k1
          · cases h
        | true =>
          simp only at h
          split at h
          · rename_i hf
            split at h
            · rename_i t1 ho
              cases h
              obtain ⟨e',h1,h2⟩ := drawLT_spec hself _ _ _ _ hR ho
              exact ⟨e',awp_draw M hmix hf (drawL_spec hcall _ _ _ h1 ⟨rfl,rfl,rfl⟩),Keeps.same _ _,h2⟩
            · split at h
              · rename_i t1 s1 m1 ho
                cases h
                obtain ⟨e',h1,h2⟩ := drawTT_spec hself hR ho
                obtain ⟨k1,k2⟩ := drawT_spec hcall hmix (id := id) (Q := fun e1 env1 s1 => e1 = .normal ∧ env1 = e' ∧ s1 = _) hf h1 ⟨rfl,rfl,rfl⟩
                exact ⟨e',k1,k2,h2⟩
              · cases h
          · cases h
      | seq a b =>
        simp only [stepT] at h
        split at h
        · rename_i t1 s1 m1 ha
          obtain ⟨m2,hb,hcl⟩ := alsoT_go h
          obtain ⟨e1,k1,k2,r1⟩ := ihn _ _ _ _ _ _ _ _ _ _ hR ha
          obtain ⟨e2,k3,k4,r2⟩ := ihn _ _ _ _ _ _ _ _ _ _ r1 hb
          refine ⟨e2,awp_seq (k1.mono fun e env s ⟨q1,q2,q3⟩ => ?_),by rw [hcl]; exact k2.trans k4,r2⟩
          subst q1; subst q2; subst q3
          exact k3
        · rename_i hne
          obtain ⟨e1,k1,k2,r1⟩ := ihn _ _ _ _ _ _ _ _ _ _ hR h
          refine ⟨e1,awp_seq (k1.mono fun e1 env1 s1 ⟨q1,q2,q3⟩ => ?_),k2,r1⟩
          subst q1; subst q2; subst q3
          cases e1 with
          | normal => exact absurd h (hne _ _ _)
          | _ => exact ⟨rfl,rfl,rfl⟩
      | cond cc x y =>
        simp only [stepT,hR.ev] at h
        split at h
        · rename_i hc
          obtain ⟨e1,k1,k2,r1⟩ := ihn _ _ _ _ _ _ _ _ _ _ hR h
          exact ⟨e1,awp_cond hc (fun _ => k1) (fun h => by cases h),k2,r1⟩
        · rename_i hc
          obtain ⟨e1,k1,k2,r1⟩ := ihn _ _ _ _ _ _ _ _ _ _ hR h
          exact ⟨e1,awp_cond hc (fun h => by cases h) (fun _ => k1),k2,r1⟩
        · cases h
      | block id c =>
        simp only [stepT] at h
        split at h
        · rename_i id' t1 s1 m1 hc
          obtain ⟨e1,k1,k2,r1⟩ := ihn _ _ _ _ _ _ _ _ _ _ hR hc
          split at h
          · rename_i hid
            have hid := Nat.eq_of_beq_eq_true hid
            cases h
            refine ⟨e1,awp_block (k1.mono fun e env s ⟨q1,q2,q3⟩ => ?_),k2,r1⟩
            subst q1; subst q2; subst q3
            simp only [blockQ,hid,if_true]
            exact ⟨trivial,trivial,trivial⟩
          · rename_i hid
            cases h
            refine ⟨e1,awp_block (k1.mono fun e env s ⟨q1,q2,q3⟩ => ?_),k2,r1⟩
            subst q1; subst q2; subst q3
            have : ¬ id' = id := fun e => hid (by rw [e]; exact Nat.beq_refl id)
            simp only [blockQ,this,if_false]
            exact ⟨trivial,trivial,trivial⟩
        · rename_i hne
          obtain ⟨e1,k1,k2,r1⟩ := ihn _ _ _ _ _ _ _ _ _ _ hR h
          refine ⟨e1,awp_block (k1.mono fun e1 env1 s1 ⟨q1,q2,q3⟩ => ?_),k2,r1⟩
          subst q1; subst q2; subst q3
          cases e1 with
          | exit id' => exact absurd h (hne _ _ _ _)
          | _ => exact ⟨rfl,rfl,rfl⟩
      | loop c =>
        simp only [stepT] at h
        have hfull : evCT P cfg (k + 1) M n (.loop c) t st = .go e t' s cl := by rw [evCT_succ]; simp only [stepT]; exact h
        have key : ∀ m t env st cl,m ≤ k + 1 → Rl n t env → evCT P cfg m M n (.loop c) t st = .go e t' s cl → ∃ env',Rl n t' env' ∧ Keeps st s cl ∧
            ∃ I : Nat → List SV → St → Prop,I m env st ∧ ∀ q e1 s1,I q e1 s1 → AWp P c (thenQ (fun e2 s2 => ∃ q',q' < q ∧ I q' e2 s2) (fun e1 env1 s1 => e1 = e ∧ env1 = env' ∧ s1 = s)) e1 s1 := by
          intro m
          induction m with
          | zero => intro t env st cl _ _ h; cases h
          | succ m ihm =>
            intro t env st cl hm hR h
            have ihs := ih m (by omega)
            rw [evCT_succ] at h
            simp only [stepT] at h
            split at h
            · rename_i t1 s1 m1 hc
              obtain ⟨m2,hb,hcl⟩ := alsoT_go h
              obtain ⟨e1,k1,k2,r1⟩ := ihs _ _ _ _ _ _ _ _ _ _ hR hc
              obtain ⟨env',r2,k4,I,i1,i2⟩ := ihm _ _ _ _ (by omega) r1 hb
              refine ⟨env',r2,by rw [hcl]; exact k2.trans k4,fun q e0 s0 => (q = m + 1 ∧ e0 = env ∧ s0 = st) ∨ (q < m + 1 ∧ I q e0 s0),.inl ⟨rfl,rfl,rfl⟩,?_⟩
              rintro q e0 s0 (⟨rfl,rfl,rfl⟩ | ⟨hq,hi⟩)
              · refine k1.mono fun e2 env2 s2 ⟨q1,q2,q3⟩ => ?_
                subst q1; subst q2; subst q3
                exact ⟨m,Nat.lt_succ_self m,.inr ⟨Nat.lt_succ_self m,i1⟩⟩
              · refine (i2 q e0 s0 hi).mono fun e2 env2 s2 hq2 => ?_
                cases e2 with
                | normal =>
                  obtain ⟨q',h1,h2⟩ := hq2
                  exact ⟨q',h1,.inr ⟨by omega,h2⟩⟩
                | _ => exact hq2
            · rename_i hne
              obtain ⟨e1,k1,k2,r1⟩ := ihs _ _ _ _ _ _ _ _ _ _ hR h
              refine ⟨e1,r1,k2,fun q e0 s0 => e0 = env ∧ s0 = st,⟨rfl,rfl⟩,?_⟩
              rintro q e0 s0 ⟨rfl,rfl⟩
              refine k1.mono fun e2 env2 s2 ⟨q1,q2,q3⟩ => ?_
              subst q1; subst q2; subst q3
              cases e2 with
              | normal => exact absurd h (hne _ _ _)
              | _ => exact ⟨rfl,rfl,rfl⟩
        obtain ⟨env',r1,k1,I,i1,i2⟩ := key (k + 1) t env st cl (Nat.le_refl _) hR hfull
        exact ⟨env',awp_loop I i1 i2,k1,r1⟩
      | exit id => simp only [stepT] at h; cases h; exact ⟨env,awp_exit ⟨rfl,rfl,rfl⟩,Keeps.same _ _,hR⟩
      | ret => simp only [stepT] at h; cases h; exact ⟨env,awp_ret ⟨rfl,rfl,rfl⟩,Keeps.same _ _,hR⟩
      | label l => simp only [stepT] at h; cases h; exact ⟨env,awp_label ⟨rfl,rfl,rfl⟩,Keeps.same _ _,hR⟩
      | _ => simp only [stepT] at h; cases h
noncomputable def runCT (P : Program) (cfg : Cfg) (n : Nat) (f : FuncId) (args : List SV) (st : St) : ER := runFT P cfg (evCT P cfg n) f args st
noncomputable def checkT (P : Program) (cfg : Cfg) (n : Nat) (f : FuncId) (args : List SV) (y : SV) : Bool :=
  bif idsRL 0 args then (match runCT P cfg n f args [] with
  | some (x,[],0) => bif idsR 0 x then leB x y else false
  | _ => false) else false
theorem idsRL_all {n : Nat} : ∀ {l : List SV},idsRL n l = true → ∀ a ∈ l,Ids n a
  | x :: r,h,a,ha => by
    have h' : (idsR n x && idsRL n r) = true := by rw [← bif_and]; exact h
    simp only [Bool.and_eq_true] at h'
    cases ha with
    | head => exact idsB_spec _ _ (by rw [← idsR_eq]; exact h'.1)
    | tail _ ha => exact idsRL_all h'.2 a ha
theorem acalls_checkT {cfg : Cfg} (hcfg : cfg.ok P) (hmix : P.follows .mixedOrders = true) (n : Nat) {f : FuncId} {args : List SV} {y : SV} {K : SV → St → Prop} {st : St}
    (h : checkT P cfg n f args y = true) (hk : K y st) : ACalls P f args K st := by
  unfold checkT at h
  cases ha : idsRL 0 args with
  | false => rw [ha] at h; cases h
  | true =>
    rw [ha] at h
    simp only [cond_true] at h
    split at h
    · rename_i x hx
      cases hi : idsR 0 x with
      | false => rw [hi] at h; cases h
      | true =>
        rw [hi] at h
        have hr := (runFT_spec hcfg (evCT_spec hcfg hmix n) f args [] x [] 0 hx).1
        exact acalls_le (acalls_frame hr (idsRL_all ha) (K' := fun x s => ∃ y,SVle x y ∧ K y s) fun x' s' ⟨e1,e2⟩ => by
          rw [e1]; exact ⟨idsB_spec _ _ (by rw [← idsR_eq]; exact hi),y,leB_spec _ _ h,hk⟩)
    · cases h
end Go.AL
