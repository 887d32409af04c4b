/- The abstract layer, part 17: weaker values, reckoned. -/
import Derived.Test.YtjkhpblfgcnpaaaAl16
set_option linter.unusedVariables false
namespace Go.AL
variable {P : Program}

noncomputable def scB : Value → Value → Bool
  | .int k n, .int k' n' => decide (k = k') && eqE n n'
  | .bool b, .bool b' => b == b'
  | .string a, .string b => strEq a b
  | .pointer none, .pointer none => true
  | .nilFunc, .nilFunc => true
  | _, _ => false

theorem scB_spec {v v' : Value} (h : scB v v' = true) : v = v' := by
  unfold scB at h
  split at h
  · simp only [Bool.and_eq_true, decide_eq_true_eq, eqE_iff, beq_iff_eq] at h
    rw [h.1, h.2]
  · simp only [beq_iff_eq] at h; rw [h]
  · rename_i a b
    rw [strEq_data] at h
    simp only [beq_iff_eq] at h
    have : a = b := ByteArray.ext (Array.ext' h)
    rw [this]
  · rfl
  · rfl
  · cases h

def modeLe : Mode → Mode → Bool
  | _, .imm => true
  | .full, .full => true
  | _, _ => false

/-- One cell is as many as it is told. -/
def oneB : SV → Bool
  | .agg _ => false
  | _ => true

mutual
/-- Is the second value weaker? -/
noncomputable def leB : SV → SV → Bool
  | _, .any => true
  | .sc v, .sc v' => scB v v'
  | .slice m z l, .slice m' z' l' => modeLe m m' && ((match l, l' with | [], [] => (match m with | .own _ _ => false | _ => true) | _, _ => false) || (Nat.beq z z' && leBE l l'))
  | .ref l, .ref l' => leBL l l'
  | .agg l, .agg l' => leBL l l'
  | .tuple l, .tuple l' => leBL l l'
  | _, _ => false
noncomputable def leBL : List SV → List SV → Bool
  | [], [] => true
  | x :: r, y :: r' => leB x y && leBL r r'
  | _, _ => false
/-- Of elements, by their cells. -/
noncomputable def leBE : List SV → List SV → Bool
  | [], [] => true
  | .agg l :: r, .agg l' :: r' => leBL l l' && leBE r r'
  | x :: r, y :: r' => oneB x && oneB y && leB x y && leBE r r'
  | _, _ => false
end

theorem SVles.refl : ∀ l : List SV, SVles l l
  | [] => .nil
  | x :: r => .cons (SVle.refl x) (SVles.refl r)

theorem SVle.tuple {l r : List SV} (h : SVles l r) : SVle (.tuple l) (.tuple r) := by
  intro st σ w v hv
  generalize hx : SV.tuple l = x at hv
  cases hv with
  | tuple l' vs h1 h2 =>
    cases hx
    exact .tuple r vs (h1.trans h.len) fun i hi => h.at i _ _ _ _ (h2 i (by rw [h.len]; exact hi))
  | _ => cases hx

theorem SVle.ref {l r : List SV} (h : SVles l r) : SVle (.ref l) (.ref r) := by
  intro st σ w v hv
  generalize hx : SV.ref l = x at hv
  cases hv with
  | ref l' b o vals hc hr =>
    cases hx
    exact .ref r b o vals (fun j hj => hc j (by rw [h.len]; exact hj)) fun j hj => h.at j _ _ _ _ (hr j (by rw [h.len]; exact hj))
  | _ => cases hx

/-- Elements, by their cells. -/
inductive SVlesE : List SV → List SV → Prop where
  | nil : SVlesE [] []
  | cons {x y : SV} {l r : List SV} : SVles x.cells y.cells → SVlesE l r → SVlesE (x :: l) (y :: r)

theorem SVlesE.len {l r : List SV} (h : SVlesE l r) : l.length = r.length := by
  induction h with
  | nil => rfl
  | cons _ _ ih => simp [ih]

theorem SVlesE.at {l r : List SV} (h : SVlesE l r) : ∀ i, SVles (l.getD i .any).cells (r.getD i .any).cells := by
  induction h with
  | nil => intro i; exact SVles.refl _
  | cons h1 _ ih =>
    intro i
    cases i with
    | zero => simpa using h1
    | succ i => simpa using ih i

theorem SVle.slice {m m' : Mode} {z : Nat} {l r : List SV} (hm : modeLe m m' = true) (h : SVlesE l r) : SVle (.slice m z l) (.slice m' z r) := by
  intro st σ w v hv
  have hmode : ∀ {a : Addr} {len cap : Nat}, ModeOk st σ w z a len cap m → ModeOk st σ w z a len cap m' := by
    intro a len cap h
    cases m' with
    | imm => trivial
    | full => cases m with
      | full => exact h
      | _ => cases hm
    | own _ _ => cases m <;> cases hm
  have hnil : ModeNil st m → ModeNil st m' := by
    intro h
    cases m' with
    | imm => trivial
    | full => trivial
    | own _ _ => cases m <;> cases hm
  have hlen := h.len
  generalize hx : SV.slice m z l = x at hv
  cases hv with
  | nil m z hm' =>
    cases hx
    cases h with
    | nil => exact .nil _ _ (hnil hm')
  | slice m z l a cap vals hcap hsp hz hc hr hm' =>
    cases hx
    rw [hlen]
    refine .slice m' z r a cap vals (by omega) (fun hne => hsp (by rintro rfl; apply hne; cases h; rfl)) (fun i hi => ?_) (fun i j hi hj => hc i j (by omega) hj) (fun i j hi hj => (h.at i).at j _ _ _ _ (hr i j (by omega) hj)) ?_
    · rw [← (h.at i).len]; exact hz i (by omega)
    · rw [← hlen]; exact hmode hm'
  | _ => cases hx

mutual
theorem leB_spec : ∀ x y : SV, leB x y = true → SVle x y
  | x, .any, _ => SVle.any x
  | .sc v, .sc v', h => by
    have e : v = v' := scB_spec (by simpa only [leB] using h)
    rw [e]; exact SVle.refl _
  | .slice m z l, .slice m' z' l', h => by
    simp only [leB, Bool.and_eq_true, Bool.or_eq_true] at h
    obtain ⟨h1, h2⟩ := h
    rcases h2 with h2 | h2
    · split at h2
      · intro st σ w v hv
        have hm : m = .full ∨ m = .imm := by cases m <;> first | exact .inl rfl | exact .inr rfl | cases h2
        exact SVle.slice h1 .nil st σ w v (rep_nil_z hv hm)
      · cases h2
    · rw [← Nat.eq_of_beq_eq_true h2.1]
      exact SVle.slice h1 (leBE_spec l l' h2.2)
  | .ref l, .ref l', h => SVle.ref (leBL_spec l l' (by simpa only [leB] using h))
  | .agg l, .agg l', h => SVle.agg (leBL_spec l l' (by simpa only [leB] using h))
  | .tuple l, .tuple l', h => SVle.tuple (leBL_spec l l' (by simpa only [leB] using h))
  | .gd _ _, .sc _, h | .gd _ _, .slice _ _ _, h | .gd _ _, .ref _, h | .gd _ _, .ptr _ _, h | .gd _ _, .func _ _ _, h | .gd _ _, .agg _, h | .gd _ _, .tuple _, h | .gd _ _, .gd _ _, h | .gd _ _, .slc _ _ _ _ _, h => by simp [leB] at h
  | .any, .sc _, h | .any, .slice _ _ _, h | .any, .ref _, h | .any, .ptr _ _, h | .any, .func _ _ _, h | .any, .agg _, h | .any, .tuple _, h | .any, .gd _ _, h | .any, .slc _ _ _ _ _, h => by simp [leB] at h
  | .ptr _ _, .sc _, h | .ptr _ _, .slice _ _ _, h | .ptr _ _, .ref _, h | .ptr _ _, .ptr _ _, h | .ptr _ _, .func _ _ _, h | .ptr _ _, .agg _, h | .ptr _ _, .tuple _, h | .ptr _ _, .gd _ _, h | .ptr _ _, .slc _ _ _ _ _, h => by simp [leB] at h
  | .func _ _ _, .sc _, h | .func _ _ _, .slice _ _ _, h | .func _ _ _, .ref _, h | .func _ _ _, .ptr _ _, h | .func _ _ _, .func _ _ _, h | .func _ _ _, .agg _, h | .func _ _ _, .tuple _, h | .func _ _ _, .gd _ _, h | .func _ _ _, .slc _ _ _ _ _, h => by simp [leB] at h
  | .slc _ _ _ _ _, .sc _, h | .slc _ _ _ _ _, .slice _ _ _, h | .slc _ _ _ _ _, .ref _, h | .slc _ _ _ _ _, .ptr _ _, h | .slc _ _ _ _ _, .func _ _ _, h | .slc _ _ _ _ _, .agg _, h | .slc _ _ _ _ _, .tuple _, h | .slc _ _ _ _ _, .gd _ _, h | .slc _ _ _ _ _, .slc _ _ _ _ _, h => by simp [leB] at h
  | .sc _, .slice _ _ _, h | .sc _, .ref _, h | .sc _, .ptr _ _, h | .sc _, .func _ _ _, h | .sc _, .agg _, h | .sc _, .tuple _, h | .sc _, .gd _ _, h | .sc _, .slc _ _ _ _ _, h => by simp [leB] at h
  | .slice _ _ _, .sc _, h | .slice _ _ _, .ref _, h | .slice _ _ _, .ptr _ _, h | .slice _ _ _, .func _ _ _, h | .slice _ _ _, .agg _, h | .slice _ _ _, .tuple _, h | .slice _ _ _, .gd _ _, h | .slice _ _ _, .slc _ _ _ _ _, h => by simp [leB] at h
  | .ref _, .sc _, h | .ref _, .slice _ _ _, h | .ref _, .ptr _ _, h | .ref _, .func _ _ _, h | .ref _, .agg _, h | .ref _, .tuple _, h | .ref _, .gd _ _, h | .ref _, .slc _ _ _ _ _, h => by simp [leB] at h
  | .agg _, .sc _, h | .agg _, .slice _ _ _, h | .agg _, .ref _, h | .agg _, .ptr _ _, h | .agg _, .func _ _ _, h | .agg _, .tuple _, h | .agg _, .gd _ _, h | .agg _, .slc _ _ _ _ _, h => by simp [leB] at h
  | .tuple _, .sc _, h | .tuple _, .slice _ _ _, h | .tuple _, .ref _, h | .tuple _, .ptr _ _, h | .tuple _, .func _ _ _, h | .tuple _, .agg _, h | .tuple _, .gd _ _, h | .tuple _, .slc _ _ _ _ _, h => by simp [leB] at h
theorem leBL_spec : ∀ l l' : List SV, leBL l l' = true → SVles l l'
  | [], [], _ => .nil
  | x :: r, y :: r', h => by
    simp only [leBL, Bool.and_eq_true] at h
    exact .cons (leB_spec x y h.1) (leBL_spec r r' h.2)
  | [], _ :: _, h => by simp [leBL] at h
  | _ :: _, [], h => by simp [leBL] at h
theorem leBE_spec : ∀ l l' : List SV, leBE l l' = true → SVlesE l l'
  | [], [], _ => .nil
  | .agg l :: r, .agg l' :: r', h => by
    simp only [leBE, Bool.and_eq_true] at h
    exact .cons (leBL_spec l l' h.1) (leBE_spec r r' h.2)
  | [], _ :: _, h => by simp [leBE] at h
  | _ :: _, [], h => by simp [leBE] at h
  | x :: r, y :: r', h => by
    have hx : (∃ l l', x = .agg l ∧ y = .agg l') ∨ oneB x = true ∧ oneB y = true ∧ leB x y = true ∧ leBE r r' = true := by
      cases x <;> cases y <;> first
        | (simp only [leBE, Bool.and_eq_true] at h; obtain ⟨⟨⟨h1, h2⟩, h3⟩, h4⟩ := h; exact .inr ⟨h1, h2, h3, h4⟩)
        | exact .inl ⟨_, _, rfl, rfl⟩
    rcases hx with ⟨l, l', rfl, rfl⟩ | hx
    · simp only [leBE, Bool.and_eq_true] at h
      exact .cons (leBL_spec l l' h.1) (leBE_spec r r' h.2)
    have cx : x.cells = [x] := by cases x <;> first | rfl | cases hx.1
    have cy : y.cells = [y] := by cases y <;> first | rfl | cases hx.2.1
    exact .cons (by rw [cx, cy]; exact .cons (leB_spec x y hx.2.2.1) .nil) (leBE_spec r r' hx.2.2.2)
end

/-- Does a closed call come to a value, or to a stronger one, and leave nothing? -/
noncomputable def checkC (P : Program) (cfg : Cfg) (n : Nat) (f : FuncId) (args : List SV) (y : SV) : Bool :=
  idsBL 0 args && match runC P cfg n f args [] with
  | some (x, [], 0) => idsB 0 x && leB x y
  | _ => false

theorem acalls_check {cfg : Cfg} (hcfg : cfg.ok P) (hmix : P.follows .mixedOrders = true) (n : Nat) {f : FuncId} {args : List SV} {y : SV} {K : SV → St → Prop} {st : St}
    (h : checkC P cfg n f args y = true) (hk : K y st) : ACalls P f args K st := by
  unfold checkC at h
  simp only [Bool.and_eq_true] at h
  obtain ⟨h1, h2⟩ := h
  split at h2
  · rename_i x hx
    simp only [Bool.and_eq_true] at h2
    exact acalls_le (acalls_run0 hcfg hmix n hx h1 h2.1 (K := fun x s => ∃ y, SVle x y ∧ K y s) ⟨y, leB_spec _ _ h2.2, hk⟩)
  · cases h2

end Go.AL
