/- The abstract layer, part 8: what code asks, as a formula that is reckoned from the code's text. -/
import Derived.Test.YtjkhpblfgcnpaaaAl7n
set_option linter.unusedVariables false
namespace Go.AL
variable {P : Program}

def strip : SV → SV
  | .gd _ x => x
  | x => x

def binIntV (op : BinOp) (k : IntKind) (a b : Int) : Value :=
  match op with
  | .add => .int k (k.wrap (a + b))
  | .sub => .int k (k.wrap (a - b))
  | .mul => .int k (k.wrap (a * b))
  | .quo => .int k (k.wrap (a.tdiv b))
  | .rem => .int k (a.tmod b)
  | .eql => .bool (a == b)
  | .neq => .bool (a != b)
  | .lss => .bool (decide (a < b))
  | .leq => .bool (decide (a ≤ b))
  | .gtr => .bool (decide (b < a))
  | .geq => .bool (decide (b ≤ a))
  | .and => .int k (k.wrap ((BitVec.ofInt k.bits a &&& BitVec.ofInt k.bits b).toNat : Int))
  | .or => .int k (k.wrap ((BitVec.ofInt k.bits a ||| BitVec.ofInt k.bits b).toNat : Int))
  | .xor => .int k (k.wrap ((BitVec.ofInt k.bits a ^^^ BitVec.ofInt k.bits b).toNat : Int))
  | .andNot => .int k (k.wrap ((BitVec.ofInt k.bits a &&& ~~~BitVec.ofInt k.bits b).toNat : Int))
  | .shl => .int k (k.wrap (a * 2 ^ min b.toNat k.bits))
  | .shr => .int k (a.fdiv (2 ^ min b.toNat k.bits))

def binIntOk (op : BinOp) (b : Int) : Prop :=
  match op with
  | .quo => b ≠ 0
  | .rem => b ≠ 0
  | .shl | .shr => 0 ≤ b
  | _ => True

theorem binInt_of {op : BinOp} {k : IntKind} {a b : Int} (h : binIntOk op b) : binInt op k a b = some (binIntV op k a b) := by
  cases op <;> first | rfl | exact h.elim | (simp only [binIntOk] at h; simp [binInt, binIntV, h]; done) | (simp only [binIntOk] at h; simp only [binInt, binIntV]; rw [if_neg (by omega)])

def binStrV (op : BinOp) (a b : ByteArray) : Value :=
  match op with
  | .eql => .bool (a.toList == b.toList)
  | .neq => .bool !(a.toList == b.toList)
  | .add => .string (a ++ b)
  | _ => undef

def binStrOk (op : BinOp) (a b : ByteArray) : Prop :=
  match op with
  | .eql => True
  | .neq => True
  | .add => a.size + b.size ≤ 9223372036854775807
  | _ => False

theorem binStr_of {op : BinOp} {a b : ByteArray} (h : binStrOk op a b) : binStr op a b = some (binStrV op a b) := by
  cases op <;> first | rfl | exact h.elim | (simp only [binStrOk] at h; simp [binStr, binStrV, h])

def binV (op : BinOp) : SV → SV → SV
  | .sc (.int k m), .sc (.int _ n) => .sc (binIntV op k m n)
  | .sc (.string m), .sc (.string n) => .sc (binStrV op m n)
  | .sc (.bool m), .sc (.bool n) => .sc (.bool (m == n))
  | _, _ => .any

def binOk (P : Program) (op : BinOp) (t : TypeId) : SV → SV → Prop
  | .sc (.int k m), .sc (.int k' n) => k = k' ∧ binIntOk op n
  | .sc (.string m), .sc (.string n) => binStrOk op m n
  | .sc (.bool m), .sc (.bool n) => op = .eql ∧ P.underlying t = some .bool
  | _, _ => False

def unV (op : UnOp) : SV → SV
  | .sc (.bool m) => .sc (.bool (!m))
  | .sc (.int k m) => .sc (.int k (k.wrap (0 - m)))
  | _ => .any

def unOk (op : UnOp) : SV → Prop
  | .sc (.bool m) => op = .not
  | .sc (.int k m) => op = .neg
  | _ => False

def objAt (st : St) (id : Nat) : List SV := match st[id]? with | some (.cells l) => l | _ => []
def isObj (st : St) (id : Nat) : Prop := match st[id]? with | some (.cells l) => True | _ => False

theorem obj_of {st : St} {id : Nat} (h : isObj st id) : st[id]? = some (.cells (objAt st id)) := by
  unfold isObj at h
  unfold objAt
  split at h
  · rename_i l hl; rw [hl]
  · exact h.elim

def loadV (P : Program) (t : TypeId) (st : St) : SV → SV
  | .ref l => (cellsOf P t l).getD .any
  | .ptr id off => (cellsOf P t ((objAt st id).drop off)).getD .any
  | _ => .any

def loadOk (P : Program) (t : TypeId) (st : St) : SV → Prop
  | .ref l => (cellsOf P t l).isSome = true
  | .ptr id off => isObj st id ∧ (cellsOf P t ((objAt st id).drop off)).isSome = true
  | _ => False

def fieldV (P : Program) (t : TypeId) (f : Nat) : SV → SV
  | .ref l => .ref ((l.drop ((aField P t f).getD (0, 0)).1).take ((aField P t f).getD (0, 0)).2)
  | .ptr id i => .ptr id (i + ((aField P t f).getD (0, 0)).1)
  | _ => .any

def fieldOk (P : Program) (t : TypeId) (f : Nat) : SV → Prop
  | .ref l => (aField P t f).isSome = true ∧ ((aField P t f).getD (0, 0)).2 ≠ 0
  | .ptr id i => (aField P t f).isSome = true ∧ ((aField P t f).getD (0, 0)).2 ≠ 0
  | _ => False

def idxV : SV → SV → SV
  | .slice m z l, .sc (.int k i) => .ref (l.getD i.toNat .any).cells
  | .slc id z off len cap, .sc (.int k i) => .ptr id (off + i.toNat * z)
  | _, _ => .any

def idxOk (P : Program) (t : TypeId) : SV → SV → Prop
  | .slice m z l, .sc (.int k i) => (aElem P t).bind (aSize P) = some z ∧ 0 ≤ i ∧ i < l.length
  | .slc id z off len cap, .sc (.int k i) => (aElem P t).bind (aSize P) = some z ∧ 0 ≤ i ∧ i < len
  | _, _ => False

def bndI (ρ : Operand → SV) (x : Option Operand) (d : Nat) : Int := (bound ρ x d).getD 0

def cutV (ρ : Operand → SV) (lo hi mx : Option Operand) : SV → SV
  | .slice m z l => .slice (if mx.isSome then .full else .imm) z ((l.take (bndI ρ hi l.length).toNat).drop (bndI ρ lo 0).toNat)
  | .sc (.string s) => .sc (.string (s.extract (bndI ρ lo 0).toNat (bndI ρ hi s.size).toNat))
  | .slc id z off len cap => .slc id z (if cap = (bndI ρ lo 0).toNat then off else off + (bndI ρ lo 0).toNat * z) ((bndI ρ hi len).toNat - (bndI ρ lo 0).toNat) (cap - (bndI ρ lo 0).toNat)
  | _ => .any

def cutOk (P : Program) (t : TypeId) (ρ : Operand → SV) (lo hi mx : Option Operand) : SV → Prop
  | .slice m z l => ((aElem P t).bind (aSize P) = some z ∨ (l = [] ∧ (m = .full ∨ m = .imm) ∧ ((aElem P t).bind (aSize P)).isSome = true)) ∧ (bound ρ lo 0).isSome = true ∧ (bound ρ hi l.length).isSome = true ∧ 0 ≤ bndI ρ lo 0 ∧ bndI ρ lo 0 ≤ bndI ρ hi l.length ∧
      bndI ρ hi l.length ≤ l.length ∧ (mx.isSome = true → hi.isSome = true ∧ bound ρ mx 0 = bound ρ hi l.length)
  | .sc (.string s) => mx = none ∧ P.underlying t = some .string ∧ (bound ρ lo 0).isSome = true ∧ (bound ρ hi s.size).isSome = true ∧ 0 ≤ bndI ρ lo 0 ∧ bndI ρ lo 0 ≤ bndI ρ hi s.size ∧
      bndI ρ hi s.size ≤ s.size
  | .slc id z off len cap => mx = none ∧ (aElem P t).bind (aSize P) = some z ∧ (bound ρ lo 0).isSome = true ∧ (bound ρ hi len).isSome = true ∧ 0 ≤ bndI ρ lo 0 ∧ bndI ρ lo 0 ≤ bndI ρ hi len ∧ bndI ρ hi len ≤ cap
  | _ => False

def lenV : SV → SV
  | .slice m z l => .sc (.int .i64 l.length)
  | .sc (.string s) => .sc (.int .i64 s.size)
  | .slc id z off len cap => .sc (.int .i64 len)
  | _ => .any

def lenOk (P : Program) (t : TypeId) : SV → Prop
  | .slice m z l => (aElem P t).isSome = true
  | .sc (.string s) => P.underlying t = some .string
  | .slc id z off len cap => (aElem P t).isSome = true
  | _ => False

def extV (i : Nat) : SV → SV
  | .tuple l => l.getD i .any
  | _ => .any

def extOk (i : Nat) : SV → Prop
  | .tuple l => i < l.length
  | _ => False

inductive Kd where
  | pure
  | pick (c x y : Operand)
  | eff

def callKind (b : Callee) : Kd := match b with | .builtin .len => .pure | _ => .eff

def kindOf : Op → Kd
  | .move _ | .assign _ | .convert _ _ _ | .extract _ _ | .binOp _ _ _ _ _ | .unOp _ _ _ | .makeFunc _ _ _ | .load _ _ | .fieldAddr _ _ _ | .indexAddr _ _ _ | .slice _ _ _ _ _ => .pure
  | .pick c x y => .pick c x y
  | .call c => callKind c.callee
  | _ => .eff

def lenCallV (ρ : Operand → SV) : List Operand → SV
  | [x] => lenV (ρ x)
  | _ => .any

def lenCallOk (P : Program) (ρ : Operand → SV) : List Operand → List TypeId → Prop
  | [x], [t] => lenOk P t (ρ x)
  | _, _ => False

def valCore (P : Program) (st : St) (ρ : Operand → SV) : Op → SV
  | .move x => ρ x
  | .assign x => ρ x
  | .extract x i => extV i (ρ x)
  | .binOp op _ x y _ => if nilConst y then nilV op (ρ x) else binV op (ρ x) (ρ y)
  | .unOp op _ x => unV op (ρ x)
  | .convert _ u x => convV P u (ρ x)
  | .makeFunc fn first captured => .func fn (first.toList.map ρ) (captured.toList.map ρ)
  | .load t x => loadV P t st (ρ x)
  | .fieldAddr t x f => fieldV P t f (ρ x)
  | .indexAddr _ x y => idxV (ρ x) (ρ y)
  | .slice _ x lo hi mx => cutV ρ lo hi mx (ρ x)
  | .call c => lenCallV ρ c.args.toList
  | _ => .any

def okCore (P : Program) (st : St) (ρ : Operand → SV) : Op → Prop
  | .move x => True
  | .assign x => True
  | .extract x i => extOk i (ρ x)
  | .binOp op t x y _ => if nilConst y then nilOk P op t y (ρ x) else binOk P op t (ρ x) (ρ y)
  | .unOp op _ x => unOk op (ρ x)
  | .convert t u x => convOk P t u (ρ x)
  | .makeFunc fn first captured => True
  | .load t x => loadOk P t st (ρ x)
  | .fieldAddr t x f => fieldOk P t f (ρ x)
  | .indexAddr t x y => idxOk P t (ρ x) (ρ y)
  | .slice t x lo hi mx => cutOk P t ρ lo hi mx (ρ x)
  | .call c => lenCallOk P ρ c.args.toList c.argTypes.toList
  | _ => False

theorem bind_elem {t : TypeId} {z : Nat} (h : (aElem P t).bind (aSize P) = some z) : ∃ e, aElem P t = some e ∧ aSize P e = some z := by
  cases he : aElem P t with
  | none => simp [he] at h
  | some e => rw [he] at h; exact ⟨e, rfl, h⟩

theorem getD_of {α : Type} {x : Option α} {d : α} (h : x.isSome = true) : x = some (x.getD d) := by cases x <;> first | rfl | cases h

theorem pure_of {o : Oper} {ρ : Operand → SV} {st : St} (hk : kindOf o.op = .pure) (h : okCore P st ρ o.op) : APure P o ρ st (valCore P st ρ o.op) := by
  generalize hop : o.op = op at h hk ⊢
  cases op with
  | move x => exact ap_move hop
  | assign x => exact ap_assign hop
  | extract x i =>
    simp only [okCore, valCore] at h ⊢
    unfold extOk at h
    split at h
    · rename_i l hx; simp only [hx, extV]; exact ap_extract hop hx h
    · exact h.elim
  | binOp op t x y u =>
    simp only [okCore, valCore] at h ⊢
    by_cases hn : nilConst y = true
    · rw [if_pos hn] at h ⊢
      exact ap_nil hop h
    rw [if_neg hn] at h ⊢
    unfold binOk at h
    split at h
    · rename_i h1 h2; obtain ⟨rfl, h⟩ := h; simp only [h1, h2, binV]; exact ap_binInt hop h1 h2 (binInt_of h)
    · rename_i h1 h2; simp only [h1, h2, binV]; exact ap_binStr hop h1 h2 (binStr_of h)
    · rename_i h1 h2; obtain ⟨rfl, h⟩ := h; simp only [h1, h2, binV]; exact ap_binBool hop h1 h2 h
    · exact h.elim
  | unOp op t x =>
    simp only [okCore, valCore] at h ⊢
    unfold unOk at h
    split at h
    · rename_i h1; subst h; simp only [h1, unV]; exact ap_not hop h1
    · rename_i h1; subst h; simp only [h1, unV]; exact ap_neg hop h1
    · exact h.elim
  | convert t u x => exact ap_conv hop h
  | makeFunc fn first captured => exact ap_makeFunc hop
  | load t x =>
    simp only [okCore, valCore] at h ⊢
    unfold loadOk at h
    split at h
    · rename_i h1; simp only [h1, loadV]; exact ap_load_ref hop h1 (getD_of h)
    · rename_i h1; simp only [h1, loadV]; exact ap_load_ptr hop h1 (obj_of h.1) (getD_of h.2)
    · exact h.elim
  | fieldAddr t x f =>
    simp only [okCore, valCore] at h ⊢
    unfold fieldOk at h
    split at h
    · rename_i h1; simp only [h1, fieldV]; exact ap_fieldAddr_ref hop h1 (by rw [getD_of (d := (0, 0)) h.1]; rfl) h.2
    · rename_i h1; simp only [h1, fieldV]; exact ap_fieldAddr_ptr hop h1 (by rw [getD_of (d := (0, 0)) h.1]; rfl) h.2
    · exact h.elim
  | indexAddr t x y =>
    simp only [okCore, valCore] at h ⊢
    unfold idxOk at h
    split at h
    · rename_i h1 h2
      obtain ⟨h3, h4, h5⟩ := h
      obtain ⟨e, h6, h7⟩ := bind_elem h3
      simp only [h1, h2, idxV]
      exact ap_indexAddr hop h1 h2 h6 h7 h4 h5
    · rename_i h1 h2
      obtain ⟨h3, h4, h5⟩ := h
      obtain ⟨e, h6, h7⟩ := bind_elem h3
      simp only [h1, h2, idxV]
      exact ap_indexAddr_slc hop h1 h2 h6 h7 h4 h5
    · exact h.elim
  | slice t x lo hi mx =>
    simp only [okCore, valCore] at h ⊢
    unfold cutOk at h
    split at h
    · rename_i h1
      obtain ⟨h3, h4, h5, h6, h7, h8, h9⟩ := h
      simp only [h1, cutV]
      rcases h3 with h3 | ⟨rfl, hm, h3⟩
      rotate_left
      · -- an empty slice: whatever its elements' size is told to be
        obtain ⟨z', h3⟩ := Option.isSome_iff_exists.1 h3
        obtain ⟨e, h10, h11⟩ := bind_elem h3
        rename_i m z _
        have hl : ([] : List SV).length = 0 := rfl
        rw [hl] at h5 h7 h8 h9
        have n0 : bndI ρ lo 0 = 0 := by omega
        have n1 : bndI ρ hi 0 = 0 := by omega
        intro σ w a hI hR
        have key : ∀ ρ' : Operand → SV, (∀ y, y ∈ o.op.operands → Rep st σ w (ρ' y) (a.eval y)) → ρ' x = .slice m z' [] → (∀ y ∈ lo.toList ++ hi.toList ++ mx.toList, ρ' y = ρ y) → ∃ v, (execOp a.eval o).run P w = .ok (.value v) w ∧
            Rep st σ w (.slice (if mx.isSome then .full else .imm) z []) v := by
          intro ρ' hR' hx' hsame
          have b1 : ∀ (q : Option Operand) (d : Nat), (∀ y ∈ q.toList, ρ' y = ρ y) → bound ρ' q d = bound ρ q d := by
            intro q d hq
            cases q with
            | none => rfl
            | some y => simp only [bound, hq y (by simp)]
          have e1 := b1 lo 0 (fun y hy => hsame y (by simp at hy ⊢; simp [hy]))
          have e2 := b1 hi 0 (fun y hy => hsame y (by simp at hy ⊢; simp [hy]))
          have e3 := b1 mx 0 (fun y hy => hsame y (by simp at hy ⊢; simp [hy]))
          have f1 : bound ρ' lo 0 = some (0 : Int) := by rw [e1, getD_of (d := 0) h4]; exact congrArg some n0
          have f2 : bound ρ' hi 0 = some (0 : Int) := by rw [e2, getD_of (d := 0) h5]; exact congrArg some n1
          cases mx with
          | none =>
            obtain ⟨v, k1, k2⟩ := ap_slice (P := P) (st := st) hop hx' h10 h11 f1 f2 (Int.le_refl _) (Int.le_refl _) (by simp) σ w a hI hR'
            exact ⟨v, k1, rep_nil_z k2 (.inr rfl)⟩
          | some mx =>
            obtain ⟨h12, h13⟩ := h9 rfl
            cases hi with
            | none => cases h12
            | some hi =>
              obtain ⟨v, k1, k2⟩ := ap_slice3 (P := P) (st := st) hop hx' h10 h11 f1 f2 (by rw [e3, h13, ← e2]; exact f2) (Int.le_refl _) (Int.le_refl _) (by simp) σ w a hI hR'
              exact ⟨v, k1, rep_nil_z k2 (.inl rfl)⟩
        have hxr := hR x (by simp [hop, Op.operands])
        rw [h1] at hxr
        have hconf : ∀ y ∈ lo.toList ++ hi.toList ++ mx.toList, y ≠ x := by
          have nb : ∀ (q : Option Operand) (d : Nat), (bound ρ q d).isSome = true → ∀ y ∈ q.toList, y ≠ x := by
            intro q d hq y hy e
            cases q with
            | none => simp at hy
            | some u =>
              simp at hy
              subst hy; subst e
              simp [bound, h1] at hq
          intro y hy
          simp only [List.mem_append] at hy
          rcases hy with (hy | hy) | hy
          · exact nb lo 0 h4 y hy
          · exact nb hi _ h5 y hy
          · cases mx with
            | none => simp at hy
            | some q =>
              obtain ⟨_, h13⟩ := h9 rfl
              exact nb (some q) 0 (by rw [h13]; exact h5) y hy
        have key2 := key (fun y => open Classical in if y = x then .slice m z' [] else ρ y) (fun y hy => by
          by_cases e : y = x
          · rw [if_pos e, e]; exact rep_nil_z hxr (by exact hm)
          · rw [if_neg e]; exact hR y hy) (if_pos rfl) (fun y hy => if_neg (hconf y hy))
        simpa [n0, n1] using key2
      obtain ⟨e, h10, h11⟩ := bind_elem h3
      cases mx with
      | none => exact ap_slice hop h1 h10 h11 (getD_of h4) (getD_of h5) h6 h7 h8
      | some mx =>
        obtain ⟨h12, h13⟩ := h9 rfl
        cases hi with
        | none => cases h12
        | some hi => exact ap_slice3 hop h1 h10 h11 (getD_of h4) (by simpa [bound, bndI] using getD_of (d := 0) h5) (by rw [h13]; simpa [bound, bndI] using getD_of (d := 0) h5) h6 h7 h8
    · rename_i h1
      obtain ⟨rfl, h3, h4, h5, h6, h7, h8⟩ := h
      simp only [h1, cutV]
      exact ap_slice_str hop h1 h3 (getD_of h4) (getD_of h5) h6 h7 h8
    · rename_i h1
      obtain ⟨rfl, h3, h4, h5, h6, h7, h8⟩ := h
      obtain ⟨e, h10, h11⟩ := bind_elem h3
      simp only [h1, cutV]
      exact ap_slice_slc hop h1 h10 h11 (getD_of h4) (getD_of h5) h6 h7 h8
    · exact h.elim
  | call c =>
    simp only [kindOf, callKind] at hk
    split at hk
    · rename_i hc
      obtain ⟨callee, ⟨args⟩, ⟨ts⟩⟩ := c
      simp only at hc
      subst hc
      simp only [okCore, valCore, lenCallOk, lenCallV] at h ⊢
      split at h
      · unfold lenOk at h
        split at h
        · rename_i h3; simp only [h3, lenV]; exact ap_len_slice hop h3 (getD_of (d := 0) h)
        · rename_i h3; simp only [h3, lenV]; exact ap_len_str hop h3 h
        · rename_i h3; simp only [h3, lenV]; exact ap_len_slc hop h3 (getD_of (d := 0) h)
        · exact h.elim
      · exact h.elim
    · cases hk
  | _ => first | cases hk | exact h.elim


/-! A choice between two. -/

def pickB (t : Bool) : SV → SV → SV
  | .sc (.bool a), .sc (.bool b) => .sc (.bool (bif t then a else b))
  | x, y => if t then x else y

def pickV : SV → SV → SV → SV
  | .sc (.bool t), x, y => pickB t (strip x) (strip y)
  | _, _, _ => .any

def gIf (p : Prop) : SV → Prop
  | .gd g _ => p → g = true
  | _ => True

def pickOk : SV → SV → SV → Prop
  | .sc (.bool t), x, y => gIf (t = true) x ∧ gIf (t = false) y
  | _, _, _ => False

theorem rep_strip {st : St} {σ : Sig} {w : World} {x : SV} {v : Value} {p : Prop} (h : Rep st σ w x v) (hg : gIf p x) (hp : p) : Rep st σ w (strip x) v := by
  cases x with
  | gd g y => cases h with | gd g x v h h' => exact h (hg hp)
  | _ => exact h

theorem rep_pickB {st : St} {σ : Sig} {w : World} {t : Bool} {x y : SV} {v : Value} (h : Rep st σ w (if t then x else y) v) : Rep st σ w (pickB t x y) v := by
  unfold pickB
  split
  · cases t <;> exact h
  · exact h

theorem ap_pick' {o : Oper} {c x y : Operand} {ρ : Operand → SV} {st : St} (ho : o.op = .pick c x y) (h : pickOk (ρ c) (ρ x) (ρ y)) : APure P o ρ st (pickV (ρ c) (ρ x) (ρ y)) := by
  intro σ w a hI hR
  have rc := hR c (by simp [ho, Op.operands])
  have rx := hR x (by simp [ho, Op.operands])
  have ry := hR y (by simp [ho, Op.operands])
  unfold pickOk at h
  split at h
  · rename_i t hc
    rw [hc] at rc
    have e := rep_sc rc
    refine ⟨if t then a.eval x else a.eval y, by cases t <;> simp [execOp, ho, e, asBool], ?_⟩
    rw [hc]
    refine rep_pickB ?_
    cases t
    · exact rep_strip ry h.2 rfl
    · exact rep_strip rx h.1 rfl
  · exact h.elim

/-! Guards. -/

def gVal (want : Bool) : SV → Bool
  | .sc (.bool b) => b == want
  | .gd g (.sc (.bool b)) => g && (b == want)
  | _ => false

def gValOk : SV → Prop
  | .sc (.bool b) => True
  | .gd g (.sc (.bool b)) => True
  | _ => False

def gAll (p : Prop) (env : List SV) : List Operand → Prop
  | [] => True
  | y :: r => gIf p (ev env y) ∧ gAll p env r

theorem gAll_mem {p : Prop} {env : List SV} : ∀ (l : List Operand), gAll p env l → ∀ y ∈ l, gIf p (ev env y)
  | [], _, y, h => by cases h
  | x :: r, h, y, hy => by
    cases hy with
    | head => exact h.1
    | tail _ hm => exact gAll_mem r h.2 y hm

theorem yield_gVal {ops : Array Oper} {env : List SV} {j d : Nat} {want : Bool} {st : St} {σ : Sig} {w : World} {t : Array Value} (hd : (ops[j]?).bind (·.dst) = some d) (h : gValOk (env.getD d .any))
    (hR : RepEnv st σ w env t) : (yielded ops t j == some want) = gVal want (env.getD d .any) := by
  have hr := hR.get d
  unfold gValOk at h
  have key : ∀ b, t.getD d undef = .bool b → yielded ops t j = some b := by
    intro b hv
    have hlt : d < t.size := by
      rcases Nat.lt_or_ge d t.size with g | g
      · exact g
      · simp [Array.getD, Nat.not_lt.2 g, undef] at hv
    have : t[d]? = some (.bool b) := by simp [Array.getD, hlt] at hv; simp [hlt, hv]
    simp [yielded, hd, this]
  split at h
  · rename_i b hb
    rw [hb] at hr ⊢
    rw [key b (rep_sc hr)]
    rfl
  · rename_i g b hb
    rw [hb] at hr ⊢
    cases hr with
    | gd g x v h1 h2 =>
      cases g with
      | true =>
        rw [key b (rep_sc (h1 rfl))]
        simp [gVal]
      | false =>
        have hu := h2 rfl
        have : yielded ops t j = none := by
          unfold yielded
          rw [hd]
          simp only [Option.bind_some]
          cases ht : t[d]? with
          | none => rfl
          | some v =>
            have : t.getD d undef = v := by rw [Array.getD_eq_getD_getElem?, ht]; rfl
            rw [this] at hu
            subst hu
            rfl
        rw [this]
        simp [gVal]
  · exact h.elim

def opTmps : List Operand → List Nat
  | [] => []
  | .tmp t :: r => t :: opTmps r
  | _ :: r => opTmps r

theorem mem_opTmps {t : Nat} : ∀ {l : List Operand}, t ∈ opTmps l → Operand.tmp t ∈ l
  | .tmp d :: r, h => by
    simp only [opTmps, List.mem_cons] at h
    rcases h with rfl | h
    · exact List.mem_cons_self
    · exact List.mem_cons_of_mem _ (mem_opTmps h)
  | .const v :: r, h => List.mem_cons_of_mem _ (mem_opTmps (l := r) h)
  | .global v :: r, h => List.mem_cons_of_mem _ (mem_opTmps (l := r) h)
  | .func v :: r, h => List.mem_cons_of_mem _ (mem_opTmps (l := r) h)

def stripAt (s : List Nat) : Nat → List SV → List SV
  | _, [] => []
  | k, x :: r => (if s.contains k then strip x else x) :: stripAt s (k + 1) r

theorem length_stripAt (s : List Nat) : ∀ (k : Nat) (l : List SV), (stripAt s k l).length = l.length
  | _, [] => rfl
  | k, x :: r => by simp [stripAt, length_stripAt s (k + 1) r]

theorem getD_stripAt (s : List Nat) : ∀ (k : Nat) (l : List SV) (i : Nat), i < l.length → (stripAt s k l).getD i .any = if s.contains (k + i) then strip (l.getD i .any) else l.getD i .any
  | k, x :: r, 0, h => rfl
  | k, x :: r, i + 1, h => by
    have := getD_stripAt s (k + 1) r i (by simpa using h)
    simp only [stripAt, List.getD_cons_succ, this, show k + 1 + i = k + (i + 1) by omega]

theorem rep_stripAt {p : Prop} (hp : p) {st : St} {σ : Sig} {w : World} {t : Array Value} {l : List Operand} {env : List SV} (h : RepEnv st σ w env t) (hg : gAll p env l) :
    RepEnv st σ w (stripAt (opTmps l) 0 env) t := by
  refine ⟨by rw [length_stripAt]; exact h.1, fun i hi => ?_⟩
  rw [length_stripAt] at hi
  rw [getD_stripAt _ _ _ _ hi, Nat.zero_add]
  split
  · rename_i hc
    have hm := mem_opTmps (l := l) (t := i) (by simpa using hc)
    exact rep_strip (h.2 i hi) (gAll_mem l hg _ hm) hp
  · exact h.2 i hi

/-! Operations that do more than reckon. -/

def storeSpec (P : Program) (t : TypeId) (st : St) (y : SV) : SV → (St → Prop) → Prop
  | .ptr id off, K => isObj st id ∧ aSize P t = some y.cells.length ∧ shapeOk y = true ∧ elemOk y = true ∧ off + y.cells.length ≤ (objAt st id).length ∧
      K (st.set id (.cells (splice (objAt st id) off y.cells)))
  | _, _ => False

/-- An append of slices of type t, of elements of z cells, n of them in the end, may be. -/
structure AppOk (P : Program) (t tx : TypeId) (z n : Nat) : Prop where
  ok : n < 4611686018427387904 ∧ ∃ e ex zs by', aElem P t = some e ∧ aElem P tx = some ex ∧ aSize P e = some z ∧ aZero P e = some zs ∧ zs.length = z ∧ aBytes P e = some by' ∧ (2 * n + 192) * by' ≤ 281474976710656

def tokAt (st : St) (id ver : Nat) : Prop := st[id]? = some (.tok ver)

def appSpec (P : Program) (t tx : TypeId) (st : St) : SV → SV → (SV → St → Prop) → Prop
  | .slice .full z0 l, .slice m z xs, K => (l = [] ∨ z0 = z) ∧ AppOk P t tx z (l.length + xs.length) ∧ K (.slice (.own st.length 0) z (l ++ xs)) (st ++ [.tok 0])
  | .slice (.own id ver) z l, .slice m z1 xs, K => (xs = [] ∨ z1 = z) ∧ tokAt st id ver ∧ AppOk P t tx z (l.length + xs.length) ∧
      (∀ s ∈ xs, elemOk s = true) ∧ K (.slice (.own id (ver + 1)) z (l ++ xs)) (st.set id (.tok (ver + 1)))
  | _, _, _ => False

def callSpec (P : Program) (args : List SV) (st : St) : SV → (SV → St → Prop) → Prop
  | .func (.func f) first captured, K => aBody P f = true ∧ ACalls P f (first ++ args ++ captured) K st
  | _, _ => False

def zerosOf (P : Program) (t : TypeId) : List SV := ((aElem P t).bind (aZero P)).getD []

def appObSpec (P : Program) (t tx : TypeId) (st : St) : SV → SV → (SV → St → Prop) → Prop
  | .slice .full z0 [], .slice m z xs, K => xs ≠ [] ∧ AppOk P t tx z xs.length ∧ ∀ cap, xs.length ≤ cap → K (.slc st.length z 0 xs.length cap) (st ++ [.cells (xs.flatMap SV.cells ++ zeroL (zerosOf P t) (cap - xs.length))])
  | _, _, _ => False

def copySpec (P : Program) (t : TypeId) (st : St) : SV → SV → (SV → St → Prop) → Prop
  | .slc id z off len cap, .slice m z' ys, K => z = z' ∧ isObj st id ∧ (aElem P t).bind (aSize P) = some z ∧ off + (min ys.length len) * z ≤ (objAt st id).length ∧ (∀ s ∈ ys, elemOk s = true) ∧
      K (.sc (.int .i64 (min ys.length len : Nat))) (st.set id (.cells (splice (objAt st id) off ((ys.take (min ys.length len)).flatMap SV.cells))))
  | .slc id z off len cap, .slc id' z' off' len' cap', K => z = z' ∧ isObj st id ∧ isObj st id' ∧ (aElem P t).bind (aSize P) = some z ∧ off + (min len' len) * z ≤ (objAt st id).length ∧
      off' + (min len' len) * z ≤ (objAt st id').length ∧ (((objAt st id').drop off').take ((min len' len) * z)).all cellOk = true ∧
      K (.sc (.int .i64 (min len' len : Nat))) (st.set id (.cells (splice (objAt st id) off (((objAt st id').drop off').take ((min len' len) * z)))))
  | _, _, _ => False

def clearSpec (P : Program) (t : TypeId) (st : St) : SV → (SV → St → Prop) → Prop
  | .slc id z off len cap, K => isObj st id ∧ (aElem P t).isSome = true ∧ ((aElem P t).bind (aZero P)).isSome = true ∧ off + len * (zerosOf P t).length ≤ (objAt st id).length ∧ (zerosOf P t).all cellOk = true ∧
      K .any (if len = 0 then st else st.set id (.cells (splice (objAt st id) off (zeroL (zerosOf P t) len))))
  | _, _ => False

def makeSpec (P : Program) (t : TypeId) (st : St) : SV → SV → (SV → St → Prop) → Prop
  | .sc (.int k n), .sc (.int k' m), K => ((aElem P t).bind (aSize P)).isSome = true ∧ ((aElem P t).bind (aZero P)).map List.length = (aElem P t).bind (aSize P) ∧ ((aElem P t).bind (aBytes P)).isSome = true ∧
      0 ≤ n ∧ n ≤ m ∧ m ≤ 4611686018427387904 ∧ m.toNat * ((aElem P t).bind (aBytes P)).getD 0 ≤ 281474976710656 ∧
      K (.slc st.length (((aElem P t).bind (aSize P)).getD 0) 0 n.toNat m.toNat) (st ++ [.cells (zeroL (zerosOf P t) m.toNat)])
  | _, _, _ => False

def biSpec (P : Program) (o : Oper) (ob : Bool) (env : List SV) (st : St) (K : SV → St → Prop) : Builtin → List Operand → List TypeId → Prop
  | .append, [x, y], [t, tx] => if ob then appObSpec P t tx st (ev env x) (ev env y) K else appSpec P t tx st (ev env x) (ev env y) K
  | .copy, [x, y], [t, _] => copySpec P t st (ev env x) (ev env y) K
  | .clear, [x], [t] => clearSpec P t st (ev env x) K
  | _, _, _ => AOp P o K env st

def calleeSpec (P : Program) (o : Oper) (ob : Bool) (env : List SV) (st : St) (K : SV → St → Prop) (args : List Operand) (ts : List TypeId) : Callee → Prop
  | .value f => callSpec P (args.map (ev env)) st (ev env f) K
  | .builtin b => biSpec P o ob env st K b args ts
  | .invoke _ _ => AOp P o K env st

theorem zeros_of {t e : TypeId} {zs : List SV} (h1 : aElem P t = some e) (h2 : aZero P e = some zs) : zerosOf P t = zs := by simp [zerosOf, h1, h2]

/-- M: the slots whose new variables are objects. -/
def effSpec (P : Program) (M : List Nat) (o : Oper) (env : List SV) (st : St) (K : SV → St → Prop) : Prop :=
  match o.op with
  | .store t x y => o.dst = none ∧ storeSpec P t st (ev env y) (ev env x) (K .any ·)
  | .box t x => shapeOk (ev env x) = true ∧ if M.contains (o.dst.getD 0) then K (.ptr st.length 0) (st ++ [.cells (ev env x).cells]) else K (.ref (ev env x).cells) st
  | .alloc t => (aZero P t).isSome = true ∧ K (.ptr st.length 0) (st ++ [.cells ((aZero P t).getD [])])
  | .build t parts => aFieldsOk P t = true ∧ (aBuild P t (parts.toList.map fun p => (p.1, ev env p.2))).isSome = true ∧ K (.agg ((aBuild P t (parts.toList.map fun p => (p.1, ev env p.2))).getD [])) st
  | .buildSlice t len parts => ((aElem P t).bind (aSize P)).isSome = true ∧ ((aElem P t).bind (aZero P)).map List.length = (aElem P t).bind (aSize P) ∧ parts.toList.map (·.1) = List.range len ∧
      len * ((aElem P t).bind (aSize P)).getD 0 ≤ 16777216 ∧ (∀ p ∈ parts.toList, shapeOk (ev env p.2) = true ∧ (ev env p.2).cells.length = ((aElem P t).bind (aSize P)).getD 0) ∧
      K (.slice .full (((aElem P t).bind (aSize P)).getD 0) (parts.toList.map fun p => norm (ev env p.2))) st
  | .makeSlice t x y => makeSpec P t st (ev env x) (ev env y) K
  | .call c => calleeSpec P o (M.contains (o.dst.getD 0)) env st K c.args.toList c.argTypes.toList c.callee
  | _ => AOp P o K env st

theorem aop_eff {M : List Nat} {o : Oper} {env : List SV} {st : St} {K : SV → St → Prop} (h : effSpec P M o env st K) : AOp P o K env st := by
  unfold effSpec at h
  split at h
  case h_1 t x y ho =>
    obtain ⟨hd, h⟩ := h
    unfold storeSpec at h
    split at h
    · rename_i h1; obtain ⟨h2, h3, h4, h5, h6, h7⟩ := h; exact aop_store ho hd h1 (obj_of h2) h3 h4 rfl h5 h6 h7
    · exact h.elim
  case h_2 t x ho =>
    obtain ⟨h1, h2⟩ := h
    split at h2
    · exact aop_box_ob ho h1 h2
    · exact aop_box ho h1 h2
  case h_3 t ho => exact aop_alloc ho (getD_of h.1) h.2
  case h_4 t parts ho => exact aop_build ho h.1 (getD_of h.2.1) h.2.2
  case h_5 t len parts ho =>
    obtain ⟨h1, h2, h3, h4, h5, h6⟩ := h
    have h1 := getD_of (d := 0) h1
    generalize (((aElem P t).bind (aSize P)).getD 0) = z at h1 h4 h5 h6
    rw [h1] at h2
    obtain ⟨e, h7, h8⟩ := bind_elem h1
    rw [h7] at h2
    simp only [Option.bind_some] at h2
    cases hz : aZero P e with
    | none => simp [hz] at h2
    | some zs =>
      rw [hz] at h2
      exact aop_buildSlice ho h7 h8 hz (by simpa using h2) h3 h4 h5 h6
  case h_6 t x y ho =>
    unfold makeSpec at h
    split at h
    · rename_i h1 h2
      obtain ⟨g1, g2, g3, g4, g5, g6, g7, g8⟩ := h
      have g1 := getD_of (d := 0) g1
      have g3 := getD_of (d := 0) g3
      generalize (((aElem P t).bind (aSize P)).getD 0) = z at g1 g8
      generalize (((aElem P t).bind (aBytes P)).getD 0) = by' at g3 g7
      rw [g1] at g2
      obtain ⟨e, g9, g10⟩ := bind_elem g1
      rw [g9] at g2 g3
      simp only [Option.bind_some] at g2 g3
      cases hz : aZero P e with
      | none => simp [hz] at g2
      | some zs =>
        rw [hz] at g2
        rw [zeros_of g9 hz] at g8
        exact aop_makeSlice ho h1 h2 g9 g10 hz (by simpa using g2) g3 g4 g5 g6 g7 g8
    · exact h.elim
  case h_7 c ho =>
    obtain ⟨callee, ⟨args⟩, ⟨ts⟩⟩ := c
    unfold calleeSpec at h
    simp only at h
    split at h
    · unfold callSpec at h
      split at h
      · rename_i h1; exact aop_call ho h1 h.1 h.2
      · exact h.elim
    · unfold biSpec at h
      split at h
      · split at h
        · unfold appObSpec at h
          split at h
          · rename_i h1 h2
            obtain ⟨h3, ⟨h11, e, ex, zs, by', h4, h5, h6, h7, h8, h9, h10⟩, h12⟩ := h
            rw [zeros_of h4 h7] at h12
            exact aop_append_ob ho h1 h2 h3 h4 h5 h6 h7 h8 h9 h10 h11 h12
          · exact h.elim
        · unfold appSpec at h
          split at h
          · rename_i h1 h2
            obtain ⟨h3, ⟨h11, e, ex, zs, by', h4, h5, h6, h7, h8, h9, h10⟩, h12⟩ := h
            exact aop_append_full ho h1 h2 h3 (.inr rfl) h4 h5 h6 h7 h8 h9 h10 h11 h12
          · rename_i h1 h2
            obtain ⟨h3, h3', ⟨h11, e, ex, zs, by', h4, h5, h6, h7, h8, h9, h10⟩, h12, h13⟩ := h
            exact aop_append_own ho h1 h2 h3 h3' h4 h5 h6 h7 h8 h9 h10 h11 h12 h13
          · exact h.elim
      · unfold copySpec at h
        split at h
        · rename_i h1 h2
          obtain ⟨rfl, g1, g2, g3, g4, g5⟩ := h
          obtain ⟨e, g6, g7⟩ := bind_elem g2
          exact aop_copy_slice ho h1 h2 (obj_of g1) g6 g7 g3 g4 g5
        · rename_i h1 h2
          obtain ⟨rfl, g1, g2, g3, g4, g5, g6, g7⟩ := h
          obtain ⟨e, g8, g9⟩ := bind_elem g3
          exact aop_copy_slc ho h1 h2 (obj_of g1) (obj_of g2) g8 g9 g4 g5 g6 g7
        · exact h.elim
      · unfold clearSpec at h
        split at h
        · rename_i h1
          obtain ⟨g1, g2, g3, g4, g5, g6⟩ := h
          have g2 := getD_of (d := 0) g2
          generalize (aElem P _).getD 0 = e at g2
          rw [g2] at g3
          simp only [Option.bind_some] at g3
          have g3 := getD_of (d := []) g3
          rw [zeros_of g2 g3] at g4 g5 g6
          exact aop_clear ho h1 (obj_of g1) g2 g3 g4 g5 g6
        · exact h.elim
      · exact h
    · exact h
  all_goals exact h

/-! Lists of operations. ds: the slots that the region's operations write. -/

def gSlot (ds : List (Option Tmp)) (j : Nat) (env : List SV) : SV :=
  match ds[j]? with
  | some (some d) => env.getD d .any
  | _ => .any

def kdSpec (P : Program) (M : List Nat) (o : Oper) (env : List SV) (st : St) (next : List SV → St → Prop) : Kd → Prop
  | .pure => okCore P st (ev env) o.op ∧ next (putE env o.dst (valCore P st (ev env) o.op)) st
  | .pick c x y => pickOk (ev env c) (ev env x) (ev env y) ∧ next (putE env o.dst (pickV (ev env c) (ev env x) (ev env y))) st
  | .eff => effSpec P M o env st fun x s => next (putE env o.dst x) s

def gdSpec (P : Program) (M : List Nat) (o : Oper) (env : List SV) (st : St) (g : Bool) (next : List SV → St → Prop) : Kd → Prop
  | .pure => gAll (g = true) env o.op.operands.toList ∧ (g = true → okCore P st (fun y => strip (ev env y)) o.op) ∧
      next (putE env o.dst (.gd g (valCore P st (fun y => strip (ev env y)) o.op))) st
  | .pick c x y => gIf (g = true) (ev env c) ∧ (g = true → pickOk (strip (ev env c)) (ev env x) (ev env y)) ∧
      next (putE env o.dst (.gd g (pickV (strip (ev env c)) (ev env x) (ev env y)))) st
  | .eff => gAll (g = true) env o.op.operands.toList ∧ (g = true → effSpec P M o (stripAt (opTmps o.op.operands.toList) 0 env) st fun x s => next (putE env o.dst x) s) ∧
      (g = false → next (putE env o.dst .any) st)

def opsSpec (P : Program) (M : List Nat) (ds : List (Option Tmp)) : List Oper → List SV → St → (List SV → St → Prop) → Prop
  | [], env, st, K => K env st
  | o :: r, env, st, K => match o.guard with
    | none => kdSpec P M o env st (fun e s => opsSpec P M ds r e s K) (kindOf o.op)
    | some (j, want) => gValOk (gSlot ds j env) ∧ gdSpec P M o env st (gVal want (gSlot ds j env)) (fun e s => opsSpec P M ds r e s K) (kindOf o.op)

theorem gSlot_some {ops : Array Oper} {j : Nat} {env : List SV} (h : gValOk (gSlot (ops.toList.map (·.dst)) j env)) :
    ∃ d, (ops[j]?).bind (·.dst) = some d ∧ gSlot (ops.toList.map (·.dst)) j env = env.getD d .any := by
  unfold gSlot at h ⊢
  simp only [List.getElem?_map, Array.getElem?_toList] at h ⊢
  cases ho : ops[j]? with
  | none => rw [ho] at h; exact h.elim
  | some o =>
    rw [ho] at h
    cases hd : o.dst with
    | none => simp [hd] at h; exact h.elim
    | some d => exact ⟨d, by simp [hd], by simp [hd]⟩

theorem pure_run {st : St} {env : List SV} {o : Oper} {K : SV → St → Prop} (hk : kindOf o.op = .pure) (h : okCore P st (ev env) o.op) (hn : K (valCore P st (ev env) o.op) st) : AOp P o K env st :=
  aop_of_pure (pure_of hk h) hn

theorem kindOf_pick {op : Op} {c x y : Operand} (h : kindOf op = .pick c x y) : op = .pick c x y := by
  cases op <;> simp only [kindOf] at h <;> (try cases h) <;> (try rfl)
  rename_i c'
  simp only [callKind] at h
  split at h <;> cases h

theorem aops_spec {M : List Nat} {ops : Array Oper} {K : List SV → St → Prop} : ∀ (n : Nat) (l : List Oper) (env : List SV) (st : St), ops.toList.drop n = l →
    opsSpec P M (ops.toList.map (·.dst)) l env st K → AOps P ops ((List.range' n l.length)) K env st
  | n, [], env, st, _, h => aops_nil h
  | n, o :: r, env, st, hl, h => by
    have ho : ops[n]? = some o := by
      have : (ops.toList.drop n)[0]? = some o := by rw [hl]; rfl
      rw [List.getElem?_drop, Nat.add_zero, Array.getElem?_toList] at this
      exact this
    have hr : ops.toList.drop (n + 1) = r := by rw [← List.drop_drop, hl]; rfl
    have ih := fun env st => aops_spec (M := M) (K := K) (n + 1) r env st hr
    simp only [List.length_cons, List.range'_succ]
    simp only [opsSpec] at h
    split at h
    · rename_i hg
      refine aops_cons ho hg ?_
      cases hk : kindOf o.op with
      | pure => rw [hk] at h; exact pure_run hk h.1 (ih _ _ h.2)
      | pick c x y => rw [hk] at h; exact aop_of_pure (ap_pick' (kindOf_pick hk) h.1) (ih _ _ h.2)
      | eff => rw [hk] at h; exact AOp.mono (aop_eff (by exact h)) fun x s h => ih _ _ h
    · rename_i j want hg
      obtain ⟨h1, h2⟩ := h
      obtain ⟨d, hd, he⟩ := gSlot_some h1
      rw [he] at h1 h2
      intro σ w a hI hR hdf
      have hy := yield_gVal (want := want) hd h1 hR
      simp only [wpOps, ho, Region.wanted, hg, hy]
      generalize hgv : gVal want (env.getD d .any) = g at h2
      cases g with
      | true =>
        simp only [if_true]
        have pureCase : ∀ (X : SV) (ρ : Operand → SV), (∀ y, y ∈ o.op.operands → Rep st σ w (ρ y) (a.eval y)) → APure P o ρ st X → AOps P ops (List.range' (n + 1) r.length) K (putE env o.dst (.gd true X)) st →
            o.wp P a w (wpOps P ops (fun e a' w' => e = .normal ∧ Post K st σ w a' w') (List.range' (n + 1) r.length)) (fun e a' w' => e = .normal ∧ Post K st σ w a' w') := by
          intro X ρ hρ hap hk
          obtain ⟨v, hrun, hrep⟩ := hap σ w a hI hρ
          unfold Oper.wp
          rw [hrun]
          exact hk σ w _ hI (rep_put hR _ (.gd true X v (fun _ => hrep) (fun e => by cases e))) (by rw [put_defers]; exact hdf)
        cases hk : kindOf o.op with
        | pure =>
          rw [hk] at h2
          obtain ⟨g1, g2, g3⟩ := h2
          exact .inl (pureCase _ _ (fun y hy => rep_strip (rep_ev hR y) (gAll_mem _ g1 y (by simpa using hy)) rfl) (pure_of hk (g2 rfl)) (ih _ _ g3))
        | pick c x y =>
          rw [hk] at h2
          obtain ⟨g1, g2, g3⟩ := h2
          have hop := kindOf_pick hk
          refine .inl ?_
          obtain ⟨v, hrun, hrep⟩ : ∃ v, (execOp a.eval o).run P w = .ok (.value v) w ∧ Rep st σ w (pickV (strip (ev env c)) (ev env x) (ev env y)) v := by
            have rc := rep_strip (rep_ev hR c) g1 rfl
            have h := g2 rfl
            unfold pickOk at h
            split at h
            · rename_i t hc
              rw [hc] at rc
              have e := rep_sc rc
              refine ⟨if t then a.eval x else a.eval y, by cases t <;> simp [execOp, hop, e, asBool], ?_⟩
              rw [hc]
              refine rep_pickB ?_
              cases t
              · exact rep_strip (rep_ev hR y) h.2 rfl
              · exact rep_strip (rep_ev hR x) h.1 rfl
            · exact h.elim
          unfold Oper.wp
          rw [hrun]
          exact ih _ _ g3 σ w _ hI (rep_put hR _ (.gd true _ v (fun _ => hrep) (fun e => by cases e))) (by rw [put_defers]; exact hdf)
        | eff =>
          rw [hk] at h2
          obtain ⟨g1, g2, g3⟩ := h2
          refine .inl (upon_mono ?_ (fun _ _ _ h => h.elim) (aop_eff (g2 rfl) σ w a hI (rep_stripAt rfl hR g1)))
          rintro a' w' ⟨v, y, st', σ', rfl, hn, hI', hr', hX⟩
          refine wpOps_mono (fun e a w hp => ⟨hp.1, hp.2.ext hX⟩) _ _ _ (ih _ _ hn σ' w' _ hI' (rep_put (hR.ext hX) _ hr') ?_)
          rw [put_defers]; exact hdf
      | false =>
        simp only [Bool.false_eq_true, if_false]
        cases hk : kindOf o.op with
        | pure =>
          rw [hk] at h2
          exact ih _ _ h2.2.2 σ w _ hI (rep_put hR _ (.gd false _ _ (fun e => by cases e) (fun _ => rfl))) (by rw [put_defers]; exact hdf)
        | pick c x y =>
          rw [hk] at h2
          exact ih _ _ h2.2.2 σ w _ hI (rep_put hR _ (.gd false _ _ (fun e => by cases e) (fun _ => rfl))) (by rw [put_defers]; exact hdf)
        | eff =>
          rw [hk] at h2
          exact ih _ _ (h2.2.2 rfl) σ w _ hI (rep_put hR _ (.any _)) (by rw [put_defers]; exact hdf)

theorem awp_region_spec (M : List Nat) {id : Nat} {ops : Array Oper} {Q : Exit → List SV → St → Prop} {env : List SV} {st : St} (h : opsSpec P M (ops.toList.map (·.dst)) ops.toList env st (Q .normal)) :
    AWp P (.region id ops false) Q env st := by
  refine awp_region ?_
  have := aops_spec (P := P) 0 ops.toList env st rfl h
  rw [List.range_eq_range']
  simpa using this

/-- What code asks, up to its loops and its regions that draw. -/
def codeSpec (P : Program) (M : List Nat) : Code → (Exit → List SV → St → Prop) → List SV → St → Prop
  | .skip, Q, env, st => Q .normal env st
  | .region _ ops false, Q, env, st => opsSpec P M (ops.toList.map (·.dst)) ops.toList env st (Q .normal)
  | .seq a b, Q, env, st => codeSpec P M a (thenQ (codeSpec P M b Q) Q) env st
  | .cond c x y, Q, env, st => ∃ t, ev env c = .sc (.bool t) ∧ (t = true → codeSpec P M x Q env st) ∧ (t = false → codeSpec P M y Q env st)
  | .block id c, Q, env, st => codeSpec P M c (blockQ id Q) env st
  | .exit id, Q, env, st => Q (.exit id) env st
  | .ret, Q, env, st => Q .ret env st
  | .label _, Q, env, st => Q .normal env st
  | c, Q, env, st => AWp P c Q env st

theorem awp_spec {M : List Nat} : ∀ (c : Code) {Q : Exit → List SV → St → Prop} {env : List SV} {st : St}, codeSpec P M c Q env st → AWp P c Q env st := by
  intro c
  induction c with
  | skip => exact fun h => awp_skip h
  | region id ops draw =>
    intro Q env st h
    cases draw with
    | false => exact awp_region_spec M h
    | true => exact h
  | seq a b iha ihb =>
    intro Q env st h
    refine awp_seq ((iha h).mono fun e env st he => ?_)
    cases e <;> first | exact ihb he | exact he
  | cond c x y ihx ihy =>
    intro Q env st h
    obtain ⟨t, h1, h2, h3⟩ := h
    exact awp_cond h1 (fun e => ihx (h2 e)) (fun e => ihy (h3 e))
  | block id c ih => exact fun h => awp_block (ih h)
  | exit id => exact fun h => awp_exit h
  | ret => exact fun h => awp_ret h
  | label l => exact fun h => awp_label h
  | _ => exact fun h => h

end Go.AL
