/- The abstract layer, part 3: what each operation does over an abstract frame. -/
import Derived.Test.YtjkhpblfgcnpaaaAl2
import Derived.Laws.Entries
import Derived.Laws.Cells
import Derived.Laws.Small
set_option linter.unusedVariables false
namespace Go.AL
variable {P : Program}

theorem aop_value {o : Oper} {K : SV → St → Prop} {env : List SV} {st : St}
    (h : ∀ σ w (a : Act), Inv st σ w → RepEnv st σ w env a.tmps → ∃ v w' x st' σ', (execOp a.eval o).run P w = .ok (.value v) w' ∧ K x st' ∧ Inv st' σ' w' ∧
      Rep st' σ' w' x v ∧ Ext st σ w st' σ' w') : AOp P o K env st := by
  intro σ w a hI hR
  obtain ⟨v, w', x, st', σ', hrun, hk, hI', hr, hX⟩ := h σ w a hI hR
  unfold Oper.wp
  rw [hrun]
  exact ⟨v, x, st', σ', rfl, hk, hI', hr, hX⟩

/-- An operation that only reckons. -/
theorem aop_pure {o : Oper} {K : SV → St → Prop} {env : List SV} {st : St} (x : SV)
    (h : ∀ σ w (a : Act), Inv st σ w → RepEnv st σ w env a.tmps → ∃ v, (execOp a.eval o).run P w = .ok (.value v) w ∧ Rep st σ w x v) (hk : K x st) : AOp P o K env st :=
  aop_value fun σ w a hI hR => by
    obtain ⟨v, hrun, hr⟩ := h σ w a hI hR
    exact ⟨v, w, x, st, σ, hrun, hk, hI, hr, Ext.refl _ _ _⟩

/-! Types. -/
def aSize (P : Program) (t : TypeId) : Option Nat := (P.info? t).map (·.size)
def aBytes (P : Program) (t : TypeId) : Option Nat := (P.info? t).map (·.bytes)
def aAgg (P : Program) (t : TypeId) : Option Bool := (P.underlying t).map fun | .struct _ | .array _ _ => true | _ => false
def aElem (P : Program) (t : TypeId) : Option TypeId := (P.underlying t).bind fun | .slice e => some e | _ => none
def aField (P : Program) (t : TypeId) (f : Nat) : Option (Nat × Nat) := (P.underlying t).bind fun
  | .struct fs => (fs[f]?).bind fun g => (aSize P g.type).map fun s => (g.offset, s)
  | _ => none
def aZero (P : Program) (t : TypeId) : Option (List SV) := ((P.info? t).bind (·.zero)).map fun v => v.cells.toList.map svOf
def aIsStr (P : Program) (t : TypeId) : Bool := match P.underlying t with | some .string => true | _ => false

theorem run_typeInfo' {t : TypeId} {i : TypeInfo} (h : P.info? t = some i) (w : World) : (typeInfo t).run P w = .ok i w := by simp [typeInfo, h]
theorem run_sizeOf' {t : TypeId} {n : Nat} (h : aSize P t = some n) (w : World) : (sizeOf t).run P w = .ok n w := by
  unfold aSize at h
  cases hi : P.info? t with
  | none => simp [hi] at h
  | some i => simp [hi] at h; simp [sizeOf, run_typeInfo' hi, h]
theorem run_isAgg' {t : TypeId} {b : Bool} (h : aAgg P t = some b) (w : World) : (isAgg t).run P w = .ok b w := by
  unfold aAgg at h
  cases hi : P.underlying t with
  | none => simp [hi] at h
  | some d =>
    simp [hi] at h
    subst h
    simp only [isAgg, Sem.run_bind, run_underlying hi, Result.andThen_ok]
    cases d <;> rfl
theorem und_slice {t e : TypeId} (h : aElem P t = some e) : P.underlying t = some (.slice e) := by
  unfold aElem at h
  cases hi : P.underlying t with
  | none => simp [hi] at h
  | some d =>
    rw [hi] at h
    cases d <;> simp at h
    rw [h]

/-- An operation that only reckons, over what its operands stand for. -/
def APure (P : Program) (o : Oper) (ρ : Operand → SV) (st : St) (x : SV) : Prop :=
  ∀ σ w (a : Act), Inv st σ w → (∀ y, y ∈ o.op.operands → Rep st σ w (ρ y) (a.eval y)) → ∃ v, (execOp a.eval o).run P w = .ok (.value v) w ∧ Rep st σ w x v

theorem aop_of_pure {o : Oper} {K : SV → St → Prop} {env : List SV} {st : St} {x : SV} (h : APure P o (ev env) st x) (hk : K x st) : AOp P o K env st :=
  aop_pure x (fun σ w a hI hR => h σ w a hI fun y _ => rep_ev hR y) hk

/-! Plain operations. -/
theorem ap_move {o : Oper} {x : Operand} {ρ : Operand → SV} {st : St} (ho : o.op = .move x) : APure P o ρ st ((ρ x)) :=
  (fun σ w a hI hR => ⟨a.eval x, by simp [execOp, ho], hR x (by simp [ho, Op.operands])⟩)
theorem ap_assign {o : Oper} {x : Operand} {ρ : Operand → SV} {st : St} (ho : o.op = .assign x) : APure P o ρ st ((ρ x)) :=
  (fun σ w a hI hR => ⟨a.eval x, by simp [execOp, ho], hR x (by simp [ho, Op.operands])⟩)

theorem rep_sc {st : St} {σ : Sig} {w : World} {x v : Value} (h : Rep st σ w (.sc x) v) : v = x := by cases h; rfl

theorem ap_pick {o : Oper} {c x y : Operand} {t : Bool} {ρ : Operand → SV} {st : St} (ho : o.op = .pick c x y) (hc : ρ c = .sc (.bool t))
    : APure P o ρ st ((if t then ρ x else ρ y)) :=
  (fun σ w a hI hR => by
    have hr := hR c (by simp [ho, Op.operands])
    rw [hc] at hr
    have e := rep_sc hr
    refine ⟨if t then a.eval x else a.eval y, by cases t <;> simp [execOp, ho, e, asBool], ?_⟩
    cases t
    · exact hR y (by simp [ho, Op.operands])
    · exact hR x (by simp [ho, Op.operands]))

theorem ap_extract {o : Oper} {x : Operand} {i : Nat} {l : List SV} {ρ : Operand → SV} {st : St} (ho : o.op = .extract x i) (hx : ρ x = .tuple l)
    (hi : i < l.length) : APure P o ρ st ((l.getD i .any)) :=
  (fun σ w a hI hR => by
    have hr := hR x (by simp [ho, Op.operands])
    rw [hx] at hr
    generalize hv : a.eval x = v at hr
    cases hr with
    | tuple l vs h r =>
      have hlt : i < vs.size := by omega
      refine ⟨vs[i], by simp [execOp, ho, hv, Instr.extract, hlt], ?_⟩
      have := r i hi
      simpa [Array.getD, hlt] using this)

def binInt (op : BinOp) (k : IntKind) (a b : Int) : Option Value :=
  match op with
  | .add => some (.int k (k.wrap (a + b)))
  | .sub => some (.int k (k.wrap (a - b)))
  | .mul => some (.int k (k.wrap (a * b)))
  | .quo => if b = 0 then none else some (.int k (k.wrap (a.tdiv b)))
  | .rem => if b = 0 then none else some (.int k (a.tmod b))
  | .eql => some (.bool (a == b))
  | .neq => some (.bool (a != b))
  | .lss => some (.bool (decide (a < b)))
  | .leq => some (.bool (decide (a ≤ b)))
  | .gtr => some (.bool (decide (b < a)))
  | .geq => some (.bool (decide (b ≤ a)))
  | .and => some (.int k (k.wrap ((BitVec.ofInt k.bits a &&& BitVec.ofInt k.bits b).toNat : Int)))
  | .or => some (.int k (k.wrap ((BitVec.ofInt k.bits a ||| BitVec.ofInt k.bits b).toNat : Int)))
  | .xor => some (.int k (k.wrap ((BitVec.ofInt k.bits a ^^^ BitVec.ofInt k.bits b).toNat : Int)))
  | .andNot => some (.int k (k.wrap ((BitVec.ofInt k.bits a &&& ~~~BitVec.ofInt k.bits b).toNat : Int)))
  | .shl => if b < 0 then none else some (.int k (k.wrap (a * 2 ^ min b.toNat k.bits)))
  | .shr => if b < 0 then none else some (.int k (a.fdiv (2 ^ min b.toNat k.bits)))

def binStr (op : BinOp) (a b : ByteArray) : Option Value :=
  match op with
  | .eql => some (.bool (a.toList == b.toList))
  | .neq => some (.bool !(a.toList == b.toList))
  | .add => if a.size + b.size ≤ 9223372036854775807 then some (.string (a ++ b)) else none
  | _ => none

theorem ap_binInt {o : Oper} {op : BinOp} {t u : TypeId} {x y : Operand} {k : IntKind} {m n : Int} {r : Value} {ρ : Operand → SV} {st : St}
    (ho : o.op = .binOp op t x y u) (hx : ρ x = .sc (.int k m)) (hy : ρ y = .sc (.int k n)) (hr : binInt op k m n = some r) : APure P o ρ st ((.sc r)) :=
  (fun σ w a hI hR => by
    have h1 := hR x (by simp [ho, Op.operands])
    have h2 := hR y (by simp [ho, Op.operands])
    rw [hx] at h1
    rw [hy] at h2
    have e1 := rep_sc h1
    have e2 := rep_sc h2
    refine ⟨r, ?_, .sc r⟩
    cases op <;> simp [binInt] at hr <;> (try subst hr) <;>
      first
        | (simp [execOp, ho, e1, e2, eqGuard, binOp, Op.intArith, Op.intCmp, Op.intBits]; done)
        | (obtain ⟨h0, hr⟩ := hr; subst hr; simp [execOp, ho, e1, e2, eqGuard, binOp, Op.intDiv, Op.shift, h0]; done)
        | (obtain ⟨h0, hr⟩ := hr; subst hr; simp [execOp, ho, e1, e2, eqGuard, binOp, Op.shift, Int.not_lt.2 h0]; done))

theorem ap_binStr {o : Oper} {op : BinOp} {t u : TypeId} {x y : Operand} {m n : ByteArray} {r : Value} {ρ : Operand → SV} {st : St}
    (ho : o.op = .binOp op t x y u) (hx : ρ x = .sc (.string m)) (hy : ρ y = .sc (.string n)) (hr : binStr op m n = some r) : APure P o ρ st ((.sc r)) :=
  (fun σ w a hI hR => by
    have h1 := hR x (by simp [ho, Op.operands])
    have h2 := hR y (by simp [ho, Op.operands])
    rw [hx] at h1
    rw [hy] at h2
    have e1 := rep_sc h1
    have e2 := rep_sc h2
    refine ⟨r, ?_, .sc r⟩
    cases op <;> simp [binStr] at hr <;> (try subst hr) <;>
      first
        | (simp [execOp, ho, e1, e2, eqGuard, binOp, Op.stringOp]; done)
        | (obtain ⟨h0, hr⟩ := hr; subst hr; simp [execOp, ho, e1, e2, eqGuard, binOp, Op.stringOp, IntKind.max, IntKind.signed, IntKind.bits]; omega))

theorem ap_binBool {o : Oper} {t u : TypeId} {x y : Operand} {m n : Bool} {ρ : Operand → SV} {st : St}
    (ho : o.op = .binOp .eql t x y u) (hx : ρ x = .sc (.bool m)) (hy : ρ y = .sc (.bool n)) (ht : P.underlying t = some .bool) : APure P o ρ st ((.sc (.bool (m == n)))) :=
  (fun σ w a hI hR => by
    have h1 := hR x (by simp [ho, Op.operands])
    have h2 := hR y (by simp [ho, Op.operands])
    rw [hx] at h1
    rw [hy] at h2
    have e1 := rep_sc h1
    have e2 := rep_sc h2
    exact ⟨_, by simp [execOp, ho, e1, e2, eqGuard, run_eql_bool w t m n ht], .sc _⟩)

theorem ap_not {o : Oper} {t : TypeId} {x : Operand} {m : Bool} {ρ : Operand → SV} {st : St}
    (ho : o.op = .unOp .not t x) (hx : ρ x = .sc (.bool m)) : APure P o ρ st ((.sc (.bool (!m)))) :=
  (fun σ w a hI hR => by
    have h1 := hR x (by simp [ho, Op.operands])
    rw [hx] at h1
    have e1 := rep_sc h1
    exact ⟨_, by simp [execOp, ho, e1, Op.unary], .sc _⟩)

theorem ap_neg {o : Oper} {t : TypeId} {x : Operand} {k : IntKind} {m : Int} {ρ : Operand → SV} {st : St}
    (ho : o.op = .unOp .neg t x) (hx : ρ x = .sc (.int k m)) : APure P o ρ st ((.sc (.int k (k.wrap (0 - m))))) :=
  (fun σ w a hI hR => by
    have h1 := hR x (by simp [ho, Op.operands])
    rw [hx] at h1
    have e1 := rep_sc h1
    exact ⟨_, by simp [execOp, ho, e1, Op.unary, Op.intArith], .sc _⟩)

theorem ap_makeFunc {o : Oper} {fn : Fn} {first captured : Array Operand} {ρ : Operand → SV} {st : St}
    (ho : o.op = .makeFunc fn first captured) : APure P o ρ st ((.func fn (first.toList.map (ρ)) (captured.toList.map (ρ)))) :=
  (fun σ w a hI hR => by
    refine ⟨.func fn (first.map a.eval) (captured.map a.eval), by simp [execOp, ho, Instr.makeFunc], .func _ _ _ _ _ (by simp) (by simp) (fun i hi => ?_) (fun i hi => ?_)⟩
    · have hi' : i < first.size := by simpa using hi
      have := hR first[i] (by simp [ho, Op.operands])
      simpa [Array.getD, hi', List.getD_eq_getElem?_getD] using this
    · have hi' : i < captured.size := by simpa using hi
      have := hR captured[i] (by simp [ho, Op.operands])
      simpa [Array.getD, hi', List.getD_eq_getElem?_getD] using this)


/-! Memory that is only read. -/

theorem addr_add (b o j : Nat) : (⟨b, o, none⟩ : Addr).add j = ⟨b, o + j, none⟩ := by unfold Addr.add; split <;> simp_all

theorem rep_list {st : St} {σ : Sig} {w : World} (l : List SV) (vals : Nat → Value) (n : Nat) (hn : n ≤ l.length) (h : ∀ j, j < n → Rep st σ w (l.getD j .any) (vals j)) :
    Rep st σ w (.agg (l.take n)) (.agg ((List.range n).map vals).toArray) := by
  refine .agg _ _ (by simp; omega) fun i hi => ?_
  have hi' : i < n := by simp at hi; omega
  have := h i hi'
  have e1 : (l.take n).getD i .any = l.getD i .any := by simp [List.getD_eq_getElem?_getD, hi']
  rw [e1]
  simpa [Array.getD, hi'] using this

/-- What is read at a place of cells. -/
def cellsOf (P : Program) (t : TypeId) (l : List SV) : Option SV :=
  match aAgg P t, aSize P t with
  | some true, some n => if n ≤ l.length then some (.agg (l.take n)) else none
  | some false, _ => if 0 < l.length then some (l.getD 0 .any) else none
  | _, _ => none

theorem run_loadVar_cells {st : St} {σ : Sig} {w : World} {t : TypeId} {l : List SV} {x : SV} (b o : Nat) (vals : Nat → Value) (h : cellsOf P t l = some x)
    (hc : ∀ j, j < l.length → w.cell? ⟨b, o + j, none⟩ = some (vals j)) (hr : ∀ j, j < l.length → Rep st σ w (l.getD j .any) (vals j)) :
    ∃ v, (loadVar t ⟨b, o, none⟩).run P w = .ok v w ∧ Rep st σ w x v := by
  unfold cellsOf at h
  split at h
  · rename_i n h1 h2
    split at h
    · rename_i hle
      injection h with h; subst h
      refine ⟨_, ?_, rep_list l vals n hle fun j hj => hr j (by omega)⟩
      have := run_loadCells (P := P) (w := w) ⟨b, o, none⟩ n vals (fun j hj => by rw [addr_add]; exact hc j (by omega))
      simp [loadVar, run_isAgg' h1, run_sizeOf' h2, this]
    · cases h
  · rename_i h1
    split at h
    · rename_i hlt
      injection h with h; subst h
      have := hc 0 hlt
      simp only [Nat.add_zero] at this
      exact ⟨vals 0, by simp [loadVar, run_isAgg' h1, this], hr 0 hlt⟩
    · cases h
  · cases h

theorem ap_load_ref {o : Oper} {t : TypeId} {x : Operand} {l : List SV} {y : SV} {ρ : Operand → SV} {st : St}
    (ho : o.op = .load t x) (hx : ρ x = .ref l) (hy : cellsOf P t l = some y) : APure P o ρ st (y) :=
  (fun σ w a hI hR => by
    have hr := hR x (by simp [ho, Op.operands])
    rw [hx] at hr
    generalize hv : a.eval x = v at hr
    cases hr with
    | ref cells b o vals hc hr =>
      obtain ⟨v, h1, h2⟩ := run_loadVar_cells b o vals hy (fun j hj => (hc j hj).1) hr
      exact ⟨v, by simp [execOp, ho, hv, Instr.loadAt, Instr.sureAddr, h1], h2⟩)

theorem ap_load_ptr {o : Oper} {t : TypeId} {x : Operand} {id off : Nat} {l : List SV} {y : SV} {ρ : Operand → SV} {st : St}
    (ho : o.op = .load t x) (hx : ρ x = .ptr id off) (hl : st[id]? = some (.cells l)) (hy : cellsOf P t (l.drop off) = some y) : APure P o ρ st (y) :=
  (fun σ w a hI hR => by
    have hr := hR x (by simp [ho, Op.operands])
    rw [hx] at hr
    generalize hv : a.eval x = v at hr
    cases hr with
    | ptr id off b hkk hb =>
      obtain ⟨b', cs, T, h1, h2, h3, h4, h5⟩ := hI.cells id l hl
      rw [h1] at hb; cases hb
      obtain ⟨v, h6, h7⟩ := run_loadVar_cells (st := st) (σ := σ) (w := w) b off (fun j => cs.getD (off + j) default) hy (fun j hj => by
        simp at hj
        have : off + j < cs.size := by omega
        simp [World.cell?, h2, Array.getD, this]) (fun j hj => by
        simp at hj
        have := h4 (off + j) (by omega)
        simpa [List.getD_eq_getElem?_getD] using this)
      exact ⟨v, by simp [execOp, ho, hv, Instr.loadAt, Instr.sureAddr, h6], h7⟩)

theorem und_field {t : TypeId} {f off size : Nat} (h : aField P t f = some (off, size)) : ∃ fs g, P.underlying t = some (.struct fs) ∧ fs[f]? = some g ∧ g.offset = off ∧ aSize P g.type = some size := by
  unfold aField at h
  cases hi : P.underlying t with
  | none => simp [hi] at h
  | some d =>
    rw [hi] at h
    cases d with
    | struct fs =>
      simp only [Option.bind_some] at h
      cases hg : fs[f]? with
      | none => simp [hg] at h
      | some g =>
        rw [hg] at h
        simp only [Option.bind_some] at h
        cases hs : aSize P g.type with
        | none => simp [hs] at h
        | some s =>
          rw [hs] at h
          simp at h
          exact ⟨fs, g, rfl, hg, h.1, by rw [hs, h.2]⟩
    | _ => simp at h

theorem run_fieldAt' {t : TypeId} {f off size : Nat} (h : aField P t f = some (off, size)) (h0 : size ≠ 0) (b o : Nat) (w : World) :
    (Instr.fieldAt t (.pointer (some ⟨b, o, none⟩)) f).run P w = .ok (.pointer (some ⟨b, o + off, none⟩)) w := by
  obtain ⟨fs, g, h1, h2, h3, h4⟩ := und_field h
  subst h3
  simp [Instr.fieldAt, run_underlying h1, h2, Instr.sureAddr, fieldPlace, run_sizeOf' h4, h0, addr_add]

theorem rep_ref_drop {st : St} {σ : Sig} {w : World} {l : List SV} {b o : Nat} {vals : Nat → Value} (d n : Nat)
    (hc : ∀ j, j < l.length → w.cell? ⟨b, o + j, none⟩ = some (vals j) ∧ (σ.lock b).has (o + j)) (hr : ∀ j, j < l.length → Rep st σ w (l.getD j .any) (vals j)) :
    Rep st σ w (.ref ((l.drop d).take n)) (.pointer (some ⟨b, o + d, none⟩)) := by
  refine .ref _ b (o + d) (fun j => vals (d + j)) (fun j hj => ?_) (fun j hj => ?_)
  · have hlt : d + j < l.length := by simp at hj; omega
    have := hc (d + j) hlt
    rw [← Nat.add_assoc] at this
    exact this
  · have hlt : d + j < l.length := by simp at hj; omega
    have hn : j < n := by simp at hj; omega
    have := hr (d + j) hlt
    simpa [List.getD_eq_getElem?_getD, hn] using this

theorem ap_fieldAddr_ref {o : Oper} {t : TypeId} {f off size : Nat} {x : Operand} {l : List SV} {ρ : Operand → SV} {st : St}
    (ho : o.op = .fieldAddr t x f) (hx : ρ x = .ref l) (hf : aField P t f = some (off, size)) (h0 : size ≠ 0) : APure P o ρ st ((.ref ((l.drop off).take size))) :=
  (fun σ w a hI hR => by
    have hr := hR x (by simp [ho, Op.operands])
    rw [hx] at hr
    generalize hv : a.eval x = v at hr
    cases hr with
    | ref cells b o vals hc hr => exact ⟨_, by simp [execOp, ho, hv, run_fieldAt' hf h0], rep_ref_drop off size hc hr⟩)

theorem ap_fieldAddr_ptr {o : Oper} {t : TypeId} {f off size : Nat} {x : Operand} {id i : Nat} {ρ : Operand → SV} {st : St}
    (ho : o.op = .fieldAddr t x f) (hx : ρ x = .ptr id i) (hf : aField P t f = some (off, size)) (h0 : size ≠ 0) : APure P o ρ st ((.ptr id (i + off))) :=
  (fun σ w a hI hR => by
    have hr := hR x (by simp [ho, Op.operands])
    rw [hx] at hr
    generalize hv : a.eval x = v at hr
    cases hr with
    | ptr id i b hkk hb => exact ⟨_, by simp [execOp, ho, hv, run_fieldAt' hf h0], .ptr id (i + off) b hkk hb⟩)

theorem ap_indexAddr {o : Oper} {t e : TypeId} {z : Nat} {m : Mode} {x y : Operand} {k : IntKind} {i : Int} {l : List SV} {ρ : Operand → SV} {st : St}
    (ho : o.op = .indexAddr t x y) (hx : ρ x = .slice m z l) (hy : ρ y = .sc (.int k i)) (he : aElem P t = some e) (hz : aSize P e = some z)
    (h0 : 0 ≤ i) (hi : i < l.length) : APure P o ρ st ((.ref (l.getD i.toNat .any).cells)) :=
  (fun σ w a hI hR => by
    have hr := hR x (by simp [ho, Op.operands])
    rw [hx] at hr
    have e2 := rep_sc (by have := hR y (by simp [ho, Op.operands]); rw [hy] at this; exact this)
    generalize hv : a.eval x = v at hr
    have hlt : i.toNat < l.length := by omega
    cases hr with
    | nil m z hm => simp at hlt
    | slice m z l ad cap vals hcap hsp hzz hc hr hm =>
      have hsp' := hsp (by rintro rfl; simp at hlt)
      obtain ⟨b, o', sp⟩ := ad
      simp only at hsp' hc
      subst hsp'
      refine ⟨.pointer (some ⟨b, o' + i.toNat * z, none⟩), ?_, .ref _ b (o' + i.toNat * z) (vals i.toNat) (fun j hj => ?_) (fun j hj => ?_)⟩
      · simp [execOp, ho, hv, e2, Instr.indexAt, asIntOf, run_underlying (und_slice he), h0, hi, run_sizeOf' hz, addr_add]
      · rw [hzz i.toNat hlt] at hj
        exact hc i.toNat j hlt hj
      · rw [hzz i.toNat hlt] at hj
        exact hr i.toNat j hlt hj)

theorem ap_len_slice {o : Oper} {t : TypeId} {e : TypeId} {z : Nat} {m : Mode} {x : Operand} {l : List SV} {ρ : Operand → SV} {st : St}
    (ho : o.op = .call { callee := .builtin .len, args := #[x], argTypes := #[t] }) (hx : ρ x = .slice m z l) (he : aElem P t = some e)
    : APure P o ρ st ((.sc (.int .i64 l.length))) :=
  (fun σ w a hI hR => by
    have hr := hR x (by simp [ho, Op.operands, Call.operands])
    rw [hx] at hr
    generalize hv : a.eval x = v at hr
    cases hr with
    | nil m z hm => exact ⟨.int .i64 0, by simp [execOp, ho, resolve, invoke, builtin, hv, Builtin.len_, run_underlying (und_slice he), goInt], .sc _⟩
    | slice m z l ad cap vals hcap hsp hzz hc hr hm =>
      exact ⟨.int .i64 l.length, by simp [execOp, ho, resolve, invoke, builtin, hv, Builtin.len_, run_underlying (und_slice he), goInt], .sc _⟩)

theorem ap_len_str {o : Oper} {t : TypeId} {x : Operand} {s : ByteArray} {ρ : Operand → SV} {st : St}
    (ho : o.op = .call { callee := .builtin .len, args := #[x], argTypes := #[t] }) (hx : ρ x = .sc (.string s)) (he : P.underlying t = some .string)
    : APure P o ρ st ((.sc (.int .i64 s.size))) :=
  (fun σ w a hI hR => by
    have e := rep_sc (by have := hR x (by simp [ho, Op.operands, Call.operands]); rw [hx] at this; exact this)
    exact ⟨_, by simp [execOp, ho, resolve, invoke, builtin, e, Builtin.len_, run_underlying he, goInt], .sc _⟩)

/-! Slicing. -/

def bound (ρ : Operand → SV) (x : Option Operand) (d : Nat) : Option Int :=
  match x with
  | none => some d
  | some y => match ρ y with
    | .sc (.int _ n) => some n
    | _ => none

theorem run_sliceBound {k : IntKind} {n : Int} {y : Nat} {code : BoundsCode} (h0 : 0 ≤ n) (h1 : n ≤ y) (w : World) :
    (Instr.sliceBound (.int k n) y code).run P w = .ok n.toNat w := by simp [Instr.sliceBound, asIntOf, h0, h1]

theorem getD_sub (l : List SV) (lo hi i : Nat) (h : i < hi - lo) : ((l.take hi).drop lo).getD i .any = l.getD (lo + i) .any := by
  simp only [List.getD_eq_getElem?_getD, List.getElem?_drop, List.getElem?_take]
  rw [if_pos (by omega)]

theorem len_sub (l : List SV) (lo hi : Nat) (h2 : hi ≤ l.length) : ((l.take hi).drop lo).length = hi - lo := by simp; omega

theorem rep_sub {st : St} {σ : Sig} {w : World} {m : Mode} {z : Nat} {l : List SV} {a : Option Addr} {len cap : Nat} (h : Rep st σ w (.slice m z l) (.slice a len cap)) (lo hi c : Nat)
    (h1 : lo ≤ hi) (h2 : hi ≤ l.length) (hc : hi ≤ c) (hcc : c ≤ cap) (m' : Mode) (hm' : m' = .imm ∨ (m' = .full ∧ c = hi)) :
    Rep st σ w (.slice m' z ((l.take hi).drop lo)) (.slice (if c = lo then a else a.map (·.add (lo * z))) (hi - lo) (c - lo)) := by
  have hmode : ∀ ad : Addr, ModeOk st σ w z ad (hi - lo) (c - lo) m' := by
    intro ad
    rcases hm' with rfl | ⟨rfl, e⟩
    · trivial
    · subst e; rfl
  have hnil : ModeNil st m' := by rcases hm' with rfl | ⟨rfl, _⟩ <;> trivial
  cases h with
  | nil m z hm =>
    simp at h2
    subst h2
    obtain rfl : lo = 0 := by omega
    obtain rfl : c = 0 := by omega
    simpa using Rep.nil m' z hnil
  | slice m z l ad cap vals hcap hsp hzz hcel hr hm =>
    have hl := len_sub l lo hi h2
    by_cases e : c = lo
    · have e2 : (l.take hi).drop lo = [] := List.eq_nil_of_length_eq_zero (by omega)
      rw [if_pos e, e2]
      have : hi - lo = ([] : List SV).length := by simp; omega
      rw [this]
      refine .slice m' z [] ad (c - lo) (fun _ _ => default) (by simp) (fun h => absurd rfl h) (fun i hi => absurd hi (Nat.not_lt_zero _)) (fun i j hi => absurd hi (Nat.not_lt_zero _))
        (fun i j hi => absurd hi (Nat.not_lt_zero _)) ?_
      have hh := hmode ad
      rw [this] at hh
      exact hh
    · rw [if_neg e]
      simp only [Option.map_some]
      have hl' : hi - lo = ((l.take hi).drop lo).length := hl.symm
      have hspot : (ad.add (lo * z)) = ⟨ad.block, ad.off + lo * z, (ad.add (lo * z)).spot⟩ ∧ (ad.spot = none → (ad.add (lo * z)).spot = none) := by
        unfold Addr.add
        split
        · rename_i h0; simp [h0]
        · simp
      have hmd := hmode (ad.add (lo * z))
      rw [hl'] at hmd ⊢
      refine .slice m' z _ (ad.add (lo * z)) (c - lo) (fun i j => vals (lo + i) j) (by omega) (fun hne => hspot.2 (hsp (by rintro rfl; simp at hne))) (fun i hi => ?_) (fun i j hi hj => ?_)
        (fun i j hi hj => ?_) hmd
      · rw [getD_sub _ _ _ _ (by omega)]; exact hzz _ (by omega)
      · rw [hspot.1]
        have := hcel (lo + i) j (by omega) hj
        rw [Nat.add_mul, ← Nat.add_assoc] at this
        exact this
      · rw [getD_sub _ _ _ _ (by omega)]; exact hr _ _ (by omega) hj

theorem rep_slice_form {st : St} {σ : Sig} {w : World} {m : Mode} {z : Nat} {l : List SV} {v : Value} (h : Rep st σ w (.slice m z l) v) :
    ∃ a cap, v = .slice a l.length cap ∧ l.length ≤ cap := by
  cases h with
  | nil m z hm => exact ⟨none, 0, rfl, Nat.le_refl _⟩
  | slice m z l ad cap vals hcap hsp hzz hcc hr hm => exact ⟨some ad, cap, rfl, hcap⟩

/-- 's[lo:hi]', 's[lo:]', 's[:hi]', within the length. -/
theorem ap_slice {o : Oper} {t e : TypeId} {z : Nat} {m : Mode} {x : Operand} {lo hi : Option Operand} {nl nh : Int} {l : List SV} {ρ : Operand → SV} {st : St}
    (ho : o.op = .slice t x lo hi none) (hx : ρ x = .slice m z l) (he : aElem P t = some e) (hz : aSize P e = some z)
    (hl : bound ρ lo 0 = some nl) (hh : bound ρ hi l.length = some nh) (h0 : 0 ≤ nl) (h1 : nl ≤ nh) (h2 : nh ≤ l.length)
    : APure P o ρ st ((.slice .imm z ((l.take nh.toNat).drop nl.toNat))) :=
  (fun σ w a hI hR => by
    have hr := hR x (by simp [ho, Op.operands])
    rw [hx] at hr
    generalize hv : a.eval x = v at hr
    obtain ⟨ad, cap, rfl, hcap⟩ := rep_slice_form hr
    have hsub := rep_sub hr nl.toNat nh.toNat cap (by omega) (by omega) (by omega) (Nat.le_refl _) .imm (.inl rfl)
    refine ⟨_, ?_, hsub⟩
    have el : ∀ (h : Nat) (c : BoundsCode), nl ≤ h → (match lo.map a.eval with | some v => Instr.sliceBound v h c | none => pure 0).run P w = .ok nl.toNat w := by
      intro h c hle
      cases lo with
      | none => simp [bound] at hl; subst hl; rfl
      | some y =>
        simp only [bound] at hl
        split at hl
        · rename_i k n hy
          injection hl with hl; subst hl
          have e := rep_sc (by have := hR y (by simp [ho, Op.operands]); rw [hy] at this; exact this)
          simp only [Option.map_some, e]
          exact run_sliceBound h0 hle w
        · cases hl
    have eh : (match hi.map a.eval with | some v => Instr.sliceBound v cap .sliceAcap | none => pure l.length).run P w = .ok nh.toNat w := by
      cases hi with
      | none => simp [bound] at hh; subst hh; simp
      | some y =>
        simp only [bound] at hh
        split at hh
        · rename_i k n hy
          injection hh with hh; subst hh
          have e := rep_sc (by have := hR y (by simp [ho, Op.operands]); rw [hy] at this; exact this)
          simp only [Option.map_some, e]
          exact run_sliceBound (by omega) (by omega) w
        · cases hh
    have hb : (Instr.sliceBounds true l.length cap (lo.map a.eval) (hi.map a.eval) none).run P w = .ok (nl.toNat, nh.toNat, cap) w := by
      have el' := el nh.toNat .sliceB (by omega)
      cases lo <;> cases hi <;> simp [Instr.sliceBounds] at el' eh ⊢ <;> simp [el', eh]
    simp [execOp, ho, hv, Instr.sliceAt, Instr.slice, run_underlying (und_slice he), hb, run_sizeOf' hz])


theorem run_bound {st : St} {σ : Sig} {w : World} {ρ : Operand → SV} {a : Act} {y : Operand} (hR : Rep st σ w (ρ y) (a.eval y)) {n : Int} (h : bound ρ (some y) 0 = some n) (h0 : 0 ≤ n) (c : Nat)
    (hc : n ≤ c) (code : BoundsCode) : (Instr.sliceBound (a.eval y) c code).run P w = .ok n.toNat w := by
  simp only [bound] at h
  split at h
  · rename_i k n' hy
    injection h with h; subst h
    have e := rep_sc (by rw [hy] at hR; exact hR)
    rw [e]
    exact run_sliceBound h0 hc w
  · cases h

/-- 's[lo:hi:hi]'. -/
theorem ap_slice3 {o : Oper} {t e : TypeId} {z : Nat} {m : Mode} {x : Operand} {lo : Option Operand} {hi mx : Operand} {nl nh : Int} {l : List SV} {ρ : Operand → SV} {st : St}
    (ho : o.op = .slice t x lo (some hi) (some mx)) (hx : ρ x = .slice m z l) (he : aElem P t = some e) (hz : aSize P e = some z)
    (hl : bound ρ lo 0 = some nl) (hh : bound ρ (some hi) 0 = some nh) (hm : bound ρ (some mx) 0 = some nh) (h0 : 0 ≤ nl) (h1 : nl ≤ nh) (h2 : nh ≤ l.length)
    : APure P o ρ st ((.slice .full z ((l.take nh.toNat).drop nl.toNat))) :=
  (fun σ w a hI hR => by
    have hr := hR x (by simp [ho, Op.operands])
    rw [hx] at hr
    generalize hv : a.eval x = v at hr
    obtain ⟨ad, cap, rfl, hcap⟩ := rep_slice_form hr
    have hsub := rep_sub hr nl.toNat nh.toNat nh.toNat (by omega) (by omega) (Nat.le_refl _) (by omega) .full (.inr ⟨rfl, rfl⟩)
    refine ⟨_, ?_, hsub⟩
    have em := run_bound (P := P) (hR mx (by simp [ho, Op.operands])) hm (by omega) cap (by omega) .slice3Acap
    have eh := run_bound (P := P) (hR hi (by simp [ho, Op.operands])) hh (by omega) nh.toNat (by omega) .slice3B
    have hb : (Instr.sliceBounds true l.length cap (lo.map a.eval) (some (a.eval hi)) (some (a.eval mx))).run P w = .ok (nl.toNat, nh.toNat, nh.toNat) w := by
      cases lo with
      | none => simp [bound] at hl; subst hl; simp [Instr.sliceBounds, em, eh]
      | some y =>
        have el := run_bound (P := P) (hR y (by simp [ho, Op.operands])) (y := y) (n := nl) (by simpa [bound] using hl) h0 nh.toNat (by omega) .slice3C
        simp [Instr.sliceBounds, em, eh, el]
    simp [execOp, ho, hv, Instr.sliceAt, Instr.slice, run_underlying (und_slice he), hb, run_sizeOf' hz])

theorem ap_slice_str {o : Oper} {t : TypeId} {x : Operand} {lo hi : Option Operand} {nl nh : Int} {s : ByteArray} {ρ : Operand → SV} {st : St}
    (ho : o.op = .slice t x lo hi none) (hx : ρ x = .sc (.string s)) (he : P.underlying t = some .string)
    (hl : bound ρ lo 0 = some nl) (hh : bound ρ hi s.size = some nh) (h0 : 0 ≤ nl) (h1 : nl ≤ nh) (h2 : nh ≤ s.size)
    : APure P o ρ st ((.sc (.string (s.extract nl.toNat nh.toNat)))) :=
  (fun σ w a hI hR => by
    have hv := rep_sc (by have := hR x (by simp [ho, Op.operands]); rw [hx] at this; exact this)
    refine ⟨_, ?_, .sc _⟩
    have eh : (match hi.map a.eval with | some v => Instr.sliceBound v s.size .sliceAlen | none => pure s.size).run P w = .ok nh.toNat w := by
      cases hi with
      | none => simp [bound] at hh; subst hh; simp
      | some y => exact run_bound (P := P) (hR y (by simp [ho, Op.operands])) (y := y) (n := nh) (by simpa [bound] using hh) (by omega) _ h2 _
    have hb : (Instr.sliceBounds false s.size s.size (lo.map a.eval) (hi.map a.eval) none).run P w = .ok (nl.toNat, nh.toNat, s.size) w := by
      cases lo with
      | none => simp [bound] at hl; subst hl; cases hi <;> simp [Instr.sliceBounds] at eh ⊢ <;> simp [eh]
      | some y =>
        have el := run_bound (P := P) (hR y (by simp [ho, Op.operands])) (y := y) (n := nl) (by simpa [bound] using hl) h0 nh.toNat (by omega) .sliceB
        cases hi <;> simp [Instr.sliceBounds] at eh ⊢ <;> simp [eh, el]
    simp [execOp, ho, hv, Instr.sliceAt, Instr.slice, run_underlying he, hb])

/-! New memory. -/

def shapeOk : SV → Bool
  | .sc v => v.oneCell'
  | .any => false
  | .tuple _ => false
  | .gd _ _ => false
  | _ => true

def RepL (st : St) (σ : Sig) (w : World) (l : List SV) (vs : Array Value) : Prop :=
  vs.size = l.length ∧ ∀ i, i < l.length → Rep st σ w (l.getD i .any) (vs.getD i default)

theorem rep_cells {st : St} {σ : Sig} {w : World} {x : SV} {v : Value} (hs : shapeOk x = true) (h : Rep st σ w x v) : RepL st σ w x.cells v.cells := by
  have one : ∀ (x : SV) (v : Value), x.cells = [x] → v.cells = #[v] → Rep st σ w x v → RepL st σ w x.cells v.cells := by
    intro x v h1 h2 h
    rw [h1, h2]
    refine ⟨rfl, fun i hi => ?_⟩
    obtain rfl : i = 0 := by simp at hi; exact hi
    exact h
  cases h with
  | any v => cases hs
  | sc v => refine one _ _ rfl ?_ (.sc v); cases v <;> first | rfl | cases hs
  | nil m z hm => exact one _ _ rfl rfl (.nil m z hm)
  | slice m z l a cap vals hcap hsp hz hc hr hm => exact one _ _ rfl rfl (.slice m z l a cap vals hcap hsp hz hc hr hm)
  | ref cells b o vals hc hr => exact one _ _ rfl rfl (.ref cells b o vals hc hr)
  | ptr id off b hk hb => exact one _ _ rfl rfl (.ptr id off b hk hb)
  | func fn first captured vf vc h1 h2 r1 r2 => exact one _ _ rfl rfl (.func fn first captured vf vc h1 h2 r1 r2)
  | agg l vs h r => exact ⟨h, r⟩
  | tuple l vs h r => cases hs
  | gd g x v h h' => cases hs
  | slc id z off len cap b hk hb hc => exact one _ _ rfl rfl (.slc id z off len cap b hk hb hc)

theorem cell?_push_new (w : World) (cs : Array Value) (T : TypeId) (fr : Nat × Nat) (j : Nat) :
    World.cell? { w with heap := w.heap.push (.cells cs T fr) } ⟨w.heap.size, j, none⟩ = cs[j]? := by
  simp [World.cell?]

theorem has_all (σ : Sig) (b j : Nat) : ((σ.setLock b .all).lock b).has j := by simp only [Sig.setLock, if_true]; trivial

theorem getD_some {cs : Array Value} {j : Nat} (h : j < cs.size) : cs[j]? = some (cs.getD j default) := by simp [Array.getD, h]

/-- A new variable that is never written again. -/
theorem aop_box {o : Oper} {t : TypeId} {x : Operand} {K : SV → St → Prop} {env : List SV} {st : St} (ho : o.op = .box t x) (hs : shapeOk (ev env x) = true)
    (hk : K (.ref (ev env x).cells) st) : AOp P o K env st :=
  aop_value fun σ w a hI hR => by
    have hr := rep_cells hs (rep_ev hR x)
    have hX := Ext.alloc hI (.cells (a.eval x).cells t) .all
    refine ⟨.pointer (some ⟨w.heap.size, 0, none⟩), _, _, st, σ.setLock w.heap.size .all, by simp [execOp, ho, Instr.box, newVar, newRow], hk, hI.alloc _ .all, ?_, hX⟩
    refine .ref _ w.heap.size 0 (fun j => (a.eval x).cells.getD j default) (fun j hj => ⟨?_, has_all _ _ _⟩) (fun j hj => (hr.2 j hj).ext hX)
    rw [Nat.zero_add, cell?_push_new]
    exact getD_some (by rw [hr.1]; exact hj)

/-- A new variable that is an object: it may be written. -/
theorem new_ob {st : St} {σ : Sig} {w : World} (hI : Inv st σ w) (l : List SV) (cs : Array Value) (t : TypeId) (hr : RepL st σ w l cs) :
    ∃ σ', Inv (st ++ [.cells l]) σ' { w with heap := w.heap.push (.cells cs t) } ∧ Ext st σ w (st ++ [.cells l]) σ' { w with heap := w.heap.push (.cells cs t) } ∧
      Rep (st ++ [.cells l]) σ' { w with heap := w.heap.push (.cells cs t) } (.ptr st.length 0) (.pointer (some ⟨w.heap.size, 0, none⟩)) := by
  have hX := Ext.alloc hI (.cells cs t) (.upto 0)
  have hI1 := hI.alloc (.cells cs t) (.upto 0)
  have hX2 : Ext st (σ.setLock w.heap.size (.upto 0)) { w with heap := w.heap.push (.cells cs t) } (st ++ [.cells l]) ((σ.setLock w.heap.size (.upto 0)).setMu st.length (some w.heap.size)) { w with heap := w.heap.push (.cells cs t) } := Ext.newOb _ _
  refine ⟨_, Inv.newCells hI1 (by simp; rfl) (by simp [Sig.setLock]) (fun i hi h => ?_) hr.1 (fun j hj => (hr.2 j hj).ext hX), hX.trans hX2, ?_⟩
  · have := hI.mu_lt hi h
    omega
  · exact .ptr _ _ _ ⟨l, by simp⟩ (by simp [Sig.setMu])

theorem aop_box_ob {o : Oper} {t : TypeId} {x : Operand} {K : SV → St → Prop} {env : List SV} {st : St} (ho : o.op = .box t x) (hs : shapeOk (ev env x) = true)
    (hk : K (.ptr st.length 0) (st ++ [.cells (ev env x).cells])) : AOp P o K env st :=
  aop_value fun σ w a hI hR => by
    obtain ⟨σ', h1, h2, h3⟩ := new_ob hI _ _ t (rep_cells hs (rep_ev hR x))
    exact ⟨_, _, _, _, σ', by simp [execOp, ho, Instr.box, newVar, newRow], hk, h1, h3, h2⟩

theorem zero_of {t : TypeId} {zs : List SV} (h : aZero P t = some zs) : ∃ i v, P.info? t = some i ∧ i.zero = some v ∧ zs = v.cells.toList.map svOf := by
  unfold aZero at h
  cases hi : P.info? t with
  | none => simp [hi] at h
  | some i =>
    cases hz : i.zero with
    | none => simp [hi, hz] at h
    | some v => simp [hi, hz] at h; exact ⟨i, v, rfl, hz, h.symm⟩

theorem run_zero' {t : TypeId} {i : TypeInfo} {v : Value} (hi : P.info? t = some i) (hz : i.zero = some v) (w : World) : (zeroValue t).run P w = .ok v w := by
  simp [zeroValue, run_typeInfo' hi, hz]

theorem repL_svOf {st : St} {σ : Sig} {w : World} (vs : Array Value) : RepL st σ w (vs.toList.map svOf) vs := by
  refine ⟨by simp, fun i hi => ?_⟩
  have hi' : i < vs.size := by simpa using hi
  have := rep_svOf (st := st) (σ := σ) (w := w) vs[i]
  simpa [Array.getD, hi', List.getD_eq_getElem?_getD] using this

theorem aop_alloc {o : Oper} {t : TypeId} {zs : List SV} {K : SV → St → Prop} {env : List SV} {st : St} (ho : o.op = .alloc t) (hz : aZero P t = some zs)
    (hk : K (.ptr st.length 0) (st ++ [.cells zs])) : AOp P o K env st :=
  aop_value fun σ w a hI hR => by
    obtain ⟨i, v, h1, h2, rfl⟩ := zero_of hz
    obtain ⟨σ', h3, h4, h5⟩ := new_ob hI _ _ t (repL_svOf v.cells)
    exact ⟨_, _, _, _, σ', by simp [execOp, ho, Instr.alloc, run_zero' h1 h2, newVar, newRow], hk, h3, h5, h4⟩

end Go.AL
