/- The abstract layer, part 7s: slices over objects: they may be written. -/
import Derived.Test.YtjkhpblfgcnpaaaAl7
set_option linter.unusedVariables false
namespace Go.AL
variable {P : Program}

theorem ap_indexAddr_slc {o : Oper} {t e : TypeId} {x y : Operand} {k : IntKind} {i : Int} {id z off len cap : Nat} {ρ : Operand → SV} {st : St}
    (ho : o.op = .indexAddr t x y) (hx : ρ x = .slc id z off len cap) (hy : ρ y = .sc (.int k i)) (he : aElem P t = some e) (hz : aSize P e = some z)
    (h0 : 0 ≤ i) (hi : i < len) : APure P o ρ st (.ptr id (off + i.toNat * z)) := by
  intro σ w a hI hR
  have hr := hR x (by simp [ho, Op.operands])
  rw [hx] at hr
  have e2 := rep_sc (by have := hR y (by simp [ho, Op.operands]); rw [hy] at this; exact this)
  generalize hv : a.eval x = v at hr
  cases hr with
  | slc id z off len cap b hk hb hc =>
    exact ⟨_, by simp [execOp, ho, hv, e2, Instr.indexAt, asIntOf, run_underlying (und_slice he), h0, hi, run_sizeOf' hz, addr_add], .ptr id _ b hk hb⟩

theorem ap_len_slc {o : Oper} {t e : TypeId} {x : Operand} {id z off len cap : Nat} {ρ : Operand → SV} {st : St}
    (ho : o.op = .call { callee := .builtin .len, args := #[x], argTypes := #[t] }) (hx : ρ x = .slc id z off len cap) (he : aElem P t = some e) : APure P o ρ st (.sc (.int .i64 len)) := by
  intro σ w a hI hR
  have hr := hR x (by simp [ho, Op.operands, Call.operands])
  rw [hx] at hr
  generalize hv : a.eval x = v at hr
  cases hr with
  | slc id z off len cap b hk hb hc =>
    exact ⟨_, by simp [execOp, ho, resolve, invoke, builtin, hv, Builtin.len_, run_underlying (und_slice he), goInt], .sc _⟩

theorem ap_slice_slc {o : Oper} {t e : TypeId} {x : Operand} {lo hi : Option Operand} {nl nh : Int} {id z off len cap : Nat} {ρ : Operand → SV} {st : St}
    (ho : o.op = .slice t x lo hi none) (hx : ρ x = .slc id z off len cap) (he : aElem P t = some e) (hz : aSize P e = some z)
    (hl : bound ρ lo 0 = some nl) (hh : bound ρ hi len = some nh) (h0 : 0 ≤ nl) (h1 : nl ≤ nh) (h2 : nh ≤ cap) :
    APure P o ρ st (.slc id z (if cap = nl.toNat then off else off + nl.toNat * z) (nh.toNat - nl.toNat) (cap - nl.toNat)) := by
  intro σ w a hI hR
  have hr := hR x (by simp [ho, Op.operands])
  rw [hx] at hr
  generalize hv : a.eval x = v at hr
  cases hr with
  | slc id z off len cap b hk hb hc =>
    refine ⟨.slice (some (if cap = nl.toNat then ⟨b, off, none⟩ else (⟨b, off, none⟩ : Addr).add (nl.toNat * z))) (nh.toNat - nl.toNat) (cap - nl.toNat), ?_, ?_⟩
    · have eh : (match hi.map a.eval with | some v => Instr.sliceBound v cap .sliceAcap | none => pure len).run P w = .ok nh.toNat w := by
        cases hi with
        | none => simp [bound] at hh; subst hh; simp
        | some y => exact run_bound (P := P) (hR y (by simp [ho, Op.operands])) (y := y) (n := nh) (by simpa [bound] using hh) (by omega) _ h2 _
      have hb : (Instr.sliceBounds true len cap (lo.map a.eval) (hi.map a.eval) none).run P w = .ok (nl.toNat, nh.toNat, cap) w := by
        cases lo with
        | none => simp [bound] at hl; subst hl; cases hi <;> simp [Instr.sliceBounds] at eh ⊢ <;> simp [eh]
        | some y =>
          have el := run_bound (P := P) (hR y (by simp [ho, Op.operands])) (y := y) (n := nl) (by simpa [bound] using hl) h0 nh.toNat (by omega) .sliceB
          cases hi <;> simp [Instr.sliceBounds] at eh ⊢ <;> simp [eh, el]
      simp [execOp, ho, hv, Instr.sliceAt, Instr.slice, run_underlying (und_slice he), hb, run_sizeOf' hz]
      split <;> rfl
    · by_cases c : cap = nl.toNat
      · rw [if_pos c, if_pos c]; exact .slc id z off _ _ b hk hb (by omega)
      · rw [if_neg c, if_neg c, addr_add]; exact .slc id z _ _ _ b hk hb (by omega)

theorem flat_len {z : Nat} : ∀ (l : List SV), (∀ x ∈ l, x.cells.length = z) → (l.flatMap SV.cells).length = l.length * z
  | [], _ => by simp
  | x :: r, h => by
    rw [List.flatMap_cons, List.length_append, flat_len r (fun y hy => h y (by simp [hy])), h x (by simp), List.length_cons, Nat.add_mul, Nat.one_mul, Nat.add_comm]

theorem flat_get {z : Nat} : ∀ (l : List SV) (i j : Nat), (∀ x ∈ l, x.cells.length = z) → i < l.length → j < z → (l.flatMap SV.cells).getD (i * z + j) .any = (l.getD i .any).cells.getD j .any
  | [], i, j, _, hi, _ => absurd hi (Nat.not_lt_zero _)
  | x :: r, i, j, h, hi, hj => by
    have hx := h x (by simp)
    rw [List.flatMap_cons, List.getD_eq_getElem?_getD]
    cases i with
    | zero =>
      rw [Nat.zero_mul, Nat.zero_add, List.getElem?_append_left (by omega)]
      simp [List.getD_eq_getElem?_getD]
    | succ i =>
      have e : (i + 1) * z + j = x.cells.length + (i * z + j) := by rw [hx, Nat.add_mul, Nat.one_mul]; omega
      rw [e, List.getElem?_append_right (by omega), Nat.add_sub_cancel_left, ← List.getD_eq_getElem?_getD, flat_get r i j (fun y hy => h y (by simp [hy])) (by simpa using hi) hj]
      simp

/-- The first cells of a slice that is read. -/
theorem load_first {st : St} {σ : Sig} {w : World} {m : Mode} {z : Nat} {l : List SV} {a : Option Addr} {len cap : Nat} (h : Rep st σ w (.slice m z l) (.slice a len cap)) (n : Nat) (hn : n ≤ l.length) :
    (∃ cs : Array Value, (Builtin.firstCells z n (.slice a len cap)).run P w = .ok cs w ∧ RepL st σ w ((l.take n).flatMap SV.cells) cs) ∧ ∀ x ∈ l, x.cells.length = z := by
  obtain ⟨ad, cap', he, hcap⟩ := rep_slice_form h
  cases he
  have hsub := rep_sub h 0 n cap (Nat.zero_le _) hn (by omega) (Nat.le_refl _) .imm (.inl rfl)
  have hz : ∀ x ∈ l, x.cells.length = z := by
    intro x hx
    obtain ⟨_, _, _, _, h4⟩ := load_slice (P := P) h
    obtain ⟨i, hi⟩ := List.getElem?_of_mem hx
    have := h4 i (lt_of_get hi)
    rwa [List.getD_eq_getElem?_getD, hi] at this
  refine ⟨?_, hz⟩
  obtain ⟨cs, h1, h2, h3, h4⟩ := load_slice (P := P) hsub
  simp only [List.drop_zero, Nat.sub_zero] at h1 h2 h3 h4
  have hlen : (l.take n).length = n := by simp; omega
  rw [hlen] at h1 h2 h3
  have hz' : ∀ x ∈ l.take n, x.cells.length = z := fun x hx => hz x (List.mem_of_mem_take hx)
  refine ⟨cs, ?_, ?_, fun p hp => ?_⟩
  · have e : (Builtin.firstCells z n (.slice a l.length cap)) = (Builtin.firstCells z n (.slice (if cap = 0 then a else a.map (·.add (0 * z))) n cap)) := by
      have : (if cap = 0 then a else a.map (·.add (0 * z))) = a := by
        split
        · rfl
        · cases a <;> simp [Addr.add]
      rw [this]
      cases a <;> rfl
    rw [e]; exact h1
  · rw [h2, flat_len _ hz', hlen]
  · rw [flat_len _ hz', hlen] at hp
    have hz0 : 0 < z := by
      rcases Nat.eq_zero_or_pos z with h | h
      · subst h; simp at hp
      · exact h
    have hi : p / z < n := by rw [Nat.div_lt_iff_lt_mul hz0]; exact hp
    have hj : p % z < z := Nat.mod_lt _ hz0
    have := h3 (p / z) (p % z) hi hj
    rw [← flat_get (l.take n) (p / z) (p % z) hz' (by omega) hj] at this
    rwa [Nat.mul_comm (p / z) z, Nat.div_add_mod] at this

/-- The cells that an object's slice begins with. -/
theorem load_obj {st : St} {σ : Sig} {w : World} (hI : Inv st σ w) {id b : Nat} {l : List SV} (hl : st[id]? = some (.cells l)) (hb : σ.μ id = some b) (off n len cap z : Nat) (hn : off + n * z ≤ l.length) :
    ∃ cs : Array Value, (Builtin.firstCells z n (.slice (some ⟨b, off, none⟩) len cap)).run P w = .ok cs w ∧ RepL st σ w ((l.drop off).take (n * z)) cs := by
  obtain ⟨b', cs, T, h1, h2, h3, h4, h5⟩ := hI.cells id l hl
  rw [h1] at hb; cases hb
  have hrun := run_loadCells (P := P) (w := w) ⟨b, off, none⟩ (n * z) (fun p => cs.getD (off + p) default) (fun p hp => by
    rw [addr_add]
    have : off + p < cs.size := by omega
    simp [World.cell?, h2, Array.getD, this])
  refine ⟨_, by simpa [Builtin.firstCells] using hrun, by simp; omega, fun p hp => ?_⟩
  have hp' : p < n * z := by simp at hp; omega
  have := h4 (off + p) (by omega)
  simpa [Array.getD_eq_getD_getElem?, hp', List.getD_eq_getElem?_getD, List.getElem?_take] using this

/-- Storing a row of cells into an object. -/
theorem store_obj {st : St} {σ : Sig} {w : World} (hI : Inv st σ w) {id b : Nat} {l xs : List SV} {vs : Array Value} (hl : st[id]? = some (.cells l)) (hb : σ.μ id = some b) (off : Nat)
    (hx : RepL st σ w xs vs) (hok : xs.all cellOk = true) (hle : off + xs.length ≤ l.length) :
    ∃ w', (storeCells ⟨b, off, none⟩ vs.toList).run P w = .ok () w' ∧ Inv (st.set id (.cells (splice l off xs))) σ w' ∧ Ext st σ w (st.set id (.cells (splice l off xs))) σ w' := by
  obtain ⟨b', cs, T, h1, h2, h3, h4, h5⟩ := hI.cells id l hl
  rw [h1] at hb; cases hb
  have hrow := repL_row off (cs := cs) ⟨h3, h4⟩ hx hle
  have hst := run_storeCells_at (P := P) b off T vs.toList 0 cs w h2 (by simp [hx.1, h3]; omega) (repL_one hok hx)
  simp only [Nat.add_zero] at hst
  have hoth : ∀ c, c ≠ b → (w.setRow b (cs.toList.take off ++ vs.toList ++ cs.toList.drop (off + vs.toList.length)).toArray).heap[c]? = w.heap[c]? := fun c hc => setRow_other _ _ _ _ hc
  exact ⟨_, hst, hI.write hl h1 h5 rfl rfl rfl (by simp) hoth (setRow_heap w b cs _ T _ h2) hrow.1 hrow.2, Ext.write hI hl h1 h5 rfl rfl rfl (by simp) hoth⟩

/-- 'copy(dst, src)' into an object, from a slice that is read. -/
theorem aop_copy_slice {o : Oper} {t : TypeId} {ts : TypeId} {e : TypeId} {x y : Operand} {id z off len cap : Nat} {m : Mode} {ys l : List SV} {K : SV → St → Prop} {env : List SV} {st : St}
    (ho : o.op = .call { callee := .builtin .copy, args := #[x, y], argTypes := #[t, ts] }) (hx : ev env x = .slc id z off len cap) (hy : ev env y = .slice m z ys) (hl : st[id]? = some (.cells l))
    (he : aElem P t = some e) (hz : aSize P e = some z) (hle : off + (min ys.length len) * z ≤ l.length) (hok : ∀ s ∈ ys, elemOk s = true)
    (hk : K (.sc (.int .i64 (min ys.length len : Nat))) (st.set id (.cells (splice l off ((ys.take (min ys.length len)).flatMap SV.cells))))) : AOp P o K env st :=
  aop_value fun σ w a hI hR => by
    have r1 := rep_ev hR x
    rw [hx] at r1
    have r2 := rep_ev hR y
    rw [hy] at r2
    generalize hv : a.eval x = v at r1
    generalize hu : a.eval y = u at r2
    obtain ⟨ay, cy, rfl, hcy⟩ := rep_slice_form r2
    cases r1 with
    | slc id z off len cap b hkk hb hc =>
      obtain ⟨⟨cs, g1, g2⟩, g3⟩ := load_first (P := P) r2 (min ys.length len) (Nat.min_le_left _ _)
      have hlen : ((ys.take (min ys.length len)).flatMap SV.cells).length = (min ys.length len) * z := by
        rw [flat_len _ (fun s hs => g3 s (List.mem_of_mem_take hs)), List.length_take, Nat.min_eq_left (Nat.min_le_left _ _)]
      obtain ⟨w', k1, k2, k3⟩ := store_obj (P := P) hI hl hb off g2 (by
        rw [List.all_eq_true]
        intro s hs
        rw [List.mem_flatMap] at hs
        obtain ⟨q, hq, hs⟩ := hs
        have := hok q (List.mem_of_mem_take hq)
        unfold elemOk at this
        rw [List.all_eq_true] at this
        exact this s hs) (by rw [hlen]; exact hle)
      refine ⟨.int .i64 (min ys.length len : Nat), w', _, _, σ, ?_, hk, k2, .sc _, k3⟩
      have hm : Nat.min ys.length len = min ys.length len := rfl
      simp [execOp, ho, resolve, invoke, builtin, hv, hu, Builtin.copy_, run_underlying (und_slice he), Builtin.lenOf, run_sizeOf' hz, hm, g1, k1, goInt]

/-- 'copy(dst, src)' within objects. -/
theorem aop_copy_slc {o : Oper} {t : TypeId} {ts : TypeId} {e : TypeId} {x y : Operand} {id z off len cap id' off' len' cap' : Nat} {l l' : List SV} {K : SV → St → Prop} {env : List SV} {st : St}
    (ho : o.op = .call { callee := .builtin .copy, args := #[x, y], argTypes := #[t, ts] }) (hx : ev env x = .slc id z off len cap) (hy : ev env y = .slc id' z off' len' cap') (hl : st[id]? = some (.cells l))
    (hl' : st[id']? = some (.cells l')) (he : aElem P t = some e) (hz : aSize P e = some z) (hle : off + (min len' len) * z ≤ l.length) (hle' : off' + (min len' len) * z ≤ l'.length)
    (hok : ((l'.drop off').take ((min len' len) * z)).all cellOk = true)
    (hk : K (.sc (.int .i64 (min len' len : Nat))) (st.set id (.cells (splice l off ((l'.drop off').take ((min len' len) * z)))))) : AOp P o K env st :=
  aop_value fun σ w a hI hR => by
    have r1 := rep_ev hR x
    rw [hx] at r1
    have r2 := rep_ev hR y
    rw [hy] at r2
    generalize hv : a.eval x = v at r1
    generalize hu : a.eval y = u at r2
    cases r1 with
    | slc id z off len cap b hkk hb hc =>
      cases r2 with
      | slc id' z off' len' cap' b' hkk' hb' hc' =>
        obtain ⟨cs, g1, g2⟩ := load_obj (P := P) hI hl' hb' off' (min len' len) len' cap' z hle'
        obtain ⟨w', k1, k2, k3⟩ := store_obj (P := P) hI hl hb off g2 hok (by simp; omega)
        refine ⟨.int .i64 (min len' len : Nat), w', _, _, σ, ?_, hk, k2, .sc _, k3⟩
        have hm : Nat.min len' len = min len' len := rfl
        simp [execOp, ho, resolve, invoke, builtin, hv, hu, Builtin.copy_, run_underlying (und_slice he), Builtin.lenOf, run_sizeOf' hz, hm, g1, k1, goInt]


def zeroL (zs : List SV) : Nat → List SV
  | 0 => []
  | n + 1 => zs ++ zeroL zs n

theorem zeroL_len (zs : List SV) : ∀ n, (zeroL zs n).length = n * zs.length
  | 0 => by simp [zeroL]
  | n + 1 => by rw [zeroL, List.length_append, zeroL_len zs n, Nat.add_mul, Nat.one_mul, Nat.add_comm]

theorem zeroL_get (zs : List SV) (hz : 0 < zs.length) : ∀ (n p : Nat), p < n * zs.length → (zeroL zs n).getD p .any = zs.getD (p % zs.length) .any
  | 0, p, h => by omega
  | n + 1, p, h => by
    rw [zeroL, List.getD_eq_getElem?_getD]
    by_cases c : p < zs.length
    · rw [List.getElem?_append_left c, Nat.mod_eq_of_lt c, List.getD_eq_getElem?_getD]
    · have h2 : p - zs.length < n * zs.length := by rw [Nat.add_mul, Nat.one_mul] at h; omega
      rw [List.getElem?_append_right (Nat.not_lt.1 c), ← List.getD_eq_getElem?_getD, zeroL_get zs hz n _ h2]
      congr 1
      exact (Nat.mod_eq_sub_mod (Nat.not_lt.1 c)).symm

theorem repL_zero {st : St} {σ : Sig} {w : World} (v : Value) (n : Nat) : RepL st σ w (zeroL (v.cells.toList.map svOf) n) (Builtin.zeroCells v.cells n) := by
  refine ⟨by rw [size_zeroCells, zeroL_len]; simp, fun p hp => ?_⟩
  rw [zeroL_len] at hp
  have hz : 0 < (v.cells.toList.map svOf).length := by
    rcases Nat.eq_zero_or_pos (v.cells.toList.map svOf).length with h | h
    · rw [h] at hp; simp at hp
    · exact h
  rw [zeroL_get _ hz _ _ hp]
  have hz' : 0 < v.cells.size := by simpa using hz
  have hm : p % v.cells.size < v.cells.size := Nat.mod_lt _ hz'
  have hp' : p < n * v.cells.size := by simpa using hp
  have := (repL_svOf (st := st) (σ := σ) (w := w) v.cells).2 (p % v.cells.size) (by simpa using hm)
  simpa [Builtin.zeroCells, Array.getD_eq_getD_getElem?, hp', hm] using this

/-- 'clear(s)'. -/
theorem aop_clear {o : Oper} {t e : TypeId} {x : Operand} {id z off len cap : Nat} {l zs : List SV} {K : SV → St → Prop} {env : List SV} {st : St}
    (ho : o.op = .call { callee := .builtin .clear, args := #[x], argTypes := #[t] }) (hx : ev env x = .slc id z off len cap) (hl : st[id]? = some (.cells l))
    (he : aElem P t = some e) (hzs : aZero P e = some zs) (hle : off + len * zs.length ≤ l.length) (hok : zs.all cellOk = true)
    (hk : K .any (if len = 0 then st else st.set id (.cells (splice l off (zeroL zs len))))) : AOp P o K env st :=
  aop_value fun σ w a hI hR => by
    have r1 := rep_ev hR x
    rw [hx] at r1
    generalize hv : a.eval x = v at r1
    obtain ⟨i, zv, h1, h2, rfl⟩ := zero_of hzs
    cases r1 with
    | slc id z off len cap b hkk hb hc =>
      by_cases h0 : len = 0
      · subst h0
        rw [if_pos rfl] at hk
        exact ⟨.tuple #[], w, _, st, σ, by simp [execOp, ho, resolve, invoke, builtin, hv, Builtin.clear_, run_underlying (und_slice he)], hk, hI, .any _, Ext.refl _ _ _⟩
      · rw [if_neg h0] at hk
        obtain ⟨w', k1, k2, k3⟩ := store_obj (P := P) hI hl hb off (repL_zero (st := st) (σ := σ) (w := w) zv len) (by
          rw [List.all_eq_true] at hok ⊢
          intro s hs
          obtain ⟨p, hp⟩ := List.getElem?_of_mem hs
          have hlt := lt_of_get hp
          rw [zeroL_len] at hlt
          have hz : 0 < (zv.cells.toList.map svOf).length := by
            rcases Nat.eq_zero_or_pos (zv.cells.toList.map svOf).length with h | h
            · rw [h] at hlt; simp at hlt
            · exact h
          have h3 := zeroL_get _ hz _ _ hlt
          rw [List.getD_eq_getElem?_getD, hp] at h3
          simp only [Option.getD_some] at h3
          rw [h3, List.getD_eq_getElem?_getD, List.getElem?_eq_getElem (Nat.mod_lt _ hz)]
          exact hok _ (List.getElem_mem _)) (by rw [zeroL_len]; exact hle)
        refine ⟨.tuple #[], w', _, _, σ, ?_, hk, k2, .any _, k3⟩
        obtain ⟨n, rfl⟩ : ∃ n, len = n + 1 := ⟨len - 1, by omega⟩
        simp [execOp, ho, resolve, invoke, builtin, hv, Builtin.clear_, run_underlying (und_slice he), run_zero' h1 h2, k1]

/-- A slice that a function made, once nobody writes it any more. -/
def chunk (ag : Bool) (z : Nat) (l : List SV) (off i : Nat) : SV := if ag then .agg ((l.drop (off + i * z)).take z) else l.getD (off + i) .any
def chunks (ag : Bool) (z off len : Nat) (l : List SV) : List SV := (List.range len).map (chunk ag z l off)

theorem acalls_freeze {f : FuncId} {args : List SV} {K : SV → St → Prop} {st : St} (ag : Bool)
    (h : ACalls P f args (fun x s => ∃ ex id z off len cap l, x = .slc id z off len cap ∧ s = st ++ ex ∧ st.length ≤ id ∧ s[id]? = some (.cells l) ∧ off + len * z ≤ l.length ∧ (ag = false → z = 1) ∧
      (ag = false → ∀ y ∈ l, y.cells = [y]) ∧ (∀ y ∈ (l.drop off).take (len * z), Ids st.length y) ∧ K (.slice .imm z (chunks ag z off len l)) st) st) : ACalls P f args K st := by
  intro σ w vs hI hR
  refine (h σ w vs hI hR).mono ?_
  rintro e w' ⟨v, x, s, σ', rfl, ⟨ex, id, z, off, len, cap, l, rfl, rfl, hid, hl, hle, hz1, hag, hids, hk⟩, hI', hr, hX⟩
  cases hr with
  | slc id z off len cap b hkk hb hc =>
    obtain ⟨b', cs, T, h1, h2, h3, h4, h5⟩ := hI'.cells id l hl
    rw [h1] at hb; cases hb
    have hIst : Inv st σ' w' := hI'.drop fun id l hl j hj => by
      obtain ⟨b, cs, T, _, _, _, h4, _⟩ := hI.cells id l hl
      exact (h4 j hj).ids
    have hXst : Ext st σ w st σ' w' := hX.drop (Nat.le_refl _)
    -- the block is locked
    have hnb : ∀ i, i < st.length → σ'.μ i ≠ some b := fun i hi hm => by
      have := hI'.inj i id b (by simp; omega) (lt_of_get hl) hm h1
      omega
    have hblt := lt_of_some h2
    have hX2 : Ext st σ' w' st (σ'.setLock b .all) w' := by
      refine ⟨rfl, rfl, rfl, Nat.le_refl _, fun c o v hlk hcl => ⟨?_, hcl⟩, fun c hcl hlk => ⟨?_, rfl⟩, fun _ l h => ⟨⟨l, h⟩, rfl⟩, fun i v h => ⟨v, h, Nat.le_refl _, fun _ => ⟨rfl, fun c hc => ⟨?_, rfl⟩⟩⟩⟩
      · simp only [Sig.setLock]
        split
        · trivial
        · exact hlk
      · have : c ≠ b := by rintro rfl; rw [h5] at hlk; cases hlk
        simp only [Sig.setLock, if_neg this]
      · have : c ≠ b := by rintro rfl; exact hnb i (lt_of_get h) hc
        simp only [Sig.setLock, if_neg this]
    have hI2 : Inv st (σ'.setLock b .all) w' := by
      refine ⟨fun i l hl => ?_, fun i v c h hc => ?_, hIst.inj, fun c hc => ?_⟩
      · obtain ⟨c, cs, T, q1, q2, q3, q4, q5⟩ := hIst.cells i l hl
        have : c ≠ b := by rintro rfl; exact hnb i (lt_of_get hl) q1
        exact ⟨c, cs, T, q1, q2, q3, fun j hj => (q4 j hj).ext hX2, by simp only [Sig.setLock, if_neg this]; exact q5⟩
      · obtain ⟨q1, q2⟩ := hIst.tok i v c h hc
        have : c ≠ b := by rintro rfl; exact hnb i (lt_of_get h) hc
        exact ⟨q1, by simp only [Sig.setLock, if_neg this]; exact q2⟩
      · have : c ≠ b := by omega
        simp only [Sig.setLock, if_neg this]; exact hIst.fresh c hc
    refine ⟨.slice (some ⟨b, off, none⟩) len cap, _, st, σ'.setLock b .all, rfl, hk, hI2, ?_, hXst.trans hX2⟩
    have hlen : (chunks ag z off len l).length = len := by simp [chunks]
    have hget : ∀ i, i < len → (chunks ag z off len l).getD i .any = chunk ag z l off i := fun i hi => by simp [chunks, List.getD_eq_getElem?_getD, hi]
    have hcells : ∀ i, i < len → (chunk ag z l off i).cells.length = z ∧ ∀ j, j < z → (chunk ag z l off i).cells.getD j .any = l.getD (off + i * z + j) .any := by
      intro i hi
      have hlt : off + (i + 1) * z ≤ l.length := by
        have : (i + 1) * z ≤ len * z := Nat.mul_le_mul_right z hi
        omega
      rw [Nat.add_mul, Nat.one_mul] at hlt
      unfold chunk
      cases ag with
      | true =>
        simp only [if_true, SV.cells]
        refine ⟨by simp; omega, fun j hj => ?_⟩
        simp [List.getD_eq_getElem?_getD, hj]
      | false =>
        have hz := hz1 rfl
        subst hz
        simp only [Bool.false_eq_true, if_false]
        have hmem : l.getD (off + i) .any ∈ l := by
          rw [List.getD_eq_getElem?_getD, List.getElem?_eq_getElem (by omega)]; exact List.getElem_mem _
        rw [hag rfl _ hmem]
        refine ⟨rfl, fun j hj => ?_⟩
        obtain rfl : j = 0 := by omega
        simp
    have key : Rep st (σ'.setLock b .all) w' (.slice .imm z (chunks ag z off len l)) (.slice (some ⟨b, off, none⟩) (chunks ag z off len l).length cap) := by
      refine .slice .imm z _ ⟨b, off, none⟩ cap (fun i j => cs.getD (off + i * z + j) default) (by omega) (fun _ => rfl) (fun i hi => ?_) (fun i j hi hj => ⟨?_, ?_⟩) (fun i j hi hj => ?_) trivial
      · rw [hlen] at hi; rw [hget i hi]; exact (hcells i hi).1
      · rw [hlen] at hi
        have hlt := idx_lt hi hj
        have hs : off + i * z + j < cs.size := by omega
        simp [World.cell?, h2, Array.getD, hs]
      · simp only [Sig.setLock, if_true]; trivial
      · rw [hlen] at hi
        have hlt := idx_lt hi hj
        rw [hget i hi, (hcells i hi).2 j hj]
        have hj' : off + i * z + j < l.length := by omega
        have h6 := h4 _ hj'
        have hmem : l.getD (off + i * z + j) .any ∈ l := by
          rw [List.getD_eq_getElem?_getD, List.getElem?_eq_getElem hj']; exact List.getElem_mem _
        have hmem' : l.getD (off + i * z + j) .any ∈ (l.drop off).take (len * z) := by
          refine List.mem_iff_getElem?.2 ⟨i * z + j, ?_⟩
          rw [List.getElem?_take, if_pos (by omega), List.getElem?_drop, ← Nat.add_assoc, List.getD_eq_getElem?_getD, List.getElem?_eq_getElem hj']
          rfl
        exact (h6.drop (hids _ hmem')).ext hX2
    rw [hlen] at key
    exact key


theorem aop_makeSlice {o : Oper} {t e : TypeId} {x y : Operand} {k k' : IntKind} {n m : Int} {z by' : Nat} {zs : List SV} {K : SV → St → Prop} {env : List SV} {st : St}
    (ho : o.op = .makeSlice t x y) (hx : ev env x = .sc (.int k n)) (hy : ev env y = .sc (.int k' m)) (he : aElem P t = some e) (hz : aSize P e = some z) (hzs : aZero P e = some zs) (hzl : zs.length = z)
    (hby : aBytes P e = some by') (h0 : 0 ≤ n) (h1 : n ≤ m) (h2 : m ≤ 4611686018427387904) (hb : m.toNat * by' ≤ 281474976710656)
    (hk : K (.slc st.length z 0 n.toNat m.toNat) (st ++ [.cells (zeroL zs m.toNat)])) : AOp P o K env st :=
  aop_value fun σ w a hI hR => by
    have e1 := rep_sc (by have := rep_ev hR x; rw [hx] at this; exact this)
    have e2 := rep_sc (by have := rep_ev hR y; rw [hy] at this; exact this)
    obtain ⟨i, v, hi, hv, rfl⟩ := zero_of hzs
    have hvz : v.cells.size = z := by simpa using hzl
    obtain ⟨σ', g1, g2, g3⟩ := new_ob hI _ _ e (repL_zero (st := st) (σ := σ) (w := w) v m.toNat)
    refine ⟨.slice (some ⟨w.heap.size, 0, none⟩) n.toNat m.toNat, _, _, _, σ', ?_, hk, g1, ?_, g2⟩
    · have hbi : i.bytes = by' := bytes_of hby hi
      have w1 : IntKind.i64.wrap n = n := by rw [IntKind.wrap_i64]; omega
      have w2 : IntKind.i64.wrap m = m := by rw [IntKind.wrap_i64]; omega
      have t1 : ¬ ((i.bytes : Int) * m > 281474976710656) := by
        rw [hbi]
        obtain ⟨q, rfl⟩ := Int.eq_ofNat_of_zero_le (show 0 ≤ m by omega)
        have : q * by' ≤ 281474976710656 := by simpa using hb
        have h3 : (by' : Int) * (q : Int) = ((q * by' : Nat) : Int) := by rw [Nat.mul_comm]; simp
        rw [h3]
        omega
      have c1 : ¬ m < 0 := by omega
      have c2 : ¬ n < 0 := by omega
      have c3 : ¬ m < n := by omega
      have c4 : ¬ (281474976710656 < (i.bytes : Int) * m) := t1
      have harr : ∀ zz : Array Value, (zz = if m.toNat * z = 0 then #[] else v.cells) → (Array.range (m.toNat * z)).map (fun j => zz[j % zz.size]!) = Builtin.zeroCells v.cells m.toNat := by
        intro zz hzz
        unfold Builtin.zeroCells
        rw [hvz]
        by_cases q : m.toNat * z = 0
        · rw [q]; simp
        · rw [hzz, if_neg q, hvz]
      simp [execOp, ho, e1, e2, Instr.makeSlice, run_underlying (und_slice he), asInt, asIntOf, run_typeInfo' hi, w1, w2, c1, c2, c3, c4, run_sizeOf' hz]
      by_cases q : m.toNat * z = 0
      · have h3 := harr #[] (by rw [if_pos q])
        simp [q] at h3 ⊢
        rw [← h3]
        simp [newRow]
      · have h3 := harr v.cells (by rw [if_neg q])
        simp [q, run_zero' hi hv]
        rw [h3]
        simp [newRow]
    · have : ∀ {sv : SV} {u : Value}, Rep (st ++ [.cells (zeroL (v.cells.toList.map svOf) m.toNat)]) σ' { w with heap := w.heap.push (.cells (Builtin.zeroCells v.cells m.toNat) e) } sv u → sv = .ptr st.length 0 → u = .pointer (some ⟨w.heap.size, 0, none⟩) →
          Rep (st ++ [.cells (zeroL (v.cells.toList.map svOf) m.toNat)]) σ' { w with heap := w.heap.push (.cells (Builtin.zeroCells v.cells m.toNat) e) } (.slc st.length z 0 n.toNat m.toNat) (.slice (some ⟨w.heap.size, 0, none⟩) n.toNat m.toNat) := by
        intro sv u hr hs hu
        subst hs
        cases hr with
        | ptr id off b hkk hb => cases hu; exact .slc _ _ _ _ _ _ hkk hb (by omega)
      exact this g3 rfl rfl

/-- An append to an empty slice, into memory that may be written. -/
theorem aop_append_ob {o : Oper} {t e tx ex : TypeId} {z z0 by' : Nat} {m : Mode} {x y : Operand} {xs zs : List SV} {K : SV → St → Prop} {env : List SV} {st : St}
    (ho : o.op = .call { callee := .builtin .append, args := #[x, y], argTypes := #[t, tx] }) (hx : ev env x = .slice .full z0 []) (hy : ev env y = .slice m z xs) (hne : xs ≠ [])
    (he : aElem P t = some e) (hxe : aElem P tx = some ex) (hz : aSize P e = some z) (hzs : aZero P e = some zs) (hzl : zs.length = z) (hby : aBytes P e = some by')
    (hb : (2 * xs.length + 192) * by' ≤ 281474976710656) (hn : xs.length < 4611686018427387904)
    (hk : ∀ cap, xs.length ≤ cap → K (.slc st.length z 0 xs.length cap) (st ++ [.cells (xs.flatMap SV.cells ++ zeroL zs (cap - xs.length))])) : AOp P o K env st :=
  aop_value fun σ w a hI hR => by
    have r1 := rep_ev hR x
    rw [hx] at r1
    have r2 := rep_ev hR y
    rw [hy] at r2
    generalize hv : a.eval x = v at r1
    generalize hu : a.eval y = u at r2
    have r1' := rep_nil_z (z' := z) r1 (.inl rfl)
    obtain ⟨ad, cap, rfl, hcap⟩ := rep_slice_form r1'
    obtain ⟨ax, cx, rfl, hcx⟩ := rep_slice_form r2
    have hcl : cap = 0 := by
      cases r1' with
      | nil m z hm => rfl
      | slice m z l a cap vals hcap hsp hzz hc hr hm => exact hm
    subst hcl
    have hpos : 0 < xs.length := List.length_pos_iff.2 hne
    obtain ⟨i, v, hi, hzv, rfl⟩ := zero_of hzs
    have hvz : v.cells.size = z := by simpa using hzl
    have hd : Ext st σ w st σ { w with drawn := w.drawn + 1 } := Ext.drew _
    obtain ⟨old, o1, o2, _⟩ := load_slice (P := P) (r1'.ext hd)
    obtain ⟨⟨new, n1, n2⟩, n3⟩ := load_first (P := P) (r2.ext hd) xs.length (Nat.le_refl _)
    rw [List.take_length] at n2
    have ho0 : old = #[] := by
      have : old.size = 0 := by simpa using o2
      exact Array.eq_empty_of_size_eq_zero this
    subst ho0
    obtain ⟨newCap, g1, g2⟩ := run_append_grows (w := w) (ty := o.type) he hxe hz hi hzv o1 n1 (by simpa using hpos) (Nat.le_refl _) (by rw [bytes_of hby hi]; simpa using hb) (by simpa using hn)
    simp only [List.length_nil, Nat.zero_add, Array.empty_append] at g1 g2
    have hId := hI.drew (w.drawn + 1)
    have hrl : RepL st σ { w with drawn := w.drawn + 1 } (xs.flatMap SV.cells ++ zeroL (v.cells.toList.map svOf) (newCap - xs.length)) (new ++ Builtin.zeroCells v.cells (newCap - xs.length)) := by
      have hz0 := repL_zero (st := st) (σ := σ) (w := { w with drawn := w.drawn + 1 }) v (newCap - xs.length)
      refine ⟨by rw [Array.size_append, List.length_append, n2.1, hz0.1], fun p hp => ?_⟩
      rw [List.length_append] at hp
      rw [Array.getD_eq_getD_getElem?, List.getD_eq_getElem?_getD]
      by_cases c : p < (xs.flatMap SV.cells).length
      · rw [List.getElem?_append_left c, Array.getElem?_append_left (by rw [n2.1]; exact c), ← Array.getD_eq_getD_getElem?, ← List.getD_eq_getElem?_getD]
        exact n2.2 p c
      · rw [List.getElem?_append_right (Nat.not_lt.1 c), Array.getElem?_append_right (by rw [n2.1]; exact Nat.not_lt.1 c), ← Array.getD_eq_getD_getElem?, ← List.getD_eq_getElem?_getD, n2.1]
        exact hz0.2 _ (by omega)
    obtain ⟨σ', k1, k2, k3⟩ := new_ob hId _ _ e hrl
    refine ⟨.slice (some ⟨w.heap.size, 0, none⟩) xs.length newCap, _, _, _, σ', ?_, hk newCap g1, k1, ?_, hd.trans k2⟩
    · simp only [execOp, ho, resolve, invoke, builtin]
      simp [hv, hu, g2]
      try rfl
    · generalize hsv : SV.ptr st.length 0 = sv at k3
      generalize huu : Value.pointer (some ⟨({ w with drawn := w.drawn + 1 } : World).heap.size, 0, none⟩) = uu at k3
      cases k3 with
      | ptr id off b hkk hb => cases hsv; cases huu; exact .slc _ _ _ _ _ _ hkk hb g1
      | _ => cases hsv

end Go.AL
