/- The abstract layer, part 6: append. -/
import Derived.Test.YtjkhpblfgcnpaaaAl5
set_option linter.unusedVariables false
namespace Go.AL
variable {P : Program}

theorem grow_le (need : Nat) : ∀ (rounds c : Nat), c ≤ need → Builtin.growBy need rounds c ≤ 2 * need + 192
  | 0, c, h => by simp [Builtin.growBy]; omega
  | r + 1, c, h => by
    simp only [Builtin.growBy]
    split
    · omega
    · by_cases h2 : c + (c + 768) / 4 ≤ need
      · exact grow_le need r _ h2
      · cases r with
        | zero => simp only [Builtin.growBy]; omega
        | succ r => simp only [Builtin.growBy]; rw [if_pos (by omega)]; omega

theorem nextcap_le (need old : Nat) (h : old < need) : Builtin.nextslicecap need old ≤ 2 * need + 192 := by
  unfold Builtin.nextslicecap
  split
  · omega
  · split
    · omega
    · exact grow_le need 4 old (by omega)

/-- The cells of a slice, one behind the other. -/
theorem load_slice {st : St} {σ : Sig} {w : World} {m : Mode} {z : Nat} {l : List SV} {a : Option Addr} {len cap : Nat} (h : Rep st σ w (.slice m z l) (.slice a len cap)) :
    ∃ cs : Array Value, (Builtin.firstCells z l.length (.slice a len cap)).run P w = .ok cs w ∧ cs.size = l.length * z ∧
      (∀ i j, i < l.length → j < z → Rep st σ w ((l.getD i .any).cells.getD j .any) (cs.getD (i * z + j) default)) ∧ ∀ i, i < l.length → (l.getD i .any).cells.length = z := by
  cases h with
  | nil m z hm => exact ⟨#[], rfl, by simp, fun i j hi => absurd hi (Nat.not_lt_zero _), fun i hi => absurd hi (Nat.not_lt_zero _)⟩
  | slice m z l ad cap vals hcap hsp hz hc hr hm =>
    have hrun := run_loadCells (P := P) (w := w) ad (l.length * z) (fun p => vals (p / z) (p % z)) (fun p hp => by
      have hz0 : 0 < z := by
        rcases Nat.eq_zero_or_pos z with h | h
        · subst h; simp at hp
        · exact h
      have hi : p / z < l.length := by rw [Nat.div_lt_iff_lt_mul hz0]; exact hp
      have hj : p % z < z := Nat.mod_lt _ hz0
      have hsp' := hsp (by rintro rfl; simp at hi)
      obtain ⟨b, o, sp⟩ := ad
      simp only at hsp'
      subst hsp'
      have := (hc (p / z) (p % z) hi hj).1
      rw [addr_add]
      simp only at this
      rw [Nat.add_assoc, Nat.mul_comm, Nat.div_add_mod] at this
      exact this)
    refine ⟨_, by simpa [Builtin.firstCells] using hrun, by simp, fun i j hi hj => ?_, hz⟩
    have hlt : i * z + j < l.length * z := by
      have : (i + 1) * z ≤ l.length * z := Nat.mul_le_mul_right z hi
      rw [Nat.add_mul, Nat.one_mul] at this
      omega
    have e1 : (i * z + j) / z = i := by rw [Nat.mul_comm, Nat.mul_add_div (by omega), Nat.div_eq_of_lt hj, Nat.add_zero]
    have e2 : (i * z + j) % z = j := by rw [Nat.mul_comm, Nat.mul_add_mod, Nat.mod_eq_of_lt hj]
    have := hr i j hi hj
    simpa [Array.getD, hlt, e1, e2] using this

theorem idx_lt {i j n z : Nat} (hi : i < n) (hj : j < z) : i * z + j < n * z := by
  have : (i + 1) * z ≤ n * z := Nat.mul_le_mul_right z hi
  rw [Nat.add_mul, Nat.one_mul] at this
  omega

/-- What stands behind an append into new memory. -/
theorem rep_grown {st : St} {σ : Sig} {w : World} {z b newCap : Nat} {l xs : List SV} {old new rest : Array Value} {m : Mode} (ho : old.size = l.length * z) (hn : new.size = xs.length * z)
    (hcap : l.length + xs.length ≤ newCap)
    (ro : ∀ i j, i < l.length → j < z → Rep st σ w ((l.getD i .any).cells.getD j .any) (old.getD (i * z + j) default)) (lo : ∀ i, i < l.length → (l.getD i .any).cells.length = z)
    (rn : ∀ i j, i < xs.length → j < z → Rep st σ w ((xs.getD i .any).cells.getD j .any) (new.getD (i * z + j) default)) (ln : ∀ i, i < xs.length → (xs.getD i .any).cells.length = z)
    (hc : ∀ p, p < (l.length + xs.length) * z → w.cell? ⟨b, p, none⟩ = (old ++ new ++ rest)[p]? ∧ (σ.lock b).has p)
    (hm : ModeOk st σ w z ⟨b, 0, none⟩ (l ++ xs).length newCap m) : Rep st σ w (.slice m z (l ++ xs)) (.slice (some ⟨b, 0, none⟩) (l.length + xs.length) newCap) := by
  have hl : l.length + xs.length = (l ++ xs).length := by simp
  rw [hl]
  have gl : ∀ i, i < l.length → (l ++ xs).getD i .any = l.getD i .any := fun i hi => by simp [List.getD_eq_getElem?_getD, List.getElem?_append_left hi]
  have gr : ∀ i, ¬ i < l.length → (l ++ xs).getD i .any = xs.getD (i - l.length) .any := fun i hi => by simp only [List.getD_eq_getElem?_getD, List.getElem?_append_right (Nat.not_lt.1 hi)]
  refine .slice m z (l ++ xs) ⟨b, 0, none⟩ newCap (fun i j => (old ++ new ++ rest).getD (i * z + j) default) (by rw [← hl]; exact hcap) (fun _ => rfl) (fun i hi => ?_) (fun i j hi hj => ?_)
    (fun i j hi hj => ?_) hm
  · rw [← hl] at hi
    by_cases c : i < l.length
    · rw [gl i c]; exact lo i c
    · rw [gr i c]; exact ln _ (by omega)
  · rw [← hl] at hi
    have hp := idx_lt hi hj
    obtain ⟨h1, h2⟩ := hc _ hp
    simp only [Nat.zero_add]
    refine ⟨?_, h2⟩
    rw [h1]
    refine getD_some ?_
    simp only [Array.size_append, ho, hn]
    rw [Nat.add_mul] at hp
    omega
  · rw [← hl] at hi
    by_cases c : i < l.length
    · rw [gl i c]
      have hp := idx_lt c hj
      have := ro i j c hj
      rw [Array.getD_eq_getD_getElem?] at this ⊢
      rw [Array.append_assoc, Array.getElem?_append_left (by omega)]
      exact this
    · rw [gr i c]
      have hi' : i - l.length < xs.length := by omega
      have hp := idx_lt hi' hj
      have := rn (i - l.length) j hi' hj
      have e : i * z + j = l.length * z + ((i - l.length) * z + j) := by
        have : i * z = l.length * z + (i - l.length) * z := by rw [← Nat.add_mul]; congr 1; omega
        omega
      rw [Array.getD_eq_getD_getElem?] at this ⊢
      rw [Array.append_assoc, Array.getElem?_append_right (by omega), Array.getElem?_append_left (by omega)]
      rw [show i * z + j - old.size = (i - l.length) * z + j by omega]
      exact this

def cutW (w : World) (o : Obj) : World := { w with drawn := w.drawn + 1, heap := w.heap.push o }

/-- The run of an append that must grow. -/
theorem run_append_grows {w : World} {t e tx ex : TypeId} {z : Nat} {a ax : Option Addr} {len cap lx cx : Nat} {zv : Value} {i : TypeInfo} {old new : Array Value}
    (he : aElem P t = some e) (hx : aElem P tx = some ex) (hz : aSize P e = some z) (hi : P.info? e = some i) (hzv : i.zero = some zv)
    (hold : (Builtin.firstCells z len (.slice a len cap)).run P { w with drawn := w.drawn + 1 } = .ok old { w with drawn := w.drawn + 1 })
    (hnew : (Builtin.firstCells z lx (.slice ax lx cx)).run P { w with drawn := w.drawn + 1 } = .ok new { w with drawn := w.drawn + 1 })
    (hg : cap < len + lx) (hcl : len ≤ cap) (hb : (2 * (len + lx) + 192) * i.bytes ≤ 281474976710656) (hn : len + lx < 4611686018427387904) (ty : TypeId) :
    ∃ newCap, len + lx ≤ newCap ∧ (Builtin.append_ #[t, tx] ty #[.slice a len cap, .slice ax lx cx]).run P w =
      .ok (.slice (some ⟨w.heap.size, 0, none⟩) (len + lx) newCap) (cutW w (.cells (old ++ new ++ Builtin.zeroCells zv.cells (newCap - (len + lx))) e)) := by
  have h1 : ¬ (len + lx ≤ cap) := by omega
  have h2 : ¬ ((len + lx : Nat) : Int) > IntKind.i64.max := by simp [IntKind.max, IntKind.signed, IntKind.bits]; omega
  have h3 : ¬ Builtin.nextslicecap (len + lx) cap * i.bytes > 2 ^ 48 := by
    have := Nat.mul_le_mul_right i.bytes (nextcap_le (len + lx) cap hg)
    omega
  have hf : (Question.appendCap (len + lx) cap e).forced = false := rfl
  refine ⟨(Question.appendCap (len + lx) cap e).cut (w.tape w.drawn (.appendCap (len + lx) cap e)), by simp [Question.cut], ?_⟩
  have h4 : ¬ (281474976710656 < Builtin.nextslicecap (len + lx) cap * i.bytes) := by omega
  have h5 : ¬ (9223372036854775807 < (len : Int) + (lx : Int)) := by omega
  have hold' : (Builtin.firstCells z len (.slice a len cap)).run P w.drew = .ok old w.drew := hold
  have hnew' : (Builtin.firstCells z lx (.slice ax lx cx)).run P w.drew = .ok new w.drew := hnew
  simp [Builtin.append_, run_underlying (und_slice he), run_sizeOf' hz, run_underlying (und_slice hx), Builtin.lenOf, h1, run_typeInfo' hi, h4, h5, hf, hold', hnew', run_zero' hi hzv, newRow, cutW]
  rfl


theorem size_zeroCells (zero : Array Value) (n : Nat) : (Builtin.zeroCells zero n).size = n * zero.size := by simp [Builtin.zeroCells]

theorem aZero_size {e : TypeId} {zs : List SV} {z : Nat} (h : aZero P e = some zs) (hz : zs.length = z) : ∃ i v, P.info? e = some i ∧ i.zero = some v ∧ v.cells.size = z := by
  obtain ⟨i, v, h1, h2, rfl⟩ := zero_of h
  exact ⟨i, v, h1, h2, by simpa using hz⟩

theorem bytes_of {e : TypeId} {n : Nat} {i : TypeInfo} (h : aBytes P e = some n) (hi : P.info? e = some i) : i.bytes = n := by simpa [aBytes, hi] using h

/-- All that the realloc way of an append does. -/
theorem append_new {st : St} {σ : Sig} {w : World} (hI : Inv st σ w) {t e tx ex : TypeId} {z by' : Nat} {m mx : Mode} {a ax : Option Addr} {cap cx : Nat} {l xs : List SV} {zs : List SV}
    (he : aElem P t = some e) (hx : aElem P tx = some ex) (hz : aSize P e = some z) (hzs : aZero P e = some zs) (hzl : zs.length = z) (hby : aBytes P e = some by')
    (hs : Rep st σ w (.slice m z l) (.slice a l.length cap)) (hxs : Rep st σ w (.slice mx z xs) (.slice ax xs.length cx)) (hcl : l.length ≤ cap) (hg : cap < l.length + xs.length)
    (hb : (2 * (l.length + xs.length) + 192) * by' ≤ 281474976710656) (hn : l.length + xs.length < 4611686018427387904) (ty : TypeId) :
    ∃ newCap rest w', (Builtin.append_ #[t, tx] ty #[.slice a l.length cap, .slice ax xs.length cx]).run P w = .ok (.slice (some ⟨w.heap.size, 0, none⟩) (l.length + xs.length) newCap) w' ∧
      w'.heap[w.heap.size]? = some (.cells rest e (0, 0)) ∧ newCap * z ≤ rest.size ∧ Inv st (σ.setLock w.heap.size (.upto ((l.length + xs.length) * z))) w' ∧
      Ext st σ w st (σ.setLock w.heap.size (.upto ((l.length + xs.length) * z))) w' ∧ w.heap.size < w'.heap.size ∧ l.length + xs.length ≤ newCap ∧
      ∀ st' σ', Ext st (σ.setLock w.heap.size (.upto ((l.length + xs.length) * z))) w' st' σ' w' → ∀ m', ModeOk st' σ' w' z ⟨w.heap.size, 0, none⟩ (l ++ xs).length newCap m' →
        Rep st' σ' w' (.slice m' z (l ++ xs)) (.slice (some ⟨w.heap.size, 0, none⟩) (l.length + xs.length) newCap) := by
  obtain ⟨i, v, hi, hzv, hvz⟩ := aZero_size hzs hzl
  have hd : Ext st σ w st σ { w with drawn := w.drawn + 1 } := Ext.drew _
  obtain ⟨old, o1, o2, o3, o4⟩ := load_slice (P := P) (hs.ext hd)
  obtain ⟨new, n1, n2, n3, n4⟩ := load_slice (P := P) (hxs.ext hd)
  obtain ⟨newCap, g1, g2⟩ := run_append_grows (w := w) (ty := ty) he hx hz hi hzv o1 n1 hg hcl (by rw [bytes_of hby hi]; exact hb) hn
  have hId := hI.drew (w.drawn + 1)
  let cells := old ++ new ++ Builtin.zeroCells v.cells (newCap - (l.length + xs.length))
  have hX1 := Ext.alloc hId (.cells cells e) (.upto ((l.length + xs.length) * z))
  have hcs : cells.size = newCap * z := by
    simp only [cells, Array.size_append, o2, n2, size_zeroCells, hvz]
    rw [← Nat.add_mul, ← Nat.add_mul]
    congr 1
    omega
  refine ⟨newCap, cells, _, g2, by simp [cutW, cells], by omega, hId.alloc _ _, hd.trans hX1, by simp [cutW], g1, ?_⟩
  intro st' σ' hX' m' hm
  refine rep_grown (rest := Builtin.zeroCells v.cells (newCap - (l.length + xs.length))) o2 n2 g1 (fun i j hi hj => ((o3 i j hi hj).ext hX1).ext hX') o4 (fun i j hi hj => ((n3 i j hi hj).ext hX1).ext hX') n4 (fun p hp => ?_) hm
  have hcell : World.cell? (cutW w (.cells cells e)) ⟨w.heap.size, p, none⟩ = cells[p]? := by simp [World.cell?, cutW]
  refine ⟨hcell, ?_⟩
  have hsz : p < cells.size := by rw [hcs]; exact Nat.lt_of_lt_of_le hp (Nat.mul_le_mul_right z g1)
  have := hX'.lock w.heap.size p cells[p] (by simp only [Sig.setLock, if_true]; exact hp) (by show World.cell? (cutW w (.cells cells e)) _ = _; rw [hcell]; simp [hsz])
  exact this.1

theorem rep_nil_z {st : St} {σ : Sig} {w : World} {m : Mode} {z z' : Nat} {v : Value} (h : Rep st σ w (.slice m z []) v) (hm : m = .full ∨ m = .imm) : Rep st σ w (.slice m z' []) v := by
  generalize hl : ([] : List SV) = l at h
  generalize hx : SV.slice m z l = x at h
  cases h with
  | nil m z hm => cases hx; exact .nil _ _ hm
  | slice m z l a cap vals hcap hsp hzz hc hr hmo =>
    cases hx
    subst hl
    refine .slice m z' [] a cap vals hcap hsp (fun i hi => absurd hi (Nat.not_lt_zero _)) (fun i j hi => absurd hi (Nat.not_lt_zero _)) (fun i j hi => absurd hi (Nat.not_lt_zero _)) ?_
    rcases hm with rfl | rfl
    · exact hmo
    · trivial
  | _ => cases hx

theorem rep_imm_z {st : St} {σ : Sig} {w : World} {m : Mode} {z z' : Nat} {xs : List SV} {v : Value} (h : Rep st σ w (.slice m z xs) v) (hz : xs = [] ∨ z = z') : Rep st σ w (.slice .imm z' xs) v := by
  have h' := h.norm1
  simp only [AL.norm1] at h'
  rcases hz with rfl | rfl
  · exact rep_nil_z h' (.inr rfl)
  · exact h'

/-- An append to a slice without spare room: it is in new memory. -/
theorem aop_append_full {o : Oper} {t e tx ex : TypeId} {z z0 z1 by' : Nat} {mx : Mode} {x y : Operand} {l xs zs : List SV} {K : SV → St → Prop} {env : List SV} {st : St}
    (ho : o.op = .call { callee := .builtin .append, args := #[x, y], argTypes := #[t, tx] }) (hx : ev env x = .slice .full z0 l) (hy : ev env y = .slice mx z1 xs)
    (hz0 : l = [] ∨ z0 = z) (hz1 : xs = [] ∨ z1 = z)
    (he : aElem P t = some e) (hxe : aElem P tx = some ex) (hz : aSize P e = some z) (hzs : aZero P e = some zs) (hzl : zs.length = z) (hby : aBytes P e = some by')
    (hb : (2 * (l.length + xs.length) + 192) * by' ≤ 281474976710656) (hn : l.length + xs.length < 4611686018427387904)
    (hk : K (.slice (.own st.length 0) z (l ++ xs)) (st ++ [.tok 0])) : AOp P o K env st :=
  aop_value fun σ w a hI hR => by
    have r1 := rep_ev hR x
    rw [hx] at r1
    have r2 := rep_ev hR y
    rw [hy] at r2
    generalize hv : a.eval x = v at r1
    generalize hu : a.eval y = u at r2
    have r1' : Rep st σ w (.slice .full z l) v := by
      rcases hz0 with rfl | rfl
      · exact rep_nil_z r1 (.inl rfl)
      · exact r1
    have r2' := rep_imm_z r2 hz1
    obtain ⟨ad, cap, rfl, hcap⟩ := rep_slice_form r1'
    obtain ⟨ax, cx, rfl, hcx⟩ := rep_slice_form r2'
    have hcl : cap = l.length := by
      cases r1' with
      | nil m z hm => rfl
      | slice m z l a cap vals hcap hsp hzz hc hr hm => exact hm
    subst hcl
    have hrun0 : (execOp a.eval o).run P w = ((Builtin.append_ #[t, tx] o.type #[.slice ad l.length l.length, .slice ax xs.length cx]).run P w).andThen fun v w' => .ok (.value v) w' := by
      simp [execOp, ho, resolve, invoke, builtin, hv, hu]
    by_cases h0 : xs = []
    · subst h0
      have hX : Ext st σ w (st ++ [.tok 0]) (σ.setMu st.length none) w := Ext.newTok none
      refine ⟨.slice ad l.length l.length, w, _, _, σ.setMu st.length none, ?_, hk, hI.newTok none (fun c hc => by cases hc), ?_, hX⟩
      · rw [hrun0]
        obtain ⟨cs, n1, n2, _⟩ := load_slice (P := P) r2'
        simp at n1 n2
        have : cs = #[] := by simpa using n2
        subst this
        cases ad <;> simp [Builtin.append_, run_underlying (und_slice he), run_underlying (und_slice hxe), run_sizeOf' hz, Builtin.lenOf, n1, storeCells]
      · rw [List.append_nil]
        have r3 := r1'.ext hX
        have hmode : ModeNil (st ++ [.tok 0]) (.own st.length 0) := ⟨0, by simp, Nat.le_refl _⟩
        cases r3 with
        | nil m z hm => exact .nil _ _ hmode
        | slice m z l a cap vals hcap hsp hzz hc hr hm => exact .slice _ _ _ _ _ vals hcap hsp hzz hc hr ⟨0, by simp, Nat.le_refl _, fun _ => .inl rfl⟩
    · have hpos : 0 < xs.length := List.length_pos_iff.2 h0
      obtain ⟨newCap, rest, w', g1, g2, g3, g4, g5, g6, g7, g8⟩ := append_new (P := P) hI he hxe hz hzs hzl hby r1' r2' (Nat.le_refl _) (by omega) hb hn o.type
      have hX2 : Ext st (σ.setLock w.heap.size (.upto ((l.length + xs.length) * z))) w' (st ++ [.tok 0]) ((σ.setLock w.heap.size (.upto ((l.length + xs.length) * z))).setMu st.length (some w.heap.size)) w' := Ext.newTok _
      refine ⟨_, w', _, _, _, by rw [hrun0, g1]; rfl, hk, g4.newTok (some w.heap.size) (fun c hc => ?_), g8 _ _ hX2 _ ?_, g5.trans hX2⟩
      · cases hc
        refine ⟨g6, by simp [Sig.setLock, Lock.still], fun i hi h => ?_⟩
        have := hI.mu_lt hi h
        omega
      · refine ⟨0, by simp, Nat.le_refl _, fun _ => .inr ⟨rfl, by simp [Sig.setMu], by simp [Sig.setMu, Sig.setLock], rest, e, g2, by simp; exact g3⟩⟩


/-- An append to a slice that may be appended to. -/
theorem aop_append_own {o : Oper} {t e tx ex : TypeId} {z z1 by' id ver : Nat} {mx : Mode} {x y : Operand} {l xs zs : List SV} {K : SV → St → Prop} {env : List SV} {st : St}
    (ho : o.op = .call { callee := .builtin .append, args := #[x, y], argTypes := #[t, tx] }) (hx : ev env x = .slice (.own id ver) z l) (hy : ev env y = .slice mx z1 xs)
    (hz1 : xs = [] ∨ z1 = z) (hid : st[id]? = some (.tok ver))
    (he : aElem P t = some e) (hxe : aElem P tx = some ex) (hz : aSize P e = some z) (hzs : aZero P e = some zs) (hzl : zs.length = z) (hby : aBytes P e = some by')
    (hb : (2 * (l.length + xs.length) + 192) * by' ≤ 281474976710656) (hn : l.length + xs.length < 4611686018427387904) (hok : ∀ s ∈ xs, elemOk s = true)
    (hk : K (.slice (.own id (ver + 1)) z (l ++ xs)) (st.set id (.tok (ver + 1)))) : AOp P o K env st :=
  aop_value fun σ w a hI hR => by
    have r1 := rep_ev hR x
    rw [hx] at r1
    have r2 := rep_ev hR y
    rw [hy] at r2
    generalize hv : a.eval x = v at r1
    generalize hu : a.eval y = u at r2
    have r2' := rep_imm_z r2 hz1
    obtain ⟨ad, cap, rfl, hcap⟩ := rep_slice_form r1
    obtain ⟨ax, cx, rfl, hcx⟩ := rep_slice_form r2'
    have hlt := lt_of_get hid
    have hset : (st.set id (.tok (ver + 1)))[id]? = some (.tok (ver + 1)) := set_get hlt
    have hrun0 : (execOp a.eval o).run P w = ((Builtin.append_ #[t, tx] o.type #[.slice ad l.length cap, .slice ax xs.length cx]).run P w).andThen fun v w' => .ok (.value v) w' := by
      simp [execOp, ho, resolve, invoke, builtin, hv, hu]
    by_cases hg : cap < l.length + xs.length
    · obtain ⟨newCap, rest, w', g1, g2, g3, g4, g5, g6, g7, g8⟩ := append_new (P := P) hI he hxe hz hzs hzl hby r1 r2' hcap hg hb hn o.type
      have hX2 : Ext st (σ.setLock w.heap.size (.upto ((l.length + xs.length) * z))) w' (st.set id (.tok (ver + 1))) ((σ.setLock w.heap.size (.upto ((l.length + xs.length) * z))).setMu id (some w.heap.size)) w' := Ext.tokNew hid _
      refine ⟨_, w', _, _, _, by rw [hrun0, g1]; rfl, hk, g4.tokNew hid (some w.heap.size) (fun c hc => ?_), g8 _ _ hX2 _ ?_, g5.trans hX2⟩
      · cases hc
        refine ⟨g6, by simp [Sig.setLock, Lock.still], fun i hi hne h => ?_⟩
        have := hI.mu_lt hi h
        omega
      · exact ⟨ver + 1, hset, Nat.le_refl _, fun _ => .inr ⟨rfl, by simp [Sig.setMu], by simp [Sig.setMu, Sig.setLock], rest, e, g2, by simp; exact g3⟩⟩
    · by_cases h0 : xs = []
      · subst h0
        have hX : Ext st σ w (st.set id (.tok (ver + 1))) (σ.setMu id (σ.μ id)) w := Ext.tokNew hid _
        refine ⟨.slice ad l.length cap, w, _, _, σ.setMu id (σ.μ id), ?_, hk, hI.tokNew hid (σ.μ id) (fun c hc => ?_), ?_, hX⟩
        · rw [hrun0]
          obtain ⟨cs, n1, n2, _⟩ := load_slice (P := P) r2'
          simp at n1 n2
          have : cs = #[] := by simpa using n2
          subst this
          cases ad <;> simp [Builtin.append_, run_underlying (und_slice he), run_underlying (und_slice hxe), run_sizeOf' hz, Builtin.lenOf, n1, storeCells, hcap]
        · obtain ⟨h1, h2⟩ := hI.tok id ver c hid hc
          exact ⟨h1, h2, fun i hi hne h => hne (hI.inj i id c hi hlt h hc)⟩
        · rw [List.append_nil]
          have r3 := r1.ext hX
          have hmu : (σ.setMu id (σ.μ id)).μ id = σ.μ id := by simp [Sig.setMu]
          cases r1 with
          | nil m z hm => exact .nil _ _ ⟨ver + 1, hset, Nat.le_refl _⟩
          | slice m z l a cap vals hcap hsp hzz hc hr hm =>
            refine .slice _ _ _ _ _ vals hcap hsp hzz hc (fun i j hi hj => (hr i j hi hj).ext hX) ⟨ver + 1, hset, Nat.le_refl _, fun _ => ?_⟩
            obtain ⟨v0, q1, q2, q3⟩ := hm
            rw [hid] at q1; cases q1
            rcases q3 rfl with q | ⟨q1, q2, q3, q4⟩
            · exact .inl q
            · exact .inr ⟨q1, by rw [hmu]; exact q2, q3, q4⟩
      · have hpos : 0 < xs.length := List.length_pos_iff.2 h0
        -- in place
        cases hr0 : r1 with
        | nil m z hm => simp only [List.length_nil, Nat.zero_add] at hg; omega
        | slice m z l b cap vals hcap hsp hzz hc hr hm =>
          obtain ⟨v0, q1, q2, q3⟩ := hm
          rw [hid] at q1; cases q1
          rcases q3 rfl with q | ⟨p1, p2, p3, cs, T, p4, p5⟩
          · omega
          obtain ⟨bb, bo, bs⟩ := b
          simp only at p1 p2 p3 p4 p5
          subst p1
          obtain ⟨new, n1, n2, n3, n4⟩ := load_slice (P := P) r2'
          have hnew1 : ∀ v ∈ new.toList, v.oneCell' = true := by
            intro v hv
            obtain ⟨p, hp⟩ := List.getElem?_of_mem hv
            have hp' : p < new.size := by have := lt_of_get hp; simpa using this
            have hz0 : 0 < z := by
              rcases Nat.eq_zero_or_pos z with h | h
              · subst h; omega
              · exact h
            rw [n2] at hp'
            have hi : p / z < xs.length := by rw [Nat.div_lt_iff_lt_mul hz0]; exact hp'
            have hj : p % z < z := Nat.mod_lt _ hz0
            have := n3 (p / z) (p % z) hi hj
            rw [Nat.mul_comm, Nat.div_add_mod, Array.getD_eq_getD_getElem?] at this
            rw [Array.getElem?_toList] at hp
            rw [hp] at this
            refine oneCell_of ?_ this
            have hm := hok (xs.getD (p / z) .any) (by simp [List.getD_eq_getElem?_getD, hi])
            have hl := n4 (p / z) hi
            unfold elemOk at hm
            rw [List.all_eq_true] at hm
            refine hm _ ?_
            simp only [List.getD_eq_getElem?_getD (l := (xs.getD (p / z) SV.any).cells)]
            rw [List.getElem?_eq_getElem (by omega)]
            exact List.getElem_mem _
          have hle : bo + l.length * z + new.size ≤ cs.size := by
            have : (l.length + xs.length) * z ≤ cap * z := Nat.mul_le_mul_right z (by omega)
            rw [Nat.add_mul] at this
            omega
          have hst := run_storeCells_at (P := P) bb (bo + l.length * z) T new.toList 0 cs w p4 (by simpa using hle) hnew1
          simp only [Nat.add_zero, Array.length_toList] at hst
          let arr := (cs.toList.take (bo + l.length * z) ++ new.toList ++ cs.toList.drop (bo + l.length * z + new.size)).toArray
          have harr : arr.size = cs.size := by simp [arr]; omega
          have hoth : ∀ c, c ≠ bb → (w.setRow bb arr).heap[c]? = w.heap[c]? := fun c hc => setRow_other _ _ _ _ hc
          have hcell : ∀ p, (w.setRow bb arr).cell? ⟨bb, p, none⟩ = arr[p]? := fun p => cell_setRow_same w bb p cs arr T _ p4
          have hcell0 : ∀ p, w.cell? ⟨bb, p, none⟩ = cs[p]? := fun p => by simp [World.cell?, p4]
          have hold : ∀ p, p < bo + l.length * z → (w.setRow bb arr).cell? ⟨bb, p, none⟩ = w.cell? ⟨bb, p, none⟩ := fun p hp => by
            rw [hcell, hcell0]
            have hp2 : p < cs.size := by omega
            simp only [arr, List.getElem?_toArray, List.append_assoc]
            rw [List.getElem?_append_left (by simp; omega), List.getElem?_take, if_pos hp, Array.getElem?_toList]
          have hn' : bo + l.length * z ≤ bo + (l.length + xs.length) * z := by rw [Nat.add_mul]; omega
          have hX := Ext.tokWrite (w' := w.setRow bb arr) hI hid p2 p3 hn' rfl rfl rfl (by simp) hoth hold
          have hInv := Inv.tokWrite (w' := w.setRow bb arr) hI hid p2 p3 hn' rfl rfl rfl (by simp) hoth hold
          refine ⟨.slice (some ⟨bb, bo, none⟩) (l.length + xs.length) cap, w.setRow bb arr, _, _, _, ?_, hk, hInv, ?_, hX⟩
          · rw [hrun0]
            have hle2 : l.length + xs.length ≤ cap := by omega
            simp [Builtin.append_, run_underlying (und_slice he), run_underlying (und_slice hxe), run_sizeOf' hz, Builtin.lenOf, hle2, n1, addr_add]
            simp at hst
            simp [hst, arr]
          · have hll : l.length + xs.length = (l ++ xs).length := by simp
            have gl : ∀ i, i < l.length → (l ++ xs).getD i .any = l.getD i .any := fun i hi => by simp [List.getD_eq_getElem?_getD, List.getElem?_append_left hi]
            have gr : ∀ i, ¬ i < l.length → (l ++ xs).getD i .any = xs.getD (i - l.length) .any := fun i hi => by simp only [List.getD_eq_getElem?_getD, List.getElem?_append_right (Nat.not_lt.1 hi)]
            have e0 : Value.slice (some ⟨bb, bo, none⟩) (l.length + xs.length) cap = Value.slice (some ⟨bb, bo, none⟩) (l ++ xs).length cap := by rw [hll]
            rw [e0]
            have hlock : ∀ p, p < bo + (l.length + xs.length) * z → ((σ.setLock bb (.upto (bo + (l.length + xs.length) * z))).lock bb).has p := fun p hp => by simp only [Sig.setLock, if_true]; exact hp
            refine .slice _ z (l ++ xs) ⟨bb, bo, none⟩ cap (fun i j => if i < l.length then vals i j else new.getD ((i - l.length) * z + j) default) (by rw [← hll]; omega) (fun _ => rfl)
              (fun i hi => ?_) (fun i j hi hj => ?_) (fun i j hi hj => ?_) ⟨ver + 1, hset, Nat.le_refl _, fun _ => .inr ⟨rfl, p2, ?_, arr, T, setRow_heap w bb cs arr T _ p4, by rw [harr]; exact p5⟩⟩
            · rw [← hll] at hi
              by_cases c : i < l.length
              · rw [gl i c]; exact hzz i c
              · rw [gr i c]; exact n4 _ (by omega)
            · rw [← hll] at hi
              have hp := idx_lt hi hj
              refine ⟨?_, hlock (bo + i * z + j) (by omega)⟩
              by_cases c : i < l.length
              · simp only [if_pos c]
                have hp2 := idx_lt c hj
                have := (hc i j c hj).1
                simp only at this ⊢
                rw [hold _ (by omega)]
                exact this
              · simp only [if_neg c]
                have hp2 := idx_lt (show i - l.length < xs.length by omega) hj
                have e1 : bo + i * z + j = bo + l.length * z + ((i - l.length) * z + j) := by
                  have : i * z = l.length * z + (i - l.length) * z := by rw [← Nat.add_mul]; congr 1; omega
                  omega
                rw [hcell, e1]
                simp only [arr, List.getElem?_toArray, List.append_assoc]
                rw [List.getElem?_append_right (by simp; omega)]
                simp only [List.length_take, Array.length_toList, Nat.min_eq_left (show bo + l.length * z ≤ cs.size by omega)]
                rw [Nat.add_sub_cancel_left, List.getElem?_append_left (by simp [n2]; omega), Array.getElem?_toList]
                exact getD_some (by rw [n2]; exact hp2)
            · rw [← hll] at hi
              by_cases c : i < l.length
              · simp only [if_pos c, gl i c]; exact (hr i j c hj).ext hX
              · simp only [if_neg c, gr i c]; exact (n3 (i - l.length) j (by omega) hj).ext hX
            · simp only [Sig.setLock, if_true, hll]

end Go.AL
