/- The abstract layer, part 13: closed runs: operations that do more than reckon, regions, code, functions. -/
import Derived.Test.YtjkhpblfgcnpaaaAl12
set_option linter.unusedVariables false
set_option linter.unusedSimpArgs false
namespace Go.AL
variable {P : Program}

/-- What a piece comes to: a value, a state, and below which place all objects are as they were. -/
abbrev ER := Option (SV × St × Nat)

/-- Below a place all objects are as they were. -/
def Keeps (st s : St) (n : Nat) : Prop := st.length ≤ s.length ∧ ∀ i, i < n → i < st.length → s[i]? = st[i]?

theorem Keeps.same (st : St) (n : Nat) : Keeps st st n := ⟨Nat.le_refl _, fun _ _ _ => rfl⟩
theorem Keeps.more (st ex : St) (n : Nat) : Keeps st (st ++ ex) n := ⟨by simp, fun i _ h => List.getElem?_append_left h⟩
theorem Keeps.put (st : St) (id : Nat) (x : Ob) : Keeps st (st.set id x) id := ⟨by simp, fun i h _ => List.getElem?_set_ne (by omega)⟩
theorem Keeps.trans {a b c : St} {n m : Nat} (h : Keeps a b n) (k : Keeps b c m) : Keeps a c (min n m) :=
  ⟨Nat.le_trans h.1 k.1, fun i hi hl => (k.2 i (by omega) (Nat.lt_of_lt_of_le hl h.1)).trans (h.2 i (by omega) hl)⟩
theorem Keeps.all {st s : St} {n : Nat} (h : Keeps st s n) (hn : st.length ≤ n) : ∃ ex, s = st ++ ex := by
  refine ⟨s.drop st.length, List.ext_getElem? fun i => ?_⟩
  by_cases hi : i < st.length
  · rw [List.getElem?_append_left hi]; exact h.2 i (by omega) hi
  · rw [List.getElem?_append_right (by omega), List.getElem?_drop]; congr 1; omega

/-! Of which objects a value speaks, reckoned. -/

def modeB (n : Nat) : Mode → Bool
  | .own id _ => Nat.blt id n
  | _ => true

mutual
def idsB (n : Nat) : SV → Bool
  | .any => true
  | .sc _ => true
  | .slice m _ l => modeB n m && idsBL n l
  | .ref l => idsBL n l
  | .ptr id _ => Nat.blt id n
  | .func _ l k => idsBL n l && idsBL n k
  | .agg l => idsBL n l
  | .tuple l => idsBL n l
  | .gd g x => !g || idsB n x
  | .slc id _ _ _ _ => Nat.blt id n
def idsBL (n : Nat) : List SV → Bool
  | [] => true
  | x :: r => idsB n x && idsBL n r
end

theorem idsBL_at {n : Nat} : ∀ {l : List SV}, idsBL n l = true → ∀ y ∈ l, idsB n y = true
  | x :: r, h, y, hy => by
    simp only [idsBL, Bool.and_eq_true] at h
    cases hy with
    | head => exact h.1
    | tail _ hy => exact idsBL_at h.2 y hy

theorem getD_ids {n : Nat} {l : List SV} (h : ∀ y ∈ l, Ids n y) (i : Nat) : Ids n (l.getD i .any) := by
  rw [List.getD_eq_getElem?_getD]
  cases hx : l[i]? with
  | none => exact .any
  | some x => exact h x (List.mem_of_getElem? hx)

theorem cells_ids {n : Nat} {x : SV} (h : Ids n x) (j : Nat) : Ids n (x.cells.getD j .any) := by
  cases h with
  | agg l h =>
    simp only [SV.cells]
    by_cases hj : j < l.length
    · exact h j hj
    · rw [List.getD_eq_getElem?_getD, List.getElem?_eq_none (by omega)]; exact .any
  | any => cases j <;> exact .any
  | sc v => cases j <;> first | exact .sc v | exact .any
  | slice m z l hm h => cases j <;> first | exact .slice m z l hm h | exact .any
  | ref l h => cases j <;> first | exact .ref l h | exact .any
  | ptr id off h => cases j <;> first | exact .ptr id off h | exact .any
  | func fn l k h h' => cases j <;> first | exact .func fn l k h h' | exact .any
  | tuple l h => cases j <;> first | exact .tuple l h | exact .any
  | gd g x h => cases j <;> first | exact .gd g x h | exact .any
  | slc id z off len cap h => cases j <;> first | exact .slc id z off len cap h | exact .any

mutual
theorem idsB_spec (n : Nat) : ∀ x : SV, idsB n x = true → Ids n x
  | .any, _ => .any
  | .sc v, _ => .sc v
  | .slice m z l, h => by
    simp only [idsB, Bool.and_eq_true] at h
    refine .slice m z l (fun id ver e => ?_) fun i j _ _ => cells_ids (getD_ids (idsBL_spec n l h.2) i) j
    have h1 := h.1
    subst e
    simpa [modeB, Nat.blt_eq] using h1
  | .ref l, h => .ref l fun i _ => getD_ids (idsBL_spec n l (by simpa only [idsB] using h)) i
  | .ptr id off, h => .ptr id off (by simpa only [idsB, Nat.blt_eq] using h)
  | .func fn l k, h => by
    simp only [idsB, Bool.and_eq_true] at h
    exact .func fn l k (fun i _ => getD_ids (idsBL_spec n l h.1) i) (fun i _ => getD_ids (idsBL_spec n k h.2) i)
  | .agg l, h => .agg l fun i _ => getD_ids (idsBL_spec n l (by simpa only [idsB] using h)) i
  | .tuple l, h => .tuple l fun i _ => getD_ids (idsBL_spec n l (by simpa only [idsB] using h)) i
  | .gd g x, h => .gd g x fun hg => idsB_spec n x (by simpa only [idsB, hg, Bool.not_true, Bool.false_or] using h)
  | .slc id z off len cap, h => .slc id z off len cap (by simpa only [idsB, Nat.blt_eq] using h)
theorem idsBL_spec (n : Nat) : ∀ l : List SV, idsBL n l = true → ∀ y ∈ l, Ids n y
  | [], _, y, hy => by cases hy
  | x :: r, h, y, hy => by
    simp only [idsBL, Bool.and_eq_true] at h
    cases hy with
    | head => exact idsB_spec n x h.1
    | tail _ hy => exact idsBL_spec n r h.2 y hy
end

/-! Operations. -/

def objE (st : St) (id : Nat) : Option (List SV) :=
  match st[id]? with
  | some (.cells l) => some l
  | _ => none

theorem objE_spec {st : St} {id : Nat} {l : List SV} (h : objE st id = some l) : isObj st id ∧ objAt st id = l := by
  unfold objE at h
  split at h
  · rename_i l' hl
    cases h
    exact ⟨by simp only [isObj, hl], by simp only [objAt, hl]⟩
  · cases h

noncomputable def storeE (P : Program) (t : TypeId) (st : St) (y : SV) : SV → Option (St × Nat)
  | .ptr id off => match objE st id, aSize P t with
    | some l, some n => if Nat.beq n y.cells.length && shapeOk y && elemOk y && Nat.ble (off + n) l.length then some (st.set id (.cells (splice l off y.cells)), id) else none
    | _, _ => none
  | _ => none

theorem storeE_spec {t : TypeId} {st s : St} {x y : SV} {n : Nat} {K : St → Prop} (h : storeE P t st y x = some (s, n)) (hk : K s) : storeSpec P t st y x K ∧ Keeps st s n := by
  unfold storeE at h
  split at h
  · split at h
    · rename_i l n h1 h2
      split at h
      · rename_i hc
        simp only [Bool.and_eq_true, Nat.ble_eq] at hc
        obtain ⟨⟨⟨c1, c2⟩, c3⟩, c4⟩ := hc
        have c1 := Nat.eq_of_beq_eq_true c1
        obtain ⟨o1, o2⟩ := objE_spec h1
        cases h
        exact ⟨⟨o1, by rw [h2, c1], c2, c3, by rw [o2, ← c1]; exact c4, by rw [o2]; exact hk⟩, Keeps.put _ _ _⟩
      · cases h
    · cases h
  · cases h

noncomputable def appOkE (P : Program) (t tx : TypeId) (z n : Nat) : Bool :=
  match aElem P t, aElem P tx with
  | some e, some _ => match aSize P e, aZero P e, aBytes P e with
    | some z', some zs, some by' => Nat.beq z' z && Nat.beq zs.length z && Nat.blt n 4611686018427387904 && Nat.ble ((2 * n + 192) * by') 281474976710656
    | _, _, _ => false
  | _, _ => false

theorem appOkE_spec {t tx : TypeId} {z n : Nat} (h : appOkE P t tx z n = true) : AppOk P t tx z n := by
  unfold appOkE at h
  split at h
  · rename_i e ex h1 h2
    split at h
    · rename_i z' zs by' h3 h4 h5
      simp only [Bool.and_eq_true, Nat.blt_eq, Nat.ble_eq] at h
      obtain ⟨⟨⟨c1, c2⟩, c3⟩, c4⟩ := h
      have c1 := Nat.eq_of_beq_eq_true c1
      have c2 := Nat.eq_of_beq_eq_true c2
      exact ⟨c3, e, ex, zs, by', h1, h2, by rw [h3, c1], h4, c2, h5, c4⟩
    · cases h
  · cases h

noncomputable def appE (P : Program) (t tx : TypeId) (st : St) : SV → SV → ER
  | .slice .full z0 l, .slice m z xs =>
    if (l.isEmpty || Nat.beq z0 z) && appOkE P t tx z (lenR l + lenR xs) then some (.slice (.own st.length 0) z (appR l xs), st ++ [.tok 0], st.length) else none
  | .slice (.own id ver) z l, .slice m z1 xs => match st[id]? with
    | some (.tok v) => if Nat.beq v ver && (xs.isEmpty || Nat.beq z1 z) && appOkE P t tx z (lenR l + lenR xs) && allR elemOk xs then
        some (.slice (.own id (ver + 1)) z (appR l xs), st.set id (.tok (ver + 1)), id) else none
    | _ => none
  | _, _ => none

theorem appE_spec {t tx : TypeId} {st s : St} {x y v : SV} {c : Nat} {K : SV → St → Prop} (h : appE P t tx st x y = some (v, s, c)) (hk : K v s) : appSpec P t tx st x y K ∧ Keeps st s c := by
  unfold appE at h
  simp only [lenR_eq, appR_eq, allR_eq] at h
  split at h
  · split at h
    · rename_i hc
      simp only [Bool.and_eq_true, Bool.or_eq_true, List.isEmpty_iff] at hc
      cases h
      exact ⟨⟨hc.1.imp id Nat.eq_of_beq_eq_true, appOkE_spec hc.2, hk⟩, Keeps.more _ _ _⟩
    · cases h
  · split at h
    · rename_i v' hv
      split at h
      · rename_i hc
        simp only [Bool.and_eq_true, Bool.or_eq_true, List.isEmpty_iff] at hc
        obtain ⟨⟨⟨c1, c2⟩, c3⟩, c4⟩ := hc
        have c1 := Nat.eq_of_beq_eq_true c1
        subst c1
        cases h
        exact ⟨⟨c2.imp id Nat.eq_of_beq_eq_true, hv, appOkE_spec c3, by simpa using c4, hk⟩, Keeps.put _ _ _⟩
      · cases h
    · cases h
  · cases h

noncomputable def copyE (P : Program) (t : TypeId) (st : St) : SV → SV → ER
  | .slc id z off len cap, .slice m z' ys => match objE st id with
    | some l => if Nat.beq z z' && zIs P t z && Nat.ble (off + (min ys.length len) * z) l.length && ys.all elemOk then
        some (.sc (.int .i64 (.ofNat (min ys.length len))), st.set id (.cells (splice l off ((ys.take (min ys.length len)).flatMap SV.cells))), id) else none
    | none => none
  | .slc id z off len cap, .slc id' z' off' len' cap' => match objE st id, objE st id' with
    | some l, some l' => if Nat.beq z z' && zIs P t z && Nat.ble (off + (min len' len) * z) l.length && Nat.ble (off' + (min len' len) * z) l'.length && ((l'.drop off').take ((min len' len) * z)).all cellOk then
        some (.sc (.int .i64 (.ofNat (min len' len))), st.set id (.cells (splice l off ((l'.drop off').take ((min len' len) * z)))), id) else none
    | _, _ => none
  | _, _ => none

theorem copyE_spec {t : TypeId} {st s : St} {x y v : SV} {n : Nat} {K : SV → St → Prop} (h : copyE P t st x y = some (v, s, n)) (hk : K v s) : copySpec P t st x y K ∧ Keeps st s n := by
  unfold copyE at h
  split at h
  · split at h
    · rename_i l hl
      split at h
      · rename_i hc
        simp only [Bool.and_eq_true, Nat.ble_eq] at hc
        obtain ⟨⟨⟨c1, c2⟩, c3⟩, c4⟩ := hc
        obtain ⟨o1, o2⟩ := objE_spec hl
        cases h
        subst o2
        exact ⟨⟨Nat.eq_of_beq_eq_true c1, o1, zIs_spec c2, c3, by simpa using c4, hk⟩, Keeps.put _ _ _⟩
      · cases h
    · cases h
  · split at h
    · rename_i l l' hl hl'
      split at h
      · rename_i hc
        simp only [Bool.and_eq_true, Nat.ble_eq] at hc
        obtain ⟨⟨⟨⟨c1, c2⟩, c3⟩, c4⟩, c5⟩ := hc
        obtain ⟨o1, o2⟩ := objE_spec hl
        obtain ⟨o3, o4⟩ := objE_spec hl'
        cases h
        subst o2; subst o4
        exact ⟨⟨Nat.eq_of_beq_eq_true c1, o1, o3, zIs_spec c2, c3, c4, c5, hk⟩, Keeps.put _ _ _⟩
      · cases h
    · cases h
  · cases h

noncomputable def makeE (P : Program) (t : TypeId) (st : St) : SV → SV → Option (SV × St)
  | .sc (.int _ (.ofNat n)), .sc (.int _ (.ofNat m)) => match aElem P t with
    | some e => match aSize P e, aZero P e, aBytes P e with
      | some z, some zs, some by' => if Nat.beq zs.length z && Nat.ble n m && Nat.ble m 4611686018427387904 && Nat.ble (m * by') 281474976710656 then
          some (.slc st.length z 0 n m, st ++ [.cells (zeroL zs m)]) else none
      | _, _, _ => none
    | none => none
  | _, _ => none

theorem makeE_spec {t : TypeId} {st s : St} {x y v : SV} {K : SV → St → Prop} (h : makeE P t st x y = some (v, s)) (hk : K v s) : makeSpec P t st x y K ∧ Keeps st s st.length := by
  unfold makeE at h
  split at h
  · split at h
    · rename_i e he
      split at h
      · rename_i z zs by' h1 h2 h3
        split at h
        · rename_i hc
          simp only [Bool.and_eq_true, Nat.ble_eq] at hc
          obtain ⟨⟨⟨c1, c2⟩, c3⟩, c4⟩ := hc
          have c1 := Nat.eq_of_beq_eq_true c1
          have hz : zerosOf P t = zs := by simp [zerosOf, he, h2]
          cases h
          refine ⟨⟨by simp [he, h1], by simp [he, h1, h2, c1], by simp [he, h3], by simp, ?_, ?_, by simp [he, h3]; exact c4, ?_⟩, Keeps.more _ _ _⟩
          · simp only [Int.ofNat_eq_natCast]; omega
          · simp only [Int.ofNat_eq_natCast]; omega
          · rw [hz]; simpa [he, h1] using hk
        · cases h
      · cases h
    · cases h
  · cases h

noncomputable def partsE (z : Nat) (ev : Operand → SV) : List (Nat × Operand) → Nat → Bool
  | [], _ => true
  | p :: r, k => Nat.beq p.1 k && shapeOk (ev p.2) && Nat.beq (ev p.2).cells.length z && partsE z ev r (k + 1)

theorem partsE_spec {z : Nat} {ev : Operand → SV} : ∀ (l : List (Nat × Operand)) (k : Nat), partsE z ev l k = true → l.map (·.1) = List.range' k l.length ∧ ∀ p ∈ l, shapeOk (ev p.2) = true ∧ (ev p.2).cells.length = z
  | [], k, _ => ⟨rfl, fun p hp => by cases hp⟩
  | p :: r, k, h => by
    simp only [partsE, Bool.and_eq_true] at h
    obtain ⟨⟨⟨h1, h2⟩, h3⟩, h4⟩ := h
    obtain ⟨i1, i2⟩ := partsE_spec r (k + 1) h4
    refine ⟨by simp only [List.map_cons, List.length_cons, List.range'_succ, i1, Nat.eq_of_beq_eq_true h1], fun q hq => ?_⟩
    cases hq with
    | head => exact ⟨h2, Nat.eq_of_beq_eq_true h3⟩
    | tail _ hq => exact i2 q hq

noncomputable def bslE (P : Program) (t : TypeId) (len : Nat) (parts : List (Nat × Operand)) (ev : Operand → SV) : Option SV :=
  match aElem P t with
  | some e => match aSize P e, aZero P e with
    | some z, some zs => if Nat.beq zs.length z && Nat.beq parts.length len && Nat.ble (len * z) 16777216 && partsE z ev parts 0 then
        some (.slice .full z (parts.map fun p => norm (ev p.2))) else none
    | _, _ => none
  | none => none

/-- The callee's run: it is handed in. -/
abbrev Callf := FuncId → List SV → St → ER

def SoundCall (P : Program) (call : Callf) : Prop :=
  ∀ f args st x s c, call f args st = some (x, s, c) → ACalls P f args (fun x' s' => x' = x ∧ s' = s) st ∧ Keeps st s c

def callE (P : Program) (call : Callf) (args : List SV) (st : St) : SV → ER
  | .func (.func f) first captured => if aBody P f then call f (first ++ args ++ captured) st else none
  | _ => none

noncomputable def biE (P : Program) (ρ : Operand → SV) (st : St) : Builtin → List Operand → List TypeId → ER
  | .append, [x, y], [t, tx] => appE P t tx st (ρ x) (ρ y)
  | .copy, [x, y], [t, _] => copyE P t st (ρ x) (ρ y)
  | _, _, _ => none

noncomputable def effE (P : Program) (call : Callf) (M : List Nat) (o : Oper) (ρ : Operand → SV) (st : St) : ER :=
  match o.op with
  | .store t x y => match o.dst with
    | none => (storeE P t st (ρ y) (ρ x)).map fun r => (.any, r.1, r.2)
    | some _ => none
  | .box t x => if shapeOk (ρ x) then
      if M.contains (o.dst.getD 0) then some (.ptr st.length 0, st ++ [.cells (ρ x).cells], st.length) else some (.ref (ρ x).cells, st, st.length)
    else none
  | .alloc t => (aZero P t).map fun zs => (.ptr st.length 0, st ++ [.cells zs], st.length)
  | .build t parts => if aFieldsOk P t then (aBuild P t (parts.toList.map fun p => (p.1, ρ p.2))).map fun l => (.agg l, st, st.length) else none
  | .buildSlice t len parts => (bslE P t len parts.toList ρ).map fun x => (x, st, st.length)
  | .makeSlice t x y => (makeE P t st (ρ x) (ρ y)).map fun r => (r.1, r.2, st.length)
  | .call c => match c.callee with
    | .value f => callE P call (mapR ρ c.args.toList) st (ρ f)
    | .builtin b => if M.contains (o.dst.getD 0) then (match b with | .copy => biE P ρ st b c.args.toList c.argTypes.toList | _ => none) else biE P ρ st b c.args.toList c.argTypes.toList
    | .invoke _ _ => none
  | _ => none

theorem map_some {α β : Type} {x : Option α} {f : α → β} {y : β} (h : x.map f = some y) : ∃ a, x = some a ∧ f a = y := by
  cases x with
  | none => cases h
  | some a => exact ⟨a, rfl, by injection h⟩

theorem biE_spec {o : Oper} {ob : Bool} {env : List SV} {st s : St} {x : SV} {c : Nat} {K : SV → St → Prop} {b : Builtin} {args : List Operand} {ts : List TypeId} (hob : ob = false ∨ b = .copy)
    (h : biE P (ev env) st b args ts = some (x, s, c)) (hk : K x s) : biSpec P o ob env st K b args ts ∧ Keeps st s c := by
  unfold biE at h
  split at h
  · rcases hob with rfl | hob
    · exact appE_spec h hk
    · cases hob
  · exact copyE_spec h hk
  · cases h

theorem effE_spec {call : Callf} (hcall : SoundCall P call) {M : List Nat} {o : Oper} {env : List SV} {st s : St} {x : SV} {c : Nat} {K : SV → St → Prop} (h : effE P call M o (ev env) st = some (x, s, c)) (hk : K x s) :
    effSpec P M o env st K ∧ Keeps st s c := by
  obtain ⟨dst, op, ty, pos, after, guard⟩ := o
  unfold effE at h
  unfold effSpec
  simp only at h ⊢
  split at h
  · split at h
    · obtain ⟨⟨s', n⟩, h1, h2⟩ := map_some h
      cases h2
      obtain ⟨k1, k2⟩ := storeE_spec (K := fun s => K .any s) h1 hk
      exact ⟨⟨rfl, k1⟩, k2⟩
    · cases h
  · split at h
    · rename_i hs
      split at h
      · rename_i hm
        cases h
        exact ⟨⟨hs, by rw [if_pos hm]; exact hk⟩, Keeps.more _ _ _⟩
      · rename_i hm
        cases h
        exact ⟨⟨hs, by rw [if_neg hm]; exact hk⟩, Keeps.same _ _⟩
    · cases h
  · obtain ⟨zs, h1, h2⟩ := map_some h
    cases h2
    exact ⟨⟨by rw [h1]; rfl, by rw [h1]; exact hk⟩, Keeps.more _ _ _⟩
  · split at h
    · rename_i hf
      obtain ⟨l, h1, h2⟩ := map_some h
      cases h2
      exact ⟨⟨hf, by rw [h1]; rfl, by rw [h1]; exact hk⟩, Keeps.same _ _⟩
    · cases h
  · rename_i t len parts
    obtain ⟨y, h1, h2⟩ := map_some h
    cases h2
    refine ⟨?_, Keeps.same _ _⟩
    unfold bslE at h1
    split at h1
    · rename_i e he
      split at h1
      · rename_i z zs hz hzs
        split at h1
        · rename_i hc
          simp only [Bool.and_eq_true, Nat.ble_eq] at hc
          obtain ⟨⟨⟨c1, c2⟩, c3⟩, c4⟩ := hc
          have c1 := Nat.eq_of_beq_eq_true c1
          have c2 := Nat.eq_of_beq_eq_true c2
          obtain ⟨p1, p2⟩ := partsE_spec _ _ c4
          cases h1
          refine ⟨by simp [he, hz], by simp [he, hz, hzs, c1], ?_, by simpa [he, hz] using c3, by simpa [he, hz] using p2, by simpa [he, hz] using hk⟩
          rw [p1, c2, List.range_eq_range']
        · cases h1
      · cases h1
    · cases h1
  · obtain ⟨⟨a, s'⟩, h1, h2⟩ := map_some h
    cases h2
    exact makeE_spec h1 hk
  · rename_i cl
    obtain ⟨callee, ⟨args⟩, ⟨ts⟩⟩ := cl
    simp only at h ⊢
    unfold calleeSpec
    split at h
    · simp only
      rw [mapR_eq] at h
      unfold callE at h
      unfold callSpec
      split at h
      · rename_i hf
        simp only [hf]
        split at h
        · rename_i hb
          obtain ⟨k1, k2⟩ := hcall _ _ _ _ _ _ h
          exact ⟨⟨hb, k1.mono fun x' s' ⟨e1, e2⟩ => by rw [e1, e2]; exact hk⟩, k2⟩
        · cases h
      · cases h
    · simp only
      split at h
      · split at h
        · exact biE_spec (.inr rfl) h hk
        · cases h
      · rename_i hm
        exact biE_spec (.inl (by simpa using hm)) h hk
    · cases h
  · cases h


/-- A slice that a function made, once nobody writes it any more: it keeps that its capacity is its length. -/
theorem acalls_freezeM {f : FuncId} {args : List SV} {K : SV → St → Prop} {st : St} (ag : Bool) (m : Mode) (hm : m = .imm ∨ m = .full)
    (h : ACalls P f args (fun x s => ∃ ex id z off len cap l, x = .slc id z off len cap ∧ s = st ++ ex ∧ st.length ≤ id ∧ s[id]? = some (.cells l) ∧ off + len * z ≤ l.length ∧ (ag = false → z = 1) ∧
      (ag = false → ∀ y ∈ l, y.cells = [y]) ∧ (∀ y ∈ (l.drop off).take (len * z), Ids st.length y) ∧ (m = .full → cap = len) ∧ K (.slice m z (chunks ag z off len l)) st) st) : ACalls P f args K st := by
  intro σ w vs hI hR
  refine (h σ w vs hI hR).mono ?_
  rintro e w' ⟨v, x, s, σ', rfl, ⟨ex, id, z, off, len, cap, l, rfl, rfl, hid, hl, hle, hz1, hag, hids, hmc, hk⟩, hI', hr, hX⟩
  cases hr with
  | slc id z off len cap b hkk hb hc =>
    obtain ⟨b', cs, T, h1, h2, h3, h4, h5⟩ := hI'.cells id l hl
    rw [h1] at hb; cases hb
    have hIst : Inv st σ' w' := hI'.drop fun id l hl j hj => by
      obtain ⟨b, cs, T, _, _, _, h4, _⟩ := hI.cells id l hl
      exact (h4 j hj).ids
    have hXst : Ext st σ w st σ' w' := hX.drop (Nat.le_refl _)
    -- the block is locked
    have hnb : ∀ i, i < st.length → σ'.μ i ≠ some b := fun i hi hm => by
      have := hI'.inj i id b (by simp; omega) (lt_of_get hl) hm h1
      omega
    have hblt := lt_of_some h2
    have hX2 : Ext st σ' w' st (σ'.setLock b .all) w' := by
      refine ⟨rfl, rfl, rfl, Nat.le_refl _, fun c o v hlk hcl => ⟨?_, hcl⟩, fun c hcl hlk => ⟨?_, rfl⟩, fun _ l h => ⟨⟨l, h⟩, rfl⟩, fun i v h => ⟨v, h, Nat.le_refl _, fun _ => ⟨rfl, fun c hc => ⟨?_, rfl⟩⟩⟩⟩
      · simp only [Sig.setLock]
        split
        · trivial
        · exact hlk
      · have : c ≠ b := by rintro rfl; rw [h5] at hlk; cases hlk
        simp only [Sig.setLock, if_neg this]
      · have : c ≠ b := by rintro rfl; exact hnb i (lt_of_get h) hc
        simp only [Sig.setLock, if_neg this]
    have hI2 : Inv st (σ'.setLock b .all) w' := by
      refine ⟨fun i l hl => ?_, fun i v c h hc => ?_, hIst.inj, fun c hc => ?_⟩
      · obtain ⟨c, cs, T, q1, q2, q3, q4, q5⟩ := hIst.cells i l hl
        have : c ≠ b := by rintro rfl; exact hnb i (lt_of_get hl) q1
        exact ⟨c, cs, T, q1, q2, q3, fun j hj => (q4 j hj).ext hX2, by simp only [Sig.setLock, if_neg this]; exact q5⟩
      · obtain ⟨q1, q2⟩ := hIst.tok i v c h hc
        have : c ≠ b := by rintro rfl; exact hnb i (lt_of_get h) hc
        exact ⟨q1, by simp only [Sig.setLock, if_neg this]; exact q2⟩
      · have : c ≠ b := by omega
        simp only [Sig.setLock, if_neg this]; exact hIst.fresh c hc
    refine ⟨.slice (some ⟨b, off, none⟩) len cap, _, st, σ'.setLock b .all, rfl, hk, hI2, ?_, hXst.trans hX2⟩
    have hlen : (chunks ag z off len l).length = len := by simp [chunks]
    have hget : ∀ i, i < len → (chunks ag z off len l).getD i .any = chunk ag z l off i := fun i hi => by simp [chunks, List.getD_eq_getElem?_getD, hi]
    have hcells : ∀ i, i < len → (chunk ag z l off i).cells.length = z ∧ ∀ j, j < z → (chunk ag z l off i).cells.getD j .any = l.getD (off + i * z + j) .any := by
      intro i hi
      have hlt : off + (i + 1) * z ≤ l.length := by
        have : (i + 1) * z ≤ len * z := Nat.mul_le_mul_right z hi
        omega
      rw [Nat.add_mul, Nat.one_mul] at hlt
      unfold chunk
      cases ag with
      | true =>
        simp only [if_true, SV.cells]
        refine ⟨by simp; omega, fun j hj => ?_⟩
        simp [List.getD_eq_getElem?_getD, hj]
      | false =>
        have hz := hz1 rfl
        subst hz
        simp only [Bool.false_eq_true, if_false]
        have hmem : l.getD (off + i) .any ∈ l := by
          rw [List.getD_eq_getElem?_getD, List.getElem?_eq_getElem (by omega)]; exact List.getElem_mem _
        rw [hag rfl _ hmem]
        refine ⟨rfl, fun j hj => ?_⟩
        obtain rfl : j = 0 := by omega
        simp
    have key : Rep st (σ'.setLock b .all) w' (.slice m z (chunks ag z off len l)) (.slice (some ⟨b, off, none⟩) (chunks ag z off len l).length cap) := by
      refine .slice m z _ ⟨b, off, none⟩ cap (fun i j => cs.getD (off + i * z + j) default) (by omega) (fun _ => rfl) (fun i hi => ?_) (fun i j hi hj => ⟨?_, ?_⟩) (fun i j hi hj => ?_) (by rcases hm with rfl | rfl <;> first | trivial | exact (hmc rfl).trans hlen.symm)
      · rw [hlen] at hi; rw [hget i hi]; exact (hcells i hi).1
      · rw [hlen] at hi
        have hlt := idx_lt hi hj
        have hs : off + i * z + j < cs.size := by omega
        simp [World.cell?, h2, Array.getD, hs]
      · simp only [Sig.setLock, if_true]; trivial
      · rw [hlen] at hi
        have hlt := idx_lt hi hj
        rw [hget i hi, (hcells i hi).2 j hj]
        have hj' : off + i * z + j < l.length := by omega
        have h6 := h4 _ hj'
        have hmem : l.getD (off + i * z + j) .any ∈ l := by
          rw [List.getD_eq_getElem?_getD, List.getElem?_eq_getElem hj']; exact List.getElem_mem _
        have hmem' : l.getD (off + i * z + j) .any ∈ (l.drop off).take (len * z) := by
          refine List.mem_iff_getElem?.2 ⟨i * z + j, ?_⟩
          rw [List.getElem?_take, if_pos (by omega), List.getElem?_drop, ← Nat.add_assoc, List.getD_eq_getElem?_getD, List.getElem?_eq_getElem hj']
          rfl
        exact (h6.drop (hids _ hmem')).ext hX2
    rw [hlen] at key
    exact key

/-! Regions. -/

/-- A skipped operation's slot. -/
def skipV : SV := .gd false (.sc (.bool false))

theorem aops_gd {ops : Array Oper} {i : Nat} {r : List Nat} {K : List SV → St → Prop} {env : List SV} {st : St} {o : Oper} {j : Nat} {want : Bool} (ho : ops[i]? = some o)
    (hg : o.guard = some (j, want)) (hok : gValOk (gSlot (ops.toList.map (·.dst)) j env))
    (h1 : gVal want (gSlot (ops.toList.map (·.dst)) j env) = true → AOp P o (fun x s => AOps P ops r K (putE env o.dst x) s) env st)
    (h2 : gVal want (gSlot (ops.toList.map (·.dst)) j env) = false → AOps P ops r K (putE env o.dst skipV) st) : AOps P ops (i :: r) K env st := by
  intro σ w a hI hR hdf
  obtain ⟨d, hd, he⟩ := gSlot_some hok
  rw [he] at hok h1 h2
  have hy := yield_gVal (want := want) hd hok hR
  simp only [wpOps, ho, Region.wanted, hg, hy]
  generalize hgv : gVal want (env.getD d .any) = g at h1 h2
  cases g with
  | true =>
    simp only [if_true]
    refine .inl (upon_mono ?_ (fun _ _ _ h => h.elim) (h1 rfl σ w a hI hR))
    rintro a' w' ⟨v, y, st', σ', rfl, hn, hI', hr', hX⟩
    refine wpOps_mono (fun e a w hp => ⟨hp.1, hp.2.ext hX⟩) _ _ _ (hn σ' w' _ hI' (rep_put (hR.ext hX) _ hr') ?_)
    rw [put_defers]; exact hdf
  | false =>
    simp only [Bool.false_eq_true, if_false]
    exact h2 rfl σ w _ hI (rep_put hR _ (.gd false _ _ (fun e => by cases e) (fun _ => rfl))) (by rw [put_defers]; exact hdf)

theorem pickB_true (x y : SV) : pickB true x y = x := by unfold pickB; split <;> rfl
theorem pickB_false (x y : SV) : pickB false x y = y := by unfold pickB; split <;> rfl

def openE : SV → Option SV
  | .gd true x => some x
  | .gd false _ => none
  | x => some x

theorem openE_spec {x v : SV} (h : openE x = some v) : strip x = v ∧ ∀ p : Prop, gIf p x := by
  cases x with
  | gd g y =>
    cases g with
    | true => cases h; exact ⟨rfl, fun p _ => rfl⟩
    | false => cases h
  | _ => cases h; exact ⟨rfl, fun p => trivial⟩

def pickE : SV → SV → SV → Option SV
  | .sc (.bool true), x, _ => openE x
  | .sc (.bool false), _, y => openE y
  | _, _, _ => none

theorem pickE_spec {c x y v : SV} (h : pickE c x y = some v) : pickOk c x y ∧ pickV c x y = v := by
  unfold pickE at h
  split at h
  · obtain ⟨h1, h2⟩ := openE_spec h
    refine ⟨⟨h2 _, ?_⟩, by simp only [pickV, pickB_true, h1]⟩
    cases y <;> first | trivial | exact fun h => by cases h
  · obtain ⟨h1, h2⟩ := openE_spec h
    refine ⟨⟨?_, h2 _⟩, by simp only [pickV, pickB_false, h1]⟩
    cases x <;> first | trivial | exact fun h => by cases h
  · cases h

noncomputable def opE (P : Program) (call : Callf) (M : List Nat) (o : Oper) (env : List SV) (st : St) : ER :=
  match kindOf o.op with
  | .pure => (pureE P st (ev env) o.op).map fun x => (x, st, st.length)
  | .pick c x y => (pickE (ev env c) (ev env x) (ev env y)).map fun x => (x, st, st.length)
  | .eff => effE P call M o (ev env) st

theorem opE_spec {call : Callf} (hcall : SoundCall P call) {M : List Nat} {o : Oper} {env : List SV} {st s : St} {x : SV} {c : Nat} {K : SV → St → Prop} (h : opE P call M o env st = some (x, s, c)) (hk : K x s) :
    AOp P o K env st ∧ Keeps st s c := by
  unfold opE at h
  cases hkd : kindOf o.op with
  | pure =>
    rw [hkd] at h
    obtain ⟨a, h1, h2⟩ := map_some h
    obtain ⟨h3, h4⟩ := pureE_spec h1
    cases h2
    exact ⟨pure_run hkd h3 (by rw [h4]; exact hk), Keeps.same _ _⟩
  | pick a b d =>
    rw [hkd] at h
    obtain ⟨v, h1, h2⟩ := map_some h
    obtain ⟨h3, h4⟩ := pickE_spec h1
    cases h2
    exact ⟨aop_of_pure (ap_pick' (kindOf_pick hkd) h3) (by rw [h4]; exact hk), Keeps.same _ _⟩
  | eff =>
    rw [hkd] at h
    obtain ⟨h1, h2⟩ := effE_spec hcall h hk
    exact ⟨aop_eff h1, h2⟩

/-- Is an operation with a guard wanted? -/
def gE (want : Bool) : SV → Option Bool
  | .sc (.bool b) => some (b == want)
  | .gd g (.sc (.bool b)) => some (g && (b == want))
  | _ => none

theorem gE_spec {want : Bool} {x : SV} {b : Bool} (h : gE want x = some b) : gValOk x ∧ gVal want x = b := by
  unfold gE at h
  split at h
  · cases h; exact ⟨trivial, rfl⟩
  · cases h; exact ⟨trivial, rfl⟩
  · cases h

noncomputable def opsE (P : Program) (call : Callf) (M : List Nat) (ds : List (Option Tmp)) : List Oper → List SV → St → Option (List SV × St × Nat)
  | [], env, st => some (env, st, st.length)
  | o :: r, env, st =>
    match (match o.guard with
      | none => some true
      | some (j, want) => gE want (gSlot ds j env)) with
    | some true => match opE P call M o env st with
      | some (x, s, c) => match opsE P call M ds r (putE env o.dst x) s with
        | some (e, s', c') => some (e, s', min c c')
        | none => none
      | none => none
    | some false => opsE P call M ds r (putE env o.dst skipV) st
    | none => none

theorem opsE_spec {call : Callf} (hcall : SoundCall P call) {M : List Nat} {ops : Array Oper} {K : List SV → St → Prop} : ∀ (n : Nat) (l : List Oper) (env : List SV) (st : St) (e : List SV) (s : St) (c : Nat),
    ops.toList.drop n = l → opsE P call M (ops.toList.map (·.dst)) l env st = some (e, s, c) → K e s → AOps P ops (List.range' n l.length) K env st ∧ Keeps st s c
  | n, [], env, st, e, s, c, _, h, hk => by cases h; exact ⟨aops_nil hk, Keeps.same _ _⟩
  | n, o :: r, env, st, e, s, c, hl, h, hk => by
    have ho : ops[n]? = some o := by
      have : (ops.toList.drop n)[0]? = some o := by rw [hl]; rfl
      rw [List.getElem?_drop, Nat.add_zero, Array.getElem?_toList] at this
      exact this
    have hr : ops.toList.drop (n + 1) = r := by rw [← List.drop_drop, hl]; rfl
    simp only [List.length_cons, List.range'_succ]
    simp only [opsE] at h
    split at h
    · rename_i hgd
      split at h
      · rename_i x s1 c1 hop
        split at h
        · rename_i e' s' c' hrest
          cases h
          obtain ⟨i1, i2⟩ := opsE_spec hcall (K := K) (n + 1) r _ _ _ _ _ hr hrest hk
          obtain ⟨j1, j2⟩ := opE_spec hcall (K := fun x s => AOps P ops (List.range' (n + 1) r.length) K (putE env o.dst x) s) hop i1
          refine ⟨?_, j2.trans i2⟩
          cases hg : o.guard with
          | none => exact aops_cons ho hg j1
          | some jw =>
            obtain ⟨j, want⟩ := jw
            rw [hg] at hgd
            obtain ⟨g1, g2⟩ := gE_spec hgd
            exact aops_gd ho hg g1 (fun _ => j1) (fun h => by rw [g2] at h; cases h)
        · cases h
      · cases h
    · rename_i hgd
      obtain ⟨i1, i2⟩ := opsE_spec hcall (K := K) (n + 1) r _ _ _ _ _ hr h hk
      refine ⟨?_, i2⟩
      cases hg : o.guard with
      | none => rw [hg] at hgd; cases hgd
      | some jw =>
        obtain ⟨j, want⟩ := jw
        rw [hg] at hgd
        obtain ⟨g1, g2⟩ := gE_spec hgd
        exact aops_gd ho hg g1 (fun h => by rw [g2] at h; cases h) (fun _ => i1)
    · cases h

def keptE (st : St) : ER → Option SV
  | some (x, _, n) => if Nat.ble st.length n then (if idsB st.length x then some x else if idsB st.length (norm x) then some (norm x) else none) else none
  | _ => none

def gAllE (env : List SV) : List Operand → Bool
  | [] => true
  | y :: r => (match ev env y with | .gd g _ => g | _ => true) && gAllE env r

theorem gAllE_spec {env : List SV} {p : Prop} : ∀ (l : List Operand), gAllE env l = true → gAll p env l
  | [], _ => trivial
  | y :: r, h => by
    simp only [gAllE, Bool.and_eq_true] at h
    refine ⟨?_, gAllE_spec r h.2⟩
    have h1 := h.1
    cases hy : ev env y with
    | gd g x => rw [hy] at h1; exact fun _ => h1
    | _ => trivial

theorem gAll_of {env : List SV} {p : Prop} (hp : ¬ p) : ∀ (l : List Operand), gAll p env l
  | [] => trivial
  | y :: r => ⟨by cases hy : ev env y with
    | gd g x => exact fun h => absurd h hp
    | _ => trivial, gAll_of hp r⟩

/-- One operation of a region that draws. -/
noncomputable def d1E (P : Program) (call : Callf) (M : List Nat) (ds : List (Option Tmp)) (o : Oper) (env : List SV) (st : St) : Option SV :=
  match o.guard with
  | none => match kindOf o.op with
    | .pure => pureE P st (ev env) o.op
    | .pick c x y => pickE (ev env c) (ev env x) (ev env y)
    | .eff => keptE st (effE P call M o (ev (onlyAt (opTmps o.op.operands.toList) 0 env)) st)
  | some (j, want) => match gE want (gSlot ds j env) with
    | some true => match kindOf o.op with
      | .pure => if gAllE env o.op.operands.toList then (pureE P st (fun y => strip (ev env y)) o.op).map (.gd true ·) else none
      | .pick c x y => (openE (ev env c)).bind fun c => (pickE c (ev env x) (ev env y)).map (.gd true ·)
      | .eff => if gAllE env o.op.operands.toList then (keptE st (effE P call M o (ev (stripAt (opTmps o.op.operands.toList) 0 (onlyAt (opTmps o.op.operands.toList) 0 env))) st)).map (.gd true ·) else none
    | some false => match kindOf o.op with
      | .pure => some (.gd false (valCore P st (fun y => strip (ev env y)) o.op))
      | .pick c x y => some (.gd false (pickV (strip (ev env c)) (ev env x) (ev env y)))
      | .eff => some skipV
    | none => none

theorem keptE_spec {call : Callf} (hcall : SoundCall P call) {M : List Nat} {o : Oper} {env : List SV} {st : St} {X : SV} (h : keptE st (effE P call M o (ev env) st) = some X) : effSpec P M o env st (Kept st X) := by
  cases he : effE P call M o (ev env) st with
  | none => rw [he] at h; cases h
  | some r =>
    obtain ⟨x, s, c⟩ := r
    rw [he] at h
    simp only [keptE] at h
    split at h
    · rename_i hn
      obtain ⟨h1, h2⟩ := effE_spec hcall (K := fun x' s' => x' = x ∧ s' = s) he ⟨rfl, rfl⟩
      obtain ⟨ex, hex⟩ := h2.all (by simpa using hn)
      split at h
      · rename_i hi
        cases h
        exact (effE_spec hcall (K := Kept st _) he ⟨⟨ex, hex⟩, idsB_spec _ _ hi, .inl rfl⟩).1
      · split at h
        · rename_i hi
          cases h
          exact (effE_spec hcall (K := Kept st (norm x)) he ⟨⟨ex, hex⟩, idsB_spec _ _ hi, .inr rfl⟩).1
        · cases h
    · cases h

theorem d1E_spec {call : Callf} (hcall : SoundCall P call) {M : List Nat} {ds : List (Option Tmp)} {o : Oper} {env : List SV} {st : St} {X : SV} {next : SV → Prop} (h : d1E P call M ds o env st = some X) (hn : next X) :
    d1Spec P M ds o env st next := by
  unfold d1E at h
  unfold d1Spec
  split at h
  · rename_i hg
    simp only [hg]
    cases hk : kindOf o.op with
    | pure =>
      rw [hk] at h
      obtain ⟨h1, h2⟩ := pureE_spec h
      exact ⟨h1, by rw [h2]; exact hn⟩
    | pick c x y =>
      rw [hk] at h
      obtain ⟨h1, h2⟩ := pickE_spec h
      exact ⟨h1, by rw [h2]; exact hn⟩
    | eff =>
      rw [hk] at h
      exact ⟨X, keptE_spec hcall h, hn⟩
  · rename_i j want hg
    simp only [hg]
    split at h
    · rename_i hgd
      obtain ⟨g1, g2⟩ := gE_spec hgd
      refine ⟨g1, ?_⟩
      rw [g2]
      cases hk : kindOf o.op with
      | pure =>
        rw [hk] at h
        simp only at h
        split at h
        · rename_i ha
          obtain ⟨v, h1, h2⟩ := map_some h
          obtain ⟨h3, h4⟩ := pureE_spec h1
          exact ⟨gAllE_spec _ ha, fun _ => h3, by rw [h4, h2]; exact hn⟩
        · cases h
      | pick c x y =>
        rw [hk] at h
        simp only at h
        cases hc : openE (ev env c) with
        | none => rw [hc] at h; cases h
        | some c' =>
          rw [hc] at h
          obtain ⟨v, h1, h2⟩ := map_some h
          obtain ⟨h3, h4⟩ := pickE_spec h1
          obtain ⟨o1, o2⟩ := openE_spec hc
          exact ⟨o2 _, fun _ => by rw [o1]; exact h3, by rw [o1, h4, h2]; exact hn⟩
      | eff =>
        rw [hk] at h
        simp only at h
        split at h
        · rename_i ha
          obtain ⟨v, h1, h2⟩ := map_some h
          exact ⟨gAllE_spec _ ha, v, fun _ => keptE_spec hcall h1, by rw [h2]; exact hn⟩
        · cases h
    · rename_i hgd
      obtain ⟨g1, g2⟩ := gE_spec hgd
      refine ⟨g1, ?_⟩
      rw [g2]
      have hf : ¬ (false = true) := by decide
      cases hk : kindOf o.op with
      | pure =>
        rw [hk] at h
        cases h
        exact ⟨gAll_of hf _, fun h => absurd h hf, hn⟩
      | pick c x y =>
        rw [hk] at h
        cases h
        refine ⟨?_, fun h => absurd h hf, hn⟩
        cases hy : ev env c with
        | gd g x => exact fun h => absurd h hf
        | _ => trivial
      | eff =>
        rw [hk] at h
        cases h
        exact ⟨gAll_of hf _, .sc (.bool false), fun h => absurd h hf, hn⟩
    · cases h

noncomputable def drawL (P : Program) (call : Callf) (M : List Nat) (ds : List (Option Tmp)) : List Oper → List SV → St → Option (List SV)
  | [], env, _ => some env
  | o :: r, env, st => match d1E P call M ds o env st with
    | some x => drawL P call M ds r (putE env o.dst x) st
    | none => none

theorem drawL_spec {call : Callf} (hcall : SoundCall P call) {M : List Nat} {ds : List (Option Tmp)} {st : St} {K : List SV → Prop} : ∀ (l : List Oper) (env e : List SV), drawL P call M ds l env st = some e → K e → drawSpec P M ds l env st K
  | [], env, e, h, hk => by cases h; exact hk
  | o :: r, env, e, h, hk => by
    simp only [drawL] at h
    split at h
    · rename_i x hx
      exact d1E_spec hcall hx (drawL_spec hcall r _ e h hk)
    · cases h

end Go.AL
