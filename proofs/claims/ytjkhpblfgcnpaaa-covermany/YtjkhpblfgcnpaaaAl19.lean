/- The abstract layer, part 19: closed runs over trees come to what closed runs come to. -/
import Derived.Test.YtjkhpblfgcnpaaaAl18
set_option linter.unusedVariables false
set_option linter.unusedSimpArgs false
namespace Go.AL
variable {P : Program}

/-! Of which objects a value speaks, by its own recursor. -/

noncomputable def idsR (n : Nat) (x : SV) : Bool :=
  SV.rec (motive_1 := fun _ => Bool) (motive_2 := fun _ => Bool) true (fun _ => true) (fun m _ _ ih => bif modeB n m then ih else false) (fun _ ih => ih) (fun id _ => Nat.blt id n)
    (fun _ _ _ i1 i2 => bif i1 then i2 else false) (fun _ ih => ih) (fun _ ih => ih) (fun g _ ih => bif g then ih else true) (fun id _ _ _ _ => Nat.blt id n) true (fun _ _ i1 i2 => bif i1 then i2 else false) x
noncomputable def idsRL (n : Nat) (l : List SV) : Bool := List.rec true (fun x _ ih => bif idsR n x then ih else false) l

theorem bif_and (a b : Bool) : (bif a then b else false) = (a && b) := by cases a <;> rfl

mutual
theorem idsR_eq (n : Nat) : ∀ x : SV, idsR n x = idsB n x
  | .any => rfl
  | .sc v => rfl
  | .slice m z l => by show (bif modeB n m then _ else false) = _; rw [bif_and, idsB]; exact congrArg _ (idsRL_eq n l)
  | .ref l => (idsRL_eq n l).trans (by rw [idsB])
  | .ptr id off => rfl
  | .func fn l k => by show (bif _ then _ else false) = _; rw [bif_and, idsB]; exact congr (congrArg _ (idsRL_eq n l)) (idsRL_eq n k)
  | .agg l => (idsRL_eq n l).trans (by rw [idsB])
  | .tuple l => (idsRL_eq n l).trans (by rw [idsB])
  | .gd g x => by
    show (bif g then _ else true) = _
    rw [idsB]
    cases g
    · rfl
    · exact idsR_eq n x
  | .slc id z off len cap => rfl
theorem idsRL_eq (n : Nat) : ∀ l : List SV, SV.rec_1 (motive_1 := fun _ => Bool) (motive_2 := fun _ => Bool) true (fun _ => true) (fun m _ _ ih => bif modeB n m then ih else false) (fun _ ih => ih) (fun id _ => Nat.blt id n)
    (fun _ _ _ i1 i2 => bif i1 then i2 else false) (fun _ ih => ih) (fun _ ih => ih) (fun g _ ih => bif g then ih else true) (fun id _ _ _ _ => Nat.blt id n) true (fun _ _ i1 i2 => bif i1 then i2 else false) l = idsBL n l
  | [] => rfl
  | x :: r => by show (bif idsR n x then _ else false) = _; rw [bif_and, idsBL]; exact congr (congrArg _ (idsR_eq n x)) (idsRL_eq n r)
end

noncomputable def finT (keep : Bool) (st : St) (x : SV) (s : St) (c : Nat) : ER :=
  if Nat.beq (lenR s) (lenR st) then some (x, s, c)
  else if Nat.ble (lenR st) c then
    match keep with
    | true => if idsR (lenR st) x then some (x, st, st.length) else some (x, s, c)
    | false => if idsR (lenR st) (norm x) then some (norm x, st, st.length) else
      match frzE st s x with
      | some y => some (y, st, st.length)
      | none => some (x, s, c)
  else if idsR (lenR st) (normK keep x) && tailB st.length c (s.take st.length) then some (normK keep x, s.take st.length, c)
  else some (x, s, c)

theorem finT_eq (keep : Bool) (st : St) (x : SV) (s : St) (c : Nat) : finT keep st x s c = finE keep st x s c := by
  unfold finT finE
  simp only [lenR_eq, idsR_eq]
  rfl

/-! Operations by what their operands stand for alone. -/

theorem opTmps_only {l : List Operand} {env : List SV} {y : Operand} (hy : y ∈ l) : ev (onlyAt (opTmps l) 0 env) y = ev env y := by
  cases y with
  | tmp t =>
    simp only [ev]
    by_cases hl : t < env.length
    · rw [getD_onlyAt _ _ _ _ hl, Nat.zero_add, if_pos (by simpa using opTmps_mem hy)]
    · rw [List.getD_eq_getElem?_getD, List.getElem?_eq_none (by rw [length_onlyAt]; exact Nat.not_lt.1 hl), List.getD_eq_getElem?_getD, List.getElem?_eq_none (Nat.not_lt.1 hl)]
  | _ => rfl

theorem strip_svOf (v : Value) : strip (svOf v) = svOf v := by
  unfold svOf
  split <;> rfl

theorem opTmps_strip {l : List Operand} {env : List SV} {y : Operand} (hy : y ∈ l) : ev (stripAt (opTmps l) 0 (onlyAt (opTmps l) 0 env)) y = strip (ev env y) := by
  cases y with
  | tmp t =>
    have h0 := opTmps_only (env := env) hy
    simp only [ev] at h0 ⊢
    by_cases hl : t < env.length
    · rw [getD_stripAt _ _ _ _ (by rw [length_onlyAt]; exact hl), Nat.zero_add, if_pos (by simpa using opTmps_mem hy), h0]
    · rw [List.getD_eq_getElem?_getD, List.getElem?_eq_none (by rw [length_stripAt, length_onlyAt]; exact Nat.not_lt.1 hl), List.getD_eq_getElem?_getD, List.getElem?_eq_none (Nat.not_lt.1 hl)]
      rfl
  | const v => exact (strip_svOf v).symm
  | global g => rfl
  | func f => rfl

theorem mapR_congr {α β : Type} {f g : α → β} : ∀ {l : List α}, (∀ x ∈ l, f x = g x) → mapR f l = mapR g l
  | [], _ => rfl
  | x :: r, h => by
    show f x :: mapR f r = g x :: mapR g r
    rw [h x (by simp), mapR_congr (l := r) (fun y hy => h y (by simp [hy]))]

theorem partsE_congr {z : Nat} {f g : Operand → SV} : ∀ {l : List (Nat × Operand)} (k : Nat), (∀ p ∈ l, f p.2 = g p.2) → partsE z f l k = partsE z g l k
  | [], _, _ => rfl
  | p :: r, k, h => by
    simp only [partsE]
    rw [h p (by simp), partsE_congr (k + 1) (fun q hq => h q (by simp [hq]))]

theorem bslE_congr {t : TypeId} {len : Nat} {parts : List (Nat × Operand)} {f g : Operand → SV} (h : ∀ p ∈ parts, f p.2 = g p.2) : bslE P t len parts f = bslE P t len parts g := by
  have e : (parts.map fun p => norm (f p.2)) = parts.map fun p => norm (g p.2) := List.map_congr_left fun p hp => by rw [h p hp]
  unfold bslE
  simp only [partsE_congr 0 h, e]

theorem biE_congr {st : St} {b : Builtin} {args : List Operand} {ts : List TypeId} {f g : Operand → SV} (h : ∀ y ∈ args, f y = g y) : biE P f st b args ts = biE P g st b args ts := by
  unfold biE
  split
  · rw [h _ (by simp), h _ (by simp)]
  · rw [h _ (by simp), h _ (by simp)]
  · rfl

theorem effE_congr {call : Callf} {M : List Nat} {o : Oper} {ρ ρ' : Operand → SV} {st : St} (h : ∀ y ∈ o.op.operands, ρ y = ρ' y) : effE P call M o ρ st = effE P call M o ρ' st := by
  obtain ⟨dst, op, ty, pos, after, guard⟩ := o
  unfold effE
  simp only at h ⊢
  cases op with
  | store t x y => simp only [h x (by simp [Op.operands]), h y (by simp [Op.operands])]
  | box t x => simp only [h x (by simp [Op.operands])]
  | build t parts =>
    have : (parts.toList.map fun p => (p.1, ρ p.2)) = parts.toList.map fun p => (p.1, ρ' p.2) := List.map_congr_left fun p hp => by rw [h p.2 (by simp [Op.operands]; exact ⟨p.1, by simpa using hp⟩)]
    simp only [this]
  | buildSlice t len parts =>
    have := bslE_congr (P := P) (t := t) (len := len) (parts := parts.toList) (f := ρ) (g := ρ') (fun p hp => h p.2 (by simp [Op.operands]; exact ⟨p.1, by simpa using hp⟩))
    simp only [this]
  | makeSlice t x y => simp only [h x (by simp [Op.operands]), h y (by simp [Op.operands])]
  | call c =>
    obtain ⟨callee, args, ts⟩ := c
    simp only
    have ha : ∀ y ∈ args.toList, ρ y = ρ' y := fun y hy => h y (by simp [Op.operands, Call.operands]; right; simpa using hy)
    cases callee with
    | value f => simp only [mapR_congr ha, h f (by simp [Op.operands, Call.operands])]
    | builtin b => simp only [biE_congr (P := P) ha]
    | invoke r m => rfl
  | _ => rfl

/-- Where a call comes to something, so does another that knows more. -/
theorem effE_mono {call call' : Callf} (hc : ∀ f args st r, call f args st = some r → call' f args st = some r) {M : List Nat} {o : Oper} {ρ : Operand → SV} {st : St} {r : SV × St × Nat} (h : effE P call M o ρ st = some r) :
    effE P call' M o ρ st = some r := by
  obtain ⟨dst, op, ty, pos, after, guard⟩ := o
  unfold effE at h ⊢
  cases op with
  | call c =>
    obtain ⟨callee, args, ts⟩ := c
    cases callee with
    | value f =>
      dsimp only at h ⊢
      unfold callE at h ⊢
      split at h
      · rename_i hf
        try simp only [hf]
        split at h
        · rename_i hb; rw [if_pos hb]; exact hc _ _ _ _ h
        · cases h
      · cases h
    | builtin b => exact h
    | invoke r m => exact h
  | _ => exact h

noncomputable def opT (P : Program) (call : Callf) (M : List Nat) (o : Oper) (t : ET) (st : St) : ER :=
  match kindOf o.op with
  | .pure => (pureE P st (evT t) o.op).map fun x => (x, st, st.length)
  | .pick c x y => (pickE (evT t c) (evT t x) (evT t y)).map fun x => (x, st, st.length)
  | .eff => effE P call M o (evT t) st

def Knows (call call' : Callf) : Prop := ∀ f args st r, call f args st = some r → call' f args st = some r

theorem opT_spec {call call' : Callf} (hc : Knows call call') {M : List Nat} {o : Oper} {n : Nat} {t : ET} {env : List SV} (hR : Rl n t env) {st : St} {r : SV × St × Nat} (h : opT P call M o t st = some r) : opE P call' M o env st = some r := by
  unfold opT at h
  unfold opE
  rw [hR.ev] at h
  cases hk : kindOf o.op with
  | pure => rw [hk] at h; exact h
  | pick a b c => rw [hk] at h; exact h
  | eff => rw [hk] at h; exact effE_mono hc h

noncomputable def gSlotT (ds : List (Option Tmp)) (j : Nat) (t : ET) : SV :=
  match nthR ds j with
  | some (some d) => t.get d
  | _ => .any

theorem gSlotT_eq {ds : List (Option Tmp)} {j n : Nat} {t : ET} {env : List SV} (hR : Rl n t env) : gSlotT ds j t = gSlot ds j env := by
  unfold gSlotT gSlot
  rw [nthR_eq]
  cases h : ds[j]? with
  | none => rfl
  | some d => cases d with
    | none => rfl
    | some d => exact hR.get d

noncomputable def opsT (P : Program) (call : Callf) (M : List Nat) (ds : List (Option Tmp)) (n : Nat) (l : List Oper) : ET → St → Option (ET × St × Nat) :=
  List.rec (motive := fun _ => ET → St → Option (ET × St × Nat)) (fun t st => some (t, st, st.length))
    (fun o _ ih t st => match (match o.guard with
      | none => some true
      | some (j, want) => gE want (gSlotT ds j t)) with
    | some true => match opT P call M o t st with
      | some (x, s, c) => match ih (putT n t o.dst x) s with
        | some (t', s', c') => some (t', s', min c c')
        | none => none
      | none => none
    | some false => ih (putT n t o.dst skipV) st
    | none => none) l

theorem opsT_cons {call : Callf} {M : List Nat} {ds : List (Option Tmp)} {n : Nat} {o : Oper} {r : List Oper} {t : ET} {st : St} : opsT P call M ds n (o :: r) t st = (match (match o.guard with
      | none => some true
      | some (j, want) => gE want (gSlotT ds j t)) with
    | some true => match opT P call M o t st with
      | some (x, s, c) => match opsT P call M ds n r (putT n t o.dst x) s with
        | some (t', s', c') => some (t', s', min c c')
        | none => none
      | none => none
    | some false => opsT P call M ds n r (putT n t o.dst skipV) st
    | none => none) := rfl

theorem opsT_spec {call call' : Callf} (hc : Knows call call') {M : List Nat} {ds : List (Option Tmp)} {n : Nat} : ∀ (l : List Oper) (t : ET) (env : List SV) (st : St) (t' : ET) (s : St) (c : Nat), Rl n t env → opsT P call M ds n l t st = some (t', s, c) →
    ∃ e, opsE P call' M ds l env st = some (e, s, c) ∧ Rl n t' e
  | [], t, env, st, t', s, c, hR, h => by cases h; exact ⟨env, rfl, hR⟩
  | o :: r, t, env, st, t', s, c, hR, h => by
    have step : ∀ x s1 c1, opT P call M o t st = some (x, s1, c1) → (match opsT P call M ds n r (putT n t o.dst x) s1 with | some (t', s', c') => some (t', s', min c1 c') | none => none) = some (t', s, c) →
        ∃ e, (match opE P call' M o env st with | some (x, s, c) => (match opsE P call' M ds r (putE env o.dst x) s with | some (e, s', c') => some (e, s', min c c') | none => none) | none => none) = some (e, s, c) ∧ Rl n t' e := by
      intro x s1 c1 ho h
      split at h
      · rename_i t2 s2 c2 hr
        obtain ⟨e, h1, h2⟩ := opsT_spec hc r _ _ _ _ _ _ (hR.put o.dst x) hr
        cases h
        exact ⟨e, by rw [opT_spec hc hR ho]; simp only [h1], h2⟩
      · cases h
    rw [opsT_cons] at h
    simp only [opsE]
    cases hg : o.guard with
    | none =>
      simp only [hg] at h ⊢
      cases ho : opT P call M o t st with
      | none => rw [ho] at h; cases h
      | some x => rw [ho] at h; exact step _ _ _ ho h
    | some jw =>
      obtain ⟨j, want⟩ := jw
      simp only [hg, gSlotT_eq hR] at h ⊢
      cases hw : gE want (gSlot ds j env) with
      | none => rw [hw] at h; cases h
      | some b =>
        rw [hw] at h
        cases b with
        | true =>
          simp only at h ⊢
          cases ho : opT P call M o t st with
          | none => rw [ho] at h; cases h
          | some x => rw [ho] at h; exact step _ _ _ ho h
        | false => exact opsT_spec hc r _ _ _ _ _ _ (hR.put o.dst skipV) h

/-! Regions that draw. -/

noncomputable def gAllT (ρ : Operand → SV) (l : List Operand) : Bool := allR (fun y => match ρ y with | .gd g _ => g | _ => true) l
theorem gAllT_eq (env : List SV) : ∀ l : List Operand, gAllT (ev env) l = gAllE env l
  | [] => rfl
  | y :: r => by
    show (bif _ then gAllT (ev env) r else false) = _
    rw [bif_and, gAllE, gAllT_eq env r]
    rfl

noncomputable def d1T (P : Program) (call : Callf) (M : List Nat) (ds : List (Option Tmp)) (o : Oper) (t : ET) (st : St) : Option SV :=
  match o.guard with
  | none => match kindOf o.op with
    | .pure => pureE P st (evT t) o.op
    | .pick c x y => pickE (evT t c) (evT t x) (evT t y)
    | .eff => keptE st (effE P call M o (evT t) st)
  | some (j, want) => match gE want (gSlotT ds j t) with
    | some true => match kindOf o.op with
      | .pure => if gAllT (evT t) o.op.operands.toList then (pureE P st (fun y => strip (evT t y)) o.op).map (.gd true ·) else none
      | .pick c x y => (openE (evT t c)).bind fun c => (pickE c (evT t x) (evT t y)).map (.gd true ·)
      | .eff => if gAllT (evT t) o.op.operands.toList then (keptE st (effE P call M o (fun y => strip (evT t y)) st)).map (.gd true ·) else none
    | some false => match kindOf o.op with
      | .pure => some (.gd false (valCore P st (fun y => strip (evT t y)) o.op))
      | .pick c x y => some (.gd false (pickV (strip (evT t c)) (evT t x) (evT t y)))
      | .eff => some skipV
    | none => none

theorem keptE_mono {call call' : Callf} (hc : Knows call call') {M : List Nat} {o : Oper} {ρ ρ' : Operand → SV} (hρ : ∀ y ∈ o.op.operands, ρ y = ρ' y) {st : St} {X : SV} (h : keptE st (effE P call M o ρ st) = some X) :
    keptE st (effE P call' M o ρ' st) = some X := by
  rw [← effE_congr hρ]
  cases he : effE P call M o ρ st with
  | none => rw [he] at h; cases h
  | some r => rw [he] at h; rw [effE_mono hc he]; exact h

theorem d1T_spec {call call' : Callf} (hc : Knows call call') {M : List Nat} {ds : List (Option Tmp)} {o : Oper} {n : Nat} {t : ET} {env : List SV} (hR : Rl n t env) {st : St} {X : SV} (h : d1T P call M ds o t st = some X) :
    d1E P call' M ds o env st = some X := by
  have hm : ∀ y ∈ o.op.operands, ev env y = ev (onlyAt (opTmps o.op.operands.toList) 0 env) y := fun y hy => (opTmps_only (by simpa using hy)).symm
  have hs : ∀ y ∈ o.op.operands, strip (ev env y) = ev (stripAt (opTmps o.op.operands.toList) 0 (onlyAt (opTmps o.op.operands.toList) 0 env)) y := fun y hy => (opTmps_strip (by simpa using hy)).symm
  unfold d1T at h
  unfold d1E
  simp only [hR.ev, gSlotT_eq hR] at h
  split at h
  · rename_i hg
    simp only [hg]
    cases hk : kindOf o.op with
    | pure => rw [hk] at h; exact h
    | pick a b c => rw [hk] at h; exact h
    | eff => rw [hk] at h; exact keptE_mono hc hm h
  · rename_i j want hg
    simp only [hg]
    split at h
    · rename_i hgd
      simp only [hgd]
      cases hk : kindOf o.op with
      | pure => rw [hk] at h; rw [gAllT_eq] at h; exact h
      | pick a b c => rw [hk] at h; exact h
      | eff =>
        rw [hk, gAllT_eq] at h
        simp only at h ⊢
        split at h
        · rename_i ha
          rw [if_pos ha]
          obtain ⟨v, h1, h2⟩ := map_some h
          rw [keptE_mono hc hs h1]
          exact congrArg some h2
        · cases h
    · rename_i hgd
      simp only [hgd]
      cases hk : kindOf o.op with
      | pure => rw [hk] at h; exact h
      | pick a b c => rw [hk] at h; exact h
      | eff => rw [hk] at h; exact h
    · cases h

noncomputable def drawLT (P : Program) (call : Callf) (M : List Nat) (ds : List (Option Tmp)) (n : Nat) (st : St) (l : List Oper) : ET → Option ET :=
  List.rec (motive := fun _ => ET → Option ET) (fun t => some t) (fun o _ ih t => match d1T P call M ds o t st with
    | some x => ih (putT n t o.dst x)
    | none => none) l

theorem drawLT_cons {call : Callf} {M : List Nat} {ds : List (Option Tmp)} {n : Nat} {o : Oper} {r : List Oper} {t : ET} {st : St} : drawLT P call M ds n st (o :: r) t = (match d1T P call M ds o t st with
    | some x => drawLT P call M ds n st r (putT n t o.dst x)
    | none => none) := rfl

theorem drawLT_spec {call call' : Callf} (hc : Knows call call') {M : List Nat} {ds : List (Option Tmp)} {n : Nat} {st : St} : ∀ (l : List Oper) (t : ET) (env : List SV) (t' : ET), Rl n t env → drawLT P call M ds n st l t = some t' →
    ∃ e, drawL P call' M ds l env st = some e ∧ Rl n t' e
  | [], t, env, t', hR, h => by cases h; exact ⟨env, rfl, hR⟩
  | o :: r, t, env, t', hR, h => by
    rw [drawLT_cons] at h
    simp only [drawL]
    split at h
    · rename_i x hx
      rw [d1T_spec hc hR hx]
      exact drawLT_spec hc r _ _ _ (hR.put o.dst x) h
    · cases h

structure TET where
  i : Nat
  o : Oper
  t : ET
  X : SV
  turned : Bool

noncomputable def traceTT (P : Program) (call : Callf) (M : List Nat) (ds : List (Option Tmp)) (n : Nat) (l : List Oper) : Nat → ET → St → Option (List TET × List St × ET × St × Nat) :=
  List.rec (motive := fun _ => Nat → ET → St → Option (List TET × List St × ET × St × Nat)) (fun _ t st => some ([], [], t, st, st.length))
    (fun o _ ih i t st => match d1T P call M ds o t st with
      | some x => match ih (i + 1) (putT n t o.dst x) st with
        | some (tr, ss, e, s, m) => some (⟨i, o, t, x, false⟩ :: tr, ss, e, s, m)
        | none => none
      | none => match o.guard with
        | some _ => none
        | none => match effE P call M o (evT t) st with
          | some (x, s, c) => match ih (i + 1) (putT n t o.dst x) s with
            | some (tr, ss, e, s', m) => some (⟨i, o, t, x, true⟩ :: tr, s :: ss, e, s', min c m)
            | none => none
          | none => none) l

theorem traceTT_cons {call : Callf} {M : List Nat} {ds : List (Option Tmp)} {n : Nat} {o : Oper} {r : List Oper} {i : Nat} {t : ET} {st : St} : traceTT P call M ds n (o :: r) i t st = (match d1T P call M ds o t st with
      | some x => match traceTT P call M ds n r (i + 1) (putT n t o.dst x) st with
        | some (tr, ss, e, s, m) => some (⟨i, o, t, x, false⟩ :: tr, ss, e, s, m)
        | none => none
      | none => match o.guard with
        | some _ => none
        | none => match effE P call M o (evT t) st with
          | some (x, s, c) => match traceTT P call M ds n r (i + 1) (putT n t o.dst x) s with
            | some (tr, ss, e, s', m) => some (⟨i, o, t, x, true⟩ :: tr, s :: ss, e, s', min c m)
            | none => none
          | none => none) := rfl

noncomputable def turnersT (l : List TET) : List Nat := List.rec [] (fun t _ ih => bif t.turned then t.i :: ih else ih) l

noncomputable def sameTT (P : Program) (call : Callf) (M : List Nat) (ds : List (Option Tmp)) (t : TET) (l : List St) : Bool :=
  allR (fun s => match d1T P call M ds t.o t.t s with | some x => eqB x t.X | none => false) l

noncomputable def goodTT (P : Program) (call : Callf) (M : List Nat) (ds : List (Option Tmp)) (ks el : List Nat) (s0 : St) (L : List St) (t : TET) : Bool :=
  match t.turned with
  | true => true
  | false => sameTT P call M ds t (if el.contains t.i then [s0] else L)

noncomputable def drawTT (P : Program) (call : Callf) (M : List Nat) (n : Nat) (ops : Array Oper) (t : ET) (st : St) : Option (ET × St × Nat) :=
  match traceTT P call M (mapR (·.dst) ops.toList) n ops.toList 0 t st with
  | some (tr, ss, e, s, m) =>
    if ordOk ops (turnersT tr) && (turnersT tr).all (fun i => Nat.blt i ops.size) &&
        allR (goodTT P call M (mapR (·.dst) ops.toList) (turnersT tr) ((List.range ops.size).filter (early ops (turnersT tr))) st (st :: ss)) tr then some (e, s, m) else none
  | none => none

/-- Two records of a run that stand for each other. -/
inductive Recs (n : Nat) : Nat → List TET → List TE → Prop where
  | nil (i : Nat) : Recs n i [] []
  | cons {i : Nat} {o : Oper} {t : ET} {env : List SV} {X : SV} {b : Bool} {tr : List TET} {tr' : List TE} : Rl n t env → Recs n (i + 1) tr tr' → Recs n i (⟨i, o, t, X, b⟩ :: tr) (⟨i, o, env, X, b⟩ :: tr')

theorem Recs.turners {n i : Nat} {tr : List TET} {tr' : List TE} (h : Recs n i tr tr') : turnersT tr = AL.turners tr' := by
  induction h with
  | nil => rfl
  | cons hR _ ih =>
    rename_i i o t env X b tr tr' _
    show (bif b then i :: turnersT tr else turnersT tr) = AL.turners (_ :: tr')
    rw [ih]
    cases b <;> rfl

theorem turners_ge {n i : Nat} {tr : List TET} {tr' : List TE} (h : Recs n i tr tr') : ∀ k ∈ AL.turners tr', i ≤ k := by
  induction h with
  | nil => intro k hk; cases hk
  | cons hR _ ih =>
    rename_i i o t env X b tr tr' _
    intro k hk
    cases b with
    | true =>
      simp only [AL.turners, if_true, List.mem_cons] at hk
      rcases hk with rfl | hk
      · exact Nat.le_refl _
      · have := ih k hk; omega
    | false =>
      simp only [AL.turners, Bool.false_eq_true, if_false] at hk
      have := ih k hk; omega

/-- Of a record's steps those that turn something are told as such. -/
theorem Recs.told {n i : Nat} {tr : List TET} {tr' : List TE} (h : Recs n i tr tr') : ∀ x ∈ tr', (AL.turners tr').contains x.i = x.turned := by
  induction h with
  | nil => intro x hx; cases hx
  | cons hR hr ih =>
    rename_i i o t env X b tr tr'
    intro x hx
    have hge := turners_ge hr
    have hne : ∀ y ∈ tr', i + 1 ≤ y.i := by
      clear ih hx hge
      generalize hk : i + 1 = k at hr ⊢
      have : ∀ {k : Nat} {tr : List TET} {tr' : List TE}, Recs n k tr tr' → ∀ y ∈ tr', k ≤ y.i := by
        intro k tr tr' h
        induction h with
        | nil => intro y hy; cases hy
        | cons _ _ ih =>
          intro y hy
          cases hy with
          | head => exact Nat.le_refl _
          | tail _ hy => have := ih y hy; omega
      exact this hr
    cases hx with
    | head =>
      cases b with
      | true => simp [AL.turners]
      | false =>
        simp only [AL.turners, Bool.false_eq_true, if_false]
        cases hc : (AL.turners tr').contains i with
        | false => rfl
        | true =>
          have := hge i (by simpa using hc)
          omega
    | tail _ hx =>
      have h1 := ih x hx
      have h2 := hne x hx
      cases b with
      | true =>
        simp only [AL.turners, if_true]
        rw [List.contains_cons, h1]
        have : (x.i == i) = false := by simp; omega
        rw [this]; rfl
      | false => simp only [AL.turners, Bool.false_eq_true, if_false]; exact h1

theorem d1T_none {call call' : Callf} (hc : Knows call call') {M : List Nat} {ds : List (Option Tmp)} {o : Oper} {n : Nat} {t : ET} {env : List SV} (hR : Rl n t env) {st : St} {r : SV × St × Nat} (hg : o.guard = none)
    (h : d1T P call M ds o t st = none) (he : effE P call M o (evT t) st = some r) : d1E P call' M ds o env st = none ∧ effE P call' M o (ev (onlyAt (opTmps o.op.operands.toList) 0 env)) st = some r := by
  have hm : ∀ y ∈ o.op.operands, ev env y = ev (onlyAt (opTmps o.op.operands.toList) 0 env) y := fun y hy => (opTmps_only (by simpa using hy)).symm
  rw [hR.ev] at he
  have he' := effE_mono hc he
  rw [effE_congr hm] at he'
  refine ⟨?_, he'⟩
  unfold d1T at h
  unfold d1E
  simp only [hg, hR.ev] at h ⊢
  cases hk : kindOf o.op with
  | pure => rw [hk] at h; exact h
  | pick a b c => rw [hk] at h; exact h
  | eff => rw [hk] at h; simp only at h ⊢; rw [he']; rw [he] at h; exact h

theorem traceTT_spec {call call' : Callf} (hc : Knows call call') {M : List Nat} {ds : List (Option Tmp)} {n : Nat} : ∀ (l : List Oper) (i : Nat) (t : ET) (env : List SV) (st : St) (tr : List TET) (ss : List St) (t' : ET) (s : St) (m : Nat),
    Rl n t env → traceTT P call M ds n l i t st = some (tr, ss, t', s, m) → ∃ tr' e, traceT P call' M ds i l env st = some (tr', ss, e, s, m) ∧ Recs n i tr tr' ∧ Rl n t' e
  | [], i, t, env, st, tr, ss, t', s, m, hR, h => by cases h; exact ⟨[], env, rfl, .nil i, hR⟩
  | o :: r, i, t, env, st, tr, ss, t', s, m, hR, h => by
    rw [traceTT_cons] at h
    simp only [traceT]
    split at h
    · rename_i x hx
      rw [d1T_spec hc hR hx]
      split at h
      · rename_i tr1 ss1 t1 s1 m1 hr
        obtain ⟨tr', e, h1, h2, h3⟩ := traceTT_spec hc r _ _ _ _ _ _ _ _ _ (hR.put o.dst x) hr
        cases h
        exact ⟨_, e, by simp only [h1], .cons hR h2, h3⟩
      · cases h
    · rename_i hnone
      split at h
      · cases h
      · rename_i hg
        split at h
        · rename_i x s1 c he
          obtain ⟨k1, k2⟩ := d1T_none hc hR hg hnone he
          rw [k1]
          simp only [hg, k2]
          split at h
          · rename_i tr1 ss1 t1 s2 m1 hr
            obtain ⟨tr', e, h1, h2, h3⟩ := traceTT_spec hc r _ _ _ _ _ _ _ _ _ (hR.put o.dst x) hr
            cases h
            exact ⟨_, e, by simp only [h1], .cons hR h2, h3⟩
          · cases h
        · cases h

theorem sameTT_spec {call call' : Callf} (hc : Knows call call') {M : List Nat} {ds : List (Option Tmp)} {i n : Nat} {o : Oper} {t : ET} {env : List SV} {X : SV} {b b' : Bool} (hR : Rl n t env) : ∀ (l : List St), sameTT P call M ds ⟨i, o, t, X, b⟩ l = true → sameT P call' M ds ⟨i, o, env, X, b'⟩ l = true
  | [], _ => rfl
  | s :: r, h => by
    have h' : ((match d1T P call M ds o t s with | some x => eqB x X | none => false) && sameTT P call M ds ⟨i, o, t, X, b⟩ r) = true := by
      rw [← bif_and]; exact h
    simp only [Bool.and_eq_true] at h'
    simp only [sameT, Bool.and_eq_true]
    refine ⟨?_, sameTT_spec hc hR r h'.2⟩
    have h1 := h'.1
    split at h1
    · rename_i x hx; rw [d1T_spec hc hR hx]; exact h1
    · cases h1

theorem goodTT_spec {call call' : Callf} (hc : Knows call call') {M : List Nat} {ds : List (Option Tmp)} {ks el : List Nat} {s0 : St} {L : List St} {n i : Nat} {tr : List TET} {tr' : List TE} (h : Recs n i tr tr') :
    allR (goodTT P call M ds ks el s0 L) tr = true → (∀ x ∈ tr', ks.contains x.i = x.turned) → tr'.all (goodT P call' M ds ks el s0 L) = true := by
  induction h with
  | nil => intro _ _; rfl
  | cons hR _ ih =>
    rename_i i o t env X b tr tr' _
    intro ha ht
    rw [allR_eq, List.all_cons, Bool.and_eq_true, ← allR_eq] at ha
    rw [List.all_cons, Bool.and_eq_true]
    refine ⟨?_, ih ha.2 fun x hx => ht x (List.mem_cons_of_mem _ hx)⟩
    have h1 := ht _ List.mem_cons_self
    have h2 := ha.1
    cases b with
    | true => simp only [goodT]; exact h1
    | false =>
      simp only [goodT, goodTT] at h1 h2 ⊢
      rw [h1]
      exact sameTT_spec hc hR _ h2

theorem drawTT_spec {call call' : Callf} (hc : Knows call call') {M : List Nat} {n : Nat} {ops : Array Oper} {t : ET} {env : List SV} {st : St} {t' : ET} {s : St} {m : Nat} (hR : Rl n t env)
    (h : drawTT P call M n ops t st = some (t', s, m)) : ∃ e, drawT P call' M ops env st = some (e, s, m) ∧ Rl n t' e := by
  unfold drawTT at h
  split at h
  · rename_i tr ss t1 s1 m1 htr
    split at h
    · rename_i hcond
      cases h
      simp only [Bool.and_eq_true] at hcond
      obtain ⟨⟨h1, h2⟩, h3⟩ := hcond
      rw [mapR_eq] at htr h3
      obtain ⟨tr', e, k1, k2, k3⟩ := traceTT_spec hc _ _ _ _ _ _ _ _ _ _ hR htr
      rw [k2.turners] at h1 h2 h3
      refine ⟨e, ?_, k3⟩
      unfold drawT
      rw [k1]
      simp only
      rw [if_pos]
      simp only [Bool.and_eq_true]
      exact ⟨⟨h1, h2⟩, goodTT_spec hc k2 h3 k2.told⟩
    · cases h
  · cases h

/-! Code, functions. -/

inductive CRT where
  | fail
  | go (e : Exit) (t : ET) (s : St) (c : Nat)

noncomputable def CRT.also (c : Nat) (r : CRT) : CRT := CRT.rec .fail (fun e t s c' => .go e t s (min c c')) r

noncomputable def stepT (P : Program) (call : Callf) (M : List Nat) (n : Nat) (rec : Code → ET → St → CRT) (c : Code) (t : ET) (st : St) : CRT :=
  match c with
  | .skip => .go .normal t st st.length
  | .region _ ops draw => match draw with
    | false => match opsT P call M (mapR (·.dst) ops.toList) n ops.toList t st with
      | some (e, s, c) => .go .normal e s c
      | none => .fail
    | true => if flowOk ops then
        match drawLT P call M (mapR (·.dst) ops.toList) n st ops.toList t with
        | some e => .go .normal e st st.length
        | none => match drawTT P call M n ops t st with
          | some (e, s, m) => .go .normal e s m
          | none => .fail
      else .fail
  | .seq a b => match rec a t st with
    | .go .normal e s c => (rec b e s).also c
    | r => r
  | .cond c x y => match evT t c with
    | .sc (.bool true) => rec x t st
    | .sc (.bool false) => rec y t st
    | _ => .fail
  | .block id c => match rec c t st with
    | .go (.exit id') e s c => if Nat.beq id' id then .go .normal e s c else .go (.exit id') e s c
    | r => r
  | .loop c => match rec c t st with
    | .go .normal e s cl => (rec (.loop c) e s).also cl
    | r => r
  | .exit id => .go (.exit id) t st st.length
  | .ret => .go .ret t st st.length
  | .label _ => .go .normal t st st.length
  | _ => .fail

/-- The results, out of a tree. -/
noncomputable def aResT1 (P : Program) (t : ET) (st : St) : ResultVar → Option SV
  | .tmp i => some (t.get i)
  | .cell a T => match t.get a with
    | .ptr id off => match st[id]? with
      | some (.cells l) => cellsOf P T (l.drop off)
      | _ => none
    | .ref l => cellsOf P T l
    | _ => none

noncomputable def aResT (P : Program) (t : ET) (st : St) (l : List ResultVar) : Option (List SV) :=
  List.rec (some []) (fun r _ ih => (aResT1 P t st r).bind fun x => ih.map (x :: ·)) l

theorem aResT_eq {n : Nat} {t : ET} {env : List SV} (hR : Rl n t env) {st : St} : ∀ l : List ResultVar, aResT P t st l = aResL P env st l
  | [] => rfl
  | r :: l => by
    show (aResT1 P t st r).bind _ = (aRes1 P env st r).bind _
    have e : aResT1 P t st r = aRes1 P env st r := by
      cases r with
      | tmp i => simp only [aResT1, aRes1, hR.get]
      | cell a T => simp only [aResT1, aRes1, hR.get]; rfl
    rw [e]
    congr 1
    funext x
    exact congrArg _ (aResT_eq hR l)

noncomputable def runFT (P : Program) (cfg : Cfg) (ev : List Nat → Nat → Code → ET → St → CRT) : Callf := fun f args st =>
  match cfg.sum f with
  | some m => (m args).map fun x => (x, st, st.length)
  | none => match P.funcs[f]? with
    | some fn => match fn.body with
      | some c => if Nat.ble (lenR args) fn.ntmps then
        match ev (cfg.M f) fn.ntmps c (entryT fn.ntmps args) st with
        | .go e t s c =>
          let fin : ER := match aResT P t s fn.results.toList with
            | some l => finT (cfg.keep f) st (oneOf l) s c
            | none => none
          match e with
          | .normal => fin
          | .ret => fin
          | _ => none
        | .fail => none
        else none
      | none => none
    | none => none

end Go.AL
