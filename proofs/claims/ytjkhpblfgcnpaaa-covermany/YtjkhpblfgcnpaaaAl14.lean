/- The abstract layer, part 14: closed runs: code, functions; a call that answers a plain value over whatever objects there are. -/
import Derived.Test.YtjkhpblfgcnpaaaAl13b
set_option linter.unusedVariables false
set_option linter.unusedSimpArgs false
namespace Go.AL
variable {P : Program}

structure Cfg where
  /-- Of each function the slots whose new variables are objects. -/
  M : FuncId → List Nat := fun _ => []
  /-- Whose results may be appended to. -/
  keep : FuncId → Bool := fun _ => false
  /-- What is known of a function: its result changes nothing that there is. -/
  sum : FuncId → Option (List SV → Option SV) := fun _ => none

inductive CR where
  | fail
  | go (e : Exit) (env : List SV) (s : St) (c : Nat)

def CR.also (c : Nat) : CR → CR
  | .go e env s c' => .go e env s (min c c')
  | .fail => .fail

noncomputable def stepC (P : Program) (call : Callf) (M : List Nat) (rec : Code → List SV → St → CR) (c : Code) (env : List SV) (st : St) : CR :=
  match c with
  | .skip => .go .normal env st st.length
  | .region _ ops draw => match draw with
    | false => match opsE P call M (ops.toList.map (·.dst)) ops.toList env st with
      | some (e, s, c) => .go .normal e s c
      | none => .fail
    | true => if flowOk ops then
        match drawL P call M (ops.toList.map (·.dst)) ops.toList env st with
        | some e => .go .normal e st st.length
        | none => match drawT P call M ops env st with
          | some (e, s, n) => .go .normal e s n
          | none => .fail
      else .fail
  | .seq a b => match rec a env st with
    | .go .normal e s c => (rec b e s).also c
    | r => r
  | .cond c x y => match ev env c with
    | .sc (.bool true) => rec x env st
    | .sc (.bool false) => rec y env st
    | _ => .fail
  | .block id c => match rec c env st with
    | .go (.exit id') e s c => if Nat.beq id' id then .go .normal e s c else .go (.exit id') e s c
    | r => r
  | .loop c => match rec c env st with
    | .go .normal e s cl => (rec (.loop c) e s).also cl
    | r => r
  | .exit id => .go (.exit id) env st st.length
  | .ret => .go .ret env st st.length
  | .label _ => .go .normal env st st.length
  | _ => .fail

def notAgg : SV → Bool
  | .agg _ => false
  | _ => true

def frzE (st : St) (s : St) : SV → Option SV
  | .slc id z off len cap => if Nat.ble st.length id then
      match objE s id with
      | some l => if Nat.ble (off + len * z) l.length && idsBL st.length ((l.drop off).take (len * z)) then
          if Nat.beq z 1 then (if l.all notAgg then some (.slice (if Nat.beq cap len then .full else .imm) z (chunks false z off len l)) else none)
          else some (.slice (if Nat.beq cap len then .full else .imm) z (chunks true z off len l))
        else none
      | none => none
    else none
  | _ => none

/-- Do the objects from a place on speak of those below another alone? -/
def tailB (n : Nat) : Nat → List Ob → Bool
  | _, [] => true
  | 0, .cells l :: r => idsBL n l && tailB n 0 r
  | 0, .tok _ :: r => tailB n 0 r
  | k + 1, _ :: r => tailB n k r

theorem tailB_spec {n : Nat} : ∀ (k : Nat) (st : List Ob), tailB n k st = true → ∀ (id : Nat) (l : List SV), k ≤ id → st[id]? = some (.cells l) → ∀ y ∈ l, Ids n y
  | _, [], _, id, l, _, h => by simp at h
  | 0, .cells l' :: r, hb, id, l, _, h => by
    simp only [tailB, Bool.and_eq_true] at hb
    cases id with
    | zero => simp at h; subst h; exact idsBL_spec _ _ hb.1
    | succ id => exact tailB_spec 0 r hb.2 id l (Nat.zero_le _) (by simpa using h)
  | 0, .tok v :: r, hb, id, l, _, h => by
    simp only [tailB] at hb
    cases id with
    | zero => simp at h
    | succ id => exact tailB_spec 0 r hb id l (Nat.zero_le _) (by simpa using h)
  | k + 1, o :: r, hb, id, l, hk, h => by
    have hb' : tailB n k r = true := by cases o <;> simpa only [tailB] using hb
    cases id with
    | zero => omega
    | succ id => exact tailB_spec k r hb' id l (by omega) (by simpa using h)

def normK (kp : Bool) (x : SV) : SV := match kp with | true => x | false => norm x

def finE (keep : Bool) (st : St) (x : SV) (s : St) (c : Nat) : ER :=
  if Nat.beq s.length st.length then some (x, s, c)
  else if Nat.ble st.length c then
    match keep with
    | true => if idsB st.length x then some (x, st, st.length) else some (x, s, c)
    | false => if idsB st.length (norm x) then some (norm x, st, st.length) else
      match frzE st s x with
      | some y => some (y, st, st.length)
      | none => some (x, s, c)
  else if idsB st.length (normK keep x) && tailB st.length c (s.take st.length) then some (normK keep x, s.take st.length, c)
  else some (x, s, c)

noncomputable def runF (P : Program) (cfg : Cfg) (ev : List Nat → Code → List SV → St → CR) : Callf := fun f args st =>
  match cfg.sum f with
  | some m => (m args).map fun x => (x, st, st.length)
  | none => match P.funcs[f]? with
    | some fn => match fn.body with
      | some c => match ev (cfg.M f) c (args ++ List.replicate (fn.ntmps - args.length) .any) st with
        | .go e env s c => match e with
          | .normal => match aResL P env s fn.results.toList with
            | some l => finE (cfg.keep f) st (oneOf l) s c
            | none => none
          | .ret => match aResL P env s fn.results.toList with
            | some l => finE (cfg.keep f) st (oneOf l) s c
            | none => none
          | _ => none
        | .fail => none
      | none => none
    | none => none

noncomputable def evC (P : Program) (cfg : Cfg) : Nat → List Nat → Code → List SV → St → CR
  | 0 => fun _ _ _ _ => .fail
  | n + 1 => fun M c env st => stepC P (runF P cfg (evC P cfg n)) M (evC P cfg n M) c env st

def Cfg.ok (P : Program) (cfg : Cfg) : Prop := ∀ f m, cfg.sum f = some m → ∀ args x, m args = some x → ∀ st, ACalls P f args (fun x' s' => x' = x ∧ s' = st) st

/-- What a piece of code comes to is so. -/
def SoundC (P : Program) (ev : List Nat → Code → List SV → St → CR) : Prop :=
  ∀ M c env st e env' s cl, ev M c env st = .go e env' s cl → AWp P c (fun e1 env1 s1 => e1 = e ∧ env1 = env' ∧ s1 = s) env st ∧ Keeps st s cl

theorem acalls_pure0 {f : FuncId} {args : List SV} {K : SV → St → Prop} {st : St}
    (h : ACalls P f args (fun x s => ∃ ex, s = st ++ ex ∧ Ids st.length x ∧ K x st) st) : ACalls P f args K st := by
  intro σ w vs hI hR
  refine (h σ w vs hI hR).mono ?_
  rintro e w' ⟨v, x, st', σ', rfl, ⟨ex, rfl, hids, hk⟩, hI', hr, hX⟩
  exact ⟨v, x, st, σ', rfl, hk, hI'.drop (fun id l hl j hj => (by
    obtain ⟨b, cs, T, _, _, _, h4, _⟩ := hI.cells id l hl
    exact (h4 j hj).ids)), hr.drop hids, hX.drop (Nat.le_refl _)⟩

theorem notAgg_cells {y : SV} (h : notAgg y = true) : y.cells = [y] := by cases y <;> first | rfl | cases h

/-- What a call made is forgotten, where some of what was there has turned. -/
theorem acalls_tail {f : FuncId} {args : List SV} {K : SV → St → Prop} {st : St} (kp : Bool)
    (h : ACalls P f args (fun x s => ∃ n, Keeps st s n ∧ Ids st.length (normK kp x) ∧ tailB st.length n (s.take st.length) = true ∧ K (normK kp x) (s.take st.length)) st) : ACalls P f args K st := by
  intro σ w vs hI hR
  refine (h σ w vs hI hR).mono ?_
  rintro e w' ⟨v, x, s, σ', rfl, ⟨n, hk, hids, ht, hK⟩, hI', hr, hX⟩
  have hlen : (s.take st.length).length = st.length := by rw [List.length_take]; have := hk.1; omega
  have hs : s = s.take st.length ++ s.drop st.length := (List.take_append_drop _ _).symm
  have hc : ∀ (id : Nat) (l : List SV), (s.take st.length)[id]? = some (.cells l) → ∀ j, j < l.length → Ids (s.take st.length).length (l.getD j .any) := by
    intro id l hl j hj
    rw [hlen]
    by_cases hn : n ≤ id
    · exact getD_ids (tailB_spec _ _ ht id l hn hl) j
    · have hlt : id < st.length := by have := lt_of_get hl; omega
      rw [List.getElem?_take, if_pos hlt, hk.2 id (by omega) hlt] at hl
      obtain ⟨b, cs, T, _, _, _, h4, _⟩ := hI.cells id l hl
      exact (h4 j hj).ids
  rw [hs] at hI' hr hX
  refine ⟨v, _, s.take st.length, σ', rfl, hK, hI'.drop hc, ?_, hX.drop (by omega)⟩
  cases kp with
  | true => exact hr.drop (by rw [hlen]; exact hids)
  | false => exact hr.norm.drop (by rw [hlen]; exact hids)

theorem fin_spec {keep : Bool} {f : FuncId} {args : List SV} {st s s1 : St} {x x1 : SV} {c c1 : Nat} (h : ACalls P f args (fun x' s' => x' = x ∧ s' = s) st) (hc : Keeps st s c)
    (hf : finE keep st x s c = some (x1, s1, c1)) : ACalls P f args (fun x' s' => x' = x1 ∧ s' = s1) st ∧ Keeps st s1 c1 := by
  unfold finE at hf
  split at hf
  · cases hf; exact ⟨h, hc⟩
  split at hf
  · rename_i hle
    obtain ⟨ex, hex⟩ := hc.all (by simpa using hle)
    cases keep with
    | true =>
      simp only at hf
      split at hf
      · rename_i hi
        cases hf
        exact ⟨acalls_pure0 (h.mono fun x' s' ⟨e1, e2⟩ => ⟨ex, by rw [e2, hex], by rw [e1]; exact idsB_spec _ _ hi, e1, rfl⟩), Keeps.same _ _⟩
      · cases hf; exact ⟨h, hc⟩
    | false =>
      simp only at hf
      split at hf
      · rename_i hi
        cases hf
        exact ⟨acalls_pure (h.mono fun x' s' ⟨e1, e2⟩ => ⟨ex, by rw [e2, hex], by rw [e1]; exact idsB_spec _ _ hi, by rw [e1], rfl⟩), Keeps.same _ _⟩
      · split at hf
        · rename_i y hy
          cases hf
          refine ⟨?_, Keeps.same _ _⟩
          unfold frzE at hy
          split at hy
          · rename_i id z off len cap _
            split at hy
            · rename_i h1
              split at hy
              · rename_i l hl
                obtain ⟨o1, o2⟩ := objE_spec hl
                have ho := obj_of o1
                rw [o2] at ho
                split at hy
                · rename_i h2
                  simp only [Bool.and_eq_true, Nat.ble_eq] at h1 h2
                  have hm : (if Nat.beq cap len then Mode.full else Mode.imm) = .imm ∨ (if Nat.beq cap len then Mode.full else Mode.imm) = .full := by split <;> simp
                  have hmc : (if Nat.beq cap len then Mode.full else Mode.imm) = .full → cap = len := by
                    split
                    · rename_i e; exact fun _ => Nat.eq_of_beq_eq_true e
                    · intro e; cases e
                  split at hy
                  · rename_i hz
                    have hz := Nat.eq_of_beq_eq_true hz
                    split at hy
                    · rename_i ha
                      cases hy
                      refine acalls_freezeM false _ hm (h.mono fun x' s' ⟨e1, e2⟩ => ⟨ex, id, z, off, len, cap, l, e1, by rw [e2, hex], h1, by rw [e2]; exact ho, h2.1, fun _ => hz, fun _ y hy => ?_, idsBL_spec _ _ h2.2, hmc, rfl, rfl⟩)
                      rw [List.all_eq_true] at ha
                      exact notAgg_cells (ha y hy)
                    · cases hy
                  · cases hy
                    exact acalls_freezeM true _ hm (h.mono fun x' s' ⟨e1, e2⟩ => ⟨ex, id, z, off, len, cap, l, e1, by rw [e2, hex], h1, by rw [e2]; exact ho, h2.1, (fun h => by cases h), (fun h => by cases h), idsBL_spec _ _ h2.2, hmc, rfl, rfl⟩)
                · cases hy
              · cases hy
            · cases hy
          · cases hy
        · cases hf; exact ⟨h, hc⟩
  · split at hf
    · rename_i hi
      simp only [Bool.and_eq_true] at hi
      cases hf
      refine ⟨acalls_tail keep (h.mono fun x' s' ⟨e1, e2⟩ => ⟨c, by rw [e2]; exact hc, by rw [e1]; exact idsB_spec _ _ hi.1, by rw [e2]; exact hi.2, by rw [e1], by rw [e2]⟩), ?_, fun i h1 h2 => ?_⟩
      · rw [List.length_take]; have := hc.1; omega
      · rw [List.getElem?_take, if_pos h2]; exact hc.2 i h1 h2
    · cases hf; exact ⟨h, hc⟩

theorem run_spec {cfg : Cfg} (hcfg : cfg.ok P) {ev : List Nat → Code → List SV → St → CR} (hev : SoundC P ev) : SoundCall P (runF P cfg ev) := by
  intro f args st x s c h
  unfold runF at h
  split at h
  · rename_i m hm
    obtain ⟨y, h1, h2⟩ := map_some h
    cases h2
    exact ⟨hcfg f m hm args _ h1 _, Keeps.same _ _⟩
  · split at h
    · rename_i fn hfn
      split at h
      · rename_i cd hb
        split at h
        · rename_i e env s' c' hcd
          obtain ⟨k1, k2⟩ := hev _ _ _ _ _ _ _ _ hcd
          have fin : ∀ l, (e = .normal ∨ e = .ret) → aResL P env s' fn.results.toList = some l → finE (cfg.keep f) st (oneOf l) s' c' = some (x, s, c) →
              ACalls P f args (fun x' s'_1 => x' = x ∧ s'_1 = s) st ∧ Keeps st s c := by
            intro l he hl hf
            refine fin_spec (acalls_of hfn hb (k1.mono fun e1 env1 s1 ⟨q1, q2, q3⟩ => ?_)) k2 hf
            subst q1; subst q2; subst q3
            exact ⟨by rcases he with rfl | rfl <;> trivial, l, hl, rfl, rfl⟩
          split at h
          · split at h
            · rename_i l hl; exact fin l (.inl rfl) hl h
            · cases h
          · split at h
            · rename_i l hl; exact fin l (.inr rfl) hl h
            · cases h
          · cases h
        · cases h
      · cases h
    · cases h

theorem also_go {c : Nat} {r : CR} {e : Exit} {env : List SV} {s : St} {cl : Nat} (h : r.also c = .go e env s cl) : ∃ c', r = .go e env s c' ∧ cl = min c c' := by
  cases r with
  | fail => cases h
  | go e' env' s' c' => simp only [CR.also] at h; cases h; exact ⟨c', rfl, rfl⟩

theorem evC_spec {cfg : Cfg} (hcfg : cfg.ok P) (hmix : P.follows .mixedOrders = true) (n : Nat) : SoundC P (evC P cfg n) := by
  induction n using Nat.strongRecOn with
  | _ n ih =>
    cases n with
    | zero => intro M c env st e env' s cl h; cases h
    | succ n =>
      have ihn := ih n (Nat.lt_succ_self n)
      have hcall := run_spec hcfg ihn
      intro M c env st e env' s cl h
      simp only [evC] at h
      cases c with
      | skip => simp only [stepC] at h; cases h; exact ⟨awp_skip ⟨rfl, rfl, rfl⟩, Keeps.same _ _⟩
      | region id ops draw =>
        simp only [stepC] at h
        cases draw with
        | false =>
          simp only at h
          split at h
          · rename_i e1 s1 c1 ho
            cases h
            obtain ⟨k1, k2⟩ := opsE_spec hcall (K := fun e s => Exit.normal = Exit.normal ∧ e = env' ∧ s = _) 0 ops.toList env st _ _ _ rfl ho ⟨rfl, rfl, rfl⟩
            refine ⟨awp_region ?_, k2⟩
            rw [List.range_eq_range']
            simpa using k1
          · cases h
        | true =>
          simp only at h
          split at h
          · rename_i hf
            split at h
            · rename_i e1 ho
              cases h
              exact ⟨awp_draw M hmix hf (drawL_spec hcall _ _ _ ho ⟨rfl, rfl, rfl⟩), Keeps.same _ _⟩
            · split at h
              · rename_i e1 s1 n1 ho
                cases h
                exact drawT_spec hcall hmix hf ho ⟨rfl, rfl, rfl⟩
              · cases h
          · cases h
      | seq a b =>
        simp only [stepC] at h
        split at h
        · rename_i e1 s1 c1 ha
          obtain ⟨c2, hb, hcl⟩ := also_go h
          obtain ⟨k1, k2⟩ := ihn _ _ _ _ _ _ _ _ ha
          obtain ⟨k3, k4⟩ := ihn _ _ _ _ _ _ _ _ hb
          refine ⟨awp_seq (k1.mono fun e env s ⟨q1, q2, q3⟩ => ?_), by rw [hcl]; exact k2.trans k4⟩
          subst q1; subst q2; subst q3
          exact k3
        · rename_i hne
          obtain ⟨k1, k2⟩ := ihn _ _ _ _ _ _ _ _ h
          refine ⟨awp_seq (k1.mono fun e1 env1 s1 ⟨q1, q2, q3⟩ => ?_), k2⟩
          subst q1; subst q2; subst q3
          cases e1 with
          | normal => exact absurd h (hne _ _ _)
          | _ => exact ⟨rfl, rfl, rfl⟩
      | cond cc x y =>
        simp only [stepC] at h
        split at h
        · rename_i hc
          obtain ⟨k1, k2⟩ := ihn _ _ _ _ _ _ _ _ h
          exact ⟨awp_cond hc (fun _ => k1) (fun h => by cases h), k2⟩
        · rename_i hc
          obtain ⟨k1, k2⟩ := ihn _ _ _ _ _ _ _ _ h
          exact ⟨awp_cond hc (fun h => by cases h) (fun _ => k1), k2⟩
        · cases h
      | block id c =>
        simp only [stepC] at h
        split at h
        · rename_i id' e1 s1 c1 hc
          obtain ⟨k1, k2⟩ := ihn _ _ _ _ _ _ _ _ hc
          split at h
          · rename_i hid
            have hid := Nat.eq_of_beq_eq_true hid
            cases h
            refine ⟨awp_block (k1.mono fun e env s ⟨q1, q2, q3⟩ => ?_), k2⟩
            subst q1; subst q2; subst q3
            simp only [blockQ, hid, if_true]
            exact ⟨trivial, trivial, trivial⟩
          · rename_i hid
            cases h
            refine ⟨awp_block (k1.mono fun e env s ⟨q1, q2, q3⟩ => ?_), k2⟩
            subst q1; subst q2; subst q3
            have : ¬ id' = id := fun e => hid (by rw [e]; exact Nat.beq_refl id)
            simp only [blockQ, this, if_false]
            exact ⟨trivial, trivial, trivial⟩
        · rename_i hne
          obtain ⟨k1, k2⟩ := ihn _ _ _ _ _ _ _ _ h
          refine ⟨awp_block (k1.mono fun e1 env1 s1 ⟨q1, q2, q3⟩ => ?_), k2⟩
          subst q1; subst q2; subst q3
          cases e1 with
          | exit id' => exact absurd h (hne _ _ _ _)
          | _ => exact ⟨rfl, rfl, rfl⟩
      | loop c =>
        simp only [stepC] at h
        -- whatever is left of the loop
        have key : ∀ m env st, m ≤ n + 1 → (∃ c0, evC P cfg m M (.loop c) env st = .go e env' s c0) →
            AWp P c (thenQ (fun e1 s1 => ∃ k, k < m ∧ (k ≤ n + 1 ∧ ∃ c0, evC P cfg k M (.loop c) e1 s1 = .go e env' s c0)) (fun e1 env1 s1 => e1 = e ∧ env1 = env' ∧ s1 = s)) env st := by
          intro m env st hm ⟨c0, hm0⟩
          cases m with
          | zero => cases hm0
          | succ m =>
            have ihm := ih m (by omega)
            simp only [evC, stepC] at hm0
            split at hm0
            · rename_i e1 s1 c1 hc
              obtain ⟨c2, hb, hcl⟩ := also_go hm0
              obtain ⟨k1, k2⟩ := ihm _ _ _ _ _ _ _ _ hc
              refine k1.mono fun e2 env2 s2 ⟨q1, q2, q3⟩ => ?_
              subst q1; subst q2; subst q3
              exact ⟨m, Nat.lt_succ_self m, by omega, c2, hb⟩
            · rename_i hne
              obtain ⟨k1, k2⟩ := ihm _ _ _ _ _ _ _ _ hm0
              refine k1.mono fun e1 env1 s1 ⟨q1, q2, q3⟩ => ?_
              subst q1; subst q2; subst q3
              cases e1 with
              | normal => exact absurd hm0 (hne _ _ _)
              | _ => exact ⟨rfl, rfl, rfl⟩
        have hfull : evC P cfg (n + 1) M (.loop c) env st = .go e env' s cl := by simp only [evC, stepC]; exact h
        refine ⟨awp_loop (fun m e1 s1 => m ≤ n + 1 ∧ ∃ c0, evC P cfg m M (.loop c) e1 s1 = .go e env' s c0) ⟨Nat.le_refl _, cl, hfull⟩ fun m e1 s1 ⟨h1, h2⟩ => ?_, ?_⟩
        · exact key m e1 s1 h1 h2
        · split at h
          · rename_i e1 s1 c1 hc
            obtain ⟨c2, hb, hcl⟩ := also_go h
            obtain ⟨k1, k2⟩ := ihn _ _ _ _ _ _ _ _ hc
            obtain ⟨k3, k4⟩ := ihn _ _ _ _ _ _ _ _ hb
            rw [hcl]; exact k2.trans k4
          · exact (ihn _ _ _ _ _ _ _ _ h).2
      | exit id => simp only [stepC] at h; cases h; exact ⟨awp_exit ⟨rfl, rfl, rfl⟩, Keeps.same _ _⟩
      | ret => simp only [stepC] at h; cases h; exact ⟨awp_ret ⟨rfl, rfl, rfl⟩, Keeps.same _ _⟩
      | label l => simp only [stepC] at h; cases h; exact ⟨awp_label ⟨rfl, rfl, rfl⟩, Keeps.same _ _⟩
      | _ => simp only [stepC] at h; cases h

/-- A closed call. -/
noncomputable def runC (P : Program) (cfg : Cfg) (n : Nat) (f : FuncId) (args : List SV) (st : St) : ER := runF P cfg (evC P cfg n) f args st

theorem acalls_run {cfg : Cfg} (hcfg : cfg.ok P) (hmix : P.follows .mixedOrders = true) (n : Nat) {f : FuncId} {args : List SV} {st s : St} {x : SV} {c : Nat} {K : SV → St → Prop}
    (h : runC P cfg n f args st = some (x, s, c)) (hk : K x s) : ACalls P f args K st :=
  ((run_spec hcfg (evC_spec hcfg hmix n)) f args st x s c h).1.mono fun x' s' ⟨e1, e2⟩ => by rw [e1, e2]; exact hk

end Go.AL
