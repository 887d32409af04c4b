/- The abstract layer, part 16: a call that speaks of no objects leaves all objects as they are, whichever there are. -/
import Derived.Test.YtjkhpblfgcnpaaaAl15
set_option linter.unusedVariables false
namespace Go.AL
variable {P : Program}

/-- A block that an object has. -/
def Owned (st : St) (σ : Sig) (b : Nat) : Prop := ∃ i, i < st.length ∧ σ.μ i = some b

def Lock.fixed : Lock → Lock
  | .upto n => .fix n
  | x => x

open Classical in
/-- All that is somebody's is held as it is; nobody has anything. -/
noncomputable def Sig.held (st : St) (σ : Sig) : Sig := { lock := fun b => if Owned st σ b then (σ.lock b).fixed else σ.lock b, μ := fun _ => none }

theorem fixed_has {L : Lock} {o : Nat} : L.fixed.has o = L.has o := by cases L <;> rfl

theorem held_has {st : St} {σ : Sig} {b o : Nat} : ((σ.held st).lock b).has o = (σ.lock b).has o := by
  simp only [Sig.held]
  split
  · exact fixed_has
  · rfl

theorem Rep.held {st : St} {σ : Sig} {w : World} {x : SV} {v : Value} (h : Rep st σ w x v) : Ids 0 x → Rep [] (σ.held st) w x v := by
  induction h with
  | any v => exact fun _ => .any v
  | sc v => exact fun _ => .sc v
  | nil m z hm =>
    intro h
    refine .nil m z ?_
    cases m with
    | own id ver =>
      cases h with
      | slice _ _ _ h1 _ => exact absurd (h1 id ver rfl) (Nat.not_lt_zero _)
    | _ => trivial
  | slice m z l a cap vals hcap hsp hz hc hr hm ih =>
    intro h
    cases h with
    | slice _ _ _ h1 h2 =>
      refine .slice m z l a cap vals hcap hsp hz (fun i j hi hj => ⟨(hc i j hi hj).1, by rw [held_has]; exact (hc i j hi hj).2⟩) (fun i j hi hj => ih i j hi hj (h2 i j hi hj)) ?_
      cases m with
      | own id ver => exact absurd (h1 id ver rfl) (Nat.not_lt_zero _)
      | full => exact hm
      | imm => trivial
  | ref cells b o vals hc hr ih =>
    intro h
    cases h with
    | ref _ h => exact .ref cells b o vals (fun j hj => ⟨(hc j hj).1, by rw [held_has]; exact (hc j hj).2⟩) fun j hj => ih j hj (h j hj)
  | ptr id off b hk hb =>
    intro h
    cases h with
    | ptr _ _ h => exact absurd h (Nat.not_lt_zero _)
  | func fn first captured vf vc h1 h2 _ _ i1 i2 =>
    intro h
    cases h with
    | func _ _ _ g1 g2 => exact .func fn first captured vf vc h1 h2 (fun i hi => i1 i hi (g1 i hi)) fun i hi => i2 i hi (g2 i hi)
  | agg l vs h _ ih =>
    intro hh
    cases hh with
    | agg _ g => exact .agg l vs h fun i hi => ih i hi (g i hi)
  | tuple l vs h _ ih =>
    intro hh
    cases hh with
    | tuple _ g => exact .tuple l vs h fun i hi => ih i hi (g i hi)
  | gd g x v _ h' ih =>
    intro hh
    cases hh with
    | gd _ _ k => exact .gd g x v (fun e => ih e (k e)) h'
  | slc id z off len cap b hk hb hc =>
    intro h
    cases h with
    | slc _ _ _ _ _ h => exact absurd h (Nat.not_lt_zero _)

open Classical in
/-- Behind the call everybody has again what was his. -/
noncomputable def Sig.back (st : St) (σ σ' : Sig) : Sig := { lock := fun b => if Owned st σ b then σ.lock b else σ'.lock b, μ := σ.μ }

theorem Rep.back {st s : St} {σ σ' : Sig} {w : World} {x : SV} {v : Value} (hl : ∀ b o, Owned st σ b → (σ'.lock b).has o → (σ.lock b).has o) (h : Rep s σ' w x v) : Ids 0 x → Rep st (σ.back st σ') w x v := by
  have hh : ∀ b o, (σ'.lock b).has o → ((σ.back st σ').lock b).has o := by
    intro b o h
    simp only [Sig.back]
    split
    · rename_i ho; exact hl b o ho h
    · exact h
  induction h with
  | any v => exact fun _ => .any v
  | sc v => exact fun _ => .sc v
  | nil m z hm =>
    intro h
    refine .nil m z ?_
    cases m with
    | own id ver =>
      cases h with
      | slice _ _ _ h1 _ => exact absurd (h1 id ver rfl) (Nat.not_lt_zero _)
    | _ => trivial
  | slice m z l a cap vals hcap hsp hz hc hr hm ih =>
    intro h
    cases h with
    | slice _ _ _ h1 h2 =>
      refine .slice m z l a cap vals hcap hsp hz (fun i j hi hj => ⟨(hc i j hi hj).1, hh _ _ (hc i j hi hj).2⟩) (fun i j hi hj => ih i j hi hj (h2 i j hi hj)) ?_
      cases m with
      | own id ver => exact absurd (h1 id ver rfl) (Nat.not_lt_zero _)
      | full => exact hm
      | imm => trivial
  | ref cells b o vals hc hr ih =>
    intro h
    cases h with
    | ref _ h => exact .ref cells b o vals (fun j hj => ⟨(hc j hj).1, hh _ _ (hc j hj).2⟩) fun j hj => ih j hj (h j hj)
  | ptr id off b hk hb =>
    intro h
    cases h with
    | ptr _ _ h => exact absurd h (Nat.not_lt_zero _)
  | func fn first captured vf vc h1 h2 _ _ i1 i2 =>
    intro h
    cases h with
    | func _ _ _ g1 g2 => exact .func fn first captured vf vc h1 h2 (fun i hi => i1 i hi (g1 i hi)) fun i hi => i2 i hi (g2 i hi)
  | agg l vs h _ ih =>
    intro hh
    cases hh with
    | agg _ g => exact .agg l vs h fun i hi => ih i hi (g i hi)
  | tuple l vs h _ ih =>
    intro hh
    cases hh with
    | tuple _ g => exact .tuple l vs h fun i hi => ih i hi (g i hi)
  | gd g x v _ h' ih =>
    intro hh
    cases hh with
    | gd _ _ k => exact .gd g x v (fun e => ih e (k e)) h'
  | slc id z off len cap b hk hb hc =>
    intro h
    cases h with
    | slc _ _ _ _ _ h => exact absurd h (Nat.not_lt_zero _)

/-- What a call comes to where there are no objects, it comes to whatever objects there are, if it and its arguments speak of none. -/
theorem acalls_frame {f : FuncId} {args : List SV} {K K' : SV → St → Prop} {st : St} (h : ACalls P f args K []) (ha : ∀ a ∈ args, Ids 0 a) (hk : ∀ x s, K x s → Ids 0 x ∧ K' x st) : ACalls P f args K' st := by
  intro σ w vs hI hR
  have hup : ∀ b, Owned st σ b → ∃ n, σ.lock b = .upto n := by
    rintro b ⟨i, hi, hb⟩
    have : ∃ x, st[i]? = some x := ⟨st[i], by simp [hi]⟩
    obtain ⟨x, hx⟩ := this
    cases x with
    | cells l =>
      obtain ⟨c, cs, T, h1, _, _, _, h5⟩ := hI.cells i l hx
      rw [hb] at h1; cases h1
      exact ⟨0, h5⟩
    | tok v =>
      have := (hI.tok i v b hx hb).2
      cases hl : σ.lock b with
      | upto n => exact ⟨n, rfl⟩
      | all => rw [hl] at this; cases this
      | fix n => rw [hl] at this; cases this
  have hlt : ∀ b, Owned st σ b → b < w.heap.size := fun b ⟨i, hi, hb⟩ => hI.mu_lt hi hb
  have hI0 : Inv [] (σ.held st) w := by
    refine ⟨fun id l h => by simp at h, fun id v b h => by simp at h, fun i j b hi => absurd hi (Nat.not_lt_zero _), fun b hb => ?_⟩
    have hno : ¬ Owned st σ b := fun ho => absurd (hlt b ho) (by omega)
    simp only [Sig.held, if_neg hno]
    exact hI.fresh b hb
  have hR0 : RepArgs [] (σ.held st) w args vs := ⟨hR.1, fun i hi => (hR.2 i hi).held (getD_ids ha i)⟩
  refine (h (σ.held st) w vs hI0 hR0).mono ?_
  rintro e w' ⟨v, x, s, σ', rfl, hK, hI', hr, hX⟩
  obtain ⟨hx, hK'⟩ := hk x s hK
  have hown : ∀ b, Owned st σ b → σ'.lock b = (σ.lock b).fixed ∧ w'.heap[b]? = w.heap[b]? := by
    intro b ho
    obtain ⟨n, hn⟩ := hup b ho
    have e : (σ.held st).lock b = .fix n := by simp only [Sig.held, if_pos ho, hn]; rfl
    have := hX.all b (hlt b ho) (by rw [e]; rfl)
    rw [e] at this
    exact ⟨by rw [this.1, hn]; rfl, this.2⟩
  have hX2 : Ext st σ w st (σ.back st σ') w' := by
    refine ⟨hX.os, hX.tape, hX.output, hX.size, fun b o v hl hc => ?_, fun b hb hl => ?_, fun id l hl => ⟨⟨l, hl⟩, rfl⟩, fun id v hv => ⟨v, hv, Nat.le_refl _, fun _ => ⟨rfl, fun b hb => ?_⟩⟩⟩
    · by_cases ho : Owned st σ b
      · obtain ⟨h1, h2⟩ := hown b ho
        refine ⟨by simp only [Sig.back, if_pos ho]; exact hl, ?_⟩
        unfold World.cell? at *
        simp only [h2]; exact hc
      · have := hX.lock b o v (by rw [held_has]; exact hl) hc
        exact ⟨by simp only [Sig.back, if_neg ho]; exact this.1, this.2⟩
    · have ho : ¬ Owned st σ b := fun ho => by
        obtain ⟨n, hn⟩ := hup b ho
        rw [hn] at hl; cases hl
      have e : (σ.held st).lock b = σ.lock b := by simp only [Sig.held, if_neg ho]
      have := hX.all b hb (by rw [e]; exact hl)
      exact ⟨by simp only [Sig.back, if_neg ho]; rw [this.1, e], this.2⟩
    · have ho : Owned st σ b := ⟨id, lt_of_get hv, hb⟩
      exact ⟨by simp only [Sig.back, if_pos ho], (hown b ho).2⟩
  have hI2 : Inv st (σ.back st σ') w' := by
    refine ⟨fun id l hl => ?_, fun id v b hv hb => ?_, fun i j b hi hj h1 h2 => hI.inj i j b hi hj h1 h2, fun b hb => ?_⟩
    · obtain ⟨b, cs, T, h1, h2, h3, h4, h5⟩ := hI.cells id l hl
      have ho : Owned st σ b := ⟨id, lt_of_get hl, h1⟩
      exact ⟨b, cs, T, h1, by rw [(hown b ho).2]; exact h2, h3, fun j hj => (h4 j hj).ext hX2, by simp only [Sig.back, if_pos ho]; exact h5⟩
    · have ho : Owned st σ b := ⟨id, lt_of_get hv, hb⟩
      obtain ⟨h1, h2⟩ := hI.tok id v b hv hb
      exact ⟨Nat.lt_of_lt_of_le h1 hX.size, by simp only [Sig.back, if_pos ho]; exact h2⟩
    · have ho : ¬ Owned st σ b := fun ho => absurd (hlt b ho) (by have := hX.size; omega)
      simp only [Sig.back, if_neg ho]
      exact hI'.fresh b hb
  refine ⟨v, x, st, σ.back st σ', rfl, hK', hI2, hr.back (fun b o ho hh => ?_) hx, hX2⟩
  rw [(hown b ho).1, fixed_has] at hh
  exact hh

/-- The same of a closed run. -/
theorem acalls_run0 {cfg : Cfg} (hcfg : cfg.ok P) (hmix : P.follows .mixedOrders = true) (n : Nat) {f : FuncId} {args : List SV} {x : SV} {K : SV → St → Prop} {st : St}
    (h : runC P cfg n f args [] = some (x, [], 0)) (ha : idsBL 0 args = true) (hx : idsB 0 x = true) (hk : K x st) : ACalls P f args K st :=
  acalls_frame (acalls_run hcfg hmix n h (K := fun x' _ => x' = x) rfl) (idsBL_spec 0 args ha) fun x' s' e => by rw [e]; exact ⟨idsB_spec 0 x hx, hk⟩

theorem cfg_none {M : FuncId → List Nat} {keep : FuncId → Bool} : Cfg.ok P { M := M, keep := keep } := fun f m h => by cases h

end Go.AL
