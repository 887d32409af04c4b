/- The abstract layer, part 2: statements on code over abstract frames; the rules for code, regions, functions. -/
import Derived.Test.YtjkhpblfgcnpaaaAl1
set_option linter.unusedVariables false
namespace Go.AL

variable {P : Program}

def svOf : Value → SV
  | .slice none 0 0 => .slice .full 0 []
  | .bool b => .sc (.bool b)
  | .int k n => .sc (.int k n)
  | .string s => .sc (.string s)
  | .pointer none => .sc (.pointer none)
  | .nilFunc => .sc .nilFunc
  | v => .sc v

theorem rep_svOf {st : St} {σ : Sig} {w : World} (v : Value) : Rep st σ w (svOf v) v := by
  unfold svOf
  split <;> first | exact .nil .full 0 trivial | exact .sc _

def ev (env : List SV) : Operand → SV
  | .tmp t => env.getD t .any
  | .const v => svOf v
  | .global _ => .any
  | .func f => .func (.func f) [] []

theorem rep_ev {st : St} {σ : Sig} {w : World} {env : List SV} {a : Act} (h : RepEnv st σ w env a.tmps) (x : Operand) : Rep st σ w (ev env x) (a.eval x) := by
  cases x with
  | tmp t => exact h.get t
  | const v => exact rep_svOf v
  | global g => exact .any _
  | func f => exact .func _ [] [] #[] #[] rfl rfl (fun i hi => absurd hi (Nat.not_lt_zero _)) (fun i hi => absurd hi (Nat.not_lt_zero _))

def putE (env : List SV) (d : Option Tmp) (x : SV) : List SV :=
  match d with
  | some d => env.set d x
  | none => env

def Post (K : List SV → St → Prop) (st : St) (σ : Sig) (w : World) (a' : Act) (w' : World) : Prop :=
  a'.defers = [] ∧ ∃ env' st' σ', K env' st' ∧ Inv st' σ' w' ∧ RepEnv st' σ' w' env' a'.tmps ∧ Ext st σ w st' σ' w'

theorem Post.mono {K K' : List SV → St → Prop} {st : St} {σ : Sig} {w : World} {a : Act} {w' : World} (h : Post K st σ w a w') (hk : ∀ e s, K e s → K' e s) :
    Post K' st σ w a w' := by
  obtain ⟨hd, e, s, g, k, r⟩ := h
  exact ⟨hd, e, s, g, hk _ _ k, r⟩

theorem Post.ext {K : List SV → St → Prop} {s0 st : St} {σ0 σ : Sig} {w0 w : World} {a : Act} {w' : World} (h : Post K st σ w a w') (k : Ext s0 σ0 w0 st σ w) :
    Post K s0 σ0 w0 a w' := by
  obtain ⟨hd, e, s, g, hk, hI, hR, hX⟩ := h
  exact ⟨hd, e, s, g, hk, hI, hR, k.trans hX⟩

/-- Code over an abstract frame. -/
def AWp (P : Program) (c : Code) (Q : Exit → List SV → St → Prop) (env : List SV) (st : St) : Prop :=
  ∀ σ w a, Inv st σ w → RepEnv st σ w env a.tmps → a.defers = [] → c.wp P (fun e a' w' => Post (Q e) st σ w a' w') a w

theorem AWp.mono {c : Code} {Q Q' : Exit → List SV → St → Prop} {env : List SV} {st : St} (h : AWp P c Q env st) (hq : ∀ e env st, Q e env st → Q' e env st) :
    AWp P c Q' env st := fun σ w a hI hR hd => wp_mono (h σ w a hI hR hd) fun e _ _ hp => hp.mono (hq e)

theorem awp_skip {Q : Exit → List SV → St → Prop} {env : List SV} {st : St} (h : Q .normal env st) : AWp P .skip Q env st :=
  fun σ w a hI hR hd => wp_skip ⟨hd, env, st, σ, h, hI, hR, Ext.refl _ _ _⟩

theorem awp_label {l : Nat} {Q : Exit → List SV → St → Prop} {env : List SV} {st : St} (h : Q .normal env st) : AWp P (.label l) Q env st :=
  fun σ w a hI hR hd => wp_label ⟨hd, env, st, σ, h, hI, hR, Ext.refl _ _ _⟩

theorem awp_exit {id : Nat} {Q : Exit → List SV → St → Prop} {env : List SV} {st : St} (h : Q (.exit id) env st) : AWp P (.exit id) Q env st :=
  fun σ w a hI hR hd => wp_exit ⟨hd, env, st, σ, h, hI, hR, Ext.refl _ _ _⟩

theorem awp_ret {Q : Exit → List SV → St → Prop} {env : List SV} {st : St} (h : Q .ret env st) : AWp P .ret Q env st :=
  fun σ w a hI hR hd => wp_ret ⟨hd, env, st, σ, h, hI, hR, Ext.refl _ _ _⟩

def thenQ (next : List SV → St → Prop) (Q : Exit → List SV → St → Prop) : Exit → List SV → St → Prop
  | .normal => next
  | e => Q e

theorem awp_seq {x y : Code} {Q : Exit → List SV → St → Prop} {env : List SV} {st : St} (h : AWp P x (thenQ (AWp P y Q) Q) env st) : AWp P (.seq x y) Q env st := by
  intro σ w a hI hR hd
  refine wp_seq (wp_mono (h σ w a hI hR hd) fun e a' w' hp => ?_)
  cases e with
  | normal =>
    obtain ⟨hd', e', s', σ', hk, hI', hR', hX⟩ := hp
    exact wp_mono (hk σ' w' a' hI' hR' hd') fun e a w hp => hp.ext hX
  | _ => exact hp

theorem awp_cond {c : Operand} {x y : Code} {Q : Exit → List SV → St → Prop} {env : List SV} {st : St} {t : Bool} (hc : ev env c = .sc (.bool t))
    (ht : t = true → AWp P x Q env st) (hf : t = false → AWp P y Q env st) : AWp P (.cond c x y) Q env st := by
  intro σ w a hI hR hd
  have hr := rep_ev hR c
  rw [hc] at hr
  generalize hv : a.eval c = v at hr
  cases hr
  exact wp_cond_split hv (fun e => ht e σ w a hI hR hd) (fun e => hf e σ w a hI hR hd)

def blockQ (id : Nat) (Q : Exit → List SV → St → Prop) : Exit → List SV → St → Prop
  | .exit id' => fun e s => if id' = id then Q .normal e s else Q (.exit id') e s
  | e => Q e

theorem awp_block {id : Nat} {c : Code} {Q : Exit → List SV → St → Prop} {env : List SV} {st : St} (h : AWp P c (blockQ id Q) env st) : AWp P (.block id c) Q env st := by
  intro σ w a hI hR hd
  refine wp_block (wp_mono (h σ w a hI hR hd) fun e a' w' hp => ?_)
  cases e with
  | exit id' =>
    simp only [Exit.inBlock]
    split
    · rename_i e; simpa only [blockQ, e, if_true] using hp
    · rename_i e; simpa only [blockQ, e, if_false] using hp
  | _ => exact hp

/-- A loop, by what holds at each round's head and a measure. -/
theorem awp_loop {c : Code} {Q : Exit → List SV → St → Prop} (I : Nat → List SV → St → Prop) {env : List SV} {st : St} {n : Nat} (h0 : I n env st)
    (round : ∀ n env st, I n env st → AWp P c (thenQ (fun e s => ∃ m, m < n ∧ I m e s) Q) env st) : AWp P (.loop c) Q env st := by
  intro σ w a hI hR hd
  -- the invariant of the loop, on frames and worlds
  let J : Nat → Act → World → Prop := fun m a' w' => a'.defers = [] ∧ ∃ env' st' σ', I m env' st' ∧ Inv st' σ' w' ∧ RepEnv st' σ' w' env' a'.tmps ∧ Ext st σ w st' σ' w'
  have key : ∀ m, ∀ a' w', J m a' w' → ∀ (b : Frame) (k : List Item) (cs : List Frame),
      ∃ e a2 w2, Post (Q e) st σ w a2 w2 ∧ Arrives P (lone (b.at a' (.code c :: .inLoop c :: k)) cs w') b k cs e a2 w2 := by
    intro m
    induction m using Nat.strongRecOn with
    | _ m ih =>
      intro a' w' hJ b k cs
      obtain ⟨hd', env', st', σ', hi, hI', hR', hX⟩ := hJ
      obtain ⟨e, a1, w1, hq, harr⟩ := round m env' st' hi σ' w' a' hI' hR' hd' b (.inLoop c :: k) cs
      cases e with
      | normal =>
        obtain ⟨hd1, e1, s1, g1, ⟨m1, hlt, hi1⟩, hI1, hR1, hX1⟩ := hq
        obtain ⟨e2, a2, w2, hq2, harr2⟩ := ih m1 hlt a1 w1 ⟨hd1, e1, s1, g1, hi1, hI1, hR1, hX.trans hX1⟩ b k cs
        exact ⟨e2, a2, w2, hq2, .of_steps (Steps.trans harr (.one step_inLoop)) harr2⟩
      | exit id => exact ⟨_, a1, w1, hq.ext hX, .pass (x := .inLoop c) rfl (fun _ _ => .inl (by simp)) harr⟩
      | goto l => exact ⟨_, a1, w1, hq.ext hX, .pass (x := .inLoop c) rfl (fun _ _ => .inl (by simp)) harr⟩
      | ret => exact ⟨_, a1, w1, hq.ext hX, .pass (x := .inLoop c) rfl (fun _ _ => .inl (by simp)) harr⟩
      | panic ch => exact ⟨_, a1, w1, hq.ext hX, .pass (x := .inLoop c) rfl (fun _ _ => .inl (by simp)) harr⟩
      | outgrown => exact ⟨_, a1, w1, hq.ext hX, .pass (x := .inLoop c) rfl (fun _ _ => .inl (by simp)) harr⟩
  intro b k cs
  obtain ⟨e, a', w', hq, harr⟩ := key n a w ⟨hd, env, st, σ, h0, hI, hR, Ext.refl _ _ _⟩ b k cs
  exact ⟨e, a', w', hq, .of_steps (.one step_loop) harr⟩

/-! Operations and regions. -/

def OpPost (o : Oper) (K : SV → St → Prop) (st : St) (σ : Sig) (w : World) (a : Act) : Act → World → Prop := fun a' w' =>
  ∃ v x st' σ', a' = a.put o.dst v ∧ K x st' ∧ Inv st' σ' w' ∧ Rep st' σ' w' x v ∧ Ext st σ w st' σ' w'

def AOp (P : Program) (o : Oper) (K : SV → St → Prop) (env : List SV) (st : St) : Prop :=
  ∀ σ w a, Inv st σ w → RepEnv st σ w env a.tmps → o.wp P a w (OpPost o K st σ w a) (fun _ _ _ => False)

theorem upon_mono {o : Oper} {a : Act} {K K' : Act → World → Prop} {Q Q' : Exit → Act → World → Prop} (h : ∀ a w, K a w → K' a w) (hq : ∀ e a w, Q e a w → Q' e a w)
    {r : Result Next} (hh : o.upon P a K Q r) : o.upon P a K' Q' r := by
  cases r with
  | ok n w' =>
    cases n <;> simp only [Oper.upon] at hh ⊢ <;>
      first
        | exact h _ _ hh
        | exact Calls.mono hh (fun e w'' he => by
            cases e with
            | returned v => exact h _ _ he
            | panicked c => exact hq _ _ _ he
            | outgrown => obtain ⟨a, w, he⟩ := he; exact ⟨a, w, hq _ _ _ he⟩)
        | exact Rows.mono hh (fun _ _ he => h _ _ he)
  | halt x w' => cases x <;> simp only [Oper.upon] at hh ⊢ <;> first | exact hq _ _ _ hh | exact hh

theorem AOp.mono {o : Oper} {K K' : SV → St → Prop} {env : List SV} {st : St} (h : AOp P o K env st) (hk : ∀ x s, K x s → K' x s) : AOp P o K' env st :=
  fun σ w a hI hR => upon_mono (fun _ _ ⟨v, x, s, g, e, k, r⟩ => ⟨v, x, s, g, e, hk _ _ k, r⟩) (fun _ _ _ h => h) (h σ w a hI hR)

def AOps (P : Program) (ops : Array Oper) (l : List Nat) (K : List SV → St → Prop) (env : List SV) (st : St) : Prop :=
  ∀ σ w a, Inv st σ w → RepEnv st σ w env a.tmps → a.defers = [] → wpOps P ops (fun e a' w' => e = .normal ∧ Post K st σ w a' w') l a w

theorem aops_nil {ops : Array Oper} {K : List SV → St → Prop} {env : List SV} {st : St} (h : K env st) : AOps P ops [] K env st :=
  fun σ w a hI hR hd => ⟨rfl, hd, env, st, σ, h, hI, hR, Ext.refl _ _ _⟩

theorem wpOps_mono {ops : Array Oper} {Q Q' : Exit → Act → World → Prop} (h : ∀ e a w, Q e a w → Q' e a w) : ∀ (l : List Nat) (a : Act) (w : World),
    wpOps P ops Q l a w → wpOps P ops Q' l a w
  | [], a, w, hh => h _ _ _ hh
  | i :: r, a, w, hh => by
    simp only [wpOps] at hh ⊢
    cases ho : ops[i]? with
    | none => simp only [ho] at hh ⊢; exact wpOps_mono h r _ _ hh
    | some o =>
      simp only [ho] at hh ⊢
      split
      · rename_i hw
        rw [if_pos hw] at hh
        rcases hh with hh | ⟨h1, a', w', h2⟩
        · exact .inl (upon_mono (fun a w => wpOps_mono h r a w) h hh)
        · exact .inr ⟨h1, a', w', h _ _ _ h2⟩
      · rename_i hw
        rw [if_neg hw] at hh
        exact wpOps_mono h r _ _ hh

theorem rep_put {st : St} {σ : Sig} {w : World} {env : List SV} {a : Act} (h : RepEnv st σ w env a.tmps) (d : Option Tmp) {x : SV} {v : Value} (hx : Rep st σ w x v) :
    RepEnv st σ w (putE env d x) (a.put d v).tmps := by
  cases d with
  | none => exact h
  | some d => exact h.set d hx

theorem put_defers (a : Act) (d : Option Tmp) (v : Value) : (a.put d v).defers = a.defers := by cases d <;> rfl

theorem aops_cons {ops : Array Oper} {i : Nat} {r : List Nat} {K : List SV → St → Prop} {env : List SV} {st : St} {o : Oper} (ho : ops[i]? = some o) (hg : o.guard = none)
    (h : AOp P o (fun x s => AOps P ops r K (putE env o.dst x) s) env st) : AOps P ops (i :: r) K env st := by
  intro σ w a hI hR hd
  simp only [wpOps, ho, Region.wanted, hg, if_true]
  refine .inl (upon_mono ?_ (fun _ _ _ h => h.elim) (h σ w a hI hR))
  rintro a' w' ⟨v, x, s, g, rfl, k, hI', hr, hX⟩
  refine wpOps_mono (fun e a w hp => ⟨hp.1, hp.2.ext hX⟩) r _ _ (k g w' _ hI' (rep_put (hR.ext hX) _ hr) ?_)
  rw [put_defers]; exact hd

def aYield (ops : Array Oper) (env : List SV) (j : Nat) : Option Bool :=
  match (ops[j]?).bind (·.dst) with
  | some d => match env.getD d .any with
    | .sc (.bool b) => some b
    | _ => none
  | none => none

theorem yielded_of {ops : Array Oper} {env : List SV} {j : Nat} {b : Bool} {st : St} {σ : Sig} {w : World} {t : Array Value} (h : aYield ops env j = some b)
    (hR : RepEnv st σ w env t) : yielded ops t j = some b := by
  unfold aYield at h
  cases hd : (ops[j]?).bind (·.dst) with
  | none => simp [hd] at h
  | some d =>
    simp only [hd] at h
    have hr := hR.get d
    split at h
    · rename_i b' hb'
      injection h with h
      subst h
      rw [hb'] at hr
      generalize hv : t.getD d undef = v at hr
      cases hr
      have hlt : d < t.size := by
        rcases Nat.lt_or_ge d t.size with g | g
        · exact g
        · simp [Array.getD, Nat.not_lt.2 g, undef] at hv
      have : t[d]? = some (.bool b') := by simp [Array.getD, hlt] at hv; simp [hlt, hv]
      simp [yielded, hd, this]
    · cases h

theorem aops_guard {ops : Array Oper} {i : Nat} {r : List Nat} {K : List SV → St → Prop} {env : List SV} {st : St} {o : Oper} {j : Nat} {want b : Bool} (ho : ops[i]? = some o)
    (hg : o.guard = some (j, want)) (hy : aYield ops env j = some b)
    (h1 : b = want → AOp P o (fun x s => AOps P ops r K (putE env o.dst x) s) env st) (h2 : b ≠ want → AOps P ops r K (putE env o.dst .any) st) : AOps P ops (i :: r) K env st := by
  intro σ w a hI hR hd
  have hyy := yielded_of hy hR
  simp only [wpOps, ho, Region.wanted, hg, hyy]
  by_cases e : b = want
  · subst e
    simp only [beq_self_eq_true, if_true]
    refine .inl (upon_mono ?_ (fun _ _ _ h => h.elim) (h1 rfl σ w a hI hR))
    rintro a' w' ⟨v, x, s, g, rfl, k, hI', hr, hX⟩
    refine wpOps_mono (fun e a w hp => ⟨hp.1, hp.2.ext hX⟩) r _ _ (k g w' _ hI' (rep_put (hR.ext hX) _ hr) ?_)
    rw [put_defers]; exact hd
  · have : (some b == some want) = false := by simp [e]
    simp only [this, Bool.false_eq_true, if_false]
    exact h2 e σ w _ hI (rep_put hR _ (.any _)) (by rw [put_defers]; exact hd)

theorem awp_region {id : Nat} {ops : Array Oper} {Q : Exit → List SV → St → Prop} {env : List SV} {st : St} (h : AOps P ops (List.range ops.size) (Q .normal) env st) :
    AWp P (.region id ops false) Q env st := fun σ w a hI hR hd => wp_region (wpOps_mono (fun e a w hp => by obtain ⟨rfl, hp⟩ := hp; exact hp) _ _ _ (h σ w a hI hR hd))

/-- A region that draws: every order. -/
theorem awp_region_all {id : Nat} {ops : Array Oper} {Q : Exit → List SV → St → Prop} {env : List SV} {st : St}
    (h : ∀ t, AOps P ops (Region.schedule (P.follows .mixedOrders) ops t) (Q .normal) env st) : AWp P (.region id ops true) Q env st :=
  fun σ w a hI hR hd => wp_region_draw fun t => wpOps_mono (fun e a w' hp => by
      obtain ⟨rfl, hp⟩ := hp; exact hp.ext (Ext.drew (w := w) (w.drawn + 1))) _ _ _ (h t σ { w with drawn := w.drawn + 1 } a (hI.drew _) (hR.ext (Ext.drew _)) hd)

/-! Calls. -/

def RepArgs (st : St) (σ : Sig) (w : World) (args : List SV) (vs : Array Value) : Prop :=
  vs.size = args.length ∧ ∀ i, i < args.length → Rep st σ w (args.getD i .any) (vs.getD i undef)

def ACalls (P : Program) (f : FuncId) (args : List SV) (K : SV → St → Prop) (st : St) : Prop :=
  ∀ σ w vs, Inv st σ w → RepArgs st σ w args vs → Calls P f vs w fun e w' =>
    ∃ v x st' σ', e = .returned v ∧ K x st' ∧ Inv st' σ' w' ∧ Rep st' σ' w' x v ∧ Ext st σ w st' σ' w'

theorem ACalls.mono {f : FuncId} {args : List SV} {K K' : SV → St → Prop} {st : St} (h : ACalls P f args K st) (hk : ∀ x s, K x s → K' x s) : ACalls P f args K' st :=
  fun σ w vs hI hR => (h σ w vs hI hR).mono fun _ _ ⟨v, x, s, g, e, k, r⟩ => ⟨v, x, s, g, e, hk _ _ k, r⟩

theorem acalls_norm {f : FuncId} {args : List SV} {K : SV → St → Prop} {st : St} (h : ACalls P f (args.map norm) K st) : ACalls P f args K st := by
  intro σ w vs hI hR
  refine h σ w vs hI ⟨by simpa using hR.1, fun i hi => ?_⟩
  have hi' : i < args.length := by simpa using hi
  have := (hR.2 i hi').norm
  simp only [List.getD_eq_getElem?_getD, List.getElem?_map] at this ⊢
  rw [List.getElem?_eq_getElem hi'] at this ⊢
  exact this

/-- What of a frame is the result. -/
def aRes (rs : Array ResultVar) (env : List SV) (st : St) : Option SV :=
  let one : ResultVar → Option SV := fun
    | .tmp t => some (env.getD t .any)
    | .cell _ _ => none
  match rs.toList.mapM one with
  | some [x] => some x
  | some l => some (.tuple l)
  | none => none

end Go.AL
