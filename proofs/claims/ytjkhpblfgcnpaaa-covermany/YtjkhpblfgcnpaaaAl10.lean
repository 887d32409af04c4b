/- The abstract layer, part 10: the words of a walk: functions, loops, weakening; the rules by which formulas are reckoned. -/
import Derived.Test.YtjkhpblfgcnpaaaAl9e
set_option linter.unusedVariables false
namespace Go.AL
variable {P : Program}

/-! Weakening of frames. -/

def LeSV (x y : SV) : Prop := y = .any ∨ x = y ∨ norm x = y

def LeEnv : List SV → List SV → Prop
  | [], [] => True
  | x :: r, y :: r' => LeSV x y ∧ LeEnv r r'
  | _, _ => False

theorem rep_le {st : St} {σ : Sig} {w : World} {x y : SV} {v : Value} (h : LeSV x y) (r : Rep st σ w x v) : Rep st σ w y v := by
  rcases h with rfl | rfl | rfl
  · exact .any _
  · exact r
  · exact r.norm

theorem leEnv_spec : ∀ (a b : List SV), LeEnv a b → a.length = b.length ∧ ∀ i, i < b.length → LeSV (a.getD i .any) (b.getD i .any)
  | [], [], _ => ⟨rfl, fun i hi => absurd hi (Nat.not_lt_zero _)⟩
  | x :: r, y :: r', h => by
    obtain ⟨h1, h2⟩ := leEnv_spec r r' h.2
    refine ⟨by simp [h1], fun i hi => ?_⟩
    cases i with
    | zero => exact h.1
    | succ i => exact h2 i (by simpa using hi)

theorem repEnv_le {st : St} {σ : Sig} {w : World} {a b : List SV} {t : Array Value} (h : LeEnv a b) (r : RepEnv st σ w a t) : RepEnv st σ w b t := by
  obtain ⟨h1, h2⟩ := leEnv_spec a b h
  exact ⟨by rw [← h1]; exact r.1, fun i hi => rep_le (h2 i hi) (r.2 i (by omega))⟩

theorem leSV_any (x : SV) : LeSV x .any := .inl rfl
theorem leSV_refl (x : SV) : LeSV x x := .inr (.inl rfl)
theorem leEnv_nil : LeEnv [] [] := trivial
theorem leEnv_any (x : SV) {r r' : List SV} (h : LeEnv r r') : LeEnv (x :: r) (.any :: r') := ⟨.inl rfl, h⟩
theorem leEnv_same (x : SV) {r r' : List SV} (h : LeEnv r r') : LeEnv (x :: r) (x :: r') := ⟨.inr (.inl rfl), h⟩
theorem leEnv_norm (x : SV) {r r' : List SV} (h : LeEnv r r') : LeEnv (x :: r) (norm x :: r') := ⟨.inr (.inr rfl), h⟩

theorem awp_weaken {c : Code} {Q : Exit → List SV → St → Prop} {a b : List SV} {st : St} (hl : LeEnv a b) (h : AWp P c Q b st) : AWp P c Q a st :=
  fun σ w t hI hR hd => h σ w t hI (repEnv_le hl hR) hd

/-! Functions. -/

def RetR (P : Program) (rs : List ResultVar) (K : SV → St → Prop) : Exit → List SV → St → Prop
  | .normal => fun env st => (aResL P env st rs).isSome = true ∧ K (oneOf ((aResL P env st rs).getD [])) st
  | .ret => fun env st => (aResL P env st rs).isSome = true ∧ K (oneOf ((aResL P env st rs).getD [])) st
  | _ => fun _ _ => False

/-- What code asks, up to its loops and its regions that draw (where the order is drawn the region's own formula is asked). -/
def bOf : SV → Bool
  | .sc (.bool b) => b
  | _ => false
def isB : SV → Prop
  | .sc (.bool b) => True
  | _ => False

theorem isB_spec {x : SV} (h : isB x) : x = .sc (.bool (bOf x)) := by
  unfold isB at h
  split at h
  · rfl
  · exact h.elim

def cSpec (P : Program) (M : List Nat) : Code → (Exit → List SV → St → Prop) → List SV → St → Prop
  | .skip, Q, env, st => Q .normal env st
  | .region _ ops false, Q, env, st => opsSpec P M (ops.toList.map (·.dst)) ops.toList env st (Q .normal)
  | .seq a b, Q, env, st => cSpec P M a (thenQ (cSpec P M b Q) Q) env st
  | .cond c x y, Q, env, st => isB (ev env c) ∧ (bOf (ev env c) = true → cSpec P M x Q env st) ∧ (bOf (ev env c) = false → cSpec P M y Q env st)
  | .block id c, Q, env, st => cSpec P M c (blockQ id Q) env st
  | .exit id, Q, env, st => Q (.exit id) env st
  | .ret, Q, env, st => Q .ret env st
  | .label _, Q, env, st => Q .normal env st
  | c, Q, env, st => AWp P c Q env st

theorem awp_c {M : List Nat} : ∀ {c : Code} {Q : Exit → List SV → St → Prop} {env : List SV} {st : St}, cSpec P M c Q env st → AWp P c Q env st := by
  intro c
  induction c with
  | skip => exact fun h => awp_skip h
  | region id ops draw =>
    intro Q env st h
    cases draw with
    | false => exact awp_region_spec M h
    | true => exact h
  | seq a b iha ihb =>
    intro Q env st h
    refine awp_seq ((iha h).mono fun e env st he => ?_)
    cases e <;> first | exact ihb he | exact he
  | cond c x y ihx ihy =>
    intro Q env st h
    obtain ⟨h1, h2, h3⟩ := h
    exact awp_cond (isB_spec h1) (fun e => ihx (h2 e)) (fun e => ihy (h3 e))
  | block id c ih => exact fun h => awp_block (ih h)
  | exit id => exact fun h => awp_exit h
  | ret => exact fun h => awp_ret h
  | label l => exact fun h => awp_label h
  | _ => exact fun h => h

theorem acalls_go {M : List Nat} {f : FuncId} {fn : Func} {c : Code} {rs : Array ResultVar} {n : Nat} {args : List SV} {K : SV → St → Prop} {st : St} (hf : P.funcs[f]? = some fn) (hb : fn.body = some c)
    (hr : fn.results = rs) (hn : fn.ntmps = n) (h : cSpec P M c (RetR P rs.toList K) (args ++ List.replicate (n - args.length) .any) st) : ACalls P f args K st := by
  subst hr; subst hn
  refine acalls_of hf hb ((awp_c h).mono fun e env st hq => ?_)
  cases e <;> simp only [RetR] at hq <;> first | exact hq.elim | exact ⟨trivial, _, getD_of (d := []) hq.1, hq.2⟩

/-- What a call that changes nothing must show in the end: what it made is forgotten. -/
def FinK (st : St) (K : SV → St → Prop) : SV → St → Prop := fun x s => (∃ ex, s = st ++ ex) ∧ Ids st.length (norm x) ∧ K (norm x) st

/-- A call that changes nothing and forgets what it made. -/
theorem acalls_go_pure (M : List Nat) {f : FuncId} {fn : Func} {c : Code} {rs : Array ResultVar} {n : Nat} {args : List SV} {K : SV → St → Prop} {st : St} (hf : P.funcs[f]? = some fn) (hb : fn.body = some c)
    (hr : fn.results = rs) (hn : fn.ntmps = n) (h : cSpec P M c (RetR P rs.toList (FinK st K)) (args ++ List.replicate (n - args.length) .any) st) :
    ACalls P f args K st :=
  acalls_pure ((acalls_go hf hb hr hn h).mono fun x s ⟨⟨ex, e⟩, h1, h2⟩ => ⟨ex, e, h1, h2⟩)

/-! Loops. -/

theorem awp_rounds {c : Code} {Q : Exit → List SV → St → Prop} (M : List Nat) (I : Nat → List SV → St → Prop) {env env0 : List SV} {st : St} {n : Nat} (hl : LeEnv env env0) (h0 : I n env0 st)
    (round : ∀ n env st, I n env st → cSpec P M c (thenQ (fun e s => ∃ m e', m < n ∧ LeEnv e e' ∧ I m e' s) Q) env st) : AWp P (.loop c) Q env st := by
  refine awp_weaken hl (awp_loop (fun m e s => ∃ e', LeEnv e e' ∧ I m e' s) ⟨env0, ?_, h0⟩ ?_)
  · have key : ∀ l : List SV, LeEnv l l := by
      intro l
      induction l with
      | nil => trivial
      | cons x r ih => exact ⟨.inr (.inl rfl), ih⟩
    exact key env0
  · rintro m e s ⟨e', hle, hi⟩
    refine awp_weaken hle ((awp_c (round m e' s hi)).mono fun x env st hq => ?_)
    cases x <;> first | exact hq | (obtain ⟨m', e2, h1, h2, h3⟩ := hq; exact ⟨m', h1, e2, h2, h3⟩)

/-- An empty slice without spare room may be appended to. -/
theorem awp_own {c : Code} {Q : Exit → List SV → St → Prop} {env : List SV} {st : St} (d z z' : Nat) (he : env.getD d .any = .slice .full z' [])
    (h : AWp P c Q (env.set d (.slice (.own st.length 0) z [])) (st ++ [.tok 0])) : AWp P c Q env st := by
  intro σ w t hI hR hd
  have hX : Ext st σ w (st ++ [.tok 0]) (σ.setMu st.length none) w := Ext.newTok none
  have hI' := hI.newTok none (fun c hc => by cases hc)
  have hr := hR.get d
  rw [he] at hr
  have hr2 : Rep (st ++ [.tok 0]) (σ.setMu st.length none) w (.slice (.own st.length 0) z []) (t.tmps.getD d undef) := by
    have h3 := (rep_nil_z (z' := z) hr (.inl rfl)).ext hX
    generalize t.tmps.getD d undef = v at h3
    generalize hl : ([] : List SV) = l at h3
    generalize hx : SV.slice .full z l = x at h3
    cases h3 with
    | nil m z hm => cases hx; exact .nil _ _ ⟨0, by simp, Nat.le_refl _⟩
    | slice m z l a cap vals hcap hsp hzz hc hr hm =>
      cases hx
      subst hl
      exact .slice _ _ _ _ _ vals hcap hsp hzz hc hr ⟨0, by simp, Nat.le_refl _, fun _ => .inl hm⟩
    | _ => cases hx
  have hR' : RepEnv (st ++ [.tok 0]) (σ.setMu st.length none) w (env.set d (.slice (.own st.length 0) z [])) t.tmps := by
    have h4 := hR.ext hX
    refine ⟨by simpa using h4.1, fun i hi => ?_⟩
    simp only [List.length_set] at hi
    by_cases e : d = i
    · subst e; simpa [List.getD_eq_getElem?_getD, hi] using hr2
    · have := h4.2 i hi
      simpa [List.getD_eq_getElem?_getD, List.getElem?_set_ne e] using this
  exact wp_mono (h _ _ t hI' hR' hd) fun e a w hp => hp.ext hX

/-! Congruence: what stands behind a call, a loop, is not looked at ahead of its time. -/

theorem ACalls_congr {f : FuncId} {args args' : List SV} {K : SV → St → Prop} {st : St} (h : args = args') : ACalls P f args K st = ACalls P f args' K st := by rw [h]
theorem AWp_congr {c : Code} {Q : Exit → List SV → St → Prop} {env env' : List SV} {st st' : St} (h : env = env') (h' : st = st') : AWp P c Q env st = AWp P c Q env' st' := by rw [h, h']
attribute [congr] ACalls_congr AWp_congr

theorem bif_true (a b : Bool) : (bif a then true else b) = (a || b) := by cases a <;> rfl
theorem bif_false (a b : Bool) : (bif a then b else false) = (a && b) := by cases a <;> rfl


section eqs
variable {M : List Nat} {K : SV → St → Prop} {env env' : List SV} {st st' : St} {ds ds' : List (Option Tmp)} {l l' : List Oper} {N : List SV → St → Prop} {o : Oper} {kd kd' : Kd} {g g' : Bool}
theorem opsSpec_congr (h1 : ds = ds') (h2 : l = l') (h3 : env = env') (h4 : st = st') : opsSpec P M ds l env st N = opsSpec P M ds' l' env' st' N := by rw [h1, h2, h3, h4]
theorem kdSpec_congr (h3 : env = env') (h4 : st = st') (h5 : kd = kd') : kdSpec P M o env st N kd = kdSpec P M o env' st' N kd' := by rw [h3, h4, h5]
theorem gdSpec_congr (h3 : env = env') (h4 : st = st') (h6 : g = g') (h5 : kd = kd') : gdSpec P M o env st g N kd = gdSpec P M o env' st' g' N kd' := by rw [h3, h4, h5, h6]
theorem effSpec_congr (h3 : env = env') (h4 : st = st') : effSpec P M o env st K = effSpec P M o env' st' K := by rw [h3, h4]
theorem drawSpec_congr {N : List SV → Prop} (h1 : ds = ds') (h2 : l = l') (h3 : env = env') (h4 : st = st') : drawSpec P M ds l env st N = drawSpec P M ds' l' env' st' N := by rw [h1, h2, h3, h4]
theorem d1Spec_congr {N : SV → Prop} (h1 : ds = ds') (h3 : env = env') (h4 : st = st') : d1Spec P M ds o env st N = d1Spec P M ds' o env' st' N := by rw [h1, h3, h4]
theorem dkSpec_congr {N : SV → Prop} (h3 : env = env') (h4 : st = st') (h5 : kd = kd') : dkSpec P M o env st N kd = dkSpec P M o env' st' N kd' := by rw [h3, h4, h5]
theorem dgSpec_congr {N : SV → Prop} (h3 : env = env') (h4 : st = st') (h6 : g = g') (h5 : kd = kd') : dgSpec P M o env st g N kd = dgSpec P M o env' st' g' N kd' := by rw [h3, h4, h5, h6]
theorem storeSpec_congr {t : TypeId} {y y' x x' : SV} {N : St → Prop} (h : st = st') (h1 : y = y') (h2 : x = x') : storeSpec P t st y x N = storeSpec P t st' y' x' N := by rw [h, h1, h2]
theorem appSpec_congr {t tx : TypeId} {y y' x x' : SV} (h : st = st') (h1 : x = x') (h2 : y = y') : appSpec P t tx st x y K = appSpec P t tx st' x' y' K := by rw [h, h1, h2]
theorem appObSpec_congr {t tx : TypeId} {y y' x x' : SV} (h : st = st') (h1 : x = x') (h2 : y = y') : appObSpec P t tx st x y K = appObSpec P t tx st' x' y' K := by rw [h, h1, h2]
theorem copySpec_congr {t : TypeId} {y y' x x' : SV} (h : st = st') (h1 : x = x') (h2 : y = y') : copySpec P t st x y K = copySpec P t st' x' y' K := by rw [h, h1, h2]
theorem makeSpec_congr {t : TypeId} {y y' x x' : SV} (h : st = st') (h1 : x = x') (h2 : y = y') : makeSpec P t st x y K = makeSpec P t st' x' y' K := by rw [h, h1, h2]
theorem clearSpec_congr {t : TypeId} {x x' : SV} (h : st = st') (h1 : x = x') : clearSpec P t st x K = clearSpec P t st' x' K := by rw [h, h1]
attribute [congr] appObSpec_congr copySpec_congr makeSpec_congr clearSpec_congr
theorem callSpec_congr {a a' : List SV} {x x' : SV} (h : a = a') (h1 : st = st') (h2 : x = x') : callSpec P a st x K = callSpec P a' st' x' K := by rw [h, h1, h2]
theorem calleeSpec_congr {ob : Bool} {a a' : List Operand} {t t' : List TypeId} {c c' : Callee} (h3 : env = env') (h4 : st = st') (h : a = a') (h1 : t = t') (h2 : c = c') : calleeSpec P o ob env st K a t c = calleeSpec P o ob env' st' K a' t' c' := by rw [h, h1, h2, h3, h4]
theorem biSpec_congr {ob : Bool} {a a' : List Operand} {t t' : List TypeId} {c : Builtin} (h3 : env = env') (h4 : st = st') (h : a = a') (h1 : t = t') : biSpec P o ob env st K c a t = biSpec P o ob env' st' K c a' t' := by rw [h, h1, h3, h4]
theorem cSpec_congr {c : Code} {Q : Exit → List SV → St → Prop} (h3 : env = env') (h4 : st = st') : cSpec P M c Q env st = cSpec P M c Q env' st' := by rw [h3, h4]
attribute [congr] opsSpec_congr kdSpec_congr gdSpec_congr effSpec_congr drawSpec_congr d1Spec_congr dkSpec_congr dgSpec_congr storeSpec_congr appSpec_congr callSpec_congr calleeSpec_congr biSpec_congr cSpec_congr

variable {t tx : TypeId} {k k' : IntKind} {m n i : Int} {s s' : ByteArray} {b b' c : Bool} {x y z : SV} {xs ys : List SV} {md md' : Mode} {zz z1 : Nat} {id off f j : Nat} {fn : Fn} {p : Prop} {v : Value}
@[go_sem] theorem binOk_int {op : BinOp} : binOk P op t (.sc (.int k m)) (.sc (.int k' n)) = (k = k' ∧ binIntOk op n) := rfl
@[go_sem] theorem binOk_str {op : BinOp} : binOk P op t (.sc (.string s)) (.sc (.string s')) = binStrOk op s s' := rfl
@[go_sem] theorem binOk_bool {op : BinOp} : binOk P op t (.sc (.bool b)) (.sc (.bool b')) = (op = .eql ∧ P.underlying t = some .bool) := rfl
@[go_sem] theorem binV_int {op : BinOp} : binV op (.sc (.int k m)) (.sc (.int k' n)) = .sc (binIntV op k m n) := rfl
@[go_sem] theorem binV_str {op : BinOp} : binV op (.sc (.string s)) (.sc (.string s')) = .sc (binStrV op s s') := rfl
@[go_sem] theorem binV_bool {op : BinOp} : binV op (.sc (.bool b)) (.sc (.bool b')) = .sc (.bool (b == b')) := rfl
@[go_sem] theorem unOk_bool {op : UnOp} : unOk op (.sc (.bool b)) = (op = .not) := rfl
@[go_sem] theorem unOk_int {op : UnOp} : unOk op (.sc (.int k m)) = (op = .neg) := rfl
@[go_sem] theorem unV_bool {op : UnOp} : unV op (.sc (.bool b)) = .sc (.bool (!b)) := rfl
@[go_sem] theorem unV_int {op : UnOp} : unV op (.sc (.int k m)) = .sc (.int k (k.wrap (0 - m))) := rfl
@[go_sem] theorem loadOk_ref : loadOk P t st (.ref xs) = ((cellsOf P t xs).isSome = true) := rfl
@[go_sem] theorem loadOk_ptr : loadOk P t st (.ptr id off) = (isObj st id ∧ (cellsOf P t ((objAt st id).drop off)).isSome = true) := rfl
@[go_sem] theorem loadV_ref : loadV P t st (.ref xs) = (cellsOf P t xs).getD .any := rfl
@[go_sem] theorem loadV_ptr : loadV P t st (.ptr id off) = (cellsOf P t ((objAt st id).drop off)).getD .any := rfl
@[go_sem] theorem fieldOk_ref : fieldOk P t f (.ref xs) = ((aField P t f).isSome = true ∧ ((aField P t f).getD (0, 0)).2 ≠ 0) := rfl
@[go_sem] theorem fieldOk_ptr : fieldOk P t f (.ptr id off) = ((aField P t f).isSome = true ∧ ((aField P t f).getD (0, 0)).2 ≠ 0) := rfl
@[go_sem] theorem fieldV_ref : fieldV P t f (.ref xs) = .ref ((xs.drop ((aField P t f).getD (0, 0)).1).take ((aField P t f).getD (0, 0)).2) := rfl
@[go_sem] theorem fieldV_ptr : fieldV P t f (.ptr id off) = .ptr id (off + ((aField P t f).getD (0, 0)).1) := rfl
@[go_sem] theorem idxOk_slice : idxOk P t (.slice md zz xs) (.sc (.int k i)) = ((aElem P t).bind (aSize P) = some zz ∧ 0 ≤ i ∧ i < xs.length) := rfl
@[go_sem] theorem idxV_slice : idxV (.slice md zz xs) (.sc (.int k i)) = .ref (xs.getD i.toNat .any).cells := rfl
@[go_sem] theorem lenOk_slice : lenOk P t (.slice md zz xs) = ((aElem P t).isSome = true) := rfl
@[go_sem] theorem lenOk_str : lenOk P t (.sc (.string s)) = (P.underlying t = some .string) := rfl
@[go_sem] theorem lenV_slice : lenV (.slice md zz xs) = .sc (.int .i64 xs.length) := rfl
@[go_sem] theorem lenV_str : lenV (.sc (.string s)) = .sc (.int .i64 s.size) := rfl
@[go_sem] theorem extOk_tuple : extOk j (.tuple xs) = (j < xs.length) := rfl
@[go_sem] theorem extV_tuple : extV j (.tuple xs) = xs.getD j .any := rfl
@[go_sem] theorem cutOk_slice {ρ : Operand → SV} {lo hi mx : Option Operand} : cutOk P t ρ lo hi mx (.slice md zz xs) = (((aElem P t).bind (aSize P) = some zz ∨ (xs = [] ∧ (md = .full ∨ md = .imm) ∧ ((aElem P t).bind (aSize P)).isSome = true)) ∧ (bound ρ lo 0).isSome = true ∧ (bound ρ hi xs.length).isSome = true ∧
    0 ≤ bndI ρ lo 0 ∧ bndI ρ lo 0 ≤ bndI ρ hi xs.length ∧ bndI ρ hi xs.length ≤ xs.length ∧ (mx.isSome = true → hi.isSome = true ∧ bound ρ mx 0 = bound ρ hi xs.length)) := rfl
@[go_sem] theorem cutV_slice {ρ : Operand → SV} {lo hi mx : Option Operand} : cutV ρ lo hi mx (.slice md zz xs) = .slice (if mx.isSome then .full else .imm) zz ((xs.take (bndI ρ hi xs.length).toNat).drop (bndI ρ lo 0).toNat) := rfl
@[go_sem] theorem cutOk_str {ρ : Operand → SV} {lo hi mx : Option Operand} : cutOk P t ρ lo hi mx (.sc (.string s)) = (mx = none ∧ P.underlying t = some .string ∧ (bound ρ lo 0).isSome = true ∧ (bound ρ hi s.size).isSome = true ∧
    0 ≤ bndI ρ lo 0 ∧ bndI ρ lo 0 ≤ bndI ρ hi s.size ∧ bndI ρ hi s.size ≤ s.size) := rfl
@[go_sem] theorem cutV_str {ρ : Operand → SV} {lo hi mx : Option Operand} : cutV ρ lo hi mx (.sc (.string s)) = .sc (.string (s.extract (bndI ρ lo 0).toNat (bndI ρ hi s.size).toNat)) := rfl
@[go_sem] theorem bound_none {ρ : Operand → SV} {d : Nat} : bound ρ none d = some (d : Int) := rfl
theorem bound_some' {ρ : Operand → SV} {d : Nat} {q : Operand} (h : ρ q = .sc (.int k n)) : bound ρ (some q) d = some n := by simp [bound, h]
def intOfSV : SV → Option Int | .sc (.int _ n) => some n | _ => none
@[go_sem] theorem bound_some {ρ : Operand → SV} {d : Nat} {q : Operand} : bound ρ (some q) d = intOfSV (ρ q) := by
  simp only [bound]
  generalize ρ q = x
  cases x with
  | sc v => cases v <;> rfl
  | _ => rfl
@[go_sem] theorem intOf_sc : intOfSV (.sc (.int k n)) = some n := rfl
@[go_sem] theorem bndI_def {ρ : Operand → SV} {q : Option Operand} {d : Nat} : bndI ρ q d = (bound ρ q d).getD 0 := rfl
@[go_sem] theorem gValOk_b : gValOk (.sc (.bool b)) = True := rfl
@[go_sem] theorem gValOk_g : gValOk (.gd g (.sc (.bool b))) = True := rfl
@[go_sem] theorem gVal_b : gVal c (.sc (.bool b)) = (b == c) := rfl
@[go_sem] theorem gVal_g : gVal c (.gd g (.sc (.bool b))) = (g && (b == c)) := rfl
@[go_sem] theorem gIf_gd : gIf p (.gd g x) = (p → g = true) := rfl
@[go_sem] theorem gIf_sc : gIf p (.sc v) = True := rfl
@[go_sem] theorem gIf_slice : gIf p (.slice md zz xs) = True := rfl
@[go_sem] theorem gIf_ref : gIf p (.ref xs) = True := rfl
@[go_sem] theorem gIf_ptr : gIf p (.ptr id off) = True := rfl
@[go_sem] theorem gIf_agg : gIf p (.agg xs) = True := rfl
@[go_sem] theorem gIf_func : gIf p (.func fn xs ys) = True := rfl
@[go_sem] theorem gIf_tuple : gIf p (.tuple xs) = True := rfl
@[go_sem] theorem strip_gd : strip (.gd g x) = x := rfl
@[go_sem] theorem strip_sc : strip (.sc v) = .sc v := rfl
@[go_sem] theorem strip_slice : strip (.slice md zz xs) = .slice md zz xs := rfl
@[go_sem] theorem strip_ref : strip (.ref xs) = .ref xs := rfl
@[go_sem] theorem strip_ptr : strip (.ptr id off) = .ptr id off := rfl
@[go_sem] theorem strip_agg : strip (.agg xs) = .agg xs := rfl
@[go_sem] theorem strip_func : strip (.func fn xs ys) = .func fn xs ys := rfl
@[go_sem] theorem strip_tuple : strip (.tuple xs) = .tuple xs := rfl
@[go_sem] theorem pickOk_b : pickOk (.sc (.bool b)) x y = (gIf (b = true) x ∧ gIf (b = false) y) := rfl
@[go_sem] theorem pickV_b : pickV (.sc (.bool b)) x y = pickB b (strip x) (strip y) := rfl
@[go_sem] theorem pickB_b : pickB c (.sc (.bool b)) (.sc (.bool b')) = .sc (.bool (bif c then b else b')) := rfl
@[go_sem] theorem isB_b : isB (.sc (.bool b)) = True := rfl
@[go_sem] theorem bOf_b : bOf (.sc (.bool b)) = b := rfl
@[go_sem] theorem cells_agg : (SV.agg xs).cells = xs := rfl
@[go_sem] theorem cells_sc : (SV.sc v).cells = [.sc v] := rfl
@[go_sem] theorem cells_slice : (SV.slice md zz xs).cells = [.slice md zz xs] := rfl
@[go_sem] theorem cells_ref : (SV.ref xs).cells = [.ref xs] := rfl
@[go_sem] theorem cells_ptr : (SV.ptr id off).cells = [.ptr id off] := rfl
@[go_sem] theorem cells_func : (SV.func fn xs ys).cells = [.func fn xs ys] := rfl
@[go_sem] theorem shape_agg : shapeOk (.agg xs) = true := rfl
@[go_sem] theorem shape_slice : shapeOk (.slice md zz xs) = true := rfl
@[go_sem] theorem shape_ref : shapeOk (.ref xs) = true := rfl
@[go_sem] theorem shape_ptr : shapeOk (.ptr id off) = true := rfl
@[go_sem] theorem shape_func : shapeOk (.func fn xs ys) = true := rfl
@[go_sem] theorem shape_sc : shapeOk (.sc v) = v.oneCell' := rfl
@[go_sem] theorem cellOk_sc : cellOk (.sc v) = v.oneCell' := rfl
@[go_sem] theorem cellOk_slice : cellOk (.slice md zz xs) = true := rfl
@[go_sem] theorem cellOk_ref : cellOk (.ref xs) = true := rfl
@[go_sem] theorem cellOk_ptr : cellOk (.ptr id off) = true := rfl
@[go_sem] theorem cellOk_func : cellOk (.func fn xs ys) = true := rfl
@[go_sem] theorem one_int : (Value.int k n).oneCell' = true := rfl
@[go_sem] theorem one_bool : (Value.bool b).oneCell' = true := rfl
@[go_sem] theorem one_str : (Value.string s).oneCell' = true := rfl
@[go_sem] theorem one_ptr {a : Option Addr} : (Value.pointer a).oneCell' = true := rfl
@[go_sem] theorem elemOk_def : elemOk x = x.cells.all cellOk := rfl
@[go_sem] theorem norm1_slice : norm1 (.slice md zz xs) = .slice .imm zz xs := rfl
@[go_sem] theorem norm1_sc : norm1 (.sc v) = .sc v := rfl
@[go_sem] theorem norm1_ref : norm1 (.ref xs) = .ref xs := rfl
@[go_sem] theorem norm1_ptr : norm1 (.ptr id off) = .ptr id off := rfl
@[go_sem] theorem norm1_func : norm1 (.func fn xs ys) = .func fn xs ys := rfl
@[go_sem] theorem norm1_agg : norm1 (.agg xs) = .agg xs := rfl
@[go_sem] theorem norm_agg : norm (.agg xs) = .agg (xs.map norm1) := rfl
@[go_sem] theorem norm_tuple : norm (.tuple xs) = .tuple (xs.map norm1) := rfl
@[go_sem] theorem norm_slice : norm (.slice md zz xs) = .slice .imm zz xs := rfl
@[go_sem] theorem norm_sc : norm (.sc v) = .sc v := rfl
@[go_sem] theorem norm_ref : norm (.ref xs) = .ref xs := rfl
@[go_sem] theorem norm_ptr : norm (.ptr id off) = .ptr id off := rfl
@[go_sem] theorem norm_func : norm (.func fn xs ys) = .func fn xs ys := rfl
variable {len cap id' off' len' cap' z0 : Nat}
@[go_sem] theorem idxOk_slc : idxOk P t (.slc id zz off len cap) (.sc (.int k i)) = ((aElem P t).bind (aSize P) = some zz ∧ 0 ≤ i ∧ i < len) := rfl
@[go_sem] theorem idxV_slc : idxV (.slc id zz off len cap) (.sc (.int k i)) = .ptr id (off + i.toNat * zz) := rfl
@[go_sem] theorem lenOk_slc : lenOk P t (.slc id zz off len cap) = ((aElem P t).isSome = true) := rfl
@[go_sem] theorem lenV_slc : lenV (.slc id zz off len cap) = .sc (.int .i64 len) := rfl
@[go_sem] theorem cutOk_slc {ρ : Operand → SV} {lo hi mx : Option Operand} : cutOk P t ρ lo hi mx (.slc id zz off len cap) = (mx = none ∧ (aElem P t).bind (aSize P) = some zz ∧ (bound ρ lo 0).isSome = true ∧ (bound ρ hi len).isSome = true ∧
    0 ≤ bndI ρ lo 0 ∧ bndI ρ lo 0 ≤ bndI ρ hi len ∧ bndI ρ hi len ≤ cap) := rfl
@[go_sem] theorem cutV_slc {ρ : Operand → SV} {lo hi mx : Option Operand} : cutV ρ lo hi mx (.slc id zz off len cap) = .slc id zz (if cap = (bndI ρ lo 0).toNat then off else off + (bndI ρ lo 0).toNat * zz) ((bndI ρ hi len).toNat - (bndI ρ lo 0).toNat) (cap - (bndI ρ lo 0).toNat) := rfl
@[go_sem] theorem gIf_slc : gIf p (.slc id zz off len cap) = True := rfl
@[go_sem] theorem strip_slc : strip (.slc id zz off len cap) = .slc id zz off len cap := rfl
@[go_sem] theorem cells_slc : (SV.slc id zz off len cap).cells = [.slc id zz off len cap] := rfl
@[go_sem] theorem shape_slc : shapeOk (.slc id zz off len cap) = true := rfl
@[go_sem] theorem cellOk_slc : cellOk (.slc id zz off len cap) = true := rfl
@[go_sem] theorem norm_slc : norm (.slc id zz off len cap) = .slc id zz off len cap := rfl
@[go_sem] theorem norm1_slc : norm1 (.slc id zz off len cap) = .slc id zz off len cap := rfl
@[go_sem] theorem copy_slice : copySpec P t st (.slc id zz off len cap) (.slice md z1 ys) K = (zz = z1 ∧ isObj st id ∧ (aElem P t).bind (aSize P) = some zz ∧ off + (min ys.length len) * zz ≤ (objAt st id).length ∧ (∀ s ∈ ys, elemOk s = true) ∧
      K (.sc (.int .i64 (min ys.length len : Nat))) (st.set id (.cells (splice (objAt st id) off ((ys.take (min ys.length len)).flatMap SV.cells))))) := rfl
@[go_sem] theorem copy_slc : copySpec P t st (.slc id zz off len cap) (.slc id' z1 off' len' cap') K = (zz = z1 ∧ isObj st id ∧ isObj st id' ∧ (aElem P t).bind (aSize P) = some zz ∧ off + (min len' len) * zz ≤ (objAt st id).length ∧
      off' + (min len' len) * zz ≤ (objAt st id').length ∧ (((objAt st id').drop off').take ((min len' len) * zz)).all cellOk = true ∧
      K (.sc (.int .i64 (min len' len : Nat))) (st.set id (.cells (splice (objAt st id) off (((objAt st id').drop off').take ((min len' len) * zz)))))) := rfl
@[go_sem] theorem clear_slc : clearSpec P t st (.slc id zz off len cap) K = (isObj st id ∧ (aElem P t).isSome = true ∧ ((aElem P t).bind (aZero P)).isSome = true ∧ off + len * (zerosOf P t).length ≤ (objAt st id).length ∧ (zerosOf P t).all cellOk = true ∧
      K .any (if len = 0 then st else st.set id (.cells (splice (objAt st id) off (zeroL (zerosOf P t) len))))) := rfl
@[go_sem] theorem make_int : makeSpec P t st (.sc (.int k n)) (.sc (.int k' m)) K = (((aElem P t).bind (aSize P)).isSome = true ∧ ((aElem P t).bind (aZero P)).map List.length = (aElem P t).bind (aSize P) ∧ ((aElem P t).bind (aBytes P)).isSome = true ∧
      0 ≤ n ∧ n ≤ m ∧ m ≤ 4611686018427387904 ∧ m.toNat * ((aElem P t).bind (aBytes P)).getD 0 ≤ 281474976710656 ∧
      K (.slc st.length (((aElem P t).bind (aSize P)).getD 0) 0 n.toNat m.toNat) (st ++ [.cells (zeroL (zerosOf P t) m.toNat)])) := rfl
@[go_sem] theorem appOb : appObSpec P t tx st (.slice .full z0 []) (.slice md zz ys) K = (ys ≠ [] ∧ AppOk P t tx zz ys.length ∧ ∀ cap, ys.length ≤ cap → K (.slc st.length zz 0 ys.length cap) (st ++ [.cells (ys.flatMap SV.cells ++ zeroL (zerosOf P t) (cap - ys.length))])) := rfl
@[go_sem] theorem app_full : appSpec P t tx st (.slice .full z1 xs) (.slice md zz ys) K = ((xs = [] ∨ z1 = zz) ∧ AppOk P t tx zz (xs.length + ys.length) ∧ K (.slice (.own st.length 0) zz (xs ++ ys)) (st ++ [.tok 0])) := rfl
@[go_sem] theorem app_own {ver : Nat} : appSpec P t tx st (.slice (.own id ver) zz xs) (.slice md z1 ys) K = ((ys = [] ∨ z1 = zz) ∧ tokAt st id ver ∧ AppOk P t tx zz (xs.length + ys.length) ∧
      (∀ s ∈ ys, elemOk s = true) ∧ K (.slice (.own id (ver + 1)) zz (xs ++ ys)) (st.set id (.tok (ver + 1)))) := rfl
theorem call_func {q : FuncId} {a : List SV} : callSpec P a st (.func (.func q) xs ys) K = (aBody P q = true ∧ ACalls P q (xs ++ a ++ ys) K st) := rfl
@[go_sem] theorem store_ptr {N : St → Prop} : storeSpec P t st y (.ptr id off) N = (isObj st id ∧ aSize P t = some y.cells.length ∧ shapeOk y = true ∧ elemOk y = true ∧ off + y.cells.length ≤ (objAt st id).length ∧
      N (st.set id (.cells (splice (objAt st id) off y.cells)))) := rfl
@[go_sem] theorem obj_last (l : List SV) : objAt (st ++ [.cells l]) st.length = l := by simp [objAt]
@[go_sem] theorem isObj_last (l : List SV) : isObj (st ++ [.cells l]) st.length = True := eq_true (by simp [isObj])
@[go_sem] theorem ev_tmp : ev env (.tmp j) = env.getD j .any := rfl
@[go_sem] theorem ev_func : ev env (.func j) = .func (.func j) [] [] := rfl
@[go_sem] theorem ev_int : ev env (.const (.int k n)) = .sc (.int k n) := rfl
@[go_sem] theorem ev_bool : ev env (.const (.bool b)) = .sc (.bool b) := rfl
@[go_sem] theorem ev_str : ev env (.const (.string s)) = .sc (.string s) := rfl
@[go_sem] theorem ev_nilslice : ev env (.const (.slice none 0 0)) = .slice .full 0 [] := rfl
@[go_sem] theorem ev_nilptr : ev env (.const (.pointer none)) = .sc (.pointer none) := rfl
def resCell (P : Program) (T : TypeId) (st : St) : SV → Option SV
  | .ptr id off => match st[id]? with
    | some (.cells l) => cellsOf P T (l.drop off)
    | _ => none
  | .ref l => cellsOf P T l
  | _ => none
@[go_sem] theorem res_cell {q : Nat} : aRes1 P env st (.cell q t) = resCell P t st (env.getD q .any) := by
  simp only [aRes1, resCell]
  cases env.getD q .any <;> rfl
theorem res_ptr (ho : isObj st id) : resCell P t st (.ptr id off) = cellsOf P t ((objAt st id).drop off) := by simp only [resCell, obj_of ho]
attribute [go_sem] res_ptr
@[go_sem] theorem res_ref : resCell P t st (.ref xs) = cellsOf P t xs := rfl
@[go_sem] theorem one_one : oneOf [x] = x := rfl
@[go_sem] theorem one_many : oneOf (x :: y :: xs) = .tuple (x :: y :: xs) := rfl
@[go_sem] theorem res_tmp : aRes1 P env st (.tmp j) = some (env.getD j .any) := rfl
end eqs

section eqs2
variable {M : List Nat} {K : SV → St → Prop} {env : List SV} {st : St} {ds : List (Option Tmp)} {N : List SV → St → Prop} {d : Option Tmp} {op : Op} {ty : TypeId} {pos : String} {aft : Array Edge} {gu : Option (Nat × Bool)} {g want : Bool} {r : List Oper} {ρ : Operand → SV} {t : TypeId} {j f : Nat} {fn : Fn} {Q : Exit → List SV → St → Prop}
@[go_sem] theorem kind_move (x : Operand) : kindOf (.move x) = .pure := rfl
@[go_sem] theorem ok_move (x : Operand) : okCore P st ρ (.move x) = (True) := rfl
@[go_sem] theorem val_move (x : Operand) : valCore P st ρ (.move x) = ρ x := rfl
@[go_sem] theorem kind_assign (x : Operand) : kindOf (.assign x) = .pure := rfl
@[go_sem] theorem ok_assign (x : Operand) : okCore P st ρ (.assign x) = (True) := rfl
@[go_sem] theorem val_assign (x : Operand) : valCore P st ρ (.assign x) = ρ x := rfl
@[go_sem] theorem kind_extract (x : Operand) : kindOf (.extract x j) = .pure := rfl
@[go_sem] theorem ok_extract (x : Operand) : okCore P st ρ (.extract x j) = (extOk j (ρ x)) := rfl
@[go_sem] theorem val_extract (x : Operand) : valCore P st ρ (.extract x j) = extV j (ρ x) := rfl
@[go_sem] theorem kind_binOp {op : BinOp} {u : TypeId} (x y : Operand) : kindOf (.binOp op t x y u) = .pure := rfl
@[go_sem] theorem ok_binOp {op : BinOp} {u : TypeId} (x y : Operand) : okCore P st ρ (.binOp op t x y u) = (if nilConst y then nilOk P op t y (ρ x) else binOk P op t (ρ x) (ρ y)) := rfl
@[go_sem] theorem val_binOp {op : BinOp} {u : TypeId} (x y : Operand) : valCore P st ρ (.binOp op t x y u) = (if nilConst y then nilV op (ρ x) else binV op (ρ x) (ρ y)) := rfl
@[go_sem] theorem kind_unOp {op : UnOp} (x : Operand) : kindOf (.unOp op t x) = .pure := rfl
@[go_sem] theorem ok_unOp {op : UnOp} (x : Operand) : okCore P st ρ (.unOp op t x) = (unOk op (ρ x)) := rfl
@[go_sem] theorem val_unOp {op : UnOp} (x : Operand) : valCore P st ρ (.unOp op t x) = unV op (ρ x) := rfl
@[go_sem] theorem kind_makeFunc (fi ca : Array Operand) : kindOf (.makeFunc fn fi ca) = .pure := rfl
@[go_sem] theorem ok_makeFunc (fi ca : Array Operand) : okCore P st ρ (.makeFunc fn fi ca) = (True) := rfl
@[go_sem] theorem val_makeFunc (fi ca : Array Operand) : valCore P st ρ (.makeFunc fn fi ca) = .func fn (fi.toList.map ρ) (ca.toList.map ρ) := rfl
@[go_sem] theorem kind_load (x : Operand) : kindOf (.load t x) = .pure := rfl
@[go_sem] theorem ok_load (x : Operand) : okCore P st ρ (.load t x) = (loadOk P t st (ρ x)) := rfl
@[go_sem] theorem val_load (x : Operand) : valCore P st ρ (.load t x) = loadV P t st (ρ x) := rfl
@[go_sem] theorem kind_fieldAddr (x : Operand) : kindOf (.fieldAddr t x f) = .pure := rfl
@[go_sem] theorem ok_fieldAddr (x : Operand) : okCore P st ρ (.fieldAddr t x f) = (fieldOk P t f (ρ x)) := rfl
@[go_sem] theorem val_fieldAddr (x : Operand) : valCore P st ρ (.fieldAddr t x f) = fieldV P t f (ρ x) := rfl
@[go_sem] theorem kind_indexAddr (x y : Operand) : kindOf (.indexAddr t x y) = .pure := rfl
@[go_sem] theorem ok_indexAddr (x y : Operand) : okCore P st ρ (.indexAddr t x y) = (idxOk P t (ρ x) (ρ y)) := rfl
@[go_sem] theorem val_indexAddr (x y : Operand) : valCore P st ρ (.indexAddr t x y) = idxV (ρ x) (ρ y) := rfl
@[go_sem] theorem kind_slice (x : Operand) (lo hi mx : Option Operand) : kindOf (.slice t x lo hi mx) = .pure := rfl
@[go_sem] theorem ok_slice (x : Operand) (lo hi mx : Option Operand) : okCore P st ρ (.slice t x lo hi mx) = (cutOk P t ρ lo hi mx (ρ x)) := rfl
@[go_sem] theorem val_slice (x : Operand) (lo hi mx : Option Operand) : valCore P st ρ (.slice t x lo hi mx) = cutV ρ lo hi mx (ρ x) := rfl
@[go_sem] theorem kind_pick (c x y : Operand) : kindOf (.pick c x y) = .pick c x y := rfl
@[go_sem] theorem kind_alloc : kindOf (.alloc t) = .eff := rfl
@[go_sem] theorem kind_box (x : Operand) : kindOf (.box t x) = .eff := rfl
@[go_sem] theorem kind_build (p : Array (Nat × Operand)) : kindOf (.build t p) = .eff := rfl
@[go_sem] theorem kind_buildSlice (n : Nat) (p : Array (Nat × Operand)) : kindOf (.buildSlice t n p) = .eff := rfl
@[go_sem] theorem kind_store (x y : Operand) : kindOf (.store t x y) = .eff := rfl
@[go_sem] theorem kind_call (c : Operand) (a : Array Operand) (ts : Array TypeId) : kindOf (.call ⟨.value c, a, ts⟩) = .eff := rfl
@[go_sem] theorem kind_append (a : Array Operand) (ts : Array TypeId) : kindOf (.call ⟨.builtin .append, a, ts⟩) = .eff := rfl
@[go_sem] theorem kind_len (a : Array Operand) (ts : Array TypeId) : kindOf (.call ⟨.builtin .len, a, ts⟩) = .pure := rfl
@[go_sem] theorem ok_len (x : Operand) (t : TypeId) : okCore P st ρ (.call ⟨.builtin .len, #[x], #[t]⟩) = lenOk P t (ρ x) := rfl
@[go_sem] theorem val_len (x : Operand) (t : TypeId) : valCore P st ρ (.call ⟨.builtin .len, #[x], #[t]⟩) = lenV (ρ x) := rfl
@[go_sem] theorem ops_nil : opsSpec P M ds [] env st N = N env st := rfl
@[go_sem] theorem ops_none : opsSpec P M ds (⟨d, op, ty, pos, aft, none⟩ :: r) env st N = kdSpec P M ⟨d, op, ty, pos, aft, none⟩ env st (fun e s => opsSpec P M ds r e s N) (kindOf op) := rfl
@[go_sem] theorem ops_some : opsSpec P M ds (⟨d, op, ty, pos, aft, some (j, want)⟩ :: r) env st N = (gValOk (gSlot ds j env) ∧ gdSpec P M ⟨d, op, ty, pos, aft, some (j, want)⟩ env st (gVal want (gSlot ds j env)) (fun e s => opsSpec P M ds r e s N) (kindOf op)) := rfl
@[go_sem] theorem kd_pure : kdSpec P M ⟨d, op, ty, pos, aft, gu⟩ env st N .pure = (okCore P st (ev env) op ∧ N (putE env d (valCore P st (ev env) op)) st) := rfl
@[go_sem] theorem kd_pick (c x y : Operand) : kdSpec P M ⟨d, op, ty, pos, aft, gu⟩ env st N (.pick c x y) = (pickOk (ev env c) (ev env x) (ev env y) ∧ N (putE env d (pickV (ev env c) (ev env x) (ev env y))) st) := rfl
@[go_sem] theorem kd_eff : kdSpec P M ⟨d, op, ty, pos, aft, gu⟩ env st N .eff = effSpec P M ⟨d, op, ty, pos, aft, gu⟩ env st (fun x s => N (putE env d x) s) := rfl
@[go_sem] theorem gd_pure : gdSpec P M ⟨d, op, ty, pos, aft, gu⟩ env st g N .pure = (gAll (g = true) env op.operands.toList ∧ (g = true → okCore P st (fun y => strip (ev env y)) op) ∧ N (putE env d (.gd g (valCore P st (fun y => strip (ev env y)) op))) st) := rfl
@[go_sem] theorem gd_pick (c x y : Operand) : gdSpec P M ⟨d, op, ty, pos, aft, gu⟩ env st g N (.pick c x y) = (gIf (g = true) (ev env c) ∧ (g = true → pickOk (strip (ev env c)) (ev env x) (ev env y)) ∧ N (putE env d (.gd g (pickV (strip (ev env c)) (ev env x) (ev env y)))) st) := rfl
@[go_sem] theorem gd_eff : gdSpec P M ⟨d, op, ty, pos, aft, gu⟩ env st g N .eff = (gAll (g = true) env op.operands.toList ∧ (g = true → effSpec P M ⟨d, op, ty, pos, aft, gu⟩ (stripAt (opTmps op.operands.toList) 0 env) st fun x s => N (putE env d x) s) ∧ (g = false → N (putE env d .any) st)) := rfl
@[go_sem] theorem dr_nil {D : List SV → Prop} : drawSpec P M ds [] env st D = D env := rfl
@[go_sem] theorem dr_cons {D : List SV → Prop} : drawSpec P M ds (⟨d, op, ty, pos, aft, gu⟩ :: r) env st D = d1Spec P M ds ⟨d, op, ty, pos, aft, gu⟩ env st (fun x => drawSpec P M ds r (putE env d x) st D) := rfl
@[go_sem] theorem d1_none {D : SV → Prop} : d1Spec P M ds ⟨d, op, ty, pos, aft, none⟩ env st D = dkSpec P M ⟨d, op, ty, pos, aft, none⟩ env st D (kindOf op) := rfl
@[go_sem] theorem d1_some {D : SV → Prop} : d1Spec P M ds ⟨d, op, ty, pos, aft, some (j, want)⟩ env st D = (gValOk (gSlot ds j env) ∧ dgSpec P M ⟨d, op, ty, pos, aft, some (j, want)⟩ env st (gVal want (gSlot ds j env)) D (kindOf op)) := rfl
@[go_sem] theorem dk_pure {D : SV → Prop} : dkSpec P M ⟨d, op, ty, pos, aft, gu⟩ env st D .pure = (okCore P st (ev env) op ∧ D (valCore P st (ev env) op)) := rfl
@[go_sem] theorem dk_pick {D : SV → Prop} (c x y : Operand) : dkSpec P M ⟨d, op, ty, pos, aft, gu⟩ env st D (.pick c x y) = (pickOk (ev env c) (ev env x) (ev env y) ∧ D (pickV (ev env c) (ev env x) (ev env y))) := rfl
theorem dk_eff {D : SV → Prop} : dkSpec P M ⟨d, op, ty, pos, aft, gu⟩ env st D .eff = ∃ X, effSpec P M ⟨d, op, ty, pos, aft, gu⟩ (onlyAt (opTmps op.operands.toList) 0 env) st (Kept st X) ∧ D X := rfl
@[go_sem] theorem dg_pure {D : SV → Prop} : dgSpec P M ⟨d, op, ty, pos, aft, gu⟩ env st g D .pure = (gAll (g = true) env op.operands.toList ∧ (g = true → okCore P st (fun y => strip (ev env y)) op) ∧ D (.gd g (valCore P st (fun y => strip (ev env y)) op))) := rfl
@[go_sem] theorem dg_pick {D : SV → Prop} (c x y : Operand) : dgSpec P M ⟨d, op, ty, pos, aft, gu⟩ env st g D (.pick c x y) = (gIf (g = true) (ev env c) ∧ (g = true → pickOk (strip (ev env c)) (ev env x) (ev env y)) ∧ D (.gd g (pickV (strip (ev env c)) (ev env x) (ev env y)))) := rfl
theorem dg_eff {D : SV → Prop} : dgSpec P M ⟨d, op, ty, pos, aft, gu⟩ env st g D .eff = (gAll (g = true) env op.operands.toList ∧ ∃ X, (g = true → effSpec P M ⟨d, op, ty, pos, aft, gu⟩ (stripAt (opTmps op.operands.toList) 0 (onlyAt (opTmps op.operands.toList) 0 env)) st (Kept st X)) ∧ D (.gd g X)) := rfl
@[go_sem] theorem eff_store (x y : Operand) : effSpec P M ⟨d, .store t x y, ty, pos, aft, gu⟩ env st K = (d = none ∧ storeSpec P t st (ev env y) (ev env x) (K .any ·)) := rfl
@[go_sem] theorem eff_box (x : Operand) : effSpec P M ⟨d, .box t x, ty, pos, aft, gu⟩ env st K = (shapeOk (ev env x) = true ∧ if M.contains (d.getD 0) then K (.ptr st.length 0) (st ++ [.cells (ev env x).cells]) else K (.ref (ev env x).cells) st) := rfl
@[go_sem] theorem eff_alloc : effSpec P M ⟨d, .alloc t, ty, pos, aft, gu⟩ env st K = ((aZero P t).isSome = true ∧ K (.ptr st.length 0) (st ++ [.cells ((aZero P t).getD [])])) := rfl
@[go_sem] theorem eff_build (ps : Array (Nat × Operand)) : effSpec P M ⟨d, .build t ps, ty, pos, aft, gu⟩ env st K = (aFieldsOk P t = true ∧ (aBuild P t (ps.toList.map fun p => (p.1, ev env p.2))).isSome = true ∧ K (.agg ((aBuild P t (ps.toList.map fun p => (p.1, ev env p.2))).getD [])) st) := rfl
@[go_sem] theorem eff_buildSlice (n : Nat) (ps : Array (Nat × Operand)) : effSpec P M ⟨d, .buildSlice t n ps, ty, pos, aft, gu⟩ env st K = (((aElem P t).bind (aSize P)).isSome = true ∧ ((aElem P t).bind (aZero P)).map List.length = (aElem P t).bind (aSize P) ∧ ps.toList.map (·.1) = List.range n ∧
      n * ((aElem P t).bind (aSize P)).getD 0 ≤ 16777216 ∧ (∀ p ∈ ps.toList, shapeOk (ev env p.2) = true ∧ (ev env p.2).cells.length = ((aElem P t).bind (aSize P)).getD 0) ∧
      K (.slice .full (((aElem P t).bind (aSize P)).getD 0) (ps.toList.map fun p => norm (ev env p.2))) st) := rfl
@[go_sem] theorem eff_call (c : Operand) (a : Array Operand) (ts : Array TypeId) : effSpec P M ⟨d, .call ⟨.value c, a, ts⟩, ty, pos, aft, gu⟩ env st K = callSpec P (a.toList.map (ev env)) st (ev env c) K := rfl
@[go_sem] theorem eff_append (x y : Operand) (t tx : TypeId) : effSpec P M ⟨d, .call ⟨.builtin .append, #[x, y], #[t, tx]⟩, ty, pos, aft, gu⟩ env st K = if M.contains (d.getD 0) then appObSpec P t tx st (ev env x) (ev env y) K else appSpec P t tx st (ev env x) (ev env y) K := rfl
@[go_sem] theorem eff_copy (x y : Operand) (t tx : TypeId) : effSpec P M ⟨d, .call ⟨.builtin .copy, #[x, y], #[t, tx]⟩, ty, pos, aft, gu⟩ env st K = copySpec P t st (ev env x) (ev env y) K := rfl
@[go_sem] theorem eff_clear (x : Operand) (t : TypeId) : effSpec P M ⟨d, .call ⟨.builtin .clear, #[x], #[t]⟩, ty, pos, aft, gu⟩ env st K = clearSpec P t st (ev env x) K := rfl
@[go_sem] theorem eff_make (x y : Operand) : effSpec P M ⟨d, .makeSlice t x y, ty, pos, aft, gu⟩ env st K = makeSpec P t st (ev env x) (ev env y) K := rfl
@[go_sem] theorem kind_make (x y : Operand) : kindOf (.makeSlice t x y) = .eff := rfl
@[go_sem] theorem kind_copy (a : Array Operand) (ts : Array TypeId) : kindOf (.call ⟨.builtin .copy, a, ts⟩) = .eff := rfl
@[go_sem] theorem kind_clear (a : Array Operand) (ts : Array TypeId) : kindOf (.call ⟨.builtin .clear, a, ts⟩) = .eff := rfl
@[go_sem] theorem c_skip : cSpec P M .skip Q env st = Q .normal env st := rfl
@[go_sem] theorem c_region (id : Nat) (ops : Array Oper) : cSpec P M (.region id ops false) Q env st = opsSpec P M (ops.toList.map (·.dst)) ops.toList env st (Q .normal) := rfl
theorem c_draw (id : Nat) (ops : Array Oper) : cSpec P M (.region id ops true) Q env st = AWp P (.region id ops true) Q env st := rfl
@[go_sem] theorem dE_nil {ops : Array Oper} {ks el : List Nat} {R : St → Prop} {s0 : St} {i : Nat} : drawE P M ops ks el R s0 i [] env st N = N env st := rfl
theorem dE_cons {ops : Array Oper} {ks el : List Nat} {R : St → Prop} {s0 : St} {i : Nat} {o : Oper} : drawE P M ops ks el R s0 i (o :: r) env st N =
    if ks.contains i then ∃ X s', effSpec P M o (onlyAt (opTmps o.op.operands.toList) 0 env) st (fun x s => x = X ∧ s = s') ∧ o.guard = none ∧ R s' ∧ drawE P M ops ks el R s0 (i + 1) r (putE env o.dst X) s' N
    else ∃ X, (∀ s, (if el.contains i then s = s0 else R s) → d1Spec P M (ops.toList.map (·.dst)) o env s (fun x => x = X)) ∧ drawE P M ops ks el R s0 (i + 1) r (putE env o.dst X) st N := rfl
@[go_sem] theorem c_seq (a b : Code) : cSpec P M (.seq a b) Q env st = cSpec P M a (thenQ (cSpec P M b Q) Q) env st := rfl
@[go_sem] theorem c_cond (c : Operand) (x y : Code) : cSpec P M (.cond c x y) Q env st = (isB (ev env c) ∧ (bOf (ev env c) = true → cSpec P M x Q env st) ∧ (bOf (ev env c) = false → cSpec P M y Q env st)) := rfl
@[go_sem] theorem c_block (id : Nat) (c : Code) : cSpec P M (.block id c) Q env st = cSpec P M c (blockQ id Q) env st := rfl
@[go_sem] theorem c_exit (id : Nat) : cSpec P M (.exit id) Q env st = Q (.exit id) env st := rfl
@[go_sem] theorem c_ret : cSpec P M .ret Q env st = Q .ret env st := rfl
@[go_sem] theorem c_label (l : Nat) : cSpec P M (.label l) Q env st = Q .normal env st := rfl
theorem c_loop (c : Code) : cSpec P M (.loop c) Q env st = AWp P (.loop c) Q env st := rfl
@[go_sem] theorem then_n {nx : List SV → St → Prop} : thenQ nx Q .normal = nx := rfl
@[go_sem] theorem then_r {nx : List SV → St → Prop} : thenQ nx Q .ret = Q .ret := rfl
@[go_sem] theorem then_e {nx : List SV → St → Prop} (id : Nat) : thenQ nx Q (.exit id) = Q (.exit id) := rfl
@[go_sem] theorem block_n (id : Nat) : blockQ id Q .normal = Q .normal := rfl
@[go_sem] theorem block_r (id : Nat) : blockQ id Q .ret = Q .ret := rfl
@[go_sem] theorem block_e (id id' : Nat) : blockQ id Q (.exit id') = fun e s => if id' = id then Q .normal e s else Q (.exit id') e s := rfl
@[go_sem] theorem ret_n (rs : List ResultVar) : RetR P rs K .normal = fun env st => (aResL P env st rs).isSome = true ∧ K (oneOf ((aResL P env st rs).getD [])) st := rfl
@[go_sem] theorem ret_r (rs : List ResultVar) : RetR P rs K .ret = fun env st => (aResL P env st rs).isSome = true ∧ K (oneOf ((aResL P env st rs).getD [])) st := rfl
@[go_sem] theorem put_some (n : Nat) (x : SV) : putE env (some n) x = env.set n x := rfl
@[go_sem] theorem put_none' (x : SV) : putE env none x = env := rfl
def cellsX : Option Bool → Option Nat → List SV → Option SV
  | some true, some n, l => if n ≤ l.length then some (.agg (l.take n)) else none
  | some false, _, l => if 0 < l.length then some (l.getD 0 .any) else none
  | _, _, _ => none
@[go_sem] theorem cellsOf_cons {t : TypeId} {x : SV} {l : List SV} : cellsOf P t (x :: l) = cellsX (aAgg P t) (aSize P t) (x :: l) := by
  unfold cellsOf cellsX
  cases aAgg P t with
  | none => rfl
  | some b => cases b <;> cases aSize P t <;> rfl
@[go_sem] theorem cellsX_one {q : Option Nat} {x : SV} {l : List SV} : cellsX (some false) q (x :: l) = some x := rfl
@[go_sem] theorem cellsX_many {n : Nat} {l : List SV} : cellsX (some true) (some n) l = if n ≤ l.length then some (.agg (l.take n)) else none := rfl
@[go_sem] theorem take_len_map {α : Type} (l : List α) (f : α → SV) : (l.map f).take l.length = l.map f := List.take_of_length_le (by simp)
end eqs2

attribute [go_sem] aResL Bool.and_true Bool.true_and Bool.and_self
  binIntOk binIntV binStrOk binStrV gSlot gAll
  Op.operands Call.operands stripAt onlyAt opTmps splice aFill aBuild bif_true bif_false
  List.getD_cons_succ List.getD_cons_zero List.set_cons_succ List.set_cons_zero List.length_cons List.length_nil List.map_cons List.map_nil List.cons_append List.nil_append List.append_nil
  List.getElem?_cons_succ List.getElem?_cons_zero List.drop_zero List.drop_succ_cons List.take_succ_cons List.take_zero Option.getD_some Option.isSome_some Option.map_some Option.bind_some Option.isSome_none Option.isNone_none
  List.contains_nil List.contains_cons List.all_cons List.all_nil List.length_append List.length_map List.length_set List.length_replicate
  List.range_zero eq_self false_or true_or or_true or_false true_and and_true if_true if_false Bool.false_eq_true ne_eq not_false_eq_true Nat.zero_lt_succ List.replicate

/-! Small rules. -/
theorem ex_self (st : St) : (∃ ex, st = st ++ ex) = True := eq_true ⟨[], by simp⟩
theorem ex_app (st ex : St) : (∃ e, st ++ ex = st ++ e) = True := eq_true ⟨ex, rfl⟩
theorem ids_sc (n : Nat) (v : Value) : Ids n (.sc v) = True := eq_true (.sc v)
theorem ids_any (n : Nat) : Ids n .any = True := eq_true .any
theorem ids_tuple (n : Nat) (l : List SV) : Ids n (.tuple l) = ∀ x ∈ l, Ids n x := by
  apply propext
  constructor
  · intro h x hx
    cases h with
    | tuple l h =>
      obtain ⟨i, hi⟩ := List.getElem?_of_mem hx
      have := h i (lt_of_get hi)
      rwa [List.getD_eq_getElem?_getD, hi] at this
  · intro h
    refine .tuple l fun i hi => ?_
    rw [List.getD_eq_getElem?_getD, List.getElem?_eq_getElem hi]
    exact h _ (List.getElem_mem hi)
theorem ids_agg (n : Nat) (l : List SV) : Ids n (.agg l) = ∀ x ∈ l, Ids n x := by
  apply propext
  constructor
  · intro h x hx
    cases h with
    | agg l h =>
      obtain ⟨i, hi⟩ := List.getElem?_of_mem hx
      have := h i (lt_of_get hi)
      rwa [List.getD_eq_getElem?_getD, hi] at this
  · intro h
    refine .agg l fun i hi => ?_
    rw [List.getD_eq_getElem?_getD, List.getElem?_eq_getElem hi]
    exact h _ (List.getElem_mem hi)
theorem ids_slice {n : Nat} {m : Mode} {z : Nat} {l : List SV} (hm : m = .imm ∨ m = .full) (h : ∀ x ∈ l, ∀ y ∈ x.cells, Ids n y) : Ids n (.slice m z l) := by
  refine .slice m z l (fun id ver e => by rcases hm with rfl | rfl <;> cases e) fun i j hi hj => ?_
  have hx : l.getD i .any ∈ l := by
    rw [List.getD_eq_getElem?_getD, List.getElem?_eq_getElem hi]; exact List.getElem_mem hi
  by_cases hc : j < (l.getD i .any).cells.length
  · have hy : (l.getD i .any).cells.getD j .any ∈ (l.getD i .any).cells := by
      rw [List.getD_eq_getElem?_getD (l := (l.getD i .any).cells), List.getElem?_eq_getElem hc]; exact List.getElem_mem hc
    exact h _ hx _ hy
  · rw [List.getD_eq_getElem?_getD (l := (l.getD i .any).cells), List.getElem?_eq_none (Nat.not_lt.1 hc)]; exact .any
theorem forall_nil {α : Type} (p : α → Prop) : (∀ x ∈ ([] : List α), p x) = True := eq_true (fun x hx => by cases hx)
theorem set_last (st : St) (x y : Ob) : (st ++ [x]).set st.length y = st ++ [y] := by simp
theorem get_last (st : St) (x : Ob) : (st ++ [x])[st.length]? = some x := by simp
theorem tok_last (st : St) (ver : Nat) : tokAt (st ++ [.tok ver]) st.length ver = True := eq_true (by simp [tokAt])
theorem obj_app' (s : St) (l : List Ob) (k : Nat) : objAt (s ++ l) (s.length + k) = objAt l k := by simp [objAt, List.getElem?_append_right]
theorem isObj_app' (s : St) (l : List Ob) (k : Nat) : isObj (s ++ l) (s.length + k) = isObj l k := by simp [isObj, List.getElem?_append_right]
theorem tok_app' (s : St) (l : List Ob) (k v : Nat) : tokAt (s ++ l) (s.length + k) v = tokAt l k v := by simp [tokAt, List.getElem?_append_right]
theorem set_app' (s : St) (l : List Ob) (k : Nat) (x : Ob) : (s ++ l).set (s.length + k) x = s ++ l.set k x := by simp
theorem obj_app (s : St) (l : List Ob) : objAt (s ++ l) s.length = objAt l 0 := obj_app' s l 0
theorem isObj_app (s : St) (l : List Ob) : isObj (s ++ l) s.length = isObj l 0 := isObj_app' s l 0
theorem tok_app (s : St) (l : List Ob) (v : Nat) : tokAt (s ++ l) s.length v = tokAt l 0 v := tok_app' s l 0 v
theorem set_app (s : St) (l : List Ob) (x : Ob) : (s ++ l).set s.length x = s ++ l.set 0 x := set_app' s l 0 x
theorem obj_zero (c : List SV) (l : List Ob) : objAt (.cells c :: l) 0 = c := rfl
theorem obj_succ (o : Ob) (l : List Ob) (k : Nat) : objAt (o :: l) (k + 1) = objAt l k := rfl
theorem isObj_zero (c : List SV) (l : List Ob) : isObj (.cells c :: l) 0 = True := rfl
theorem isObj_succ (o : Ob) (l : List Ob) (k : Nat) : isObj (o :: l) (k + 1) = isObj l k := rfl
theorem tok_zero (v v' : Nat) (l : List Ob) : tokAt (.tok v :: l) 0 v' = (v = v') := by simp [tokAt]
theorem tok_succ (o : Ob) (l : List Ob) (k v : Nat) : tokAt (o :: l) (k + 1) v = tokAt l k v := rfl
theorem beq_false' (a : Bool) : (a == false) = !a := by cases a <;> rfl
theorem beq_true' (a : Bool) : (a == true) = a := by cases a <;> rfl
theorem appOk_of {t tx e ex : TypeId} {z n by' : Nat} {zs : List SV} (he : aElem P t = some e) (hx : aElem P tx = some ex) (hz : aSize P e = some z) (hzs : aZero P e = some zs) (hl : zs.length = z)
    (hb : aBytes P e = some by') (h1 : by' ≤ 100000) (h2 : n ≤ 1000000) : AppOk P t tx z n :=
  ⟨by omega, e, ex, zs, by', he, hx, hz, hzs, hl, hb, by
    have : (2 * n + 192) * by' ≤ 2000192 * 100000 := Nat.mul_le_mul (by omega) h1
    omega⟩

attribute [go_sem] obj_app obj_app' isObj_app isObj_app' tok_app tok_app' set_app set_app' obj_zero obj_succ isObj_zero isObj_succ tok_zero tok_succ List.append_assoc Nat.add_assoc Nat.zero_add
attribute [go_sem] ex_self ex_app ids_sc ids_any ids_tuple ids_agg beq_false' beq_true' List.forall_mem_cons forall_nil Nat.one_ne_zero


@[go_sem] theorem toList_nilapp {α : Type} (l : List α) : ((#[] : Array α) ++ l.toArray).toList = l := by simp

@[go_sem] theorem nilConst_tmp (i : Nat) : nilConst (.tmp i) = false := rfl
@[go_sem] theorem nilConst_int (k : IntKind) (i : Int) : nilConst (.const (.int k i)) = false := rfl
@[go_sem] theorem nilConst_str (s : ByteArray) : nilConst (.const (.string s)) = false := rfl
@[go_sem] theorem nilConst_bool (b : Bool) : nilConst (.const (.bool b)) = false := rfl
@[go_sem] theorem nilConst_slice : nilConst (.const (.slice none 0 0)) = true := rfl
@[go_sem] theorem nilConst_ptr : nilConst (.const (.pointer none)) = true := rfl
section
variable {P : Program} {t : TypeId} {m : Mode} {z id off len cap : Nat} {l : List SV}
@[go_sem] theorem nilV_eql_slice : nilV .eql (.slice m z l) = .sc (.bool false) := rfl
@[go_sem] theorem nilV_eql_slc : nilV .eql (.slc id z off len cap) = .sc (.bool false) := rfl
@[go_sem] theorem nilV_eql_ref : nilV .eql (.ref l) = .sc (.bool false) := rfl
@[go_sem] theorem nilV_eql_ptr : nilV .eql (.ptr id off) = .sc (.bool false) := rfl
@[go_sem] theorem nilV_eql_nil : nilV .eql (.sc (.pointer none)) = .sc (.bool true) := rfl
@[go_sem] theorem nilV_neq_slice : nilV .neq (.slice m z l) = .sc (.bool true) := rfl
@[go_sem] theorem nilV_neq_slc : nilV .neq (.slc id z off len cap) = .sc (.bool true) := rfl
@[go_sem] theorem nilV_neq_ref : nilV .neq (.ref l) = .sc (.bool true) := rfl
@[go_sem] theorem nilV_neq_ptr : nilV .neq (.ptr id off) = .sc (.bool true) := rfl
@[go_sem] theorem nilV_neq_nil : nilV .neq (.sc (.pointer none)) = .sc (.bool false) := rfl
@[go_sem] theorem nilOk_eql_slice : nilOk P .eql t (.const (.slice none 0 0)) (.slice m z l) = (l ≠ [] ∧ (aElem P t).isSome = true) := by simp [nilOk]
@[go_sem] theorem nilOk_neq_slice : nilOk P .neq t (.const (.slice none 0 0)) (.slice m z l) = (l ≠ [] ∧ (aElem P t).isSome = true) := by simp [nilOk]
@[go_sem] theorem nilOk_eql_slc : nilOk P .eql t (.const (.slice none 0 0)) (.slc id z off len cap) = ((aElem P t).isSome = true) := by simp [nilOk]
@[go_sem] theorem nilOk_neq_slc : nilOk P .neq t (.const (.slice none 0 0)) (.slc id z off len cap) = ((aElem P t).isSome = true) := by simp [nilOk]
@[go_sem] theorem nilOk_eql_ref : nilOk P .eql t (.const (.pointer none)) (.ref l) = (aIsPtr P t = true) := by simp [nilOk]
@[go_sem] theorem nilOk_neq_ref : nilOk P .neq t (.const (.pointer none)) (.ref l) = (aIsPtr P t = true) := by simp [nilOk]
@[go_sem] theorem nilOk_eql_ptr : nilOk P .eql t (.const (.pointer none)) (.ptr id off) = (aIsPtr P t = true) := by simp [nilOk]
@[go_sem] theorem nilOk_neq_ptr : nilOk P .neq t (.const (.pointer none)) (.ptr id off) = (aIsPtr P t = true) := by simp [nilOk]
@[go_sem] theorem nilOk_eql_nil : nilOk P .eql t (.const (.pointer none)) (.sc (.pointer none)) = (aIsPtr P t = true) := by simp [nilOk]
@[go_sem] theorem nilOk_neq_nil : nilOk P .neq t (.const (.pointer none)) (.sc (.pointer none)) = (aIsPtr P t = true) := by simp [nilOk]
end

section
variable {P : Program} {t u : TypeId} {st : St} {ρ : Operand → SV}
@[go_sem] theorem kind_conv (x : Operand) : kindOf (.convert t u x) = .pure := rfl
@[go_sem] theorem ok_conv (x : Operand) : okCore P st ρ (.convert t u x) = convOk P t u (ρ x) := rfl
@[go_sem] theorem val_conv (x : Operand) : valCore P st ρ (.convert t u x) = convV P u (ρ x) := rfl
@[go_sem] theorem convOk_int (k : IntKind) (n : Int) : convOk P t u (.sc (.int k n)) = ((aInt P t).isSome = true ∧ (aInt P u).isSome = true) := rfl
theorem convV_int {k' : IntKind} (k : IntKind) (n : Int) (h : aInt P u = some k') : convV P u (.sc (.int k n)) = .sc (.int k' (k'.wrap n)) := by simp [convV, h]
end

end Go.AL
