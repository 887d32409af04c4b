/- The abstract layer, part 49: congruences that count a step by 'rfl' too (an argument 'Unit' makes simp see it), so that what stands behind an operation is not looked at ahead of its time. -/
import Derived.Test.YtcanmhognofheaaA9
import Derived.Test.YtcanmhognofheaaA7
set_option linter.all false
set_option linter.unusedVariables false
namespace Go.AL
variable {P : Program}
section
variable {M : List Nat} {K : SV → St → Prop} {env : List SV} {st : St} {ds : List (Option Tmp)} {l : List Oper} {N : List SV → St → Prop} {o : Oper} {kd : Kd} {g : Bool}
  {env' : Unit → List SV} {st' : Unit → St} {ds' : Unit → List (Option Tmp)} {l' : Unit → List Oper} {kd' : Unit → Kd} {g' : Unit → Bool}
theorem opsSpec_cU (h1 : ∀ u,ds = ds' u) (h2 : ∀ u,l = l' u) (h3 : ∀ u,env = env' u) (h4 : ∀ u,st = st' u) : opsSpec P M ds l env st N = opsSpec P M (ds' ()) (l' ()) (env' ()) (st' ()) N := by rw [← h1,← h2,← h3,← h4]
theorem kdSpec_cU (h3 : ∀ u,env = env' u) (h4 : ∀ u,st = st' u) (h5 : ∀ u,kd = kd' u) : kdSpec P M o env st N kd = kdSpec P M o (env' ()) (st' ()) N (kd' ()) := by rw [← h3,← h4,← h5]
theorem gdSpec_cU (h3 : ∀ u,env = env' u) (h4 : ∀ u,st = st' u) (h6 : ∀ u,g = g' u) (h5 : ∀ u,kd = kd' u) : gdSpec P M o env st g N kd = gdSpec P M o (env' ()) (st' ()) (g' ()) N (kd' ()) := by rw [← h3,← h4,← h5,← h6]
theorem dkSpec_cU {N : SV → Prop} (h3 : ∀ u,env = env' u) (h4 : ∀ u,st = st' u) (h5 : ∀ u,kd = kd' u) : dkSpec P M o env st N kd = dkSpec P M o (env' ()) (st' ()) N (kd' ()) := by rw [← h3,← h4,← h5]
theorem dgSpec_cU {N : SV → Prop} (h3 : ∀ u,env = env' u) (h4 : ∀ u,st = st' u) (h6 : ∀ u,g = g' u) (h5 : ∀ u,kd = kd' u) : dgSpec P M o env st g N kd = dgSpec P M o (env' ()) (st' ()) (g' ()) N (kd' ()) := by rw [← h3,← h4,← h5,← h6]
theorem drawSpec_cU {N : List SV → Prop} (h1 : ∀ u,ds = ds' u) (h2 : ∀ u,l = l' u) (h3 : ∀ u,env = env' u) (h4 : ∀ u,st = st' u) : drawSpec P M ds l env st N = drawSpec P M (ds' ()) (l' ()) (env' ()) (st' ()) N := by rw [← h1,← h2,← h3,← h4]
theorem cSpec_cU {c : Code} {Q : Exit → List SV → St → Prop} (h3 : ∀ u,env = env' u) (h4 : ∀ u,st = st' u) : cSpec P M c Q env st = cSpec P M c Q (env' ()) (st' ()) := by rw [← h3,← h4]
variable {x y : SV} {x' y' : Unit → SV} {t tx : TypeId} {a : List SV} {a' : Unit → List SV}
theorem storeSpec_cU {N : St → Prop} (h : ∀ u,st = st' u) (h1 : ∀ u,y = y' u) (h2 : ∀ u,x = x' u) : storeSpec P t st y x N = storeSpec P t (st' ()) (y' ()) (x' ()) N := by rw [← h,← h1,← h2]
theorem appSpec_cU (h : ∀ u,st = st' u) (h1 : ∀ u,x = x' u) (h2 : ∀ u,y = y' u) : appSpec P t tx st x y K = appSpec P t tx (st' ()) (x' ()) (y' ()) K := by rw [← h,← h1,← h2]
theorem appObSpec_cU (h : ∀ u,st = st' u) (h1 : ∀ u,x = x' u) (h2 : ∀ u,y = y' u) : appObSpec P t tx st x y K = appObSpec P t tx (st' ()) (x' ()) (y' ()) K := by rw [← h,← h1,← h2]
theorem appMkSpec_cU (h : ∀ u,st = st' u) (h1 : ∀ u,x = x' u) (h2 : ∀ u,y = y' u) : appMkSpec P t tx st x y K = appMkSpec P t tx (st' ()) (x' ()) (y' ()) K := by rw [← h,← h1,← h2]
theorem copySpec_cU (h : ∀ u,st = st' u) (h1 : ∀ u,x = x' u) (h2 : ∀ u,y = y' u) : copySpec P t st x y K = copySpec P t (st' ()) (x' ()) (y' ()) K := by rw [← h,← h1,← h2]
theorem makeSpec_cU (h : ∀ u,st = st' u) (h1 : ∀ u,x = x' u) (h2 : ∀ u,y = y' u) : makeSpec P t st x y K = makeSpec P t (st' ()) (x' ()) (y' ()) K := by rw [← h,← h1,← h2]
theorem callSpec_cU (h : ∀ u,a = a' u) (h1 : ∀ u,st = st' u) (h2 : ∀ u,x = x' u) : callSpec P a st x K = callSpec P (a' ()) (st' ()) (x' ()) K := by rw [← h,← h1,← h2]
theorem capSpec_cU (h : ∀ u,st = st' u) (h1 : ∀ u,x = x' u) : capSpec P t st x K = capSpec P t (st' ()) (x' ()) K := by rw [← h,← h1]
attribute [congr] capSpec_cU opsSpec_cU kdSpec_cU gdSpec_cU dkSpec_cU dgSpec_cU drawSpec_cU cSpec_cU storeSpec_cU appSpec_cU appObSpec_cU appMkSpec_cU copySpec_cU makeSpec_cU callSpec_cU
end
section
variable {M : List Nat} {ds : List (Option Tmp)} {ks : List Nat} {tbl : List (List Nat × St)} {i : Nat} {L : List (List Nat)} {Ls : List (List (List Nat))} {o : Oper} {r : List Oper} {env : List SV} {K : List SV → Prop}
end
end Go.AL
namespace Go.AL
variable {P : Program}
end Go.AL
namespace Go.AL
abbrev i64 (n : Int) : SV := .sc (.int .i64 n)
abbrev str (s : ByteArray) : SV := .sc (.string s)
@[go_sem] theorem kind_cap (a : Array Operand) (ts : Array TypeId) : kindOf (.call ⟨.builtin .cap,a,ts⟩) = .eff := rfl
section
variable {P : Program} {M : List Nat} {Q : Exit → List SV → St → Prop} {env : List SV} {st : St}
def thenH (P : Program) (M : List Nat) [h : Held (Code × (Exit → List SV → St → Prop))] : Exit → List SV → St → Prop := thenQ (cSpec P M h.val.1 h.val.2) h.val.2
def blockH (id : Nat) [h : Held (Exit → List SV → St → Prop)] : Exit → List SV → St → Prop := blockQ id h.val
theorem c_seqH (a b : Code) : cSpec P M (.seq a b) Q env st = cSpec P M a (@thenH P M ⟨(b,Q)⟩) env st := rfl
theorem then_nH (b : Code) : @thenH P M ⟨(b,Q)⟩ .normal env st = cSpec P M b Q env st := rfl
theorem then_rH (b : Code) : @thenH P M ⟨(b,Q)⟩ .ret env st = Q .ret env st := rfl
theorem then_eH (b : Code) (id : Nat) : @thenH P M ⟨(b,Q)⟩ (.exit id) env st = Q (.exit id) env st := rfl
theorem c_blockH (id : Nat) (c : Code) : cSpec P M (.block id c) Q env st = cSpec P M c (@blockH id ⟨Q⟩) env st := rfl
theorem block_nH (id : Nat) : @blockH id ⟨Q⟩ .normal env st = Q .normal env st := rfl
theorem block_rH (id : Nat) : @blockH id ⟨Q⟩ .ret env st = Q .ret env st := rfl
theorem block_eH (id id' : Nat) : @blockH id ⟨Q⟩ (.exit id') env st = blockQ id Q (.exit id') env st := rfl
end
theorem c_condI {P : Program} {M : List Nat} {Q : Exit → List SV → St → Prop} {env : List SV} {st : St} (c : Operand) (x y : Code) : cSpec P M (.cond c x y) Q env st = (isB (ev env c) ∧ if bOf (ev env c) = true then cSpec P M x Q env st else cSpec P M y Q env st) := by
  rw [c_cond]
  cases bOf (ev env c) <;> simp
theorem awp_drawH {P : Program} (M : List Nat) {id : Nat} {ops : Array Oper} {Q : Exit → List SV → St → Prop} {env : List SV} {st : St} (hm : P.follows .mixedOrders = true) (hf : flowOk ops = true)
    (h : ∀ R : List SV → Prop,(∀ e,R e = Q .normal e st) → drawSpec P M (ops.toList.map (·.dst)) ops.toList env st R) : AWp P (.region id ops true) Q env st := awp_draw M hm hf (h _ fun _ => rfl)
theorem acalls_pureG {P : Program} {f : FuncId} {args : List SV} {K : SV → St → Prop} {st : St}
    (h : ACalls P f args (fun x s => ∃ ex,s = st ++ ex ∧ Ids st.length x ∧ K x st) st) : ACalls P f args K st := by
  intro σ w vs hI hR
  refine (h σ w vs hI hR).mono ?_
  rintro e w' ⟨v,x,st',σ',rfl,⟨ex,rfl,hids,hk⟩,hI',hr,hX⟩
  exact ⟨v,x,st,σ',rfl,hk,hI'.drop hI.obIds,hr.drop hids,hX.drop (Nat.le_refl _)⟩
def FinV (st : St) (K : SV → St → Prop) : SV → St → Prop := fun x s => ∃ y,SVle x y ∧ (∃ ex,s = st ++ ex) ∧ Ids st.length y ∧ K y st
theorem acalls_goV {P : Program} (M : List Nat) {f : FuncId} {fn : Func} {c : Code} {rs : Array ResultVar} {n : Nat} {args : List SV} {K : SV → St → Prop} {st : St} (hf : P.funcs[f]? = some fn) (hb : fn.body = some c)
    (hr : fn.results = rs) (hn : fn.ntmps = n) (h : cSpec P M c (RetR P rs.toList (FinV st K)) (args ++ List.replicate (n - args.length) .any) st) : ACalls P f args K st := by
  refine acalls_pureG (acalls_le ((acalls_go hf hb hr hn h).mono ?_))
  rintro x s ⟨y,hle,⟨ex,rfl⟩,hi,hk⟩
  exact ⟨y,hle,ex,rfl,hi,hk⟩
def FinW (st : St) (K : SV → St → Prop) : SV → St → Prop := fun x s => ∃ y s1 ex,SVle x y ∧ s = s1 ++ ex ∧ Mod st s1 ∧ Ids s1.length y ∧ K y s1
theorem acalls_modG {P : Program} {f : FuncId} {args : List SV} {K : SV → St → Prop} {st : St}
    (h : ACalls P f args (fun x s => ∃ s1 ex,s = s1 ++ ex ∧ Mod st s1 ∧ Ids s1.length x ∧ K x s1) st) : ACalls P f args K st := by
  intro σ w vs hI hR
  refine (h σ w vs hI hR).mono ?_
  rintro e w' ⟨v,x,st',σ',rfl,⟨s1,ex,rfl,hm,hids,hk⟩,hI',hr,hX⟩
  have hob : ∀ (id : Nat) (o : Ob),s1[id]? = some o → ObIds s1.length o := fun id o ho => (hm.all id o ho).elim (fun h1 => (hI.obIds id o h1).mono hm.len) fun h => h
  exact ⟨v,x,s1,σ',rfl,hk,hI'.drop hob,hr.drop hids,hX.drop hm.len⟩
theorem acalls_goW {P : Program} (M : List Nat) {f : FuncId} {fn : Func} {c : Code} {rs : Array ResultVar} {n : Nat} {args : List SV} {K : SV → St → Prop} {st : St} (hf : P.funcs[f]? = some fn) (hb : fn.body = some c)
    (hr : fn.results = rs) (hn : fn.ntmps = n) (h : cSpec P M c (RetR P rs.toList (FinW st K)) (args ++ List.replicate (n - args.length) .any) st) : ACalls P f args K st := by
  refine acalls_modG (acalls_le ((acalls_go hf hb hr hn h).mono ?_))
  rintro x s ⟨y,s1,ex,hle,rfl,hm,hi,hk⟩
  exact ⟨y,hle,s1,ex,rfl,hm,hi,hk⟩
theorem use_cut {Z G : Prop} (hz : Z) (h : Z → G) : G := h hz
theorem wrap1 {k : Nat} (h : k ≤ 4611686018427387904) : IntKind.i64.wrap ((k : Int) + 1) = ((k + 1 : Nat) : Int) := by rw [IntKind.wrap_i64]; omega
theorem wrapm {k : Nat} (h : k + 1 ≤ 4611686018427387904) : IntKind.i64.wrap (((k + 1 : Nat) : Int) - 1) = (k : Int) := by rw [IntKind.wrap_i64]; omega
theorem getm {α : Type} (f : α → SV) {l : List α} {i : Nat} (h : i < l.length) : (l.map f).getD i .any = f (l[i]'h) := by simp [List.getD_eq_getElem?_getD,h]
theorem getd {α : Type} [Inhabited α] {l : List α} {i : Nat} (h : i < l.length) : l.getD i default = l[i]'h := by simp [List.getD_eq_getElem?_getD,h]
def idxA {α : Type} (q : α → Bool) (l : List α) : Int := match l.findIdx? q with | some k => (k : Int) | none => -1
theorem idxA_any {α : Type} (q : α → Bool) (l : List α) : decide ((0 : Int) ≤ idxA q l) = l.any q := by
  unfold idxA
  cases h : l.findIdx? q with
  | none =>
    rw [List.findIdx?_eq_none_iff] at h
    have : l.any q = false := by rw [List.any_eq_false]; intro x hx; rw [h x hx]; decide
    rw [this]; rfl
  | some i =>
    rw [List.findIdx?_eq_some_iff_getElem] at h
    obtain ⟨hi,hp,_⟩ := h
    have : l.any q = true := by rw [List.any_eq_true]; exact ⟨l[i],List.getElem_mem hi,hp⟩
    rw [this]
    simp
theorem idxA_some {α : Type} {q : α → Bool} {l : List α} {k : Nat} (hk : k < l.length) (hno : ∀ j,j < k → ∀ x,l[j]? = some x → q x = false) (hy : q l[k] = true) : idxA q l = (k : Int) := by
  unfold idxA
  have : l.findIdx? q = some k := by
    rw [List.findIdx?_eq_some_iff_getElem]
    exact ⟨hk,hy,fun j hj => by rw [hno j hj _ (List.getElem?_eq_getElem (Nat.lt_trans hj hk))]; decide⟩
  rw [this]
theorem idxA_none {α : Type} {q : α → Bool} {l : List α} (hno : ∀ j,j < l.length → ∀ x,l[j]? = some x → q x = false) : idxA q l = -1 := by
  unfold idxA
  have : l.findIdx? q = none := by
    rw [List.findIdx?_eq_none_iff]
    intro x hx
    obtain ⟨i,hi⟩ := List.getElem?_of_mem hx
    exact hno i (lt_of_get hi) x hi
  rw [this]
end Go.AL
