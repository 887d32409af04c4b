/- next: where an instruction goes. -/
import Derived.Test.YtammbegfobhflaaGreatM6
set_option linter.all false
set_option linter.unusedSimpArgs false
set_option linter.unusedVariables false
set_option maxRecDepth 8000
namespace Go.AL
def GoodS (k : Nat) (s : Sta) : Prop := 0 ≤ s.depth ∧ s.depth ≤ 1000 ∧ (∀ m ∈ s.marks, 0 ≤ m.2) ∧ s.marks.length ≤ k
theorem GoodS.mono {k k' : Nat} {s : Sta} (h : GoodS k s) (hk : k ≤ k') : GoodS k' s := ⟨h.1, h.2.1, h.2.2.1, Nat.le_trans h.2.2.2 hk⟩
theorem base_pos {k : Nat} {s : Sta} (h : GoodS k s) : 0 ≤ baseF s := by
  unfold baseF
  cases e : s.marks.getLast? with
  | none => exact Int.le_refl _
  | some m => exact h.2.2.1 m (List.mem_of_getLast? e)
/-! What comes behind is held: simp does not look into it. -/
section
variable {P : Program} {M : List Nat} {Q : Exit → List SV → St → Prop} {env : List SV} {st : St}
def thenH (P : Program) (M : List Nat) [h : Held (Code × (Exit → List SV → St → Prop))] : Exit → List SV → St → Prop := thenQ (cSpec P M h.val.1 h.val.2) h.val.2
def blockH (id : Nat) [h : Held (Exit → List SV → St → Prop)] : Exit → List SV → St → Prop := blockQ id h.val
theorem c_seqH (a b : Code) : cSpec P M (.seq a b) Q env st = cSpec P M a (@thenH P M ⟨(b, Q)⟩) env st := rfl
theorem then_nH (b : Code) : @thenH P M ⟨(b, Q)⟩ .normal env st = cSpec P M b Q env st := rfl
theorem then_rH (b : Code) : @thenH P M ⟨(b, Q)⟩ .ret env st = Q .ret env st := rfl
theorem then_eH (b : Code) (id : Nat) : @thenH P M ⟨(b, Q)⟩ (.exit id) env st = Q (.exit id) env st := rfl
theorem c_blockH (id : Nat) (c : Code) : cSpec P M (.block id c) Q env st = cSpec P M c (@blockH id ⟨Q⟩) env st := rfl
theorem block_nH (id : Nat) : @blockH id ⟨Q⟩ .normal env st = Q .normal env st := rfl
theorem block_rH (id : Nat) : @blockH id ⟨Q⟩ .ret env st = Q .ret env st := rfl
theorem block_eH (id id' : Nat) : @blockH id ⟨Q⟩ (.exit id') env st = blockQ id Q (.exit id') env st := rfl
end
/-- A region of draws, what comes behind it not looked at. -/
theorem awp_drawH {P : Program} (M : List Nat) {id : Nat} {ops : Array Oper} {Q : Exit → List SV → St → Prop} {env : List SV} {st : St} (hm : P.follows .mixedOrders = true) (hf : flowOk ops = true)
    (h : ∀ R : List SV → Prop, (∀ e, R e = Q .normal e st) → drawSpec P M (ops.toList.map (·.dst)) ops.toList env st R) : AWp P (.region id ops true) Q env st := awp_draw M hm hf (h _ fun _ => rfl)
def effOk (b : Int) (x : Bool × Int × Int) : Prop := (x.2.1 = b ∨ x.2.1 = 0 ∨ x.2.1 = 1 ∨ x.2.1 = 2) ∧ (x.2.2 = 0 ∨ x.2.2 = 1)
theorem eff_ite {b : Int} {p : Prop} [Decidable p] {x y : Bool × Int × Int} (hx : effOk b x) (hy : effOk b y) : effOk b (if p then x else y) := by split <;> assumption
/-- What rules take and put. -/
theorem eff_bnd {c : Cd} {n : Nat} {i : In} (hb : 0 ≤ i.b ∧ i.b ≤ 65535) : 0 ≤ (effF c n i).2.1 ∧ (effF c n i).2.1 ≤ 65535 ∧ 0 ≤ (effF c n i).2.2 ∧ (effF c n i).2.2 ≤ 1 := by
  have key : effOk i.b (effF c n i) := by
    unfold effF
    dsimp only
    repeat (refine eff_ite ?_ ?_; · exact ⟨by simp, by simp⟩)
    exact ⟨by simp, by simp⟩
  obtain ⟨k1, k2⟩ := key
  omega
set_option maxHeartbeats 4000000 in
theorem go_good {c : Cd} {n p : Nat} {s : Sta} {m : List (Int × Sta)} {k : Nat} (hs : GoodS k s) (hd : s.depth ≤ 60) (hb : 0 ≤ ((c.funs.getD n default).code.getD p default).b ∧ ((c.funs.getD n default).code.getD p default).b ≤ 65535)
    (hm : nextF c n p s = some m) : ∀ t ∈ m, GoodS (k + 1) t.2 := by
  obtain ⟨h1, h2, h3, h4⟩ := hs
  unfold nextF at hm
  simp only at hm
  obtain ⟨i, hi⟩ : ∃ i, (c.funs.getD n default).code.getD p default = i := ⟨_, rfl⟩
  rw [hi] at hm hb
  obtain ⟨e1, e2, e3, e4⟩ := eff_bnd (c := c) (n := n) hb
  have hbs := base_pos (k := k) ⟨h1, h2, h3, h4⟩
  split at hm
  · cases hm
  rename_i hc
  have hc2 : ¬ (s.depth - (effF c n i).2.1 < baseF s) := fun h => hc (.inr h)
  have good_t : GoodS (k + 1) ⟨s.depth - (effF c n i).2.1 + (effF c n i).2.2, s.marks⟩ := ⟨by dsimp only; omega, by dsimp only; omega, h3, by dsimp only; omega⟩
  have good_s : GoodS (k + 1) s := ⟨h1, h2, h3, by omega⟩
  have good_w : ∀ q, GoodS (k + 1) (withF s q) := fun q => ⟨h1, h2, fun x hx => by
    simp only [withF] at hx
    rcases List.mem_append.1 hx with hx | hx
    · exact h3 x hx
    · simp only [List.mem_singleton] at hx; subst hx; exact h1, by simp [withF]; omega⟩
  have good_m : GoodS (k + 1) ⟨s.depth + 1, s.marks⟩ := ⟨by dsimp only; omega, by dsimp only; omega, h3, by dsimp only; omega⟩
  have good_d : GoodS (k + 1) ⟨s.depth, s.marks.dropLast⟩ := ⟨h1, h2, fun x hx => h3 x (List.dropLast_subset _ hx), by simp; omega⟩
  intro t ht
  unfold goF at hm
  repeat' split at hm
  all_goals first
    | cases hm; done
    | (simp only [Option.some.injEq] at hm; subst hm; simp only [List.not_mem_nil] at ht; done)
    | (simp only [Option.some.injEq] at hm; subst hm; simp only [List.mem_cons, List.not_mem_nil, or_false] at ht
       first
         | (rcases ht with rfl | rfl <;> first | exact good_t | exact good_s | exact good_w _ | exact good_m | exact good_d)
         | (subst ht; first | exact good_t | exact good_s | exact good_w _ | exact good_m | exact good_d))
end Go.AL
namespace Go.Proofs
open Go Go.AL
@[go_sem] theorem Tryz.aif137 : aIsFunc Tryz.prog 137 = true := by kernel_rfl
theorem Tryz.zero131 : zeroSV Tryz.prog 137 = some (.sc .nilFunc) := by kernel_rfl
theorem get_rule {T : St} (k : Int) : mapGet Tryz.prog 138 (T ++ [.map (litMap rulesL)]) (.mp T.length) (i64 k) = some (lookS rulesL (.sc .nilFunc) k, (rulesL.any fun p => p.1 == k)) := by
  rw [mapGet_int (es := litMap rulesL) Tryz.amap138 Tryz.zero131 (by simp [mapAt]) (litMap_int _), getOr_lit]
theorem tm_c (k : Int) (K : SV → St → Prop) (st : St) (h : K (.sc (.bool (k == 26))) st) (b : Int) : ACalls Tryz.prog 81 [mkSV (k, b)] K st := by
  refine acalls_go_pure [] Tryz.func81 rfl Tryz.results81 Tryz.ntmps81 ?_
  simp only [go_sem, mkSV]
  exact ⟨⟨[], by simp⟩, .sc _, h⟩
theorem moved_t (s t : Sta) (n : Int) (hd : -100000 ≤ s.depth ∧ s.depth ≤ 100000) (hn : -100000 ≤ n ∧ n ≤ 100000) (ht : (⟨s.depth + n, s.marks⟩ : Sta) = t) (K : SV → St → Prop) (st : St) (h : K (staSV t) st) : ACalls Tryz.prog 78 [staSV s, i64 n] K st := moved_c s n hd hn K st (by rw [ht]; exact h)
/-! The map of what ends what. -/
def wES : List (Value × SV) := numMap [(22, 21), (27, 26), (29, 28)]
theorem w_es : mapPut (mapPut (mapPut [] (.int .i64 22) (.sc (.int .i64 21))) (.int .i64 27) (.sc (.int .i64 26))) (.int .i64 29) (.sc (.int .i64 28)) = wES := by kernel_rfl
theorem put_app2 {P : Program} {t kt e : TypeId} (hm : aMap P t = some (kt, .int .i64, e)) {st : St} {A : Ob} {es : List (Value × SV)} {n : Int} {v : SV} {N : St → Prop} (hk : IntKeys es) :
    putSpec P t (st ++ [A, .map es]) (.mp (st.length + 1)) (.sc (.int .i64 n)) v N = N (st ++ [A, .map (mapPut es (.int .i64 n) v)]) := by
  have := put_last hm (st := st ++ [A]) (es := es) (n := n) (v := v) (N := N) hk
  simpa using this
theorem ids_tg (n : Nat) (t : Int × Sta) : Ids n (tgSV t) := by
  simp only [tgSV, ids_agg, List.forall_mem_cons, ids_sc, true_and]
  exact ⟨ids_mks n _ (.inl rfl) _, fun x hx => by cases hx⟩
theorem lv_yes {α : Type} {o : Option (Int × Int)} {w : Int} {x : α} : (∃ m, o = some m ∧ m.1 = w) → (match o with | none => none | some m => if m.1 = w then some x else none) = some x := by
  rintro ⟨m, rfl, h⟩
  simp only [h, if_true]
theorem lv_no {α : Type} {o : Option (Int × Int)} {w : Int} {x : α} : (¬ ∃ m, o = some m ∧ m.1 = w) → (match o with | none => none | some m => if m.1 = w then some x else none) = none := by
  intro h
  cases o with
  | none => rfl
  | some m => exact if_neg fun e => h ⟨m, rfl, e⟩
theorem without_yes (s : Sta) (k : Int) (hm : ∃ m, s.marks.getLast? = some m ∧ m.1 = k) (hl : s.marks.length ≤ 100000) (K : SV → St → Prop) (st : St) (h : K (.tuple [staSV ⟨s.depth, s.marks.dropLast⟩, .sc (.bool true)]) st) : ACalls Tryz.prog 82 [staSV s, i64 k] K st := by
  obtain ⟨m, e, hm⟩ := hm
  refine without_c s k hl K st ?_
  simp only [e, hm, if_true]
  exact h
theorem without_no (s : Sta) (k : Int) (hm : ¬ ∃ m, s.marks.getLast? = some m ∧ m.1 = k) (hl : s.marks.length ≤ 100000) (K : SV → St → Prop) (st : St) (h : K (.tuple [staSV s, .sc (.bool false)]) st) : ACalls Tryz.prog 82 [staSV s, i64 k] K st := by
  refine without_c s k hl K st ?_
  cases e : s.marks.getLast? with
  | none => exact h
  | some m => simp only [show ¬ m.1 = k from fun x => hm ⟨m, e, x⟩, if_false]; exact h
theorem get_w (k : Int) {S : St} {A : Ob} : mapGet Tryz.prog 100 (S ++ [A, .map wES]) (.mp (S.length + 1)) (i64 k) = some (i64 (lookL [(22, 21), (27, 26), (29, 28)] k), ([(22, 21), (27, 26), (29, 28)] : List (Int × Int)).any fun p => p.1 == k) := by
  have := get_num (T := S ++ [A]) [(22, 21), (27, 26), (29, 28)] k
  simpa [wES] using this
theorem get_w22 {S : St} {A : Ob} : mapGet Tryz.prog 100 (S ++ [A, .map wES]) (.mp (S.length + 1)) (i64 22) = some (i64 21, true) := get_w 22
theorem get_w27 {S : St} {A : Ob} : mapGet Tryz.prog 100 (S ++ [A, .map wES]) (.mp (S.length + 1)) (i64 27) = some (i64 26, true) := get_w 27
theorem get_w29 {S : St} {A : Ob} : mapGet Tryz.prog 100 (S ++ [A, .map wES]) (.mp (S.length + 1)) (i64 29) = some (i64 28, true) := get_w 29
section
variable {c : Cd} {m1 m2 m3 : AL.Mode} {z1 z2 z3 : Nat} {n : Nat} {f : Bd} {id : Nat} {st : St} {K : SV → St → Prop}
theorem ids_tgs (n : Nat) (m : AL.Mode) (hm : m = .imm ∨ m = .full) (z : Nat) (l : List (Int × Sta)) (hz : l ≠ [] → z = 3) : Ids n (.slice m z (l.map tgSV)) := by
  refine ids_slice hm fun x hx y hy => ?_
  obtain ⟨a, _, rfl⟩ := List.mem_map.1 hx
  simp only [tgSV, SV.cells, List.mem_cons, List.not_mem_nil, or_false] at hy
  rcases hy with rfl | rfl | rfl
  · exact .sc _
  · exact .sc _
  · exact ids_mks n _ (.inl rfl) _
theorem ids_two {n : Nat} {X : SV} {b : Bool} (h : Ids n X) : Ids n (.tuple [X, .sc (.bool b)]) := by
  refine .tuple _ fun i hi' => ?_
  match i, hi' with
  | 0, _ => exact h
  | 1, _ => exact .sc _
/-- A call's end of this one. -/
theorem fin_no {z : Nat} {l : List (Int × Sta)} {s : St} (hs : ∃ ex, s = st ++ ex) (hz : l ≠ [] → z = 3) (h : ∀ X, K (.tuple [X, .sc (.bool false)]) st) : FinK st K (.tuple [.slice .full z (l.map tgSV), .sc (.bool false)]) s :=
  ⟨hs, ids_two (ids_tgs _ .imm (.inl rfl) z l hz), h _⟩
theorem fin_yes {z : Nat} {l : List (Int × Sta)} {s : St} (hs : ∃ ex, s = st ++ ex) (hz : l ≠ [] → z = 3) (h : K (.tuple [.slice .imm z (l.map tgSV), .sc (.bool true)]) st) : FinK st K (.tuple [.slice .full z (l.map tgSV), .sc (.bool true)]) s :=
  ⟨hs, ids_two (ids_tgs _ .imm (.inl rfl) z l hz), h⟩
end
end Go.Proofs
