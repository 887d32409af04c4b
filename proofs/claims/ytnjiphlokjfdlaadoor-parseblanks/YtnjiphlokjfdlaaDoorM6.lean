/- Two runs of the parser, side by side: over tokens that differ in their places alone (ex), or of which one stands within brackets. -/
import Derived.Test.YtnjiphlokjfdlaaDoorP4
set_option linter.unusedSimpArgs false
set_option linter.unusedVariables false
namespace Go.AL
mutual
/-- Are nodes the same, but for their places? -/
def sameB : Nd → Nd → Bool
  | .mk k t n _ ns ks, .mk k' t' n' _ ns' ks' => decide (k = k') && decide (t = t') && decide (n = n') && decide (ns = ns') && sameBs ks ks'
def sameBs : List Nd → List Nd → Bool
  | [], [] => true
  | a :: l, b :: r => sameB a b && sameBs l r
  | _, _ => false
end
theorem sameBs_app : ∀ {l1 l2 m1 m2 : List Nd}, sameBs l1 l2 = true → sameBs m1 m2 = true → sameBs (l1 ++ m1) (l2 ++ m2) = true
  | [], [], _, _, _, h => h
  | a :: l, b :: r, m1, m2, h, h2 => by
    simp only [sameBs, Bool.and_eq_true] at h
    simp only [List.cons_append, sameBs, Bool.and_eq_true]
    exact ⟨h.1, sameBs_app h.2 h2⟩
  | [], _ :: _, _, _, h, _ => by simp [sameBs] at h
  | _ :: _, [], _, _, h, _ => by simp [sameBs] at h
theorem sameBs_len : ∀ {l1 l2 : List Nd}, sameBs l1 l2 = true → l1.length = l2.length
  | [], [], _ => rfl
  | a :: l, b :: r, h => by
    simp only [sameBs, Bool.and_eq_true] at h
    simp [sameBs_len h.2]
  | [], _ :: _, h => by simp [sameBs] at h
  | _ :: _, [], h => by simp [sameBs] at h
theorem same_parts {a b : Nd} (h : sameB a b = true) : a.kind = b.kind ∧ a.text = b.text ∧ a.num = b.num ∧ a.names = b.names ∧ sameBs a.kids b.kids = true := by
  cases a; cases b
  simp only [sameB, Bool.and_eq_true, decide_eq_true_eq] at h
  obtain ⟨⟨⟨⟨h1, h2⟩, h3⟩, h4⟩, h5⟩ := h
  exact ⟨h1, h2, h3, h4, h5⟩
theorem same_mk {a b : Nd} (h1 : a.kind = b.kind) (h2 : a.text = b.text) (h3 : a.num = b.num) (h4 : a.names = b.names) (h5 : sameBs a.kids b.kids = true) : sameB a b = true := by
  cases a; cases b
  simp only [sameB, Bool.and_eq_true, decide_eq_true_eq]
  exact ⟨⟨⟨⟨h1, h2⟩, h3⟩, h4⟩, h5⟩
theorem same_node {k a b : Int} {t : Tx} {l r : List Nd} (h : sameBs l r = true) : sameB (nodeF k a t l) (nodeF k b t r) = true := same_mk rfl rfl rfl rfl h
theorem same_adds {a b : Nd} {l r : List Nd} (h : sameB a b = true) (h2 : sameBs l r = true) : sameB (a.addKids l) (b.addKids r) = true := by
  obtain ⟨h1, h3, h4, h5, h6⟩ := same_parts h
  cases a; cases b
  exact same_mk h1 h3 h4 h5 (sameBs_app h6 h2)
theorem sameBs1 {a b : Nd} (h : sameB a b = true) : sameBs [a] [b] = true := by simp [sameBs, h]
theorem sameBs2 {a b c d : Nd} (h : sameB a b = true) (h2 : sameB c d = true) : sameBs [a, c] [b, d] = true := by simp [sameBs, h, h2]
theorem sameBs3 {a b c d e f : Nd} (h : sameB a b = true) (h2 : sameB c d = true) (h3 : sameB e f = true) : sameBs [a, c, e] [b, d, f] = true := by simp [sameBs, h, h2, h3]
theorem same_add {a b c d : Nd} (h : sameB a b = true) (h2 : sameB c d = true) : sameB (a.addKid c) (b.addKid d) = true := by
  rw [addKid_eq, addKid_eq]; exact same_adds h (sameBs1 h2)
theorem same_name {a b : Nd} (h : sameB a b = true) {s t : Tx} (e : s = t) : sameB (a.addName s) (b.addName t) = true := by
  subst e
  obtain ⟨h1, h3, h4, h5, h6⟩ := same_parts h
  cases a; cases b
  exact same_mk h1 h3 h4 (congrArg (· ++ [s]) h5) h6
structure Rel (d lo : Nat) (p1 p2 : PS) : Prop where
  lo : lo ≤ p1.pos
  pos : p2.pos = p1.pos + d
  deep : p2.deep = p1.deep + d
  flat : p2.flat = p1.flat
  e : p2.e = p1.e
def Ok (ex : Bool) (q1 q2 : PS) : Prop := ex = true ∨ (q1.e = 0 ∧ q2.e = 0)
def Sm (t1 t2 : Tk) : Prop := t1.kind = t2.kind ∧ t1.text = t2.text ∧ t1.num = t2.num
structure TR (ex : Bool) (d lo : Nat) (T1 T2 : List Tk) : Prop where
  k1 : TOK T1
  k2 : TOK T2
  dx : ex = true → d = 0
  tk : ∀ i, lo ≤ i → i < T1.length → ∃ t1 t2, T1[i]? = some t1 ∧ T2[i + d]? = some t2 ∧ (Sm t1 t2 ∨ (ex = false ∧ i + 1 = T1.length ∧ t1.kind = 0 ∧ t2.kind = 5 ∧ t2.text = [41]))
structure Bd (T : List Tk) (m : Nat) (p : PS) : Prop where
  lt : p.pos < T.length
  lo : m ≤ p.deep
  hi : p.deep ≤ 40
variable {ex : Bool} {d lo : Nat} {T1 T2 T : List Tk}
theorem Bd.next {m : Nat} {p q : PS} (b : Bd T m p) (s : Step T p q) : Bd T m q := ⟨s.lt, by rw [s.deep]; exact b.lo, by rw [s.deep]; exact b.hi⟩
theorem Ok.back {p1 p2 q1 q2 : PS} (h : Ok ex q1 q2) (s1 : Step T1 p1 q1) (s2 : Step T2 p2 q2) : Ok ex p1 p2 := h.imp id fun x => ⟨s1.e0 x.1, s2.e0 x.2⟩
theorem Ok.f {q1 q2 : PS} (h : Ok ex q1 q2) (hx : ex = false) : q1.e = 0 ∧ q2.e = 0 := h.resolve_left (by rw [hx]; decide)
theorem Tot.st {m : Nat} {e : PM Nd} (h : Tot T m e) {p : PS} (b : Bd T m p) {r : Nd} {q : PS} (hr : e p = some (r, q)) : Step T p q ∧ Strict p q := by
  obtain ⟨nd, q', h1, h2, h3, _⟩ := h p b.lt b.lo b.hi
  rw [h1] at hr; cases hr; exact ⟨h2, h3⟩
theorem end_err {p q : PS} (s : Step T p q) (x : Strict p q) (h : p.pos + 1 = T.length) (h0 : p.e = 0) : q.e ≠ 0 := fun z => by
  have := x h0 z; have := s.lt; omega
/-- What stands at two places that belong together. -/
def TkR (ex : Bool) (T1 : List Tk) (p1 : PS) (t1 t2 : Tk) : Prop := Sm t1 t2 ∨ (ex = false ∧ p1.pos + 1 = T1.length ∧ p1.e = 0 ∧ t1.kind = 0 ∧ t2.kind = 5 ∧ t2.text = [41])
theorem look_rel (H : TR ex d lo T1 T2) {p1 p2 : PS} (R : Rel d lo p1 p2) (hp : p1.pos < T1.length) {t1 t2 : Tk} (h1 : lookF T1 p1 = some t1) (h2 : lookF T2 p2 = some t2) : TkR ex T1 p1 t1 t2 := by
  unfold lookF at h1 h2
  rw [R.e, R.pos] at h2
  by_cases he : p1.e = 0
  · rw [if_pos he] at h1 h2
    obtain ⟨u1, u2, g1, g2, g3⟩ := H.tk p1.pos R.lo hp
    rw [h1] at g1; rw [h2] at g2
    cases g1; cases g2
    exact g3.imp id fun ⟨a, b, c⟩ => ⟨a, b, he, c⟩
  · rw [if_neg he] at h1 h2
    cases h1; cases h2; exact .inl ⟨rfl, rfl, rfl⟩
theorem Sm.isT {t1 t2 : Tk} (h : Sm t1 t2) (s : Tx) : isT t1 s = isT t2 s := by unfold AL.isT; rw [h.1, h.2.1]
theorem TkR.isT {p1 : PS} {t1 t2 : Tk} (h : TkR ex T1 p1 t1 t2) {s : Tx} (hs : s ≠ [41]) : isT t1 s = isT t2 s := by
  rcases h with h | ⟨_, _, _, h1, h2, h3⟩
  · exact h.isT s
  · unfold AL.isT
    have e : ([41] == s) = false := beq_eq_false_iff_ne.2 (fun h => hs h.symm)
    rw [h1, h2, h3, e]; simp
theorem TkR.kind {p1 : PS} {t1 t2 : Tk} (h : TkR ex T1 p1 t1 t2) {k : Int} (h0 : k ≠ 0) (h5 : k ≠ 5) : (t1.kind = k) = (t2.kind = k) := by
  rcases h with h | ⟨_, _, _, h1, h2, h3⟩
  · rw [h.1]
  · rw [h1, h2]; exact propext ⟨fun x => absurd x.symm h0, fun x => absurd x.symm h5⟩
theorem TkR.sm {p1 : PS} {t1 t2 : Tk} (h : TkR ex T1 p1 t1 t2) (hk : t1.kind ≠ 0) : Sm t1 t2 := h.resolve_right fun x => hk x.2.2.2.1
theorem is_inv {p : PS} {s : Tx} {b : Bool} (h : isF T s p = some b) : ∃ t, lookF T p = some t ∧ b = isT t s := by
  unfold isF at h
  cases hl : lookF T p with
  | none => rw [hl] at h; cases h
  | some t => rw [hl] at h; cases h; exact ⟨t, rfl, rfl⟩
theorem is_rel (H : TR ex d lo T1 T2) {p1 p2 : PS} (R : Rel d lo p1 p2) (hp : p1.pos < T1.length) {s : Tx} (hs : s ≠ [41]) {b1 b2 : Bool} (h1 : isF T1 s p1 = some b1) (h2 : isF T2 s p2 = some b2) : b1 = b2 := by
  obtain ⟨t1, g1, rfl⟩ := is_inv h1
  obtain ⟨t2, g2, rfl⟩ := is_inv h2
  exact (look_rel H R hp g1 g2).isT hs
theorem take_inv {p q : PS} {t : Tk} (h : takeF T p = some (t, q)) : lookF T p = some t ∧ q = if p.e = 0 ∧ t.kind ≠ 0 then { p with pos := p.pos + 1 } else p := by
  unfold takeF at h
  cases hl : lookF T p with
  | none => rw [hl] at h; cases h
  | some u => rw [hl] at h; cases h; exact ⟨rfl, rfl⟩
theorem take_st (hT : TOK T) {p q : PS} (hp : p.pos < T.length) {t : Tk} (h : takeF T p = some (t, q)) : Step T p q ∧ (t.kind ≠ 0 → Strict p q) := by
  obtain ⟨h1, _⟩ := take_inv h
  obtain ⟨q', h2, h3, _, h4, _⟩ := take_ok hT hp h1
  rw [h2] at h; cases h
  exact ⟨h3, fun k _ _ => by have := (h4 k).2; omega⟩
/-- Taking goes alike where the tokens are the same. -/
theorem take_rel {p1 p2 q1 q2 : PS} (R : Rel d lo p1 p2) {t1 t2 : Tk} (h1 : takeF T1 p1 = some (t1, q1)) (h2 : takeF T2 p2 = some (t2, q2)) (hs : Sm t1 t2) : Rel d lo q1 q2 := by
  obtain ⟨_, rfl⟩ := take_inv h1
  obtain ⟨_, rfl⟩ := take_inv h2
  rw [R.e, ← hs.1]
  by_cases c : p1.e = 0 ∧ t1.kind ≠ 0
  · rw [if_pos c, if_pos c]
    exact ⟨by show lo ≤ p1.pos + 1; have := R.lo; omega, by show p2.pos + 1 = p1.pos + 1 + d; have := R.pos; omega, R.deep, R.flat, rfl⟩
  · rw [if_neg c, if_neg c]; exact R
theorem may_st (hT : TOK T) {p q : PS} (hp : p.pos < T.length) {s : Tx} {b : Bool} (h : mayF T s p = some (b, q)) : Step T p q := by
  obtain ⟨b', q', h1, h2, _⟩ := may_ok hT hp s
  rw [h1] at h; cases h; exact h2
theorem may_inv {p q : PS} {s : Tx} {b : Bool} (h : mayF T s p = some (b, q)) : ∃ t, lookF T p = some t ∧ b = isT t s ∧ (if b = true then takeF T p = some (t, q) else q = p) := by
  unfold mayF at h
  simp only [Option.bind_eq_some_iff] at h
  obtain ⟨b', h1, h2⟩ := h
  obtain ⟨t, h3, rfl⟩ := is_inv h1
  cases hb : isT t s with
  | true =>
    rw [hb] at h2
    simp only [if_true, Option.map_eq_some_iff, Prod.exists, Prod.mk.injEq] at h2
    obtain ⟨u, q', h4, rfl, rfl⟩ := h2
    obtain ⟨h5, _⟩ := take_inv h4
    rw [h3] at h5; cases h5
    exact ⟨t, h3, hb.symm, by simpa using h4⟩
  | false =>
    rw [hb] at h2
    simp only [Bool.false_eq_true, if_false, Option.some.injEq, Prod.mk.injEq] at h2
    obtain ⟨rfl, rfl⟩ := h2
    exact ⟨t, h3, hb.symm, by simp⟩
theorem may_rel (H : TR ex d lo T1 T2) {p1 p2 q1 q2 : PS} (R : Rel d lo p1 p2) (hp : p1.pos < T1.length) {s : Tx} (hs : s ≠ [41]) {b1 b2 : Bool} (h1 : mayF T1 s p1 = some (b1, q1)) (h2 : mayF T2 s p2 = some (b2, q2)) : b1 = b2 ∧ Rel d lo q1 q2 := by
  obtain ⟨t1, g1, e1, k1⟩ := may_inv h1
  obtain ⟨t2, g2, e2, k2⟩ := may_inv h2
  have hR := look_rel H R hp g1 g2
  have he : b1 = b2 := by rw [e1, e2]; exact hR.isT hs
  subst he
  refine ⟨rfl, ?_⟩
  cases b1 with
  | true =>
    simp only [if_true] at k1 k2
    exact take_rel R k1 k2 (hR.sm (isT_kind e1.symm))
  | false =>
    simp only [Bool.false_eq_true, if_false] at k1 k2
    subst k1; subst k2; exact R
theorem fail_inv {p q : PS} {e : Int} (h : failF T e p = some q) : q.pos = p.pos ∧ q.deep = p.deep ∧ q.flat = p.flat ∧ q.e = if p.e = 0 then e else p.e := by
  unfold failF at h
  by_cases c : p.e = 0
  · rw [if_pos c] at h ⊢
    cases hx : T[p.pos]? with
    | none => rw [hx] at h; cases h
    | some t => rw [hx] at h; cases h; exact ⟨rfl, rfl, rfl, rfl⟩
  · rw [if_neg c] at h ⊢; cases h; exact ⟨rfl, rfl, rfl, rfl⟩
theorem fail_ne {p q : PS} {e : Int} (h : failF T e p = some q) (he : e ≠ 0) : q.e ≠ 0 := by
  rw [(fail_inv h).2.2.2]; split
  · exact he
  · assumption
theorem fail_st {p q : PS} (hp : p.pos < T.length) {e : Int} (h : failF T e p = some q) : Step T p q := by
  unfold failF at h
  by_cases c : p.e = 0
  · rw [if_pos c] at h
    cases hx : T[p.pos]? with
    | none => rw [hx] at h; cases h
    | some t => rw [hx] at h; cases h; exact ⟨rfl, rfl, Nat.le_refl _, hp, fun x => absurd c x⟩
  · rw [if_neg c] at h; cases h; exact .refl hp
theorem fail_rel {p1 p2 q1 q2 : PS} (R : Rel d lo p1 p2) {e : Int} (h1 : failF T1 e p1 = some q1) (h2 : failF T2 e p2 = some q2) : Rel d lo q1 q2 := by
  obtain ⟨a1, a2, a3, a4⟩ := fail_inv h1
  obtain ⟨b1, b2, b3, b4⟩ := fail_inv h2
  exact ⟨by rw [a1]; exact R.lo, by rw [a1, b1]; exact R.pos, by rw [a2, b2]; exact R.deep, by rw [a3, b3]; exact R.flat, by rw [a4, b4, R.e]⟩
theorem must_inv {p q : PS} {s : Tx} (h : mustF T s p = some q) : ∃ b q', mayF T s p = some (b, q') ∧ (if b = true then q = q' else failF T 14 q' = some q) := by
  unfold mustF at h
  simp only [Option.bind_eq_some_iff, Prod.exists] at h
  obtain ⟨b, q', h1, h2⟩ := h
  refine ⟨b, q', h1, ?_⟩
  cases b with
  | true => simp only [if_true, Option.some.injEq] at h2 ⊢; exact h2.symm
  | false => simpa using h2
theorem must_st (hT : TOK T) {p q : PS} (hp : p.pos < T.length) {s : Tx} (h : mustF T s p = some q) : Step T p q ∧ Strict p q := by
  obtain ⟨q', h1, h2, h3⟩ := must_ok hT hp s
  rw [h1] at h; cases h; exact ⟨h2, h3⟩
theorem must_rel (H : TR ex d lo T1 T2) {p1 p2 q1 q2 : PS} (R : Rel d lo p1 p2) (hp : p1.pos < T1.length) {s : Tx} (h1 : mustF T1 s p1 = some q1) (h2 : mustF T2 s p2 = some q2) (o : Ok ex q1 q2) : Rel d lo q1 q2 := by
  obtain ⟨t1, g1, _⟩ := look_ok hp
  obtain ⟨b1, r1, m1, k1⟩ := must_inv h1
  obtain ⟨b2, r2, m2, k2⟩ := must_inv h2
  obtain ⟨u1, l1, e1, j1⟩ := may_inv m1
  obtain ⟨u2, l2, e2, j2⟩ := may_inv m2
  have hR := look_rel H R hp l1 l2
  rcases hR with hS | ⟨hx, hend, h0, hk, _, _⟩
  · have he : b1 = b2 := by rw [e1, e2]; exact hS.isT s
    subst he
    cases b1 with
    | true =>
      simp only [if_true] at k1 k2 j1 j2
      subst k1; subst k2
      exact take_rel R j1 j2 hS
    | false =>
      simp only [Bool.false_eq_true, if_false] at k1 k2 j1 j2
      subst j1; subst j2
      exact fail_rel R k1 k2
  · obtain ⟨s1, x1⟩ := must_st H.k1 hp h1
    exact absurd (o.f hx).1 (end_err s1 x1 hend h0)
theorem word_inv {p q : PS} {k : Int} {t : Tk} (h : wordF T k p = some (t, q)) : ∃ u p1, lookF T p = some u ∧ (if u.kind ≠ k then failF T 14 p = some p1 else p1 = p) ∧ takeF T p1 = some (t, q) := by
  unfold wordF at h
  simp only [Option.bind_eq_some_iff] at h
  obtain ⟨u, h1, p1, h2, h3⟩ := h
  refine ⟨u, p1, h1, ?_, h3⟩
  by_cases c : u.kind ≠ k
  · rw [if_pos c] at h2 ⊢; exact h2
  · rw [if_neg c] at h2 ⊢; exact (Option.some.inj h2).symm
theorem word_st (hT : TOK T) {p q : PS} (hp : p.pos < T.length) {k : Int} (hk : k ≠ 0) {t : Tk} (h : wordF T k p = some (t, q)) : Step T p q ∧ Strict p q := by
  obtain ⟨t', q', h1, h2, h3, _⟩ := word_ok hT hp hk
  rw [h1] at h; cases h; exact ⟨h2, h3⟩
theorem word_rel (H : TR ex d lo T1 T2) {p1 p2 q1 q2 : PS} (R : Rel d lo p1 p2) (hp : p1.pos < T1.length) {k : Int} (hk : k ≠ 0) {t1 t2 : Tk} (h1 : wordF T1 k p1 = some (t1, q1)) (h2 : wordF T2 k p2 = some (t2, q2)) (o : Ok ex q1 q2) : Rel d lo q1 q2 ∧ Sm t1 t2 := by
  obtain ⟨u1, a1, l1, c1, k1⟩ := word_inv h1
  obtain ⟨u2, a2, l2, c2, k2⟩ := word_inv h2
  rcases look_rel H R hp l1 l2 with hS | ⟨hx, hend, h0, _⟩
  · rw [← hS.1] at c2
    by_cases c : u1.kind ≠ k
    · rw [if_pos c] at c1 c2
      have R' := fail_rel R c1 c2
      have n1 := fail_ne c1 (by decide)
      have n2 := fail_ne c2 (by decide)
      have v1 := (take_inv k1).1
      have v2 := (take_inv k2).1
      unfold lookF at v1 v2
      rw [if_neg n1] at v1; rw [if_neg n2] at v2
      cases v1; cases v2
      exact ⟨take_rel R' k1 k2 ⟨rfl, rfl, rfl⟩, rfl, rfl, rfl⟩
    · rw [if_neg c] at c1 c2
      subst c1; subst c2
      have v1 := (take_inv k1).1
      have v2 := (take_inv k2).1
      rw [l1] at v1; rw [l2] at v2
      cases v1; cases v2
      exact ⟨take_rel R k1 k2 hS, hS⟩
  · obtain ⟨s1, x1⟩ := word_st H.k1 hp hk h1
    exact absurd (o.f hx).1 (end_err s1 x1 hend h0)
theorem most_st {p q : PS} (hp : p.pos < T.length) {n m : Int} (h : mostF T n m p = some q) : Step T p q := by
  unfold mostF at h
  split at h
  · exact fail_st hp h
  · cases h; exact .refl hp
theorem most_rel {p1 p2 q1 q2 : PS} (R : Rel d lo p1 p2) {n n' m : Int} (hn : n = n') (h1 : mostF T1 n m p1 = some q1) (h2 : mostF T2 n' m p2 = some q2) : Rel d lo q1 q2 := by
  subst hn
  unfold mostF at h1 h2
  split at h1
  · rename_i c; rw [if_pos c] at h2; exact fail_rel R h1 h2
  · rename_i c; rw [if_neg c] at h2; cases h1; cases h2; exact R
/-- Two readers that go alike. -/
def RelF (ex : Bool) (d lo : Nat) (T1 T2 : List Tk) (m k : Nat) (f1 f2 : PM Nd) : Prop := ∀ (p1 p2 : PS) (r1 : Nd) (q1 : PS) (r2 : Nd) (q2 : PS), Bd T1 m p1 → Bd T2 k p2 → f1 p1 = some (r1, q1) → f2 p2 = some (r2, q2) → Rel d lo p1 p2 → Ok ex q1 q2 → Rel d lo q1 q2 ∧ sameB r1 r2 = true
end Go.AL
set_option linter.unusedSimpArgs false
set_option linter.unusedVariables false
namespace Go.AL
variable {ex : Bool} {d lo : Nat} {T1 T2 T : List Tk} {m k : Nat}
/-- A reader that takes something does not begin where the one ends and the other goes on. -/
theorem start_sm (H : TR ex d lo T1 T2) {f : PM Nd} (ft : Tot T1 m f) {p1 p2 q1 q2 : PS} {r1 : Nd} (B1 : Bd T1 m p1) (h1 : f p1 = some (r1, q1)) (R : Rel d lo p1 p2) (o : Ok ex q1 q2) {t1 t2 : Tk} (l1 : lookF T1 p1 = some t1) (l2 : lookF T2 p2 = some t2) : Sm t1 t2 := by
  rcases look_rel H R B1.lt l1 l2 with h | ⟨hx, hend, h0, _⟩
  · exact h
  · obtain ⟨s1, x1⟩ := ft.st B1 h1
    exact absurd (o.f hx).1 (end_err s1 x1 hend h0)
theorem bd_in {p : PS} (B : Bd T m p) (h : ¬ 40 ≤ p.deep) : Bd T (m + 1) { p with deep := p.deep + 1 } := ⟨B.lt, by show m + 1 ≤ p.deep + 1; have := B.lo; omega, by show p.deep + 1 ≤ 40; omega⟩
theorem in_rel (H : TR ex d lo T1 T2) {e1 e2 : PM Nd} (he : RelF ex d lo T1 T2 (m + 1) (k + 1) e1 e2) : RelF ex d lo T1 T2 m k (inF T1 e1) (inF T2 e2) := by
  intro p1 p2 r1 q1 r2 q2 B1 B2 h1 h2 R o
  unfold inF at h1 h2
  have key : ∀ {T : List Tk} {e : PM Nd} {p q : PS} {r : Nd}, 40 ≤ p.deep → (if 40 ≤ p.deep then failF T 15 p else some p).bind (fun p1 => if p1.e ≠ 0 then some (nd0, p1) else (e { p1 with deep := p1.deep + 1 }).bind fun r => if r.2.deep = 0 ∨ 1000 < r.2.deep then none else some (r.1, { r.2 with deep := r.2.deep - 1 })) = some (r, q) →
      failF T 15 p = some q ∧ r = nd0 := by
    intro T e p q r hd h
    rw [if_pos hd] at h
    simp only [Option.bind_eq_some_iff] at h
    obtain ⟨p', h3, h4⟩ := h
    rw [if_pos (fail_ne h3 (by decide))] at h4
    cases h4
    exact ⟨h3, rfl⟩
  by_cases c1 : 40 ≤ p1.deep
  · obtain ⟨f1, rfl⟩ := key c1 h1
    cases hx : ex with
    | true =>
      have hd := H.dx hx
      have c2 : 40 ≤ p2.deep := by rw [R.deep]; omega
      obtain ⟨f2, rfl⟩ := key c2 h2
      exact ⟨fail_rel R f1 f2, rfl⟩
    | false => exact absurd (o.f hx).1 (fail_ne f1 (by decide))
  · by_cases c2 : 40 ≤ p2.deep
    · obtain ⟨f2, rfl⟩ := key c2 h2
      cases hx : ex with
      | true => have hd := H.dx hx; rw [R.deep] at c2; omega
      | false => exact absurd (o.f hx).2 (fail_ne f2 (by decide))
    · rw [if_neg c1] at h1; rw [if_neg c2] at h2
      simp only [Option.bind_some] at h1 h2
      by_cases c : p1.e ≠ 0
      · rw [if_pos c] at h1; rw [if_pos (by rw [R.e]; exact c)] at h2
        cases h1; cases h2
        exact ⟨R, rfl⟩
      · rw [if_neg c] at h1; rw [if_neg (by rw [R.e]; exact c)] at h2
        simp only [Option.bind_eq_some_iff, Prod.exists] at h1 h2
        obtain ⟨n1, s1, k1, k2⟩ := h1
        obtain ⟨n2, s2, j1, j2⟩ := h2
        split at k2
        · cases k2
        split at j2
        · cases j2
        cases k2; cases j2
        rename_i g1 g2
        have := he _ _ _ _ _ _ (bd_in B1 c1) (bd_in B2 c2) k1 j1 ⟨R.lo, R.pos, by show p2.deep + 1 = p1.deep + 1 + d; have := R.deep; omega, R.flat, R.e⟩ o
        exact ⟨⟨this.1.lo, this.1.pos, by show s2.deep - 1 = s1.deep - 1 + d; have := this.1.deep; omega, this.1.flat, this.1.e⟩, this.2⟩
theorem round_rel (H : TR ex d lo T1 T2) {e1 e2 : PM Nd} (A1 : Tot T1 (m + 1) e1) (A2 : Tot T2 (k + 1) e2) (he : RelF ex d lo T1 T2 (m + 1) (k + 1) e1 e2) : RelF ex d lo T1 T2 m k (roundF T1 e1) (roundF T2 e2) := by
  intro p1 p2 r1 q1 r2 q2 B1 B2 h1 h2 R o
  unfold roundF at h1 h2
  simp only [Option.bind_eq_some_iff, Option.map_eq_some_iff, Prod.exists, Prod.mk.injEq] at h1 h2
  obtain ⟨a1, k1, n1, c1, k2, d1, k3, rfl, rfl⟩ := h1
  obtain ⟨a2, j1, n2, c2, j2, d2, j3, rfl, rfl⟩ := h2
  have s1 := (must_st H.k1 B1.lt k1).1
  have t1 := (must_st H.k2 B2.lt j1).1
  have s2 := ((in_tot H.k1 A1).st (B1.next s1) k2).1
  have t2 := ((in_tot H.k2 A2).st (B2.next t1) j2).1
  have s3 := (must_st H.k1 s2.lt k3).1
  have t3 := (must_st H.k2 t2.lt j3).1
  have o2 := o.back s3 t3
  have R1 := must_rel H R B1.lt k1 j1 (o2.back s2 t2)
  have R2 := in_rel H he _ _ _ _ _ _ (B1.next s1) (B2.next t1) k2 j2 R1 o2
  exact ⟨must_rel H R2.1 s2.lt k3 j3 o, R2.2⟩
theorem leaf_rel (H : TR ex d lo T1 T2) {kinds : List (Int × Int)} (hk : ∀ q ∈ kinds, q.1 ≠ 0) : RelF ex d lo T1 T2 m k (leafF T1 kinds) (leafF T2 kinds) := by
  intro p1 p2 r1 q1 r2 q2 B1 B2 h1 h2 R o
  have h1' := h1
  unfold leafF at h1 h2
  simp only [Option.bind_eq_some_iff] at h1 h2
  obtain ⟨t1, k1, h1⟩ := h1
  obtain ⟨t2, j1, h2⟩ := h2
  have hS := start_sm H (leaf_tot H.k1 (m := m) hk) B1 h1' R o k1 j1
  rw [← hS.1, ← hS.2.1, ← hS.2.2] at h2
  by_cases c : ((kinds.find? fun q => q.1 == t1.kind).map (·.2)).getD 0 = 0
  · rw [if_pos c] at h1 h2
    simp only [Option.map_eq_some_iff, Prod.mk.injEq] at h1 h2
    obtain ⟨a1, k2, rfl, rfl⟩ := h1
    obtain ⟨a2, j2, rfl, rfl⟩ := h2
    exact ⟨fail_rel R k2 j2, rfl⟩
  · rw [if_neg c] at h1 h2
    simp only [Option.map_eq_some_iff, Prod.exists, Prod.mk.injEq] at h1 h2
    obtain ⟨u1, a1, k2, rfl, rfl⟩ := h1
    obtain ⟨u2, a2, j2, rfl, rfl⟩ := h2
    have v1 := (take_inv k2).1
    have v2 := (take_inv j2).1
    rw [k1] at v1; rw [j1] at v2
    cases v1; cases v2
    exact ⟨take_rel R k2 j2 hS, same_mk rfl rfl rfl rfl rfl⟩
theorem tyL_st (hT : TOK T) {e : PM Nd} (A : Tot T (m + 1) e) : ∀ (n : Nat) (nd : Nd) (p : PS) (r : Nd) (q : PS), Bd T m p → tyL T e n nd p = some (r, q) → Step T p q
  | 0, nd, p, r, q, B, h => by cases h
  | n + 1, nd, p, r, q, B, h => by
    unfold tyL at h
    simp only [Option.bind_eq_some_iff] at h
    obtain ⟨t, k1, h⟩ := h
    split at h
    · simp only [Option.bind_eq_some_iff, Prod.exists] at h
      obtain ⟨u, a, k2, h⟩ := h
      have s1 := (take_st hT B.lt k2).1
      exact s1.trans (tyL_st hT A n _ _ _ _ (B.next s1) h)
    · simp only [Option.bind_eq_some_iff] at h
      obtain ⟨b, k2, h⟩ := h
      split at h
      · simp only [Option.bind_eq_some_iff, Prod.exists] at h
        obtain ⟨u, a, k3, h⟩ := h
        have s1 := ((round_tot hT A).st B k3).1
        exact s1.trans (tyL_st hT A n _ _ _ _ (B.next s1) h)
      · cases h; exact .refl B.lt
theorem tyL_rel (H : TR ex d lo T1 T2) {e1 e2 : PM Nd} (A1 : Tot T1 (m + 1) e1) (A2 : Tot T2 (k + 1) e2) (he : RelF ex d lo T1 T2 (m + 1) (k + 1) e1 e2) : ∀ (n1 n2 : Nat) (a b : Nd) (p1 p2 : PS) (r1 : Nd) (q1 : PS) (r2 : Nd) (q2 : PS), Bd T1 m p1 → Bd T2 k p2 →
    tyL T1 e1 n1 a p1 = some (r1, q1) → tyL T2 e2 n2 b p2 = some (r2, q2) → Rel d lo p1 p2 → Ok ex q1 q2 → sameB a b = true → Rel d lo q1 q2 ∧ sameB r1 r2 = true
  | 0, n2, a, b, p1, p2, r1, q1, r2, q2, B1, B2, h1, h2, R, o, hs => by cases h1
  | n1 + 1, 0, a, b, p1, p2, r1, q1, r2, q2, B1, B2, h1, h2, R, o, hs => by cases h2
  | n1 + 1, n2 + 1, a, b, p1, p2, r1, q1, r2, q2, B1, B2, h1, h2, R, o, hs => by
    unfold tyL at h1 h2
    simp only [Option.bind_eq_some_iff] at h1 h2
    obtain ⟨t1, k1, h1⟩ := h1
    obtain ⟨t2, j1, h2⟩ := h2
    have hR := look_rel H R B1.lt k1 j1
    have hk := hR.kind (k := 3) (by decide) (by decide)
    by_cases c : t1.kind = 3
    · rw [if_pos c] at h1; rw [if_pos (hk ▸ c)] at h2
      have hS := hR.sm (by omega)
      simp only [Option.bind_eq_some_iff, Prod.exists] at h1 h2
      obtain ⟨u1, a1, k2, h1⟩ := h1
      obtain ⟨u2, a2, j2, h2⟩ := h2
      have v1 := (take_inv k2).1
      have v2 := (take_inv j2).1
      rw [k1] at v1; rw [j1] at v2
      cases v1; cases v2
      have s1 := (take_st H.k1 B1.lt k2).1
      have t1 := (take_st H.k2 B2.lt j2).1
      exact tyL_rel H A1 A2 he n1 n2 _ _ _ _ _ _ _ _ (B1.next s1) (B2.next t1) h1 h2 (take_rel R k2 j2 hS) o (by rw [← hS.2.1]; exact same_add hs (same_node rfl))
    · rw [if_neg c] at h1; rw [if_neg (hk ▸ c)] at h2
      simp only [Option.bind_eq_some_iff] at h1 h2
      obtain ⟨b1, k2, h1⟩ := h1
      obtain ⟨b2, j2, h2⟩ := h2
      have hb := is_rel H R B1.lt (by decide) k2 j2
      subst hb
      cases b1 with
      | true =>
        simp only [if_true, Option.bind_eq_some_iff, Prod.exists] at h1 h2
        obtain ⟨u1, a1, k3, h1⟩ := h1
        obtain ⟨u2, a2, j3, h2⟩ := h2
        have s1 := ((round_tot H.k1 A1).st B1 k3).1
        have t1 := ((round_tot H.k2 A2).st B2 j3).1
        have o1 := o.back (tyL_st H.k1 A1 _ _ _ _ _ (B1.next s1) h1) (tyL_st H.k2 A2 _ _ _ _ _ (B2.next t1) h2)
        have R1 := round_rel H A1 A2 he _ _ _ _ _ _ B1 B2 k3 j3 R o1
        exact tyL_rel H A1 A2 he n1 n2 _ _ _ _ _ _ _ _ (B1.next s1) (B2.next t1) h1 h2 R1.1 o (same_add hs R1.2)
      | false => cases h1; cases h2; exact ⟨R, hs⟩
theorem ty_rel (H : TR ex d lo T1 T2) {e1 e2 : PM Nd} (A1 : Tot T1 (m + 1) e1) (A2 : Tot T2 (k + 1) e2) (he : RelF ex d lo T1 T2 (m + 1) (k + 1) e1 e2) : RelF ex d lo T1 T2 m k (tyS T1 e1) (tyS T2 e2) := by
  intro p1 p2 r1 q1 r2 q2 B1 B2 h1 h2 R o
  unfold tyS at h1 h2
  simp only [Option.bind_eq_some_iff, Prod.exists] at h1 h2
  obtain ⟨t1, a1, k1, h1⟩ := h1
  obtain ⟨t2, a2, j1, h2⟩ := h2
  have s1 := (word_st H.k1 B1.lt (by decide) k1).1
  have u1 := (word_st H.k2 B2.lt (by decide) j1).1
  have o1 := o.back (tyL_st H.k1 A1 _ _ _ _ _ (B1.next s1) h1) (tyL_st H.k2 A2 _ _ _ _ _ (B2.next u1) h2)
  have R1 := word_rel H R B1.lt (by decide) k1 j1 o1
  exact tyL_rel H A1 A2 he _ _ _ _ _ _ _ _ _ _ (B1.next s1) (B2.next u1) h1 h2 R1.1 o (by rw [← R1.2.2.1]; exact same_node rfl)
theorem tyF_rel (H : TR ex d lo T1 T2) : ∀ (n1 n2 m k : Nat), 43 ≤ m + n1 → 43 ≤ k + n2 → RelF ex d lo T1 T2 m k (tyF T1 n1) (tyF T2 n2)
  | 0, n2, m, k, h, h' => fun p1 p2 r1 q1 r2 q2 B1 B2 h1 => by cases h1
  | n1 + 1, 0, m, k, h, h' => fun p1 p2 r1 q1 r2 q2 B1 B2 h1 h2 => by cases h2
  | n1 + 1, n2 + 1, m, k, h, h' => ty_rel H (tyF_tot H.k1 n1 (m + 1) (by omega)) (tyF_tot H.k2 n2 (k + 1) (by omega)) (tyF_rel H n1 n2 (m + 1) (k + 1) (by omega) (by omega))
/-! Declarations of types. -/
theorem conL_st (hT : TOK T) {e : PM Nd} (A : Tot T (m + 1) e) : ∀ (n : Nat) (more : Bool) (nd : Nd) (p : PS) (r : Nd) (q : PS), Bd T m p → conL T e n more nd p = some (r, q) → Step T p q
  | 0, more, nd, p, r, q, B, h => by cases h
  | n + 1, more, nd, p, r, q, B, h => by
    unfold conL at h
    split at h
    · simp only [Option.bind_eq_some_iff, Prod.exists] at h
      obtain ⟨a1, k1, n1, a2, k2, b, a3, k3, h⟩ := h
      have s1 := most_st B.lt k1
      have s2 := ((in_tot hT A).st (B.next s1) k2).1
      have s3 := may_st hT s2.lt k3
      exact (s1.trans (s2.trans s3)).trans (conL_st hT A n _ _ _ _ _ (((B.next s1).next s2).next s3) h)
    · cases h; exact .refl B.lt
theorem conL_rel (H : TR ex d lo T1 T2) {e1 e2 : PM Nd} (A1 : Tot T1 (m + 1) e1) (A2 : Tot T2 (k + 1) e2) (he : RelF ex d lo T1 T2 (m + 1) (k + 1) e1 e2) : ∀ (n1 n2 : Nat) (mo : Bool) (a b : Nd) (p1 p2 : PS) (r1 : Nd) (q1 : PS) (r2 : Nd) (q2 : PS), Bd T1 m p1 → Bd T2 k p2 →
    conL T1 e1 n1 mo a p1 = some (r1, q1) → conL T2 e2 n2 mo b p2 = some (r2, q2) → Rel d lo p1 p2 → Ok ex q1 q2 → sameB a b = true → Rel d lo q1 q2 ∧ sameB r1 r2 = true
  | 0, n2, mo, a, b, p1, p2, r1, q1, r2, q2, B1, B2, h1, h2, R, o, hs => by cases h1
  | n1 + 1, 0, mo, a, b, p1, p2, r1, q1, r2, q2, B1, B2, h1, h2, R, o, hs => by cases h2
  | n1 + 1, n2 + 1, mo, a, b, p1, p2, r1, q1, r2, q2, B1, B2, h1, h2, R, o, hs => by
    unfold conL at h1 h2
    rw [R.e] at h2
    by_cases c : mo = true ∧ p1.e = 0
    · rw [if_pos c] at h1 h2
      simp only [Option.bind_eq_some_iff, Prod.exists] at h1 h2
      obtain ⟨a1, k1, c1, a2, k2, b1, a3, k3, h1⟩ := h1
      obtain ⟨x1, j1, d1, x2, j2, b2, x3, j3, h2⟩ := h2
      have s1 := most_st B1.lt k1
      have s2 := ((in_tot H.k1 A1).st (B1.next s1) k2).1
      have s3 := may_st H.k1 s2.lt k3
      have t1 := most_st B2.lt j1
      have t2 := ((in_tot H.k2 A2).st (B2.next t1) j2).1
      have t3 := may_st H.k2 t2.lt j3
      have o3 := o.back (conL_st H.k1 A1 _ _ _ _ _ _ (((B1.next s1).next s2).next s3) h1) (conL_st H.k2 A2 _ _ _ _ _ _ (((B2.next t1).next t2).next t3) h2)
      have R1 := most_rel R (by rw [sameBs_len (same_parts hs).2.2.2.2]) k1 j1
      have R2 := in_rel H he _ _ _ _ _ _ (B1.next s1) (B2.next t1) k2 j2 R1 (o3.back s3 t3)
      have R3 := may_rel H R2.1 s2.lt (by decide) k3 j3
      obtain ⟨rfl, R3⟩ := R3
      exact conL_rel H A1 A2 he n1 n2 _ _ _ _ _ _ _ _ _ (((B1.next s1).next s2).next s3) (((B2.next t1).next t2).next t3) h1 h2 R3 o (same_add hs R2.2)
    · rw [if_neg c] at h1 h2; cases h1; cases h2; exact ⟨R, hs⟩
theorem con_rel (H : TR ex d lo T1 T2) {e1 e2 : PM Nd} (A1 : Tot T1 (m + 1) e1) (A2 : Tot T2 (k + 1) e2) (he : RelF ex d lo T1 T2 (m + 1) (k + 1) e1 e2) : RelF ex d lo T1 T2 m k (conF T1 e1) (conF T2 e2) := by
  intro p1 p2 r1 q1 r2 q2 B1 B2 h1 h2 R o
  unfold conF at h1 h2
  simp only [Option.bind_eq_some_iff, Prod.exists] at h1 h2
  obtain ⟨t1, a1, k1, b1, a2, k2, h1⟩ := h1
  obtain ⟨t2, x1, j1, b2, x2, j2, h2⟩ := h2
  have s1 := (word_st H.k1 B1.lt (by decide) k1).1
  have u1 := (word_st H.k2 B2.lt (by decide) j1).1
  have s2 := may_st H.k1 s1.lt k2
  have u2 := may_st H.k2 u1.lt j2
  have C1 := (B1.next s1).next s2
  have C2 := (B2.next u1).next u2
  have fin : Ok ex a2 x2 → Rel d lo a1 x1 ∧ Sm t1 t2 ∧ b1 = b2 ∧ Rel d lo a2 x2 := fun o2 => by
    have R1 := word_rel H R B1.lt (by decide) k1 j1 (o2.back s2 u2)
    have R2 := may_rel H R1.1 s1.lt (by decide) k2 j2
    exact ⟨R1.1, R1.2, R2.1, R2.2⟩
  have st1 : Step T1 a2 q1 := by
    cases b1 with
    | true => exact conL_st H.k1 A1 _ _ _ _ _ _ C1 (by simpa using h1)
    | false => simp at h1; rw [← h1.2]; exact .refl s2.lt
  have st2 : Step T2 x2 q2 := by
    cases b2 with
    | true => exact conL_st H.k2 A2 _ _ _ _ _ _ C2 (by simpa using h2)
    | false => simp at h2; rw [← h2.2]; exact .refl u2.lt
  obtain ⟨R1, hS, rfl, R2⟩ := fin (o.back st1 st2)
  rw [← hS.2.1] at h2
  cases b1 with
  | true => exact conL_rel H A1 A2 he _ _ _ _ _ _ _ _ _ _ _ C1 C2 (by simpa using h1) (by simpa using h2) R2 o (same_node rfl)
  | false =>
    simp only [Bool.false_eq_true, if_false, Option.some.injEq, Prod.mk.injEq] at h1 h2
    obtain ⟨rfl, rfl⟩ := h1
    obtain ⟨rfl, rfl⟩ := h2
    exact ⟨R2, same_node rfl⟩
theorem namesL_st (hT : TOK T) : ∀ (n : Nat) (nd : Nd) (p : PS) (r : Nd) (q : PS), Bd T m p → namesL T n nd p = some (r, q) → Step T p q
  | 0, nd, p, r, q, B, h => by cases h
  | n + 1, nd, p, r, q, B, h => by
    unfold namesL at h
    simp only [Option.bind_eq_some_iff] at h
    obtain ⟨t, k1, h⟩ := h
    split at h
    · simp only [Option.bind_eq_some_iff, Prod.exists] at h
      obtain ⟨a1, k2, u, a2, k3, h⟩ := h
      have s1 := most_st B.lt k2
      have s2 := (take_st hT s1.lt k3).1
      exact (s1.trans s2).trans (namesL_st hT n _ _ _ _ ((B.next s1).next s2) h)
    · cases h; exact .refl B.lt
theorem namesL_rel (H : TR ex d lo T1 T2) : ∀ (n1 n2 : Nat) (a b : Nd) (p1 p2 : PS) (r1 : Nd) (q1 : PS) (r2 : Nd) (q2 : PS), Bd T1 m p1 → Bd T2 k p2 →
    namesL T1 n1 a p1 = some (r1, q1) → namesL T2 n2 b p2 = some (r2, q2) → Rel d lo p1 p2 → Ok ex q1 q2 → sameB a b = true → Rel d lo q1 q2 ∧ sameB r1 r2 = true
  | 0, n2, a, b, p1, p2, r1, q1, r2, q2, B1, B2, h1, h2, R, o, hs => by cases h1
  | n1 + 1, 0, a, b, p1, p2, r1, q1, r2, q2, B1, B2, h1, h2, R, o, hs => by cases h2
  | n1 + 1, n2 + 1, a, b, p1, p2, r1, q1, r2, q2, B1, B2, h1, h2, R, o, hs => by
    unfold namesL at h1 h2
    simp only [Option.bind_eq_some_iff] at h1 h2
    obtain ⟨t1, k1, h1⟩ := h1
    obtain ⟨t2, j1, h2⟩ := h2
    have hR := look_rel H R B1.lt k1 j1
    have hk := hR.kind (k := 3) (by decide) (by decide)
    by_cases c : t1.kind = 3
    · rw [if_pos c] at h1; rw [if_pos (hk ▸ c)] at h2
      simp only [Option.bind_eq_some_iff, Prod.exists] at h1 h2
      obtain ⟨a1, k2, u1, a2, k3, h1⟩ := h1
      obtain ⟨x1, j2, u2, x2, j3, h2⟩ := h2
      have s1 := most_st B1.lt k2
      have s2 := (take_st H.k1 s1.lt k3).1
      have v1 := most_st B2.lt j2
      have v2 := (take_st H.k2 v1.lt j3).1
      have o2 := o.back (namesL_st H.k1 _ _ _ _ _ ((B1.next s1).next s2) h1) (namesL_st H.k2 _ _ _ _ _ ((B2.next v1).next v2) h2)
      have R1 := most_rel R (by rw [(same_parts hs).2.2.2.1]) k2 j2
      have hS2 : Sm u1 u2 := by
        have w1 := (take_inv k3).1
        have w2 := (take_inv j3).1
        rcases look_rel H R1 s1.lt w1 w2 with h | ⟨hx, hend, h0, _⟩
        · exact h
        · have hpos : a1.pos = p1.pos := by
            unfold mostF at k2
            split at k2
            · exact (fail_inv k2).1
            · cases k2; rfl
          have := H.k1.last p1.pos t1 (by
            unfold lookF at k1
            rw [if_pos (s1.e0 h0)] at k1; exact k1) (by omega)
          omega
      exact namesL_rel H n1 n2 _ _ _ _ _ _ _ _ ((B1.next s1).next s2) ((B2.next v1).next v2) h1 h2 (take_rel R1 k3 j3 hS2) o (same_name hs hS2.2.1)
    · rw [if_neg c] at h1; rw [if_neg (hk ▸ c)] at h2
      cases h1; cases h2; exact ⟨R, hs⟩
theorem consL_st (hT : TOK T) {e : PM Nd} (A : Tot T (m + 1) e) : ∀ (n : Nat) (more : Bool) (nd : Nd) (p : PS) (r : Nd) (q : PS), Bd T m p → consL T e n more nd p = some (r, q) → Step T p q
  | 0, more, nd, p, r, q, B, h => by cases h
  | n + 1, more, nd, p, r, q, B, h => by
    unfold consL at h
    split at h
    · simp only [Option.bind_eq_some_iff, Prod.exists] at h
      obtain ⟨a1, k1, n1, a2, k2, b, a3, k3, h⟩ := h
      have s1 := most_st B.lt k1
      have s2 := ((con_tot hT A).st (B.next s1) k2).1
      have s3 := may_st hT s2.lt k3
      exact (s1.trans (s2.trans s3)).trans (consL_st hT A n _ _ _ _ _ (((B.next s1).next s2).next s3) h)
    · cases h; exact .refl B.lt
theorem consL_rel (H : TR ex d lo T1 T2) {e1 e2 : PM Nd} (A1 : Tot T1 (m + 1) e1) (A2 : Tot T2 (k + 1) e2) (he : RelF ex d lo T1 T2 (m + 1) (k + 1) e1 e2) : ∀ (n1 n2 : Nat) (mo : Bool) (a b : Nd) (p1 p2 : PS) (r1 : Nd) (q1 : PS) (r2 : Nd) (q2 : PS), Bd T1 m p1 → Bd T2 k p2 →
    consL T1 e1 n1 mo a p1 = some (r1, q1) → consL T2 e2 n2 mo b p2 = some (r2, q2) → Rel d lo p1 p2 → Ok ex q1 q2 → sameB a b = true → Rel d lo q1 q2 ∧ sameB r1 r2 = true
  | 0, n2, mo, a, b, p1, p2, r1, q1, r2, q2, B1, B2, h1, h2, R, o, hs => by cases h1
  | n1 + 1, 0, mo, a, b, p1, p2, r1, q1, r2, q2, B1, B2, h1, h2, R, o, hs => by cases h2
  | n1 + 1, n2 + 1, mo, a, b, p1, p2, r1, q1, r2, q2, B1, B2, h1, h2, R, o, hs => by
    unfold consL at h1 h2
    rw [R.e] at h2
    by_cases c : mo = true ∧ p1.e = 0
    · rw [if_pos c] at h1 h2
      simp only [Option.bind_eq_some_iff, Prod.exists] at h1 h2
      obtain ⟨a1, k1, c1, a2, k2, b1, a3, k3, h1⟩ := h1
      obtain ⟨x1, j1, d1, x2, j2, b2, x3, j3, h2⟩ := h2
      have s1 := most_st B1.lt k1
      have s2 := ((con_tot H.k1 A1).st (B1.next s1) k2).1
      have s3 := may_st H.k1 s2.lt k3
      have t1 := most_st B2.lt j1
      have t2 := ((con_tot H.k2 A2).st (B2.next t1) j2).1
      have t3 := may_st H.k2 t2.lt j3
      have o3 := o.back (consL_st H.k1 A1 _ _ _ _ _ _ (((B1.next s1).next s2).next s3) h1) (consL_st H.k2 A2 _ _ _ _ _ _ (((B2.next t1).next t2).next t3) h2)
      have R1 := most_rel R (by rw [sameBs_len (same_parts hs).2.2.2.2]) k1 j1
      have R2 := con_rel H A1 A2 he _ _ _ _ _ _ (B1.next s1) (B2.next t1) k2 j2 R1 (o3.back s3 t3)
      obtain ⟨rfl, R3⟩ := may_rel H R2.1 s2.lt (by decide) k3 j3
      exact consL_rel H A1 A2 he n1 n2 _ _ _ _ _ _ _ _ _ (((B1.next s1).next s2).next s3) (((B2.next t1).next t2).next t3) h1 h2 R3 o (same_add hs R2.2)
    · rw [if_neg c] at h1 h2; cases h1; cases h2; exact ⟨R, hs⟩
theorem decltype_rel (H : TR ex d lo T1 T2) {e1 e2 : PM Nd} (A1 : Tot T1 (m + 1) e1) (A2 : Tot T2 (k + 1) e2) (he : RelF ex d lo T1 T2 (m + 1) (k + 1) e1 e2) : RelF ex d lo T1 T2 m k (decltypeF T1 e1) (decltypeF T2 e2) := by
  intro p1 p2 r1 q1 r2 q2 B1 B2 h1 h2 R o
  have h1' := h1
  unfold decltypeF at h1 h2
  simp only [Option.bind_eq_some_iff, Prod.exists] at h1 h2
  obtain ⟨t1, a1, k1, w1, a2, k2, n1, a3, k3, a4, k4, h1⟩ := h1
  obtain ⟨t2, x1, j1, w2, x2, j2, n2, x3, j3, x4, j4, h2⟩ := h2
  have hS := start_sm H (decltype_ok H.k1 A1) B1 h1' R o (take_inv k1).1 (take_inv j1).1
  have s1 := (take_st H.k1 B1.lt k1).1
  have s2 := (word_st H.k1 s1.lt (by decide) k2).1
  have C1 := (B1.next s1).next s2
  have s3 := namesL_st H.k1 _ _ _ _ _ C1 k3
  have s4 := (must_st H.k1 s3.lt k4).1
  have D1 := (C1.next s3).next s4
  have s5 := consL_st H.k1 A1 _ _ _ _ _ _ D1 h1
  have u1 := (take_st H.k2 B2.lt j1).1
  have u2 := (word_st H.k2 u1.lt (by decide) j2).1
  have C2 := (B2.next u1).next u2
  have u3 := namesL_st H.k2 _ _ _ _ _ C2 j3
  have u4 := (must_st H.k2 u3.lt j4).1
  have D2 := (C2.next u3).next u4
  have u5 := consL_st H.k2 A2 _ _ _ _ _ _ D2 h2
  have o4 := o.back s5 u5
  have o3 := o4.back s4 u4
  have R1 := take_rel R k1 j1 hS
  have R2 := word_rel H R1 s1.lt (by decide) k2 j2 (o3.back s3 u3)
  rw [← R2.2.2.1] at j3
  have R3 := namesL_rel H _ _ _ _ _ _ _ _ _ _ C1 C2 k3 j3 R2.1 o3 (same_node rfl)
  have R4 := must_rel H R3.1 s3.lt k4 j4 o4
  exact consL_rel H A1 A2 he _ _ _ _ _ _ _ _ _ _ _ D1 D2 h1 h2 R4 o R3.2
end Go.AL
set_option linter.unusedSimpArgs false
set_option linter.unusedVariables false
namespace Go.AL
variable {ex : Bool} {d lo : Nat} {T1 T2 T : List Tk} {m k : Nat}
theorem patom_rel (H : TR ex d lo T1 T2) {e1 e2 : PM Nd} (A1 : Tot T1 (m + 1) e1) (A2 : Tot T2 (k + 1) e2) (he : RelF ex d lo T1 T2 (m + 1) (k + 1) e1 e2) : RelF ex d lo T1 T2 m k (patomF T1 e1) (patomF T2 e2) := by
  intro p1 p2 r1 q1 r2 q2 B1 B2 h1 h2 R o
  have h1' := h1
  unfold patomF at h1 h2
  simp only [Option.bind_eq_some_iff, Prod.exists] at h1 h2
  obtain ⟨t1, k1, b1, a1, k2, h1⟩ := h1
  obtain ⟨t2, j1, b2, x1, j2, h2⟩ := h2
  obtain ⟨rfl, R1⟩ := may_rel H R B1.lt (by decide) k2 j2
  cases b1 with
  | true =>
    simp only [if_true, Option.some.injEq, Prod.mk.injEq] at h1 h2
    obtain ⟨rfl, rfl⟩ := h1
    obtain ⟨rfl, rfl⟩ := h2
    exact ⟨R1, same_node rfl⟩
  | false =>
    simp only [Bool.false_eq_true, if_false, Option.bind_eq_some_iff] at h1 h2
    have C1 := B1.next (may_st H.k1 B1.lt k2)
    have C2 := B2.next (may_st H.k2 B2.lt j2)
    obtain ⟨b1, k3, h1⟩ := h1
    obtain ⟨b2, j3, h2⟩ := h2
    have hb := is_rel H R1 C1.lt (by decide) k3 j3
    subst hb
    cases b1 with
    | true => exact round_rel H A1 A2 he _ _ _ _ _ _ C1 C2 (by simpa using h1) (by simpa using h2) R1 o
    | false => exact leaf_rel H (m := m) (kinds := [(1, 1), (3, 4), (4, 5)]) (by decide) _ _ _ _ _ _ C1 C2 (by simpa using h1) (by simpa using h2) R1 o
theorem patMore_rel (H : TR ex d lo T1 T2) {p1 p2 : PS} (R : Rel d lo p1 p2) (hp : p1.pos < T1.length) {b1 b2 : Bool} (h1 : patMore T1 p1 = some b1) (h2 : patMore T2 p2 = some b2) : b1 = b2 := by
  unfold patMore at h1 h2
  simp only [Option.map_eq_some_iff] at h1 h2
  obtain ⟨t1, k1, rfl⟩ := h1
  obtain ⟨t2, j1, rfl⟩ := h2
  have hR := look_rel H R hp k1 j1
  rcases hR with hS | ⟨_, _, _, a, b, c⟩
  · rw [hS.isT, hS.isT, hS.1]
  · unfold isT; rw [a, b, c]; generalize t1.text = x; cases (x == [95]) <;> cases (x == [40]) <;> decide
theorem patL_st (hT : TOK T) {e : PM Nd} (A : Tot T (m + 1) e) : ∀ (n : Nat) (c : Bool) (nd : Nd) (p : PS) (r : Nd) (q : PS), Bd T m p → patL T e n c nd p = some (r, q) → Step T p q
  | 0, c, nd, p, r, q, B, h => by cases h
  | n + 1, c, nd, p, r, q, B, h => by
    unfold patL at h
    split at h
    · simp only [Option.bind_eq_some_iff] at h
      obtain ⟨b, k0, h⟩ := h
      split at h
      · simp only [Option.bind_eq_some_iff, Prod.exists] at h
        obtain ⟨a1, k1, n1, a2, k2, h⟩ := h
        have s1 := most_st B.lt k1
        have s2 := ((patom_tot hT A).st (B.next s1) k2).1
        exact (s1.trans s2).trans (patL_st hT A n _ _ _ _ _ ((B.next s1).next s2) h)
      · cases h; exact .refl B.lt
    · cases h; exact .refl B.lt
theorem patL_rel (H : TR ex d lo T1 T2) {e1 e2 : PM Nd} (A1 : Tot T1 (m + 1) e1) (A2 : Tot T2 (k + 1) e2) (he : RelF ex d lo T1 T2 (m + 1) (k + 1) e1 e2) : ∀ (n1 n2 : Nat) (mo : Bool) (a b : Nd) (p1 p2 : PS) (r1 : Nd) (q1 : PS) (r2 : Nd) (q2 : PS), Bd T1 m p1 → Bd T2 k p2 →
    patL T1 e1 n1 mo a p1 = some (r1, q1) → patL T2 e2 n2 mo b p2 = some (r2, q2) → Rel d lo p1 p2 → Ok ex q1 q2 → sameB a b = true → Rel d lo q1 q2 ∧ sameB r1 r2 = true
  | 0, n2, mo, a, b, p1, p2, r1, q1, r2, q2, B1, B2, h1, h2, R, o, hs => by cases h1
  | n1 + 1, 0, mo, a, b, p1, p2, r1, q1, r2, q2, B1, B2, h1, h2, R, o, hs => by cases h2
  | n1 + 1, n2 + 1, mo, a, b, p1, p2, r1, q1, r2, q2, B1, B2, h1, h2, R, o, hs => by
    unfold patL at h1 h2
    cases mo with
    | false =>
      simp only [Bool.false_eq_true, if_false, Option.some.injEq, Prod.mk.injEq] at h1 h2
      obtain ⟨rfl, rfl⟩ := h1
      obtain ⟨rfl, rfl⟩ := h2
      exact ⟨R, hs⟩
    | true =>
      simp only [if_true, Option.bind_eq_some_iff] at h1 h2
      obtain ⟨b1, k0, h1⟩ := h1
      obtain ⟨b2, j0, h2⟩ := h2
      have hb := patMore_rel H R B1.lt k0 j0
      subst hb
      cases b1 with
      | false =>
        simp only [Bool.false_eq_true, if_false, Option.some.injEq, Prod.mk.injEq] at h1 h2
        obtain ⟨rfl, rfl⟩ := h1
        obtain ⟨rfl, rfl⟩ := h2
        exact ⟨R, hs⟩
      | true =>
        simp only [if_true, Option.bind_eq_some_iff, Prod.exists] at h1 h2
        obtain ⟨a1, k1, c1, a2, k2, h1⟩ := h1
        obtain ⟨x1, j1, d1, x2, j2, h2⟩ := h2
        have s1 := most_st B1.lt k1
        have s2 := ((patom_tot H.k1 A1).st (B1.next s1) k2).1
        have t1 := most_st B2.lt j1
        have t2 := ((patom_tot H.k2 A2).st (B2.next t1) j2).1
        have o2 := o.back (patL_st H.k1 A1 _ _ _ _ _ _ ((B1.next s1).next s2) h1) (patL_st H.k2 A2 _ _ _ _ _ _ ((B2.next t1).next t2) h2)
        have R1 := most_rel R (by rw [sameBs_len (same_parts hs).2.2.2.2]) k1 j1
        have R2 := patom_rel H A1 A2 he _ _ _ _ _ _ (B1.next s1) (B2.next t1) k2 j2 R1 o2
        exact patL_rel H A1 A2 he n1 n2 _ _ _ _ _ _ _ _ _ ((B1.next s1).next s2) ((B2.next t1).next t2) h1 h2 R2.1 o (same_add hs R2.2)
theorem pat_rel (H : TR ex d lo T1 T2) {e1 e2 : PM Nd} (A1 : Tot T1 (m + 1) e1) (A2 : Tot T2 (k + 1) e2) (he : RelF ex d lo T1 T2 (m + 1) (k + 1) e1 e2) : RelF ex d lo T1 T2 m k (patS T1 e1) (patS T2 e2) := by
  intro p1 p2 r1 q1 r2 q2 B1 B2 h1 h2 R o
  have h1' := h1
  unfold patS at h1 h2
  simp only [Option.bind_eq_some_iff, Prod.exists] at h1 h2
  obtain ⟨t1, k1, c1, a1, k2, h1⟩ := h1
  obtain ⟨t2, j1, c2, x1, j2, h2⟩ := h2
  have hS := start_sm H (pat_tot H.k1 A1) B1 h1' R o k1 j1
  rw [← hS.1] at h2
  have s1 := ((patom_tot H.k1 A1).st B1 k2).1
  have u1 := ((patom_tot H.k2 A2).st B2 j2).1
  have o1 := o.back (patL_st H.k1 A1 _ _ _ _ _ _ (B1.next s1) h1) (patL_st H.k2 A2 _ _ _ _ _ _ (B2.next u1) h2)
  have R1 := patom_rel H A1 A2 he _ _ _ _ _ _ B1 B2 k2 j2 R o1
  exact patL_rel H A1 A2 he _ _ _ _ _ _ _ _ _ _ _ (B1.next s1) (B2.next u1) h1 h2 R1.1 o R1.2
theorem patF_rel (H : TR ex d lo T1 T2) : ∀ (n1 n2 m k : Nat), 43 ≤ m + n1 → 43 ≤ k + n2 → RelF ex d lo T1 T2 m k (patF T1 n1) (patF T2 n2)
  | 0, n2, m, k, h, h' => fun p1 p2 r1 q1 r2 q2 B1 B2 h1 => by cases h1
  | n1 + 1, 0, m, k, h, h' => fun p1 p2 r1 q1 r2 q2 B1 B2 h1 h2 => by cases h2
  | n1 + 1, n2 + 1, m, k, h, h' => pat_rel H (patF_tot H.k1 n1 (m + 1) (by omega)) (patF_tot H.k2 n2 (k + 1) (by omega)) (patF_rel H n1 n2 (m + 1) (k + 1) (by omega) (by omega))
/-! Exps. -/
theorem bd_flat {p : PS} (B : Bd T m p) (f : Bool) : Bd T m { p with flat := f } := ⟨B.lt, B.lo, B.hi⟩
theorem whole_rel (H : TR ex d lo T1 T2) {e1 e2 : PM Nd} (he : RelF ex d lo T1 T2 (m + 1) (k + 1) e1 e2) : RelF ex d lo T1 T2 m k (wholeF T1 e1) (wholeF T2 e2) := by
  intro p1 p2 r1 q1 r2 q2 B1 B2 h1 h2 R o
  unfold wholeF at h1 h2
  simp only [Option.map_eq_some_iff, Prod.exists, Prod.mk.injEq] at h1 h2
  obtain ⟨c1, a1, k1, rfl, rfl⟩ := h1
  obtain ⟨c2, x1, j1, rfl, rfl⟩ := h2
  have := in_rel H he _ _ _ _ _ _ (bd_flat B1 false) (bd_flat B2 false) k1 j1 ⟨R.lo, R.pos, R.deep, rfl, R.e⟩ o
  exact ⟨⟨this.1.lo, this.1.pos, this.1.deep, R.flat, this.1.e⟩, this.2⟩
/-- One row of a match. -/
structure Row (T : List Tk) (e pt : PM Nd) (nd : Nd) (p : PS) (c w : Nd) (q : PS) : Prop where
  h : ∃ p1 p2 p3 p4, mostF T (Int.tdiv nd.kids.length 2) 20 p = some p1 ∧ mustF T [124] p1 = some p2 ∧ inF T pt p2 = some (c, p3) ∧ mustF T [45, 62] p3 = some p4 ∧ wholeF T e p4 = some (w, q)
theorem row_st (hT : TOK T) {e pt : PM Nd} (A : Tot T (m + 1) e) (P : Tot T (m + 1) pt) {nd c w : Nd} {p q : PS} (B : Bd T m p) (h : Row T e pt nd p c w q) : Step T p q := by
  obtain ⟨p1, p2, p3, p4, k1, k2, k3, k4, k5⟩ := h.h
  have s1 := most_st B.lt k1
  have s2 := (must_st hT s1.lt k2).1
  have s3 := ((in_tot hT P).st ((B.next s1).next s2) k3).1
  have s4 := (must_st hT s3.lt k4).1
  have s5 := ((whole_tot hT A).st ((((B.next s1).next s2).next s3).next s4) k5).1
  exact s1.trans (s2.trans (s3.trans (s4.trans s5)))
theorem row_rel (H : TR ex d lo T1 T2) {e1 e2 pt1 pt2 : PM Nd} (A1 : Tot T1 (m + 1) e1) (A2 : Tot T2 (k + 1) e2) (he : RelF ex d lo T1 T2 (m + 1) (k + 1) e1 e2) (P1 : Tot T1 (m + 1) pt1) (P2 : Tot T2 (k + 1) pt2) (hp : RelF ex d lo T1 T2 (m + 1) (k + 1) pt1 pt2)
    {a b c1 w1 c2 w2 : Nd} {p1 p2 q1 q2 : PS} (B1 : Bd T1 m p1) (B2 : Bd T2 k p2) (h1 : Row T1 e1 pt1 a p1 c1 w1 q1) (h2 : Row T2 e2 pt2 b p2 c2 w2 q2) (R : Rel d lo p1 p2) (o : Ok ex q1 q2) (hs : sameB a b = true) : Rel d lo q1 q2 ∧ sameB (a.addKids [c1, w1]) (b.addKids [c2, w2]) = true := by
  obtain ⟨a1, a2, a3, a4, k1, k2, k3, k4, k5⟩ := h1.h
  obtain ⟨x1, x2, x3, x4, j1, j2, j3, j4, j5⟩ := h2.h
  have s1 := most_st B1.lt k1
  have s2 := (must_st H.k1 s1.lt k2).1
  have C1 := (B1.next s1).next s2
  have s3 := ((in_tot H.k1 P1).st C1 k3).1
  have s4 := (must_st H.k1 s3.lt k4).1
  have D1 := (C1.next s3).next s4
  have s5 := ((whole_tot H.k1 A1).st D1 k5).1
  have u1 := most_st B2.lt j1
  have u2 := (must_st H.k2 u1.lt j2).1
  have C2 := (B2.next u1).next u2
  have u3 := ((in_tot H.k2 P2).st C2 j3).1
  have u4 := (must_st H.k2 u3.lt j4).1
  have D2 := (C2.next u3).next u4
  have u5 := ((whole_tot H.k2 A2).st D2 j5).1
  have o4 := o.back s5 u5
  have o3 := o4.back s4 u4
  have o2 := o3.back s3 u3
  have R1 := most_rel R (by rw [sameBs_len (same_parts hs).2.2.2.2]) k1 j1
  have R2 := must_rel H R1 s1.lt k2 j2 o2
  have R3 := in_rel H hp _ _ _ _ _ _ C1 C2 k3 j3 R2 o3
  have R4 := must_rel H R3.1 s3.lt k4 j4 o4
  have R5 := whole_rel H he _ _ _ _ _ _ D1 D2 k5 j5 R4 o
  exact ⟨R5.1, same_adds hs (sameBs2 R3.2 R5.2)⟩
theorem matchL_inv {e pt : PM Nd} {n : Nat} {nd : Nd} {p q : PS} {r : Nd} {f : Bool} (h : matchL T e pt (n + 1) f nd p = some (r, q)) : ∃ b, (if f = true then some true else isF T [124] p) = some b ∧ ((b = false ∧ r = nd ∧ q = p) ∨ (b = true ∧ ∃ c w p5, Row T e pt nd p c w p5 ∧ matchL T e pt n false (nd.addKids [c, w]) p5 = some (r, q))) := by
  unfold matchL at h
  simp only [Option.bind_eq_some_iff] at h
  obtain ⟨b, k0, h⟩ := h
  refine ⟨b, k0, ?_⟩
  cases b with
  | false => simp only [Bool.false_eq_true, if_false, Option.some.injEq, Prod.mk.injEq] at h; exact .inl ⟨rfl, h.1.symm, h.2.symm⟩
  | true =>
    simp only [if_true, Option.bind_eq_some_iff, Prod.exists] at h
    obtain ⟨p1, k1, p2, k2, c, p3, k3, p4, k4, w, p5, k5, h⟩ := h
    exact .inr ⟨rfl, c, w, p5, ⟨p1, p2, p3, p4, k1, k2, k3, k4, k5⟩, h⟩
theorem matchL_st (hT : TOK T) {e pt : PM Nd} (A : Tot T (m + 1) e) (P : Tot T (m + 1) pt) : ∀ (n : Nat) (f : Bool) (nd : Nd) (p : PS) (r : Nd) (q : PS), Bd T m p → matchL T e pt n f nd p = some (r, q) → Step T p q
  | 0, f, nd, p, r, q, B, h => by cases h
  | n + 1, f, nd, p, r, q, B, h => by
    obtain ⟨b, _, h⟩ := matchL_inv h
    rcases h with ⟨_, _, rfl⟩ | ⟨_, c, w, p5, hr, h⟩
    · exact .refl B.lt
    · have s := row_st hT A P B hr
      exact s.trans (matchL_st hT A P n _ _ _ _ _ (B.next s) h)
theorem matchL_rel (H : TR ex d lo T1 T2) {e1 e2 pt1 pt2 : PM Nd} (A1 : Tot T1 (m + 1) e1) (A2 : Tot T2 (k + 1) e2) (he : RelF ex d lo T1 T2 (m + 1) (k + 1) e1 e2) (P1 : Tot T1 (m + 1) pt1) (P2 : Tot T2 (k + 1) pt2) (hp : RelF ex d lo T1 T2 (m + 1) (k + 1) pt1 pt2) :
    ∀ (n1 n2 : Nat) (f : Bool) (a b : Nd) (p1 p2 : PS) (r1 : Nd) (q1 : PS) (r2 : Nd) (q2 : PS), Bd T1 m p1 → Bd T2 k p2 → matchL T1 e1 pt1 n1 f a p1 = some (r1, q1) → matchL T2 e2 pt2 n2 f b p2 = some (r2, q2) → Rel d lo p1 p2 → Ok ex q1 q2 → sameB a b = true → Rel d lo q1 q2 ∧ sameB r1 r2 = true
  | 0, n2, f, a, b, p1, p2, r1, q1, r2, q2, B1, B2, h1, h2, R, o, hs => by cases h1
  | n1 + 1, 0, f, a, b, p1, p2, r1, q1, r2, q2, B1, B2, h1, h2, R, o, hs => by cases h2
  | n1 + 1, n2 + 1, f, a, b, p1, p2, r1, q1, r2, q2, B1, B2, h1, h2, R, o, hs => by
    obtain ⟨b1, k0, h1⟩ := matchL_inv h1
    obtain ⟨b2, j0, h2⟩ := matchL_inv h2
    have hb : b1 = b2 := by
      cases f with
      | true => simp only [if_true, Option.some.injEq] at k0 j0; rw [← k0, ← j0]
      | false => exact is_rel H R B1.lt (s := [124]) (by decide) (by simpa using k0) (by simpa using j0)
    subst hb
    rcases h1 with ⟨c, rfl, rfl⟩ | ⟨c, c1, w1, y1, hr1, h1⟩
    · rcases h2 with ⟨_, rfl, rfl⟩ | ⟨c', _⟩
      · exact ⟨R, hs⟩
      · rw [c] at c'; cases c'
    · rcases h2 with ⟨c', _⟩ | ⟨_, c2, w2, y2, hr2, h2⟩
      · rw [c] at c'; cases c'
      · have s := row_st H.k1 A1 P1 B1 hr1
        have u := row_st H.k2 A2 P2 B2 hr2
        have o1 := o.back (matchL_st H.k1 A1 P1 _ _ _ _ _ _ (B1.next s) h1) (matchL_st H.k2 A2 P2 _ _ _ _ _ _ (B2.next u) h2)
        have R1 := row_rel H A1 A2 he P1 P2 hp B1 B2 hr1 hr2 R o1 hs
        exact matchL_rel H A1 A2 he P1 P2 hp n1 n2 _ _ _ _ _ _ _ _ _ (B1.next s) (B2.next u) h1 h2 R1.1 o R1.2
theorem match_rel (H : TR ex d lo T1 T2) {e1 e2 pt1 pt2 : PM Nd} (A1 : Tot T1 (m + 1) e1) (A2 : Tot T2 (k + 1) e2) (he : RelF ex d lo T1 T2 (m + 1) (k + 1) e1 e2) (P1 : Tot T1 (m + 1) pt1) (P2 : Tot T2 (k + 1) pt2) (hp : RelF ex d lo T1 T2 (m + 1) (k + 1) pt1 pt2) : RelF ex d lo T1 T2 m k (matchF T1 e1 pt1) (matchF T2 e2 pt2) := by
  intro p1 p2 r1 q1 r2 q2 B1 B2 h1 h2 R o
  have h1' := h1
  unfold matchF at h1 h2
  simp only [Option.bind_eq_some_iff, Option.map_eq_some_iff, Prod.exists, Prod.mk.injEq] at h1 h2
  obtain ⟨t1, a1, k1, w1, a2, k2, a3, k3, n1, a4, k4, a5, k5, rfl, rfl⟩ := h1
  obtain ⟨t2, x1, j1, w2, x2, j2, x3, j3, n2, x4, j4, x5, j5, rfl, rfl⟩ := h2
  have hS := start_sm H (match_tot H.k1 A1 P1) B1 h1' R o (take_inv k1).1 (take_inv j1).1
  have s1 := (take_st H.k1 B1.lt k1).1
  have s2 := ((whole_tot H.k1 A1).st (B1.next s1) k2).1
  have s3 := (must_st H.k1 s2.lt k3).1
  have C1 := ((B1.next s1).next s2).next s3
  have s4 := matchL_st H.k1 A1 P1 _ _ _ _ _ _ C1 k4
  have s5 := (must_st H.k1 s4.lt k5).1
  have u1 := (take_st H.k2 B2.lt j1).1
  have u2 := ((whole_tot H.k2 A2).st (B2.next u1) j2).1
  have u3 := (must_st H.k2 u2.lt j3).1
  have C2 := ((B2.next u1).next u2).next u3
  have u4 := matchL_st H.k2 A2 P2 _ _ _ _ _ _ C2 j4
  have u5 := (must_st H.k2 u4.lt j5).1
  have o4 := o.back s5 u5
  have o3 := o4.back s4 u4
  have o2 := o3.back s3 u3
  have R1 := take_rel R k1 j1 hS
  have R2 := whole_rel H he _ _ _ _ _ _ (B1.next s1) (B2.next u1) k2 j2 R1 o2
  have R3 := must_rel H R2.1 s2.lt k3 j3 o3
  have R4 := matchL_rel H A1 A2 he P1 P2 hp _ _ _ _ _ _ _ _ _ _ _ C1 C2 k4 j4 R3 o4 (same_node (sameBs1 R2.2))
  exact ⟨must_rel H R4.1 s4.lt k5 j5 o, R4.2⟩
theorem try_rel (H : TR ex d lo T1 T2) {e1 e2 : PM Nd} (A1 : Tot T1 (m + 1) e1) (A2 : Tot T2 (k + 1) e2) (he : RelF ex d lo T1 T2 (m + 1) (k + 1) e1 e2) : RelF ex d lo T1 T2 m k (tryF T1 e1) (tryF T2 e2) := by
  intro p1 p2 r1 q1 r2 q2 B1 B2 h1 h2 R o
  have h1' := h1
  unfold tryF at h1 h2
  simp only [Option.bind_eq_some_iff, Option.map_eq_some_iff, Prod.exists, Prod.mk.injEq] at h1 h2
  obtain ⟨t1, a1, k1, w1, a2, k2, a3, k3, v1, a4, k4, a5, k5, z1, a6, k6, a7, k7, rfl, rfl⟩ := h1
  obtain ⟨t2, x1, j1, w2, x2, j2, x3, j3, v2, x4, j4, x5, j5, z2, x6, j6, x7, j7, rfl, rfl⟩ := h2
  have hS := start_sm H (try_tot H.k1 A1) B1 h1' R o (take_inv k1).1 (take_inv j1).1
  have s1 := (take_st H.k1 B1.lt k1).1
  have s2 := ((whole_tot H.k1 A1).st (B1.next s1) k2).1
  have s3 := (must_st H.k1 s2.lt k3).1
  have s4 := (word_st H.k1 s3.lt (by decide) k4).1
  have s5 := (must_st H.k1 s4.lt k5).1
  have C1 := ((((B1.next s1).next s2).next s3).next s4).next s5
  have s6 := ((whole_tot H.k1 A1).st C1 k6).1
  have s7 := (must_st H.k1 s6.lt k7).1
  have u1 := (take_st H.k2 B2.lt j1).1
  have u2 := ((whole_tot H.k2 A2).st (B2.next u1) j2).1
  have u3 := (must_st H.k2 u2.lt j3).1
  have u4 := (word_st H.k2 u3.lt (by decide) j4).1
  have u5 := (must_st H.k2 u4.lt j5).1
  have C2 := ((((B2.next u1).next u2).next u3).next u4).next u5
  have u6 := ((whole_tot H.k2 A2).st C2 j6).1
  have u7 := (must_st H.k2 u6.lt j7).1
  have o6 := o.back s7 u7
  have o5 := o6.back s6 u6
  have o4 := o5.back s5 u5
  have o3 := o4.back s4 u4
  have o2 := o3.back s3 u3
  have R1 := take_rel R k1 j1 hS
  have R2 := whole_rel H he _ _ _ _ _ _ (B1.next s1) (B2.next u1) k2 j2 R1 o2
  have R3 := must_rel H R2.1 s2.lt k3 j3 o3
  have R4 := word_rel H R3 s3.lt (by decide) k4 j4 o4
  have R5 := must_rel H R4.1 s4.lt k5 j5 o5
  have R6 := whole_rel H he _ _ _ _ _ _ C1 C2 k6 j6 R5 o6
  have R7 := must_rel H R6.1 s6.lt k7 j7 o
  rw [R4.2.2.1]
  exact ⟨R7, same_node (sameBs2 R2.2 R6.2)⟩
theorem atom_rel (H : TR ex d lo T1 T2) {e1 e2 pt1 pt2 : PM Nd} (A1 : Tot T1 (m + 1) e1) (A2 : Tot T2 (k + 1) e2) (he : RelF ex d lo T1 T2 (m + 1) (k + 1) e1 e2) (P1 : Tot T1 (m + 1) pt1) (P2 : Tot T2 (k + 1) pt2) (hp : RelF ex d lo T1 T2 (m + 1) (k + 1) pt1 pt2) : RelF ex d lo T1 T2 m k (atomF T1 e1 pt1) (atomF T2 e2 pt2) := by
  intro p1 p2 r1 q1 r2 q2 B1 B2 h1 h2 R o
  have h1' := h1
  unfold atomF at h1 h2
  simp only [Option.bind_eq_some_iff] at h1 h2
  obtain ⟨t1, k1, h1⟩ := h1
  obtain ⟨t2, j1, h2⟩ := h2
  have hS := start_sm H (atom_tot H.k1 A1 P1) B1 h1' R o k1 j1
  rw [← hS.isT, ← hS.isT, ← hS.isT, ← hS.isT] at h2
  split at h1
  · rename_i c; rw [if_pos c] at h2
    exact match_rel H A1 A2 he P1 P2 hp _ _ _ _ _ _ B1 B2 h1 h2 R o
  rename_i c; rw [if_neg c] at h2
  split at h1
  · rename_i c; rw [if_pos c] at h2
    exact try_rel H A1 A2 he _ _ _ _ _ _ B1 B2 h1 h2 R o
  rename_i c; rw [if_neg c] at h2
  split at h1
  · rename_i c; rw [if_pos c] at h2
    simp only [Option.map_eq_some_iff, Prod.exists, Prod.mk.injEq] at h1 h2
    obtain ⟨v1, a1, k2, rfl, rfl⟩ := h1
    obtain ⟨v2, x1, j2, rfl, rfl⟩ := h2
    have y1 := (take_inv k2).1
    have y2 := (take_inv j2).1
    rw [k1] at y1; rw [j1] at y2
    cases y1; cases y2
    exact ⟨take_rel R k2 j2 hS, same_node rfl⟩
  rename_i c; rw [if_neg c] at h2
  split at h1
  · rename_i c; rw [if_pos c] at h2
    simp only [Option.bind_eq_some_iff, Prod.exists] at h1 h2
    obtain ⟨v1, a1, k2, b1, a2, k3, h1⟩ := h1
    obtain ⟨v2, x1, j2, b2, x2, j3, h2⟩ := h2
    have y1 := (take_inv k2).1
    have y2 := (take_inv j2).1
    rw [k1] at y1; rw [j1] at y2
    cases y1; cases y2
    have R1 := take_rel R k2 j2 hS
    have s1 := (take_st H.k1 B1.lt k2).1
    have u1 := (take_st H.k2 B2.lt j2).1
    have s2 := may_st H.k1 s1.lt k3
    have u2 := may_st H.k2 u1.lt j3
    obtain ⟨w1, g1, f1, i1⟩ := may_inv k3
    obtain ⟨w2, g2, f2, i2⟩ := may_inv j3
    rcases look_rel H R1 s1.lt g1 g2 with hS2 | ⟨hx, hend, h0, hk, hk2, ht2⟩
    · have hb : b1 = b2 := by rw [f1, f2]; exact hS2.isT _
      subst hb
      cases b1 with
      | true =>
        simp only [if_true, Option.some.injEq, Prod.mk.injEq] at h1 h2 i1 i2
        obtain ⟨rfl, rfl⟩ := h1
        obtain ⟨rfl, rfl⟩ := h2
        exact ⟨take_rel R1 i1 i2 hS2, same_node rfl⟩
      | false =>
        simp only [Bool.false_eq_true, if_false] at i1 i2
        subst i1; subst i2
        simp only [Bool.false_eq_true, if_false, Option.bind_eq_some_iff, Option.map_eq_some_iff, Prod.exists, Prod.mk.injEq] at h1 h2
        obtain ⟨n1, a3, k4, a4, k5, rfl, rfl⟩ := h1
        obtain ⟨n2, x3, j4, x4, j5, rfl, rfl⟩ := h2
        have C1 := B1.next s1
        have C2 := B2.next u1
        have s3 := ((whole_tot H.k1 A1).st C1 k4).1
        have u3 := ((whole_tot H.k2 A2).st C2 j4).1
        have s4 := (must_st H.k1 s3.lt k5).1
        have u4 := (must_st H.k2 u3.lt j5).1
        have R2 := whole_rel H he _ _ _ _ _ _ C1 C2 k4 j4 R1 (o.back s4 u4)
        exact ⟨must_rel H R2.1 s3.lt k5 j5 o, R2.2⟩
    · exfalso
      have hb : b1 = false := by
        rw [f1]
        unfold isT; rw [hk]; simp
      subst hb
      simp only [Bool.false_eq_true, if_false] at i1
      subst i1
      simp only [Bool.false_eq_true, if_false, Option.bind_eq_some_iff, Option.map_eq_some_iff, Prod.exists, Prod.mk.injEq] at h1
      obtain ⟨n1, a3, k4, a4, k5, _, rfl⟩ := h1
      obtain ⟨s3, x3⟩ := (whole_tot H.k1 A1).st (B1.next s1) k4
      have s4 := (must_st H.k1 s3.lt k5).1
      exact end_err s3 x3 hend h0 (s4.e0 (o.f hx).1)
  · rename_i c; rw [if_neg c] at h2
    exact leaf_rel H (m := m) (by decide) _ _ _ _ _ _ B1 B2 h1 h2 R o
end Go.AL
set_option linter.unusedSimpArgs false
set_option linter.unusedVariables false
namespace Go.AL
variable {ex : Bool} {d lo : Nat} {T1 T2 T : List Tk} {m k : Nat}
theorem atomsL_st (hT : TOK T) {e pt : PM Nd} (A : Tot T (m + 1) e) (P : Tot T (m + 1) pt) : ∀ (n : Nat) (nd : Nd) (p : PS) (r : Nd) (q : PS), Bd T m p → atomsL T e pt n nd p = some (r, q) → Step T p q
  | 0, nd, p, r, q, B, h => by cases h; exact .refl B.lt
  | n + 1, nd, p, r, q, B, h => by
    unfold atomsL at h
    simp only [Option.bind_eq_some_iff, Prod.exists] at h
    obtain ⟨c, a, k, h⟩ := h
    have s := ((atom_tot hT A P).st B k).1
    exact s.trans (atomsL_st hT A P n _ _ _ _ (B.next s) h)
theorem atomsL_rel (H : TR ex d lo T1 T2) {e1 e2 pt1 pt2 : PM Nd} (A1 : Tot T1 (m + 1) e1) (A2 : Tot T2 (k + 1) e2) (he : RelF ex d lo T1 T2 (m + 1) (k + 1) e1 e2) (P1 : Tot T1 (m + 1) pt1) (P2 : Tot T2 (k + 1) pt2) (hp : RelF ex d lo T1 T2 (m + 1) (k + 1) pt1 pt2) :
    ∀ (n : Nat) (a b : Nd) (p1 p2 : PS) (r1 : Nd) (q1 : PS) (r2 : Nd) (q2 : PS), Bd T1 m p1 → Bd T2 k p2 → atomsL T1 e1 pt1 n a p1 = some (r1, q1) → atomsL T2 e2 pt2 n b p2 = some (r2, q2) → Rel d lo p1 p2 → Ok ex q1 q2 → sameB a b = true → Rel d lo q1 q2 ∧ sameB r1 r2 = true
  | 0, a, b, p1, p2, r1, q1, r2, q2, B1, B2, h1, h2, R, o, hs => by cases h1; cases h2; exact ⟨R, hs⟩
  | n + 1, a, b, p1, p2, r1, q1, r2, q2, B1, B2, h1, h2, R, o, hs => by
    unfold atomsL at h1 h2
    simp only [Option.bind_eq_some_iff, Prod.exists] at h1 h2
    obtain ⟨c1, a1, k1, h1⟩ := h1
    obtain ⟨c2, x1, j1, h2⟩ := h2
    have s := ((atom_tot H.k1 A1 P1).st B1 k1).1
    have u := ((atom_tot H.k2 A2 P2).st B2 j1).1
    have o1 := o.back (atomsL_st H.k1 A1 P1 _ _ _ _ _ (B1.next s) h1) (atomsL_st H.k2 A2 P2 _ _ _ _ _ (B2.next u) h2)
    have R1 := atom_rel H A1 A2 he P1 P2 hp _ _ _ _ _ _ B1 B2 k1 j1 R o1
    exact atomsL_rel H A1 A2 he P1 P2 hp n _ _ _ _ _ _ _ _ (B1.next s) (B2.next u) h1 h2 R1.1 o (same_add hs R1.2)
theorem begins_rel {p1 : PS} {t1 t2 : Tk} (h : TkR ex T1 p1 t1 t2) : beginsT t1 = beginsT t2 := by
  rcases h with hS | ⟨_, _, _, a, b, c⟩
  · unfold beginsT; rw [hS.isT, hS.isT, hS.isT, hS.isT, hS.1]
  · have h1 : beginsT t1 = false := by
      cases hb : beginsT t1 with
      | false => rfl
      | true => exact absurd a (begins_kind hb)
    have h2 : beginsT t2 = false := by unfold beginsT isT; rw [b, c]; decide
    rw [h1, h2]
theorem appL_st (hT : TOK T) {e pt : PM Nd} (A : Tot T (m + 1) e) (P : Tot T (m + 1) pt) : ∀ (n : Nat) (bare : Bool) (nd : Nd) (p : PS) (r : Nd) (q : PS), Bd T m p → appL T e pt n bare nd p = some (r, q) → Step T p q
  | 0, bare, nd, p, r, q, B, h => by cases h
  | n + 1, bare, nd, p, r, q, B, h => by
    unfold appL at h
    simp only [Option.bind_eq_some_iff] at h
    obtain ⟨t, k0, h⟩ := h
    split at h
    · cases bare with
      | true =>
        simp only [if_true, Option.bind_eq_some_iff, Prod.exists] at h
        obtain ⟨a1, k1, c, a2, k2, h⟩ := h
        have s1 := most_st B.lt k1
        have s2 := ((atom_tot hT A P).st (B.next s1) k2).1
        exact (s1.trans s2).trans (appL_st hT A P n _ _ _ _ _ ((B.next s1).next s2) h)
      | false =>
        simp only [Bool.false_eq_true, if_false, Option.bind_eq_some_iff, Prod.exists] at h
        obtain ⟨c, a2, k2, h⟩ := h
        have s2 := ((atom_tot hT A P).st B k2).1
        exact s2.trans (appL_st hT A P n _ _ _ _ _ (B.next s2) h)
    · cases h; exact .refl B.lt
theorem appL_rel (H : TR ex d lo T1 T2) {e1 e2 pt1 pt2 : PM Nd} (A1 : Tot T1 (m + 1) e1) (A2 : Tot T2 (k + 1) e2) (he : RelF ex d lo T1 T2 (m + 1) (k + 1) e1 e2) (P1 : Tot T1 (m + 1) pt1) (P2 : Tot T2 (k + 1) pt2) (hp : RelF ex d lo T1 T2 (m + 1) (k + 1) pt1 pt2) :
    ∀ (n1 n2 : Nat) (bare : Bool) (a b : Nd) (p1 p2 : PS) (r1 : Nd) (q1 : PS) (r2 : Nd) (q2 : PS), Bd T1 m p1 → Bd T2 k p2 → appL T1 e1 pt1 n1 bare a p1 = some (r1, q1) → appL T2 e2 pt2 n2 bare b p2 = some (r2, q2) → Rel d lo p1 p2 → Ok ex q1 q2 → sameB a b = true → Rel d lo q1 q2 ∧ sameB r1 r2 = true
  | 0, n2, bare, a, b, p1, p2, r1, q1, r2, q2, B1, B2, h1, h2, R, o, hs => by cases h1
  | n1 + 1, 0, bare, a, b, p1, p2, r1, q1, r2, q2, B1, B2, h1, h2, R, o, hs => by cases h2
  | n1 + 1, n2 + 1, bare, a, b, p1, p2, r1, q1, r2, q2, B1, B2, h1, h2, R, o, hs => by
    unfold appL at h1 h2
    simp only [Option.bind_eq_some_iff] at h1 h2
    obtain ⟨t1, k0, h1⟩ := h1
    obtain ⟨t2, j0, h2⟩ := h2
    rw [← begins_rel (look_rel H R B1.lt k0 j0)] at h2
    split at h1
    · rename_i c; rw [if_pos c] at h2
      cases bare with
      | true =>
        simp only [if_true, Option.bind_eq_some_iff, Prod.exists] at h1 h2
        obtain ⟨a1, k1, c1, a2, k2, h1⟩ := h1
        obtain ⟨x1, j1, c2, x2, j2, h2⟩ := h2
        have s1 := most_st B1.lt k1
        have s2 := ((atom_tot H.k1 A1 P1).st (B1.next s1) k2).1
        have u1 := most_st B2.lt j1
        have u2 := ((atom_tot H.k2 A2 P2).st (B2.next u1) j2).1
        have o2 := o.back (appL_st H.k1 A1 P1 _ _ _ _ _ _ ((B1.next s1).next s2) h1) (appL_st H.k2 A2 P2 _ _ _ _ _ _ ((B2.next u1).next u2) h2)
        have R1 := most_rel R (by rw [sameBs_len (same_parts hs).2.2.2.2]) k1 j1
        have R2 := atom_rel H A1 A2 he P1 P2 hp _ _ _ _ _ _ (B1.next s1) (B2.next u1) k2 j2 R1 o2
        exact appL_rel H A1 A2 he P1 P2 hp n1 n2 _ _ _ _ _ _ _ _ _ ((B1.next s1).next s2) ((B2.next u1).next u2) h1 h2 R2.1 o (same_add hs R2.2)
      | false =>
        simp only [Bool.false_eq_true, if_false, Option.bind_eq_some_iff, Prod.exists] at h1 h2
        obtain ⟨c1, a2, k2, h1⟩ := h1
        obtain ⟨c2, x2, j2, h2⟩ := h2
        have s2 := ((atom_tot H.k1 A1 P1).st B1 k2).1
        have u2 := ((atom_tot H.k2 A2 P2).st B2 j2).1
        have o2 := o.back (appL_st H.k1 A1 P1 _ _ _ _ _ _ (B1.next s2) h1) (appL_st H.k2 A2 P2 _ _ _ _ _ _ (B2.next u2) h2)
        have R2 := atom_rel H A1 A2 he P1 P2 hp _ _ _ _ _ _ B1 B2 k2 j2 R o2
        exact appL_rel H A1 A2 he P1 P2 hp n1 n2 _ _ _ _ _ _ _ _ _ (B1.next s2) (B2.next u2) h1 h2 R2.1 o (same_node (sameBs2 hs R2.2))
    · rename_i c; rw [if_neg c] at h2
      cases h1; cases h2; exact ⟨R, hs⟩
theorem app_rel (H : TR ex d lo T1 T2) {e1 e2 pt1 pt2 : PM Nd} (A1 : Tot T1 (m + 1) e1) (A2 : Tot T2 (k + 1) e2) (he : RelF ex d lo T1 T2 (m + 1) (k + 1) e1 e2) (P1 : Tot T1 (m + 1) pt1) (P2 : Tot T2 (k + 1) pt2) (hp : RelF ex d lo T1 T2 (m + 1) (k + 1) pt1 pt2) : RelF ex d lo T1 T2 m k (appF T1 e1 pt1) (appF T2 e2 pt2) := by
  intro p1 p2 r1 q1 r2 q2 B1 B2 h1 h2 R o
  have h1' := h1
  unfold appF at h1 h2
  simp only [Option.bind_eq_some_iff] at h1 h2
  obtain ⟨t1, k0, h1⟩ := h1
  obtain ⟨t2, j0, h2⟩ := h2
  have hS := start_sm H (app_tot H.k1 A1 P1) B1 h1' R o k0 j0
  rw [← hS.1, ← hS.2.1] at h2
  split at h1
  · rename_i c; rw [if_pos c] at h2
    simp only [Option.bind_eq_some_iff, Prod.exists] at h1 h2
    obtain ⟨v1, a1, k1, h1⟩ := h1
    obtain ⟨v2, x1, j1, h2⟩ := h2
    have y1 := (take_inv k1).1
    have y2 := (take_inv j1).1
    rw [k0] at y1; rw [j0] at y2
    cases y1; cases y2
    have s1 := (take_st H.k1 B1.lt k1).1
    have u1 := (take_st H.k2 B2.lt j1).1
    exact atomsL_rel H A1 A2 he P1 P2 hp _ _ _ _ _ _ _ _ _ (B1.next s1) (B2.next u1) h1 h2 (take_rel R k1 j1 hS) o (same_node rfl)
  · rename_i c; rw [if_neg c] at h2
    simp only [Option.bind_eq_some_iff, Prod.exists] at h1 h2
    obtain ⟨c1, a1, k1, h1⟩ := h1
    obtain ⟨c2, x1, j1, h2⟩ := h2
    have s1 := ((atom_tot H.k1 A1 P1).st B1 k1).1
    have u1 := ((atom_tot H.k2 A2 P2).st B2 j1).1
    have o1 := o.back (appL_st H.k1 A1 P1 _ _ _ _ _ _ (B1.next s1) h1) (appL_st H.k2 A2 P2 _ _ _ _ _ _ (B2.next u1) h2)
    have R1 := atom_rel H A1 A2 he P1 P2 hp _ _ _ _ _ _ B1 B2 k1 j1 R o1
    exact appL_rel H A1 A2 he P1 P2 hp _ _ _ _ _ _ _ _ _ _ _ (B1.next s1) (B2.next u1) h1 h2 R1.1 o R1.2
theorem sumsL_st (hT : TOK T) {part : PM Nd} {signs : List Tx} (A : Tot T m part) : ∀ (n : Nat) (t : Tk) (nd : Nd) (p : PS) (r : Nd) (q : PS), Bd T m p → sumsL T part signs n t nd p = some (r, q) → Step T p q
  | 0, t, nd, p, r, q, B, h => by cases h
  | n + 1, t, nd, p, r, q, B, h => by
    unfold sumsL at h
    split at h
    · simp only [Option.bind_eq_some_iff, Prod.exists] at h
      obtain ⟨u, a1, k1, c, a2, k2, t', k3, h⟩ := h
      have s1 := (take_st hT B.lt k1).1
      have s2 := (A.st (B.next s1) k2).1
      exact (s1.trans s2).trans (sumsL_st hT A n _ _ _ _ _ ((B.next s1).next s2) h)
    · cases h; exact .refl B.lt
theorem sumsL_rel (H : TR ex d lo T1 T2) {f1 f2 : PM Nd} {signs : List Tx} (h41 : ([41] : Tx) ∉ signs) (A1 : Tot T1 m f1) (A2 : Tot T2 k f2) (he : RelF ex d lo T1 T2 m k f1 f2) :
    ∀ (n1 n2 : Nat) (t1 t2 : Tk) (a b : Nd) (p1 p2 : PS) (r1 : Nd) (q1 : PS) (r2 : Nd) (q2 : PS), lookF T1 p1 = some t1 → lookF T2 p2 = some t2 → Bd T1 m p1 → Bd T2 k p2 → sumsL T1 f1 signs n1 t1 a p1 = some (r1, q1) → sumsL T2 f2 signs n2 t2 b p2 = some (r2, q2) → Rel d lo p1 p2 → Ok ex q1 q2 → sameB a b = true → Rel d lo q1 q2 ∧ sameB r1 r2 = true
  | 0, n2, t1, t2, a, b, p1, p2, r1, q1, r2, q2, l1, l2, B1, B2, h1, h2, R, o, hs => by cases h1
  | n1 + 1, 0, t1, t2, a, b, p1, p2, r1, q1, r2, q2, l1, l2, B1, B2, h1, h2, R, o, hs => by cases h2
  | n1 + 1, n2 + 1, t1, t2, a, b, p1, p2, r1, q1, r2, q2, l1, l2, B1, B2, h1, h2, R, o, hs => by
    unfold sumsL at h1 h2
    have hR := look_rel H R B1.lt l1 l2
    split at h1
    · rename_i c
      have hS := hR.sm (by omega)
      rw [if_pos (by rw [← hS.1, ← hS.2.1]; exact c)] at h2
      simp only [Option.bind_eq_some_iff, Prod.exists] at h1 h2
      obtain ⟨v1, a1, k1, c1, a2, k2, g1, k3, h1⟩ := h1
      obtain ⟨v2, x1, j1, c2, x2, j2, g2, j3, h2⟩ := h2
      have y1 := (take_inv k1).1
      have y2 := (take_inv j1).1
      rw [l1] at y1; rw [l2] at y2
      cases y1; cases y2
      have s1 := (take_st H.k1 B1.lt k1).1
      have u1 := (take_st H.k2 B2.lt j1).1
      have s2 := (A1.st (B1.next s1) k2).1
      have u2 := (A2.st (B2.next u1) j2).1
      have o2 := o.back (sumsL_st H.k1 A1 _ _ _ _ _ _ ((B1.next s1).next s2) h1) (sumsL_st H.k2 A2 _ _ _ _ _ _ ((B2.next u1).next u2) h2)
      have R2 := he _ _ _ _ _ _ (B1.next s1) (B2.next u1) k2 j2 (take_rel R k1 j1 hS) o2
      exact sumsL_rel H h41 A1 A2 he n1 n2 _ _ _ _ _ _ _ _ _ _ k3 j3 ((B1.next s1).next s2) ((B2.next u1).next u2) h1 h2 R2.1 o (by rw [← hS.2.1]; exact same_node (sameBs2 hs R2.2))
    · rename_i c
      have c2 : ¬ (t2.kind = 5 ∧ t2.text ∈ signs) := by
        rcases hR with hS | ⟨_, _, _, x, y, z⟩
        · rw [← hS.1, ← hS.2.1]; exact c
        · rw [z]; exact fun h => h41 h.2
      rw [if_neg c2] at h2
      cases h1; cases h2; exact ⟨R, hs⟩
theorem sums_rel (H : TR ex d lo T1 T2) {f1 f2 : PM Nd} {signs : List Tx} (h41 : ([41] : Tx) ∉ signs) (A1 : Tot T1 m f1) (A2 : Tot T2 k f2) (he : RelF ex d lo T1 T2 m k f1 f2) : RelF ex d lo T1 T2 m k (sumsF T1 f1 signs) (sumsF T2 f2 signs) := by
  intro p1 p2 r1 q1 r2 q2 B1 B2 h1 h2 R o
  unfold sumsF at h1 h2
  simp only [Option.bind_eq_some_iff, Prod.exists] at h1 h2
  obtain ⟨c1, a1, k1, t1, k2, h1⟩ := h1
  obtain ⟨c2, x1, j1, t2, j2, h2⟩ := h2
  have s1 := (A1.st B1 k1).1
  have u1 := (A2.st B2 j1).1
  have o1 := o.back (sumsL_st H.k1 A1 _ _ _ _ _ _ (B1.next s1) h1) (sumsL_st H.k2 A2 _ _ _ _ _ _ (B2.next u1) h2)
  have R1 := he _ _ _ _ _ _ B1 B2 k1 j1 R o1
  exact sumsL_rel H h41 A1 A2 he _ _ _ _ _ _ _ _ _ _ _ _ k2 j2 (B1.next s1) (B2.next u1) h1 h2 R1.1 o R1.2
theorem sum_rel (H : TR ex d lo T1 T2) {e1 e2 pt1 pt2 : PM Nd} (A1 : Tot T1 (m + 1) e1) (A2 : Tot T2 (k + 1) e2) (he : RelF ex d lo T1 T2 (m + 1) (k + 1) e1 e2) (P1 : Tot T1 (m + 1) pt1) (P2 : Tot T2 (k + 1) pt2) (hp : RelF ex d lo T1 T2 (m + 1) (k + 1) pt1 pt2) : RelF ex d lo T1 T2 m k (sumF T1 e1 pt1) (sumF T2 e2 pt2) :=
  sums_rel H (by decide) (sums_tot H.k1 (app_tot H.k1 A1 P1)) (sums_tot H.k2 (app_tot H.k2 A2 P2)) (sums_rel H (by decide) (app_tot H.k1 A1 P1) (app_tot H.k2 A2 P2) (app_rel H A1 A2 he P1 P2 hp))
theorem cmp_rel (H : TR ex d lo T1 T2) {e1 e2 pt1 pt2 : PM Nd} (A1 : Tot T1 (m + 1) e1) (A2 : Tot T2 (k + 1) e2) (he : RelF ex d lo T1 T2 (m + 1) (k + 1) e1 e2) (P1 : Tot T1 (m + 1) pt1) (P2 : Tot T2 (k + 1) pt2) (hp : RelF ex d lo T1 T2 (m + 1) (k + 1) pt1 pt2) : RelF ex d lo T1 T2 m k (cmpF T1 e1 pt1) (cmpF T2 e2 pt2) := by
  intro p1 p2 r1 q1 r2 q2 B1 B2 h1 h2 R o
  unfold cmpF at h1 h2
  simp only [Option.bind_eq_some_iff, Prod.exists] at h1 h2
  obtain ⟨c1, a1, k1, t1, k2, h1⟩ := h1
  obtain ⟨c2, x1, j1, t2, j2, h2⟩ := h2
  have s1 := ((sum_tot H.k1 A1 P1).st B1 k1).1
  have u1 := ((sum_tot H.k2 A2 P2).st B2 j1).1
  have C1 := B1.next s1
  have C2 := B2.next u1
  have stp : ∀ {T : List Tk} {e pt : PM Nd} {m : Nat} (hT : TOK T) (A : Tot T (m + 1) e) (P : Tot T (m + 1) pt) {c r : Nd} {p q : PS} {t : Tk}, Bd T m p → (if isT t [61] = true ∨ isT t [60] = true then (takeF T p).bind fun q => (sumF T e pt q.2).map fun u => (nodeF 13 c.pos t.text [c, u.1], u.2) else some (c, p)) = some (r, q) → Step T p q := by
    intro T e pt m hT A P c r p q t B h
    split at h
    · simp only [Option.bind_eq_some_iff, Option.map_eq_some_iff, Prod.exists, Prod.mk.injEq] at h
      obtain ⟨v, y, k, n, z, k', _, rfl⟩ := h
      have s := (take_st hT B.lt k).1
      exact s.trans ((sum_tot hT A P).st (B.next s) k').1
    · cases h; exact .refl B.lt
  have o1 := o.back (stp H.k1 A1 P1 C1 h1) (stp H.k2 A2 P2 C2 h2)
  have R1 := sum_rel H A1 A2 he P1 P2 hp _ _ _ _ _ _ B1 B2 k1 j1 R o1
  have hR := look_rel H R1.1 C1.lt k2 j2
  rw [← hR.isT (s := [61]) (by decide), ← hR.isT (s := [60]) (by decide)] at h2
  split at h1
  · rename_i c; rw [if_pos c] at h2
    have hS := hR.sm (by rcases c with c | c <;> exact isT_kind c)
    simp only [Option.bind_eq_some_iff, Option.map_eq_some_iff, Prod.exists, Prod.mk.injEq] at h1 h2
    obtain ⟨v1, a2, k3, n1, a3, k4, rfl, rfl⟩ := h1
    obtain ⟨v2, x2, j3, n2, x3, j4, rfl, rfl⟩ := h2
    have y1 := (take_inv k3).1
    have y2 := (take_inv j3).1
    rw [k2] at y1; rw [j2] at y2
    cases y1; cases y2
    have s2 := (take_st H.k1 C1.lt k3).1
    have u2 := (take_st H.k2 C2.lt j3).1
    have R3 := sum_rel H A1 A2 he P1 P2 hp _ _ _ _ _ _ (C1.next s2) (C2.next u2) k4 j4 (take_rel R1.1 k3 j3 hS) o
    rw [hS.2.1]
    exact ⟨R3.1, same_node (sameBs2 R1.2 R3.2)⟩
  · rename_i c; rw [if_neg c] at h2
    cases h1; cases h2; exact R1
/-- What a name is to mean. -/
theorem value_inv {e : PM Nd} {p q : PS} {x : Tx} {rc : Bool} {v : Nd} (h : valueF T e p = some ((x, rc, v), q)) : ∃ p1 t p2 p3 p4, mayF T [114, 101, 99] p = some (rc, p1) ∧ wordF T 3 p1 = some (t, p2) ∧ x = t.text ∧ mustF T [61] p2 = some p3 ∧
    (if rc = true ∧ p3.deep < 40 then (isF T [102, 117, 110] p3).bind fun b => if b then some p3 else failF T 14 p3 else some p3) = some p4 ∧ inF T e p4 = some (v, q) := by
  unfold valueF at h
  simp only [Option.bind_eq_some_iff, Option.map_eq_some_iff, Prod.exists, Prod.mk.injEq] at h
  obtain ⟨b, p1, k1, t, p2, k2, p3, k3, p4, k4, n, p5, k5, ⟨rfl, rfl, rfl⟩, rfl⟩ := h
  exact ⟨p1, t, p2, p3, p4, k1, k2, rfl, k3, k4, k5⟩
theorem rec_st {p3 p4 : PS} {rc : Bool} (hp : p3.pos < T.length) (h : (if rc = true ∧ p3.deep < 40 then (isF T [102, 117, 110] p3).bind fun b => if b then some p3 else failF T 14 p3 else some p3) = some p4) : Step T p3 p4 := by
  split at h
  · simp only [Option.bind_eq_some_iff] at h
    obtain ⟨b, _, h⟩ := h
    split at h
    · cases h; exact .refl hp
    · exact fail_st hp h
  · cases h; exact .refl hp
theorem value_st (hT : TOK T) {e : PM Nd} (A : Tot T (m + 1) e) {p q : PS} {x : Tx} {rc : Bool} {v : Nd} (B : Bd T m p) (h : valueF T e p = some ((x, rc, v), q)) : Step T p q ∧ Strict p q := by
  obtain ⟨p1, t, p2, p3, p4, k1, k2, _, k3, k4, k5⟩ := value_inv h
  have s1 := may_st hT B.lt k1
  obtain ⟨s2, x2⟩ := word_st hT s1.lt (by decide) k2
  have s3 := (must_st hT s2.lt k3).1
  have s4 := rec_st s3.lt k4
  have s5 := ((in_tot hT A).st ((((B.next s1).next s2).next s3).next s4) k5).1
  have sr := s3.trans (s4.trans s5)
  exact ⟨s1.trans (s2.trans sr), Strict.r s1 (s2.trans sr) (x2.l sr)⟩
theorem value_rel (H : TR ex d lo T1 T2) {e1 e2 : PM Nd} (A1 : Tot T1 (m + 1) e1) (A2 : Tot T2 (k + 1) e2) (he : RelF ex d lo T1 T2 (m + 1) (k + 1) e1 e2) {p1 p2 q1 q2 : PS} {x1 x2 : Tx} {b1 b2 : Bool} {v1 v2 : Nd} (B1 : Bd T1 m p1) (B2 : Bd T2 k p2)
    (h1 : valueF T1 e1 p1 = some ((x1, b1, v1), q1)) (h2 : valueF T2 e2 p2 = some ((x2, b2, v2), q2)) (R : Rel d lo p1 p2) (o : Ok ex q1 q2) : Rel d lo q1 q2 ∧ x1 = x2 ∧ b1 = b2 ∧ sameB v1 v2 = true := by
  obtain ⟨a1, t1, a2, a3, a4, k1, k2, rfl, k3, k4, k5⟩ := value_inv h1
  obtain ⟨y1, t2, y2, y3, y4, j1, j2, rfl, j3, j4, j5⟩ := value_inv h2
  have s1 := may_st H.k1 B1.lt k1
  have s2 := (word_st H.k1 s1.lt (by decide) k2).1
  have s3 := (must_st H.k1 s2.lt k3).1
  have C1 := ((B1.next s1).next s2).next s3
  have s4 := rec_st s3.lt k4
  have s5 := ((in_tot H.k1 A1).st (C1.next s4) k5).1
  have u1 := may_st H.k2 B2.lt j1
  have u2 := (word_st H.k2 u1.lt (by decide) j2).1
  have u3 := (must_st H.k2 u2.lt j3).1
  have C2 := ((B2.next u1).next u2).next u3
  have u4 := rec_st u3.lt j4
  have u5 := ((in_tot H.k2 A2).st (C2.next u4) j5).1
  have o4 := o.back s5 u5
  have o3 := o4.back s4 u4
  have o2 := o3.back s3 u3
  obtain ⟨rfl, R1⟩ := may_rel H R B1.lt (by decide) k1 j1
  have R2 := word_rel H R1 s1.lt (by decide) k2 j2 o2
  have R3 := must_rel H R2.1 s2.lt k3 j3 o3
  have R4 : Rel d lo a4 y4 := by
    by_cases c1 : b1 = true ∧ a3.deep < 40
    · by_cases c2 : b1 = true ∧ y3.deep < 40
      · rw [if_pos c1] at k4; rw [if_pos c2] at j4
        simp only [Option.bind_eq_some_iff] at k4 j4
        obtain ⟨f1, g1, k4⟩ := k4
        obtain ⟨f2, g2, j4⟩ := j4
        have hb := is_rel H R3 s3.lt (by decide) g1 g2
        subst hb
        cases f1 with
        | true =>
          simp only [if_true, Option.some.injEq] at k4 j4
          subst k4; subst j4; exact R3
        | false => exact fail_rel R3 (by simpa using k4) (by simpa using j4)
      · exfalso
        have c3 : 40 ≤ y3.deep := Nat.le_of_not_lt fun h => c2 ⟨c1.1, h⟩
        cases hx : ex with
        | true => have hd := H.dx hx; have := R3.deep; omega
        | false =>
          have hz := (o.f hx).2
          have : y4 = y3 := by rw [if_neg c2] at j4; exact (Option.some.inj j4).symm
          subst this
          unfold inF at j5
          rw [if_pos c3] at j5
          simp only [Option.bind_eq_some_iff] at j5
          obtain ⟨p', g, j5⟩ := j5
          have hne := fail_ne g (by decide)
          rw [if_pos hne] at j5
          cases j5; exact hne hz
    · by_cases c2 : b1 = true ∧ y3.deep < 40
      · exfalso; exact c1 ⟨c2.1, by have := R3.deep; omega⟩
      · rw [if_neg c1] at k4; rw [if_neg c2] at j4
        cases k4; cases j4; exact R3
  have R5 := in_rel H he _ _ _ _ _ _ (C1.next s4) (C2.next u4) k5 j5 R4 o
  exact ⟨R5.1, R2.2.2.1, rfl, R5.2⟩
theorem let_rel (H : TR ex d lo T1 T2) {e1 e2 : PM Nd} (A1 : Tot T1 (m + 1) e1) (A2 : Tot T2 (k + 1) e2) (he : RelF ex d lo T1 T2 (m + 1) (k + 1) e1 e2) : RelF ex d lo T1 T2 m k (letF T1 e1) (letF T2 e2) := by
  intro p1 p2 r1 q1 r2 q2 B1 B2 h1 h2 R o
  have h1' := h1
  unfold letF at h1 h2
  simp only [Option.bind_eq_some_iff, Option.map_eq_some_iff, Prod.exists, Prod.mk.injEq] at h1 h2
  obtain ⟨t1, a1, k1, x1, b1, v1, a2, k2, a3, k3, n1, a4, k4, rfl, rfl⟩ := h1
  obtain ⟨t2, y1, j1, x2, b2, v2, y2, j2, y3, j3, n2, y4, j4, rfl, rfl⟩ := h2
  have hS := start_sm H (let_tot H.k1 A1) B1 h1' R o (take_inv k1).1 (take_inv j1).1
  have s1 := (take_st H.k1 B1.lt k1).1
  have s2 := (value_st H.k1 A1 (B1.next s1) k2).1
  have s3 := (must_st H.k1 s2.lt k3).1
  have C1 := ((B1.next s1).next s2).next s3
  have s4 := ((in_tot H.k1 A1).st C1 k4).1
  have u1 := (take_st H.k2 B2.lt j1).1
  have u2 := (value_st H.k2 A2 (B2.next u1) j2).1
  have u3 := (must_st H.k2 u2.lt j3).1
  have C2 := ((B2.next u1).next u2).next u3
  have u4 := ((in_tot H.k2 A2).st C2 j4).1
  have o3 := o.back s4 u4
  have o2 := o3.back s3 u3
  obtain ⟨R2, rfl, rfl, hv⟩ := value_rel H A1 A2 he (B1.next s1) (B2.next u1) k2 j2 (take_rel R k1 j1 hS) o2
  have R3 := must_rel H R2 s2.lt k3 j3 o3
  have R4 := in_rel H he _ _ _ _ _ _ C1 C2 k4 j4 R3 o
  exact ⟨R4.1, same_node (sameBs2 hv R4.2)⟩
theorem fun_rel (H : TR ex d lo T1 T2) {e1 e2 : PM Nd} (A1 : Tot T1 (m + 1) e1) (A2 : Tot T2 (k + 1) e2) (he : RelF ex d lo T1 T2 (m + 1) (k + 1) e1 e2) : RelF ex d lo T1 T2 m k (funF T1 e1) (funF T2 e2) := by
  intro p1 p2 r1 q1 r2 q2 B1 B2 h1 h2 R o
  have h1' := h1
  unfold funF at h1 h2
  simp only [Option.bind_eq_some_iff, Option.map_eq_some_iff, Prod.exists, Prod.mk.injEq] at h1 h2
  obtain ⟨t1, a1, k1, w1, a2, k2, a3, k3, n1, a4, k4, rfl, rfl⟩ := h1
  obtain ⟨t2, y1, j1, w2, y2, j2, y3, j3, n2, y4, j4, rfl, rfl⟩ := h2
  have hS := start_sm H (fun_tot H.k1 A1) B1 h1' R o (take_inv k1).1 (take_inv j1).1
  have s1 := (take_st H.k1 B1.lt k1).1
  have s2 := (word_st H.k1 s1.lt (by decide) k2).1
  have s3 := (must_st H.k1 s2.lt k3).1
  have C1 := ((B1.next s1).next s2).next s3
  have s4 := ((in_tot H.k1 A1).st C1 k4).1
  have u1 := (take_st H.k2 B2.lt j1).1
  have u2 := (word_st H.k2 u1.lt (by decide) j2).1
  have u3 := (must_st H.k2 u2.lt j3).1
  have C2 := ((B2.next u1).next u2).next u3
  have u4 := ((in_tot H.k2 A2).st C2 j4).1
  have o3 := o.back s4 u4
  have o2 := o3.back s3 u3
  have R2 := word_rel H (take_rel R k1 j1 hS) s1.lt (by decide) k2 j2 o2
  have R3 := must_rel H R2.1 s2.lt k3 j3 o3
  have R4 := in_rel H he _ _ _ _ _ _ C1 C2 k4 j4 R3 o
  rw [R2.2.2.1]
  exact ⟨R4.1, same_node (sameBs1 R4.2)⟩
theorem branch_rel (H : TR ex d lo T1 T2) {e1 e2 : PM Nd} (A1 : Tot T1 (m + 1) e1) (A2 : Tot T2 (k + 1) e2) (he : RelF ex d lo T1 T2 (m + 1) (k + 1) e1 e2) : RelF ex d lo T1 T2 m k (branchF T1 e1) (branchF T2 e2) := by
  intro p1 p2 r1 q1 r2 q2 B1 B2 h1 h2 R o
  have h1' := h1
  unfold branchF at h1 h2
  simp only [Option.bind_eq_some_iff, Option.map_eq_some_iff, Prod.exists, Prod.mk.injEq] at h1 h2
  obtain ⟨t1, a1, k1, c1, a2, k2, a3, k3, n1, a4, k4, a5, k5, z1, a6, k6, rfl, rfl⟩ := h1
  obtain ⟨t2, y1, j1, c2, y2, j2, y3, j3, n2, y4, j4, y5, j5, z2, y6, j6, rfl, rfl⟩ := h2
  have hS := start_sm H (branch_tot H.k1 A1) B1 h1' R o (take_inv k1).1 (take_inv j1).1
  have s1 := (take_st H.k1 B1.lt k1).1
  have s2 := ((in_tot H.k1 A1).st (B1.next s1) k2).1
  have s3 := (must_st H.k1 s2.lt k3).1
  have C1 := ((B1.next s1).next s2).next s3
  have s4 := ((in_tot H.k1 A1).st C1 k4).1
  have s5 := (must_st H.k1 s4.lt k5).1
  have D1 := (C1.next s4).next s5
  have s6 := ((in_tot H.k1 A1).st D1 k6).1
  have u1 := (take_st H.k2 B2.lt j1).1
  have u2 := ((in_tot H.k2 A2).st (B2.next u1) j2).1
  have u3 := (must_st H.k2 u2.lt j3).1
  have C2 := ((B2.next u1).next u2).next u3
  have u4 := ((in_tot H.k2 A2).st C2 j4).1
  have u5 := (must_st H.k2 u4.lt j5).1
  have D2 := (C2.next u4).next u5
  have u6 := ((in_tot H.k2 A2).st D2 j6).1
  have o5 := o.back s6 u6
  have o4 := o5.back s5 u5
  have o3 := o4.back s4 u4
  have o2 := o3.back s3 u3
  have R2 := in_rel H he _ _ _ _ _ _ (B1.next s1) (B2.next u1) k2 j2 (take_rel R k1 j1 hS) o2
  have R3 := must_rel H R2.1 s2.lt k3 j3 o3
  have R4 := in_rel H he _ _ _ _ _ _ C1 C2 k4 j4 R3 o4
  have R5 := must_rel H R4.1 s4.lt k5 j5 o5
  have R6 := in_rel H he _ _ _ _ _ _ D1 D2 k6 j6 R5 o
  exact ⟨R6.1, same_node (sameBs3 R2.2 R4.2 R6.2)⟩
theorem exp_rel (H : TR ex d lo T1 T2) {e1 e2 pt1 pt2 : PM Nd} (A1 : Tot T1 (m + 1) e1) (A2 : Tot T2 (k + 1) e2) (he : RelF ex d lo T1 T2 (m + 1) (k + 1) e1 e2) (P1 : Tot T1 (m + 1) pt1) (P2 : Tot T2 (k + 1) pt2) (hp : RelF ex d lo T1 T2 (m + 1) (k + 1) pt1 pt2) : RelF ex d lo T1 T2 m k (expS T1 e1 pt1) (expS T2 e2 pt2) := by
  intro p1 p2 r1 q1 r2 q2 B1 B2 h1 h2 R o
  have h1' := h1
  unfold expS at h1 h2
  simp only [Option.bind_eq_some_iff] at h1 h2
  obtain ⟨t1, k0, h1⟩ := h1
  obtain ⟨t2, j0, h2⟩ := h2
  have hS := start_sm H (exp_tot H.k1 A1 P1) B1 h1' R o k0 j0
  rw [← hS.1, ← hS.2.1] at h2
  split at h1
  · rename_i c; rw [if_pos c] at h2
    exact let_rel H A1 A2 he _ _ _ _ _ _ B1 B2 h1 h2 R o
  rename_i c; rw [if_neg c] at h2
  split at h1
  · rename_i c; rw [if_pos c] at h2
    exact fun_rel H A1 A2 he _ _ _ _ _ _ B1 B2 h1 h2 R o
  rename_i c; rw [if_neg c] at h2
  split at h1
  · rename_i c; rw [if_pos c] at h2
    exact branch_rel H A1 A2 he _ _ _ _ _ _ B1 B2 h1 h2 R o
  rename_i c; rw [if_neg c] at h2
  simp only [Option.bind_eq_some_iff, Prod.exists] at h1 h2
  obtain ⟨c1, a1, k1, b1, a2, k2, h1⟩ := h1
  obtain ⟨c2, x1, j1, b2, x2, j2, h2⟩ := h2
  have s1 := ((cmp_tot H.k1 A1 P1).st B1 k1).1
  have u1 := ((cmp_tot H.k2 A2 P2).st B2 j1).1
  have mst : ∀ {T : List Tk} (hT : TOK T) {p q : PS} {b : Bool}, p.pos < T.length → (if p.flat = true then some (false, p) else mayF T [59] p) = some (b, q) → Step T p q := by
    intro T hT p q b hp h
    split at h
    · cases h; exact .refl hp
    · exact may_st hT hp h
  have s2 := mst H.k1 s1.lt k2
  have u2 := mst H.k2 u1.lt j2
  have C1 := (B1.next s1).next s2
  have C2 := (B2.next u1).next u2
  have est : ∀ {T : List Tk} {e : PM Nd} {m : Nat} (hT : TOK T) (A : Tot T (m + 1) e) {c r : Nd} {p q : PS} {b : Bool}, Bd T m p → (if b = true then (inF T e p).map fun u => (nodeF 14 c.pos [] [c, u.1], u.2) else some (c, p)) = some (r, q) → Step T p q := by
    intro T e m hT A c r p q b B h
    split at h
    · simp only [Option.map_eq_some_iff, Prod.exists, Prod.mk.injEq] at h
      obtain ⟨n, z, k', _, rfl⟩ := h
      exact ((in_tot hT A).st B k').1
    · cases h; exact .refl B.lt
  have o2 := o.back (est H.k1 A1 C1 h1) (est H.k2 A2 C2 h2)
  have o1 := o2.back s2 u2
  have R1 := cmp_rel H A1 A2 he P1 P2 hp _ _ _ _ _ _ B1 B2 k1 j1 R o1
  have R2 : b1 = b2 ∧ Rel d lo a2 x2 := by
    rw [R1.1.flat] at j2
    split at k2
    · rename_i c; rw [if_pos c] at j2
      cases k2; cases j2; exact ⟨rfl, R1.1⟩
    · rename_i c; rw [if_neg c] at j2
      exact may_rel H R1.1 s1.lt (by decide) k2 j2
  obtain ⟨rfl, R2⟩ := R2
  cases b1 with
  | true =>
    simp only [if_true, Option.map_eq_some_iff, Prod.exists, Prod.mk.injEq] at h1 h2
    obtain ⟨n1, a3, k3, rfl, rfl⟩ := h1
    obtain ⟨n2, x3, j3, rfl, rfl⟩ := h2
    have R3 := in_rel H he _ _ _ _ _ _ C1 C2 k3 j3 R2 o
    exact ⟨R3.1, same_node (sameBs2 R1.2 R3.2)⟩
  | false =>
    simp only [Bool.false_eq_true, if_false, Option.some.injEq, Prod.mk.injEq] at h1 h2
    obtain ⟨rfl, rfl⟩ := h1
    obtain ⟨rfl, rfl⟩ := h2
    exact ⟨R2, R1.2⟩
theorem expF_rel (H : TR ex d lo T1 T2) : ∀ (n1 n2 m k : Nat), 43 ≤ m + n1 → 43 ≤ k + n2 → RelF ex d lo T1 T2 m k (expF T1 n1) (expF T2 n2)
  | 0, n2, m, k, h, h' => fun p1 p2 r1 q1 r2 q2 B1 B2 h1 => by cases h1
  | n1 + 1, 0, m, k, h, h' => fun p1 p2 r1 q1 r2 q2 B1 B2 h1 h2 => by cases h2
  | n1 + 1, n2 + 1, m, k, h, h' => exp_rel H (expF_tot H.k1 n1 (m + 1) (by omega)) (expF_tot H.k2 n2 (k + 1) (by omega)) (expF_rel H n1 n2 (m + 1) (k + 1) (by omega) (by omega)) (patF_tot H.k1 (n1 + 1) (m + 1) (by omega)) (patF_tot H.k2 (n2 + 1) (k + 1) (by omega)) (patF_rel H (n1 + 1) (n2 + 1) (m + 1) (k + 1) (by omega) (by omega))
end Go.AL
set_option linter.unusedSimpArgs false
set_option linter.unusedVariables false
namespace Go.AL
variable {ex : Bool} {d lo : Nat} {T1 T2 T : List Tk} {m k : Nat}
theorem decl_rel (H : TR true d lo T1 T2) {e1 e2 y1 y2 : PM Nd} (A1 : Tot T1 (m + 1) e1) (A2 : Tot T2 (k + 1) e2) (he : RelF true d lo T1 T2 (m + 1) (k + 1) e1 e2) (Y1 : Tot T1 (m + 1) y1) (Y2 : Tot T2 (k + 1) y2) (hy : RelF true d lo T1 T2 (m + 1) (k + 1) y1 y2)
    {p1 p2 q1 q2 : PS} {r1 r2 : Nd} (B1 : Bd T1 m p1) (B2 : Bd T2 k p2) (h1 : declF T1 e1 y1 p1 = some (r1, q1)) (h2 : declF T2 e2 y2 p2 = some (r2, q2)) (R : Rel d lo p1 p2) (hf : p1.flat = false) : Rel d lo q1 q2 ∧ sameB r1 r2 = true := by
  unfold declF at h1 h2
  simp only [Option.bind_eq_some_iff, Option.map_eq_some_iff, Prod.exists, Prod.mk.injEq] at h1 h2
  obtain ⟨b1, k0, n1, a1, k1, a2, k2, rfl, rfl⟩ := h1
  obtain ⟨b2, j0, n2, x1, j1, x2, j2, rfl, rfl⟩ := h2
  have hb := is_rel H R B1.lt (by decide) k0 j0
  subst hb
  have hf2 : p2.flat = false := by rw [R.flat, hf]
  cases b1 with
  | true =>
    simp only [if_true] at k1 j1
    have R1 := decltype_rel H Y1 Y2 hy _ _ _ _ _ _ B1 B2 k1 j1 R (.inl rfl)
    have s1 := ((decltype_ok H.k1 Y1).st B1 k1).1
    exact ⟨must_rel H R1.1 s1.lt k2 j2 (.inl rfl), R1.2⟩
  | false =>
    simp only [Bool.false_eq_true, if_false, Option.bind_eq_some_iff, Option.map_eq_some_iff, Prod.exists, Prod.mk.injEq] at k1 j1
    obtain ⟨t1, a3, k3, u1, rc1, v1, a4, k4, rfl, rfl⟩ := k1
    obtain ⟨t2, x3, j3, u2, rc2, v2, x4, j4, rfl, rfl⟩ := j1
    have hS : Sm t1 t2 := (look_rel H R B1.lt (take_inv k3).1 (take_inv j3).1).resolve_right fun h => by cases h.1
    have R1 := take_rel R k3 j3 hS
    have s1 := (take_st H.k1 B1.lt k3).1
    have u1 := (take_st H.k2 B2.lt j3).1
    have hv := value_rel H A1 A2 he (bd_flat (B1.next s1) true) (bd_flat (B2.next u1) true) k4 j4 ⟨R1.lo, R1.pos, R1.deep, rfl, R1.e⟩ (.inl rfl)
    have s2 := (value_st H.k1 A1 (bd_flat (B1.next s1) true) k4).1
    obtain ⟨R2, rfl, rfl, hs⟩ := hv
    exact ⟨must_rel H (p1 := { a4 with flat := false }) (p2 := { x4 with flat := false }) ⟨R2.lo, R2.pos, R2.deep, rfl, R2.e⟩ s2.lt k2 j2 (.inl rfl), same_node (sameBs1 hs)⟩
theorem decl_st (hT : TOK T) {e ty : PM Nd} (A : Tot T (m + 1) e) (Y : Tot T (m + 1) ty) {p q : PS} {r : Nd} (B : Bd T m p) (hf : p.flat = false) (h : declF T e ty p = some (r, q)) : Step T p q := by
  obtain ⟨nd, q', h1, h2, _⟩ := decl_ok hT A Y B.lt B.lo B.hi hf
  rw [h1] at h; cases h; exact h2
theorem progL_inv {e ty : PM Nd} {n : Nat} {nd r : Nd} {p q : PS} (h : progL T e ty (n + 1) nd p = some (r, q)) : ∃ a b, isF T [116, 121, 112, 101] p = some a ∧ (if a = true then some true else isF T [108, 101, 116] p) = some b ∧
    ((b = false ∧ r = nd ∧ q = p) ∨ (b = true ∧ ∃ p1 c p2, mostF T nd.kids.length 60 p = some p1 ∧ declF T e ty p1 = some (c, p2) ∧ progL T e ty n (nd.addKid c) p2 = some (r, q))) := by
  unfold progL at h
  simp only [Option.bind_eq_some_iff] at h
  obtain ⟨a, k0, b, k1, h⟩ := h
  refine ⟨a, b, k0, k1, ?_⟩
  cases b with
  | false => simp only [Bool.false_eq_true, if_false, Option.some.injEq, Prod.mk.injEq] at h; exact .inl ⟨rfl, h.1.symm, h.2.symm⟩
  | true =>
    simp only [if_true, Option.bind_eq_some_iff, Prod.exists] at h
    obtain ⟨p1, k2, c, p2, k3, h⟩ := h
    exact .inr ⟨rfl, p1, c, p2, k2, k3, h⟩
theorem progL_rel (H : TR true d lo T1 T2) {e1 e2 y1 y2 : PM Nd} (A1 : Tot T1 (m + 1) e1) (A2 : Tot T2 (k + 1) e2) (he : RelF true d lo T1 T2 (m + 1) (k + 1) e1 e2) (Y1 : Tot T1 (m + 1) y1) (Y2 : Tot T2 (k + 1) y2) (hy : RelF true d lo T1 T2 (m + 1) (k + 1) y1 y2) :
    ∀ (n1 n2 : Nat) (a b : Nd) (p1 p2 : PS) (r1 : Nd) (q1 : PS) (r2 : Nd) (q2 : PS), Bd T1 m p1 → Bd T2 k p2 → progL T1 e1 y1 n1 a p1 = some (r1, q1) → progL T2 e2 y2 n2 b p2 = some (r2, q2) → Rel d lo p1 p2 → p1.flat = false → sameB a b = true → Rel d lo q1 q2 ∧ sameB r1 r2 = true ∧ Bd T1 m q1 ∧ Bd T2 k q2
  | 0, n2, a, b, p1, p2, r1, q1, r2, q2, B1, B2, h1, h2, R, hf, hs => by cases h1
  | n1 + 1, 0, a, b, p1, p2, r1, q1, r2, q2, B1, B2, h1, h2, R, hf, hs => by cases h2
  | n1 + 1, n2 + 1, a, b, p1, p2, r1, q1, r2, q2, B1, B2, h1, h2, R, hf, hs => by
    obtain ⟨a1, b1, k0, k1, h1⟩ := progL_inv h1
    obtain ⟨a2, b2, j0, j1, h2⟩ := progL_inv h2
    have ha := is_rel H R B1.lt (by decide) k0 j0
    subst ha
    have hb : b1 = b2 := by
      cases a1 with
      | true => simp only [if_true, Option.some.injEq] at k1 j1; rw [← k1, ← j1]
      | false => exact is_rel H R B1.lt (s := [108, 101, 116]) (by decide) (by simpa using k1) (by simpa using j1)
    subst hb
    rcases h1 with ⟨c, rfl, rfl⟩ | ⟨c, z1, c1, z2, k2, k3, h1⟩
    · rcases h2 with ⟨_, rfl, rfl⟩ | ⟨c', _⟩
      · exact ⟨R, hs, B1, B2⟩
      · rw [c] at c'; cases c'
    · rcases h2 with ⟨c', _⟩ | ⟨_, w1, c2, w2, j2, j3, h2⟩
      · rw [c] at c'; cases c'
      · have s1 := most_st B1.lt k2
        have u1 := most_st B2.lt j2
        have R1 := most_rel R (by rw [sameBs_len (same_parts hs).2.2.2.2]) k2 j2
        have f1 : z1.flat = false := by rw [s1.flat, hf]
        have f2 : w1.flat = false := by rw [R1.flat, f1]
        have s2 := decl_st H.k1 A1 Y1 (B1.next s1) f1 k3
        have u2 := decl_st H.k2 A2 Y2 (B2.next u1) f2 j3
        have R2 := decl_rel H A1 A2 he Y1 Y2 hy (B1.next s1) (B2.next u1) k3 j3 R1 f1
        exact progL_rel H A1 A2 he Y1 Y2 hy n1 n2 _ _ _ _ _ _ _ _ ((B1.next s1).next s2) ((B2.next u1).next u2) h1 h2 R2.1 (by rw [s2.flat, f1]) (same_add hs R2.2)
/-- The same tokens at other places: the same error, and the same node. -/
theorem parse_same (H : TR true 0 0 T1 T2) {n1 n2 : Nd} {b1 b2 e1 e2 : Int} (h1 : parseF T1 = some (n1, b1, e1)) (h2 : parseF T2 = some (n2, b2, e2)) : e1 = e2 ∧ sameB n1 n2 = true := by
  unfold parseF at h1 h2
  simp only [Option.map_eq_some_iff, Prod.exists] at h1 h2
  obtain ⟨r1, q1, k1, h1⟩ := h1
  obtain ⟨r2, q2, j1, h2⟩ := h2
  have key : q1.e = q2.e ∧ sameB r1 r2 = true := by
    unfold progF at k1 j1
    simp only [Option.bind_eq_some_iff, Option.map_eq_some_iff, Prod.exists, Prod.mk.injEq] at k1 j1
    obtain ⟨t1, l1, c1, a1, k2, a2, k3, u1, a3, k4, v1, k5, a4, k6, rfl, rfl⟩ := k1
    obtain ⟨t2, l2, c2, x1, j2, x2, j3, u2, x3, j4, v2, j5, x4, j6, rfl, rfl⟩ := j1
    have A1 := expF_tot H.k1 42 1 (by omega)
    have A2 := expF_tot H.k2 42 1 (by omega)
    have Y1 := tyF_tot H.k1 42 1 (by omega)
    have Y2 := tyF_tot H.k2 42 1 (by omega)
    have B1 : Bd T1 0 ⟨0, 0, false, 0, 0⟩ := ⟨H.k1.pos, Nat.zero_le _, Nat.zero_le _⟩
    have B2 : Bd T2 0 ⟨0, 0, false, 0, 0⟩ := ⟨H.k2.pos, Nat.zero_le _, Nat.zero_le _⟩
    obtain ⟨R1, hs, C1, C2⟩ := progL_rel H A1 A2 (expF_rel H 42 42 1 1 (by omega) (by omega)) Y1 Y2 (tyF_rel H 42 42 1 1 (by omega) (by omega)) _ _ _ _ _ _ _ _ _ _ B1 B2 k2 j2 ⟨Nat.zero_le _, rfl, rfl, rfl, rfl⟩ rfl (same_node rfl)
    have s2 := (must_st H.k1 C1.lt k3).1
    have w2 := (must_st H.k2 C2.lt j3).1
    have R2 := must_rel H R1 C1.lt k3 j3 (.inl rfl)
    have R3 := in_rel H (expF_rel H 42 42 1 1 (by omega) (by omega)) _ _ _ _ _ _ (C1.next s2) (C2.next w2) k4 j4 R2 (.inl rfl)
    have s3 := ((in_tot H.k1 A1).st (C1.next s2) k4).1
    have hS : Sm v1 v2 := (look_rel H R3.1 s3.lt k5 j5).resolve_right fun h => by cases h.1
    rw [← hS.1] at j6
    have R4 : Rel 0 0 a4 x4 := by
      split at k6
      · rename_i c; rw [if_pos c] at j6; exact fail_rel R3.1 k6 j6
      · rename_i c; rw [if_neg c] at j6; cases k6; cases j6; exact R3.1
    exact ⟨R4.e.symm, same_add hs R3.2⟩
  by_cases he : q1.e = 0
  · rw [if_pos he] at h1; rw [if_pos (by rw [← key.1]; exact he)] at h2
    simp only [Prod.mk.injEq] at h1 h2
    obtain ⟨rfl, _, rfl⟩ := h1
    obtain ⟨rfl, _, rfl⟩ := h2
    exact ⟨rfl, key.2⟩
  · rw [if_neg he] at h1; rw [if_neg (by rw [← key.1]; exact he)] at h2
    simp only [Prod.mk.injEq] at h1 h2
    obtain ⟨rfl, _, rfl⟩ := h1
    obtain ⟨rfl, _, rfl⟩ := h2
    exact ⟨key.1, rfl⟩
/-! Brackets. -/
end Go.AL
