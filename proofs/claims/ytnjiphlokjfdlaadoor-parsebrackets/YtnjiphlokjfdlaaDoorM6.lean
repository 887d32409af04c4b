/- The parser ends, whatever the tokens; each node stands at a token, none ahead of the node that it is in. -/
import Derived.Test.YtnjiphlokjfdlaaDoorM5
set_option linter.unusedSimpArgs false
set_option linter.unusedVariables false
namespace Go.AL
/-- Tokens as the lexer makes them. -/
structure TOK (T : List Tk) : Prop where
  pos : 0 < T.length
  last : ∀ (i : Nat) (t : Tk), T[i]? = some t → t.kind ≠ 0 → i + 1 < T.length
  sorted : ∀ (i j : Nat) (a b : Tk), i ≤ j → T[i]? = some a → T[j]? = some b → a.pos ≤ b.pos
/-- Where a token stands. -/
def plc (T : List Tk) (i : Nat) : Int := (T.getD i tk0).pos
/-- A node stands at a token, and so does all in it, none ahead of it. -/
inductive Pl (T : List Tk) : Nd → Prop where
  | mk (n : Nd) (h : ∃ t ∈ T, t.pos = n.pos) (h1 : ∀ c ∈ n.kids, Pl T c) (h2 : ∀ c ∈ n.kids, n.pos ≤ c.pos) (h3 : n.kids.length ≤ T.length + 3) (h4 : n.names.length ≤ T.length + 3) : Pl T n
structure Step (T : List Tk) (p q : PS) : Prop where
  deep : q.deep = p.deep
  flat : q.flat = p.flat
  le : p.pos ≤ q.pos
  lt : q.pos < T.length
  err : p.e ≠ 0 → q = p
def Strict (p q : PS) : Prop := p.e = 0 → q.e = 0 → p.pos < q.pos
def NdInv (T : List Tk) (a : Int) (nd : Nd) (p : PS) : Prop := p.e = 0 → Pl T nd ∧ a ≤ nd.pos ∧ nd.pos ≤ plc T p.pos ∧ nd.kids.length ≤ p.pos + 3 ∧ nd.names.length ≤ p.pos + 3
def Out (T : List Tk) (p : PS) (x : Option (Nd × PS)) : Prop := ∃ nd q, x = some (nd, q) ∧ Step T p q ∧ Strict p q ∧ NdInv T (plc T p.pos) nd q
def Tot (T : List Tk) (m : Nat) (e : PM Nd) : Prop := ∀ p : PS, p.pos < T.length → m ≤ p.deep → p.deep ≤ 40 → Out T p (e p)
/-- Rounds enough are left. -/
def Fuel (T : List Tk) (n : Nat) (p : PS) : Prop := 1 ≤ n ∧ (p.e = 0 → T.length + 1 ≤ p.pos + n)
variable {T : List Tk}
theorem Step.refl {p : PS} (h : p.pos < T.length) : Step T p p := ⟨rfl, rfl, Nat.le_refl _, h, fun _ => rfl⟩
theorem Step.trans {p q r : PS} (a : Step T p q) (b : Step T q r) : Step T p r :=
  ⟨b.deep.trans a.deep, b.flat.trans a.flat, Nat.le_trans a.le b.le, b.lt, fun h => by have := a.err h; subst this; exact b.err h⟩
theorem Step.e0 {p q : PS} (a : Step T p q) (h : q.e = 0) : p.e = 0 := by
  by_cases c : p.e = 0
  · exact c
  · have := a.err c; subst this; exact h
theorem Strict.l {p q r : PS} (x : Strict p q) (b : Step T q r) : Strict p r := fun h1 h2 => Nat.lt_of_lt_of_le (x h1 (b.e0 h2)) b.le
theorem Strict.r {p q r : PS} (a : Step T p q) (b : Step T q r) (x : Strict q r) : Strict p r := fun h1 h2 => Nat.lt_of_le_of_lt a.le (x (b.e0 h2) h2)
theorem plc_le (hT : TOK T) {i j : Nat} (h : i ≤ j) (hj : j < T.length) : plc T i ≤ plc T j := by
  have hi : i < T.length := by omega
  have := hT.sorted i j T[i] T[j] h (by simp [hi]) (by simp [hj])
  simpa [plc, List.getD_eq_getElem?_getD, hi, hj] using this
theorem look_ok {p : PS} (hp : p.pos < T.length) : ∃ t, lookF T p = some t ∧ (p.e = 0 → T[p.pos]? = some t) ∧ (p.e ≠ 0 → t = tk0) := by
  unfold lookF
  by_cases h : p.e = 0
  · exact ⟨T[p.pos], by simp [h, hp], fun _ => by simp [hp], fun x => absurd h x⟩
  · exact ⟨tk0, by simp [h], fun x => absurd x h, fun _ => rfl⟩
theorem plc_look {p : PS} {t : Tk} (h : T[p.pos]? = some t) : t.pos = plc T p.pos ∧ t ∈ T := by
  obtain ⟨h1, h2⟩ := List.getElem?_eq_some_iff.1 h
  subst h2
  exact ⟨by simp [plc, List.getD_eq_getElem?_getD, h1], List.getElem_mem h1⟩
theorem take_ok (hT : TOK T) {p : PS} (hp : p.pos < T.length) {t : Tk} (ht : lookF T p = some t) :
    ∃ q, takeF T p = some (t, q) ∧ Step T p q ∧ q.e = p.e ∧ (t.kind ≠ 0 → p.e = 0 ∧ q.pos = p.pos + 1) ∧ (t.kind = 0 → q = p) := by
  obtain ⟨t', h1, h2, h3⟩ := look_ok hp
  obtain rfl : t' = t := by rw [h1] at ht; exact Option.some.inj ht
  unfold takeF; rw [h1]; simp only [Option.map_some]
  by_cases he : p.e = 0
  · by_cases hk : t'.kind ≠ 0
    · exact ⟨{ p with pos := p.pos + 1 }, by simp [he, hk], ⟨rfl, rfl, by simp, hT.last _ _ (h2 he) hk, fun x => absurd he x⟩, rfl, fun _ => ⟨he, rfl⟩, fun x => absurd x hk⟩
    · have hk := Classical.not_not.1 hk
      exact ⟨p, by simp [hk], .refl hp, rfl, fun x => absurd hk x, fun _ => rfl⟩
  · have hk : t'.kind = 0 := by rw [h3 he]; rfl
    exact ⟨p, by simp [hk], .refl hp, rfl, fun x => absurd hk x, fun _ => rfl⟩
theorem isT_kind {t : Tk} {s : Tx} (h : isT t s = true) : t.kind ≠ 0 := by
  unfold isT at h
  simp only [Bool.and_eq_true, Bool.or_eq_true, beq_iff_eq] at h
  omega
theorem is_ok {p : PS} (hp : p.pos < T.length) (s : Tx) : ∃ b, isF T s p = some b ∧ (b = true → p.e = 0) := by
  obtain ⟨t, h1, h2, h3⟩ := look_ok hp
  refine ⟨isT t s, by unfold isF; rw [h1]; rfl, fun hb => ?_⟩
  by_cases he : p.e = 0
  · exact he
  · exact absurd (by rw [h3 he]; rfl) (isT_kind hb)
theorem may_ok (hT : TOK T) {p : PS} (hp : p.pos < T.length) (s : Tx) : ∃ b q, mayF T s p = some (b, q) ∧ Step T p q ∧ q.e = p.e ∧ (b = true → p.e = 0 ∧ q.pos = p.pos + 1) ∧ (b = false → q = p) := by
  obtain ⟨t, h1, h2, h3⟩ := look_ok hp
  obtain ⟨q, h4, h5, h6, h7, h8⟩ := take_ok hT hp h1
  unfold mayF isF
  rw [h1]; simp only [Option.map_some, Option.bind_some]
  cases hb : isT t s with
  | true => exact ⟨true, q, by simp [h4], h5, h6, fun _ => h7 (isT_kind hb), fun x => by cases x⟩
  | false => exact ⟨false, p, by simp, .refl hp, rfl, fun x => (by cases x), fun _ => rfl⟩
theorem fail_ok {p : PS} (hp : p.pos < T.length) {e : Int} (he : e ≠ 0) : ∃ q, failF T e p = some q ∧ Step T p q ∧ q.e ≠ 0 := by
  unfold failF
  by_cases h : p.e = 0
  · refine ⟨{ p with bad := T[p.pos].pos, e := e }, by simp [h, hp], ⟨rfl, rfl, Nat.le_refl _, hp, fun x => absurd h x⟩, he⟩
  · exact ⟨p, by simp [h], .refl hp, h⟩
theorem must_ok (hT : TOK T) {p : PS} (hp : p.pos < T.length) (s : Tx) : ∃ q, mustF T s p = some q ∧ Step T p q ∧ Strict p q := by
  obtain ⟨b, q, h1, h2, h3, h4, h5⟩ := may_ok hT hp s
  unfold mustF; rw [h1]; simp only [Option.bind_some]
  cases b with
  | true => exact ⟨q, by simp, h2, fun _ _ => by have := (h4 rfl).2; omega⟩
  | false =>
    obtain ⟨r, h6, h7, h8⟩ := fail_ok (T := T) h2.lt (e := 14) (by decide)
    exact ⟨r, by simp [h6], h2.trans h7, fun _ h => absurd h h8⟩
theorem word_ok (hT : TOK T) {p : PS} (hp : p.pos < T.length) {k : Int} (hk : k ≠ 0) : ∃ t q, wordF T k p = some (t, q) ∧ Step T p q ∧ Strict p q ∧ (q.e = 0 → t.pos = plc T p.pos ∧ t ∈ T ∧ t.kind = k) := by
  obtain ⟨t, h1, h2, h3⟩ := look_ok hp
  unfold wordF; rw [h1]; simp only [Option.bind_some]
  by_cases h : t.kind = k
  · obtain ⟨q, h4, h5, h6, h7, h8⟩ := take_ok hT hp h1
    exact ⟨t, q, by simp [h, h4], h5, fun _ _ => by have := (h7 (by omega)).2; omega, fun x => by
      have := plc_look (h2 (h5.e0 x)); exact ⟨this.1, this.2, h⟩⟩
  · obtain ⟨r, h6, h7, h8⟩ := fail_ok (T := T) hp (e := 14) (by decide)
    obtain ⟨t', g1, g2, g3⟩ := look_ok h7.lt
    obtain ⟨q, h4, h5, h9, _, _⟩ := take_ok hT h7.lt g1
    exact ⟨t', q, by simp [h, h6, h4], h7.trans h5, fun _ x => absurd (h5.e0 x) h8, fun x => absurd (h5.e0 x) h8⟩
theorem most_ok {p : PS} (hp : p.pos < T.length) (n m : Int) : ∃ q, mostF T n m p = some q ∧ Step T p q := by
  unfold mostF
  split
  · obtain ⟨q, h1, h2, _⟩ := fail_ok (T := T) hp (e := 16) (by decide)
    exact ⟨q, h1, h2⟩
  · exact ⟨p, rfl, .refl hp⟩
theorem out_err {p q : PS} {nd : Nd} (h : Step T p q) (he : q.e ≠ 0) : Out T p (some (nd, q)) := ⟨nd, q, rfl, h, fun _ x => absurd x he, fun x => absurd x he⟩
theorem pl_node {k a : Int} {s : Tx} {kids : List Nd} (h : ∃ t ∈ T, t.pos = a) (hk : ∀ c ∈ kids, Pl T c ∧ a ≤ c.pos) (hl : kids.length ≤ T.length + 3) : Pl T (nodeF k a s kids) :=
  .mk _ h (fun c hc => (hk c hc).1) (fun c hc => (hk c hc).2) hl (by simp [nodeF, Nd.names])
theorem Pl.at {n : Nd} (h : Pl T n) : ∃ t ∈ T, t.pos = n.pos := by cases h; assumption
theorem Pl.sub {n : Nd} (h : Pl T n) : ∀ c ∈ n.kids, Pl T c ∧ n.pos ≤ c.pos := by
  cases h with
  | mk _ h h1 h2 h3 h4 => exact fun c hc => ⟨h1 c hc, h2 c hc⟩
theorem Pl.small {n : Nd} (h : Pl T n) : n.kids.length ≤ T.length + 3 ∧ n.names.length ≤ T.length + 3 := by
  cases h with
  | mk _ h h1 h2 h3 h4 => exact ⟨h3, h4⟩
theorem pl_kids {n : Nd} (h : Pl T n) {l : List Nd} (hl : ∀ c ∈ l, Pl T c ∧ n.pos ≤ c.pos) (hb : n.kids.length + l.length ≤ T.length + 3) : Pl T (n.addKids l) := by
  have hs := h.sub
  have ha := h.at
  have hm := h.small
  cases n with
  | mk k t m a ns ks =>
    refine .mk _ ha (fun c hc => ?_) (fun c hc => ?_) (by simpa [Nd.addKids, Nd.kids] using hb) hm.2
    · simp only [Nd.addKids, Nd.kids, List.mem_append] at hc
      rcases hc with hc | hc
      · exact (hs c hc).1
      · exact (hl c hc).1
    · simp only [Nd.addKids, Nd.kids, List.mem_append] at hc
      rcases hc with hc | hc
      · exact (hs c hc).2
      · exact (hl c hc).2
theorem kids_addKids (n : Nd) (l : List Nd) : (n.addKids l).kids = n.kids ++ l := by cases n; rfl
theorem names_addKids (n : Nd) (l : List Nd) : (n.addKids l).names = n.names := by cases n; rfl
theorem kids_addName (n : Nd) (c : Tx) : (n.addName c).kids = n.kids := by cases n; rfl
theorem names_addName (n : Nd) (c : Tx) : (n.addName c).names = n.names ++ [c] := by cases n; rfl
theorem addKid_eq (n c : Nd) : n.addKid c = n.addKids [c] := by cases n; rfl
theorem pos_addKids (n : Nd) (l : List Nd) : (n.addKids l).pos = n.pos := by cases n; rfl
theorem pos_addKid (n c : Nd) : (n.addKid c).pos = n.pos := by cases n; rfl
theorem pos_addName (n : Nd) (c : Tx) : (n.addName c).pos = n.pos := by cases n; rfl
theorem pl_name {n : Nd} (h : Pl T n) (c : Tx) (hb : n.names.length + 1 ≤ T.length + 3) : Pl T (n.addName c) := by
  have hs := h.sub
  have ha := h.at
  have hm := h.small
  cases n with
  | mk k t m a ns ks => exact .mk _ ha (fun c hc => (hs c hc).1) (fun c hc => (hs c hc).2) hm.1 (by simpa [Nd.addName, Nd.names] using hb)
theorem NdInv.mono (hT : TOK T) {a : Int} {nd : Nd} {p q : PS} (h : NdInv T a nd p) (s : Step T p q) : NdInv T a nd q := fun x => by
  obtain ⟨h1, h2, h3, h4, h5⟩ := h (s.e0 x)
  have := s.le
  exact ⟨h1, h2, Int.le_trans h3 (plc_le hT s.le s.lt), by omega, by omega⟩
theorem NdInv.lo {a b : Int} {nd : Nd} {p : PS} (h : NdInv T a nd p) (hb : p.e = 0 → b ≤ a) : NdInv T b nd p := fun x => ⟨(h x).1, Int.le_trans (hb x) (h x).2.1, (h x).2.2⟩
theorem NdInv.lo' (hT : TOK T) {nd : Nd} {p q r : PS} (h : NdInv T (plc T q.pos) nd r) (s : Step T p q) : NdInv T (plc T p.pos) nd r := h.lo fun _ => plc_le hT s.le s.lt
/-- Another kid. -/
theorem NdInv.add (hT : TOK T) {a : Int} {nd c : Nd} {p q : PS} (h : NdInv T a nd p) (s : Step T p q) (hx : Strict p q) (hc : NdInv T (plc T p.pos) c q) : NdInv T a (nd.addKid c) q := fun x => by
  obtain ⟨h1, h2, h3, h4, h5⟩ := h (s.e0 x)
  obtain ⟨c1, c2, c3, _, _⟩ := hc x
  have hlt := hx (s.e0 x) x
  have hq := s.lt
  rw [addKid_eq, pos_addKids, kids_addKids, names_addKids, List.length_append, List.length_singleton]
  refine ⟨pl_kids h1 ?_ (by rw [List.length_singleton]; omega), h2, Int.le_trans h3 (plc_le hT s.le s.lt), by omega, by omega⟩
  intro d hd
  rw [List.mem_singleton.1 hd]
  exact ⟨c1, Int.le_trans h3 c2⟩
/-- A node of what has been read. -/
theorem NdInv.node (hT : TOK T) {a : Int} {k : Int} {s : Tx} {kids : List Nd} {t : Tk} {p q : PS} (st : Step T p q) (ht : q.e = 0 → t ∈ T ∧ t.pos = plc T p.pos) (ha : q.e = 0 → a ≤ plc T p.pos) (hk : q.e = 0 → ∀ c ∈ kids, Pl T c ∧ plc T p.pos ≤ c.pos) (hl : kids.length ≤ 3 := by simp) :
    NdInv T a (nodeF k t.pos s kids) q := fun x => by
  obtain ⟨h1, h2⟩ := ht x
  refine ⟨pl_node ⟨t, h1, rfl⟩ (by rw [h2]; exact hk x) (by omega), ?_, ?_, by show kids.length ≤ _; omega, by simp [nodeF, Nd.names]⟩
  · show a ≤ t.pos; rw [h2]; exact ha x
  · show t.pos ≤ _; rw [h2]; exact plc_le hT st.le st.lt
theorem Tot.at {m : Nat} {e : PM Nd} (h : Tot T m e) {p : PS} (hp : p.pos < T.length) (h1 : m ≤ p.deep) (h2 : p.deep ≤ 40) : ∃ nd q, e p = some (nd, q) ∧ Step T p q ∧ Strict p q ∧ NdInv T (plc T p.pos) nd q := h p hp h1 h2
theorem Fuel.next {n : Nat} {p q : PS} (h : Fuel T (n + 1) p) (hp : p.pos < T.length) (h0 : p.e = 0) (x : Strict p q) : Fuel T n q := by
  have h1 := h.2 h0
  refine ⟨by omega, fun hq => ?_⟩
  have := x h0 hq
  omega
theorem fuel0 {p q : PS} : Fuel T (T.length + 2) q := ⟨by omega, fun _ => by omega⟩

theorem in_tot (hT : TOK T) {m : Nat} {e : PM Nd} (he : Tot T (m + 1) e) : Tot T m (inF T e) := by
  intro p hp h1 h2
  unfold inF
  by_cases hd : 40 ≤ p.deep
  · obtain ⟨q, g1, g2, g3⟩ := fail_ok (T := T) hp (e := 15) (by decide)
    rw [if_pos hd, g1]; simp only [Option.bind_some]
    rw [if_pos g3]; exact out_err g2 g3
  · rw [if_neg hd]; simp only [Option.bind_some]
    by_cases h0 : p.e = 0
    · rw [if_neg (by simp [h0])]
      obtain ⟨nd, q, g1, g2, g3, g4⟩ := he { p with deep := p.deep + 1 } hp (by show m + 1 ≤ p.deep + 1; omega) (by show p.deep + 1 ≤ 40; omega)
      rw [g1]; simp only [Option.bind_some]
      have gd : q.deep = p.deep + 1 := g2.deep
      rw [if_neg (by omega)]
      exact ⟨nd, _, rfl, ⟨by show q.deep - 1 = p.deep; omega, g2.flat, g2.le, g2.lt, fun x => absurd h0 x⟩, g3, g4⟩
    · rw [if_pos h0]; exact out_err (.refl hp) h0
theorem round_tot (hT : TOK T) {m : Nat} {e : PM Nd} (he : Tot T (m + 1) e) : Tot T m (roundF T e) := by
  intro p hp h1 h2
  unfold roundF
  obtain ⟨p1, e1, s1, x1⟩ := must_ok hT hp [40]
  obtain ⟨nd, p2, e2, s2, x2, r2⟩ := in_tot hT he p1 s1.lt (by rw [s1.deep]; exact h1) (by rw [s1.deep]; exact h2)
  obtain ⟨p3, e3, s3, x3⟩ := must_ok hT s2.lt [41]
  simp only [e1, e2, e3, Option.bind_some, Option.map_some]
  exact ⟨nd, p3, rfl, s1.trans (s2.trans s3), x1.l (s2.trans s3), (r2.mono hT s3).lo' hT s1⟩
theorem leaf_tot (hT : TOK T) {m : Nat} {kinds : List (Int × Int)} (hk : ∀ q ∈ kinds, q.1 ≠ 0) : Tot T m (leafF T kinds) := by
  intro p hp h1 h2
  unfold leafF
  obtain ⟨t, g1, g2, g3⟩ := look_ok hp
  rw [g1]; simp only [Option.bind_some]
  by_cases h : ((kinds.find? fun q => q.1 == t.kind).map (·.2)).getD 0 = 0
  · obtain ⟨q, e1, s1, x1⟩ := fail_ok (T := T) hp (e := 14) (by decide)
    rw [if_pos h, e1]; exact out_err s1 x1
  · obtain ⟨q, e1, s1, x1, y1, z1⟩ := take_ok hT hp g1
    have hkd : t.kind ≠ 0 := by
      intro h0
      cases hf : kinds.find? fun q => q.1 == t.kind with
      | none => rw [hf] at h; exact h rfl
      | some q =>
        have a := List.find?_some hf
        have b := List.mem_of_find?_eq_some hf
        simp only [beq_iff_eq] at a
        exact hk q b (a.trans h0)
    rw [if_neg h, e1]
    have h0 := (y1 hkd).1
    obtain ⟨l1, l2⟩ := plc_look (g2 h0)
    refine ⟨_, q, rfl, s1, fun _ _ => by have := (y1 hkd).2; omega, fun _ => ⟨.mk _ ⟨t, l2, rfl⟩ (fun c hc => by cases hc) (fun c hc => by cases hc) (by simp [Nd.kids]) (by simp [Nd.names]), ?_, ?_, by simp [Nd.kids], by simp [Nd.names]⟩⟩
    · show _ ≤ t.pos; rw [l1]; exact Int.le_refl _
    · show t.pos ≤ _; rw [l1]; exact plc_le hT s1.le s1.lt

/-! Types. -/
/-- What a loop leaves. -/
def LOut (T : List Tk) (a : Int) (p : PS) (x : Option (Nd × PS)) : Prop := ∃ nd q, x = some (nd, q) ∧ Step T p q ∧ NdInv T a nd q
theorem LOut.of {a : Int} {p p' : PS} {x : Option (Nd × PS)} (s : Step T p p') (h : LOut T a p' x) : LOut T a p x := by
  obtain ⟨nd, q, h1, h2, h3⟩ := h; exact ⟨nd, q, h1, s.trans h2, h3⟩
theorem tyL_ok (hT : TOK T) {m : Nat} {e : PM Nd} (he : Tot T (m + 1) e) {a : Int} : ∀ (n : Nat) (nd : Nd) (p : PS), p.pos < T.length → m ≤ p.deep → p.deep ≤ 40 → Fuel T n p → NdInv T a nd p → LOut T a p (tyL T e n nd p)
  | 0, nd, p, _, _, _, hf, _ => absurd hf.1 (by omega)
  | n + 1, nd, p, hp, h1, h2, hf, hn => by
    unfold tyL
    obtain ⟨t, g1, g2, g3⟩ := look_ok hp
    rw [g1]; simp only [Option.bind_some]
    by_cases h3 : t.kind = 3
    · obtain ⟨q, e1, s1, x1, y1, z1⟩ := take_ok hT hp g1
      rw [if_pos h3, e1]; simp only [Option.bind_some]
      have hk : t.kind ≠ 0 := by omega
      have h0 := (y1 hk).1
      have hx : Strict p q := fun _ _ => by have := (y1 hk).2; omega
      refine LOut.of s1 (tyL_ok hT he n _ q s1.lt (by rw [s1.deep]; exact h1) (by rw [s1.deep]; exact h2) (hf.next hp h0 hx) (hn.add hT s1 hx (.node hT s1 (fun _ => (plc_look (g2 h0)).symm) (fun _ => Int.le_refl _) (fun _ c hc => by cases hc))))
    · rw [if_neg h3]
      obtain ⟨b, e2, x2⟩ := is_ok hp [40]
      rw [e2]; simp only [Option.bind_some]
      cases b with
      | true =>
        obtain ⟨c, q, e3, s3, x3, r3⟩ := round_tot hT he p hp h1 h2
        simp only [if_true, e3, Option.bind_some]
        exact LOut.of s3 (tyL_ok hT he n _ q s3.lt (by rw [s3.deep]; exact h1) (by rw [s3.deep]; exact h2) (hf.next hp (x2 rfl) x3) (hn.add hT s3 x3 r3))
      | false => exact ⟨nd, p, rfl, .refl hp, hn⟩
theorem ty_tot (hT : TOK T) {m : Nat} {e : PM Nd} (he : Tot T (m + 1) e) : Tot T m (tyS T e) := by
  intro p hp h1 h2
  unfold tyS
  obtain ⟨t, q, e1, s1, x1, y1⟩ := word_ok hT hp (k := 3) (by decide)
  rw [e1]; simp only [Option.bind_some]
  obtain ⟨nd, r, e2, s2, r2⟩ := tyL_ok hT he (a := plc T p.pos) (T.length + 2) (nodeF 27 t.pos t.text []) q s1.lt (by rw [s1.deep]; exact h1) (by rw [s1.deep]; exact h2) (fuel0 (p := p))
    (.node hT s1 (fun x => ⟨(y1 x).2.1, (y1 x).1⟩) (fun _ => Int.le_refl _) (fun _ c hc => by cases hc))
  exact ⟨nd, r, e2, s1.trans s2, x1.l s2, r2⟩
theorem tyF_tot (hT : TOK T) : ∀ (n m : Nat), 43 ≤ m + n → Tot T m (tyF T n)
  | 0, m, h => fun p hp h1 h2 => by omega
  | n + 1, m, h => ty_tot hT (tyF_tot hT n (m + 1) (by omega))

theorem conL_ok (hT : TOK T) {m : Nat} {e : PM Nd} (he : Tot T (m + 1) e) {a : Int} : ∀ (n : Nat) (more : Bool) (nd : Nd) (p : PS), p.pos < T.length → m ≤ p.deep → p.deep ≤ 40 → Fuel T n p → NdInv T a nd p → LOut T a p (conL T e n more nd p)
  | 0, more, nd, p, _, _, _, hf, _ => absurd hf.1 (by omega)
  | n + 1, more, nd, p, hp, h1, h2, hf, hn => by
    unfold conL
    by_cases hc : more = true ∧ p.e = 0
    · rw [if_pos hc]
      obtain ⟨p1, e1, s1⟩ := most_ok (T := T) hp nd.kids.length 4
      obtain ⟨c, p2, e2, s2, x2, r2⟩ := in_tot hT he p1 s1.lt (by rw [s1.deep]; exact h1) (by rw [s1.deep]; exact h2)
      obtain ⟨b, p3, e3, s3, y3, z3, _⟩ := may_ok hT s2.lt [44]
      simp only [e1, e2, e3, Option.bind_some]
      have s12 := s1.trans s2
      have s13 := s12.trans s3
      refine LOut.of s13 (conL_ok hT he n b _ p3 s13.lt (by rw [s13.deep]; exact h1) (by rw [s13.deep]; exact h2) (hf.next hp hc.2 ((Strict.r s1 s2 x2).l s3)) ?_)
      exact (hn.add hT s12 (Strict.r s1 s2 x2) (r2.lo' hT s1)).mono hT s3
    · rw [if_neg hc]; exact ⟨nd, p, rfl, .refl hp, hn⟩
theorem con_tot (hT : TOK T) {m : Nat} {e : PM Nd} (he : Tot T (m + 1) e) : Tot T m (conF T e) := by
  intro p hp h1 h2
  unfold conF
  obtain ⟨t, p1, e1, s1, x1, y1⟩ := word_ok hT hp (k := 4) (by decide)
  obtain ⟨b, p2, e2, s2, y2, z2, _⟩ := may_ok hT s1.lt [111, 102]
  simp only [e1, e2, Option.bind_some]
  have s12 := s1.trans s2
  have hn : NdInv T (plc T p.pos) (nodeF 26 t.pos t.text []) p2 := .node hT s12 (fun x => ⟨(y1 (s2.e0 x)).2.1, (y1 (s2.e0 x)).1⟩) (fun _ => Int.le_refl _) (fun _ c hc => by cases hc)
  cases b with
  | true =>
    obtain ⟨nd, q, e3, s3, r3⟩ := conL_ok hT he (T.length + 2) true _ p2 s2.lt (by rw [s12.deep]; exact h1) (by rw [s12.deep]; exact h2) (fuel0 (p := p)) hn
    exact ⟨nd, q, e3, s12.trans s3, x1.l (s2.trans s3), r3⟩
  | false => exact ⟨_, p2, rfl, s12, x1.l s2, hn⟩
theorem namesL_ok (hT : TOK T) {a : Int} : ∀ (n : Nat) (nd : Nd) (p : PS), p.pos < T.length → Fuel T n p → NdInv T a nd p → LOut T a p (namesL T n nd p)
  | 0, nd, p, _, hf, _ => absurd hf.1 (by omega)
  | n + 1, nd, p, hp, hf, hn => by
    unfold namesL
    obtain ⟨t, g1, g2, g3⟩ := look_ok hp
    rw [g1]; simp only [Option.bind_some]
    by_cases h3 : t.kind = 3
    · have h0 : p.e = 0 := by
        by_cases c : p.e = 0
        · exact c
        · rw [g3 c] at h3; cases h3
      obtain ⟨p1, e1, s1⟩ := most_ok (T := T) hp nd.names.length 4
      obtain ⟨t2, k1, k2, k3⟩ := look_ok s1.lt
      obtain ⟨p2, e2, s2, x2, y2, z2⟩ := take_ok hT s1.lt k1
      simp only [if_pos h3, e1, e2, Option.bind_some]
      have s12 := s1.trans s2
      have hx : Strict p p2 := fun _ hq => by
        have h5 := s2.e0 hq
        have : p1 = p := by
          unfold mostF at e1
          split at e1
          · unfold failF at e1
            rw [if_pos h0, g2 h0] at e1
            simp only [Option.map_some, Option.some.injEq] at e1
            subst e1; cases h5
          · exact (Option.some.inj e1).symm
        subst this
        have ht : t2 = t := by rw [g1] at k1; exact (Option.some.inj k1).symm
        subst ht
        have := (y2 (by omega)).2
        omega
      refine LOut.of s12 (namesL_ok hT n _ p2 s12.lt (hf.next hp h0 hx) fun x => ?_)
      have := hn.mono hT s12 x
      have h5 := (hn (s12.e0 x)).2.2.2.2
      have h6 := hx h0 x
      have h7 := s12.lt
      exact ⟨pl_name this.1 _ (by omega), by rw [pos_addName]; exact this.2.1, by rw [pos_addName]; exact this.2.2.1, by rw [kids_addName]; exact this.2.2.2.1, by rw [names_addName, List.length_append, List.length_singleton]; omega⟩
    · rw [if_neg h3]; exact ⟨nd, p, rfl, .refl hp, hn⟩
theorem consL_ok (hT : TOK T) {m : Nat} {e : PM Nd} (he : Tot T (m + 1) e) {a : Int} : ∀ (n : Nat) (more : Bool) (nd : Nd) (p : PS), p.pos < T.length → m ≤ p.deep → p.deep ≤ 40 → Fuel T n p → NdInv T a nd p → LOut T a p (consL T e n more nd p)
  | 0, more, nd, p, _, _, _, hf, _ => absurd hf.1 (by omega)
  | n + 1, more, nd, p, hp, h1, h2, hf, hn => by
    unfold consL
    by_cases hc : more = true ∧ p.e = 0
    · rw [if_pos hc]
      obtain ⟨p1, e1, s1⟩ := most_ok (T := T) hp nd.kids.length 20
      obtain ⟨c, p2, e2, s2, x2, r2⟩ := con_tot hT he p1 s1.lt (by rw [s1.deep]; exact h1) (by rw [s1.deep]; exact h2)
      obtain ⟨b, p3, e3, s3, y3, z3, _⟩ := may_ok hT s2.lt [124]
      simp only [e1, e2, e3, Option.bind_some]
      have s12 := s1.trans s2
      have s13 := s12.trans s3
      refine LOut.of s13 (consL_ok hT he n b _ p3 s13.lt (by rw [s13.deep]; exact h1) (by rw [s13.deep]; exact h2) (hf.next hp hc.2 ((Strict.r s1 s2 x2).l s3)) ?_)
      exact (hn.add hT s12 (Strict.r s1 s2 x2) (r2.lo' hT s1)).mono hT s3
    · rw [if_neg hc]; exact ⟨nd, p, rfl, .refl hp, hn⟩
/-- A type's declaration: a token that is taken ahead of it is there. -/
theorem decltype_ok (hT : TOK T) {m : Nat} {e : PM Nd} (he : Tot T (m + 1) e) : Tot T m (decltypeF T e) := by
  intro p hp h1 h2
  unfold decltypeF
  obtain ⟨t, g1, g2, g3⟩ := look_ok hp
  obtain ⟨p1, e1, s1, y1, _, _⟩ := take_ok hT hp g1
  obtain ⟨u, p2, e2, s2, x2, y2⟩ := word_ok hT s1.lt (k := 3) (by decide)
  simp only [e1, e2, Option.bind_some]
  have s12 := s1.trans s2
  have hn : NdInv T (plc T p.pos) (nodeF 25 t.pos u.text []) p2 := .node hT s12 (fun x => (plc_look (g2 (s12.e0 x))).symm) (fun _ => Int.le_refl _) (fun _ c hc => by cases hc)
  obtain ⟨nd, p3, e3, s3, r3⟩ := namesL_ok hT (T.length + 2) _ p2 s2.lt (fuel0 (p := p)) hn
  obtain ⟨p4, e4, s4, x4⟩ := must_ok hT s3.lt [61]
  have s14 := (s12.trans s3).trans s4
  obtain ⟨nd2, p5, e5, s5, r5⟩ := consL_ok hT he (T.length + 2) true nd p4 s4.lt (by rw [s14.deep]; exact h1) (by rw [s14.deep]; exact h2) (fuel0 (p := p)) (r3.mono hT s4)
  simp only [e3, e4, e5, Option.bind_some]
  exact ⟨nd2, p5, rfl, s14.trans s5, (Strict.r s1 (s2.trans (s3.trans (s4.trans s5))) (x2.l (s3.trans (s4.trans s5)))), r5⟩

/-! Patterns. -/
theorem patom_tot (hT : TOK T) {m : Nat} {e : PM Nd} (he : Tot T (m + 1) e) : Tot T m (patomF T e) := by
  intro p hp h1 h2
  unfold patomF
  obtain ⟨t, g1, g2, g3⟩ := look_ok hp
  obtain ⟨b, p1, e1, s1, y1, z1, w1⟩ := may_ok hT hp [95]
  simp only [g1, e1, Option.bind_some]
  cases b with
  | true =>
    refine ⟨_, p1, rfl, s1, fun _ _ => by have := (z1 rfl).2; omega, .node hT s1 (fun x => (plc_look (g2 (s1.e0 x))).symm) (fun _ => Int.le_refl _) (fun _ c hc => by cases hc)⟩
  | false =>
    obtain rfl := w1 rfl
    obtain ⟨b, e2, x2⟩ := is_ok hp [40]
    simp only [Bool.false_eq_true, if_false, e2, Option.bind_some]
    cases b with
    | true => exact round_tot hT he _ hp h1 h2
    | false => exact leaf_tot hT (m := m) (by decide) _ hp h1 h2
theorem patMore_ok {p : PS} (hp : p.pos < T.length) : ∃ b, patMore T p = some b ∧ (b = true → p.e = 0) := by
  obtain ⟨t, h1, h2, h3⟩ := look_ok hp
  refine ⟨_, by unfold patMore; rw [h1]; rfl, fun hb => ?_⟩
  by_cases he : p.e = 0
  · exact he
  · rw [h3 he] at hb; exact absurd hb (by decide)
theorem patL_ok (hT : TOK T) {m : Nat} {e : PM Nd} (he : Tot T (m + 1) e) {a : Int} : ∀ (n : Nat) (con : Bool) (nd : Nd) (p : PS), p.pos < T.length → m ≤ p.deep → p.deep ≤ 40 → Fuel T n p → NdInv T a nd p → LOut T a p (patL T e n con nd p)
  | 0, con, nd, p, _, _, _, hf, _ => absurd hf.1 (by omega)
  | n + 1, con, nd, p, hp, h1, h2, hf, hn => by
    unfold patL
    cases con with
    | false => exact ⟨nd, p, rfl, .refl hp, hn⟩
    | true =>
      obtain ⟨b, e0, x0⟩ := patMore_ok hp
      simp only [if_true, e0, Option.bind_some]
      cases b with
      | false => exact ⟨nd, p, rfl, .refl hp, hn⟩
      | true =>
        obtain ⟨p1, e1, s1⟩ := most_ok (T := T) hp nd.kids.length 4
        obtain ⟨c, p2, e2, s2, x2, r2⟩ := patom_tot hT he p1 s1.lt (by rw [s1.deep]; exact h1) (by rw [s1.deep]; exact h2)
        simp only [if_true, e1, e2, Option.bind_some]
        have s12 := s1.trans s2
        exact LOut.of s12 (patL_ok hT he n true _ p2 s12.lt (by rw [s12.deep]; exact h1) (by rw [s12.deep]; exact h2) (hf.next hp (x0 rfl) (Strict.r s1 s2 x2)) (hn.add hT s12 (Strict.r s1 s2 x2) (r2.lo' hT s1)))
theorem pat_tot (hT : TOK T) {m : Nat} {e : PM Nd} (he : Tot T (m + 1) e) : Tot T m (patS T e) := by
  intro p hp h1 h2
  unfold patS
  obtain ⟨t, g1, g2, g3⟩ := look_ok hp
  obtain ⟨c, p1, e1, s1, x1, r1⟩ := patom_tot hT he p hp h1 h2
  simp only [g1, e1, Option.bind_some]
  obtain ⟨nd, p2, e2, s2, r2⟩ := patL_ok hT he (T.length + 2) (t.kind == 4) c p1 s1.lt (by rw [s1.deep]; exact h1) (by rw [s1.deep]; exact h2) (fuel0 (p := p)) r1
  exact ⟨nd, p2, e2, s1.trans s2, x1.l s2, r2⟩
theorem patF_tot (hT : TOK T) : ∀ (n m : Nat), 43 ≤ m + n → Tot T m (patF T n)
  | 0, m, h => fun p hp h1 h2 => by omega
  | n + 1, m, h => pat_tot hT (patF_tot hT n (m + 1) (by omega))

/-! Exps. -/
theorem whole_tot (hT : TOK T) {m : Nat} {e : PM Nd} (he : Tot T (m + 1) e) : Tot T m (wholeF T e) := by
  intro p hp h1 h2
  unfold wholeF
  obtain ⟨nd, q, e1, s1, x1, r1⟩ := in_tot hT he { p with flat := false } hp h1 h2
  rw [e1]
  exact ⟨nd, _, rfl, ⟨s1.deep, rfl, s1.le, s1.lt, fun h => by rw [s1.err h]⟩, x1, r1⟩
theorem matchR_ok (hT : TOK T) {m : Nat} {e pt : PM Nd} (he : Tot T (m + 1) e) (ht : Tot T (m + 1) pt) {a : Int} (nd : Nd) (p : PS) (hp : p.pos < T.length) (h1 : m ≤ p.deep) (h2 : p.deep ≤ 40) (hn : NdInv T a nd p) :
    ∃ p1 p2 c p3 p4 w q, mostF T (Int.tdiv nd.kids.length 2) 20 p = some p1 ∧ mustF T [124] p1 = some p2 ∧ inF T pt p2 = some (c, p3) ∧ mustF T [45, 62] p3 = some p4 ∧ wholeF T e p4 = some (w, q) ∧ Step T p q ∧ Strict p q ∧ NdInv T a (nd.addKids [c, w]) q := by
  obtain ⟨p1, e1, s1⟩ := most_ok (T := T) hp (Int.tdiv nd.kids.length 2) 20
  obtain ⟨p2, e2, s2, x2⟩ := must_ok hT s1.lt [124]
  have s12 := s1.trans s2
  obtain ⟨c, p3, e3, s3, x3, r3⟩ := in_tot hT ht p2 s2.lt (by rw [s12.deep]; exact h1) (by rw [s12.deep]; exact h2)
  obtain ⟨p4, e4, s4, x4⟩ := must_ok hT s3.lt [45, 62]
  have s14 := s12.trans (s3.trans s4)
  obtain ⟨w, p5, e5, s5, x5, r5⟩ := whole_tot hT he p4 s4.lt (by rw [s14.deep]; exact h1) (by rw [s14.deep]; exact h2)
  refine ⟨p1, p2, c, p3, p4, w, p5, e1, e2, e3, e4, e5, s14.trans s5, (Strict.r s1 s2 x2).l (s3.trans (s4.trans s5)), ?_⟩
  have k1 := hn.add hT (s12.trans s3) (Strict.r s12 s3 x3) (r3.lo' hT s12)
  have k2 := k1.add hT (s4.trans s5) (Strict.r s4 s5 x5) (r5.lo' hT s4)
  have : nd.addKids [c, w] = (nd.addKid c).addKid w := by cases nd; simp [Nd.addKids, Nd.addKid]
  rw [this]; exact k2
theorem matchL_ok (hT : TOK T) {m : Nat} {e pt : PM Nd} (he : Tot T (m + 1) e) (ht : Tot T (m + 1) pt) {a : Int} : ∀ (n : Nat) (nd : Nd) (p : PS), p.pos < T.length → m ≤ p.deep → p.deep ≤ 40 → Fuel T n p → NdInv T a nd p → LOut T a p (matchL T e pt n false nd p)
  | 0, nd, p, _, _, _, hf, _ => absurd hf.1 (by omega)
  | n + 1, nd, p, hp, h1, h2, hf, hn => by
    unfold matchL
    obtain ⟨b, e0, x0⟩ := is_ok hp [124]
    simp only [Bool.false_eq_true, if_false, e0, Option.bind_some]
    cases b with
    | false => exact ⟨nd, p, rfl, .refl hp, hn⟩
    | true =>
      obtain ⟨p1, p2, c, p3, p4, w, q, e1, e2, e3, e4, e5, s, x, r⟩ := matchR_ok hT he ht nd p hp h1 h2 hn
      simp only [if_true, e1, e2, e3, e4, e5, Option.bind_some]
      exact LOut.of s (matchL_ok hT he ht n _ q s.lt (by rw [s.deep]; exact h1) (by rw [s.deep]; exact h2) (hf.next hp (x0 rfl) x) r)
theorem matchL1_ok (hT : TOK T) {m : Nat} {e pt : PM Nd} (he : Tot T (m + 1) e) (ht : Tot T (m + 1) pt) {a : Int} (nd : Nd) (p : PS) (hp : p.pos < T.length) (h1 : m ≤ p.deep) (h2 : p.deep ≤ 40) (hn : NdInv T a nd p) : LOut T a p (matchL T e pt (T.length + 2) true nd p) := by
  unfold matchL
  obtain ⟨p1, p2, c, p3, p4, w, q, e1, e2, e3, e4, e5, s, x, r⟩ := matchR_ok hT he ht nd p hp h1 h2 hn
  simp only [if_true, e1, e2, e3, e4, e5, Option.bind_some]
  refine LOut.of s (matchL_ok hT he ht (T.length + 1) _ q s.lt (by rw [s.deep]; exact h1) (by rw [s.deep]; exact h2) ⟨by omega, fun h0 => by have := x (s.e0 h0) h0; omega⟩ r)
theorem match_tot (hT : TOK T) {m : Nat} {e pt : PM Nd} (he : Tot T (m + 1) e) (ht : Tot T (m + 1) pt) : Tot T m (matchF T e pt) := by
  intro p hp h1 h2
  unfold matchF
  obtain ⟨t, g1, g2, g3⟩ := look_ok hp
  obtain ⟨p1, e1, s1, y1, _, _⟩ := take_ok hT hp g1
  obtain ⟨w, p2, e2, s2, x2, r2⟩ := whole_tot hT he p1 s1.lt (by rw [s1.deep]; exact h1) (by rw [s1.deep]; exact h2)
  have s12 := s1.trans s2
  obtain ⟨p3, e3, s3, x3⟩ := must_ok hT s2.lt [119, 105, 116, 104]
  have s13 := s12.trans s3
  have hn : NdInv T (plc T p.pos) (nodeF 11 t.pos [] [w]) p3 := .node hT s13 (fun x => (plc_look (g2 (s13.e0 x))).symm) (fun _ => Int.le_refl _) (fun x c hc => by
    rw [List.mem_singleton.1 hc]
    have := (r2.lo' hT s1) (s3.e0 x)
    exact ⟨this.1, this.2.1⟩)
  obtain ⟨nd, p4, e4, s4, r4⟩ := matchL1_ok hT he ht _ p3 s3.lt (by rw [s13.deep]; exact h1) (by rw [s13.deep]; exact h2) hn
  obtain ⟨p5, e5, s5, x5⟩ := must_ok hT s4.lt [101, 110, 100]
  simp only [e1, e2, e3, e4, e5, Option.bind_some, Option.map_some]
  exact ⟨nd, p5, rfl, s13.trans (s4.trans s5), Strict.r s1 (s2.trans (s3.trans (s4.trans s5))) (x2.l (s3.trans (s4.trans s5))), r4.mono hT s5⟩
theorem try_tot (hT : TOK T) {m : Nat} {e : PM Nd} (he : Tot T (m + 1) e) : Tot T m (tryF T e) := by
  intro p hp h1 h2
  unfold tryF
  obtain ⟨t, g1, g2, g3⟩ := look_ok hp
  obtain ⟨p1, e1, s1, y1, _, _⟩ := take_ok hT hp g1
  obtain ⟨w, p2, e2, s2, x2, r2⟩ := whole_tot hT he p1 s1.lt (by rw [s1.deep]; exact h1) (by rw [s1.deep]; exact h2)
  obtain ⟨p3, e3, s3, x3⟩ := must_ok hT s2.lt [119, 105, 116, 104]
  obtain ⟨u, p4, e4, s4, x4, y4⟩ := word_ok hT s3.lt (k := 3) (by decide)
  obtain ⟨p5, e5, s5, x5⟩ := must_ok hT s4.lt [45, 62]
  have s15 := (s1.trans s2).trans (s3.trans (s4.trans s5))
  obtain ⟨v, p6, e6, s6, x6, r6⟩ := whole_tot hT he p5 s5.lt (by rw [s15.deep]; exact h1) (by rw [s15.deep]; exact h2)
  obtain ⟨p7, e7, s7, x7⟩ := must_ok hT s6.lt [101, 110, 100]
  simp only [e1, e2, e3, e4, e5, e6, e7, Option.bind_some, Option.map_some]
  have s17 := s15.trans (s6.trans s7)
  have s27 := s3.trans (s4.trans (s5.trans (s6.trans s7)))
  refine ⟨_, p7, rfl, s17, Strict.r s1 (s2.trans s27) (x2.l s27), .node hT s17 (fun x => (plc_look (g2 (s17.e0 x))).symm) (fun _ => Int.le_refl _) (fun x c hc => ?_)⟩
  simp only [List.mem_cons, List.not_mem_nil, or_false] at hc
  rcases hc with rfl | rfl
  · have := (r2.lo' hT s1) (s27.e0 x); exact ⟨this.1, this.2.1⟩
  · have := (r6.lo' hT s15) (s7.e0 x); exact ⟨this.1, this.2.1⟩
theorem atom_tot (hT : TOK T) {m : Nat} {e pt : PM Nd} (he : Tot T (m + 1) e) (ht : Tot T (m + 1) pt) : Tot T m (atomF T e pt) := by
  intro p hp h1 h2
  unfold atomF
  obtain ⟨t, g1, g2, g3⟩ := look_ok hp
  rw [g1]; simp only [Option.bind_some]
  split
  · exact match_tot hT he ht p hp h1 h2
  split
  · exact try_tot hT he p hp h1 h2
  obtain ⟨p1, e1, s1, y1, z1, _⟩ := take_ok hT hp g1
  split
  · rename_i hk
    rw [e1]
    exact ⟨_, p1, rfl, s1, fun _ _ => by have := (z1 (isT_kind hk)).2; omega, .node hT s1 (fun x => (plc_look (g2 (s1.e0 x))).symm) (fun _ => Int.le_refl _) (fun _ c hc => by cases hc)⟩
  split
  · rename_i hk
    obtain ⟨b, p2, e2, s2, y2, z2, _⟩ := may_ok hT s1.lt [41]
    simp only [e1, e2, Option.bind_some]
    have s12 := s1.trans s2
    have hx : Strict p p1 := fun _ _ => by have := (z1 (isT_kind hk)).2; omega
    cases b with
    | true => exact ⟨_, p2, rfl, s12, hx.l s2, .node hT s12 (fun x => (plc_look (g2 (s12.e0 x))).symm) (fun _ => Int.le_refl _) (fun _ c hc => by cases hc)⟩
    | false =>
      obtain ⟨w, p3, e3, s3, x3, r3⟩ := whole_tot hT he p2 s2.lt (by rw [s12.deep]; exact h1) (by rw [s12.deep]; exact h2)
      obtain ⟨p4, e4, s4, x4⟩ := must_ok hT s3.lt [41]
      simp only [Bool.false_eq_true, if_false, e3, e4, Option.bind_some, Option.map_some]
      exact ⟨w, p4, rfl, s12.trans (s3.trans s4), hx.l (s2.trans (s3.trans s4)), (r3.lo' hT s12).mono hT s4⟩
  · exact leaf_tot hT (m := m) (by decide) p hp h1 h2
theorem atomsL_ok (hT : TOK T) {m : Nat} {e pt : PM Nd} (he : Tot T (m + 1) e) (ht : Tot T (m + 1) pt) {a : Int} : ∀ (n : Nat) (nd : Nd) (p : PS), p.pos < T.length → m ≤ p.deep → p.deep ≤ 40 → NdInv T a nd p → LOut T a p (atomsL T e pt n nd p)
  | 0, nd, p, hp, _, _, hn => ⟨nd, p, rfl, .refl hp, hn⟩
  | n + 1, nd, p, hp, h1, h2, hn => by
    unfold atomsL
    obtain ⟨c, p1, e1, s1, x1, r1⟩ := atom_tot hT he ht p hp h1 h2
    rw [e1]; simp only [Option.bind_some]
    exact LOut.of s1 (atomsL_ok hT he ht n _ p1 s1.lt (by rw [s1.deep]; exact h1) (by rw [s1.deep]; exact h2) (hn.add hT s1 x1 r1))
theorem NdInv.bin (hT : TOK T) {a : Int} {k : Int} {s : Tx} {nd c : Nd} {p q : PS} (hn : NdInv T a nd p) (st : Step T p q) (hc : NdInv T (plc T p.pos) c q) : NdInv T a (nodeF k nd.pos s [nd, c]) q := fun x => by
  obtain ⟨h1, h2, h3, _, _⟩ := hn (st.e0 x)
  obtain ⟨c1, c2, c3, _, _⟩ := hc x
  refine ⟨pl_node h1.at ?_ (by simp), h2, Int.le_trans h3 (plc_le hT st.le st.lt), by simp [nodeF, Nd.kids], by simp [nodeF, Nd.names]⟩
  intro d hd
  simp only [List.mem_cons, List.not_mem_nil, or_false] at hd
  rcases hd with rfl | rfl
  · exact ⟨h1, Int.le_refl _⟩
  · exact ⟨c1, Int.le_trans h3 c2⟩
theorem begins_kind {t : Tk} (h : beginsT t = true) : t.kind ≠ 0 := by
  intro h0
  unfold beginsT isT at h
  simp [h0] at h
theorem appL_ok (hT : TOK T) {m : Nat} {e pt : PM Nd} (he : Tot T (m + 1) e) (ht : Tot T (m + 1) pt) {a : Int} : ∀ (n : Nat) (bare : Bool) (nd : Nd) (p : PS), p.pos < T.length → m ≤ p.deep → p.deep ≤ 40 → Fuel T n p → NdInv T a nd p → LOut T a p (appL T e pt n bare nd p)
  | 0, bare, nd, p, _, _, _, hf, _ => absurd hf.1 (by omega)
  | n + 1, bare, nd, p, hp, h1, h2, hf, hn => by
    unfold appL
    obtain ⟨t, g1, g2, g3⟩ := look_ok hp
    rw [g1]; simp only [Option.bind_some]
    split
    · rename_i hb
      have h0 : p.e = 0 := by
        by_cases c : p.e = 0
        · exact c
        · exact absurd (by rw [g3 c]; rfl) (begins_kind hb)
      cases bare with
      | true =>
        obtain ⟨p1, e1, s1⟩ := most_ok (T := T) hp nd.kids.length 4
        obtain ⟨c, p2, e2, s2, x2, r2⟩ := atom_tot hT he ht p1 s1.lt (by rw [s1.deep]; exact h1) (by rw [s1.deep]; exact h2)
        simp only [if_true, e1, e2, Option.bind_some]
        have s12 := s1.trans s2
        exact LOut.of s12 (appL_ok hT he ht n true _ p2 s12.lt (by rw [s12.deep]; exact h1) (by rw [s12.deep]; exact h2) (hf.next hp h0 (Strict.r s1 s2 x2)) (hn.add hT s12 (Strict.r s1 s2 x2) (r2.lo' hT s1)))
      | false =>
        obtain ⟨c, p2, e2, s2, x2, r2⟩ := atom_tot hT he ht p hp h1 h2
        simp only [Bool.false_eq_true, if_false, e2, Option.bind_some]
        exact LOut.of s2 (appL_ok hT he ht n false _ p2 s2.lt (by rw [s2.deep]; exact h1) (by rw [s2.deep]; exact h2) (hf.next hp h0 x2) (hn.bin hT s2 r2))
    · exact ⟨nd, p, rfl, .refl hp, hn⟩
theorem app_tot (hT : TOK T) {m : Nat} {e pt : PM Nd} (he : Tot T (m + 1) e) (ht : Tot T (m + 1) pt) : Tot T m (appF T e pt) := by
  intro p hp h1 h2
  unfold appF
  obtain ⟨t, g1, g2, g3⟩ := look_ok hp
  rw [g1]; simp only [Option.bind_some]
  split
  · rename_i hk
    obtain ⟨p1, e1, s1, y1, z1, _⟩ := take_ok hT hp g1
    rw [e1]; simp only [Option.bind_some]
    obtain ⟨nd, p2, e2, s2, r2⟩ := atomsL_ok hT he ht (a := plc T p.pos) (kindF t.text).2.toNat (nodeF (kindF t.text).1 t.pos [] []) p1 s1.lt (by rw [s1.deep]; exact h1) (by rw [s1.deep]; exact h2)
      (.node hT s1 (fun x => (plc_look (g2 (s1.e0 x))).symm) (fun _ => Int.le_refl _) (fun _ c hc => by cases hc))
    have hx : Strict p p1 := fun _ _ => by have := (z1 (by omega)).2; omega
    exact ⟨nd, p2, e2, s1.trans s2, hx.l s2, r2⟩
  · obtain ⟨c, p1, e1, s1, x1, r1⟩ := atom_tot hT he ht p hp h1 h2
    rw [e1]; simp only [Option.bind_some]
    obtain ⟨nd, p2, e2, s2, r2⟩ := appL_ok hT he ht (T.length + 2) (t.kind == 4) c p1 s1.lt (by rw [s1.deep]; exact h1) (by rw [s1.deep]; exact h2) (fuel0 (p := p)) r1
    exact ⟨nd, p2, e2, s1.trans s2, x1.l s2, r2⟩
theorem sumsL_ok (hT : TOK T) {m : Nat} {part : PM Nd} {signs : List Tx} (he : Tot T m part) {a : Int} : ∀ (n : Nat) (t : Tk) (nd : Nd) (p : PS), lookF T p = some t → p.pos < T.length → m ≤ p.deep → p.deep ≤ 40 → Fuel T n p → NdInv T a nd p → LOut T a p (sumsL T part signs n t nd p)
  | 0, t, nd, p, _, _, _, _, hf, _ => absurd hf.1 (by omega)
  | n + 1, t, nd, p, ht, hp, h1, h2, hf, hn => by
    unfold sumsL
    split
    · rename_i hk
      obtain ⟨p1, e1, s1, y1, z1, _⟩ := take_ok hT hp ht
      obtain ⟨c, p2, e2, s2, x2, r2⟩ := he p1 s1.lt (by rw [s1.deep]; exact h1) (by rw [s1.deep]; exact h2)
      obtain ⟨t', g1, _, _⟩ := look_ok s2.lt
      simp only [e1, e2, g1, Option.bind_some]
      have s12 := s1.trans s2
      have hz := z1 (by omega)
      have hx : Strict p p1 := fun _ _ => by omega
      exact LOut.of s12 (sumsL_ok hT he n t' _ p2 g1 s12.lt (by rw [s12.deep]; exact h1) (by rw [s12.deep]; exact h2) (hf.next hp hz.1 (hx.l s2)) (hn.bin hT s12 (r2.lo' hT s1)))
    · exact ⟨nd, p, rfl, .refl hp, hn⟩
theorem sums_tot (hT : TOK T) {m : Nat} {part : PM Nd} {signs : List Tx} (he : Tot T m part) : Tot T m (sumsF T part signs) := by
  intro p hp h1 h2
  unfold sumsF
  obtain ⟨c, p1, e1, s1, x1, r1⟩ := he p hp h1 h2
  obtain ⟨t, g1, _, _⟩ := look_ok s1.lt
  simp only [e1, g1, Option.bind_some]
  obtain ⟨nd, p2, e2, s2, r2⟩ := sumsL_ok hT he (signs := signs) (T.length + 2) t c p1 g1 s1.lt (by rw [s1.deep]; exact h1) (by rw [s1.deep]; exact h2) (fuel0 (p := p)) r1
  exact ⟨nd, p2, e2, s1.trans s2, x1.l s2, r2⟩
theorem sum_tot (hT : TOK T) {m : Nat} {e pt : PM Nd} (he : Tot T (m + 1) e) (ht : Tot T (m + 1) pt) : Tot T m (sumF T e pt) := sums_tot hT (sums_tot hT (app_tot hT he ht))
theorem cmp_tot (hT : TOK T) {m : Nat} {e pt : PM Nd} (he : Tot T (m + 1) e) (ht : Tot T (m + 1) pt) : Tot T m (cmpF T e pt) := by
  intro p hp h1 h2
  unfold cmpF
  obtain ⟨c, p1, e1, s1, x1, r1⟩ := sum_tot hT he ht p hp h1 h2
  obtain ⟨t, g1, _, _⟩ := look_ok s1.lt
  simp only [e1, g1, Option.bind_some]
  split
  · obtain ⟨p2, e2, s2, _⟩ := take_ok hT s1.lt g1
    have s12 := s1.trans s2
    obtain ⟨d, p3, e3, s3, x3, r3⟩ := sum_tot hT he ht p2 s2.lt (by rw [s12.deep]; exact h1) (by rw [s12.deep]; exact h2)
    simp only [e2, e3, Option.bind_some, Option.map_some]
    exact ⟨_, p3, rfl, s12.trans s3, x1.l (s2.trans s3), r1.bin hT (s2.trans s3) (r3.lo' hT s2)⟩
  · exact ⟨c, p1, rfl, s1, x1, r1⟩
theorem value_ok (hT : TOK T) {m : Nat} {e : PM Nd} (he : Tot T (m + 1) e) {p : PS} (hp : p.pos < T.length) (h1 : m ≤ p.deep) (h2 : p.deep ≤ 40) :
    ∃ nm rec nd q, valueF T e p = some ((nm, rec, nd), q) ∧ Step T p q ∧ Strict p q ∧ NdInv T (plc T p.pos) nd q := by
  unfold valueF
  obtain ⟨b, p1, e1, s1, _⟩ := may_ok hT hp [114, 101, 99]
  obtain ⟨t, p2, e2, s2, x2, _⟩ := word_ok hT s1.lt (k := 3) (by decide)
  obtain ⟨p3, e3, s3, x3⟩ := must_ok hT s2.lt [61]
  simp only [e1, e2, e3, Option.bind_some]
  have s13 := s1.trans (s2.trans s3)
  obtain ⟨p4, e4, s4⟩ : ∃ p4, (if b = true ∧ p3.deep < 40 then (isF T [102, 117, 110] p3).bind fun b => if b then some p3 else failF T 14 p3 else some p3) = some p4 ∧ Step T p3 p4 := by
    split
    · obtain ⟨c, f1, _⟩ := is_ok s3.lt [102, 117, 110]
      rw [f1]; simp only [Option.bind_some]
      split
      · exact ⟨p3, rfl, .refl s3.lt⟩
      · obtain ⟨q, f2, f3, _⟩ := fail_ok (T := T) s3.lt (e := 14) (by decide)
        exact ⟨q, f2, f3⟩
    · exact ⟨p3, rfl, .refl s3.lt⟩
  have s14 := s13.trans s4
  obtain ⟨nd, p5, e5, s5, x5, r5⟩ := in_tot hT he p4 s4.lt (by rw [s14.deep]; exact h1) (by rw [s14.deep]; exact h2)
  simp only [e4, e5, Option.bind_some, Option.map_some]
  exact ⟨_, _, nd, p5, rfl, s14.trans s5, Strict.r s14 s5 x5, r5.lo' hT s14⟩
theorem let_tot (hT : TOK T) {m : Nat} {e : PM Nd} (he : Tot T (m + 1) e) : Tot T m (letF T e) := by
  intro p hp h1 h2
  unfold letF
  obtain ⟨t, g1, g2, g3⟩ := look_ok hp
  obtain ⟨p1, e1, s1, y1, _, _⟩ := take_ok hT hp g1
  obtain ⟨nm, rec, v, p2, e2, s2, x2, r2⟩ := value_ok hT he s1.lt (by rw [s1.deep]; exact h1) (by rw [s1.deep]; exact h2)
  obtain ⟨p3, e3, s3, x3⟩ := must_ok hT s2.lt [105, 110]
  have s13 := s1.trans (s2.trans s3)
  obtain ⟨u, p4, e4, s4, x4, r4⟩ := in_tot hT he p3 s3.lt (by rw [s13.deep]; exact h1) (by rw [s13.deep]; exact h2)
  simp only [e1, e2, e3, e4, Option.bind_some, Option.map_some]
  have s14 := s13.trans s4
  refine ⟨_, p4, rfl, s14, Strict.r s13 s4 x4, .node hT s14 (fun x => (plc_look (g2 (s14.e0 x))).symm) (fun _ => Int.le_refl _) (fun x c hc => ?_)⟩
  simp only [List.mem_cons, List.not_mem_nil, or_false] at hc
  rcases hc with rfl | rfl
  · have := (r2.lo' hT s1) ((s3.trans s4).e0 x); exact ⟨this.1, this.2.1⟩
  · have := (r4.lo' hT s13) x; exact ⟨this.1, this.2.1⟩
theorem fun_tot (hT : TOK T) {m : Nat} {e : PM Nd} (he : Tot T (m + 1) e) : Tot T m (funF T e) := by
  intro p hp h1 h2
  unfold funF
  obtain ⟨t, g1, g2, g3⟩ := look_ok hp
  obtain ⟨p1, e1, s1, y1, _, _⟩ := take_ok hT hp g1
  obtain ⟨t2, p2, e2, s2, x2, _⟩ := word_ok hT s1.lt (k := 3) (by decide)
  obtain ⟨p3, e3, s3, x3⟩ := must_ok hT s2.lt [45, 62]
  have s13 := s1.trans (s2.trans s3)
  obtain ⟨u, p4, e4, s4, x4, r4⟩ := in_tot hT he p3 s3.lt (by rw [s13.deep]; exact h1) (by rw [s13.deep]; exact h2)
  simp only [e1, e2, e3, e4, Option.bind_some, Option.map_some]
  have s14 := s13.trans s4
  refine ⟨_, p4, rfl, s14, Strict.r s13 s4 x4, .node hT s14 (fun x => (plc_look (g2 (s14.e0 x))).symm) (fun _ => Int.le_refl _) (fun x c hc => ?_)⟩
  rw [List.mem_singleton.1 hc]
  have := (r4.lo' hT s13) x; exact ⟨this.1, this.2.1⟩
theorem branch_tot (hT : TOK T) {m : Nat} {e : PM Nd} (he : Tot T (m + 1) e) : Tot T m (branchF T e) := by
  intro p hp h1 h2
  unfold branchF
  obtain ⟨t, g1, g2, g3⟩ := look_ok hp
  obtain ⟨p1, e1, s1, y1, _, _⟩ := take_ok hT hp g1
  obtain ⟨c, p2, e2, s2, x2, r2⟩ := in_tot hT he p1 s1.lt (by rw [s1.deep]; exact h1) (by rw [s1.deep]; exact h2)
  obtain ⟨p3, e3, s3, x3⟩ := must_ok hT s2.lt [116, 104, 101, 110]
  have s13 := s1.trans (s2.trans s3)
  obtain ⟨a, p4, e4, s4, x4, r4⟩ := in_tot hT he p3 s3.lt (by rw [s13.deep]; exact h1) (by rw [s13.deep]; exact h2)
  obtain ⟨p5, e5, s5, x5⟩ := must_ok hT s4.lt [101, 108, 115, 101]
  have s15 := s13.trans (s4.trans s5)
  obtain ⟨b, p6, e6, s6, x6, r6⟩ := in_tot hT he p5 s5.lt (by rw [s15.deep]; exact h1) (by rw [s15.deep]; exact h2)
  simp only [e1, e2, e3, e4, e5, e6, Option.bind_some, Option.map_some]
  have s16 := s15.trans s6
  refine ⟨_, p6, rfl, s16, Strict.r s15 s6 x6, .node hT s16 (fun x => (plc_look (g2 (s16.e0 x))).symm) (fun _ => Int.le_refl _) (fun x d hd => ?_)⟩
  simp only [List.mem_cons, List.not_mem_nil, or_false] at hd
  rcases hd with rfl | rfl | rfl
  · have := (r2.lo' hT s1) ((s3.trans (s4.trans (s5.trans s6))).e0 x); exact ⟨this.1, this.2.1⟩
  · have := (r4.lo' hT s13) ((s5.trans s6).e0 x); exact ⟨this.1, this.2.1⟩
  · have := (r6.lo' hT s15) x; exact ⟨this.1, this.2.1⟩
theorem exp_tot (hT : TOK T) {m : Nat} {e pt : PM Nd} (he : Tot T (m + 1) e) (ht : Tot T (m + 1) pt) : Tot T m (expS T e pt) := by
  intro p hp h1 h2
  unfold expS
  obtain ⟨t, g1, g2, g3⟩ := look_ok hp
  rw [g1]; simp only [Option.bind_some]
  split
  · exact let_tot hT he p hp h1 h2
  split
  · exact fun_tot hT he p hp h1 h2
  split
  · exact branch_tot hT he p hp h1 h2
  obtain ⟨c, p1, e1, s1, x1, r1⟩ := cmp_tot hT he ht p hp h1 h2
  rw [e1]; simp only [Option.bind_some]
  obtain ⟨b, p2, e2, s2⟩ : ∃ b p2, (if p1.flat then some (false, p1) else mayF T [59] p1) = some (b, p2) ∧ Step T p1 p2 := by
    split
    · exact ⟨_, _, rfl, .refl s1.lt⟩
    · obtain ⟨b, q, f1, f2, _⟩ := may_ok hT s1.lt [59]
      exact ⟨b, q, f1, f2⟩
  rw [e2]; simp only [Option.bind_some]
  have s12 := s1.trans s2
  cases b with
  | true =>
    obtain ⟨d, p3, e3, s3, x3, r3⟩ := in_tot hT he p2 s2.lt (by rw [s12.deep]; exact h1) (by rw [s12.deep]; exact h2)
    simp only [if_true, e3, Option.map_some]
    exact ⟨_, p3, rfl, s12.trans s3, x1.l (s2.trans s3), r1.bin hT (s2.trans s3) (r3.lo' hT s2)⟩
  | false => exact ⟨c, p2, rfl, s12, x1.l s2, r1.mono hT s2⟩
theorem expF_tot (hT : TOK T) : ∀ (n m : Nat), 43 ≤ m + n → Tot T m (expF T n)
  | 0, m, h => fun p hp h1 h2 => by omega
  | n + 1, m, h => exp_tot hT (expF_tot hT n (m + 1) (by omega)) (patF_tot hT (n + 1) (m + 1) (by omega))
theorem decl_ok (hT : TOK T) {m : Nat} {e ty : PM Nd} (he : Tot T (m + 1) e) (hy : Tot T (m + 1) ty) {p : PS} (hp : p.pos < T.length) (h1 : m ≤ p.deep) (h2 : p.deep ≤ 40) (hf : p.flat = false) : Out T p (declF T e ty p) := by
  unfold declF
  obtain ⟨b, e0, x0⟩ := is_ok hp [116, 121, 112, 101]
  rw [e0]; simp only [Option.bind_some]
  obtain ⟨nd, p1, e1, s1, x1, r1⟩ : Out T p (if b = true then decltypeF T ty p else (takeF T p).bind fun r => (valueF T e { r.2 with flat := true }).map fun q => (nodeF (if q.1.2.1 then 29 else 28) r.1.pos q.1.1 [q.1.2.2], { q.2 with flat := false })) := by
    cases b with
    | true => exact decltype_ok hT hy p hp h1 h2
    | false =>
      obtain ⟨t, g1, g2, g3⟩ := look_ok hp
      obtain ⟨p1, e1, s1, y1, _, _⟩ := take_ok hT hp g1
      obtain ⟨nm, rec, v, q, e2, s2, x2, r2⟩ := value_ok hT he (p := { p1 with flat := true }) s1.lt (by show m ≤ p1.deep; rw [s1.deep]; exact h1) (by show p1.deep ≤ 40; rw [s1.deep]; exact h2)
      simp only [Bool.false_eq_true, if_false, e1, e2, Option.bind_some, Option.map_some]
      have s3 : Step T p1 { q with flat := false } := ⟨s2.deep, by show false = p1.flat; rw [s1.flat, hf], s2.le, s2.lt, fun h => by
        have hh := s2.err h
        rw [hh]
        have : p1.flat = false := by rw [s1.flat, hf]
        cases p1; simp_all⟩
      have s13 := s1.trans s3
      refine ⟨_, _, rfl, s13, Strict.r (q := p1) s1 s3 x2, .node hT s13 (fun x => (plc_look (g2 (s13.e0 x))).symm) (fun _ => Int.le_refl _) (fun x c hc => ?_)⟩
      rw [List.mem_singleton.1 hc]
      have h5 : NdInv T (plc T p1.pos) v q := r2
      have := (NdInv.lo' (p := p) (q := p1) hT h5 s1) x
      exact ⟨this.1, this.2.1⟩
  obtain ⟨p2, e2, s2, x2⟩ := must_ok hT s1.lt [59]
  simp only [e1, e2, Option.bind_some, Option.map_some]
  exact ⟨nd, p2, rfl, s1.trans s2, x1.l s2, r1.mono hT s2⟩
theorem progL_ok (hT : TOK T) {m : Nat} {e ty : PM Nd} (he : Tot T (m + 1) e) (hy : Tot T (m + 1) ty) {a : Int} : ∀ (n : Nat) (nd : Nd) (p : PS), p.pos < T.length → m ≤ p.deep → p.deep ≤ 40 → p.flat = false → Fuel T n p → NdInv T a nd p → LOut T a p (progL T e ty n nd p)
  | 0, nd, p, _, _, _, _, hf, _ => absurd hf.1 (by omega)
  | n + 1, nd, p, hp, h1, h2, hl, hf, hn => by
    unfold progL
    obtain ⟨a, e0, x0⟩ := is_ok hp [116, 121, 112, 101]
    rw [e0]; simp only [Option.bind_some]
    obtain ⟨b, e1, x1⟩ : ∃ b, (if a = true then some true else isF T [108, 101, 116] p) = some b ∧ (b = true → p.e = 0) := by
      cases a with
      | true => exact ⟨true, rfl, fun _ => x0 rfl⟩
      | false => exact is_ok hp [108, 101, 116]
    rw [e1]; simp only [Option.bind_some]
    cases b with
    | false => exact ⟨nd, p, rfl, .refl hp, hn⟩
    | true =>
      obtain ⟨p1, e2, s1⟩ := most_ok (T := T) hp nd.kids.length 60
      obtain ⟨c, p2, e3, s2, x2, r2⟩ := decl_ok hT he hy s1.lt (by rw [s1.deep]; exact h1) (by rw [s1.deep]; exact h2) (by rw [s1.flat]; exact hl)
      simp only [if_true, e2, e3, Option.bind_some]
      have s12 := s1.trans s2
      exact LOut.of s12 (progL_ok hT he hy n _ p2 s12.lt (by rw [s12.deep]; exact h1) (by rw [s12.deep]; exact h2) (by rw [s12.flat]; exact hl) (hf.next hp (x1 rfl) (Strict.r s1 s2 x2)) (hn.add hT s12 (Strict.r s1 s2 x2) (r2.lo' hT s1)))
theorem prog_ok (hT : TOK T) {e ty : PM Nd} (he : Tot T 1 e) (hy : Tot T 1 ty) {p : PS} (hp : p.pos < T.length) (hd : p.deep = 0) (hf : p.flat = false) : ∃ nd q, progF T e ty p = some (nd, q) ∧ Step T p q ∧ NdInv T (plc T p.pos) nd q := by
  unfold progF
  obtain ⟨t, g1, g2, g3⟩ := look_ok hp
  rw [g1]; simp only [Option.bind_some]
  obtain ⟨nd, p1, e1, s1, r1⟩ := progL_ok hT (m := 0) he hy (a := plc T p.pos) (T.length + 2) (nodeF 30 t.pos [] []) p hp (by omega) (by omega) hf (fuel0 (p := p)) (.node hT (.refl hp) (fun x => (plc_look (g2 x)).symm) (fun _ => Int.le_refl _) (fun _ c hc => by cases hc))
  obtain ⟨p2, e2, s2, x2⟩ := must_ok hT s1.lt [100, 111]
  have s12 := s1.trans s2
  obtain ⟨u, p3, e3, s3, x3, r3⟩ := in_tot (m := 0) hT he p2 s2.lt (by omega) (by rw [s12.deep]; omega)
  obtain ⟨t', k1, _, _⟩ := look_ok s3.lt
  simp only [e1, e2, e3, k1, Option.bind_some]
  have hn := (r1.mono hT s2).add hT s3 x3 r3
  split
  · obtain ⟨q, f1, f2, f3⟩ := fail_ok (T := T) s3.lt (e := 14) (by decide)
    simp only [f1, Option.map_some]
    exact ⟨_, q, rfl, s12.trans (s3.trans f2), fun x => absurd x f3⟩
  · exact ⟨_, p3, rfl, s12.trans s3, hn⟩
/-- The parser ends; a node of a source that has one stands where a token does, and so does all in it. -/
theorem parse_ok (hT : TOK T) : ∃ nd b e, parseF T = some (nd, b, e) ∧ (e = 0 → b = 0 ∧ Pl T nd) ∧ (e ≠ 0 → nd = nd0) := by
  obtain ⟨nd, q, h1, h2, h3⟩ := prog_ok hT (expF_tot hT 42 1 (by omega)) (tyF_tot hT 42 1 (by omega)) (p := ⟨0, 0, false, 0, 0⟩) hT.pos rfl rfl
  unfold parseF
  rw [h1]; simp only [Option.map_some]
  by_cases he : q.e = 0
  · exact ⟨nd, 0, 0, by simp [he], fun _ => ⟨rfl, (h3 he).1⟩, fun x => absurd rfl x⟩
  · exact ⟨nd0, q.bad, q.e, by simp [he], fun x => absurd x he, fun _ => rfl⟩
end Go.AL
set_option linter.unusedSimpArgs false
set_option linter.unusedVariables false
namespace Go.AL
mutual
/-- Are nodes the same, but for their places? -/
def sameB : Nd → Nd → Bool
  | .mk k t n _ ns ks, .mk k' t' n' _ ns' ks' => decide (k = k') && decide (t = t') && decide (n = n') && decide (ns = ns') && sameBs ks ks'
def sameBs : List Nd → List Nd → Bool
  | [], [] => true
  | a :: l, b :: r => sameB a b && sameBs l r
  | _, _ => false
end
theorem sameBs_app : ∀ {l1 l2 m1 m2 : List Nd}, sameBs l1 l2 = true → sameBs m1 m2 = true → sameBs (l1 ++ m1) (l2 ++ m2) = true
  | [], [], _, _, _, h => h
  | a :: l, b :: r, m1, m2, h, h2 => by
    simp only [sameBs, Bool.and_eq_true] at h
    simp only [List.cons_append, sameBs, Bool.and_eq_true]
    exact ⟨h.1, sameBs_app h.2 h2⟩
  | [], _ :: _, _, _, h, _ => by simp [sameBs] at h
  | _ :: _, [], _, _, h, _ => by simp [sameBs] at h
theorem sameBs_len : ∀ {l1 l2 : List Nd}, sameBs l1 l2 = true → l1.length = l2.length
  | [], [], _ => rfl
  | a :: l, b :: r, h => by
    simp only [sameBs, Bool.and_eq_true] at h
    simp [sameBs_len h.2]
  | [], _ :: _, h => by simp [sameBs] at h
  | _ :: _, [], h => by simp [sameBs] at h
theorem same_parts {a b : Nd} (h : sameB a b = true) : a.kind = b.kind ∧ a.text = b.text ∧ a.num = b.num ∧ a.names = b.names ∧ sameBs a.kids b.kids = true := by
  cases a; cases b
  simp only [sameB, Bool.and_eq_true, decide_eq_true_eq] at h
  obtain ⟨⟨⟨⟨h1, h2⟩, h3⟩, h4⟩, h5⟩ := h
  exact ⟨h1, h2, h3, h4, h5⟩
theorem same_mk {a b : Nd} (h1 : a.kind = b.kind) (h2 : a.text = b.text) (h3 : a.num = b.num) (h4 : a.names = b.names) (h5 : sameBs a.kids b.kids = true) : sameB a b = true := by
  cases a; cases b
  simp only [sameB, Bool.and_eq_true, decide_eq_true_eq]
  exact ⟨⟨⟨⟨h1, h2⟩, h3⟩, h4⟩, h5⟩
theorem same_node {k a b : Int} {t : Tx} {l r : List Nd} (h : sameBs l r = true) : sameB (nodeF k a t l) (nodeF k b t r) = true := same_mk rfl rfl rfl rfl h
theorem same_adds {a b : Nd} {l r : List Nd} (h : sameB a b = true) (h2 : sameBs l r = true) : sameB (a.addKids l) (b.addKids r) = true := by
  obtain ⟨h1, h3, h4, h5, h6⟩ := same_parts h
  cases a; cases b
  exact same_mk h1 h3 h4 h5 (sameBs_app h6 h2)
theorem sameBs1 {a b : Nd} (h : sameB a b = true) : sameBs [a] [b] = true := by simp [sameBs, h]
theorem sameBs2 {a b c d : Nd} (h : sameB a b = true) (h2 : sameB c d = true) : sameBs [a, c] [b, d] = true := by simp [sameBs, h, h2]
theorem sameBs3 {a b c d e f : Nd} (h : sameB a b = true) (h2 : sameB c d = true) (h3 : sameB e f = true) : sameBs [a, c, e] [b, d, f] = true := by simp [sameBs, h, h2, h3]
theorem same_add {a b c d : Nd} (h : sameB a b = true) (h2 : sameB c d = true) : sameB (a.addKid c) (b.addKid d) = true := by
  rw [addKid_eq, addKid_eq]; exact same_adds h (sameBs1 h2)
theorem same_name {a b : Nd} (h : sameB a b = true) {s t : Tx} (e : s = t) : sameB (a.addName s) (b.addName t) = true := by
  subst e
  obtain ⟨h1, h3, h4, h5, h6⟩ := same_parts h
  cases a; cases b
  exact same_mk h1 h3 h4 (congrArg (· ++ [s]) h5) h6

structure Rel (d lo : Nat) (p1 p2 : PS) : Prop where
  lo : lo ≤ p1.pos
  pos : p2.pos = p1.pos + d
  deep : p2.deep = p1.deep + d
  flat : p2.flat = p1.flat
  e : p2.e = p1.e
def Ok (ex : Bool) (q1 q2 : PS) : Prop := ex = true ∨ (q1.e = 0 ∧ q2.e = 0)
def Sm (t1 t2 : Tk) : Prop := t1.kind = t2.kind ∧ t1.text = t2.text ∧ t1.num = t2.num
structure TR (ex : Bool) (d lo : Nat) (T1 T2 : List Tk) : Prop where
  k1 : TOK T1
  k2 : TOK T2
  dx : ex = true → d = 0
  tk : ∀ i, lo ≤ i → i < T1.length → ∃ t1 t2, T1[i]? = some t1 ∧ T2[i + d]? = some t2 ∧ (Sm t1 t2 ∨ (ex = false ∧ i + 1 = T1.length ∧ t1.kind = 0 ∧ t2.kind = 5 ∧ t2.text = [41]))
structure Bd (T : List Tk) (m : Nat) (p : PS) : Prop where
  lt : p.pos < T.length
  lo : m ≤ p.deep
  hi : p.deep ≤ 40
variable {ex : Bool} {d lo : Nat} {T1 T2 T : List Tk}
theorem Bd.next {m : Nat} {p q : PS} (b : Bd T m p) (s : Step T p q) : Bd T m q := ⟨s.lt, by rw [s.deep]; exact b.lo, by rw [s.deep]; exact b.hi⟩
theorem Ok.back {p1 p2 q1 q2 : PS} (h : Ok ex q1 q2) (s1 : Step T1 p1 q1) (s2 : Step T2 p2 q2) : Ok ex p1 p2 := h.imp id fun x => ⟨s1.e0 x.1, s2.e0 x.2⟩
theorem Ok.f {q1 q2 : PS} (h : Ok ex q1 q2) (hx : ex = false) : q1.e = 0 ∧ q2.e = 0 := h.resolve_left (by rw [hx]; decide)
theorem Tot.st {m : Nat} {e : PM Nd} (h : Tot T m e) {p : PS} (b : Bd T m p) {r : Nd} {q : PS} (hr : e p = some (r, q)) : Step T p q ∧ Strict p q := by
  obtain ⟨nd, q', h1, h2, h3, _⟩ := h p b.lt b.lo b.hi
  rw [h1] at hr; cases hr; exact ⟨h2, h3⟩
theorem end_err {p q : PS} (s : Step T p q) (x : Strict p q) (h : p.pos + 1 = T.length) (h0 : p.e = 0) : q.e ≠ 0 := fun z => by
  have := x h0 z; have := s.lt; omega
/-- What stands at two places that belong together. -/
def TkR (ex : Bool) (T1 : List Tk) (p1 : PS) (t1 t2 : Tk) : Prop := Sm t1 t2 ∨ (ex = false ∧ p1.pos + 1 = T1.length ∧ p1.e = 0 ∧ t1.kind = 0 ∧ t2.kind = 5 ∧ t2.text = [41])
theorem look_rel (H : TR ex d lo T1 T2) {p1 p2 : PS} (R : Rel d lo p1 p2) (hp : p1.pos < T1.length) {t1 t2 : Tk} (h1 : lookF T1 p1 = some t1) (h2 : lookF T2 p2 = some t2) : TkR ex T1 p1 t1 t2 := by
  unfold lookF at h1 h2
  rw [R.e, R.pos] at h2
  by_cases he : p1.e = 0
  · rw [if_pos he] at h1 h2
    obtain ⟨u1, u2, g1, g2, g3⟩ := H.tk p1.pos R.lo hp
    rw [h1] at g1; rw [h2] at g2
    cases g1; cases g2
    exact g3.imp id fun ⟨a, b, c⟩ => ⟨a, b, he, c⟩
  · rw [if_neg he] at h1 h2
    cases h1; cases h2; exact .inl ⟨rfl, rfl, rfl⟩
theorem Sm.isT {t1 t2 : Tk} (h : Sm t1 t2) (s : Tx) : isT t1 s = isT t2 s := by unfold AL.isT; rw [h.1, h.2.1]
theorem TkR.isT {p1 : PS} {t1 t2 : Tk} (h : TkR ex T1 p1 t1 t2) {s : Tx} (hs : s ≠ [41]) : isT t1 s = isT t2 s := by
  rcases h with h | ⟨_, _, _, h1, h2, h3⟩
  · exact h.isT s
  · unfold AL.isT
    have e : ([41] == s) = false := beq_eq_false_iff_ne.2 (fun h => hs h.symm)
    rw [h1, h2, h3, e]; simp
theorem TkR.kind {p1 : PS} {t1 t2 : Tk} (h : TkR ex T1 p1 t1 t2) {k : Int} (h0 : k ≠ 0) (h5 : k ≠ 5) : (t1.kind = k) = (t2.kind = k) := by
  rcases h with h | ⟨_, _, _, h1, h2, h3⟩
  · rw [h.1]
  · rw [h1, h2]; exact propext ⟨fun x => absurd x.symm h0, fun x => absurd x.symm h5⟩
theorem TkR.sm {p1 : PS} {t1 t2 : Tk} (h : TkR ex T1 p1 t1 t2) (hk : t1.kind ≠ 0) : Sm t1 t2 := h.resolve_right fun x => hk x.2.2.2.1
theorem is_inv {p : PS} {s : Tx} {b : Bool} (h : isF T s p = some b) : ∃ t, lookF T p = some t ∧ b = isT t s := by
  unfold isF at h
  cases hl : lookF T p with
  | none => rw [hl] at h; cases h
  | some t => rw [hl] at h; cases h; exact ⟨t, rfl, rfl⟩
theorem is_rel (H : TR ex d lo T1 T2) {p1 p2 : PS} (R : Rel d lo p1 p2) (hp : p1.pos < T1.length) {s : Tx} (hs : s ≠ [41]) {b1 b2 : Bool} (h1 : isF T1 s p1 = some b1) (h2 : isF T2 s p2 = some b2) : b1 = b2 := by
  obtain ⟨t1, g1, rfl⟩ := is_inv h1
  obtain ⟨t2, g2, rfl⟩ := is_inv h2
  exact (look_rel H R hp g1 g2).isT hs
theorem take_inv {p q : PS} {t : Tk} (h : takeF T p = some (t, q)) : lookF T p = some t ∧ q = if p.e = 0 ∧ t.kind ≠ 0 then { p with pos := p.pos + 1 } else p := by
  unfold takeF at h
  cases hl : lookF T p with
  | none => rw [hl] at h; cases h
  | some u => rw [hl] at h; cases h; exact ⟨rfl, rfl⟩
theorem take_st (hT : TOK T) {p q : PS} (hp : p.pos < T.length) {t : Tk} (h : takeF T p = some (t, q)) : Step T p q ∧ (t.kind ≠ 0 → Strict p q) := by
  obtain ⟨h1, _⟩ := take_inv h
  obtain ⟨q', h2, h3, _, h4, _⟩ := take_ok hT hp h1
  rw [h2] at h; cases h
  exact ⟨h3, fun k _ _ => by have := (h4 k).2; omega⟩
/-- Taking goes alike where the tokens are the same. -/
theorem take_rel {p1 p2 q1 q2 : PS} (R : Rel d lo p1 p2) {t1 t2 : Tk} (h1 : takeF T1 p1 = some (t1, q1)) (h2 : takeF T2 p2 = some (t2, q2)) (hs : Sm t1 t2) : Rel d lo q1 q2 := by
  obtain ⟨_, rfl⟩ := take_inv h1
  obtain ⟨_, rfl⟩ := take_inv h2
  rw [R.e, ← hs.1]
  by_cases c : p1.e = 0 ∧ t1.kind ≠ 0
  · rw [if_pos c, if_pos c]
    exact ⟨by show lo ≤ p1.pos + 1; have := R.lo; omega, by show p2.pos + 1 = p1.pos + 1 + d; have := R.pos; omega, R.deep, R.flat, rfl⟩
  · rw [if_neg c, if_neg c]; exact R
theorem may_st (hT : TOK T) {p q : PS} (hp : p.pos < T.length) {s : Tx} {b : Bool} (h : mayF T s p = some (b, q)) : Step T p q := by
  obtain ⟨b', q', h1, h2, _⟩ := may_ok hT hp s
  rw [h1] at h; cases h; exact h2
theorem may_inv {p q : PS} {s : Tx} {b : Bool} (h : mayF T s p = some (b, q)) : ∃ t, lookF T p = some t ∧ b = isT t s ∧ (if b = true then takeF T p = some (t, q) else q = p) := by
  unfold mayF at h
  simp only [Option.bind_eq_some_iff] at h
  obtain ⟨b', h1, h2⟩ := h
  obtain ⟨t, h3, rfl⟩ := is_inv h1
  cases hb : isT t s with
  | true =>
    rw [hb] at h2
    simp only [if_true, Option.map_eq_some_iff, Prod.exists, Prod.mk.injEq] at h2
    obtain ⟨u, q', h4, rfl, rfl⟩ := h2
    obtain ⟨h5, _⟩ := take_inv h4
    rw [h3] at h5; cases h5
    exact ⟨t, h3, hb.symm, by simpa using h4⟩
  | false =>
    rw [hb] at h2
    simp only [Bool.false_eq_true, if_false, Option.some.injEq, Prod.mk.injEq] at h2
    obtain ⟨rfl, rfl⟩ := h2
    exact ⟨t, h3, hb.symm, by simp⟩
theorem may_rel (H : TR ex d lo T1 T2) {p1 p2 q1 q2 : PS} (R : Rel d lo p1 p2) (hp : p1.pos < T1.length) {s : Tx} (hs : s ≠ [41]) {b1 b2 : Bool} (h1 : mayF T1 s p1 = some (b1, q1)) (h2 : mayF T2 s p2 = some (b2, q2)) : b1 = b2 ∧ Rel d lo q1 q2 := by
  obtain ⟨t1, g1, e1, k1⟩ := may_inv h1
  obtain ⟨t2, g2, e2, k2⟩ := may_inv h2
  have hR := look_rel H R hp g1 g2
  have he : b1 = b2 := by rw [e1, e2]; exact hR.isT hs
  subst he
  refine ⟨rfl, ?_⟩
  cases b1 with
  | true =>
    simp only [if_true] at k1 k2
    exact take_rel R k1 k2 (hR.sm (isT_kind e1.symm))
  | false =>
    simp only [Bool.false_eq_true, if_false] at k1 k2
    subst k1; subst k2; exact R
theorem fail_inv {p q : PS} {e : Int} (h : failF T e p = some q) : q.pos = p.pos ∧ q.deep = p.deep ∧ q.flat = p.flat ∧ q.e = if p.e = 0 then e else p.e := by
  unfold failF at h
  by_cases c : p.e = 0
  · rw [if_pos c] at h ⊢
    cases hx : T[p.pos]? with
    | none => rw [hx] at h; cases h
    | some t => rw [hx] at h; cases h; exact ⟨rfl, rfl, rfl, rfl⟩
  · rw [if_neg c] at h ⊢; cases h; exact ⟨rfl, rfl, rfl, rfl⟩
theorem fail_ne {p q : PS} {e : Int} (h : failF T e p = some q) (he : e ≠ 0) : q.e ≠ 0 := by
  rw [(fail_inv h).2.2.2]; split
  · exact he
  · assumption
theorem fail_st {p q : PS} (hp : p.pos < T.length) {e : Int} (h : failF T e p = some q) : Step T p q := by
  unfold failF at h
  by_cases c : p.e = 0
  · rw [if_pos c] at h
    cases hx : T[p.pos]? with
    | none => rw [hx] at h; cases h
    | some t => rw [hx] at h; cases h; exact ⟨rfl, rfl, Nat.le_refl _, hp, fun x => absurd c x⟩
  · rw [if_neg c] at h; cases h; exact .refl hp
theorem fail_rel {p1 p2 q1 q2 : PS} (R : Rel d lo p1 p2) {e : Int} (h1 : failF T1 e p1 = some q1) (h2 : failF T2 e p2 = some q2) : Rel d lo q1 q2 := by
  obtain ⟨a1, a2, a3, a4⟩ := fail_inv h1
  obtain ⟨b1, b2, b3, b4⟩ := fail_inv h2
  exact ⟨by rw [a1]; exact R.lo, by rw [a1, b1]; exact R.pos, by rw [a2, b2]; exact R.deep, by rw [a3, b3]; exact R.flat, by rw [a4, b4, R.e]⟩
theorem must_inv {p q : PS} {s : Tx} (h : mustF T s p = some q) : ∃ b q', mayF T s p = some (b, q') ∧ (if b = true then q = q' else failF T 14 q' = some q) := by
  unfold mustF at h
  simp only [Option.bind_eq_some_iff, Prod.exists] at h
  obtain ⟨b, q', h1, h2⟩ := h
  refine ⟨b, q', h1, ?_⟩
  cases b with
  | true => simp only [if_true, Option.some.injEq] at h2 ⊢; exact h2.symm
  | false => simpa using h2
theorem must_st (hT : TOK T) {p q : PS} (hp : p.pos < T.length) {s : Tx} (h : mustF T s p = some q) : Step T p q ∧ Strict p q := by
  obtain ⟨q', h1, h2, h3⟩ := must_ok hT hp s
  rw [h1] at h; cases h; exact ⟨h2, h3⟩
theorem must_rel (H : TR ex d lo T1 T2) {p1 p2 q1 q2 : PS} (R : Rel d lo p1 p2) (hp : p1.pos < T1.length) {s : Tx} (h1 : mustF T1 s p1 = some q1) (h2 : mustF T2 s p2 = some q2) (o : Ok ex q1 q2) : Rel d lo q1 q2 := by
  obtain ⟨t1, g1, _⟩ := look_ok hp
  obtain ⟨b1, r1, m1, k1⟩ := must_inv h1
  obtain ⟨b2, r2, m2, k2⟩ := must_inv h2
  obtain ⟨u1, l1, e1, j1⟩ := may_inv m1
  obtain ⟨u2, l2, e2, j2⟩ := may_inv m2
  have hR := look_rel H R hp l1 l2
  rcases hR with hS | ⟨hx, hend, h0, hk, _, _⟩
  · have he : b1 = b2 := by rw [e1, e2]; exact hS.isT s
    subst he
    cases b1 with
    | true =>
      simp only [if_true] at k1 k2 j1 j2
      subst k1; subst k2
      exact take_rel R j1 j2 hS
    | false =>
      simp only [Bool.false_eq_true, if_false] at k1 k2 j1 j2
      subst j1; subst j2
      exact fail_rel R k1 k2
  · obtain ⟨s1, x1⟩ := must_st H.k1 hp h1
    exact absurd (o.f hx).1 (end_err s1 x1 hend h0)
theorem word_inv {p q : PS} {k : Int} {t : Tk} (h : wordF T k p = some (t, q)) : ∃ u p1, lookF T p = some u ∧ (if u.kind ≠ k then failF T 14 p = some p1 else p1 = p) ∧ takeF T p1 = some (t, q) := by
  unfold wordF at h
  simp only [Option.bind_eq_some_iff] at h
  obtain ⟨u, h1, p1, h2, h3⟩ := h
  refine ⟨u, p1, h1, ?_, h3⟩
  by_cases c : u.kind ≠ k
  · rw [if_pos c] at h2 ⊢; exact h2
  · rw [if_neg c] at h2 ⊢; exact (Option.some.inj h2).symm
theorem word_st (hT : TOK T) {p q : PS} (hp : p.pos < T.length) {k : Int} (hk : k ≠ 0) {t : Tk} (h : wordF T k p = some (t, q)) : Step T p q ∧ Strict p q := by
  obtain ⟨t', q', h1, h2, h3, _⟩ := word_ok hT hp hk
  rw [h1] at h; cases h; exact ⟨h2, h3⟩
theorem word_rel (H : TR ex d lo T1 T2) {p1 p2 q1 q2 : PS} (R : Rel d lo p1 p2) (hp : p1.pos < T1.length) {k : Int} (hk : k ≠ 0) {t1 t2 : Tk} (h1 : wordF T1 k p1 = some (t1, q1)) (h2 : wordF T2 k p2 = some (t2, q2)) (o : Ok ex q1 q2) : Rel d lo q1 q2 ∧ Sm t1 t2 := by
  obtain ⟨u1, a1, l1, c1, k1⟩ := word_inv h1
  obtain ⟨u2, a2, l2, c2, k2⟩ := word_inv h2
  rcases look_rel H R hp l1 l2 with hS | ⟨hx, hend, h0, _⟩
  · rw [← hS.1] at c2
    by_cases c : u1.kind ≠ k
    · rw [if_pos c] at c1 c2
      have R' := fail_rel R c1 c2
      have n1 := fail_ne c1 (by decide)
      have n2 := fail_ne c2 (by decide)
      have v1 := (take_inv k1).1
      have v2 := (take_inv k2).1
      unfold lookF at v1 v2
      rw [if_neg n1] at v1; rw [if_neg n2] at v2
      cases v1; cases v2
      exact ⟨take_rel R' k1 k2 ⟨rfl, rfl, rfl⟩, rfl, rfl, rfl⟩
    · rw [if_neg c] at c1 c2
      subst c1; subst c2
      have v1 := (take_inv k1).1
      have v2 := (take_inv k2).1
      rw [l1] at v1; rw [l2] at v2
      cases v1; cases v2
      exact ⟨take_rel R k1 k2 hS, hS⟩
  · obtain ⟨s1, x1⟩ := word_st H.k1 hp hk h1
    exact absurd (o.f hx).1 (end_err s1 x1 hend h0)
theorem most_st {p q : PS} (hp : p.pos < T.length) {n m : Int} (h : mostF T n m p = some q) : Step T p q := by
  unfold mostF at h
  split at h
  · exact fail_st hp h
  · cases h; exact .refl hp
theorem most_rel {p1 p2 q1 q2 : PS} (R : Rel d lo p1 p2) {n n' m : Int} (hn : n = n') (h1 : mostF T1 n m p1 = some q1) (h2 : mostF T2 n' m p2 = some q2) : Rel d lo q1 q2 := by
  subst hn
  unfold mostF at h1 h2
  split at h1
  · rename_i c; rw [if_pos c] at h2; exact fail_rel R h1 h2
  · rename_i c; rw [if_neg c] at h2; cases h1; cases h2; exact R
/-- Two readers that go alike. -/
def RelF (ex : Bool) (d lo : Nat) (T1 T2 : List Tk) (m k : Nat) (f1 f2 : PM Nd) : Prop := ∀ (p1 p2 : PS) (r1 : Nd) (q1 : PS) (r2 : Nd) (q2 : PS), Bd T1 m p1 → Bd T2 k p2 → f1 p1 = some (r1, q1) → f2 p2 = some (r2, q2) → Rel d lo p1 p2 → Ok ex q1 q2 → Rel d lo q1 q2 ∧ sameB r1 r2 = true
end Go.AL
set_option linter.unusedSimpArgs false
set_option linter.unusedVariables false
namespace Go.AL
variable {ex : Bool} {d lo : Nat} {T1 T2 T : List Tk} {m k : Nat}
/-- A reader that takes something does not begin where the one ends and the other goes on. -/
theorem start_sm (H : TR ex d lo T1 T2) {f : PM Nd} (ft : Tot T1 m f) {p1 p2 q1 q2 : PS} {r1 : Nd} (B1 : Bd T1 m p1) (h1 : f p1 = some (r1, q1)) (R : Rel d lo p1 p2) (o : Ok ex q1 q2) {t1 t2 : Tk} (l1 : lookF T1 p1 = some t1) (l2 : lookF T2 p2 = some t2) : Sm t1 t2 := by
  rcases look_rel H R B1.lt l1 l2 with h | ⟨hx, hend, h0, _⟩
  · exact h
  · obtain ⟨s1, x1⟩ := ft.st B1 h1
    exact absurd (o.f hx).1 (end_err s1 x1 hend h0)
theorem bd_in {p : PS} (B : Bd T m p) (h : ¬ 40 ≤ p.deep) : Bd T (m + 1) { p with deep := p.deep + 1 } := ⟨B.lt, by show m + 1 ≤ p.deep + 1; have := B.lo; omega, by show p.deep + 1 ≤ 40; omega⟩
theorem in_rel (H : TR ex d lo T1 T2) {e1 e2 : PM Nd} (he : RelF ex d lo T1 T2 (m + 1) (k + 1) e1 e2) : RelF ex d lo T1 T2 m k (inF T1 e1) (inF T2 e2) := by
  intro p1 p2 r1 q1 r2 q2 B1 B2 h1 h2 R o
  unfold inF at h1 h2
  have key : ∀ {T : List Tk} {e : PM Nd} {p q : PS} {r : Nd}, 40 ≤ p.deep → (if 40 ≤ p.deep then failF T 15 p else some p).bind (fun p1 => if p1.e ≠ 0 then some (nd0, p1) else (e { p1 with deep := p1.deep + 1 }).bind fun r => if r.2.deep = 0 ∨ 1000 < r.2.deep then none else some (r.1, { r.2 with deep := r.2.deep - 1 })) = some (r, q) →
      failF T 15 p = some q ∧ r = nd0 := by
    intro T e p q r hd h
    rw [if_pos hd] at h
    simp only [Option.bind_eq_some_iff] at h
    obtain ⟨p', h3, h4⟩ := h
    rw [if_pos (fail_ne h3 (by decide))] at h4
    cases h4
    exact ⟨h3, rfl⟩
  by_cases c1 : 40 ≤ p1.deep
  · obtain ⟨f1, rfl⟩ := key c1 h1
    cases hx : ex with
    | true =>
      have hd := H.dx hx
      have c2 : 40 ≤ p2.deep := by rw [R.deep]; omega
      obtain ⟨f2, rfl⟩ := key c2 h2
      exact ⟨fail_rel R f1 f2, rfl⟩
    | false => exact absurd (o.f hx).1 (fail_ne f1 (by decide))
  · by_cases c2 : 40 ≤ p2.deep
    · obtain ⟨f2, rfl⟩ := key c2 h2
      cases hx : ex with
      | true => have hd := H.dx hx; rw [R.deep] at c2; omega
      | false => exact absurd (o.f hx).2 (fail_ne f2 (by decide))
    · rw [if_neg c1] at h1; rw [if_neg c2] at h2
      simp only [Option.bind_some] at h1 h2
      by_cases c : p1.e ≠ 0
      · rw [if_pos c] at h1; rw [if_pos (by rw [R.e]; exact c)] at h2
        cases h1; cases h2
        exact ⟨R, rfl⟩
      · rw [if_neg c] at h1; rw [if_neg (by rw [R.e]; exact c)] at h2
        simp only [Option.bind_eq_some_iff, Prod.exists] at h1 h2
        obtain ⟨n1, s1, k1, k2⟩ := h1
        obtain ⟨n2, s2, j1, j2⟩ := h2
        split at k2
        · cases k2
        split at j2
        · cases j2
        cases k2; cases j2
        rename_i g1 g2
        have := he _ _ _ _ _ _ (bd_in B1 c1) (bd_in B2 c2) k1 j1 ⟨R.lo, R.pos, by show p2.deep + 1 = p1.deep + 1 + d; have := R.deep; omega, R.flat, R.e⟩ o
        exact ⟨⟨this.1.lo, this.1.pos, by show s2.deep - 1 = s1.deep - 1 + d; have := this.1.deep; omega, this.1.flat, this.1.e⟩, this.2⟩
theorem round_rel (H : TR ex d lo T1 T2) {e1 e2 : PM Nd} (A1 : Tot T1 (m + 1) e1) (A2 : Tot T2 (k + 1) e2) (he : RelF ex d lo T1 T2 (m + 1) (k + 1) e1 e2) : RelF ex d lo T1 T2 m k (roundF T1 e1) (roundF T2 e2) := by
  intro p1 p2 r1 q1 r2 q2 B1 B2 h1 h2 R o
  unfold roundF at h1 h2
  simp only [Option.bind_eq_some_iff, Option.map_eq_some_iff, Prod.exists, Prod.mk.injEq] at h1 h2
  obtain ⟨a1, k1, n1, c1, k2, d1, k3, rfl, rfl⟩ := h1
  obtain ⟨a2, j1, n2, c2, j2, d2, j3, rfl, rfl⟩ := h2
  have s1 := (must_st H.k1 B1.lt k1).1
  have t1 := (must_st H.k2 B2.lt j1).1
  have s2 := ((in_tot H.k1 A1).st (B1.next s1) k2).1
  have t2 := ((in_tot H.k2 A2).st (B2.next t1) j2).1
  have s3 := (must_st H.k1 s2.lt k3).1
  have t3 := (must_st H.k2 t2.lt j3).1
  have o2 := o.back s3 t3
  have R1 := must_rel H R B1.lt k1 j1 (o2.back s2 t2)
  have R2 := in_rel H he _ _ _ _ _ _ (B1.next s1) (B2.next t1) k2 j2 R1 o2
  exact ⟨must_rel H R2.1 s2.lt k3 j3 o, R2.2⟩
theorem leaf_rel (H : TR ex d lo T1 T2) {kinds : List (Int × Int)} (hk : ∀ q ∈ kinds, q.1 ≠ 0) : RelF ex d lo T1 T2 m k (leafF T1 kinds) (leafF T2 kinds) := by
  intro p1 p2 r1 q1 r2 q2 B1 B2 h1 h2 R o
  have h1' := h1
  unfold leafF at h1 h2
  simp only [Option.bind_eq_some_iff] at h1 h2
  obtain ⟨t1, k1, h1⟩ := h1
  obtain ⟨t2, j1, h2⟩ := h2
  have hS := start_sm H (leaf_tot H.k1 (m := m) hk) B1 h1' R o k1 j1
  rw [← hS.1, ← hS.2.1, ← hS.2.2] at h2
  by_cases c : ((kinds.find? fun q => q.1 == t1.kind).map (·.2)).getD 0 = 0
  · rw [if_pos c] at h1 h2
    simp only [Option.map_eq_some_iff, Prod.mk.injEq] at h1 h2
    obtain ⟨a1, k2, rfl, rfl⟩ := h1
    obtain ⟨a2, j2, rfl, rfl⟩ := h2
    exact ⟨fail_rel R k2 j2, rfl⟩
  · rw [if_neg c] at h1 h2
    simp only [Option.map_eq_some_iff, Prod.exists, Prod.mk.injEq] at h1 h2
    obtain ⟨u1, a1, k2, rfl, rfl⟩ := h1
    obtain ⟨u2, a2, j2, rfl, rfl⟩ := h2
    have v1 := (take_inv k2).1
    have v2 := (take_inv j2).1
    rw [k1] at v1; rw [j1] at v2
    cases v1; cases v2
    exact ⟨take_rel R k2 j2 hS, same_mk rfl rfl rfl rfl rfl⟩
theorem tyL_st (hT : TOK T) {e : PM Nd} (A : Tot T (m + 1) e) : ∀ (n : Nat) (nd : Nd) (p : PS) (r : Nd) (q : PS), Bd T m p → tyL T e n nd p = some (r, q) → Step T p q
  | 0, nd, p, r, q, B, h => by cases h
  | n + 1, nd, p, r, q, B, h => by
    unfold tyL at h
    simp only [Option.bind_eq_some_iff] at h
    obtain ⟨t, k1, h⟩ := h
    split at h
    · simp only [Option.bind_eq_some_iff, Prod.exists] at h
      obtain ⟨u, a, k2, h⟩ := h
      have s1 := (take_st hT B.lt k2).1
      exact s1.trans (tyL_st hT A n _ _ _ _ (B.next s1) h)
    · simp only [Option.bind_eq_some_iff] at h
      obtain ⟨b, k2, h⟩ := h
      split at h
      · simp only [Option.bind_eq_some_iff, Prod.exists] at h
        obtain ⟨u, a, k3, h⟩ := h
        have s1 := ((round_tot hT A).st B k3).1
        exact s1.trans (tyL_st hT A n _ _ _ _ (B.next s1) h)
      · cases h; exact .refl B.lt
theorem tyL_rel (H : TR ex d lo T1 T2) {e1 e2 : PM Nd} (A1 : Tot T1 (m + 1) e1) (A2 : Tot T2 (k + 1) e2) (he : RelF ex d lo T1 T2 (m + 1) (k + 1) e1 e2) : ∀ (n1 n2 : Nat) (a b : Nd) (p1 p2 : PS) (r1 : Nd) (q1 : PS) (r2 : Nd) (q2 : PS), Bd T1 m p1 → Bd T2 k p2 →
    tyL T1 e1 n1 a p1 = some (r1, q1) → tyL T2 e2 n2 b p2 = some (r2, q2) → Rel d lo p1 p2 → Ok ex q1 q2 → sameB a b = true → Rel d lo q1 q2 ∧ sameB r1 r2 = true
  | 0, n2, a, b, p1, p2, r1, q1, r2, q2, B1, B2, h1, h2, R, o, hs => by cases h1
  | n1 + 1, 0, a, b, p1, p2, r1, q1, r2, q2, B1, B2, h1, h2, R, o, hs => by cases h2
  | n1 + 1, n2 + 1, a, b, p1, p2, r1, q1, r2, q2, B1, B2, h1, h2, R, o, hs => by
    unfold tyL at h1 h2
    simp only [Option.bind_eq_some_iff] at h1 h2
    obtain ⟨t1, k1, h1⟩ := h1
    obtain ⟨t2, j1, h2⟩ := h2
    have hR := look_rel H R B1.lt k1 j1
    have hk := hR.kind (k := 3) (by decide) (by decide)
    by_cases c : t1.kind = 3
    · rw [if_pos c] at h1; rw [if_pos (hk ▸ c)] at h2
      have hS := hR.sm (by omega)
      simp only [Option.bind_eq_some_iff, Prod.exists] at h1 h2
      obtain ⟨u1, a1, k2, h1⟩ := h1
      obtain ⟨u2, a2, j2, h2⟩ := h2
      have v1 := (take_inv k2).1
      have v2 := (take_inv j2).1
      rw [k1] at v1; rw [j1] at v2
      cases v1; cases v2
      have s1 := (take_st H.k1 B1.lt k2).1
      have t1 := (take_st H.k2 B2.lt j2).1
      exact tyL_rel H A1 A2 he n1 n2 _ _ _ _ _ _ _ _ (B1.next s1) (B2.next t1) h1 h2 (take_rel R k2 j2 hS) o (by rw [← hS.2.1]; exact same_add hs (same_node rfl))
    · rw [if_neg c] at h1; rw [if_neg (hk ▸ c)] at h2
      simp only [Option.bind_eq_some_iff] at h1 h2
      obtain ⟨b1, k2, h1⟩ := h1
      obtain ⟨b2, j2, h2⟩ := h2
      have hb := is_rel H R B1.lt (by decide) k2 j2
      subst hb
      cases b1 with
      | true =>
        simp only [if_true, Option.bind_eq_some_iff, Prod.exists] at h1 h2
        obtain ⟨u1, a1, k3, h1⟩ := h1
        obtain ⟨u2, a2, j3, h2⟩ := h2
        have s1 := ((round_tot H.k1 A1).st B1 k3).1
        have t1 := ((round_tot H.k2 A2).st B2 j3).1
        have o1 := o.back (tyL_st H.k1 A1 _ _ _ _ _ (B1.next s1) h1) (tyL_st H.k2 A2 _ _ _ _ _ (B2.next t1) h2)
        have R1 := round_rel H A1 A2 he _ _ _ _ _ _ B1 B2 k3 j3 R o1
        exact tyL_rel H A1 A2 he n1 n2 _ _ _ _ _ _ _ _ (B1.next s1) (B2.next t1) h1 h2 R1.1 o (same_add hs R1.2)
      | false => cases h1; cases h2; exact ⟨R, hs⟩
theorem ty_rel (H : TR ex d lo T1 T2) {e1 e2 : PM Nd} (A1 : Tot T1 (m + 1) e1) (A2 : Tot T2 (k + 1) e2) (he : RelF ex d lo T1 T2 (m + 1) (k + 1) e1 e2) : RelF ex d lo T1 T2 m k (tyS T1 e1) (tyS T2 e2) := by
  intro p1 p2 r1 q1 r2 q2 B1 B2 h1 h2 R o
  unfold tyS at h1 h2
  simp only [Option.bind_eq_some_iff, Prod.exists] at h1 h2
  obtain ⟨t1, a1, k1, h1⟩ := h1
  obtain ⟨t2, a2, j1, h2⟩ := h2
  have s1 := (word_st H.k1 B1.lt (by decide) k1).1
  have u1 := (word_st H.k2 B2.lt (by decide) j1).1
  have o1 := o.back (tyL_st H.k1 A1 _ _ _ _ _ (B1.next s1) h1) (tyL_st H.k2 A2 _ _ _ _ _ (B2.next u1) h2)
  have R1 := word_rel H R B1.lt (by decide) k1 j1 o1
  exact tyL_rel H A1 A2 he _ _ _ _ _ _ _ _ _ _ (B1.next s1) (B2.next u1) h1 h2 R1.1 o (by rw [← R1.2.2.1]; exact same_node rfl)
theorem tyF_rel (H : TR ex d lo T1 T2) : ∀ (n1 n2 m k : Nat), 43 ≤ m + n1 → 43 ≤ k + n2 → RelF ex d lo T1 T2 m k (tyF T1 n1) (tyF T2 n2)
  | 0, n2, m, k, h, h' => fun p1 p2 r1 q1 r2 q2 B1 B2 h1 => by cases h1
  | n1 + 1, 0, m, k, h, h' => fun p1 p2 r1 q1 r2 q2 B1 B2 h1 h2 => by cases h2
  | n1 + 1, n2 + 1, m, k, h, h' => ty_rel H (tyF_tot H.k1 n1 (m + 1) (by omega)) (tyF_tot H.k2 n2 (k + 1) (by omega)) (tyF_rel H n1 n2 (m + 1) (k + 1) (by omega) (by omega))
/-! Declarations of types. -/
theorem conL_st (hT : TOK T) {e : PM Nd} (A : Tot T (m + 1) e) : ∀ (n : Nat) (more : Bool) (nd : Nd) (p : PS) (r : Nd) (q : PS), Bd T m p → conL T e n more nd p = some (r, q) → Step T p q
  | 0, more, nd, p, r, q, B, h => by cases h
  | n + 1, more, nd, p, r, q, B, h => by
    unfold conL at h
    split at h
    · simp only [Option.bind_eq_some_iff, Prod.exists] at h
      obtain ⟨a1, k1, n1, a2, k2, b, a3, k3, h⟩ := h
      have s1 := most_st B.lt k1
      have s2 := ((in_tot hT A).st (B.next s1) k2).1
      have s3 := may_st hT s2.lt k3
      exact (s1.trans (s2.trans s3)).trans (conL_st hT A n _ _ _ _ _ (((B.next s1).next s2).next s3) h)
    · cases h; exact .refl B.lt
theorem conL_rel (H : TR ex d lo T1 T2) {e1 e2 : PM Nd} (A1 : Tot T1 (m + 1) e1) (A2 : Tot T2 (k + 1) e2) (he : RelF ex d lo T1 T2 (m + 1) (k + 1) e1 e2) : ∀ (n1 n2 : Nat) (mo : Bool) (a b : Nd) (p1 p2 : PS) (r1 : Nd) (q1 : PS) (r2 : Nd) (q2 : PS), Bd T1 m p1 → Bd T2 k p2 →
    conL T1 e1 n1 mo a p1 = some (r1, q1) → conL T2 e2 n2 mo b p2 = some (r2, q2) → Rel d lo p1 p2 → Ok ex q1 q2 → sameB a b = true → Rel d lo q1 q2 ∧ sameB r1 r2 = true
  | 0, n2, mo, a, b, p1, p2, r1, q1, r2, q2, B1, B2, h1, h2, R, o, hs => by cases h1
  | n1 + 1, 0, mo, a, b, p1, p2, r1, q1, r2, q2, B1, B2, h1, h2, R, o, hs => by cases h2
  | n1 + 1, n2 + 1, mo, a, b, p1, p2, r1, q1, r2, q2, B1, B2, h1, h2, R, o, hs => by
    unfold conL at h1 h2
    rw [R.e] at h2
    by_cases c : mo = true ∧ p1.e = 0
    · rw [if_pos c] at h1 h2
      simp only [Option.bind_eq_some_iff, Prod.exists] at h1 h2
      obtain ⟨a1, k1, c1, a2, k2, b1, a3, k3, h1⟩ := h1
      obtain ⟨x1, j1, d1, x2, j2, b2, x3, j3, h2⟩ := h2
      have s1 := most_st B1.lt k1
      have s2 := ((in_tot H.k1 A1).st (B1.next s1) k2).1
      have s3 := may_st H.k1 s2.lt k3
      have t1 := most_st B2.lt j1
      have t2 := ((in_tot H.k2 A2).st (B2.next t1) j2).1
      have t3 := may_st H.k2 t2.lt j3
      have o3 := o.back (conL_st H.k1 A1 _ _ _ _ _ _ (((B1.next s1).next s2).next s3) h1) (conL_st H.k2 A2 _ _ _ _ _ _ (((B2.next t1).next t2).next t3) h2)
      have R1 := most_rel R (by rw [sameBs_len (same_parts hs).2.2.2.2]) k1 j1
      have R2 := in_rel H he _ _ _ _ _ _ (B1.next s1) (B2.next t1) k2 j2 R1 (o3.back s3 t3)
      have R3 := may_rel H R2.1 s2.lt (by decide) k3 j3
      obtain ⟨rfl, R3⟩ := R3
      exact conL_rel H A1 A2 he n1 n2 _ _ _ _ _ _ _ _ _ (((B1.next s1).next s2).next s3) (((B2.next t1).next t2).next t3) h1 h2 R3 o (same_add hs R2.2)
    · rw [if_neg c] at h1 h2; cases h1; cases h2; exact ⟨R, hs⟩
theorem con_rel (H : TR ex d lo T1 T2) {e1 e2 : PM Nd} (A1 : Tot T1 (m + 1) e1) (A2 : Tot T2 (k + 1) e2) (he : RelF ex d lo T1 T2 (m + 1) (k + 1) e1 e2) : RelF ex d lo T1 T2 m k (conF T1 e1) (conF T2 e2) := by
  intro p1 p2 r1 q1 r2 q2 B1 B2 h1 h2 R o
  unfold conF at h1 h2
  simp only [Option.bind_eq_some_iff, Prod.exists] at h1 h2
  obtain ⟨t1, a1, k1, b1, a2, k2, h1⟩ := h1
  obtain ⟨t2, x1, j1, b2, x2, j2, h2⟩ := h2
  have s1 := (word_st H.k1 B1.lt (by decide) k1).1
  have u1 := (word_st H.k2 B2.lt (by decide) j1).1
  have s2 := may_st H.k1 s1.lt k2
  have u2 := may_st H.k2 u1.lt j2
  have C1 := (B1.next s1).next s2
  have C2 := (B2.next u1).next u2
  have fin : Ok ex a2 x2 → Rel d lo a1 x1 ∧ Sm t1 t2 ∧ b1 = b2 ∧ Rel d lo a2 x2 := fun o2 => by
    have R1 := word_rel H R B1.lt (by decide) k1 j1 (o2.back s2 u2)
    have R2 := may_rel H R1.1 s1.lt (by decide) k2 j2
    exact ⟨R1.1, R1.2, R2.1, R2.2⟩
  have st1 : Step T1 a2 q1 := by
    cases b1 with
    | true => exact conL_st H.k1 A1 _ _ _ _ _ _ C1 (by simpa using h1)
    | false => simp at h1; rw [← h1.2]; exact .refl s2.lt
  have st2 : Step T2 x2 q2 := by
    cases b2 with
    | true => exact conL_st H.k2 A2 _ _ _ _ _ _ C2 (by simpa using h2)
    | false => simp at h2; rw [← h2.2]; exact .refl u2.lt
  obtain ⟨R1, hS, rfl, R2⟩ := fin (o.back st1 st2)
  rw [← hS.2.1] at h2
  cases b1 with
  | true => exact conL_rel H A1 A2 he _ _ _ _ _ _ _ _ _ _ _ C1 C2 (by simpa using h1) (by simpa using h2) R2 o (same_node rfl)
  | false =>
    simp only [Bool.false_eq_true, if_false, Option.some.injEq, Prod.mk.injEq] at h1 h2
    obtain ⟨rfl, rfl⟩ := h1
    obtain ⟨rfl, rfl⟩ := h2
    exact ⟨R2, same_node rfl⟩
theorem namesL_st (hT : TOK T) : ∀ (n : Nat) (nd : Nd) (p : PS) (r : Nd) (q : PS), Bd T m p → namesL T n nd p = some (r, q) → Step T p q
  | 0, nd, p, r, q, B, h => by cases h
  | n + 1, nd, p, r, q, B, h => by
    unfold namesL at h
    simp only [Option.bind_eq_some_iff] at h
    obtain ⟨t, k1, h⟩ := h
    split at h
    · simp only [Option.bind_eq_some_iff, Prod.exists] at h
      obtain ⟨a1, k2, u, a2, k3, h⟩ := h
      have s1 := most_st B.lt k2
      have s2 := (take_st hT s1.lt k3).1
      exact (s1.trans s2).trans (namesL_st hT n _ _ _ _ ((B.next s1).next s2) h)
    · cases h; exact .refl B.lt
theorem namesL_rel (H : TR ex d lo T1 T2) : ∀ (n1 n2 : Nat) (a b : Nd) (p1 p2 : PS) (r1 : Nd) (q1 : PS) (r2 : Nd) (q2 : PS), Bd T1 m p1 → Bd T2 k p2 →
    namesL T1 n1 a p1 = some (r1, q1) → namesL T2 n2 b p2 = some (r2, q2) → Rel d lo p1 p2 → Ok ex q1 q2 → sameB a b = true → Rel d lo q1 q2 ∧ sameB r1 r2 = true
  | 0, n2, a, b, p1, p2, r1, q1, r2, q2, B1, B2, h1, h2, R, o, hs => by cases h1
  | n1 + 1, 0, a, b, p1, p2, r1, q1, r2, q2, B1, B2, h1, h2, R, o, hs => by cases h2
  | n1 + 1, n2 + 1, a, b, p1, p2, r1, q1, r2, q2, B1, B2, h1, h2, R, o, hs => by
    unfold namesL at h1 h2
    simp only [Option.bind_eq_some_iff] at h1 h2
    obtain ⟨t1, k1, h1⟩ := h1
    obtain ⟨t2, j1, h2⟩ := h2
    have hR := look_rel H R B1.lt k1 j1
    have hk := hR.kind (k := 3) (by decide) (by decide)
    by_cases c : t1.kind = 3
    · rw [if_pos c] at h1; rw [if_pos (hk ▸ c)] at h2
      simp only [Option.bind_eq_some_iff, Prod.exists] at h1 h2
      obtain ⟨a1, k2, u1, a2, k3, h1⟩ := h1
      obtain ⟨x1, j2, u2, x2, j3, h2⟩ := h2
      have s1 := most_st B1.lt k2
      have s2 := (take_st H.k1 s1.lt k3).1
      have v1 := most_st B2.lt j2
      have v2 := (take_st H.k2 v1.lt j3).1
      have o2 := o.back (namesL_st H.k1 _ _ _ _ _ ((B1.next s1).next s2) h1) (namesL_st H.k2 _ _ _ _ _ ((B2.next v1).next v2) h2)
      have R1 := most_rel R (by rw [(same_parts hs).2.2.2.1]) k2 j2
      have hS2 : Sm u1 u2 := by
        have w1 := (take_inv k3).1
        have w2 := (take_inv j3).1
        rcases look_rel H R1 s1.lt w1 w2 with h | ⟨hx, hend, h0, _⟩
        · exact h
        · have hpos : a1.pos = p1.pos := by
            unfold mostF at k2
            split at k2
            · exact (fail_inv k2).1
            · cases k2; rfl
          have := H.k1.last p1.pos t1 (by
            unfold lookF at k1
            rw [if_pos (s1.e0 h0)] at k1; exact k1) (by omega)
          omega
      exact namesL_rel H n1 n2 _ _ _ _ _ _ _ _ ((B1.next s1).next s2) ((B2.next v1).next v2) h1 h2 (take_rel R1 k3 j3 hS2) o (same_name hs hS2.2.1)
    · rw [if_neg c] at h1; rw [if_neg (hk ▸ c)] at h2
      cases h1; cases h2; exact ⟨R, hs⟩
theorem consL_st (hT : TOK T) {e : PM Nd} (A : Tot T (m + 1) e) : ∀ (n : Nat) (more : Bool) (nd : Nd) (p : PS) (r : Nd) (q : PS), Bd T m p → consL T e n more nd p = some (r, q) → Step T p q
  | 0, more, nd, p, r, q, B, h => by cases h
  | n + 1, more, nd, p, r, q, B, h => by
    unfold consL at h
    split at h
    · simp only [Option.bind_eq_some_iff, Prod.exists] at h
      obtain ⟨a1, k1, n1, a2, k2, b, a3, k3, h⟩ := h
      have s1 := most_st B.lt k1
      have s2 := ((con_tot hT A).st (B.next s1) k2).1
      have s3 := may_st hT s2.lt k3
      exact (s1.trans (s2.trans s3)).trans (consL_st hT A n _ _ _ _ _ (((B.next s1).next s2).next s3) h)
    · cases h; exact .refl B.lt
theorem consL_rel (H : TR ex d lo T1 T2) {e1 e2 : PM Nd} (A1 : Tot T1 (m + 1) e1) (A2 : Tot T2 (k + 1) e2) (he : RelF ex d lo T1 T2 (m + 1) (k + 1) e1 e2) : ∀ (n1 n2 : Nat) (mo : Bool) (a b : Nd) (p1 p2 : PS) (r1 : Nd) (q1 : PS) (r2 : Nd) (q2 : PS), Bd T1 m p1 → Bd T2 k p2 →
    consL T1 e1 n1 mo a p1 = some (r1, q1) → consL T2 e2 n2 mo b p2 = some (r2, q2) → Rel d lo p1 p2 → Ok ex q1 q2 → sameB a b = true → Rel d lo q1 q2 ∧ sameB r1 r2 = true
  | 0, n2, mo, a, b, p1, p2, r1, q1, r2, q2, B1, B2, h1, h2, R, o, hs => by cases h1
  | n1 + 1, 0, mo, a, b, p1, p2, r1, q1, r2, q2, B1, B2, h1, h2, R, o, hs => by cases h2
  | n1 + 1, n2 + 1, mo, a, b, p1, p2, r1, q1, r2, q2, B1, B2, h1, h2, R, o, hs => by
    unfold consL at h1 h2
    rw [R.e] at h2
    by_cases c : mo = true ∧ p1.e = 0
    · rw [if_pos c] at h1 h2
      simp only [Option.bind_eq_some_iff, Prod.exists] at h1 h2
      obtain ⟨a1, k1, c1, a2, k2, b1, a3, k3, h1⟩ := h1
      obtain ⟨x1, j1, d1, x2, j2, b2, x3, j3, h2⟩ := h2
      have s1 := most_st B1.lt k1
      have s2 := ((con_tot H.k1 A1).st (B1.next s1) k2).1
      have s3 := may_st H.k1 s2.lt k3
      have t1 := most_st B2.lt j1
      have t2 := ((con_tot H.k2 A2).st (B2.next t1) j2).1
      have t3 := may_st H.k2 t2.lt j3
      have o3 := o.back (consL_st H.k1 A1 _ _ _ _ _ _ (((B1.next s1).next s2).next s3) h1) (consL_st H.k2 A2 _ _ _ _ _ _ (((B2.next t1).next t2).next t3) h2)
      have R1 := most_rel R (by rw [sameBs_len (same_parts hs).2.2.2.2]) k1 j1
      have R2 := con_rel H A1 A2 he _ _ _ _ _ _ (B1.next s1) (B2.next t1) k2 j2 R1 (o3.back s3 t3)
      obtain ⟨rfl, R3⟩ := may_rel H R2.1 s2.lt (by decide) k3 j3
      exact consL_rel H A1 A2 he n1 n2 _ _ _ _ _ _ _ _ _ (((B1.next s1).next s2).next s3) (((B2.next t1).next t2).next t3) h1 h2 R3 o (same_add hs R2.2)
    · rw [if_neg c] at h1 h2; cases h1; cases h2; exact ⟨R, hs⟩
theorem decltype_rel (H : TR ex d lo T1 T2) {e1 e2 : PM Nd} (A1 : Tot T1 (m + 1) e1) (A2 : Tot T2 (k + 1) e2) (he : RelF ex d lo T1 T2 (m + 1) (k + 1) e1 e2) : RelF ex d lo T1 T2 m k (decltypeF T1 e1) (decltypeF T2 e2) := by
  intro p1 p2 r1 q1 r2 q2 B1 B2 h1 h2 R o
  have h1' := h1
  unfold decltypeF at h1 h2
  simp only [Option.bind_eq_some_iff, Prod.exists] at h1 h2
  obtain ⟨t1, a1, k1, w1, a2, k2, n1, a3, k3, a4, k4, h1⟩ := h1
  obtain ⟨t2, x1, j1, w2, x2, j2, n2, x3, j3, x4, j4, h2⟩ := h2
  have hS := start_sm H (decltype_ok H.k1 A1) B1 h1' R o (take_inv k1).1 (take_inv j1).1
  have s1 := (take_st H.k1 B1.lt k1).1
  have s2 := (word_st H.k1 s1.lt (by decide) k2).1
  have C1 := (B1.next s1).next s2
  have s3 := namesL_st H.k1 _ _ _ _ _ C1 k3
  have s4 := (must_st H.k1 s3.lt k4).1
  have D1 := (C1.next s3).next s4
  have s5 := consL_st H.k1 A1 _ _ _ _ _ _ D1 h1
  have u1 := (take_st H.k2 B2.lt j1).1
  have u2 := (word_st H.k2 u1.lt (by decide) j2).1
  have C2 := (B2.next u1).next u2
  have u3 := namesL_st H.k2 _ _ _ _ _ C2 j3
  have u4 := (must_st H.k2 u3.lt j4).1
  have D2 := (C2.next u3).next u4
  have u5 := consL_st H.k2 A2 _ _ _ _ _ _ D2 h2
  have o4 := o.back s5 u5
  have o3 := o4.back s4 u4
  have R1 := take_rel R k1 j1 hS
  have R2 := word_rel H R1 s1.lt (by decide) k2 j2 (o3.back s3 u3)
  rw [← R2.2.2.1] at j3
  have R3 := namesL_rel H _ _ _ _ _ _ _ _ _ _ C1 C2 k3 j3 R2.1 o3 (same_node rfl)
  have R4 := must_rel H R3.1 s3.lt k4 j4 o4
  exact consL_rel H A1 A2 he _ _ _ _ _ _ _ _ _ _ _ D1 D2 h1 h2 R4 o R3.2
end Go.AL
set_option linter.unusedSimpArgs false
set_option linter.unusedVariables false
namespace Go.AL
variable {ex : Bool} {d lo : Nat} {T1 T2 T : List Tk} {m k : Nat}
theorem patom_rel (H : TR ex d lo T1 T2) {e1 e2 : PM Nd} (A1 : Tot T1 (m + 1) e1) (A2 : Tot T2 (k + 1) e2) (he : RelF ex d lo T1 T2 (m + 1) (k + 1) e1 e2) : RelF ex d lo T1 T2 m k (patomF T1 e1) (patomF T2 e2) := by
  intro p1 p2 r1 q1 r2 q2 B1 B2 h1 h2 R o
  have h1' := h1
  unfold patomF at h1 h2
  simp only [Option.bind_eq_some_iff, Prod.exists] at h1 h2
  obtain ⟨t1, k1, b1, a1, k2, h1⟩ := h1
  obtain ⟨t2, j1, b2, x1, j2, h2⟩ := h2
  obtain ⟨rfl, R1⟩ := may_rel H R B1.lt (by decide) k2 j2
  cases b1 with
  | true =>
    simp only [if_true, Option.some.injEq, Prod.mk.injEq] at h1 h2
    obtain ⟨rfl, rfl⟩ := h1
    obtain ⟨rfl, rfl⟩ := h2
    exact ⟨R1, same_node rfl⟩
  | false =>
    simp only [Bool.false_eq_true, if_false, Option.bind_eq_some_iff] at h1 h2
    have C1 := B1.next (may_st H.k1 B1.lt k2)
    have C2 := B2.next (may_st H.k2 B2.lt j2)
    obtain ⟨b1, k3, h1⟩ := h1
    obtain ⟨b2, j3, h2⟩ := h2
    have hb := is_rel H R1 C1.lt (by decide) k3 j3
    subst hb
    cases b1 with
    | true => exact round_rel H A1 A2 he _ _ _ _ _ _ C1 C2 (by simpa using h1) (by simpa using h2) R1 o
    | false => exact leaf_rel H (m := m) (kinds := [(1, 1), (3, 4), (4, 5)]) (by decide) _ _ _ _ _ _ C1 C2 (by simpa using h1) (by simpa using h2) R1 o
theorem patMore_rel (H : TR ex d lo T1 T2) {p1 p2 : PS} (R : Rel d lo p1 p2) (hp : p1.pos < T1.length) {b1 b2 : Bool} (h1 : patMore T1 p1 = some b1) (h2 : patMore T2 p2 = some b2) : b1 = b2 := by
  unfold patMore at h1 h2
  simp only [Option.map_eq_some_iff] at h1 h2
  obtain ⟨t1, k1, rfl⟩ := h1
  obtain ⟨t2, j1, rfl⟩ := h2
  have hR := look_rel H R hp k1 j1
  rcases hR with hS | ⟨_, _, _, a, b, c⟩
  · rw [hS.isT, hS.isT, hS.1]
  · unfold isT; rw [a, b, c]; generalize t1.text = x; cases (x == [95]) <;> cases (x == [40]) <;> decide
theorem patL_st (hT : TOK T) {e : PM Nd} (A : Tot T (m + 1) e) : ∀ (n : Nat) (c : Bool) (nd : Nd) (p : PS) (r : Nd) (q : PS), Bd T m p → patL T e n c nd p = some (r, q) → Step T p q
  | 0, c, nd, p, r, q, B, h => by cases h
  | n + 1, c, nd, p, r, q, B, h => by
    unfold patL at h
    split at h
    · simp only [Option.bind_eq_some_iff] at h
      obtain ⟨b, k0, h⟩ := h
      split at h
      · simp only [Option.bind_eq_some_iff, Prod.exists] at h
        obtain ⟨a1, k1, n1, a2, k2, h⟩ := h
        have s1 := most_st B.lt k1
        have s2 := ((patom_tot hT A).st (B.next s1) k2).1
        exact (s1.trans s2).trans (patL_st hT A n _ _ _ _ _ ((B.next s1).next s2) h)
      · cases h; exact .refl B.lt
    · cases h; exact .refl B.lt
theorem patL_rel (H : TR ex d lo T1 T2) {e1 e2 : PM Nd} (A1 : Tot T1 (m + 1) e1) (A2 : Tot T2 (k + 1) e2) (he : RelF ex d lo T1 T2 (m + 1) (k + 1) e1 e2) : ∀ (n1 n2 : Nat) (mo : Bool) (a b : Nd) (p1 p2 : PS) (r1 : Nd) (q1 : PS) (r2 : Nd) (q2 : PS), Bd T1 m p1 → Bd T2 k p2 →
    patL T1 e1 n1 mo a p1 = some (r1, q1) → patL T2 e2 n2 mo b p2 = some (r2, q2) → Rel d lo p1 p2 → Ok ex q1 q2 → sameB a b = true → Rel d lo q1 q2 ∧ sameB r1 r2 = true
  | 0, n2, mo, a, b, p1, p2, r1, q1, r2, q2, B1, B2, h1, h2, R, o, hs => by cases h1
  | n1 + 1, 0, mo, a, b, p1, p2, r1, q1, r2, q2, B1, B2, h1, h2, R, o, hs => by cases h2
  | n1 + 1, n2 + 1, mo, a, b, p1, p2, r1, q1, r2, q2, B1, B2, h1, h2, R, o, hs => by
    unfold patL at h1 h2
    cases mo with
    | false =>
      simp only [Bool.false_eq_true, if_false, Option.some.injEq, Prod.mk.injEq] at h1 h2
      obtain ⟨rfl, rfl⟩ := h1
      obtain ⟨rfl, rfl⟩ := h2
      exact ⟨R, hs⟩
    | true =>
      simp only [if_true, Option.bind_eq_some_iff] at h1 h2
      obtain ⟨b1, k0, h1⟩ := h1
      obtain ⟨b2, j0, h2⟩ := h2
      have hb := patMore_rel H R B1.lt k0 j0
      subst hb
      cases b1 with
      | false =>
        simp only [Bool.false_eq_true, if_false, Option.some.injEq, Prod.mk.injEq] at h1 h2
        obtain ⟨rfl, rfl⟩ := h1
        obtain ⟨rfl, rfl⟩ := h2
        exact ⟨R, hs⟩
      | true =>
        simp only [if_true, Option.bind_eq_some_iff, Prod.exists] at h1 h2
        obtain ⟨a1, k1, c1, a2, k2, h1⟩ := h1
        obtain ⟨x1, j1, d1, x2, j2, h2⟩ := h2
        have s1 := most_st B1.lt k1
        have s2 := ((patom_tot H.k1 A1).st (B1.next s1) k2).1
        have t1 := most_st B2.lt j1
        have t2 := ((patom_tot H.k2 A2).st (B2.next t1) j2).1
        have o2 := o.back (patL_st H.k1 A1 _ _ _ _ _ _ ((B1.next s1).next s2) h1) (patL_st H.k2 A2 _ _ _ _ _ _ ((B2.next t1).next t2) h2)
        have R1 := most_rel R (by rw [sameBs_len (same_parts hs).2.2.2.2]) k1 j1
        have R2 := patom_rel H A1 A2 he _ _ _ _ _ _ (B1.next s1) (B2.next t1) k2 j2 R1 o2
        exact patL_rel H A1 A2 he n1 n2 _ _ _ _ _ _ _ _ _ ((B1.next s1).next s2) ((B2.next t1).next t2) h1 h2 R2.1 o (same_add hs R2.2)
theorem pat_rel (H : TR ex d lo T1 T2) {e1 e2 : PM Nd} (A1 : Tot T1 (m + 1) e1) (A2 : Tot T2 (k + 1) e2) (he : RelF ex d lo T1 T2 (m + 1) (k + 1) e1 e2) : RelF ex d lo T1 T2 m k (patS T1 e1) (patS T2 e2) := by
  intro p1 p2 r1 q1 r2 q2 B1 B2 h1 h2 R o
  have h1' := h1
  unfold patS at h1 h2
  simp only [Option.bind_eq_some_iff, Prod.exists] at h1 h2
  obtain ⟨t1, k1, c1, a1, k2, h1⟩ := h1
  obtain ⟨t2, j1, c2, x1, j2, h2⟩ := h2
  have hS := start_sm H (pat_tot H.k1 A1) B1 h1' R o k1 j1
  rw [← hS.1] at h2
  have s1 := ((patom_tot H.k1 A1).st B1 k2).1
  have u1 := ((patom_tot H.k2 A2).st B2 j2).1
  have o1 := o.back (patL_st H.k1 A1 _ _ _ _ _ _ (B1.next s1) h1) (patL_st H.k2 A2 _ _ _ _ _ _ (B2.next u1) h2)
  have R1 := patom_rel H A1 A2 he _ _ _ _ _ _ B1 B2 k2 j2 R o1
  exact patL_rel H A1 A2 he _ _ _ _ _ _ _ _ _ _ _ (B1.next s1) (B2.next u1) h1 h2 R1.1 o R1.2
theorem patF_rel (H : TR ex d lo T1 T2) : ∀ (n1 n2 m k : Nat), 43 ≤ m + n1 → 43 ≤ k + n2 → RelF ex d lo T1 T2 m k (patF T1 n1) (patF T2 n2)
  | 0, n2, m, k, h, h' => fun p1 p2 r1 q1 r2 q2 B1 B2 h1 => by cases h1
  | n1 + 1, 0, m, k, h, h' => fun p1 p2 r1 q1 r2 q2 B1 B2 h1 h2 => by cases h2
  | n1 + 1, n2 + 1, m, k, h, h' => pat_rel H (patF_tot H.k1 n1 (m + 1) (by omega)) (patF_tot H.k2 n2 (k + 1) (by omega)) (patF_rel H n1 n2 (m + 1) (k + 1) (by omega) (by omega))
/-! Exps. -/
theorem bd_flat {p : PS} (B : Bd T m p) (f : Bool) : Bd T m { p with flat := f } := ⟨B.lt, B.lo, B.hi⟩
theorem whole_rel (H : TR ex d lo T1 T2) {e1 e2 : PM Nd} (he : RelF ex d lo T1 T2 (m + 1) (k + 1) e1 e2) : RelF ex d lo T1 T2 m k (wholeF T1 e1) (wholeF T2 e2) := by
  intro p1 p2 r1 q1 r2 q2 B1 B2 h1 h2 R o
  unfold wholeF at h1 h2
  simp only [Option.map_eq_some_iff, Prod.exists, Prod.mk.injEq] at h1 h2
  obtain ⟨c1, a1, k1, rfl, rfl⟩ := h1
  obtain ⟨c2, x1, j1, rfl, rfl⟩ := h2
  have := in_rel H he _ _ _ _ _ _ (bd_flat B1 false) (bd_flat B2 false) k1 j1 ⟨R.lo, R.pos, R.deep, rfl, R.e⟩ o
  exact ⟨⟨this.1.lo, this.1.pos, this.1.deep, R.flat, this.1.e⟩, this.2⟩
/-- One row of a match. -/
structure Row (T : List Tk) (e pt : PM Nd) (nd : Nd) (p : PS) (c w : Nd) (q : PS) : Prop where
  h : ∃ p1 p2 p3 p4, mostF T (Int.tdiv nd.kids.length 2) 20 p = some p1 ∧ mustF T [124] p1 = some p2 ∧ inF T pt p2 = some (c, p3) ∧ mustF T [45, 62] p3 = some p4 ∧ wholeF T e p4 = some (w, q)
theorem row_st (hT : TOK T) {e pt : PM Nd} (A : Tot T (m + 1) e) (P : Tot T (m + 1) pt) {nd c w : Nd} {p q : PS} (B : Bd T m p) (h : Row T e pt nd p c w q) : Step T p q := by
  obtain ⟨p1, p2, p3, p4, k1, k2, k3, k4, k5⟩ := h.h
  have s1 := most_st B.lt k1
  have s2 := (must_st hT s1.lt k2).1
  have s3 := ((in_tot hT P).st ((B.next s1).next s2) k3).1
  have s4 := (must_st hT s3.lt k4).1
  have s5 := ((whole_tot hT A).st ((((B.next s1).next s2).next s3).next s4) k5).1
  exact s1.trans (s2.trans (s3.trans (s4.trans s5)))
theorem row_rel (H : TR ex d lo T1 T2) {e1 e2 pt1 pt2 : PM Nd} (A1 : Tot T1 (m + 1) e1) (A2 : Tot T2 (k + 1) e2) (he : RelF ex d lo T1 T2 (m + 1) (k + 1) e1 e2) (P1 : Tot T1 (m + 1) pt1) (P2 : Tot T2 (k + 1) pt2) (hp : RelF ex d lo T1 T2 (m + 1) (k + 1) pt1 pt2)
    {a b c1 w1 c2 w2 : Nd} {p1 p2 q1 q2 : PS} (B1 : Bd T1 m p1) (B2 : Bd T2 k p2) (h1 : Row T1 e1 pt1 a p1 c1 w1 q1) (h2 : Row T2 e2 pt2 b p2 c2 w2 q2) (R : Rel d lo p1 p2) (o : Ok ex q1 q2) (hs : sameB a b = true) : Rel d lo q1 q2 ∧ sameB (a.addKids [c1, w1]) (b.addKids [c2, w2]) = true := by
  obtain ⟨a1, a2, a3, a4, k1, k2, k3, k4, k5⟩ := h1.h
  obtain ⟨x1, x2, x3, x4, j1, j2, j3, j4, j5⟩ := h2.h
  have s1 := most_st B1.lt k1
  have s2 := (must_st H.k1 s1.lt k2).1
  have C1 := (B1.next s1).next s2
  have s3 := ((in_tot H.k1 P1).st C1 k3).1
  have s4 := (must_st H.k1 s3.lt k4).1
  have D1 := (C1.next s3).next s4
  have s5 := ((whole_tot H.k1 A1).st D1 k5).1
  have u1 := most_st B2.lt j1
  have u2 := (must_st H.k2 u1.lt j2).1
  have C2 := (B2.next u1).next u2
  have u3 := ((in_tot H.k2 P2).st C2 j3).1
  have u4 := (must_st H.k2 u3.lt j4).1
  have D2 := (C2.next u3).next u4
  have u5 := ((whole_tot H.k2 A2).st D2 j5).1
  have o4 := o.back s5 u5
  have o3 := o4.back s4 u4
  have o2 := o3.back s3 u3
  have R1 := most_rel R (by rw [sameBs_len (same_parts hs).2.2.2.2]) k1 j1
  have R2 := must_rel H R1 s1.lt k2 j2 o2
  have R3 := in_rel H hp _ _ _ _ _ _ C1 C2 k3 j3 R2 o3
  have R4 := must_rel H R3.1 s3.lt k4 j4 o4
  have R5 := whole_rel H he _ _ _ _ _ _ D1 D2 k5 j5 R4 o
  exact ⟨R5.1, same_adds hs (sameBs2 R3.2 R5.2)⟩
theorem matchL_inv {e pt : PM Nd} {n : Nat} {nd : Nd} {p q : PS} {r : Nd} {f : Bool} (h : matchL T e pt (n + 1) f nd p = some (r, q)) : ∃ b, (if f = true then some true else isF T [124] p) = some b ∧ ((b = false ∧ r = nd ∧ q = p) ∨ (b = true ∧ ∃ c w p5, Row T e pt nd p c w p5 ∧ matchL T e pt n false (nd.addKids [c, w]) p5 = some (r, q))) := by
  unfold matchL at h
  simp only [Option.bind_eq_some_iff] at h
  obtain ⟨b, k0, h⟩ := h
  refine ⟨b, k0, ?_⟩
  cases b with
  | false => simp only [Bool.false_eq_true, if_false, Option.some.injEq, Prod.mk.injEq] at h; exact .inl ⟨rfl, h.1.symm, h.2.symm⟩
  | true =>
    simp only [if_true, Option.bind_eq_some_iff, Prod.exists] at h
    obtain ⟨p1, k1, p2, k2, c, p3, k3, p4, k4, w, p5, k5, h⟩ := h
    exact .inr ⟨rfl, c, w, p5, ⟨p1, p2, p3, p4, k1, k2, k3, k4, k5⟩, h⟩
theorem matchL_st (hT : TOK T) {e pt : PM Nd} (A : Tot T (m + 1) e) (P : Tot T (m + 1) pt) : ∀ (n : Nat) (f : Bool) (nd : Nd) (p : PS) (r : Nd) (q : PS), Bd T m p → matchL T e pt n f nd p = some (r, q) → Step T p q
  | 0, f, nd, p, r, q, B, h => by cases h
  | n + 1, f, nd, p, r, q, B, h => by
    obtain ⟨b, _, h⟩ := matchL_inv h
    rcases h with ⟨_, _, rfl⟩ | ⟨_, c, w, p5, hr, h⟩
    · exact .refl B.lt
    · have s := row_st hT A P B hr
      exact s.trans (matchL_st hT A P n _ _ _ _ _ (B.next s) h)
theorem matchL_rel (H : TR ex d lo T1 T2) {e1 e2 pt1 pt2 : PM Nd} (A1 : Tot T1 (m + 1) e1) (A2 : Tot T2 (k + 1) e2) (he : RelF ex d lo T1 T2 (m + 1) (k + 1) e1 e2) (P1 : Tot T1 (m + 1) pt1) (P2 : Tot T2 (k + 1) pt2) (hp : RelF ex d lo T1 T2 (m + 1) (k + 1) pt1 pt2) :
    ∀ (n1 n2 : Nat) (f : Bool) (a b : Nd) (p1 p2 : PS) (r1 : Nd) (q1 : PS) (r2 : Nd) (q2 : PS), Bd T1 m p1 → Bd T2 k p2 → matchL T1 e1 pt1 n1 f a p1 = some (r1, q1) → matchL T2 e2 pt2 n2 f b p2 = some (r2, q2) → Rel d lo p1 p2 → Ok ex q1 q2 → sameB a b = true → Rel d lo q1 q2 ∧ sameB r1 r2 = true
  | 0, n2, f, a, b, p1, p2, r1, q1, r2, q2, B1, B2, h1, h2, R, o, hs => by cases h1
  | n1 + 1, 0, f, a, b, p1, p2, r1, q1, r2, q2, B1, B2, h1, h2, R, o, hs => by cases h2
  | n1 + 1, n2 + 1, f, a, b, p1, p2, r1, q1, r2, q2, B1, B2, h1, h2, R, o, hs => by
    obtain ⟨b1, k0, h1⟩ := matchL_inv h1
    obtain ⟨b2, j0, h2⟩ := matchL_inv h2
    have hb : b1 = b2 := by
      cases f with
      | true => simp only [if_true, Option.some.injEq] at k0 j0; rw [← k0, ← j0]
      | false => exact is_rel H R B1.lt (s := [124]) (by decide) (by simpa using k0) (by simpa using j0)
    subst hb
    rcases h1 with ⟨c, rfl, rfl⟩ | ⟨c, c1, w1, y1, hr1, h1⟩
    · rcases h2 with ⟨_, rfl, rfl⟩ | ⟨c', _⟩
      · exact ⟨R, hs⟩
      · rw [c] at c'; cases c'
    · rcases h2 with ⟨c', _⟩ | ⟨_, c2, w2, y2, hr2, h2⟩
      · rw [c] at c'; cases c'
      · have s := row_st H.k1 A1 P1 B1 hr1
        have u := row_st H.k2 A2 P2 B2 hr2
        have o1 := o.back (matchL_st H.k1 A1 P1 _ _ _ _ _ _ (B1.next s) h1) (matchL_st H.k2 A2 P2 _ _ _ _ _ _ (B2.next u) h2)
        have R1 := row_rel H A1 A2 he P1 P2 hp B1 B2 hr1 hr2 R o1 hs
        exact matchL_rel H A1 A2 he P1 P2 hp n1 n2 _ _ _ _ _ _ _ _ _ (B1.next s) (B2.next u) h1 h2 R1.1 o R1.2
theorem match_rel (H : TR ex d lo T1 T2) {e1 e2 pt1 pt2 : PM Nd} (A1 : Tot T1 (m + 1) e1) (A2 : Tot T2 (k + 1) e2) (he : RelF ex d lo T1 T2 (m + 1) (k + 1) e1 e2) (P1 : Tot T1 (m + 1) pt1) (P2 : Tot T2 (k + 1) pt2) (hp : RelF ex d lo T1 T2 (m + 1) (k + 1) pt1 pt2) : RelF ex d lo T1 T2 m k (matchF T1 e1 pt1) (matchF T2 e2 pt2) := by
  intro p1 p2 r1 q1 r2 q2 B1 B2 h1 h2 R o
  have h1' := h1
  unfold matchF at h1 h2
  simp only [Option.bind_eq_some_iff, Option.map_eq_some_iff, Prod.exists, Prod.mk.injEq] at h1 h2
  obtain ⟨t1, a1, k1, w1, a2, k2, a3, k3, n1, a4, k4, a5, k5, rfl, rfl⟩ := h1
  obtain ⟨t2, x1, j1, w2, x2, j2, x3, j3, n2, x4, j4, x5, j5, rfl, rfl⟩ := h2
  have hS := start_sm H (match_tot H.k1 A1 P1) B1 h1' R o (take_inv k1).1 (take_inv j1).1
  have s1 := (take_st H.k1 B1.lt k1).1
  have s2 := ((whole_tot H.k1 A1).st (B1.next s1) k2).1
  have s3 := (must_st H.k1 s2.lt k3).1
  have C1 := ((B1.next s1).next s2).next s3
  have s4 := matchL_st H.k1 A1 P1 _ _ _ _ _ _ C1 k4
  have s5 := (must_st H.k1 s4.lt k5).1
  have u1 := (take_st H.k2 B2.lt j1).1
  have u2 := ((whole_tot H.k2 A2).st (B2.next u1) j2).1
  have u3 := (must_st H.k2 u2.lt j3).1
  have C2 := ((B2.next u1).next u2).next u3
  have u4 := matchL_st H.k2 A2 P2 _ _ _ _ _ _ C2 j4
  have u5 := (must_st H.k2 u4.lt j5).1
  have o4 := o.back s5 u5
  have o3 := o4.back s4 u4
  have o2 := o3.back s3 u3
  have R1 := take_rel R k1 j1 hS
  have R2 := whole_rel H he _ _ _ _ _ _ (B1.next s1) (B2.next u1) k2 j2 R1 o2
  have R3 := must_rel H R2.1 s2.lt k3 j3 o3
  have R4 := matchL_rel H A1 A2 he P1 P2 hp _ _ _ _ _ _ _ _ _ _ _ C1 C2 k4 j4 R3 o4 (same_node (sameBs1 R2.2))
  exact ⟨must_rel H R4.1 s4.lt k5 j5 o, R4.2⟩
theorem try_rel (H : TR ex d lo T1 T2) {e1 e2 : PM Nd} (A1 : Tot T1 (m + 1) e1) (A2 : Tot T2 (k + 1) e2) (he : RelF ex d lo T1 T2 (m + 1) (k + 1) e1 e2) : RelF ex d lo T1 T2 m k (tryF T1 e1) (tryF T2 e2) := by
  intro p1 p2 r1 q1 r2 q2 B1 B2 h1 h2 R o
  have h1' := h1
  unfold tryF at h1 h2
  simp only [Option.bind_eq_some_iff, Option.map_eq_some_iff, Prod.exists, Prod.mk.injEq] at h1 h2
  obtain ⟨t1, a1, k1, w1, a2, k2, a3, k3, v1, a4, k4, a5, k5, z1, a6, k6, a7, k7, rfl, rfl⟩ := h1
  obtain ⟨t2, x1, j1, w2, x2, j2, x3, j3, v2, x4, j4, x5, j5, z2, x6, j6, x7, j7, rfl, rfl⟩ := h2
  have hS := start_sm H (try_tot H.k1 A1) B1 h1' R o (take_inv k1).1 (take_inv j1).1
  have s1 := (take_st H.k1 B1.lt k1).1
  have s2 := ((whole_tot H.k1 A1).st (B1.next s1) k2).1
  have s3 := (must_st H.k1 s2.lt k3).1
  have s4 := (word_st H.k1 s3.lt (by decide) k4).1
  have s5 := (must_st H.k1 s4.lt k5).1
  have C1 := ((((B1.next s1).next s2).next s3).next s4).next s5
  have s6 := ((whole_tot H.k1 A1).st C1 k6).1
  have s7 := (must_st H.k1 s6.lt k7).1
  have u1 := (take_st H.k2 B2.lt j1).1
  have u2 := ((whole_tot H.k2 A2).st (B2.next u1) j2).1
  have u3 := (must_st H.k2 u2.lt j3).1
  have u4 := (word_st H.k2 u3.lt (by decide) j4).1
  have u5 := (must_st H.k2 u4.lt j5).1
  have C2 := ((((B2.next u1).next u2).next u3).next u4).next u5
  have u6 := ((whole_tot H.k2 A2).st C2 j6).1
  have u7 := (must_st H.k2 u6.lt j7).1
  have o6 := o.back s7 u7
  have o5 := o6.back s6 u6
  have o4 := o5.back s5 u5
  have o3 := o4.back s4 u4
  have o2 := o3.back s3 u3
  have R1 := take_rel R k1 j1 hS
  have R2 := whole_rel H he _ _ _ _ _ _ (B1.next s1) (B2.next u1) k2 j2 R1 o2
  have R3 := must_rel H R2.1 s2.lt k3 j3 o3
  have R4 := word_rel H R3 s3.lt (by decide) k4 j4 o4
  have R5 := must_rel H R4.1 s4.lt k5 j5 o5
  have R6 := whole_rel H he _ _ _ _ _ _ C1 C2 k6 j6 R5 o6
  have R7 := must_rel H R6.1 s6.lt k7 j7 o
  rw [R4.2.2.1]
  exact ⟨R7, same_node (sameBs2 R2.2 R6.2)⟩
theorem isT_ne {t : Tk} {s : Tx} (h : isT t s = true) : t.kind ≠ 0 ∧ t.text = s := by
  unfold isT at h
  simp only [Bool.and_eq_true, Bool.or_eq_true, beq_iff_eq] at h
  exact ⟨by omega, h.2⟩
theorem atom_rel (H : TR ex d lo T1 T2) {e1 e2 pt1 pt2 : PM Nd} (A1 : Tot T1 (m + 1) e1) (A2 : Tot T2 (k + 1) e2) (he : RelF ex d lo T1 T2 (m + 1) (k + 1) e1 e2) (P1 : Tot T1 (m + 1) pt1) (P2 : Tot T2 (k + 1) pt2) (hp : RelF ex d lo T1 T2 (m + 1) (k + 1) pt1 pt2) : RelF ex d lo T1 T2 m k (atomF T1 e1 pt1) (atomF T2 e2 pt2) := by
  intro p1 p2 r1 q1 r2 q2 B1 B2 h1 h2 R o
  have h1' := h1
  unfold atomF at h1 h2
  simp only [Option.bind_eq_some_iff] at h1 h2
  obtain ⟨t1, k1, h1⟩ := h1
  obtain ⟨t2, j1, h2⟩ := h2
  have hS := start_sm H (atom_tot H.k1 A1 P1) B1 h1' R o k1 j1
  rw [← hS.isT, ← hS.isT, ← hS.isT, ← hS.isT] at h2
  split at h1
  · rename_i c; rw [if_pos c] at h2
    exact match_rel H A1 A2 he P1 P2 hp _ _ _ _ _ _ B1 B2 h1 h2 R o
  rename_i c; rw [if_neg c] at h2
  split at h1
  · rename_i c; rw [if_pos c] at h2
    exact try_rel H A1 A2 he _ _ _ _ _ _ B1 B2 h1 h2 R o
  rename_i c; rw [if_neg c] at h2
  split at h1
  · rename_i c; rw [if_pos c] at h2
    simp only [Option.map_eq_some_iff, Prod.exists, Prod.mk.injEq] at h1 h2
    obtain ⟨v1, a1, k2, rfl, rfl⟩ := h1
    obtain ⟨v2, x1, j2, rfl, rfl⟩ := h2
    have y1 := (take_inv k2).1
    have y2 := (take_inv j2).1
    rw [k1] at y1; rw [j1] at y2
    cases y1; cases y2
    exact ⟨take_rel R k2 j2 hS, same_node rfl⟩
  rename_i c; rw [if_neg c] at h2
  split at h1
  · rename_i c; rw [if_pos c] at h2
    simp only [Option.bind_eq_some_iff, Prod.exists] at h1 h2
    obtain ⟨v1, a1, k2, b1, a2, k3, h1⟩ := h1
    obtain ⟨v2, x1, j2, b2, x2, j3, h2⟩ := h2
    have y1 := (take_inv k2).1
    have y2 := (take_inv j2).1
    rw [k1] at y1; rw [j1] at y2
    cases y1; cases y2
    have R1 := take_rel R k2 j2 hS
    have s1 := (take_st H.k1 B1.lt k2).1
    have u1 := (take_st H.k2 B2.lt j2).1
    have s2 := may_st H.k1 s1.lt k3
    have u2 := may_st H.k2 u1.lt j3
    obtain ⟨w1, g1, f1, i1⟩ := may_inv k3
    obtain ⟨w2, g2, f2, i2⟩ := may_inv j3
    rcases look_rel H R1 s1.lt g1 g2 with hS2 | ⟨hx, hend, h0, hk, hk2, ht2⟩
    · have hb : b1 = b2 := by rw [f1, f2]; exact hS2.isT _
      subst hb
      cases b1 with
      | true =>
        simp only [if_true, Option.some.injEq, Prod.mk.injEq] at h1 h2 i1 i2
        obtain ⟨rfl, rfl⟩ := h1
        obtain ⟨rfl, rfl⟩ := h2
        exact ⟨take_rel R1 i1 i2 hS2, same_node rfl⟩
      | false =>
        simp only [Bool.false_eq_true, if_false] at i1 i2
        subst i1; subst i2
        simp only [Bool.false_eq_true, if_false, Option.bind_eq_some_iff, Option.map_eq_some_iff, Prod.exists, Prod.mk.injEq] at h1 h2
        obtain ⟨n1, a3, k4, a4, k5, rfl, rfl⟩ := h1
        obtain ⟨n2, x3, j4, x4, j5, rfl, rfl⟩ := h2
        have C1 := B1.next s1
        have C2 := B2.next u1
        have s3 := ((whole_tot H.k1 A1).st C1 k4).1
        have u3 := ((whole_tot H.k2 A2).st C2 j4).1
        have s4 := (must_st H.k1 s3.lt k5).1
        have u4 := (must_st H.k2 u3.lt j5).1
        have R2 := whole_rel H he _ _ _ _ _ _ C1 C2 k4 j4 R1 (o.back s4 u4)
        exact ⟨must_rel H R2.1 s3.lt k5 j5 o, R2.2⟩
    · exfalso
      have hb : b1 = false := by
        rw [f1]
        unfold isT; rw [hk]; simp
      subst hb
      simp only [Bool.false_eq_true, if_false] at i1
      subst i1
      simp only [Bool.false_eq_true, if_false, Option.bind_eq_some_iff, Option.map_eq_some_iff, Prod.exists, Prod.mk.injEq] at h1
      obtain ⟨n1, a3, k4, a4, k5, _, rfl⟩ := h1
      obtain ⟨s3, x3⟩ := (whole_tot H.k1 A1).st (B1.next s1) k4
      have s4 := (must_st H.k1 s3.lt k5).1
      exact end_err s3 x3 hend h0 (s4.e0 (o.f hx).1)
  · rename_i c; rw [if_neg c] at h2
    exact leaf_rel H (m := m) (by decide) _ _ _ _ _ _ B1 B2 h1 h2 R o
end Go.AL
set_option linter.unusedSimpArgs false
set_option linter.unusedVariables false
namespace Go.AL
variable {ex : Bool} {d lo : Nat} {T1 T2 T : List Tk} {m k : Nat}
theorem atomsL_st (hT : TOK T) {e pt : PM Nd} (A : Tot T (m + 1) e) (P : Tot T (m + 1) pt) : ∀ (n : Nat) (nd : Nd) (p : PS) (r : Nd) (q : PS), Bd T m p → atomsL T e pt n nd p = some (r, q) → Step T p q
  | 0, nd, p, r, q, B, h => by cases h; exact .refl B.lt
  | n + 1, nd, p, r, q, B, h => by
    unfold atomsL at h
    simp only [Option.bind_eq_some_iff, Prod.exists] at h
    obtain ⟨c, a, k, h⟩ := h
    have s := ((atom_tot hT A P).st B k).1
    exact s.trans (atomsL_st hT A P n _ _ _ _ (B.next s) h)
theorem atomsL_rel (H : TR ex d lo T1 T2) {e1 e2 pt1 pt2 : PM Nd} (A1 : Tot T1 (m + 1) e1) (A2 : Tot T2 (k + 1) e2) (he : RelF ex d lo T1 T2 (m + 1) (k + 1) e1 e2) (P1 : Tot T1 (m + 1) pt1) (P2 : Tot T2 (k + 1) pt2) (hp : RelF ex d lo T1 T2 (m + 1) (k + 1) pt1 pt2) :
    ∀ (n : Nat) (a b : Nd) (p1 p2 : PS) (r1 : Nd) (q1 : PS) (r2 : Nd) (q2 : PS), Bd T1 m p1 → Bd T2 k p2 → atomsL T1 e1 pt1 n a p1 = some (r1, q1) → atomsL T2 e2 pt2 n b p2 = some (r2, q2) → Rel d lo p1 p2 → Ok ex q1 q2 → sameB a b = true → Rel d lo q1 q2 ∧ sameB r1 r2 = true
  | 0, a, b, p1, p2, r1, q1, r2, q2, B1, B2, h1, h2, R, o, hs => by cases h1; cases h2; exact ⟨R, hs⟩
  | n + 1, a, b, p1, p2, r1, q1, r2, q2, B1, B2, h1, h2, R, o, hs => by
    unfold atomsL at h1 h2
    simp only [Option.bind_eq_some_iff, Prod.exists] at h1 h2
    obtain ⟨c1, a1, k1, h1⟩ := h1
    obtain ⟨c2, x1, j1, h2⟩ := h2
    have s := ((atom_tot H.k1 A1 P1).st B1 k1).1
    have u := ((atom_tot H.k2 A2 P2).st B2 j1).1
    have o1 := o.back (atomsL_st H.k1 A1 P1 _ _ _ _ _ (B1.next s) h1) (atomsL_st H.k2 A2 P2 _ _ _ _ _ (B2.next u) h2)
    have R1 := atom_rel H A1 A2 he P1 P2 hp _ _ _ _ _ _ B1 B2 k1 j1 R o1
    exact atomsL_rel H A1 A2 he P1 P2 hp n _ _ _ _ _ _ _ _ (B1.next s) (B2.next u) h1 h2 R1.1 o (same_add hs R1.2)
theorem begins_rel {p1 : PS} {t1 t2 : Tk} (h : TkR ex T1 p1 t1 t2) : beginsT t1 = beginsT t2 := by
  rcases h with hS | ⟨_, _, _, a, b, c⟩
  · unfold beginsT; rw [hS.isT, hS.isT, hS.isT, hS.isT, hS.1]
  · have h1 : beginsT t1 = false := by
      cases hb : beginsT t1 with
      | false => rfl
      | true => exact absurd a (begins_kind hb)
    have h2 : beginsT t2 = false := by unfold beginsT isT; rw [b, c]; decide
    rw [h1, h2]
theorem appL_st (hT : TOK T) {e pt : PM Nd} (A : Tot T (m + 1) e) (P : Tot T (m + 1) pt) : ∀ (n : Nat) (bare : Bool) (nd : Nd) (p : PS) (r : Nd) (q : PS), Bd T m p → appL T e pt n bare nd p = some (r, q) → Step T p q
  | 0, bare, nd, p, r, q, B, h => by cases h
  | n + 1, bare, nd, p, r, q, B, h => by
    unfold appL at h
    simp only [Option.bind_eq_some_iff] at h
    obtain ⟨t, k0, h⟩ := h
    split at h
    · cases bare with
      | true =>
        simp only [if_true, Option.bind_eq_some_iff, Prod.exists] at h
        obtain ⟨a1, k1, c, a2, k2, h⟩ := h
        have s1 := most_st B.lt k1
        have s2 := ((atom_tot hT A P).st (B.next s1) k2).1
        exact (s1.trans s2).trans (appL_st hT A P n _ _ _ _ _ ((B.next s1).next s2) h)
      | false =>
        simp only [Bool.false_eq_true, if_false, Option.bind_eq_some_iff, Prod.exists] at h
        obtain ⟨c, a2, k2, h⟩ := h
        have s2 := ((atom_tot hT A P).st B k2).1
        exact s2.trans (appL_st hT A P n _ _ _ _ _ (B.next s2) h)
    · cases h; exact .refl B.lt
theorem appL_rel (H : TR ex d lo T1 T2) {e1 e2 pt1 pt2 : PM Nd} (A1 : Tot T1 (m + 1) e1) (A2 : Tot T2 (k + 1) e2) (he : RelF ex d lo T1 T2 (m + 1) (k + 1) e1 e2) (P1 : Tot T1 (m + 1) pt1) (P2 : Tot T2 (k + 1) pt2) (hp : RelF ex d lo T1 T2 (m + 1) (k + 1) pt1 pt2) :
    ∀ (n1 n2 : Nat) (bare : Bool) (a b : Nd) (p1 p2 : PS) (r1 : Nd) (q1 : PS) (r2 : Nd) (q2 : PS), Bd T1 m p1 → Bd T2 k p2 → appL T1 e1 pt1 n1 bare a p1 = some (r1, q1) → appL T2 e2 pt2 n2 bare b p2 = some (r2, q2) → Rel d lo p1 p2 → Ok ex q1 q2 → sameB a b = true → Rel d lo q1 q2 ∧ sameB r1 r2 = true
  | 0, n2, bare, a, b, p1, p2, r1, q1, r2, q2, B1, B2, h1, h2, R, o, hs => by cases h1
  | n1 + 1, 0, bare, a, b, p1, p2, r1, q1, r2, q2, B1, B2, h1, h2, R, o, hs => by cases h2
  | n1 + 1, n2 + 1, bare, a, b, p1, p2, r1, q1, r2, q2, B1, B2, h1, h2, R, o, hs => by
    unfold appL at h1 h2
    simp only [Option.bind_eq_some_iff] at h1 h2
    obtain ⟨t1, k0, h1⟩ := h1
    obtain ⟨t2, j0, h2⟩ := h2
    rw [← begins_rel (look_rel H R B1.lt k0 j0)] at h2
    split at h1
    · rename_i c; rw [if_pos c] at h2
      cases bare with
      | true =>
        simp only [if_true, Option.bind_eq_some_iff, Prod.exists] at h1 h2
        obtain ⟨a1, k1, c1, a2, k2, h1⟩ := h1
        obtain ⟨x1, j1, c2, x2, j2, h2⟩ := h2
        have s1 := most_st B1.lt k1
        have s2 := ((atom_tot H.k1 A1 P1).st (B1.next s1) k2).1
        have u1 := most_st B2.lt j1
        have u2 := ((atom_tot H.k2 A2 P2).st (B2.next u1) j2).1
        have o2 := o.back (appL_st H.k1 A1 P1 _ _ _ _ _ _ ((B1.next s1).next s2) h1) (appL_st H.k2 A2 P2 _ _ _ _ _ _ ((B2.next u1).next u2) h2)
        have R1 := most_rel R (by rw [sameBs_len (same_parts hs).2.2.2.2]) k1 j1
        have R2 := atom_rel H A1 A2 he P1 P2 hp _ _ _ _ _ _ (B1.next s1) (B2.next u1) k2 j2 R1 o2
        exact appL_rel H A1 A2 he P1 P2 hp n1 n2 _ _ _ _ _ _ _ _ _ ((B1.next s1).next s2) ((B2.next u1).next u2) h1 h2 R2.1 o (same_add hs R2.2)
      | false =>
        simp only [Bool.false_eq_true, if_false, Option.bind_eq_some_iff, Prod.exists] at h1 h2
        obtain ⟨c1, a2, k2, h1⟩ := h1
        obtain ⟨c2, x2, j2, h2⟩ := h2
        have s2 := ((atom_tot H.k1 A1 P1).st B1 k2).1
        have u2 := ((atom_tot H.k2 A2 P2).st B2 j2).1
        have o2 := o.back (appL_st H.k1 A1 P1 _ _ _ _ _ _ (B1.next s2) h1) (appL_st H.k2 A2 P2 _ _ _ _ _ _ (B2.next u2) h2)
        have R2 := atom_rel H A1 A2 he P1 P2 hp _ _ _ _ _ _ B1 B2 k2 j2 R o2
        exact appL_rel H A1 A2 he P1 P2 hp n1 n2 _ _ _ _ _ _ _ _ _ (B1.next s2) (B2.next u2) h1 h2 R2.1 o (same_node (sameBs2 hs R2.2))
    · rename_i c; rw [if_neg c] at h2
      cases h1; cases h2; exact ⟨R, hs⟩
theorem app_rel (H : TR ex d lo T1 T2) {e1 e2 pt1 pt2 : PM Nd} (A1 : Tot T1 (m + 1) e1) (A2 : Tot T2 (k + 1) e2) (he : RelF ex d lo T1 T2 (m + 1) (k + 1) e1 e2) (P1 : Tot T1 (m + 1) pt1) (P2 : Tot T2 (k + 1) pt2) (hp : RelF ex d lo T1 T2 (m + 1) (k + 1) pt1 pt2) : RelF ex d lo T1 T2 m k (appF T1 e1 pt1) (appF T2 e2 pt2) := by
  intro p1 p2 r1 q1 r2 q2 B1 B2 h1 h2 R o
  have h1' := h1
  unfold appF at h1 h2
  simp only [Option.bind_eq_some_iff] at h1 h2
  obtain ⟨t1, k0, h1⟩ := h1
  obtain ⟨t2, j0, h2⟩ := h2
  have hS := start_sm H (app_tot H.k1 A1 P1) B1 h1' R o k0 j0
  rw [← hS.1, ← hS.2.1] at h2
  split at h1
  · rename_i c; rw [if_pos c] at h2
    simp only [Option.bind_eq_some_iff, Prod.exists] at h1 h2
    obtain ⟨v1, a1, k1, h1⟩ := h1
    obtain ⟨v2, x1, j1, h2⟩ := h2
    have y1 := (take_inv k1).1
    have y2 := (take_inv j1).1
    rw [k0] at y1; rw [j0] at y2
    cases y1; cases y2
    have s1 := (take_st H.k1 B1.lt k1).1
    have u1 := (take_st H.k2 B2.lt j1).1
    exact atomsL_rel H A1 A2 he P1 P2 hp _ _ _ _ _ _ _ _ _ (B1.next s1) (B2.next u1) h1 h2 (take_rel R k1 j1 hS) o (same_node rfl)
  · rename_i c; rw [if_neg c] at h2
    simp only [Option.bind_eq_some_iff, Prod.exists] at h1 h2
    obtain ⟨c1, a1, k1, h1⟩ := h1
    obtain ⟨c2, x1, j1, h2⟩ := h2
    have s1 := ((atom_tot H.k1 A1 P1).st B1 k1).1
    have u1 := ((atom_tot H.k2 A2 P2).st B2 j1).1
    have o1 := o.back (appL_st H.k1 A1 P1 _ _ _ _ _ _ (B1.next s1) h1) (appL_st H.k2 A2 P2 _ _ _ _ _ _ (B2.next u1) h2)
    have R1 := atom_rel H A1 A2 he P1 P2 hp _ _ _ _ _ _ B1 B2 k1 j1 R o1
    exact appL_rel H A1 A2 he P1 P2 hp _ _ _ _ _ _ _ _ _ _ _ (B1.next s1) (B2.next u1) h1 h2 R1.1 o R1.2
theorem sumsL_st (hT : TOK T) {part : PM Nd} {signs : List Tx} (A : Tot T m part) : ∀ (n : Nat) (t : Tk) (nd : Nd) (p : PS) (r : Nd) (q : PS), Bd T m p → sumsL T part signs n t nd p = some (r, q) → Step T p q
  | 0, t, nd, p, r, q, B, h => by cases h
  | n + 1, t, nd, p, r, q, B, h => by
    unfold sumsL at h
    split at h
    · simp only [Option.bind_eq_some_iff, Prod.exists] at h
      obtain ⟨u, a1, k1, c, a2, k2, t', k3, h⟩ := h
      have s1 := (take_st hT B.lt k1).1
      have s2 := (A.st (B.next s1) k2).1
      exact (s1.trans s2).trans (sumsL_st hT A n _ _ _ _ _ ((B.next s1).next s2) h)
    · cases h; exact .refl B.lt
theorem sumsL_rel (H : TR ex d lo T1 T2) {f1 f2 : PM Nd} {signs : List Tx} (h41 : ([41] : Tx) ∉ signs) (A1 : Tot T1 m f1) (A2 : Tot T2 k f2) (he : RelF ex d lo T1 T2 m k f1 f2) :
    ∀ (n1 n2 : Nat) (t1 t2 : Tk) (a b : Nd) (p1 p2 : PS) (r1 : Nd) (q1 : PS) (r2 : Nd) (q2 : PS), lookF T1 p1 = some t1 → lookF T2 p2 = some t2 → Bd T1 m p1 → Bd T2 k p2 → sumsL T1 f1 signs n1 t1 a p1 = some (r1, q1) → sumsL T2 f2 signs n2 t2 b p2 = some (r2, q2) → Rel d lo p1 p2 → Ok ex q1 q2 → sameB a b = true → Rel d lo q1 q2 ∧ sameB r1 r2 = true
  | 0, n2, t1, t2, a, b, p1, p2, r1, q1, r2, q2, l1, l2, B1, B2, h1, h2, R, o, hs => by cases h1
  | n1 + 1, 0, t1, t2, a, b, p1, p2, r1, q1, r2, q2, l1, l2, B1, B2, h1, h2, R, o, hs => by cases h2
  | n1 + 1, n2 + 1, t1, t2, a, b, p1, p2, r1, q1, r2, q2, l1, l2, B1, B2, h1, h2, R, o, hs => by
    unfold sumsL at h1 h2
    have hR := look_rel H R B1.lt l1 l2
    split at h1
    · rename_i c
      have hS := hR.sm (by omega)
      rw [if_pos (by rw [← hS.1, ← hS.2.1]; exact c)] at h2
      simp only [Option.bind_eq_some_iff, Prod.exists] at h1 h2
      obtain ⟨v1, a1, k1, c1, a2, k2, g1, k3, h1⟩ := h1
      obtain ⟨v2, x1, j1, c2, x2, j2, g2, j3, h2⟩ := h2
      have y1 := (take_inv k1).1
      have y2 := (take_inv j1).1
      rw [l1] at y1; rw [l2] at y2
      cases y1; cases y2
      have s1 := (take_st H.k1 B1.lt k1).1
      have u1 := (take_st H.k2 B2.lt j1).1
      have s2 := (A1.st (B1.next s1) k2).1
      have u2 := (A2.st (B2.next u1) j2).1
      have o2 := o.back (sumsL_st H.k1 A1 _ _ _ _ _ _ ((B1.next s1).next s2) h1) (sumsL_st H.k2 A2 _ _ _ _ _ _ ((B2.next u1).next u2) h2)
      have R2 := he _ _ _ _ _ _ (B1.next s1) (B2.next u1) k2 j2 (take_rel R k1 j1 hS) o2
      exact sumsL_rel H h41 A1 A2 he n1 n2 _ _ _ _ _ _ _ _ _ _ k3 j3 ((B1.next s1).next s2) ((B2.next u1).next u2) h1 h2 R2.1 o (by rw [← hS.2.1]; exact same_node (sameBs2 hs R2.2))
    · rename_i c
      have c2 : ¬ (t2.kind = 5 ∧ t2.text ∈ signs) := by
        rcases hR with hS | ⟨_, _, _, x, y, z⟩
        · rw [← hS.1, ← hS.2.1]; exact c
        · rw [z]; exact fun h => h41 h.2
      rw [if_neg c2] at h2
      cases h1; cases h2; exact ⟨R, hs⟩
theorem sums_rel (H : TR ex d lo T1 T2) {f1 f2 : PM Nd} {signs : List Tx} (h41 : ([41] : Tx) ∉ signs) (A1 : Tot T1 m f1) (A2 : Tot T2 k f2) (he : RelF ex d lo T1 T2 m k f1 f2) : RelF ex d lo T1 T2 m k (sumsF T1 f1 signs) (sumsF T2 f2 signs) := by
  intro p1 p2 r1 q1 r2 q2 B1 B2 h1 h2 R o
  unfold sumsF at h1 h2
  simp only [Option.bind_eq_some_iff, Prod.exists] at h1 h2
  obtain ⟨c1, a1, k1, t1, k2, h1⟩ := h1
  obtain ⟨c2, x1, j1, t2, j2, h2⟩ := h2
  have s1 := (A1.st B1 k1).1
  have u1 := (A2.st B2 j1).1
  have o1 := o.back (sumsL_st H.k1 A1 _ _ _ _ _ _ (B1.next s1) h1) (sumsL_st H.k2 A2 _ _ _ _ _ _ (B2.next u1) h2)
  have R1 := he _ _ _ _ _ _ B1 B2 k1 j1 R o1
  exact sumsL_rel H h41 A1 A2 he _ _ _ _ _ _ _ _ _ _ _ _ k2 j2 (B1.next s1) (B2.next u1) h1 h2 R1.1 o R1.2
theorem sum_rel (H : TR ex d lo T1 T2) {e1 e2 pt1 pt2 : PM Nd} (A1 : Tot T1 (m + 1) e1) (A2 : Tot T2 (k + 1) e2) (he : RelF ex d lo T1 T2 (m + 1) (k + 1) e1 e2) (P1 : Tot T1 (m + 1) pt1) (P2 : Tot T2 (k + 1) pt2) (hp : RelF ex d lo T1 T2 (m + 1) (k + 1) pt1 pt2) : RelF ex d lo T1 T2 m k (sumF T1 e1 pt1) (sumF T2 e2 pt2) :=
  sums_rel H (by decide) (sums_tot H.k1 (app_tot H.k1 A1 P1)) (sums_tot H.k2 (app_tot H.k2 A2 P2)) (sums_rel H (by decide) (app_tot H.k1 A1 P1) (app_tot H.k2 A2 P2) (app_rel H A1 A2 he P1 P2 hp))
theorem cmp_rel (H : TR ex d lo T1 T2) {e1 e2 pt1 pt2 : PM Nd} (A1 : Tot T1 (m + 1) e1) (A2 : Tot T2 (k + 1) e2) (he : RelF ex d lo T1 T2 (m + 1) (k + 1) e1 e2) (P1 : Tot T1 (m + 1) pt1) (P2 : Tot T2 (k + 1) pt2) (hp : RelF ex d lo T1 T2 (m + 1) (k + 1) pt1 pt2) : RelF ex d lo T1 T2 m k (cmpF T1 e1 pt1) (cmpF T2 e2 pt2) := by
  intro p1 p2 r1 q1 r2 q2 B1 B2 h1 h2 R o
  unfold cmpF at h1 h2
  simp only [Option.bind_eq_some_iff, Prod.exists] at h1 h2
  obtain ⟨c1, a1, k1, t1, k2, h1⟩ := h1
  obtain ⟨c2, x1, j1, t2, j2, h2⟩ := h2
  have s1 := ((sum_tot H.k1 A1 P1).st B1 k1).1
  have u1 := ((sum_tot H.k2 A2 P2).st B2 j1).1
  have C1 := B1.next s1
  have C2 := B2.next u1
  have stp : ∀ {T : List Tk} {e pt : PM Nd} {m : Nat} (hT : TOK T) (A : Tot T (m + 1) e) (P : Tot T (m + 1) pt) {c r : Nd} {p q : PS} {t : Tk}, Bd T m p → (if isT t [61] = true ∨ isT t [60] = true then (takeF T p).bind fun q => (sumF T e pt q.2).map fun u => (nodeF 13 c.pos t.text [c, u.1], u.2) else some (c, p)) = some (r, q) → Step T p q := by
    intro T e pt m hT A P c r p q t B h
    split at h
    · simp only [Option.bind_eq_some_iff, Option.map_eq_some_iff, Prod.exists, Prod.mk.injEq] at h
      obtain ⟨v, y, k, n, z, k', _, rfl⟩ := h
      have s := (take_st hT B.lt k).1
      exact s.trans ((sum_tot hT A P).st (B.next s) k').1
    · cases h; exact .refl B.lt
  have o1 := o.back (stp H.k1 A1 P1 C1 h1) (stp H.k2 A2 P2 C2 h2)
  have R1 := sum_rel H A1 A2 he P1 P2 hp _ _ _ _ _ _ B1 B2 k1 j1 R o1
  have hR := look_rel H R1.1 C1.lt k2 j2
  rw [← hR.isT (s := [61]) (by decide), ← hR.isT (s := [60]) (by decide)] at h2
  split at h1
  · rename_i c; rw [if_pos c] at h2
    have hS := hR.sm (by rcases c with c | c <;> exact isT_kind c)
    simp only [Option.bind_eq_some_iff, Option.map_eq_some_iff, Prod.exists, Prod.mk.injEq] at h1 h2
    obtain ⟨v1, a2, k3, n1, a3, k4, rfl, rfl⟩ := h1
    obtain ⟨v2, x2, j3, n2, x3, j4, rfl, rfl⟩ := h2
    have y1 := (take_inv k3).1
    have y2 := (take_inv j3).1
    rw [k2] at y1; rw [j2] at y2
    cases y1; cases y2
    have s2 := (take_st H.k1 C1.lt k3).1
    have u2 := (take_st H.k2 C2.lt j3).1
    have R3 := sum_rel H A1 A2 he P1 P2 hp _ _ _ _ _ _ (C1.next s2) (C2.next u2) k4 j4 (take_rel R1.1 k3 j3 hS) o
    rw [hS.2.1]
    exact ⟨R3.1, same_node (sameBs2 R1.2 R3.2)⟩
  · rename_i c; rw [if_neg c] at h2
    cases h1; cases h2; exact R1
/-- What a name is to mean. -/
theorem value_inv {e : PM Nd} {p q : PS} {x : Tx} {rc : Bool} {v : Nd} (h : valueF T e p = some ((x, rc, v), q)) : ∃ p1 t p2 p3 p4, mayF T [114, 101, 99] p = some (rc, p1) ∧ wordF T 3 p1 = some (t, p2) ∧ x = t.text ∧ mustF T [61] p2 = some p3 ∧
    (if rc = true ∧ p3.deep < 40 then (isF T [102, 117, 110] p3).bind fun b => if b then some p3 else failF T 14 p3 else some p3) = some p4 ∧ inF T e p4 = some (v, q) := by
  unfold valueF at h
  simp only [Option.bind_eq_some_iff, Option.map_eq_some_iff, Prod.exists, Prod.mk.injEq] at h
  obtain ⟨b, p1, k1, t, p2, k2, p3, k3, p4, k4, n, p5, k5, ⟨rfl, rfl, rfl⟩, rfl⟩ := h
  exact ⟨p1, t, p2, p3, p4, k1, k2, rfl, k3, k4, k5⟩
theorem rec_st {p3 p4 : PS} {rc : Bool} (hp : p3.pos < T.length) (h : (if rc = true ∧ p3.deep < 40 then (isF T [102, 117, 110] p3).bind fun b => if b then some p3 else failF T 14 p3 else some p3) = some p4) : Step T p3 p4 := by
  split at h
  · simp only [Option.bind_eq_some_iff] at h
    obtain ⟨b, _, h⟩ := h
    split at h
    · cases h; exact .refl hp
    · exact fail_st hp h
  · cases h; exact .refl hp
theorem value_st (hT : TOK T) {e : PM Nd} (A : Tot T (m + 1) e) {p q : PS} {x : Tx} {rc : Bool} {v : Nd} (B : Bd T m p) (h : valueF T e p = some ((x, rc, v), q)) : Step T p q ∧ Strict p q := by
  obtain ⟨p1, t, p2, p3, p4, k1, k2, _, k3, k4, k5⟩ := value_inv h
  have s1 := may_st hT B.lt k1
  obtain ⟨s2, x2⟩ := word_st hT s1.lt (by decide) k2
  have s3 := (must_st hT s2.lt k3).1
  have s4 := rec_st s3.lt k4
  have s5 := ((in_tot hT A).st ((((B.next s1).next s2).next s3).next s4) k5).1
  have sr := s3.trans (s4.trans s5)
  exact ⟨s1.trans (s2.trans sr), Strict.r s1 (s2.trans sr) (x2.l sr)⟩
theorem value_rel (H : TR ex d lo T1 T2) {e1 e2 : PM Nd} (A1 : Tot T1 (m + 1) e1) (A2 : Tot T2 (k + 1) e2) (he : RelF ex d lo T1 T2 (m + 1) (k + 1) e1 e2) {p1 p2 q1 q2 : PS} {x1 x2 : Tx} {b1 b2 : Bool} {v1 v2 : Nd} (B1 : Bd T1 m p1) (B2 : Bd T2 k p2)
    (h1 : valueF T1 e1 p1 = some ((x1, b1, v1), q1)) (h2 : valueF T2 e2 p2 = some ((x2, b2, v2), q2)) (R : Rel d lo p1 p2) (o : Ok ex q1 q2) : Rel d lo q1 q2 ∧ x1 = x2 ∧ b1 = b2 ∧ sameB v1 v2 = true := by
  obtain ⟨a1, t1, a2, a3, a4, k1, k2, rfl, k3, k4, k5⟩ := value_inv h1
  obtain ⟨y1, t2, y2, y3, y4, j1, j2, rfl, j3, j4, j5⟩ := value_inv h2
  have s1 := may_st H.k1 B1.lt k1
  have s2 := (word_st H.k1 s1.lt (by decide) k2).1
  have s3 := (must_st H.k1 s2.lt k3).1
  have C1 := ((B1.next s1).next s2).next s3
  have s4 := rec_st s3.lt k4
  have s5 := ((in_tot H.k1 A1).st (C1.next s4) k5).1
  have u1 := may_st H.k2 B2.lt j1
  have u2 := (word_st H.k2 u1.lt (by decide) j2).1
  have u3 := (must_st H.k2 u2.lt j3).1
  have C2 := ((B2.next u1).next u2).next u3
  have u4 := rec_st u3.lt j4
  have u5 := ((in_tot H.k2 A2).st (C2.next u4) j5).1
  have o4 := o.back s5 u5
  have o3 := o4.back s4 u4
  have o2 := o3.back s3 u3
  obtain ⟨rfl, R1⟩ := may_rel H R B1.lt (by decide) k1 j1
  have R2 := word_rel H R1 s1.lt (by decide) k2 j2 o2
  have R3 := must_rel H R2.1 s2.lt k3 j3 o3
  have R4 : Rel d lo a4 y4 := by
    by_cases c1 : b1 = true ∧ a3.deep < 40
    · by_cases c2 : b1 = true ∧ y3.deep < 40
      · rw [if_pos c1] at k4; rw [if_pos c2] at j4
        simp only [Option.bind_eq_some_iff] at k4 j4
        obtain ⟨f1, g1, k4⟩ := k4
        obtain ⟨f2, g2, j4⟩ := j4
        have hb := is_rel H R3 s3.lt (by decide) g1 g2
        subst hb
        cases f1 with
        | true =>
          simp only [if_true, Option.some.injEq] at k4 j4
          subst k4; subst j4; exact R3
        | false => exact fail_rel R3 (by simpa using k4) (by simpa using j4)
      · exfalso
        have c3 : 40 ≤ y3.deep := Nat.le_of_not_lt fun h => c2 ⟨c1.1, h⟩
        cases hx : ex with
        | true => have hd := H.dx hx; have := R3.deep; omega
        | false =>
          have hz := (o.f hx).2
          have : y4 = y3 := by rw [if_neg c2] at j4; exact (Option.some.inj j4).symm
          subst this
          unfold inF at j5
          rw [if_pos c3] at j5
          simp only [Option.bind_eq_some_iff] at j5
          obtain ⟨p', g, j5⟩ := j5
          have hne := fail_ne g (by decide)
          rw [if_pos hne] at j5
          cases j5; exact hne hz
    · by_cases c2 : b1 = true ∧ y3.deep < 40
      · exfalso; exact c1 ⟨c2.1, by have := R3.deep; omega⟩
      · rw [if_neg c1] at k4; rw [if_neg c2] at j4
        cases k4; cases j4; exact R3
  have R5 := in_rel H he _ _ _ _ _ _ (C1.next s4) (C2.next u4) k5 j5 R4 o
  exact ⟨R5.1, R2.2.2.1, rfl, R5.2⟩
theorem let_rel (H : TR ex d lo T1 T2) {e1 e2 : PM Nd} (A1 : Tot T1 (m + 1) e1) (A2 : Tot T2 (k + 1) e2) (he : RelF ex d lo T1 T2 (m + 1) (k + 1) e1 e2) : RelF ex d lo T1 T2 m k (letF T1 e1) (letF T2 e2) := by
  intro p1 p2 r1 q1 r2 q2 B1 B2 h1 h2 R o
  have h1' := h1
  unfold letF at h1 h2
  simp only [Option.bind_eq_some_iff, Option.map_eq_some_iff, Prod.exists, Prod.mk.injEq] at h1 h2
  obtain ⟨t1, a1, k1, x1, b1, v1, a2, k2, a3, k3, n1, a4, k4, rfl, rfl⟩ := h1
  obtain ⟨t2, y1, j1, x2, b2, v2, y2, j2, y3, j3, n2, y4, j4, rfl, rfl⟩ := h2
  have hS := start_sm H (let_tot H.k1 A1) B1 h1' R o (take_inv k1).1 (take_inv j1).1
  have s1 := (take_st H.k1 B1.lt k1).1
  have s2 := (value_st H.k1 A1 (B1.next s1) k2).1
  have s3 := (must_st H.k1 s2.lt k3).1
  have C1 := ((B1.next s1).next s2).next s3
  have s4 := ((in_tot H.k1 A1).st C1 k4).1
  have u1 := (take_st H.k2 B2.lt j1).1
  have u2 := (value_st H.k2 A2 (B2.next u1) j2).1
  have u3 := (must_st H.k2 u2.lt j3).1
  have C2 := ((B2.next u1).next u2).next u3
  have u4 := ((in_tot H.k2 A2).st C2 j4).1
  have o3 := o.back s4 u4
  have o2 := o3.back s3 u3
  obtain ⟨R2, rfl, rfl, hv⟩ := value_rel H A1 A2 he (B1.next s1) (B2.next u1) k2 j2 (take_rel R k1 j1 hS) o2
  have R3 := must_rel H R2 s2.lt k3 j3 o3
  have R4 := in_rel H he _ _ _ _ _ _ C1 C2 k4 j4 R3 o
  exact ⟨R4.1, same_node (sameBs2 hv R4.2)⟩
theorem fun_rel (H : TR ex d lo T1 T2) {e1 e2 : PM Nd} (A1 : Tot T1 (m + 1) e1) (A2 : Tot T2 (k + 1) e2) (he : RelF ex d lo T1 T2 (m + 1) (k + 1) e1 e2) : RelF ex d lo T1 T2 m k (funF T1 e1) (funF T2 e2) := by
  intro p1 p2 r1 q1 r2 q2 B1 B2 h1 h2 R o
  have h1' := h1
  unfold funF at h1 h2
  simp only [Option.bind_eq_some_iff, Option.map_eq_some_iff, Prod.exists, Prod.mk.injEq] at h1 h2
  obtain ⟨t1, a1, k1, w1, a2, k2, a3, k3, n1, a4, k4, rfl, rfl⟩ := h1
  obtain ⟨t2, y1, j1, w2, y2, j2, y3, j3, n2, y4, j4, rfl, rfl⟩ := h2
  have hS := start_sm H (fun_tot H.k1 A1) B1 h1' R o (take_inv k1).1 (take_inv j1).1
  have s1 := (take_st H.k1 B1.lt k1).1
  have s2 := (word_st H.k1 s1.lt (by decide) k2).1
  have s3 := (must_st H.k1 s2.lt k3).1
  have C1 := ((B1.next s1).next s2).next s3
  have s4 := ((in_tot H.k1 A1).st C1 k4).1
  have u1 := (take_st H.k2 B2.lt j1).1
  have u2 := (word_st H.k2 u1.lt (by decide) j2).1
  have u3 := (must_st H.k2 u2.lt j3).1
  have C2 := ((B2.next u1).next u2).next u3
  have u4 := ((in_tot H.k2 A2).st C2 j4).1
  have o3 := o.back s4 u4
  have o2 := o3.back s3 u3
  have R2 := word_rel H (take_rel R k1 j1 hS) s1.lt (by decide) k2 j2 o2
  have R3 := must_rel H R2.1 s2.lt k3 j3 o3
  have R4 := in_rel H he _ _ _ _ _ _ C1 C2 k4 j4 R3 o
  rw [R2.2.2.1]
  exact ⟨R4.1, same_node (sameBs1 R4.2)⟩
theorem branch_rel (H : TR ex d lo T1 T2) {e1 e2 : PM Nd} (A1 : Tot T1 (m + 1) e1) (A2 : Tot T2 (k + 1) e2) (he : RelF ex d lo T1 T2 (m + 1) (k + 1) e1 e2) : RelF ex d lo T1 T2 m k (branchF T1 e1) (branchF T2 e2) := by
  intro p1 p2 r1 q1 r2 q2 B1 B2 h1 h2 R o
  have h1' := h1
  unfold branchF at h1 h2
  simp only [Option.bind_eq_some_iff, Option.map_eq_some_iff, Prod.exists, Prod.mk.injEq] at h1 h2
  obtain ⟨t1, a1, k1, c1, a2, k2, a3, k3, n1, a4, k4, a5, k5, z1, a6, k6, rfl, rfl⟩ := h1
  obtain ⟨t2, y1, j1, c2, y2, j2, y3, j3, n2, y4, j4, y5, j5, z2, y6, j6, rfl, rfl⟩ := h2
  have hS := start_sm H (branch_tot H.k1 A1) B1 h1' R o (take_inv k1).1 (take_inv j1).1
  have s1 := (take_st H.k1 B1.lt k1).1
  have s2 := ((in_tot H.k1 A1).st (B1.next s1) k2).1
  have s3 := (must_st H.k1 s2.lt k3).1
  have C1 := ((B1.next s1).next s2).next s3
  have s4 := ((in_tot H.k1 A1).st C1 k4).1
  have s5 := (must_st H.k1 s4.lt k5).1
  have D1 := (C1.next s4).next s5
  have s6 := ((in_tot H.k1 A1).st D1 k6).1
  have u1 := (take_st H.k2 B2.lt j1).1
  have u2 := ((in_tot H.k2 A2).st (B2.next u1) j2).1
  have u3 := (must_st H.k2 u2.lt j3).1
  have C2 := ((B2.next u1).next u2).next u3
  have u4 := ((in_tot H.k2 A2).st C2 j4).1
  have u5 := (must_st H.k2 u4.lt j5).1
  have D2 := (C2.next u4).next u5
  have u6 := ((in_tot H.k2 A2).st D2 j6).1
  have o5 := o.back s6 u6
  have o4 := o5.back s5 u5
  have o3 := o4.back s4 u4
  have o2 := o3.back s3 u3
  have R2 := in_rel H he _ _ _ _ _ _ (B1.next s1) (B2.next u1) k2 j2 (take_rel R k1 j1 hS) o2
  have R3 := must_rel H R2.1 s2.lt k3 j3 o3
  have R4 := in_rel H he _ _ _ _ _ _ C1 C2 k4 j4 R3 o4
  have R5 := must_rel H R4.1 s4.lt k5 j5 o5
  have R6 := in_rel H he _ _ _ _ _ _ D1 D2 k6 j6 R5 o
  exact ⟨R6.1, same_node (sameBs3 R2.2 R4.2 R6.2)⟩
theorem exp_rel (H : TR ex d lo T1 T2) {e1 e2 pt1 pt2 : PM Nd} (A1 : Tot T1 (m + 1) e1) (A2 : Tot T2 (k + 1) e2) (he : RelF ex d lo T1 T2 (m + 1) (k + 1) e1 e2) (P1 : Tot T1 (m + 1) pt1) (P2 : Tot T2 (k + 1) pt2) (hp : RelF ex d lo T1 T2 (m + 1) (k + 1) pt1 pt2) : RelF ex d lo T1 T2 m k (expS T1 e1 pt1) (expS T2 e2 pt2) := by
  intro p1 p2 r1 q1 r2 q2 B1 B2 h1 h2 R o
  have h1' := h1
  unfold expS at h1 h2
  simp only [Option.bind_eq_some_iff] at h1 h2
  obtain ⟨t1, k0, h1⟩ := h1
  obtain ⟨t2, j0, h2⟩ := h2
  have hS := start_sm H (exp_tot H.k1 A1 P1) B1 h1' R o k0 j0
  rw [← hS.1, ← hS.2.1] at h2
  split at h1
  · rename_i c; rw [if_pos c] at h2
    exact let_rel H A1 A2 he _ _ _ _ _ _ B1 B2 h1 h2 R o
  rename_i c; rw [if_neg c] at h2
  split at h1
  · rename_i c; rw [if_pos c] at h2
    exact fun_rel H A1 A2 he _ _ _ _ _ _ B1 B2 h1 h2 R o
  rename_i c; rw [if_neg c] at h2
  split at h1
  · rename_i c; rw [if_pos c] at h2
    exact branch_rel H A1 A2 he _ _ _ _ _ _ B1 B2 h1 h2 R o
  rename_i c; rw [if_neg c] at h2
  simp only [Option.bind_eq_some_iff, Prod.exists] at h1 h2
  obtain ⟨c1, a1, k1, b1, a2, k2, h1⟩ := h1
  obtain ⟨c2, x1, j1, b2, x2, j2, h2⟩ := h2
  have s1 := ((cmp_tot H.k1 A1 P1).st B1 k1).1
  have u1 := ((cmp_tot H.k2 A2 P2).st B2 j1).1
  have mst : ∀ {T : List Tk} (hT : TOK T) {p q : PS} {b : Bool}, p.pos < T.length → (if p.flat = true then some (false, p) else mayF T [59] p) = some (b, q) → Step T p q := by
    intro T hT p q b hp h
    split at h
    · cases h; exact .refl hp
    · exact may_st hT hp h
  have s2 := mst H.k1 s1.lt k2
  have u2 := mst H.k2 u1.lt j2
  have C1 := (B1.next s1).next s2
  have C2 := (B2.next u1).next u2
  have est : ∀ {T : List Tk} {e : PM Nd} {m : Nat} (hT : TOK T) (A : Tot T (m + 1) e) {c r : Nd} {p q : PS} {b : Bool}, Bd T m p → (if b = true then (inF T e p).map fun u => (nodeF 14 c.pos [] [c, u.1], u.2) else some (c, p)) = some (r, q) → Step T p q := by
    intro T e m hT A c r p q b B h
    split at h
    · simp only [Option.map_eq_some_iff, Prod.exists, Prod.mk.injEq] at h
      obtain ⟨n, z, k', _, rfl⟩ := h
      exact ((in_tot hT A).st B k').1
    · cases h; exact .refl B.lt
  have o2 := o.back (est H.k1 A1 C1 h1) (est H.k2 A2 C2 h2)
  have o1 := o2.back s2 u2
  have R1 := cmp_rel H A1 A2 he P1 P2 hp _ _ _ _ _ _ B1 B2 k1 j1 R o1
  have R2 : b1 = b2 ∧ Rel d lo a2 x2 := by
    rw [R1.1.flat] at j2
    split at k2
    · rename_i c; rw [if_pos c] at j2
      cases k2; cases j2; exact ⟨rfl, R1.1⟩
    · rename_i c; rw [if_neg c] at j2
      exact may_rel H R1.1 s1.lt (by decide) k2 j2
  obtain ⟨rfl, R2⟩ := R2
  cases b1 with
  | true =>
    simp only [if_true, Option.map_eq_some_iff, Prod.exists, Prod.mk.injEq] at h1 h2
    obtain ⟨n1, a3, k3, rfl, rfl⟩ := h1
    obtain ⟨n2, x3, j3, rfl, rfl⟩ := h2
    have R3 := in_rel H he _ _ _ _ _ _ C1 C2 k3 j3 R2 o
    exact ⟨R3.1, same_node (sameBs2 R1.2 R3.2)⟩
  | false =>
    simp only [Bool.false_eq_true, if_false, Option.some.injEq, Prod.mk.injEq] at h1 h2
    obtain ⟨rfl, rfl⟩ := h1
    obtain ⟨rfl, rfl⟩ := h2
    exact ⟨R2, R1.2⟩
theorem expF_rel (H : TR ex d lo T1 T2) : ∀ (n1 n2 m k : Nat), 43 ≤ m + n1 → 43 ≤ k + n2 → RelF ex d lo T1 T2 m k (expF T1 n1) (expF T2 n2)
  | 0, n2, m, k, h, h' => fun p1 p2 r1 q1 r2 q2 B1 B2 h1 => by cases h1
  | n1 + 1, 0, m, k, h, h' => fun p1 p2 r1 q1 r2 q2 B1 B2 h1 h2 => by cases h2
  | n1 + 1, n2 + 1, m, k, h, h' => exp_rel H (expF_tot H.k1 n1 (m + 1) (by omega)) (expF_tot H.k2 n2 (k + 1) (by omega)) (expF_rel H n1 n2 (m + 1) (k + 1) (by omega) (by omega)) (patF_tot H.k1 (n1 + 1) (m + 1) (by omega)) (patF_tot H.k2 (n2 + 1) (k + 1) (by omega)) (patF_rel H (n1 + 1) (n2 + 1) (m + 1) (k + 1) (by omega) (by omega))
end Go.AL
set_option linter.unusedSimpArgs false
set_option linter.unusedVariables false
namespace Go.AL
variable {ex : Bool} {d lo : Nat} {T1 T2 T : List Tk} {m k : Nat}
theorem decl_rel (H : TR true d lo T1 T2) {e1 e2 y1 y2 : PM Nd} (A1 : Tot T1 (m + 1) e1) (A2 : Tot T2 (k + 1) e2) (he : RelF true d lo T1 T2 (m + 1) (k + 1) e1 e2) (Y1 : Tot T1 (m + 1) y1) (Y2 : Tot T2 (k + 1) y2) (hy : RelF true d lo T1 T2 (m + 1) (k + 1) y1 y2)
    {p1 p2 q1 q2 : PS} {r1 r2 : Nd} (B1 : Bd T1 m p1) (B2 : Bd T2 k p2) (h1 : declF T1 e1 y1 p1 = some (r1, q1)) (h2 : declF T2 e2 y2 p2 = some (r2, q2)) (R : Rel d lo p1 p2) (hf : p1.flat = false) : Rel d lo q1 q2 ∧ sameB r1 r2 = true := by
  unfold declF at h1 h2
  simp only [Option.bind_eq_some_iff, Option.map_eq_some_iff, Prod.exists, Prod.mk.injEq] at h1 h2
  obtain ⟨b1, k0, n1, a1, k1, a2, k2, rfl, rfl⟩ := h1
  obtain ⟨b2, j0, n2, x1, j1, x2, j2, rfl, rfl⟩ := h2
  have hb := is_rel H R B1.lt (by decide) k0 j0
  subst hb
  have hf2 : p2.flat = false := by rw [R.flat, hf]
  cases b1 with
  | true =>
    simp only [if_true] at k1 j1
    have R1 := decltype_rel H Y1 Y2 hy _ _ _ _ _ _ B1 B2 k1 j1 R (.inl rfl)
    have s1 := ((decltype_ok H.k1 Y1).st B1 k1).1
    exact ⟨must_rel H R1.1 s1.lt k2 j2 (.inl rfl), R1.2⟩
  | false =>
    simp only [Bool.false_eq_true, if_false, Option.bind_eq_some_iff, Option.map_eq_some_iff, Prod.exists, Prod.mk.injEq] at k1 j1
    obtain ⟨t1, a3, k3, u1, rc1, v1, a4, k4, rfl, rfl⟩ := k1
    obtain ⟨t2, x3, j3, u2, rc2, v2, x4, j4, rfl, rfl⟩ := j1
    have hS : Sm t1 t2 := (look_rel H R B1.lt (take_inv k3).1 (take_inv j3).1).resolve_right fun h => by cases h.1
    have R1 := take_rel R k3 j3 hS
    have s1 := (take_st H.k1 B1.lt k3).1
    have u1 := (take_st H.k2 B2.lt j3).1
    have hv := value_rel H A1 A2 he (bd_flat (B1.next s1) true) (bd_flat (B2.next u1) true) k4 j4 ⟨R1.lo, R1.pos, R1.deep, rfl, R1.e⟩ (.inl rfl)
    have s2 := (value_st H.k1 A1 (bd_flat (B1.next s1) true) k4).1
    obtain ⟨R2, rfl, rfl, hs⟩ := hv
    exact ⟨must_rel H (p1 := { a4 with flat := false }) (p2 := { x4 with flat := false }) ⟨R2.lo, R2.pos, R2.deep, rfl, R2.e⟩ s2.lt k2 j2 (.inl rfl), same_node (sameBs1 hs)⟩
theorem decl_st (hT : TOK T) {e ty : PM Nd} (A : Tot T (m + 1) e) (Y : Tot T (m + 1) ty) {p q : PS} {r : Nd} (B : Bd T m p) (hf : p.flat = false) (h : declF T e ty p = some (r, q)) : Step T p q := by
  obtain ⟨nd, q', h1, h2, _⟩ := decl_ok hT A Y B.lt B.lo B.hi hf
  rw [h1] at h; cases h; exact h2
theorem progL_inv {e ty : PM Nd} {n : Nat} {nd r : Nd} {p q : PS} (h : progL T e ty (n + 1) nd p = some (r, q)) : ∃ a b, isF T [116, 121, 112, 101] p = some a ∧ (if a = true then some true else isF T [108, 101, 116] p) = some b ∧
    ((b = false ∧ r = nd ∧ q = p) ∨ (b = true ∧ ∃ p1 c p2, mostF T nd.kids.length 60 p = some p1 ∧ declF T e ty p1 = some (c, p2) ∧ progL T e ty n (nd.addKid c) p2 = some (r, q))) := by
  unfold progL at h
  simp only [Option.bind_eq_some_iff] at h
  obtain ⟨a, k0, b, k1, h⟩ := h
  refine ⟨a, b, k0, k1, ?_⟩
  cases b with
  | false => simp only [Bool.false_eq_true, if_false, Option.some.injEq, Prod.mk.injEq] at h; exact .inl ⟨rfl, h.1.symm, h.2.symm⟩
  | true =>
    simp only [if_true, Option.bind_eq_some_iff, Prod.exists] at h
    obtain ⟨p1, k2, c, p2, k3, h⟩ := h
    exact .inr ⟨rfl, p1, c, p2, k2, k3, h⟩
theorem progL_rel (H : TR true d lo T1 T2) {e1 e2 y1 y2 : PM Nd} (A1 : Tot T1 (m + 1) e1) (A2 : Tot T2 (k + 1) e2) (he : RelF true d lo T1 T2 (m + 1) (k + 1) e1 e2) (Y1 : Tot T1 (m + 1) y1) (Y2 : Tot T2 (k + 1) y2) (hy : RelF true d lo T1 T2 (m + 1) (k + 1) y1 y2) :
    ∀ (n1 n2 : Nat) (a b : Nd) (p1 p2 : PS) (r1 : Nd) (q1 : PS) (r2 : Nd) (q2 : PS), Bd T1 m p1 → Bd T2 k p2 → progL T1 e1 y1 n1 a p1 = some (r1, q1) → progL T2 e2 y2 n2 b p2 = some (r2, q2) → Rel d lo p1 p2 → p1.flat = false → sameB a b = true → Rel d lo q1 q2 ∧ sameB r1 r2 = true ∧ Bd T1 m q1 ∧ Bd T2 k q2
  | 0, n2, a, b, p1, p2, r1, q1, r2, q2, B1, B2, h1, h2, R, hf, hs => by cases h1
  | n1 + 1, 0, a, b, p1, p2, r1, q1, r2, q2, B1, B2, h1, h2, R, hf, hs => by cases h2
  | n1 + 1, n2 + 1, a, b, p1, p2, r1, q1, r2, q2, B1, B2, h1, h2, R, hf, hs => by
    obtain ⟨a1, b1, k0, k1, h1⟩ := progL_inv h1
    obtain ⟨a2, b2, j0, j1, h2⟩ := progL_inv h2
    have ha := is_rel H R B1.lt (by decide) k0 j0
    subst ha
    have hb : b1 = b2 := by
      cases a1 with
      | true => simp only [if_true, Option.some.injEq] at k1 j1; rw [← k1, ← j1]
      | false => exact is_rel H R B1.lt (s := [108, 101, 116]) (by decide) (by simpa using k1) (by simpa using j1)
    subst hb
    rcases h1 with ⟨c, rfl, rfl⟩ | ⟨c, z1, c1, z2, k2, k3, h1⟩
    · rcases h2 with ⟨_, rfl, rfl⟩ | ⟨c', _⟩
      · exact ⟨R, hs, B1, B2⟩
      · rw [c] at c'; cases c'
    · rcases h2 with ⟨c', _⟩ | ⟨_, w1, c2, w2, j2, j3, h2⟩
      · rw [c] at c'; cases c'
      · have s1 := most_st B1.lt k2
        have u1 := most_st B2.lt j2
        have R1 := most_rel R (by rw [sameBs_len (same_parts hs).2.2.2.2]) k2 j2
        have f1 : z1.flat = false := by rw [s1.flat, hf]
        have f2 : w1.flat = false := by rw [R1.flat, f1]
        have s2 := decl_st H.k1 A1 Y1 (B1.next s1) f1 k3
        have u2 := decl_st H.k2 A2 Y2 (B2.next u1) f2 j3
        have R2 := decl_rel H A1 A2 he Y1 Y2 hy (B1.next s1) (B2.next u1) k3 j3 R1 f1
        exact progL_rel H A1 A2 he Y1 Y2 hy n1 n2 _ _ _ _ _ _ _ _ ((B1.next s1).next s2) ((B2.next u1).next u2) h1 h2 R2.1 (by rw [s2.flat, f1]) (same_add hs R2.2)
/-- The same tokens at other places: the same error, and the same node. -/
theorem parse_same (H : TR true 0 0 T1 T2) {n1 n2 : Nd} {b1 b2 e1 e2 : Int} (h1 : parseF T1 = some (n1, b1, e1)) (h2 : parseF T2 = some (n2, b2, e2)) : e1 = e2 ∧ sameB n1 n2 = true := by
  unfold parseF at h1 h2
  simp only [Option.map_eq_some_iff, Prod.exists] at h1 h2
  obtain ⟨r1, q1, k1, h1⟩ := h1
  obtain ⟨r2, q2, j1, h2⟩ := h2
  have key : q1.e = q2.e ∧ sameB r1 r2 = true := by
    unfold progF at k1 j1
    simp only [Option.bind_eq_some_iff, Option.map_eq_some_iff, Prod.exists, Prod.mk.injEq] at k1 j1
    obtain ⟨t1, l1, c1, a1, k2, a2, k3, u1, a3, k4, v1, k5, a4, k6, rfl, rfl⟩ := k1
    obtain ⟨t2, l2, c2, x1, j2, x2, j3, u2, x3, j4, v2, j5, x4, j6, rfl, rfl⟩ := j1
    have A1 := expF_tot H.k1 42 1 (by omega)
    have A2 := expF_tot H.k2 42 1 (by omega)
    have Y1 := tyF_tot H.k1 42 1 (by omega)
    have Y2 := tyF_tot H.k2 42 1 (by omega)
    have B1 : Bd T1 0 ⟨0, 0, false, 0, 0⟩ := ⟨H.k1.pos, Nat.zero_le _, Nat.zero_le _⟩
    have B2 : Bd T2 0 ⟨0, 0, false, 0, 0⟩ := ⟨H.k2.pos, Nat.zero_le _, Nat.zero_le _⟩
    obtain ⟨R1, hs, C1, C2⟩ := progL_rel H A1 A2 (expF_rel H 42 42 1 1 (by omega) (by omega)) Y1 Y2 (tyF_rel H 42 42 1 1 (by omega) (by omega)) _ _ _ _ _ _ _ _ _ _ B1 B2 k2 j2 ⟨Nat.zero_le _, rfl, rfl, rfl, rfl⟩ rfl (same_node rfl)
    have s2 := (must_st H.k1 C1.lt k3).1
    have w2 := (must_st H.k2 C2.lt j3).1
    have R2 := must_rel H R1 C1.lt k3 j3 (.inl rfl)
    have R3 := in_rel H (expF_rel H 42 42 1 1 (by omega) (by omega)) _ _ _ _ _ _ (C1.next s2) (C2.next w2) k4 j4 R2 (.inl rfl)
    have s3 := ((in_tot H.k1 A1).st (C1.next s2) k4).1
    have hS : Sm v1 v2 := (look_rel H R3.1 s3.lt k5 j5).resolve_right fun h => by cases h.1
    rw [← hS.1] at j6
    have R4 : Rel 0 0 a4 x4 := by
      split at k6
      · rename_i c; rw [if_pos c] at j6; exact fail_rel R3.1 k6 j6
      · rename_i c; rw [if_neg c] at j6; cases k6; cases j6; exact R3.1
    exact ⟨R4.e.symm, same_add hs R3.2⟩
  by_cases he : q1.e = 0
  · rw [if_pos he] at h1; rw [if_pos (by rw [← key.1]; exact he)] at h2
    simp only [Prod.mk.injEq] at h1 h2
    obtain ⟨rfl, _, rfl⟩ := h1
    obtain ⟨rfl, _, rfl⟩ := h2
    exact ⟨rfl, key.2⟩
  · rw [if_neg he] at h1; rw [if_neg (by rw [← key.1]; exact he)] at h2
    simp only [Prod.mk.injEq] at h1 h2
    obtain ⟨rfl, _, rfl⟩ := h1
    obtain ⟨rfl, _, rfl⟩ := h2
    exact ⟨key.1, rfl⟩

/-! Brackets. -/
/-- A program that has no declarations: what is read behind its 'do'. -/
theorem prog_do (hT : TOK T) {t : Tk} (ht : T[0]? = some t) (hk : t.kind = 6) (hx : t.text = [100, 111]) {n : Nd} {b : Int} (h : parseF T = some (n, b, 0)) : ∃ c q, expF T 42 ⟨1, 1, false, 0, 0⟩ = some (c, q) ∧ q.e = 0 ∧ (∃ v, lookF T q = some v ∧ v.kind = 0) ∧ n = .mk 30 [] 0 t.pos [] [c] := by
  unfold parseF at h
  simp only [Option.map_eq_some_iff, Prod.exists] at h
  obtain ⟨r, q, k1, h⟩ := h
  have he : q.e = 0 := by
    by_cases c : q.e = 0
    · exact c
    · rw [if_neg c] at h; simp only [Prod.mk.injEq] at h; exact absurd h.2.2 c
  rw [if_pos he] at h
  simp only [Prod.mk.injEq] at h
  obtain ⟨rfl, _⟩ := h
  unfold progF at k1
  simp only [Option.bind_eq_some_iff, Option.map_eq_some_iff, Prod.exists, Prod.mk.injEq] at k1
  obtain ⟨t1, l1, c1, a1, k2, a2, k3, u1, a3, k4, v1, k5, a4, k6, rfl, rfl⟩ := k1
  have hl : lookF T ⟨0, 0, false, 0, 0⟩ = some t := by unfold lookF; rw [if_pos rfl]; exact ht
  rw [hl] at l1; cases l1
  obtain ⟨x, y, i1, i2, k2⟩ := progL_inv k2
  obtain ⟨t', g1, rfl⟩ := is_inv i1
  rw [hl] at g1; cases g1
  have f1 : isT t [116, 121, 112, 101] = false := by unfold isT; rw [hx]; simp
  rw [f1] at i2
  obtain ⟨t', g2, rfl⟩ := is_inv (by simpa using i2)
  rw [hl] at g2; cases g2
  have f2 : isT t [108, 101, 116] = false := by unfold isT; rw [hx]; simp
  rcases k2 with ⟨_, rfl, rfl⟩ | ⟨c, _⟩
  rotate_left
  · rw [f2] at c; cases c
  obtain ⟨b', q', m1, m2⟩ := must_inv k3
  obtain ⟨t', g3, e3, m3⟩ := may_inv m1
  rw [hl] at g3; cases g3
  have f3 : isT t [100, 111] = true := by unfold isT; rw [hx, hk]; simp
  rw [f3] at e3; subst e3
  simp only [if_true] at m2 m3
  subst m2
  obtain ⟨_, e4⟩ := take_inv m3
  rw [if_pos ⟨rfl, by rw [hk]; decide⟩] at e4
  subst e4
  unfold inF at k4
  rw [if_neg (by decide)] at k4
  simp only [Option.bind_some] at k4
  rw [if_neg (by decide)] at k4
  simp only [Option.bind_eq_some_iff, Prod.exists] at k4
  obtain ⟨c, z, k7, k8⟩ := k4
  split at k8
  · cases k8
  simp only [Option.some.injEq, Prod.mk.injEq] at k8
  obtain ⟨rfl, rfl⟩ := k8
  have hv0 : v1.kind = 0 := by
    by_cases c0 : v1.kind = 0
    · exact c0
    · rw [if_pos c0] at k6; exact absurd he (fail_ne k6 (by decide))
  rw [if_neg (by simp [hv0])] at k6
  cases k6
  exact ⟨c, z, k7, he, ⟨v1, k5, hv0⟩, rfl⟩
/-- What is read from a token to the atom that it begins. -/
theorem exp_atom (hT : TOK T) {n : Nat} {p q : PS} {c : Nd} {t : Tk} (B : Bd T (42 - n) p) (hl : lookF T p = some t) (h6 : t.kind = 6 → kindF t.text = (0, 0) ∧ t.text ≠ [108, 101, 116] ∧ t.text ≠ [102, 117, 110] ∧ t.text ≠ [105, 102]) (hn : n ≤ 42) (h : expF T (n + 1) p = some (c, q)) :
    ∃ u a, atomF T (expF T n) (patF T (n + 1)) p = some (u, a) ∧ Step T a q ∧ (q.e = 0 → (∃ v, lookF T a = some v ∧ v.kind = 0) → c = u ∧ q = a) := by
  have A := expF_tot hT n (43 - n) (by omega)
  have P := patF_tot hT (n + 1) (43 - n) (by omega)
  have e43 : 43 - n = (42 - n) + 1 := by omega
  rw [e43] at A P
  rw [show expF T (n + 1) = expS T (expF T n) (patF T (n + 1)) from rfl] at h
  unfold expS at h
  rw [hl] at h
  simp only [Option.bind_some] at h
  rw [if_neg (fun x => (h6 x.1).2.1 x.2), if_neg (fun x => (h6 x.1).2.2.1 x.2), if_neg (fun x => (h6 x.1).2.2.2 x.2)] at h
  simp only [Option.bind_eq_some_iff, Prod.exists] at h
  obtain ⟨c1, a1, k1, b1, a2, k2, h⟩ := h
  have s1 := ((cmp_tot hT A P).st B k1).1
  have st2 : Step T a1 a2 := by
    split at k2
    · cases k2; exact .refl s1.lt
    · exact may_st hT s1.lt k2
  have C1 := (B.next s1).next st2
  have st3 : Step T a2 q := by
    split at h
    · simp only [Option.map_eq_some_iff, Prod.exists, Prod.mk.injEq] at h
      obtain ⟨n', z, k', _, rfl⟩ := h
      exact ((in_tot hT A).st C1 k').1
    · cases h; exact .refl C1.lt
  unfold cmpF at k1
  simp only [Option.bind_eq_some_iff, Prod.exists] at k1
  obtain ⟨c2, a3, k3, t3, k4, k1⟩ := k1
  have s3 := ((sum_tot hT A P).st B k3).1
  have st4 : Step T a3 a1 := by
    split at k1
    · simp only [Option.bind_eq_some_iff, Option.map_eq_some_iff, Prod.exists, Prod.mk.injEq] at k1
      obtain ⟨v, y, g1, n', z, g2, _, rfl⟩ := k1
      have s := (take_st hT s3.lt g1).1
      exact s.trans ((sum_tot hT A P).st ((B.next s3).next s) g2).1
    · cases k1; exact .refl s3.lt
  unfold sumF sumsF at k3
  simp only [Option.bind_eq_some_iff, Prod.exists] at k3
  obtain ⟨c4, a4, k5, t4, k6, k3⟩ := k3
  have PT := sums_tot hT (signs := signsM) (app_tot hT A P)
  have s4 := (PT.st B k5).1
  have st5 := sumsL_st hT PT _ _ _ _ _ _ (B.next s4) k3
  unfold prodF sumsF at k5
  simp only [Option.bind_eq_some_iff, Prod.exists] at k5
  obtain ⟨c5, a5, k7, t5, k8, k5⟩ := k5
  have AT := app_tot hT A P
  have s5 := (AT.st B k7).1
  have st6 := sumsL_st hT AT _ _ _ _ _ _ (B.next s5) k5
  unfold appF at k7
  rw [hl] at k7
  simp only [Option.bind_some] at k7
  rw [if_neg (by rintro ⟨x, y⟩; rw [(h6 x).1] at y; exact absurd y (by decide))] at k7
  simp only [Option.bind_eq_some_iff, Prod.exists] at k7
  obtain ⟨u, a6, k9, k7⟩ := k7
  have s6 := ((atom_tot hT A P).st B k9).1
  have st7 := appL_st hT A P _ _ _ _ _ _ (B.next s6) k7
  refine ⟨u, a6, k9, st7.trans (st6.trans (st5.trans (st4.trans (st2.trans st3)))), fun hq ⟨v, hv, hv0⟩ => ?_⟩
  have z1 : beginsT v = false := by
    cases hb : beginsT v with
    | false => rfl
    | true => exact absurd hv0 (begins_kind hb)
  have zi : ∀ s, isT v s = false := fun s => by
    cases hb : isT v s with
    | false => rfl
    | true => exact absurd hv0 (isT_kind hb)
  unfold appL at k7
  rw [hv] at k7
  simp only [Option.bind_some] at k7
  rw [if_neg (by rw [z1]; decide)] at k7
  cases k7
  rw [hv] at k8; cases k8
  unfold sumsL at k5
  rw [if_neg (by rintro ⟨x, _⟩; rw [hv0] at x; cases x)] at k5
  cases k5
  rw [hv] at k6; cases k6
  unfold sumsL at k3
  rw [if_neg (by rintro ⟨x, _⟩; rw [hv0] at x; cases x)] at k3
  cases k3
  rw [hv] at k4; cases k4
  rw [if_neg (by rw [zi, zi]; decide)] at k1
  cases k1
  have hb1 : b1 = false ∧ a2 = a1 := by
    split at k2
    · cases k2; exact ⟨rfl, rfl⟩
    · obtain ⟨t', g1, g2, g3⟩ := may_inv k2
      rw [hv] at g1; cases g1
      rw [zi] at g2; subst g2
      exact ⟨rfl, by simpa using g3⟩
  obtain ⟨rfl, rfl⟩ := hb1
  simp only [Bool.false_eq_true, if_false, Option.some.injEq, Prod.mk.injEq] at h
  exact ⟨h.1.symm, h.2.symm⟩
/-- No exp begins with a closing bracket. -/
theorem exp_bad (hT : TOK T) {n : Nat} {p q : PS} {c : Nd} {t : Tk} (B : Bd T (42 - n) p) (hl : lookF T p = some t) (ht : isT t [41] = true) (hn : n ≤ 42) (h : expF T (n + 1) p = some (c, q)) : q.e ≠ 0 := by
  obtain ⟨hk0, hx⟩ := isT_ne ht
  have hk : t.kind = 5 ∨ t.kind = 6 := by
    unfold isT at ht
    simp only [Bool.and_eq_true, Bool.or_eq_true, beq_iff_eq] at ht
    exact ht.1
  obtain ⟨u, a, h1, h2, _⟩ := exp_atom hT B hl (fun _ => by rw [hx]; decide) hn h
  have f : ∀ s : Tx, s ≠ [41] → isT t s = false := fun s hs => by
    unfold isT; rw [hx]
    have e : ([41] == s) = false := beq_eq_false_iff_ne.2 (fun h => hs h.symm)
    rw [e]; simp
  unfold atomF at h1
  rw [hl] at h1
  simp only [Option.bind_some] at h1
  rw [f _ (by decide), f _ (by decide), f _ (by decide), f _ (by decide)] at h1
  simp only [Bool.false_eq_true, if_false] at h1
  unfold leafF at h1
  rw [hl] at h1
  simp only [Option.bind_some] at h1
  rw [if_pos (by rcases hk with hk | hk <;> rw [hk] <;> decide)] at h1
  simp only [Option.map_eq_some_iff, Prod.mk.injEq] at h1
  obtain ⟨a', h3, _, rfl⟩ := h1
  exact fun hq => fail_ne h3 (by decide) (h2.e0 hq)
/-- An exp and the same in brackets have the same node. -/
theorem parse_brackets (H : TR false 1 1 T1 T2) (hz : ∀ i t, T1[i]? = some t → t.kind = 0 → i + 1 = T1.length) {t : Tk} (h10 : T1[0]? = some t) (h20 : T2[0]? = some t) (hk : t.kind = 6) (hx : t.text = [100, 111]) {o : Tk} (h21 : T2[1]? = some o) (ok : o.kind = 5) (ox : o.text = [40])
    {c : Tk} (hc : T2[T1.length]? = some c) (ck : c.kind = 5) {e : Tk} (he : T2[T1.length + 1]? = some e) (ek : e.kind = 0) {n1 n2 : Nd} {b1 b2 : Int} (h1 : parseF T1 = some (n1, b1, 0)) (h2 : parseF T2 = some (n2, b2, 0)) : sameB n1 n2 = true := by
  obtain ⟨c1, q1, k1, z1, ⟨v1, l1, hv1⟩, rfl⟩ := prog_do H.k1 h10 hk hx h1
  obtain ⟨c2, q2, k2, z2, _, rfl⟩ := prog_do H.k2 h20 hk hx h2
  refine same_mk rfl rfl rfl rfl (sameBs1 ?_)
  have len1 : 1 < T1.length := by
    have := H.k1.last 0 t h10 (by rw [hk]; decide); omega
  have len2 : 1 < T2.length := (List.getElem?_eq_some_iff.1 h21).1
  have B1 : Bd T1 1 ⟨1, 1, false, 0, 0⟩ := ⟨len1, Nat.le_refl _, by decide⟩
  have hlo : lookF T2 ⟨1, 1, false, 0, 0⟩ = some o := by unfold lookF; rw [if_pos rfl]; exact h21
  have B2 : Bd T2 (42 - 41) ⟨1, 1, false, 0, 0⟩ := ⟨len2, Nat.le_refl _, by decide⟩
  obtain ⟨u, a, k3, st, hfin⟩ := exp_atom H.k2 (n := 41) B2 hlo (fun x => by rw [ok] at x; cases x) (by decide) k2
  have za := st.e0 z2
  unfold atomF at k3
  rw [hlo] at k3
  simp only [Option.bind_some] at k3
  have f : ∀ s : Tx, s ≠ [40] → isT o s = false := fun s hs => by
    unfold isT; rw [ox]
    have e : ([40] == s) = false := beq_eq_false_iff_ne.2 (fun h => hs h.symm)
    rw [e]; simp
  have f40 : isT o [40] = true := by unfold isT; rw [ox, ok]; decide
  rw [f _ (by decide), f _ (by decide), f _ (by decide), f40] at k3
  simp only [Bool.false_eq_true, if_false, if_true, Option.bind_eq_some_iff, Prod.exists] at k3
  obtain ⟨o', a2, k4, b, a3, k5, k3⟩ := k3
  obtain ⟨l4, e4⟩ := take_inv k4
  rw [hlo] at l4; cases l4
  rw [if_pos ⟨rfl, by rw [ok]; decide⟩] at e4
  subst e4
  obtain ⟨w, l5, e5, m5⟩ := may_inv k5
  have hw : T2[2]? = some w := by unfold lookF at l5; rw [if_pos rfl] at l5; exact l5
  obtain ⟨t1, t2, g1, g2, g3⟩ := H.tk 1 (Nat.le_refl _) len1
  rw [hw] at g2; cases g2
  have lt1 : lookF T1 ⟨1, 1, false, 0, 0⟩ = some t1 := by unfold lookF; rw [if_pos rfl]; exact g1
  cases hb : b with
  | true =>
    exfalso
    rw [hb] at e5
    rcases g3 with hS | ⟨_, hend, _⟩
    · exact exp_bad H.k1 (n := 41) (by exact B1) lt1 (by rw [hS.isT]; exact e5.symm) (by decide) k1 z1
    · obtain ⟨s, x⟩ := (expF_tot H.k1 42 1 (by decide)).st B1 k1
      exact end_err s x hend rfl z1
  | false =>
    rw [hb] at m5 k3
    simp only [Bool.false_eq_true, if_false] at m5
    subst m5
    simp only [Bool.false_eq_true, if_false, Option.bind_eq_some_iff, Option.map_eq_some_iff, Prod.exists, Prod.mk.injEq] at k3
    obtain ⟨u', a4, k6, a5, k7, rfl, rfl⟩ := k3
    unfold wholeF at k6
    simp only [Option.map_eq_some_iff, Prod.exists, Prod.mk.injEq] at k6
    obtain ⟨u2, a6, k6, rfl, rfl⟩ := k6
    unfold inF at k6
    rw [if_neg (by decide)] at k6
    simp only [Option.bind_some] at k6
    rw [if_neg (by decide)] at k6
    simp only [Option.bind_eq_some_iff, Prod.exists] at k6
    obtain ⟨u3, a7, k8, k9⟩ := k6
    split at k9
    · cases k9
    simp only [Option.some.injEq, Prod.mk.injEq] at k9
    obtain ⟨rfl, rfl⟩ := k9
    have len3 : 2 < T2.length := (List.getElem?_eq_some_iff.1 hw).1
    have D2 : Bd T2 2 ⟨2, 2, false, 0, 0⟩ := ⟨len3, Nat.le_refl _, by decide⟩
    have s7 := ((expF_tot H.k2 41 2 (by decide)).st D2 k8).1
    have s8 := (must_st H.k2 (p := { { a7 with deep := a7.deep - 1 } with flat := false }) s7.lt k7).1
    have z7 : a7.e = 0 := s8.e0 za
    obtain ⟨R, hs⟩ := expF_rel H 42 41 1 2 (by decide) (by decide) _ _ _ _ _ _ B1 D2 k1 k8 ⟨Nat.le_refl _, rfl, rfl, rfl, rfl⟩ (.inr ⟨z1, z7⟩)
    have hq : q1.pos + 1 = T1.length := by
      unfold lookF at l1; rw [if_pos z1] at l1
      exact hz _ _ l1 hv1
    have p7 : a7.pos = T1.length := by rw [R.pos]; exact hq
    obtain ⟨bb, a9, m1, m2⟩ := must_inv k7
    obtain ⟨cc, l9, e9, m3⟩ := may_inv m1
    have hcc : cc = c := by
      unfold lookF at l9
      rw [if_pos (by exact z7)] at l9
      have l9' : T2[a7.pos]? = some cc := l9
      rw [p7, hc] at l9'
      exact (Option.some.inj l9').symm
    subst hcc
    cases hbb : bb with
    | false =>
      rw [hbb] at m2
      simp only [Bool.false_eq_true, if_false] at m2
      exact absurd za (fail_ne m2 (by decide))
    | true =>
      rw [hbb] at m2 m3
      simp only [if_true] at m2 m3
      subst m2
      obtain ⟨_, e10⟩ := take_inv m3
      rw [if_pos ⟨z7, by rw [ck]; decide⟩] at e10
      have hlast : lookF T2 a5 = some e := by
        unfold lookF
        rw [if_pos za, e10]
        show T2[a7.pos + 1]? = _
        rw [p7]; exact he
      obtain ⟨rfl, _⟩ := hfin z2 ⟨e, hlast, ek⟩
      exact hs
end Go.AL
