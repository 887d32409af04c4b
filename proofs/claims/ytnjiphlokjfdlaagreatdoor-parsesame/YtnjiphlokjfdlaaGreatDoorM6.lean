import Derived.Test.YtnjiphlokjfdlaaGreatDoorP4
set_option linter.unusedSimpArgs false
set_option linter.unusedVariables false
namespace Go.AL
mutual
def sameB : Nd → Nd → Bool
  | .mk k t n _ ns ks,.mk k' t' n' _ ns' ks' => decide (k = k') && decide (t = t') && decide (n = n') && decide (ns = ns') && sameBs ks ks'
def sameBs : List Nd → List Nd → Bool
  | [],[] => true
  | a :: l,b :: r => sameB a b && sameBs l r
  | _,_ => false
end
theorem sameBs_len : ∀ {l1 l2 : List Nd},sameBs l1 l2 = true → l1.length = l2.length
  | [],[],_ => rfl
  | a :: l,b :: r,h => by
    simp only [sameBs,Bool.and_eq_true] at h
    simp [sameBs_len h.2]
  | [],_ :: _,h => by simp [sameBs] at h
  | _ :: _,[],h => by simp [sameBs] at h
theorem same_parts {a b : Nd} (h : sameB a b = true) : a.kind = b.kind ∧ a.text = b.text ∧ a.num = b.num ∧ a.names = b.names ∧ sameBs a.kids b.kids = true := by
  cases a; cases b
  simp only [sameB,Bool.and_eq_true,decide_eq_true_eq] at h
  obtain ⟨⟨⟨⟨h1,h2⟩,h3⟩,h4⟩,h5⟩ := h
  exact ⟨h1,h2,h3,h4,h5⟩
structure Rel (d lo : Nat) (p1 p2 : PS) : Prop where
  lo : lo ≤ p1.pos
  pos : p2.pos = p1.pos + d
  deep : p2.deep = p1.deep + d
  flat : p2.flat = p1.flat
  e : p2.e = p1.e
def Ok (ex : Bool) (q1 q2 : PS) : Prop := ex = true ∨ (q1.e = 0 ∧ q2.e = 0)
def Sm (t1 t2 : Tk) : Prop := t1.kind = t2.kind ∧ t1.text = t2.text ∧ t1.num = t2.num
structure TR (ex : Bool) (d lo : Nat) (T1 T2 : List Tk) : Prop where
  k1 : TOK T1
  k2 : TOK T2
  dx : ex = true → d = 0
  tk : ∀ i,lo ≤ i → i < T1.length → ∃ t1 t2,T1[i]? = some t1 ∧ T2[i + d]? = some t2 ∧ (Sm t1 t2 ∨ (ex = false ∧ i + 1 = T1.length ∧ t1.kind = 0 ∧ t2.kind = 5 ∧ t2.text = [41]))
structure Bd (T : List Tk) (m : Nat) (p : PS) : Prop where
  lt : p.pos < T.length
  lo : m ≤ p.deep
  hi : p.deep ≤ 40
variable {ex : Bool} {d lo : Nat} {T1 T2 T : List Tk}
theorem Bd.next {m : Nat} {p q : PS} (b : Bd T m p) (s : Step T p q) : Bd T m q := ⟨s.lt,by rw [s.deep]; exact b.lo,by rw [s.deep]; exact b.hi⟩
theorem Ok.f {q1 q2 : PS} (h : Ok ex q1 q2) (hx : ex = false) : q1.e = 0 ∧ q2.e = 0 := h.resolve_left (by rw [hx]; decide)
theorem Tot.st {m : Nat} {e : PM Nd} (h : Tot T m e) {p : PS} (b : Bd T m p) {r : Nd} {q : PS} (hr : e p = some (r,q)) : Step T p q ∧ Strict p q := by
  obtain ⟨nd,q',h1,h2,h3,_⟩ := h p b.lt b.lo b.hi
  rw [h1] at hr; cases hr; exact ⟨h2,h3⟩
def TkR (ex : Bool) (T1 : List Tk) (p1 : PS) (t1 t2 : Tk) : Prop := Sm t1 t2 ∨ (ex = false ∧ p1.pos + 1 = T1.length ∧ p1.e = 0 ∧ t1.kind = 0 ∧ t2.kind = 5 ∧ t2.text = [41])
theorem Sm.isT {t1 t2 : Tk} (h : Sm t1 t2) (s : Tx) : isT t1 s = isT t2 s := by unfold AL.isT; rw [h.1,h.2.1]
theorem TkR.isT {p1 : PS} {t1 t2 : Tk} (h : TkR ex T1 p1 t1 t2) {s : Tx} (hs : s ≠ [41]) : isT t1 s = isT t2 s := by
  rcases h with h | ⟨_,_,_,h1,h2,h3⟩
  · exact h.isT s
  · unfold AL.isT
    have e : ([41] == s) = false := beq_eq_false_iff_ne.2 (fun h => hs h.symm)
    rw [h1,h2,h3,e]; simp
theorem TkR.kind {p1 : PS} {t1 t2 : Tk} (h : TkR ex T1 p1 t1 t2) {k : Int} (h0 : k ≠ 0) (h5 : k ≠ 5) : (t1.kind = k) = (t2.kind = k) := by
  rcases h with h | ⟨_,_,_,h1,h2,h3⟩
  · rw [h.1]
  · rw [h1,h2]; exact propext ⟨fun x => absurd x.symm h0,fun x => absurd x.symm h5⟩
theorem is_inv {p : PS} {s : Tx} {b : Bool} (h : isF T s p = some b) : ∃ t,lookF T p = some t ∧ b = isT t s := by
  unfold isF at h
  cases hl : lookF T p with
  | none => rw [hl] at h; cases h
  | some t => rw [hl] at h; cases h; exact ⟨t,rfl,rfl⟩
theorem take_inv {p q : PS} {t : Tk} (h : takeF T p = some (t,q)) : lookF T p = some t ∧ q = if p.e = 0 ∧ t.kind ≠ 0 then { p with pos := p.pos + 1 } else p := by
  unfold takeF at h
  cases hl : lookF T p with
  | none => rw [hl] at h; cases h
  | some u => rw [hl] at h; cases h; exact ⟨rfl,rfl⟩
theorem take_st (hT : TOK T) {p q : PS} (hp : p.pos < T.length) {t : Tk} (h : takeF T p = some (t,q)) : Step T p q ∧ (t.kind ≠ 0 → Strict p q) := by
  obtain ⟨h1,_⟩ := take_inv h
  obtain ⟨q',h2,h3,_,h4,_⟩ := take_ok hT hp h1
  rw [h2] at h; cases h
  exact ⟨h3,fun k _ _ => by have := (h4 k).2; omega⟩
theorem may_st (hT : TOK T) {p q : PS} (hp : p.pos < T.length) {s : Tx} {b : Bool} (h : mayF T s p = some (b,q)) : Step T p q := by
  obtain ⟨b',q',h1,h2,_⟩ := may_ok hT hp s
  rw [h1] at h; cases h; exact h2
theorem may_inv {p q : PS} {s : Tx} {b : Bool} (h : mayF T s p = some (b,q)) : ∃ t,lookF T p = some t ∧ b = isT t s ∧ (if b = true then takeF T p = some (t,q) else q = p) := by
  unfold mayF at h
  simp only [Option.bind_eq_some_iff] at h
  obtain ⟨b',h1,h2⟩ := h
  obtain ⟨t,h3,rfl⟩ := is_inv h1
  cases hb : isT t s with
  | true =>
    rw [hb] at h2
    simp only [if_true,Option.map_eq_some_iff,Prod.exists,Prod.mk.injEq] at h2
    obtain ⟨u,q',h4,rfl,rfl⟩ := h2
    obtain ⟨h5,_⟩ := take_inv h4
    rw [h3] at h5; cases h5
    exact ⟨t,h3,hb.symm,by simpa using h4⟩
  | false =>
    rw [hb] at h2
    simp only [Bool.false_eq_true,if_false,Option.some.injEq,Prod.mk.injEq] at h2
    obtain ⟨rfl,rfl⟩ := h2
    exact ⟨t,h3,hb.symm,by simp⟩
theorem fail_inv {p q : PS} {e : Int} (h : failF T e p = some q) : q.pos = p.pos ∧ q.deep = p.deep ∧ q.flat = p.flat ∧ q.e = if p.e = 0 then e else p.e := by
  unfold failF at h
  by_cases c : p.e = 0
  · rw [if_pos c] at h ⊢
    cases hx : T[p.pos]? with
    | none => rw [hx] at h; cases h
    | some t => rw [hx] at h; cases h; exact ⟨rfl,rfl,rfl,rfl⟩
  · rw [if_neg c] at h ⊢; cases h; exact ⟨rfl,rfl,rfl,rfl⟩
theorem fail_ne {p q : PS} {e : Int} (h : failF T e p = some q) (he : e ≠ 0) : q.e ≠ 0 := by
  rw [(fail_inv h).2.2.2]; split
  · exact he
  · assumption
theorem fail_st {p q : PS} (hp : p.pos < T.length) {e : Int} (h : failF T e p = some q) : Step T p q := by
  unfold failF at h
  by_cases c : p.e = 0
  · rw [if_pos c] at h
    cases hx : T[p.pos]? with
    | none => rw [hx] at h; cases h
    | some t => rw [hx] at h; cases h; exact ⟨rfl,rfl,Nat.le_refl _,hp,fun x => absurd c x⟩
  · rw [if_neg c] at h; cases h; exact .refl hp
theorem must_inv {p q : PS} {s : Tx} (h : mustF T s p = some q) : ∃ b q',mayF T s p = some (b,q') ∧ (if b = true then q = q' else failF T 14 q' = some q) := by
  unfold mustF at h
  simp only [Option.bind_eq_some_iff,Prod.exists] at h
  obtain ⟨b,q',h1,h2⟩ := h
  refine ⟨b,q',h1,?_⟩
  cases b with
  | true => simp only [if_true,Option.some.injEq] at h2 ⊢; exact h2.symm
  | false => simpa using h2
theorem must_st (hT : TOK T) {p q : PS} (hp : p.pos < T.length) {s : Tx} (h : mustF T s p = some q) : Step T p q ∧ Strict p q := by
  obtain ⟨q',h1,h2,h3⟩ := must_ok hT hp s
  rw [h1] at h; cases h; exact ⟨h2,h3⟩
theorem word_inv {p q : PS} {k : Int} {t : Tk} (h : wordF T k p = some (t,q)) : ∃ u p1,lookF T p = some u ∧ (if u.kind ≠ k then failF T 14 p = some p1 else p1 = p) ∧ takeF T p1 = some (t,q) := by
  unfold wordF at h
  simp only [Option.bind_eq_some_iff] at h
  obtain ⟨u,h1,p1,h2,h3⟩ := h
  refine ⟨u,p1,h1,?_,h3⟩
  by_cases c : u.kind ≠ k
  · rw [if_pos c] at h2 ⊢; exact h2
  · rw [if_neg c] at h2 ⊢; exact (Option.some.inj h2).symm
theorem word_st (hT : TOK T) {p q : PS} (hp : p.pos < T.length) {k : Int} (hk : k ≠ 0) {t : Tk} (h : wordF T k p = some (t,q)) : Step T p q ∧ Strict p q := by
  obtain ⟨t',q',h1,h2,h3,_⟩ := word_ok hT hp hk
  rw [h1] at h; cases h; exact ⟨h2,h3⟩
theorem most_st {p q : PS} (hp : p.pos < T.length) {n m : Int} (h : mostF T n m p = some q) : Step T p q := by
  unfold mostF at h
  split at h
  · exact fail_st hp h
  · cases h; exact .refl hp
end Go.AL
namespace Go.AL
variable {ex : Bool} {d lo : Nat} {T1 T2 T : List Tk} {m k : Nat}
theorem bd_in {p : PS} (B : Bd T m p) (h : ¬ 40 ≤ p.deep) : Bd T (m + 1) { p with deep := p.deep + 1 } := ⟨B.lt,by show m + 1 ≤ p.deep + 1; have := B.lo; omega,by show p.deep + 1 ≤ 40; omega⟩
theorem namesL_st (hT : TOK T) : ∀ (n : Nat) (nd : Nd) (p : PS) (r : Nd) (q : PS),Bd T m p → namesL T n nd p = some (r,q) → Step T p q
  | 0,nd,p,r,q,B,h => by cases h
  | n + 1,nd,p,r,q,B,h => by
    unfold namesL at h
    simp only [Option.bind_eq_some_iff] at h
    obtain ⟨t,k1,h⟩ := h
    split at h
    · simp only [Option.bind_eq_some_iff,Prod.exists] at h
      obtain ⟨a1,k2,u,a2,k3,h⟩ := h
      have s1 := most_st B.lt k2
      have s2 := (take_st hT s1.lt k3).1
      exact (s1.trans s2).trans (namesL_st hT n _ _ _ _ ((B.next s1).next s2) h)
    · cases h; exact .refl B.lt
theorem consL_st (hT : TOK T) {e : PM Nd} (A : Tot T (m + 1) e) : ∀ (n : Nat) (more : Bool) (nd : Nd) (p : PS) (r : Nd) (q : PS),Bd T m p → consL T e n more nd p = some (r,q) → Step T p q
  | 0,more,nd,p,r,q,B,h => by cases h
  | n + 1,more,nd,p,r,q,B,h => by
    unfold consL at h
    split at h
    · simp only [Option.bind_eq_some_iff,Prod.exists] at h
      obtain ⟨a1,k1,n1,a2,k2,b,a3,k3,h⟩ := h
      have s1 := most_st B.lt k1
      have s2 := ((con_tot hT A).st (B.next s1) k2).1
      have s3 := may_st hT s2.lt k3
      exact (s1.trans (s2.trans s3)).trans (consL_st hT A n _ _ _ _ _ (((B.next s1).next s2).next s3) h)
    · cases h; exact .refl B.lt
end Go.AL
namespace Go.AL
variable {ex : Bool} {d lo : Nat} {T1 T2 T : List Tk} {m k : Nat}
theorem patL_st (hT : TOK T) {e : PM Nd} (A : Tot T (m + 1) e) : ∀ (n : Nat) (c : Bool) (nd : Nd) (p : PS) (r : Nd) (q : PS),Bd T m p → patL T e n c nd p = some (r,q) → Step T p q
  | 0,c,nd,p,r,q,B,h => by cases h
  | n + 1,c,nd,p,r,q,B,h => by
    unfold patL at h
    split at h
    · simp only [Option.bind_eq_some_iff] at h
      obtain ⟨b,k0,h⟩ := h
      split at h
      · simp only [Option.bind_eq_some_iff,Prod.exists] at h
        obtain ⟨a1,k1,n1,a2,k2,h⟩ := h
        have s1 := most_st B.lt k1
        have s2 := ((patom_tot hT A).st (B.next s1) k2).1
        exact (s1.trans s2).trans (patL_st hT A n _ _ _ _ _ ((B.next s1).next s2) h)
      · cases h; exact .refl B.lt
    · cases h; exact .refl B.lt
theorem bd_flat {p : PS} (B : Bd T m p) (f : Bool) : Bd T m { p with flat := f } := ⟨B.lt,B.lo,B.hi⟩
structure Row (T : List Tk) (e pt : PM Nd) (nd : Nd) (p : PS) (c w : Nd) (q : PS) : Prop where
  h : ∃ p1 p2 p3 p4,mostF T (Int.tdiv nd.kids.length 2) 20 p = some p1 ∧ mustF T [124] p1 = some p2 ∧ inF T pt p2 = some (c,p3) ∧ mustF T [45,62] p3 = some p4 ∧ wholeF T e p4 = some (w,q)
theorem row_st (hT : TOK T) {e pt : PM Nd} (A : Tot T (m + 1) e) (P : Tot T (m + 1) pt) {nd c w : Nd} {p q : PS} (B : Bd T m p) (h : Row T e pt nd p c w q) : Step T p q := by
  obtain ⟨p1,p2,p3,p4,k1,k2,k3,k4,k5⟩ := h.h
  have s1 := most_st B.lt k1
  have s2 := (must_st hT s1.lt k2).1
  have s3 := ((in_tot hT P).st ((B.next s1).next s2) k3).1
  have s4 := (must_st hT s3.lt k4).1
  have s5 := ((whole_tot hT A).st ((((B.next s1).next s2).next s3).next s4) k5).1
  exact s1.trans (s2.trans (s3.trans (s4.trans s5)))
theorem matchL_inv {e pt : PM Nd} {n : Nat} {nd : Nd} {p q : PS} {r : Nd} {f : Bool} (h : matchL T e pt (n + 1) f nd p = some (r,q)) : ∃ b,(if f = true then some true else isF T [124] p) = some b ∧ ((b = false ∧ r = nd ∧ q = p) ∨ (b = true ∧ ∃ c w p5,Row T e pt nd p c w p5 ∧ matchL T e pt n false (nd.addKids [c,w]) p5 = some (r,q))) := by
  unfold matchL at h
  simp only [Option.bind_eq_some_iff] at h
  obtain ⟨b,k0,h⟩ := h
  refine ⟨b,k0,?_⟩
  cases b with
  | false => simp only [Bool.false_eq_true,if_false,Option.some.injEq,Prod.mk.injEq] at h; exact .inl ⟨rfl,h.1.symm,h.2.symm⟩
  | true =>
    simp only [if_true,Option.bind_eq_some_iff,Prod.exists] at h
    obtain ⟨p1,k1,p2,k2,c,p3,k3,p4,k4,w,p5,k5,h⟩ := h
    exact .inr ⟨rfl,c,w,p5,⟨p1,p2,p3,p4,k1,k2,k3,k4,k5⟩,h⟩
theorem matchL_st (hT : TOK T) {e pt : PM Nd} (A : Tot T (m + 1) e) (P : Tot T (m + 1) pt) : ∀ (n : Nat) (f : Bool) (nd : Nd) (p : PS) (r : Nd) (q : PS),Bd T m p → matchL T e pt n f nd p = some (r,q) → Step T p q
  | 0,f,nd,p,r,q,B,h => by cases h
  | n + 1,f,nd,p,r,q,B,h => by
    obtain ⟨b,_,h⟩ := matchL_inv h
    rcases h with ⟨_,_,rfl⟩ | ⟨_,c,w,p5,hr,h⟩
    · exact .refl B.lt
    · have s := row_st hT A P B hr
      exact s.trans (matchL_st hT A P n _ _ _ _ _ (B.next s) h)
end Go.AL
namespace Go.AL
variable {ex : Bool} {d lo : Nat} {T1 T2 T : List Tk} {m k : Nat}
theorem appL_st (hT : TOK T) {e pt : PM Nd} (A : Tot T (m + 1) e) (P : Tot T (m + 1) pt) : ∀ (n : Nat) (bare : Bool) (nd : Nd) (p : PS) (r : Nd) (q : PS),Bd T m p → appL T e pt n bare nd p = some (r,q) → Step T p q
  | 0,bare,nd,p,r,q,B,h => by cases h
  | n + 1,bare,nd,p,r,q,B,h => by
    unfold appL at h
    simp only [Option.bind_eq_some_iff] at h
    obtain ⟨t,k0,h⟩ := h
    split at h
    · cases bare with
      | true =>
        simp only [if_true,Option.bind_eq_some_iff,Prod.exists] at h
        obtain ⟨a1,k1,c,a2,k2,h⟩ := h
        have s1 := most_st B.lt k1
        have s2 := ((atom_tot hT A P).st (B.next s1) k2).1
        exact (s1.trans s2).trans (appL_st hT A P n _ _ _ _ _ ((B.next s1).next s2) h)
      | false =>
        simp only [Bool.false_eq_true,if_false,Option.bind_eq_some_iff,Prod.exists] at h
        obtain ⟨c,a2,k2,h⟩ := h
        have s2 := ((atom_tot hT A P).st B k2).1
        exact s2.trans (appL_st hT A P n _ _ _ _ _ (B.next s2) h)
    · cases h; exact .refl B.lt
theorem value_inv {e : PM Nd} {p q : PS} {x : Tx} {rc : Bool} {v : Nd} (h : valueF T e p = some ((x,rc,v),q)) : ∃ p1 t p2 p3 p4,mayF T [114,101,99] p = some (rc,p1) ∧ wordF T 3 p1 = some (t,p2) ∧ x = t.text ∧ mustF T [61] p2 = some p3 ∧
    (if rc = true ∧ p3.deep < 40 then (isF T [102,117,110] p3).bind fun b => if b then some p3 else failF T 14 p3 else some p3) = some p4 ∧ inF T e p4 = some (v,q) := by
  unfold valueF at h
  simp only [Option.bind_eq_some_iff,Option.map_eq_some_iff,Prod.exists,Prod.mk.injEq] at h
  obtain ⟨b,p1,k1,t,p2,k2,p3,k3,p4,k4,n,p5,k5,⟨rfl,rfl,rfl⟩,rfl⟩ := h
  exact ⟨p1,t,p2,p3,p4,k1,k2,rfl,k3,k4,k5⟩
theorem rec_st {p3 p4 : PS} {rc : Bool} (hp : p3.pos < T.length) (h : (if rc = true ∧ p3.deep < 40 then (isF T [102,117,110] p3).bind fun b => if b then some p3 else failF T 14 p3 else some p3) = some p4) : Step T p3 p4 := by
  split at h
  · simp only [Option.bind_eq_some_iff] at h
    obtain ⟨b,_,h⟩ := h
    split at h
    · cases h; exact .refl hp
    · exact fail_st hp h
  · cases h; exact .refl hp
theorem value_st (hT : TOK T) {e : PM Nd} (A : Tot T (m + 1) e) {p q : PS} {x : Tx} {rc : Bool} {v : Nd} (B : Bd T m p) (h : valueF T e p = some ((x,rc,v),q)) : Step T p q ∧ Strict p q := by
  obtain ⟨p1,t,p2,p3,p4,k1,k2,_,k3,k4,k5⟩ := value_inv h
  have s1 := may_st hT B.lt k1
  obtain ⟨s2,x2⟩ := word_st hT s1.lt (by decide) k2
  have s3 := (must_st hT s2.lt k3).1
  have s4 := rec_st s3.lt k4
  have s5 := ((in_tot hT A).st ((((B.next s1).next s2).next s3).next s4) k5).1
  have sr := s3.trans (s4.trans s5)
  exact ⟨s1.trans (s2.trans sr),Strict.r s1 (s2.trans sr) (x2.l sr)⟩
end Go.AL
namespace Go.AL
variable {ex : Bool} {d lo : Nat} {T1 T2 T : List Tk} {m k : Nat}
theorem decl_st (hT : TOK T) {e ty : PM Nd} (A : Tot T (m + 1) e) (Y : Tot T (m + 1) ty) {p q : PS} {r : Nd} (B : Bd T m p) (hf : p.flat = false) (h : declF T e ty p = some (r,q)) : Step T p q := by
  obtain ⟨nd,q',h1,h2,_⟩ := decl_ok hT A Y B.lt B.lo B.hi hf
  rw [h1] at h; cases h; exact h2
theorem progL_inv {e ty : PM Nd} {n : Nat} {nd r : Nd} {p q : PS} (h : progL T e ty (n + 1) nd p = some (r,q)) : ∃ a b,isF T [116,121,112,101] p = some a ∧ (if a = true then some true else isF T [108,101,116] p) = some b ∧
    ((b = false ∧ r = nd ∧ q = p) ∨ (b = true ∧ ∃ p1 c p2,mostF T nd.kids.length 60 p = some p1 ∧ declF T e ty p1 = some (c,p2) ∧ progL T e ty n (nd.addKid c) p2 = some (r,q))) := by
  unfold progL at h
  simp only [Option.bind_eq_some_iff] at h
  obtain ⟨a,k0,b,k1,h⟩ := h
  refine ⟨a,b,k0,k1,?_⟩
  cases b with
  | false => simp only [Bool.false_eq_true,if_false,Option.some.injEq,Prod.mk.injEq] at h; exact .inl ⟨rfl,h.1.symm,h.2.symm⟩
  | true =>
    simp only [if_true,Option.bind_eq_some_iff,Prod.exists] at h
    obtain ⟨p1,k2,c,p2,k3,h⟩ := h
    exact .inr ⟨rfl,p1,c,p2,k2,k3,h⟩
end Go.AL
