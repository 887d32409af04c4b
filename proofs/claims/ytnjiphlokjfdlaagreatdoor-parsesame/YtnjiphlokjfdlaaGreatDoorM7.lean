import Derived.Test.YtnjiphlokjfdlaaGreatDoorM5
import Derived.Test.YtnjiphlokjfdlaaGreatDoorM6
import Derived.Test.YtnjiphlokjfdlaaGreatDoorP13
import Derived.Test.YtnjiphlokjfdlaaGreatDoorN7
set_option linter.unusedSimpArgs false
set_option linter.unusedVariables false
namespace Go.AL
variable {T : List Tk} {m : Nat}
structure TKS (T : List Tk) : Prop where
  tok : TOK T
  key : ∀ t ∈ T,t.kind = 6 → t.text ∈ keysL
  sgn : ∀ t ∈ T,t.kind = 5 → t.text ∉ keysL
def SimO (x y : Option (Nd × PS)) : Prop := ∀ r q,x = some (r,q) → ∃ r',y = some (r',q) ∧ (q.e = 0 → r' = r)
def SimF (T : List Tk) (m : Nat) (F G : PM Nd) : Prop := ∀ p : PS,Bd T m p → SimO (F p) (G p)
theorem look_e {p : PS} {t : Tk} (h : lookF T p = some t) (hk : t.kind ≠ 0) : p.e = 0 := by
  by_cases c : p.e = 0
  · exact c
  · unfold lookF at h; rw [if_neg c] at h; cases h; exact absurd rfl hk
theorem look_err {p : PS} {t : Tk} (h : lookF T p = some t) (c : ¬ p.e = 0) : t = tk0 := by
  unfold lookF at h; rw [if_neg c] at h; cases h; rfl
theorem look_mem {p : PS} {t : Tk} (h : lookF T p = some t) (hk : t.kind ≠ 0) : t ∈ T := by
  have c := look_e h hk
  unfold lookF at h; rw [if_pos c] at h; exact List.mem_of_getElem? h
theorem step_of {p q : PS} {t u : Tk} (h : lookF T p = some t) (hk : t.kind ≠ 0) (ht : takeF T p = some (u,q)) : stepR T p = some (t,q) ∧ u = t := by
  have he := look_e h hk
  have h2 := (take_inv ht).1
  rw [h] at h2; cases h2
  refine ⟨?_,rfl⟩
  unfold stepR; unfold takeF at ht
  rw [h] at ht ⊢
  simp only [Option.map_some,he,hk,ne_eq,not_false_eq_true,and_self,if_true,Option.some.injEq,Prod.mk.injEq] at ht
  obtain ⟨_,rfl⟩ := ht
  simp only [Option.map_some,hk,if_false,he]
theorem may_is {p q : PS} {s : Tx} {b : Bool} (k : mayF T s p = some (b,q)) : ∃ t,lookF T p = some t ∧ isT t s = b ∧ isF T s p = some b ∧ (b = true → stepR T p = some (t,q) ∧ p.e = 0) ∧ (b = false → q = p) := by
  obtain ⟨t,h1,h2,h3⟩ := may_inv k
  refine ⟨t,h1,h2.symm,by unfold isF; rw [h1,h2]; rfl,fun hb => ?_,fun hb => ?_⟩
  · rw [if_pos hb] at h3
    have hk := isT_kind (h2.symm.trans hb)
    exact ⟨(step_of h1 hk h3).1,look_e h1 hk⟩
  · rw [hb] at h3; simpa using h3
theorem must_is {p q : PS} {s : Tx} {t : Tk} (h : lookF T p = some t) (hs : isT t s = true) (k : mustF T s p = some q) : stepR T p = some (t,q) := by
  obtain ⟨b,q',h1,h2⟩ := must_inv k
  obtain ⟨t',g1,g2,_,g3,_⟩ := may_is h1
  rw [h] at g1; cases g1
  rw [hs] at g2; subst g2
  rw [if_pos rfl] at h2; subst h2
  exact (g3 rfl).1
theorem word_at {p q : PS} {k : Int} {t u : Tk} (h : lookF T p = some u) (k1 : wordF T k p = some (t,q)) (z : q.e = 0) : t = u := by
  obtain ⟨v,p1,h1,h2,h3⟩ := word_inv k1
  rw [h] at h1; cases h1
  have ht := take_inv h3
  by_cases c : u.kind = k
  · rw [if_neg (by simp [c])] at h2; subst h2
    rw [h] at ht; exact (Option.some.inj ht.1).symm
  · rw [if_pos c] at h2
    have hne := fail_ne h2 (by decide)
    have hq := ht.2
    rw [if_neg (fun x => hne x.1)] at hq
    subst hq; exact absurd z hne
theorem cap_most {n N : Nat} {p : PS} (h : n ≤ N) : capR T (n = N) p = mostF T n N p := by
  unfold capR mostF
  by_cases c : n = N
  · rw [if_pos c,if_pos (by omega)]
  · rw [if_neg c,if_neg (by omega)]
theorem most_lt {n M : Int} {p q : PS} (h : mostF T n M p = some q) (z : q.e = 0) : n < M := by
  unfold mostF at h
  split at h
  · exact absurd z (fail_ne h (by decide))
  · omega
theorem most_fail {n M : Int} {p : PS} (h : M ≤ n) : mostF T n M p = failF T 16 p := by unfold mostF; rw [if_pos h]
theorem most_ok' {n M : Int} {p q : PS} (h : n < M) (k : mostF T n M p = some q) : q = p := by unfold mostF at k; rw [if_neg (by omega)] at k; exact (Option.some.inj k).symm
theorem sim_deep {e g : PM Nd} (he : SimF T (m + 1) e g) : SimF T m (inF T e) (deepR T g) := by
  intro p B r q h
  unfold inF at h
  have hi := B.hi
  have hc : (40 ≤ p.deep) = (p.deep = 40) := propext ⟨fun h => by omega,fun h => by omega⟩
  simp only [hc,Option.bind_eq_some_iff] at h
  obtain ⟨p1,h1,h⟩ := h
  unfold deepR
  rw [if_neg (by omega),h1]; simp only [Option.bind_some]
  by_cases c : p1.e ≠ 0
  · rw [if_pos c] at h ⊢; cases h; exact ⟨_,rfl,fun _ => rfl⟩
  · rw [if_neg c] at h ⊢
    have h40 : ¬ p.deep = 40 := fun x => by
      rw [if_pos x] at h1
      exact c (fail_ne h1 (by decide))
    rw [if_neg h40] at h1; cases h1
    simp only [Option.bind_eq_some_iff,Prod.exists] at h
    obtain ⟨x,p2,k2,h⟩ := h
    obtain ⟨x',g1,g2⟩ := he _ (bd_in B (by omega)) _ _ k2
    rw [g1]; simp only [Option.bind_some]
    split at h
    · cases h
    · rename_i c2
      cases h
      rw [if_neg c2]
      exact ⟨x',rfl,fun z => g2 z⟩
theorem sim_none {G : PM Nd} : SimF T m (fun _ => none) G := fun p B r q h => by cases h
theorem tyL_sim (hT : TOK T) {e g : PM Nd} (A : Tot T (m + 1) e) (he : SimF T m (inF T e) g) : ∀ (n : Nat) (nd nd' : Nd) (p : PS),Bd T m p → (p.e = 0 → nd' = nd) → SimO (tyL T e n nd p) (tyRL T g n nd' p)
  | 0,nd,nd',p,B,hn => fun r q h => by cases h
  | n + 1,nd,nd',p,B,hn => fun r q h => by
    unfold tyL at h
    simp only [Option.bind_eq_some_iff] at h
    obtain ⟨t,k1,h⟩ := h
    by_cases c0 : p.e = 0
    rotate_left
    · have ht := look_err k1 c0
      subst ht
      rw [if_neg (by decide)] at h
      simp only [Option.bind_eq_some_iff] at h
      obtain ⟨b,k2,h⟩ := h
      have hb : b = false := by unfold isF at k2; rw [k1] at k2; cases k2; rfl
      subst hb
      cases h
      exact ⟨nd',by unfold tyRL; rw [if_neg c0],fun z => absurd z c0⟩
    obtain rfl := hn c0
    unfold tyRL
    rw [if_pos c0,k1]; simp only [Option.bind_some]
    split at h
    · rename_i c
      simp only [Option.bind_eq_some_iff,Prod.exists] at h
      obtain ⟨u,a,k2,h⟩ := h
      obtain ⟨g1,rfl⟩ := step_of k1 (by omega) k2
      rw [if_pos c,g1]; simp only [Option.bind_some]
      exact tyL_sim hT A he n _ _ _ (B.next (take_st hT B.lt k2).1) (fun _ => rfl) _ _ h
    · rename_i c
      simp only [Option.bind_eq_some_iff] at h
      obtain ⟨b,k2,h⟩ := h
      obtain ⟨u,hu,rfl⟩ := is_inv k2
      rw [k1] at hu; cases hu
      rw [if_neg c]
      split at h
      · rename_i cb
        simp only [Option.bind_eq_some_iff,Prod.exists] at h
        obtain ⟨x,p1,k3,h⟩ := h
        rw [if_pos cb]
        unfold roundF at k3
        simp only [Option.bind_eq_some_iff,Option.map_eq_some_iff,Prod.exists,Prod.mk.injEq] at k3
        obtain ⟨p2,k4,y,p3,k5,p4,k6,rfl,rfl⟩ := k3
        have s1 := (must_st hT B.lt k4).1
        have s2 := ((in_tot hT A).st (B.next s1) k5).1
        have s3 := (must_st hT s2.lt k6).1
        obtain ⟨x',g2,e2⟩ := he _ (B.next s1) _ _ k5
        rw [must_is k1 cb k4]; simp only [Option.bind_some,g2,k6]
        exact tyL_sim hT A he n _ _ _ (((B.next s1).next s2).next s3) (fun z => by rw [e2 (s3.e0 z)]) _ _ h
      · rename_i cb
        cases h
        rw [if_neg cb]
        exact ⟨_,rfl,fun _ => rfl⟩
theorem ty_sim (hT : TOK T) {e g : PM Nd} (A : Tot T (m + 1) e) (he : SimF T m (inF T e) g) : SimF T m (tyS T e) (tyB T g) := by
  intro p B r q h
  unfold tyS at h
  simp only [Option.bind_eq_some_iff,Prod.exists] at h
  obtain ⟨t,p1,k1,h⟩ := h
  obtain ⟨u,_,hu,_⟩ := word_inv k1
  unfold tyB atR textR
  rw [hu,k1]; simp only [Option.map_some,Option.bind_some]
  exact tyL_sim hT A he _ _ _ _ (B.next (word_st hT B.lt (by decide) k1).1) (fun z => by rw [word_at hu k1 z]) _ _ h
theorem tyI_sim (hT : TOK T) : ∀ (n m : Nat),42 ≤ m + n → SimF T m (inF T (tyF T n)) (deepR T (tyI T n))
  | 0,m,h => sim_deep sim_none
  | n + 1,m,h => sim_deep (ty_sim hT (tyF_tot hT n (m + 2) (by omega)) (tyI_sim hT n (m + 1) (by omega)))
theorem conL_sim (hT : TOK T) {e g : PM Nd} (A : Tot T (m + 1) e) (he : SimF T m (inF T e) g) : ∀ (n : Nat) (s : Tx) (b : Bool) (nd nd' : Nd) (p0 p : PS),mayF T s p0 = some (b,p) → Bd T m p0 → (p.e = 0 → nd' = nd ∧ nd.kids.length ≤ 4) → SimO (conL T e n b nd p) (conRL T g n b nd' p0)
  | 0,s,b,nd,nd',p0,p,k0,B,hn => fun r q h => by cases h
  | n + 1,s,b,nd,nd',p0,p,k0,B,hn => fun r q h => by
    obtain ⟨t,h1,h2,h3,h4,h5⟩ := may_is k0
    unfold conL at h; unfold conRL
    cases b with
    | false =>
      obtain rfl := h5 rfl
      simp only [Bool.false_eq_true,false_and,if_false] at h ⊢
      cases h
      exact ⟨_,rfl,fun z => (hn z).1⟩
    | true =>
      have s0 := may_st hT B.lt k0
      have e0 := (h4 rfl).2
      have ep : p.e = 0 := by
        obtain ⟨b',q',k',_,he',_⟩ := may_ok hT B.lt s
        rw [k0] at k'; cases k'; exact he'.trans e0
      obtain ⟨rfl,hl⟩ := hn ep
      rw [if_pos ⟨rfl,ep⟩] at h
      rw [if_pos ⟨rfl,e0⟩,(h4 rfl).1]
      simp only [Option.bind_eq_some_iff,Prod.exists] at h
      obtain ⟨p1,k1,x,p2,k2,b2,p3,k3,h⟩ := h
      have B1 := (B.next s0).next (most_st s0.lt k1)
      have s2 := ((in_tot hT A).st B1 k2).1
      obtain ⟨x',g2,e2⟩ := he _ B1 _ _ k2
      simp only [Option.bind_some]
      rw [cap_most hl,show mostF T (nd'.kids.length : Int) ((4 : Nat) : Int) p = some p1 from k1]
      simp only [Option.bind_some,g2]
      obtain ⟨_,_,_,g3,_⟩ := may_is k3
      rw [g3]; simp only [Option.bind_some]
      have s3 := may_st hT s2.lt k3
      exact conL_sim hT A he n [44] b2 _ _ p2 p3 k3 (B1.next s2) (fun z => ⟨by rw [e2 (s3.e0 z)],by
        have := most_lt k1 (s2.e0 (s3.e0 z))
        cases nd'; simp [Nd.addKid,Nd.kids] at this ⊢; omega⟩) _ _ h
theorem con_sim (hT : TOK T) {e g : PM Nd} (A : Tot T (m + 1) e) (he : SimF T m (inF T e) g) : SimF T m (conF T e) (conR T g) := by
  intro p B r q h
  unfold conF at h
  simp only [Option.bind_eq_some_iff,Prod.exists] at h
  obtain ⟨t,p1,k1,b,p2,k2,h⟩ := h
  obtain ⟨u,_,hu,_⟩ := word_inv k1
  have s1 := (word_st hT B.lt (by decide) k1).1
  have s2 := may_st hT s1.lt k2
  obtain ⟨_,_,_,g3,_,g5⟩ := may_is k2
  unfold conR atR textR
  rw [hu,k1]; simp only [Option.map_some,Option.bind_some,g3]
  refine conL_sim hT A he _ [111,102] b (nodeF 26 t.pos t.text []) _ p1 p2 k2 (B.next s1) (fun z => ⟨by rw [word_at hu k1 (s2.e0 z)],by simp [nodeF,Nd.kids]⟩) _ _ ?_
  cases b with
  | true => exact h
  | false => exact h
theorem namesL_sim (hT : TOK T) : ∀ (n : Nat) (nd nd' : Nd) (p : PS),Bd T m p → (p.e = 0 → nd' = nd ∧ nd.names.length ≤ 4) → SimO (namesL T n nd p) (namesRL T n nd' p)
  | 0,nd,nd',p,B,hn => fun r q h => by cases h
  | n + 1,nd,nd',p,B,hn => fun r q h => by
    unfold namesL at h; unfold namesRL
    simp only [Option.bind_eq_some_iff] at h
    obtain ⟨t,k1,h⟩ := h
    rw [k1]; simp only [Option.bind_some]
    split at h
    · rename_i c
      obtain ⟨rfl,hl⟩ := hn (look_e k1 (by omega))
      simp only [Option.bind_eq_some_iff,Prod.exists] at h
      obtain ⟨p1,k2,u,p2,k3,h⟩ := h
      have s1 := most_st B.lt k2
      have s2 := (take_st hT s1.lt k3).1
      rw [if_pos c]
      by_cases c4 : nd'.names.length = 4
      · rw [most_fail (by omega)] at k2
        have hne := fail_ne k2 (by decide)
        have s3 := namesL_st hT n _ _ _ _ ((B.next s1).next s2) h
        rw [if_pos c4,k2]
        obtain rfl := (s2.trans s3).err hne
        exact ⟨_,rfl,fun z => absurd z hne⟩
      · obtain rfl := most_ok' (by omega) k2
        obtain ⟨g1,rfl⟩ := step_of k1 (by omega) k3
        rw [if_neg c4,g1]; simp only [Option.bind_some]
        exact namesL_sim hT n _ _ _ (B.next s2) (fun _ => ⟨rfl,by cases nd'; simp [Nd.addName,Nd.names] at c4 hl ⊢; omega⟩) _ _ h
    · rename_i c
      cases h
      rw [if_neg c]
      exact ⟨_,rfl,fun z => (hn z).1⟩
theorem con_len : ∀ {n : Nat} {nd c : Nd},nd.kids.length < n → (nd.addKid c).kids.length ≤ n := fun {n nd c} h => by cases nd; simp [Nd.addKid,Nd.kids] at h ⊢; omega
theorem consL_sim (hT : TOK T) {e g : PM Nd} (A : Tot T (m + 1) e) (he : SimF T m (inF T e) g) : ∀ (n : Nat) (b : Bool) (nd nd' : Nd) (p : PS),Bd T m p → (p.e = 0 → nd' = nd ∧ nd.kids.length ≤ 20) → SimO (consL T e n b nd p) (consRL T g n b nd' p)
  | 0,b,nd,nd',p,B,hn => fun r q h => by cases h
  | n + 1,b,nd,nd',p,B,hn => fun r q h => by
    unfold consL at h; unfold consRL
    by_cases c : b = true ∧ p.e = 0
    · obtain ⟨rfl,hl⟩ := hn c.2
      rw [if_pos c] at h ⊢
      simp only [Option.bind_eq_some_iff,Prod.exists] at h
      obtain ⟨p1,k1,x,p2,k2,b2,p3,k3,h⟩ := h
      have B1 := B.next (most_st B.lt k1)
      have s2 := ((con_tot hT A).st B1 k2).1
      have s3 := may_st hT s2.lt k3
      obtain ⟨x',g2,e2⟩ := con_sim hT A he _ B1 _ _ k2
      rw [cap_most hl,show mostF T (nd'.kids.length : Int) ((20 : Nat) : Int) p = some p1 from k1]
      simp only [Option.bind_some,g2,k3]
      exact consL_sim hT A he n b2 _ _ p3 ((B1.next s2).next s3) (fun z => ⟨by rw [e2 (s3.e0 z)],con_len (by have := most_lt k1 (s2.e0 (s3.e0 z)); omega)⟩) _ _ h
    · rw [if_neg c] at h ⊢
      cases h
      exact ⟨_,rfl,fun z => (hn z).1⟩
theorem isT_iff {t : Tk} {s : Tx} : isT t s = true ↔ (t.kind = 5 ∨ t.kind = 6) ∧ t.text = s := by
  unfold isT; simp
theorem isT_no {t : Tk} {s : Tx} (h : ¬ (t.kind = 5 ∨ t.kind = 6)) : ¬ isT t s = true := fun x => h (isT_iff.1 x).1
theorem isT_nt {t : Tk} {s : Tx} (h : t.text ≠ s) : ¬ isT t s = true := fun x => h (isT_iff.1 x).2
theorem leaf_sim {kinds : List (Int × Int)} {p q : PS} {r : Nd} {t : Tk} (hl : lookF T p = some t) (k : Int) (hk : k ≠ 0) (hf : ((kinds.find? fun q => q.1 == t.kind).map (·.2)).getD 0 = k) (h0 : t.kind ≠ 0) (h : leafF T kinds p = some (r,q)) : leafR T k p = some (r,q) := by
  unfold leafF at h
  rw [hl] at h
  simp only [Option.bind_some,hf] at h
  rw [if_neg hk] at h
  simp only [Option.map_eq_some_iff,Prod.exists,Prod.mk.injEq] at h
  obtain ⟨u,a,h1,rfl,rfl⟩ := h
  obtain ⟨g1,rfl⟩ := step_of hl h0 h1
  unfold leafR; rw [g1]; rfl
theorem leaf_bad {kinds : List (Int × Int)} {p q : PS} {r : Nd} {t : Tk} (hl : lookF T p = some t) (hf : ((kinds.find? fun q => q.1 == t.kind).map (·.2)).getD 0 = 0) (h : leafF T kinds p = some (r,q)) : failF T 14 p = some q ∧ r = nd0 := by
  unfold leafF at h
  rw [hl] at h
  simp only [Option.bind_some,hf,if_true,Option.map_eq_some_iff,Prod.mk.injEq] at h
  obtain ⟨a,h1,rfl,rfl⟩ := h
  exact ⟨h1,rfl⟩
theorem patom_sim (hT : TOK T) {e g : PM Nd} (A : Tot T (m + 1) e) (he : SimF T m (inF T e) g) : SimF T m (patomF T e) (patomR T g) := by
  intro p B r q h
  unfold patomF at h; unfold patomR
  simp only [Option.bind_eq_some_iff,Prod.exists] at h
  obtain ⟨t,k1,b,p1,k2,h⟩ := h
  obtain ⟨u,hu,h2,h3,h4,h5⟩ := may_is k2
  rw [k1] at hu; cases hu
  rw [k1]; simp only [Option.bind_some]
  cases b with
  | true =>
    have hi := isT_iff.1 h2
    have h56 : t.kind ≠ 1 ∧ t.kind ≠ 3 ∧ t.kind ≠ 4 := by omega
    rw [if_neg h56.1,if_neg h56.2.1,if_neg h56.2.2,if_pos h2,(h4 rfl).1]
    cases h
    exact ⟨_,rfl,fun _ => rfl⟩
  | false =>
    obtain rfl := h5 rfl
    simp only [Bool.false_eq_true,if_false,Option.bind_eq_some_iff] at h
    obtain ⟨b,k3,h⟩ := h
    obtain ⟨u,hu,rfl⟩ := is_inv k3
    rw [k1] at hu; cases hu
    split at h
    · rename_i cb
      have hi := isT_iff.1 cb
      have h56 : t.kind ≠ 1 ∧ t.kind ≠ 3 ∧ t.kind ≠ 4 := by omega
      rw [if_neg h56.1,if_neg h56.2.1,if_neg h56.2.2,if_neg (by rw [h2]; decide),if_pos cb]
      unfold roundF at h
      simp only [Option.bind_eq_some_iff,Option.map_eq_some_iff,Prod.exists,Prod.mk.injEq] at h
      obtain ⟨p2,k4,y,p3,k5,p4,k6,rfl,rfl⟩ := h
      have s1 := (must_st hT B.lt k4).1
      have s2 := ((in_tot hT A).st (B.next s1) k5).1
      have s3 := (must_st hT s2.lt k6).1
      obtain ⟨x',g2,e2⟩ := he _ (B.next s1) _ _ k5
      rw [must_is k1 cb k4]; simp only [Option.bind_some,g2,k6,Option.map_some]
      exact ⟨_,rfl,fun z => e2 (s3.e0 z)⟩
    · rename_i cb
      by_cases c1 : t.kind = 1
      · rw [if_pos c1,leaf_sim k1 1 (by decide) (by rw [c1]; rfl) (by omega) h]; exact ⟨_,rfl,fun _ => rfl⟩
      by_cases c3 : t.kind = 3
      · rw [if_neg c1,if_pos c3,leaf_sim k1 4 (by decide) (by rw [c3]; rfl) (by omega) h]; exact ⟨_,rfl,fun _ => rfl⟩
      by_cases c4 : t.kind = 4
      · rw [if_neg c1,if_neg c3,if_pos c4,leaf_sim k1 5 (by decide) (by rw [c4]; rfl) (by omega) h]; exact ⟨_,rfl,fun _ => rfl⟩
      obtain ⟨f1,rfl⟩ := leaf_bad k1 (by
        have a1 : ((1 : Int) == t.kind) = false := by simp; omega
        have a3 : ((3 : Int) == t.kind) = false := by simp; omega
        have a4 : ((4 : Int) == t.kind) = false := by simp; omega
        simp [List.find?_cons,a1,a3,a4]) h
      rw [if_neg c1,if_neg c3,if_neg c4,if_neg (by rw [h2]; decide),if_neg cb,f1]
      exact ⟨_,rfl,fun _ => rfl⟩
theorem patL_sim (hT : TOK T) {e g : PM Nd} (A : Tot T (m + 1) e) (he : SimF T m (inF T e) g) : ∀ (n : Nat) (b : Bool) (nd nd' : Nd) (p : PS),Bd T m p → (b = true → p.e = 0 → nd' = nd ∧ nd.kids.length ≤ 4) → (p.e = 0 → nd' = nd) → SimO (patL T e n b nd p) (patRL T g n b nd' p)
  | 0,b,nd,nd',p,B,hn,hz => fun r q h => by cases h
  | n + 1,false,nd,nd',p,B,hn,hz => fun r q h => by
    unfold patL at h; unfold patRL
    cases h; exact ⟨_,rfl,hz⟩
  | n + 1,true,nd,nd',p,B,hn,hz => fun r q h => by
    unfold patL at h; unfold patRL
    rw [if_pos rfl] at h ⊢
    simp only [Option.bind_eq_some_iff] at h
    obtain ⟨b,k1,h⟩ := h
    rw [k1]; simp only [Option.bind_some]
    cases b with
    | false => cases h; exact ⟨_,rfl,hz⟩
    | true =>
      have e0 : p.e = 0 := by
        obtain ⟨b',hb',hx⟩ := patMore_ok (T := T) B.lt
        rw [k1] at hb'; cases hb'; exact hx rfl
      obtain ⟨rfl,hl⟩ := hn rfl e0
      simp only [if_true,Option.bind_eq_some_iff,Prod.exists] at h ⊢
      obtain ⟨p1,k2,x,p2,k3,h⟩ := h
      have s1 := most_st B.lt k2
      have s2 := ((patom_tot hT A).st (B.next s1) k3).1
      by_cases c4 : nd'.kids.length = 4
      · rw [most_fail (by omega)] at k2
        have hne := fail_ne k2 (by decide)
        have s3 := patL_st hT A n _ _ _ _ _ ((B.next s1).next s2) h
        rw [if_pos c4,k2]
        obtain rfl := (s2.trans s3).err hne
        exact ⟨_,rfl,fun z => absurd z hne⟩
      · obtain rfl := most_ok' (by omega) k2
        obtain ⟨x',g2,e2⟩ := patom_sim hT A he _ B _ _ k3
        rw [if_neg c4,g2]; simp only [Option.bind_some]
        exact patL_sim hT A he n true _ _ _ (B.next s2) (fun _ z => ⟨by rw [e2 z],con_len (by omega)⟩) (fun z => by rw [e2 z]) _ _ h
theorem leaf_kids {kinds : List (Int × Int)} {p q : PS} {r : Nd} (h : leafF T kinds p = some (r,q)) : r.kids = [] := by
  unfold leafF at h
  simp only [Option.bind_eq_some_iff] at h
  obtain ⟨t,_,h⟩ := h
  split at h
  · simp only [Option.map_eq_some_iff,Prod.mk.injEq] at h
    obtain ⟨_,_,rfl,_⟩ := h; rfl
  · simp only [Option.map_eq_some_iff,Prod.exists,Prod.mk.injEq] at h
    obtain ⟨_,_,_,rfl,_⟩ := h; rfl
theorem pat_sim (hT : TOK T) {e g : PM Nd} (A : Tot T (m + 1) e) (he : SimF T m (inF T e) g) : SimF T m (patS T e) (patB T g) := by
  intro p B r q h
  unfold patS at h; unfold patB
  simp only [Option.bind_eq_some_iff,Prod.exists] at h
  obtain ⟨t,k1,x,p1,k2,h⟩ := h
  have s1 := ((patom_tot hT A).st B k2).1
  obtain ⟨x',g2,e2⟩ := patom_sim hT A he _ B _ _ k2
  rw [k1]; simp only [Option.bind_some,g2]
  refine patL_sim hT A he _ _ _ _ _ (B.next s1) (fun hb z => ⟨e2 z,?_⟩) e2 _ _ h
  have hk : t.kind = 4 := by simpa using hb
  have hx : x.kids = [] := by
    unfold patomF at k2
    rw [k1] at k2
    have n1 : isT t [95] = false := by simp [isT,hk]
    have n2 : isT t [40] = false := by simp [isT,hk]
    simp only [Option.bind_some,mayF,isF,k1,Option.map_some,n1,n2,Bool.false_eq_true,if_false] at k2
    exact leaf_kids k2
  rw [hx]; exact Nat.zero_le _
theorem patI_sim (hT : TOK T) : ∀ (n m : Nat),42 ≤ m + n → SimF T m (inF T (patF T n)) (deepR T (patI T n))
  | 0,m,h => sim_deep sim_none
  | n + 1,m,h => sim_deep (pat_sim hT (patF_tot hT n (m + 2) (by omega)) (patI_sim hT n (m + 1) (by omega)))
end Go.AL
namespace Go.AL
variable {T : List Tk} {m : Nat}
theorem whole_sim {e g : PM Nd} (he : SimF T m (inF T e) g) : SimF T m (wholeF T e) (wholeR g) := by
  intro p B r q h
  unfold wholeF at h; unfold wholeR
  simp only [Option.map_eq_some_iff,Prod.exists,Prod.mk.injEq] at h
  obtain ⟨c,a,k,rfl,rfl⟩ := h
  obtain ⟨x',g1,g2⟩ := he _ (bd_flat B false) _ _ k
  rw [g1]
  exact ⟨x',rfl,g2⟩
theorem kids_len2 (n a b : Nd) : (n.addKids [a,b]).kids.length = n.kids.length + 2 := by cases n; simp [Nd.addKids,Nd.kids]
theorem addKids2 (n a b : Nd) : n.addKids [a,b] = (n.addKid a).addKid b := by cases n; simp [Nd.addKids,Nd.addKid]
theorem tdiv_odd (k : Nat) : Int.tdiv ((2 * k + 1 : Nat) : Int) 2 = (k : Int) := by
  show (((2 * k + 1) / 2 : Nat) : Int) = (k : Int)
  omega
theorem matchL_sim (hT : TOK T) {e pt g gp : PM Nd} (A : Tot T (m + 1) e) (P : Tot T (m + 1) pt) (he : SimF T m (inF T e) g) (hp : SimF T m (inF T pt) gp) : ∀ (n : Nat) (f b : Bool) (nd nd' : Nd) (p : PS),Bd T m p → (if f = true then some true else isF T [124] p) = some b → (p.e = 0 → nd' = nd ∧ ∃ k,nd.kids.length = 2 * k + 1 ∧ k ≤ 20) → SimO (matchL T e pt n f nd p) (matchRL T g gp n b nd' p)
  | 0,f,b,nd,nd',p,B,hb,hn => fun r q h => by cases h
  | n + 1,f,b,nd,nd',p,B,hb,hn => fun r q h => by
    obtain ⟨b',k0,h⟩ := matchL_inv h
    rw [hb] at k0; cases k0
    unfold matchRL
    rcases h with ⟨rfl,rfl,rfl⟩ | ⟨rfl,c,w,p5,hr,h⟩
    · rw [if_neg (by decide)]
      exact ⟨_,rfl,fun z => (hn z).1⟩
    rw [if_pos rfl]
    obtain ⟨p1,p2,p3,p4,k1,k2,k3,k4,k5⟩ := hr.h
    have s1 := most_st B.lt k1
    have s2 := (must_st hT s1.lt k2).1
    have B2 := (B.next s1).next s2
    have s3 := ((in_tot hT P).st B2 k3).1
    have s4 := (must_st hT s3.lt k4).1
    have B4 := (B2.next s3).next s4
    have s5 := ((whole_tot hT A).st B4 k5).1
    obtain ⟨c',g3,e3⟩ := hp _ B2 _ _ k3
    obtain ⟨w',g5,e5⟩ := whole_sim he _ B4 _ _ k5
    obtain ⟨b2,hb2,_⟩ := is_ok (T := T) s5.lt [124]
    have hcap : capR T (nd'.kids.length = 41) p = some p1 := by
      by_cases e0 : p.e = 0
      · obtain ⟨rfl,k,hk,hl⟩ := hn e0
        unfold capR; unfold mostF at k1
        rw [hk,tdiv_odd k] at k1
        rw [hk]
        by_cases c20 : k = 20
        · rw [if_pos (by omega)] at k1 ⊢; exact k1
        · rw [if_neg (by omega)] at k1 ⊢; exact k1
      · obtain rfl := s1.err e0
        unfold capR
        split
        · unfold failF; rw [if_neg e0]
        · rfl
    rw [hcap]; simp only [Option.bind_some,k2,g3,k4,g5,hb2]
    rw [addKids2] at h
    refine matchL_sim hT A P he hp n false b2 _ _ p5 (B4.next s5) (by simpa using hb2) (fun z => ?_) _ _ h
    have z4 := s5.e0 z
    have z3 := s4.e0 z4
    have z0 := s1.e0 (s2.e0 (s3.e0 z3))
    obtain ⟨rfl,k,hk,hl⟩ := hn z0
    refine ⟨by rw [e3 z3,e5 z],k + 1,by rw [← addKids2,kids_len2]; omega,?_⟩
    have := most_lt k1 (s2.e0 (s3.e0 z3))
    rw [hk,tdiv_odd] at this; omega
theorem match_sim (hT : TOK T) {e pt g gp : PM Nd} (A : Tot T (m + 1) e) (P : Tot T (m + 1) pt) (he : SimF T m (inF T e) g) (hp : SimF T m (inF T pt) gp) {p : PS} (B : Bd T m p) {t : Tk} (hl : lookF T p = some t) (hk : t.kind ≠ 0) :
    SimO (matchF T e pt p) ((stepR T p).bind fun r => (wholeR g r.2).bind fun q => (mustF T [119,105,116,104] q.2).bind fun p1 => matchR T g gp t.pos q.1 p1) := by
  intro r q h
  unfold matchF at h
  simp only [Option.bind_eq_some_iff,Option.map_eq_some_iff,Prod.exists,Prod.mk.injEq] at h
  obtain ⟨t1,a1,k1,w1,a2,k2,a3,k3,n1,a4,k4,a5,k5,rfl,rfl⟩ := h
  obtain ⟨g1,rfl⟩ := step_of hl hk k1
  have s1 := (take_st hT B.lt k1).1
  have s2 := ((whole_tot hT A).st (B.next s1) k2).1
  have s3 := (must_st hT s2.lt k3).1
  have C1 := ((B.next s1).next s2).next s3
  have s4 := matchL_st hT A P _ _ _ _ _ _ C1 k4
  have s5 := (must_st hT s4.lt k5).1
  obtain ⟨w',g2,e2⟩ := whole_sim he _ (B.next s1) _ _ k2
  unfold matchR
  rw [g1]; simp only [Option.bind_some,g2,k3]
  obtain ⟨n',g4,e4⟩ := matchL_sim hT A P he hp _ true true _ (nodeF 11 t1.pos [] [w']) a3 C1 rfl (fun z => ⟨by rw [e2 (s3.e0 z)],0,by simp [nodeF,Nd.kids],by omega⟩) _ _ k4
  rw [g4]; simp only [Option.bind_some,k5,Option.map_some]
  exact ⟨_,rfl,fun z => e4 (s5.e0 z)⟩
theorem try_sim (hT : TOK T) {e g : PM Nd} (A : Tot T (m + 1) e) (he : SimF T m (inF T e) g) {p : PS} (B : Bd T m p) {t : Tk} (hl : lookF T p = some t) (hk : t.kind ≠ 0) :
    SimO (tryF T e p) ((stepR T p).bind fun r => (wholeR g r.2).bind fun q => (mustF T [119,105,116,104] q.2).bind fun p1 => tryR T g t.pos q.1 p1) := by
  intro r q h
  unfold tryF at h
  simp only [Option.bind_eq_some_iff,Option.map_eq_some_iff,Prod.exists,Prod.mk.injEq] at h
  obtain ⟨t1,a1,k1,w1,a2,k2,a3,k3,u,a4,k4,a5,k5,v,a6,k6,a7,k7,rfl,rfl⟩ := h
  obtain ⟨g1,rfl⟩ := step_of hl hk k1
  have s1 := (take_st hT B.lt k1).1
  have s2 := ((whole_tot hT A).st (B.next s1) k2).1
  have s3 := (must_st hT s2.lt k3).1
  have s4 := (word_st hT s3.lt (by decide) k4).1
  have s5 := (must_st hT s4.lt k5).1
  have C1 := ((((B.next s1).next s2).next s3).next s4).next s5
  have s6 := ((whole_tot hT A).st C1 k6).1
  have s7 := (must_st hT s6.lt k7).1
  obtain ⟨w',g2,e2⟩ := whole_sim he _ (B.next s1) _ _ k2
  obtain ⟨v',g6,e6⟩ := whole_sim he _ C1 _ _ k6
  unfold tryR textR
  rw [g1]; simp only [Option.bind_some,g2,k3,k4,Option.map_some,k5,g6,k7]
  exact ⟨_,rfl,fun z => by
    have z6 := s7.e0 z
    rw [e6 z6,e2 (s3.e0 (s4.e0 (s5.e0 (s6.e0 z6))))]⟩
theorem atom_sim (hT : TOK T) {e pt g gp : PM Nd} (A : Tot T (m + 1) e) (P : Tot T (m + 1) pt) (he : SimF T m (inF T e) g) (hp : SimF T m (inF T pt) gp) : SimF T m (atomF T e pt) (atomR T g gp) := by
  intro p B r q h
  unfold atomF at h; unfold atomR
  simp only [Option.bind_eq_some_iff] at h
  obtain ⟨t,k1,h⟩ := h
  rw [k1]; simp only [Option.bind_some]
  by_cases c5 : t.kind = 5 ∨ t.kind = 6
  · rw [if_neg (show ¬ t.kind = 1 by omega),if_neg (show ¬ t.kind = 2 by omega),if_neg (show ¬ t.kind = 3 by omega),if_neg (show ¬ t.kind = 4 by omega)]
    have hk : t.kind ≠ 0 := by omega
    split at h
    · rename_i c
      have hx := (isT_iff.1 c).2
      rw [if_neg (isT_nt (by rw [hx]; decide)),if_neg (isT_nt (by rw [hx]; decide)),if_neg (isT_nt (by rw [hx]; decide)),if_pos c]
      exact match_sim hT A P he hp B k1 hk _ _ h
    rename_i cm
    split at h
    · rename_i c
      have hx := (isT_iff.1 c).2
      rw [if_neg (isT_nt (by rw [hx]; decide)),if_neg (isT_nt (by rw [hx]; decide)),if_pos c]
      exact try_sim hT A he B k1 hk _ _ h
    rename_i ct
    split at h
    · rename_i c
      simp only [Option.map_eq_some_iff,Prod.exists,Prod.mk.injEq] at h
      obtain ⟨u,a,k2,rfl,rfl⟩ := h
      rw [if_pos c,(step_of k1 hk k2).1]
      exact ⟨_,rfl,fun _ => rfl⟩
    rename_i cr
    split at h
    · rename_i c
      simp only [Option.bind_eq_some_iff,Prod.exists] at h
      obtain ⟨u,p1,k2,b,p2,k3,h⟩ := h
      have s1 := (take_st hT B.lt k2).1
      have s2 := may_st hT s1.lt k3
      rw [if_neg cr,if_pos c,(step_of k1 hk k2).1]
      simp only [Option.bind_some,k3]
      split at h
      · rename_i cb
        cases h
        rw [if_pos cb]; exact ⟨_,rfl,fun _ => rfl⟩
      · rename_i cb
        simp only [Option.bind_eq_some_iff,Option.map_eq_some_iff,Prod.exists,Prod.mk.injEq] at h
        obtain ⟨v,p3,k4,p4,k5,rfl,rfl⟩ := h
        have C := (B.next s1).next s2
        have s3 := ((whole_tot hT A).st C k4).1
        have s4 := (must_st hT s3.lt k5).1
        obtain ⟨v',g4,e4⟩ := whole_sim he _ C _ _ k4
        rw [if_neg cb]; simp only [g4,Option.bind_some,k5,Option.map_some]
        exact ⟨_,rfl,fun z => e4 (s4.e0 z)⟩
    · rename_i cp
      obtain ⟨f1,rfl⟩ := leaf_bad k1 (by
        have a1 : ((1 : Int) == t.kind) = false := by simp; omega
        have a2 : ((2 : Int) == t.kind) = false := by simp; omega
        have a3 : ((3 : Int) == t.kind) = false := by simp; omega
        have a4 : ((4 : Int) == t.kind) = false := by simp; omega
        simp [List.find?_cons,a1,a2,a3,a4]) h
      rw [if_neg cr,if_neg cp,if_neg ct,if_neg cm,f1]
      exact ⟨_,rfl,fun _ => rfl⟩
  · rw [if_neg (isT_no c5),if_neg (isT_no c5),if_neg (isT_no c5),if_neg (isT_no c5)] at h
    by_cases c1 : t.kind = 1
    · rw [if_pos c1,leaf_sim k1 1 (by decide) (by rw [c1]; rfl) (by omega) h]; exact ⟨_,rfl,fun _ => rfl⟩
    by_cases c2 : t.kind = 2
    · rw [if_neg c1,if_pos c2,leaf_sim k1 2 (by decide) (by rw [c2]; rfl) (by omega) h]; exact ⟨_,rfl,fun _ => rfl⟩
    by_cases c3 : t.kind = 3
    · rw [if_neg c1,if_neg c2,if_pos c3,leaf_sim k1 4 (by decide) (by rw [c3]; rfl) (by omega) h]; exact ⟨_,rfl,fun _ => rfl⟩
    by_cases c4 : t.kind = 4
    · rw [if_neg c1,if_neg c2,if_neg c3,if_pos c4,leaf_sim k1 5 (by decide) (by rw [c4]; rfl) (by omega) h]; exact ⟨_,rfl,fun _ => rfl⟩
    obtain ⟨f1,rfl⟩ := leaf_bad k1 (by
      have a1 : ((1 : Int) == t.kind) = false := by simp; omega
      have a2 : ((2 : Int) == t.kind) = false := by simp; omega
      have a3 : ((3 : Int) == t.kind) = false := by simp; omega
      have a4 : ((4 : Int) == t.kind) = false := by simp; omega
      simp [List.find?_cons,a1,a2,a3,a4]) h
    rw [if_neg c1,if_neg c2,if_neg c3,if_neg c4,if_neg (isT_no c5),if_neg (isT_no c5),if_neg (isT_no c5),if_neg (isT_no c5),f1]
    exact ⟨_,rfl,fun _ => rfl⟩
theorem kindF_key {s : Tx} (h : 0 < (kindF s).1) : s ∈ keysL ∧ ((kindF s).2 = 1 ∨ (kindF s).2 = 2) := by
  unfold kindF at h ⊢
  repeat' split at h
  all_goals first
    | (exfalso; revert h; decide)
    | (subst_vars; decide)
theorem kindR_eq (hK : TKS T) {p : PS} {t : Tk} (h : lookF T p = some t) : (t.kind = 6 ∧ 0 < (kindF t.text).1) ↔ 0 < (kindR t).1 := by
  unfold kindR
  by_cases c : t.kind = 6
  · rw [if_pos (.inr c)]; simp [c]
  · by_cases c5 : t.kind = 5
    · rw [if_pos (.inl c5)]
      have := hK.sgn t (look_mem h (by omega)) c5
      refine ⟨fun x => absurd x.1 c,fun x => absurd (kindF_key x).1 this⟩
    · rw [if_neg (by omega)]
      exact ⟨fun x => absurd x.1 c,fun x => absurd x (by decide)⟩
theorem appL_sim (hT : TOK T) {e pt g gp : PM Nd} (A : Tot T (m + 1) e) (P : Tot T (m + 1) pt) (he : SimF T m (inF T e) g) (hp : SimF T m (inF T pt) gp) : ∀ (n : Nat) (b : Bool) (nd nd' : Nd) (p : PS),Bd T m p → (b = true → p.e = 0 → nd.kids.length ≤ 4) → (p.e = 0 → nd' = nd) → SimO (appL T e pt n b nd p) (appRL T g gp n b nd' p)
  | 0,b,nd,nd',p,B,hn,hz => fun r q h => by cases h
  | n + 1,b,nd,nd',p,B,hn,hz => fun r q h => by
    unfold appL at h; unfold appRL
    simp only [Option.bind_eq_some_iff] at h
    obtain ⟨t,k1,h⟩ := h
    rw [k1]; simp only [Option.bind_some]
    split at h
    rotate_left
    · rename_i c; cases h; rw [if_neg c]; exact ⟨_,rfl,hz⟩
    rename_i c
    rw [if_pos c]
    have hk : t.kind ≠ 0 := fun x => by
      unfold beginsT isT at c; rw [x] at c; revert c; simp
    have e0 := look_e k1 hk
    obtain rfl := hz e0
    cases b with
    | true =>
      simp only [if_true,Option.bind_eq_some_iff,Prod.exists] at h ⊢
      obtain ⟨p1,k2,x,p2,k3,h⟩ := h
      have s1 := most_st B.lt k2
      have s2 := ((atom_tot hT A P).st (B.next s1) k3).1
      have hl := hn rfl e0
      by_cases c4 : nd'.kids.length = 4
      · rw [most_fail (by omega)] at k2
        have hne := fail_ne k2 (by decide)
        have s3 := appL_st hT A P n _ _ _ _ _ ((B.next s1).next s2) h
        rw [if_pos c4,k2]
        obtain rfl := (s2.trans s3).err hne
        exact ⟨_,rfl,fun z => absurd z hne⟩
      · obtain rfl := most_ok' (by omega) k2
        obtain ⟨x',g2,e2⟩ := atom_sim hT A P he hp _ B _ _ k3
        rw [if_neg c4,g2]; simp only [Option.bind_some]
        exact appL_sim hT A P he hp n true _ _ _ (B.next s2) (fun _ z => con_len (by omega)) (fun z => by rw [e2 z]) _ _ h
    | false =>
      simp only [Bool.false_eq_true,if_false] at h ⊢
      simp only [Option.bind_eq_some_iff,Prod.exists] at h
      obtain ⟨x,p2,k3,h⟩ := h
      have s2 := ((atom_tot hT A P).st B k3).1
      obtain ⟨x',g2,e2⟩ := atom_sim hT A P he hp _ B _ _ k3
      rw [g2]; simp only [Option.bind_some]
      exact appL_sim hT A P he hp n false _ _ _ (B.next s2) (fun hb => by cases hb) (fun z => by rw [e2 z]) _ _ h
theorem atom_con {e pt : PM Nd} {p q : PS} {x : Nd} {t : Tk} (hl : lookF T p = some t) (h4 : t.kind = 4) (h : atomF T e pt p = some (x,q)) : x.kids = [] := by
  unfold atomF at h
  rw [hl] at h
  have c5 : ¬ (t.kind = 5 ∨ t.kind = 6) := by omega
  simp only [Option.bind_some] at h
  rw [if_neg (isT_no c5),if_neg (isT_no c5),if_neg (isT_no c5),if_neg (isT_no c5)] at h
  exact leaf_kids h
theorem app_sim (hK : TKS T) {e pt g gp : PM Nd} (A : Tot T (m + 1) e) (P : Tot T (m + 1) pt) (he : SimF T m (inF T e) g) (hp : SimF T m (inF T pt) gp) : SimF T m (appF T e pt) (rappR T g gp) := by
  have hT := hK.tok
  intro p B r q h
  unfold appF at h; unfold rappR
  simp only [Option.bind_eq_some_iff] at h
  obtain ⟨t,k1,h⟩ := h
  rw [k1]; simp only [Option.bind_some]
  have hkr := kindR_eq hK k1
  by_cases c : t.kind = 6 ∧ 0 < (kindF t.text).1
  · rw [if_pos c] at h; rw [if_pos (hkr.1 c)]
    have hkk : kindR t = kindF t.text := by unfold kindR; rw [if_pos (.inr c.1)]
    rw [hkk]
    simp only [Option.bind_eq_some_iff,Prod.exists] at h
    obtain ⟨u,p1,k2,h⟩ := h
    obtain ⟨g2,rfl⟩ := step_of k1 (by omega) k2
    have s1 := (take_st hT B.lt k2).1
    rw [g2]; simp only [Option.bind_some]
    rcases (kindF_key c.2).2 with h1 | h2
    · rw [h1] at h ⊢
      simp only [show (1 : Int).toNat = 0 + 1 from rfl,atomsL,Option.bind_eq_some_iff,Prod.exists] at h
      obtain ⟨x,p2,k3,h⟩ := h
      cases h
      obtain ⟨x',g3,e3⟩ := atom_sim hT A P he hp _ (B.next s1) _ _ k3
      rw [g3]; simp only [Option.bind_some]
      rw [if_neg (by decide)]
      exact ⟨_,rfl,fun z => by rw [e3 z]; rfl⟩
    · rw [h2] at h ⊢
      simp only [show (2 : Int).toNat = 0 + 1 + 1 from rfl,atomsL,Option.bind_eq_some_iff,Prod.exists] at h
      obtain ⟨x,p2,k3,y,p3,k4,h⟩ := h
      cases h
      have s2 := ((atom_tot hT A P).st (B.next s1) k3).1
      have s3 := ((atom_tot hT A P).st ((B.next s1).next s2) k4).1
      obtain ⟨x',g3,e3⟩ := atom_sim hT A P he hp _ (B.next s1) _ _ k3
      obtain ⟨y',g4,e4⟩ := atom_sim hT A P he hp _ ((B.next s1).next s2) _ _ k4
      rw [g3]; simp only [Option.bind_some]
      simp only [if_true,g4,Option.map_some]
      exact ⟨_,rfl,fun z => by rw [e3 (s3.e0 z),e4 z]; rfl⟩
  · rw [if_neg c] at h; rw [if_neg (fun x => c (hkr.2 x))]
    simp only [Option.bind_eq_some_iff,Prod.exists] at h
    obtain ⟨x,p1,k2,h⟩ := h
    have s1 := ((atom_tot hT A P).st B k2).1
    obtain ⟨x',g2,e2⟩ := atom_sim hT A P he hp _ B _ _ k2
    rw [g2]; simp only [Option.bind_some]
    exact appL_sim hT A P he hp _ _ _ _ _ (B.next s1) (fun hb z => by rw [atom_con k1 (by simpa using hb) k2]; exact Nat.zero_le _) e2 _ _ h
theorem op_iff (hK : TKS T) {p : PS} {t : Tk} (h : lookF T p = some t) {a b c : Tx} (ha : a ∉ keysL ∧ a ≠ []) (hb : b ∉ keysL ∧ b ≠ []) (hc : c ∉ keysL ∧ c ≠ []) : (opR t a b c ≠ [] ↔ t.kind = 5 ∧ t.text ∈ [a,b,c]) ∧ (t.kind = 5 ∧ t.text ∈ [a,b,c] → opR t a b c = t.text) := by
  have key : t.kind = 6 → t.text ∈ keysL := fun h6 => hK.key t (look_mem h (by omega)) h6
  unfold opR isT
  by_cases h5 : t.kind = 5
  · simp only [h5,BEq.rfl,Bool.true_or,Bool.true_and,beq_iff_eq,List.mem_cons,List.not_mem_nil,or_false,true_and]
    by_cases c1 : t.text = a
    · simp [c1,ha.2]
    by_cases c2 : t.text = b
    · simp [c1,c2,hb.2]; split <;> simp_all
    by_cases c3 : t.text = c
    · simp [c1,c2,c3,hc.2]; split <;> (try split) <;> simp_all
    · simp [c1,c2,c3]
  · by_cases h6 : t.kind = 6
    · have hk := key h6
      have n1 : (t.text == a) = false := by simp; rintro rfl; exact ha.1 hk
      have n2 : (t.text == b) = false := by simp; rintro rfl; exact hb.1 hk
      have n3 : (t.text == c) = false := by simp; rintro rfl; exact hc.1 hk
      simp [n1,n2,n3,h5]
    · have q5 : (t.kind == 5) = false := by simp [h5]
      have q6 : (t.kind == 6) = false := by simp [h6]
      simp [q5,q6,h5]
theorem sumsL_sim (hK : TKS T) {f g : PM Nd} (A : Tot T m f) (hf : SimF T m f g) {a b c : Tx} (ha : a ∉ keysL ∧ a ≠ []) (hb : b ∉ keysL ∧ b ≠ []) (hc : c ∉ keysL ∧ c ≠ []) : ∀ (n : Nat) (t : Tk) (nd nd' : Nd) (p : PS),Bd T m p → lookF T p = some t → (p.e = 0 → nd' = nd) → SimO (sumsL T f [a,b,c] n t nd p) (sumsRL T g a b c n nd' p)
  | 0,t,nd,nd',p,B,hl,hn => fun r q h => by cases h
  | n + 1,t,nd,nd',p,B,hl,hn => fun r q h => by
    have ho := op_iff hK hl ha hb hc
    unfold sumsL at h; unfold sumsRL
    rw [hl]; simp only [Option.bind_some]
    by_cases cc : t.kind = 5 ∧ t.text ∈ [a,b,c]
    · rw [if_pos cc] at h; rw [if_pos (ho.1.2 cc),ho.2 cc]
      simp only [Option.bind_eq_some_iff,Prod.exists] at h
      obtain ⟨u,p1,k1,x,p2,k2,t',k3,h⟩ := h
      obtain ⟨g1,rfl⟩ := step_of hl (by omega) k1
      have s1 := (take_st hK.tok B.lt k1).1
      have s2 := (A.st (B.next s1) k2).1
      obtain ⟨x',g2,e2⟩ := hf _ (B.next s1) _ _ k2
      obtain rfl := hn (look_e hl (by omega))
      rw [g1]; simp only [Option.bind_some,g2]
      exact sumsL_sim hK A hf ha hb hc n t' _ _ p2 ((B.next s1).next s2) k3 (fun z => by rw [e2 z]) _ _ h
    · rw [if_neg cc] at h; rw [if_neg (fun x => cc (ho.1.1 x))]
      cases h; exact ⟨_,rfl,hn⟩
theorem sums_sim (hK : TKS T) {f g : PM Nd} (A : Tot T m f) (hf : SimF T m f g) {a b c : Tx} (ha : a ∉ keysL ∧ a ≠ []) (hb : b ∉ keysL ∧ b ≠ []) (hc : c ∉ keysL ∧ c ≠ []) : SimF T m (sumsF T f [a,b,c]) (sumsR T g a b c) := by
  intro p B r q h
  unfold sumsF at h; unfold sumsR
  simp only [Option.bind_eq_some_iff,Prod.exists] at h
  obtain ⟨x,p1,k1,t,k2,h⟩ := h
  obtain ⟨x',g1,e1⟩ := hf _ B _ _ k1
  rw [g1]; simp only [Option.bind_some]
  exact sumsL_sim hK A hf ha hb hc _ t _ _ p1 (B.next (A.st B k1).1) k2 e1 _ _ h
theorem sum_sim (hK : TKS T) {e pt g gp : PM Nd} (A : Tot T (m + 1) e) (P : Tot T (m + 1) pt) (he : SimF T m (inF T e) g) (hp : SimF T m (inF T pt) gp) : SimF T m (sumF T e pt) (sumR T g gp) :=
  sums_sim hK (sums_tot hK.tok (app_tot hK.tok A P)) (sums_sim hK (app_tot hK.tok A P) (app_sim hK A P he hp) (by decide) (by decide) (by decide)) (by decide) (by decide) (by decide)
theorem cmp_sim (hK : TKS T) {e pt g gp : PM Nd} (A : Tot T (m + 1) e) (P : Tot T (m + 1) pt) (he : SimF T m (inF T e) g) (hp : SimF T m (inF T pt) gp) : SimF T m (cmpF T e pt) (cmpR T g gp) := by
  have hT := hK.tok
  intro p B r q h
  unfold cmpF at h; unfold cmpR
  simp only [Option.bind_eq_some_iff,Prod.exists] at h
  obtain ⟨x,p1,k1,t,k2,h⟩ := h
  obtain ⟨x',g1,e1⟩ := sum_sim hK A P he hp _ B _ _ k1
  have s1 := ((sum_tot hT A P).st B k1).1
  rw [g1]; simp only [Option.bind_some,k2]
  have ho : (isT t [61] = true ∨ isT t [60] = true ↔ opR t [61] [60] [61] ≠ []) ∧ (isT t [61] = true ∨ isT t [60] = true → opR t [61] [60] [61] = t.text) := by
    unfold opR
    by_cases c1 : isT t [61] = true
    · rw [if_pos c1]; exact ⟨⟨fun _ => by decide,fun _ => .inl c1⟩,fun _ => (isT_iff.1 c1).2.symm⟩
    · rw [if_neg c1]
      by_cases c2 : isT t [60] = true
      · rw [if_pos c2]; exact ⟨⟨fun _ => by decide,fun _ => .inr c2⟩,fun _ => (isT_iff.1 c2).2.symm⟩
      · rw [if_neg c2,if_neg c1]; exact ⟨⟨fun x => absurd x (by simp [c1,c2]),fun x => absurd rfl x⟩,fun x => absurd x (by simp [c1,c2])⟩
  by_cases c : isT t [61] = true ∨ isT t [60] = true
  · rw [if_pos c] at h; rw [if_pos (ho.1.1 c),ho.2 c]
    simp only [Option.bind_eq_some_iff,Option.map_eq_some_iff,Prod.exists,Prod.mk.injEq] at h
    obtain ⟨u,p2,k3,y,p3,k4,rfl,rfl⟩ := h
    have hk : t.kind ≠ 0 := c.elim isT_kind isT_kind
    have s2 := (take_st hT s1.lt k3).1
    have B2 := (B.next s1).next s2
    have s3 := ((sum_tot hT A P).st B2 k4).1
    obtain ⟨y',g4,e4⟩ := sum_sim hK A P he hp _ B2 _ _ k4
    rw [(step_of k2 hk k3).1]; simp only [Option.bind_some,g4,Option.map_some]
    exact ⟨_,rfl,fun z => by rw [e4 z,e1 (s2.e0 (s3.e0 z))]⟩
  · rw [if_neg c] at h; rw [if_neg (fun x => c (ho.1.2 x))]
    cases h; exact ⟨_,rfl,e1⟩
theorem value_sim (hT : TOK T) {e g : PM Nd} (A : Tot T (m + 1) e) (he : SimF T m (inF T e) g) {p q : PS} {x : Tx} {rc : Bool} {v : Nd} (B : Bd T m p) (h : valueF T e p = some ((x,rc,v),q)) : ∃ v',valueR T g p = some ((x,rc,v'),q) ∧ (q.e = 0 → v' = v) := by
  obtain ⟨p1,t,p2,p3,p4,k1,k2,rfl,k3,k4,k5⟩ := value_inv h
  have s1 := may_st hT B.lt k1
  obtain ⟨s2,_⟩ := word_st hT s1.lt (by decide) k2
  have s3 := (must_st hT s2.lt k3).1
  have s4 := rec_st s3.lt k4
  have C := (((B.next s1).next s2).next s3).next s4
  obtain ⟨v',g5,e5⟩ := he _ C _ _ k5
  obtain ⟨f,kf,_⟩ := is_ok (T := T) s3.lt [102,117,110]
  have hrec : (if rc = true ∧ ¬ f = true ∧ p3.deep < 40 then failF T 14 p3 else some p3) = some p4 := by
    by_cases c1 : rc = true ∧ p3.deep < 40
    · rw [if_pos c1,kf] at k4
      simp only [Option.bind_some] at k4
      cases f with
      | true => rw [if_neg (by simp)]; simpa using k4
      | false => rw [if_pos ⟨c1.1,by simp,c1.2⟩]; simpa using k4
    · rw [if_neg c1] at k4
      rw [if_neg (fun x => c1 ⟨x.1,x.2.2⟩)]; exact k4
  unfold valueR textR
  rw [k1]; simp only [Option.bind_some,k2,Option.map_some,k3,kf]
  rw [hrec]; simp only [Option.bind_some,g5,Option.map_some]
  exact ⟨_,rfl,e5⟩
theorem isK (hK : TKS T) {p : PS} {t : Tk} (h : lookF T p = some t) {s : Tx} (hs : s ∈ keysL) : (t.kind = 6 ∧ t.text = s) ↔ isT t s = true := by
  rw [isT_iff]
  refine ⟨fun x => ⟨.inr x.1,x.2⟩,fun x => ?_⟩
  rcases x.1 with h5 | h6
  · exact absurd (x.2 ▸ hs) (hK.sgn t (look_mem h (by omega)) h5)
  · exact ⟨h6,x.2⟩
theorem inner_sim (hK : TKS T) {e pt g gp : PM Nd} (A : Tot T (m + 1) e) (P : Tot T (m + 1) pt) (he : SimF T m (inF T e) g) (hp : SimF T m (inF T pt) gp) : SimF T m (expS T e pt) (innerR T g gp) := by
  have hT := hK.tok
  intro p B r q h
  unfold expS at h; unfold innerR
  simp only [Option.bind_eq_some_iff] at h
  obtain ⟨t,k0,h⟩ := h
  rw [k0]; simp only [Option.bind_some]
  have i1 := isK hK k0 (s := [108,101,116]) (by decide)
  have i2 := isK hK k0 (s := [102,117,110]) (by decide)
  have i3 := isK hK k0 (s := [105,102]) (by decide)
  by_cases c1 : t.kind = 6 ∧ t.text = [108,101,116]
  · rw [if_pos c1] at h; rw [if_pos (i1.1 c1)]
    unfold letF at h
    simp only [Option.bind_eq_some_iff,Option.map_eq_some_iff,Prod.exists,Prod.mk.injEq] at h
    obtain ⟨u,p1,k1,x,rc,v,p2,k2,p3,k3,w,p4,k4,rfl,rfl⟩ := h
    obtain ⟨g1,rfl⟩ := step_of k0 (by omega) k1
    have s1 := (take_st hT B.lt k1).1
    have s2 := (value_st hT A (B.next s1) k2).1
    have s3 := (must_st hT s2.lt k3).1
    have C := ((B.next s1).next s2).next s3
    have s4 := ((in_tot hT A).st C k4).1
    obtain ⟨v',g2,e2⟩ := value_sim hT A he (B.next s1) k2
    obtain ⟨w',g4,e4⟩ := he _ C _ _ k4
    rw [g1]; simp only [Option.bind_some,g2,k3,g4,Option.map_some]
    exact ⟨_,rfl,fun z => by rw [e4 z,e2 (s3.e0 (s4.e0 z))]⟩
  rw [if_neg c1] at h; rw [if_neg (fun x => c1 (i1.2 x))]
  by_cases c2 : t.kind = 6 ∧ t.text = [102,117,110]
  · rw [if_pos c2] at h; rw [if_pos (i2.1 c2)]
    unfold funF at h
    simp only [Option.bind_eq_some_iff,Option.map_eq_some_iff,Prod.exists,Prod.mk.injEq] at h
    obtain ⟨u,p1,k1,x,p2,k2,p3,k3,w,p4,k4,rfl,rfl⟩ := h
    obtain ⟨g1,rfl⟩ := step_of k0 (by omega) k1
    have s1 := (take_st hT B.lt k1).1
    have s2 := (word_st hT s1.lt (by decide) k2).1
    have s3 := (must_st hT s2.lt k3).1
    have C := ((B.next s1).next s2).next s3
    obtain ⟨w',g4,e4⟩ := he _ C _ _ k4
    unfold textR
    rw [g1]; simp only [Option.bind_some,k2,k3,g4,Option.map_some]
    exact ⟨_,rfl,fun z => by rw [e4 z]⟩
  rw [if_neg c2] at h; rw [if_neg (fun x => c2 (i2.2 x))]
  by_cases c3 : t.kind = 6 ∧ t.text = [105,102]
  · rw [if_pos c3] at h; rw [if_pos (i3.1 c3)]
    unfold branchF at h
    simp only [Option.bind_eq_some_iff,Option.map_eq_some_iff,Prod.exists,Prod.mk.injEq] at h
    obtain ⟨u,p1,k1,x,p2,k2,p3,k3,y,p4,k4,p5,k5,w,p6,k6,rfl,rfl⟩ := h
    obtain ⟨g1,rfl⟩ := step_of k0 (by omega) k1
    have s1 := (take_st hT B.lt k1).1
    have s2 := ((in_tot hT A).st (B.next s1) k2).1
    have s3 := (must_st hT s2.lt k3).1
    have C := ((B.next s1).next s2).next s3
    have s4 := ((in_tot hT A).st C k4).1
    have s5 := (must_st hT s4.lt k5).1
    have D := (C.next s4).next s5
    have s6 := ((in_tot hT A).st D k6).1
    obtain ⟨x',g2,e2⟩ := he _ (B.next s1) _ _ k2
    obtain ⟨y',g4,e4⟩ := he _ C _ _ k4
    obtain ⟨w',g6,e6⟩ := he _ D _ _ k6
    rw [g1]; simp only [Option.bind_some,g2,k3,g4,k5,g6,Option.map_some]
    exact ⟨_,rfl,fun z => by
      have z4 := s5.e0 (s6.e0 z)
      rw [e6 z,e4 z4,e2 (s3.e0 (s4.e0 z4))]⟩
  rw [if_neg c3] at h; rw [if_neg (fun x => c3 (i3.2 x))]
  simp only [Option.bind_eq_some_iff,Prod.exists] at h
  obtain ⟨x,p1,k1,b,p2,k2,h⟩ := h
  have s1 := ((cmp_tot hT A P).st B k1).1
  obtain ⟨x',g1,e1⟩ := cmp_sim hK A P he hp _ B _ _ k1
  rw [g1]; simp only [Option.bind_some]
  by_cases cf : p1.flat = true
  · rw [if_pos cf] at k2; cases k2
    obtain ⟨b,kb,_⟩ := is_ok (T := T) s1.lt [59]
    rw [kb]; simp only [Option.bind_some]
    rw [if_neg (by simp [cf])]
    cases h; exact ⟨_,rfl,e1⟩
  · rw [if_neg cf] at k2
    obtain ⟨_,_,_,g2,g3,g4⟩ := may_is k2
    rw [g2]; simp only [Option.bind_some]
    have s2 := may_st hT s1.lt k2
    cases b with
    | true =>
      simp only [if_true,Option.map_eq_some_iff,Prod.exists,Prod.mk.injEq] at h
      obtain ⟨w,p3,k3,rfl,rfl⟩ := h
      have C := (B.next s1).next s2
      have s3 := ((in_tot hT A).st C k3).1
      obtain ⟨w',g5,e5⟩ := he _ C _ _ k3
      rw [if_pos ⟨rfl,cf⟩,(g3 rfl).1]; simp only [Option.bind_some,g5,Option.map_some]
      exact ⟨_,rfl,fun z => by rw [e5 z,e1 (s2.e0 (s3.e0 z))]⟩
    | false =>
      obtain rfl := g4 rfl
      rw [if_neg (by simp)]
      cases h; exact ⟨_,rfl,e1⟩
theorem expI_sim (hK : TKS T) : ∀ (n m : Nat),42 ≤ m + n → SimF T m (inF T (expF T n)) (deepR T (expI T n))
  | 0,m,h => sim_deep sim_none
  | n + 1,m,h => sim_deep (inner_sim hK (expF_tot hK.tok n (m + 2) (by omega)) (patF_tot hK.tok (n + 1) (m + 2) (by omega)) (expI_sim hK n (m + 1) (by omega)) (patI_sim hK.tok (n + 1) (m + 1) (by omega)))
theorem decl_sim (hT : TOK T) {e ty g gt : PM Nd} (A : Tot T (m + 1) e) (Y : Tot T (m + 1) ty) (he : SimF T m (inF T e) g) (hy : SimF T m (inF T ty) gt) {p : PS} (B : Bd T m p) {t : Tk} (hl : lookF T p = some t) (hk : t.kind ≠ 0) : SimO (declF T e ty p) (declR T g gt p) := by
  intro r q h
  unfold declF at h; unfold declR
  simp only [Option.bind_eq_some_iff,Option.map_eq_some_iff,Prod.exists,Prod.mk.injEq] at h
  obtain ⟨b,kb,x,p1,h,p2,k2,rfl,rfl⟩ := h
  rw [kb]; simp only [Option.bind_some]
  cases b with
  | true =>
    simp only [if_true] at h
    unfold decltypeF at h
    simp only [Option.bind_eq_some_iff,Prod.exists] at h
    obtain ⟨u,a1,j1,w,a2,j2,n,a3,j3,a4,j4,h⟩ := h
    obtain ⟨g1,rfl⟩ := step_of hl hk j1
    have s1 := (take_st hT B.lt j1).1
    have s2 := (word_st hT s1.lt (by decide) j2).1
    have C := (B.next s1).next s2
    have s3 := namesL_st hT _ _ _ _ _ C j3
    have s4 := (must_st hT s3.lt j4).1
    have D := (C.next s3).next s4
    have s5 := consL_st hT Y _ _ _ _ _ _ D h
    have s6 := (must_st hT s5.lt k2).1
    have hkid : n.kids = [] := by
      have : ∀ (k : Nat) (nd : Nd) (p : PS) (r : Nd) (q : PS),nd.kids = [] → namesL T k nd p = some (r,q) → r.kids = [] := by
        intro k
        induction k with
        | zero => intro nd p r q _ h; cases h
        | succ k ih =>
          intro nd p r q hn h
          unfold namesL at h
          simp only [Option.bind_eq_some_iff] at h
          obtain ⟨t,_,h⟩ := h
          split at h
          · simp only [Option.bind_eq_some_iff,Prod.exists] at h
            obtain ⟨_,_,u,_,_,h⟩ := h
            exact ih _ _ _ _ (by rw [kids_addName]; exact hn) h
          · cases h; exact hn
      exact this _ _ _ _ _ rfl j3
    obtain ⟨n',g3,e3⟩ := namesL_sim hT _ _ (nodeF 25 u.pos w.text []) a2 C (fun _ => ⟨rfl,by simp [nodeF,Nd.names]⟩) _ _ j3
    obtain ⟨x',g5,e5⟩ := consL_sim hT Y hy _ true _ n' a4 D (fun z => ⟨e3 (s4.e0 z),by rw [hkid]; simp⟩) _ _ h
    unfold typeR textR
    rw [g1]; simp only [Option.bind_some,if_true,j2,Option.map_some,g3,j4,g5,k2]
    exact ⟨_,rfl,fun z => e5 (s6.e0 z)⟩
  | false =>
    simp only [Bool.false_eq_true,if_false,Option.bind_eq_some_iff,Option.map_eq_some_iff,Prod.exists,Prod.mk.injEq] at h
    obtain ⟨u,a1,j1,y,rc,v,a2,j2,rfl,rfl⟩ := h
    obtain ⟨g1,rfl⟩ := step_of hl hk j1
    have s1 := (take_st hT B.lt j1).1
    have C := bd_flat (B.next s1) true
    have s2 := (value_st hT A C j2).1
    have s3 := (must_st hT (p := { a2 with flat := false }) s2.lt k2).1
    obtain ⟨v',g2,e2⟩ := value_sim hT A he C j2
    rw [g1]; simp only [Option.bind_some,Bool.false_eq_true,if_false,g2,Option.map_some,k2]
    exact ⟨_,rfl,fun z => by rw [e2 (s3.e0 z)]⟩
theorem progL_sim (hT : TOK T) {e ty g gt : PM Nd} (A : Tot T (m + 1) e) (Y : Tot T (m + 1) ty) (he : SimF T m (inF T e) g) (hy : SimF T m (inF T ty) gt) : ∀ (n : Nat) (nd nd' : Nd) (p : PS),Bd T m p → p.flat = false → (p.e = 0 → nd' = nd ∧ nd.kids.length ≤ 60) → SimO (progL T e ty n nd p) (progRL T g gt n nd' p)
  | 0,nd,nd',p,B,hf,hn => fun r q h => by cases h
  | n + 1,nd,nd',p,B,hf,hn => fun r q h => by
    obtain ⟨a,b,k1,k2,h⟩ := progL_inv h
    obtain ⟨t,hl,ra⟩ := is_inv k1
    unfold progRL
    rw [hl]; simp only [Option.bind_some]
    have hb : (isT t [116,121,112,101] = true ∨ isT t [108,101,116] = true) ↔ b = true := by
      rw [← ra]
      cases a with
      | true => simp only [if_true,Option.some.injEq] at k2; subst k2; simp
      | false =>
        simp only [Bool.false_eq_true,if_false] at k2
        obtain ⟨t',hl',rb⟩ := is_inv k2
        rw [hl] at hl'; cases hl'
        rw [← rb]; simp
    rcases h with ⟨rfl,rfl,rfl⟩ | ⟨rfl,p1,x,p2,k3,k4,h'⟩
    · rw [if_neg (fun x => absurd (hb.1 x) (by decide))]
      exact ⟨_,rfl,fun z => (hn z).1⟩
    · have hor := hb.2 rfl
      have hk : t.kind ≠ 0 := hor.elim isT_kind isT_kind
      obtain ⟨rfl,hlen⟩ := hn (look_e hl hk)
      rw [if_pos hor]
      have s1 := most_st B.lt k3
      have s2 := decl_st hT A Y (B.next s1) (s1.flat.trans hf) k4
      by_cases c : nd'.kids.length = 60
      · rw [most_fail (by omega)] at k3
        have hne := fail_ne k3 (by decide)
        obtain ⟨nd2,q2,y1,y2,y3⟩ := progL_ok hT A Y (a := 0) n (nd'.addKid x) p2 s2.lt ((B.next s1).next s2).lo ((B.next s1).next s2).hi (s2.flat.trans (s1.flat.trans hf)) ⟨by
          cases n with
          | zero => cases h'
          | succ n => omega,fun z => absurd (s2.e0 z) hne⟩ (fun z => absurd (s2.e0 z) hne)
        rw [y1] at h'; cases h'
        rw [if_pos c,k3]
        obtain rfl := (s2.trans y2).err hne
        exact ⟨_,rfl,fun z => absurd z hne⟩
      · obtain rfl := most_ok' (by omega) k3
        obtain ⟨x',g2,e2⟩ := decl_sim hT A Y he hy B hl hk _ _ k4
        rw [if_neg c,g2]; simp only [Option.bind_some]
        exact progL_sim hT A Y he hy n _ _ _ (B.next s2) (s2.flat.trans hf) (fun z => ⟨by rw [e2 z],con_len (by omega)⟩) _ _ h'
theorem parse_sim (hK : TKS T) {n : Nd} {b e : Int} (h : parseF T = some (n,b,e)) : parseRF T = some (n,b,e) := by
  have hT := hK.tok
  unfold parseF at h
  simp only [Option.map_eq_some_iff,Prod.exists] at h
  obtain ⟨r,q,h,hr⟩ := h
  unfold progF at h
  simp only [Option.bind_eq_some_iff,Option.map_eq_some_iff,Prod.exists,Prod.mk.injEq] at h
  obtain ⟨t,k1,x,p1,k2,p2,k3,u,p3,k4,t',k5,p4,k6,rfl,rfl⟩ := h
  have B : Bd T 0 ⟨0,0,false,0,0⟩ := ⟨hT.pos,Nat.le_refl _,Nat.zero_le _⟩
  have A := expF_tot hT 42 1 (by omega)
  have Y := tyF_tot hT 42 1 (by omega)
  have he := expI_sim hK 42 0 (by omega)
  have hy := tyI_sim hT 42 0 (by omega)
  obtain ⟨x',g2,e2⟩ := progL_sim hT A Y he hy _ _ (nodeF 30 t.pos [] []) _ B rfl (fun _ => ⟨rfl,by simp [nodeF,Nd.kids]⟩) _ _ k2
  have s2 : Step T ⟨0,0,false,0,0⟩ p1 := by
    obtain ⟨nd2,q2,y1,y2,y3⟩ := progL_ok hT A Y (a := plc T 0) (T.length + 2) (nodeF 30 t.pos [] []) ⟨0,0,false,0,0⟩ B.lt B.lo B.hi rfl (fuel0 (p := ⟨0,0,false,0,0⟩)) (fun _ => by
      have hg : T[0]? = some t := by unfold lookF at k1; rw [if_pos rfl] at k1; exact k1
      have hp := plc_look (p := ⟨0,0,false,0,0⟩) hg
      exact ⟨pl_node ⟨t,hp.2,rfl⟩ (fun c hc => by cases hc) (by simp),by rw [← hp.1]; exact Int.le_refl _,by rw [← hp.1]; exact Int.le_refl _,by simp [nodeF,Nd.kids],by simp [nodeF,Nd.names]⟩)
    rw [k2] at y1; cases y1; exact y2
  have s3 := (must_st hT s2.lt k3).1
  have C := (B.next s2).next s3
  have s4 := ((in_tot hT A).st C k4).1
  obtain ⟨u',g4,e4⟩ := he _ C _ _ k4
  have s6 : Step T p3 p4 := by
    split at k6
    · exact fail_st s4.lt k6
    · cases k6; exact .refl s4.lt
  unfold parseRF progR atR
  rw [k1]; simp only [Option.map_some,Option.bind_some,g2,k3,g4,k5,k6]
  by_cases z : p4.e = 0
  · rw [if_pos z] at hr ⊢
    have z3 := s6.e0 z
    rw [e4 z3,e2 (s3.e0 (s4.e0 z3)),hr]
  · rw [if_neg z] at hr ⊢
    rw [hr]
end Go.AL
namespace Go.AL
theorem sign_key : ∀ c ∈ signsL,[c] ∉ keysL := by decide
theorem tok_tks {w : Tx} {p : Int} {t : Tk} {n : Nat} (h : tokF w p = .ok (t,n)) : (t.kind = 6 → t.text ∈ keysL) ∧ (t.kind = 5 → t.text ∉ keysL) := by
  unfold tokF at h
  split at h
  · cases h
  rename_i c r
  split at h
  · split at h
    · cases h
    · cases h; exact ⟨fun x => by simp at x,fun x => by simp at x⟩
  split at h
  · split at h
    · cases h
    · cases h; exact ⟨fun x => by simp at x,fun x => by simp at x⟩
  split at h
  · split at h
    · cases h
    · cases h
      refine ⟨fun x => ?_,fun x => ?_⟩
      · dsimp only at x ⊢
        split at x
        · omega
        · split at x
          · assumption
          · omega
      · dsimp only at x
        split at x
        · omega
        · split at x <;> omega
  split at h
  · rename_i hs
    split at h
    · cases h; exact ⟨fun x => by simp at x,fun _ => by show ([45,62] : Tx) ∉ keysL; decide⟩
    · cases h; exact ⟨fun x => by simp at x,fun _ => sign_key c hs⟩
  · cases h
theorem lx_tks {s : Tx} {k : Nat} {T : List Tk} (h : Lx s k T) : TKS T := by
  have key : ∀ t ∈ T,(t.kind = 6 → t.text ∈ keysL) ∧ (t.kind = 5 → t.text ∉ keysL) := by
    induction h with
    | nil => intro t ht; simp only [List.mem_singleton] at ht; subst ht; exact ⟨fun x => by simp at x,fun x => by simp at x⟩
    | cons h1 h2 _ ih =>
      intro t ht
      rcases List.mem_cons.1 ht with rfl | ht
      · exact tok_tks h2
      · exact ih t ht
  exact ⟨(lx_tok h).1,fun t ht => (key t ht).1,fun t ht => (key t ht).2⟩
theorem kind_addKid (n c : Nd) : (n.addKid c).kind = n.kind := by cases n; rfl
theorem progL_kind {T : List Tk} {e ty : PM Nd} : ∀ (n : Nat) (nd r : Nd) (p q : PS),progL T e ty n nd p = some (r,q) → r.kind = nd.kind
  | 0,nd,r,p,q,h => by cases h
  | n + 1,nd,r,p,q,h => by
    obtain ⟨a,b,_,_,h⟩ := progL_inv h
    rcases h with ⟨_,rfl,_⟩ | ⟨_,p1,c,p2,_,_,h⟩
    · rfl
    · rw [progL_kind n _ _ _ _ h,kind_addKid]
theorem program_kind {s : Tx} {n : Nd} {a e : Int} (h : programF s = some (n,a,e)) : (e = 0 → n.kind = 30) ∧ (e ≠ 0 → n = nd0) := by
  unfold programF at h
  cases hl : lexF s with
  | error x =>
    obtain ⟨b,f⟩ := x
    rw [hl] at h
    cases h
    exact ⟨fun z => absurd z (lexF_err hl),fun _ => rfl⟩
  | ok T =>
    rw [hl] at h
    dsimp only at h
    unfold parseF at h
    simp only [Option.map_eq_some_iff,Prod.exists] at h
    obtain ⟨r,q,h,hr⟩ := h
    unfold progF at h
    simp only [Option.bind_eq_some_iff,Option.map_eq_some_iff,Prod.exists,Prod.mk.injEq] at h
    obtain ⟨t,k1,x,p1,k2,p2,k3,u,p3,k4,t',k5,p4,k6,rfl,rfl⟩ := h
    by_cases z : p4.e = 0
    · rw [if_pos z] at hr
      cases hr
      exact ⟨fun _ => by rw [kind_addKid,progL_kind _ _ _ _ _ k2]; rfl,fun x => absurd rfl x⟩
    · rw [if_neg z] at hr
      cases hr
      exact ⟨fun x => absurd x z,fun _ => rfl⟩
theorem programR_of {s : Tx} {n : Nd} {a e : Int} (h : programF s = some (n,a,e)) : (∃ b,lexF s = .error (b,e) ∧ a = b ∧ n = nd0 ∧ e ≠ 0) ∨ ∃ T,lexF s = .ok T ∧ T.length ≤ 2001 ∧ parseRF T = some (n,a,e) := by
  unfold programF at h
  cases hl : lexF s with
  | error x =>
    obtain ⟨b,f⟩ := x
    rw [hl] at h
    cases h
    exact .inl ⟨b,rfl,rfl,rfl,lexF_err hl⟩
  | ok T =>
    rw [hl] at h
    exact .inr ⟨T,rfl,lexF_len hl,parse_sim (lx_tks (lexF_lx hl).1) h⟩
mutual
theorem same_refl : ∀ n : Nd,sameB n n = true
  | .mk k t m a ns ks => by
    show (decide (k = k) && decide (t = t) && decide (m = m) && decide (ns = ns) && sameBs ks ks) = true
    simp [sames_refl ks]
theorem sames_refl : ∀ l : List Nd,sameBs l l = true
  | [] => rfl
  | n :: r => by
    show (sameB n n && sameBs r r) = true
    rw [same_refl n,sames_refl r]; rfl
end
theorem same_kind {a b : Nd} (h : a.kind ≠ b.kind) : sameB a b = false := by
  cases hh : sameB a b with
  | false => rfl
  | true => exact absurd (same_parts hh).1 h
end Go.AL
