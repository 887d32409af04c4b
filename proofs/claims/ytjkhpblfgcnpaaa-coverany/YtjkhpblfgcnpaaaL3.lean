/- Plain laws: the order of rows. -/
import Derived.Test.YtjkhpblfgcnpaaaL2
set_option linter.unusedSimpArgs false
set_option linter.unusedVariables false
set_option maxRecDepth 8000
namespace Go.Proofs
open Go Go.AL

theorem Good.perm {cons : List Cn} {W : Nat} {a b : List (List Nd)} (h : Good cons W a) (p : a.Perm b) : Good cons W b :=
  ⟨by rw [← p.length_eq]; exact h.len, fun r hr => h.wide r (p.mem_iff.2 hr), fun r hr => h.ok r (p.mem_iff.2 hr)⟩

theorem column_perm {a b : List (List Nd)} (p : a.Perm b) : (columnL a).Perm (columnL b) := (p.filter _).map _
theorem others_perm {a b : List (List Nd)} (p : a.Perm b) : (othersL a).Perm (othersL b) := (p.filter _).map _
theorem under_perm {a b : List (List Nd)} (h : Nd) (p : a.Perm b) : (underL a h).Perm (underL b h) := (p.filter _).map _

theorem any_perm {α : Type} {f : α → Bool} {a b : List α} (p : a.Perm b) : a.any f = b.any f := by
  rw [Bool.eq_iff_iff, List.any_eq_true, List.any_eq_true]
  exact ⟨fun ⟨x, h, k⟩ => ⟨x, p.mem_iff.1 h, k⟩, fun ⟨x, h, k⟩ => ⟨x, p.mem_iff.2 h, k⟩⟩

/-- Heads that are the same leave the same. -/
theorem under_same {cons : List Cn} {p q : Nd} (hp : okB cons p = true) (hq : okB cons q = true) (h : sameB p q = true) (rows : List (List Nd)) : underL rows p = underL rows q := by
  have hl := same_len hp hq h
  obtain ⟨h1, h2, h3⟩ := same_spec h
  have hs : ∀ x, sameB x p = sameB x q := fun x => by unfold sameB; rw [h1, h2, h3]
  have hb : ∀ r, belowB r p = belowB r q := fun r => by unfold belowB; rw [hs]
  have hbl : ∀ r, belowL r p = belowL r q := fun r => by unfold belowL; rw [hs, hl]
  unfold underL
  rw [show (fun r => belowB r p) = fun r => belowB r q from funext hb, show (fun r => belowL r p) = fun r => belowL r q from funext hbl]

theorem odd_iff (cons : List Cn) (l : List Nd) : l.any (odd cons (l.getD 0 default)) = l.any fun p => l.any fun q => odd cons p q := by
  have hodd : ∀ a b, odd cons a b = false ↔ b.kind = a.kind ∧ (conOf cons b).of_.toList = (conOf cons a).of_.toList := by
    intro a b
    unfold odd
    simp
  cases l with
  | nil => rfl
  | cons x r =>
    rw [List.getD_cons_zero]
    cases h : (x :: r).any (odd cons x) with
    | true =>
      rw [List.any_cons, h]; rfl
    | false =>
      symm
      rw [List.any_eq_false] at h ⊢
      intro p hp
      have hp1 := (hodd x p).1 (by simpa using h p hp)
      have : (x :: r).any (fun q => odd cons p q) = false := by
        rw [List.any_eq_false]
        intro q hq
        have hq1 := (hodd x q).1 (by simpa using h q hq)
        rw [(hodd p q).2 ⟨hq1.1.trans hp1.1.symm, hq1.2.trans hp1.2.symm⟩]
        decide
      rw [this]; decide

theorem odd_perm (cons : List Cn) {a b : List Nd} (p : a.Perm b) : a.any (odd cons (a.getD 0 default)) = b.any (odd cons (b.getD 0 default)) := by
  rw [odd_iff, odd_iff, any_perm p]
  refine any_congr fun x _ => any_perm p

/-- It is enough to look at the first of each kind of head. -/
theorem first_any (l : List Nd) (f : Nd → Bool) (hf : ∀ p ∈ l, ∀ q ∈ l, sameB p q = true → f p = f q) :
    ((List.range l.length).any fun i => !((l.take i).any fun o => sameB o (l.getD i default)) && f (l.getD i default)) = l.any f := by
  have refl : ∀ p, sameB p p = true := fun p => by unfold sameB; simp
  rw [Bool.eq_iff_iff, List.any_eq_true, List.any_eq_true]
  constructor
  · rintro ⟨i, hi, h⟩
    rw [Bool.and_eq_true] at h
    exact ⟨_, getD_mem (List.mem_range.1 hi), h.2⟩
  · rintro ⟨p, hp, h⟩
    -- the first place whose pattern is the same as p
    have hex : ∃ i, i < l.length ∧ sameB (l.getD i default) p = true := by
      obtain ⟨i, hi, e⟩ := List.mem_iff_getElem.1 hp
      refine ⟨i, hi, ?_⟩
      rw [List.getD_eq_getElem?_getD, List.getElem?_eq_getElem hi]
      show sameB l[i] p = true
      rw [e]; exact refl p
    have key : ∀ n, (∃ i, i < n ∧ i < l.length ∧ sameB (l.getD i default) p = true) → ∃ i, i < l.length ∧ sameB (l.getD i default) p = true ∧ ∀ j, j < i → sameB (l.getD j default) p = false := by
      intro n
      induction n with
      | zero => rintro ⟨i, h, _⟩; exact absurd h (Nat.not_lt_zero _)
      | succ n ih =>
        rintro ⟨i, h1, h2, h3⟩
        by_cases hx : ∃ j, j < n ∧ j < l.length ∧ sameB (l.getD j default) p = true
        · exact ih hx
        · refine ⟨i, h2, h3, fun j hj => ?_⟩
          cases hb : sameB (l.getD j default) p with
          | false => rfl
          | true => exact absurd ⟨j, by omega, by omega, hb⟩ hx
    obtain ⟨i0, hi0, hs0⟩ := hex
    obtain ⟨i, hi, hs, hno⟩ := key l.length ⟨i0, hi0, hi0, hs0⟩
    refine ⟨i, List.mem_range.2 hi, ?_⟩
    rw [Bool.and_eq_true]
    refine ⟨?_, by rw [hf _ (getD_mem hi) p hp hs]; exact h⟩
    rw [Bool.not_eq_true', List.any_eq_false]
    intro o ho
    obtain ⟨j, hj, e⟩ := List.mem_iff_getElem.1 ho
    have hj' : j < i := by rw [List.length_take] at hj; omega
    have hn := hno j hj'
    rw [List.getElem_take] at e
    have e2 : l.getD j default = o := by rw [List.getD_eq_getElem?_getD, List.getElem?_eq_getElem (by omega)]; exact e
    rw [e2] at hn
    intro hc
    obtain ⟨a1, a2, a3⟩ := same_spec hs
    obtain ⟨c1, c2, c3⟩ := same_spec hc
    have : sameB o p = true := by unfold sameB; rw [c1, c2, c3, a1, a2, a3]; simp
    rw [this] at hn; cases hn

theorem tog_step (cons : List Cn) (b W : Nat) (rows : List (List Nd)) (hg : Good cons (W + 1) rows) (hne : rows ≠ []) : togF cons (b + 1) rows =
    (if columnL rows = [] then togF cons b (othersL rows) else if (columnL rows).any (odd cons ((columnL rows).getD 0 default)) then false
      else if (columnL rows).any (fun p => !togF cons b (underL rows p)) then false else togF cons b (othersL rows)) := by
  rw [togF, if_neg (good_ne hg hne), first_any (columnL rows) (fun p => !togF cons b (underL rows p)) fun p hp q hq hs => by rw [under_same (col_head hg hp).1 (col_head hg hq).1 hs]]

theorem tog_perm (cons : List Cn) : ∀ (b W : Nat) (a c : List (List Nd)), a.Perm c → Good cons W a → togF cons b a = togF cons b c := by
  intro b
  induction b with
  | zero => intros; rfl
  | succ b ih =>
    intro W a c p hg
    have hgc := hg.perm p
    by_cases hne : a = []
    · subst hne; rw [List.nil_perm.1 p]
    have hnc : c ≠ [] := by rintro rfl; exact hne (List.perm_nil.1 p)
    cases W with
    | zero =>
      have e : ∀ x : List (List Nd), Good cons 0 x → x ≠ [] → togF cons (b + 1) x = true := by
        intro x hx hxn
        cases x with
        | nil => exact absurd rfl hxn
        | cons r rs =>
          have : r = [] := List.eq_nil_of_length_eq_zero (hx.wide r List.mem_cons_self)
          rw [togF, if_pos (.inr (by rw [List.getD_cons_zero]; exact this))]
      rw [e a hg hne, e c hgc hnc]
    | succ W =>
      have pc := column_perm p
      have e1 : (columnL a = []) ↔ (columnL c = []) := ⟨fun h => by rw [h] at pc; exact List.nil_perm.1 pc, fun h => by rw [h] at pc; exact List.perm_nil.1 pc⟩
      have e2 := ih W _ _ (others_perm p) (good_others hg)
      have e3 : ((columnL a).any fun p => !togF cons b (underL a p)) = (columnL c).any fun p => !togF cons b (underL c p) := by
        rw [any_perm pc]
        refine any_congr fun x hx => ?_
        have hok := (col_head hgc hx).1
        rw [ih _ _ _ (under_perm x p) (good_under hg hok)]
      rw [tog_step cons b W a hg hne, tog_step cons b W c hgc hnc, e2, e3, odd_perm cons pc]
      simp only [e1]

theorem con_num {cons : List Cn} {h : Nd} (hok : okB cons h = true) (hk : h.kind = 5) : h.number = 0 := by
  have hp := ok_plain hok
  unfold plainB at hp
  simp only [hk] at hp
  simp only [Bool.and_eq_true, Bool.or_eq_true] at hp
  obtain ⟨⟨_, h2⟩, _⟩ := hp
  rcases h2 with h2 | h2
  · simpa using h2
  · simp at h2

theorem ok_head {cons : List Cn} (hlow : Low cons) (hfind : ∀ c ∈ cons, findC cons c.name = some c) {c : Cn} (hc : c ∈ cons) : okB cons (headOf c) = true := by
  have ha := hlow.2 c hc
  rw [okB_eq]
  have h1 : plainB (headOf c) = true := by simp [plainB, headOf, Nd.kind, Nd.text, Nd.names, Nd.number, Nd.kids]
  rw [h1]
  simp only [headOf, Nd.kind, Nd.text, Nd.kids, hfind c hc, okL_anys, List.length_replicate]
  have : c.arity = ((c.arity.toNat : Nat) : Int) := by omega
  simp
  omega

theorem mea_step (cons : List Cn) (b W : Nat) (rows : List (List Nd)) (hne : rows ≠ []) : meaF cons (b + 1) rows (anys (W + 1)) =
    if (!(columnL rows).isEmpty && ((columnL rows).getD 0 default).kind == 5 && !((ofL cons (conOf cons ((columnL rows).getD 0 default)).of_).any fun c => !((columnL rows).any fun x => x.text.toList == c.name.toList))) = true then
      (ofL cons (conOf cons ((columnL rows).getD 0 default)).of_).any fun c => meaF cons b (underL rows (headOf c)) (anys ((headOf c).kids.length + W))
    else meaF cons b (othersL rows) (anys W) := by
  have n1 : ¬ (rows = [] ∨ anys (W + 1) = []) := by rintro (h | h); exact hne h; cases h
  rw [meaF, if_neg n1, if_neg (show ¬ (looseB ((anys (W + 1)).getD 0 default) = false) by rw [show looseB ((anys (W + 1)).getD 0 default) = true from rfl]; decide)]
  simp only [below_anys]
  rfl

theorem mea_perm (cons : List Cn) (hlow : Low cons) (hfind : ∀ c ∈ cons, findC cons c.name = some c) : ∀ (b B W : Nat) (a c : List (List Nd)), a.Perm c → Good cons W a → togF cons B a = true → meaF cons b a (anys W) = meaF cons b c (anys W) := by
  intro b
  induction b with
  | zero => intros; rfl
  | succ b ih =>
    intro B W a c p hg ht
    have hgc := hg.perm p
    by_cases hne : a = []
    · subst hne; rw [List.nil_perm.1 p]
    have hnc : c ≠ [] := by rintro rfl; exact hne (List.perm_nil.1 p)
    cases W with
    | zero => rw [meaF, meaF, if_pos (.inr rfl), if_pos (.inr rfl), decide_eq_false hne, decide_eq_false hnc]
    | succ W =>
      cases B with
      | zero => cases ht
      | succ B =>
        rw [tog_step cons B W a hg hne] at ht
        have pc := column_perm p
        have hto : togF cons B (othersL a) = true := by
          split at ht
          · exact ht
          · split at ht
            · cases ht
            · split at ht
              · cases ht
              · exact ht
        have hoth := ih B W _ _ (others_perm p) (good_others hg) hto
        rw [mea_step cons b W a hne, mea_step cons b W c hnc, hoth]
        by_cases hc : columnL a = []
        · have hcc : columnL c = [] := by rw [hc] at pc; exact List.nil_perm.1 pc
          rw [if_neg (by rw [hc]; simp), if_neg (by rw [hcc]; simp)]
        · have hcc : columnL c ≠ [] := by intro h; rw [h] at pc; exact hc (List.perm_nil.1 pc)
          rw [if_neg hc] at ht
          have hodd : (columnL a).any (odd cons ((columnL a).getD 0 default)) = false := by
            cases h : (columnL a).any (odd cons ((columnL a).getD 0 default)) with
            | false => rfl
            | true => rw [h, if_pos rfl] at ht; cases ht
          have hund : (columnL a).any (fun p => !togF cons B (underL a p)) = false := by
            rw [hodd, if_neg (by decide)] at ht
            cases h : (columnL a).any (fun p => !togF cons B (underL a p)) with
            | false => rfl
            | true => rw [h, if_pos rfl] at ht; cases ht
          rw [List.any_eq_false] at hodd hund
          -- the first heads are of one kind and type
          have hmem : (columnL c).getD 0 default ∈ columnL a := pc.mem_iff.2 (getD_mem (List.length_pos_iff.2 hcc))
          have ho := hodd _ hmem
          have hk : ((columnL c).getD 0 default).kind = ((columnL a).getD 0 default).kind ∧ (conOf cons ((columnL c).getD 0 default)).of_.toList = (conOf cons ((columnL a).getD 0 default)).of_.toList := by
            unfold odd at ho
            simpa using ho
          have hof : ofL cons (conOf cons ((columnL c).getD 0 default)).of_ = ofL cons (conOf cons ((columnL a).getD 0 default)).of_ := by unfold ofL; rw [hk.2]
          have hmiss : ∀ l : List Cn, (l.any fun x => !((columnL c).any fun y => y.text.toList == x.name.toList)) = l.any fun x => !((columnL a).any fun y => y.text.toList == x.name.toList) := by
            intro l
            refine any_congr fun x _ => ?_
            rw [any_perm pc]
          have i1 : (columnL a).isEmpty = false := by cases h : columnL a with | nil => exact absurd h hc | cons _ _ => rfl
          have i2 : (columnL c).isEmpty = false := by cases h : columnL c with | nil => exact absurd h hcc | cons _ _ => rfl
          rw [hof, hmiss, hk.1, i1, i2]
          split
          · rename_i hcomp
            simp only [Bool.not_false, Bool.true_and, Bool.and_eq_true, Bool.not_eq_true'] at hcomp
            obtain ⟨hk5, hall⟩ := hcomp
            rw [List.any_eq_false] at hall
            refine any_congr fun x hx => ?_
            have hxc : x ∈ cons := (List.mem_filter.1 hx).1
            have hh := hall x hx
            simp only [Bool.not_eq_true, Bool.not_eq_false', List.any_eq_true] at hh
            obtain ⟨h, hhm, hht⟩ := hh
            have hokh := (col_head hg hhm).1
            have hokx := ok_head hlow hfind hxc
            have hkh : h.kind = 5 := by
              have h1 := hodd h hhm
              unfold odd at h1
              have h2 : h.kind = ((columnL a).getD 0 default).kind := by
                have : (h.kind = ((columnL a).getD 0 default).kind ∧ (conOf cons h).of_.toList = (conOf cons ((columnL a).getD 0 default)).of_.toList) := by simpa using h1
                exact this.1
              rw [h2]; simpa using hk5
            have hsame : sameB h (headOf x) = true := by
              have e1 : (headOf x).kind = 5 := rfl
              have e2 : (headOf x).text = x.name := rfl
              have e3 : (headOf x).number = 0 := rfl
              unfold sameB
              rw [e1, e2, e3, hkh, con_num hokh hkh, hht]; rfl
            have htu : togF cons B (underL a (headOf x)) = true := by
              rw [← under_same hokh hokx hsame]
              simpa using hund h hhm
            exact ih B _ _ _ (under_perm _ p) (good_under hg hokx) htu
          · rfl

/-- What CoverOrder says. -/
theorem order_law (cons : List Cn) (hlow : Low cons) (hfind : ∀ c ∈ cons, findC cons c.name = some c) (rows : List Nd) (hl : rows.length ≤ 10) :
    (chkF cons 100000 rows).2 = 27 ∨ (chkF cons 100000 rows.reverse).2 = 27 ∨ (chkF cons 100000 rows).2 = (chkF cons 100000 rows.reverse).2 := by
  have p : rows.Perm rows.reverse := (List.reverse_perm rows).symm
  have po : (ones rows).Perm (ones rows.reverse) := p.map _
  have hlen : rows.reverse.length = rows.length := List.length_reverse
  have hany : (rows.reverse.any fun p => !(sizeN cons p).2) = rows.any fun p => !(sizeN cons p).2 := (any_perm p).symm
  cases hs : rows.any (fun p => !(sizeN cons p).2) with
  | true =>
    have h1 : goodB cons 100000 rows = false := by unfold goodB; rw [hs]; simp
    have h2 : goodB cons 100000 rows.reverse = false := by unfold goodB; rw [hany, hs]; simp
    rw [chk_bad _ _ _ h1, chk_bad _ _ _ h2]; exact .inr (.inr rfl)
  | false =>
    have hg := ones_good cons rows (by omega) hs
    have ht := tog_perm cons 100000 1 _ _ po hg
    have hgb : goodB cons 100000 rows.reverse = goodB cons 100000 rows := by unfold goodB; rw [hany, ht, hlen]
    cases hb : goodB cons 100000 rows with
    | false => rw [chk_bad _ _ _ hb, chk_bad _ _ _ (hgb.trans hb)]; exact .inr (.inr rfl)
    | true =>
      rw [chk_good _ _ _ hb, chk_good _ _ _ (hgb.trans hb)]
      have htt : togF cons 100000 (ones rows) = true := by
        unfold goodB at hb
        rw [Bool.and_eq_true] at hb; exact hb.2
      have hm := mea_perm cons hlow hfind 100000 100000 1 _ _ po hg htt
      have e1 : anys 1 = [anyN] := rfl
      rw [e1] at hm
      rw [hm]
      generalize List.find? _ (List.range rows.length) = x
      generalize List.find? _ (List.range rows.reverse.length) = y
      cases x with
      | some i => exact .inl rfl
      | none =>
        cases y with
        | some i => exact .inr (.inl rfl)
        | none => exact .inr (.inr rfl)

end Go.Proofs
