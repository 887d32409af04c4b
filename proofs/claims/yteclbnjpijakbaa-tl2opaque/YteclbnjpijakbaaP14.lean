/- The plain law of Tl2Opaque: a step of a commit, a new var. -/
import Derived.Test.YteclbnjpijakbaaP13
set_option linter.unusedSimpArgs false
set_option linter.unusedVariables false
namespace Go.Proofs
open Go Go.AL

theorem seen_app {E : EP} {S : List (List Int)} {seen : List SN} (h : SeenI E S seen) (hO : OpqI E S) (r : List Int) : SeenI E (S ++ [r]) seen :=
  ⟨fun s hs => by
    obtain ⟨h1, h2, h3, h4, x, h5, h6⟩ := h.all s hs
    have := hO.start _ x h5
    have := hO.len
    exact ⟨h1, h2, h3, h4, x, h5, by rw [stG_app (by omega)]; exact h6⟩⟩

theorem lockF_none {t : Int} {vars : List TV} {l : List Int} (h : lockF t vars l = none) : ∀ n ∈ l, (vars.getD n.toNat default).lock = t := by
  induction l with
  | nil => intro n hn; cases hn
  | cons a r ih =>
    unfold lockF at h
    split at h
    · rename_i e
      intro n hn
      rcases List.mem_cons.1 hn with rfl | hn
      · exact e
      · exact ih h n hn
    · split at h <;> cases h

theorem lock_cases2 {t : Int} {vars : List TV} {l : List Int} {a : Int × Int} {vs : List TV} (h : lockF t vars l = some (a, vs)) :
    (a = (1, 0) ∨ a = (0, 32)) ∧ (vs = vars ∨ ∃ n ∈ l, (vars.getD n.toNat default).lock = -1 ∧ vs = vars.set n.toNat { vars.getD n.toNat default with lock := t }) := by
  induction l with
  | nil => cases h
  | cons n r ih =>
    unfold lockF at h
    split at h
    · rcases ih h with ⟨ea, e | ⟨k, hk, e⟩⟩
      · exact ⟨ea, .inl e⟩
      · exact ⟨ea, .inr ⟨k, by simp [hk], e⟩⟩
    · split at h
      · rename_i e; cases h; exact ⟨.inl rfl, .inr ⟨n, by simp, e, rfl⟩⟩
      · cases h; exact ⟨.inr rfl, .inl rfl⟩

theorem varG_set {vs : List TV} {n m : Nat} {v : TV} (h : n < vs.length) : varG (vs.set n v) m = if m = n then v else varG vs m := by
  unfold varG
  simp only [List.getD_eq_getElem?_getD]
  by_cases e : m = n
  · subst e; rw [if_pos rfl, List.getElem?_set_self h]; rfl
  · rw [if_neg e, List.getElem?_set_ne (Ne.symm e)]

theorem opq_make {E : EP} {S : List (List Int)} {seen : List SN} (h : OpqI E S) (hs : SeenI E S seen) {b : Nat} (hF : FineP b E) (v : Int) :
    OpqI { E with vars := E.vars ++ [⟨v, 0, -1⟩] } (S.map (· ++ [v])) ∧ SeenI { E with vars := E.vars ++ [⟨v, 0, -1⟩] } (S.map (· ++ [v])) seen := by
  have hold : ∀ n, n < E.vars.length → varG (E.vars ++ [(⟨v, 0, -1⟩ : TV)]) n = varG E.vars n := fun n hn => by
    unfold varG
    simp only [List.getD_eq_getElem?_getD]
    rw [List.getElem?_append_left hn]
  have hnew : varG (E.vars ++ [(⟨v, 0, -1⟩ : TV)]) E.vars.length = ⟨v, 0, -1⟩ := by
    unfold varG
    simp [List.getD_eq_getElem?_getD]
  have hin : ∀ (t : Nat) (x : TP), E.txs[t]? = some (some x) → x.pointed = true → ∀ n : Nat, (n : Int) ∈ x.left → n < E.vars.length := fun t x hx hp n hn => by
    have := ((hF.tx t x hx).left hp).2 _ hn; omega
  refine ⟨⟨by rw [List.length_map]; exact h.len, fun r hr => ?_, h.nodup, h.pos, fun t x hx hp n hn => ?_, fun t x hx hp n hn s h1 h2 => ?_, fun n hn => ?_, h.start⟩, ⟨fun s hs' => ?_⟩⟩
  · obtain ⟨q, hq, rfl⟩ := List.mem_map.1 hr
    have := h.rows q hq
    simp [this]
  · show (varG (E.vars ++ [(⟨v, 0, -1⟩ : TV)]) n).lock = _
    rw [hold n (hin t x hx hp n hn)]; exact h.lock t x hx hp n hn
  · rw [List.length_map] at h2
    have := hin t x hx hp n hn
    rw [stG_map h.rows h2, if_neg (by omega)]; exact h.pend t x hx hp n hn s h1 h2
  · have hn : n < (E.vars ++ [(⟨v, 0, -1⟩ : TV)]).length := hn
    rw [List.length_append] at hn
    by_cases e : n < E.vars.length
    · rcases h.vals n e with k | k
      · exact .inl k
      · refine .inr fun s h1 h2 => ?_
        have h1 : (varG (E.vars ++ [(⟨v, 0, -1⟩ : TV)]) n).ver ≤ (s : Int) := h1
        show _ = (varG (E.vars ++ [(⟨v, 0, -1⟩ : TV)]) n).val
        rw [hold n e] at h1 ⊢
        rw [List.length_map] at h2
        rw [stG_map h.rows h2, if_neg (by omega)]; exact k s h1 h2
    · have e : n = E.vars.length := by simp at hn; omega
      subst e
      refine .inr fun s h1 h2 => ?_
      show _ = (varG (E.vars ++ [(⟨v, 0, -1⟩ : TV)]) E.vars.length).val
      rw [List.length_map] at h2
      rw [hnew, stG_map h.rows h2, if_pos rfl]
  · obtain ⟨h1, h2, h3, h4, x, h5, h6⟩ := hs.all s hs'
    have h7 := h.start _ x h5
    have h8 := h.len
    refine ⟨h1, h2, h3, ?_, x, h5, ?_⟩
    · show s.n < ((E.vars ++ [(⟨v, 0, -1⟩ : TV)]).length : Int)
      rw [List.length_append]; omega
    · rw [stG_map h.rows (by omega), if_neg (by omega)]; exact h6

theorem opq_step {E : EP} {S : List (List Int)} {seen : List SN} (h : OpqI E S) (hs : SeenI E S seen) {b b0 : Nat} (hS : SerI b E) (hF : FineP b0 E) (hV : VerI E) (t : Int) (puts : List PW)
    (hputs : ∀ x, E.of t = some x → puts.map (·.n) = keysUpto x.base E.vars.length ∧ ∀ p ∈ puts, (x.base p.n).getD 0 = p.v) :
    OpqI (stepF E t).2 (if (stepF E t).1 = (2, 0) then S ++ [nextS S puts] else S) ∧ SeenI (stepF E t).2 (if (stepF E t).1 = (2, 0) then S ++ [nextS S puts] else S) (if (stepF E t).1 = (4, 0) then withoutL seen t else seen) := by
  have ne2 : ∀ {e : Int × Int}, e.1 = 0 → ¬ e = (2, 0) := fun h1 h2 => by rw [h2] at h1; cases h1
  have ne4 : ∀ {e : Int × Int}, e.1 = 0 → ¬ e = (4, 0) := fun h1 h2 => by rw [h2] at h1; cases h1
  unfold stepF
  split
  · exact ⟨h, hs⟩
  · rename_i x hx
    have hg := pof_get hx
    have hX := hS.tx _ x hg.2
    have hT := hF.tx _ x hg.2
    have hst := h.start _ x hg.2
    split
    · exact ⟨h, hs⟩
    · split
      · rename_i hp
        have hlf := hT.left hp
        unfold putF
        split
        · rename_i e; exact absurd e hlf.1
        · rename_i n r e
          have e' : x.left = n :: r := e
          have hn := hlf.2 n (by rw [e']; simp)
          have hnn : ((n.toNat : Nat) : Int) = n := by omega
          have hnd := h.nodup _ x hg.2 hp
          rw [e', List.nodup_cons] at hnd
          have hlk := h.lock _ x hg.2 hp n.toNat (by rw [e', hnn]; simp)
          have hnl : n.toNat < E.vars.length := by omega
          -- what is left of it, with o for the transaction
          have key : ∀ (E' : EP) (o : Option TP), E'.clock = E.clock → E'.vars = E.vars.set n.toNat ⟨(x.commit.base n).getD 0, x.commit.stamp, -1⟩ → E'.txs = E.txs.set t.toNat o →
              (∀ y, o = some y → y.pointed = true ∧ y.left = r ∧ y.stamp = x.stamp ∧ y.start = x.start ∧ y.base = x.base) → (o = none → r = []) → OpqI E' S := by
            intro E' o hc hv ht ho hno
            have hvg : ∀ m, varG E'.vars m = if m = n.toNat then ⟨(x.commit.base n).getD 0, x.commit.stamp, -1⟩ else varG E.vars m := fun m => by rw [hv]; exact varG_set hnl
            have hget : ∀ (u : Nat) (y : TP), E'.txs[u]? = some (some y) → (u = t.toNat ∧ y.left = r ∧ y.stamp = x.stamp ∧ y.start = x.start ∧ y.base = x.base) ∨ (u ≠ t.toNat ∧ E.txs[u]? = some (some y)) := fun u y hy => by
              rw [ht] at hy
              rcases tx_set_get hy with ⟨e1, e2⟩ | q
              · exact .inl ⟨e1, (ho y e2).2⟩
              · exact .inr q
            have hlen : E'.vars.length = E.vars.length := by rw [hv, List.length_set]
            refine ⟨by rw [hc]; exact h.len, by rw [hlen]; exact h.rows, fun u y hy hpy => ?_, fun u y hy hpy => ?_, fun u y hy hpy m hm => ?_, fun u y hy hpy m hm s q1 q2 => ?_, fun m hm => ?_, fun u y hy => ?_⟩
            · rcases hget u y hy with ⟨_, f, _⟩ | ⟨_, f⟩
              · rw [f]; exact hnd.2
              · exact h.nodup u y f hpy
            · rcases hget u y hy with ⟨_, f, _⟩ | ⟨_, f⟩
              · rw [f]; exact fun k hk => (hlf.2 k (by rw [e']; simp [hk])).1
              · exact h.pos u y f hpy
            · rw [hvg]
              rcases hget u y hy with ⟨rfl, f, _⟩ | ⟨hu, f⟩
              · rw [f] at hm
                rw [if_neg (fun q => hnd.1 (by rw [← hnn, ← q]; exact hm))]
                exact h.lock _ x hg.2 hp m (by rw [e']; simp [hm])
              · have hk := h.lock u y f hpy m hm
                rw [if_neg (fun q => ?_)]
                · exact hk
                · subst q
                  rw [hlk] at hk; exact hu (Int.ofNat.inj hk).symm
            · rcases hget u y hy with ⟨rfl, f, f2, f3, f4⟩ | ⟨hu, f⟩
              · rw [f] at hm
                rw [f2] at q1
                rw [f4]
                exact h.pend _ x hg.2 hp m (by rw [e']; simp [hm]) s q1 q2
              · exact h.pend u y f hpy m hm s q1 q2
            · by_cases em : m = n.toNat
              · refine .inr fun s q1 q2 => ?_
                rw [hvg, if_pos em] at q1 ⊢
                have := h.pend _ x hg.2 hp n.toNat (by rw [e', hnn]; simp) s q1 q2
                rw [em, this, hnn]; rfl
              · rcases h.vals m (by omega) with ⟨u, y, k1, k2, k3⟩ | k
                · left
                  by_cases eu : u = t.toNat
                  · subst eu
                    rw [hg.2] at k1; cases k1
                    rw [e'] at k3
                    have k4 : (m : Int) ∈ r := by
                      rcases List.mem_cons.1 k3 with q | q
                      · exact absurd (by omega) em
                      · exact q
                    cases o with
                    | none => rw [hno rfl] at k4; cases k4
                    | some y =>
                      obtain ⟨y1, y2, _⟩ := ho y rfl
                      exact ⟨t.toNat, y, by rw [ht]; exact List.getElem?_set_self (lt_of_get hg.2), y1, by rw [y2]; exact k4⟩
                  · exact ⟨u, y, by rw [ht]; exact tx_set_ne k1 eu, k2, k3⟩
                · refine .inr fun s q1 q2 => ?_
                  rw [hvg, if_neg em] at q1 ⊢
                  exact k s q1 q2
            · rw [hc]
              rcases hget u y hy with ⟨rfl, f, f2, f3, f4⟩ | ⟨hu, f⟩
              · rw [f3]; exact hst
              · exact h.start u y f
          split
          · rename_i hr
            refine ⟨?_, ?_⟩
            · exact key _ none rfl rfl (by simp only [EP.put, List.set_set]) (fun y q => by cases q) (fun _ => hr)
            · exact seen_gone hs hg.1.1 (o := none) (by show _ ≤ (E.vars.set _ _).length; rw [List.length_set]; exact Nat.le_refl _) (by simp only [EP.put, List.set_set])
          · refine ⟨?_, ?_⟩
            · exact key _ (some { x.commit with left := r }) rfl rfl (by simp only [EP.put, List.set_set]) (fun y q => by cases q; exact ⟨hp, rfl, rfl, rfl, rfl⟩) (fun q => by cases q)
            · exact seen_set hs (t := t.toNat) (o := some { x.commit with left := r }) (by show _ ≤ (E.vars.set _ _).length; rw [List.length_set]; exact Nat.le_refl _) (by simp only [EP.put, List.set_set]) fun z hz => by
                rw [hg.2] at hz; cases hz; exact ⟨_, rfl, rfl⟩
      · rename_i hp
        have hp : x.pointed = false := by simpa using hp
        have hqo : ∀ z, E.txs[t.toNat]? = some (some z) → z.pointed = false := fun z hz => by rw [hg.2] at hz; cases hz; exact hp
        have hcq : ∀ z, some x.commit = some z → z.pointed = false ∧ 0 ≤ z.start ∧ z.start ≤ E.clock := fun z hz => by cases hz; exact ⟨hp, hst⟩
        split
        · rename_i a vs hlkf
          obtain ⟨ea, hvs⟩ := lock_cases2 hlkf
          have n2 : ¬ a = (2, 0) := fun q => by rcases ea with e | e <;> (rw [e] at q; cases q)
          have n4 : ¬ a = (4, 0) := fun q => by rcases ea with e | e <;> (rw [e] at q; cases q)
          simp only [n2, n4, if_false]
          rcases hvs with rfl | ⟨n, hn, hl, rfl⟩
          · exact ⟨opq_quiet h (t := t.toNat) (o := some x.commit) rfl rfl (fun n => ⟨rfl, rfl⟩) (fun n => .inl rfl) rfl hqo hcq, seen_put hs hx (y := x.commit) rfl⟩
          · have hk := (mem_keysUpto.1 hn).1
            have hvg : ∀ m, varG (E.vars.set n.toNat { E.vars.getD n.toNat default with lock := t }) m = if m = n.toNat then { E.vars.getD n.toNat default with lock := t } else varG E.vars m := fun m => varG_set (by omega)
            refine ⟨opq_quiet h (t := t.toNat) (o := some x.commit) rfl (by show (E.vars.set _ _).length = _; rw [List.length_set]) (fun m => ?_) (fun m => ?_) rfl hqo hcq, seen_set hs (t := t.toNat) (o := some x.commit) (by show _ ≤ (E.vars.set _ _).length; rw [List.length_set]; exact Nat.le_refl _) rfl fun z hz => by
                rw [hg.2] at hz; cases hz; exact ⟨_, rfl, rfl⟩⟩
            · show (varG (E.vars.set n.toNat { E.vars.getD n.toNat default with lock := t }) m).val = _ ∧ (varG (E.vars.set n.toNat { E.vars.getD n.toNat default with lock := t }) m).ver = _
              rw [hvg]
              split
              · rename_i e; subst e; exact ⟨rfl, rfl⟩
              · exact ⟨rfl, rfl⟩
            · show (varG (E.vars.set n.toNat { E.vars.getD n.toNat default with lock := t }) m).lock = _ ∨ _
              rw [hvg]
              split
              · rename_i e; subst e; exact .inr (.inl hl)
              · exact .inl rfl
        · rename_i hlkf
          split
          · rename_i hvf
            rw [if_neg (ne2 rfl), if_neg (ne4 rfl)]
            exact ⟨opq_quiet h (t := t.toNat) (o := some x.commit) rfl rfl (fun n => ⟨rfl, rfl⟩) (fun n => .inl rfl) rfl hqo hcq, seen_put hs hx (y := x.commit) rfl⟩
          · split
            · exact ⟨opq_quiet h (t := t.toNat) (o := none) rfl rfl (fun n => ⟨rfl, rfl⟩) (fun n => .inl rfl) rfl hqo (fun z hz => by cases hz), seen_gone hs hg.1.1 (o := none) (Nat.le_refl _) rfl⟩
            · -- the point
              have hlocks := lockF_none hlkf
              obtain ⟨hpn, hpv⟩ := hputs x hx
              have hnd : (puts.map (·.n)).Nodup := by rw [hpn]; exact keysUpto_nodup _ _
              have hpos : ∀ p ∈ puts, 0 ≤ p.n := fun p hpm => by
                have : p.n ∈ puts.map (·.n) := List.mem_map.2 ⟨p, hpm, rfl⟩
                rw [hpn] at this
                exact (mem_keysUpto.1 this).1.1
              have hclk := hF.clk.1
              have hSl := h.len
              have hlast : S.length - 1 < S.length := by omega
              have hrow : (S.getD (S.length - 1) []).length = E.vars.length := by
                have hm : S[S.length - 1] ∈ S := List.getElem_mem hlast
                simp only [List.getD_eq_getElem?_getD, List.getElem?_eq_getElem hlast, Option.getD_some]
                exact h.rows _ hm
              -- what the new state says
              have hin : ∀ n : Nat, (n : Int) ∈ keysUpto x.base E.vars.length → stG (S ++ [nextS S puts]) S.length n = (x.base n).getD 0 := fun n hn => by
                have hn2 := hn
                rw [← hpn] at hn2
                obtain ⟨p, hpm, e⟩ := List.mem_map.1 hn2
                have hk := (mem_keysUpto.1 hn).1
                have := foldl_own hnd hpos hpm (S.getD (S.length - 1) []) (by rw [hrow]; omega)
                rw [stG_last]
                have e2 : p.n.toNat = n := by omega
                rw [e2] at this
                have e3 : p.n = (n : Int) := e
                rw [← e3, hpv p hpm]
                exact this
              have hout : ∀ n : Nat, ¬ (n : Int) ∈ keysUpto x.base E.vars.length → stG (S ++ [nextS S puts]) S.length n = stG S (S.length - 1) n := fun n hn => by
                rw [stG_last]
                exact foldl_other puts _ fun p hpm e => hn (by
                  have := hpos p hpm
                  have e2 : p.n = (n : Int) := by omega
                  rw [← hpn, ← e2]
                  exact List.mem_map.2 ⟨p, hpm, rfl⟩)
              have hget : ∀ (u : Nat) (y : TP), (E.txs.set t.toNat (some { x.commit with pointed := true, stamp := E.clock + 1, left := keysUpto x.base E.vars.length }))[u]? = some (some y) →
                  (u = t.toNat ∧ y.left = keysUpto x.base E.vars.length ∧ y.stamp = E.clock + 1 ∧ y.start = x.start ∧ y.base = x.base) ∨ (u ≠ t.toNat ∧ E.txs[u]? = some (some y)) := fun u y hy => by
                rcases tx_set_get hy with ⟨e1, e2⟩ | q
                · cases e2; exact .inl ⟨e1, rfl, rfl, rfl, rfl⟩
                · exact .inr q
              have hO : OpqI { E.put t { x.commit with pointed := true, stamp := E.clock + 1, left := keysUpto x.base E.vars.length } with clock := E.clock + 1 } (S ++ [nextS S puts]) := by
                refine ⟨?_, fun r hr => ?_, fun u y hy hpy => ?_, fun u y hy hpy => ?_, fun u y hy hpy m hm => ?_, fun u y hy hpy m hm s q1 q2 => ?_, fun m hm => ?_, fun u y hy => ?_⟩
                · show _ = E.clock + 1 + 1
                  rw [List.length_append, List.length_singleton]; omega
                · rcases List.mem_append.1 hr with q | q
                  · exact h.rows r q
                  · simp only [List.mem_singleton] at q
                    subst q
                    exact (foldl_len _ _).trans hrow
                · rcases hget u y hy with ⟨_, f, _⟩ | ⟨_, f⟩
                  · rw [f]; exact keysUpto_nodup _ _
                  · exact h.nodup u y f hpy
                · rcases hget u y hy with ⟨_, f, _⟩ | ⟨_, f⟩
                  · rw [f]; exact fun k hk => (mem_keysUpto.1 hk).1.1
                  · exact h.pos u y f hpy
                · rcases hget u y hy with ⟨rfl, f, _⟩ | ⟨_, f⟩
                  · rw [f] at hm
                    have := hlocks _ hm
                    rw [Int.toNat_natCast] at this
                    show (varG E.vars m).lock = _
                    unfold varG
                    rw [this]; omega
                  · exact h.lock u y f hpy m hm
                · rw [List.length_append, List.length_singleton] at q2
                  rcases hget u y hy with ⟨rfl, f, f2, f3, f4⟩ | ⟨hu, f⟩
                  · rw [f] at hm
                    rw [f2] at q1
                    have es : s = S.length := by omega
                    rw [es, hin m hm, f4]
                  · have hk := h.lock u y f hpy m hm
                    by_cases es : s < S.length
                    · rw [stG_app es]; exact h.pend u y f hpy m hm s q1 es
                    · have es : s = S.length := by omega
                      have hnk : ¬ (m : Int) ∈ keysUpto x.base E.vars.length := fun q => by
                        have := hlocks _ q
                        rw [Int.toNat_natCast] at this
                        unfold varG at hk
                        rw [hk] at this
                        exact hu (by omega)
                      rw [es, hout m hnk]
                      have := (hS.tx u y f).pt hpy
                      exact h.pend u y f hpy m hm _ (by omega) hlast
                · by_cases hk : (m : Int) ∈ keysUpto x.base E.vars.length
                  · exact .inl ⟨t.toNat, _, List.getElem?_set_self (lt_of_get hg.2), rfl, hk⟩
                  · rcases h.vals m hm with ⟨u, y, k1, k2, k3⟩ | k
                    · refine .inl ⟨u, y, tx_set_ne k1 ?_, k2, k3⟩
                      rintro rfl
                      rw [hqo y k1] at k2; cases k2
                    · refine .inr fun s q1 q2 => ?_
                      have q1 : (varG E.vars m).ver ≤ (s : Int) := q1
                      show _ = (varG E.vars m).val
                      rw [List.length_append, List.length_singleton] at q2
                      by_cases es : s < S.length
                      · rw [stG_app es]; exact k s q1 es
                      · have es : s = S.length := by omega
                        rw [es, hout m hk]
                        have hmem : varG E.vars m ∈ E.vars := by
                          have hm : m < E.vars.length := hm
                          unfold varG; simp [List.getD_eq_getElem?_getD, hm]
                        have := hS.ver _ hmem
                        exact k _ (by omega) hlast
                · show _ ∧ y.start ≤ E.clock + 1
                  rcases hget u y hy with ⟨rfl, f, f2, f3, f4⟩ | ⟨hu, f⟩
                  · rw [f3]; omega
                  · have := h.start u y f; omega
              refine ⟨hO, ?_⟩
              have h1 := seen_app hs h (nextS S puts)
              exact seen_set h1 (t := t.toNat) (o := some { x.commit with pointed := true, stamp := E.clock + 1, left := keysUpto x.base E.vars.length }) (Nat.le_refl _) rfl fun z hz => by
                rw [hg.2] at hz; cases hz; exact ⟨_, rfl, rfl⟩

end Go.Proofs
