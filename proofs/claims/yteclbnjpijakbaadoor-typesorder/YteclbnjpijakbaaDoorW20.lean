/- The engine: Show. -/
import Derived.Test.YteclbnjpijakbaaDoorM8
set_option linter.unusedSimpArgs false
set_option linter.unusedVariables false
set_option maxRecDepth 8000
namespace Go.Proofs
open Go Go.AL

theorem Tryd.aint3 : aInt Tryd.prog 3 = some .i64 := by kernel_rfl
theorem Tryd.aint21 : aInt Tryd.prog 21 = some .i32 := by kernel_rfl
theorem Tryd.aint9 : aInt Tryd.prog 9 = none := by kernel_rfl
theorem Tryd.atext9 : aIsText Tryd.prog 9 = true := by kernel_rfl
theorem enc_let : ∀ k : Fin 26, Utf8.encode (IntKind.i32.wrap (97 + ((k.val : Nat) : Int))) = txB (letB k.val) := by decide +kernel
theorem tmod_nat26 (k : Nat) : ((k : Int)).tmod 26 = ((k % 26 : Nat) : Int) := rfl

set_option maxHeartbeats 4000000 in
theorem letter_c (k : Nat) (hk : k < 26) (K : SV → St → Prop) (st : St) (h : K (.sc (.string (txB (letB k)))) st) : ACalls Tryd.prog 28 [.sc (.int .i64 k)] K st := by
  refine acalls_go_pure [] Tryd.func28 rfl Tryd.results28 Tryd.ntmps28 ?_
  have h1 : ((k : Int)).tmod 26 = k := by rw [tmod_nat26, Nat.mod_eq_of_lt hk]
  have h2 : IntKind.i64.wrap (97 + (k : Int)) = 97 + (k : Int) := IntWalk.i64_in _ (by omega)
  have h3 : (26 ≤ (k : Int)) = False := eq_false (by omega)
  have h4 := enc_let ⟨k, hk⟩
  simp only [go_sem, reduceCtorEq, Nat.reduceAdd, Nat.reduceMul, Nat.reduceLeDiff, Nat.reduceLT, Int.reduceLE, Int.reduceLT, Int.reduceEq, Nat.reduceBEq, Nat.reduceEqDiff, h1, h2, h3, convOk, convV, Tryd.aint3, Tryd.aint21, Tryd.aint9, Tryd.atext9, Option.isSome_some, Option.isSome_none, h4]
  exact fin_sc h

theorem txB_app (a b : List UInt8) : txB a ++ txB b = txB (a ++ b) := by
  apply ByteArray.ext
  simp [txB, ByteArray.data_append]
theorem txB_name (n : ByteArray) : txB n.data.toList = n := by cases n; rfl
theorem index_mem {n : Int} : ∀ {l : List Int}, n ∈ l → indexF l n = ((l.idxOf n : Nat) : Int)
  | [], h => by cases h
  | a :: r, h => by
    unfold indexF
    rw [List.findIdx?_cons, List.idxOf_cons]
    by_cases e : n = a
    · simp [e]
    · have e' : (a == n) = false := by simp; exact fun q => e q.symm
      have ih := index_mem (l := r) (by rcases List.mem_cons.1 h with q | q; exact absurd q e; exact q)
      unfold indexF at ih
      simp only [e, e', decide_false, Bool.false_eq_true, if_false, cond_false]
      cases hf : r.findIdx? fun a => decide (n = a) with
      | none => rw [hf] at ih; simp at ih
      | some i => rw [hf] at ih; simp only [Option.map_some]; simp at ih; omega

mutual
theorem tx_len (L : List Int) : ∀ t : Ty, (txT L t).length + 3 ≤ tz t
  | .mk v n l => by
    have := txL_len L l
    rw [txT, tz]
    split
    · rw [List.length_append]
      have : n.data.toList.length = n.size := by show n.data.toList.length = n.data.size; exact Array.length_toList
      omega
    · show 1 + 3 ≤ _
      omega
theorem txL_len (L : List Int) : ∀ l : List Ty, (txL L l).length ≤ tzL l
  | [] => Nat.le_refl _
  | t :: r => by
    have := tx_len L t
    have := txL_len L r
    rw [txL, tzL, List.length_append]
    split <;> simp <;> omega
end
theorem txB_size (l : List UInt8) : (txB l).size = l.length := by simp [txB, ByteArray.size]

set_option maxHeartbeats 4000000 in
theorem text_c {L : List Int} (hL : L.length ≤ 26) {lc fc : Nat} : ∀ (n : Nat) (t : Ty), nd t ≤ n → nd t ≤ 1000 → tz t ≤ 100000 → gd t = true → (∀ v ∈ vsT t, v ∈ L) → ∀ (K : SV → St → Prop) (st : St), st[lc]? = some (.cells [.slice .imm 1 (L.map i64V)]) → st[fc]? = some (.cells [.func (.func 27) [] [.ptr lc 0, .ptr fc 0]]) →
    K (.sc (.string (txB (txT L t)))) st → ACalls Tryd.prog 27 [tySV t, .ptr lc 0, .ptr fc 0] K st := by
  intro n
  induction n with
  | zero => intro t hn; have := nd_pos t; omega
  | succ n ih =>
    intro t hn hn2 hz hg hvs K st hlc hfc h
    refine acalls_go_pure [3] Tryd.func27 rfl Tryd.results27 Tryd.ntmps27 ?_
    have hca := cells_ty t
    obtain ⟨s1, hs1⟩ : ∃ s1, st ++ [Ob.cells (tySV t).cells] = s1 := ⟨_, rfl⟩
    have e0 : s1[st.length]? = some (.cells (tySV t).cells) := by rw [← hs1]; simp
    have old : ∀ j o, st[j]? = some o → s1[j]? = some o := fun j o hj => by rw [← hs1, List.getElem?_append_left (lt_of_get hj)]; exact hj
    have hG1 : Gs [] st s1 := by rw [← hs1]; exact (Gs.refl _ st).app _
    rw [hca] at e0 hs1
    have f := cells_facts e0
    have fl := cells_facts (old _ _ hlc)
    have ff := cells_facts (old _ _ hfc)
    by_cases hv : t.v = 0
    · have c0 : (t.v != 0) = false := by simp [hv]
      rw [txT_eq, if_pos hv, ← txB_app, txB_name] at h
      simp only [go_sem, reduceCtorEq, Nat.reduceAdd, Nat.reduceMul, Nat.reduceLeDiff, Nat.reduceLT, Int.reduceLE, Int.reduceLT, Int.reduceEq, Nat.reduceBEq, Nat.reduceEqDiff, hca, hs1, f.1, f.2.1, f.2.2, c0]
      refine awp_rounds [] (fun m e s => ∃ (k : Nat) (S : ByteArray), m + k = t.args.length ∧ S = t.name ++ txB (txL L (t.args.take k)) ∧ Gs [] s1 s ∧
        e = [.any, .ptr lc 0, .ptr fc 0, .ptr st.length 0, .any, .sc (.string S), .any, .any, .any, .any, .any, .any, .any, .any, .any, .any, .any, .any, .any, .slice .imm 3 (t.args.map tySV), .sc (.int .i64 t.args.length), .sc (.int .i64 k), .any, .any, .any, .any, .any, .any, .any, .any, .any, .any, .any, .any, .any, .any, .any, .any, .any, .any, .any, .any, .any, .any]) (n := t.args.length) ?_ ⟨0, t.name, by omega, by rw [List.take_zero, txL]; exact (ByteArray.append_empty).symm, Gs.refl _ _, rfl⟩ ?_
      · repeat (first | exact leEnv_nil | refine leEnv_any _ ?_ | refine leEnv_same _ ?_ | refine leEnv_norm _ ?_)
      rintro m e s ⟨k, S, hmk, hS, hG, rfl⟩
      by_cases hlt : k < t.args.length
      · have c1 : (k : Int) < (t.args.length : Int) := by omega
        have c2 : (0 : Int) ≤ (k : Int) := by omega
        have hnt := nd_eq t
        have hlna := len_nd t.args
        have hw := wrapS k (by omega)
        obtain ⟨a, had⟩ : ∃ a, a = t.args.getD k default := ⟨_, rfl⟩
        have hgk : (t.args.map tySV).getD k .any = tySV a := by rw [had]; exact getD_mapT _ hlt
        have ham : a ∈ t.args := by rw [had]; simp [List.getD_eq_getElem?_getD, hlt]
        have htk : t.args.take (k + 1) = t.args.take k ++ [a] := by rw [take_snocT _ hlt, ← had]
        have hna := nd_mem ham
        obtain ⟨s2, hs2⟩ : ∃ s2, s ++ [Ob.cells (tySV a).cells] = s2 := ⟨_, rfl⟩
        have e2 : s2[s.length]? = some (.cells (tySV a).cells) := by rw [← hs2]; simp
        have hG2 : Gs [] s1 s2 := by rw [← hs2]; exact hG.app _
        have old2 : ∀ j o, s1[j]? = some o → s2[j]? = some o := fun j o hj => by rw [hG2.same j (lt_of_get hj) (by simp)]; exact hj
        have hca2 := cells_ty a
        have f2 := cells_facts e2
        rw [hca2] at f2 hs2
        have ff2 := cells_facts (old2 _ _ (old _ _ hfc))
        have hrec := fun K h => ih a (by omega) (by omega) (by have := tz_eq t; have := tz_mem ham; omega) (gd_con hg hv a ham) (fun v hva => hvs v (by rw [vs_con hv, mem_vsL]; exact ⟨a, ham, hva⟩)) K s2 (old2 _ _ (old _ _ hlc)) (old2 _ _ (old _ _ hfc)) h
        have hab : aBody Tryd.prog 27 = true := Tryd.abody27
        rw [tySV_eq a] at hrec
        have z1 : (txB (txT L a)).size + 3 ≤ tz a := by rw [txB_size]; exact tx_len L a
        have z2 : S.size ≤ 100000 := by
          rw [hS, ByteArray.size_append, txB_size]
          have h1 := txL_len L (t.args.take k)
          have h2 := txL_len L (t.args)
          have h3 : (txL L (t.args.take k)).length ≤ (txL L t.args).length := by
            conv => rhs; rw [← List.take_append_drop k t.args, txL_app, List.length_append]
            omega
          have := tz_eq t
          omega
        have z3 := tz_mem ham
        have z4 := tz_eq t
        have w1 : (⟨#[32]⟩ : ByteArray).size = 1 := rfl
        have w2 : (⟨#[32, 40]⟩ : ByteArray).size = 2 := rfl
        have w3 : (⟨#[41]⟩ : ByteArray).size = 1 := rfl
        have v1 : (#[32] : Array UInt8).size = 1 := rfl
        have v2 : (#[32, 40] : Array UInt8).size = 2 := rfl
        have v3 : (#[41] : Array UInt8).size = 1 := rfl
        by_cases hal : a.args = []
        · have c3 : ((0 : Int) < (a.args.length : Int)) = False := by rw [hal]; simp
          have hS2 : S ++ (txB [32] ++ txB (txT L a)) = t.name ++ txB (txL L (t.args.take (k + 1))) := by
            rw [hS, htk, txL_app, txB_app, ByteArray.append_assoc, txB_app]
            simp [txL, hal]
          simp only [go_sem, reduceCtorEq, Nat.reduceAdd, Nat.reduceMul, Nat.reduceLeDiff, Nat.reduceLT, Int.reduceLE, Int.reduceLT, Int.reduceEq, Nat.reduceBEq, Nat.reduceEqDiff, c1, c2, hgk, hs2, hca2, f2.1, f2.2.1, f2.2.2, c3, ff2.1, ff2.2.1, ff2.2.2, hab]
          refine hrec _ ?_
          simp only [go_sem, reduceCtorEq, Nat.reduceAdd, Nat.reduceMul, Nat.reduceLeDiff, Nat.reduceLT, Int.reduceLE, Int.reduceLT, Int.reduceEq, Nat.reduceBEq, Nat.reduceEqDiff, hw]
          refine ⟨by omega, by omega, m - 1, _, by omega, ?_, k + 1, _, by omega, hS2, hG2, rfl⟩
          repeat (first | exact leEnv_nil | refine leEnv_any _ ?_ | refine leEnv_same _ ?_ | refine leEnv_norm _ ?_)
        · have c3 : ((0 : Int) < (a.args.length : Int)) = True := by
            have := List.length_pos_iff.2 hal
            exact eq_true (by omega)
          have hS2 : S ++ ((txB [32, 40] ++ txB (txT L a)) ++ txB [41]) = t.name ++ txB (txL L (t.args.take (k + 1))) := by
            rw [hS, htk, txL_app, txB_app, txB_app, ByteArray.append_assoc, txB_app]
            simp [txL, hal]
          simp only [go_sem, reduceCtorEq, Nat.reduceAdd, Nat.reduceMul, Nat.reduceLeDiff, Nat.reduceLT, Int.reduceLE, Int.reduceLT, Int.reduceEq, Nat.reduceBEq, Nat.reduceEqDiff, c1, c2, hgk, hs2, hca2, f2.1, f2.2.1, f2.2.2, c3, ff2.1, ff2.2.1, ff2.2.2, hab]
          refine hrec _ ?_
          simp only [go_sem, reduceCtorEq, Nat.reduceAdd, Nat.reduceMul, Nat.reduceLeDiff, Nat.reduceLT, Int.reduceLE, Int.reduceLT, Int.reduceEq, Nat.reduceBEq, Nat.reduceEqDiff, hw]
          refine ⟨by omega, by omega, by omega, m - 1, _, by omega, ?_, k + 1, _, by omega, hS2, hG2, rfl⟩
          repeat (first | exact leEnv_nil | refine leEnv_any _ ?_ | refine leEnv_same _ ?_ | refine leEnv_norm _ ?_)
      · obtain rfl : k = t.args.length := by omega
        rw [List.take_length] at hS
        rw [← hS] at h
        simp only [go_sem, reduceCtorEq, Nat.reduceAdd, Nat.reduceMul, Nat.reduceLeDiff, Nat.reduceLT, Int.reduceLE, Int.reduceLT, Int.reduceEq, Nat.reduceBEq, Nat.reduceEqDiff, Int.lt_irrefl]
        exact fin_scS (Gs.ex (hG1.trans hG)) h
    · have c0 : (t.v != 0) = true := by simp [hv]
      have hm : t.v ∈ L := hvs _ (by rw [vs_var hv]; simp)
      rw [txT_eq, if_neg hv] at h
      have hidx := fun K h => index_c (st := s1) .imm (l := L) (by omega) t.v K h
      have hlt := List.idxOf_lt_length_of_mem hm
      have hlet := fun K h => letter_c (L.idxOf t.v) (by omega) K s1 h
      rw [index_mem hm] at hidx
      simp only [go_sem, reduceCtorEq, Nat.reduceAdd, Nat.reduceMul, Nat.reduceLeDiff, Nat.reduceLT, Int.reduceLE, Int.reduceLT, Int.reduceEq, Nat.reduceBEq, Nat.reduceEqDiff, hca, hs1, f.1, f.2.1, f.2.2, c0, fl.1, fl.2.1, fl.2.2]
      refine hidx _ ?_
      simp only [go_sem, reduceCtorEq, Nat.reduceAdd, Nat.reduceMul, Nat.reduceLeDiff, Nat.reduceLT, Int.reduceLE, Int.reduceLT, Int.reduceEq, Nat.reduceBEq, Nat.reduceEqDiff, i64V_eq]
      refine hlet _ ?_
      simp only [go_sem, reduceCtorEq, Nat.reduceAdd, Nat.reduceMul, Nat.reduceLeDiff, Nat.reduceLT, Int.reduceLE, Int.reduceLT, Int.reduceEq, Nat.reduceBEq, Nat.reduceEqDiff]
      exact fin_scS (Gs.ex hG1) h

theorem vsS_sub : ∀ (n : Nat) (t : Ty), nd t ≤ n → ∀ l : List Int, (∀ v ∈ l, v ∈ vsS t l) ∧ (∀ v ∈ vsT t, v ∈ vsS t l) ∧ ∀ v ∈ vsS t l, v ∈ l ∨ v ∈ vsT t := by
  intro n
  induction n with
  | zero => intro t hn; have := nd_pos t; omega
  | succ n ih =>
    intro t hn l
    rw [vsS_eq]
    by_cases hv : t.v = 0
    · rw [if_pos hv, vs_con hv]
      have key : ∀ (r : List Ty) (l : List Int), (∀ a ∈ r, nd a ≤ n) → (∀ v ∈ l, v ∈ vsSL r l) ∧ (∀ v ∈ vsL r, v ∈ vsSL r l) ∧ ∀ v ∈ vsSL r l, v ∈ l ∨ v ∈ vsL r := by
        intro r
        induction r with
        | nil => intro l _; exact ⟨fun v h => h, fun v h => (by cases h), fun v h => .inl h⟩
        | cons a r ihr =>
          intro l hr
          obtain ⟨a1, a2, a3⟩ := ih a (hr a (by simp)) l
          obtain ⟨b1, b2, b3⟩ := ihr (vsS a l) fun b hb => hr b (by simp [hb])
          rw [vsSL, vsL]
          refine ⟨fun v h => b1 v (a1 v h), fun v h => ?_, fun v h => ?_⟩
          · rcases List.mem_append.1 h with q | q
            · exact b1 v (a2 v q)
            · exact b2 v q
          · rcases b3 v h with q | q
            · rcases a3 v q with q | q
              · exact .inl q
              · exact .inr (List.mem_append_left _ q)
            · exact .inr (List.mem_append_right _ q)
      exact key t.args l fun a ha => by have := nd_eq t; have := nd_mem ha; omega
    · rw [if_neg hv, vs_var hv]
      by_cases hm : t.v ∈ l
      · rw [if_pos hm]
        exact ⟨fun v h => h, fun v h => by rw [List.mem_singleton.1 h]; exact hm, fun v h => .inl h⟩
      · rw [if_neg hm]
        exact ⟨fun v h => by simp [h], fun v h => by rw [List.mem_singleton.1 h]; simp, fun v h => by simpa using h⟩
theorem vsS_nodup : ∀ (n : Nat) (t : Ty), nd t ≤ n → ∀ l : List Int, l.Nodup → (vsS t l).Nodup := by
  intro n
  induction n with
  | zero => intro t hn; have := nd_pos t; omega
  | succ n ih =>
    intro t hn l hl
    rw [vsS_eq]
    by_cases hv : t.v = 0
    · rw [if_pos hv]
      have key : ∀ (r : List Ty) (l : List Int), (∀ a ∈ r, nd a ≤ n) → l.Nodup → (vsSL r l).Nodup := by
        intro r
        induction r with
        | nil => intro l _ h; exact h
        | cons a r ihr => intro l hr h; exact ihr _ (fun b hb => hr b (by simp [hb])) (ih a (hr a (by simp)) l h)
      exact key t.args l (fun a ha => by have := nd_eq t; have := nd_mem ha; omega) hl
    · rw [if_neg hv]
      by_cases hm : t.v ∈ l
      · rw [if_pos hm]; exact hl
      · rw [if_neg hm, List.nodup_append]
        exact ⟨hl, by simp, fun a ha b hb => by rw [List.mem_singleton.1 hb]; rintro rfl; exact hm ha⟩
theorem good_vs {p : Int → Bool} : ∀ (n : Nat) (t : Ty), nd t ≤ n → goodB p t = true → ∀ v ∈ vsT t, v ≠ 0 ∧ p v = true := by
  intro n
  induction n with
  | zero => intro t hn; have := nd_pos t; omega
  | succ n ih =>
    intro t hn hg v hv
    by_cases h0 : t.v = 0
    · rw [vs_con h0, mem_vsL] at hv
      obtain ⟨a, ha, hva⟩ := hv
      exact ih a (by have := nd_eq t; have := nd_mem ha; omega) (gp_args hg h0 a ha) v hva
    · rw [vs_var h0] at hv
      rw [List.mem_singleton.1 hv]
      rw [goodB_eq, if_neg h0, Bool.and_eq_true] at hg
      exact ⟨h0, hg.2⟩
theorem nodup_len : ∀ (l m : List Int), l.Nodup → (∀ v ∈ l, v ∈ m) → l.length ≤ m.length
  | [], m, _, _ => Nat.zero_le _
  | a :: r, m, hn, hs => by
    rw [List.nodup_cons] at hn
    have ha := hs a (by simp)
    have := nodup_len r (m.erase a) hn.2 fun v hv => by
      rw [List.mem_erase_of_ne (by rintro rfl; exact hn.1 hv)]
      exact hs v (by simp [hv])
    rw [List.length_erase_of_mem ha] at this
    have := List.length_pos_of_mem ha
    simp only [List.length_cons]
    omega
theorem vs_few {t : Ty} (hg : goodB (ownP 6) t = true) : (vsS t []).length ≤ 6 := by
  have h1 := vsS_nodup _ t (Nat.le_refl _) [] List.nodup_nil
  have h2 : ∀ v ∈ vsS t [], v ∈ [1, 2, 3, 4, 5, 6] := fun v hv => by
    rcases (vsS_sub _ t (Nat.le_refl _) []).2.2 v hv with q | q
    · cases q
    · have := (good_vs _ t (Nat.le_refl _) hg v q).2
      unfold ownP at this
      simp only [Bool.and_eq_true, decide_eq_true_eq] at this
      have : v = 1 ∨ v = 2 ∨ v = 3 ∨ v = 4 ∨ v = 5 ∨ v = 6 := by omega
      simpa using this
  exact nodup_len _ _ h1 h2

theorem good_mono {p q : Int → Bool} (h : ∀ n, p n = true → q n = true) : ∀ (n : Nat) (t : Ty), nd t ≤ n → goodB p t = true → goodB q t = true := by
  intro n
  induction n with
  | zero => intro t hn; have := nd_pos t; omega
  | succ n ih =>
    intro t hn hg
    have hgg := hg
    rw [goodB_eq] at hg ⊢
    by_cases hv : t.v = 0
    · rw [if_pos hv, Bool.and_eq_true] at hg ⊢
      refine ⟨hg.1, ?_⟩
      have key : ∀ l : List Ty, (∀ a ∈ l, goodB q a = true) → goodL q l = true := by
        intro l
        induction l with
        | nil => intro _; rfl
        | cons a r ihl => intro hl; rw [goodL, hl a (by simp), ihl fun b hb => hl b (by simp [hb])]; rfl
      exact key t.args fun a ha => ih a (by have := nd_eq t; have := nd_mem ha; omega) (gp_args hgg hv a ha)
    · rw [if_neg hv, Bool.and_eq_true] at hg ⊢
      exact ⟨hg.1, h _ hg.2⟩

/-- What may be shown: a type that is applied. -/
def ShOk (t : Ty) : Prop := t = default ∨ (goodB (ownP 6) t = true ∧ fitB t = true ∧ nmB t = true)

set_option maxHeartbeats 4000000 in
theorem Show_c (t : Ty) (ht : ShOk t) (K : SV → St → Prop) (st : St) (h : K (.sc (.string (showA t))) st) : ACalls Tryd.prog 10 [tySV t] K st := by
  refine acalls_go_pure [] Tryd.func10 rfl Tryd.results10 Tryd.ntmps10 ?_
  have hwl := well_c (fun n => decide (1 ≤ n)) 25 [] [] Tryd.abody25 t
  have hone : ∀ (n : Int) (s : St) (K : SV → St → Prop), K (.sc (.bool (decide (1 ≤ n)))) s → ACalls Tryd.prog 25 [.sc (.int .i64 n)] K s := fun n s K hK => by
    refine acalls_go_pure [] Tryd.func25 rfl Tryd.results25 Tryd.ntmps25 ?_
    simp only [go_sem, reduceCtorEq, Nat.reduceAdd, Nat.reduceMul, Nat.reduceLeDiff, Nat.reduceLT, Int.reduceLE, Int.reduceLT, Int.reduceEq, Nat.reduceBEq, Nat.reduceEqDiff]
    exact fin_sc hK
  rcases ht with rfl | ⟨hg, hf, hm⟩
  · have hmay : mayB (fun n => decide (1 ≤ n)) default = false := by
      unfold mayB
      have : goodB (fun n => decide (1 ≤ n)) default = false := by
        rw [goodB_eq]
        show (if (0 : Int) = 0 then !(ByteArray.toList ⟨#[]⟩ == ByteArray.toList ⟨#[]⟩) && _ else _) = false
        simp
      rw [this]; rfl
    rw [hmay] at hwl
    rw [show_default] at h
    simp only [go_sem, reduceCtorEq, Nat.reduceAdd, Nat.reduceMul, Nat.reduceLeDiff, Nat.reduceLT, Int.reduceLE, Int.reduceLT, Int.reduceEq, Nat.reduceBEq, Nat.reduceEqDiff]
    refine hwl _ _ (fun ex n K hK => hone n _ K hK) ?_
    simp only [go_sem, reduceCtorEq, Nat.reduceAdd, Nat.reduceMul, Nat.reduceLeDiff, Nat.reduceLT, Int.reduceLE, Int.reduceLT, Int.reduceEq, Nat.reduceBEq, Nat.reduceEqDiff]
    exact fin_sc h
  · have hgd := good_gd hg
    have hmay : mayB (fun n => decide (1 ≤ n)) t = true := by
      have hg2 := good_mono (q := fun n => decide (1 ≤ n)) (fun n hn => by unfold ownP at hn; rw [Bool.and_eq_true] at hn; exact hn.1) _ t (Nat.le_refl _) hg
      unfold mayB
      rw [hg2, Bool.true_and, Bool.and_comm]
      exact hf
    rw [hmay] at hwl
    have hfit := hf
    unfold fitB at hfit
    simp only [Bool.and_eq_true, decide_eq_true_eq] at hfit
    have hsh : showA t = txB (txT (vsS t []) t) := by unfold showA; rw [hg, hf]; rfl
    rw [hsh] at h
    have hca := cells_ty t
    have hvs := fun K h => vars0_c t hgd (by omega) K st h
    obtain ⟨s2, hs2⟩ : ∃ s2, st ++ [Ob.cells [.slice .imm 1 ((vsS t []).map i64V)], Ob.cells [.func (.func 27) [] [.ptr st.length 0, .ptr (st.length + 1) 0]]] = s2 := ⟨_, rfl⟩
    have e2 : s2[st.length]? = some (.cells [.slice .imm 1 ((vsS t []).map i64V)]) := by rw [← hs2]; simp
    have e3 : s2[st.length + 1]? = some (.cells [.func (.func 27) [] [.ptr st.length 0, .ptr (st.length + 1) 0]]) := by rw [← hs2]; exact get_app1 st _ _
    have f2 := cells_facts e2
    have f3 := cells_facts e3
    have htx := fun K h => text_c (L := vsS t []) (by have := vs_few hg; omega) (lc := st.length) (fc := st.length + 1) _ t (Nat.le_refl _) (by omega) (by have := tz_nm t hm; omega) hgd (vsS_sub _ t (Nat.le_refl _) []).2.1 K s2 e2 e3 h
    have hab : aBody Tryd.prog 27 = true := Tryd.abody27
    simp only [go_sem, reduceCtorEq, Nat.reduceAdd, Nat.reduceMul, Nat.reduceLeDiff, Nat.reduceLT, Int.reduceLE, Int.reduceLT, Int.reduceEq, Nat.reduceBEq, Nat.reduceEqDiff]
    refine hwl _ _ (fun ex n K hK => hone n _ K hK) ?_
    simp only [go_sem, reduceCtorEq, Nat.reduceAdd, Nat.reduceMul, Nat.reduceLeDiff, Nat.reduceLT, Int.reduceLE, Int.reduceLT, Int.reduceEq, Nat.reduceBEq, Nat.reduceEqDiff]
    refine hvs _ ?_
    simp only [go_sem, reduceCtorEq, Nat.reduceAdd, Nat.reduceMul, Nat.reduceLeDiff, Nat.reduceLT, Int.reduceLE, Int.reduceLT, Int.reduceEq, Nat.reduceBEq, Nat.reduceEqDiff, hs2, f2.1, f2.2.1, f2.2.2, f3.1, f3.2.1, f3.2.2, hab]
    refine htx _ ?_
    simp only [go_sem, reduceCtorEq, Nat.reduceAdd, Nat.reduceMul, Nat.reduceLeDiff, Nat.reduceLT, Int.reduceLE, Int.reduceLT, Int.reduceEq, Nat.reduceBEq, Nat.reduceEqDiff]
    exact fin_scS ⟨_, hs2.symm⟩ h

end Go.Proofs
