/- The document's walk (selvageref14): own, same, hand. -/
import Derived.Test.YtammbegfobhflaaGreatW20
import Derived.Test.YtammbegfobhflaaGreatM1
import Derived.Test.YtammbegfobhflaaGreatA9
set_option linter.all false
set_option linter.unusedSimpArgs false
set_option linter.unusedVariables false
set_option maxRecDepth 8000
namespace Go.AL
/-- A state as the document keeps it. -/
structure RS where
  is : Bool
  depth : Int
  m : AL.Mode
  z : Nat
  marks : List (Int × Int)
def RS.cells (r : RS) : List SV := [.sc (.bool r.is), i64 r.depth, .slice r.m r.z (r.marks.map mkSV)]
def RS.ok (r : RS) : Prop := (r.marks ≠ [] → r.z = 2) ∧ (r.m = .imm ∨ r.m = .full)
def RS.abs (r : RS) : Option Sta := if r.is then some ⟨r.depth, r.marks⟩ else none
def rsL (l : List RS) : List SV := l.flatMap RS.cells
theorem rs_len (r : RS) : r.cells.length = 3 := rfl
theorem flat_drop {α : Type} {f : α → List SV} {z : Nat} (hz : ∀ a, (f a).length = z) {l : List α} {t : Nat} {x : α} (h : l[t]? = some x) {j : Nat} (hj : j ≤ z) :
    (l.flatMap f).drop (t * z + j) = (f x).drop j ++ (l.flatMap f).drop (t * z + z) := by
  induction l generalizing t with
  | nil => cases h
  | cons a r ih =>
    rw [List.flatMap_cons]
    cases t with
    | zero =>
      cases h
      simp only [Nat.zero_mul, Nat.zero_add]
      have e1 : List.drop z (f x ++ r.flatMap f) = r.flatMap f := by rw [List.drop_left' (hz x)]
      rw [e1, List.drop_append_of_le_length (by rw [hz]; exact hj)]
    | succ t =>
      have h' : r[t]? = some x := by simpa using h
      have := ih h'
      have e1 : (t + 1) * z + j = z + (t * z + j) := by rw [Nat.succ_mul]; omega
      have e2 : (t + 1) * z + z = z + (t * z + z) := by rw [Nat.succ_mul]; omega
      have e3 : ∀ k, List.drop (z + k) (f a ++ r.flatMap f) = (r.flatMap f).drop k := fun k => by rw [← List.drop_drop, List.drop_left' (hz a)]
      rw [e1, e2, e3, e3]
      exact this
theorem flat_lenF {α : Type} {f : α → List SV} {z : Nat} (hz : ∀ a, (f a).length = z) (l : List α) : (l.flatMap f).length = l.length * z := by
  induction l with
  | nil => simp
  | cons a r ih => rw [List.flatMap_cons, List.length_append, hz, ih, List.length_cons, Nat.succ_mul]; omega
theorem flat_put {α : Type} {f : α → List SV} {z : Nat} (hz : ∀ a, (f a).length = z) {l : List α} {t : Nat} {x' : α} (h : t < l.length) : splice (l.flatMap f) (t * z) (f x') = (l.set t x').flatMap f := by
  unfold splice
  rw [hz]
  induction l generalizing t with
  | nil => cases h
  | cons a r ih =>
    cases t with
    | zero =>
      simp only [Nat.zero_mul, Nat.zero_add, List.flatMap_cons, List.set_cons_zero, List.take_zero, List.nil_append]
      rw [List.drop_left' (hz a)]
    | succ t =>
      have := ih (t := t) (by simpa using h)
      have e1 : (t + 1) * z = z + t * z := by rw [Nat.succ_mul]; omega
      have e2 : (t + 1) * z + z = z + (t * z + z) := by rw [Nat.succ_mul]; omega
      have e0 : List.take (z + t * z) (f a ++ r.flatMap f) = f a ++ (r.flatMap f).take (t * z) := by
        rw [List.take_append, List.take_of_length_le (by rw [hz]; omega), hz, show z + t * z - z = t * z by omega]
      rw [List.set_cons_succ, List.flatMap_cons, List.flatMap_cons, ← this, e2, e1, e0, ← List.drop_drop, List.drop_left' (hz a)]
      simp [List.append_assoc]
end Go.AL
namespace Go.Proofs
open Go Go.AL
theorem Tryz.app88 {n : Nat} (h : n ≤ 1000000) : AppOk Tryz.prog 123 123 2 n := appOk_of Tryz.aelem123 Tryz.aelem123 Tryz.asize157 Tryz.azero157 rfl Tryz.abytes157 (by omega) h
theorem ids_mk1 (n : Nat) (l : List (Int × Int)) : ∀ x ∈ l.map mkSV, ∀ y ∈ x.cells, Ids n y := by
  intro x hx y hy
  obtain ⟨a, _, rfl⟩ := List.mem_map.1 hx
  simp only [mkSV, SV.cells, List.mem_cons, List.not_mem_nil, or_false] at hy
  rcases hy with rfl | rfl <;> exact .sc _
theorem eq119 (a b c d : Int) : aggEqOk Tryz.prog 157 [i64 a, i64 b] [i64 c, i64 d] := by
  refine ⟨by kernel_rfl, by kernel_rfl, by kernel_rfl, ?_⟩
  have h3 : Tryz.prog.underlying 3 = some (.int .i64) := Tryz.underlying3
  simp only [Program.fieldsOf, Tryz.underlying157]
  refine ⟨⟨by decide, rfl, Tryz.aagg3, rfl, h3⟩, ⟨by decide, rfl, Tryz.aagg3, rfl, h3⟩, trivial⟩
theorem sle_slice {m : AL.Mode} {z z' : Nat} {l : List SV} (hz : l ≠ [] → z = z') (hm : m = .imm ∨ m = .full) : SVle (.slice m z l) (.slice .imm z' l) := fun st σ w v h => by
  have h2 : Rep st σ w (.slice .imm z l) v := h.norm
  cases l with
  | nil => exact rep_nil_z h2 (.inr rfl)
  | cons x r => rw [← hz (by simp)]; exact h2
theorem sle_rs {r : RS} (h : r.ok) : SVle (.agg r.cells) (.agg [.sc (.bool r.is), i64 r.depth, .slice .imm 2 (r.marks.map mkSV)]) :=
  SVle.agg (.cons (SVle.refl _) (.cons (SVle.refl _) (.cons (sle_slice (fun hn => h.1 (fun e => hn (by rw [e]; rfl))) h.2) .nil)))
set_option maxHeartbeats 4000000 in
/-- own: marks that may be appended to. -/
theorem own_go (m : AL.Mode) (z : Nat) (l : List (Int × Int)) (hz : l ≠ [] → z = 2) (hm : m = .imm ∨ m = .full) (hl : l.length ≤ 100000) (K : SV → St → Prop) (st : St) (h : K (.slice (.own st.length 0) 2 (l.map mkSV)) (st ++ [.tok 0])) : ACalls Tryz.prog 87 [.slice m z (l.map mkSV)] K st := by
  have happ := Tryz.app88 (n := l.length) (by omega)
  refine acalls_args (args' := [.slice .imm 2 (l.map mkSV)]) (.cons (sle_slice (fun hn => hz (fun e => hn (by rw [e]; rfl))) hm) .nil) ?_
  refine acalls_go (M := []) Tryz.func87 rfl Tryz.results87 Tryz.ntmps87 ?_
  simp only [↓reduceIte, ↓c_condI, ↓c_seqH, ↓c_blockH, ↓then_nH, ↓then_rH, ↓then_eH, ↓block_nH, ↓block_rH, ↓block_eH, go_sem]
  exact ⟨happ, h⟩
/-- Into a token that was there. -/
theorem own_t {T v : Nat} {st : St} (hT : st[T]? = some (.tok v)) (m : AL.Mode) (z : Nat) (l : List (Int × Int)) (hz : l ≠ [] → z = 2) (hm : m = .imm ∨ m = .full) (hl : l.length ≤ 100000) (K : SV → St → Prop) (h : K (.slice (.own T (v + 1)) 2 (l.map mkSV)) (st.set T (.tok (v + 1)))) : ACalls Tryz.prog 87 [.slice m z (l.map mkSV)] K st :=
  acalls_toTok hT (own_go m z l hz hm hl _ st ⟨_, rfl, rfl, ids_mk1 _ _, h⟩)
/-- As it is read. -/
theorem own_p (m : AL.Mode) (z : Nat) (l : List (Int × Int)) (hz : l ≠ [] → z = 2) (hm : m = .imm ∨ m = .full) (hl : l.length ≤ 100000) (K : SV → St → Prop) (st : St) (h : K (mksSV l) st) : ACalls Tryz.prog 87 [.slice m z (l.map mkSV)] K st :=
  acalls_pure ((own_go m z l hz hm hl (fun x s => x = .slice (.own st.length 0) 2 (l.map mkSV) ∧ s = st ++ [.tok 0]) st ⟨rfl, rfl⟩).mono fun x s ⟨e1, e2⟩ => ⟨_, e2, by rw [e1]; exact ids_mks _ _ (.inl rfl) _, by rw [e1]; exact h⟩)
set_option maxHeartbeats 4000000 in
theorem rsame_c (a b : RS) (ha : a.ok) (hb : b.ok) (la : a.marks.length ≤ 100000) (lb : b.marks.length ≤ 100000) (K : SV → St → Prop) (st : St) (h : K (.sc (.bool (decide (a.depth = b.depth ∧ a.marks = b.marks)))) st) : ACalls Tryz.prog 106 [.agg a.cells, .agg b.cells] K st := by
  refine acalls_args (.cons (sle_rs ha) (.cons (sle_rs hb) .nil)) ?_
  have fin : ∀ x : Bool, decide (a.depth = b.depth ∧ a.marks = b.marks) = x → FinK st K (.sc (.bool x)) st := fun x e => ⟨⟨[], by simp⟩, .sc _, by rw [← e]; exact h⟩
  refine acalls_go_pure [] Tryz.func106 rfl Tryz.results106 Tryz.ntmps106 ?_
  by_cases hd : a.depth = b.depth
  case neg =>
    have b1 : (a.depth != b.depth) = true := by simp [hd]
    simp only [↓reduceIte, ↓c_condI, ↓c_seqH, ↓c_blockH, ↓then_nH, ↓then_rH, ↓then_eH, ↓block_nH, ↓block_rH, ↓block_eH, go_sem, List.length_map, b1]
    exact fin false (by simp [hd])
  have b1 : (a.depth != b.depth) = false := by simp [hd]
  by_cases hl : a.marks.length = b.marks.length
  case neg =>
    have b2 : ((a.marks.length : Int) != (b.marks.length : Int)) = true := by simp; omega
    simp only [↓reduceIte, ↓c_condI, ↓c_seqH, ↓c_blockH, ↓then_nH, ↓then_rH, ↓then_eH, ↓block_nH, ↓block_rH, ↓block_eH, go_sem, List.length_map, b1, b2]
    exact fin false (by simp [hd]; rintro e; exact hl (by rw [e]))
  have b2 : ((a.marks.length : Int) != (b.marks.length : Int)) = false := by simp; omega
  simp only [↓reduceIte, ↓c_condI, ↓c_seqH, ↓c_blockH, ↓then_nH, ↓then_rH, ↓then_eH, ↓block_nH, ↓block_rH, ↓block_eH, go_sem, List.length_map, b1, b2]
  refine awp_rounds [] (fun q e s => ∃ k, k + q = a.marks.length ∧ a.marks.take k = b.marks.take k ∧ e = [.any, .any, .ref [.sc (.bool a.is), i64 a.depth, .slice .imm 2 (a.marks.map mkSV)], .ref [.sc (.bool b.is), i64 b.depth, .slice .imm 2 (b.marks.map mkSV)], .any, i64 k, .any, .any, .any, .any, .any, .any, .any, .any, .any, .any, .any, .any, .any, .any, .any, .any, .any, .any, .any, .any, .any, .any, .any, .any, .any, .any, .any, .any, .any, .any, .any, .any] ∧ s = st) (n := a.marks.length) ?_ ⟨0, by omega, rfl, rfl, rfl⟩ ?_
  · repeat (first | exact leEnv_nil | refine leEnv_any _ ?_ | refine leEnv_same _ ?_ | refine leEnv_norm _ ?_)
  rintro q e s ⟨k, hk, htk, rfl, rfl⟩
  by_cases hlt : k < a.marks.length
  · have c1 : (k : Int) < (a.marks.length : Int) := by omega
    have c2 : (k : Int) < (b.marks.length : Int) := by omega
    have hlb : k < b.marks.length := by omega
    have hw : IntKind.i64.wrap ((k : Int) + 1) = ((k + 1 : Nat) : Int) := by rw [IntWalk.i64_in _ (by omega)]; rfl
    have g1 : (a.marks.map mkSV).getD k .any = mkSV a.marks[k] := by simp [List.getD_eq_getElem?_getD, hlt]
    have g2 : (b.marks.map mkSV).getD k .any = mkSV b.marks[k] := by simp [List.getD_eq_getElem?_getD, hlb]
    have hq : svsEq [i64 a.marks[k].1, i64 a.marks[k].2] [i64 b.marks[k].1, i64 b.marks[k].2] = decide (a.marks[k] = b.marks[k]) := eqs_mk _ _
    by_cases he : a.marks[k] = b.marks[k]
    · have hq2 : svsEq [i64 a.marks[k].1, i64 a.marks[k].2] [i64 b.marks[k].1, i64 b.marks[k].2] = true := hq.trans (by simp [he])
      simp only [↓reduceIte, ↓c_condI, ↓c_seqH, ↓c_blockH, ↓then_nH, ↓then_rH, ↓then_eH, ↓block_nH, ↓block_rH, ↓block_eH, go_sem, c1, List.length_map]
      refine awp_drawW [] [(0, []), (0, []), (0, []), (0, []), (0, []), (0, []), (0, []), (0, []), (0, []), (0, []), (0, [])] Tryz.mixed rfl ?_
      simp only [↓reduceIte, ↓c_condI, ↓c_seqH, ↓c_blockH, ↓then_nH, ↓then_rH, ↓then_eH, ↓block_nH, ↓block_rH, ↓block_eH, go_sem, drawW_n, drawW_0, drawW_1, drawW_2, drawW_3, pend_n, pend_c, headD_c, isStore_s, List.length_map, c1, c2, g1, g2, mkSV, hq2]
      refine ⟨eq119 _ _ _ _, ?_⟩
      simp only [↓reduceIte, ↓c_condI, ↓c_seqH, ↓c_blockH, ↓then_nH, ↓then_rH, ↓then_eH, ↓block_nH, ↓block_rH, ↓block_eH, go_sem, hw]
      refine ⟨q - 1, _, by omega, ?_, k + 1, by omega, ?_, rfl⟩
      · repeat (first | exact leEnv_nil | refine leEnv_any _ ?_ | refine leEnv_same _ ?_ | refine leEnv_norm _ ?_)
      · rw [List.take_succ_eq_append_getElem hlt, List.take_succ_eq_append_getElem hlb, htk, he]
    · have hq2 : svsEq [i64 a.marks[k].1, i64 a.marks[k].2] [i64 b.marks[k].1, i64 b.marks[k].2] = false := hq.trans (by simp [he])
      simp only [↓reduceIte, ↓c_condI, ↓c_seqH, ↓c_blockH, ↓then_nH, ↓then_rH, ↓then_eH, ↓block_nH, ↓block_rH, ↓block_eH, go_sem, c1, List.length_map]
      refine awp_drawW [] [(0, []), (0, []), (0, []), (0, []), (0, []), (0, []), (0, []), (0, []), (0, []), (0, []), (0, [])] Tryz.mixed rfl ?_
      simp only [↓reduceIte, ↓c_condI, ↓c_seqH, ↓c_blockH, ↓then_nH, ↓then_rH, ↓then_eH, ↓block_nH, ↓block_rH, ↓block_eH, go_sem, drawW_n, drawW_0, drawW_1, drawW_2, drawW_3, pend_n, pend_c, headD_c, isStore_s, List.length_map, c1, c2, g1, g2, mkSV, hq2]
      refine ⟨eq119 _ _ _ _, ?_⟩
      refine fin false ?_
      rw [decide_eq_false_iff_not]
      rintro ⟨_, e⟩
      exact he (by simp only [e])
  · obtain rfl : k = a.marks.length := by omega
    have c1 : ((a.marks.length : Int) < (a.marks.length : Int)) = False := eq_false (by omega)
    have he : a.marks = b.marks := by
      rw [List.take_length] at htk
      rw [htk, hl, List.take_length]
    simp only [↓reduceIte, ↓c_condI, ↓c_seqH, ↓c_blockH, ↓then_nH, ↓then_rH, ↓then_eH, ↓block_nH, ↓block_rH, ↓block_eH, go_sem, c1, List.length_map]
    exact fin true (by simp [hd, he])
end Go.Proofs
set_option linter.unusedSimpArgs false
set_option linter.unusedVariables false
set_option maxRecDepth 8000
namespace Go.AL
theorem rs_at {rs : List RS} {p : Nat} (h : p < rs.length) : (rsL rs).drop (p * 3) = [.sc (.bool rs[p].is), i64 rs[p].depth, .slice rs[p].m rs[p].z (rs[p].marks.map mkSV)] ++ (rsL rs).drop (p * 3 + 3) := by
  have := flat_drop (f := RS.cells) rs_len (l := rs) (t := p) (x := rs[p]) (by simp [h]) (j := 0) (by omega)
  exact this
theorem rs_put {rs : List RS} {p : Nat} (h : p < rs.length) (r : RS) : (rsL rs).take (p * 3) ++ .sc (.bool r.is) :: i64 r.depth :: .slice r.m r.z (r.marks.map mkSV) :: (rsL rs).drop (p * 3 + 3) = rsL (rs.set p r) := by
  have := flat_put (f := RS.cells) (x' := r) rs_len h
  rw [splice, rs_len, List.append_assoc] at this
  exact this
theorem ids_rs (n : Nat) (b : Bool) (d : Int) (l : List (Int × Int)) : Ids n (.agg [.sc (.bool b), i64 d, .slice .imm 2 (l.map mkSV)]) := by
  simp only [ids_agg, List.forall_mem_cons, ids_sc, true_and]
  exact ⟨ids_mks n _ (.inl rfl) _, fun x hx => by cases hx⟩
theorem rsL_len (rs : List RS) : (rsL rs).length = rs.length * 3 := flat_lenF rs_len rs
theorem abs_set {rs : List RS} {p : Nat} (r : RS) : (rs.set p r).map RS.abs = (rs.map RS.abs).set p r.abs := by rw [List.map_set]
theorem abs_get {rs : List RS} {p : Nat} (h : p < rs.length) : (rs.map RS.abs).getD p none = rs[p].abs := by simp [List.getD_eq_getElem?_getD, h]
end Go.AL
namespace Go.Proofs
open Go Go.AL
set_option maxHeartbeats 4000000 in
theorem hand_c {st : St} {aid : Nat} {rs : List RS} (hA : st[aid]? = some (.cells (rsL rs))) (hok : ∀ r ∈ rs, r.ok ∧ r.marks.length ≤ 100000) (hlen : rs.length ≤ 100000) (p : Int) (h0 : 0 ≤ p) (s : RS) (hs : s.ok) (hl : s.marks.length ≤ 100000) (stack : Int) (K : SV → St → Prop)
    (hn : handF (rs.map RS.abs) stack (p, ⟨s.depth, s.marks⟩) = none → K (.sc (.bool false)) st)
    (hy : ∀ a, handF (rs.map RS.abs) stack (p, ⟨s.depth, s.marks⟩) = some a → p.toNat < rs.length → a = (rs.set p.toNat ⟨true, s.depth, .imm, 2, s.marks⟩).map RS.abs → K (.sc (.bool true)) (st.set aid (.cells (rsL (rs.set p.toNat ⟨true, s.depth, .imm, 2, s.marks⟩))))) :
    ACalls Tryz.prog 88 [.slc aid 3 0 rs.length rs.length, i64 p, .agg s.cells, i64 stack] K st := by
  have w := cells_facts hA
  refine acalls_args (args' := [.slc aid 3 0 rs.length rs.length, i64 p, .agg [.sc (.bool s.is), i64 s.depth, .slice .imm 2 (s.marks.map mkSV)], i64 stack]) (.cons (SVle.refl _) (.cons (SVle.refl _) (.cons (sle_rs hs) (.cons (SVle.refl _) .nil)))) ?_
  unfold handF at hn hy
  simp only [List.length_map] at hn hy
  refine acalls_go (M := []) Tryz.func88 rfl Tryz.results88 Tryz.ntmps88 ?_
  by_cases c1 : (rs.length : Int) ≤ p
  · simp only [↓reduceIte, ↓c_condI, ↓c_seqH, ↓c_blockH, ↓then_nH, ↓then_rH, ↓then_eH, ↓block_nH, ↓block_rH, ↓block_eH, go_sem, c1]
    exact hn (by rw [if_pos (.inl c1)])
  by_cases c2 : stack < s.depth
  · simp only [↓reduceIte, ↓c_condI, ↓c_seqH, ↓c_blockH, ↓then_nH, ↓then_rH, ↓then_eH, ↓block_nH, ↓block_rH, ↓block_eH, go_sem, c1, c2]
    exact hn (by rw [if_pos (.inr c2)])
  rw [if_neg (by omega)] at hn hy
  have hlt : p.toNat < rs.length := by omega
  have hpl : p < (rs.length : Int) := by omega
  have hr := hok _ (List.getElem_mem hlt)
  rw [abs_get hlt] at hn hy
  simp only [↓reduceIte, ↓c_condI, ↓c_seqH, ↓c_blockH, ↓then_nH, ↓then_rH, ↓then_eH, ↓block_nH, ↓block_rH, ↓block_eH, go_sem, c1, c2]
  refine awp_draw [] Tryz.mixed rfl ?_
  simp only [↓reduceIte, ↓c_condI, ↓c_seqH, ↓c_blockH, ↓then_nH, ↓then_rH, ↓then_eH, ↓block_nH, ↓block_rH, ↓block_eH, go_sem, w.1, w.2.1, w.2.2, hpl, h0, rs_at hlt]
  obtain ⟨like, hlike⟩ : ∃ b, decide (rs[p.toNat].depth = s.depth ∧ rs[p.toNat].marks = s.marks) = b := ⟨_, rfl⟩
  rw [dk_eff]
  refine ⟨.sc (.bool like), ?_, ?_⟩
  · simp only [↓reduceIte, ↓c_condI, ↓c_seqH, ↓c_blockH, ↓then_nH, ↓then_rH, ↓then_eH, ↓block_nH, ↓block_rH, ↓block_eH, go_sem]
    refine rsame_c rs[p.toNat] ⟨s.is, s.depth, .imm, 2, s.marks⟩ hr.1 ⟨fun _ => rfl, .inl rfl⟩ hr.2 hl _ _ ?_
    rw [hlike]
    exact ⟨⟨[], by simp⟩, .sc _, .inl rfl⟩
  simp only [↓reduceIte, ↓c_condI, ↓c_seqH, ↓c_blockH, ↓then_nH, ↓then_rH, ↓then_eH, ↓block_nH, ↓block_rH, ↓block_eH, go_sem, w.1, w.2.1, w.2.2, hpl, h0, rs_at hlt]
  have habs : rs[p.toNat].is = true → like = false → rs[p.toNat].abs = some ⟨rs[p.toNat].depth, rs[p.toNat].marks⟩ ∧ ¬ ((⟨rs[p.toNat].depth, rs[p.toNat].marks⟩ : Sta) = ⟨s.depth, s.marks⟩) := by
    intro h1 h2
    refine ⟨by unfold RS.abs; rw [if_pos h1], fun e => ?_⟩
    rw [← hlike, decide_eq_false_iff_not] at h2
    simp only [Sta.mk.injEq] at e
    exact h2 e
  have habs2 : (rs[p.toNat].is = true → like = true) → (match rs[p.toNat].abs with
      | none => some ((List.map RS.abs rs).set p.toNat (some { depth := s.depth, marks := s.marks }))
      | some s_1 => if s_1 = { depth := s.depth, marks := s.marks } then some ((List.map RS.abs rs).set p.toNat (some { depth := s.depth, marks := s.marks })) else none) = some ((List.map RS.abs rs).set p.toNat (some { depth := s.depth, marks := s.marks })) := by
    intro h1
    unfold RS.abs
    cases e : rs[p.toNat].is with
    | false => rfl
    | true =>
      have h2 := h1 e
      rw [← hlike, decide_eq_true_eq] at h2
      simp only [if_true]
      rw [if_pos (by rw [h2.1, h2.2])]
  have hset : (rs.set p.toNat ⟨true, s.depth, .imm, 2, s.marks⟩).map RS.abs = (rs.map RS.abs).set p.toNat (some ⟨s.depth, s.marks⟩) := abs_set _
  have hput := rs_put hlt ⟨true, s.depth, .imm, 2, s.marks⟩
  have hno : rs[p.toNat].is = true → like = false → K (.sc (.bool false)) st := fun h1 h2 => by
    obtain ⟨e1, e2⟩ := habs h1 h2
    refine hn ?_
    rw [e1]
    simp only [e2, if_false]
  have hyes : (rs[p.toNat].is = true → like = true) → K (.sc (.bool true)) (st.set aid (.cells (rsL (rs.set p.toNat ⟨true, s.depth, .imm, 2, s.marks⟩)))) := fun hc => hy _ (habs2 hc) hlt hset.symm
  have hlen3 : p.toNat * 3 + 3 ≤ rs.length * 3 := by omega
  clear hn hy habs habs2 hset hlike
  by_cases k1 : rs[p.toNat].is = true
  · by_cases k2 : like = true
    · subst k2
      simp only [↓reduceIte, ↓c_condI, ↓c_seqH, ↓c_blockH, ↓then_nH, ↓then_rH, ↓then_eH, ↓block_nH, ↓block_rH, ↓block_eH, go_sem, k1]
      refine awp_drawW [] [(0, []), (0, []), (0, []), (0, []), (0, []), (0, []), (0, []), (0, []), (0, []), (1, [10])] Tryz.mixed rfl ?_
      simp only [↓reduceIte, ↓c_condI, ↓c_seqH, ↓c_blockH, ↓then_nH, ↓then_rH, ↓then_eH, ↓block_nH, ↓block_rH, ↓block_eH, go_sem, drawW_n, drawW_0, drawW_1, drawW_2, drawW_3, pend_n, pend_c, headD_c, isStore_s]
      rw [dk_eff]
      refine ⟨mksSV s.marks, ?_, ?_⟩
      · simp only [↓reduceIte, ↓c_condI, ↓c_seqH, ↓c_blockH, ↓then_nH, ↓then_rH, ↓then_eH, ↓block_nH, ↓block_rH, ↓block_eH, go_sem]
        refine own_p .imm 2 s.marks (fun _ => rfl) (.inl rfl) hl _ _ ?_
        exact ⟨⟨[], by simp⟩, ids_mks _ _ (.inl rfl) _, .inl rfl⟩
      rw [dk_eff]
      refine ⟨.agg [.sc (.bool true), i64 s.depth, .slice .imm 2 (s.marks.map mkSV)], ?_, ?_⟩
      · simp only [↓reduceIte, ↓c_condI, ↓c_seqH, ↓c_blockH, ↓then_nH, ↓then_rH, ↓then_eH, ↓block_nH, ↓block_rH, ↓block_eH, go_sem, mksSV]
        exact ⟨⟨[], by simp⟩, ids_rs _ _ _ _, .inl rfl⟩
      simp only [↓reduceIte, ↓c_condI, ↓c_seqH, ↓c_blockH, ↓then_nH, ↓then_rH, ↓then_eH, ↓block_nH, ↓block_rH, ↓block_eH, go_sem, drawW_n, drawW_0, drawW_1, drawW_2, drawW_3, pend_n, pend_c, headD_c, isStore_s, w.1, w.2.1, w.2.2, hpl, h0, mksSV, hput, rsL_len, hlen3]
      exact hyes fun _ => rfl
    · have k2 : like = false := by simpa using k2
      subst k2
      simp only [↓reduceIte, ↓c_condI, ↓c_seqH, ↓c_blockH, ↓then_nH, ↓then_rH, ↓then_eH, ↓block_nH, ↓block_rH, ↓block_eH, go_sem, k1]
      exact hno k1 rfl
  · have k1 : rs[p.toNat].is = false := by simpa using k1
    simp only [↓reduceIte, ↓c_condI, ↓c_seqH, ↓c_blockH, ↓then_nH, ↓then_rH, ↓then_eH, ↓block_nH, ↓block_rH, ↓block_eH, go_sem, k1]
    refine awp_drawW [] [(0, []), (0, []), (0, []), (0, []), (0, []), (0, []), (0, []), (0, []), (0, []), (1, [10])] Tryz.mixed rfl ?_
    simp only [↓reduceIte, ↓c_condI, ↓c_seqH, ↓c_blockH, ↓then_nH, ↓then_rH, ↓then_eH, ↓block_nH, ↓block_rH, ↓block_eH, go_sem, drawW_n, drawW_0, drawW_1, drawW_2, drawW_3, pend_n, pend_c, headD_c, isStore_s]
    rw [dk_eff]
    refine ⟨mksSV s.marks, ?_, ?_⟩
    · simp only [↓reduceIte, ↓c_condI, ↓c_seqH, ↓c_blockH, ↓then_nH, ↓then_rH, ↓then_eH, ↓block_nH, ↓block_rH, ↓block_eH, go_sem]
      refine own_p .imm 2 s.marks (fun _ => rfl) (.inl rfl) hl _ _ ?_
      exact ⟨⟨[], by simp⟩, ids_mks _ _ (.inl rfl) _, .inl rfl⟩
    rw [dk_eff]
    refine ⟨.agg [.sc (.bool true), i64 s.depth, .slice .imm 2 (s.marks.map mkSV)], ?_, ?_⟩
    · simp only [↓reduceIte, ↓c_condI, ↓c_seqH, ↓c_blockH, ↓then_nH, ↓then_rH, ↓then_eH, ↓block_nH, ↓block_rH, ↓block_eH, go_sem, mksSV]
      exact ⟨⟨[], by simp⟩, ids_rs _ _ _ _, .inl rfl⟩
    simp only [↓reduceIte, ↓c_condI, ↓c_seqH, ↓c_blockH, ↓then_nH, ↓then_rH, ↓then_eH, ↓block_nH, ↓block_rH, ↓block_eH, go_sem, drawW_n, drawW_0, drawW_1, drawW_2, drawW_3, pend_n, pend_c, headD_c, isStore_s, w.1, w.2.1, w.2.2, hpl, h0, mksSV, hput, rsL_len, hlen3]
    exact hyes fun h => by rw [k1] at h; cases h
end Go.Proofs
