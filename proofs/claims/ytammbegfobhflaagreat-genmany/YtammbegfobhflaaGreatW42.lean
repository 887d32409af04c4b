/- The document's walk (selvageref14): step. -/
import Derived.Test.YtammbegfobhflaaGreatM7
import Derived.Test.YtammbegfobhflaaGreatW27
import Derived.Test.YtammbegfobhflaaGreatW28
set_option linter.all false
set_option linter.unusedSimpArgs false
set_option linter.unusedVariables false
set_option maxRecDepth 8000
namespace Go.AL
def FineL (rs : List RS) : Prop := ∀ r ∈ rs, r.ok ∧ r.marks.length ≤ 100000
theorem FineL.set {rs : List RS} (h : FineL rs) {p : Nat} {r : RS} (hr : r.ok ∧ r.marks.length ≤ 100000) : FineL (rs.set p r) := fun x hx => by
  rcases List.mem_or_eq_of_mem_set hx with h1 | h1
  · exact h x h1
  · rw [h1]; exact hr
theorem ids_rsL {n : Nat} {rs : List RS} (h : FineL rs) : ∀ x ∈ rsL rs, Ids n x := by
  intro x hx
  obtain ⟨r, hr, hx⟩ := List.mem_flatMap.1 hx
  simp only [RS.cells, List.mem_cons, List.not_mem_nil, or_false] at hx
  rcases hx with rfl | rfl | rfl
  · exact .sc _
  · exact .sc _
  · refine ids_slice (h r hr).1.2 fun y hy z hz => ?_
    obtain ⟨a, _, rfl⟩ := List.mem_map.1 hy
    simp only [mkSV, SV.cells, List.mem_cons, List.not_mem_nil, or_false] at hz
    rcases hz with rfl | rfl <;> exact .sc _
/-- The states alone have changed; more may be there. -/
def Gro (st : St) (aid : Nat) (rs : List RS) (s : St) : Prop := ∃ ex, s = st.set aid (.cells (rsL rs)) ++ ex
section
variable {st s : St} {aid : Nat} {rs rs' : List RS}
theorem set_same {l : St} {i : Nat} {x : Ob} (h : l[i]? = some x) : l.set i x = l := by
  have hlt := lt_of_get h
  rw [List.getElem?_eq_getElem hlt] at h
  cases h
  exact List.set_getElem_self hlt
theorem gro_id (hA : st[aid]? = some (.cells (rsL rs))) (h : ∃ ex, s = st ++ ex) : Gro st aid rs s := by
  obtain ⟨ex, rfl⟩ := h
  exact ⟨ex, by rw [set_same hA]⟩
theorem Gro.app (h : Gro st aid rs s) (l : St) : Gro st aid rs (s ++ l) := by
  obtain ⟨ex, rfl⟩ := h
  exact ⟨ex ++ l, by rw [List.append_assoc]⟩
theorem Gro.set (h : Gro st aid rs s) {id : Nat} (hi : st.length ≤ id) (o : Ob) : Gro st aid rs (s.set id o) := by
  obtain ⟨ex, rfl⟩ := h
  exact ⟨ex.set (id - st.length) o, by rw [List.set_append_right _ _ (by simpa using hi)]; simp⟩
theorem Gro.hand (h : Gro st aid rs s) (hlt : aid < st.length) (rs' : List RS) : Gro st aid rs' (s.set aid (.cells (rsL rs'))) := by
  obtain ⟨ex, rfl⟩ := h
  exact ⟨ex, by rw [List.set_append_left _ _ (by simpa using hlt), List.set_set]⟩
theorem mod_rs (hA : st[aid]? = some (.cells (rsL rs))) (h : FineL rs') : Mod st (st.set aid (.cells (rsL rs'))) := by
  refine ⟨by simp, fun j o ho => ?_⟩
  by_cases e : aid = j
  · subst e
    rw [set_get (lt_of_get hA)] at ho
    cases ho
    right
    rw [obIds_cells]
    exact ids_rsL h
  · rw [set_get_ne (Ne.symm e)] at ho
    exact .inl ho
theorem fin_R (hA : st[aid]? = some (.cells (rsL rs))) {K : SV → St → Prop} {b : Bool} (h : Gro st aid rs' s) (hf : FineL rs') (hk : K (.sc (.bool b)) (st.set aid (.cells (rsL rs')))) : FinM st K (.sc (.bool b)) s := by
  obtain ⟨ex, rfl⟩ := h
  exact ⟨_, ex, rfl, mod_rs hA hf, .sc _, hk⟩
end
theorem use_of {Z G : Prop} (hz : Z) (h : Z → G) : G := h hz
theorem sle_own {m : AL.Mode} {z : Nat} {l : List SV} : SVle (.slice m z l) (.slice .imm z l) := fun st σ w v h => h.norm
end Go.AL
namespace Go.Proofs
open Go Go.AL
theorem hand_l {L : Nat} {st : St} {aid : Nat} {rs : List RS} (hL : rs.length = L) (hA : st[aid]? = some (.cells (rsL rs))) (hok : FineL rs) (hlen : L ≤ 100000) (p : Int) (h0 : 0 ≤ p) (s : RS) (hs : s.ok) (hl : s.marks.length ≤ 100000) (stack : Int) (K : SV → St → Prop)
    (hn : handF (rs.map RS.abs) stack (p, ⟨s.depth, s.marks⟩) = none → K (.sc (.bool false)) st)
    (hy : ∀ a, handF (rs.map RS.abs) stack (p, ⟨s.depth, s.marks⟩) = some a → p.toNat < rs.length → a = (rs.set p.toNat ⟨true, s.depth, .imm, 2, s.marks⟩).map RS.abs → K (.sc (.bool true)) (st.set aid (.cells (rsL (rs.set p.toNat ⟨true, s.depth, .imm, 2, s.marks⟩))))) :
    ACalls Tryz.prog 88 [.slc aid 3 0 L L, i64 p, .agg s.cells, i64 stack] K st := by
  subst hL
  exact hand_c hA hok hlen p h0 s hs hl stack K hn hy
set_option maxHeartbeats 16000000 in
theorem step_c {m1 m2 m3 : AL.Mode} {z1 z2 z3 : Nat} (c : Cd) (hz : CdZ m1 m2 m3 z1 z2 z3 c) (n : Nat) (hn : n < c.funs.length) {f : Bd} (hf : c.funs.getD n default = f) (hbd : bodyB f = true) {st : St} {aid : Nat} {rs : List RS}
    (hA : st[aid]? = some (.cells (rsL rs))) (hok : FineL rs) (hlen : rs.length = f.code.length) {p : Nat} (hp : p < f.code.length) {r : RS} (hr : rs[p]? = some r) (his : r.is = true) {k : Nat} (hgs : GoodS k ⟨r.depth, r.marks⟩) (hk : k ≤ 90000) {R : Option (List (Option Sta))}
    (hR : stepR c n p (rs.map RS.abs) = R) (K : SV → St → Prop) (h0 : R = none → ∀ rs', FineL rs' → K (.sc (.bool false)) (st.set aid (.cells (rsL rs'))))
    (h1 : ∀ a rs', R = some a → FineL rs' → rs'.length = rs.length → rs'.map RS.abs = a → K (.sc (.bool true)) (st.set aid (.cells (rsL rs')))) :
    ACalls Tryz.prog 65 [.agg (cdCells m1 m2 m3 z1 z2 z3 c), i64 n, i64 p, .slc aid 3 0 rs.length rs.length] K st := by
  have hzz := hz.f (fun e => by rw [e] at hn; exact absurd hn (by simp))
  subst hzz
  have w := cells_facts hA
  have c1 : (n : Int) < (c.funs.length : Int) := by omega
  have hg := at_mapE bdSV default (l := c.funs) (k := n) hn
  rw [hf] at hg
  obtain ⟨i, hi⟩ : ∃ i, f.code.getD p default = i := ⟨_, rfl⟩
  have hgi := at_mapE inSV default (l := f.code) (k := p) hp
  rw [hi] at hgi
  have c2 : (p : Int) < (f.code.length : Int) := by omega
  have c3 : (p : Int) < (rs.length : Int) := by omega
  have hpr : p < rs.length := by omega
  have hr' : rs[p] = r := by rw [List.getElem?_eq_getElem hpr] at hr; exact Option.some.inj hr
  have hdr := rs_at hpr
  rw [hr'] at hdr
  refine acalls_go_mod [] Tryz.func65 rfl Tryz.results65 Tryz.ntmps65 ?_
  simp -implicitDefEqProofs (maxSteps := 2000000) only [↓ops_nil, ↓ops_none, ↓ops_some, ↓kd_eff, ↓dr_nil, ↓dr_cons, ↓d1_none, ↓d1_some, ↓eff_store, ↓eff_box, ↓eff_alloc, ↓eff_build, ↓eff_buildSlice, ↓eff_call, ↓eff_append, ↓eff_copy, ↓eff_clear, ↓eff_make, ↓reduceIte, ↓c_condI, ↓c_seqH, ↓c_blockH, ↓then_nH, ↓then_rH, ↓then_eH, ↓block_nH, ↓block_rH, ↓block_eH, go_sem, cdCells, bdSV, insSV, inSV, inCells, List.length_map, c1, c2, c3, hg, hgi, w.1, w.2.1, w.2.2, hdr]
  obtain ⟨S3, hS3⟩ : ∃ S3, (st ++ [Ob.cells [i64 f.kept, i64 f.locals, i64 f.stack, SV.slice Mode.imm 3 (List.map inSV f.code)], Ob.cells [i64 i.op, i64 i.a, i64 i.b], Ob.cells [SV.sc (Value.bool r.is), i64 r.depth, SV.slice r.m r.z (List.map mkSV r.marks)]]) ++ [Ob.tok 0] = S3 := ⟨_, rfl⟩
  have hl3 : S3.length = st.length + 4 := by rw [← hS3]; simp
  have hlt := lt_of_get hA
  have sa : S3[aid]? = some (.cells (rsL rs)) := by rw [← hS3]; exact get_app (get_app hA _) _
  have sf : S3[st.length]? = some (.cells [i64 f.kept, i64 f.locals, i64 f.stack, SV.slice Mode.imm 3 (List.map inSV f.code)]) := by rw [← hS3]; simp
  have si : S3[st.length + 1]? = some (.cells [i64 i.op, i64 i.a, i64 i.b]) := by rw [← hS3]; simp
  have ss : S3[st.length + 2]? = some (.cells [SV.sc (Value.bool r.is), i64 r.depth, SV.slice r.m r.z (List.map mkSV r.marks)]) := by rw [← hS3]; simp
  have sT : S3[st.length + 3]? = some (.tok 0) := by rw [← hS3]; simp
  have gro : Gro st aid rs S3 := gro_id hA ⟨_, by rw [← hS3, List.append_assoc]⟩
  have qf := cells_facts sf
  have qi := cells_facts si
  have qs := cells_facts ss
  refine acalls_view view_tok ?_
  rw [hS3]
  refine rEff_c c hz n hn i _ _ fun b T P hE => ?_
  have hm : (r.marks = [] ∧ baseF ⟨r.depth, r.marks⟩ = 0) ∨ (0 < r.marks.length ∧ ∃ m, (r.marks.map mkSV).getD (r.marks.length - 1) .any = mkSV m ∧ baseF ⟨r.depth, r.marks⟩ = m.2) := by
    by_cases e : r.marks = []
    · exact .inl ⟨e, by unfold baseF; rw [e]; rfl⟩
    · have hpos := List.length_pos_iff.2 e
      refine .inr ⟨hpos, r.marks[r.marks.length - 1], ?_, ?_⟩
      · simp [List.getD_eq_getElem?_getD, show r.marks.length - 1 < r.marks.length by omega]
      · unfold baseF
        rw [last_at e]
  obtain ⟨bs, hbs⟩ : ∃ bs, baseF ⟨r.depth, r.marks⟩ = bs := ⟨_, rfl⟩
  have hbs0 : 0 ≤ bs := by rw [← hbs]; exact base_pos hgs
  have hfst : f.stack ≤ 60 := by
    have := hbd
    unfold bodyB at this
    simp only [Bool.and_eq_true] at this
    exact (inB_le this.2.2.1).2
  have hbb : 0 ≤ i.b ∧ i.b ≤ 65535 := by
    have := hbd
    unfold bodyB at this
    simp only [Bool.and_eq_true] at this
    rw [← hi]
    exact instr_b this.2.2.2.2 _
  obtain ⟨e1, e2, e3, e4⟩ := eff_bnd (c := c) (n := n) hbb
  rw [hE] at e1 e2 e3 e4
  simp only at e1 e2 e3 e4
  obtain ⟨g1, g2, g3, g4⟩ := hgs
  simp only at g1 g2 g3 g4
  have hwT : IntKind.i64.wrap (r.depth - T) = r.depth - T := IntWalk.i64_in _ (by omega)
  have hwP : IntKind.i64.wrap (r.depth - T + P) = r.depth - T + P := IntWalk.i64_in _ (by omega)
  have habs : (rs.map RS.abs).getD p none = some ⟨r.depth, r.marks⟩ := by
    rw [abs_get hpr, hr']; unfold RS.abs; rw [if_pos his]
  have hRn : b = false ∨ r.depth - T < bs ∨ f.stack < r.depth → R = none := by
    intro h
    rw [← hR]
    unfold stepR nextF
    simp only [habs, Option.getD_some, hf, hi, hE, hbs]
    rcases h with h | h | h
    · rw [if_pos (.inl h)]
    · rw [if_pos (.inr h)]
    · simp only [h, if_true]
      split <;> rfl
  have hRy : b = true → ¬ r.depth - T < bs → ¬ f.stack < r.depth → (match goF i ((p : Int) + 1) ⟨r.depth, r.marks⟩ ⟨r.depth - T + P, r.marks⟩ with | none => none | some m => handL f.stack (rs.map RS.abs) m.reverse) = R := by
    intro h h' h''
    rw [← hR]
    unfold stepR nextF
    simp only [habs, Option.getD_some, hf, hi, hE, hbs]
    rw [if_neg (by rintro (e | e); rw [h] at e; cases e; exact h' e)]
    generalize goF _ _ _ _ = o
    cases o with
    | none => rfl
    | some m => exact (if_neg h'').symm
  have finN : R = none → FinM st K (.sc (.bool false)) S3 := fun h => fin_R hA gro hok (h0 h rs hok)
  rw [hbs] at hm
  by_cases kb : b = false
  · have hRz := hRn (.inl kb)
    subst kb
    refine hm.elim (fun hm => ?_) (fun hm => ?_)
    · have c4 : ¬ (0 : Int) < (r.marks.length : Int) := by rw [hm.1]; simp
      simp -implicitDefEqProofs (maxSteps := 2000000) only [↓ops_nil, ↓ops_none, ↓ops_some, ↓kd_eff, ↓dr_nil, ↓dr_cons, ↓d1_none, ↓d1_some, ↓eff_store, ↓eff_box, ↓eff_alloc, ↓eff_build, ↓eff_buildSlice, ↓eff_call, ↓eff_append, ↓eff_copy, ↓eff_clear, ↓eff_make, ↓reduceIte, ↓c_condI, ↓c_seqH, ↓c_blockH, ↓then_nH, ↓then_rH, ↓then_eH, ↓block_nH, ↓block_rH, ↓block_eH, go_sem, c4, qs.1, qs.2.1, qs.2.2, List.length_map]
      exact finN hRz
    · obtain ⟨hpos, m, hmg, rfl⟩ := hm
      have c4 : (0 : Int) < (r.marks.length : Int) := by omega
      have hz2 := (hok r (List.mem_of_getElem? hr)).1.1 (List.length_pos_iff.1 hpos)
      have hw1 : IntKind.i64.wrap ((r.marks.length : Int) - 1) = ((r.marks.length - 1 : Nat) : Int) := by rw [IntWalk.i64_in _ (by omega)]; omega
      have c5 : ((r.marks.length - 1 : Nat) : Int) < (r.marks.length : Int) := by omega
      simp -implicitDefEqProofs (maxSteps := 2000000) only [↓ops_nil, ↓ops_none, ↓ops_some, ↓kd_eff, ↓dr_nil, ↓dr_cons, ↓d1_none, ↓d1_some, ↓eff_store, ↓eff_box, ↓eff_alloc, ↓eff_build, ↓eff_buildSlice, ↓eff_call, ↓eff_append, ↓eff_copy, ↓eff_clear, ↓eff_make, ↓reduceIte, ↓c_condI, ↓c_seqH, ↓c_blockH, ↓then_nH, ↓then_rH, ↓then_eH, ↓block_nH, ↓block_rH, ↓block_eH, go_sem, c4, c5, qs.1, qs.2.1, qs.2.2, List.length_map, hw1, hz2, hmg, mkSV]
      exact finN hRz
  have kb : b = true := by simpa using kb
  subst kb
  by_cases k1 : r.depth - T < bs
  · have hRz := hRn (.inr (.inl k1))
    refine hm.elim (fun hm => ?_) (fun hm => ?_)
    · have c4 : ¬ (0 : Int) < (r.marks.length : Int) := by rw [hm.1]; simp
      rw [hm.2] at k1
      simp -implicitDefEqProofs (maxSteps := 2000000) only [↓ops_nil, ↓ops_none, ↓ops_some, ↓kd_eff, ↓dr_nil, ↓dr_cons, ↓d1_none, ↓d1_some, ↓eff_store, ↓eff_box, ↓eff_alloc, ↓eff_build, ↓eff_buildSlice, ↓eff_call, ↓eff_append, ↓eff_copy, ↓eff_clear, ↓eff_make, ↓reduceIte, ↓c_condI, ↓c_seqH, ↓c_blockH, ↓then_nH, ↓then_rH, ↓then_eH, ↓block_nH, ↓block_rH, ↓block_eH, go_sem, c4, qs.1, qs.2.1, qs.2.2, List.length_map, hwT, k1]
      exact finN hRz
    · obtain ⟨hpos, m, hmg, rfl⟩ := hm
      have c4 : (0 : Int) < (r.marks.length : Int) := by omega
      have hz2 := (hok r (List.mem_of_getElem? hr)).1.1 (List.length_pos_iff.1 hpos)
      have hw1 : IntKind.i64.wrap ((r.marks.length : Int) - 1) = ((r.marks.length - 1 : Nat) : Int) := by rw [IntWalk.i64_in _ (by omega)]; omega
      have c5 : ((r.marks.length - 1 : Nat) : Int) < (r.marks.length : Int) := by omega
      simp -implicitDefEqProofs (maxSteps := 2000000) only [↓ops_nil, ↓ops_none, ↓ops_some, ↓kd_eff, ↓dr_nil, ↓dr_cons, ↓d1_none, ↓d1_some, ↓eff_store, ↓eff_box, ↓eff_alloc, ↓eff_build, ↓eff_buildSlice, ↓eff_call, ↓eff_append, ↓eff_copy, ↓eff_clear, ↓eff_make, ↓reduceIte, ↓c_condI, ↓c_seqH, ↓c_blockH, ↓then_nH, ↓then_rH, ↓then_eH, ↓block_nH, ↓block_rH, ↓block_eH, go_sem, c4, c5, qs.1, qs.2.1, qs.2.2, List.length_map, hw1, hz2, hmg, mkSV, hwT, k1]
      exact finN hRz
  by_cases k2 : f.stack < r.depth
  · have hRz := hRn (.inr (.inr k2))
    refine hm.elim (fun hm => ?_) (fun hm => ?_)
    · have c4 : ¬ (0 : Int) < (r.marks.length : Int) := by rw [hm.1]; simp
      rw [hm.2] at k1
      simp -implicitDefEqProofs (maxSteps := 2000000) only [↓ops_nil, ↓ops_none, ↓ops_some, ↓kd_eff, ↓dr_nil, ↓dr_cons, ↓d1_none, ↓d1_some, ↓eff_store, ↓eff_box, ↓eff_alloc, ↓eff_build, ↓eff_buildSlice, ↓eff_call, ↓eff_append, ↓eff_copy, ↓eff_clear, ↓eff_make, ↓reduceIte, ↓c_condI, ↓c_seqH, ↓c_blockH, ↓then_nH, ↓then_rH, ↓then_eH, ↓block_nH, ↓block_rH, ↓block_eH, go_sem, c4, qs.1, qs.2.1, qs.2.2, List.length_map, hwT, k1, qf.1, qf.2.1, qf.2.2, k2]
      exact finN hRz
    · obtain ⟨hpos, m, hmg, rfl⟩ := hm
      have c4 : (0 : Int) < (r.marks.length : Int) := by omega
      have hz2 := (hok r (List.mem_of_getElem? hr)).1.1 (List.length_pos_iff.1 hpos)
      have hw1 : IntKind.i64.wrap ((r.marks.length : Int) - 1) = ((r.marks.length - 1 : Nat) : Int) := by rw [IntWalk.i64_in _ (by omega)]; omega
      have c5 : ((r.marks.length - 1 : Nat) : Int) < (r.marks.length : Int) := by omega
      simp -implicitDefEqProofs (maxSteps := 2000000) only [↓ops_nil, ↓ops_none, ↓ops_some, ↓kd_eff, ↓dr_nil, ↓dr_cons, ↓d1_none, ↓d1_some, ↓eff_store, ↓eff_box, ↓eff_alloc, ↓eff_build, ↓eff_buildSlice, ↓eff_call, ↓eff_append, ↓eff_copy, ↓eff_clear, ↓eff_make, ↓reduceIte, ↓c_condI, ↓c_seqH, ↓c_blockH, ↓then_nH, ↓then_rH, ↓then_eH, ↓block_nH, ↓block_rH, ↓block_eH, go_sem, c4, c5, qs.1, qs.2.1, qs.2.2, List.length_map, hw1, hz2, hmg, mkSV, hwT, k1, qf.1, qf.2.1, qf.2.2, k2]
      exact finN hRz
  have hRy := hRy rfl k1 k2
  apply use_of
  case h =>
    intro g
    refine hm.elim (fun hm => ?_) (fun hm => ?_)
    · have c4 : ¬ (0 : Int) < (r.marks.length : Int) := by rw [hm.1]; simp
      rw [hm.2] at k1
      simp -implicitDefEqProofs (maxSteps := 2000000) only [↓ops_nil, ↓ops_none, ↓ops_some, ↓kd_eff, ↓dr_nil, ↓dr_cons, ↓d1_none, ↓d1_some, ↓eff_store, ↓eff_box, ↓eff_alloc, ↓eff_build, ↓eff_buildSlice, ↓eff_call, ↓eff_append, ↓eff_copy, ↓eff_clear, ↓eff_make, ↓reduceIte, ↓c_condI, ↓c_seqH, ↓c_blockH, ↓then_nH, ↓then_rH, ↓then_eH, ↓block_nH, ↓block_rH, ↓block_eH, go_sem, c4, qs.1, qs.2.1, qs.2.2, List.length_map, hwT, k1, qf.1, qf.2.1, qf.2.2, k2]
      refine awp_weaken (b := [.any, .any, i64 p, .slc aid 3 0 rs.length rs.length, .any, .any, .any, .any, .any, .ptr st.length 0, .ptr (st.length + 1) 0, .ptr (st.length + 2) 0, .any, i64 T, i64 P, .any, .any, .any, .any, .any, .any, .any, .any, .any, .any, .any, .any, .any, .any, .any, .any, .any, .any, .any, .any, .any, .any, .any, .any, .any, .any, .any, .any, .any, .any, .any, .any, .any, .any, .any, .any, .any, .any, .any, .any, .any, .any, .any, .any, .any, .any, .any, .any, .any, .any, .any, .any, .any, .any, .any, .any, .any, .any, .any, .any, .any, .any, .any, .any, .any, .any, .any, .any, .any, .any, .any, .any, .any, .any, .any, .any, .any, .any, .any, .any, .any, .any, .any, .any, .any, .any, .any, .any, .any, .any, .any, .any, .any, .any, .any, .any, .any, .any, .any, .any, .any, .any, .any, .any, .any, .any, .any, .any, .any, .any, .any, .any, .any, .any, .any, .any, .any, .any, .any, .any, .any, .any, .any, .any, .any, .any, .any, .any, .any, .any, .any, .any, .any, .any, .any, .any, .any, .any, .any, .any, .any, .any, .any, .any, .any, .any, .any, .any, .any, .any, .any, .any, .any, .any, .any, .any, .any, .any, .any, .any, .any, .any, .any, .any, .any, .any, .any, .any, .any, .any, .any, .any, .any, .any, .any, .any, .any, .any, .any, .any, .any, .any, .any, .any, .any, .any, .any, .any, .any, .any, .any, .any, .any, .any, .any, .any, .any, .any, .any, .any, .any, .any, .any, .any, .any, .any, .any, .any, .any, .any, .any, .any, .any, .any, .any, .any, .any, .any, .any, .any, .any]) ?_ g
      repeat (first | exact leEnv_nil | refine leEnv_any _ ?_ | refine leEnv_same _ ?_ | refine leEnv_norm _ ?_)
    · obtain ⟨hpos, m, hmg, rfl⟩ := hm
      have c4 : (0 : Int) < (r.marks.length : Int) := by omega
      have hz2 := (hok r (List.mem_of_getElem? hr)).1.1 (List.length_pos_iff.1 hpos)
      have hw1 : IntKind.i64.wrap ((r.marks.length : Int) - 1) = ((r.marks.length - 1 : Nat) : Int) := by rw [IntWalk.i64_in _ (by omega)]; omega
      have c5 : ((r.marks.length - 1 : Nat) : Int) < (r.marks.length : Int) := by omega
      simp -implicitDefEqProofs (maxSteps := 2000000) only [↓ops_nil, ↓ops_none, ↓ops_some, ↓kd_eff, ↓dr_nil, ↓dr_cons, ↓d1_none, ↓d1_some, ↓eff_store, ↓eff_box, ↓eff_alloc, ↓eff_build, ↓eff_buildSlice, ↓eff_call, ↓eff_append, ↓eff_copy, ↓eff_clear, ↓eff_make, ↓reduceIte, ↓c_condI, ↓c_seqH, ↓c_blockH, ↓then_nH, ↓then_rH, ↓then_eH, ↓block_nH, ↓block_rH, ↓block_eH, go_sem, c4, c5, qs.1, qs.2.1, qs.2.2, List.length_map, hw1, hz2, hmg, mkSV, hwT, k1, qf.1, qf.2.1, qf.2.2, k2]
      refine awp_weaken (b := [.any, .any, i64 p, .slc aid 3 0 rs.length rs.length, .any, .any, .any, .any, .any, .ptr st.length 0, .ptr (st.length + 1) 0, .ptr (st.length + 2) 0, .any, i64 T, i64 P, .any, .any, .any, .any, .any, .any, .any, .any, .any, .any, .any, .any, .any, .any, .any, .any, .any, .any, .any, .any, .any, .any, .any, .any, .any, .any, .any, .any, .any, .any, .any, .any, .any, .any, .any, .any, .any, .any, .any, .any, .any, .any, .any, .any, .any, .any, .any, .any, .any, .any, .any, .any, .any, .any, .any, .any, .any, .any, .any, .any, .any, .any, .any, .any, .any, .any, .any, .any, .any, .any, .any, .any, .any, .any, .any, .any, .any, .any, .any, .any, .any, .any, .any, .any, .any, .any, .any, .any, .any, .any, .any, .any, .any, .any, .any, .any, .any, .any, .any, .any, .any, .any, .any, .any, .any, .any, .any, .any, .any, .any, .any, .any, .any, .any, .any, .any, .any, .any, .any, .any, .any, .any, .any, .any, .any, .any, .any, .any, .any, .any, .any, .any, .any, .any, .any, .any, .any, .any, .any, .any, .any, .any, .any, .any, .any, .any, .any, .any, .any, .any, .any, .any, .any, .any, .any, .any, .any, .any, .any, .any, .any, .any, .any, .any, .any, .any, .any, .any, .any, .any, .any, .any, .any, .any, .any, .any, .any, .any, .any, .any, .any, .any, .any, .any, .any, .any, .any, .any, .any, .any, .any, .any, .any, .any, .any, .any, .any, .any, .any, .any, .any, .any, .any, .any, .any, .any, .any, .any, .any, .any, .any, .any, .any, .any, .any, .any, .any, .any, .any, .any, .any]) ?_ g
      repeat (first | exact leEnv_nil | refine leEnv_any _ ?_ | refine leEnv_same _ ?_ | refine leEnv_norm _ ?_)
  case hz =>
    have hml : r.marks.length ≤ 100000 := (hok r (List.mem_of_getElem? hr)).2
    have hro := (hok r (List.mem_of_getElem? hr)).1
    obtain ⟨B, hB⟩ : ∃ B, S3.set (st.length + 3) (.tok 1) = B := ⟨_, rfl⟩
    have hlB : B.length = st.length + 4 := by rw [← hB]; simp [hl3]
    have ba : B[aid]? = some (.cells (rsL rs)) := by rw [← hB, set_get_ne (by omega)]; exact sa
    have bf : B[st.length]? = some (.cells [i64 f.kept, i64 f.locals, i64 f.stack, SV.slice Mode.imm 3 (List.map inSV f.code)]) := by rw [← hB, set_get_ne (by omega)]; exact sf
    have bi : B[st.length + 1]? = some (.cells [i64 i.op, i64 i.a, i64 i.b]) := by rw [← hB, set_get_ne (by omega)]; exact si
    have bS : B[st.length + 2]? = some (.cells [SV.sc (Value.bool r.is), i64 r.depth, SV.slice r.m r.z (List.map mkSV r.marks)]) := by rw [← hB, set_get_ne (by omega)]; exact ss
    have bT : B[st.length + 3]? = some (.tok 1) := by rw [← hB, set_get (by omega)]
    have groB : Gro st aid rs B := by rw [← hB]; exact gro.set (by omega) _
    refine awp_drawD [] [8, 10, 11] [([], S3), ([8], B), ([10], S3 ++ [Ob.cells [.sc (.bool false), i64 0, .slice .full 0 []]]), ([8, 10], B ++ [Ob.cells [.sc (.bool false), i64 0, .slice .full 0 []]]),
      ([8, 10, 11], B ++ [Ob.cells [.sc (.bool false), i64 (r.depth - T + P), .slice (.own (st.length + 3) 1) 2 (r.marks.map mkSV)]])]
      [[[], [10], [8], [8, 10]], [[], [10], [8], [8, 10]], [[], [10], [8], [8, 10]], [[], [10], [8], [8, 10]], [[], [10], [8], [8, 10]], [[], [10], [8], [8, 10]], [[], [10]], [[], [10]], [[], [10]], [[8], [8, 10]], [[], [8]], [[8, 10]]] Tryz.mixed rfl rfl rfl rfl rfl ?_
    have hall : ∀ cc ∈ [[], [10], [8], [8, 10]], (AL.look [([], S3), ([8], B), ([10], S3 ++ [Ob.cells [.sc (.bool false), i64 0, .slice .full 0 []]]), ([8, 10], B ++ [Ob.cells [.sc (.bool false), i64 0, .slice .full 0 []]]),
      ([8, 10, 11], B ++ [Ob.cells [.sc (.bool false), i64 (r.depth - T + P), .slice (.own (st.length + 3) 1) 2 (r.marks.map mkSV)]])] cc)[st.length + 2]? = some (.cells [SV.sc (Value.bool r.is), i64 r.depth, SV.slice r.m r.z (List.map mkSV r.marks)]) := by
      intro cc hc
      simp only [List.mem_cons, List.not_mem_nil, or_false] at hc
      rcases hc with rfl | rfl | rfl | rfl
      · exact ss
      · exact get_app ss _
      · exact bS
      · exact get_app bS _
    obtain ⟨tbl, htbl⟩ : ∃ tbl : List (List Nat × St), [([], S3), ([8], B), ([10], S3 ++ [Ob.cells [.sc (.bool false), i64 0, .slice .full 0 []]]), ([8, 10], B ++ [Ob.cells [.sc (.bool false), i64 0, .slice .full 0 []]]),
      ([8, 10, 11], B ++ [Ob.cells [.sc (.bool false), i64 (r.depth - T + P), .slice (.own (st.length + 3) 1) 2 (r.marks.map mkSV)]])] = tbl := ⟨_, rfl⟩
    rw [htbl] at hall ⊢
    have pure_ : ∀ {S : St}, S[st.length + 2]? = some (.cells [SV.sc (Value.bool r.is), i64 r.depth, SV.slice r.m r.z (List.map mkSV r.marks)]) → (isObj S (st.length + 2) = True ∧ objAt S (st.length + 2) = [SV.sc (Value.bool r.is), i64 r.depth, SV.slice r.m r.z (List.map mkSV r.marks)]) := fun h => (cells_facts h).2
    refine dD_pn rfl (.ptr (st.length + 2) 1) (fun cc hc => by simp -implicitDefEqProofs (maxSteps := 2000000) only [↓ops_nil, ↓ops_none, ↓ops_some, ↓kd_eff, ↓dr_nil, ↓dr_cons, ↓d1_none, ↓d1_some, ↓eff_store, ↓eff_box, ↓eff_alloc, ↓eff_build, ↓eff_buildSlice, ↓eff_call, ↓eff_append, ↓eff_copy, ↓eff_clear, ↓eff_make, ↓reduceIte, ↓c_condI, ↓c_seqH, ↓c_blockH, ↓then_nH, ↓then_rH, ↓then_eH, ↓block_nH, ↓block_rH, ↓block_eH, go_sem]) ?_
    refine dD_pn rfl (i64 r.depth) (fun cc hc => by have q := pure_ (hall cc hc); simp -implicitDefEqProofs (maxSteps := 2000000) only [↓ops_nil, ↓ops_none, ↓ops_some, ↓kd_eff, ↓dr_nil, ↓dr_cons, ↓d1_none, ↓d1_some, ↓eff_store, ↓eff_box, ↓eff_alloc, ↓eff_build, ↓eff_buildSlice, ↓eff_call, ↓eff_append, ↓eff_copy, ↓eff_clear, ↓eff_make, ↓reduceIte, ↓c_condI, ↓c_seqH, ↓c_blockH, ↓then_nH, ↓then_rH, ↓then_eH, ↓block_nH, ↓block_rH, ↓block_eH, go_sem, q.1, q.2]) ?_
    refine dD_pn rfl (i64 T) (fun cc hc => by simp -implicitDefEqProofs (maxSteps := 2000000) only [↓ops_nil, ↓ops_none, ↓ops_some, ↓kd_eff, ↓dr_nil, ↓dr_cons, ↓d1_none, ↓d1_some, ↓eff_store, ↓eff_box, ↓eff_alloc, ↓eff_build, ↓eff_buildSlice, ↓eff_call, ↓eff_append, ↓eff_copy, ↓eff_clear, ↓eff_make, ↓reduceIte, ↓c_condI, ↓c_seqH, ↓c_blockH, ↓then_nH, ↓then_rH, ↓then_eH, ↓block_nH, ↓block_rH, ↓block_eH, go_sem]) ?_
    refine dD_pn rfl (i64 (r.depth - T)) (fun cc hc => by simp -implicitDefEqProofs (maxSteps := 2000000) only [↓ops_nil, ↓ops_none, ↓ops_some, ↓kd_eff, ↓dr_nil, ↓dr_cons, ↓d1_none, ↓d1_some, ↓eff_store, ↓eff_box, ↓eff_alloc, ↓eff_build, ↓eff_buildSlice, ↓eff_call, ↓eff_append, ↓eff_copy, ↓eff_clear, ↓eff_make, ↓reduceIte, ↓c_condI, ↓c_seqH, ↓c_blockH, ↓then_nH, ↓then_rH, ↓then_eH, ↓block_nH, ↓block_rH, ↓block_eH, go_sem, hwT]) ?_
    refine dD_pn rfl (i64 P) (fun cc hc => by simp -implicitDefEqProofs (maxSteps := 2000000) only [↓ops_nil, ↓ops_none, ↓ops_some, ↓kd_eff, ↓dr_nil, ↓dr_cons, ↓d1_none, ↓d1_some, ↓eff_store, ↓eff_box, ↓eff_alloc, ↓eff_build, ↓eff_buildSlice, ↓eff_call, ↓eff_append, ↓eff_copy, ↓eff_clear, ↓eff_make, ↓reduceIte, ↓c_condI, ↓c_seqH, ↓c_blockH, ↓then_nH, ↓then_rH, ↓then_eH, ↓block_nH, ↓block_rH, ↓block_eH, go_sem]) ?_
    refine dD_pn rfl (i64 (r.depth - T + P)) (fun cc hc => by simp -implicitDefEqProofs (maxSteps := 2000000) only [↓ops_nil, ↓ops_none, ↓ops_some, ↓kd_eff, ↓dr_nil, ↓dr_cons, ↓d1_none, ↓d1_some, ↓eff_store, ↓eff_box, ↓eff_alloc, ↓eff_build, ↓eff_buildSlice, ↓eff_call, ↓eff_append, ↓eff_copy, ↓eff_clear, ↓eff_make, ↓reduceIte, ↓c_condI, ↓c_seqH, ↓c_blockH, ↓then_nH, ↓then_rH, ↓then_eH, ↓block_nH, ↓block_rH, ↓block_eH, go_sem, hwP]) ?_
    refine dD_pn rfl (.ptr (st.length + 2) 2) (fun cc hc => by simp -implicitDefEqProofs (maxSteps := 2000000) only [↓ops_nil, ↓ops_none, ↓ops_some, ↓kd_eff, ↓dr_nil, ↓dr_cons, ↓d1_none, ↓d1_some, ↓eff_store, ↓eff_box, ↓eff_alloc, ↓eff_build, ↓eff_buildSlice, ↓eff_call, ↓eff_append, ↓eff_copy, ↓eff_clear, ↓eff_make, ↓reduceIte, ↓c_condI, ↓c_seqH, ↓c_blockH, ↓then_nH, ↓then_rH, ↓then_eH, ↓block_nH, ↓block_rH, ↓block_eH, go_sem]) ?_
    refine dD_pn rfl (.slice r.m r.z (r.marks.map mkSV)) (fun cc hc => by have q := pure_ (hall cc (by simp only [List.mem_cons, List.not_mem_nil, or_false] at hc ⊢; rcases hc with h | h; exact .inl h; exact .inr (.inl h))); simp -implicitDefEqProofs (maxSteps := 2000000) only [↓ops_nil, ↓ops_none, ↓ops_some, ↓kd_eff, ↓dr_nil, ↓dr_cons, ↓d1_none, ↓d1_some, ↓eff_store, ↓eff_box, ↓eff_alloc, ↓eff_build, ↓eff_buildSlice, ↓eff_call, ↓eff_append, ↓eff_copy, ↓eff_clear, ↓eff_make, ↓reduceIte, ↓c_condI, ↓c_seqH, ↓c_blockH, ↓then_nH, ↓then_rH, ↓then_eH, ↓block_nH, ↓block_rH, ↓block_eH, go_sem, q.1, q.2]) ?_
    have l0 : AL.look tbl [] = S3 := by rw [← htbl]; rfl
    have l8 : AL.look tbl [8] = B := by rw [← htbl]; rfl
    have lA : AL.look tbl [10] = S3 ++ [Ob.cells [.sc (.bool false), i64 0, .slice .full 0 []]] := by rw [← htbl]; rfl
    have lB : AL.look tbl [8, 10] = B ++ [Ob.cells [.sc (.bool false), i64 0, .slice .full 0 []]] := by rw [← htbl]; rfl
    have lE : AL.look tbl [8, 10, 11] = B ++ [Ob.cells [.sc (.bool false), i64 (r.depth - T + P), .slice (.own (st.length + 3) 1) 2 (r.marks.map mkSV)]] := by rw [← htbl]; rfl
    have sTa : ∀ l, (S3 ++ [l])[st.length + 3]? = some (.tok 0) := fun l => get_app sT _
    have hBa : ∀ l, (S3 ++ [l]).set (st.length + 3) (.tok 1) = B ++ [l] := fun l => by rw [List.set_append_left _ _ (by omega), hB]
    refine dD_t2 (d := [8]) (d2 := [8, 10]) rfl rfl rfl (.slice (.own (st.length + 3) 1) 2 (r.marks.map mkSV)) rfl ?_ ?_ ?_
    · rw [l0, l8]
      simp -implicitDefEqProofs (maxSteps := 2000000) only [↓ops_nil, ↓ops_none, ↓ops_some, ↓kd_eff, ↓dr_nil, ↓dr_cons, ↓d1_none, ↓d1_some, ↓eff_store, ↓eff_box, ↓eff_alloc, ↓eff_build, ↓eff_buildSlice, ↓eff_call, ↓eff_append, ↓eff_copy, ↓eff_clear, ↓eff_make, ↓reduceIte, ↓c_condI, ↓c_seqH, ↓c_blockH, ↓then_nH, ↓then_rH, ↓then_eH, ↓block_nH, ↓block_rH, ↓block_eH, go_sem]
      exact own_t sT r.m r.z r.marks hro.1 hro.2 hml _ ⟨rfl, hB⟩
    · rw [lA, lB]
      simp -implicitDefEqProofs (maxSteps := 2000000) only [↓ops_nil, ↓ops_none, ↓ops_some, ↓kd_eff, ↓dr_nil, ↓dr_cons, ↓d1_none, ↓d1_some, ↓eff_store, ↓eff_box, ↓eff_alloc, ↓eff_build, ↓eff_buildSlice, ↓eff_call, ↓eff_append, ↓eff_copy, ↓eff_clear, ↓eff_make, ↓reduceIte, ↓c_condI, ↓c_seqH, ↓c_blockH, ↓then_nH, ↓then_rH, ↓then_eH, ↓block_nH, ↓block_rH, ↓block_eH, go_sem]
      exact own_t (sTa _) r.m r.z r.marks hro.1 hro.2 hml _ ⟨rfl, hBa _⟩
    have idsX : ∀ {N : Nat}, st.length + 3 < N → Ids N (.agg [.sc (.bool false), i64 (r.depth - T + P), .slice (.own (st.length + 3) 1) 2 (r.marks.map mkSV)]) := fun h => by
      simp only [ids_agg, List.forall_mem_cons, ids_sc, true_and]
      refine ⟨.slice _ _ _ (fun id ver e => by cases e; exact h) fun a q ha hq => ?_, fun x hx => by cases hx⟩
      have e1 : (r.marks.map mkSV).getD a .any = mkSV (r.marks[a]'(by simpa using ha)) := by simp [List.getD_eq_getElem?_getD, show a < r.marks.length by simpa using ha]
      rw [e1]
      match q with
      | 0 => exact .sc _
      | 1 => exact .sc _
      | q + 2 => exact .any
    refine dD_p2 rfl (.agg [.sc (.bool false), i64 (r.depth - T + P), .slice (.own (st.length + 3) 1) 2 (r.marks.map mkSV)]) ?_ ?_ ?_
    · rw [l8]
      simp -implicitDefEqProofs (maxSteps := 2000000) only [↓ops_nil, ↓ops_none, ↓ops_some, ↓kd_eff, ↓dr_nil, ↓dr_cons, ↓d1_none, ↓d1_some, ↓eff_store, ↓eff_box, ↓eff_alloc, ↓eff_build, ↓eff_buildSlice, ↓eff_call, ↓eff_append, ↓eff_copy, ↓eff_clear, ↓eff_make, ↓reduceIte, ↓c_condI, ↓c_seqH, ↓c_blockH, ↓then_nH, ↓then_rH, ↓then_eH, ↓block_nH, ↓block_rH, ↓block_eH, go_sem]
      rw [dk_eff]
      refine ⟨_, ?_, rfl⟩
      simp -implicitDefEqProofs (maxSteps := 2000000) only [↓ops_nil, ↓ops_none, ↓ops_some, ↓kd_eff, ↓dr_nil, ↓dr_cons, ↓d1_none, ↓d1_some, ↓eff_store, ↓eff_box, ↓eff_alloc, ↓eff_build, ↓eff_buildSlice, ↓eff_call, ↓eff_append, ↓eff_copy, ↓eff_clear, ↓eff_make, ↓reduceIte, ↓c_condI, ↓c_seqH, ↓c_blockH, ↓then_nH, ↓then_rH, ↓then_eH, ↓block_nH, ↓block_rH, ↓block_eH, go_sem]
      exact ⟨⟨[], by simp⟩, idsX (by omega), .inl rfl⟩
    · rw [lB]
      simp -implicitDefEqProofs (maxSteps := 2000000) only [↓ops_nil, ↓ops_none, ↓ops_some, ↓kd_eff, ↓dr_nil, ↓dr_cons, ↓d1_none, ↓d1_some, ↓eff_store, ↓eff_box, ↓eff_alloc, ↓eff_build, ↓eff_buildSlice, ↓eff_call, ↓eff_append, ↓eff_copy, ↓eff_clear, ↓eff_make, ↓reduceIte, ↓c_condI, ↓c_seqH, ↓c_blockH, ↓then_nH, ↓then_rH, ↓then_eH, ↓block_nH, ↓block_rH, ↓block_eH, go_sem]
      rw [dk_eff]
      refine ⟨_, ?_, rfl⟩
      simp -implicitDefEqProofs (maxSteps := 2000000) only [↓ops_nil, ↓ops_none, ↓ops_some, ↓kd_eff, ↓dr_nil, ↓dr_cons, ↓d1_none, ↓d1_some, ↓eff_store, ↓eff_box, ↓eff_alloc, ↓eff_build, ↓eff_buildSlice, ↓eff_call, ↓eff_append, ↓eff_copy, ↓eff_clear, ↓eff_make, ↓reduceIte, ↓c_condI, ↓c_seqH, ↓c_blockH, ↓then_nH, ↓then_rH, ↓then_eH, ↓block_nH, ↓block_rH, ↓block_eH, go_sem]
      exact ⟨⟨[], by simp⟩, idsX (by simp; omega), .inl rfl⟩
    refine dD_t2 (d := [10]) (d2 := [8, 10]) rfl rfl rfl (.ptr (st.length + 4) 0) rfl ?_ ?_ ?_
    · rw [l0, lA]
      simp -implicitDefEqProofs (maxSteps := 2000000) only [↓ops_nil, ↓ops_none, ↓ops_some, ↓kd_eff, ↓dr_nil, ↓dr_cons, ↓d1_none, ↓d1_some, ↓eff_store, ↓eff_box, ↓eff_alloc, ↓eff_build, ↓eff_buildSlice, ↓eff_call, ↓eff_append, ↓eff_copy, ↓eff_clear, ↓eff_make, ↓reduceIte, ↓c_condI, ↓c_seqH, ↓c_blockH, ↓then_nH, ↓then_rH, ↓then_eH, ↓block_nH, ↓block_rH, ↓block_eH, go_sem, hl3]
    · rw [l8, lB]
      simp -implicitDefEqProofs (maxSteps := 2000000) only [↓ops_nil, ↓ops_none, ↓ops_some, ↓kd_eff, ↓dr_nil, ↓dr_cons, ↓d1_none, ↓d1_some, ↓eff_store, ↓eff_box, ↓eff_alloc, ↓eff_build, ↓eff_buildSlice, ↓eff_call, ↓eff_append, ↓eff_copy, ↓eff_clear, ↓eff_make, ↓reduceIte, ↓c_condI, ↓c_seqH, ↓c_blockH, ↓then_nH, ↓then_rH, ↓then_eH, ↓block_nH, ↓block_rH, ↓block_eH, go_sem, hlB]
    refine dD_t1 (d := [8, 10, 11]) rfl rfl .any rfl ?_ ?_
    · rw [lB, lE]
      simp -implicitDefEqProofs (maxSteps := 2000000) only [↓ops_nil, ↓ops_none, ↓ops_some, ↓kd_eff, ↓dr_nil, ↓dr_cons, ↓d1_none, ↓d1_some, ↓eff_store, ↓eff_box, ↓eff_alloc, ↓eff_build, ↓eff_buildSlice, ↓eff_call, ↓eff_append, ↓eff_copy, ↓eff_clear, ↓eff_make, ↓reduceIte, ↓c_condI, ↓c_seqH, ↓c_blockH, ↓then_nH, ↓then_rH, ↓then_eH, ↓block_nH, ↓block_rH, ↓block_eH, go_sem, hlB]
    refine dD_end ?_
    rw [lE]
    obtain ⟨S5, hS5⟩ : ∃ S5, B ++ [Ob.cells [.sc (.bool false), i64 (r.depth - T + P), .slice (.own (st.length + 3) 1) 2 (r.marks.map mkSV)]] = S5 := ⟨_, rfl⟩
    rw [hS5]
    have ua : S5[aid]? = some (.cells (rsL rs)) := by rw [← hS5]; exact get_app ba _
    have uf : S5[st.length]? = some (.cells [i64 f.kept, i64 f.locals, i64 f.stack, SV.slice Mode.imm 3 (List.map inSV f.code)]) := by rw [← hS5]; exact get_app bf _
    have ui : S5[st.length + 1]? = some (.cells [i64 i.op, i64 i.a, i64 i.b]) := by rw [← hS5]; exact get_app bi _
    have us : S5[st.length + 2]? = some (.cells [SV.sc (Value.bool r.is), i64 r.depth, SV.slice r.m r.z (List.map mkSV r.marks)]) := by rw [← hS5]; exact get_app bS _
    have uT : S5[st.length + 3]? = some (.tok 1) := by rw [← hS5]; exact get_app bT _
    have ut : S5[st.length + 4]? = some (.cells [.sc (.bool false), i64 (r.depth - T + P), .slice (.own (st.length + 3) 1) 2 (r.marks.map mkSV)]) := by rw [← hS5, ← hlB]; simp
    have groS : Gro st aid rs S5 := by rw [← hS5]; exact groB.app _
    clear hBa sTa lE lB lA l8 l0 pure_ hall htbl idsX
    have va := cells_facts ua
    have vf := cells_facts uf
    have vi := cells_facts ui
    have vs := cells_facts us
    have vt := cells_facts ut
    have uTok := tokAt_eq (v' := 1) uT
    have iT := inS_of uT
    have fin0 : ∀ {s : St} {rs' : List RS}, Gro st aid rs' s → FineL rs' → R = none → FinM st K (.sc (.bool false)) s := fun g hf e => fin_R hA g hf (h0 e _ hf)
    have fin1 : ∀ {s : St} {rs' : List RS} {a : List (Option Sta)}, Gro st aid rs' s → FineL rs' → rs'.length = rs.length → a = rs'.map RS.abs → R = some a → FinM st K (.sc (.bool true)) s := fun g hf hl ha e => fin_R hA g hf (h1 _ _ e hf hl ha.symm)
    have hlen4 : f.code.length ≤ 400 := by
      have := hbd
      unfold bodyB at this
      simp only [Bool.and_eq_true] at this
      have := (inB_le this.2.2.2.1).2
      omega
    have happ := Tryz.app88 (n := r.marks.length + 1) (by omega)
    have hpw : IntKind.i64.wrap ((p : Int) + 1) = (p : Int) + 1 := IntWalk.i64_in _ (by omega)
    have hap : 0 ≤ i.a := by
      have := (body_pos hbd).1
      by_cases hq : p < f.code.length
      · rw [← hi]; exact (this _ (by simp [List.getD_eq_getElem?_getD, hq])).1
      · omega
    obtain ⟨dT, hdT⟩ : ∃ dT, r.depth - T + P = dT := ⟨_, rfl⟩
    rw [hdT] at hRy ut vt
    have hsl : SVles [SV.slc aid 3 0 rs.length rs.length] [SV.slc aid 3 0 rs.length rs.length] := .cons (SVle.refl _) .nil
    have hR1 : ∀ {q : Int} {s : Sta} {A : List (Option Sta)}, handL f.stack A [(q, s)] = handF A f.stack (q, s) := fun {q s A} => by
      unfold handL
      cases handF A f.stack (q, s) <;> rfl
    have hR2 : ∀ {x y : Int × Sta} {A : List (Option Sta)}, handL f.stack A [x, y] = (match handF A f.stack x with | none => none | some a => handF a f.stack y) := fun {x y A} => by
      show (match handF A f.stack x with | none => none | some a => handL f.stack a [y]) = _
      cases handF A f.stack x with
      | none => rfl
      | some a => exact hR1
    have hml1 : (⟨true, r.depth, .imm, 2, r.marks⟩ : RS).ok := ⟨fun _ => rfl, .inl rfl⟩
    by_cases o14 : i.op = 14
    · have hz : (((r.marks.length : Int) == 0) = true → R = some (rs.map RS.abs)) ∧ (((r.marks.length : Int) == 0) = false → R = none) := by
        simp only [goF, o14, Int.reduceEq, if_true, if_false, or_true, or_false, true_or, false_or, reduceIte] at hRy
        constructor
        · intro e
          have e : r.marks = [] := by simpa using e
          rw [← hRy, if_pos e]; rfl
        · intro e
          have e : ¬ r.marks = [] := by simpa using e
          rw [← hRy, if_neg e]
      have hc : ∀ B, ((r.marks.length : Int) == 0) = B → FinM st K (.sc (.bool ((r.marks.length : Int) == 0))) S5 := fun B e => by
        rw [e]
        cases B
        · exact fin0 groS hok (hz.2 e)
        · exact fin1 groS hok rfl rfl (hz.1 e)
      simp -implicitDefEqProofs (maxSteps := 2000000) only [↓ops_nil, ↓ops_none, ↓ops_some, ↓kd_eff, ↓dr_nil, ↓dr_cons, ↓d1_none, ↓d1_some, ↓eff_store, ↓eff_box, ↓eff_alloc, ↓eff_build, ↓eff_buildSlice, ↓eff_call, ↓eff_append, ↓eff_copy, ↓eff_clear, ↓eff_make, ↓reduceIte, ↓c_condI, ↓c_seqH, ↓c_blockH, ↓then_nH, ↓then_rH, ↓then_eH, ↓block_nH, ↓block_rH, ↓block_eH, go_sem, va.1, va.2.1, va.2.2, vf.1, vf.2.1, vf.2.2, vi.1, vi.2.1, vi.2.2, vs.1, vs.2.1, vs.2.2, vt.1, vt.2.1, vt.2.2, List.length_map, o14, Int.reduceBEq]
      exact hc _ rfl
    by_cases o15 : i.op = 15
    · have hz : (((r.marks.length : Int) == 0) = true → R = some (rs.map RS.abs)) ∧ (((r.marks.length : Int) == 0) = false → R = none) := by
        simp only [goF, o15, Int.reduceEq, if_true, if_false, or_true, or_false, true_or, false_or, reduceIte] at hRy
        constructor
        · intro e
          have e : r.marks = [] := by simpa using e
          rw [← hRy, if_pos e]; rfl
        · intro e
          have e : ¬ r.marks = [] := by simpa using e
          rw [← hRy, if_neg e]
      have hc : ∀ B, ((r.marks.length : Int) == 0) = B → FinM st K (.sc (.bool ((r.marks.length : Int) == 0))) S5 := fun B e => by
        rw [e]
        cases B
        · exact fin0 groS hok (hz.2 e)
        · exact fin1 groS hok rfl rfl (hz.1 e)
      simp -implicitDefEqProofs (maxSteps := 2000000) only [↓ops_nil, ↓ops_none, ↓ops_some, ↓kd_eff, ↓dr_nil, ↓dr_cons, ↓d1_none, ↓d1_some, ↓eff_store, ↓eff_box, ↓eff_alloc, ↓eff_build, ↓eff_buildSlice, ↓eff_call, ↓eff_append, ↓eff_copy, ↓eff_clear, ↓eff_make, ↓reduceIte, ↓c_condI, ↓c_seqH, ↓c_blockH, ↓then_nH, ↓then_rH, ↓then_eH, ↓block_nH, ↓block_rH, ↓block_eH, go_sem, va.1, va.2.1, va.2.2, vf.1, vf.2.1, vf.2.2, vi.1, vi.2.1, vi.2.2, vs.1, vs.2.1, vs.2.2, vt.1, vt.2.1, vt.2.2, List.length_map, o15, Int.reduceBEq]
      exact hc _ rfl
    by_cases o23 : i.op = 23
    · 
      simp only [goF, o23, Int.reduceEq, if_true, if_false, or_true, or_false, true_or, false_or, reduceIte] at hRy
      simp -implicitDefEqProofs (maxSteps := 2000000) only [↓ops_nil, ↓ops_none, ↓ops_some, ↓kd_eff, ↓dr_nil, ↓dr_cons, ↓d1_none, ↓d1_some, ↓eff_store, ↓eff_box, ↓eff_alloc, ↓eff_build, ↓eff_buildSlice, ↓eff_call, ↓eff_append, ↓eff_copy, ↓eff_clear, ↓eff_make, ↓reduceIte, ↓c_condI, ↓c_seqH, ↓c_blockH, ↓then_nH, ↓then_rH, ↓then_eH, ↓block_nH, ↓block_rH, ↓block_eH, go_sem, va.1, va.2.1, va.2.2, vf.1, vf.2.1, vf.2.2, vi.1, vi.2.1, vi.2.2, vs.1, vs.2.1, vs.2.2, vt.1, vt.2.1, vt.2.2, List.length_map, o23, Int.reduceBEq]
      exact fin1 groS hok rfl rfl hRy.symm
    by_cases o30 : i.op = 30
    · 
      simp only [goF, o30, Int.reduceEq, if_true, if_false, or_true, or_false, true_or, false_or, reduceIte] at hRy
      simp -implicitDefEqProofs (maxSteps := 2000000) only [↓ops_nil, ↓ops_none, ↓ops_some, ↓kd_eff, ↓dr_nil, ↓dr_cons, ↓d1_none, ↓d1_some, ↓eff_store, ↓eff_box, ↓eff_alloc, ↓eff_build, ↓eff_buildSlice, ↓eff_call, ↓eff_append, ↓eff_copy, ↓eff_clear, ↓eff_make, ↓reduceIte, ↓c_condI, ↓c_seqH, ↓c_blockH, ↓then_nH, ↓then_rH, ↓then_eH, ↓block_nH, ↓block_rH, ↓block_eH, go_sem, va.1, va.2.1, va.2.2, vf.1, vf.2.1, vf.2.2, vi.1, vi.2.1, vi.2.2, vs.1, vs.2.1, vs.2.2, vt.1, vt.2.1, vt.2.2, List.length_map, o30, Int.reduceBEq]
      exact fin1 groS hok rfl rfl hRy.symm
    by_cases o16 : i.op = 16
    · 
      simp only [goF, o16, Int.reduceEq, if_true, if_false, or_true, or_false, true_or, false_or, reduceIte] at hRy
      simp only [List.reverse_cons, List.reverse_nil, List.nil_append, hR1] at hRy
      have hTP : T = 0 ∧ P = 0 := by
        unfold effF at hE
        simp only [o16, Int.reduceEq, if_false, Prod.mk.injEq] at hE
        exact ⟨hE.2.1.symm, hE.2.2.symm⟩
      obtain rfl : r.depth = dT := by rw [← hdT, hTP.1, hTP.2]; omega
      simp -implicitDefEqProofs (maxSteps := 2000000) only [↓ops_nil, ↓ops_none, ↓ops_some, ↓kd_eff, ↓dr_nil, ↓dr_cons, ↓d1_none, ↓d1_some, ↓eff_store, ↓eff_box, ↓eff_alloc, ↓eff_build, ↓eff_buildSlice, ↓eff_call, ↓eff_append, ↓eff_copy, ↓eff_clear, ↓eff_make, ↓reduceIte, ↓c_condI, ↓c_seqH, ↓c_blockH, ↓then_nH, ↓then_rH, ↓then_eH, ↓block_nH, ↓block_rH, ↓block_eH, go_sem, va.1, va.2.1, va.2.2, vf.1, vf.2.1, vf.2.2, vi.1, vi.2.1, vi.2.2, vs.1, vs.2.1, vs.2.2, vt.1, vt.2.1, vt.2.2, List.length_map, o16, Int.reduceBEq, hpw, uTok, iT]
      refine acalls_args (args' := [.slc aid 3 0 rs.length rs.length, i64 (i.a), .agg [.sc (.bool false), i64 r.depth, .slice .imm 2 (r.marks.map mkSV)], i64 f.stack]) (.cons (SVle.refl _) (.cons (SVle.refl _) (.cons (SVle.agg (.cons (SVle.refl _) (.cons (SVle.refl _) (.cons sle_own .nil)))) (.cons (SVle.refl _) .nil)))) ?_
      refine hand_l rfl ua hok (by omega) _ hap ⟨false, r.depth, .imm, 2, r.marks⟩ ⟨fun _ => rfl, .inl rfl⟩ (by first | exact hml | (simp; omega)) _ _ (fun e => ?_) (fun a e hlt' ha => ?_)
      · simp -implicitDefEqProofs (maxSteps := 2000000) only [↓ops_nil, ↓ops_none, ↓ops_some, ↓kd_eff, ↓dr_nil, ↓dr_cons, ↓d1_none, ↓d1_some, ↓eff_store, ↓eff_box, ↓eff_alloc, ↓eff_build, ↓eff_buildSlice, ↓eff_call, ↓eff_append, ↓eff_copy, ↓eff_clear, ↓eff_make, ↓reduceIte, ↓c_condI, ↓c_seqH, ↓c_blockH, ↓then_nH, ↓then_rH, ↓then_eH, ↓block_nH, ↓block_rH, ↓block_eH, go_sem]
        exact fin0 (groS) hok (hRy.symm.trans e)
      · simp -implicitDefEqProofs (maxSteps := 2000000) only [↓ops_nil, ↓ops_none, ↓ops_some, ↓kd_eff, ↓dr_nil, ↓dr_cons, ↓d1_none, ↓d1_some, ↓eff_store, ↓eff_box, ↓eff_alloc, ↓eff_build, ↓eff_buildSlice, ↓eff_call, ↓eff_append, ↓eff_copy, ↓eff_clear, ↓eff_make, ↓reduceIte, ↓c_condI, ↓c_seqH, ↓c_blockH, ↓then_nH, ↓then_rH, ↓then_eH, ↓block_nH, ↓block_rH, ↓block_eH, go_sem]
        exact fin1 (groS.hand hlt _) (hok.set ⟨⟨fun _ => rfl, .inl rfl⟩, hml⟩) (by simp) ha (hRy.symm.trans e)
    by_cases o17 : i.op = 17
    · 
      simp only [goF, o17, Int.reduceEq, if_true, if_false, or_true, or_false, true_or, false_or, reduceIte] at hRy
      simp only [List.reverse_cons, List.reverse_nil, List.nil_append, List.cons_append, hR2] at hRy
      have hge : (0 : Int) ≤ i.a := hap
      simp -implicitDefEqProofs (maxSteps := 2000000) only [↓ops_nil, ↓ops_none, ↓ops_some, ↓kd_eff, ↓dr_nil, ↓dr_cons, ↓d1_none, ↓d1_some, ↓eff_store, ↓eff_box, ↓eff_alloc, ↓eff_build, ↓eff_buildSlice, ↓eff_call, ↓eff_append, ↓eff_copy, ↓eff_clear, ↓eff_make, ↓reduceIte, ↓c_condI, ↓c_seqH, ↓c_blockH, ↓then_nH, ↓then_rH, ↓then_eH, ↓block_nH, ↓block_rH, ↓block_eH, go_sem, va.1, va.2.1, va.2.2, vf.1, vf.2.1, vf.2.2, vi.1, vi.2.1, vi.2.2, vs.1, vs.2.1, vs.2.2, vt.1, vt.2.1, vt.2.2, List.length_map, o17, Int.reduceBEq, hpw, hge, uTok, iT]
      refine acalls_args (args' := [.slc aid 3 0 rs.length rs.length, i64 (i.a), .agg [.sc (.bool false), i64 dT, .slice .imm 2 (r.marks.map mkSV)], i64 f.stack]) (.cons (SVle.refl _) (.cons (SVle.refl _) (.cons (SVle.agg (.cons (SVle.refl _) (.cons (SVle.refl _) (.cons sle_own .nil)))) (.cons (SVle.refl _) .nil)))) ?_
      refine hand_l rfl ua hok (by omega) _ hap ⟨false, dT, .imm, 2, r.marks⟩ ⟨fun _ => rfl, .inl rfl⟩ (by first | exact hml | (simp; omega)) _ _ (fun e => ?_) (fun a e hlt' ha => ?_)
      · rw [e] at hRy
        simp -implicitDefEqProofs (maxSteps := 2000000) only [↓ops_nil, ↓ops_none, ↓ops_some, ↓kd_eff, ↓dr_nil, ↓dr_cons, ↓d1_none, ↓d1_some, ↓eff_store, ↓eff_box, ↓eff_alloc, ↓eff_build, ↓eff_buildSlice, ↓eff_call, ↓eff_append, ↓eff_copy, ↓eff_clear, ↓eff_make, ↓reduceIte, ↓c_condI, ↓c_seqH, ↓c_blockH, ↓then_nH, ↓then_rH, ↓then_eH, ↓block_nH, ↓block_rH, ↓block_eH, go_sem]
        exact fin0 groS hok hRy.symm
      · obtain ⟨S6, hS6⟩ : ∃ S6, S5.set aid (.cells (rsL (rs.set i.a.toNat ⟨true, dT, .imm, 2, r.marks⟩))) = S6 := ⟨_, rfl⟩
        have xa : S6[aid]? = some (.cells (rsL (rs.set i.a.toNat ⟨true, dT, .imm, 2, r.marks⟩))) := by rw [← hS6, set_get (lt_of_get ua)]
        have yf := cells_facts ((show S6[st.length]? = S5[st.length]? by rw [← hS6, set_get_ne (by omega)]).trans uf)
        have yt := cells_facts ((show S6[st.length + 4]? = S5[st.length + 4]? by rw [← hS6, set_get_ne (by omega)]).trans ut)
        have gro6 : Gro st aid (rs.set i.a.toNat ⟨true, dT, .imm, 2, r.marks⟩) S6 := by rw [← hS6]; exact groS.hand hlt _
        have hf6 : FineL (rs.set i.a.toNat ⟨true, dT, .imm, 2, r.marks⟩) := hok.set ⟨⟨fun _ => rfl, .inl rfl⟩, hml⟩
        rw [e, ha] at hRy
        simp only at hRy
        rw [hS6]
        simp -implicitDefEqProofs (maxSteps := 2000000) only [↓ops_nil, ↓ops_none, ↓ops_some, ↓kd_eff, ↓dr_nil, ↓dr_cons, ↓d1_none, ↓d1_some, ↓eff_store, ↓eff_box, ↓eff_alloc, ↓eff_build, ↓eff_buildSlice, ↓eff_call, ↓eff_append, ↓eff_copy, ↓eff_clear, ↓eff_make, ↓reduceIte, ↓c_condI, ↓c_seqH, ↓c_blockH, ↓then_nH, ↓then_rH, ↓then_eH, ↓block_nH, ↓block_rH, ↓block_eH, go_sem, yf.1, yf.2.1, yf.2.2, yt.1, yt.2.1, yt.2.2]
        refine acalls_args (args' := [.slc aid 3 0 rs.length rs.length, i64 ((p : Int) + 1), .agg [.sc (.bool false), i64 dT, .slice .imm 2 (r.marks.map mkSV)], i64 f.stack]) (.cons (SVle.refl _) (.cons (SVle.refl _) (.cons (SVle.agg (.cons (SVle.refl _) (.cons (SVle.refl _) (.cons sle_own .nil)))) (.cons (SVle.refl _) .nil)))) ?_
        refine hand_l (by simp) xa hf6 (by omega) _ (by omega) ⟨false, dT, .imm, 2, r.marks⟩ ⟨fun _ => rfl, .inl rfl⟩ (by first | exact hml | (simp; omega)) _ _ (fun e2 => ?_) (fun a2 e2 hlt' ha2 => ?_)
        · simp -implicitDefEqProofs (maxSteps := 2000000) only [↓ops_nil, ↓ops_none, ↓ops_some, ↓kd_eff, ↓dr_nil, ↓dr_cons, ↓d1_none, ↓d1_some, ↓eff_store, ↓eff_box, ↓eff_alloc, ↓eff_build, ↓eff_buildSlice, ↓eff_call, ↓eff_append, ↓eff_copy, ↓eff_clear, ↓eff_make, ↓reduceIte, ↓c_condI, ↓c_seqH, ↓c_blockH, ↓then_nH, ↓then_rH, ↓then_eH, ↓block_nH, ↓block_rH, ↓block_eH, go_sem]
          exact fin0 gro6 hf6 (hRy.symm.trans e2)
        · simp -implicitDefEqProofs (maxSteps := 2000000) only [↓ops_nil, ↓ops_none, ↓ops_some, ↓kd_eff, ↓dr_nil, ↓dr_cons, ↓d1_none, ↓d1_some, ↓eff_store, ↓eff_box, ↓eff_alloc, ↓eff_build, ↓eff_buildSlice, ↓eff_call, ↓eff_append, ↓eff_copy, ↓eff_clear, ↓eff_make, ↓reduceIte, ↓c_condI, ↓c_seqH, ↓c_blockH, ↓then_nH, ↓then_rH, ↓then_eH, ↓block_nH, ↓block_rH, ↓block_eH, go_sem]
          exact fin1 (gro6.hand hlt _) (hf6.set ⟨⟨fun _ => rfl, .inl rfl⟩, hml⟩) (by simp) ha2 (hRy.symm.trans e2)
    by_cases o18 : i.op = 18
    · 
      simp only [goF, o18, Int.reduceEq, if_true, if_false, or_true, or_false, true_or, false_or, reduceIte] at hRy
      simp only [List.reverse_cons, List.reverse_nil, List.nil_append, List.cons_append, hR2] at hRy
      have hge : (0 : Int) ≤ i.b := hbb.1
      simp -implicitDefEqProofs (maxSteps := 2000000) only [↓ops_nil, ↓ops_none, ↓ops_some, ↓kd_eff, ↓dr_nil, ↓dr_cons, ↓d1_none, ↓d1_some, ↓eff_store, ↓eff_box, ↓eff_alloc, ↓eff_build, ↓eff_buildSlice, ↓eff_call, ↓eff_append, ↓eff_copy, ↓eff_clear, ↓eff_make, ↓reduceIte, ↓c_condI, ↓c_seqH, ↓c_blockH, ↓then_nH, ↓then_rH, ↓then_eH, ↓block_nH, ↓block_rH, ↓block_eH, go_sem, va.1, va.2.1, va.2.2, vf.1, vf.2.1, vf.2.2, vi.1, vi.2.1, vi.2.2, vs.1, vs.2.1, vs.2.2, vt.1, vt.2.1, vt.2.2, List.length_map, o18, Int.reduceBEq, hpw, hge, uTok, iT]
      refine acalls_args (args' := [.slc aid 3 0 rs.length rs.length, i64 (i.b), .agg [.sc (.bool false), i64 dT, .slice .imm 2 (r.marks.map mkSV)], i64 f.stack]) (.cons (SVle.refl _) (.cons (SVle.refl _) (.cons (SVle.agg (.cons (SVle.refl _) (.cons (SVle.refl _) (.cons sle_own .nil)))) (.cons (SVle.refl _) .nil)))) ?_
      refine hand_l rfl ua hok (by omega) _ hbb.1 ⟨false, dT, .imm, 2, r.marks⟩ ⟨fun _ => rfl, .inl rfl⟩ (by first | exact hml | (simp; omega)) _ _ (fun e => ?_) (fun a e hlt' ha => ?_)
      · rw [e] at hRy
        simp -implicitDefEqProofs (maxSteps := 2000000) only [↓ops_nil, ↓ops_none, ↓ops_some, ↓kd_eff, ↓dr_nil, ↓dr_cons, ↓d1_none, ↓d1_some, ↓eff_store, ↓eff_box, ↓eff_alloc, ↓eff_build, ↓eff_buildSlice, ↓eff_call, ↓eff_append, ↓eff_copy, ↓eff_clear, ↓eff_make, ↓reduceIte, ↓c_condI, ↓c_seqH, ↓c_blockH, ↓then_nH, ↓then_rH, ↓then_eH, ↓block_nH, ↓block_rH, ↓block_eH, go_sem]
        exact fin0 groS hok hRy.symm
      · obtain ⟨S6, hS6⟩ : ∃ S6, S5.set aid (.cells (rsL (rs.set i.b.toNat ⟨true, dT, .imm, 2, r.marks⟩))) = S6 := ⟨_, rfl⟩
        have xa : S6[aid]? = some (.cells (rsL (rs.set i.b.toNat ⟨true, dT, .imm, 2, r.marks⟩))) := by rw [← hS6, set_get (lt_of_get ua)]
        have yf := cells_facts ((show S6[st.length]? = S5[st.length]? by rw [← hS6, set_get_ne (by omega)]).trans uf)
        have yt := cells_facts ((show S6[st.length + 4]? = S5[st.length + 4]? by rw [← hS6, set_get_ne (by omega)]).trans ut)
        have gro6 : Gro st aid (rs.set i.b.toNat ⟨true, dT, .imm, 2, r.marks⟩) S6 := by rw [← hS6]; exact groS.hand hlt _
        have hf6 : FineL (rs.set i.b.toNat ⟨true, dT, .imm, 2, r.marks⟩) := hok.set ⟨⟨fun _ => rfl, .inl rfl⟩, hml⟩
        rw [e, ha] at hRy
        simp only at hRy
        rw [hS6]
        simp -implicitDefEqProofs (maxSteps := 2000000) only [↓ops_nil, ↓ops_none, ↓ops_some, ↓kd_eff, ↓dr_nil, ↓dr_cons, ↓d1_none, ↓d1_some, ↓eff_store, ↓eff_box, ↓eff_alloc, ↓eff_build, ↓eff_buildSlice, ↓eff_call, ↓eff_append, ↓eff_copy, ↓eff_clear, ↓eff_make, ↓reduceIte, ↓c_condI, ↓c_seqH, ↓c_blockH, ↓then_nH, ↓then_rH, ↓then_eH, ↓block_nH, ↓block_rH, ↓block_eH, go_sem, yf.1, yf.2.1, yf.2.2, yt.1, yt.2.1, yt.2.2]
        refine acalls_args (args' := [.slc aid 3 0 rs.length rs.length, i64 ((p : Int) + 1), .agg [.sc (.bool false), i64 dT, .slice .imm 2 (r.marks.map mkSV)], i64 f.stack]) (.cons (SVle.refl _) (.cons (SVle.refl _) (.cons (SVle.agg (.cons (SVle.refl _) (.cons (SVle.refl _) (.cons sle_own .nil)))) (.cons (SVle.refl _) .nil)))) ?_
        refine hand_l (by simp) xa hf6 (by omega) _ (by omega) ⟨false, dT, .imm, 2, r.marks⟩ ⟨fun _ => rfl, .inl rfl⟩ (by first | exact hml | (simp; omega)) _ _ (fun e2 => ?_) (fun a2 e2 hlt' ha2 => ?_)
        · simp -implicitDefEqProofs (maxSteps := 2000000) only [↓ops_nil, ↓ops_none, ↓ops_some, ↓kd_eff, ↓dr_nil, ↓dr_cons, ↓d1_none, ↓d1_some, ↓eff_store, ↓eff_box, ↓eff_alloc, ↓eff_build, ↓eff_buildSlice, ↓eff_call, ↓eff_append, ↓eff_copy, ↓eff_clear, ↓eff_make, ↓reduceIte, ↓c_condI, ↓c_seqH, ↓c_blockH, ↓then_nH, ↓then_rH, ↓then_eH, ↓block_nH, ↓block_rH, ↓block_eH, go_sem]
          exact fin0 gro6 hf6 (hRy.symm.trans e2)
        · simp -implicitDefEqProofs (maxSteps := 2000000) only [↓ops_nil, ↓ops_none, ↓ops_some, ↓kd_eff, ↓dr_nil, ↓dr_cons, ↓d1_none, ↓d1_some, ↓eff_store, ↓eff_box, ↓eff_alloc, ↓eff_build, ↓eff_buildSlice, ↓eff_call, ↓eff_append, ↓eff_copy, ↓eff_clear, ↓eff_make, ↓reduceIte, ↓c_condI, ↓c_seqH, ↓c_blockH, ↓then_nH, ↓then_rH, ↓then_eH, ↓block_nH, ↓block_rH, ↓block_eH, go_sem]
          exact fin1 (gro6.hand hlt _) (hf6.set ⟨⟨fun _ => rfl, .inl rfl⟩, hml⟩) (by simp) ha2 (hRy.symm.trans e2)
    by_cases o21 : i.op = 21
    · 
      simp only [goF, o21, Int.reduceEq, if_true, if_false, or_true, or_false, true_or, false_or, reduceIte] at hRy
      simp only [List.reverse_cons, List.reverse_nil, List.nil_append, List.cons_append, hR2] at hRy
      have hTP : T = 0 ∧ P = 0 := by
        unfold effF at hE
        simp only [o21, Int.reduceEq, if_false, Prod.mk.injEq] at hE
        exact ⟨hE.2.1.symm, hE.2.2.symm⟩
      obtain rfl : r.depth = dT := by rw [← hdT, hTP.1, hTP.2]; omega
      have hw1 : IntKind.i64.wrap (r.depth + 1) = r.depth + 1 := IntWalk.i64_in _ (by omega)
      simp -implicitDefEqProofs (maxSteps := 2000000) only [↓ops_nil, ↓ops_none, ↓ops_some, ↓kd_eff, ↓dr_nil, ↓dr_cons, ↓d1_none, ↓d1_some, ↓eff_store, ↓eff_box, ↓eff_alloc, ↓eff_build, ↓eff_buildSlice, ↓eff_call, ↓eff_append, ↓eff_copy, ↓eff_clear, ↓eff_make, ↓reduceIte, ↓c_condI, ↓c_seqH, ↓c_blockH, ↓then_nH, ↓then_rH, ↓then_eH, ↓block_nH, ↓block_rH, ↓block_eH, go_sem, va.1, va.2.1, va.2.2, vf.1, vf.2.1, vf.2.2, vi.1, vi.2.1, vi.2.2, vs.1, vs.2.1, vs.2.2, vt.1, vt.2.1, vt.2.2, List.length_map, o21, Int.reduceBEq, hpw, hw1, uTok, iT]
      refine acalls_args (args' := [.slc aid 3 0 rs.length rs.length, i64 (i.a), .agg [.sc (.bool false), i64 (r.depth + 1), .slice .imm 2 (r.marks.map mkSV)], i64 f.stack]) (.cons (SVle.refl _) (.cons (SVle.refl _) (.cons (SVle.agg (.cons (SVle.refl _) (.cons (SVle.refl _) (.cons (sle_slice (fun hn => hro.1 (fun e => hn (by rw [e]; rfl))) hro.2) .nil)))) (.cons (SVle.refl _) .nil)))) ?_
      refine hand_l rfl ua hok (by omega) _ hap ⟨false, (r.depth + 1), .imm, 2, r.marks⟩ ⟨fun _ => rfl, .inl rfl⟩ (by first | exact hml | (simp; omega)) _ _ (fun e => ?_) (fun a e hlt' ha => ?_)
      · rw [e] at hRy
        simp -implicitDefEqProofs (maxSteps := 2000000) only [↓ops_nil, ↓ops_none, ↓ops_some, ↓kd_eff, ↓dr_nil, ↓dr_cons, ↓d1_none, ↓d1_some, ↓eff_store, ↓eff_box, ↓eff_alloc, ↓eff_build, ↓eff_buildSlice, ↓eff_call, ↓eff_append, ↓eff_copy, ↓eff_clear, ↓eff_make, ↓reduceIte, ↓c_condI, ↓c_seqH, ↓c_blockH, ↓then_nH, ↓then_rH, ↓then_eH, ↓block_nH, ↓block_rH, ↓block_eH, go_sem]
        exact fin0 groS hok hRy.symm
      · obtain ⟨S6, hS6⟩ : ∃ S6, S5.set aid (.cells (rsL (rs.set i.a.toNat ⟨true, (r.depth + 1), .imm, 2, r.marks⟩))) = S6 := ⟨_, rfl⟩
        have xa : S6[aid]? = some (.cells (rsL (rs.set i.a.toNat ⟨true, (r.depth + 1), .imm, 2, r.marks⟩))) := by rw [← hS6, set_get (lt_of_get ua)]
        have xf := (show S6[st.length]? = S5[st.length]? by rw [← hS6, set_get_ne (by omega)]).trans uf
        have xi := (show S6[st.length + 1]? = S5[st.length + 1]? by rw [← hS6, set_get_ne (by omega)]).trans ui
        have xs := (show S6[st.length + 2]? = S5[st.length + 2]? by rw [← hS6, set_get_ne (by omega)]).trans us
        have xT : S6[st.length + 3]? = some (.tok 1) := by rw [← hS6, set_get_ne (by omega)]; exact uT
        have xt := (show S6[st.length + 4]? = S5[st.length + 4]? by rw [← hS6, set_get_ne (by omega)]).trans ut
        have gro6 : Gro st aid (rs.set i.a.toNat ⟨true, (r.depth + 1), .imm, 2, r.marks⟩) S6 := by rw [← hS6]; exact groS.hand hlt _
        have hf6 : FineL (rs.set i.a.toNat ⟨true, (r.depth + 1), .imm, 2, r.marks⟩) := hok.set ⟨⟨fun _ => rfl, .inl rfl⟩, hml⟩
        rw [e, ha] at hRy
        simp only [withF] at hRy
        rw [hS6]
        obtain ⟨S7, hS7⟩ : ∃ S7, (S6.set (st.length + 3) (.tok 2)).set (st.length + 4) (.cells [.sc (.bool false), i64 r.depth, .slice (.own (st.length + 3) 2) 2 ((r.marks ++ [((21 : Int), r.depth)]).map mkSV)]) = S7 := ⟨_, rfl⟩
        have hl6 : S6.length = S5.length := by rw [← hS6]; simp
        have hl5 := lt_of_get ut
        have za : S7[aid]? = some (.cells (rsL (rs.set i.a.toNat ⟨true, (r.depth + 1), .imm, 2, r.marks⟩))) := by rw [← hS7, set_get_ne (by omega), set_get_ne (by omega)]; exact xa
        have yf := cells_facts xf
        have yi := cells_facts xi
        have ys := cells_facts xs
        have yt := cells_facts xt
        have yT := tokAt_eq (v' := 1) xT
        have iT6 := inS_of xT
        have zf := cells_facts ((show S7[st.length]? = S6[st.length]? by rw [← hS7, set_get_ne (by omega), set_get_ne (by omega)]).trans xf)
        have zt := cells_facts (show S7[st.length + 4]? = some (.cells [.sc (.bool false), i64 r.depth, .slice (.own (st.length + 3) 2) 2 ((r.marks ++ [((21 : Int), r.depth)]).map mkSV)]) by rw [← hS7, set_get (by simp; omega)])
        have gro7 : Gro st aid (rs.set i.a.toNat ⟨true, (r.depth + 1), .imm, 2, r.marks⟩) S7 := by rw [← hS7]; exact (gro6.set (by omega) _).set (by omega) _
        have hne : ¬ (st.length + 4 = st.length + 3) := by omega
        have hne' : ¬ (st.length + 3 = st.length + 4) := by omega
        have hma : r.marks.map mkSV ++ [SV.agg [i64 21, i64 r.depth]] = (r.marks ++ [((21 : Int), r.depth)]).map mkSV := by simp [mkSV]
        simp -implicitDefEqProofs (maxSteps := 2000000) only [↓ops_nil, ↓ops_none, ↓ops_some, ↓kd_eff, ↓dr_nil, ↓dr_cons, ↓d1_none, ↓d1_some, ↓eff_store, ↓eff_box, ↓eff_alloc, ↓eff_build, ↓eff_buildSlice, ↓eff_call, ↓eff_append, ↓eff_copy, ↓eff_clear, ↓eff_make, ↓reduceIte, ↓c_condI, ↓c_seqH, ↓c_blockH, ↓then_nH, ↓then_rH, ↓then_eH, ↓block_nH, ↓block_rH, ↓block_eH, go_sem, yf.1, yf.2.1, yf.2.2, yi.1, yi.2.1, yi.2.2, ys.1, ys.2.1, ys.2.2, yt.1, yt.2.1, yt.2.2, yT, iT6, o21, List.length_map, hne, hne', hma, hS7, zf.1, zf.2.1, zf.2.2, zt.1, zt.2.1, zt.2.2]
        refine ⟨happ, ?_⟩
        refine acalls_args (args' := [.slc aid 3 0 rs.length rs.length, i64 ((p : Int) + 1), .agg [.sc (.bool false), i64 r.depth, .slice .imm 2 ((r.marks ++ [((21 : Int), r.depth)]).map mkSV)], i64 f.stack]) (.cons (SVle.refl _) (.cons (SVle.refl _) (.cons (SVle.agg (.cons (SVle.refl _) (.cons (SVle.refl _) (.cons sle_own .nil)))) (.cons (SVle.refl _) .nil)))) ?_
        refine hand_l (by simp) za hf6 (by omega) _ (by omega) ⟨false, r.depth, .imm, 2, (r.marks ++ [((21 : Int), r.depth)])⟩ ⟨fun _ => rfl, .inl rfl⟩ (by first | exact hml | (simp; omega)) _ _ (fun e2 => ?_) (fun a2 e2 hlt' ha2 => ?_)
        · simp -implicitDefEqProofs (maxSteps := 2000000) only [↓ops_nil, ↓ops_none, ↓ops_some, ↓kd_eff, ↓dr_nil, ↓dr_cons, ↓d1_none, ↓d1_some, ↓eff_store, ↓eff_box, ↓eff_alloc, ↓eff_build, ↓eff_buildSlice, ↓eff_call, ↓eff_append, ↓eff_copy, ↓eff_clear, ↓eff_make, ↓reduceIte, ↓c_condI, ↓c_seqH, ↓c_blockH, ↓then_nH, ↓then_rH, ↓then_eH, ↓block_nH, ↓block_rH, ↓block_eH, go_sem]
          exact fin0 gro7 hf6 (hRy.symm.trans e2)
        · simp -implicitDefEqProofs (maxSteps := 2000000) only [↓ops_nil, ↓ops_none, ↓ops_some, ↓kd_eff, ↓dr_nil, ↓dr_cons, ↓d1_none, ↓d1_some, ↓eff_store, ↓eff_box, ↓eff_alloc, ↓eff_build, ↓eff_buildSlice, ↓eff_call, ↓eff_append, ↓eff_copy, ↓eff_clear, ↓eff_make, ↓reduceIte, ↓c_condI, ↓c_seqH, ↓c_blockH, ↓then_nH, ↓then_rH, ↓then_eH, ↓block_nH, ↓block_rH, ↓block_eH, go_sem]
          exact fin1 (gro7.hand hlt _) (hf6.set ⟨⟨fun _ => rfl, .inl rfl⟩, by simp; omega⟩) (by simp) ha2 (hRy.symm.trans e2)
    by_cases o28 : i.op = 28
    · 
      simp only [goF, o28, Int.reduceEq, if_true, if_false, or_true, or_false, true_or, false_or, reduceIte] at hRy
      simp only [List.reverse_cons, List.reverse_nil, List.nil_append, List.cons_append, hR2] at hRy
      have hTP : T = 0 ∧ P = 0 := by
        unfold effF at hE
        simp only [o28, Int.reduceEq, if_false, Prod.mk.injEq] at hE
        exact ⟨hE.2.1.symm, hE.2.2.symm⟩
      obtain rfl : r.depth = dT := by rw [← hdT, hTP.1, hTP.2]; omega
      have hw1 : IntKind.i64.wrap (r.depth + 1) = r.depth + 1 := IntWalk.i64_in _ (by omega)
      simp -implicitDefEqProofs (maxSteps := 2000000) only [↓ops_nil, ↓ops_none, ↓ops_some, ↓kd_eff, ↓dr_nil, ↓dr_cons, ↓d1_none, ↓d1_some, ↓eff_store, ↓eff_box, ↓eff_alloc, ↓eff_build, ↓eff_buildSlice, ↓eff_call, ↓eff_append, ↓eff_copy, ↓eff_clear, ↓eff_make, ↓reduceIte, ↓c_condI, ↓c_seqH, ↓c_blockH, ↓then_nH, ↓then_rH, ↓then_eH, ↓block_nH, ↓block_rH, ↓block_eH, go_sem, va.1, va.2.1, va.2.2, vf.1, vf.2.1, vf.2.2, vi.1, vi.2.1, vi.2.2, vs.1, vs.2.1, vs.2.2, vt.1, vt.2.1, vt.2.2, List.length_map, o28, Int.reduceBEq, hpw, hw1, uTok, iT]
      refine acalls_args (args' := [.slc aid 3 0 rs.length rs.length, i64 (i.a), .agg [.sc (.bool r.is), i64 r.depth, .slice .imm 2 (r.marks.map mkSV)], i64 f.stack]) (.cons (SVle.refl _) (.cons (SVle.refl _) (.cons (SVle.agg (.cons (SVle.refl _) (.cons (SVle.refl _) (.cons (sle_slice (fun hn => hro.1 (fun e => hn (by rw [e]; rfl))) hro.2) .nil)))) (.cons (SVle.refl _) .nil)))) ?_
      refine hand_l rfl ua hok (by omega) _ hap ⟨r.is, r.depth, .imm, 2, r.marks⟩ ⟨fun _ => rfl, .inl rfl⟩ (by first | exact hml | (simp; omega)) _ _ (fun e => ?_) (fun a e hlt' ha => ?_)
      · rw [e] at hRy
        simp -implicitDefEqProofs (maxSteps := 2000000) only [↓ops_nil, ↓ops_none, ↓ops_some, ↓kd_eff, ↓dr_nil, ↓dr_cons, ↓d1_none, ↓d1_some, ↓eff_store, ↓eff_box, ↓eff_alloc, ↓eff_build, ↓eff_buildSlice, ↓eff_call, ↓eff_append, ↓eff_copy, ↓eff_clear, ↓eff_make, ↓reduceIte, ↓c_condI, ↓c_seqH, ↓c_blockH, ↓then_nH, ↓then_rH, ↓then_eH, ↓block_nH, ↓block_rH, ↓block_eH, go_sem]
        exact fin0 groS hok hRy.symm
      · obtain ⟨S6, hS6⟩ : ∃ S6, S5.set aid (.cells (rsL (rs.set i.a.toNat ⟨true, r.depth, .imm, 2, r.marks⟩))) = S6 := ⟨_, rfl⟩
        have xa : S6[aid]? = some (.cells (rsL (rs.set i.a.toNat ⟨true, r.depth, .imm, 2, r.marks⟩))) := by rw [← hS6, set_get (lt_of_get ua)]
        have xf := (show S6[st.length]? = S5[st.length]? by rw [← hS6, set_get_ne (by omega)]).trans uf
        have xi := (show S6[st.length + 1]? = S5[st.length + 1]? by rw [← hS6, set_get_ne (by omega)]).trans ui
        have xs := (show S6[st.length + 2]? = S5[st.length + 2]? by rw [← hS6, set_get_ne (by omega)]).trans us
        have xT : S6[st.length + 3]? = some (.tok 1) := by rw [← hS6, set_get_ne (by omega)]; exact uT
        have xt := (show S6[st.length + 4]? = S5[st.length + 4]? by rw [← hS6, set_get_ne (by omega)]).trans ut
        have gro6 : Gro st aid (rs.set i.a.toNat ⟨true, r.depth, .imm, 2, r.marks⟩) S6 := by rw [← hS6]; exact groS.hand hlt _
        have hf6 : FineL (rs.set i.a.toNat ⟨true, r.depth, .imm, 2, r.marks⟩) := hok.set ⟨⟨fun _ => rfl, .inl rfl⟩, hml⟩
        rw [e, ha] at hRy
        simp only [withF] at hRy
        rw [hS6]
        obtain ⟨S7, hS7⟩ : ∃ S7, (S6.set (st.length + 3) (.tok 2)).set (st.length + 4) (.cells [.sc (.bool false), i64 r.depth, .slice (.own (st.length + 3) 2) 2 ((r.marks ++ [((28 : Int), r.depth)]).map mkSV)]) = S7 := ⟨_, rfl⟩
        have hl6 : S6.length = S5.length := by rw [← hS6]; simp
        have hl5 := lt_of_get ut
        have za : S7[aid]? = some (.cells (rsL (rs.set i.a.toNat ⟨true, r.depth, .imm, 2, r.marks⟩))) := by rw [← hS7, set_get_ne (by omega), set_get_ne (by omega)]; exact xa
        have yf := cells_facts xf
        have yi := cells_facts xi
        have ys := cells_facts xs
        have yt := cells_facts xt
        have yT := tokAt_eq (v' := 1) xT
        have iT6 := inS_of xT
        have zf := cells_facts ((show S7[st.length]? = S6[st.length]? by rw [← hS7, set_get_ne (by omega), set_get_ne (by omega)]).trans xf)
        have zt := cells_facts (show S7[st.length + 4]? = some (.cells [.sc (.bool false), i64 r.depth, .slice (.own (st.length + 3) 2) 2 ((r.marks ++ [((28 : Int), r.depth)]).map mkSV)]) by rw [← hS7, set_get (by simp; omega)])
        have gro7 : Gro st aid (rs.set i.a.toNat ⟨true, r.depth, .imm, 2, r.marks⟩) S7 := by rw [← hS7]; exact (gro6.set (by omega) _).set (by omega) _
        have hne : ¬ (st.length + 4 = st.length + 3) := by omega
        have hne' : ¬ (st.length + 3 = st.length + 4) := by omega
        have hma : r.marks.map mkSV ++ [SV.agg [i64 28, i64 r.depth]] = (r.marks ++ [((28 : Int), r.depth)]).map mkSV := by simp [mkSV]
        simp -implicitDefEqProofs (maxSteps := 2000000) only [↓ops_nil, ↓ops_none, ↓ops_some, ↓kd_eff, ↓dr_nil, ↓dr_cons, ↓d1_none, ↓d1_some, ↓eff_store, ↓eff_box, ↓eff_alloc, ↓eff_build, ↓eff_buildSlice, ↓eff_call, ↓eff_append, ↓eff_copy, ↓eff_clear, ↓eff_make, ↓reduceIte, ↓c_condI, ↓c_seqH, ↓c_blockH, ↓then_nH, ↓then_rH, ↓then_eH, ↓block_nH, ↓block_rH, ↓block_eH, go_sem, yf.1, yf.2.1, yf.2.2, yi.1, yi.2.1, yi.2.2, ys.1, ys.2.1, ys.2.2, yt.1, yt.2.1, yt.2.2, yT, iT6, o28, List.length_map, hne, hne', hma, hS7, zf.1, zf.2.1, zf.2.2, zt.1, zt.2.1, zt.2.2]
        refine ⟨happ, ?_⟩
        refine acalls_args (args' := [.slc aid 3 0 rs.length rs.length, i64 ((p : Int) + 1), .agg [.sc (.bool false), i64 r.depth, .slice .imm 2 ((r.marks ++ [((28 : Int), r.depth)]).map mkSV)], i64 f.stack]) (.cons (SVle.refl _) (.cons (SVle.refl _) (.cons (SVle.agg (.cons (SVle.refl _) (.cons (SVle.refl _) (.cons sle_own .nil)))) (.cons (SVle.refl _) .nil)))) ?_
        refine hand_l (by simp) za hf6 (by omega) _ (by omega) ⟨false, r.depth, .imm, 2, (r.marks ++ [((28 : Int), r.depth)])⟩ ⟨fun _ => rfl, .inl rfl⟩ (by first | exact hml | (simp; omega)) _ _ (fun e2 => ?_) (fun a2 e2 hlt' ha2 => ?_)
        · simp -implicitDefEqProofs (maxSteps := 2000000) only [↓ops_nil, ↓ops_none, ↓ops_some, ↓kd_eff, ↓dr_nil, ↓dr_cons, ↓d1_none, ↓d1_some, ↓eff_store, ↓eff_box, ↓eff_alloc, ↓eff_build, ↓eff_buildSlice, ↓eff_call, ↓eff_append, ↓eff_copy, ↓eff_clear, ↓eff_make, ↓reduceIte, ↓c_condI, ↓c_seqH, ↓c_blockH, ↓then_nH, ↓then_rH, ↓then_eH, ↓block_nH, ↓block_rH, ↓block_eH, go_sem]
          exact fin0 gro7 hf6 (hRy.symm.trans e2)
        · simp -implicitDefEqProofs (maxSteps := 2000000) only [↓ops_nil, ↓ops_none, ↓ops_some, ↓kd_eff, ↓dr_nil, ↓dr_cons, ↓d1_none, ↓d1_some, ↓eff_store, ↓eff_box, ↓eff_alloc, ↓eff_build, ↓eff_buildSlice, ↓eff_call, ↓eff_append, ↓eff_copy, ↓eff_clear, ↓eff_make, ↓reduceIte, ↓c_condI, ↓c_seqH, ↓c_blockH, ↓then_nH, ↓then_rH, ↓then_eH, ↓block_nH, ↓block_rH, ↓block_eH, go_sem]
          exact fin1 (gro7.hand hlt _) (hf6.set ⟨⟨fun _ => rfl, .inl rfl⟩, by simp; omega⟩) (by simp) ha2 (hRy.symm.trans e2)
    by_cases o22 : i.op = 22
    · 
      simp only [goF, o22, Int.reduceEq, if_true, if_false, or_true, or_false, true_or, false_or, reduceIte, wants] at hRy
      have hTP : T = 0 ∧ P = 0 := by
        unfold effF at hE
        simp only [o22, Int.reduceEq, if_false, Prod.mk.injEq] at hE
        exact ⟨hE.2.1.symm, hE.2.2.symm⟩
      obtain rfl : r.depth = dT := by rw [← hdT, hTP.1, hTP.2]; omega
      by_cases hm0 : r.marks = []
      · have b0 : ((r.marks.length : Int) == 0) = true := by rw [hm0]; rfl
        rw [hm0] at hRy
        simp -implicitDefEqProofs (maxSteps := 2000000) only [↓ops_nil, ↓ops_none, ↓ops_some, ↓kd_eff, ↓dr_nil, ↓dr_cons, ↓d1_none, ↓d1_some, ↓eff_store, ↓eff_box, ↓eff_alloc, ↓eff_build, ↓eff_buildSlice, ↓eff_call, ↓eff_append, ↓eff_copy, ↓eff_clear, ↓eff_make, ↓reduceIte, ↓c_condI, ↓c_seqH, ↓c_blockH, ↓then_nH, ↓then_rH, ↓then_eH, ↓block_nH, ↓block_rH, ↓block_eH, go_sem, va.1, va.2.1, va.2.2, vf.1, vf.2.1, vf.2.2, vi.1, vi.2.1, vi.2.2, vs.1, vs.2.1, vs.2.2, vt.1, vt.2.1, vt.2.2, List.length_map, o22, Int.reduceBEq, hpw, uTok, iT, b0]
        exact fin0 groS hok hRy.symm
      have hpos := List.length_pos_iff.2 hm0
      have b0 : ((r.marks.length : Int) == 0) = false := by simp; omega
      obtain ⟨m, hmm⟩ : ∃ m, r.marks[r.marks.length - 1] = m := ⟨_, rfl⟩
      have hgl : (r.marks.map mkSV).getD (r.marks.length - 1) .any = mkSV m := by rw [← hmm]; simp [List.getD_eq_getElem?_getD, show r.marks.length - 1 < r.marks.length by omega]
      have hw1 : IntKind.i64.wrap ((r.marks.length : Int) - 1) = ((r.marks.length - 1 : Nat) : Int) := by rw [IntWalk.i64_in _ (by omega)]; omega
      have c5 : ((r.marks.length - 1 : Nat) : Int) < (r.marks.length : Int) := by omega
      have c6 : ((r.marks.length - 1 : Nat) : Int) ≤ (r.marks.length : Int) := by omega
      have hz2 := hro.1 hm0
      rw [last_at hm0, hmm] at hRy
      by_cases hk1 : m.1 = 21
      · have bk : (m.1 != 21) = false := by simp [hk1]
        have htk : (r.marks.map mkSV).take (r.marks.length - 1) = r.marks.dropLast.map mkSV := by rw [List.dropLast_eq_take, List.map_take]
        have hml2 : r.marks.dropLast.length ≤ 100000 := by simp; omega
        simp only [hk1, if_true, List.reverse_cons, List.reverse_nil, List.nil_append, hR1] at hRy
        obtain ⟨S7, hS7⟩ : ∃ S7, S5.set (st.length + 4) (.cells [.sc (.bool false), i64 r.depth, .slice .imm 2 (r.marks.dropLast.map mkSV)]) = S7 := ⟨_, rfl⟩
        have hl5 := lt_of_get ut
        have za : S7[aid]? = some (.cells (rsL rs)) := by rw [← hS7, set_get_ne (by omega)]; exact ua
        have zf := cells_facts ((show S7[st.length]? = S5[st.length]? by rw [← hS7, set_get_ne (by omega)]).trans uf)
        have zt := cells_facts (show S7[st.length + 4]? = some (.cells [.sc (.bool false), i64 r.depth, .slice .imm 2 (r.marks.dropLast.map mkSV)]) by rw [← hS7, set_get (by omega)])
        have gro7 : Gro st aid rs S7 := by rw [← hS7]; exact groS.set (by omega) _
        simp -implicitDefEqProofs (maxSteps := 2000000) only [↓ops_nil, ↓ops_none, ↓ops_some, ↓kd_eff, ↓dr_nil, ↓dr_cons, ↓d1_none, ↓d1_some, ↓eff_store, ↓eff_box, ↓eff_alloc, ↓eff_build, ↓eff_buildSlice, ↓eff_call, ↓eff_append, ↓eff_copy, ↓eff_clear, ↓eff_make, ↓reduceIte, ↓c_condI, ↓c_seqH, ↓c_blockH, ↓then_nH, ↓then_rH, ↓then_eH, ↓block_nH, ↓block_rH, ↓block_eH, go_sem, va.1, va.2.1, va.2.2, vf.1, vf.2.1, vf.2.2, vi.1, vi.2.1, vi.2.2, vs.1, vs.2.1, vs.2.2, vt.1, vt.2.1, vt.2.2, List.length_map, o22, Int.reduceBEq, hpw, uTok, iT, b0, hw1, c5, c6, hz2, hgl, mkSV, bk, htk, hS7, zf.1, zf.2.1, zf.2.2, zt.1, zt.2.1, zt.2.2]
        refine ⟨by omega, ?_⟩
        refine acalls_args (args' := [.slc aid 3 0 rs.length rs.length, i64 ((p : Int) + 1), .agg [.sc (.bool false), i64 r.depth, .slice .imm 2 (r.marks.dropLast.map mkSV)], i64 f.stack]) (.cons (SVle.refl _) (.cons (SVle.refl _) (.cons (SVle.agg (.cons (SVle.refl _) (.cons (SVle.refl _) (.cons sle_own .nil)))) (.cons (SVle.refl _) .nil)))) ?_
        refine hand_l rfl za hok (by omega) _ (by omega) ⟨false, r.depth, .imm, 2, r.marks.dropLast⟩ ⟨fun _ => rfl, .inl rfl⟩ hml2 _ _ (fun e => ?_) (fun a e hlt' ha => ?_)
        · simp -implicitDefEqProofs (maxSteps := 2000000) only [↓ops_nil, ↓ops_none, ↓ops_some, ↓kd_eff, ↓dr_nil, ↓dr_cons, ↓d1_none, ↓d1_some, ↓eff_store, ↓eff_box, ↓eff_alloc, ↓eff_build, ↓eff_buildSlice, ↓eff_call, ↓eff_append, ↓eff_copy, ↓eff_clear, ↓eff_make, ↓reduceIte, ↓c_condI, ↓c_seqH, ↓c_blockH, ↓then_nH, ↓then_rH, ↓then_eH, ↓block_nH, ↓block_rH, ↓block_eH, go_sem]
          exact fin0 gro7 hok (hRy.symm.trans e)
        · simp -implicitDefEqProofs (maxSteps := 2000000) only [↓ops_nil, ↓ops_none, ↓ops_some, ↓kd_eff, ↓dr_nil, ↓dr_cons, ↓d1_none, ↓d1_some, ↓eff_store, ↓eff_box, ↓eff_alloc, ↓eff_build, ↓eff_buildSlice, ↓eff_call, ↓eff_append, ↓eff_copy, ↓eff_clear, ↓eff_make, ↓reduceIte, ↓c_condI, ↓c_seqH, ↓c_blockH, ↓then_nH, ↓then_rH, ↓then_eH, ↓block_nH, ↓block_rH, ↓block_eH, go_sem]
          exact fin1 (gro7.hand hlt _) (hok.set ⟨⟨fun _ => rfl, .inl rfl⟩, hml2⟩) (by simp) ha (hRy.symm.trans e)
      · have bk : (m.1 != 21) = true := by simp [hk1]
        simp only [hk1, if_false] at hRy
        simp -implicitDefEqProofs (maxSteps := 2000000) only [↓ops_nil, ↓ops_none, ↓ops_some, ↓kd_eff, ↓dr_nil, ↓dr_cons, ↓d1_none, ↓d1_some, ↓eff_store, ↓eff_box, ↓eff_alloc, ↓eff_build, ↓eff_buildSlice, ↓eff_call, ↓eff_append, ↓eff_copy, ↓eff_clear, ↓eff_make, ↓reduceIte, ↓c_condI, ↓c_seqH, ↓c_blockH, ↓then_nH, ↓then_rH, ↓then_eH, ↓block_nH, ↓block_rH, ↓block_eH, go_sem, va.1, va.2.1, va.2.2, vf.1, vf.2.1, vf.2.2, vi.1, vi.2.1, vi.2.2, vs.1, vs.2.1, vs.2.2, vt.1, vt.2.1, vt.2.2, List.length_map, o22, Int.reduceBEq, hpw, uTok, iT, b0, hw1, c5, c6, hz2, hgl, mkSV, bk]
        exact fin0 groS hok hRy.symm
    by_cases o27 : i.op = 27
    · 
      simp only [goF, o27, Int.reduceEq, if_true, if_false, or_true, or_false, true_or, false_or, reduceIte, wants] at hRy
      have hTP : T = 0 ∧ P = 0 := by
        unfold effF at hE
        simp only [o27, Int.reduceEq, if_false, Prod.mk.injEq] at hE
        exact ⟨hE.2.1.symm, hE.2.2.symm⟩
      obtain rfl : r.depth = dT := by rw [← hdT, hTP.1, hTP.2]; omega
      by_cases hm0 : r.marks = []
      · have b0 : ((r.marks.length : Int) == 0) = true := by rw [hm0]; rfl
        rw [hm0] at hRy
        simp -implicitDefEqProofs (maxSteps := 2000000) only [↓ops_nil, ↓ops_none, ↓ops_some, ↓kd_eff, ↓dr_nil, ↓dr_cons, ↓d1_none, ↓d1_some, ↓eff_store, ↓eff_box, ↓eff_alloc, ↓eff_build, ↓eff_buildSlice, ↓eff_call, ↓eff_append, ↓eff_copy, ↓eff_clear, ↓eff_make, ↓reduceIte, ↓c_condI, ↓c_seqH, ↓c_blockH, ↓then_nH, ↓then_rH, ↓then_eH, ↓block_nH, ↓block_rH, ↓block_eH, go_sem, va.1, va.2.1, va.2.2, vf.1, vf.2.1, vf.2.2, vi.1, vi.2.1, vi.2.2, vs.1, vs.2.1, vs.2.2, vt.1, vt.2.1, vt.2.2, List.length_map, o27, Int.reduceBEq, hpw, uTok, iT, b0]
        exact fin0 groS hok hRy.symm
      have hpos := List.length_pos_iff.2 hm0
      have b0 : ((r.marks.length : Int) == 0) = false := by simp; omega
      obtain ⟨m, hmm⟩ : ∃ m, r.marks[r.marks.length - 1] = m := ⟨_, rfl⟩
      have hgl : (r.marks.map mkSV).getD (r.marks.length - 1) .any = mkSV m := by rw [← hmm]; simp [List.getD_eq_getElem?_getD, show r.marks.length - 1 < r.marks.length by omega]
      have hw1 : IntKind.i64.wrap ((r.marks.length : Int) - 1) = ((r.marks.length - 1 : Nat) : Int) := by rw [IntWalk.i64_in _ (by omega)]; omega
      have c5 : ((r.marks.length - 1 : Nat) : Int) < (r.marks.length : Int) := by omega
      have c6 : ((r.marks.length - 1 : Nat) : Int) ≤ (r.marks.length : Int) := by omega
      have hz2 := hro.1 hm0
      rw [last_at hm0, hmm] at hRy
      by_cases hk1 : m.1 = 26
      · have bk : (m.1 != 26) = false := by simp [hk1]
        have htk : (r.marks.map mkSV).take (r.marks.length - 1) = r.marks.dropLast.map mkSV := by rw [List.dropLast_eq_take, List.map_take]
        have hml2 : r.marks.dropLast.length ≤ 100000 := by simp; omega
        simp only [hk1, if_true, List.reverse_cons, List.reverse_nil, List.nil_append, hR1] at hRy
        obtain ⟨S7, hS7⟩ : ∃ S7, S5.set (st.length + 4) (.cells [.sc (.bool false), i64 r.depth, .slice .imm 2 (r.marks.dropLast.map mkSV)]) = S7 := ⟨_, rfl⟩
        have hl5 := lt_of_get ut
        have za : S7[aid]? = some (.cells (rsL rs)) := by rw [← hS7, set_get_ne (by omega)]; exact ua
        have zf := cells_facts ((show S7[st.length]? = S5[st.length]? by rw [← hS7, set_get_ne (by omega)]).trans uf)
        have zt := cells_facts (show S7[st.length + 4]? = some (.cells [.sc (.bool false), i64 r.depth, .slice .imm 2 (r.marks.dropLast.map mkSV)]) by rw [← hS7, set_get (by omega)])
        have gro7 : Gro st aid rs S7 := by rw [← hS7]; exact groS.set (by omega) _
        simp -implicitDefEqProofs (maxSteps := 2000000) only [↓ops_nil, ↓ops_none, ↓ops_some, ↓kd_eff, ↓dr_nil, ↓dr_cons, ↓d1_none, ↓d1_some, ↓eff_store, ↓eff_box, ↓eff_alloc, ↓eff_build, ↓eff_buildSlice, ↓eff_call, ↓eff_append, ↓eff_copy, ↓eff_clear, ↓eff_make, ↓reduceIte, ↓c_condI, ↓c_seqH, ↓c_blockH, ↓then_nH, ↓then_rH, ↓then_eH, ↓block_nH, ↓block_rH, ↓block_eH, go_sem, va.1, va.2.1, va.2.2, vf.1, vf.2.1, vf.2.2, vi.1, vi.2.1, vi.2.2, vs.1, vs.2.1, vs.2.2, vt.1, vt.2.1, vt.2.2, List.length_map, o27, Int.reduceBEq, hpw, uTok, iT, b0, hw1, c5, c6, hz2, hgl, mkSV, bk, htk, hS7, zf.1, zf.2.1, zf.2.2, zt.1, zt.2.1, zt.2.2]
        refine ⟨by omega, ?_⟩
        refine acalls_args (args' := [.slc aid 3 0 rs.length rs.length, i64 ((p : Int) + 1), .agg [.sc (.bool false), i64 r.depth, .slice .imm 2 (r.marks.dropLast.map mkSV)], i64 f.stack]) (.cons (SVle.refl _) (.cons (SVle.refl _) (.cons (SVle.agg (.cons (SVle.refl _) (.cons (SVle.refl _) (.cons sle_own .nil)))) (.cons (SVle.refl _) .nil)))) ?_
        refine hand_l rfl za hok (by omega) _ (by omega) ⟨false, r.depth, .imm, 2, r.marks.dropLast⟩ ⟨fun _ => rfl, .inl rfl⟩ hml2 _ _ (fun e => ?_) (fun a e hlt' ha => ?_)
        · simp -implicitDefEqProofs (maxSteps := 2000000) only [↓ops_nil, ↓ops_none, ↓ops_some, ↓kd_eff, ↓dr_nil, ↓dr_cons, ↓d1_none, ↓d1_some, ↓eff_store, ↓eff_box, ↓eff_alloc, ↓eff_build, ↓eff_buildSlice, ↓eff_call, ↓eff_append, ↓eff_copy, ↓eff_clear, ↓eff_make, ↓reduceIte, ↓c_condI, ↓c_seqH, ↓c_blockH, ↓then_nH, ↓then_rH, ↓then_eH, ↓block_nH, ↓block_rH, ↓block_eH, go_sem]
          exact fin0 gro7 hok (hRy.symm.trans e)
        · simp -implicitDefEqProofs (maxSteps := 2000000) only [↓ops_nil, ↓ops_none, ↓ops_some, ↓kd_eff, ↓dr_nil, ↓dr_cons, ↓d1_none, ↓d1_some, ↓eff_store, ↓eff_box, ↓eff_alloc, ↓eff_build, ↓eff_buildSlice, ↓eff_call, ↓eff_append, ↓eff_copy, ↓eff_clear, ↓eff_make, ↓reduceIte, ↓c_condI, ↓c_seqH, ↓c_blockH, ↓then_nH, ↓then_rH, ↓then_eH, ↓block_nH, ↓block_rH, ↓block_eH, go_sem]
          exact fin1 (gro7.hand hlt _) (hok.set ⟨⟨fun _ => rfl, .inl rfl⟩, hml2⟩) (by simp) ha (hRy.symm.trans e)
      · have bk : (m.1 != 26) = true := by simp [hk1]
        simp only [hk1, if_false] at hRy
        simp -implicitDefEqProofs (maxSteps := 2000000) only [↓ops_nil, ↓ops_none, ↓ops_some, ↓kd_eff, ↓dr_nil, ↓dr_cons, ↓d1_none, ↓d1_some, ↓eff_store, ↓eff_box, ↓eff_alloc, ↓eff_build, ↓eff_buildSlice, ↓eff_call, ↓eff_append, ↓eff_copy, ↓eff_clear, ↓eff_make, ↓reduceIte, ↓c_condI, ↓c_seqH, ↓c_blockH, ↓then_nH, ↓then_rH, ↓then_eH, ↓block_nH, ↓block_rH, ↓block_eH, go_sem, va.1, va.2.1, va.2.2, vf.1, vf.2.1, vf.2.2, vi.1, vi.2.1, vi.2.2, vs.1, vs.2.1, vs.2.2, vt.1, vt.2.1, vt.2.2, List.length_map, o27, Int.reduceBEq, hpw, uTok, iT, b0, hw1, c5, c6, hz2, hgl, mkSV, bk]
        exact fin0 groS hok hRy.symm
    by_cases o29 : i.op = 29
    · 
      simp only [goF, o29, Int.reduceEq, if_true, if_false, or_true, or_false, true_or, false_or, reduceIte, wants] at hRy
      have hTP : T = 0 ∧ P = 0 := by
        unfold effF at hE
        simp only [o29, Int.reduceEq, if_false, Prod.mk.injEq] at hE
        exact ⟨hE.2.1.symm, hE.2.2.symm⟩
      obtain rfl : r.depth = dT := by rw [← hdT, hTP.1, hTP.2]; omega
      by_cases hm0 : r.marks = []
      · have b0 : ((r.marks.length : Int) == 0) = true := by rw [hm0]; rfl
        rw [hm0] at hRy
        simp -implicitDefEqProofs (maxSteps := 2000000) only [↓ops_nil, ↓ops_none, ↓ops_some, ↓kd_eff, ↓dr_nil, ↓dr_cons, ↓d1_none, ↓d1_some, ↓eff_store, ↓eff_box, ↓eff_alloc, ↓eff_build, ↓eff_buildSlice, ↓eff_call, ↓eff_append, ↓eff_copy, ↓eff_clear, ↓eff_make, ↓reduceIte, ↓c_condI, ↓c_seqH, ↓c_blockH, ↓then_nH, ↓then_rH, ↓then_eH, ↓block_nH, ↓block_rH, ↓block_eH, go_sem, va.1, va.2.1, va.2.2, vf.1, vf.2.1, vf.2.2, vi.1, vi.2.1, vi.2.2, vs.1, vs.2.1, vs.2.2, vt.1, vt.2.1, vt.2.2, List.length_map, o29, Int.reduceBEq, hpw, uTok, iT, b0]
        exact fin0 groS hok hRy.symm
      have hpos := List.length_pos_iff.2 hm0
      have b0 : ((r.marks.length : Int) == 0) = false := by simp; omega
      obtain ⟨m, hmm⟩ : ∃ m, r.marks[r.marks.length - 1] = m := ⟨_, rfl⟩
      have hgl : (r.marks.map mkSV).getD (r.marks.length - 1) .any = mkSV m := by rw [← hmm]; simp [List.getD_eq_getElem?_getD, show r.marks.length - 1 < r.marks.length by omega]
      have hw1 : IntKind.i64.wrap ((r.marks.length : Int) - 1) = ((r.marks.length - 1 : Nat) : Int) := by rw [IntWalk.i64_in _ (by omega)]; omega
      have c5 : ((r.marks.length - 1 : Nat) : Int) < (r.marks.length : Int) := by omega
      have c6 : ((r.marks.length - 1 : Nat) : Int) ≤ (r.marks.length : Int) := by omega
      have hz2 := hro.1 hm0
      rw [last_at hm0, hmm] at hRy
      by_cases hk1 : m.1 = 28
      · have bk : (m.1 != 28) = false := by simp [hk1]
        have htk : (r.marks.map mkSV).take (r.marks.length - 1) = r.marks.dropLast.map mkSV := by rw [List.dropLast_eq_take, List.map_take]
        have hml2 : r.marks.dropLast.length ≤ 100000 := by simp; omega
        simp only [hk1, if_true, List.reverse_cons, List.reverse_nil, List.nil_append, hR1] at hRy
        obtain ⟨S7, hS7⟩ : ∃ S7, S5.set (st.length + 4) (.cells [.sc (.bool false), i64 r.depth, .slice .imm 2 (r.marks.dropLast.map mkSV)]) = S7 := ⟨_, rfl⟩
        have hl5 := lt_of_get ut
        have za : S7[aid]? = some (.cells (rsL rs)) := by rw [← hS7, set_get_ne (by omega)]; exact ua
        have zf := cells_facts ((show S7[st.length]? = S5[st.length]? by rw [← hS7, set_get_ne (by omega)]).trans uf)
        have zt := cells_facts (show S7[st.length + 4]? = some (.cells [.sc (.bool false), i64 r.depth, .slice .imm 2 (r.marks.dropLast.map mkSV)]) by rw [← hS7, set_get (by omega)])
        have gro7 : Gro st aid rs S7 := by rw [← hS7]; exact groS.set (by omega) _
        simp -implicitDefEqProofs (maxSteps := 2000000) only [↓ops_nil, ↓ops_none, ↓ops_some, ↓kd_eff, ↓dr_nil, ↓dr_cons, ↓d1_none, ↓d1_some, ↓eff_store, ↓eff_box, ↓eff_alloc, ↓eff_build, ↓eff_buildSlice, ↓eff_call, ↓eff_append, ↓eff_copy, ↓eff_clear, ↓eff_make, ↓reduceIte, ↓c_condI, ↓c_seqH, ↓c_blockH, ↓then_nH, ↓then_rH, ↓then_eH, ↓block_nH, ↓block_rH, ↓block_eH, go_sem, va.1, va.2.1, va.2.2, vf.1, vf.2.1, vf.2.2, vi.1, vi.2.1, vi.2.2, vs.1, vs.2.1, vs.2.2, vt.1, vt.2.1, vt.2.2, List.length_map, o29, Int.reduceBEq, hpw, uTok, iT, b0, hw1, c5, c6, hz2, hgl, mkSV, bk, htk, hS7, zf.1, zf.2.1, zf.2.2, zt.1, zt.2.1, zt.2.2]
        refine ⟨by omega, ?_⟩
        refine acalls_args (args' := [.slc aid 3 0 rs.length rs.length, i64 ((p : Int) + 1), .agg [.sc (.bool false), i64 r.depth, .slice .imm 2 (r.marks.dropLast.map mkSV)], i64 f.stack]) (.cons (SVle.refl _) (.cons (SVle.refl _) (.cons (SVle.agg (.cons (SVle.refl _) (.cons (SVle.refl _) (.cons sle_own .nil)))) (.cons (SVle.refl _) .nil)))) ?_
        refine hand_l rfl za hok (by omega) _ (by omega) ⟨false, r.depth, .imm, 2, r.marks.dropLast⟩ ⟨fun _ => rfl, .inl rfl⟩ hml2 _ _ (fun e => ?_) (fun a e hlt' ha => ?_)
        · simp -implicitDefEqProofs (maxSteps := 2000000) only [↓ops_nil, ↓ops_none, ↓ops_some, ↓kd_eff, ↓dr_nil, ↓dr_cons, ↓d1_none, ↓d1_some, ↓eff_store, ↓eff_box, ↓eff_alloc, ↓eff_build, ↓eff_buildSlice, ↓eff_call, ↓eff_append, ↓eff_copy, ↓eff_clear, ↓eff_make, ↓reduceIte, ↓c_condI, ↓c_seqH, ↓c_blockH, ↓then_nH, ↓then_rH, ↓then_eH, ↓block_nH, ↓block_rH, ↓block_eH, go_sem]
          exact fin0 gro7 hok (hRy.symm.trans e)
        · simp -implicitDefEqProofs (maxSteps := 2000000) only [↓ops_nil, ↓ops_none, ↓ops_some, ↓kd_eff, ↓dr_nil, ↓dr_cons, ↓d1_none, ↓d1_some, ↓eff_store, ↓eff_box, ↓eff_alloc, ↓eff_build, ↓eff_buildSlice, ↓eff_call, ↓eff_append, ↓eff_copy, ↓eff_clear, ↓eff_make, ↓reduceIte, ↓c_condI, ↓c_seqH, ↓c_blockH, ↓then_nH, ↓then_rH, ↓then_eH, ↓block_nH, ↓block_rH, ↓block_eH, go_sem]
          exact fin1 (gro7.hand hlt _) (hok.set ⟨⟨fun _ => rfl, .inl rfl⟩, hml2⟩) (by simp) ha (hRy.symm.trans e)
      · have bk : (m.1 != 28) = true := by simp [hk1]
        simp only [hk1, if_false] at hRy
        simp -implicitDefEqProofs (maxSteps := 2000000) only [↓ops_nil, ↓ops_none, ↓ops_some, ↓kd_eff, ↓dr_nil, ↓dr_cons, ↓d1_none, ↓d1_some, ↓eff_store, ↓eff_box, ↓eff_alloc, ↓eff_build, ↓eff_buildSlice, ↓eff_call, ↓eff_append, ↓eff_copy, ↓eff_clear, ↓eff_make, ↓reduceIte, ↓c_condI, ↓c_seqH, ↓c_blockH, ↓then_nH, ↓then_rH, ↓then_eH, ↓block_nH, ↓block_rH, ↓block_eH, go_sem, va.1, va.2.1, va.2.2, vf.1, vf.2.1, vf.2.2, vi.1, vi.2.1, vi.2.2, vs.1, vs.2.1, vs.2.2, vt.1, vt.2.1, vt.2.2, List.length_map, o29, Int.reduceBEq, hpw, uTok, iT, b0, hw1, c5, c6, hz2, hgl, mkSV, bk]
        exact fin0 groS hok hRy.symm
    by_cases o26 : i.op = 26
    · 
      simp only [goF, o26, Int.reduceEq, if_true, if_false, or_true, or_false, true_or, false_or, reduceIte, withF] at hRy
      have hTP : T = 0 ∧ P = 0 := by
        unfold effF at hE
        simp only [o26, Int.reduceEq, if_false, Prod.mk.injEq] at hE
        exact ⟨hE.2.1.symm, hE.2.2.symm⟩
      obtain rfl : r.depth = dT := by rw [← hdT, hTP.1, hTP.2]; omega
      simp -implicitDefEqProofs (maxSteps := 2000000) only [↓ops_nil, ↓ops_none, ↓ops_some, ↓kd_eff, ↓dr_nil, ↓dr_cons, ↓d1_none, ↓d1_some, ↓eff_store, ↓eff_box, ↓eff_alloc, ↓eff_build, ↓eff_buildSlice, ↓eff_call, ↓eff_append, ↓eff_copy, ↓eff_clear, ↓eff_make, ↓reduceIte, ↓c_condI, ↓c_seqH, ↓c_blockH, ↓then_nH, ↓then_rH, ↓then_eH, ↓block_nH, ↓block_rH, ↓block_eH, go_sem, va.1, va.2.1, va.2.2, vf.1, vf.2.1, vf.2.2, vi.1, vi.2.1, vi.2.2, vs.1, vs.2.1, vs.2.2, vt.1, vt.2.1, vt.2.2, List.length_map, o26, Int.reduceBEq, hpw, uTok, iT]
      refine awp_rounds [] (fun q e s => ∃ kk : Nat, kk + q = r.marks.length ∧ (∀ j (hj : j < kk) (hj2 : j < r.marks.length), r.marks[j].1 ≠ 26) ∧
        e = [.any, .any, i64 p, .slc aid 3 0 rs.length rs.length, .any, .any, .any, .any, .any, .ptr st.length 0, .ptr (st.length + 1) 0, .ptr (st.length + 2) 0, .any, .any, .any, .any, .ptr (st.length + 4) 0, i64 (-1), i64 ((p : Int) + 1), .any, .any, i64 kk, .any, .any, .any, .any, .any, .any, .any, .any, .any, .any, .any, .any, .any, .any, .any, .any, .any, .any, .any, .any, .any, .any, .any, .any, .any, .any, .any, .any, .any, .any, .any, .any, .any, .any, .any, .any, .any, .any, .any, .any, .any, .any, .any, .any, .any, .any, .any, .any, .any, .any, .any, .any, .any, .any, .any, .any, .any, .any, .any, .any, .any, .any, .any, .any, .any, .any, .any, .any, .any, .any, .any, .any, .any, .any, .any, .any, .any, .any, .any, .any, .any, .any, .any, .any, .any, .any, .any, .any, .any, .any, .any, .any, .any, .any, .any, .any, .any, .any, .any, .any, .any, .any, .any, .any, .any, .any, .any, .any, .any, .any, .any, .any, .any, .any, .any, .any, .any, .any, .any, .any, .any, .any, .any, .any, .any, .any, .any, .any, .any, .any, .any, .any, .any, .any, .any, .any, .any, .any, .any, .any, .any, .any, .any, .any, .any, .any, .any, .any, .any, .any, .any, .any, .any, .any, .any, .any, .any, .any, .any, .any, .any, .any, .any, .any, .any, .any, .any, .any, .any, .any, .any, .any, .any, .any, .any, .any, .any, .any, .any, .any, .any, .any, .any, .any, .any, .any, .any, .any, .any, .any, .any, .any, .any, .any, .any, .any, .any, .any, .any, .any, .any, .any, .any, .any, .any, .any, .any, .any, .any, .any, .any, .any, .any, .any] ∧ s = S5) (n := r.marks.length) ?_ ⟨0, by omega, fun j hj => by omega, rfl, rfl⟩ ?_
      · repeat (first | exact leEnv_nil | refine leEnv_any _ ?_ | refine leEnv_same _ ?_ | refine leEnv_norm _ ?_)
      rintro q e s ⟨kk, hkk, hall, rfl, rfl⟩
      by_cases hlt2 : kk < r.marks.length
      · have d1 : (kk : Int) < (r.marks.length : Int) := by omega
        have hz2 := hro.1 (by intro e; rw [e] at hlt2; cases hlt2)
        have hgk : (r.marks.map mkSV).getD kk .any = mkSV r.marks[kk] := by simp [List.getD_eq_getElem?_getD, hlt2]
        have hwk : IntKind.i64.wrap ((kk : Int) + 1) = ((kk + 1 : Nat) : Int) := by rw [IntWalk.i64_in _ (by omega)]; rfl
        by_cases hk1 : r.marks[kk].1 = 26
        · have bk : (r.marks[kk].1 == 26) = true := by simp [hk1]
          have hany : r.marks.any (fun m => m.1 == 26) = true := List.any_eq_true.2 ⟨_, List.getElem_mem hlt2, bk⟩
          rw [if_pos hany] at hRy
          simp -implicitDefEqProofs (maxSteps := 2000000) only [↓ops_nil, ↓ops_none, ↓ops_some, ↓kd_eff, ↓dr_nil, ↓dr_cons, ↓d1_none, ↓d1_some, ↓eff_store, ↓eff_box, ↓eff_alloc, ↓eff_build, ↓eff_buildSlice, ↓eff_call, ↓eff_append, ↓eff_copy, ↓eff_clear, ↓eff_make, ↓reduceIte, ↓c_condI, ↓c_seqH, ↓c_blockH, ↓then_nH, ↓then_rH, ↓then_eH, ↓block_nH, ↓block_rH, ↓block_eH, go_sem, va.1, va.2.1, va.2.2, vf.1, vf.2.1, vf.2.2, vi.1, vi.2.1, vi.2.2, vs.1, vs.2.1, vs.2.2, vt.1, vt.2.1, vt.2.2, List.length_map, d1, hz2, hgk, mkSV, bk]
          exact fin0 groS hok hRy.symm
        · have bk : (r.marks[kk].1 == 26) = false := by simp [hk1]
          simp -implicitDefEqProofs (maxSteps := 2000000) only [↓ops_nil, ↓ops_none, ↓ops_some, ↓kd_eff, ↓dr_nil, ↓dr_cons, ↓d1_none, ↓d1_some, ↓eff_store, ↓eff_box, ↓eff_alloc, ↓eff_build, ↓eff_buildSlice, ↓eff_call, ↓eff_append, ↓eff_copy, ↓eff_clear, ↓eff_make, ↓reduceIte, ↓c_condI, ↓c_seqH, ↓c_blockH, ↓then_nH, ↓then_rH, ↓then_eH, ↓block_nH, ↓block_rH, ↓block_eH, go_sem, va.1, va.2.1, va.2.2, vf.1, vf.2.1, vf.2.2, vi.1, vi.2.1, vi.2.2, vs.1, vs.2.1, vs.2.2, vt.1, vt.2.1, vt.2.2, List.length_map, d1, hz2, hgk, mkSV, bk, hwk]
          refine ⟨q - 1, _, by omega, ?_, kk + 1, by omega, fun j hj hj2 => ?_, rfl⟩
          · repeat (first | exact leEnv_nil | refine leEnv_any _ ?_ | refine leEnv_same _ ?_ | refine leEnv_norm _ ?_)
          rcases Nat.lt_or_ge j kk with h | h
          · exact hall j h hj2
          · obtain rfl : j = kk := by omega
            exact hk1
      · obtain rfl : kk = r.marks.length := by omega
        have d1 : ¬ ((r.marks.length : Int) < (r.marks.length : Int)) := by omega
        have hany : ¬ r.marks.any (fun m => m.1 == 26) = true := by
          intro h
          obtain ⟨x, hx, hx2⟩ := List.any_eq_true.1 h
          obtain ⟨j, hj, rfl⟩ := List.getElem_of_mem hx
          exact hall j hj hj (by simpa using hx2)
        rw [if_neg hany] at hRy
        simp only [List.reverse_cons, List.reverse_nil, List.nil_append, hR1] at hRy
        obtain ⟨S7, hS7⟩ : ∃ S7, (s.set (st.length + 3) (.tok 2)).set (st.length + 4) (.cells [.sc (.bool false), i64 r.depth, .slice (.own (st.length + 3) 2) 2 ((r.marks ++ [((26 : Int), r.depth)]).map mkSV)]) = S7 := ⟨_, rfl⟩
        have hl5 := lt_of_get ut
        have za : S7[aid]? = some (.cells (rsL rs)) := by rw [← hS7, set_get_ne (by omega), set_get_ne (by omega)]; exact ua
        have zf := cells_facts ((show S7[st.length]? = s[st.length]? by rw [← hS7, set_get_ne (by omega), set_get_ne (by omega)]).trans uf)
        have zt := cells_facts (show S7[st.length + 4]? = some (.cells [.sc (.bool false), i64 r.depth, .slice (.own (st.length + 3) 2) 2 ((r.marks ++ [((26 : Int), r.depth)]).map mkSV)]) by rw [← hS7, set_get (by simp; omega)])
        have gro7 : Gro st aid rs S7 := by rw [← hS7]; exact (groS.set (by omega) _).set (by omega) _
        have hne : ¬ (st.length + 4 = st.length + 3) := by omega
        have hne' : ¬ (st.length + 3 = st.length + 4) := by omega
        have hma : r.marks.map mkSV ++ [SV.agg [i64 26, i64 r.depth]] = (r.marks ++ [((26 : Int), r.depth)]).map mkSV := by simp [mkSV]
        have hml2 : (r.marks ++ [((26 : Int), r.depth)]).length ≤ 100000 := by simp; omega
        simp -implicitDefEqProofs (maxSteps := 2000000) only [↓ops_nil, ↓ops_none, ↓ops_some, ↓kd_eff, ↓dr_nil, ↓dr_cons, ↓d1_none, ↓d1_some, ↓eff_store, ↓eff_box, ↓eff_alloc, ↓eff_build, ↓eff_buildSlice, ↓eff_call, ↓eff_append, ↓eff_copy, ↓eff_clear, ↓eff_make, ↓reduceIte, ↓c_condI, ↓c_seqH, ↓c_blockH, ↓then_nH, ↓then_rH, ↓then_eH, ↓block_nH, ↓block_rH, ↓block_eH, go_sem, va.1, va.2.1, va.2.2, vf.1, vf.2.1, vf.2.2, vi.1, vi.2.1, vi.2.2, vs.1, vs.2.1, vs.2.2, vt.1, vt.2.1, vt.2.2, List.length_map, d1, o26, uTok, iT, hne, hne', hma, hS7, zf.1, zf.2.1, zf.2.2, zt.1, zt.2.1, zt.2.2]
        refine ⟨happ, ?_⟩
        refine acalls_args (args' := [.slc aid 3 0 rs.length rs.length, i64 ((p : Int) + 1), .agg [.sc (.bool false), i64 r.depth, .slice .imm 2 ((r.marks ++ [((26 : Int), r.depth)]).map mkSV)], i64 f.stack]) (.cons (SVle.refl _) (.cons (SVle.refl _) (.cons (SVle.agg (.cons (SVle.refl _) (.cons (SVle.refl _) (.cons sle_own .nil)))) (.cons (SVle.refl _) .nil)))) ?_
        refine hand_l rfl za hok (by omega) _ (by omega) ⟨false, r.depth, .imm, 2, (r.marks ++ [((26 : Int), r.depth)])⟩ ⟨fun _ => rfl, .inl rfl⟩ hml2 _ _ (fun e => ?_) (fun a e hlt' ha => ?_)
        · simp -implicitDefEqProofs (maxSteps := 2000000) only [↓ops_nil, ↓ops_none, ↓ops_some, ↓kd_eff, ↓dr_nil, ↓dr_cons, ↓d1_none, ↓d1_some, ↓eff_store, ↓eff_box, ↓eff_alloc, ↓eff_build, ↓eff_buildSlice, ↓eff_call, ↓eff_append, ↓eff_copy, ↓eff_clear, ↓eff_make, ↓reduceIte, ↓c_condI, ↓c_seqH, ↓c_blockH, ↓then_nH, ↓then_rH, ↓then_eH, ↓block_nH, ↓block_rH, ↓block_eH, go_sem]
          exact fin0 gro7 hok (hRy.symm.trans e)
        · simp -implicitDefEqProofs (maxSteps := 2000000) only [↓ops_nil, ↓ops_none, ↓ops_some, ↓kd_eff, ↓dr_nil, ↓dr_cons, ↓d1_none, ↓d1_some, ↓eff_store, ↓eff_box, ↓eff_alloc, ↓eff_build, ↓eff_buildSlice, ↓eff_call, ↓eff_append, ↓eff_copy, ↓eff_clear, ↓eff_make, ↓reduceIte, ↓c_condI, ↓c_seqH, ↓c_blockH, ↓then_nH, ↓then_rH, ↓then_eH, ↓block_nH, ↓block_rH, ↓block_eH, go_sem]
          exact fin1 (gro7.hand hlt _) (hok.set ⟨⟨fun _ => rfl, .inl rfl⟩, hml2⟩) (by simp) ha (hRy.symm.trans e)
    have b14 : (i.op == 14) = false := beq_eq_false_iff_ne.2 o14
    have b15 : (i.op == 15) = false := beq_eq_false_iff_ne.2 o15
    have b23 : (i.op == 23) = false := beq_eq_false_iff_ne.2 o23
    have b30 : (i.op == 30) = false := beq_eq_false_iff_ne.2 o30
    have b16 : (i.op == 16) = false := beq_eq_false_iff_ne.2 o16
    have b17 : (i.op == 17) = false := beq_eq_false_iff_ne.2 o17
    have b18 : (i.op == 18) = false := beq_eq_false_iff_ne.2 o18
    have b21 : (i.op == 21) = false := beq_eq_false_iff_ne.2 o21
    have b28 : (i.op == 28) = false := beq_eq_false_iff_ne.2 o28
    have b26 : (i.op == 26) = false := beq_eq_false_iff_ne.2 o26
    have b22 : (i.op == 22) = false := beq_eq_false_iff_ne.2 o22
    have b27 : (i.op == 27) = false := beq_eq_false_iff_ne.2 o27
    have b29 : (i.op == 29) = false := beq_eq_false_iff_ne.2 o29
    simp only [goF, o14, o15, o23, o30, o16, o17, o18, o21, o28, o26, o22, o27, o29, or_self, if_false, List.reverse_cons, List.reverse_nil, List.nil_append, hR1] at hRy
    simp -implicitDefEqProofs (maxSteps := 2000000) only [↓ops_nil, ↓ops_none, ↓ops_some, ↓kd_eff, ↓dr_nil, ↓dr_cons, ↓d1_none, ↓d1_some, ↓eff_store, ↓eff_box, ↓eff_alloc, ↓eff_build, ↓eff_buildSlice, ↓eff_call, ↓eff_append, ↓eff_copy, ↓eff_clear, ↓eff_make, ↓reduceIte, ↓c_condI, ↓c_seqH, ↓c_blockH, ↓then_nH, ↓then_rH, ↓then_eH, ↓block_nH, ↓block_rH, ↓block_eH, go_sem, va.1, va.2.1, va.2.2, vf.1, vf.2.1, vf.2.2, vi.1, vi.2.1, vi.2.2, vs.1, vs.2.1, vs.2.2, vt.1, vt.2.1, vt.2.2, List.length_map, hpw, uTok, iT, b14, b15, b23, b30, b16, b17, b18, b21, b28, b26, b22, b27, b29]
    refine acalls_args (args' := [.slc aid 3 0 rs.length rs.length, i64 ((p : Int) + 1), .agg [.sc (.bool false), i64 dT, .slice .imm 2 (r.marks.map mkSV)], i64 f.stack]) (.cons (SVle.refl _) (.cons (SVle.refl _) (.cons (SVle.agg (.cons (SVle.refl _) (.cons (SVle.refl _) (.cons sle_own .nil)))) (.cons (SVle.refl _) .nil)))) ?_
    refine hand_l rfl ua hok (by omega) _ (by omega) ⟨false, dT, .imm, 2, r.marks⟩ ⟨fun _ => rfl, .inl rfl⟩ (by first | exact hml | (simp; omega)) _ _ (fun e => ?_) (fun a e hlt' ha => ?_)
    · simp -implicitDefEqProofs (maxSteps := 2000000) only [↓ops_nil, ↓ops_none, ↓ops_some, ↓kd_eff, ↓dr_nil, ↓dr_cons, ↓d1_none, ↓d1_some, ↓eff_store, ↓eff_box, ↓eff_alloc, ↓eff_build, ↓eff_buildSlice, ↓eff_call, ↓eff_append, ↓eff_copy, ↓eff_clear, ↓eff_make, ↓reduceIte, ↓c_condI, ↓c_seqH, ↓c_blockH, ↓then_nH, ↓then_rH, ↓then_eH, ↓block_nH, ↓block_rH, ↓block_eH, go_sem]
      exact fin0 (groS) hok (hRy.symm.trans e)
    · simp -implicitDefEqProofs (maxSteps := 2000000) only [↓ops_nil, ↓ops_none, ↓ops_some, ↓kd_eff, ↓dr_nil, ↓dr_cons, ↓d1_none, ↓d1_some, ↓eff_store, ↓eff_box, ↓eff_alloc, ↓eff_build, ↓eff_buildSlice, ↓eff_call, ↓eff_append, ↓eff_copy, ↓eff_clear, ↓eff_make, ↓reduceIte, ↓c_condI, ↓c_seqH, ↓c_blockH, ↓then_nH, ↓then_rH, ↓then_eH, ↓block_nH, ↓block_rH, ↓block_eH, go_sem]
      exact fin1 (groS.hand hlt _) (hok.set ⟨⟨fun _ => rfl, .inl rfl⟩, hml⟩) (by simp) ha (hRy.symm.trans e)
end Go.Proofs
