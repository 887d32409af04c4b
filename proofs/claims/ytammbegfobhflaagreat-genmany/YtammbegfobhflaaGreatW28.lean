/- The engine's walk through a function (verify.walker.walk). -/
import Derived.Test.YtammbegfobhflaaGreatN2
import Derived.Test.YtammbegfobhflaaGreatM1
import Derived.Test.YtammbegfobhflaaGreatM7
set_option linter.all false
set_option linter.unusedSimpArgs false
set_option linter.unusedVariables false
set_option maxRecDepth 8000
namespace Go.AL
/-- What is told is a bool; what stands beside it is forgotten. -/
def FinB (st : St) (K : SV → St → Prop) : SV → St → Prop := fun x s => ∃ X b, x = .tuple [X, .sc (.bool b)] ∧ (∃ ex, s = st ++ ex) ∧ K (.tuple [.any, .sc (.bool b)]) st
theorem acalls_goB {P : Program} (M : List Nat) {f : FuncId} {fn : Func} {c : Code} {rs : Array ResultVar} {n : Nat} {args : List SV} {K : SV → St → Prop} {st : St} (hf : P.funcs[f]? = some fn) (hb : fn.body = some c)
    (hr : fn.results = rs) (hn : fn.ntmps = n) (h : cSpec P M c (RetR P rs.toList (FinB st K)) (args ++ List.replicate (n - args.length) .any) st) : ACalls P f args K st := by
  refine acalls_pure (acalls_le ((acalls_go hf hb hr hn h).mono ?_))
  rintro x s ⟨X, b, rfl, ⟨ex, rfl⟩, hk⟩
  refine ⟨.tuple [.any, .sc (.bool b)], SVle.tuple (.cons (SVle.any X) (.cons (SVle.refl _) .nil)), ex, rfl, ?_, hk⟩
  refine .tuple _ fun i hi => ?_
  match i, hi with
  | 0, _ => exact .any
  | 1, _ => exact .sc _
/-- A place that is still to be looked at, in memory (z: the size that its marks' slice is told with). -/
def tgz (t : (Int × Sta) × Nat) : List SV := [i64 t.1.1, i64 t.1.2.depth, .slice .imm t.2 (t.1.2.marks.map mkSV)]
theorem tgz_len (t : (Int × Sta) × Nat) : (tgz t).length = 3 := rfl
theorem tgz_tg (m : List (Int × Sta)) : (m.map tgSV).flatMap SV.cells = (m.map fun t => (t, 2)).flatMap tgz := by
  induction m with
  | nil => rfl
  | cons a r ih => rw [List.map_cons, List.map_cons, List.flatMap_cons, List.flatMap_cons, ih]; rfl
/-- What is told of places, in memory. -/
def HadAt (st : St) (cs : List SV) (hid : Nat) (had : List (Option Sta)) : Prop :=
  cs.length = had.length ∧ ∀ p, p < had.length → (had.getD p none = none → cs.getD p .any = .sc (.pointer none)) ∧
    ∀ s, had.getD p none = some s → ∃ j z, cs.getD p .any = .ptr j 0 ∧ j ≠ hid ∧ st[j]? = some (.cells [i64 s.depth, .slice .imm z (s.marks.map mkSV)]) ∧ (s.marks ≠ [] → z = 2)
theorem HadAt.app {st : St} {cs : List SV} {hid : Nat} {had : List (Option Sta)} (h : HadAt st cs hid had) (ex : St) : HadAt (st ++ ex) cs hid had :=
  ⟨h.1, fun p hp => ⟨(h.2 p hp).1, fun s hs => by obtain ⟨j, z, h1, h2, h3, h4⟩ := (h.2 p hp).2 s hs; exact ⟨j, z, h1, h2, get_app h3 _, h4⟩⟩⟩
theorem HadAt.arr {st : St} {cs : List SV} {hid aid : Nat} {had : List (Option Sta)} (h : HadAt st cs hid had) {v z v' z' : Nat} {l l' : List SV} (ha : st[aid]? = some (.arr v z l)) : HadAt (st.set aid (.arr v' z' l')) cs hid had :=
  ⟨h.1, fun p hp => ⟨(h.2 p hp).1, fun s hs => by
    obtain ⟨j, z, h1, h2, h3, h4⟩ := (h.2 p hp).2 s hs
    refine ⟨j, z, h1, h2, ?_, h4⟩
    rw [set_get_ne (by rintro rfl; rw [ha] at h3; cases h3)]; exact h3⟩⟩
theorem HadAt.put {st : St} {cs : List SV} {hid : Nat} {had : List (Option Sta)} (h : HadAt st cs hid had) {p j z : Nat} {s : Sta} (hp : p < had.length) (hj : j ≠ hid) (hs : st[j]? = some (.cells [i64 s.depth, .slice .imm z (s.marks.map mkSV)])) (hz : s.marks ≠ [] → z = 2) :
    HadAt (st.set hid (.cells (cs.set p (.ptr j 0)))) (cs.set p (.ptr j 0)) hid (had.set p (some s)) := by
  refine ⟨by rw [List.length_set, List.length_set]; exact h.1, fun q hq => ?_⟩
  rw [List.length_set] at hq
  rw [getD_setO]
  by_cases e : p = q
  · subst e
    rw [if_pos ⟨rfl, hp⟩]
    refine ⟨fun e => (by cases e), fun s' e => ?_⟩
    cases e
    refine ⟨j, z, ?_, hj, by rw [set_get_ne hj]; exact hs, hz⟩
    have : p < cs.length := by rw [h.1]; exact hp
    simp [List.getD_eq_getElem?_getD, this]
  · rw [if_neg (fun k => e k.1)]
    have e2 : (cs.set p (.ptr j 0)).getD q .any = cs.getD q .any := by simp [List.getD_eq_getElem?_getD, List.getElem?_set_ne e]
    rw [e2]
    refine ⟨(h.2 q hq).1, fun s' e => ?_⟩
    obtain ⟨j', z', h1, h2, h3, h4⟩ := (h.2 q hq).2 s' e
    exact ⟨j', z', h1, h2, by rw [set_get_ne h2]; exact h3, h4⟩
/-- The loop's state. -/
structure WkI (c : Cd) (n : Nat) (f : Bd) (id hid aid N : Nat) (W : List SV) (st : St) (F : Option (List (Option Sta))) (b : Nat) (had : List (Option Sta)) (ls : List ((Int × Sta) × Nat)) (ver : Nat) (cs ac : List SV) (s : St) : Prop where
  walk : walkE c n b had (ls.map (·.1)).reverse = F
  fuel : ls.length + 2 * noneE had < b
  bN : b ≤ N
  len : had.length = f.code.length
  good : ∀ t ∈ ls, 0 ≤ t.1.1 ∧ GoodS (N - b) t.1.2 ∧ (t.1.2.marks ≠ [] → t.2 = 2)
  goodH : ∀ (p : Nat) (s : Sta), had.getD p none = some s → GoodS (N - b) s
  hidAt : s[hid]? = some (.cells cs)
  hadAt : HadAt s cs hid had
  aidAt : s[aid]? = some (.arr ver 3 ac)
  arr : ac.take (ls.length * 3) = ls.flatMap tgz
  idAt : s[id]? = some (.cells W)
  ex : ∃ ex, s = st ++ ex
theorem instr_b {l : List In} (h : l.all instrB = true) (p : Nat) : 0 ≤ (l.getD p default).b ∧ (l.getD p default).b ≤ 65535 := by
  by_cases hp : p < l.length
  · have := List.all_eq_true.1 h (l.getD p default) (by simp [List.getD_eq_getElem?_getD, hp])
    unfold instrB inB at this
    simp only [Bool.and_eq_true, decide_eq_true_eq] at this
    exact this.2.2.1
  · have e : l.getD p default = default := by simp [List.getD_eq_getElem?_getD, List.getElem?_eq_none (Nat.le_of_not_lt hp)]
    rw [e]
    exact ⟨by decide, by decide⟩
theorem rep_none {n p : Nat} : (List.replicate n (none : Option Sta)).getD p none = none := by
  rw [List.getD_eq_getElem?_getD, List.getElem?_replicate]
  split <;> rfl
theorem arr_last {ls : List ((Int × Sta) × Nat)} {t : (Int × Sta) × Nat} {ac : List SV} (h : ac.take ((ls ++ [t]).length * 3) = (ls ++ [t]).flatMap tgz) : (∃ r, ac.drop (ls.length * 3) = i64 t.1.1 :: i64 t.1.2.depth :: .slice .imm t.2 (t.1.2.marks.map mkSV) :: r) ∧ ac.take (ls.length * 3) = ls.flatMap tgz := by
  have hl : (ls.flatMap tgz).length = ls.length * 3 := flat_lenF tgz_len ls
  have e : ac = (ls.flatMap tgz ++ tgz t) ++ ac.drop ((ls ++ [t]).length * 3) := by
    have := List.take_append_drop ((ls ++ [t]).length * 3) ac
    rw [h] at this
    rw [List.flatMap_append, List.flatMap_cons, List.flatMap_nil, List.append_nil] at this
    exact this.symm
  rw [List.append_assoc] at e
  constructor
  · refine ⟨ac.drop ((ls ++ [t]).length * 3), ?_⟩
    have := congrArg (List.drop (ls.length * 3)) e
    rw [List.drop_left' hl] at this
    exact this
  · have := congrArg (List.take (ls.length * 3)) e
    rw [List.take_left' hl] at this
    exact this
end Go.AL
namespace Go.Proofs
open Go Go.AL
theorem Tryz.app110 {n : Nat} (h : n ≤ 1000000) : AppOk Tryz.prog 113 113 3 n := appOk_of Tryz.aelem113 Tryz.aelem113 Tryz.asize112 Tryz.azero112 rfl Tryz.abytes112 (by omega) h
theorem zero_had : ∀ n : Nat, zeroL (zerosOf Tryz.prog 84) n = List.replicate n (.sc (.pointer none))
  | 0 => rfl
  | n + 1 => by
    show zerosOf Tryz.prog 84 ++ zeroL (zerosOf Tryz.prog 84) n = _
    rw [zero_had n, List.replicate_succ]
    have : zerosOf Tryz.prog 84 = [.sc (.pointer none)] := by simp only [zerosOf, Tryz.aelem84, Option.bind_some, Tryz.azero114, Option.getD_some]
    rw [this]; rfl
section
variable {c : Cd} {m1 m2 m3 : AL.Mode} {z1 z2 z3 : Nat} {n : Nat} {f : Bd} {id : Nat} {st : St} {K : SV → St → Prop}
set_option maxHeartbeats 4000000 in
theorem walk_c (hw : st[id]? = some (.cells (wkCells c m1 m2 m3 z1 z2 z3 n f))) (hz : c.funs ≠ [] → z1 = 4) (hl : c.funs.length ≤ 1000) (hn : c.funs.getD n default = f) (hf : bodyB f = true)
    (h : K (.tuple [.any, .sc (.bool (walkEF c n).isSome)]) st) : ACalls Tryz.prog 28 [.ptr id 0] K st := by
  have w := cells_facts hw
  obtain ⟨F, hF⟩ : ∃ F, walkEF c n = F := ⟨_, rfl⟩
  rw [hF] at h
  have hbody := hf
  unfold bodyB at hbody
  simp only [Bool.and_eq_true] at hbody
  obtain ⟨_, _, hstk, hlen, hins⟩ := hbody
  have hstk := inB_le hstk
  have hlen := inB_le hlen
  have hpos := pos_of (c := c) (n := n) (by rw [hn]; exact (body_pos hf).1)
  have l1 : (f.code.length : Int) ≤ 4611686018427387904 := by omega
  have l2 : f.code.length * 8 ≤ 281474976710656 := by omega
  refine acalls_goB [1000019] Tryz.func28 rfl Tryz.results28 Tryz.ntmps28 ?_
  simp only [↓reduceIte, ↓c_condI, ↓c_seqH, ↓c_blockH, ↓then_nH, ↓then_rH, ↓then_eH, ↓block_nH, ↓block_rH, ↓block_eH, go_sem, w.1, w.2.1, w.2.2, wkCells, cdCells, insSV, List.length_map, l1, l2]
  refine awp_rounds [] (fun b e s => ∃ had ls ver cs ac, WkI c n f id st.length (st.length + 1) (2 * f.code.length + 2) (wkCells c m1 m2 m3 z1 z2 z3 n f) st F b had ls ver cs ac s ∧
    e = [.ptr id 0, .any, .any, .any, .slc st.length 1 0 f.code.length f.code.length, .arr (st.length + 1) ver ls.length, .any, .any, .any, .any, .any, .any, .any, .any, .any, .any, .any, .any, .any, .any, .any, .any, .any, .any, .any, .any, .any, .any, .any, .any, .any, .any, .any, .any, .any, .any, .any, .any, .any, .any, .any, .any, .any, .any, .any, .any, .any, .any, .any, .any, .any, .any, .any, .any, .any, .any, .any, .any, .any, .any, .any, .any, .any, .any, .any, .any, .any, .any, .any, .any, .any, .any, .any, .any, .any, .any, .any, .any, .any, .any, .any, .any, .any, .any, .any, .any, .any, .any, .any, .any]) (n := 2 * f.code.length + 2) ?_
    ⟨List.replicate f.code.length none, [((0, ⟨0, []⟩), 0)], 1, List.replicate f.code.length (.sc (.pointer none)), [i64 0, i64 0, .slice .imm 0 []], ?_, rfl⟩ ?_
  · repeat (first | exact leEnv_nil | refine leEnv_any _ ?_ | refine leEnv_same _ ?_ | refine leEnv_norm _ ?_)
  · unfold walkEF lenF at hF
    rw [hn] at hF
    refine ⟨hF, ?_, Nat.le_refl _, by simp, ?_, ?_, by simp [zero_had], ?_, by simp; rfl, by simp [tgz], get_app hw _, ⟨_, rfl⟩⟩
    · have : noneE (List.replicate f.code.length none) ≤ f.code.length := by
        unfold noneE
        exact Nat.le_trans List.countP_le_length (by simp)
      simp only [List.length_cons, List.length_nil]
      omega
    · intro t ht
      simp only [List.mem_singleton] at ht
      subst ht
      exact ⟨Int.le_refl _, ⟨by simp, by simp, by simp, by simp⟩, fun h => absurd rfl h⟩
    · intro p s hs
      rw [rep_none] at hs; cases hs
    · refine ⟨by simp, fun p hp => ⟨fun _ => ?_, fun s hs => ?_⟩⟩
      · simp only [List.length_replicate] at hp
        simp [List.getD_eq_getElem?_getD, hp]
      · rw [rep_none] at hs; cases hs
  rintro b e s ⟨had, ls, ver, cs, ac, I, rfl⟩
  have fin : ∀ (B : Bool) (X : SV) (s' : St), F.isSome = B → (∃ ex, s' = st ++ ex) → FinB st K (.tuple [X, .sc (.bool B)]) s' := fun B X s' e hex => ⟨X, B, rfl, hex, by rw [e] at h; exact h⟩
  obtain ⟨i1, i2, i3, i4, i5, i6, i7, i8, i9, i10, i11, ⟨ex, i12⟩⟩ := I
  obtain ⟨b, rfl⟩ : ∃ b', b = b' + 1 := ⟨b - 1, by omega⟩
  have a9 := arr_facts i9
  rcases List.eq_nil_or_concat ls with rfl | ⟨ls, t, rfl⟩
  · have hF1 : F.isSome = true := by rw [← i1]; rfl
    simp only [↓reduceIte, ↓c_condI, ↓c_seqH, ↓c_blockH, ↓then_nH, ↓then_rH, ↓then_eH, ↓block_nH, ↓block_rH, ↓block_eH, go_sem, List.length_nil, n0, a9.1, a9.2.1, a9.2.2.1, a9.2.2.2]
    exact fin _ _ _ hF1 ⟨ex, i12⟩
  rw [List.concat_eq_append] at i1 i2 i5 i10
  obtain ⟨⟨r, hdr⟩, htk⟩ := arr_last i10
  obtain ⟨⟨p, q⟩, z⟩ := t
  obtain ⟨p, rfl⟩ : ∃ m : Nat, p = (m : Int) := Int.eq_ofNat_of_zero_le (i5 _ (List.mem_append_right _ List.mem_cons_self)).1
  obtain ⟨hp0, hq, hzq⟩ := i5 _ (List.mem_append_right _ List.mem_cons_self)
  have i5 : ∀ x ∈ ls, _ := fun x hx => i5 x (List.mem_append_left _ hx)
  have hL : (ls ++ [(((p : Int), q), z)]).length = ls.length + 1 := by simp
  simp only [List.map_append, List.map_cons, List.map_nil, List.reverse_append, List.reverse_cons, List.reverse_nil, List.nil_append, List.singleton_append] at i1
  unfold walkE stepE at i1
  rw [hL] at i2
  simp only [hn, i4, Int.toNat_natCast] at i1 hp0 hq hzq hdr
  have hls : ls.length ≤ 1000 := by omega
  have w1 : IntKind.i64.wrap (((ls.length + 1 : Nat) : Int) - 1) = (ls.length : Int) := by rw [IntWalk.i64_in _ (by omega)]; omega
  have c1 : ((0 : Int) < ((ls.length + 1 : Nat) : Int)) = True := eq_true (by omega)
  have c2 : (((ls.length : Nat) : Int) < ((ls.length + 1 : Nat) : Int)) = True := eq_true (by omega)
  have c3 : (((ls.length : Nat) : Int) ≤ ((ls.length + 1 : Nat) : Int)) = True := eq_true (by omega)
  have hIn := inS_of i9
  have hIw := cells_facts i11
  have hIh := cells_facts i7
  obtain ⟨S1, hS1⟩ : ∃ S1, s ++ [Ob.cells [i64 (p : Int), i64 q.depth, .slice .imm z (q.marks.map mkSV)]] = S1 := ⟨_, rfl⟩
  have j7 : S1[st.length]? = some (.cells cs) := by rw [← hS1]; exact get_app i7 _
  have j8 : HadAt S1 cs st.length had := by rw [← hS1]; exact i8.app _
  have j9 : S1[st.length + 1]? = some (.arr ver 3 ac) := by rw [← hS1]; exact get_app i9 _
  have j11 : S1[id]? = some (.cells (wkCells c m1 m2 m3 z1 z2 z3 n f)) := by rw [← hS1]; exact get_app i11 _
  have j6 : S1[s.length]? = some (.cells [i64 (p : Int), i64 q.depth, .slice .imm z (q.marks.map mkSV)]) := by rw [← hS1]; simp
  obtain ⟨ex1, j12⟩ : ∃ ex1, S1 = st ++ ex1 := ⟨ex ++ [_], by rw [← hS1, i12, List.append_assoc]⟩
  have q6 := cells_facts j6
  have q7 := cells_facts j7
  have q9 := arr_facts j9
  have q11 := cells_facts j11
  have hcl : cs.length = f.code.length := i8.1.trans i4
  have hcase : had.getD p none = none ∨ ∃ q', had.getD p none = some q' := by cases had.getD p none with | none => exact .inl rfl | some q' => exact .inr ⟨q', rfl⟩
  have hnx : nextF c n p q = none ∨ ∃ m, nextF c n p q = some m := by cases nextF c n p q with | none => exact .inl rfl | some q' => exact .inr ⟨q', rfl⟩
  have hltH : st.length < s.length := lt_of_get i7
  have hltI : id < st.length := lt_of_get hw
  have hS1l : S1.length = s.length + 1 := by rw [← hS1]; simp
  simp only [↓reduceIte, ↓c_condI, ↓c_seqH, ↓c_blockH, ↓then_nH, ↓then_rH, ↓then_eH, ↓block_nH, ↓block_rH, ↓block_eH, go_sem, List.length_concat, a9.1, a9.2.1, a9.2.2.1, a9.2.2.2, c1, c2, c3, w1, hdr, hS1, q9.1, q9.2.1, q9.2.2.1, q9.2.2.2]
  refine ⟨rfl, ?_⟩
  refine awp_draw [] Tryz.mixed rfl ?_
  by_cases k1 : (f.code.length : Int) ≤ (p : Int)
  · rw [if_pos (.inl k1)] at i1
    have hF1 : F.isSome = false := by rw [← i1]; rfl
    simp only [↓reduceIte, ↓c_condI, ↓c_seqH, ↓c_blockH, ↓then_nH, ↓then_rH, ↓then_eH, ↓block_nH, ↓block_rH, ↓block_eH, go_sem, q6.1, q6.2.1, q6.2.2, k1]
    exact fin _ _ _ hF1 ⟨ex1, j12⟩
  by_cases k2 : f.stack < q.depth
  · rw [if_pos (.inr k2)] at i1
    have hF1 : F.isSome = false := by rw [← i1]; rfl
    simp only [↓reduceIte, ↓c_condI, ↓c_seqH, ↓c_blockH, ↓then_nH, ↓then_rH, ↓then_eH, ↓block_nH, ↓block_rH, ↓block_eH, go_sem, q6.1, q6.2.1, q6.2.2, k1, q11.1, q11.2.1, q11.2.2, wkCells, cdCells, k2]
    exact fin _ _ _ hF1 ⟨ex1, j12⟩
  rw [if_neg (by omega)] at i1
  have hpl : p < had.length := by omega
  have hpi : (p : Int) < (f.code.length : Int) := by omega
  obtain ⟨g0, g1⟩ := i8.2 _ hpl
  have hq60 : q.depth ≤ 60 := by omega
  have hbb : 0 ≤ (f.code.getD p default).b ∧ (f.code.getD p default).b ≤ 65535 := instr_b hins _
  have hpc : p < cs.length := by omega
  have hcell : cellsOf Tryz.prog 114 (cs.drop p) = some (cs.getD p .any) := by
    have : 0 < (cs.drop p).length := by rw [List.length_drop]; omega
    simp only [cellsOf, Tryz.aagg114, this, if_true]
    simp [List.getD_eq_getElem?_getD]
  refine hcase.elim (fun hh => ?_) (fun hh => ?_)
  · rw [hh] at i1
    have hnil := g0 hh
    have hput : cs.take p ++ .ptr S1.length 0 :: cs.drop (p + 1) = cs.set p (.ptr S1.length 0) := by rw [List.set_eq_take_append_cons_drop, if_pos hpc]
    obtain ⟨S2, hS2⟩ : ∃ S2, S1.set st.length (.cells (cs.set p (.ptr S1.length 0))) ++ [Ob.cells [i64 q.depth, .slice .imm z (q.marks.map mkSV)]] = S2 := ⟨_, rfl⟩
    have hS2' : (S1 ++ [Ob.cells [i64 q.depth, .slice .imm z (q.marks.map mkSV)]]).set st.length (.cells (cs.set p (.ptr S1.length 0))) = S2 := by rw [List.set_append_left _ _ (by omega)]; exact hS2
    have u6 : S2[s.length]? = some (.cells [i64 (p : Int), i64 q.depth, .slice .imm z (q.marks.map mkSV)]) := by rw [← hS2']; rw [set_get_ne (by omega)]; exact get_app j6 _
    have u9 : S2[st.length + 1]? = some (.arr ver 3 ac) := by rw [← hS2']; rw [set_get_ne (by omega)]; exact get_app j9 _
    have u11 : S2[id]? = some (.cells (wkCells c m1 m2 m3 z1 z2 z3 n f)) := by rw [← hS2']; rw [set_get_ne (by omega)]; exact get_app j11 _
    have u7 : S2[st.length]? = some (.cells (cs.set p (.ptr S1.length 0))) := by rw [← hS2']; rw [set_get (by simp; omega)]
    have u5 : S2[S1.length]? = some (.cells [i64 q.depth, .slice .imm z (q.marks.map mkSV)]) := by rw [← hS2]; simp
    have u8 : HadAt S2 (cs.set p (.ptr S1.length 0)) st.length (had.set p (some q)) := by
      rw [← hS2']
      exact (j8.app _).put hpl (by omega) (by simp) hzq
    obtain ⟨ex2, u12⟩ : ∃ ex2, S2 = st ++ ex2 := by
      refine ⟨(ex1.set 0 (.cells (cs.set p (.ptr S1.length 0)))) ++ [Ob.cells [i64 q.depth, .slice .imm z (q.marks.map mkSV)]], ?_⟩
      rw [← hS2, j12, ← List.append_assoc]
      congr 1
      rw [List.set_append_right _ _ (Nat.le_refl _), Nat.sub_self]
    have v5 := cells_facts u5
    have v6 := cells_facts u6
    have v9 := arr_facts u9
    have hpc1 : p + 1 ≤ cs.length := by omega
    simp only [↓reduceIte, ↓c_condI, ↓c_seqH, ↓c_blockH, ↓then_nH, ↓then_rH, ↓then_eH, ↓block_nH, ↓block_rH, ↓block_eH, go_sem, q6.1, q6.2.1, q6.2.2, k1, q11.1, q11.2.1, q11.2.2, wkCells, cdCells, k2, hpi, hp0, q7.1, q7.2.1, q7.2.2, Nat.mul_one, Int.toNat_natCast, hcell, hnil, hpc, hput, hS2, v5.1, v5.2.1, v5.2.2, v6.1, v6.2.1, v6.2.2, hpc1]
    refine acalls_args (args' := [.ptr id 0, i64 (p : Int), staSV q]) (.cons (SVle.refl _) (.cons (SVle.refl _) (.cons (SVle.agg (.cons (SVle.refl _) (.cons (sle_slice (fun hn => hzq (fun e => hn (by rw [e]; rfl))) (.inl rfl)) .nil))) .nil))) ?_
    refine next_c u11 hz hl hn p (by omega) (by omega) q hq (by omega) hq60 hbb (fun e X => ?_) (fun m e z' hz' => ?_)
    · rw [e] at i1
      have hF1 : F.isSome = false := by rw [← i1]; rfl
      simp only [↓reduceIte, ↓c_condI, ↓c_seqH, ↓c_blockH, ↓then_nH, ↓then_rH, ↓then_eH, ↓block_nH, ↓block_rH, ↓block_eH, go_sem]
      exact fin _ _ _ hF1 ⟨ex2, u12⟩
    · rw [e] at i1
      have hml := next_len e
      have hgo := go_good (c := c) (n := n) (p := p) hq hq60 (by rw [hn]; exact hbb) e
      have hps := hpos _ _ _ e
      have happ := Tryz.app110 (n := ls.length + m.length) (by omega)
      have hel : ∀ x ∈ m.map tgSV, elemOk x = true := fun x hx => by obtain ⟨a, _, rfl⟩ := List.mem_map.1 hx; rfl
      have hzz : m.map tgSV = [] ∨ z' = 3 := by
        by_cases hm : m = []
        · left; rw [hm]; rfl
        · exact .inr (hz' hm)
      simp only [↓reduceIte, ↓c_condI, ↓c_seqH, ↓c_blockH, ↓then_nH, ↓then_rH, ↓then_eH, ↓block_nH, ↓block_rH, ↓block_eH, go_sem, v9.1, v9.2.1, v9.2.2.1, v9.2.2.2, List.length_map, htk, tgz_tg]
      have hlen2 : (ls ++ m.map fun t => (t, 2)).length = ls.length + m.length := by simp
      refine ⟨hzz, happ, hel, b, [.ptr id 0, .any, .any, .any, .slc st.length 1 0 f.code.length f.code.length, .arr (st.length + 1) (ver + 1) (ls.length + m.length), .any, .any, .any, .any, .any, .any, .any, .any, .any, .any, .any, .any, .any, .any, .any, .any, .any, .any, .any, .any, .any, .any, .any, .any, .any, .any, .any, .any, .any, .any, .any, .any, .any, .any, .any, .any, .any, .any, .any, .any, .any, .any, .any, .any, .any, .any, .any, .any, .any, .any, .any, .any, .any, .any, .any, .any, .any, .any, .any, .any, .any, .any, .any, .any, .any, .any, .any, .any, .any, .any, .any, .any, .any, .any, .any, .any, .any, .any, .any, .any, .any, .any, .any, .any], by omega, ?_, had.set p (some q), ls ++ m.map (fun t => (t, 2)), ver + 1, cs.set p (.ptr S1.length 0), ls.flatMap tgz ++ (m.map fun t => (t, 2)).flatMap tgz, ?_, by rw [hlen2]⟩
      · repeat (first | exact leEnv_nil | refine leEnv_any _ ?_ | refine leEnv_same _ ?_ | refine leEnv_norm _ ?_)
      have hnn := noneE_set (s := q) hpl hh
      have hal := lt_of_get u9
      refine ⟨?_, ?_, by omega, by rw [List.length_set]; exact i4, ?_, ?_, by rw [set_get_ne (by omega)]; exact u7, u8.arr u9, by rw [set_get hal], ?_, by rw [set_get_ne (by omega)]; exact u11, ?_⟩
      · rw [← i1]
        simp [List.map_append, List.reverse_append, Function.comp_def]
      · rw [hlen2]; omega
      · intro t ht
        rcases List.mem_append.1 ht with ht | ht
        · obtain ⟨y1, y2, y3⟩ := i5 t ht
          exact ⟨y1, y2.mono (by omega), y3⟩
        · obtain ⟨x, hx, rfl⟩ := List.mem_map.1 ht
          refine ⟨hps x hx, ?_, fun _ => rfl⟩
          have := hgo x hx
          rw [show 2 * f.code.length + 2 - (b + 1) + 1 = 2 * f.code.length + 2 - b by omega] at this
          exact this
      · intro p' s' hs'
        rw [getD_setO] at hs'
        split at hs'
        · cases hs'; exact hq.mono (by omega)
        · exact (i6 p' s' hs').mono (by omega)
      · have e1 : (ls.flatMap tgz ++ (m.map fun t => (t, 2)).flatMap tgz) = (ls ++ m.map fun t => (t, 2)).flatMap tgz := by rw [List.flatMap_append]
        rw [e1]
        refine List.take_of_length_le ?_
        rw [flat_lenF tgz_len]
        exact Nat.le_refl _
      · refine ⟨ex2.set 1 (.arr (ver + 1) 3 (ls.flatMap tgz ++ (m.map fun t => (t, 2)).flatMap tgz)), ?_⟩
        rw [u12, List.set_append_right _ _ (by omega)]
        simp
  · obtain ⟨q', hh⟩ := hh
    rw [hh] at i1
    obtain ⟨j, z', hj1, hj2, hj3, hj4⟩ := (j8.2 _ hpl).2 _ hh
    have qj := cells_facts hj3
    simp only at i1
    simp only [↓reduceIte, ↓c_condI, ↓c_seqH, ↓c_blockH, ↓then_nH, ↓then_rH, ↓then_eH, ↓block_nH, ↓block_rH, ↓block_eH, go_sem, q6.1, q6.2.1, q6.2.2, k1, q11.1, q11.2.1, q11.2.2, wkCells, cdCells, k2, hpi, hp0, q7.1, q7.2.1, q7.2.2, Nat.mul_one, Int.toNat_natCast, hcell, hj1, hpc]
    refine awp_draw [] Tryz.mixed rfl ?_
    simp only [↓reduceIte, ↓c_condI, ↓c_seqH, ↓c_blockH, ↓then_nH, ↓then_rH, ↓then_eH, ↓block_nH, ↓block_rH, ↓block_eH, go_sem, q6.1, q6.2.1, q6.2.2, hpi, hp0, q7.1, q7.2.1, q7.2.2, Nat.mul_one, Int.toNat_natCast, hcell, hj1, hpc, qj.1, qj.2.1, qj.2.2]
    rw [dk_eff]
    refine ⟨.sc (.bool (decide (q' = q))), ?_, ?_⟩
    · simp only [↓reduceIte, ↓c_condI, ↓c_seqH, ↓c_blockH, ↓then_nH, ↓then_rH, ↓then_eH, ↓block_nH, ↓block_rH, ↓block_eH, go_sem]
      refine acalls_args (args' := [staSV q', staSV q]) (.cons (SVle.agg (.cons (SVle.refl _) (.cons (sle_slice (fun hn => hj4 (fun e => hn (by rw [e]; rfl))) (.inl rfl)) .nil))) (.cons (SVle.agg (.cons (SVle.refl _) (.cons (sle_slice (fun hn => hzq (fun e => hn (by rw [e]; rfl))) (.inl rfl)) .nil))) .nil)) ?_
      refine same_c q' q (by have := (i6 _ _ hh).2.2.2; omega) (by have := hq.2.2.2; omega) _ _ ?_
      exact ⟨⟨[], by simp⟩, .sc _, .inl rfl⟩
    by_cases he : q' = q
    · rw [if_pos he] at i1
      simp only [↓reduceIte, ↓c_condI, ↓c_seqH, ↓c_blockH, ↓then_nH, ↓then_rH, ↓then_eH, ↓block_nH, ↓block_rH, ↓block_eH, go_sem, he, decide_true]
      refine ⟨b, [.ptr id 0, .any, .any, .any, .slc st.length 1 0 f.code.length f.code.length, .arr (st.length + 1) ver ls.length, .any, .any, .any, .any, .any, .any, .any, .any, .any, .any, .any, .any, .any, .any, .any, .any, .any, .any, .any, .any, .any, .any, .any, .any, .any, .any, .any, .any, .any, .any, .any, .any, .any, .any, .any, .any, .any, .any, .any, .any, .any, .any, .any, .any, .any, .any, .any, .any, .any, .any, .any, .any, .any, .any, .any, .any, .any, .any, .any, .any, .any, .any, .any, .any, .any, .any, .any, .any, .any, .any, .any, .any, .any, .any, .any, .any, .any, .any, .any, .any, .any, .any, .any, .any], by omega, ?_, had, ls, ver, cs, ac, ?_, rfl⟩
      · repeat (first | exact leEnv_nil | refine leEnv_any _ ?_ | refine leEnv_same _ ?_ | refine leEnv_norm _ ?_)
      refine ⟨i1, by omega, by omega, i4, fun t ht => ?_, fun p' s' hs' => (i6 p' s' hs').mono (by omega), j7, j8, j9, htk, j11, ⟨ex1, j12⟩⟩
      obtain ⟨y1, y2, y3⟩ := i5 t ht
      exact ⟨y1, y2.mono (by omega), y3⟩
    · rw [if_neg he] at i1
      have hF1 : F.isSome = false := by rw [← i1]; rfl
      simp only [↓reduceIte, ↓c_condI, ↓c_seqH, ↓c_blockH, ↓then_nH, ↓then_rH, ↓then_eH, ↓block_nH, ↓block_rH, ↓block_eH, go_sem, he, decide_false]
      exact fin _ _ _ hF1 ⟨ex1, j12⟩
end
end Go.Proofs
