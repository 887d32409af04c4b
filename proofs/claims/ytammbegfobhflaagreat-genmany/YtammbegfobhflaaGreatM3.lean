/- here, look; the maps of the layer. -/
import Derived.Test.YtammbegfobhflaaGreatM2
import Derived.Test.YtammbegfobhflaaGreatM1
set_option linter.all false
set_option linter.unusedSimpArgs false
set_option linter.unusedVariables false
set_option maxRecDepth 8000
namespace Go.AL
theorem here_len (p : Nat) (g : GS) : (hereG p g).code.length = g.code.length := by simp [hereG]
theorem heres_len : ∀ (l : List Nat) (g : GS), (heresG l g).code.length = g.code.length
  | [], g => rfl
  | p :: l, g => by
    show (heresG l (hereG p g)).code.length = _
    rw [heres_len l, here_len]
theorem heres_snoc (l : List Nat) (p : Nat) (g : GS) : heresG (l ++ [p]) g = hereG p (heresG l g) := by simp [heresG]
theorem splice_b {c : List In} {p : Nat} (h : p < c.length) (x : Int) : splice (codeCells c) (p * 3 + 2) [i64 x] = codeCells (c.set p ⟨(c.getD p default).op, (c.getD p default).a, x⟩) := by
  rw [codeCells_set _ _ _ h]
  obtain ⟨r, hr⟩ := codeCells_drop c p h
  unfold splice
  rw [List.take_add, hr]
  simp [inCells]
theorem splice_a {c : List In} {p : Nat} (h : p < c.length) (x : Int) : splice (codeCells c) (p * 3 + 1) [i64 x] = codeCells (c.set p ⟨(c.getD p default).op, x, (c.getD p default).b⟩) := by
  rw [codeCells_set _ _ _ h]
  have e := code_at h 2 (by omega)
  have e3 := code_at h 0 (by omega)
  have hd : (codeCells c).drop (p * 3 + 2) = i64 (c.getD p default).b :: (codeCells c).drop (p * 3 + 3) := by
    rw [e, show p * 3 + 3 = (p + 1) * 3 by omega]; rfl
  obtain ⟨r, hr⟩ := codeCells_drop c p h
  unfold splice
  rw [List.take_add, hr]
  simp only [List.length_singleton, inCells]
  rw [show p * 3 + 1 + 1 = p * 3 + 2 by omega, hd]
  simp
end Go.AL
namespace Go.Proofs
open Go Go.AL
/-- A number of an instruction is written. -/
theorem wr_stW {s : St} {L : WL} {g : GS} {v : GV} (h : AtW s L g v) {c : List In} (hc : c.length = g.code.length) : s.set L.a (.arr v.ver 3 (codeCells c)) = stW s L ⟨c, g.ints, g.texts⟩ v := by
  have a := lt_of_get h.a
  refine stW_of (by simp) (fun j hj => by rw [set_get_ne hj.2.2.1]) h ⟨?_, ?_, ?_, ?_, ?_⟩
  · rw [set_get_ne h.nwa, h.w]; simp [wOb, hc]
  · rw [set_get_ne h.npa, h.p]; rfl
  · rw [set_get a]
  · rw [set_get_ne h.nai.symm, h.ti]
  · rw [set_get_ne h.nat.symm, h.tt]
set_option maxHeartbeats 4000000 in
theorem here_c {s : St} {L : WL} {g : GS} {v : GV} (hA : AtW s L g v) (m : AL.Mode) (z : Nat) (l : List Nat) (hz : l ≠ [] → z = 1) (hl : l.length ≤ 100000) (hg : g.code.length ≤ 100000) (hin : ∀ p ∈ l, p < g.code.length) (K : SV → St → Prop)
    (h : K (.tuple []) (stW s L (heresG l g) v)) : ACalls Tryz.prog 48 [.ptr L.w 0, .slice m z (l.map fun p : Nat => i64 (p : Int))] K s := by
  refine acalls_go_mod [] Tryz.func48 rfl Tryz.results48 Tryz.ntmps48 ?_
  simp only [go_sem, List.length_map]
  refine awp_rounds [] (fun b e t => ∃ k, k + b = l.length ∧ e = [.ptr L.w 0, .any, .any, .any, .any, .any, .slice m z (l.map fun p : Nat => i64 (p : Int)), i64 l.length, i64 k, .any, .any, .any, .any, .any, .any, .any, .any, .any, .any, .any, .any, .any, .any, .any, .any, .any, .any, .any, .any, .any, .any, .any, .any, .any, .any, .any, .any, .any, .any, .any, .any, .any, .any, .any, .any, .any] ∧ t = stW s L (heresG (l.take k) g) v) (n := l.length) ?_ ⟨0, by omega, rfl, (stW_self hA).symm⟩ ?_
  · repeat (first | exact leEnv_nil | refine leEnv_any _ ?_ | refine leEnv_same _ ?_ | refine leEnv_norm _ ?_)
  rintro b e t ⟨k, hk, rfl, rfl⟩
  by_cases hlt : k < l.length
  · have c1 : (k : Int) < (l.length : Int) := by omega
    have hw : IntKind.i64.wrap ((k : Int) + 1) = ((k + 1 : Nat) : Int) := by rw [IntWalk.i64_in _ (by omega)]; rfl
    obtain rfl := hz (by intro e; subst e; cases hlt)
    have hp := hin l[k] (List.getElem_mem hlt)
    have hgt : (l.map fun p : Nat => i64 (p : Int)).getD k .any = i64 (l[k] : Nat) := by simp [List.getD_eq_getElem?_getD, hlt]
    have hsn : heresG (l.take (k + 1)) g = hereG l[k] (heresG (l.take k) g) := by rw [List.take_succ_eq_append_getElem hlt, heres_snoc]
    obtain ⟨g', hg'⟩ : ∃ g', heresG (l.take k) g = g' := ⟨_, rfl⟩
    have hlen : g'.code.length = g.code.length := by rw [← hg', heres_len]
    rw [hg'] at hsn
    rw [hg']
    have hA' := hA.turn g' v
    obtain ⟨⟨w1, w2, w3⟩, -, ⟨a1, a2, a3, a4⟩, -, -⟩ := hA'.facts
    generalize l[k] = p at hp hgt hsn
    have e0 := code_at (l := g'.code) (k := p) (by omega) 0 (by omega)
    have e1 := code_at (l := g'.code) (k := p) (by omega) 1 (by omega)
    have e2 := code_at (l := g'.code) (k := p) (by omega) 2 (by omega)
    have hpi : (p : Int) < (g'.code.length : Int) := by omega
    simp only [inCells, List.drop_zero, List.drop_succ_cons, List.cons_append, List.nil_append, Nat.add_zero] at e0 e1 e2
    simp only [go_sem, c1, hw, hgt, w1, w2, w3, a1, a2, a3, a4, wOb, hpi, e0]
    have hcl := codeCells_len g'.code
    have e18 : ∀ c, ((g'.code.getD p default).op == 18) = c → hereG p g' = ⟨g'.code.set p (if c = true then ⟨(g'.code.getD p default).op, (g'.code.getD p default).a, g'.code.length⟩ else ⟨(g'.code.getD p default).op, g'.code.length, (g'.code.getD p default).b⟩), g'.ints, g'.texts⟩ := by
      intro c hc
      unfold hereG
      by_cases e : (g'.code.getD p default).op = 18
      · have : c = true := by rw [← hc, e]; rfl
        subst this
        show (⟨g'.code.set p (if (g'.code.getD p default).op = 18 then _ else _), _, _⟩ : GS) = _
        rw [if_pos e, if_pos rfl]
      · have : c = false := by rw [← hc]; exact beq_eq_false_iff_ne.2 e
        subst this
        show (⟨g'.code.set p (if (g'.code.getD p default).op = 18 then _ else _), _, _⟩ : GS) = _
        rw [if_neg e, if_neg Bool.false_ne_true]
    have b1 : p * 3 + 1 + 1 ≤ (codeCells g'.code).length := by omega
    have b2 : p * 3 + 2 + 1 ≤ (codeCells g'.code).length := by omega
    refine ⟨fun hc => ?_, fun hc => ?_⟩
    · have key := wr_stW hA' (c := g'.code.set p ⟨(g'.code.getD p default).op, (g'.code.getD p default).a, g'.code.length⟩) (by simp)
      rw [stW_stW hA] at key
      have e := e18 true hc
      rw [if_pos rfl] at e
      rw [← splice_b (by omega)] at key
      refine awp_drawW [] [(0, []), (0, []), (0, []), (0, []), (0, []), (0, []), (0, []), (0, []), (0, []), (0, []), (0, []), (0, []), (1, [13])] Tryz.mixed rfl ?_
      simp only [go_sem, drawW_n, drawW_0, drawW_1, drawW_2, drawW_3, pend_n, pend_c, headD_c, isStore_s, List.length_nil, List.length_cons, Nat.zero_add, n0, n1, n2, Nat.reduceAdd, hpi, w1, w2, w3, a1, a2, a3, a4, wOb, b2, hw]
      refine ⟨b - 1, _, by omega, ?_, k + 1, by omega, rfl, ?_⟩
      · repeat (first | exact leEnv_nil | refine leEnv_any _ ?_ | refine leEnv_same _ ?_ | refine leEnv_norm _ ?_)
      · rw [hsn, e, ← key]; simp [splice]
    · have key := wr_stW hA' (c := g'.code.set p ⟨(g'.code.getD p default).op, g'.code.length, (g'.code.getD p default).b⟩) (by simp)
      rw [stW_stW hA] at key
      have e := e18 false hc
      rw [if_neg (by decide)] at e
      rw [← splice_a (by omega)] at key
      refine awp_drawW [] [(0, []), (0, []), (0, []), (0, []), (0, []), (0, []), (0, []), (0, []), (0, []), (0, []), (0, []), (0, []), (1, [13])] Tryz.mixed rfl ?_
      simp only [go_sem, drawW_n, drawW_0, drawW_1, drawW_2, drawW_3, pend_n, pend_c, headD_c, isStore_s, List.length_nil, List.length_cons, Nat.zero_add, n0, n1, n2, Nat.reduceAdd, hpi, w1, w2, w3, a1, a2, a3, a4, wOb, b1, hw]
      refine ⟨b - 1, _, by omega, ?_, k + 1, by omega, rfl, ?_⟩
      · repeat (first | exact leEnv_nil | refine leEnv_any _ ?_ | refine leEnv_same _ ?_ | refine leEnv_norm _ ?_)
      · rw [hsn, e, ← key]; simp [splice]
  · obtain rfl : k = l.length := by omega
    have c1 : ((l.length : Int) < (l.length : Int)) = False := eq_false (by omega)
    simp only [go_sem, c1, List.take_length]
    have := fin_W hA (x := .tuple []) (ex := []) rfl (.tuple _ (fun i hi => by cases hi)) h
    rw [List.append_nil] at this
    exact this
/-! look. -/
theorem put_len (op a b : Int) (g : GS) (h : g.code.length ≤ 401) : (putG op a b g).code.length ≤ 401 := by
  unfold putG; split
  · simp; omega
  · exact h
def looksG (l : List Int) (g : GS) : GS := l.foldl (fun g i => putG 12 i 0 g) g
theorem looks_snoc (l : List Int) (i : Int) (g : GS) : looksG (l ++ [i]) g = putG 12 i 0 (looksG l g) := by simp [looksG]
theorem looks_len : ∀ (l : List Int) (g : GS), g.code.length ≤ 401 → (looksG l g).code.length ≤ 401
  | [], g, h => h
  | i :: l, g, h => looks_len l _ (put_len 12 i 0 g h)
set_option maxHeartbeats 4000000 in
theorem look_c {s : St} {L : WL} {g : GS} {v : GV} (hA : AtW s L g v) (loc : Int) (m : AL.Mode) (z : Nat) (l : List Int) (hz : l ≠ [] → z = 1) (hl : l.length ≤ 100000) (hg : g.code.length ≤ 401) (K : SV → St → Prop)
    (h : ∀ v', K (.tuple []) (stW s L (lookG loc l g) v')) : ACalls Tryz.prog 67 [.ptr L.w 0, i64 loc, .slice m z (l.map i64)] K s := by
  refine acalls_go_mod [] Tryz.func67 rfl Tryz.results67 Tryz.ntmps67 ?_
  simp only [go_sem]
  refine put_c hA 3 _ 1 [loc] (fun _ => rfl) (by simp) (by omega) _ fun v1 => ?_
  obtain ⟨g1, hg1⟩ : ∃ g1, putG 3 loc 0 g = g1 := ⟨_, rfl⟩
  have hl1 : g1.code.length ≤ 401 := by rw [← hg1]; exact put_len _ _ _ _ hg
  have hlk : lookG loc l g = looksG l g1 := by rw [← hg1]; rfl
  rw [hlk] at h
  simp only [go_sem, List.length_map, List.getD_cons_zero, List.getD_cons_succ, List.getD_nil, hg1]
  refine awp_rounds [] (fun b e t => ∃ k v2, k + b = l.length ∧ e = [.ptr L.w 0, .any, .any, .any, .any, .any, .any, .any, .any, .any, .any, .any, .slice m z (l.map i64), i64 l.length, i64 k, .any, .any, .any, .any, .any, .any, .any, .any] ∧ t = stW s L (looksG (l.take k) g1) v2) (n := l.length) ?_ ⟨0, v1, by omega, rfl, rfl⟩ ?_
  · repeat (first | exact leEnv_nil | refine leEnv_any _ ?_ | refine leEnv_same _ ?_ | refine leEnv_norm _ ?_)
  rintro b e t ⟨k, v2, hk, rfl, rfl⟩
  by_cases hlt : k < l.length
  · have c1 : (k : Int) < (l.length : Int) := by omega
    have hw : IntKind.i64.wrap ((k : Int) + 1) = ((k + 1 : Nat) : Int) := by rw [IntWalk.i64_in _ (by omega)]; rfl
    obtain rfl := hz (by intro e; subst e; cases hlt)
    have hgt : (l.map i64).getD k .any = i64 l[k] := by simp [List.getD_eq_getElem?_getD, hlt]
    have hsn : looksG (l.take (k + 1)) g1 = putG 12 l[k] 0 (looksG (l.take k) g1) := by rw [List.take_succ_eq_append_getElem hlt, looks_snoc]
    have hlen := looks_len (l.take k) g1 hl1
    simp only [go_sem, c1, hw, hgt]
    refine put_c (hA.turn _ _) 12 _ 1 [l[k]] (fun _ => rfl) (by simp) (by omega) _ fun v3 => ?_
    simp only [go_sem, List.getD_cons_zero, List.getD_cons_succ, List.getD_nil, stW_stW hA, ← hsn, hw]
    refine ⟨b - 1, _, by omega, ?_, k + 1, v3, by omega, rfl, rfl⟩
    repeat (first | exact leEnv_nil | refine leEnv_any _ ?_ | refine leEnv_same _ ?_ | refine leEnv_norm _ ?_)
  · obtain rfl : k = l.length := by omega
    have c1 : ((l.length : Int) < (l.length : Int)) = False := eq_false (by omega)
    simp only [go_sem, c1, List.take_length]
    have := fin_W hA (x := .tuple []) (ex := []) rfl (.tuple _ (fun i hi => by cases hi)) (h v2)
    rw [List.append_nil] at this
    exact this
end Go.Proofs
set_option linter.unusedSimpArgs false
set_option linter.unusedVariables false
set_option maxRecDepth 8000
namespace Go.AL
variable {P : Program}
theorem put_last {t kt e : TypeId} (hm : aMap P t = some (kt, .int .i64, e)) {st : St} {es : List (Value × SV)} {n : Int} {v : SV} {N : St → Prop} (hk : IntKeys es) :
    putSpec P t (st ++ [.map es]) (.mp st.length) (.sc (.int .i64 n)) v N = N (st ++ [.map (mapPut es (.int .i64 n) v)]) := by
  rw [put_int hm (by simp [mapAt]) hk]; simp
theorem intKeys_nil' : IntKeys [] = True := eq_true intKeys_nil
theorem intKeys_put' {es : List (Value × SV)} (h : IntKeys es) {n : Int} {v : SV} : IntKeys (mapPut es (.int .i64 n) v) = True := eq_true (intKeys_put h n v)
def readersEs : List (Value × SV) := [(.int .i64 10, .func (.func 41) [] []), (.int .i64 15, .func (.func 42) [] []), (.int .i64 11, .func (.func 43) [] []), (.int .i64 12, .func (.func 44) [] []), (.int .i64 9, .func (.func 45) [] [])]
def numMap (l : List (Int × Int)) : List (Value × SV) := l.map fun p => (.int .i64 p.1, i64 p.2)
theorem numMap_int (l : List (Int × Int)) : IntKeys (numMap l) := by
  intro q hq
  obtain ⟨p, _, rfl⟩ := List.mem_map.1 hq
  exact ⟨p.1, rfl⟩
theorem readers_int : IntKeys readersEs := by
  intro q hq
  simp only [readersEs, List.mem_cons, List.not_mem_nil, or_false] at hq
  rcases hq with rfl | rfl | rfl | rfl | rfl <;> exact ⟨_, rfl⟩
theorem keyEq_int (a b : Int) : keyEq (.int .i64 a) (.int .i64 b) = decide (a = b) := by simp [keyEq, keyEq1]
theorem getOr_num (l : List (Int × Int)) (k : Int) : getOr (numMap l) (i64 0) k = (i64 (lookL l k), (l.any fun p => p.1 == k)) := by
  unfold getOr lookL keyIdx
  induction l with
  | nil => rfl
  | cons p r ih =>
    unfold numMap at ih ⊢
    rw [List.map_cons, List.findIdx?_cons]
    simp only [keyEq_int]
    by_cases e : p.1 = k
    · simp [e]
    · have e' : ¬ k = p.1 := fun h => e h.symm
      have e2 : (p.1 == k) = false := beq_eq_false_iff_ne.2 e
      simp only [e', decide_false, Bool.false_eq_true, if_false, List.find?_cons, e2, List.any_cons, Bool.false_or]
      rw [← ih]
      generalize List.findIdx? _ _ = o
      cases o <;> rfl
end Go.AL
namespace Go.Proofs
open Go Go.AL
theorem plain_c (K : SV → St → Prop) (st : St) (h : K (.mp st.length) (st ++ [.map (numMap plainL)])) : ACalls Tryz.prog 50 [] K st := by
  refine acalls_go (M := []) Tryz.func50 rfl Tryz.results50 Tryz.ntmps50 ?_
  simp (maxDischargeDepth := 20) only [go_sem, put_last Tryz.amap100, intKeys_nil', intKeys_put']
  exact h
theorem numbered_c (K : SV → St → Prop) (st : St) (h : K (.mp st.length) (st ++ [.map (numMap numberedL)])) : ACalls Tryz.prog 51 [] K st := by
  refine acalls_go (M := []) Tryz.func51 rfl Tryz.results51 Tryz.ntmps51 ?_
  simp (maxDischargeDepth := 20) only [go_sem, put_last Tryz.amap100, intKeys_nil', intKeys_put']
  exact h
theorem counted_c (K : SV → St → Prop) (st : St) (h : K (.mp st.length) (st ++ [.map (numMap countedL)])) : ACalls Tryz.prog 52 [] K st := by
  refine acalls_go (M := []) Tryz.func52 rfl Tryz.results52 Tryz.ntmps52 ?_
  simp (maxDischargeDepth := 20) only [go_sem, put_last Tryz.amap100, intKeys_nil', intKeys_put']
  exact h
theorem readers_c (K : SV → St → Prop) (st : St) (h : K (.mp st.length) (st ++ [.map readersEs])) : ACalls Tryz.prog 16 [] K st := by
  refine acalls_go (M := []) Tryz.func16 rfl Tryz.results16 Tryz.ntmps16 ?_
  simp (maxDischargeDepth := 20) only [go_sem, put_last Tryz.amap67, intKeys_nil', intKeys_put']
  exact h
end Go.Proofs
set_option linter.unusedSimpArgs false
set_option linter.unusedVariables false
set_option maxRecDepth 8000
namespace Go.AL
theorem kids_snoc (E : Co → Bool → GS → GS) (l : List Co) (c : Co) (g : GS) : kidsG E (l ++ [c]) g = E c false (kidsG E l g) := by simp [kidsG]
theorem stW_sa {s : St} {L : WL} {g : GS} {v : GV} (h : AtW s L g v) {g1 g2 : GS} {v1 v2 : GV} {ex : St} : stW (stW s L g1 v1 ++ ex) L g2 v2 = stW s L g2 v2 ++ ex := by
  rw [stW_app (h.turn g1 v1), stW_stW h]
end Go.AL
namespace Go.Proofs
open Go Go.AL
@[go_sem] theorem Tryz.aft30_0 : aFieldT Tryz.prog 30 0 = some (0, 3) := by kernel_rfl
/-- What exp does, of cores that are such. -/
def HasE (Pc : Co → Prop) (E : Co → Bool → GS → GS) : Prop := ∀ {s : St} {L : WL} {g : GS} {v : GV}, AtW s L g v → ∀ (c : Co) (last : Bool), Pc c → okG g → ∀ K : SV → St → Prop,
  (∀ v', K (.tuple []) (stW s L (E c last g) v')) → ACalls Tryz.prog 8 [.ptr L.w 0, coSV c, .sc (.bool last)] K s
theorem fin_tup {s : St} {L : WL} {g g' : GS} {v v' : GV} (h : AtW s L g v) {K : SV → St → Prop} {ex : St} (hk : K (.tuple []) (stW s L g' v')) : FinM s K (.tuple []) (stW s L g' v' ++ ex) :=
  fin_W h rfl (.tuple _ (fun i hi => by cases hi)) hk
theorem fin_tup0 {s : St} {L : WL} {g g' : GS} {v v' : GV} (h : AtW s L g v) {K : SV → St → Prop} (hk : K (.tuple []) (stW s L g' v')) : FinM s K (.tuple []) (stW s L g' v') := by
  have := fin_tup h (ex := []) hk
  rwa [List.append_nil] at this
section
variable {Pc : Co → Prop} {E : Co → Bool → GS → GS} {s : St} {L : WL} {g : GS} {v : GV}
set_option maxHeartbeats 4000000 in
theorem kids_c (hE : HasE Pc E) (hF : FineE E) (hA : AtW s L g v) (c : Co) (hc : ∀ k ∈ c.kids, Pc k) (hl : c.kids.length ≤ 1000000) (hg : okG g) (K : SV → St → Prop)
    (h : ∀ v', K (.tuple []) (stW s L (kidsG E c.kids g) v')) : ACalls Tryz.prog 22 [.ptr L.w 0, .agg [i64 c.kind, i64 c.number, str c.text, cosSV c.kids, i64 0, .slice .imm 1 [], .slice .imm 6 [], .slice .imm 4 [], bdsSV c.binds]] K s := by
  refine acalls_go_mod [] Tryz.func22 rfl Tryz.results22 Tryz.ntmps22 ?_
  simp only [go_sem, List.length_map]
  refine awp_rounds [] (fun b e t => ∃ k v2 ex, k + b = c.kids.length ∧ e = [.ptr L.w 0, .any, .any, .any, .any, .any, .any, .slice .imm 9 (c.kids.map coSV), i64 c.kids.length, i64 k, .any, .any, .any, .any, .any, .any, .any] ∧ t = stW s L (kidsG E (c.kids.take k) g) v2 ++ ex) (n := c.kids.length) ?_ ⟨0, v, [], by omega, rfl, by rw [List.append_nil]; exact (stW_self hA).symm⟩ ?_
  · repeat (first | exact leEnv_nil | refine leEnv_any _ ?_ | refine leEnv_same _ ?_ | refine leEnv_norm _ ?_)
  rintro b e t ⟨k, v2, ex, hk, rfl, rfl⟩
  by_cases hlt : k < c.kids.length
  · have c1 : (k : Int) < (c.kids.length : Int) := by omega
    have hw : IntKind.i64.wrap ((k : Int) + 1) = ((k + 1 : Nat) : Int) := by rw [IntWalk.i64_in _ (by omega)]; rfl
    have hgt : (c.kids.map coSV).getD k .any = coSV c.kids[k] := by simp [List.getD_eq_getElem?_getD, hlt]
    have hsn : kidsG E (c.kids.take (k + 1)) g = E c.kids[k] false (kidsG E (c.kids.take k) g) := by rw [List.take_succ_eq_append_getElem hlt, kids_snoc]
    have hok := (gd_kids hF (c.kids.take k) hg).ok
    simp only [go_sem, c1, hw, hgt]
    refine hE ((hA.turn _ _).app _) _ false (hc _ (List.getElem_mem hlt)) hok _ fun v3 => ?_
    simp only [go_sem, List.append_assoc, stW_sa hA, ← hsn, hw]
    refine ⟨b - 1, _, by omega, ?_, k + 1, v3, _, by omega, rfl, rfl⟩
    repeat (first | exact leEnv_nil | refine leEnv_any _ ?_ | refine leEnv_same _ ?_ | refine leEnv_norm _ ?_)
  · obtain rfl : k = c.kids.length := by omega
    have c1 : ((c.kids.length : Int) < (c.kids.length : Int)) = False := eq_false (by omega)
    simp only [go_sem, c1, List.take_length]
    exact fin_tup hA (h v2)
set_option maxHeartbeats 4000000 in
theorem call_c (hE : HasE Pc E) (hF : FineE E) (hA : AtW s L g v) (c : Co) (hc : ∀ k ∈ c.kids, Pc k) (hl : c.kids.length ≤ 1000000) (hg : okG g) (last : Bool) (K : SV → St → Prop)
    (h : ∀ v', K (.tuple []) (stW s L (callG E c last g) v')) : ACalls Tryz.prog 45 [.ptr L.w 0, .agg [i64 c.kind, i64 c.number, str c.text, cosSV c.kids, i64 0, .slice .imm 1 [], .slice .imm 6 [], .slice .imm 4 [], bdsSV c.binds], .sc (.bool last)] K s := by
  have hok := (gd_kids hF c.kids hg).ok
  unfold callG at h
  refine acalls_go_mod [] Tryz.func45 rfl Tryz.results45 Tryz.ntmps45 ?_
  simp only [go_sem]
  refine kids_c hE hF hA c hc hl hg _ fun v1 => ?_
  cases last
  · simp only [go_sem]
    refine put_c (hA.turn _ _) 13 _ 0 [] (fun h => absurd rfl h) (by simp) (by have := hok.1; omega) _ fun v3 => ?_
    simp only [go_sem, List.getD_cons_zero, List.getD_cons_succ, List.getD_nil, stW_stW hA]
    exact fin_tup0 hA (h v3)
  · simp only [go_sem]
    refine put_c (hA.turn _ _) 14 _ 0 [] (fun h => absurd rfl h) (by simp) (by have := hok.1; omega) _ fun v3 => ?_
    simp only [go_sem, List.getD_cons_zero, List.getD_cons_succ, List.getD_nil, stW_stW hA]
    exact fin_tup0 hA (h v3)
set_option maxHeartbeats 4000000 in
theorem let_c (hE : HasE Pc E) (hF : FineE E) (hA : AtW s L g v) (c : Co) (hc : ∀ i, i ≤ 1 → Pc (kidC c i)) (hg : okG g) (last : Bool) (K : SV → St → Prop)
    (h : ∀ v', K (.tuple []) (stW s L (letG E c last g) v')) : ACalls Tryz.prog 41 [.ptr L.w 0, .agg [i64 c.kind, i64 c.number, str c.text, cosSV c.kids, i64 0, .slice .imm 1 [], .slice .imm 6 [], .slice .imm 4 [], bdsSV c.binds], .sc (.bool last)] K s := by
  have g1 := hF (kidC c 0) false g hg
  have g2 := gd_put g1.ok 7 c.number 0
  unfold letG at h
  refine acalls_go_mod [] Tryz.func41 rfl Tryz.results41 Tryz.ntmps41 ?_
  simp only [go_sem]
  refine kid_c c 0 (by omega) _ _ ?_
  simp only [go_sem]
  refine hE hA _ false (hc 0 (by omega)) hg _ fun v1 => ?_
  simp only [go_sem]
  refine put_c (hA.turn _ _) 7 _ 1 [c.number] (fun _ => rfl) (by simp) (by have := g1.ok.1; omega) _ fun v3 => ?_
  simp only [go_sem, List.getD_cons_zero, List.getD_cons_succ, List.getD_nil, stW_stW hA]
  refine kid_c c 1 (by omega) _ _ ?_
  simp only [go_sem]
  refine hE (hA.turn _ _) _ last (hc 1 (by omega)) g2.ok _ fun v4 => ?_
  simp only [go_sem, stW_stW hA]
  exact fin_tup0 hA (h v4)
set_option maxHeartbeats 4000000 in
theorem seq_c (hE : HasE Pc E) (hF : FineE E) (hA : AtW s L g v) (c : Co) (hc : ∀ i, i ≤ 1 → Pc (kidC c i)) (hg : okG g) (last : Bool) (K : SV → St → Prop)
    (h : ∀ v', K (.tuple []) (stW s L (seqG E c last g) v')) : ACalls Tryz.prog 42 [.ptr L.w 0, .agg [i64 c.kind, i64 c.number, str c.text, cosSV c.kids, i64 0, .slice .imm 1 [], .slice .imm 6 [], .slice .imm 4 [], bdsSV c.binds], .sc (.bool last)] K s := by
  have g1 := hF (kidC c 0) false g hg
  have g2 := gd_put g1.ok 9 0 0
  unfold seqG at h
  refine acalls_go_mod [] Tryz.func42 rfl Tryz.results42 Tryz.ntmps42 ?_
  simp only [go_sem]
  refine kid_c c 0 (by omega) _ _ ?_
  simp only [go_sem]
  refine hE hA _ false (hc 0 (by omega)) hg _ fun v1 => ?_
  simp only [go_sem]
  refine kid_c c 0 (by omega) _ _ ?_
  rw [coSV_eq]
  by_cases e : (kidC c 0).kind = 25
  · have b : ((kidC c 0).kind != 25) = false := by simp [e]
    rw [if_pos e] at h
    simp only [go_sem, b]
    refine kid_c c 1 (by omega) _ _ ?_
    simp only [go_sem]
    refine hE (hA.turn _ _) _ last (hc 1 (by omega)) g1.ok _ fun v4 => ?_
    simp only [go_sem, stW_stW hA]
    exact fin_tup0 hA (h v4)
  · have b : ((kidC c 0).kind != 25) = true := by simp [e]
    rw [if_neg e] at h
    simp only [go_sem, b]
    refine put_c (hA.turn _ _) 9 _ 0 [] (fun h => absurd rfl h) (by simp) (by have := g1.ok.1; omega) _ fun v3 => ?_
    simp only [go_sem, List.getD_cons_zero, List.getD_cons_succ, List.getD_nil, stW_stW hA]
    refine kid_c c 1 (by omega) _ _ ?_
    simp only [go_sem]
    refine hE (hA.turn _ _) _ last (hc 1 (by omega)) g2.ok _ fun v4 => ?_
    simp only [go_sem, stW_stW hA]
    exact fin_tup0 hA (h v4)
end
end Go.Proofs
