/- match. -/
import Derived.Test.YtammbegfobhflaaGreatM4
set_option linter.all false
set_option linter.unusedSimpArgs false
set_option linter.unusedVariables false
set_option maxRecDepth 8000
namespace Go.AL
def oneH (p : Option Nat) (i : Nat) (g : GS) : GS := if i = 0 then (match p with | some q => hereG q g | none => g) else g
def natsL (l : List Nat) : List SV := l.map fun p : Nat => i64 (p : Int)
theorem binds_snoc (loc : Int) (l : List Bn) (b : Bn) (g : GS) : bindsG loc (l ++ [b]) g = putG 7 b.loc 0 (lookG loc b.path (bindsG loc l g)) := by simp [bindsG]
end Go.AL
namespace Go.Proofs
open Go Go.AL
section
variable {Pc : Co → Prop} {E : Co → Bool → GS → GS} {s : St} {L : WL} {g : GS} {v : GV}
theorem tok_me {ME ex : St} {ver : Nat} {g' : GS} {v' : GV} : tokAt (stW s L g' v' ++ (ME ++ (Ob.tok ver :: ex))) (s.length + ME.length) ver = True := by
  refine eq_true ?_
  rw [← stW_len (s := s) (L := L) (g := g') (v := v')]
  simp [tokAt]
theorem set_me {ME ex : St} {X Y : Ob} {g' : GS} {v' : GV} : (stW s L g' v' ++ (ME ++ (X :: ex))).set (s.length + ME.length) Y = stW s L g' v' ++ (ME ++ (Y :: ex)) := by
  rw [← stW_len (s := s) (L := L) (g := g') (v := v')]
  simp
theorem last_me {ME ex : St} {X Y : Ob} {g' g0 : GS} {v' v0 : GV} : (stW s L g' v' ++ (ME ++ (X :: (ex ++ [Y]))))[(stW s L g0 v0).length + (ME.length + (ex.length + 1))]? = some Y := by
  rw [stW_len, ← stW_len (s := s) (L := L) (g := g') (v := v'), List.getElem?_append_right (by omega)]
  rw [Nat.add_sub_cancel_left, List.getElem?_append_right (by omega), Nat.add_sub_cancel_left]
  simp
/-- What stands behind the tree: as a state that goes on, and what its rows tell. -/
theorem tree_told (hA : AtW s L g v) (hF : FineE E) (c : Co) (last : Bool) {g1 : GS} {v1 : GV} (hg : okG g1) :
    ∃ (ME : St) (p : Option Nat) (gB : GS) (vB : GV), treeSt (stW s L g1 v1) L g1 v1 = stW s L gB vB ++ ME ∧ okG gB ∧ g1.code.length ≤ gB.code.length ∧
      (∀ (g' : GS) (v' : GV) (ex : St) (i : Nat), ∃ (m : AL.Mode) (z : Nat) (l : List Nat) (b : Bool), mapGet Tryz.prog 128 (stW s L g' v' ++ (ME ++ ex)) (.mp s.length) (i64 (i : Int)) = some (.slice m z (natsL l), b) ∧ (l ≠ [] → z = 1) ∧ l.length ≤ 1 ∧ (∀ x ∈ l, x < gB.code.length) ∧ ∀ g, heresG l g = oneH p i g) ∧
      (if 400 < g1.code.length then (let r := rowsG E c last none 0 c.binds [] g1; heresG r.1 r.2) else (let r := rowsG E c last (some (atG (putG 16 0 0 g1))) 0 c.binds [] (putG 16 0 0 g1); heresG r.1 r.2))
        = (let r := rowsG E c last p 0 c.binds [] gB; heresG r.1 r.2) := by
  have key : ∀ (es : List (Value × SV)) (ex : St) (g' : GS) (v' : GV) (i : Nat), IntKeys es → mapGet Tryz.prog 128 (stW s L g' v' ++ (Ob.map es :: ex)) (.mp s.length) (i64 (i : Int)) = some (getOr es (.slice .full 0 []) i) := by
    intro es ex g' v' i hes
    refine mapGet_int Tryz.amap128 Tryz.zero24 ?_ hes
    rw [← stW_len (s := s) (L := L) (g := g') (v := v')]
    simp [mapAt]
  unfold treeSt
  by_cases hc : 400 < g1.code.length
  · rw [if_pos hc, if_pos hc]
    refine ⟨[.map []], none, g1, v1, rfl, hg, Nat.le_refl _, fun g' v' ex i => ?_, rfl⟩
    refine ⟨.full, 0, [], false, ?_, fun h => absurd rfl h, by simp, fun x hx => (by cases hx), fun g => ?_⟩
    · rw [List.cons_append, List.nil_append, key [] ex g' v' i intKeys_nil]; rfl
    · unfold oneH; split <;> rfl
  · rw [if_neg hc, if_neg hc]
    have hp := put_at 16 0 0 g1
    refine ⟨[.map (rowEs (s.length + 1) (atG (putG 16 0 0 g1))), .tok 0], some (atG (putG 16 0 0 g1)), putG 16 0 0 g1, putV g1 v1, by rw [stW_stW hA, stW_len], (gd_put hg 16 0 0).ok, (gd_put hg 16 0 0).le, fun g' v' ex i => ?_, rfl⟩
    rw [List.cons_append, key _ _ g' v' i (rowEs_int _ _)]
    cases i with
    | zero =>
      refine ⟨.own (s.length + 1) 0, 1, [atG (putG 16 0 0 g1)], true, ?_, fun _ => rfl, by simp, fun x hx => ?_, fun g => rfl⟩
      · simp [getOr, keyIdx, rowEs, keyEq_int, natsL]
      · simp only [List.mem_singleton] at hx; subst hx; exact hp
    | succ i =>
      refine ⟨.full, 0, [], false, ?_, fun h => absurd rfl h, by simp, fun x hx => (by cases hx), fun g => rfl⟩
      have e : ¬ ((i : Int) + 1 = 0) := by omega
      simp [getOr, keyIdx, rowEs, keyEq_int, natsL, e]
set_option maxHeartbeats 4000000 in
theorem match_c (hE : HasE Pc E) (hF : FineE E) (hA : AtW s L g v) (c : Co) (hc : ∀ i, i ≤ c.binds.length → Pc (kidC c i)) (hb : c.binds.length ≤ 100000) (hb2 : ∀ l ∈ c.binds, l.length ≤ 100000 ∧ ∀ b ∈ l, b.path.length ≤ 100000) (hg : okG g) (last : Bool) (K : SV → St → Prop)
    (h : ∀ v', K (.tuple []) (stW s L (matchG E c last g) v')) : ACalls Tryz.prog 44 [.ptr L.w 0, .agg [i64 c.kind, i64 c.number, str c.text, cosSV c.kids, i64 0, .slice .imm 1 [], .slice .imm 6 [], .slice .imm 4 [], bdsSV c.binds], .sc (.bool last)] K s := by
  have a := hF (kidC c 0) false g hg
  have a1 := gd_put a.ok 7 c.number 0
  unfold matchG at h
  obtain ⟨g1, hg1⟩ : ∃ g1, putG 7 c.number 0 (E (kidC c 0) false g) = g1 := ⟨_, rfl⟩
  rw [hg1] at a1
  simp only [hg1] at h
  refine acalls_go_mod [] Tryz.func44 rfl Tryz.results44 Tryz.ntmps44 ?_
  simp only [go_sem]
  refine kid_c c 0 (by omega) _ _ ?_
  simp only [go_sem]
  refine hE hA _ false (hc 0 (by omega)) hg _ fun v1 => ?_
  simp only [go_sem]
  refine put_c (hA.turn _ _) 7 _ 1 [c.number] (fun _ => rfl) (by simp) (by have := a.ok.1; omega) _ fun v2 => ?_
  simp only [go_sem, List.getD_cons_zero, List.getD_cons_succ, List.getD_nil, stW_stW hA, hg1]
  refine tree0_c (hA.turn _ _) c.number a1.ok _ ?_
  obtain ⟨ME, p, gB, vB, e1, e2, e3, e4, e5⟩ := tree_told (E := E) hA hF c last (v1 := v2) a1.ok
  rw [e5] at h
  rw [e1]
  obtain ⟨R, hR⟩ : ∃ R, rowsG E c last p 0 c.binds [] gB = R := ⟨_, rfl⟩
  simp only [hR] at h
  simp only [go_sem, stW_len]
  refine awp_own 7 1 0 rfl ?_
  simp only [go_sem, List.length_append, stW_len]
  refine awp_rounds [] (fun b e t => ∃ k gk vk ver ends ex, k + b = c.binds.length ∧ rowsG E c last p k (c.binds.drop k) ends gk = R ∧ okG gk ∧ gB.code.length ≤ gk.code.length ∧ (∀ x ∈ ends, x < gk.code.length) ∧ ends.length ≤ k ∧
    e = [.ptr L.w 0, .any, .sc (.bool last), .any, .ref [i64 c.kind, i64 c.number, str c.text, .slice .imm 9 (c.kids.map coSV), i64 0, .slice .imm 1 [], .slice .imm 6 [], .slice .imm 4 [], .slice .imm 1 (c.binds.map bnsSV)], .any, .mp s.length, .slice (.own (s.length + ME.length) ver) 1 (natsL ends), .any, .any, .any, .any, .any, .any, .any, .any, .any, .any, .any, .any, .any, .any, .any, .any, .any, .any, .any, .any, .any, .any, i64 c.binds.length, i64 k, .any, .any, .any, .any, .any, .any, .any, .any, .any, .any, .any, .any, .any, .any, .any, .any, .any, .any, .any, .any, .any, .any, .any, .any, .any, .any, .any, .any, .any, .any, .any, .any, .any, .any, .any, .any, .any, .any, .any, .any, .any, .any, .any, .any, .any, .any, .any, .any, .any, .any, .any, .any, .any, .any, .any] ∧ t = stW s L gk vk ++ (ME ++ (Ob.tok ver :: ex))) (n := c.binds.length) ?_ ⟨0, gB, vB, 0, [], [], by omega, hR, e2, Nat.le_refl _, fun x hx => (by cases hx), Nat.le_refl _, rfl, by simp⟩ ?_
  · simp only [List.length_map]
    repeat (first | exact leEnv_nil | refine leEnv_any _ ?_ | refine leEnv_same _ ?_ | refine leEnv_norm _ ?_)
  rintro b e t ⟨k, gk, vk, ver, ends, ex, hk, hrows, hok, hle, hends, hel, rfl, rfl⟩
  by_cases hlt : k < c.binds.length
  · have c1 : (k : Int) < (c.binds.length : Int) := by omega
    have hw : IntKind.i64.wrap ((k : Int) + 1) = ((k + 1 : Nat) : Int) := by rw [IntWalk.i64_in _ (by omega)]; rfl
    have hgt : (c.binds.map bnsSV).getD k .any = bnsSV c.binds[k] := by simp [List.getD_eq_getElem?_getD, hlt]
    have hdr : c.binds.drop k = c.binds[k] :: c.binds.drop (k + 1) := List.drop_eq_getElem_cons hlt
    rw [hdr, rows_cons] at hrows
    obtain ⟨m, z, l, bb, hm, hz, hl1, hlx, hh⟩ := e4 gk vk (Ob.tok ver :: ex) k
    obtain ⟨hbl, hbp⟩ := hb2 _ (List.getElem_mem hlt)
    obtain ⟨bn, hbn⟩ : ∃ bn, c.binds[k] = bn := ⟨_, rfl⟩
    rw [hbn] at hrows hbl hbp hgt
    obtain ⟨gH, hgH⟩ : ∃ gH, oneH p k gk = gH := ⟨_, rfl⟩
    have aH : Gd gk gH := by
      have := gd_heres l hok
      rw [hh gk, hgH] at this
      exact this
    simp only [go_sem, c1, hm]
    refine here_c ((hA.turn _ _).app _) m z l hz (by omega) (by have := hok.1; omega) (fun x hx => by have := hlx x hx; omega) _ ?_
    rw [stW_sa hA, hh gk, hgH]
    simp only [go_sem, c1, hgt, List.length_map]
    refine awp_rounds [] (fun b2 e t => ∃ j vj ex2, j + b2 = bn.length ∧
      e = [.ptr L.w 0, .any, .sc (.bool last), .any, .ref [i64 c.kind, i64 c.number, str c.text, .slice .imm 9 (c.kids.map coSV), i64 0, .slice .imm 1 [], .slice .imm 6 [], .slice .imm 4 [], .slice .imm 1 (c.binds.map bnsSV)], .any, .mp s.length, .slice (.own (s.length + ME.length) ver) 1 (natsL ends), i64 k, .any, .any, .any, .any, .any, .any, .any, .any, .any, .any, .any, .any, .any, .any, .any, .any, .any, .any, .any, .any, .any, i64 c.binds.length, i64 k, .any, .any, .any, .any, .any, .any, .any, .any, .any, .any, .any, .slice .imm 2 (bn.map bnSV), i64 bn.length, i64 j, .any, .any, .any, .any, .any, .any, .any, .any, .any, .any, .any, .any, .any, .any, .any, .any, .any, .any, .any, .any, .any, .any, .any, .any, .any, .any, .any, .any, .any, .any, .any, .any, .any, .any, .any, .any, .any, .any, .any, .any, .any] ∧ t = stW s L (bindsG c.number (bn.take j) gH) vj ++ (ME ++ (Ob.tok ver :: ex2))) (n := bn.length) ?_ ⟨0, vk, ex, by omega, rfl, rfl⟩ ?_
    · repeat (first | exact leEnv_nil | refine leEnv_any _ ?_ | refine leEnv_same _ ?_ | refine leEnv_norm _ ?_)
    rintro b2 e t ⟨j, vj, ex2, hj, rfl, rfl⟩
    have aj := gd_binds c.number (bn.take j) aH.ok
    by_cases hjl : j < bn.length
    · have d1 : (j : Int) < (bn.length : Int) := by omega
      have hwj : IntKind.i64.wrap ((j : Int) + 1) = ((j + 1 : Nat) : Int) := by rw [IntWalk.i64_in _ (by omega)]; rfl
      have hgj : (bn.map bnSV).getD j .any = bnSV bn[j] := by simp [List.getD_eq_getElem?_getD, hjl]
      have hsn : bindsG c.number (bn.take (j + 1)) gH = putG 7 bn[j].loc 0 (lookG c.number bn[j].path (bindsG c.number (bn.take j) gH)) := by rw [List.take_succ_eq_append_getElem hjl, binds_snoc]
      have hpl := hbp _ (List.getElem_mem hjl)
      have al := gd_look c.number bn[j].path aj.ok
      simp only [go_sem, d1, hgj, bnSV]
      refine look_c ((hA.turn _ _).app _) c.number _ 1 bn[j].path (fun _ => rfl) hpl (by have := aj.ok.1; omega) _ fun v3 => ?_
      rw [stW_sa hA]
      simp only [go_sem]
      have f := cells_facts (last_me (s := s) (L := L) (ME := ME) (ex := ex2) (X := Ob.tok ver) (Y := Ob.cells [i64 bn[j].loc, SV.slice .imm 1 (bn[j].path.map i64)]) (g' := lookG c.number bn[j].path (bindsG c.number (bn.take j) gH)) (v' := v3) (g0 := bindsG c.number (bn.take j) gH) (v0 := vj))
      simp only [go_sem, f.1, f.2.1, f.2.2]
      refine put_c ((hA.turn _ _).app _) 7 _ 1 [bn[j].loc] (fun _ => rfl) (by simp) (by have := al.ok.1; omega) _ fun v4 => ?_
      rw [stW_sa hA]
      simp only [List.getD_cons_zero, List.getD_cons_succ, List.getD_nil, ← hsn]
      simp only [go_sem, hwj]
      refine ⟨b2 - 1, _, by omega, ?_, j + 1, v4, _, by omega, rfl, rfl⟩
      repeat (first | exact leEnv_nil | refine leEnv_any _ ?_ | refine leEnv_same _ ?_ | refine leEnv_norm _ ?_)
    · obtain rfl : j = bn.length := by omega
      have d1 : ((bn.length : Int) < (bn.length : Int)) = False := eq_false (by omega)
      rw [List.take_length] at aj
      have hrow : E (kidC c (k + 1)) last (bindsG c.number bn gH) = rowG E c last p k bn gk := by subst hgH; rfl
      have ar := hF (kidC c (k + 1)) last _ aj.ok
      rw [hrow] at ar
      have hwn : IntKind.i64.wrap ((c.binds.length : Int) - 1) = (c.binds.length : Int) - 1 := IntWalk.i64_in _ (by omega)
      have hgr : gk.code.length ≤ (rowG E c last p k bn gk).code.length := Nat.le_trans aH.le (Nat.le_trans aj.le ar.le)
      have hends' : ∀ x ∈ ends, x < (rowG E c last p k bn gk).code.length := fun x hx => by have := hends x hx; omega
      have ht : k < c.binds.length - 1 ∧ c.binds.drop (k + 1) ≠ [] ∨ ¬ (k < c.binds.length - 1) ∧ c.binds.drop (k + 1) = [] := by
        by_cases h1 : k < c.binds.length - 1
        · refine .inl ⟨h1, fun h2 => ?_⟩
          have := congrArg List.length h2
          simp at this
          omega
        · exact .inr ⟨h1, List.drop_eq_nil_of_le (by omega)⟩
      simp only [go_sem, d1, List.take_length, hw]
      first | (unfold ACallsH; simp only [put_some, put_none', ev_tmp, List.set_cons_succ, List.set_cons_zero, List.getD_cons_succ, List.getD_cons_zero]) | skip
      refine kid_c c (k + 1) (by omega) _ _ ?_
      try simp only [go_sem]
      first | (unfold ACallsH; simp only [put_some, put_none', ev_tmp, List.set_cons_succ, List.set_cons_zero, List.getD_cons_succ, List.getD_cons_zero]) | skip
      refine hE ((hA.turn _ _).app _) _ last (hc (k + 1) (by omega)) aj.ok _ fun v5 => ?_
      rw [stW_sa hA, hrow]
      cases last
      · refine ht.elim (fun h1 => ?_) (fun h1 => ?_)
        · have d2 : decide ((k : Int) < (c.binds.length : Int) - 1) = true := decide_eq_true (by omega)
          rw [if_pos ⟨rfl, h1.2⟩] at hrows
          have ap := gd_put ar.ok 16 0 0
          have hat := put_at 16 0 0 (rowG E c false p k bn gk)
          simp only [go_sem, hwn, d2, List.length_map]
          refine put_c ((hA.turn _ _).app _) 16 _ 0 [] (fun h => absurd rfl h) (by simp) (by have := ar.ok.1; omega) _ fun v6 => ?_
          rw [stW_sa hA]
          simp only [List.getD_cons_zero, List.getD_cons_succ, List.getD_nil]
          simp only [go_sem, tok_me, set_me, hw, natsL, List.length_map]
          refine ⟨Tryz.app24 (by omega), b - 1, _, by omega, ?_, k + 1, _, v6, ver + 1, ends ++ [atG (putG 16 0 0 (rowG E c false p k bn gk))], ex2, by omega, hrows, ap.ok, by have := ap.le; omega, fun x hx => ?_, by simp only [List.length_append, List.length_singleton]; omega, by rw [List.map_append], rfl⟩
          · repeat (first | exact leEnv_nil | refine leEnv_any _ ?_ | refine leEnv_same _ ?_ | refine leEnv_norm _ ?_)
          · rcases List.mem_append.1 hx with hx | hx
            · have := hends' x hx; have := ap.le; omega
            · simp only [List.mem_singleton] at hx; subst hx; exact hat
        · have d2 : decide ((k : Int) < (c.binds.length : Int) - 1) = false := decide_eq_false (by omega)
          rw [if_neg (fun h => h.2 h1.2)] at hrows
          simp only [go_sem, hwn, d2, hw, List.length_map]
          refine ⟨b - 1, _, by omega, ?_, k + 1, _, v5, ver, ends, ex2, by omega, hrows, ar.ok, by omega, hends', by omega, rfl, rfl⟩
          repeat (first | exact leEnv_nil | refine leEnv_any _ ?_ | refine leEnv_same _ ?_ | refine leEnv_norm _ ?_)
      · rw [if_neg (by simp)] at hrows
        simp only [go_sem, hwn, hw, List.length_map]
        refine ⟨b - 1, _, by omega, ?_, k + 1, _, v5, ver, ends, ex2, by omega, hrows, ar.ok, by omega, hends', by omega, rfl, rfl⟩
        repeat (first | exact leEnv_nil | refine leEnv_any _ ?_ | refine leEnv_same _ ?_ | refine leEnv_norm _ ?_)
  · obtain rfl : k = c.binds.length := by omega
    have c1 : ((c.binds.length : Int) < (c.binds.length : Int)) = False := eq_false (by omega)
    have hnil : c.binds.drop c.binds.length = [] := List.drop_length
    rw [hnil] at hrows
    have hR2 : R = (ends, gk) := hrows.symm
    rw [hR2] at h
    simp only [go_sem, c1]
    refine here_c ((hA.turn _ _).app _) _ 1 ends (fun _ => rfl) (by omega) (by have := hok.1; omega) hends _ ?_
    rw [stW_sa hA]
    simp only [go_sem]
    exact fin_tup hA (h _)
end
end Go.Proofs
