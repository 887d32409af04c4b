/- branch, either. -/
import Derived.Test.YtammbegfobhflaaGreatM3
set_option linter.all false
set_option linter.unusedSimpArgs false
set_option linter.unusedVariables false
set_option maxRecDepth 8000
namespace Go.AL
theorem heres_one (p : Nat) (g : GS) : heresG [p] g = hereG p g := rfl
theorem heres_nil (g : GS) : heresG [] g = g := rfl
end Go.AL
namespace Go.Proofs
open Go Go.AL
section
variable {Pc : Co → Prop} {E : Co → Bool → GS → GS} {s : St} {L : WL} {g : GS} {v : GV}
set_option maxHeartbeats 4000000 in
theorem branch_c (hE : HasE Pc E) (hF : FineE E) (hA : AtW s L g v) (c : Co) (hc : ∀ i, i ≤ 2 → Pc (kidC c i)) (hg : okG g) (last : Bool) (K : SV → St → Prop)
    (h : ∀ v', K (.tuple []) (stW s L (branchG E c last g) v')) : ACalls Tryz.prog 43 [.ptr L.w 0, .agg [i64 c.kind, i64 c.number, str c.text, cosSV c.kids, i64 0, .slice .imm 1 [], .slice .imm 6 [], .slice .imm 4 [], bdsSV c.binds], .sc (.bool last)] K s := by
  have a := hF (kidC c 0) false g hg
  have b := gd_put a.ok 17 0 0
  have at2 := put_at 17 0 0 (E (kidC c 0) false g)
  obtain ⟨g2, hg2⟩ : ∃ g2, putG 17 0 0 (E (kidC c 0) false g) = g2 := ⟨_, rfl⟩
  have d := hF (kidC c 1) last _ b.ok
  unfold branchG at h
  refine acalls_go_mod [] Tryz.func43 rfl Tryz.results43 Tryz.ntmps43 ?_
  try simp only [go_sem]
  first | (unfold ACallsH; simp only [put_some, put_none', ev_tmp, List.set_cons_succ, List.set_cons_zero, List.getD_cons_succ, List.getD_cons_zero]) | skip
  refine kid_c c 0 (by omega) _ _ ?_
  try simp only [go_sem]
  first | (unfold ACallsH; simp only [put_some, put_none', ev_tmp, List.set_cons_succ, List.set_cons_zero, List.getD_cons_succ, List.getD_cons_zero]) | skip
  refine hE hA _ false (hc 0 (by omega)) hg _ fun v1 => ?_
  try simp only [go_sem]
  first | (unfold ACallsH; simp only [put_some, put_none', ev_tmp, List.set_cons_succ, List.set_cons_zero, List.getD_cons_succ, List.getD_cons_zero]) | skip
  refine put_c (hA.turn _ _) 17 _ 0 [] (fun h => absurd rfl h) (by simp) (by have := a.ok.1; omega) _ fun v2 => ?_
  try simp only [go_sem, List.getD_cons_zero, List.getD_cons_succ, List.getD_nil, stW_stW hA]
  rw [hg2] at b at2 d
  simp only [hg2] at h ⊢
  refine kid_c c 1 (by omega) _ _ ?_
  try simp only [go_sem]
  first | (unfold ACallsH; simp only [put_some, put_none', ev_tmp, List.set_cons_succ, List.set_cons_zero, List.getD_cons_succ, List.getD_cons_zero]) | skip
  refine hE (hA.turn _ _) _ last (hc 1 (by omega)) b.ok _ fun v3 => ?_
  obtain ⟨g3, hg3⟩ : ∃ g3, E (kidC c 1) last g2 = g3 := ⟨_, rfl⟩
  rw [hg3] at d
  simp only [hg3] at h
  cases last
  · have e := gd_put d.ok 16 0 0
    have at4 := put_at 16 0 0 g3
    obtain ⟨g4, hg4⟩ : ∃ g4, putG 16 0 0 g3 = g4 := ⟨_, rfl⟩
    have f := gd_here e.ok (atG g2)
    have i := hF (kidC c 2) false _ f.ok
    try simp only [go_sem, stW_stW hA, stW_sa hA, hg3]
    first | (unfold ACallsH; simp only [put_some, put_none', ev_tmp, List.set_cons_succ, List.set_cons_zero, List.getD_cons_succ, List.getD_cons_zero]) | skip
    refine put_c (hA.turn _ _) 16 _ 0 [] (fun h => absurd rfl h) (by simp) (by have := d.ok.1; omega) _ fun v4 => ?_
    simp only [hg4, Bool.false_eq_true, if_false] at h e at4 f i
    try simp only [go_sem, List.getD_cons_zero, List.getD_cons_succ, List.getD_nil, stW_stW hA, stW_sa hA, hg4]
    first | (unfold ACallsH; simp only [put_some, put_none', ev_tmp, List.set_cons_succ, List.set_cons_zero, List.getD_cons_succ, List.getD_cons_zero]) | skip
    refine ⟨Tryz.app24 (by omega), ?_⟩
    refine here_c ((hA.turn _ _).app _) _ 1 [atG g2] (fun _ => rfl) (by simp) (by have := e.ok.1; omega) (by intro p hp; simp only [List.mem_singleton] at hp; subst hp; have := d.le; have := e.le; omega) _ ?_
    try simp only [go_sem, stW_stW hA, stW_sa hA, heres_one]
    first | (unfold ACallsH; simp only [put_some, put_none', ev_tmp, List.set_cons_succ, List.set_cons_zero, List.getD_cons_succ, List.getD_cons_zero]) | skip
    refine kid_c c 2 (by omega) _ _ ?_
    try simp only [go_sem]
    first | (unfold ACallsH; simp only [put_some, put_none', ev_tmp, List.set_cons_succ, List.set_cons_zero, List.getD_cons_succ, List.getD_cons_zero]) | skip
    refine hE ((hA.turn _ _).app _) _ false (hc 2 (by omega)) f.ok _ fun v5 => ?_
    try simp only [go_sem, stW_stW hA, stW_sa hA]
    first | (unfold ACallsH; simp only [put_some, put_none', ev_tmp, List.set_cons_succ, List.set_cons_zero, List.getD_cons_succ, List.getD_cons_zero]) | skip
    refine here_c ((hA.turn _ _).app _) _ 1 [atG g4] (fun _ => rfl) (by simp) (by have := i.ok.1; omega) (by intro p hp; simp only [List.mem_singleton] at hp; subst hp; have := f.le; have := i.le; omega) _ ?_
    try simp only [go_sem, stW_stW hA, stW_sa hA, heres_one]
    exact fin_tup hA (h v5)
  · have f := gd_here d.ok (atG g2)
    have i := hF (kidC c 2) true _ f.ok
    simp only [if_true] at h
    try simp only [go_sem, stW_stW hA, hg3]
    first | (unfold ACallsH; simp only [put_some, put_none', ev_tmp, List.set_cons_succ, List.set_cons_zero, List.getD_cons_succ, List.getD_cons_zero]) | skip
    refine here_c (hA.turn _ _) _ 1 [atG g2] (fun _ => rfl) (by simp) (by have := d.ok.1; omega) (by intro p hp; simp only [List.mem_singleton] at hp; subst hp; have := d.le; omega) _ ?_
    try simp only [go_sem, stW_stW hA, heres_one]
    first | (unfold ACallsH; simp only [put_some, put_none', ev_tmp, List.set_cons_succ, List.set_cons_zero, List.getD_cons_succ, List.getD_cons_zero]) | skip
    refine kid_c c 2 (by omega) _ _ ?_
    try simp only [go_sem]
    first | (unfold ACallsH; simp only [put_some, put_none', ev_tmp, List.set_cons_succ, List.set_cons_zero, List.getD_cons_succ, List.getD_cons_zero]) | skip
    refine hE (hA.turn _ _) _ true (hc 2 (by omega)) f.ok _ fun v5 => ?_
    try simp only [go_sem, stW_stW hA]
    first | (unfold ACallsH; simp only [put_some, put_none', ev_tmp, List.set_cons_succ, List.set_cons_zero, List.getD_cons_succ, List.getD_cons_zero]) | skip
    refine here_c (hA.turn _ _) _ 0 [] (fun h => absurd rfl h) (by simp) (by have := i.ok.1; omega) (fun p hp => by cases hp) _ ?_
    try simp only [go_sem, stW_stW hA, heres_nil]
    exact fin_tup0 hA (h v5)
set_option maxHeartbeats 4000000 in
theorem either_c (hE : HasE Pc E) (hF : FineE E) (hA : AtW s L g v) (c : Co) (hc : ∀ i, i ≤ 1 → Pc (kidC c i)) (hg : okG g) (bb ee : Int) (set : Bool) (K : SV → St → Prop)
    (h : ∀ v', K (.tuple []) (stW s L (eitherG E c bb ee set g) v')) : ACalls Tryz.prog 20 [.ptr L.w 0, .agg [i64 c.kind, i64 c.number, str c.text, cosSV c.kids, i64 0, .slice .imm 1 [], .slice .imm 6 [], .slice .imm 4 [], bdsSV c.binds], i64 bb, i64 ee, .sc (.bool set)] K s := by
  have a1 := gd_put hg bb 0 0
  have at1 := put_at bb 0 0 g
  unfold eitherG at h
  obtain ⟨g1, hg1⟩ : ∃ g1, putG bb 0 0 g = g1 := ⟨_, rfl⟩
  have a2 := hF (kidC c 0) false _ a1.ok
  have a3 := gd_put a2.ok ee 0 0
  have a4 := gd_put a3.ok 16 0 0
  have at3 := put_at 16 0 0 (putG ee 0 0 (E (kidC c 0) false (putG bb 0 0 g)))
  obtain ⟨g3, hg3⟩ : ∃ g3, putG 16 0 0 (putG ee 0 0 (E (kidC c 0) false g1)) = g3 := ⟨_, rfl⟩
  rw [hg1] at h a1 at1 a2 a3 a4 at3
  simp only [hg3] at h a4 at3
  have a5 := gd_here a4.ok (atG g1)
  obtain ⟨g4, hg4⟩ : ∃ g4, hereG (atG g1) g3 = g4 := ⟨_, rfl⟩
  simp only [hg4] at h a5
  have hle := a2.le; have hle3 := a3.le; have hle4 := a4.le; have hle5 := a5.le
  refine acalls_go_mod [] Tryz.func20 rfl Tryz.results20 Tryz.ntmps20 ?_
  try simp only [go_sem]
  first | (unfold ACallsH; simp only [put_some, put_none', ev_tmp, List.set_cons_succ, List.set_cons_zero, List.getD_cons_succ, List.getD_cons_zero]) | skip
  refine put_c hA bb _ 0 [] (fun h => absurd rfl h) (by simp) (by have := hg.1; omega) _ fun v1 => ?_
  try simp only [go_sem, List.getD_cons_zero, List.getD_cons_succ, List.getD_nil, hg1]
  first | (unfold ACallsH; simp only [put_some, put_none', ev_tmp, List.set_cons_succ, List.set_cons_zero, List.getD_cons_succ, List.getD_cons_zero]) | skip
  refine kid_c c 0 (by omega) _ _ ?_
  try simp only [go_sem]
  first | (unfold ACallsH; simp only [put_some, put_none', ev_tmp, List.set_cons_succ, List.set_cons_zero, List.getD_cons_succ, List.getD_cons_zero]) | skip
  refine hE (hA.turn _ _) _ false (hc 0 (by omega)) a1.ok _ fun v2 => ?_
  try simp only [go_sem, stW_stW hA]
  first | (unfold ACallsH; simp only [put_some, put_none', ev_tmp, List.set_cons_succ, List.set_cons_zero, List.getD_cons_succ, List.getD_cons_zero]) | skip
  refine put_c (hA.turn _ _) ee _ 0 [] (fun h => absurd rfl h) (by simp) (by have := a2.ok.1; omega) _ fun v3 => ?_
  try simp only [go_sem, List.getD_cons_zero, List.getD_cons_succ, List.getD_nil, stW_stW hA]
  first | (unfold ACallsH; simp only [put_some, put_none', ev_tmp, List.set_cons_succ, List.set_cons_zero, List.getD_cons_succ, List.getD_cons_zero]) | skip
  refine put_c (hA.turn _ _) 16 _ 0 [] (fun h => absurd rfl h) (by simp) (by have := a3.ok.1; omega) _ fun v4 => ?_
  try simp only [go_sem, List.getD_cons_zero, List.getD_cons_succ, List.getD_nil, stW_stW hA, hg3]
  first | (unfold ACallsH; simp only [put_some, put_none', ev_tmp, List.set_cons_succ, List.set_cons_zero, List.getD_cons_succ, List.getD_cons_zero]) | skip
  refine here_c (hA.turn _ _) _ 1 [atG g1] (fun _ => rfl) (by simp) (by have := a4.ok.1; omega) (by intro p hp; simp only [List.mem_singleton] at hp; subst hp; omega) _ ?_
  cases set
  · simp only [Bool.false_eq_true, if_false] at h
    have a7 := hF (kidC c 1) false _ a5.ok
    try simp only [go_sem, stW_stW hA, heres_one, hg4]
    first | (unfold ACallsH; simp only [put_some, put_none', ev_tmp, List.set_cons_succ, List.set_cons_zero, List.getD_cons_succ, List.getD_cons_zero]) | skip
    refine kid_c c 1 (by omega) _ _ ?_
    try simp only [go_sem]
    first | (unfold ACallsH; simp only [put_some, put_none', ev_tmp, List.set_cons_succ, List.set_cons_zero, List.getD_cons_succ, List.getD_cons_zero]) | skip
    refine hE (hA.turn _ _) _ false (hc 1 (by omega)) a5.ok _ fun v5 => ?_
    try simp only [go_sem, stW_stW hA]
    first | (unfold ACallsH; simp only [put_some, put_none', ev_tmp, List.set_cons_succ, List.set_cons_zero, List.getD_cons_succ, List.getD_cons_zero]) | skip
    refine here_c (hA.turn _ _) _ 1 [atG g3] (fun _ => rfl) (by simp) (by have := a7.ok.1; omega) (by intro p hp; simp only [List.mem_singleton] at hp; subst hp; have := a7.le; omega) _ ?_
    try simp only [go_sem, stW_stW hA, heres_one]
    exact fin_tup0 hA (h v5)
  · simp only [if_true] at h
    have a6 := gd_put a5.ok 7 c.number 0
    have a7 := hF (kidC c 1) false _ a6.ok
    try simp only [go_sem, stW_stW hA, heres_one, hg4]
    first | (unfold ACallsH; simp only [put_some, put_none', ev_tmp, List.set_cons_succ, List.set_cons_zero, List.getD_cons_succ, List.getD_cons_zero]) | skip
    refine put_c (hA.turn _ _) 7 _ 1 [c.number] (fun _ => rfl) (by simp) (by have := a5.ok.1; omega) _ fun v5 => ?_
    try simp only [go_sem, List.getD_cons_zero, List.getD_cons_succ, List.getD_nil, stW_stW hA]
    first | (unfold ACallsH; simp only [put_some, put_none', ev_tmp, List.set_cons_succ, List.set_cons_zero, List.getD_cons_succ, List.getD_cons_zero]) | skip
    refine kid_c c 1 (by omega) _ _ ?_
    try simp only [go_sem]
    first | (unfold ACallsH; simp only [put_some, put_none', ev_tmp, List.set_cons_succ, List.set_cons_zero, List.getD_cons_succ, List.getD_cons_zero]) | skip
    refine hE (hA.turn _ _) _ false (hc 1 (by omega)) a6.ok _ fun v6 => ?_
    try simp only [go_sem, stW_stW hA]
    first | (unfold ACallsH; simp only [put_some, put_none', ev_tmp, List.set_cons_succ, List.set_cons_zero, List.getD_cons_succ, List.getD_cons_zero]) | skip
    refine here_c (hA.turn _ _) _ 1 [atG g3] (fun _ => rfl) (by simp) (by have := a7.ok.1; omega) (by intro p hp; simp only [List.mem_singleton] at hp; subst hp; have := a6.le; have := a7.le; omega) _ ?_
    try simp only [go_sem, stW_stW hA, heres_one]
    exact fin_tup0 hA (h v6)
end
end Go.Proofs
