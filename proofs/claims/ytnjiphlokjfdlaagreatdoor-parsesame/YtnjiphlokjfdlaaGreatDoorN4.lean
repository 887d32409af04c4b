import Derived.Test.YtnjiphlokjfdlaaGreatDoorW70
import Derived.Test.YtnjiphlokjfdlaaGreatDoorW51
import Derived.Test.YtnjiphlokjfdlaaGreatDoorM7
import Derived.Test.YtnjiphlokjfdlaaGreatDoorN7
import Derived.Test.YtnjiphlokjfdlaaGreatDoorN5
set_option maxHeartbeats 4000000
set_option linter.unusedSimpArgs false
set_option linter.unusedVariables false
set_option maxRecDepth 8000
namespace Go.Proofs
open Go Go.AL
theorem rprogram_c {s : Tx} {n : Nd} {a e : Int} (h : programF s = some (n,a,e)) (hz : s.length ≤ 100000) {K : SV → St → Prop} {st : St} (hk : K (.tuple [ndSV n,.sc (.int .i64 a),.sc (.int .i64 e)]) st) : ACalls Tryz.prog 4 [.sc (.string (ba s))] K st := by
  rcases programR_of h with ⟨b,hl,rfl,rfl,he⟩ | ⟨T,hl,hT,hp⟩
  · refine dprogE_c he (fun K st h => ?_) hk
    refine rtokens_c hz ?_
    rw [hl]; exact h
  · unfold parseRF at hp
    simp only [Option.map_eq_some_iff,Prod.exists] at hp
    obtain ⟨nd,q,hq,hr⟩ := hp
    have hT' : T.length ≤ 100000 := by omega
    refine dprogO_c hT' (fun K st h => ?_) (dExp_c hT' 42) (dTy_c hT' 42) hq ?_
    · refine rtokens_c hz ?_
      rw [hl]; exact h
    · by_cases z : q.e = 0
      · rw [if_pos z] at hr
        cases hr
        rw [if_pos z,if_pos z,z]; exact hk
      · rw [if_neg z] at hr
        cases hr
        rw [if_neg z,if_neg z]; exact hk
end Go.Proofs
namespace Go.AL
theorem program_ends {s : Tx} : ∃ n a e,programF s = some (n,a,e) ∧ Few 100000 n := by
  unfold programF
  cases hl : lexF s with
  | error x =>
    obtain ⟨a,e⟩ := x
    exact ⟨_,_,_,rfl,few_nd0 _⟩
  | ok T =>
    have hlen := lexF_len hl
    obtain ⟨nd,b,e,h1,h2,h3⟩ := parse_ok (lx_tok (lexF_lx hl).1).1
    refine ⟨nd,b,e,h1,?_⟩
    by_cases z : e = 0
    · exact (h2 z).2.few (by omega)
    · rw [h3 z]; exact few_nd0 _
end Go.AL
namespace Go.Proofs
open Go Go.AL
theorem few_c {s r : Tx} (h : r = s.take 400) {K : SV → St → Prop} {st : St} (hk : K (.sc (.string (ba r))) st) : ACalls Tryz.prog 5 [.sc (.string (ba s))] K st := by
  subst h
  refine acalls_go_pure [] Tryz.func5 rfl Tryz.results5 Tryz.ntmps5 ?_
  by_cases hl : 400 < s.length
  · have c1 : decide ((400 : Int) < (s.length : Int)) = true := by simp; omega
    simp only [go_sem,ba_size,gt_iff_lt,c1,ba_extract]
    exact ⟨⟨by omega,by omega⟩,fin_pure1 (ids_scv _ _) hk⟩
  · have c1 : decide ((400 : Int) < (s.length : Int)) = false := by simp; omega
    rw [List.take_of_length_le (by omega)] at hk
    simp only [go_sem,ba_size,gt_iff_lt,c1,ba_extract]
    exact fin_pure1 (ids_scv _ _) hk
theorem psame_c {a b : Nd} (ha : Few 100000 a) (hb : Few 100000 b) {v : Bool} (hv : sameB a b = v) {K : SV → St → Prop} {st : St} (hk : K (.sc (.bool v)) st) : ACalls Tryz.prog 6 [ndSV a,ndSV b] K st := by
  subst hv; exact same_c ha hb hk
theorem rsame_c2 {a b : Nd} (ha : Few 100000 a) (hb : Few 100000 b) {v : Bool} (hv : sameB a b = v) {K : SV → St → Prop} {st : St} (hk : K (.sc (.bool v)) st) : ACalls Tryz.prog 7 [ndSV a,ndSV b,.sc (.bool false)] K st := by
  subst hv; exact rsame_c ha hb _ _ hk
end Go.Proofs
namespace Go.Proofs
open Go Go.AL
theorem sameA_c {gid : Nat} {m : Int} {K : SV → St → Prop} {st : St} (hg : GAt gid m st) {s0 t0 s t : Tx} (hs : s = s0.take 400) (ht : t = t0.take 400) (hsl : s.length ≤ 400) (htl : t.length ≤ 400) {n1 n2 : Nd} {a1 e1 a2 e2 : Int} (h1 : programF s = some (n1,a1,e1)) (h2 : programF t = some (n2,a2,e2)) (f1 : Few 100000 n1) (f2 : Few 100000 n2) (hr : sameB n1 n1 = true) {v : Bool} (hv : sameB n1 n2 = v) (c1 : (e1 == 0) = true) (hk : K (.sc (.bool true)) st) : ACalls Tryz.prog 3 [.sc (.string (ba s0)),.sc (.string (ba t0))] K st := by
  have hvv : (v == v) = true := by cases v <;> rfl
  refine acalls_go_pure [] Tryz.func3 rfl Tryz.results3 Tryz.ntmps3 ?_
  simp only [go_sem]
  refine few_c hs ?_
  simp only [go_sem]
  refine rprogram_c h1 (by omega) ?_
  simp only [go_sem]
  refine few_c ht ?_
  simp only [go_sem]
  refine rprogram_c h2 (by omega) ?_
  simp only [go_sem]
  refine psame_c f1 f2 hv ?_
  simp only [go_sem]
  refine rsame_c2 f1 f2 hv ?_
  simp only [go_sem,hvv]
  refine psame_c f1 f1 hr ?_
  simp only [go_sem,c1,hvv]
  refine lives_c (gat_app hg) ?_
  simp only [go_sem,c1,hvv]
  exact fin_pure (ids_scv _ _) hk
end Go.Proofs
namespace Go.Proofs
open Go Go.AL
theorem sameC_c {gid : Nat} {m : Int} {K : SV → St → Prop} {st : St} (hg : GAt gid m st) {s0 t0 s t : Tx} (hs : s = s0.take 400) (ht : t = t0.take 400) (hsl : s.length ≤ 400) (htl : t.length ≤ 400) {n1 n2 : Nd} {a1 e1 a2 e2 : Int} (h1 : programF s = some (n1,a1,e1)) (h2 : programF t = some (n2,a2,e2)) (f1 : Few 100000 n1) (f2 : Few 100000 n2) (hr : sameB n1 n1 = true) {v : Bool} (hv : sameB n1 n2 = v) (c1 : (e1 == 0) = false) (c2 : (e2 != 0) = true) (hk : K (.sc (.bool true)) st) : ACalls Tryz.prog 3 [.sc (.string (ba s0)),.sc (.string (ba t0))] K st := by
  have hvv : (v == v) = true := by cases v <;> rfl
  refine acalls_go_pure [] Tryz.func3 rfl Tryz.results3 Tryz.ntmps3 ?_
  simp only [go_sem]
  refine few_c hs ?_
  simp only [go_sem]
  refine rprogram_c h1 (by omega) ?_
  simp only [go_sem]
  refine few_c ht ?_
  simp only [go_sem]
  refine rprogram_c h2 (by omega) ?_
  simp only [go_sem]
  refine psame_c f1 f2 hv ?_
  simp only [go_sem]
  refine rsame_c2 f1 f2 hv ?_
  simp only [go_sem,hvv]
  refine psame_c f1 f1 hr ?_
  simp only [go_sem,c1,c2,hvv]
  refine lives_c (gat_app hg) ?_
  simp only [go_sem,c1,c2,hvv]
  exact fin_pure (ids_scv _ _) hk
end Go.Proofs
namespace Go.Proofs
open Go Go.AL
theorem sameD_c {gid : Nat} {m : Int} {K : SV → St → Prop} {st : St} (hg : GAt gid m st) {s0 t0 s t : Tx} (hs : s = s0.take 400) (ht : t = t0.take 400) (hsl : s.length ≤ 400) (htl : t.length ≤ 400) {n1 n2 : Nd} {a1 e1 a2 e2 : Int} (h1 : programF s = some (n1,a1,e1)) (h2 : programF t = some (n2,a2,e2)) (f1 : Few 100000 n1) (f2 : Few 100000 n2) (hr : sameB n1 n1 = true) (hv : sameB n1 n2 = false) (c1 : (e1 == 0) = false) (c2 : (e2 != 0) = false) (hk : K (.sc (.bool true)) st) : ACalls Tryz.prog 3 [.sc (.string (ba s0)),.sc (.string (ba t0))] K st := by
  refine acalls_go_pure [] Tryz.func3 rfl Tryz.results3 Tryz.ntmps3 ?_
  simp only [go_sem]
  refine few_c hs ?_
  simp only [go_sem]
  refine rprogram_c h1 (by omega) ?_
  simp only [go_sem]
  refine few_c ht ?_
  simp only [go_sem]
  refine rprogram_c h2 (by omega) ?_
  simp only [go_sem]
  refine psame_c f1 f2 hv ?_
  simp only [go_sem]
  refine rsame_c2 f1 f2 hv ?_
  simp only [go_sem]
  refine psame_c f1 f1 hr ?_
  simp only [go_sem,c1,c2]
  refine lives_c (gat_app hg) ?_
  simp only [go_sem,c1,c2]
  exact fin_pure (ids_scv _ _) hk
end Go.Proofs
namespace Go.Proofs
open Go Go.AL
theorem same_law_c {gid : Nat} {m : Int} {K : SV → St → Prop} {st : St} (hg : GAt gid m st) {s0 t0 : Tx} (hk : K (.sc (.bool true)) st) : ACalls Tryz.prog 3 [.sc (.string (ba s0)),.sc (.string (ba t0))] K st := by
  have hsl : (s0.take 400).length ≤ 400 := by simp; omega
  have htl : (t0.take 400).length ≤ 400 := by simp; omega
  obtain ⟨n1,a1,e1,h1,f1⟩ := program_ends (s := s0.take 400)
  obtain ⟨n2,a2,e2,h2,f2⟩ := program_ends (s := t0.take 400)
  have k1 := program_kind h1
  have k2 := program_kind h2
  have hr := same_refl n1
  by_cases z : e1 = 0
  · exact sameA_c hg rfl rfl hsl htl h1 h2 f1 f2 hr rfl (by simp [z]) hk
  by_cases z2 : e2 = 0
  · refine sameD_c hg rfl rfl hsl htl h1 h2 f1 f2 hr (same_kind ?_) (by simp [z]) (by simp [z2]) hk
    rw [k1.2 z,k2.1 z2]; decide
  · exact sameC_c hg rfl rfl hsl htl h1 h2 f1 f2 hr rfl (by simp [z]) (by simp [z2]) hk
end Go.Proofs
