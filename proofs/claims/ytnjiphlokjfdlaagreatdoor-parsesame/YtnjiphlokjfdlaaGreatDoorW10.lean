import Derived.Test.YtnjiphlokjfdlaaGreatDoorW9
import Derived.Test.YtnjiphlokjfdlaaGreatDoorW8
set_option maxHeartbeats 4000000
set_option linter.unusedSimpArgs false
set_option linter.unusedVariables false
set_option maxRecDepth 8000
namespace Go.Proofs
open Go Go.AL
def k4 : List (Int × Int) := [(1,1),(2,2),(3,4),(4,5)]
def k3 : List (Int × Int) := [(1,1),(3,4),(4,5)]
theorem leaf_names {T : List Tk} {kinds : List (Int × Int)} {p p' : PS} {r : Nd} (h : leafF T kinds p = some (r,p')) : r.names = [] ∧ r.kids = [] := by
  unfold leafF at h
  rw [Option.bind_eq_some_iff] at h
  obtain ⟨t,_,h⟩ := h
  simp only at h
  split at h
  · rw [Option.map_eq_some_iff] at h
    obtain ⟨_,_,h⟩ := h
    cases h; exact ⟨rfl,rfl⟩
  · rw [Option.map_eq_some_iff] at h
    obtain ⟨_,_,h⟩ := h
    cases h; exact ⟨rfl,rfl⟩
theorem put111 {n v : Int} {mid : Nat} {kinds : List (Int × Int)} {st : St} {N : St → Prop} (hm : st[mid]? = some (.map (kindEs kinds))) (hn : mapPut (kindEs kinds) (.int .i64 n) (.sc (.int .i64 v)) = kindEs (kinds ++ [(n,v)])) :
    putSpec Tryz.prog 116 st (.mp mid) (.sc (.int .i64 n)) (.sc (.int .i64 v)) N = N (st.set mid (.map (kindEs (kinds ++ [(n,v)])))) := by
  rw [put_int Tryz.amap116 (map_facts hm).2 (kind_keys kinds),hn]
theorem puts_step {n v : Int} {S : St} {a b : Ob} {kinds : List (Int × Int)} {N : St → Prop} {mid : Nat} (hmid : mid = S.length + 2) (hn : mapPut (kindEs kinds) (.int .i64 n) (.sc (.int .i64 v)) = kindEs (kinds ++ [(n,v)]))
    (h : N (S ++ [a,b,.map (kindEs (kinds ++ [(n,v)]))])) : putSpec Tryz.prog 116 (S ++ [a,b,.map (kindEs kinds)]) (.mp mid) (.sc (.int .i64 n)) (.sc (.int .i64 v)) N := by
  subst hmid
  rw [put111 (kinds := kinds) (by simp) hn]
  have : (S ++ [a,b,.map (kindEs kinds)]).set (S.length + 2) (.map (kindEs (kinds ++ [(n,v)]))) = S ++ [a,b,.map (kindEs (kinds ++ [(n,v)]))] := by
    rw [List.set_append_right _ _ (by simp)]; simp
  rw [this]; exact h
theorem puts3 {S : St} {a b : Ob} {N : St → Prop} {mid : Nat} (hmid : mid = S.length + 2) (h : N (S ++ [a,b,.map (kindEs k3)])) :
    putSpec Tryz.prog 116 (S ++ [a,b,.map []]) (.mp mid) (.sc (.int .i64 1)) (.sc (.int .i64 1)) fun x => putSpec Tryz.prog 116 x (.mp mid) (.sc (.int .i64 3)) (.sc (.int .i64 4)) fun x => putSpec Tryz.prog 116 x (.mp mid) (.sc (.int .i64 4)) (.sc (.int .i64 5)) N :=
  puts_step (kinds := []) hmid rfl (puts_step (kinds := [(1,1)]) hmid rfl (puts_step (kinds := [(1,1),(3,4)]) hmid rfl h))
theorem puts4 {S : St} {a b : Ob} {N : St → Prop} {mid : Nat} (hmid : mid = S.length + 2) (h : N (S ++ [a,b,.map (kindEs k4)])) :
    putSpec Tryz.prog 116 (S ++ [a,b,.map []]) (.mp mid) (.sc (.int .i64 1)) (.sc (.int .i64 1)) fun x => putSpec Tryz.prog 116 x (.mp mid) (.sc (.int .i64 2)) (.sc (.int .i64 2)) fun x => putSpec Tryz.prog 116 x (.mp mid) (.sc (.int .i64 3)) (.sc (.int .i64 4)) fun x => putSpec Tryz.prog 116 x (.mp mid) (.sc (.int .i64 4)) (.sc (.int .i64 5)) N :=
  puts_step (kinds := []) hmid rfl (puts_step (kinds := [(1,1)]) hmid rfl (puts_step (kinds := [(1,1),(2,2)]) hmid rfl (puts_step (kinds := [(1,1),(2,2),(3,4)]) hmid rfl h)))
theorem ndE_eq {r : Nd} (h : r.names = [] ∧ r.kids = []) : ndE r = .agg [.sc (.int .i64 r.kind),.sc (.string (ba r.text)),.sc (.int .i64 r.num),.sc (.int .i64 r.pos),.slice .full 0 [],.slice .full 0 []] := by
  unfold ndE ndRaw; rw [h.1,h.2]; rfl
theorem le_ndE {r : Nd} (h : r.names = [] ∧ r.kids = []) : SVle (ndE r) (ndSV r) := le_norm (le_raw (.inr h.1) (.inr h.2))
theorem patomE_c {T : List Tk} (hT : T.length ≤ 100000) {pid : Nat} {p p' : PS} {r : Nd} {t : Tk} (ht : lookF T p = some t) (h1 : isT t [95] = false) (h2 : isT t [40] = false) (h : leafF T [(1,1),(3,4),(4,5)] p = some (r,p')) {K : SV → St → Prop} {st : St} (hp : PAt T pid p st)
    (hk : K (ndE r) (st.set pid (.cells (psL T p')))) : ACalls Tryz.prog 129 [.ptr pid 0] K st := by
  refine acalls_go_mod0 [] Tryz.func129 rfl Tryz.results129 Tryz.ntmps129 ?_
  have hm : mayF T [95] p = some (false,p) := by
    unfold mayF isF; rw [ht]; simp [h1]
  have hr := leaf_names h
  simp only [go_sem]
  refine look_c ht (psat_app hp) ?_
  simp only [go_sem]
  refine may_c hT hm (psat_app hp) ?_
  simp only [go_sem,inS_get hp]
  first | (unfold ACallsH; simp only [put_some,put_none',ev_tmp,List.set_cons_succ,List.set_cons_zero,List.getD_cons_succ,List.getD_cons_zero]) | skip
  refine is_c ht (psat_seta hp) ?_
  simp only [go_sem,inS_get hp,h2]
  refine puts3 (by simp) ?_
  refine leaf_c hT h (psat_seta hp) (by simp; rfl) ?_
  rw [ndE_eq hr] at hk ⊢
  simp only [go_sem,inS_get hp]
  cases r
  exact fin_ndE hk
theorem patom_c {T : List Tk} (hT : T.length ≤ 100000) {pid : Nat} {e : PM Nd} (he : HC T pid 127 e) : HC T pid 129 (patomF T e) := by
  intro p r p' h K st hp hk
  unfold patomF at h
  simp only [Option.bind_eq_some_iff,Prod.exists] at h
  obtain ⟨t,ht,b,p1,hm,h⟩ := h
  have hm2 := hm
  unfold mayF isF at hm2
  rw [ht] at hm2
  simp only [Option.map_some,Option.bind_some] at hm2
  cases b with
  | true =>
    simp only [if_true,Option.some.injEq,Prod.mk.injEq] at h
    obtain ⟨rfl,rfl⟩ := h
    refine acalls_leK (acalls_go_mod [] Tryz.func129 rfl Tryz.results129 Tryz.ntmps129 ?_)
    simp only [go_sem]
    refine look_c ht (psat_app hp) ?_
    simp only [go_sem]
    refine may_c hT hm (psat_app hp) ?_
    simp only [go_sem,inS_get hp]
    first | (unfold ACallsH; simp only [put_some,put_none',ev_tmp,List.set_cons_succ,List.set_cons_zero,List.getD_cons_succ,List.getD_cons_zero]) | skip
    refine node_c rfl rfl rfl rfl (fun _ => rfl) (ids_slice (.inr rfl) (fun x hx => by cases hx)) ?_
    unfold ndFull
    simp only [go_sem,inS_get hp]
    exact fin_nd (z1 := 0) (z2 := 0) (m1 := .full) (m2 := .full) (nd := nodeF 24 t.pos [] []) hk (.inr rfl) (.inr rfl)
  | false =>
    have hb : isT t [95] = false := by
      cases h9 : isT t [95] with
      | false => rfl
      | true => rw [h9] at hm2; simp only [if_true,Option.map_eq_some_iff] at hm2; obtain ⟨_,_,h⟩ := hm2; cases h
    rw [hb] at hm2
    simp only [Bool.false_eq_true,if_false,Option.some.injEq,Prod.mk.injEq,true_and] at hm2
    subst hm2
    simp only [Bool.false_eq_true,if_false,Option.bind_eq_some_iff] at h
    obtain ⟨b2,h2,h⟩ := h
    unfold isF at h2
    rw [ht] at h2
    simp only [Option.map_some,Option.some.injEq] at h2
    cases b2 with
    | false =>
      simp only [Bool.false_eq_true,if_false] at h
      refine acalls_leK (patomE_c hT ht hb h2 h hp ⟨_,le_ndE (leaf_names h),hk⟩)
    | true =>
      rw [if_pos rfl] at h
      refine acalls_leK (acalls_go_mod [] Tryz.func129 rfl Tryz.results129 Tryz.ntmps129 ?_)
      simp only [go_sem]
      refine look_c ht (psat_app hp) ?_
      simp only [go_sem]
      refine may_c hT hm (psat_app hp) ?_
      simp only [go_sem,inS_get hp]
      first | (unfold ACallsH; simp only [put_some,put_none',ev_tmp,List.set_cons_succ,List.set_cons_zero,List.getD_cons_succ,List.getD_cons_zero]) | skip
      refine is_c ht (psat_seta hp) ?_
      simp only [go_sem,inS_get hp,h2]
      first | (unfold ACallsH; simp only [put_some,put_none',ev_tmp,List.set_cons_succ,List.set_cons_zero,List.getD_cons_succ,List.getD_cons_zero]) | skip
      refine round_c hT he rfl h (psat_seta hp) ?_
      simp only [go_sem,inS_get hp]
      exact fin_nd' hk
end Go.Proofs
