import Derived.Test.YtnjiphlokjfdlaaGreatDoorN7
import Derived.Test.YtnjiphlokjfdlaaGreatDoorM6
set_option maxHeartbeats 4000000
set_option linter.unusedSimpArgs false
set_option linter.unusedVariables false
set_option maxRecDepth 8000
namespace Go.AL
inductive Few (N : Nat) : Nd → Prop where
  | mk (n : Nd) (h : ∀ c ∈ n.kids,Few N c) (h1 : n.kids.length ≤ N) (h2 : n.names.length ≤ N) : Few N n
theorem Pl.few {T : List Tk} {n : Nd} (h : Pl T n) {N : Nat} (hN : T.length + 3 ≤ N) : Few N n := by
  induction h with
  | mk n h h1 h2 h3 h4 ih => exact .mk n ih (Nat.le_trans h3 hN) (Nat.le_trans h4 hN)
theorem few_nd0 (N : Nat) : Few N nd0 := .mk _ (fun c hc => by cases hc) (Nat.zero_le _) (Nat.zero_le _)
end Go.AL
namespace Go.Proofs
open Go Go.AL
theorem txSV_get {l : List Tx} {i : Nat} (h : i < l.length) : (l.map txSV).getD i .any = .sc (.string (ba l[i])) := by simp [List.getD_eq_getElem?_getD,h,txSV]
theorem ndSV_get {l : List Nd} {i : Nat} (h : i < l.length) : (l.map ndSV).getD i .any = ndSV l[i] := by simp [List.getD_eq_getElem?_getD,h]
theorem eqTx_c {l r : List Tx} (hl : l.length ≤ 100000) (hr : r.length ≤ 100000) {K : SV → St → Prop} {st : St} (hk : K (.sc (.bool (decide (l = r)))) st) : ACalls Tryz.prog 17 [.slice .imm 1 (l.map txSV),.slice .imm 1 (r.map txSV)] K st := by
  refine acalls_go_pure [] Tryz.func17 rfl Tryz.results17 Tryz.ntmps17 ?_
  by_cases hlen : l.length = r.length
  rotate_left
  · have c1 : ((l.length : Int) != (r.length : Int)) = true := by simp; omega
    have he : decide (l = r) = false := by simp; intro h; exact hlen (by rw [h])
    rw [he] at hk
    simp only [go_sem,List.length_map,c1]
    exact fin_pure1 (ids_scv _ _) hk
  have c1 : ((l.length : Int) != (r.length : Int)) = false := by simp; omega
  simp only [go_sem,List.length_map,c1]
  refine awp_rounds [] (fun k env s => ∃ i : Nat,k + i = l.length ∧ l.take i = r.take i ∧ env = [.slice .imm 1 (l.map txSV),.slice .imm 1 (r.map txSV),.any,.any,.any,.any,.any,.any,.any,.any,.any,.any,.sc (.int .i64 l.length),.sc (.int .i64 i),.any,.any,.any,.any,.any,.any,.any,.any,.any,.any,.any,.any] ∧ s = st) (n := l.length) ?_ ⟨0,by omega,by simp,rfl,rfl⟩ ?_
  · repeat (first | exact leEnv_nil | refine leEnv_any _ ?_ | refine leEnv_same _ ?_ | refine leEnv_norm _ ?_)
  rintro k env s ⟨i,hi,htk,rfl,rfl⟩
  by_cases hlt : i < l.length
  · have c2 : decide ((i : Int) < (l.length : Int)) = true := by simp; omega
    have w1 : IntKind.i64.wrap ((i : Int) + 1) = ((i + 1 : Nat) : Int) := by rw [IntWalk.i64_in _ (by omega)]; rfl
    have hlt2 : i < r.length := by omega
    have g1 := txSV_get hlt
    have g2 := txSV_get hlt2
    by_cases he : l[i] = r[i]
    · have c3 : (l[i] == r[i]) = true := by simp [he]
      simp only [go_sem,c2,w1]
      refine awp_draw [] Tryz.mixed rfl ?_
      simp only [go_sem,List.length_map,g1,g2,c3,w1]
      refine ⟨by omega,by omega,k - 1,_,by omega,?_,i + 1,by omega,by rw [List.take_succ_eq_append_getElem hlt,List.take_succ_eq_append_getElem hlt2,htk,he],rfl⟩
      repeat (first | exact leEnv_nil | refine leEnv_any _ ?_ | refine leEnv_same _ ?_ | refine leEnv_norm _ ?_)
    · have c3 : (l[i] == r[i]) = false := by simp [he]
      have hd : decide (l = r) = false := by
        simp only [decide_eq_false_iff_not]
        intro h; subst h; exact he rfl
      rw [hd] at hk
      simp only [go_sem,c2,w1]
      refine awp_draw [] Tryz.mixed rfl ?_
      simp only [go_sem,List.length_map,g1,g2,c3,w1]
      exact ⟨by omega,by omega,fin_pure1 (ids_scv _ _) hk⟩
  · have c2 : decide ((i : Int) < (l.length : Int)) = false := by simp; omega
    have hd : decide (l = r) = true := by
      rw [List.take_of_length_le (by omega),List.take_of_length_le (by omega)] at htk
      simp [htk]
    rw [hd] at hk
    simp only [go_sem,c2]
    exact fin_pure1 (ids_scv _ _) hk
end Go.Proofs
namespace Go.Proofs
open Go Go.AL
theorem eqNd_c {l r : List Nd} (hl : l.length ≤ 100000) (hr : r.length ≤ 100000) (ih : ∀ a ∈ l,∀ b ∈ r,∀ (K : SV → St → Prop) (st : St),K (.sc (.bool (sameB a b))) st → ACalls Tryz.prog 6 [ndSV a,ndSV b] K st) {K : SV → St → Prop} {st : St} (hk : K (.sc (.bool (sameBs l r))) st) :
    ACalls Tryz.prog 18 [.slice .imm 6 (l.map ndSV),.slice .imm 6 (r.map ndSV),.func (.func 6) [] []] K st := by
  refine acalls_go_pure [] Tryz.func18 rfl Tryz.results18 Tryz.ntmps18 ?_
  by_cases hlen : l.length = r.length
  rotate_left
  · have c1 : ((l.length : Int) != (r.length : Int)) = true := by simp; omega
    have he : sameBs l r = false := by
      cases h : sameBs l r with
      | false => rfl
      | true => exact absurd (sameBs_len h) hlen
    rw [he] at hk
    simp only [go_sem,List.length_map,c1]
    exact fin_pure1 (ids_scv _ _) hk
  have c1 : ((l.length : Int) != (r.length : Int)) = false := by simp; omega
  simp only [go_sem,List.length_map,c1]
  refine awp_rounds [] (fun k env s => ∃ (i : Nat) (ex : St),k + i = l.length ∧ sameBs l r = sameBs (l.drop i) (r.drop i) ∧ env = [.slice .imm 6 (l.map ndSV),.slice .imm 6 (r.map ndSV),.func (.func 6) [] [],.any,.any,.any,.any,.any,.any,.any,.any,.any,.any,.any,.any,.slice .imm 6 (l.map ndSV),.sc (.int .i64 l.length),.sc (.int .i64 i),.any,.any,.any,.any,.any,.any,.any,.any,.any,.any,.any,.any,.any,.any] ∧ s = st ++ ex) (n := l.length) ?_ ⟨0,[],by omega,rfl,rfl,by simp⟩ ?_
  · repeat (first | exact leEnv_nil | refine leEnv_any _ ?_ | refine leEnv_same _ ?_ | refine leEnv_norm _ ?_)
  rintro k env s ⟨i,ex,hi,hsm,rfl,rfl⟩
  by_cases hlt : i < l.length
  · have c2 : decide ((i : Int) < (l.length : Int)) = true := by simp; omega
    have w1 : IntKind.i64.wrap ((i : Int) + 1) = ((i + 1 : Nat) : Int) := by rw [IntWalk.i64_in _ (by omega)]; rfl
    have hlt2 : i < r.length := by omega
    have g1 := ndSV_get hlt
    have g2 := ndSV_get hlt2
    have hih := ih l[i] (List.getElem_mem hlt) r[i] (List.getElem_mem hlt2)
    rw [List.drop_eq_getElem_cons hlt,List.drop_eq_getElem_cons hlt2] at hsm
    rw [show sameBs (l[i] :: l.drop (i + 1)) (r[i] :: r.drop (i + 1)) = (sameB l[i] r[i] && sameBs (l.drop (i + 1)) (r.drop (i + 1))) from rfl] at hsm
    cases hb : sameB l[i] r[i] with
    | true =>
      rw [hb] at hih hsm
      rw [Bool.true_and] at hsm
      simp only [go_sem,c2,w1,List.length_map,g1,g2]
      refine ⟨by omega,by omega,?_⟩
      refine hih _ _ ?_
      simp only [go_sem,w1]
      refine ⟨k - 1,_,by omega,?_,i + 1,_,by omega,hsm,rfl,rfl⟩
      repeat (first | exact leEnv_nil | refine leEnv_any _ ?_ | refine leEnv_same _ ?_ | refine leEnv_norm _ ?_)
    | false =>
      rw [hb] at hih hsm
      rw [Bool.false_and] at hsm
      rw [hsm] at hk
      simp only [go_sem,c2,w1,List.length_map,g1,g2]
      refine ⟨by omega,by omega,?_⟩
      refine hih _ _ ?_
      simp only [go_sem,w1]
      exact fin_pure (ids_scv _ _) hk
  · have c2 : decide ((i : Int) < (l.length : Int)) = false := by simp; omega
    rw [List.drop_of_length_le (by omega),List.drop_of_length_le (by omega)] at hsm
    rw [hsm] at hk
    simp only [go_sem,c2]
    exact fin_pure (ids_scv _ _) hk
theorem eqTx_c2 {l r : List Tx} (hl : l.length ≤ 100000) (hr : r.length ≤ 100000) {v : Bool} (hv : decide (l = r) = v) {K : SV → St → Prop} {st : St} (hk : K (.sc (.bool v)) st) : ACalls Tryz.prog 17 [.slice .imm 1 (l.map txSV),.slice .imm 1 (r.map txSV)] K st := by
  subst hv; exact eqTx_c hl hr hk
theorem sameS_c {a b : Nd} (ha : Few 100000 a) (hb : Few 100000 b) (ih : ∀ x ∈ a.kids,∀ y ∈ b.kids,∀ (K : SV → St → Prop) (st : St),K (.sc (.bool (sameB x y))) st → ACalls Tryz.prog 6 [ndSV x,ndSV y] K st) {K : SV → St → Prop} {st : St} (hk : K (.sc (.bool (sameB a b))) st) : ACalls Tryz.prog 6 [ndSV a,ndSV b] K st := by
  refine acalls_go_pure [] Tryz.func6 rfl Tryz.results6 Tryz.ntmps6 ?_
  have hs : sameB a b = (decide (a.kind = b.kind) && decide (a.text = b.text) && decide (a.num = b.num) && decide (a.names = b.names) && sameBs a.kids b.kids) := by cases a; cases b; rfl
  rw [hs] at hk
  cases ha with
  | mk _ _ la1 la2 =>
  cases hb with
  | mk _ _ lb1 lb2 =>
  by_cases c1 : a.kind = b.kind
  rotate_left
  · have d1 : (a.kind == b.kind) = false := by simp [c1]
    rw [show decide (a.kind = b.kind) = false by simp [c1]] at hk
    simp only [Bool.false_and] at hk
    simp only [go_sem,cells_nd,d1]
    exact fin_pure1 (ids_scv _ _) hk
  have d1 : (a.kind == b.kind) = true := by simp [c1]
  rw [show decide (a.kind = b.kind) = true by simp [c1],Bool.true_and] at hk
  by_cases c2 : a.text = b.text
  rotate_left
  · have d2 : (a.text == b.text) = false := by simp [c2]
    rw [show decide (a.text = b.text) = false by simp [c2]] at hk
    simp only [Bool.false_and] at hk
    simp only [go_sem,cells_nd,d1,d2]
    exact fin_pure1 (ids_scv _ _) hk
  have d2 : (a.text == b.text) = true := by simp [c2]
  rw [show decide (a.text = b.text) = true by simp [c2],Bool.true_and] at hk
  by_cases c3 : a.num = b.num
  rotate_left
  · have d3 : (a.num == b.num) = false := by simp [c3]
    rw [show decide (a.num = b.num) = false by simp [c3]] at hk
    simp only [Bool.false_and] at hk
    simp only [go_sem,cells_nd,d1,d2,d3]
    exact fin_pure1 (ids_scv _ _) hk
  have d3 : (a.num == b.num) = true := by simp [c3]
  rw [show decide (a.num = b.num) = true by simp [c3],Bool.true_and] at hk
  cases h4 : decide (a.names = b.names) with
  | false =>
    rw [h4] at hk
    simp only [Bool.false_and] at hk
    simp only [go_sem,cells_nd,d1,d2,d3]
    refine eqTx_c2 la2 lb2 h4 ?_
    simp only [go_sem,cells_nd,d1,d2,d3]
    exact fin_pure1 (ids_scv _ _) hk
  | true =>
    rw [h4] at hk
    simp only [Bool.true_and] at hk
    simp only [go_sem,cells_nd,d1,d2,d3]
    refine eqTx_c2 la2 lb2 h4 ?_
    simp only [go_sem,cells_nd,d1,d2,d3]
    refine eqNd_c la1 lb1 ih ?_
    simp only [go_sem,cells_nd,d1,d2,d3]
    exact fin_pure1 (ids_scv _ _) hk
theorem same_c {a b : Nd} (ha : Few 100000 a) (hb : Few 100000 b) : ∀ {K : SV → St → Prop} {st : St} (hk : K (.sc (.bool (sameB a b))) st),ACalls Tryz.prog 6 [ndSV a,ndSV b] K st := by
  induction ha generalizing b with
  | mk a h h1 h2 ih =>
    intro K st hk
    have hb' := hb
    cases hb' with
    | mk _ g g1 g2 => exact sameS_c (.mk a h h1 h2) hb (fun x hx y hy K st hk => ih x hx (g y hy) hk) hk
end Go.Proofs
namespace Go.Proofs
open Go Go.AL
def SameR (n : Nat) (a b : Nd) : Prop := ∀ (K : SV → St → Prop) (st : St),K (.sc (.bool (sameB a b))) st → ACalls Tryz.prog n [ndSV a,ndSV b,.sc (.bool false)] K st
theorem sameT_c {a b : Nd} (ha : Few 100000 a) (hb : Few 100000 b) (q1 : a.kind = b.kind) (q2 : a.text = b.text) (q3 : a.num = b.num) (q4 : a.names.length = b.names.length) (q5 : a.kids.length = b.kids.length) (ih : ∀ x ∈ a.kids,∀ y ∈ b.kids,SameR 7 x y) {K : SV → St → Prop} {st : St} (hk : K (.sc (.bool (decide (a.names = b.names) && sameBs a.kids b.kids))) st) : ACalls Tryz.prog 7 [ndSV a,ndSV b,.sc (.bool false)] K st := by
  refine acalls_go_pure [] Tryz.func7 rfl Tryz.results7 Tryz.ntmps7 ?_
  have d1 : (a.kind != b.kind) = false := by simp [q1]
  have d2 : (a.text == b.text) = true := by simp [q2]
  have d3 : (a.num != b.num) = false := by simp [q3]
  have d4 : ((a.names.length : Int) != (b.names.length : Int)) = false := by simp [q4]
  have d5 : ((a.kids.length : Int) != (b.kids.length : Int)) = false := by simp [q5]
  cases ha with
  | mk _ _ la1 la2 =>
  cases hb with
  | mk _ _ lb1 lb2 =>
  simp only [go_sem,cells_nd,List.length_map,d1,d2,d3,d4,d5]
  refine awp_rounds [] (fun k env s => ∃ i : Nat,k + i = a.names.length ∧ a.names.take i = b.names.take i ∧ env = [.any,.any,.sc (.bool false),.ref (ndCells a),.ref (ndCells b),.any,.sc (.bool false),.sc (.int .i64 i),.any,.any,.any,.any,.any,.any,.any,.any,.any,.any,.any,.any,.any,.any,.any,.any,.any,.any,.any,.any,.any,.any,.any,.any,.any,.any,.any,.any,.any,.any,.any,.any,.any,.any,.any,.any,.any,.any,.any,.any,.any,.any,.any,.any,.any,.any,.any,.any,.any,.any,.any,.any,.any,.any,.any,.any,.any,.any,.any,.any,.any,.any,.any,.any,.any,.any,.any,.any,.any,.any,.any,.any,.any,.any,.any,.any,.any,.any,.any,.any,.any,.any,.any,.any,.any,.any,.any,.any] ∧ s = st) (n := a.names.length) ?_ ⟨0,by omega,by simp,rfl,rfl⟩ ?_
  · repeat (first | exact leEnv_nil | refine leEnv_any _ ?_ | refine leEnv_same _ ?_ | refine leEnv_norm _ ?_)
  rintro k env s ⟨i,hi,htk,rfl,rfl⟩
  by_cases hlt : i < a.names.length
  · have c2 : decide ((i : Int) < (a.names.length : Int)) = true := by simp; omega
    have w1 : IntKind.i64.wrap ((i : Int) + 1) = ((i + 1 : Nat) : Int) := by rw [IntWalk.i64_in _ (by omega)]; rfl
    have hlt2 : i < b.names.length := by omega
    have g1 := txSV_get hlt
    have g2 := txSV_get hlt2
    by_cases he : a.names[i] = b.names[i]
    · have c3 : (a.names[i] == b.names[i]) = true := by simp [he]
      simp only [go_sem,c2,w1,ndCells,List.length_map]
      refine awp_draw [] Tryz.mixed rfl ?_
      simp only [go_sem,List.length_map,g1,g2,c3,w1,ndCells]
      refine ⟨by omega,by omega,k - 1,_,by omega,?_,i + 1,by omega,by rw [List.take_succ_eq_append_getElem hlt,List.take_succ_eq_append_getElem hlt2,htk,he],rfl⟩
      repeat (first | exact leEnv_nil | refine leEnv_any _ ?_ | refine leEnv_same _ ?_ | refine leEnv_norm _ ?_)
    · have c3 : (a.names[i] == b.names[i]) = false := by simp [he]
      have hd : decide (a.names = b.names) = false := by
        simp only [decide_eq_false_iff_not]
        intro h; simp only [h,not_true_eq_false] at he
      rw [hd,Bool.false_and] at hk
      simp only [go_sem,c2,w1,ndCells,List.length_map]
      refine awp_draw [] Tryz.mixed rfl ?_
      simp only [go_sem,List.length_map,g1,g2,c3,w1,ndCells]
      exact ⟨by omega,by omega,fin_pure1 (ids_scv _ _) hk⟩
  · have c2 : decide ((i : Int) < (a.names.length : Int)) = false := by simp; omega
    have hd : decide (a.names = b.names) = true := by
      rw [List.take_of_length_le (by omega),List.take_of_length_le (by omega)] at htk
      simp [htk]
    rw [hd,Bool.true_and] at hk
    simp only [go_sem,c2,ndCells,List.length_map]
    refine awp_rounds [] (fun k env s' => ∃ (i : Nat) (ex : St),k + i = a.kids.length ∧ sameBs a.kids b.kids = sameBs (a.kids.drop i) (b.kids.drop i) ∧ env = [.any,.any,.sc (.bool false),.ref (ndCells a),.ref (ndCells b),.any,.sc (.bool false),.any,.sc (.int .i64 i),.any,.any,.any,.any,.any,.any,.any,.any,.any,.any,.any,.any,.any,.any,.any,.any,.any,.any,.any,.any,.any,.any,.any,.any,.any,.any,.any,.any,.any,.any,.any,.any,.any,.any,.any,.any,.any,.any,.any,.any,.any,.any,.any,.any,.any,.any,.any,.any,.any,.any,.any,.any,.any,.any,.any,.any,.any,.any,.any,.any,.any,.any,.any,.any,.any,.any,.any,.any,.any,.any,.any,.any,.any,.any,.any,.any,.any,.any,.any,.any,.any,.any,.any,.any,.any,.any,.any] ∧ s' = s ++ ex) (n := a.kids.length) ?_ ⟨0,[],by omega,rfl,rfl,by simp⟩ ?_
    · repeat (first | exact leEnv_nil | refine leEnv_any _ ?_ | refine leEnv_same _ ?_ | refine leEnv_norm _ ?_)
    rintro k env s' ⟨i,ex,hi,hsm,rfl,rfl⟩
    by_cases hlt : i < a.kids.length
    · have c2 : decide ((i : Int) < (a.kids.length : Int)) = true := by simp; omega
      have w1 : IntKind.i64.wrap ((i : Int) + 1) = ((i + 1 : Nat) : Int) := by rw [IntWalk.i64_in _ (by omega)]; rfl
      have hlt2 : i < b.kids.length := by omega
      have g1 := ndSV_get hlt
      have g2 := ndSV_get hlt2
      have hih := ih a.kids[i] (List.getElem_mem hlt) b.kids[i] (List.getElem_mem hlt2)
      rw [List.drop_eq_getElem_cons hlt,List.drop_eq_getElem_cons hlt2] at hsm
      rw [show sameBs (a.kids[i] :: a.kids.drop (i + 1)) (b.kids[i] :: b.kids.drop (i + 1)) = (sameB a.kids[i] b.kids[i] && sameBs (a.kids.drop (i + 1)) (b.kids.drop (i + 1))) from rfl] at hsm
      unfold SameR at hih
      cases hb : sameB a.kids[i] b.kids[i] with
      | true =>
        rw [hb] at hih hsm
        rw [Bool.true_and] at hsm
        simp only [go_sem,c2,w1,ndCells,List.length_map]
        refine awp_drawW [] [(0,[]),(0,[]),(0,[]),(0,[]),(0,[]),(0,[]),(0,[]),(0,[]),(0,[]),(0,[]),(0,[]),(3,[13]),(0,[])] Tryz.mixed rfl ?_
        simp only [go_sem,drawW_n,drawW_0,drawW_1,drawW_2,drawW_3,pend_n,pend_c,headD_c,isStore_s,List.length_map,g1,g2]
        refine ⟨by omega,by omega,?_⟩
        refine ⟨_,_,hih _ _ ⟨rfl,rfl⟩,?_⟩
        simp only [go_sem,drawW_n,drawW_0,drawW_1,drawW_2,drawW_3,pend_n,pend_c,headD_c,isStore_s,w1]
        refine ⟨k - 1,_,by omega,?_,i + 1,_,by omega,hsm,rfl,rfl⟩
        repeat (first | exact leEnv_nil | refine leEnv_any _ ?_ | refine leEnv_same _ ?_ | refine leEnv_norm _ ?_)
      | false =>
        rw [hb] at hih hsm
        rw [Bool.false_and] at hsm
        rw [hsm] at hk
        simp only [go_sem,c2,w1,ndCells,List.length_map]
        refine awp_drawW [] [(0,[]),(0,[]),(0,[]),(0,[]),(0,[]),(0,[]),(0,[]),(0,[]),(0,[]),(0,[]),(0,[]),(3,[13]),(0,[])] Tryz.mixed rfl ?_
        simp only [go_sem,drawW_n,drawW_0,drawW_1,drawW_2,drawW_3,pend_n,pend_c,headD_c,isStore_s,List.length_map,g1,g2]
        refine ⟨by omega,by omega,?_⟩
        refine ⟨_,_,hih _ _ ⟨rfl,rfl⟩,?_⟩
        simp only [go_sem,drawW_n,drawW_0,drawW_1,drawW_2,drawW_3,pend_n,pend_c,headD_c,isStore_s,w1]
        exact fin_pure (ids_scv _ _) hk
    · have c2 : decide ((i : Int) < (a.kids.length : Int)) = false := by simp; omega
      rw [List.drop_of_length_le (by omega),List.drop_of_length_le (by omega)] at hsm
      rw [hsm] at hk
      simp only [go_sem,c2,ndCells,List.length_map]
      exact fin_pure (ids_scv _ _) hk
theorem sameN_c {a b : Nd} (h : ¬ (a.kind = b.kind ∧ a.text = b.text ∧ a.num = b.num ∧ a.names.length = b.names.length ∧ a.kids.length = b.kids.length)) {K : SV → St → Prop} {st : St} (hk : K (.sc (.bool false)) st) : ACalls Tryz.prog 7 [ndSV a,ndSV b,.sc (.bool false)] K st := by
  refine acalls_go_pure [] Tryz.func7 rfl Tryz.results7 Tryz.ntmps7 ?_
  by_cases q1 : a.kind = b.kind
  rotate_left
  · have d1 : (a.kind != b.kind) = true := by simp [q1]
    simp only [go_sem,cells_nd,List.length_map,d1]
    exact fin_pure1 (ids_scv _ _) hk
  have d1 : (a.kind != b.kind) = false := by simp [q1]
  by_cases q2 : a.text = b.text
  rotate_left
  · have d2 : (a.text == b.text) = false := by simp [q2]
    simp only [go_sem,cells_nd,List.length_map,d1,d2]
    exact fin_pure1 (ids_scv _ _) hk
  have d2 : (a.text == b.text) = true := by simp [q2]
  by_cases q3 : a.num = b.num
  rotate_left
  · have d3 : (a.num != b.num) = true := by simp [q3]
    simp only [go_sem,cells_nd,List.length_map,d1,d2,d3]
    exact fin_pure1 (ids_scv _ _) hk
  have d3 : (a.num != b.num) = false := by simp [q3]
  by_cases q4 : a.names.length = b.names.length
  rotate_left
  · have d4 : ((a.names.length : Int) != (b.names.length : Int)) = true := by simp; omega
    simp only [go_sem,cells_nd,List.length_map,d1,d2,d3,d4]
    exact fin_pure1 (ids_scv _ _) hk
  have d4 : ((a.names.length : Int) != (b.names.length : Int)) = false := by simp [q4]
  have d5 : ((a.kids.length : Int) != (b.kids.length : Int)) = true := by
    have : a.kids.length ≠ b.kids.length := fun q5 => h ⟨q1,q2,q3,q4,q5⟩
    simp; omega
  simp only [go_sem,cells_nd,List.length_map,d1,d2,d3,d4,d5]
  exact fin_pure1 (ids_scv _ _) hk
theorem rsame_c {a b : Nd} (ha : Few 100000 a) (hb : Few 100000 b) : SameR 7 a b := by
  induction ha generalizing b with
  | mk a h h1 h2 ih =>
    intro K st hk
    have hb' := hb
    cases hb' with
    | mk _ g g1 g2 =>
    have hs : sameB a b = (decide (a.kind = b.kind) && decide (a.text = b.text) && decide (a.num = b.num) && decide (a.names = b.names) && sameBs a.kids b.kids) := by cases a; cases b; rfl
    by_cases hq : a.kind = b.kind ∧ a.text = b.text ∧ a.num = b.num ∧ a.names.length = b.names.length ∧ a.kids.length = b.kids.length
    · refine sameT_c (.mk a h h1 h2) hb hq.1 hq.2.1 hq.2.2.1 hq.2.2.2.1 hq.2.2.2.2 (fun x hx y hy => ih x hx (g y hy)) ?_
      rw [hs] at hk
      simpa [hq.1,hq.2.1,hq.2.2.1] using hk
    · refine sameN_c hq ?_
      have : sameB a b = false := by
        cases hh : sameB a b with
        | false => rfl
        | true =>
          obtain ⟨x1,x2,x3,x4,x5⟩ := same_parts hh
          exact absurd ⟨x1,x2,x3,by rw [x4],sameBs_len x5⟩ hq
      rw [this] at hk; exact hk
end Go.Proofs
