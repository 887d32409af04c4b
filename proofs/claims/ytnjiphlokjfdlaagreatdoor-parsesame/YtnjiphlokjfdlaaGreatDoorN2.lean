import Derived.Test.YtnjiphlokjfdlaaGreatDoorW0
import Derived.Test.YtnjiphlokjfdlaaGreatDoorM7
set_option maxHeartbeats 4000000
set_option linter.unusedSimpArgs false
set_option linter.unusedVariables false
set_option maxRecDepth 8000
namespace Go.AL
def dpL (T : List Tk) (p : PS) : List SV := [.slice .imm 4 (T.map tkSV),.sc (.int .i64 p.pos),.sc (.int .i64 p.deep),.sc (.int .i64 p.bad),.sc (.bool p.flat),.sc (.int .i64 p.e)]
def DAt (T : List Tk) (pid : Nat) (p : PS) (st : St) : Prop := st[pid]? = some (.cells (dpL T p))
theorem objs_dp (n : Nat) (T : List Tk) (p : PS) : ObIds n (.cells (dpL T p)) := by
  have : ∀ x ∈ dpL T p,Ids n x := by
    unfold dpL
    simp only [List.forall_mem_cons,ids_sc,true_and]
    refine ⟨ids_slice (.inl rfl) fun x hx y hy => ?_,fun x hx => by cases hx⟩
    obtain ⟨t,_,rfl⟩ := List.mem_map.1 hx
    rw [cells_tk] at hy
    simp only [List.mem_cons,List.not_mem_nil,or_false] at hy
    rcases hy with rfl | rfl | rfl | rfl <;> exact .sc _
  exact fun j hj => this _ (by
    rw [List.getD_eq_getElem?_getD,List.getElem?_eq_getElem hj]
    exact List.getElem_mem hj)
theorem dset_id {T : List Tk} {pid : Nat} {p : PS} {st : St} (hp : DAt T pid p st) : st.set pid (.cells (dpL T p)) = st := by
  obtain ⟨h1,h2⟩ := List.getElem?_eq_some_iff.1 hp
  rw [← h2,List.set_getElem_self]
theorem dat_set {T : List Tk} {pid : Nat} {p p' : PS} {st : St} (hp : DAt T pid p st) : DAt T pid p' (st.set pid (.cells (dpL T p'))) := set_get (lt_of_get hp)
theorem dat_seta {T : List Tk} {pid : Nat} {p p' : PS} {st ex : St} (hp : DAt T pid p st) : DAt T pid p' (st.set pid (.cells (dpL T p')) ++ ex) := get_app (dat_set hp) ex
theorem dat_app {T : List Tk} {pid : Nat} {p : PS} {st ex : St} (hp : DAt T pid p st) : DAt T pid p (st ++ ex) := get_app hp ex
theorem find_z {T : List Tk} {pid : Nat} {p : PS} {st : St} {K : SV → St → Prop} {x y : SV} {ex : St} (hp : DAt T pid p st) (hi : ∀ n,Ids n y = True) (hk : K y (st.set pid (.cells (dpL T p)))) (hx : norm x = y) : FinM st K x (st ++ ex) :=
  fin_m0 hi (by rw [dset_id hp] at hk; exact hk) hx
theorem find_z1 {T : List Tk} {pid : Nat} {p : PS} {st : St} {K : SV → St → Prop} {x y : SV} (hp : DAt T pid p st) (hi : ∀ n,Ids n y = True) (hk : K y (st.set pid (.cells (dpL T p)))) (hx : norm x = y) : FinM st K x st := by
  have := find_z (ex := []) hp hi hk hx
  rwa [List.append_nil] at this
theorem find_m {T : List Tk} {pid : Nat} {p' : PS} {st : St} {K : SV → St → Prop} {x y : SV} {ex : St} (hi : ∀ n,Ids n y = True) (hk : K y (st.set pid (.cells (dpL T p')))) (hx : norm x = y) : FinM st K x (st.set pid (.cells (dpL T p')) ++ ex) := by
  subst hx; exact ⟨_,ex,rfl,(Mod.refl _).set _ _ (objs_dp _ _ _),by rw [hi]; trivial,hk⟩
theorem find_m1 {T : List Tk} {pid : Nat} {p' : PS} {st : St} {K : SV → St → Prop} {x y : SV} (hi : ∀ n,Ids n y = True) (hk : K y (st.set pid (.cells (dpL T p')))) (hx : norm x = y) : FinM st K x (st.set pid (.cells (dpL T p'))) := by
  subst hx; exact ⟨_,[],(List.append_nil _).symm,(Mod.refl _).set _ _ (objs_dp _ _ _),by rw [hi]; trivial,hk⟩
theorem find_nd {T : List Tk} {pid : Nat} {p' : PS} {nd : Nd} {st : St} {K : SV → St → Prop} {m1 m2 : AL.Mode} {z1 z2 : Nat} (hk : K (ndSV nd) (st.set pid (.cells (dpL T p')))) (h1 : z1 = 1 ∨ nd.names = []) (h2 : z2 = 6 ∨ nd.kids = []) {ex : St} :
    FinM st (LeK K) (ndRaw m1 m2 z1 z2 nd) (st.set pid (.cells (dpL T p')) ++ ex) :=
  ⟨_,ex,rfl,(Mod.refl _).set _ _ (objs_dp _ _ _),ids_raw _,_,le_raw h1 h2,hk⟩
theorem find_nd' {T : List Tk} {pid : Nat} {p' : PS} {nd : Nd} {st : St} {K : SV → St → Prop} (hk : K (ndSV nd) (st.set pid (.cells (dpL T p')))) {ex : St} :
    FinM st (LeK K) (ndSV nd) (st.set pid (.cells (dpL T p')) ++ ex) :=
  ⟨_,ex,rfl,(Mod.refl _).set _ _ (objs_dp _ _ _),by rw [norm_nd]; exact ids_nd _ _,_,by rw [norm_nd]; exact SVle.refl _,hk⟩
theorem find_own {T : List Tk} {pid kid ver : Nat} {p' : PS} {nd : Nd} {st : St} {K : SV → St → Prop} (hk : K (ndSV nd) (st.set pid (.cells (dpL T p')))) (hnm : nd.names = []) {ex : St} :
    FinM st (LeK K) (.agg (ndOwn kid ver nd)) (st.set pid (.cells (dpL T p')) ++ ex) := by
  have := find_nd (m1 := .full) (m2 := .own kid ver) (z1 := 0) (z2 := 6) hk (.inr hnm) (.inl rfl) (ex := ex)
  unfold ndRaw at this
  rw [hnm] at this
  exact this
theorem fin_p1 {st : St} {K : SV → St → Prop} {x : SV} (hi : Ids st.length (norm x) = True) (hk : K (norm x) st) : FinK st K x st := by
  have := fin_pure (ex := []) hi hk
  rwa [List.append_nil] at this
theorem take_step {T : List Tk} {p q : PS} {s : Tx} {t : Tk} (hb : isF T s p = some true) (h : takeF T p = some (t,q)) : stepR T p = some (t,q) := by
  unfold isF at hb
  rw [Option.map_eq_some_iff] at hb
  obtain ⟨u,hu,hi⟩ := hb
  obtain ⟨g,rfl⟩ := step_of hu (isT_kind hi) h
  exact g
theorem text_err {T : List Tk} {p p1 q : PS} {t : Tk} (h : failF T 14 p = some p1) (h2 : takeF T p1 = some (t,q)) : t.text = [] ∧ q = p1 := by
  have hne := fail_ne h (by decide)
  obtain ⟨h3,h4⟩ := take_inv h2
  have := look_err h3 hne
  subst this
  rw [if_neg (fun x => hne x.1)] at h4
  exact ⟨rfl,h4⟩
end Go.AL
namespace Go.Proofs
open Go Go.AL
def DC (T : List Tk) (pid : Nat) (f : FuncId) (e : PM Nd) : Prop := ∀ (p : PS) (r : Nd) (p' : PS),e p = some (r,p') → ∀ (K : SV → St → Prop) (st : St),DAt T pid p st → K (ndSV r) (st.set pid (.cells (dpL T p'))) → ACalls Tryz.prog f [.ptr pid 0] K st
theorem dkind_c {T : List Tk} {pid : Nat} {p : PS} {t : Tk} (h : lookF T p = some t) {K : SV → St → Prop} {st : St} (hp : DAt T pid p st) (hk : K (.sc (.int .i64 t.kind)) st) : ACalls Tryz.prog 16 [.ptr pid 0] K st := by
  refine acalls_go_pure [] Tryz.func16 rfl Tryz.results16 Tryz.ntmps16 ?_
  have y := cells_facts hp
  unfold dpL at y
  by_cases he : p.e = 0
  · have c1 : (p.e != 0) = false := by simp [he]
    unfold lookF at h
    rw [if_pos he] at h
    obtain ⟨hlt,hget⟩ := List.getElem?_eq_some_iff.1 h
    have hgt : (T.map tkSV).getD p.pos .any = tkSV t := by simp [List.getD_eq_getElem?_getD,h]
    simp only [go_sem,y.1,y.2.1,y.2.2,c1]
    refine awp_draw [] Tryz.mixed rfl ?_
    simp only [go_sem,y.1,y.2.1,y.2.2,hgt]
    refine ⟨by omega,fin_p1 (ids_scv _ _) hk⟩
  · have c1 : (p.e != 0) = true := by simp [he]
    unfold lookF at h
    rw [if_neg he] at h
    cases h
    simp only [go_sem,y.1,y.2.1,y.2.2,c1]
    exact fin_p1 (ids_scv _ _) hk
theorem dat_c {T : List Tk} {pid : Nat} {p : PS} {a : Int} (h : atR T p = some a) {K : SV → St → Prop} {st : St} (hp : DAt T pid p st) (hk : K (.sc (.int .i64 a)) st) : ACalls Tryz.prog 10 [.ptr pid 0] K st := by
  refine acalls_go_pure [] Tryz.func10 rfl Tryz.results10 Tryz.ntmps10 ?_
  have y := cells_facts hp
  unfold dpL at y
  unfold atR at h
  by_cases he : p.e = 0
  · have c1 : (p.e != 0) = false := by simp [he]
    unfold lookF at h
    rw [if_pos he,Option.map_eq_some_iff] at h
    obtain ⟨t,h,rfl⟩ := h
    obtain ⟨hlt,hget⟩ := List.getElem?_eq_some_iff.1 h
    have hgt : (T.map tkSV).getD p.pos .any = tkSV t := by simp [List.getD_eq_getElem?_getD,h]
    simp only [go_sem,y.1,y.2.1,y.2.2,c1]
    refine awp_draw [] Tryz.mixed rfl ?_
    simp only [go_sem,y.1,y.2.1,y.2.2,hgt]
    refine ⟨by omega,fin_p1 (ids_scv _ _) hk⟩
  · have c1 : (p.e != 0) = true := by simp [he]
    unfold lookF at h
    rw [if_neg he] at h
    cases h
    simp only [go_sem,y.1,y.2.1,y.2.2,c1]
    exact fin_p1 (ids_scv _ _) hk
theorem dis_c {T : List Tk} {pid : Nat} {p : PS} {s : Tx} {b : Bool} (h : isF T s p = some b) {K : SV → St → Prop} {st : St} (hp : DAt T pid p st) (hk : K (.sc (.bool b)) st) : ACalls Tryz.prog 11 [.ptr pid 0,.sc (.string (ba s))] K st := by
  unfold isF at h
  rw [Option.map_eq_some_iff] at h
  obtain ⟨t,hl,rfl⟩ := h
  refine acalls_go_pure [] Tryz.func11 rfl Tryz.results11 Tryz.ntmps11 ?_
  have y := cells_facts hp
  unfold dpL at y
  simp only [go_sem]
  refine dkind_c hl hp ?_
  by_cases c : t.kind = 5 ∨ t.kind = 6
  · have he : p.e = 0 := by
      by_cases c0 : p.e = 0
      · exact c0
      · unfold lookF at hl; rw [if_neg c0] at hl; cases hl; exact absurd c (by decide)
    unfold lookF at hl
    rw [if_pos he] at hl
    obtain ⟨hlt,hget⟩ := List.getElem?_eq_some_iff.1 hl
    have hgt : (T.map tkSV).getD p.pos .any = tkSV t := by simp [List.getD_eq_getElem?_getD,hl]
    have hi : isT t s = (t.text == s) := by unfold isT; rcases c with c | c <;> simp [c]
    rw [hi] at hk
    by_cases c5 : t.kind = 5
    · have c1 : (t.kind == 5) = true := by simp [c5]
      simp only [go_sem]
      refine awp_draw [] Tryz.mixed rfl ?_
      simp only [go_sem,y.1,y.2.1,y.2.2,hgt,c1]
      exact ⟨by omega,fin_p1 (ids_scv _ _) hk⟩
    · have c1 : (t.kind == 5) = false := by simp [c5]
      have c2 : (t.kind == 6) = true := by simp; omega
      simp only [go_sem]
      refine awp_draw [] Tryz.mixed rfl ?_
      simp only [go_sem,y.1,y.2.1,y.2.2,hgt,c1,c2]
      exact ⟨by omega,fin_p1 (ids_scv _ _) hk⟩
  · have c1 : (t.kind == 5) = false := by simp; omega
    have c2 : (t.kind == 6) = false := by simp; omega
    have hi : isT t s = false := by unfold isT; simp [c1,c2]
    rw [hi] at hk
    simp only [go_sem]
    refine awp_draw [] Tryz.mixed rfl ?_
    simp only [go_sem,y.1,y.2.1,y.2.2,c1,c2]
    exact fin_p1 (ids_scv _ _) hk
theorem dfail_c {T : List Tk} {pid : Nat} {p p' : PS} {e : Int} (h : failF T e p = some p') {K : SV → St → Prop} {st : St} (hp : DAt T pid p st) (hk : ∀ x,K x (st.set pid (.cells (dpL T p')))) : ACalls Tryz.prog 12 [.ptr pid 0,.sc (.int .i64 e)] K st := by
  refine acalls_go_mod [] Tryz.func12 rfl Tryz.results12 Tryz.ntmps12 ?_
  have y := cells_facts hp
  unfold dpL at y
  unfold failF at h
  by_cases he : p.e = 0
  · have c1 : (p.e == 0) = true := by simp [he]
    rw [if_pos he,Option.map_eq_some_iff] at h
    obtain ⟨t,h,rfl⟩ := h
    obtain ⟨hlt,hget⟩ := List.getElem?_eq_some_iff.1 h
    have hgt : (T.map tkSV).getD p.pos .any = tkSV t := by simp [List.getD_eq_getElem?_getD,h]
    simp only [go_sem,y.1,y.2.1,y.2.2,c1]
    refine awp_drawW [] [(0,[]),(0,[]),(0,[]),(0,[]),(0,[]),(0,[]),(0,[]),(0,[]),(0,[]),(0,[]),(0,[]),(0,[]),(0,[]),(0,[]),(1,[15])] Tryz.mixed rfl ?_
    simp only [go_sem,drawW_n,drawW_0,drawW_1,drawW_2,drawW_3,pend_n,pend_c,headD_c,isStore_s,y.1,y.2.1,y.2.2,hgt]
    exact ⟨by omega,find_m1 ids_none (hk _) rfl⟩
  · have c1 : (p.e == 0) = false := by simp [he]
    rw [if_neg he] at h
    cases h
    simp only [go_sem,y.1,y.2.1,y.2.2,c1]
    exact find_z1 hp ids_none (hk _) rfl
theorem dpos1 {T : List Tk} {p : PS} {t : Tk} (hT : T.length ≤ 100000) (h : lookF T p = some t) (he : p.e = 0) : IntKind.i64.wrap ((p.pos : Int) + 1) = ((p.pos + 1 : Nat) : Int) := by
  unfold lookF at h
  rw [if_pos he] at h
  obtain ⟨hlt,_⟩ := List.getElem?_eq_some_iff.1 h
  rw [IntWalk.i64_in _ (by omega)]; rfl
theorem dstep_c {T : List Tk} (hT : T.length ≤ 100000) {pid : Nat} {p p' : PS} {t : Tk} (h : stepR T p = some (t,p')) {K : SV → St → Prop} {st : St} (hp : DAt T pid p st) (hk : K (tkSV t) (st.set pid (.cells (dpL T p')))) : ACalls Tryz.prog 21 [.ptr pid 0] K st := by
  refine acalls_go_mod [] Tryz.func21 rfl Tryz.results21 Tryz.ntmps21 ?_
  have y := cells_facts hp
  unfold dpL at y
  unfold stepR at h
  rw [Option.map_eq_some_iff] at h
  obtain ⟨t0,hl,h⟩ := h
  by_cases h0 : t0.kind = 0
  · have c1 : (t0.kind == 0) = true := by simp [h0]
    rw [if_pos h0] at h
    cases h
    simp only [go_sem]
    refine dkind_c hl (dat_app hp) ?_
    simp only [go_sem,c1]
    exact find_z hp (fun n => ids_tk _ tk0) hk rfl
  · have c1 : (t0.kind == 0) = false := by simp [h0]
    rw [if_neg h0] at h
    cases h
    have he : p.e = 0 := by
      by_cases c0 : p.e = 0
      · exact c0
      · unfold lookF at hl; rw [if_neg c0] at hl; cases hl; exact absurd rfl h0
    have hw := dpos1 hT hl he
    have hl2 := hl
    unfold lookF at hl2
    rw [if_pos he] at hl2
    obtain ⟨hlt,hget⟩ := List.getElem?_eq_some_iff.1 hl2
    have hgt : (T.map tkSV).getD p.pos .any = tkSV t := by simp [List.getD_eq_getElem?_getD,hl2]
    simp only [go_sem]
    refine dkind_c hl (dat_app hp) ?_
    simp only [go_sem,c1]
    refine awp_drawW [] [(0,[11]),(0,[11]),(0,[11]),(0,[11]),(0,[11]),(0,[11]),(0,[11]),(0,[11]),(0,[11]),(0,[11]),(3,[11]),(1,[12])] Tryz.mixed rfl ?_
    simp only [go_sem,drawW_n,drawW_0,drawW_1,drawW_2,drawW_3,pend_n,pend_c,headD_c,isStore_s,y.1,y.2.1,y.2.2,hgt]
    refine ⟨by omega,_,_,⟨rfl,rfl⟩,?_⟩
    simp only [go_sem,drawW_n,drawW_0,drawW_1,drawW_2,drawW_3,pend_n,pend_c,headD_c,isStore_s,y.1,y.2.1,y.2.2,hgt,hw]
    exact ⟨by omega,find_m (fun n => ids_tk _ t) hk rfl⟩
theorem dwant_c {T : List Tk} (hT : T.length ≤ 100000) {pid : Nat} {p p' : PS} {s : Tx} (h : mustF T s p = some p') {K : SV → St → Prop} {st : St} (hp : DAt T pid p st) (hk : ∀ x,K x (st.set pid (.cells (dpL T p')))) : ACalls Tryz.prog 14 [.ptr pid 0,.sc (.string (ba s))] K st := by
  refine acalls_go_mod [] Tryz.func14 rfl Tryz.results14 Tryz.ntmps14 ?_
  unfold mustF mayF at h
  simp only [Option.bind_eq_some_iff,Prod.exists] at h
  obtain ⟨b',p1,⟨b,hb,h1⟩,h2⟩ := h
  simp only [go_sem]
  refine dis_c hb hp ?_
  cases b with
  | false =>
    simp only [Bool.false_eq_true,if_false,Option.some.injEq,Prod.mk.injEq] at h1
    obtain ⟨rfl,rfl⟩ := h1
    simp only [Bool.false_eq_true,if_false] at h2
    simp only [go_sem]
    refine dfail_c h2 hp fun x => ?_
    simp only [go_sem]
    exact find_m1 ids_none (hk _) rfl
  | true =>
    simp only [if_true,Option.map_eq_some_iff,Prod.exists,Prod.mk.injEq] at h1
    obtain ⟨t,q,ht,rfl,rfl⟩ := h1
    simp only [if_true,Option.some.injEq] at h2
    subst h2
    simp only [go_sem]
    refine dstep_c hT (take_step hb ht) hp ?_
    simp only [go_sem]
    exact find_m1 ids_none (hk _) rfl
theorem dtext_c {T : List Tk} (hT : T.length ≤ 100000) {pid : Nat} {p p' : PS} {k : Int} (hk0 : k ≠ 0) {x : Tx} (h : textR T k p = some (x,p')) {K : SV → St → Prop} {st : St} (hp : DAt T pid p st) (hk : K (.sc (.string (ba x))) (st.set pid (.cells (dpL T p')))) : ACalls Tryz.prog 22 [.ptr pid 0,.sc (.int .i64 k)] K st := by
  refine acalls_go_mod [] Tryz.func22 rfl Tryz.results22 Tryz.ntmps22 ?_
  unfold textR wordF at h
  simp only [Option.map_eq_some_iff,Option.bind_eq_some_iff,Prod.exists,Prod.mk.injEq] at h
  obtain ⟨u,q,⟨t,hl,p1,h1,h2⟩,rfl,rfl⟩ := h
  simp only [go_sem]
  refine dkind_c hl hp ?_
  by_cases c : t.kind = k
  · have c1 : (t.kind != k) = false := by simp [c]
    rw [if_neg (by simp [c])] at h1
    cases h1
    obtain ⟨g1,rfl⟩ := step_of hl (by omega) h2
    simp only [go_sem,c1]
    refine dstep_c hT g1 hp ?_
    simp only [go_sem,inS_get hp]
    exact find_m (ids_scv _) hk rfl
  · have c1 : (t.kind != k) = true := by simp [c]
    rw [if_pos c] at h1
    have ht := text_err h1 h2
    obtain ⟨hu,rfl⟩ := ht
    rw [hu] at hk
    simp only [go_sem,c1]
    refine dfail_c h1 hp fun x => ?_
    simp only [go_sem,inS_get hp]
    exact find_m1 (ids_scv _) hk rfl
def enterR (T : List Tk) : PM Bool := fun p => (if p.deep = 40 then failF T 15 p else some p).map fun p1 => if p1.e ≠ 0 then (false,p1) else (true,{ p1 with deep := p1.deep + 1 })
theorem denter_c {T : List Tk} {pid : Nat} {p p' : PS} {b : Bool} (hd : p.deep ≤ 1000) (h : enterR T p = some (b,p')) {K : SV → St → Prop} {st : St} (hp : DAt T pid p st) (hk : K (.sc (.bool b)) (st.set pid (.cells (dpL T p')))) : ACalls Tryz.prog 25 [.ptr pid 0] K st := by
  refine acalls_go_mod [] Tryz.func25 rfl Tryz.results25 Tryz.ntmps25 ?_
  have y := cells_facts hp
  unfold dpL at y
  unfold enterR at h
  rw [Option.map_eq_some_iff] at h
  obtain ⟨p1,h1,h⟩ := h
  have y1 := cells_facts (dat_set (p' := p1) hp)
  unfold dpL at y1
  have hw : IntKind.i64.wrap ((p.deep : Int) + 1) = ((p.deep + 1 : Nat) : Int) := by rw [IntWalk.i64_in _ (by omega)]; rfl
  by_cases c : p.deep = 40
  · have c1 : ((p.deep : Int) == 40) = true := by simp [c]
    rw [if_pos c] at h1
    have hne := fail_ne h1 (by decide)
    have c2 : (p1.e != 0) = true := by simp [hne]
    rw [if_pos hne] at h
    cases h
    simp only [go_sem,y.1,y.2.1,y.2.2,c1]
    refine dfail_c h1 hp fun x => ?_
    unfold dpL
    simp only [go_sem,y1.1,y1.2.1,y1.2.2,c2]
    exact find_m1 (ids_scv _) hk rfl
  · have c1 : ((p.deep : Int) == 40) = false := by simp; omega
    rw [if_neg c] at h1
    cases h1
    by_cases he : p.e = 0
    · have c2 : (p.e != 0) = false := by simp [he]
      rw [if_neg (by simp [he])] at h
      cases h
      simp only [go_sem,y.1,y.2.1,y.2.2,c1,c2,hw]
      exact find_m1 (ids_scv _) hk rfl
    · have c2 : (p.e != 0) = true := by simp [he]
      rw [if_pos he] at h
      cases h
      simp only [go_sem,y.1,y.2.1,y.2.2,c1,c2]
      exact find_z1 hp (ids_scv _) hk rfl
end Go.Proofs
namespace Go.AL
theorem dat_setf {T : List Tk} {pid : Nat} {p p0 : PS} {b : Bool} {st ex : St} (hp : DAt T pid p0 st) :
    DAt T pid { p with flat := b } (st.set pid (.cells [SV.slice .imm 4 (T.map tkSV),.sc (.int .i64 p.pos),.sc (.int .i64 p.deep),.sc (.int .i64 p.bad),.sc (.bool b),.sc (.int .i64 p.e)]) ++ ex) := dat_seta hp
end Go.AL
namespace Go.Proofs
open Go Go.AL
theorem dis_t {T : List Tk} {pid : Nat} {p : PS} {t : Tk} (h : lookF T p = some t) {s : Tx} {b : Bool} (hb : isT t s = b) {K : SV → St → Prop} {st : St} (hp : DAt T pid p st) (hk : K (.sc (.bool b)) st) : ACalls Tryz.prog 11 [.ptr pid 0,.sc (.string (ba s))] K st :=
  dis_c (by unfold isF; rw [h,← hb]; rfl) hp hk
theorem dop_c {T : List Tk} {pid : Nat} {p : PS} {t : Tk} (h : lookF T p = some t) {a b c : Tx} {K : SV → St → Prop} {st : St} (hp : DAt T pid p st) (hk : K (.sc (.string (ba (opR t a b c)))) st) : ACalls Tryz.prog 49 [.ptr pid 0,.sc (.string (ba a)),.sc (.string (ba b)),.sc (.string (ba c))] K st := by
  refine acalls_go_pure [] Tryz.func49 rfl Tryz.results49 Tryz.ntmps49 ?_
  simp only [go_sem]
  refine awp_rounds [] (fun k env s => ∃ i : Nat,k + i = 3 ∧ (1 ≤ i → isT t a = false) ∧ (2 ≤ i → isT t b = false) ∧ (3 ≤ i → isT t c = false) ∧ env = [.ptr pid 0,.sc (.string (ba a)),.sc (.string (ba b)),.sc (.string (ba c)),.any,.any,.any,.any,.sc (.string ⟨#[]⟩),.sc (.int .i64 i),.any,.any,.any,.any,.any,.any,.any,.any,.any,.any,.any,.any,.any,.any,.any,.any,.any,.any] ∧ s = st) (n := 3) ?_ ⟨0,by omega,by omega,by omega,by omega,rfl,rfl⟩ ?_
  · repeat (first | exact leEnv_nil | refine leEnv_any _ ?_ | refine leEnv_same _ ?_ | refine leEnv_norm _ ?_)
  rintro k env s ⟨i,hi,h1,h2,h3,rfl,rfl⟩
  have hc : i = 0 ∨ i = 1 ∨ i = 2 ∨ i = 3 := by omega
  have z0 : decide (((0 : Nat) : Int) < 3) = true ∧ (((0 : Nat) : Int) == 1) = false ∧ (((0 : Nat) : Int) == 2) = false ∧ IntKind.i64.wrap (((0 : Nat) : Int) + 1) = ((1 : Nat) : Int) := ⟨rfl,rfl,rfl,rfl⟩
  have z1 : decide (((1 : Nat) : Int) < 3) = true ∧ (((1 : Nat) : Int) == 1) = true ∧ (((1 : Nat) : Int) == 2) = false ∧ IntKind.i64.wrap (((1 : Nat) : Int) + 1) = ((2 : Nat) : Int) := ⟨rfl,rfl,rfl,rfl⟩
  have z2 : decide (((2 : Nat) : Int) < 3) = true ∧ (((2 : Nat) : Int) == 1) = false ∧ (((2 : Nat) : Int) == 2) = true ∧ IntKind.i64.wrap (((2 : Nat) : Int) + 1) = ((3 : Nat) : Int) := ⟨rfl,rfl,rfl,rfl⟩
  have z3 : decide (((3 : Nat) : Int) < 3) = false := rfl
  rcases hc with rfl | rfl | rfl | rfl
  · cases ha : isT t a with
    | true =>
      have ho : opR t a b c = a := by unfold opR; rw [if_pos ha]
      rw [ho] at hk
      simp only [go_sem,z0.1,z0.2.1,z0.2.2.1,z0.2.2.2]
      refine dis_t h ha hp ?_
      simp only [go_sem,z0.1,z0.2.1,z0.2.2.1,z0.2.2.2]
      exact fin_p1 (ids_scv _ _) hk
    | false =>
      simp only [go_sem,z0.1,z0.2.1,z0.2.2.1,z0.2.2.2]
      refine dis_t h ha hp ?_
      simp only [go_sem,z0.1,z0.2.1,z0.2.2.1,z0.2.2.2]
      refine ⟨2,_,by omega,?_,1,by omega,(fun h => by omega),(fun h => by omega),rfl⟩
      repeat (first | exact leEnv_nil | refine leEnv_any _ ?_ | refine leEnv_same _ ?_ | refine leEnv_norm _ ?_)
  · have ha := h1 (by omega)
    cases hb : isT t b with
    | true =>
      have ho : opR t a b c = b := by unfold opR; rw [if_neg (by rw [ha]; decide),if_pos hb]
      rw [ho] at hk
      simp only [go_sem,z1.1,z1.2.1,z1.2.2.1,z1.2.2.2]
      refine dis_t h hb hp ?_
      simp only [go_sem,z1.1,z1.2.1,z1.2.2.1,z1.2.2.2]
      exact fin_p1 (ids_scv _ _) hk
    | false =>
      simp only [go_sem,z1.1,z1.2.1,z1.2.2.1,z1.2.2.2]
      refine dis_t h hb hp ?_
      simp only [go_sem,z1.1,z1.2.1,z1.2.2.1,z1.2.2.2]
      refine ⟨1,_,by omega,?_,2,by omega,(fun _ => ha),(fun h => by omega),rfl⟩
      repeat (first | exact leEnv_nil | refine leEnv_any _ ?_ | refine leEnv_same _ ?_ | refine leEnv_norm _ ?_)
  · have ha := h1 (by omega)
    have hb := h2 (by omega)
    cases hc : isT t c with
    | true =>
      have ho : opR t a b c = c := by unfold opR; rw [if_neg (by rw [ha]; decide),if_neg (by rw [hb]; decide),if_pos hc]
      rw [ho] at hk
      simp only [go_sem,z2.1,z2.2.1,z2.2.2.1,z2.2.2.2]
      refine dis_t h hc hp ?_
      simp only [go_sem,z2.1,z2.2.1,z2.2.2.1,z2.2.2.2]
      exact fin_p1 (ids_scv _ _) hk
    | false =>
      simp only [go_sem,z2.1,z2.2.1,z2.2.2.1,z2.2.2.2]
      refine dis_t h hc hp ?_
      simp only [go_sem,z2.1,z2.2.1,z2.2.2.1,z2.2.2.2]
      refine ⟨0,_,by omega,?_,3,by omega,(fun _ => ha),(fun _ => hb),rfl⟩
      repeat (first | exact leEnv_nil | refine leEnv_any _ ?_ | refine leEnv_same _ ?_ | refine leEnv_norm _ ?_)
  · have ho : opR t a b c = [] := by unfold opR; rw [if_neg (by rw [h1 (by omega)]; decide),if_neg (by rw [h2 (by omega)]; decide),if_neg (by rw [h3 (by omega)]; decide)]
    rw [ho] at hk
    simp only [go_sem,z3]
    exact fin_p1 (ids_scv _ _) hk
theorem dop_c2 {T : List Tk} {pid : Nat} {p : PS} {t : Tk} (h : lookF T p = some t) {a b c x : Tx} (hx : opR t a b c = x) {K : SV → St → Prop} {st : St} (hp : DAt T pid p st) (hk : K (.sc (.string (ba x))) st) : ACalls Tryz.prog 49 [.ptr pid 0,.sc (.string (ba a)),.sc (.string (ba b)),.sc (.string (ba c))] K st := by
  subst hx; exact dop_c h hp hk
theorem begins_op (t : Tk) : beginsT t = ((t.kind == 1 || t.kind == 2 || t.kind == 3 || t.kind == 4) || ((opR t [40] [114,101,116,114,121] [109,97,116,99,104] != []) || isT t [116,114,121])) := by
  unfold beginsT opR
  cases h1 : isT t [40] <;> cases h2 : isT t [114,101,116,114,121] <;> cases h3 : isT t [109,97,116,99,104] <;> simp
theorem dbegins_c {T : List Tk} {pid : Nat} {p : PS} {t : Tk} (h : lookF T p = some t) {b : Bool} (hb : beginsT t = b) {K : SV → St → Prop} {st : St} (hp : DAt T pid p st) (hk : K (.sc (.bool b)) st) : ACalls Tryz.prog 99 [.ptr pid 0] K st := by
  subst hb
  refine acalls_go_pure [] Tryz.func99 rfl Tryz.results99 Tryz.ntmps99 ?_
  rw [begins_op] at hk
  obtain ⟨o,ho⟩ : ∃ o,opR t [40] [114,101,116,114,121] [109,97,116,99,104] = o := ⟨_,rfl⟩
  rw [ho] at hk
  by_cases c : t.kind = 1 ∨ t.kind = 2 ∨ t.kind = 3 ∨ t.kind = 4
  · have hc : (t.kind == 1 || t.kind == 2 || t.kind == 3 || t.kind == 4) = true := by simp; omega
    rw [hc,Bool.true_or] at hk
    by_cases c1 : t.kind = 1
    · have d1 : (t.kind == 1) = true := by simp [c1]
      simp only [go_sem]
      refine dkind_c h hp ?_
      simp only [go_sem,d1]
      exact fin_p1 (ids_scv _ _) hk
    have d1 : (t.kind == 1) = false := by simp [c1]
    by_cases c2 : t.kind = 2
    · have d2 : (t.kind == 2) = true := by simp [c2]
      simp only [go_sem]
      refine dkind_c h hp ?_
      simp only [go_sem,d1,d2]
      exact fin_p1 (ids_scv _ _) hk
    have d2 : (t.kind == 2) = false := by simp [c2]
    by_cases c3 : t.kind = 3
    · have d3 : (t.kind == 3) = true := by simp [c3]
      simp only [go_sem]
      refine dkind_c h hp ?_
      simp only [go_sem,d1,d2,d3]
      exact fin_p1 (ids_scv _ _) hk
    have d3 : (t.kind == 3) = false := by simp [c3]
    have d4 : (t.kind == 4) = true := by simp; omega
    simp only [go_sem]
    refine dkind_c h hp ?_
    simp only [go_sem,d1,d2,d3,d4]
    exact fin_p1 (ids_scv _ _) hk
  · have hc : (t.kind == 1 || t.kind == 2 || t.kind == 3 || t.kind == 4) = false := by simp; omega
    have c1 : (t.kind == 1) = false := by simp; omega
    have c2 : (t.kind == 2) = false := by simp; omega
    have c3 : (t.kind == 3) = false := by simp; omega
    have c4 : (t.kind == 4) = false := by simp; omega
    rw [hc,Bool.false_or] at hk
    cases co : o == [] with
    | true =>
      have ho0 : (o != []) = false := by simpa using co
      rw [ho0,Bool.false_or] at hk
      cases ht : isT t [116,114,121] with
      | true =>
        rw [ht] at hk
        simp only [go_sem]
        refine dkind_c h hp ?_
        simp only [go_sem,c1,c2,c3,c4]
        refine dop_c2 h ho hp ?_
        simp only [go_sem]
        refine dis_t h ht hp ?_
        simp only [go_sem,tl_ba,tl_mk,List.toList_toArray,co]
        exact fin_p1 (ids_scv _ _) hk
      | false =>
        rw [ht] at hk
        simp only [go_sem]
        refine dkind_c h hp ?_
        simp only [go_sem,c1,c2,c3,c4]
        refine dop_c2 h ho hp ?_
        simp only [go_sem]
        refine dis_t h ht hp ?_
        simp only [go_sem,tl_ba,tl_mk,List.toList_toArray,co]
        exact fin_p1 (ids_scv _ _) hk
    | false =>
      have ho0 : (o != []) = true := by simpa using co
      rw [ho0,Bool.true_or] at hk
      simp only [go_sem]
      refine dkind_c h hp ?_
      simp only [go_sem,c1,c2,c3,c4]
      refine dop_c2 h ho hp ?_
      simp only [go_sem]
      refine dis_t h rfl hp ?_
      simp only [go_sem,tl_ba,tl_mk,List.toList_toArray,co]
      exact fin_p1 (ids_scv _ _) hk
theorem dleaf_c {T : List Tk} (hT : T.length ≤ 100000) {pid : Nat} {k : Int} {p p' : PS} {r : Nd} (h : leafR T k p = some (r,p')) {K : SV → St → Prop} {st : St} (hp : DAt T pid p st) (hk : K (ndSV r) (st.set pid (.cells (dpL T p')))) : ACalls Tryz.prog 112 [.ptr pid 0,.sc (.int .i64 k)] K st := by
  refine acalls_leK (acalls_go_mod [] Tryz.func112 rfl Tryz.results112 Tryz.ntmps112 ?_)
  unfold leafR at h
  simp only [Option.map_eq_some_iff,Prod.exists,Prod.mk.injEq] at h
  obtain ⟨t,q,h1,rfl,rfl⟩ := h
  simp only [go_sem]
  refine dstep_c hT h1 (dat_app hp) ?_
  simp only [go_sem,inS_get hp]
  exact find_nd (m1 := .full) (m2 := .full) (z1 := 0) (z2 := 0) hk (.inr rfl) (.inr rfl)
theorem dwhole_c {T : List Tk} {pid : Nat} {e : PM Nd} (he : DC T pid 15 e) : DC T pid 113 (wholeR e) := by
  intro p r p' h K st hp hk
  refine acalls_leK (acalls_go_mod [] Tryz.func113 rfl Tryz.results113 Tryz.ntmps113 ?_)
  have y := cells_facts hp
  unfold dpL at y
  unfold wholeR at h
  simp only [Option.map_eq_some_iff,Prod.exists,Prod.mk.injEq] at h
  obtain ⟨x,q,h1,rfl,rfl⟩ := h
  simp only [go_sem,y.1,y.2.1,y.2.2]
  refine he _ _ _ h1 _ _ (dat_setf hp) ?_
  unfold dpL
  have y1 := cells_facts (dat_set (p' := q) hp)
  unfold dpL at y1
  simp only [go_sem,y.1,y.2.1,y.2.2,inS_get hp,y1.1,y1.2.1,y1.2.2]
  exact find_nd' (p' := { q with flat := p.flat }) hk
theorem deepR_inv {T : List Tk} {e : PM Nd} {p q : PS} {r : Nd} (h : deepR T e p = some (r,q)) : p.deep ≤ 1000 ∧ ((enterR T p = some (false,q) ∧ r = nd0) ∨
    (∃ q1,enterR T p = some (true,{ p with deep := p.deep + 1 }) ∧ e { p with deep := p.deep + 1 } = some (r,q1) ∧ q1.deep ≠ 0 ∧ q1.deep ≤ 1000 ∧ q = { q1 with deep := q1.deep - 1 })) := by
  unfold deepR at h
  by_cases c0 : 1000 < p.deep
  · rw [if_pos c0] at h; cases h
  rw [if_neg c0] at h
  refine ⟨by omega,?_⟩
  rw [Option.bind_eq_some_iff] at h
  obtain ⟨p1,h1,h⟩ := h
  by_cases c : p1.e ≠ 0
  · rw [if_pos c] at h
    cases h
    exact .inl ⟨by unfold enterR; rw [h1]; simp only [Option.map_some]; rw [if_pos c],rfl⟩
  · rw [if_neg c] at h
    have h40 : ¬ p.deep = 40 := fun x => by
      rw [if_pos x] at h1
      exact c (fail_ne h1 (by decide))
    have h1' := h1
    rw [if_neg h40] at h1; cases h1
    rw [Option.bind_eq_some_iff] at h
    obtain ⟨⟨x,q1⟩,h2,h⟩ := h
    dsimp only at h
    split at h
    · cases h
    · rename_i hd
      cases h
      exact .inr ⟨q1,by unfold enterR; rw [h1']; simp only [Option.map_some]; rw [if_neg c],h2,by omega,by omega,rfl⟩
theorem dexp_c {T : List Tk} {pid : Nat} {e : PM Nd} (he : DC T pid 26 e) : DC T pid 15 (deepR T e) := by
  intro p r p' h K st hp hk
  refine acalls_leK (acalls_go_mod [] Tryz.func15 rfl Tryz.results15 Tryz.ntmps15 ?_)
  obtain ⟨hd,h⟩ := deepR_inv h
  rcases h with ⟨h1,rfl⟩ | ⟨q1,h1,h2,h3,h4,rfl⟩
  · simp only [go_sem]
    refine denter_c hd h1 (dat_app hp) ?_
    simp only [go_sem,inS_get hp]
    exact find_nd (m1 := .full) (m2 := .full) (z1 := 0) (z2 := 0) (nd := nd0) hk (.inr rfl) (.inr rfl)
  · have y1 := cells_facts (dat_set (p' := q1) hp)
    unfold dpL at y1
    have hw2 : IntKind.i64.wrap ((q1.deep : Int) - 1) = ((q1.deep - 1 : Nat) : Int) := by rw [IntWalk.i64_in _ (by omega)]; omega
    simp only [go_sem]
    refine denter_c hd h1 (dat_app hp) ?_
    simp only [go_sem,inS_get hp]
    refine he _ _ _ h2 _ _ (dat_seta hp) ?_
    unfold dpL
    simp only [go_sem,inS_get hp,y1.1,y1.2.1,y1.2.2,hw2]
    exact find_nd' (p' := { q1 with deep := q1.deep - 1 }) hk
end Go.Proofs
namespace Go.AL
theorem leafR_names {T : List Tk} {k : Int} {p p' : PS} {r : Nd} (h : leafR T k p = some (r,p')) : r.names = [] ∧ r.kids = [] := by
  unfold leafR at h
  simp only [Option.map_eq_some_iff,Prod.exists,Prod.mk.injEq] at h
  obtain ⟨t,q,h1,rfl,rfl⟩ := h
  exact ⟨rfl,rfl⟩
theorem dE_eq {r : Nd} (h : r.names = [] ∧ r.kids = []) : ndE r = .agg [.sc (.int .i64 r.kind),.sc (.string (ba r.text)),.sc (.int .i64 r.num),.sc (.int .i64 r.pos),.slice .full 0 [],.slice .full 0 []] := by
  unfold ndE ndRaw; rw [h.1,h.2]; rfl
theorem find_ndE {T : List Tk} {pid : Nat} {p' : PS} {k m a : Int} {t : Tx} {st : St} {K : SV → St → Prop} (hk : K (ndE (.mk k t m a [] [])) (st.set pid (.cells (dpL T p')))) {ex : St} :
    FinM0 st K (.agg [.sc (.int .i64 k),.sc (.string (ba t)),.sc (.int .i64 m),.sc (.int .i64 a),.slice .full 0 [],.slice .full 0 []]) (st.set pid (.cells (dpL T p')) ++ ex) :=
  ⟨_,ex,rfl,(Mod.refl _).set _ _ (objs_dp _ _ _),by
    rw [ids_agg]
    simp only [List.forall_mem_cons,ids_sc,true_and]
    exact ⟨ids_slice (.inr rfl) (fun x hx => by cases hx),ids_slice (.inr rfl) (fun x hx => by cases hx),fun x hx => by cases hx⟩,hk⟩
theorem op_empty {t : Tk} (a b : Tx) (ha : a ≠ []) (hb : b ≠ []) : (opR t a b a == []) = !(isT t a || isT t b) := by
  unfold opR
  cases h1 : isT t a with
  | true => simp [ha]
  | false =>
    cases h2 : isT t b with
    | true => simp [hb]
    | false => simp
end Go.AL
namespace Go.Proofs
open Go Go.AL
theorem dleafE_c {T : List Tk} (hT : T.length ≤ 100000) {pid : Nat} {k : Int} {p p' : PS} {r : Nd} (h : leafR T k p = some (r,p')) {K : SV → St → Prop} {st : St} (hp : DAt T pid p st) (hk : K (ndE r) (st.set pid (.cells (dpL T p')))) : ACalls Tryz.prog 112 [.ptr pid 0,.sc (.int .i64 k)] K st := by
  refine acalls_go_mod0 [] Tryz.func112 rfl Tryz.results112 Tryz.ntmps112 ?_
  unfold leafR at h
  simp only [Option.map_eq_some_iff,Prod.exists,Prod.mk.injEq] at h
  obtain ⟨t,q,h1,rfl,rfl⟩ := h
  simp only [go_sem]
  refine dstep_c hT h1 (dat_app hp) ?_
  simp only [go_sem,inS_get hp]
  exact find_ndE hk
theorem dpatomE_c {T : List Tk} (hT : T.length ≤ 100000) {pid : Nat} {p p' : PS} {r : Nd} {t : Tk} (hl : lookF T p = some t) (h4 : t.kind = 4) (h : leafR T 5 p = some (r,p')) {K : SV → St → Prop} {st : St} (hp : DAt T pid p st)
    (hk : K (ndE r) (st.set pid (.cells (dpL T p')))) : ACalls Tryz.prog 122 [.ptr pid 0] K st := by
  refine acalls_go_mod0 [] Tryz.func122 rfl Tryz.results122 Tryz.ntmps122 ?_
  have hr := leafR_names h
  have d1 : (t.kind == 1) = false := by simp [h4]
  have d3 : (t.kind == 3) = false := by simp [h4]
  have d4 : (t.kind == 4) = true := by simp [h4]
  rw [dE_eq hr] at hk
  simp only [go_sem]
  refine dkind_c hl (dat_app hp) ?_
  simp only [go_sem,d1,d3,d4]
  refine dleafE_c hT h (dat_app hp) ?_
  rw [dE_eq hr]
  simp only [go_sem,inS_get hp]
  exact ⟨_,_,rfl,(Mod.refl _).set _ _ (objs_dp _ _ _),by
    rw [ids_agg]
    simp only [List.forall_mem_cons,ids_sc,true_and]
    exact ⟨ids_slice (.inr rfl) (fun x hx => by cases hx),ids_slice (.inr rfl) (fun x hx => by cases hx),fun x hx => by cases hx⟩,hk⟩
theorem dpatom_c {T : List Tk} (hT : T.length ≤ 100000) {pid : Nat} {pt : PM Nd} (hpt : DC T pid 114 pt) : DC T pid 122 (patomR T pt) := by
  intro p r p' h K st hp hk
  refine acalls_leK (acalls_go_mod [] Tryz.func122 rfl Tryz.results122 Tryz.ntmps122 ?_)
  unfold patomR at h
  rw [Option.bind_eq_some_iff] at h
  obtain ⟨t,hl,h⟩ := h
  by_cases k1 : t.kind = 1
  · have d1 : (t.kind == 1) = true := by simp [k1]
    rw [if_pos k1] at h
    simp only [go_sem]
    refine dkind_c hl (dat_app hp) ?_
    simp only [go_sem,d1]
    refine dleaf_c hT h (dat_app hp) ?_
    simp only [go_sem,inS_get hp]
    exact find_nd' hk
  have d1 : (t.kind == 1) = false := by simp [k1]
  rw [if_neg k1] at h
  by_cases k3 : t.kind = 3
  · have d3 : (t.kind == 3) = true := by simp [k3]
    rw [if_pos k3] at h
    simp only [go_sem]
    refine dkind_c hl (dat_app hp) ?_
    simp only [go_sem,d1,d3]
    refine dleaf_c hT h (dat_app hp) ?_
    simp only [go_sem,inS_get hp]
    exact find_nd' hk
  have d3 : (t.kind == 3) = false := by simp [k3]
  rw [if_neg k3] at h
  by_cases k4 : t.kind = 4
  · have d4 : (t.kind == 4) = true := by simp [k4]
    rw [if_pos k4] at h
    simp only [go_sem]
    refine dkind_c hl (dat_app hp) ?_
    simp only [go_sem,d1,d3,d4]
    refine dleaf_c hT h (dat_app hp) ?_
    simp only [go_sem,inS_get hp]
    exact find_nd' hk
  have d4 : (t.kind == 4) = false := by simp [k4]
  rw [if_neg k4] at h
  cases b1 : isT t [95] with
  | true =>
    rw [if_pos b1] at h
    simp only [Option.map_eq_some_iff,Prod.exists,Prod.mk.injEq] at h
    obtain ⟨u,q,h1,rfl,rfl⟩ := h
    simp only [go_sem]
    refine dkind_c hl (dat_app hp) ?_
    simp only [go_sem,d1,d3,d4]
    refine dis_t hl b1 (dat_app hp) ?_
    simp only [go_sem]
    refine dis_t hl rfl (dat_app hp) ?_
    simp only [go_sem]
    refine dstep_c hT h1 (dat_app hp) ?_
    simp only [go_sem,inS_get hp]
    exact find_nd (m1 := .full) (m2 := .full) (z1 := 0) (z2 := 0) (nd := nodeF 24 u.pos [] []) hk (.inr rfl) (.inr rfl)
  | false =>
    rw [if_neg (by rw [b1]; decide)] at h
    cases b2 : isT t [40] with
    | true =>
      rw [if_pos b2] at h
      simp only [Option.bind_eq_some_iff,Option.map_eq_some_iff,Prod.exists,Prod.mk.injEq] at h
      obtain ⟨u,q,h1,x,q2,h2,q3,h3,rfl,rfl⟩ := h
      simp only [go_sem]
      refine dkind_c hl (dat_app hp) ?_
      simp only [go_sem,d1,d3,d4]
      refine dis_t hl b1 (dat_app hp) ?_
      simp only [go_sem]
      refine dis_t hl b2 (dat_app hp) ?_
      simp only [go_sem]
      refine dstep_c hT h1 (dat_app hp) ?_
      simp only [go_sem,inS_get hp]
      refine hpt _ _ _ h2 _ _ (dat_seta hp) ?_
      simp only [go_sem,inS_get hp]
      first | (unfold ACallsH; simp only [put_some,put_none',ev_tmp,List.set_cons_succ,List.set_cons_zero,List.getD_cons_succ,List.getD_cons_zero]) | skip
      refine dwant_c hT h3 (dat_seta hp) fun _ => ?_
      simp only [go_sem,inS_get hp]
      exact find_nd' hk
    | false =>
      rw [if_neg (by rw [b2]; decide)] at h
      simp only [Option.map_eq_some_iff,Prod.mk.injEq] at h
      obtain ⟨q,h1,rfl,rfl⟩ := h
      simp only [go_sem]
      refine dkind_c hl (dat_app hp) ?_
      simp only [go_sem,d1,d3,d4]
      refine dis_t hl b1 (dat_app hp) ?_
      simp only [go_sem]
      refine dis_t hl b2 (dat_app hp) ?_
      simp only [go_sem]
      refine dfail_c h1 (dat_app hp) fun _ => ?_
      simp only [go_sem,inS_get hp]
      exact find_nd (m1 := .full) (m2 := .full) (z1 := 0) (z2 := 0) (nd := nd0) hk (.inr rfl) (.inr rfl)
theorem dpat_c {T : List Tk} (hT : T.length ≤ 100000) {pid : Nat} {I : PM Nd} (hI : ∀ p r q,I p = some (r,q) → ∃ pt,DC T pid 114 pt ∧ patB T pt p = some (r,q)) : DC T pid 114 (deepR T I) := by
  intro p r p' h K st hp hk
  refine acalls_leK (acalls_go_mod [] Tryz.func114 rfl Tryz.results114 Tryz.ntmps114 ?_)
  obtain ⟨hd,h⟩ := deepR_inv h
  rcases h with ⟨h1,rfl⟩ | ⟨q1,h1,h2,h3,h4,rfl⟩
  · simp only [go_sem]
    refine denter_c hd h1 (dat_app hp) ?_
    simp only [go_sem,inS_get hp]
    exact find_nd (m1 := .full) (m2 := .full) (z1 := 0) (z2 := 0) (nd := nd0) hk (.inr rfl) (.inr rfl)
  obtain ⟨pt,hpt,hb⟩ := hI _ _ _ h2
  have hpa := dpatom_c hT hpt
  unfold patB at hb
  simp only [Option.bind_eq_some_iff,Prod.exists] at hb
  obtain ⟨t0,hl0,n0,p1,h5,hL⟩ := hb
  have y1 := cells_facts (dat_set (p' := q1) hp)
  unfold dpL at y1
  have hw2 : IntKind.i64.wrap ((q1.deep : Int) - 1) = ((q1.deep - 1 : Nat) : Int) := by rw [IntWalk.i64_in _ (by omega)]; omega
  by_cases hc : t0.kind = 4
  rotate_left
  · have c0 : (t0.kind == 4) = false := by simp [hc]
    rw [c0] at hL
    have hx : r = n0 ∧ q1 = p1 := by
      unfold patRL at hL
      cases hL; exact ⟨rfl,rfl⟩
    obtain ⟨rfl,rfl⟩ := hx
    simp only [go_sem]
    refine denter_c hd h1 (dat_app hp) ?_
    simp only [go_sem,inS_get hp]
    refine dkind_c hl0 (dat_seta hp) ?_
    simp only [go_sem,inS_get hp,c0]
    refine hpa _ _ _ h5 _ _ (dat_seta hp) ?_
    simp only [go_sem,inS_get hp,c0]
    refine awp_rounds [] (fun m env s => env = [.ptr pid 0,.any,.ptr st.length 0,.any,.sc (.bool false),.ptr (st.length + 1) 0,.any,.any,.any,.any,.any,.any,.any,.any,.any,.any,.any,.any,.any,.any,.any,.any,.any,.any,.any,.any,.any,.any,.any,.any,.any,.any,.any,.any,.any,.any,.any,.any,.any,.any,.any,.any,.any,.any,.any,.any,.any,.any,.any,.any,.any,.any,.any,.any,.any,.any,.any,.any] ∧ s = st.set pid (.cells (dpL T q1)) ++ [.cells zNd,.cells (ndSV r).cells]) (n := 0) ?_ ⟨rfl,rfl⟩ ?_
    · repeat (first | exact leEnv_nil | refine leEnv_any _ ?_ | refine leEnv_same _ ?_ | refine leEnv_norm _ ?_)
    rintro m env s ⟨rfl,rfl⟩
    unfold dpL zNd
    simp only [go_sem,inS_get hp,y1.1,y1.2.1,y1.2.2,hw2]
    exact find_nd' (p' := { q1 with deep := q1.deep - 1 }) hk
  have c0 : (t0.kind == 4) = true := by simp [hc]
  rw [c0] at hL
  have hl5 : leafR T 5 { p with deep := p.deep + 1 } = some (n0,p1) := by
    unfold patomR at h5
    rw [hl0] at h5
    simp only [Option.bind_some] at h5
    rwa [if_neg (by omega),if_neg (by omega),if_pos hc] at h5
  have hnm0 := leafR_names hl5
  simp only [go_sem]
  refine denter_c hd h1 (dat_app hp) ?_
  simp only [go_sem,inS_get hp]
  refine dkind_c hl0 (dat_seta hp) ?_
  simp only [go_sem,inS_get hp,c0]
  refine dpatomE_c hT hl0 hc hl5 (dat_seta hp) ?_
  rw [dE_eq hnm0]
  simp only [go_sem,inS_get hp,c0]
  refine awp_ownC (st.length + 1) 5 6 0 (get_sx 1) (by simp) rfl ?_
  rw [set_sx]
  simp only [List.length_append,len_sx,List.length_cons,List.length_nil,List.set_cons_succ,List.set_cons_zero,List.append_assoc,List.cons_append,List.nil_append,Nat.zero_add,Nat.reduceAdd]
  refine awp_rounds [] (fun m env s => ∃ (nd : Nd) (q : PS) (k : Nat) (ex : St),patRL T pt m true nd q = some (r,q1) ∧ m + nd.kids.length ≤ T.length + 2 ∧ nd.names = [] ∧ env = [.ptr pid 0,.any,.ptr st.length 0,.any,.sc (.bool true),.ptr (st.length + 1) 0,.any,.any,.any,.any,.any,.any,.any,.any,.any,.any,.any,.any,.any,.any,.any,.any,.any,.any,.any,.any,.any,.any,.any,.any,.any,.any,.any,.any,.any,.any,.any,.any,.any,.any,.any,.any,.any,.any,.any,.any,.any,.any,.any,.any,.any,.any,.any,.any,.any,.any,.any,.any] ∧
    s = st.set pid (.cells (dpL T q)) ++ (.cells zNd :: .cells (ndOwn (st.length + 2) k nd) :: .tok k :: ex)) (n := T.length + 2) ?_ ⟨n0,_,0,[],hL,by rw [hnm0.2]; simp,hnm0.1,rfl,by unfold ndOwn; rw [hnm0.2]; rfl⟩ ?_
  · repeat (first | exact leEnv_nil | refine leEnv_any _ ?_ | refine leEnv_same _ ?_ | refine leEnv_norm _ ?_)
  rintro m env s ⟨nd,q,k,ex,hl,hm,hnm,rfl,rfl⟩
  cases m with
  | zero => cases hl
  | succ m =>
  unfold patRL at hl
  rw [if_pos rfl,Option.bind_eq_some_iff] at hl
  obtain ⟨b,hb,hl⟩ := hl
  unfold patMore at hb
  rw [Option.map_eq_some_iff] at hb
  obtain ⟨t,ht,hb⟩ := hb
  obtain ⟨o,ho⟩ : ∃ o,opR t [95] [40] [95] = o := ⟨_,rfl⟩
  have hoe := op_empty (t := t) [95] [40] (by decide) (by decide)
  rw [ho] at hoe
  by_cases hE : isT t [95] = false ∧ isT t [40] = false ∧ t.kind ≠ 3 ∧ t.kind ≠ 1 ∧ t.kind ≠ 4
  · obtain ⟨e1,e2,e3,e4,e5⟩ := hE
    rw [e1,e2] at hoe hb
    have f3 : (t.kind == 3) = false := by simp [e3]
    have f1 : (t.kind == 1) = false := by simp [e4]
    have f4 : (t.kind == 4) = false := by simp [e5]
    have s1 : (o == []) = true := hoe
    have s2 : (t.kind != 3) = true := by simp [e3]
    have s3 : (t.kind != 1) = true := by simp [e4]
    have s4 : (t.kind != 4) = true := by simp [e5]
    rw [f3,f1,f4] at hb
    subst hb
    simp only [Bool.or_self,Bool.false_eq_true,if_false,Option.some.injEq,Prod.mk.injEq] at hl
    obtain ⟨rfl,rfl⟩ := hl
    unfold ndOwn zNd
    simp only [go_sem,c0]
    refine dkind_c ht (dat_seta hp) ?_
    simp only [go_sem,c0]
    refine dop_c2 ht ho (dat_seta hp) ?_
    unfold dpL
    simp only [go_sem,c0,tl_ba,tl_mk,List.toList_toArray,s1,s2,s3,s4,inS_get hp,y1.1,y1.2.1,y1.2.2,hw2]
    exact find_own (p' := { q with deep := q.deep - 1 }) hk hnm
  have hbt : b = true := by
    rw [← hb]
    cases x1 : isT t [95] <;> cases x2 : isT t [40] <;> simp
    simp only [x1,x2,true_and,ne_eq,not_and,Decidable.not_not] at hE
    omega
  subst hbt
  rw [if_pos rfl] at hl
  have hsh : (o == []) = false ∨ ((o == []) = true ∧ t.kind = 3) ∨ ((o == []) = true ∧ t.kind = 1) ∨ ((o == []) = true ∧ t.kind = 4) := by
    cases x1 : isT t [95] <;> cases x2 : isT t [40] <;> rw [x1,x2] at hoe
    · right
      simp only [x1,x2,true_and,ne_eq,not_and,Decidable.not_not] at hE
      have : t.kind = 3 ∨ t.kind = 1 ∨ t.kind = 4 := by omega
      rcases this with g | g | g
      · exact .inl ⟨hoe,g⟩
      · exact .inr (.inl ⟨hoe,g⟩)
      · exact .inr (.inr ⟨hoe,g⟩)
    all_goals exact .inl hoe
  rcases hsh with s1 | ⟨s1,g⟩ | ⟨s1,g⟩ | ⟨s1,g⟩
  · by_cases c4 : nd.kids.length = 4
    · have l1 : ((nd.kids.length : Int) == 4) = true := by simp [c4]
      rw [if_pos c4,Option.map_eq_some_iff] at hl
      obtain ⟨p2,h6,hl⟩ := hl
      cases hl
      unfold ndOwn zNd
      simp only [go_sem,c0]
      refine dkind_c ht (dat_seta hp) ?_
      simp only [go_sem,c0]
      refine dop_c2 ht ho (dat_seta hp) ?_
      simp only [go_sem,c0,tl_ba,tl_mk,List.toList_toArray,List.length_map,l1,s1]
      first | (unfold ACallsH; simp only [put_some,put_none',ev_tmp,List.set_cons_succ,List.set_cons_zero,List.getD_cons_succ,List.getD_cons_zero]) | skip
      refine dfail_c h6 (dat_seta hp) fun _ => ?_
      unfold dpL
      simp only [go_sem,c0,inS_get hp,y1.1,y1.2.1,y1.2.2,hw2]
      exact find_own (p' := { q1 with deep := q1.deep - 1 }) hk hnm
    · have l1 : ((nd.kids.length : Int) == 4) = false := by simp; omega
      rw [if_neg c4,Option.bind_eq_some_iff] at hl
      obtain ⟨⟨x,p2⟩,h6,hl⟩ := hl
      unfold ndOwn zNd
      simp only [go_sem,c0]
      refine dkind_c ht (dat_seta hp) ?_
      simp only [go_sem,c0]
      refine dop_c2 ht ho (dat_seta hp) ?_
      simp only [go_sem,c0,tl_ba,tl_mk,List.toList_toArray,List.length_map,l1,s1]
      refine awp_drawW [] [(0,[5]),(0,[5]),(0,[]),(3,[5]),(0,[]),(3,[7]),(0,[]),(1,[8])] Tryz.mixed rfl ?_
      simp only [go_sem,drawW_n,drawW_0,drawW_1,drawW_2,drawW_3,pend_n,pend_c,headD_c,isStore_s]
      refine ⟨_,_,hpa _ _ _ h6 _ _ (dat_seta hp) ⟨rfl,rfl⟩,?_⟩
      simp only [go_sem,drawW_n,drawW_0,drawW_1,drawW_2,drawW_3,pend_n,pend_c,headD_c,isStore_s,inS_get hp]
      rw [dk_eff]
      refine ⟨.slice .full 6 [ndSV x],?_,?_⟩
      · simp only [go_sem]
        exact ⟨⟨[],by simp⟩,ids_nds _ _ (.inr rfl) _ [_],.inl rfl⟩
      simp only [go_sem,drawW_n,drawW_0,drawW_1,drawW_2,drawW_3,pend_n,pend_c,headD_c,isStore_s]
      refine ⟨_,_,⟨Tryz.app6 (by omega),rfl,rfl⟩,?_⟩
      simp only [go_sem]
      refine ⟨m,_,by omega,?_,nd.addKid x,p2,k + 1,_,hl,by rw [ak_kids]; simp; omega,by rw [ak_names]; exact hnm,rfl,by rw [ak_kind,ak_text,ak_num,ak_pos,ak_kids,List.map_append]; rfl⟩
      repeat (first | exact leEnv_nil | refine leEnv_any _ ?_ | refine leEnv_same _ ?_ | refine leEnv_norm _ ?_)
  · have s2 : (t.kind != 3) = false := by simp [g]
    by_cases c4 : nd.kids.length = 4
    · have l1 : ((nd.kids.length : Int) == 4) = true := by simp [c4]
      rw [if_pos c4,Option.map_eq_some_iff] at hl
      obtain ⟨p2,h6,hl⟩ := hl
      cases hl
      unfold ndOwn zNd
      simp only [go_sem,c0]
      refine dkind_c ht (dat_seta hp) ?_
      simp only [go_sem,c0]
      refine dop_c2 ht ho (dat_seta hp) ?_
      simp only [go_sem,c0,tl_ba,tl_mk,List.toList_toArray,List.length_map,l1,s1,s2]
      first | (unfold ACallsH; simp only [put_some,put_none',ev_tmp,List.set_cons_succ,List.set_cons_zero,List.getD_cons_succ,List.getD_cons_zero]) | skip
      refine dfail_c h6 (dat_seta hp) fun _ => ?_
      unfold dpL
      simp only [go_sem,c0,inS_get hp,y1.1,y1.2.1,y1.2.2,hw2]
      exact find_own (p' := { q1 with deep := q1.deep - 1 }) hk hnm
    · have l1 : ((nd.kids.length : Int) == 4) = false := by simp; omega
      rw [if_neg c4,Option.bind_eq_some_iff] at hl
      obtain ⟨⟨x,p2⟩,h6,hl⟩ := hl
      unfold ndOwn zNd
      simp only [go_sem,c0]
      refine dkind_c ht (dat_seta hp) ?_
      simp only [go_sem,c0]
      refine dop_c2 ht ho (dat_seta hp) ?_
      simp only [go_sem,c0,tl_ba,tl_mk,List.toList_toArray,List.length_map,l1,s1,s2]
      refine awp_drawW [] [(0,[5]),(0,[5]),(0,[]),(3,[5]),(0,[]),(3,[7]),(0,[]),(1,[8])] Tryz.mixed rfl ?_
      simp only [go_sem,drawW_n,drawW_0,drawW_1,drawW_2,drawW_3,pend_n,pend_c,headD_c,isStore_s]
      refine ⟨_,_,hpa _ _ _ h6 _ _ (dat_seta hp) ⟨rfl,rfl⟩,?_⟩
      simp only [go_sem,drawW_n,drawW_0,drawW_1,drawW_2,drawW_3,pend_n,pend_c,headD_c,isStore_s,inS_get hp]
      rw [dk_eff]
      refine ⟨.slice .full 6 [ndSV x],?_,?_⟩
      · simp only [go_sem]
        exact ⟨⟨[],by simp⟩,ids_nds _ _ (.inr rfl) _ [_],.inl rfl⟩
      simp only [go_sem,drawW_n,drawW_0,drawW_1,drawW_2,drawW_3,pend_n,pend_c,headD_c,isStore_s]
      refine ⟨_,_,⟨Tryz.app6 (by omega),rfl,rfl⟩,?_⟩
      simp only [go_sem]
      refine ⟨m,_,by omega,?_,nd.addKid x,p2,k + 1,_,hl,by rw [ak_kids]; simp; omega,by rw [ak_names]; exact hnm,rfl,by rw [ak_kind,ak_text,ak_num,ak_pos,ak_kids,List.map_append]; rfl⟩
      repeat (first | exact leEnv_nil | refine leEnv_any _ ?_ | refine leEnv_same _ ?_ | refine leEnv_norm _ ?_)
  · have s2 : (t.kind != 3) = true := by simp [g]
    have s3 : (t.kind != 1) = false := by simp [g]
    by_cases c4 : nd.kids.length = 4
    · have l1 : ((nd.kids.length : Int) == 4) = true := by simp [c4]
      rw [if_pos c4,Option.map_eq_some_iff] at hl
      obtain ⟨p2,h6,hl⟩ := hl
      cases hl
      unfold ndOwn zNd
      simp only [go_sem,c0]
      refine dkind_c ht (dat_seta hp) ?_
      simp only [go_sem,c0]
      refine dop_c2 ht ho (dat_seta hp) ?_
      simp only [go_sem,c0,tl_ba,tl_mk,List.toList_toArray,List.length_map,l1,s1,s2,s3]
      first | (unfold ACallsH; simp only [put_some,put_none',ev_tmp,List.set_cons_succ,List.set_cons_zero,List.getD_cons_succ,List.getD_cons_zero]) | skip
      refine dfail_c h6 (dat_seta hp) fun _ => ?_
      unfold dpL
      simp only [go_sem,c0,inS_get hp,y1.1,y1.2.1,y1.2.2,hw2]
      exact find_own (p' := { q1 with deep := q1.deep - 1 }) hk hnm
    · have l1 : ((nd.kids.length : Int) == 4) = false := by simp; omega
      rw [if_neg c4,Option.bind_eq_some_iff] at hl
      obtain ⟨⟨x,p2⟩,h6,hl⟩ := hl
      unfold ndOwn zNd
      simp only [go_sem,c0]
      refine dkind_c ht (dat_seta hp) ?_
      simp only [go_sem,c0]
      refine dop_c2 ht ho (dat_seta hp) ?_
      simp only [go_sem,c0,tl_ba,tl_mk,List.toList_toArray,List.length_map,l1,s1,s2,s3]
      refine awp_drawW [] [(0,[5]),(0,[5]),(0,[]),(3,[5]),(0,[]),(3,[7]),(0,[]),(1,[8])] Tryz.mixed rfl ?_
      simp only [go_sem,drawW_n,drawW_0,drawW_1,drawW_2,drawW_3,pend_n,pend_c,headD_c,isStore_s]
      refine ⟨_,_,hpa _ _ _ h6 _ _ (dat_seta hp) ⟨rfl,rfl⟩,?_⟩
      simp only [go_sem,drawW_n,drawW_0,drawW_1,drawW_2,drawW_3,pend_n,pend_c,headD_c,isStore_s,inS_get hp]
      rw [dk_eff]
      refine ⟨.slice .full 6 [ndSV x],?_,?_⟩
      · simp only [go_sem]
        exact ⟨⟨[],by simp⟩,ids_nds _ _ (.inr rfl) _ [_],.inl rfl⟩
      simp only [go_sem,drawW_n,drawW_0,drawW_1,drawW_2,drawW_3,pend_n,pend_c,headD_c,isStore_s]
      refine ⟨_,_,⟨Tryz.app6 (by omega),rfl,rfl⟩,?_⟩
      simp only [go_sem]
      refine ⟨m,_,by omega,?_,nd.addKid x,p2,k + 1,_,hl,by rw [ak_kids]; simp; omega,by rw [ak_names]; exact hnm,rfl,by rw [ak_kind,ak_text,ak_num,ak_pos,ak_kids,List.map_append]; rfl⟩
      repeat (first | exact leEnv_nil | refine leEnv_any _ ?_ | refine leEnv_same _ ?_ | refine leEnv_norm _ ?_)
  · have s2 : (t.kind != 3) = true := by simp [g]
    have s3 : (t.kind != 1) = true := by simp [g]
    have s4 : (t.kind != 4) = false := by simp [g]
    by_cases c4 : nd.kids.length = 4
    · have l1 : ((nd.kids.length : Int) == 4) = true := by simp [c4]
      rw [if_pos c4,Option.map_eq_some_iff] at hl
      obtain ⟨p2,h6,hl⟩ := hl
      cases hl
      unfold ndOwn zNd
      simp only [go_sem,c0]
      refine dkind_c ht (dat_seta hp) ?_
      simp only [go_sem,c0]
      refine dop_c2 ht ho (dat_seta hp) ?_
      simp only [go_sem,c0,tl_ba,tl_mk,List.toList_toArray,List.length_map,l1,s1,s2,s3,s4]
      first | (unfold ACallsH; simp only [put_some,put_none',ev_tmp,List.set_cons_succ,List.set_cons_zero,List.getD_cons_succ,List.getD_cons_zero]) | skip
      refine dfail_c h6 (dat_seta hp) fun _ => ?_
      unfold dpL
      simp only [go_sem,c0,inS_get hp,y1.1,y1.2.1,y1.2.2,hw2]
      exact find_own (p' := { q1 with deep := q1.deep - 1 }) hk hnm
    · have l1 : ((nd.kids.length : Int) == 4) = false := by simp; omega
      rw [if_neg c4,Option.bind_eq_some_iff] at hl
      obtain ⟨⟨x,p2⟩,h6,hl⟩ := hl
      unfold ndOwn zNd
      simp only [go_sem,c0]
      refine dkind_c ht (dat_seta hp) ?_
      simp only [go_sem,c0]
      refine dop_c2 ht ho (dat_seta hp) ?_
      simp only [go_sem,c0,tl_ba,tl_mk,List.toList_toArray,List.length_map,l1,s1,s2,s3,s4]
      refine awp_drawW [] [(0,[5]),(0,[5]),(0,[]),(3,[5]),(0,[]),(3,[7]),(0,[]),(1,[8])] Tryz.mixed rfl ?_
      simp only [go_sem,drawW_n,drawW_0,drawW_1,drawW_2,drawW_3,pend_n,pend_c,headD_c,isStore_s]
      refine ⟨_,_,hpa _ _ _ h6 _ _ (dat_seta hp) ⟨rfl,rfl⟩,?_⟩
      simp only [go_sem,drawW_n,drawW_0,drawW_1,drawW_2,drawW_3,pend_n,pend_c,headD_c,isStore_s,inS_get hp]
      rw [dk_eff]
      refine ⟨.slice .full 6 [ndSV x],?_,?_⟩
      · simp only [go_sem]
        exact ⟨⟨[],by simp⟩,ids_nds _ _ (.inr rfl) _ [_],.inl rfl⟩
      simp only [go_sem,drawW_n,drawW_0,drawW_1,drawW_2,drawW_3,pend_n,pend_c,headD_c,isStore_s]
      refine ⟨_,_,⟨Tryz.app6 (by omega),rfl,rfl⟩,?_⟩
      simp only [go_sem]
      refine ⟨m,_,by omega,?_,nd.addKid x,p2,k + 1,_,hl,by rw [ak_kids]; simp; omega,by rw [ak_names]; exact hnm,rfl,by rw [ak_kind,ak_text,ak_num,ak_pos,ak_kids,List.map_append]; rfl⟩
      repeat (first | exact leEnv_nil | refine leEnv_any _ ?_ | refine leEnv_same _ ?_ | refine leEnv_norm _ ?_)
end Go.Proofs
