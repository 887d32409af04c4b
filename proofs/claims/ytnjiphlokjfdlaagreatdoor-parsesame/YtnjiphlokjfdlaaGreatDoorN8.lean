import Derived.Test.YtnjiphlokjfdlaaGreatDoorW0
set_option maxHeartbeats 4000000
set_option linter.unusedSimpArgs false
set_option linter.unusedVariables false
set_option maxRecDepth 8000
namespace Go.Proofs
open Go Go.AL
@[go_sem] theorem Tryz.aft48_0 : aFieldT Tryz.prog 48 0 = some (0,3) := by kernel_rfl
@[go_sem] theorem Tryz.aft48_1 : aFieldT Tryz.prog 48 1 = some (1,9) := by kernel_rfl
@[go_sem] theorem Tryz.aft48_3 : aFieldT Tryz.prog 48 3 = some (3,3) := by kernel_rfl
theorem look_c {T : List Tk} {pid : Nat} {p : PS} {t : Tk} (h : lookF T p = some t) {K : SV → St → Prop} {st : St} (hp : PAt T pid p st) (hk : K (tkSV t) st) : ACalls Tryz.prog 39 [.ptr pid 0] K st := by
  refine acalls_go_pure [] Tryz.func39 rfl Tryz.results39 Tryz.ntmps39 ?_
  have y := cells_facts hp
  unfold psL at y
  by_cases he : p.e = 0
  · have c1 : (p.e != 0) = false := by simp [he]
    unfold lookF at h
    rw [if_pos he] at h
    obtain ⟨hlt,hget⟩ := List.getElem?_eq_some_iff.1 h
    have hgt : (T.map tkSV).getD p.pos .any = tkSV t := by simp [List.getD_eq_getElem?_getD,h]
    simp only [go_sem,y.1,y.2.1,y.2.2,c1]
    refine awp_drawW [] [(0,[]),(0,[]),(0,[]),(0,[]),(0,[]),(0,[]),(0,[]),(0,[]),(0,[]),(0,[]),(1,[11])] Tryz.mixed rfl ?_
    simp only [go_sem,drawW_n,drawW_0,drawW_1,drawW_2,drawW_3,pend_n,pend_c,headD_c,isStore_s,y.1,y.2.1,y.2.2,hgt]
    refine ⟨by omega,fin_pure (ids_tk _ t) hk⟩
  · have c1 : (p.e != 0) = true := by simp [he]
    unfold lookF at h
    rw [if_neg he] at h
    cases h
    simp only [go_sem,y.1,y.2.1,y.2.2,c1]
    exact fin_pure (ids_tk _ tk0) hk
theorem is_c {T : List Tk} {pid : Nat} {p : PS} {t : Tk} {s : Tx} (h : lookF T p = some t) {K : SV → St → Prop} {st : St} (hp : PAt T pid p st) (hk : K (.sc (.bool (isT t s))) st) : ACalls Tryz.prog 40 [.ptr pid 0,.sc (.string (ba s))] K st := by
  refine acalls_go_pure [] Tryz.func40 rfl Tryz.results40 Tryz.ntmps40 ?_
  simp only [go_sem]
  refine look_c h hp ?_
  simp only [go_sem,tl_ba]
  exact ⟨fun h => by simp [h],fin_pure (eq_true (.sc _)) hk⟩
theorem fail_c {T : List Tk} {pid : Nat} {p p' : PS} {e : Int} (h : failF T e p = some p') {K : SV → St → Prop} {st : St} (hp : PAt T pid p st) (hk : ∀ x,K x (st.set pid (.cells (psL T p')))) : ACalls Tryz.prog 46 [.ptr pid 0,.sc (.int .i64 e)] K st := by
  refine acalls_go_mod [] Tryz.func46 rfl Tryz.results46 Tryz.ntmps46 ?_
  have y := cells_facts hp
  unfold psL at y
  unfold failF at h
  by_cases he : p.e = 0
  · have c1 : (p.e == 0) = true := by simp [he]
    rw [if_pos he] at h
    cases ht : T[p.pos]? with
    | none => rw [ht] at h; cases h
    | some t =>
      rw [ht] at h
      cases h
      simp only [go_sem,y.1,y.2.1,y.2.2,c1]
      refine look_c (t := t) (by unfold lookF; rw [if_pos he,ht]) hp ?_
      simp only [go_sem,y.1,y.2.1,y.2.2,c1]
      exact fin_m1 ids_none (hk _) rfl
  · have c1 : (p.e == 0) = false := by simp [he]
    rw [if_neg he] at h
    cases h
    simp only [go_sem,y.1,y.2.1,y.2.2,c1]
    exact fin_z1 hp ids_none (hk _) rfl
theorem take_pos {T : List Tk} {p : PS} {t : Tk} (hT : T.length ≤ 100000) (h : lookF T p = some t) (he : p.e = 0) : IntKind.i64.wrap ((p.pos : Int) + 1) = ((p.pos + 1 : Nat) : Int) := by
  unfold lookF at h
  rw [if_pos he] at h
  obtain ⟨hlt,_⟩ := List.getElem?_eq_some_iff.1 h
  rw [IntWalk.i64_in _ (by omega)]; rfl
theorem take_c {T : List Tk} (hT : T.length ≤ 100000) {pid : Nat} {p p' : PS} {t : Tk} (h : takeF T p = some (t,p')) {K : SV → St → Prop} {st : St} (hp : PAt T pid p st) (hk : K (tkSV t) (st.set pid (.cells (psL T p')))) : ACalls Tryz.prog 61 [.ptr pid 0] K st := by
  refine acalls_go_mod [] Tryz.func61 rfl Tryz.results61 Tryz.ntmps61 ?_
  have y := cells_facts hp
  unfold psL at y
  unfold takeF at h
  cases hl : lookF T p with
  | none => rw [hl] at h; cases h
  | some t0 =>
    rw [hl] at h
    simp only [Option.map_some,Option.some.injEq,Prod.mk.injEq] at h
    obtain ⟨rfl,rfl⟩ := h
    simp only [go_sem]
    refine look_c hl (psat_app hp) ?_
    have hw := fun he => take_pos hT hl he
    by_cases he : p.e = 0
    · have c1 : (p.e == 0) = true := by simp [he]
      by_cases hk0 : t0.kind = 0
      · have c2 : (t0.kind != 0) = false := by simp [hk0]
        rw [if_neg (by simp [hk0])] at hk
        simp only [go_sem,y.1,y.2.1,y.2.2,c1,c2]
        exact fin_z hp (fun n => ids_tk _ t0) hk rfl
      · have c2 : (t0.kind != 0) = true := by simp [hk0]
        rw [if_pos ⟨he,hk0⟩] at hk
        simp only [go_sem,y.1,y.2.1,y.2.2,c1,c2,hw he]
        exact fin_m (fun n => ids_tk _ t0) hk rfl
    · have c1 : (p.e == 0) = false := by simp [he]
      rw [if_neg (by simp [he])] at hk
      simp only [go_sem,y.1,y.2.1,y.2.2,c1]
      exact fin_z hp (fun n => ids_tk _ t0) hk rfl
theorem may_c {T : List Tk} (hT : T.length ≤ 100000) {pid : Nat} {p p' : PS} {s : Tx} {b : Bool} (h : mayF T s p = some (b,p')) {K : SV → St → Prop} {st : St} (hp : PAt T pid p st) (hk : K (.sc (.bool b)) (st.set pid (.cells (psL T p')))) : ACalls Tryz.prog 63 [.ptr pid 0,.sc (.string (ba s))] K st := by
  refine acalls_go_mod [] Tryz.func63 rfl Tryz.results63 Tryz.ntmps63 ?_
  have y := cells_facts hp
  unfold psL at y
  unfold mayF isF at h
  cases hl : lookF T p with
  | none => rw [hl] at h; cases h
  | some t0 =>
    rw [hl] at h
    simp only [Option.map_some,Option.bind_some] at h
    simp only [go_sem]
    refine is_c hl hp ?_
    cases hb : isT t0 s with
    | false =>
      rw [hb] at h
      simp only [Bool.false_eq_true,if_false,Option.some.injEq,Prod.mk.injEq] at h
      obtain ⟨rfl,rfl⟩ := h
      simp only [go_sem]
      exact fin_z1 hp (ids_scv _) hk rfl
    | true =>
      rw [hb] at h
      simp only [if_true] at h
      cases ht : takeF T p with
      | none => rw [ht] at h; cases h
      | some r =>
        rw [ht] at h
        simp only [Option.map_some,Option.some.injEq,Prod.mk.injEq] at h
        obtain ⟨rfl,rfl⟩ := h
        simp only [go_sem]
        refine take_c hT ht hp ?_
        simp only [go_sem]
        exact fin_m1 (ids_scv _) hk rfl
theorem must_c {T : List Tk} (hT : T.length ≤ 100000) {pid : Nat} {p p' : PS} {s : Tx} (h : mustF T s p = some p') {K : SV → St → Prop} {st : St} (hp : PAt T pid p st) (hk : ∀ x,K x (st.set pid (.cells (psL T p')))) : ACalls Tryz.prog 43 [.ptr pid 0,.sc (.string (ba s))] K st := by
  refine acalls_go_mod [] Tryz.func43 rfl Tryz.results43 Tryz.ntmps43 ?_
  unfold mustF at h
  cases hm : mayF T s p with
  | none => rw [hm] at h; cases h
  | some r =>
    rw [hm] at h
    obtain ⟨b,p1⟩ := r
    simp only [Option.bind_some] at h
    simp only [go_sem]
    refine may_c hT hm hp ?_
    cases b with
    | true =>
      simp only [if_true,Option.some.injEq] at h
      subst h
      simp only [go_sem]
      exact fin_m1 ids_none (hk _) rfl
    | false =>
      simp only [Bool.false_eq_true,if_false] at h
      simp only [go_sem]
      refine fail_c h (psat_set hp) fun x => ?_
      simp only [go_sem]
      exact fin_m1 ids_none (hk _) rfl
theorem word_c {T : List Tk} (hT : T.length ≤ 100000) {pid : Nat} {p p' : PS} {k : Int} {t : Tk} (h : wordF T k p = some (t,p')) {K : SV → St → Prop} {st : St} (hp : PAt T pid p st) (hk : K (tkSV t) (st.set pid (.cells (psL T p')))) : ACalls Tryz.prog 76 [.ptr pid 0,.sc (.int .i64 k)] K st := by
  refine acalls_go_mod [] Tryz.func76 rfl Tryz.results76 Tryz.ntmps76 ?_
  unfold wordF at h
  cases hl : lookF T p with
  | none => rw [hl] at h; cases h
  | some t0 =>
    rw [hl] at h
    simp only [Option.bind_some] at h
    simp only [go_sem]
    refine look_c hl (psat_app hp) ?_
    by_cases hk0 : t0.kind = k
    · have c1 : (t0.kind != k) = false := by simp [hk0]
      rw [if_neg (by simp [hk0])] at h
      simp only [Option.bind_some] at h
      simp only [go_sem,c1]
      refine take_c hT h (psat_app hp) ?_
      simp only [go_sem,inS_get hp]
      exact fin_m (fun n => ids_tk _ t) hk rfl
    · have c1 : (t0.kind != k) = true := by simp [hk0]
      rw [if_pos hk0] at h
      cases hf : failF T 14 p with
      | none => rw [hf] at h; cases h
      | some p1 =>
        rw [hf] at h
        simp only [Option.bind_some] at h
        simp only [go_sem,c1]
        refine fail_c hf (psat_app hp) fun x => ?_
        simp only [go_sem,inS_get hp]
        refine take_c hT h (psat_seta hp) ?_
        simp only [go_sem,inS_get hp]
        exact fin_m (fun n => ids_tk _ t) hk rfl
theorem most_c {T : List Tk} {pid : Nat} {p p' : PS} {n m : Int} (h : mostF T n m p = some p') {K : SV → St → Prop} {st : St} (hp : PAt T pid p st) (hk : ∀ x,K x (st.set pid (.cells (psL T p')))) : ACalls Tryz.prog 41 [.ptr pid 0,.sc (.int .i64 n),.sc (.int .i64 m)] K st := by
  refine acalls_go_mod [] Tryz.func41 rfl Tryz.results41 Tryz.ntmps41 ?_
  unfold mostF at h
  by_cases hc : m ≤ n
  · have c1 : decide (m ≤ n) = true := by simp [hc]
    rw [if_pos hc] at h
    simp only [go_sem,ge_iff_le,c1]
    refine fail_c h hp fun x => ?_
    simp only [go_sem]
    exact fin_m1 ids_none (hk _) rfl
  · have c1 : decide (m ≤ n) = false := by simp [hc]
    rw [if_neg hc] at h
    cases h
    simp only [go_sem,ge_iff_le,c1]
    exact fin_z1 hp ids_none (hk _) rfl
end Go.Proofs
namespace Go.Proofs
open Go Go.AL
def HC (T : List Tk) (pid : Nat) (f : FuncId) (e : PM Nd) : Prop := ∀ (p : PS) (r : Nd) (p' : PS),e p = some (r,p') → ∀ (K : SV → St → Prop) (st : St),PAt T pid p st → K (ndSV r) (st.set pid (.cells (psL T p'))) → ACalls Tryz.prog f [.ptr pid 0] K st
theorem node_c {k a : Int} {t : Tx} {x : SV} (h1 : x.cells = [x]) (h2 : shapeOk x = true) (h3 : cellOk x = true) (h4 : strip x = x) (h5 : ∀ p,gIf p x = True) {K : SV → St → Prop} {st : St} (hi : Ids st.length x) (hk : K (ndFull k t 0 a x) st) :
    ACalls Tryz.prog 38 [.sc (.int .i64 k),.sc (.int .i64 a),.sc (.string (ba t)),x] K st := by
  refine acalls_go_mod0 [] Tryz.func38 rfl Tryz.results38 Tryz.ntmps38 ?_
  simp only [go_sem,h1,h2,h3,h4,h5]
  exact ⟨st,_,rfl,Mod.refl _,by
    rw [ids_agg]
    simp only [List.forall_mem_cons,ids_sc,true_and]
    exact ⟨ids_slice (.inr rfl) (fun x hx => by cases hx),hi,fun x hx => by cases hx⟩,hk⟩
theorem le_norm {x y : SV} (h : SVle (norm x) y) : SVle x y := fun st σ w v hr => h st σ w v hr.norm
theorem nodeN_c {k a : Int} {t : Tx} {z : Nat} {kids : List Nd} (hz : z = 6 ∨ kids = []) {K : SV → St → Prop} {st : St} (hk : K (ndSV (nodeF k a t kids)) st) :
    ACalls Tryz.prog 38 [.sc (.int .i64 k),.sc (.int .i64 a),.sc (.string (ba t)),.slice .full z (kids.map ndSV)] K st :=
  acalls_leK (node_c rfl rfl rfl rfl (fun _ => rfl) (ids_nds _ _ (.inr rfl) _ _) ⟨_,le_norm (le_raw (n := nodeF k a t kids) (m1 := .full) (m2 := .full) (z1 := 0) (z2 := z) (.inr rfl) hz),hk⟩)
theorem in_c {T : List Tk} {pid : Nat} {g : FuncId} {e : PM Nd} (he : HC T pid g e) (hg : aBody Tryz.prog g = true) {p p' : PS} {r : Nd} (h : inF T e p = some (r,p')) {K : SV → St → Prop} {st : St} (hp : PAt T pid p st) (hk : K (ndSV r) (st.set pid (.cells (psL T p')))) :
    ACalls Tryz.prog 44 [.ptr pid 0,.func (.func g) [] []] K st := by
  refine acalls_leK (acalls_mod (acalls_goD Tryz.func44 rfl Tryz.results44 Tryz.ntmps44 ?_))
  have y := cells_facts hp
  unfold psL at y
  unfold inF at h
  by_cases hd : 40 ≤ p.deep
  · rw [if_pos hd] at h
    cases hf : failF T 15 p with
    | none => rw [hf] at h; cases h
    | some p1 =>
      have h1 : p1.e ≠ 0 := by
        unfold failF at hf
        split at hf
        · cases hl : T[p.pos]? with
          | none => rw [hl] at hf; cases hf
          | some t => rw [hl] at hf; cases hf; show (15 : Int) ≠ 0; decide
        · rename_i h0; cases hf; exact h0
      rw [hf] at h
      simp only [Option.bind_some] at h
      rw [if_pos h1] at h
      cases h
      have c1 : decide ((40 : Int) ≤ (p.deep : Int)) = true := by simp; omega
      have c2 : (p'.e != 0) = true := by simp [h1]
      have y1 := cells_facts (psat_set (p' := p') hp)
      unfold psL at y1
      refine awpd_seqc [] ?_
      simp only [go_sem,thenD_n,thenD_r]
      refine awpd_seqc [] ?_
      simp only [go_sem,thenD_n,thenD_r,y.1,y.2.1,y.2.2,c1,ge_iff_le]
      refine fail_c hf (psat_app hp) fun x => ?_
      simp only [go_sem,inS_get hp,thenD_n]
      refine awpd_seqc [] ?_
      unfold psL
      simp only [go_sem,thenD_n,thenD_r,y.1,y1.2.1,y1.2.2,inS_get hp,c2,dsQ_n]
      exact fin_nd hk (.inr rfl) (.inr rfl)
  · by_cases h0 : p.e = 0
    · rw [if_neg hd] at h
      simp only [Option.bind_some] at h
      rw [if_neg (by simp [h0])] at h
      cases hx : e { p with deep := p.deep + 1 } with
      | none => rw [hx] at h; cases h
      | some q =>
        obtain ⟨x,p1⟩ := q
        rw [hx] at h
        simp only [Option.bind_some] at h
        split at h
        · cases h
        rename_i hdp
        simp only [Option.some.injEq,Prod.mk.injEq] at h
        obtain ⟨rfl,rfl⟩ := h
        have c1 : decide ((40 : Int) ≤ (p.deep : Int)) = false := by simp; omega
        have c2 : (p.e != 0) = false := by simp [h0]
        refine awpd_seqc [] ?_
        simp only [go_sem,thenD_n,thenD_r]
        refine awpd_seqc [] ?_
        simp only [go_sem,thenD_n,thenD_r,y.1,y.2.1,y.2.2,c1,ge_iff_le]
        refine awpd_seqc [] ?_
        simp only [go_sem,thenD_n,thenD_r,y.1,y.2.1,y.2.2,c2]
        refine awpd_seqc [] ?_
        have hw : IntKind.i64.wrap ((p.deep : Int) + 1) = ((p.deep + 1 : Nat) : Int) := by rw [IntWalk.i64_in _ (by omega)]; rfl
        simp only [go_sem,thenD_n,thenD_r,y.1,y.2.1,y.2.2,hw]
        refine awpd_seq (awpd_deferF rfl (by simp) ?_)
        simp only [go_sem,thenD_n]
        refine awpd_seqc [] ?_
        simp only [go_sem,hg]
        refine he _ _ _ hx _ _ (psat_seta hp) ?_
        simp only [go_sem,inS_get hp]
        simp only [thenD_n]
        refine awpd_c [] ?_
        simp only [go_sem,dsQ_c,dsQ_n]
        refine acallsD_go [] Tryz.func64 rfl Tryz.results64 Tryz.ntmps64 ?_
        have y1 := cells_facts (psat_set (p' := p1) hp)
        unfold psL at y1
        have hw2 : IntKind.i64.wrap ((p1.deep : Int) - 1) = ((p1.deep - 1 : Nat) : Int) := by rw [IntWalk.i64_in _ (by omega)]; omega
        unfold psL
        simp only [go_sem,y1.2.1,y1.2.2,inS_get hp,hw2]
        exact fin_nd' hk
    · rw [if_neg hd] at h
      simp only [Option.bind_some] at h
      rw [if_pos h0] at h
      cases h
      have c1 : decide ((40 : Int) ≤ (p.deep : Int)) = false := by simp; omega
      have c2 : (p.e != 0) = true := by simp [h0]
      refine awpd_seqc [] ?_
      simp only [go_sem,thenD_n,thenD_r]
      refine awpd_seqc [] ?_
      simp only [go_sem,thenD_n,thenD_r,y.1,y.2.1,y.2.2,c1,ge_iff_le]
      refine awpd_seqc [] ?_
      simp only [go_sem,thenD_n,thenD_r,y.1,y.2.1,y.2.2,c2,dsQ_n]
      exact fin_ndz hp hk (.inr rfl) (.inr rfl)
theorem round_c {T : List Tk} (hT : T.length ≤ 100000) {pid : Nat} {g : FuncId} {e : PM Nd} (he : HC T pid g e) (hg : aBody Tryz.prog g = true) {p p' : PS} {r : Nd} (h : roundF T e p = some (r,p')) {K : SV → St → Prop} {st : St} (hp : PAt T pid p st) (hk : K (ndSV r) (st.set pid (.cells (psL T p')))) :
    ACalls Tryz.prog 107 [.ptr pid 0,.func (.func g) [] []] K st := by
  refine acalls_leK (acalls_go_mod [] Tryz.func107 rfl Tryz.results107 Tryz.ntmps107 ?_)
  unfold roundF at h
  simp only [Option.bind_eq_some_iff,Option.map_eq_some_iff,Prod.exists,Prod.mk.injEq] at h
  obtain ⟨p1,h1,x,p2,h2,p3,h3,rfl,rfl⟩ := h
  simp only [go_sem]
  refine must_c hT h1 (psat_app hp) fun _ => ?_
  simp only [go_sem,inS_get hp]
  refine in_c he hg h2 (psat_seta hp) ?_
  simp only [go_sem,inS_get hp]
  refine must_c hT h3 (psat_seta hp) fun _ => ?_
  simp only [go_sem,inS_get hp]
  exact fin_nd' hk
def kindEs (kinds : List (Int × Int)) : List (Value × SV) := kinds.map fun q => (.int .i64 q.1,.sc (.int .i64 q.2))
def kindOfT (kinds : List (Int × Int)) (n : Int) : Int := ((kinds.find? fun q => q.1 == n).map (·.2)).getD 0
theorem keyEq_i (n m : Int) : keyEq (.int .i64 n) (.int .i64 m) = decide (n = m) := by
  have := keyEq1_iff (d := .int .i64) (a := .int .i64 n) (b := .int .i64 m) (by simp [keyFits]) (by simp [keyFits])
  by_cases hc : n = m
  · simp only [hc,decide_true]; rw [hc] at this; exact this.2 rfl
  · simp only [hc,decide_false]
    cases hk : keyEq (.int .i64 n) (.int .i64 m) with
    | false => rfl
    | true => exact absurd (Value.int.inj (this.1 hk)).2 hc
theorem kind_get (kinds : List (Int × Int)) (n : Int) : ∃ b,getOr (kindEs kinds) (.sc (.int .i64 0)) n = (.sc (.int .i64 (kindOfT kinds n)),b) := by
  induction kinds with
  | nil => exact ⟨false,rfl⟩
  | cons q r ih =>
    obtain ⟨b,hb⟩ := ih
    unfold getOr keyIdx kindEs kindOfT at *
    by_cases hc : q.1 = n
    · have h2 : (q.1 == n) = true := by simp [hc]
      refine ⟨true,?_⟩
      simp only [List.map_cons,List.findIdx?_cons,keyEq_i,hc,decide_true,if_true,List.find?_cons,BEq.rfl]
      rfl
    · have h2 : (q.1 == n) = false := by simp [hc]
      have h3 : decide (n = q.1) = false := by simp; omega
      simp only [List.map_cons,List.findIdx?_cons,keyEq_i,h3,Bool.false_eq_true,if_false,List.find?_cons,h2]
      cases hx : List.findIdx? (fun p => keyEq (Value.int IntKind.i64 n) p.1) (r.map fun q => (Value.int .i64 q.1,SV.sc (.int .i64 q.2))) with
      | none =>
        rw [hx] at hb
        exact ⟨b,hb⟩
      | some j =>
        rw [hx] at hb
        exact ⟨b,by simpa using hb⟩
theorem kind_keys (kinds : List (Int × Int)) : IntKeys (kindEs kinds) := by
  intro q hq
  obtain ⟨a,_,rfl⟩ := List.mem_map.1 hq
  exact ⟨a.1,rfl⟩
theorem fin_ndE {T : List Tk} {pid : Nat} {p' : PS} {k m a : Int} {t : Tx} {st : St} {K : SV → St → Prop} (hk : K (ndE (.mk k t m a [] [])) (st.set pid (.cells (psL T p')))) {ex : St} :
    FinM0 st K (.agg [.sc (.int .i64 k),.sc (.string (ba t)),.sc (.int .i64 m),.sc (.int .i64 a),.slice .full 0 [],.slice .full 0 []]) (st.set pid (.cells (psL T p')) ++ ex) :=
  ⟨_,ex,rfl,(Mod.refl _).set _ _ (objs_ps _ _ _),by
    rw [ids_agg]
    simp only [List.forall_mem_cons,ids_sc,true_and]
    exact ⟨ids_slice (.inr rfl) (fun x hx => by cases hx),ids_slice (.inr rfl) (fun x hx => by cases hx),fun x hx => by cases hx⟩,hk⟩
theorem leaf_c {T : List Tk} (hT : T.length ≤ 100000) {pid mid : Nat} {kinds : List (Int × Int)} {p p' : PS} {r : Nd} (h : leafF T kinds p = some (r,p')) {K : SV → St → Prop} {st : St} (hp : PAt T pid p st) (hm : st[mid]? = some (.map (kindEs kinds)))
    (hk : K (ndE r) (st.set pid (.cells (psL T p')))) : ACalls Tryz.prog 121 [.ptr pid 0,.mp mid] K st := by
  refine acalls_go_mod0 [] Tryz.func121 rfl Tryz.results121 Tryz.ntmps121 ?_
  unfold leafF at h
  rw [Option.bind_eq_some_iff] at h
  obtain ⟨t,hl,h⟩ := h
  change (if kindOfT kinds t.kind = 0 then _ else _) = _ at h
  obtain ⟨b,hb⟩ := kind_get kinds t.kind
  simp only [go_sem]
  refine look_c hl (psat_app hp) ?_
  have hmg := fun ex => mapGet_int (P := Tryz.prog) (t := 116) (n := t.kind) (st := st ++ ex) Tryz.amap116 Tryz.zeroSV3 (map_facts (get_app hm ex)).2 (kind_keys kinds)
  rw [hb] at hmg
  by_cases hz : kindOfT kinds t.kind = 0
  · rw [if_pos hz] at h
    rw [Option.map_eq_some_iff] at h
    obtain ⟨p1,hf,h⟩ := h
    cases h
    have c1 : (kindOfT kinds t.kind == 0) = true := by simp [hz]
    simp only [go_sem,hmg,c1,Option.isSome_some]
    refine fail_c hf (psat_app hp) fun _ => ?_
    simp only [go_sem,inS_get hp]
    exact fin_ndE hk
  · rw [if_neg hz] at h
    rw [Option.map_eq_some_iff] at h
    obtain ⟨⟨t1,p1⟩,ht,h⟩ := h
    cases h
    have c1 : (kindOfT kinds t.kind == 0) = false := by simp [hz]
    simp only [go_sem,hmg,c1,Option.isSome_some]
    refine take_c hT ht (psat_app hp) ?_
    simp only [go_sem,inS_get hp,hmg]
    exact fin_ndE hk
end Go.Proofs
