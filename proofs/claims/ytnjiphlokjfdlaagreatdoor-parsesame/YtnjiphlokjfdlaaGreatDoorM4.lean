import Derived.Test.YtnjiphlokjfdlaaGreatDoorM3
import Derived.Test.YtnjiphlokjfdlaaGreatDoorN6
set_option maxHeartbeats 4000000
set_option linter.unusedSimpArgs false
set_option linter.unusedVariables false
set_option maxRecDepth 8000
namespace Go.AL
open Go.Proofs (numF)
def nextR (c : UInt8) (w : Tx) (a : Int) : FuncId × Int × Tk × Nat :=
  if digitB c then (53,(numF (w.take (spanN digitB w)) ⟨0,[],0,a⟩).1,(numF (w.take (spanN digitB w)) ⟨0,[],0,a⟩).2,spanN digitB w)
  else if c = 34 then (54,(unqR w).2.2,⟨2,(unqR w).1,0,a⟩,(unqR w).2.1.toNat)
  else if smallB c || largeB c then (57,(nameF (w.take (spanN innerB w)) ⟨0,[],0,a⟩).1,(nameF (w.take (spanN innerB w)) ⟨0,[],0,a⟩).2,spanN innerB w)
  else if c ∈ signsL then (59,0,⟨5,w.take (if Lib.hasPrefix w [45,62] then 2 else 1),0,a⟩,if Lib.hasPrefix w [45,62] then 2 else 1)
  else (51,10,⟨0,[],0,a⟩,0)
end Go.AL
namespace Go.Proofs
open Go Go.AL
def Rd (g : FuncId) (s : Tx) (a : Nat) (e : Int) (t t' : Tk) (n : Nat) : Prop := ∀ (rid tid gid : Nat) (m : Int) (K : SV → St → Prop) (st : St),rid ≠ tid → gid ≠ rid → gid ≠ tid → GAt gid m st → RAt s rid a st → TkAt tid t st → K (.sc (.int .i64 e)) (st2 st rid tid s (a + n) t') → ACalls Tryz.prog g [.ptr rid 0,.ptr tid 0] K st
theorem st2_id {s : Tx} {rid tid a : Nat} {t : Tk} {st : St} (hr : RAt s rid a st) (ht : TkAt tid t st) : st2 st rid tid s a t = st := by
  rw [st2_same ht]; exact rset_id hr
theorem rd_c {s : Tx} (hs : s.length ≤ 100000) {a : Nat} (ha : a < s.length) : Rd (nextR s[a] (s.drop a) a).1 s a (nextR s[a] (s.drop a) a).2.1 ⟨0,[],0,a⟩ (nextR s[a] (s.drop a) a).2.2.1 (nextR s[a] (s.drop a) a).2.2.2 := by
  intro rid tid gid m K st h1 h2 h3 hg hr ht hk
  unfold nextR at hk ⊢
  by_cases c1 : digitB s[a] = true
  · rw [if_pos c1] at hk ⊢
    exact number_c (by omega) h1 ha hr ht rfl rfl hk
  rw [if_neg c1] at hk ⊢
  by_cases c2 : s[a] = 34
  · rw [if_pos c2] at hk ⊢
    have hl := unqR_len (s.drop a)
    exact text_c hs h1 ha hr ht rfl (n := (unqR (s.drop a)).2.1.toNat) (by rw [Int.toNat_of_nonneg hl.1]) hk
  rw [if_neg c2] at hk ⊢
  by_cases c3 : (smallB s[a] || largeB s[a]) = true
  · rw [if_pos c3] at hk ⊢
    exact name_c (by omega) h1 h2 h3 ha (by unfold innerB; simp only [Bool.or_eq_true] at c3 ⊢; rcases c3 with c3 | c3 <;> simp [c3]) hg hr ht hk
  rw [if_neg c3] at hk ⊢
  by_cases c4 : s[a] ∈ signsL
  · rw [if_pos c4] at hk ⊢
    exact sign_c (by omega) h1 ha hr ht _ rfl hk
  · rw [if_neg c4] at hk ⊢
    refine odd_c ?_
    rw [show a + (51,(10 : Int),(⟨0,[],0,a⟩ : Tk),0).2.2.2 = a from rfl] at hk
    rw [st2_id hr ht] at hk
    exact hk
theorem st2_app {s : Tx} {rid a b : Nat} {t : Tk} {A B : Ob} {st : St} (h : rid < st.length) : st2 (st.set rid (.cells (rL s b)) ++ [A,B]) rid (st.length + 1) s a t = st.set rid (.cells (rL s a)) ++ [A,.cells (tkL t)] := by
  unfold st2
  rw [List.set_append_right _ _ (by simp),List.set_append_left _ _ (by simpa using h)]
  simp
theorem get_n1 {st : St} {A : Ob} {t : Tk} {n : Nat} (h : st.length = n) : TkAt (n + 1) t (st ++ [A,.cells (tkL t)]) := by subst h; unfold TkAt; simp [tkL]
theorem skip_c2 {s : Tx} (hs : s.length ≤ 1000000) {rid a b : Nat} (ha : a ≤ s.length) {K : SV → St → Prop} {st : St} (hr : RAt s rid a st) (hb : a + skipN false (s.drop a) = b)
    {s1 : St} (he : st.set rid (.cells (rL s b)) = s1) (hk : ∀ x,K x s1) : ACalls Tryz.prog 50 [.ptr rid 0] K st := by
  subst hb; subst he; exact skip_c hs ha hr hk
def zTk : Ob := .cells [.sc (.int .i64 0),.sc (.string ⟨#[]⟩),.sc (.int .i64 0),.sc (.int .i64 0)]
theorem set_z {rid : Nat} {X A : Ob} {st : St} (h : rid < st.length) : (st ++ [A]).set rid X = st.set rid X ++ [A] := List.set_append_left _ _ h
theorem ids_tke (t : Tk) (e : Int) (n : Nat) : Ids n (oneOf [tkSV t,.sc (.int .i64 e)]) = True := eq_true (.tuple _ (by
  intro i hi
  match i with
  | 0 => show Ids n (tkSV t); rw [ids_tk]; trivial
  | 1 => exact .sc _
  | i + 2 => simp at hi; omega))
theorem sign_in (c : UInt8) : decide (0 ≤ Lib.indexByte signsL c) = decide (c ∈ signsL) := by
  rw [decide_eq_decide]
  have h : ∀ (l : Tx),0 ≤ Lib.indexByte l c ↔ c ∈ l := by
    intro l
    induction l with
    | nil => simp [Lib.indexByte]
    | cons d l ih =>
      have hge := Lib.indexByte_ge l c
      unfold Lib.indexByte
      by_cases hd : d = c
      · simp [hd]
      · have hb : (d == c) = false := by simp [hd]
        have hc : ¬ c = d := fun h => hd h.symm
        simp only [hb,Bool.false_eq_true,if_false,List.mem_cons,hc,false_or,← ih]
        split
        · rename_i h; simp at h; omega
        · rename_i h; simp at h; omega
  exact h signsL
theorem next_c {s : Tx} (hs : s.length ≤ 100000) {rid gid a b : Nat} {m : Int} (hgr : gid ≠ rid) (ha : a ≤ s.length) {K : SV → St → Prop} {st : St} (hg : GAt gid m st) (hr : RAt s rid a st) (hb : a + skipN false (s.drop a) = b) (hlt : b < s.length)
    {g : FuncId} {e : Int} {t : Tk} {n : Nat} (hR : nextR s[b] (s.drop b) b = (g,e,t,n))
    (hk : K (.tuple [tkSV t,.sc (.int .i64 e)]) (st.set rid (.cells (rL s (b + n))))) : ACalls Tryz.prog 37 [.ptr rid 0] K st := by
  refine acalls_go_mod [] Tryz.func37 rfl Tryz.results37 Tryz.ntmps37 ?_
  have hrl := lt_of_get hr
  have hgl := lt_of_get hg
  have hrd := rd_c hs hlt
  rw [hR] at hrd
  simp only at hrd
  have hrd2 := fun A K h => hrd rid (st.length + 1) gid m K (st.set rid (.cells (rL s b)) ++ [A,.cells (tkL ⟨0,[],0,b⟩)]) (by omega) hgr (by omega) (by unfold GAt; rw [List.getElem?_append_left (by simpa using hgl),List.getElem?_set_ne (fun e => hgr e.symm)]; exact hg)
    (rat_seta hr) (get_n1 (by simp)) h
  simp only [st2_app hrl] at hrd2
  have y := fun ex => rfacts (rat_seta (b := b) (ex := ex) hr)
  have y1 := fun X => (y X).1
  have y2 := fun X => (y X).2.1
  have y3 := fun X => (y X).2.2
  have hgt := ba_get hlt
  have c0 : ((b : Int) == (s.length : Int)) = false := by
    rw [beq_eq_false_iff_ne]; omega
  have e34 := u8_eq s[b] 34 34 rfl
  unfold nextR at hR
  have gE : ∀ g' e' t' n',(g',e',t',n') = (g,e,t,n) → g = g' := fun _ _ _ _ h => (congrArg Prod.fst h).symm
  by_cases c1 : digitB s[b] = true
  · rw [if_pos c1] at hR
    obtain rfl := gE _ _ _ _ hR
    simp only [go_sem]
    refine skip_c2 (by omega) ha (rat_app hr) hb (set_z hrl) fun x => ?_
    simp only [go_sem,y1,y2,y3]
    refine awp_draw [] Tryz.mixed rfl ?_
    simp only [go_sem,y1,y2,y3,ba_size,c0]
    refine awp_draw [] Tryz.mixed rfl ?_
    simp only [go_sem,y1,y2,y3,ba_size,c0,hgt]
    refine ⟨by omega,?_⟩
    refine digit_c ?_
    simp only [go_sem,c1]
    first | (unfold ACallsH; simp only [put_some,put_none',ev_tmp,List.set_cons_succ,List.set_cons_zero,List.getD_cons_succ,List.getD_cons_zero]) | skip
    refine hrd2 _ _ ?_
    simp only [go_sem,tkL]
    exact fin_r (ids_tke _ _) hk rfl
  rw [if_neg c1] at hR
  have c1 : digitB s[b] = false := by simpa using c1
  by_cases c2 : s[b] = 34
  · rw [if_pos c2] at hR
    obtain rfl := gE _ _ _ _ hR
    have f2 : (s[b] == 34) = true := by simp [c2]
    simp only [go_sem]
    refine skip_c2 (by omega) ha (rat_app hr) hb (set_z hrl) fun x => ?_
    simp only [go_sem,y1,y2,y3]
    refine awp_draw [] Tryz.mixed rfl ?_
    simp only [go_sem,y1,y2,y3,ba_size,c0]
    refine awp_draw [] Tryz.mixed rfl ?_
    simp only [go_sem,y1,y2,y3,ba_size,c0,hgt]
    refine ⟨by omega,?_⟩
    refine digit_c ?_
    simp only [go_sem,y1,y2,y3,ba_size,hgt,c1,e34,f2]
    first | (unfold ACallsH; simp only [put_some,put_none',ev_tmp,List.set_cons_succ,List.set_cons_zero,List.getD_cons_succ,List.getD_cons_zero]) | skip
    refine hrd2 _ _ ?_
    simp only [go_sem,tkL]
    exact fin_r (ids_tke _ _) hk rfl
  rw [if_neg c2] at hR
  have f2 : (s[b] == 34) = false := by simp [c2]
  by_cases c3 : smallB s[b] = true
  · rw [if_pos (by simp [c3])] at hR
    obtain rfl := gE _ _ _ _ hR
    simp only [go_sem]
    refine skip_c2 (by omega) ha (rat_app hr) hb (set_z hrl) fun x => ?_
    simp only [go_sem,y1,y2,y3]
    refine awp_draw [] Tryz.mixed rfl ?_
    simp only [go_sem,y1,y2,y3,ba_size,c0]
    refine awp_draw [] Tryz.mixed rfl ?_
    simp only [go_sem,y1,y2,y3,ba_size,c0,hgt]
    refine ⟨by omega,?_⟩
    refine digit_c ?_
    simp only [go_sem,y1,y2,y3,ba_size,hgt,c1,e34,f2]
    first | (unfold ACallsH; simp only [put_some,put_none',ev_tmp,List.set_cons_succ,List.set_cons_zero,List.getD_cons_succ,List.getD_cons_zero]) | skip
    refine small_c ?_
    simp only [go_sem,y1,y2,y3,ba_size,hgt,c1,e34,f2,c3]
    first | (unfold ACallsH; simp only [put_some,put_none',ev_tmp,List.set_cons_succ,List.set_cons_zero,List.getD_cons_succ,List.getD_cons_zero]) | skip
    refine hrd2 _ _ ?_
    simp only [go_sem,tkL]
    exact fin_r (ids_tke _ _) hk rfl
  have c3 : smallB s[b] = false := by simpa using c3
  by_cases c4 : largeB s[b] = true
  · rw [if_pos (by simp [c4])] at hR
    obtain rfl := gE _ _ _ _ hR
    simp only [go_sem]
    refine skip_c2 (by omega) ha (rat_app hr) hb (set_z hrl) fun x => ?_
    simp only [go_sem,y1,y2,y3]
    refine awp_draw [] Tryz.mixed rfl ?_
    simp only [go_sem,y1,y2,y3,ba_size,c0]
    refine awp_draw [] Tryz.mixed rfl ?_
    simp only [go_sem,y1,y2,y3,ba_size,c0,hgt]
    refine ⟨by omega,?_⟩
    refine digit_c ?_
    simp only [go_sem,y1,y2,y3,ba_size,hgt,c1,e34,f2]
    first | (unfold ACallsH; simp only [put_some,put_none',ev_tmp,List.set_cons_succ,List.set_cons_zero,List.getD_cons_succ,List.getD_cons_zero]) | skip
    refine small_c ?_
    simp only [go_sem,y1,y2,y3,ba_size,hgt,c1,e34,f2,c3]
    first | (unfold ACallsH; simp only [put_some,put_none',ev_tmp,List.set_cons_succ,List.set_cons_zero,List.getD_cons_succ,List.getD_cons_zero]) | skip
    refine large_c ?_
    simp only [go_sem,y1,y2,y3,ba_size,hgt,c1,e34,f2,c3,c4]
    first | (unfold ACallsH; simp only [put_some,put_none',ev_tmp,List.set_cons_succ,List.set_cons_zero,List.getD_cons_succ,List.getD_cons_zero]) | skip
    refine hrd2 _ _ ?_
    simp only [go_sem,tkL]
    exact fin_r (ids_tke _ _) hk rfl
  rw [if_neg (by simp [c3,c4])] at hR
  have c4 : largeB s[b] = false := by simpa using c4
  by_cases c5 : s[b] ∈ signsL
  · rw [if_pos c5] at hR
    obtain rfl := gE _ _ _ _ hR
    have f5 : decide (0 ≤ Lib.indexByte signsL s[b]) = true := by rw [sign_in]; simp [c5]
    simp only [go_sem]
    refine skip_c2 (by omega) ha (rat_app hr) hb (set_z hrl) fun x => ?_
    simp only [go_sem,y1,y2,y3]
    refine awp_draw [] Tryz.mixed rfl ?_
    simp only [go_sem,y1,y2,y3,ba_size,c0]
    refine awp_draw [] Tryz.mixed rfl ?_
    simp only [go_sem,y1,y2,y3,ba_size,c0,hgt]
    refine ⟨by omega,?_⟩
    refine digit_c ?_
    simp only [go_sem,y1,y2,y3,ba_size,hgt,c1,e34,f2]
    first | (unfold ACallsH; simp only [put_some,put_none',ev_tmp,List.set_cons_succ,List.set_cons_zero,List.getD_cons_succ,List.getD_cons_zero]) | skip
    refine small_c ?_
    simp only [go_sem,y1,y2,y3,ba_size,hgt,c1,e34,f2,c3]
    first | (unfold ACallsH; simp only [put_some,put_none',ev_tmp,List.set_cons_succ,List.set_cons_zero,List.getD_cons_succ,List.getD_cons_zero]) | skip
    refine large_c ?_
    simp only [go_sem,y1,y2,y3,ba_size,hgt,c1,e34,f2,c3,c4]
    first | (unfold ACallsH; simp only [put_some,put_none',ev_tmp,List.set_cons_succ,List.set_cons_zero,List.getD_cons_succ,List.getD_cons_zero]) | skip
    refine indexByte_c (s := signsL) ?_
    simp only [go_sem,y1,y2,y3,ba_size,hgt,c1,e34,f2,c3,c4,ge_iff_le,f5]
    first | (unfold ACallsH; simp only [put_some,put_none',ev_tmp,List.set_cons_succ,List.set_cons_zero,List.getD_cons_succ,List.getD_cons_zero]) | skip
    refine hrd2 _ _ ?_
    simp only [go_sem,tkL]
    exact fin_r (ids_tke _ _) hk rfl
  rw [if_neg c5] at hR
  obtain rfl := gE _ _ _ _ hR
  have f5 : decide (0 ≤ Lib.indexByte signsL s[b]) = false := by rw [sign_in]; simp [c5]
  simp only [go_sem]
  refine skip_c2 (by omega) ha (rat_app hr) hb (set_z hrl) fun x => ?_
  simp only [go_sem,y1,y2,y3]
  refine awp_draw [] Tryz.mixed rfl ?_
  simp only [go_sem,y1,y2,y3,ba_size,c0]
  refine awp_draw [] Tryz.mixed rfl ?_
  simp only [go_sem,y1,y2,y3,ba_size,c0,hgt]
  refine ⟨by omega,?_⟩
  refine digit_c ?_
  simp only [go_sem,y1,y2,y3,ba_size,hgt,c1,e34,f2]
  first | (unfold ACallsH; simp only [put_some,put_none',ev_tmp,List.set_cons_succ,List.set_cons_zero,List.getD_cons_succ,List.getD_cons_zero]) | skip
  refine small_c ?_
  simp only [go_sem,y1,y2,y3,ba_size,hgt,c1,e34,f2,c3]
  first | (unfold ACallsH; simp only [put_some,put_none',ev_tmp,List.set_cons_succ,List.set_cons_zero,List.getD_cons_succ,List.getD_cons_zero]) | skip
  refine large_c ?_
  simp only [go_sem,y1,y2,y3,ba_size,hgt,c1,e34,f2,c3,c4]
  first | (unfold ACallsH; simp only [put_some,put_none',ev_tmp,List.set_cons_succ,List.set_cons_zero,List.getD_cons_succ,List.getD_cons_zero]) | skip
  refine indexByte_c (s := signsL) ?_
  simp only [go_sem,y1,y2,y3,ba_size,hgt,c1,e34,f2,c3,c4,ge_iff_le,f5]
  first | (unfold ACallsH; simp only [put_some,put_none',ev_tmp,List.set_cons_succ,List.set_cons_zero,List.getD_cons_succ,List.getD_cons_zero]) | skip
  refine hrd2 _ _ ?_
  simp only [go_sem,tkL]
  exact fin_r (ids_tke _ _) hk rfl
end Go.Proofs
namespace Go.AL
open Go.Proofs (numF)
theorem unqL_err : ∀ (m : Nat) (r b : Tx) (k : Nat) (e : Int),unqL m r b k = .error e → e ≠ 0
  | 0,r,b,k,e,h => by cases h; decide
  | m + 1,[],b,k,e,h => by cases h; decide
  | m + 1,c :: r,b,k,e,h => by
    unfold unqL at h
    split at h
    · cases h; decide
    split at h
    · split at h
      · cases h; decide
      · cases h
    split at h
    · split at h
      · rename_i e' he
        cases h
        rcases esc_err he with rfl | rfl <;> decide
      · exact unqL_err m _ _ _ _ h
    split at h
    · exact unqL_err m _ _ _ _ h
    · cases h; decide
theorem unqF_err {s : Tx} {e : Int} (h : unqF s = .error e) : e ≠ 0 := by
  unfold unqF at h
  split at h
  · cases h; decide
  · split at h
    · exact unqL_err _ _ _ _ _ h
    · cases h; decide
theorem tok_next {c : UInt8} {r : Tx} {p : Int} {g : FuncId} {e : Int} {t : Tk} {n : Nat} (h : nextR c (c :: r) p = (g,e,t,n)) :
    tokF (c :: r) p = (if e = 0 then .ok (t,n) else .error e) ∧ t.pos = p ∧ (e = 0 → 1 ≤ n ∧ n ≤ (c :: r).length ∧ t.kind ≠ 0) := by
  unfold nextR at h
  unfold tokF
  dsimp only
  by_cases c1 : digitB c = true
  · rw [if_pos c1] at h ⊢
    unfold numF at h
    have hp : 0 < spanN digitB (c :: r) := by rw [spanN_t c1]; omega
    have hle := span_le digitB (c :: r)
    by_cases hv : 4611686018427387903 < valF ((c :: r).take (spanN digitB (c :: r)))
    · rw [if_pos hv] at h ⊢
      simp only [Prod.mk.injEq] at h
      obtain ⟨_,rfl,rfl,rfl⟩ := h
      exact ⟨rfl,rfl,fun h => by cases h⟩
    · rw [if_neg hv] at h ⊢
      simp only [Prod.mk.injEq] at h
      obtain ⟨_,rfl,rfl,rfl⟩ := h
      exact ⟨rfl,rfl,fun _ => ⟨hp,hle,by simp⟩⟩
  rw [if_neg c1] at h ⊢
  by_cases c2 : c = 34
  · rw [if_pos c2] at h ⊢
    simp only [Prod.mk.injEq] at h
    obtain ⟨_,rfl,rfl,rfl⟩ := h
    cases hu : unqF (c :: r) with
    | error e =>
      have := unqF_err hu
      refine ⟨?_,rfl,fun h => absurd ?_ this⟩
      · simp [unqR,hu,this]
      · simpa [unqR,hu] using h
    | ok y =>
      obtain ⟨x,k⟩ := y
      have := unqF_len hu
      refine ⟨by simp [unqR,hu],rfl,fun _ => ?_⟩
      simp only [unqR,hu,Int.toNat_natCast]
      exact ⟨by omega,this.1,by decide⟩
  rw [if_neg c2] at h ⊢
  by_cases c3 : (smallB c || largeB c) = true
  · rw [if_pos c3] at h ⊢
    have hin : innerB c = true := by unfold innerB; simp only [Bool.or_eq_true] at c3 ⊢; rcases c3 with c3 | c3 <;> simp [c3]
    have hp : 0 < spanN innerB (c :: r) := by rw [spanN_t hin]; omega
    have hle := span_le innerB (c :: r)
    have hlen : ((c :: r).take (spanN innerB (c :: r))).length = spanN innerB (c :: r) := by rw [List.length_take]; omega
    have hhd : ((c :: r).take (spanN innerB (c :: r))).headD 0 = c := by rw [spanN_t hin]; rfl
    unfold nameF at h
    rw [hlen,hhd] at h
    by_cases h16 : 16 < spanN innerB (c :: r)
    · rw [if_pos h16] at h ⊢
      simp only [Prod.mk.injEq] at h
      obtain ⟨_,rfl,rfl,rfl⟩ := h
      exact ⟨rfl,rfl,fun h => by cases h⟩
    rw [if_neg h16] at h ⊢
    by_cases hL : largeB c = true
    · rw [if_pos hL] at h ⊢
      simp only [Prod.mk.injEq] at h
      obtain ⟨_,rfl,rfl,rfl⟩ := h
      exact ⟨rfl,rfl,fun _ => ⟨hp,hle,by simp⟩⟩
    rw [if_neg hL] at h ⊢
    by_cases hK : (c :: r).take (spanN innerB (c :: r)) ∈ keysL
    · rw [if_pos hK] at h ⊢
      simp only [Prod.mk.injEq] at h
      obtain ⟨_,rfl,rfl,rfl⟩ := h
      exact ⟨rfl,rfl,fun _ => ⟨hp,hle,by simp⟩⟩
    · rw [if_neg hK] at h ⊢
      simp only [Prod.mk.injEq] at h
      obtain ⟨_,rfl,rfl,rfl⟩ := h
      exact ⟨rfl,rfl,fun _ => ⟨hp,hle,by simp⟩⟩
  rw [if_neg c3] at h ⊢
  by_cases c4 : c ∈ signsL
  · rw [if_pos c4] at h ⊢
    have hx : Lib.hasPrefix (c :: r) [45,62] = decide (r.head? = some 62 ∧ c = 45) := by
      unfold Lib.hasPrefix
      cases r with
      | nil => simp [List.isPrefixOf]
      | cons d r =>
        have e1 : (45 == c) = decide (c = 45) := by rw [Bool.beq_eq_decide_eq,decide_eq_decide]; exact eq_comm
        have e2 : (62 == d) = decide (d = 62) := by rw [Bool.beq_eq_decide_eq,decide_eq_decide]; exact eq_comm
        simp only [List.isPrefixOf,e1,e2,Bool.and_true,List.head?_cons,Option.some.injEq,Bool.decide_and]
        exact Bool.and_comm _ _
    rw [hx] at h
    by_cases h2 : r.head? = some 62 ∧ c = 45
    · rw [if_pos h2]
      simp only [h2,and_self,decide_true,if_true,Prod.mk.injEq] at h
      obtain ⟨_,rfl,rfl,rfl⟩ := h
      cases r with
      | nil => simp at h2
      | cons d r =>
        simp only [List.head?_cons,Option.some.injEq] at h2
        obtain ⟨rfl,rfl⟩ := h2
        exact ⟨rfl,rfl,fun _ => ⟨by decide,by simp,by simp⟩⟩
    · rw [if_neg h2]
      simp only [h2,decide_false,Bool.false_eq_true,if_false,Prod.mk.injEq] at h
      obtain ⟨_,rfl,rfl,rfl⟩ := h
      exact ⟨rfl,rfl,fun _ => ⟨by decide,by simp,by simp⟩⟩
  · rw [if_neg c4] at h ⊢
    simp only [Prod.mk.injEq] at h
    obtain ⟨_,rfl,rfl,rfl⟩ := h
    exact ⟨rfl,rfl,fun h => by cases h⟩
end Go.AL
namespace Go.Proofs
open Go Go.AL
theorem nextE_c {s : Tx} (hs : s.length ≤ 100000) {rid a b : Nat} (ha : a ≤ s.length) {K : SV → St → Prop} {st s1 : St} (hr : RAt s rid a st) (hb : a + skipN false (s.drop a) = b) (hlt : b = s.length) (he : st.set rid (.cells (rL s b)) = s1)
    (hk : K (.tuple [tkSV ⟨0,[],0,b⟩,.sc (.int .i64 0)]) s1) : ACalls Tryz.prog 37 [.ptr rid 0] K st := by
  refine acalls_go_mod [] Tryz.func37 rfl Tryz.results37 Tryz.ntmps37 ?_
  subst he
  have hrl := lt_of_get hr
  have y := fun ex => rfacts (rat_seta (b := b) (ex := ex) hr)
  have y1 := fun X => (y X).1
  have y2 := fun X => (y X).2.1
  have y3 := fun X => (y X).2.2
  have c0 : ((b : Int) == (s.length : Int)) = true := by
    rw [beq_iff_eq]; omega
  simp only [go_sem]
  refine skip_c2 (by omega) ha (rat_app hr) hb (set_z hrl) fun x => ?_
  simp only [go_sem,y1,y2,y3]
  refine awp_draw [] Tryz.mixed rfl ?_
  simp only [go_sem,y1,y2,y3,ba_size,c0]
  exact fin_r (ids_tke _ _) hk rfl
theorem next_c2 {s : Tx} (hs : s.length ≤ 100000) {rid gid a b : Nat} {m : Int} (hgr : gid ≠ rid) (ha : a ≤ s.length) {K : SV → St → Prop} {st s1 : St} (hg : GAt gid m st) (hr : RAt s rid a st) (hb : a + skipN false (s.drop a) = b) (hlt : b < s.length)
    {g : FuncId} {e : Int} {t : Tk} {n : Nat} (hR : nextR s[b] (s.drop b) b = (g,e,t,n)) (he : st.set rid (.cells (rL s (b + n))) = s1)
    (hk : K (.tuple [tkSV t,.sc (.int .i64 e)]) s1) : ACalls Tryz.prog 37 [.ptr rid 0] K st := by
  subst he; exact next_c hs hgr ha hg hr hb hlt hR hk
end Go.Proofs
namespace Go.Proofs
open Go Go.AL
theorem app35 {n : Nat} (h : n ≤ 1000000) : AppOk Tryz.prog 34 34 4 n := appOk_of Tryz.aelem34 Tryz.aelem34 Tryz.asize48 Tryz.azero48 rfl Tryz.abytes48 (by omega) h
theorem tokensL_end {m : Nat} {s : Tx} {k : Nat} {out : List Tk} (h : s.drop (skipN false s) = []) : tokensL (m + 1) s k out = .ok (out ++ [⟨0,[],0,((k + skipN false s : Nat) : Int)⟩]) := by
  rw [tokensL,h]
theorem tokensL_step {m : Nat} {s r : Tx} {c : UInt8} {k : Nat} {out : List Tk} (h : s.drop (skipN false s) = c :: r) : tokensL (m + 1) s k out = (match tokF (c :: r) ((k + skipN false s : Nat) : Int) with
      | .error e => .error (k + skipN false s,e)
      | .ok (t,n) => tokensL m ((c :: r).drop n) (k + skipN false s + n) (out ++ [t])) := by
  rw [tokensL,h]
  rfl
theorem ids_errs (n : Nat) (a e : Int) : Ids n (norm (oneOf [SV.slice .full 0 [],.sc (.int .i64 a),.sc (.int .i64 e)])) = True := by
  refine eq_true (.tuple _ ?_)
  intro i hi
  match i with
  | 0 => exact ids_slice (.inl rfl) fun x hx => by cases hx
  | 1 => exact .sc _
  | 2 => exact .sc _
  | i + 3 => simp at hi; omega
theorem ids_tkl (n : Nat) (T : List Tk) : ∀ x ∈ T.map tkSV,∀ y ∈ x.cells,Ids n y := by
  intro x hx y hy
  obtain ⟨t,_,rfl⟩ := List.mem_map.1 hx
  rw [cells_tk] at hy
  simp only [List.mem_cons,List.not_mem_nil,or_false] at hy
  rcases hy with rfl | rfl | rfl | rfl <;> exact .sc _
theorem ids_toks (n : Nat) (T : List Tk) (a e : Int) {x : SV} (h : norm x = .tuple [.slice .imm 4 (T.map tkSV),.sc (.int .i64 a),.sc (.int .i64 e)]) : Ids n (norm x) = True := by
  rw [h]
  refine eq_true (.tuple _ ?_)
  intro i hi
  match i with
  | 0 => exact ids_slice (.inl rfl) (ids_tkl n T)
  | 1 => exact .sc _
  | 2 => exact .sc _
  | i + 3 => simp at hi; omega
def lexK (R : Except (Nat × Int) (List Tk)) (K : SV → St → Prop) (st : St) : Prop := match R with
  | .ok T => K (.tuple [.slice .imm 4 (T.map tkSV),.sc (.int .i64 0),.sc (.int .i64 0)]) st
  | .error (a,e) => ∀ x,K (.tuple [x,.sc (.int .i64 a),.sc (.int .i64 e)]) st
theorem tokens_c {s : Tx} {gid : Nat} {m : Int} {K : SV → St → Prop} {st : St} (hg : GAt gid m st) (hk : lexK (lexF s) K st) (hz : s.length ≤ 100000) : ACalls Tryz.prog 27 [.sc (.string (ba s))] K st := by
  refine acalls_go_pure [14] Tryz.func27 rfl Tryz.results27 Tryz.ntmps27 ?_
  by_cases hl : 2000 < s.length
  · have c1 : decide ((2000 : Int) < (s.length : Int)) = true := by simp; omega
    unfold lexF at hk
    rw [if_pos hl] at hk
    simp only [go_sem,ba_size,gt_iff_lt,c1]
    exact fin_pure1 (ids_errs _ _ _) (hk _)
  have c1 : decide ((2000 : Int) < (s.length : Int)) = false := by simp; omega
  unfold lexF at hk
  rw [if_neg hl] at hk
  have hgl := lt_of_get hg
  simp only [go_sem,ba_size,gt_iff_lt,c1]
  refine awp_own 6 4 0 rfl ?_
  simp only [go_sem]
  refine awp_rounds [] (fun k env s' => ∃ (a : Nat) (out : List Tk) (ver : Nat) (ex : St),tokensL (s.length + 1) s 0 [] = tokensL k (s.drop a) a out ∧ s.length + 1 ≤ k + a ∧ a ≤ s.length ∧ out.length ≤ a ∧ env = [.sc (.string (ba s)),.any,.any,.any,.any,.ptr st.length 0,.slice (.own (st.length + 1) ver) 4 (out.map tkSV),.any,.any,.any,.any,.any,.any,.any,.any,.any,.any,.any,.any,.any,.any,.any,.any,.any,.any,.any,.any,.any,.any,.any,.any,.any,.any] ∧ s' = st ++ (.cells (rL s a) :: .tok ver :: ex)) (n := s.length + 1) ?_ ⟨0,[],0,[],rfl,by omega,by omega,by simp,rfl,rfl⟩ ?_
  · repeat (first | exact leEnv_nil | refine leEnv_any _ ?_ | refine leEnv_same _ ?_ | refine leEnv_norm _ ?_)
  rintro k env s' ⟨a,out,ver,ex,hu,hm,hal,hol,rfl,rfl⟩
  cases k with
  | zero => omega
  | succ k =>
  have hr : RAt s st.length a (st ++ (.cells (rL s a) :: .tok ver :: ex)) := by unfold RAt; simp
  have hg' : GAt gid m (st ++ (.cells (rL s a) :: .tok ver :: ex)) := gat_app hg
  have hset : ∀ X : Ob,(st ++ (.cells (rL s a) :: .tok ver :: ex)).set st.length X = st ++ (X :: .tok ver :: ex) := fun X => by
    rw [List.set_append_right _ _ (Nat.le_refl _)]; simp
  have hsk := skip_le false (s.drop a)
  simp only [List.length_drop] at hsk
  generalize hb : a + skipN false (s.drop a) = b at *
  have hdd : (s.drop a).drop (skipN false (s.drop a)) = s.drop b := by rw [List.drop_drop,hb]
  by_cases hlt : b < s.length
  · have hdb := drop_at hlt
    generalize hR : nextR s[b] (s.drop b) b = R at *
    obtain ⟨g,e,t,n⟩ := R
    rw [hdb] at hR
    obtain ⟨ht1,ht2,ht3⟩ := tok_next hR
    rw [← hdb] at hR
    rw [tokensL_step (hdd.trans hdb),hb,ht1] at hu
    by_cases he : e = 0
    · obtain ⟨hn1,hn2,hkd⟩ := ht3 he
      subst he
      rw [if_pos rfl] at hu
      simp only [List.length_cons,List.length_drop] at hn2
      simp only at hu
      rw [← hdb,List.drop_drop] at hu
      have c2 : (t.kind == 0) = false := beq_eq_false_iff_ne.2 hkd
      simp only [go_sem]
      refine next_c2 hz (by omega) hal hg' hr hb hlt hR (hset _) ?_
      simp only [go_sem,d0n,c2]
      refine ⟨app35 (by omega),k,_,by omega,?_,b + n,out ++ [t],ver + 1,_,hu,by omega,by omega,by simp only [List.length_append,List.length_cons,List.length_nil]; omega,by rw [List.map_append,show [t].map tkSV = [.agg [.sc (.int .i64 t.kind),.sc (.string (ba t.text)),.sc (.int .i64 t.num),.sc (.int .i64 t.pos)]] from rfl],rfl⟩
      repeat (first | exact leEnv_nil | refine leEnv_any _ ?_ | refine leEnv_same _ ?_ | refine leEnv_norm _ ?_)
    · have c2 : (e != 0) = true := by simp [he]
      rw [if_neg he] at hu
      rw [hu] at hk
      simp only [go_sem]
      refine next_c2 hz (by omega) hal hg' hr hb hlt hR (hset _) ?_
      simp only [go_sem,c2]
      refine awp_draw [] Tryz.mixed rfl ?_
      simp only [go_sem]
      simp only [lexK] at hk
      rw [← ht2] at hk
      exact fin_pure (ids_errs _ _ _) (hk _)
  · have hbl : b = s.length := by omega
    have hdb : s.drop b = [] := List.drop_of_length_le (by omega)
    rw [tokensL_end (hdd.trans hdb),hb] at hu
    rw [hu] at hk
    simp only [go_sem]
    refine nextE_c hz hal hr hb hbl (hset _) ?_
    simp only [go_sem,d0n]
    refine ⟨app35 (by omega),fun _ => ?_,fun h => by cases h⟩
    simp only [lexK,List.map_append] at hk
    exact fin_pure (ids_toks _ (out ++ [⟨0,[],0,b⟩]) _ _ (by rw [List.map_append]; rfl)) hk
end Go.Proofs
