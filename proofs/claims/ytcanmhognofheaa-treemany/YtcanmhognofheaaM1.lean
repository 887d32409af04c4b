/- The first walks: loose, same, column. -/
import Derived.Test.YtcanmhognofheaaFacts
import Derived.Test.YtcanmhognofheaaData
import Derived.IntWalk
set_option linter.all false
set_option linter.unusedSimpArgs false
namespace Go.Proofs
open Go Go.AL
def looseB (n : Nd) : Bool := n.kind == 24 || n.kind == 4
def sameB (a b : Nd) : Bool := (a.kind == b.kind && a.text.toList == b.text.toList) && a.number == b.number
set_option maxRecDepth 4000
theorem loose_c (n : Nd) (K : SV → St → Prop) (st : St) (h : K (.sc (.bool (looseB n))) st) : ACalls Try.prog 45 [nodeSV n] K st := by
  refine acalls_go_pure [] Try.func45 rfl Try.results45 Try.ntmps45 ?_
  rw [nodeSV_eq]
  simp only [go_sem,imp_self,implies_true,reduceCtorEq,false_imp_iff,true_imp_iff,decide_true,decide_false,Int.toNat_natCast,Int.toNat_zero,Int.toNat_one,Int.natCast_nonneg,Int.le_refl,Nat.le_refl,Nat.reduceAdd,Nat.reduceMul,Nat.reduceLeDiff,Nat.reduceLT,Int.reduceLE,Int.reduceLT,Nat.reduceBEq,Nat.reduceEqDiff,Bool.not_true,Bool.not_false,Bool.and_false,Bool.false_and,Bool.or_true,Bool.true_or,Bool.or_false,Bool.false_or,call_func,c_draw,c_loop,FinK,Bool.not_eq_eq_eq_not]
  exact h
theorem same_c (a b : Nd) (K : SV → St → Prop) (st : St) (h : K (.sc (.bool (sameB a b))) st) : ACalls Try.prog 43 [nodeSV a,nodeSV b] K st := by
  refine acalls_go_pure [] Try.func43 rfl Try.results43 Try.ntmps43 ?_
  rw [nodeSV_eq,nodeSV_eq]
  simp only [go_sem,imp_self,implies_true,reduceCtorEq,false_imp_iff,true_imp_iff,decide_true,decide_false,Int.toNat_natCast,Int.toNat_zero,Int.toNat_one,Int.natCast_nonneg,Int.le_refl,Nat.le_refl,Nat.reduceAdd,Nat.reduceMul,Nat.reduceLeDiff,Nat.reduceLT,Int.reduceLE,Int.reduceLT,Nat.reduceBEq,Nat.reduceEqDiff,Bool.not_true,Bool.not_false,Bool.and_false,Bool.false_and,Bool.or_true,Bool.true_or,Bool.or_false,Bool.false_or,call_func,c_draw,c_loop,FinK]
  exact h
def columnL (rows : List (List Nd)) : List Nd := (rows.filter fun r => !looseB (r.getD 0 default)).map fun r => r.getD 0 default
theorem take_snoc' {α : Type} [Inhabited α] (l : List α) {k : Nat} (h : k < l.length) : l.take (k + 1) = l.take k ++ [l.getD k default] := by
  rw [List.take_succ_eq_append_getElem h]; simp [List.getD_eq_getElem?_getD,h]
theorem wrap_succ (k : Nat) (h : k ≤ 1000000) : IntKind.i64.wrap ((k : Int) + 1) = ((k + 1 : Nat) : Int) := by
  rw [IntWalk.i64_in _ (by omega)]; rfl
theorem column_snoc (rows : List (List Nd)) {k : Nat} (h : k < rows.length) (b : Bool) (hb : looseB ((rows.getD k default).getD 0 default) = b) :
    (columnL (rows.take (k + 1))).map nodeSV = if b then (columnL (rows.take k)).map nodeSV else (columnL (rows.take k)).map nodeSV ++ [nodeSV ((rows.getD k default).getD 0 default)] := by
  rw [take_snoc' rows h]
  unfold columnL
  rw [List.filter_append,List.map_append,List.map_append]
  generalize rows.getD k default = r at hb
  cases b <;> simp only [List.filter_cons,hb,Bool.not_false,Bool.not_true,if_true,Bool.false_eq_true,if_false,List.filter_nil,List.map_cons,List.map_nil,List.append_nil]
theorem app22 {n : Nat} (h : n ≤ 1000000) : AppOk Try.prog 24 24 6 n := appOk_of Try.aelem24 Try.aelem24 Try.asize27 Try.azero27 rfl Try.abytes27 (by omega) h
theorem columnL_len (rows : List (List Nd)) : (columnL rows).length ≤ rows.length := by
  unfold columnL; rw [List.length_map]; exact List.length_filter_le _ _
theorem column_c (rows : List (List Nd)) (hne : ∀ r ∈ rows,r ≠ []) (hb : rows.length ≤ 100000) (K : SV → St → Prop) (st : St) (h : K (nodesSV (columnL rows)) st) : ACalls Try.prog 39 [rowsSV rows] K st := by
  refine acalls_go_pure [] Try.func39 rfl Try.results39 Try.ntmps39 ?_
  rw [rowsSV]
  simp only [go_sem,imp_self,implies_true,reduceCtorEq,false_imp_iff,true_imp_iff,decide_true,decide_false,Int.toNat_natCast,Int.toNat_zero,Int.toNat_one,Int.natCast_nonneg,Int.le_refl,Nat.le_refl,Nat.reduceAdd,Nat.reduceMul,Nat.reduceLeDiff,Nat.reduceLT,Int.reduceLE,Int.reduceLT,Nat.reduceBEq,Nat.reduceEqDiff,Bool.not_true,Bool.not_false,Bool.and_false,Bool.false_and,Bool.or_true,Bool.true_or,Bool.or_false,Bool.false_or,call_func,c_draw,c_loop]
  refine awp_own 3 6 0 rfl ?_
  simp only [go_sem]
  refine awp_rounds [] (fun m e s => ∃ k ver,k + m = rows.length ∧ e = [.slice .imm 1 (rows.map nodesSV),.any,.any,.slice (.own st.length ver) 6 ((columnL (rows.take k)).map nodeSV),.any,.any,.slice .imm 1 (rows.map nodesSV),
     .sc (.int .i64 rows.length),.sc (.int .i64 k),.any,.any,.any,.any,.any,.any,.any,.any,.any,.any,.any,.any,.any,.any,.any,.any] ∧ s = st ++ [.tok ver]) (n := rows.length) ?_ ⟨0,0,by omega,rfl,rfl⟩ ?_
  · repeat (first | exact leEnv_nil | refine leEnv_any _ ?_ | refine leEnv_same _ ?_)
  · rintro m e s ⟨k,ver,hk,rfl,rfl⟩
    by_cases hlt : k < rows.length
    · have hr : (rows.getD k default) ∈ rows := by simp [List.getD_eq_getElem?_getD,hlt]
      have hne' := List.length_pos_iff.2 (hne _ hr)
      have i1 : (k : Int) < (rows.length : Int) := by omega
      have d0 : (0 : Int) < ((rows.getD k default).length : Int) := by omega
      have hw := wrap_succ k (by omega)
      have hlen : (columnL (rows.take k)).length + 1 ≤ 1000000 := by
        have := columnL_len (rows.take k)
        simp at this
        omega
      simp only [go_sem,imp_self,implies_true,reduceCtorEq,false_imp_iff,true_imp_iff,decide_true,decide_false,Int.toNat_natCast,Int.toNat_zero,Int.toNat_one,Int.natCast_nonneg,Int.le_refl,Nat.le_refl,Nat.reduceAdd,Nat.reduceMul,Nat.reduceLeDiff,Nat.reduceLT,Int.reduceLE,Int.reduceLT,Nat.reduceBEq,Nat.reduceEqDiff,Bool.not_true,Bool.not_false,Bool.and_false,Bool.false_and,Bool.or_true,Bool.true_or,Bool.or_false,Bool.false_or,call_func,c_draw,c_loop,i1,d0,hw,getD_map' _ hlt,getD_map' _ hne']
      refine loose_c _ _ _ ?_
      cases hL : looseB ((rows.getD k default).getD 0 default)
      · have hc := column_snoc rows hlt _ hL
        simp only [Bool.false_eq_true,if_false] at hc
        simp only [go_sem,imp_self,implies_true,reduceCtorEq,false_imp_iff,true_imp_iff,decide_true,decide_false,Int.toNat_natCast,Int.toNat_zero,Int.toNat_one,Int.natCast_nonneg,Int.le_refl,Nat.le_refl,Nat.reduceAdd,Nat.reduceMul,Nat.reduceLeDiff,Nat.reduceLT,Int.reduceLE,Int.reduceLT,Nat.reduceBEq,Nat.reduceEqDiff,Bool.not_true,Bool.not_false,Bool.and_false,Bool.false_and,Bool.or_true,Bool.true_or,Bool.or_false,Bool.false_or,call_func,c_draw,c_loop,← hc]
        refine ⟨app22 hlen,m - 1,_,by omega,?_,k + 1,ver + 1,by omega,rfl,rfl⟩
        repeat (first | exact leEnv_nil | refine leEnv_any _ ?_ | refine leEnv_same _ ?_)
      · have hc := column_snoc rows hlt _ hL
        simp only [if_true] at hc
        simp only [go_sem,imp_self,implies_true,reduceCtorEq,false_imp_iff,true_imp_iff,decide_true,decide_false,Int.toNat_natCast,Int.toNat_zero,Int.toNat_one,Int.natCast_nonneg,Int.le_refl,Nat.le_refl,Nat.reduceAdd,Nat.reduceMul,Nat.reduceLeDiff,Nat.reduceLT,Int.reduceLE,Int.reduceLT,Nat.reduceBEq,Nat.reduceEqDiff,Bool.not_true,Bool.not_false,Bool.and_false,Bool.false_and,Bool.or_true,Bool.true_or,Bool.or_false,Bool.false_or,call_func,c_draw,c_loop,← hc]
        refine ⟨m - 1,_,by omega,?_,k + 1,ver,by omega,rfl,rfl⟩
        repeat (first | exact leEnv_nil | refine leEnv_any _ ?_ | refine leEnv_same _ ?_)
    · have d1 : decide ((k : Int) < (rows.length : Int)) = false := by simp [hlt]
      obtain rfl : k = rows.length := by omega
      simp only [go_sem,imp_self,implies_true,reduceCtorEq,false_imp_iff,true_imp_iff,decide_true,decide_false,Int.toNat_natCast,Int.toNat_zero,Int.toNat_one,Int.natCast_nonneg,Int.le_refl,Nat.le_refl,Nat.reduceAdd,Nat.reduceMul,Nat.reduceLeDiff,Nat.reduceLT,Int.reduceLE,Int.reduceLT,Nat.reduceBEq,Nat.reduceEqDiff,Bool.not_true,Bool.not_false,Bool.and_false,Bool.false_and,Bool.or_true,Bool.true_or,Bool.or_false,Bool.false_or,call_func,c_draw,c_loop,d1,FinK,List.take_length]
      exact ⟨ids_nodes _ _,h⟩
end Go.Proofs
set_option maxRecDepth 4000
namespace Go.Proofs
open Go Go.AL
def idxOf (p : SV → Bool) (l : List SV) : Int := match l.findIdx? p with | some i => (i : Int) | none => -1
theorem idxOf_at (p : SV → Bool) (l : List SV) (k : Nat) (hk : k < l.length) (hno : ∀ i,i < k → p (l.getD i .any) = false) (hy : p (l.getD k .any) = true) : idxOf p l = (k : Int) := by
  unfold idxOf
  have : l.findIdx? p = some k := by
    rw [List.findIdx?_eq_some_iff_getElem]
    refine ⟨hk,by simpa [List.getD_eq_getElem?_getD,hk] using hy,fun j hj => ?_⟩
    have := hno j hj
    simpa [List.getD_eq_getElem?_getD,Nat.lt_trans hj hk] using this
  rw [this]
theorem idxOf_none (p : SV → Bool) (l : List SV) (hno : ∀ i,i < l.length → p (l.getD i .any) = false) : idxOf p l = -1 := by
  unfold idxOf
  have : l.findIdx? p = none := by
    rw [List.findIdx?_eq_none_iff]
    intro x hx
    obtain ⟨i,hi⟩ := List.getElem?_of_mem hx
    have := hno i (lt_of_get hi)
    rw [List.getD_eq_getElem?_getD,hi] at this
    exact this
  rw [this]
theorem idxOf_any (p : SV → Bool) (l : List SV) : decide ((0 : Int) ≤ idxOf p l) = l.any p := by
  unfold idxOf
  cases h : l.findIdx? p with
  | none =>
    rw [List.findIdx?_eq_none_iff] at h
    have : l.any p = false := by rw [List.any_eq_false]; intro x hx; rw [h x hx]; decide
    rw [this]; rfl
  | some i =>
    rw [List.findIdx?_eq_some_iff_getElem] at h
    obtain ⟨hi,hp,_⟩ := h
    have : l.any p = true := by rw [List.any_eq_true]; exact ⟨l[i],List.getElem_mem hi,hp⟩
    rw [this]
    simp
theorem index40_c (m : AL.Mode) (l : List SV) (p : SV → Bool) (g : FuncId) (caps : List SV) (hg : aBody Try.prog g = true) (hl : ∀ x ∈ l,cellsOf Try.prog 41 x.cells = some x) (hlen : l.length ≤ 1000000) (st : St)
    (hp : ∀ x ∈ l,∀ K : SV → St → Prop,K (.sc (.bool (p x))) st → ACalls Try.prog g ([x] ++ caps) K st) (K : SV → St → Prop) (h : K (.sc (.int .i64 (idxOf p l))) st) :
    ACalls Try.prog 67 [.slice m 5 l,.func (.func g) [] caps] K st := by
  refine acalls_go_pure [] Try.func67 rfl Try.results67 Try.ntmps67 ?_
  simp only [go_sem,imp_self,implies_true,reduceCtorEq,false_imp_iff,true_imp_iff,decide_true,decide_false,Int.toNat_natCast,Int.toNat_zero,Int.toNat_one,Int.natCast_nonneg,Int.le_refl,Nat.le_refl,Nat.reduceAdd,Nat.reduceMul,Nat.reduceLeDiff,Nat.reduceLT,Int.reduceLE,Int.reduceLT,Nat.reduceBEq,Nat.reduceEqDiff,Bool.not_true,Bool.not_false,Bool.and_false,Bool.false_and,Bool.or_true,Bool.true_or,Bool.or_false,Bool.false_or,call_func,c_draw,c_loop]
  refine awp_rounds [] (fun n e s => ∃ k,k + n = l.length ∧ (∀ i,i < k → p (l.getD i .any) = false) ∧ e = [.slice m 5 l,.func (.func g) [] caps,.any,.any,.any,.any,.any,.sc (.int .i64 l.length),.sc (.int .i64 k),.any,.any,.any,.any,.any,.any,.any,.any,.any,.any] ∧ s = st)
    (n := l.length) ?_ ⟨0,by omega,fun i hi => absurd hi (Nat.not_lt_zero _),rfl,rfl⟩ ?_
  · repeat (first | exact leEnv_nil | refine leEnv_any _ ?_ | refine leEnv_same _ ?_)
  · rintro n e s ⟨k,hk,hno,rfl,rfl⟩
    by_cases hlt : k < l.length
    · have hmem : l.getD k .any ∈ l := by simp [List.getD_eq_getElem?_getD,hlt]
      have i1 : (k : Int) < (l.length : Int) := by omega
      have hw := wrap_succ k (by omega)
      have hcell := hl _ hmem
      simp only [go_sem,imp_self,implies_true,reduceCtorEq,false_imp_iff,true_imp_iff,decide_true,decide_false,Int.toNat_natCast,Int.toNat_zero,Int.toNat_one,Int.natCast_nonneg,Int.le_refl,Nat.le_refl,Nat.reduceAdd,Nat.reduceMul,Nat.reduceLeDiff,Nat.reduceLT,Int.reduceLE,Int.reduceLT,Nat.reduceBEq,Nat.reduceEqDiff,Bool.not_true,Bool.not_false,Bool.and_false,Bool.false_and,Bool.or_true,Bool.true_or,Bool.or_false,Bool.false_or,call_func,c_draw,c_loop,i1,hw,hg,hcell]
      refine hp _ hmem _ ?_
      cases hL : p (l.getD k .any)
      · simp only [go_sem,imp_self,implies_true,reduceCtorEq,false_imp_iff,true_imp_iff,decide_true,decide_false,Int.toNat_natCast,Int.toNat_zero,Int.toNat_one,Int.natCast_nonneg,Int.le_refl,Nat.le_refl,Nat.reduceAdd,Nat.reduceMul,Nat.reduceLeDiff,Nat.reduceLT,Int.reduceLE,Int.reduceLT,Nat.reduceBEq,Nat.reduceEqDiff,Bool.not_true,Bool.not_false,Bool.and_false,Bool.false_and,Bool.or_true,Bool.true_or,Bool.or_false,Bool.false_or,call_func,c_draw,c_loop]
        refine ⟨n - 1,_,by omega,?_,k + 1,by omega,fun i hi => ?_,rfl⟩
        · repeat (first | exact leEnv_nil | refine leEnv_any _ ?_ | refine leEnv_same _ ?_)
        · by_cases e : i = k
          · rw [e]; exact hL
          · exact hno i (by omega)
      · simp only [go_sem,imp_self,implies_true,reduceCtorEq,false_imp_iff,true_imp_iff,decide_true,decide_false,Int.toNat_natCast,Int.toNat_zero,Int.toNat_one,Int.natCast_nonneg,Int.le_refl,Nat.le_refl,Nat.reduceAdd,Nat.reduceMul,Nat.reduceLeDiff,Nat.reduceLT,Int.reduceLE,Int.reduceLT,Nat.reduceBEq,Nat.reduceEqDiff,Bool.not_true,Bool.not_false,Bool.and_false,Bool.false_and,Bool.or_true,Bool.true_or,Bool.or_false,Bool.false_or,call_func,c_draw,c_loop,FinK]
        rw [idxOf_at p l k hlt hno hL] at h
        exact h
    · obtain rfl : k = l.length := by omega
      have d1 : ((l.length : Int) < (l.length : Int)) = False := eq_false (by omega)
      simp only [go_sem,imp_self,implies_true,reduceCtorEq,false_imp_iff,true_imp_iff,decide_true,decide_false,Int.toNat_natCast,Int.toNat_zero,Int.toNat_one,Int.natCast_nonneg,Int.le_refl,Nat.le_refl,Nat.reduceAdd,Nat.reduceMul,Nat.reduceLeDiff,Nat.reduceLT,Int.reduceLE,Int.reduceLT,Nat.reduceBEq,Nat.reduceEqDiff,Bool.not_true,Bool.not_false,Bool.and_false,Bool.false_and,Bool.or_true,Bool.true_or,Bool.or_false,Bool.false_or,call_func,c_draw,c_loop,d1,FinK]
      rw [idxOf_none p l hno] at h
      exact h
theorem index42_c (m : AL.Mode) (l : List SV) (p : SV → Bool) (g : FuncId) (caps : List SV) (hg : aBody Try.prog g = true) (hl : ∀ x ∈ l,cellsOf Try.prog 27 x.cells = some x) (hlen : l.length ≤ 1000000) (st : St)
    (hp : ∀ x ∈ l,∀ K : SV → St → Prop,K (.sc (.bool (p x))) st → ACalls Try.prog g ([x] ++ caps) K st) (K : SV → St → Prop) (h : K (.sc (.int .i64 (idxOf p l))) st) :
    ACalls Try.prog 69 [.slice m 6 l,.func (.func g) [] caps] K st := by
  refine acalls_go_pure [] Try.func69 rfl Try.results69 Try.ntmps69 ?_
  simp only [go_sem,imp_self,implies_true,reduceCtorEq,false_imp_iff,true_imp_iff,decide_true,decide_false,Int.toNat_natCast,Int.toNat_zero,Int.toNat_one,Int.natCast_nonneg,Int.le_refl,Nat.le_refl,Nat.reduceAdd,Nat.reduceMul,Nat.reduceLeDiff,Nat.reduceLT,Int.reduceLE,Int.reduceLT,Nat.reduceBEq,Nat.reduceEqDiff,Bool.not_true,Bool.not_false,Bool.and_false,Bool.false_and,Bool.or_true,Bool.true_or,Bool.or_false,Bool.false_or,call_func,c_draw,c_loop]
  refine awp_rounds [] (fun n e s => ∃ k,k + n = l.length ∧ (∀ i,i < k → p (l.getD i .any) = false) ∧ e = [.slice m 6 l,.func (.func g) [] caps,.any,.any,.any,.any,.any,.sc (.int .i64 l.length),.sc (.int .i64 k),.any,.any,.any,.any,.any,.any,.any,.any,.any,.any] ∧ s = st)
    (n := l.length) ?_ ⟨0,by omega,fun i hi => absurd hi (Nat.not_lt_zero _),rfl,rfl⟩ ?_
  · repeat (first | exact leEnv_nil | refine leEnv_any _ ?_ | refine leEnv_same _ ?_)
  · rintro n e s ⟨k,hk,hno,rfl,rfl⟩
    by_cases hlt : k < l.length
    · have hmem : l.getD k .any ∈ l := by simp [List.getD_eq_getElem?_getD,hlt]
      have i1 : (k : Int) < (l.length : Int) := by omega
      have hw := wrap_succ k (by omega)
      have hcell := hl _ hmem
      simp only [go_sem,imp_self,implies_true,reduceCtorEq,false_imp_iff,true_imp_iff,decide_true,decide_false,Int.toNat_natCast,Int.toNat_zero,Int.toNat_one,Int.natCast_nonneg,Int.le_refl,Nat.le_refl,Nat.reduceAdd,Nat.reduceMul,Nat.reduceLeDiff,Nat.reduceLT,Int.reduceLE,Int.reduceLT,Nat.reduceBEq,Nat.reduceEqDiff,Bool.not_true,Bool.not_false,Bool.and_false,Bool.false_and,Bool.or_true,Bool.true_or,Bool.or_false,Bool.false_or,call_func,c_draw,c_loop,i1,hw,hg,hcell]
      refine hp _ hmem _ ?_
      cases hL : p (l.getD k .any)
      · simp only [go_sem,imp_self,implies_true,reduceCtorEq,false_imp_iff,true_imp_iff,decide_true,decide_false,Int.toNat_natCast,Int.toNat_zero,Int.toNat_one,Int.natCast_nonneg,Int.le_refl,Nat.le_refl,Nat.reduceAdd,Nat.reduceMul,Nat.reduceLeDiff,Nat.reduceLT,Int.reduceLE,Int.reduceLT,Nat.reduceBEq,Nat.reduceEqDiff,Bool.not_true,Bool.not_false,Bool.and_false,Bool.false_and,Bool.or_true,Bool.true_or,Bool.or_false,Bool.false_or,call_func,c_draw,c_loop]
        refine ⟨n - 1,_,by omega,?_,k + 1,by omega,fun i hi => ?_,rfl⟩
        · repeat (first | exact leEnv_nil | refine leEnv_any _ ?_ | refine leEnv_same _ ?_)
        · by_cases e : i = k
          · rw [e]; exact hL
          · exact hno i (by omega)
      · simp only [go_sem,imp_self,implies_true,reduceCtorEq,false_imp_iff,true_imp_iff,decide_true,decide_false,Int.toNat_natCast,Int.toNat_zero,Int.toNat_one,Int.natCast_nonneg,Int.le_refl,Nat.le_refl,Nat.reduceAdd,Nat.reduceMul,Nat.reduceLeDiff,Nat.reduceLT,Int.reduceLE,Int.reduceLT,Nat.reduceBEq,Nat.reduceEqDiff,Bool.not_true,Bool.not_false,Bool.and_false,Bool.false_and,Bool.or_true,Bool.true_or,Bool.or_false,Bool.false_or,call_func,c_draw,c_loop,FinK]
        rw [idxOf_at p l k hlt hno hL] at h
        exact h
    · obtain rfl : k = l.length := by omega
      have d1 : ((l.length : Int) < (l.length : Int)) = False := eq_false (by omega)
      simp only [go_sem,imp_self,implies_true,reduceCtorEq,false_imp_iff,true_imp_iff,decide_true,decide_false,Int.toNat_natCast,Int.toNat_zero,Int.toNat_one,Int.natCast_nonneg,Int.le_refl,Nat.le_refl,Nat.reduceAdd,Nat.reduceMul,Nat.reduceLeDiff,Nat.reduceLT,Int.reduceLE,Int.reduceLT,Nat.reduceBEq,Nat.reduceEqDiff,Bool.not_true,Bool.not_false,Bool.and_false,Bool.false_and,Bool.or_true,Bool.true_or,Bool.or_false,Bool.false_or,call_func,c_draw,c_loop,d1,FinK]
      rw [idxOf_none p l hno] at h
      exact h
theorem index43_c (m : AL.Mode) (l : List SV) (p : SV → Bool) (g : FuncId) (caps : List SV) (hg : aBody Try.prog g = true) (hl : ∀ x ∈ l,cellsOf Try.prog 41 x.cells = some x) (hlen : l.length ≤ 1000000) (st : St)
    (hp : ∀ x ∈ l,∀ K : SV → St → Prop,K (.sc (.bool (p x))) st → ACalls Try.prog g ([x] ++ caps) K st) (K : SV → St → Prop) (h : K (.sc (.int .i64 (idxOf p l))) st) :
    ACalls Try.prog 59 [.slice m 5 l,.func (.func g) [] caps] K st := by
  refine acalls_go_pure [] Try.func59 rfl Try.results59 Try.ntmps59 ?_
  simp only [go_sem,imp_self,implies_true,reduceCtorEq,false_imp_iff,true_imp_iff,decide_true,decide_false,Int.toNat_natCast,Int.toNat_zero,Int.toNat_one,Int.natCast_nonneg,Int.le_refl,Nat.le_refl,Nat.reduceAdd,Nat.reduceMul,Nat.reduceLeDiff,Nat.reduceLT,Int.reduceLE,Int.reduceLT,Nat.reduceBEq,Nat.reduceEqDiff,Bool.not_true,Bool.not_false,Bool.and_false,Bool.false_and,Bool.or_true,Bool.true_or,Bool.or_false,Bool.false_or,call_func,c_draw,c_loop]
  refine awp_rounds [] (fun n e s => ∃ k,k + n = l.length ∧ (∀ i,i < k → p (l.getD i .any) = false) ∧ e = [.slice m 5 l,.func (.func g) [] caps,.any,.any,.any,.any,.any,.sc (.int .i64 l.length),.sc (.int .i64 k),.any,.any,.any,.any,.any,.any,.any,.any,.any,.any] ∧ s = st)
    (n := l.length) ?_ ⟨0,by omega,fun i hi => absurd hi (Nat.not_lt_zero _),rfl,rfl⟩ ?_
  · repeat (first | exact leEnv_nil | refine leEnv_any _ ?_ | refine leEnv_same _ ?_)
  · rintro n e s ⟨k,hk,hno,rfl,rfl⟩
    by_cases hlt : k < l.length
    · have hmem : l.getD k .any ∈ l := by simp [List.getD_eq_getElem?_getD,hlt]
      have i1 : (k : Int) < (l.length : Int) := by omega
      have hw := wrap_succ k (by omega)
      have hcell := hl _ hmem
      simp only [go_sem,imp_self,implies_true,reduceCtorEq,false_imp_iff,true_imp_iff,decide_true,decide_false,Int.toNat_natCast,Int.toNat_zero,Int.toNat_one,Int.natCast_nonneg,Int.le_refl,Nat.le_refl,Nat.reduceAdd,Nat.reduceMul,Nat.reduceLeDiff,Nat.reduceLT,Int.reduceLE,Int.reduceLT,Nat.reduceBEq,Nat.reduceEqDiff,Bool.not_true,Bool.not_false,Bool.and_false,Bool.false_and,Bool.or_true,Bool.true_or,Bool.or_false,Bool.false_or,call_func,c_draw,c_loop,i1,hw,hg,hcell]
      refine hp _ hmem _ ?_
      cases hL : p (l.getD k .any)
      · simp only [go_sem,imp_self,implies_true,reduceCtorEq,false_imp_iff,true_imp_iff,decide_true,decide_false,Int.toNat_natCast,Int.toNat_zero,Int.toNat_one,Int.natCast_nonneg,Int.le_refl,Nat.le_refl,Nat.reduceAdd,Nat.reduceMul,Nat.reduceLeDiff,Nat.reduceLT,Int.reduceLE,Int.reduceLT,Nat.reduceBEq,Nat.reduceEqDiff,Bool.not_true,Bool.not_false,Bool.and_false,Bool.false_and,Bool.or_true,Bool.true_or,Bool.or_false,Bool.false_or,call_func,c_draw,c_loop]
        refine ⟨n - 1,_,by omega,?_,k + 1,by omega,fun i hi => ?_,rfl⟩
        · repeat (first | exact leEnv_nil | refine leEnv_any _ ?_ | refine leEnv_same _ ?_)
        · by_cases e : i = k
          · rw [e]; exact hL
          · exact hno i (by omega)
      · simp only [go_sem,imp_self,implies_true,reduceCtorEq,false_imp_iff,true_imp_iff,decide_true,decide_false,Int.toNat_natCast,Int.toNat_zero,Int.toNat_one,Int.natCast_nonneg,Int.le_refl,Nat.le_refl,Nat.reduceAdd,Nat.reduceMul,Nat.reduceLeDiff,Nat.reduceLT,Int.reduceLE,Int.reduceLT,Nat.reduceBEq,Nat.reduceEqDiff,Bool.not_true,Bool.not_false,Bool.and_false,Bool.false_and,Bool.or_true,Bool.true_or,Bool.or_false,Bool.false_or,call_func,c_draw,c_loop,FinK]
        rw [idxOf_at p l k hlt hno hL] at h
        exact h
    · obtain rfl : k = l.length := by omega
      have d1 : ((l.length : Int) < (l.length : Int)) = False := eq_false (by omega)
      simp only [go_sem,imp_self,implies_true,reduceCtorEq,false_imp_iff,true_imp_iff,decide_true,decide_false,Int.toNat_natCast,Int.toNat_zero,Int.toNat_one,Int.natCast_nonneg,Int.le_refl,Nat.le_refl,Nat.reduceAdd,Nat.reduceMul,Nat.reduceLeDiff,Nat.reduceLT,Int.reduceLE,Int.reduceLT,Nat.reduceBEq,Nat.reduceEqDiff,Bool.not_true,Bool.not_false,Bool.and_false,Bool.false_and,Bool.or_true,Bool.true_or,Bool.or_false,Bool.false_or,call_func,c_draw,c_loop,d1,FinK]
      rw [idxOf_none p l hno] at h
      exact h
theorem contains20_c (m : AL.Mode) (l : List SV) (p : SV → Bool) (g : FuncId) (caps : List SV) (hg : aBody Try.prog g = true) (hl : ∀ x ∈ l,cellsOf Try.prog 41 x.cells = some x) (hlen : l.length ≤ 1000000) (st : St)
    (hp : ∀ x ∈ l,∀ K : SV → St → Prop,K (.sc (.bool (p x))) st → ACalls Try.prog g ([x] ++ caps) K st) (K : SV → St → Prop) (h : K (.sc (.bool (l.any p))) st) :
    ACalls Try.prog 35 [.slice m 5 l,.func (.func g) [] caps] K st := by
  refine acalls_go_pure [] Try.func35 rfl Try.results35 Try.ntmps35 ?_
  simp only [go_sem,imp_self,implies_true,reduceCtorEq,false_imp_iff,true_imp_iff,decide_true,decide_false,Int.toNat_natCast,Int.toNat_zero,Int.toNat_one,Int.natCast_nonneg,Int.le_refl,Nat.le_refl,Nat.reduceAdd,Nat.reduceMul,Nat.reduceLeDiff,Nat.reduceLT,Int.reduceLE,Int.reduceLT,Nat.reduceBEq,Nat.reduceEqDiff,Bool.not_true,Bool.not_false,Bool.and_false,Bool.false_and,Bool.or_true,Bool.true_or,Bool.or_false,Bool.false_or,call_func,c_draw,c_loop]
  refine index40_c m l p g caps hg hl hlen st hp _ ?_
  simp only [go_sem,imp_self,implies_true,reduceCtorEq,false_imp_iff,true_imp_iff,decide_true,decide_false,Int.toNat_natCast,Int.toNat_zero,Int.toNat_one,Int.natCast_nonneg,Int.le_refl,Nat.le_refl,Nat.reduceAdd,Nat.reduceMul,Nat.reduceLeDiff,Nat.reduceLT,Int.reduceLE,Int.reduceLT,Nat.reduceBEq,Nat.reduceEqDiff,Bool.not_true,Bool.not_false,Bool.and_false,Bool.false_and,Bool.or_true,Bool.true_or,Bool.or_false,Bool.false_or,call_func,c_draw,c_loop,FinK,idxOf_any]
  exact h
theorem contains26_c (m : AL.Mode) (l : List SV) (p : SV → Bool) (g : FuncId) (caps : List SV) (hg : aBody Try.prog g = true) (hl : ∀ x ∈ l,cellsOf Try.prog 27 x.cells = some x) (hlen : l.length ≤ 1000000) (st : St)
    (hp : ∀ x ∈ l,∀ K : SV → St → Prop,K (.sc (.bool (p x))) st → ACalls Try.prog g ([x] ++ caps) K st) (K : SV → St → Prop) (h : K (.sc (.bool (l.any p))) st) :
    ACalls Try.prog 41 [.slice m 6 l,.func (.func g) [] caps] K st := by
  refine acalls_go_pure [] Try.func41 rfl Try.results41 Try.ntmps41 ?_
  simp only [go_sem,imp_self,implies_true,reduceCtorEq,false_imp_iff,true_imp_iff,decide_true,decide_false,Int.toNat_natCast,Int.toNat_zero,Int.toNat_one,Int.natCast_nonneg,Int.le_refl,Nat.le_refl,Nat.reduceAdd,Nat.reduceMul,Nat.reduceLeDiff,Nat.reduceLT,Int.reduceLE,Int.reduceLT,Nat.reduceBEq,Nat.reduceEqDiff,Bool.not_true,Bool.not_false,Bool.and_false,Bool.false_and,Bool.or_true,Bool.true_or,Bool.or_false,Bool.false_or,call_func,c_draw,c_loop]
  refine index42_c m l p g caps hg hl hlen st hp _ ?_
  simp only [go_sem,imp_self,implies_true,reduceCtorEq,false_imp_iff,true_imp_iff,decide_true,decide_false,Int.toNat_natCast,Int.toNat_zero,Int.toNat_one,Int.natCast_nonneg,Int.le_refl,Nat.le_refl,Nat.reduceAdd,Nat.reduceMul,Nat.reduceLeDiff,Nat.reduceLT,Int.reduceLE,Int.reduceLT,Nat.reduceBEq,Nat.reduceEqDiff,Bool.not_true,Bool.not_false,Bool.and_false,Bool.false_and,Bool.or_true,Bool.true_or,Bool.or_false,Bool.false_or,call_func,c_draw,c_loop,FinK,idxOf_any]
  exact h
theorem contains32_c (m : AL.Mode) (l : List SV) (p : SV → Bool) (g : FuncId) (caps : List SV) (hg : aBody Try.prog g = true) (hl : ∀ x ∈ l,cellsOf Try.prog 41 x.cells = some x) (hlen : l.length ≤ 1000000) (st : St)
    (hp : ∀ x ∈ l,∀ K : SV → St → Prop,K (.sc (.bool (p x))) st → ACalls Try.prog g ([x] ++ caps) K st) (K : SV → St → Prop) (h : K (.sc (.bool (l.any p))) st) :
    ACalls Try.prog 47 [.slice m 5 l,.func (.func g) [] caps] K st := by
  refine acalls_go_pure [] Try.func47 rfl Try.results47 Try.ntmps47 ?_
  simp only [go_sem,imp_self,implies_true,reduceCtorEq,false_imp_iff,true_imp_iff,decide_true,decide_false,Int.toNat_natCast,Int.toNat_zero,Int.toNat_one,Int.natCast_nonneg,Int.le_refl,Nat.le_refl,Nat.reduceAdd,Nat.reduceMul,Nat.reduceLeDiff,Nat.reduceLT,Int.reduceLE,Int.reduceLT,Nat.reduceBEq,Nat.reduceEqDiff,Bool.not_true,Bool.not_false,Bool.and_false,Bool.false_and,Bool.or_true,Bool.true_or,Bool.or_false,Bool.false_or,call_func,c_draw,c_loop]
  refine index43_c m l p g caps hg hl hlen st hp _ ?_
  simp only [go_sem,imp_self,implies_true,reduceCtorEq,false_imp_iff,true_imp_iff,decide_true,decide_false,Int.toNat_natCast,Int.toNat_zero,Int.toNat_one,Int.natCast_nonneg,Int.le_refl,Nat.le_refl,Nat.reduceAdd,Nat.reduceMul,Nat.reduceLeDiff,Nat.reduceLT,Int.reduceLE,Int.reduceLT,Nat.reduceBEq,Nat.reduceEqDiff,Bool.not_true,Bool.not_false,Bool.and_false,Bool.false_and,Bool.or_true,Bool.true_or,Bool.or_false,Bool.false_or,call_func,c_draw,c_loop,FinK,idxOf_any]
  exact h
end Go.Proofs
