/- find, others and their like. -/
import Derived.Test.YtcanmhognofheaaM1
set_option linter.all false
set_option linter.unusedSimpArgs false
set_option maxRecDepth 4000
namespace Go.Proofs
open Go Go.AL
def pName (name : ByteArray) : SV → Bool
  | .agg (.sc (.string s) :: _) => s.toList == name.toList
  | _ => false
def findC (cons : List Cn) (name : ByteArray) : Option Cn := cons.find? fun c => c.name.toList == name.toList
theorem find1_c (c : Cn) (name : ByteArray) (K : SV → St → Prop) (st : St) (h : K (.sc (.bool (c.name.toList == name.toList))) st) : ACalls Try.prog 68 [conSV c,.ref [.sc (.string name)]] K st := by
  refine acalls_go_pure [] Try.func68 rfl Try.results68 Try.ntmps68 ?_
  simp only [go_sem,imp_self,implies_true,reduceCtorEq,false_imp_iff,true_imp_iff,decide_true,decide_false,Int.toNat_natCast,Int.toNat_zero,Int.toNat_one,Int.natCast_nonneg,Int.le_refl,Nat.le_refl,Nat.reduceAdd,Nat.reduceMul,Nat.reduceLeDiff,Nat.reduceLT,Int.reduceLE,Int.reduceLT,Nat.reduceBEq,Nat.reduceEqDiff,Bool.not_true,Bool.not_false,Bool.and_false,Bool.false_and,Bool.or_true,Bool.true_or,Bool.or_false,Bool.false_or,call_func,c_draw,c_loop,FinK]
  exact h
theorem idxOf_map (q : Cn → Bool) (p : SV → Bool) (hpq : ∀ c,p (conSV c) = q c) (cons : List Cn) : idxOf p (cons.map conSV) = match cons.findIdx? q with | some i => (i : Int) | none => -1 := by
  unfold idxOf
  rw [List.findIdx?_map]
  have : (p ∘ conSV) = q := funext hpq
  rw [this]
  cases List.findIdx? q cons <;> rfl
theorem find_c (cons : List Cn) (name : ByteArray) (hb : cons.length ≤ 1000000) (K : SV → St → Prop) (st : St) (h : K (.tuple [conSV ((findC cons name).getD default),.sc (.bool (findC cons name).isSome)]) st) :
    ACalls Try.prog 38 [consSV cons,.sc (.string name)] K st := by
  refine acalls_go_pure [] Try.func38 rfl Try.results38 Try.ntmps38 ?_
  simp only [go_sem,imp_self,implies_true,reduceCtorEq,false_imp_iff,true_imp_iff,decide_true,decide_false,Int.toNat_natCast,Int.toNat_zero,Int.toNat_one,Int.natCast_nonneg,Int.le_refl,Nat.le_refl,Nat.reduceAdd,Nat.reduceMul,Nat.reduceLeDiff,Nat.reduceLT,Int.reduceLE,Int.reduceLT,Nat.reduceBEq,Nat.reduceEqDiff,Bool.not_true,Bool.not_false,Bool.and_false,Bool.false_and,Bool.or_true,Bool.true_or,Bool.or_false,Bool.false_or,call_func,c_draw,c_loop]
  refine index40_c _ _ (pName name) 68 _ Try.abody68 (fun x hx => ?_) (by simpa using hb) _ (fun x hx K h => ?_) _ ?_
  · obtain ⟨c,_,rfl⟩ := List.mem_map.1 hx
    exact cellsOf_con c Try.aagg41 Try.asize41
  · obtain ⟨c,_,rfl⟩ := List.mem_map.1 hx
    exact find1_c c name K _ h
  · rw [idxOf_map (fun c => c.name.toList == name.toList) _ (fun c => rfl)]
    cases hf : cons.findIdx? (fun c => c.name.toList == name.toList) with
    | none =>
      have e : findC cons name = none := by
        rw [List.findIdx?_eq_none_iff] at hf
        exact List.find?_eq_none.2 fun x hx => by rw [hf x hx]; decide
      rw [e] at h
      have d1 : ((-1 : Int) < 0) = True := eq_true (by omega)
      simp only [go_sem,imp_self,implies_true,reduceCtorEq,false_imp_iff,true_imp_iff,decide_true,decide_false,Int.toNat_natCast,Int.toNat_zero,Int.toNat_one,Int.natCast_nonneg,Int.le_refl,Nat.le_refl,Nat.reduceAdd,Nat.reduceMul,Nat.reduceLeDiff,Nat.reduceLT,Int.reduceLE,Int.reduceLT,Nat.reduceBEq,Nat.reduceEqDiff,Bool.not_true,Bool.not_false,Bool.and_false,Bool.false_and,Bool.or_true,Bool.true_or,Bool.or_false,Bool.false_or,call_func,c_draw,c_loop,d1,FinK]
      exact h
    | some i =>
      rw [List.findIdx?_eq_some_iff_getElem] at hf
      obtain ⟨hi,hp,hno⟩ := hf
      have e : findC cons name = some cons[i] := by
        unfold findC
        rw [List.find?_eq_some_iff_getElem]
        exact ⟨hp,i,hi,rfl,fun j hj => by simpa using hno j hj⟩
      rw [e] at h
      have d1 : ((i : Int) < 0) = False := eq_false (by omega)
      have d2 : (i : Int) < (cons.length : Int) := by omega
      have eg : cons.getD i default = cons[i] := by simp [List.getD_eq_getElem?_getD,hi]
      simp only [go_sem,imp_self,implies_true,reduceCtorEq,false_imp_iff,true_imp_iff,decide_true,decide_false,Int.toNat_natCast,Int.toNat_zero,Int.toNat_one,Int.natCast_nonneg,Int.le_refl,Nat.le_refl,Nat.reduceAdd,Nat.reduceMul,Nat.reduceLeDiff,Nat.reduceLT,Int.reduceLE,Int.reduceLT,Nat.reduceBEq,Nat.reduceEqDiff,Bool.not_true,Bool.not_false,Bool.and_false,Bool.false_and,Bool.or_true,Bool.true_or,Bool.or_false,Bool.false_or,call_func,c_draw,c_loop,d1,d2,FinK,getD_map' _ hi,eg]
      exact h
def othersL (rows : List (List Nd)) : List (List Nd) := (rows.filter fun r => looseB (r.getD 0 default)).map fun r => r.drop 1
theorem others_snoc (rows : List (List Nd)) {k : Nat} (h : k < rows.length) (b : Bool) (hb : looseB ((rows.getD k default).getD 0 default) = b) :
    (othersL (rows.take (k + 1))).map nodesSV = if b then (othersL (rows.take k)).map nodesSV ++ [nodesSV ((rows.getD k default).drop 1)] else (othersL (rows.take k)).map nodesSV := by
  rw [take_snoc' rows h]
  unfold othersL
  rw [List.filter_append,List.map_append,List.map_append]
  generalize rows.getD k default = r at hb
  cases b <;> simp only [List.filter_cons,hb,if_true,Bool.false_eq_true,if_false,List.filter_nil,List.map_cons,List.map_nil,List.append_nil]
theorem othersL_len (rows : List (List Nd)) : (othersL rows).length ≤ rows.length := by
  unfold othersL; rw [List.length_map]; exact List.length_filter_le _ _
theorem app37 {n : Nat} (h : n ≤ 1000000) : AppOk Try.prog 73 73 1 n := appOk_of Try.aelem73 Try.aelem73 Try.asize24 Try.azero24 rfl Try.abytes24 (by omega) h
theorem others_c (rows : List (List Nd)) (hne : ∀ r ∈ rows,r ≠ []) (hb : rows.length ≤ 100000) (K : SV → St → Prop) (st : St) (h : K (rowsSV (othersL rows)) st) : ACalls Try.prog 40 [rowsSV rows] K st := by
  refine acalls_go_pure [] Try.func40 rfl Try.results40 Try.ntmps40 ?_
  simp only [go_sem,imp_self,implies_true,reduceCtorEq,false_imp_iff,true_imp_iff,decide_true,decide_false,Int.toNat_natCast,Int.toNat_zero,Int.toNat_one,Int.natCast_nonneg,Int.le_refl,Nat.le_refl,Nat.reduceAdd,Nat.reduceMul,Nat.reduceLeDiff,Nat.reduceLT,Int.reduceLE,Int.reduceLT,Nat.reduceBEq,Nat.reduceEqDiff,Bool.not_true,Bool.not_false,Bool.and_false,Bool.false_and,Bool.or_true,Bool.true_or,Bool.or_false,Bool.false_or,call_func,c_draw,c_loop]
  refine awp_own 3 1 0 rfl ?_
  simp only [go_sem]
  refine awp_rounds [] (fun m e s => ∃ k ver,k + m = rows.length ∧ e = [.slice .imm 1 (rows.map nodesSV),.any,.any,.slice (.own st.length ver) 1 ((othersL (rows.take k)).map nodesSV),.any,.any,.slice .imm 1 (rows.map nodesSV),
     .sc (.int .i64 rows.length),.sc (.int .i64 k),.any,.any,.any,.any,.any,.any,.any,.any,.any,.any,.any,.any,.any,.any] ∧ s = st ++ [.tok ver]) (n := rows.length) ?_ ⟨0,0,by omega,rfl,rfl⟩ ?_
  · repeat (first | exact leEnv_nil | refine leEnv_any _ ?_ | refine leEnv_same _ ?_)
  · rintro m e s ⟨k,ver,hk,rfl,rfl⟩
    by_cases hlt : k < rows.length
    · have hr : (rows.getD k default) ∈ rows := by simp [List.getD_eq_getElem?_getD,hlt]
      have hne' := List.length_pos_iff.2 (hne _ hr)
      have i1 : (k : Int) < (rows.length : Int) := by omega
      have d0 : (0 : Int) < ((rows.getD k default).length : Int) := by omega
      have d3 : (1 : Int) ≤ ((rows.getD k default).length : Int) := by omega
      have hw := wrap_succ k (by omega)
      have hlen : (othersL (rows.take k)).length + 1 ≤ 1000000 := by
        have := othersL_len (rows.take k)
        simp at this
        omega
      simp only [go_sem,imp_self,implies_true,reduceCtorEq,false_imp_iff,true_imp_iff,decide_true,decide_false,Int.toNat_natCast,Int.toNat_zero,Int.toNat_one,Int.natCast_nonneg,Int.le_refl,Nat.le_refl,Nat.reduceAdd,Nat.reduceMul,Nat.reduceLeDiff,Nat.reduceLT,Int.reduceLE,Int.reduceLT,Nat.reduceBEq,Nat.reduceEqDiff,Bool.not_true,Bool.not_false,Bool.and_false,Bool.false_and,Bool.or_true,Bool.true_or,Bool.or_false,Bool.false_or,call_func,c_draw,c_loop,i1,d0,hw,getD_map' _ hlt,getD_map' _ hne']
      refine loose_c _ _ _ ?_
      cases hL : looseB ((rows.getD k default).getD 0 default)
      · have hc := others_snoc rows hlt _ hL
        simp only [Bool.false_eq_true,if_false] at hc
        simp only [go_sem,imp_self,implies_true,reduceCtorEq,false_imp_iff,true_imp_iff,decide_true,decide_false,Int.toNat_natCast,Int.toNat_zero,Int.toNat_one,Int.natCast_nonneg,Int.le_refl,Nat.le_refl,Nat.reduceAdd,Nat.reduceMul,Nat.reduceLeDiff,Nat.reduceLT,Int.reduceLE,Int.reduceLT,Nat.reduceBEq,Nat.reduceEqDiff,Bool.not_true,Bool.not_false,Bool.and_false,Bool.false_and,Bool.or_true,Bool.true_or,Bool.or_false,Bool.false_or,call_func,c_draw,c_loop,← hc]
        refine ⟨m - 1,_,by omega,?_,k + 1,ver,by omega,rfl,rfl⟩
        repeat (first | exact leEnv_nil | refine leEnv_any _ ?_ | refine leEnv_same _ ?_)
      · have hc := others_snoc rows hlt _ hL
        simp only [if_true,nodesSV,List.map_drop] at hc
        simp only [go_sem,imp_self,implies_true,reduceCtorEq,false_imp_iff,true_imp_iff,decide_true,decide_false,Int.toNat_natCast,Int.toNat_zero,Int.toNat_one,Int.natCast_nonneg,Int.le_refl,Nat.le_refl,Nat.reduceAdd,Nat.reduceMul,Nat.reduceLeDiff,Nat.reduceLT,Int.reduceLE,Int.reduceLT,Nat.reduceBEq,Nat.reduceEqDiff,Bool.not_true,Bool.not_false,Bool.and_false,Bool.false_and,Bool.or_true,Bool.true_or,Bool.or_false,Bool.false_or,call_func,c_draw,c_loop,d3,List.take_length]
        simp only [← hc]
        refine ⟨app37 hlen,m - 1,_,by omega,?_,k + 1,ver + 1,by omega,rfl,rfl⟩
        repeat (first | exact leEnv_nil | refine leEnv_any _ ?_ | refine leEnv_same _ ?_)
    · have d1 : ((k : Int) < (rows.length : Int)) = False := eq_false (by omega)
      obtain rfl : k = rows.length := by omega
      simp only [go_sem,imp_self,implies_true,reduceCtorEq,false_imp_iff,true_imp_iff,decide_true,decide_false,Int.toNat_natCast,Int.toNat_zero,Int.toNat_one,Int.natCast_nonneg,Int.le_refl,Nat.le_refl,Nat.reduceAdd,Nat.reduceMul,Nat.reduceLeDiff,Nat.reduceLT,Int.reduceLE,Int.reduceLT,Nat.reduceBEq,Nat.reduceEqDiff,Bool.not_true,Bool.not_false,Bool.and_false,Bool.false_and,Bool.or_true,Bool.true_or,Bool.or_false,Bool.false_or,call_func,c_draw,c_loop,d1,FinK,List.take_length]
      exact ⟨ids_rows _ _,h⟩
end Go.Proofs
set_option maxRecDepth 4000
namespace Go.Proofs
open Go Go.AL
theorem of1_c (c : Cn) (of_ : ByteArray) (K : SV → St → Prop) (st : St) (h : K (.sc (.bool (!(c.of_.toList == of_.toList)))) st) : ACalls Try.prog 66 [conSV c,.ref [.sc (.string of_)]] K st := by
  refine acalls_go_pure [] Try.func66 rfl Try.results66 Try.ntmps66 ?_
  simp only [go_sem,imp_self,implies_true,reduceCtorEq,false_imp_iff,true_imp_iff,decide_true,decide_false,Int.toNat_natCast,Int.toNat_zero,Int.toNat_one,Int.natCast_nonneg,Int.le_refl,Nat.le_refl,Nat.reduceAdd,Nat.reduceMul,Nat.reduceLeDiff,Nat.reduceLT,Int.reduceLE,Int.reduceLT,Nat.reduceBEq,Nat.reduceEqDiff,Bool.not_true,Bool.not_false,Bool.and_false,Bool.false_and,Bool.or_true,Bool.true_or,Bool.or_false,Bool.false_or,call_func,c_draw,c_loop,FinK]
  exact h
def clash (a c : Cn) : Bool := a.name.toList == c.name.toList || (a.of_.toList == c.of_.toList && a.tag == c.tag)
def plainB (n : Nd) : Bool :=
  (((((n.text.toList == (⟨#[]⟩ : ByteArray).toList) || n.kind == 4) || n.kind == 5) && (n.names.length : Int) == 0) && (n.number == 0 || n.kind == 1)) && ((n.kids.length : Int) == 0 || n.kind == 5)
theorem plain_c (n : Nd) (K : SV → St → Prop) (st : St) (h : K (.sc (.bool (plainB n))) st) : ACalls Try.prog 37 [nodeSV n] K st := by
  refine acalls_go_pure [] Try.func37 rfl Try.results37 Try.ntmps37 ?_
  unfold plainB at h
  rw [nodeSV_eq]
  simp only [go_sem,imp_self,implies_true,reduceCtorEq,false_imp_iff,true_imp_iff,decide_true,decide_false,Int.toNat_natCast,Int.toNat_zero,Int.toNat_one,Int.natCast_nonneg,Int.le_refl,Nat.le_refl,Nat.reduceAdd,Nat.reduceMul,Nat.reduceLeDiff,Nat.reduceLT,Int.reduceLE,Int.reduceLT,Nat.reduceBEq,Nat.reduceEqDiff,Bool.not_true,Bool.not_false,Bool.and_false,Bool.false_and,Bool.or_true,Bool.true_or,Bool.or_false,Bool.false_or,call_func,c_draw,c_loop,FinK]
  repeat' (first | exact h | apply And.intro)
  all_goals (intros; simp_all)
end Go.Proofs
set_option maxRecDepth 4000
namespace Go.Proofs
open Go Go.AL
def flatC (l : List Cn) : List SV := (l.map conSV).flatMap SV.cells
theorem flatC_len (l : List Cn) : (flatC l).length = l.length * 5 := by
  induction l with
  | nil => rfl
  | cons c r ih =>
    have : flatC (c :: r) = (conSV c).cells ++ flatC r := rfl
    rw [this,List.length_append,ih,con_len,List.length_cons]; omega
theorem flatC_append (a b : List Cn) : flatC (a ++ b) = flatC a ++ flatC b := by simp [flatC]
theorem flatC_at (l : List Cn) (t : List SV) {k : Nat} (h : k < l.length) : ((flatC l ++ t).drop (k * 5)).take 5 = (conSV (l.getD k default)).cells := by
  have e : l = l.take k ++ l.getD k default :: l.drop (k + 1) := by
    rw [List.getD_eq_getElem?_getD,List.getElem?_eq_getElem h,Option.getD_some]
    simp
  have hk : (flatC (l.take k)).length = k * 5 := by rw [flatC_len,List.length_take]; omega
  have hc : flatC (l.getD k default :: l.drop (k + 1)) = (conSV (l.getD k default)).cells ++ flatC (l.drop (k + 1)) := rfl
  have hx : flatC l = flatC (l.take k) ++ ((conSV (l.getD k default)).cells ++ flatC (l.drop (k + 1))) := by rw [← hc,← flatC_append,← e]
  rw [hx,List.append_assoc,← hk,List.drop_left,List.append_assoc,← con_len (l.getD k default),List.take_left]
theorem flatC_cell (l : List Cn) (t : List SV) {k : Nat} (h : k < l.length) : cellsOf Try.prog 41 ((flatC l ++ t).drop (k * 5)) = some (conSV (l.getD k default)) := by
  have h1 := flatC_at l t h
  have h2 : 5 ≤ ((flatC l ++ t).drop (k * 5)).length := by
    have := congrArg List.length h1
    rw [con_len,List.length_take] at this
    omega
  generalize (flatC l ++ t).drop (k * 5) = m at h1 h2
  unfold cellsOf
  simp only [Try.aagg41,Try.asize41]
  simp [h1,h2]
  rfl
theorem app36 {n : Nat} (h : n ≤ 1000000) : AppOk Try.prog 72 72 5 n := appOk_of Try.aelem72 Try.aelem72 Try.asize41 Try.azero41 rfl Try.abytes41 (by omega) h
theorem clone_c (cons : List Cn) (hne : cons ≠ []) (hb : cons.length ≤ 100000) (K : SV → St → Prop) (st : St)
    (h : ∀ cap ex,cons.length ≤ cap → K (.slc st.length 5 0 cons.length cap) (st ++ [.cells (flatC cons ++ ex)])) : ACalls Try.prog 65 [consSV cons] K st := by
  refine acalls_go (M := [7]) Try.func65 rfl Try.results65 Try.ntmps65 ?_
  have hne' : cons.map conSV ≠ [] := by simpa using hne
  simp only [go_sem,imp_self,implies_true,reduceCtorEq,false_imp_iff,true_imp_iff,decide_true,decide_false,Int.toNat_natCast,Int.toNat_zero,Int.toNat_one,Int.natCast_nonneg,Int.le_refl,Nat.le_refl,Nat.reduceAdd,Nat.reduceMul,Nat.reduceLeDiff,Nat.reduceLT,Int.reduceLE,Int.reduceLT,Nat.reduceBEq,Nat.reduceEqDiff,Bool.not_true,Bool.not_false,Bool.and_false,Bool.false_and,Bool.or_true,Bool.true_or,Bool.or_false,Bool.false_or,call_func,c_draw,c_loop]
  refine ⟨hne',hne',app36 (by omega),fun cap hc => ?_⟩
  exact h _ _ hc
theorem index40o_c (id cap : Nat) (l : List Cn) (p : SV → Bool) (g : FuncId) (caps : List SV) (hg : aBody Try.prog g = true) (hlen : l.length ≤ 1000000) (st : St) (t : List SV)
    (hi : isObj st id) (ho : objAt st id = flatC l ++ t)
    (hp : ∀ x ∈ l,∀ K : SV → St → Prop,K (.sc (.bool (p (conSV x)))) st → ACalls Try.prog g ([conSV x] ++ caps) K st) (K : SV → St → Prop) (h : K (.sc (.int .i64 (idxOf p (l.map conSV)))) st) :
    ACalls Try.prog 67 [.slc id 5 0 l.length cap,.func (.func g) [] caps] K st := by
  refine acalls_go_pure [] Try.func67 rfl Try.results67 Try.ntmps67 ?_
  simp only [go_sem,imp_self,implies_true,reduceCtorEq,false_imp_iff,true_imp_iff,decide_true,decide_false,Int.toNat_natCast,Int.toNat_zero,Int.toNat_one,Int.natCast_nonneg,Int.le_refl,Nat.le_refl,Nat.reduceAdd,Nat.reduceMul,Nat.reduceLeDiff,Nat.reduceLT,Int.reduceLE,Int.reduceLT,Nat.reduceBEq,Nat.reduceEqDiff,Bool.not_true,Bool.not_false,Bool.and_false,Bool.false_and,Bool.or_true,Bool.true_or,Bool.or_false,Bool.false_or,call_func,c_draw,c_loop]
  refine awp_rounds [] (fun n e s => ∃ k,k + n = l.length ∧ (∀ i,i < k → p ((l.map conSV).getD i .any) = false) ∧ e = [.slc id 5 0 l.length cap,.func (.func g) [] caps,.any,.any,.any,.any,.any,.sc (.int .i64 l.length),.sc (.int .i64 k),.any,.any,.any,.any,.any,.any,.any,.any,.any,.any] ∧ s = st)
    (n := l.length) ?_ ⟨0,by omega,fun i hi => absurd hi (Nat.not_lt_zero _),rfl,rfl⟩ ?_
  · repeat (first | exact leEnv_nil | refine leEnv_any _ ?_ | refine leEnv_same _ ?_)
  · rintro n e s ⟨k,hk,hno,rfl,rfl⟩
    by_cases hlt : k < l.length
    · have hmem : l.getD k default ∈ l := by simp [List.getD_eq_getElem?_getD,hlt]
      have i1 : (k : Int) < (l.length : Int) := by omega
      have hw := wrap_succ k (by omega)
      have hcell := flatC_cell l t hlt
      simp only [go_sem,imp_self,implies_true,reduceCtorEq,false_imp_iff,true_imp_iff,decide_true,decide_false,Int.toNat_natCast,Int.toNat_zero,Int.toNat_one,Int.natCast_nonneg,Int.le_refl,Nat.le_refl,Nat.reduceAdd,Nat.reduceMul,Nat.reduceLeDiff,Nat.reduceLT,Int.reduceLE,Int.reduceLT,Nat.reduceBEq,Nat.reduceEqDiff,Bool.not_true,Bool.not_false,Bool.and_false,Bool.false_and,Bool.or_true,Bool.true_or,Bool.or_false,Bool.false_or,call_func,c_draw,c_loop,i1,hw,hg,ho,hi,hcell]
      refine hp _ hmem _ ?_
      rw [← getD_map' conSV hlt]
      cases hL : p ((l.map conSV).getD k .any)
      · simp only [go_sem,imp_self,implies_true,reduceCtorEq,false_imp_iff,true_imp_iff,decide_true,decide_false,Int.toNat_natCast,Int.toNat_zero,Int.toNat_one,Int.natCast_nonneg,Int.le_refl,Nat.le_refl,Nat.reduceAdd,Nat.reduceMul,Nat.reduceLeDiff,Nat.reduceLT,Int.reduceLE,Int.reduceLT,Nat.reduceBEq,Nat.reduceEqDiff,Bool.not_true,Bool.not_false,Bool.and_false,Bool.false_and,Bool.or_true,Bool.true_or,Bool.or_false,Bool.false_or,call_func,c_draw,c_loop]
        refine ⟨n - 1,_,by omega,?_,k + 1,by omega,fun i hi => ?_,rfl⟩
        · repeat (first | exact leEnv_nil | refine leEnv_any _ ?_ | refine leEnv_same _ ?_)
        · by_cases e : i = k
          · rw [e]; exact hL
          · exact hno i (by omega)
      · simp only [go_sem,imp_self,implies_true,reduceCtorEq,false_imp_iff,true_imp_iff,decide_true,decide_false,Int.toNat_natCast,Int.toNat_zero,Int.toNat_one,Int.natCast_nonneg,Int.le_refl,Nat.le_refl,Nat.reduceAdd,Nat.reduceMul,Nat.reduceLeDiff,Nat.reduceLT,Int.reduceLE,Int.reduceLT,Nat.reduceBEq,Nat.reduceEqDiff,Bool.not_true,Bool.not_false,Bool.and_false,Bool.false_and,Bool.or_true,Bool.true_or,Bool.or_false,Bool.false_or,call_func,c_draw,c_loop,FinK]
        rw [idxOf_at p _ k (by simpa using hlt) hno hL] at h
        exact h
    · obtain rfl : k = l.length := by omega
      have d1 : ((l.length : Int) < (l.length : Int)) = False := eq_false (by omega)
      simp only [go_sem,imp_self,implies_true,reduceCtorEq,false_imp_iff,true_imp_iff,decide_true,decide_false,Int.toNat_natCast,Int.toNat_zero,Int.toNat_one,Int.natCast_nonneg,Int.le_refl,Nat.le_refl,Nat.reduceAdd,Nat.reduceMul,Nat.reduceLeDiff,Nat.reduceLT,Int.reduceLE,Int.reduceLT,Nat.reduceBEq,Nat.reduceEqDiff,Bool.not_true,Bool.not_false,Bool.and_false,Bool.false_and,Bool.or_true,Bool.true_or,Bool.or_false,Bool.false_or,call_func,c_draw,c_loop,d1,FinK]
      rw [idxOf_none p _ (by simpa using hno)] at h
      exact h
end Go.Proofs
