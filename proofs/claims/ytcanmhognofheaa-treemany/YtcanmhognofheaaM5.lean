/- below, under. -/
import Derived.Test.YtcanmhognofheaaW12
set_option linter.all false
set_option linter.unusedSimpArgs false
set_option maxRecDepth 4000
namespace Go.Proofs
open Go Go.AL
def belowL (r : List Nd) (head : Nd) : List Nd :=
  if looseB (r.getD 0 default) then List.replicate head.kids.length anyN ++ r.drop 1
  else if sameB (r.getD 0 default) head then (r.getD 0 default).kids ++ r.drop 1 else []
def belowB (r : List Nd) (head : Nd) : Bool := looseB (r.getD 0 default) || sameB (r.getD 0 default) head
theorem kept_app (st : St) (o : Ob) (a b : List Nd) : Kept st (.slice .imm 6 ((a ++ b).map nodeSV)) (.slice (.own st.length 0) 6 (a.map nodeSV ++ b.map nodeSV)) (st ++ [o]) :=
  ⟨⟨[o],rfl⟩,ids_nodes _ _,.inr (by rw [List.map_append]; rfl)⟩
theorem ids_nodes0 (n : Nat) : Ids n (.slice .imm 0 []) := ids_slice (.inl rfl) fun x hx => by cases hx
theorem below_c (r : List Nd) (head : Nd) (hr : r ≠ []) (hk : head.kids.length ≤ 5) (hl : r.length ≤ 100000) (hk0 : (r.getD 0 default).kids.length ≤ 5) (K : SV → St → Prop) (st : St)
    (h : K (.tuple [nodesSV (belowL r head),.sc (.bool (belowB r head))]) st) : ACalls Try.prog 46 [nodesSV r,nodeSV head] K st := by
  have hpos := List.length_pos_iff.2 hr
  have d0 : (0 : Int) < (r.length : Int) := by omega
  have d3 : (1 : Int) ≤ (r.length : Int) := by omega
  refine acalls_le ?_
  refine acalls_go_pure [] Try.func46 rfl Try.results46 Try.ntmps46 ?_
  unfold belowL belowB at h
  simp only [go_sem,imp_self,implies_true,reduceCtorEq,false_imp_iff,true_imp_iff,decide_true,decide_false,Int.toNat_natCast,Int.toNat_zero,Int.toNat_one,Int.natCast_nonneg,Int.le_refl,Nat.le_refl,Nat.reduceAdd,Nat.reduceMul,Nat.reduceLeDiff,Nat.reduceLT,Int.reduceLE,Int.reduceLT,Nat.reduceBEq,Nat.reduceEqDiff,Bool.not_true,Bool.not_false,Bool.and_false,Bool.false_and,Bool.or_true,Bool.true_or,Bool.or_false,Bool.false_or,call_func,c_draw,c_loop,d0,getD_map' _ hpos]
  refine loose_c _ _ _ ?_
  cases hL : looseB (r.getD 0 default)
  · simp only [hL,Bool.false_eq_true,if_false,Bool.false_or] at h
    simp only [go_sem,imp_self,implies_true,reduceCtorEq,false_imp_iff,true_imp_iff,decide_true,decide_false,Int.toNat_natCast,Int.toNat_zero,Int.toNat_one,Int.natCast_nonneg,Int.le_refl,Nat.le_refl,Nat.reduceAdd,Nat.reduceMul,Nat.reduceLeDiff,Nat.reduceLT,Int.reduceLE,Int.reduceLT,Nat.reduceBEq,Nat.reduceEqDiff,Bool.not_true,Bool.not_false,Bool.and_false,Bool.false_and,Bool.or_true,Bool.true_or,Bool.or_false,Bool.false_or,call_func,c_draw,c_loop]
    refine awp_draw [] Try.mixed rfl ?_
    simp only [go_sem,imp_self,implies_true,reduceCtorEq,false_imp_iff,true_imp_iff,decide_true,decide_false,Int.toNat_natCast,Int.toNat_zero,Int.toNat_one,Int.natCast_nonneg,Int.le_refl,Nat.le_refl,Nat.reduceAdd,Nat.reduceMul,Nat.reduceLeDiff,Nat.reduceLT,Int.reduceLE,Int.reduceLT,Nat.reduceBEq,Nat.reduceEqDiff,Bool.not_true,Bool.not_false,Bool.and_false,Bool.false_and,Bool.or_true,Bool.true_or,Bool.or_false,Bool.false_or,call_func,c_draw,c_loop,d0,getD_map' _ hpos]
    refine ⟨.sc (.bool (sameB (r.getD 0 default) head)),?_,?_⟩
    · simp only [go_sem,imp_self,implies_true,reduceCtorEq,false_imp_iff,true_imp_iff,decide_true,decide_false,Int.toNat_natCast,Int.toNat_zero,Int.toNat_one,Int.natCast_nonneg,Int.le_refl,Nat.le_refl,Nat.reduceAdd,Nat.reduceMul,Nat.reduceLeDiff,Nat.reduceLT,Int.reduceLE,Int.reduceLT,Nat.reduceBEq,Nat.reduceEqDiff,Bool.not_true,Bool.not_false,Bool.and_false,Bool.false_and,Bool.or_true,Bool.true_or,Bool.or_false,Bool.false_or,call_func,c_draw,c_loop]
      exact same_c _ _ _ _ ⟨⟨[],by simp⟩,.sc _,.inl rfl⟩
    simp only [go_sem,imp_self,implies_true,reduceCtorEq,false_imp_iff,true_imp_iff,decide_true,decide_false,Int.toNat_natCast,Int.toNat_zero,Int.toNat_one,Int.natCast_nonneg,Int.le_refl,Nat.le_refl,Nat.reduceAdd,Nat.reduceMul,Nat.reduceLeDiff,Nat.reduceLT,Int.reduceLE,Int.reduceLT,Nat.reduceBEq,Nat.reduceEqDiff,Bool.not_true,Bool.not_false,Bool.and_false,Bool.false_and,Bool.or_true,Bool.true_or,Bool.or_false,Bool.false_or,call_func,c_draw,c_loop]
    refine ⟨fun hs => ?_,fun hs => ?_⟩
    · rw [if_pos hs,hs] at h
      have z0 : ((0 : Nat) : Int) ≤ ((r.getD 0 default).kids.length : Int) := by omega
      refine awp_draw [] Try.mixed rfl ?_
      simp only [go_sem,imp_self,implies_true,reduceCtorEq,false_imp_iff,true_imp_iff,decide_true,decide_false,Int.toNat_natCast,Int.toNat_zero,Int.toNat_one,Int.natCast_nonneg,Int.le_refl,Nat.le_refl,Nat.reduceAdd,Nat.reduceMul,Nat.reduceLeDiff,Nat.reduceLT,Int.reduceLE,Int.reduceLT,Nat.reduceBEq,Nat.reduceEqDiff,Bool.not_true,Bool.not_false,Bool.and_false,Bool.false_and,Bool.or_true,Bool.true_or,Bool.or_false,Bool.false_or,call_func,c_draw,c_loop,d0,d3,z0,getD_map' _ hpos,node_drop5,cellsOf,List.take_length]
      refine ⟨.slice .imm 6 ((((r.getD 0 default).kids) ++ r.drop 1).map nodeSV),?_,?_⟩
      · simp only [go_sem,imp_self,implies_true,reduceCtorEq,false_imp_iff,true_imp_iff,decide_true,decide_false,Int.toNat_natCast,Int.toNat_zero,Int.toNat_one,Int.natCast_nonneg,Int.le_refl,Nat.le_refl,Nat.reduceAdd,Nat.reduceMul,Nat.reduceLeDiff,Nat.reduceLT,Int.reduceLE,Int.reduceLT,Nat.reduceBEq,Nat.reduceEqDiff,Bool.not_true,Bool.not_false,Bool.and_false,Bool.false_and,Bool.or_true,Bool.true_or,Bool.or_false,Bool.false_or,call_func,c_draw,c_loop]
        exact ⟨app22 (by simp only [List.length_map,List.length_drop,List.length_replicate]; omega),by rw [← List.map_drop]; exact kept_app _ _ _ _⟩
      simp only [go_sem,imp_self,implies_true,reduceCtorEq,false_imp_iff,true_imp_iff,decide_true,decide_false,Int.toNat_natCast,Int.toNat_zero,Int.toNat_one,Int.natCast_nonneg,Int.le_refl,Nat.le_refl,Nat.reduceAdd,Nat.reduceMul,Nat.reduceLeDiff,Nat.reduceLT,Int.reduceLE,Int.reduceLT,Nat.reduceBEq,Nat.reduceEqDiff,Bool.not_true,Bool.not_false,Bool.and_false,Bool.false_and,Bool.or_true,Bool.true_or,Bool.or_false,Bool.false_or,call_func,c_draw,c_loop,FinK]
      exact ⟨ids_nodes _ _,_,SVle.refl _,h⟩
    · rw [if_neg (by rw [hs]; decide),hs] at h
      simp only [go_sem,imp_self,implies_true,reduceCtorEq,false_imp_iff,true_imp_iff,decide_true,decide_false,Int.toNat_natCast,Int.toNat_zero,Int.toNat_one,Int.natCast_nonneg,Int.le_refl,Nat.le_refl,Nat.reduceAdd,Nat.reduceMul,Nat.reduceLeDiff,Nat.reduceLT,Int.reduceLE,Int.reduceLT,Nat.reduceBEq,Nat.reduceEqDiff,Bool.not_true,Bool.not_false,Bool.and_false,Bool.false_and,Bool.or_true,Bool.true_or,Bool.or_false,Bool.false_or,call_func,c_draw,c_loop,FinK]
      exact ⟨ids_nodes0 _,_,SVle.tuple (.cons (SVle.nil _ _ _ (.inr rfl)) (.cons (SVle.refl _) .nil)),h⟩
  · simp only [hL,if_true,Bool.true_or] at h
    simp only [go_sem,imp_self,implies_true,reduceCtorEq,false_imp_iff,true_imp_iff,decide_true,decide_false,Int.toNat_natCast,Int.toNat_zero,Int.toNat_one,Int.natCast_nonneg,Int.le_refl,Nat.le_refl,Nat.reduceAdd,Nat.reduceMul,Nat.reduceLeDiff,Nat.reduceLT,Int.reduceLE,Int.reduceLT,Nat.reduceBEq,Nat.reduceEqDiff,Bool.not_true,Bool.not_false,Bool.and_false,Bool.false_and,Bool.or_true,Bool.true_or,Bool.or_false,Bool.false_or,call_func,c_draw,c_loop]
    refine awp_draw [] Try.mixed rfl ?_
    simp only [go_sem,imp_self,implies_true,reduceCtorEq,false_imp_iff,true_imp_iff,decide_true,decide_false,Int.toNat_natCast,Int.toNat_zero,Int.toNat_one,Int.natCast_nonneg,Int.le_refl,Nat.le_refl,Nat.reduceAdd,Nat.reduceMul,Nat.reduceLeDiff,Nat.reduceLT,Int.reduceLE,Int.reduceLT,Nat.reduceBEq,Nat.reduceEqDiff,Bool.not_true,Bool.not_false,Bool.and_false,Bool.false_and,Bool.or_true,Bool.true_or,Bool.or_false,Bool.false_or,call_func,c_draw,c_loop,d0,d3,getD_map' _ hpos,node_drop5,cellsOf]
    refine ⟨.slice .full 6 ((List.replicate head.kids.length anyN).map nodeSV),?_,?_⟩
    · simp only [go_sem,imp_self,implies_true,reduceCtorEq,false_imp_iff,true_imp_iff,decide_true,decide_false,Int.toNat_natCast,Int.toNat_zero,Int.toNat_one,Int.natCast_nonneg,Int.le_refl,Nat.le_refl,Nat.reduceAdd,Nat.reduceMul,Nat.reduceLeDiff,Nat.reduceLT,Int.reduceLE,Int.reduceLT,Nat.reduceBEq,Nat.reduceEqDiff,Bool.not_true,Bool.not_false,Bool.and_false,Bool.false_and,Bool.or_true,Bool.true_or,Bool.or_false,Bool.false_or,call_func,c_draw,c_loop]
      refine wild_c _ hk _ _ ⟨⟨[],by simp⟩,?_,.inl rfl⟩
      exact ids_slice (.inr rfl) (by have := ids_nodeL st.length (List.replicate head.kids.length anyN); rwa [nodeL_eq] at this)
    simp only [go_sem,imp_self,implies_true,reduceCtorEq,false_imp_iff,true_imp_iff,decide_true,decide_false,Int.toNat_natCast,Int.toNat_zero,Int.toNat_one,Int.natCast_nonneg,Int.le_refl,Nat.le_refl,Nat.reduceAdd,Nat.reduceMul,Nat.reduceLeDiff,Nat.reduceLT,Int.reduceLE,Int.reduceLT,Nat.reduceBEq,Nat.reduceEqDiff,Bool.not_true,Bool.not_false,Bool.and_false,Bool.false_and,Bool.or_true,Bool.true_or,Bool.or_false,Bool.false_or,call_func,c_draw,c_loop]
    refine ⟨.slice .imm 6 ((List.replicate head.kids.length anyN ++ r.drop 1).map nodeSV),?_,?_⟩
    · simp only [go_sem,imp_self,implies_true,reduceCtorEq,false_imp_iff,true_imp_iff,decide_true,decide_false,Int.toNat_natCast,Int.toNat_zero,Int.toNat_one,Int.natCast_nonneg,Int.le_refl,Nat.le_refl,Nat.reduceAdd,Nat.reduceMul,Nat.reduceLeDiff,Nat.reduceLT,Int.reduceLE,Int.reduceLT,Nat.reduceBEq,Nat.reduceEqDiff,Bool.not_true,Bool.not_false,Bool.and_false,Bool.false_and,Bool.or_true,Bool.true_or,Bool.or_false,Bool.false_or,call_func,c_draw,c_loop]
      exact ⟨app22 (by simp only [List.length_map,List.length_drop,List.length_replicate]; omega),by rw [← List.map_drop]; exact kept_app _ _ _ _⟩
    simp only [go_sem,imp_self,implies_true,reduceCtorEq,false_imp_iff,true_imp_iff,decide_true,decide_false,Int.toNat_natCast,Int.toNat_zero,Int.toNat_one,Int.natCast_nonneg,Int.le_refl,Nat.le_refl,Nat.reduceAdd,Nat.reduceMul,Nat.reduceLeDiff,Nat.reduceLT,Int.reduceLE,Int.reduceLT,Nat.reduceBEq,Nat.reduceEqDiff,Bool.not_true,Bool.not_false,Bool.and_false,Bool.false_and,Bool.or_true,Bool.true_or,Bool.or_false,Bool.false_or,call_func,c_draw,c_loop,FinK]
    exact ⟨ids_nodes _ _,_,SVle.refl _,h⟩
def underL (rows : List (List Nd)) (head : Nd) : List (List Nd) := (rows.filter fun r => belowB r head).map fun r => belowL r head
theorem under_snoc (rows : List (List Nd)) (head : Nd) {k : Nat} (h : k < rows.length) (b : Bool) (hb : belowB (rows.getD k default) head = b) :
    (underL (rows.take (k + 1)) head).map nodesSV = if b then (underL (rows.take k) head).map nodesSV ++ [nodesSV (belowL (rows.getD k default) head)] else (underL (rows.take k) head).map nodesSV := by
  rw [take_snoc' rows h]
  unfold underL
  rw [List.filter_append,List.map_append,List.map_append]
  generalize rows.getD k default = r at hb
  cases b <;> simp only [List.filter_cons,hb,if_true,Bool.false_eq_true,if_false,List.filter_nil,List.map_cons,List.map_nil,List.append_nil]
theorem underL_len (rows : List (List Nd)) (head : Nd) : (underL rows head).length ≤ rows.length := by
  unfold underL; rw [List.length_map]; exact List.length_filter_le _ _
theorem under_c (rows : List (List Nd)) (head : Nd) (hne : ∀ r ∈ rows,r ≠ []) (hb : rows.length ≤ 100000) (hk : head.kids.length ≤ 5) (hl : ∀ r ∈ rows,r.length ≤ 100000) (hk0 : ∀ r ∈ rows,(r.getD 0 default).kids.length ≤ 5)
    (K : SV → St → Prop) (st : St) (h : K (rowsSV (underL rows head)) st) : ACalls Try.prog 44 [rowsSV rows,nodeSV head] K st := by
  refine acalls_go_pure [] Try.func44 rfl Try.results44 Try.ntmps44 ?_
  simp only [go_sem,imp_self,implies_true,reduceCtorEq,false_imp_iff,true_imp_iff,decide_true,decide_false,Int.toNat_natCast,Int.toNat_zero,Int.toNat_one,Int.natCast_nonneg,Int.le_refl,Nat.le_refl,Nat.reduceAdd,Nat.reduceMul,Nat.reduceLeDiff,Nat.reduceLT,Int.reduceLE,Int.reduceLT,Nat.reduceBEq,Nat.reduceEqDiff,Bool.not_true,Bool.not_false,Bool.and_false,Bool.false_and,Bool.or_true,Bool.true_or,Bool.or_false,Bool.false_or,call_func,c_draw,c_loop]
  refine awp_own 5 1 0 rfl ?_
  simp only [go_sem]
  refine awp_rounds [] (fun m e s => ∃ k ver,k + m = rows.length ∧ e = [.any,.any,.any,.ref (nodeSV head).cells,.any,.slice (.own st.length ver) 1 ((underL (rows.take k) head).map nodesSV),.any,.any,.any,.any,.slice .imm 1 (rows.map nodesSV),
     .sc (.int .i64 rows.length),.sc (.int .i64 k),.any,.any,.any,.any,.any,.any,.any,.any,.any,.any,.any,.any,.any,.any,.any,.any] ∧ s = st ++ [.tok ver]) (n := rows.length) ?_ ⟨0,0,by omega,rfl,rfl⟩ ?_
  · repeat (first | exact leEnv_nil | refine leEnv_any _ ?_ | refine leEnv_same _ ?_)
  · rintro m e s ⟨k,ver,hkk,rfl,rfl⟩
    by_cases hlt : k < rows.length
    · have hr : (rows.getD k default) ∈ rows := by simp [List.getD_eq_getElem?_getD,hlt]
      have i1 : (k : Int) < (rows.length : Int) := by omega
      have hw := wrap_succ k (by omega)
      have hlen : (underL (rows.take k) head).length + 1 ≤ 1000000 := by
        have := underL_len (rows.take k) head
        simp at this
        omega
      simp only [go_sem,imp_self,implies_true,reduceCtorEq,false_imp_iff,true_imp_iff,decide_true,decide_false,Int.toNat_natCast,Int.toNat_zero,Int.toNat_one,Int.natCast_nonneg,Int.le_refl,Nat.le_refl,Nat.reduceAdd,Nat.reduceMul,Nat.reduceLeDiff,Nat.reduceLT,Int.reduceLE,Int.reduceLT,Nat.reduceBEq,Nat.reduceEqDiff,Bool.not_true,Bool.not_false,Bool.and_false,Bool.false_and,Bool.or_true,Bool.true_or,Bool.or_false,Bool.false_or,call_func,c_draw,c_loop,i1,hw,getD_map' _ hlt]
      refine below_c _ _ (hne _ hr) hk (hl _ hr) (hk0 _ hr) _ _ ?_
      have hc := under_snoc rows head hlt _ rfl
      generalize belowB (rows.getD k default) head = b at *
      simp only [go_sem,imp_self,implies_true,reduceCtorEq,false_imp_iff,true_imp_iff,decide_true,decide_false,Int.toNat_natCast,Int.toNat_zero,Int.toNat_one,Int.natCast_nonneg,Int.le_refl,Nat.le_refl,Nat.reduceAdd,Nat.reduceMul,Nat.reduceLeDiff,Nat.reduceLT,Int.reduceLE,Int.reduceLT,Nat.reduceBEq,Nat.reduceEqDiff,Bool.not_true,Bool.not_false,Bool.and_false,Bool.false_and,Bool.or_true,Bool.true_or,Bool.or_false,Bool.false_or,call_func,c_draw,c_loop]
      cases b
      · simp only [Bool.false_eq_true,if_false] at hc
        simp only [go_sem,imp_self,implies_true,reduceCtorEq,false_imp_iff,true_imp_iff,decide_true,decide_false,Int.toNat_natCast,Int.toNat_zero,Int.toNat_one,Int.natCast_nonneg,Int.le_refl,Nat.le_refl,Nat.reduceAdd,Nat.reduceMul,Nat.reduceLeDiff,Nat.reduceLT,Int.reduceLE,Int.reduceLT,Nat.reduceBEq,Nat.reduceEqDiff,Bool.not_true,Bool.not_false,Bool.and_false,Bool.false_and,Bool.or_true,Bool.true_or,Bool.or_false,Bool.false_or,call_func,c_draw,c_loop,← hc]
        refine ⟨m - 1,_,by omega,?_,k + 1,ver,by omega,rfl,rfl⟩
        repeat (first | exact leEnv_nil | refine leEnv_any _ ?_ | refine leEnv_same _ ?_)
      · simp only [if_true] at hc
        simp only [go_sem,imp_self,implies_true,reduceCtorEq,false_imp_iff,true_imp_iff,decide_true,decide_false,Int.toNat_natCast,Int.toNat_zero,Int.toNat_one,Int.natCast_nonneg,Int.le_refl,Nat.le_refl,Nat.reduceAdd,Nat.reduceMul,Nat.reduceLeDiff,Nat.reduceLT,Int.reduceLE,Int.reduceLT,Nat.reduceBEq,Nat.reduceEqDiff,Bool.not_true,Bool.not_false,Bool.and_false,Bool.false_and,Bool.or_true,Bool.true_or,Bool.or_false,Bool.false_or,call_func,c_draw,c_loop]
        refine ⟨app37 hlen,m - 1,_,by omega,?_,k + 1,ver + 1,by omega,by rw [hc],rfl⟩
        repeat (first | exact leEnv_nil | refine leEnv_any _ ?_ | refine leEnv_same _ ?_)
    · have d1 : ((k : Int) < (rows.length : Int)) = False := eq_false (by omega)
      obtain rfl : k = rows.length := by omega
      simp only [go_sem,imp_self,implies_true,reduceCtorEq,false_imp_iff,true_imp_iff,decide_true,decide_false,Int.toNat_natCast,Int.toNat_zero,Int.toNat_one,Int.natCast_nonneg,Int.le_refl,Nat.le_refl,Nat.reduceAdd,Nat.reduceMul,Nat.reduceLeDiff,Nat.reduceLT,Int.reduceLE,Int.reduceLT,Nat.reduceBEq,Nat.reduceEqDiff,Bool.not_true,Bool.not_false,Bool.and_false,Bool.false_and,Bool.or_true,Bool.true_or,Bool.or_false,Bool.false_or,call_func,c_draw,c_loop,d1,FinK,List.take_length]
      exact ⟨ids_rows _ _,h⟩
end Go.Proofs
set_option maxRecDepth 4000
namespace Go.Proofs
open Go Go.AL
def pText (name : ByteArray) : SV → Bool
  | .agg (_ :: .sc (.string t) :: _) => t.toList == name.toList
  | _ => false
theorem pText_node (name : ByteArray) (n : Nd) : pText name (nodeSV n) = (n.text.toList == name.toList) := by rw [nodeSV_eq]; rfl
theorem any_text (name : ByteArray) (l : List Nd) : (l.map nodeSV).any (pText name) = l.any fun x => x.text.toList == name.toList := by
  rw [List.any_map]; congr 1; funext x; exact pText_node name x
theorem means1_c (c : Cn) (heads : List Nd) (hb : heads.length ≤ 100000) (id : Nat) (K : SV → St → Prop) (st : St) (hi : isObj st id) (ho : objAt st id = [nodesSV heads])
    (h : K (.sc (.bool (!(heads.any fun x => x.text.toList == c.name.toList)))) st) : ACalls Try.prog 48 [conSV c,.ptr id 0] K st := by
  refine acalls_go_pure [] Try.func48 rfl Try.results48 Try.ntmps48 ?_
  have hi' : isObj st id = True := eq_true hi
  simp only [go_sem,imp_self,implies_true,reduceCtorEq,false_imp_iff,true_imp_iff,decide_true,decide_false,Int.toNat_natCast,Int.toNat_zero,Int.toNat_one,Int.natCast_nonneg,Int.le_refl,Nat.le_refl,Nat.reduceAdd,Nat.reduceMul,Nat.reduceLeDiff,Nat.reduceLT,Int.reduceLE,Int.reduceLT,Nat.reduceBEq,Nat.reduceEqDiff,Bool.not_true,Bool.not_false,Bool.and_false,Bool.false_and,Bool.or_true,Bool.true_or,Bool.or_false,Bool.false_or,call_func,c_draw,c_loop,hi',ho]
  refine contains26_c _ _ (pText c.name) 49 _ Try.abody49 (fun x hx => ?_) (by simp; omega) _ (fun x hx K h => ?_) _ ?_
  · obtain ⟨n,_,rfl⟩ := List.mem_map.1 hx
    exact cellsOf_node n Try.aagg27 Try.asize27
  · obtain ⟨n,_,rfl⟩ := List.mem_map.1 hx
    rw [pText_node] at h
    exact means11_c n c K _ h
  rw [any_text]
  simp only [go_sem,imp_self,implies_true,reduceCtorEq,false_imp_iff,true_imp_iff,decide_true,decide_false,Int.toNat_natCast,Int.toNat_zero,Int.toNat_one,Int.natCast_nonneg,Int.le_refl,Nat.le_refl,Nat.reduceAdd,Nat.reduceMul,Nat.reduceLeDiff,Nat.reduceLT,Int.reduceLE,Int.reduceLT,Nat.reduceBEq,Nat.reduceEqDiff,Bool.not_true,Bool.not_false,Bool.and_false,Bool.false_and,Bool.or_true,Bool.true_or,Bool.or_false,Bool.false_or,call_func,c_draw,c_loop,FinK]
  exact h
mutual
def okB (cons : List Cn) : Nd → Bool
  | .mk k t num a ns ks => plainB (.mk k t num a ns ks) && (k == 24 || k == 4 || k == 1 || (k == 5 && (match findC cons t with | some c => c.arity == (ks.length : Int) | none => false) && okL cons ks))
def okL (cons : List Cn) : List Nd → Bool
  | [] => true
  | n :: r => okB cons n && okL cons r
end
mutual
def nl : Nd → Nat
  | .mk k _ _ _ _ ks => if k == 24 || k == 4 then 0 else 1 + nlL ks
def nlL : List Nd → Nat
  | [] => 0
  | n :: r => nl n + nlL r
end
theorem okL_all {cons : List Cn} : ∀ {l : List Nd},okL cons l = true ↔ ∀ n ∈ l,okB cons n = true
  | [] => by simp [okL]
  | n :: r => by simp [okL,okL_all (l := r)]
theorem okB_eq (cons : List Cn) (n : Nd) : okB cons n = (plainB n && (n.kind == 24 || n.kind == 4 || n.kind == 1 || (n.kind == 5 && (match findC cons n.text with | some c => c.arity == (n.kids.length : Int) | none => false) && okL cons n.kids))) := by
  cases n; rw [okB]; rfl
theorem nl_eq (n : Nd) : nl n = if looseB n then 0 else 1 + nlL n.kids := by cases n; rw [nl]; rfl
theorem nlL_append (a b : List Nd) : nlL (a ++ b) = nlL a + nlL b := by
  induction a with
  | nil => simp [nlL]
  | cons x r ih => simp only [List.cons_append,nlL,ih]; omega
theorem nlL_anys (n : Nat) : nlL (List.replicate n anyN) = 0 := by
  induction n with
  | zero => rfl
  | succ n ih => rw [List.replicate_succ,nlL,ih]; rfl
structure Good (cons : List Cn) (W : Nat) (rows : List (List Nd)) : Prop where
  len : rows.length ≤ 100000
  wide : ∀ r ∈ rows,r.length = W
  ok : ∀ r ∈ rows,okL cons r = true
def Low (cons : List Cn) : Prop := cons.length ≤ 100000 ∧ ∀ c ∈ cons,0 ≤ c.arity ∧ c.arity ≤ 4
theorem plain_kids {n : Nd} (h : plainB n = true) (hk : (n.kind == 5) = false) : n.kids = [] := by
  unfold plainB at h
  simp only [hk,Bool.or_false,Bool.and_eq_true] at h
  obtain ⟨_,h⟩ := h
  have : (n.kids.length : Int) = 0 := by simpa using h
  exact List.eq_nil_of_length_eq_zero (by omega)
theorem ok_plain {cons : List Cn} {n : Nd} (h : okB cons n = true) : plainB n = true := by
  rw [okB_eq,Bool.and_eq_true] at h; exact h.1
theorem ok_con {cons : List Cn} {n : Nd} (h : okB cons n = true) : ((n.kind == 5) = false ∧ n.kids = []) ∨
    ((n.kind == 5) = true ∧ ∃ c,findC cons n.text = some c ∧ c.arity = (n.kids.length : Int) ∧ okL cons n.kids = true) := by
  have hp := ok_plain h
  rw [okB_eq,Bool.and_eq_true] at h
  cases hk : (n.kind == 5) with
  | false => exact .inl ⟨rfl,plain_kids hp hk⟩
  | true =>
    refine .inr ⟨rfl,?_⟩
    have e : n.kind = 5 := by simpa using hk
    have h2 := h.2
    rw [e] at h2
    have : ((match findC cons n.text with | some c => c.arity == (n.kids.length : Int) | none => false) && okL cons n.kids) = true := by simpa using h2
    simp only [Bool.and_eq_true] at this
    obtain ⟨h3,h4⟩ := this
    split at h3
    · rename_i c hc; exact ⟨c,hc,by simpa using h3,h4⟩
    · cases h3
theorem findC_mem {cons : List Cn} {s : ByteArray} {c : Cn} (h : findC cons s = some c) : c ∈ cons := List.mem_of_find?_eq_some h
theorem ok_len {cons : List Cn} (hlow : Low cons) {n : Nd} (h : okB cons n = true) : n.kids.length ≤ 4 := by
  rcases ok_con h with ⟨_,h⟩ | ⟨_,c,h1,h2,_⟩
  · rw [h]; simp
  · have := (hlow.2 c (findC_mem h1)).2; omega
theorem ok_sub {cons : List Cn} {n : Nd} (h : okB cons n = true) : okL cons n.kids = true := by
  rcases ok_con h with ⟨_,h⟩ | ⟨_,c,_,_,h⟩
  · rw [h]; rfl
  · exact h
theorem findC_congr {cons : List Cn} {a b : ByteArray} (h : a.toList = b.toList) : findC cons a = findC cons b := by
  unfold findC; rw [h]
theorem same_spec {a b : Nd} (h : sameB a b = true) : a.kind = b.kind ∧ a.text.toList = b.text.toList ∧ a.number = b.number := by
  unfold sameB at h
  simp only [Bool.and_eq_true,beq_iff_eq] at h
  exact ⟨h.1.1,h.1.2,h.2⟩
theorem same_len {cons : List Cn} {a b : Nd} (ha : okB cons a = true) (hb : okB cons b = true) (h : sameB a b = true) : a.kids.length = b.kids.length := by
  obtain ⟨h1,h2,_⟩ := same_spec h
  rcases ok_con ha with ⟨k1,e1⟩ | ⟨k1,c,e1,e2,_⟩ <;> rcases ok_con hb with ⟨k2,f1⟩ | ⟨k2,d,f1,f2,_⟩
  · rw [e1,f1]
  · rw [h1,k2] at k1; cases k1
  · rw [h1,k2] at k1; cases k1
  · rw [findC_congr h2,f1] at e1
    cases e1
    omega
theorem plain_any : plainB anyN = true := by simp [plainB,anyN,Nd.kind,Nd.text,Nd.names,Nd.number,Nd.kids]
theorem ok_any (cons : List Cn) : okB cons anyN = true := by rw [okB_eq,plain_any]; rfl
theorem okL_anys (cons : List Cn) (n : Nat) : okL cons (List.replicate n anyN) = true := by
  rw [okL_all]; intro x hx; rw [List.eq_of_mem_replicate hx]; exact ok_any cons
theorem okL_append {cons : List Cn} {a b : List Nd} (ha : okL cons a = true) (hb : okL cons b = true) : okL cons (a ++ b) = true := by
  rw [okL_all] at *; intro x hx; rcases List.mem_append.1 hx with h | h; exact ha x h; exact hb x h
theorem okL_drop {cons : List Cn} {a : List Nd} (ha : okL cons a = true) (k : Nat) : okL cons (a.drop k) = true := by
  rw [okL_all] at *; intro x hx; exact ha x (List.mem_of_mem_drop hx)
theorem getD0_mem {r : List Nd} (h : r ≠ []) : r.getD 0 default ∈ r := by
  cases r with
  | nil => exact absurd rfl h
  | cons x r => simp
theorem head_split {r : List Nd} (h : r ≠ []) : r = r.getD 0 default :: r.drop 1 := by
  cases r with
  | nil => exact absurd rfl h
  | cons x r => simp
theorem Good.ne {cons : List Cn} {W : Nat} {rows : List (List Nd)} (h : Good cons (W + 1) rows) : ∀ r ∈ rows,r ≠ [] := by
  rintro r hr rfl
  have := h.wide _ hr
  simp at this
theorem Good.head {cons : List Cn} {W : Nat} {rows : List (List Nd)} (h : Good cons (W + 1) rows) {r : List Nd} (hr : r ∈ rows) : okB cons (r.getD 0 default) = true :=
  okL_all.1 (h.ok r hr) _ (getD0_mem (h.ne r hr))
theorem column_mem {rows : List (List Nd)} {p : Nd} (h : p ∈ columnL rows) : ∃ r ∈ rows,r.getD 0 default = p ∧ looseB p = false := by
  unfold columnL at h
  obtain ⟨r,hr,rfl⟩ := List.mem_map.1 h
  obtain ⟨h1,h2⟩ := List.mem_filter.1 hr
  exact ⟨r,h1,rfl,by simpa using h2⟩
theorem below_ok {cons : List Cn} {W : Nat} {r : List Nd} {head : Nd} (hw : r.length = W + 1) (ho : okL cons r = true) (hh : okB cons head = true) (hb : belowB r head = true) :
    (belowL r head).length = head.kids.length + W ∧ okL cons (belowL r head) = true := by
  have hne : r ≠ [] := by rintro rfl; simp at hw
  have h0 := okL_all.1 ho _ (getD0_mem hne)
  unfold belowL
  cases hl : looseB (r.getD 0 default) with
  | true => exact ⟨by simp [hw],okL_append (okL_anys _ _) (okL_drop ho 1)⟩
  | false =>
    unfold belowB at hb
    rw [hl,Bool.false_or] at hb
    rw [if_neg (by decide),if_pos hb]
    exact ⟨by have := same_len h0 hh hb; simp only [List.length_append,List.length_drop,hw,this]; omega,okL_append (ok_sub h0) (okL_drop ho 1)⟩
theorem good_under {cons : List Cn} {W : Nat} {rows : List (List Nd)} (h : Good cons (W + 1) rows) {head : Nd} (hh : okB cons head = true) : Good cons (head.kids.length + W) (underL rows head) := by
  refine ⟨Nat.le_trans (underL_len rows head) h.len,fun r hr => ?_,fun r hr => ?_⟩ <;>
    (unfold underL at hr; obtain ⟨x,hx,rfl⟩ := List.mem_map.1 hr; obtain ⟨h1,h2⟩ := List.mem_filter.1 hx)
  · exact (below_ok (h.wide x h1) (h.ok x h1) hh h2).1
  · exact (below_ok (h.wide x h1) (h.ok x h1) hh h2).2
theorem good_others {cons : List Cn} {W : Nat} {rows : List (List Nd)} (h : Good cons (W + 1) rows) : Good cons W (othersL rows) := by
  refine ⟨Nat.le_trans (othersL_len rows) h.len,fun r hr => ?_,fun r hr => ?_⟩ <;>
    (unfold othersL at hr; obtain ⟨x,hx,rfl⟩ := List.mem_map.1 hr; obtain ⟨h1,h2⟩ := List.mem_filter.1 hx)
  · have := h.wide x h1; simp [this]
  · exact okL_drop (h.ok x h1) 1
def nlR : List (List Nd) → Nat
  | [] => 0
  | r :: l => nlL r + nlR l
theorem nlL_split {r : List Nd} (h : r ≠ []) : nlL r = nl (r.getD 0 default) + nlL (r.drop 1) := by
  have := head_split h
  conv => lhs; rw [this]
  rfl
theorem below_nl {r : List Nd} {head : Nd} (hne : r ≠ []) : nlL (belowL r head) ≤ nlL r ∧ (looseB (r.getD 0 default) = false → nlL (belowL r head) + 1 ≤ nlL r) := by
  have hs := nlL_split hne
  have he := nl_eq (r.getD 0 default)
  unfold belowL
  cases hl : looseB (r.getD 0 default) with
  | true =>
    rw [if_pos rfl,nlL_append,nlL_anys]
    exact ⟨by omega,fun h => by cases h⟩
  | false =>
    rw [hl,if_neg (by decide)] at he
    rw [if_neg (by decide)]
    split
    · rw [nlL_append]; exact ⟨by omega,fun _ => by omega⟩
    · exact ⟨Nat.zero_le _,fun _ => by simp only [nlL]; omega⟩
theorem under_cons (r : List Nd) (rows : List (List Nd)) (head : Nd) : underL (r :: rows) head = if belowB r head then belowL r head :: underL rows head else underL rows head := by
  unfold underL
  rw [List.filter_cons]
  split <;> rfl
theorem others_cons (r : List Nd) (rows : List (List Nd)) : othersL (r :: rows) = if looseB (r.getD 0 default) then r.drop 1 :: othersL rows else othersL rows := by
  unfold othersL
  rw [List.filter_cons]
  split <;> rfl
theorem under_nl {head : Nd} : ∀ {rows : List (List Nd)},(∀ r ∈ rows,r ≠ []) → nlR (underL rows head) ≤ nlR rows ∧ ((∃ r ∈ rows,looseB (r.getD 0 default) = false) → nlR (underL rows head) + 1 ≤ nlR rows)
  | [],_ => ⟨Nat.le_refl _,fun ⟨r,hr,_⟩ => by cases hr⟩
  | r :: rows,hne => by
    obtain ⟨h1,h2⟩ := below_nl (head := head) (hne r List.mem_cons_self)
    obtain ⟨i1,i2⟩ := under_nl (head := head) (rows := rows) fun x hx => hne x (List.mem_cons_of_mem _ hx)
    have hpos : looseB (r.getD 0 default) = false → 1 ≤ nlL r := by
      intro hl
      rw [nlL_split (hne r List.mem_cons_self),nl_eq,hl,if_neg (by decide)]; omega
    rw [under_cons]
    refine ⟨?_,?_⟩
    · split <;> simp only [nlR] <;> omega
    · rintro ⟨x,hx,hxl⟩
      cases hx with
      | head =>
        have := h2 hxl
        have := hpos hxl
        split <;> simp only [nlR] <;> omega
      | tail _ hx =>
        have := i2 ⟨x,hx,hxl⟩
        split <;> simp only [nlR] <;> omega
theorem others_nl : ∀ {rows : List (List Nd)},(∀ r ∈ rows,r ≠ []) → nlR (othersL rows) ≤ nlR rows
  | [],_ => Nat.le_refl _
  | r :: rows,hne => by
    have i1 := others_nl (rows := rows) fun x hx => hne x (List.mem_cons_of_mem _ hx)
    have hs := nlL_split (hne r List.mem_cons_self)
    rw [others_cons]
    split <;> simp only [nlR] <;> omega
end Go.Proofs
