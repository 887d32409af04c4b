/- DeleteFunc. -/
import Derived.Test.YtcanmhognofheaaM2
set_option linter.all false
set_option linter.unusedSimpArgs false
set_option maxRecDepth 4000
namespace Go.Proofs
open Go Go.AL
theorem flatC_set (X : List Cn) (v : Cn) (t : List SV) {i : Nat} (h : i < X.length) : (flatC X ++ t).take (i * 5) ++ ((conSV v).cells ++ (flatC X ++ t).drop (i * 5 + 5)) = flatC (X.set i v) ++ t := by
  have e : X = X.take i ++ X[i] :: X.drop (i + 1) := by simp
  have hk : (flatC (X.take i)).length = i * 5 := by rw [flatC_len,List.length_take]; omega
  have hc : ∀ c,flatC (c :: X.drop (i + 1)) = (conSV c).cells ++ flatC (X.drop (i + 1)) := fun _ => rfl
  have hx : flatC X = flatC (X.take i) ++ ((conSV X[i]).cells ++ flatC (X.drop (i + 1))) := by rw [← hc,← flatC_append,← e]
  have hs : flatC (X.set i v) = flatC (X.take i) ++ ((conSV v).cells ++ flatC (X.drop (i + 1))) := by rw [← hc,← flatC_append,List.set_eq_take_append_cons_drop,if_pos h]
  rw [hs,hx]
  simp only [List.append_assoc]
  rw [← hk,List.take_left,← List.drop_drop,List.drop_left]
  have : (5 : Nat) = (conSV X[i]).cells.length := rfl
  rw [this,List.drop_left]
theorem delete_c (cons : List Cn) (cap : Nat) (q : Cn → Bool) (p : SV → Bool) (hpq : ∀ c,p (conSV c) = q c) (g : FuncId) (caps : List SV) (hg : aBody Try.prog g = true) (hb : cons.length ≤ 100000) (hcap : cons.length ≤ cap) (st : St) (t : List SV)
    (hp : ∀ x ∈ cons,∀ (s : St) (K : SV → St → Prop),K (.sc (.bool (q x))) s → ACalls Try.prog g ([conSV x] ++ caps) K s) (K : SV → St → Prop)
    (h : ∀ cap' t' ex,(cons.filter fun c => !q c).length ≤ cap' → K (.slc st.length 5 0 (cons.filter fun c => !q c).length cap') (st ++ (.cells (flatC (cons.filter fun c => !q c) ++ t') :: ex))) :
    ACalls Try.prog 64 [.slc st.length 5 0 cons.length cap,.func (.func g) [] caps] K (st ++ [.cells (flatC cons ++ t)]) := by
  refine acalls_go (M := []) Try.func64 rfl Try.results64 Try.ntmps64 ?_
  simp only [go_sem,imp_self,implies_true,reduceCtorEq,false_imp_iff,true_imp_iff,decide_true,decide_false,Int.toNat_natCast,Int.toNat_zero,Int.toNat_one,Int.natCast_nonneg,Int.le_refl,Nat.le_refl,Nat.reduceAdd,Nat.reduceMul,Nat.reduceLeDiff,Nat.reduceLT,Int.reduceLE,Int.reduceLT,Nat.reduceBEq,Nat.reduceEqDiff,Bool.not_true,Bool.not_false,Bool.and_false,Bool.false_and,Bool.or_true,Bool.true_or,Bool.or_false,Bool.false_or,call_func,c_draw,c_loop]
  refine index40o_c _ _ _ p g _ hg (by omega) _ t (by simp only [go_sem]) (by simp only [go_sem]) (fun x hx K h => hp x hx _ _ (by rw [← hpq]; exact h)) _ ?_
  rw [idxOf_map q _ hpq]
  cases hf : cons.findIdx? q with
  | none =>
    have e : (cons.filter fun c => !q c) = cons := by
      rw [List.findIdx?_eq_none_iff] at hf
      exact List.filter_eq_self.2 fun x hx => by rw [hf x hx]; rfl
    rw [e] at h
    have d1 : (((-1 : Int) == -1)) = true := rfl
    simp only [go_sem,imp_self,implies_true,reduceCtorEq,false_imp_iff,true_imp_iff,decide_true,decide_false,Int.toNat_natCast,Int.toNat_zero,Int.toNat_one,Int.natCast_nonneg,Int.le_refl,Nat.le_refl,Nat.reduceAdd,Nat.reduceMul,Nat.reduceLeDiff,Nat.reduceLT,Int.reduceLE,Int.reduceLT,Nat.reduceBEq,Nat.reduceEqDiff,Bool.not_true,Bool.not_false,Bool.and_false,Bool.false_and,Bool.or_true,Bool.true_or,Bool.or_false,Bool.false_or,call_func,c_draw,c_loop,d1]
    exact h _ _ _ hcap
  | some i0 =>
    rw [List.findIdx?_eq_some_iff_getElem] at hf
    obtain ⟨hi,hy,hno⟩ := hf
    have d1 : (((i0 : Int) == -1)) = false := by simp
    have hw := wrap_succ i0 (by omega)
    simp only [go_sem,imp_self,implies_true,reduceCtorEq,false_imp_iff,true_imp_iff,decide_true,decide_false,Int.toNat_natCast,Int.toNat_zero,Int.toNat_one,Int.natCast_nonneg,Int.le_refl,Nat.le_refl,Nat.reduceAdd,Nat.reduceMul,Nat.reduceLeDiff,Nat.reduceLT,Int.reduceLE,Int.reduceLT,Nat.reduceBEq,Nat.reduceEqDiff,Bool.not_true,Bool.not_false,Bool.and_false,Bool.false_and,Bool.or_true,Bool.true_or,Bool.or_false,Bool.false_or,call_func,c_draw,c_loop,d1,hw]
    refine awp_rounds [] (fun m e s => ∃ (i j : Nat) (X : List Cn) (ex : St),j + m = cons.length ∧ i ≤ j ∧ X.length = cons.length ∧ X.take i = (cons.take j).filter (fun c => !q c) ∧ X.drop j = cons.drop j ∧
       e = [.slc st.length 5 0 cons.length cap,.func (.func g) [] caps,.any,.any,.any,.sc (.int .i64 i),.sc (.int .i64 j),.any,.any,.any,.any,.any,.any,.any,.any,.any,.any,.any,.any,.any,.any,.any,.any,.any,.any,.any,.any,.any,.any,.any,.any,.any,.any,.any,.any,.any,.any,.any,.any,.any,.any,.any] ∧ s = st ++ (.cells (flatC X ++ t) :: ex)) (n := cons.length - (i0 + 1)) ?_
       ⟨i0,i0 + 1,cons,[],by omega,by omega,rfl,?_,rfl,rfl,rfl⟩ ?_
    · repeat (first | exact leEnv_nil | refine leEnv_any _ ?_ | refine leEnv_same _ ?_)
    · rw [List.take_succ_eq_append_getElem hi,List.filter_append,List.filter_eq_self.2]
      · simp [hy]
      · intro x hx
        obtain ⟨k,hk,rfl⟩ := List.mem_take_iff_getElem.1 hx
        have := hno k (by omega)
        simpa using this
    · rintro m e s ⟨i,j,X,ex,hj,hij,hX,hA,hB,rfl,rfl⟩
      by_cases hlt : j < cons.length
      · have i1 : (j : Int) < (cons.length : Int) := by omega
        have hwj := wrap_succ j (by omega)
        have hcell := flatC_cell X t (k := j) (by omega)
        have hsame : X.getD j default = cons.getD j default := by
          have := congrArg (fun l => l.getD 0 default) hB
          simpa [List.getD_eq_getElem?_getD] using this
        have hmem : cons.getD j default ∈ cons := by simp [List.getD_eq_getElem?_getD,hlt]
        rw [hsame] at hcell
        have hfil : (cons.take (j + 1)).filter (fun c => !q c) = (cons.take j).filter (fun c => !q c) ++ (if q (cons.getD j default) then [] else [cons.getD j default]) := by
          rw [take_snoc' cons hlt,List.filter_append]
          generalize cons.getD j default = v
          cases hq : q v <;> simp [hq]
        have hBn : ∀ Y : List Cn,Y.drop j = cons.drop j → Y.drop (j + 1) = cons.drop (j + 1) := fun Y hY => by
          rw [← List.drop_drop,← List.drop_drop,hY]
        simp only [go_sem,imp_self,implies_true,reduceCtorEq,false_imp_iff,true_imp_iff,decide_true,decide_false,Int.toNat_natCast,Int.toNat_zero,Int.toNat_one,Int.natCast_nonneg,Int.le_refl,Nat.le_refl,Nat.reduceAdd,Nat.reduceMul,Nat.reduceLeDiff,Nat.reduceLT,Int.reduceLE,Int.reduceLT,Nat.reduceBEq,Nat.reduceEqDiff,Bool.not_true,Bool.not_false,Bool.and_false,Bool.false_and,Bool.or_true,Bool.true_or,Bool.or_false,Bool.false_or,call_func,c_draw,c_loop,i1,hwj,hg,hcell]
        refine hp _ hmem _ _ ?_
        generalize cons.getD j default = v at hfil hcell hmem hsame ⊢
        cases hq : q v
        · have i2 : (i : Int) < (cons.length : Int) := by omega
          have hwi := wrap_succ i (by omega)
          have hle : i * 5 + 5 ≤ (flatC X ++ t).length := by rw [List.length_append,flatC_len]; omega
          have hset := flatC_set X v t (i := i) (by omega)
          have hcv := cellsOf_con (P := Try.prog) (t := 41) v Try.aagg41 Try.asize41
          simp only [hq,Bool.false_eq_true,if_false] at hfil
          simp only [go_sem,imp_self,implies_true,reduceCtorEq,false_imp_iff,true_imp_iff,decide_true,decide_false,Int.toNat_natCast,Int.toNat_zero,Int.toNat_one,Int.natCast_nonneg,Int.le_refl,Nat.le_refl,Nat.reduceAdd,Nat.reduceMul,Nat.reduceLeDiff,Nat.reduceLT,Int.reduceLE,Int.reduceLT,Nat.reduceBEq,Nat.reduceEqDiff,Bool.not_true,Bool.not_false,Bool.and_false,Bool.false_and,Bool.or_true,Bool.true_or,Bool.or_false,Bool.false_or,call_func,c_draw,c_loop,i2,hwi,hle,hset,hcv]
          refine ⟨by simpa [List.length_append,flatC_len] using hle,m - 1,_,by omega,?_,i + 1,j + 1,X.set i v,_,by omega,by omega,by simpa using hX,?_,?_,rfl,rfl⟩
          · repeat (first | exact leEnv_nil | refine leEnv_any _ ?_ | refine leEnv_same _ ?_)
          · rw [hfil,← hA,List.take_succ_eq_append_getElem (by simp; omega),List.getElem_set_self,List.take_set,List.set_eq_of_length_le (by simp; omega)]
          · rw [List.drop_set_of_lt (by omega)]; exact hBn _ hB
        · simp only [hq,if_true,List.append_nil] at hfil
          simp only [go_sem,imp_self,implies_true,reduceCtorEq,false_imp_iff,true_imp_iff,decide_true,decide_false,Int.toNat_natCast,Int.toNat_zero,Int.toNat_one,Int.natCast_nonneg,Int.le_refl,Nat.le_refl,Nat.reduceAdd,Nat.reduceMul,Nat.reduceLeDiff,Nat.reduceLT,Int.reduceLE,Int.reduceLT,Nat.reduceBEq,Nat.reduceEqDiff,Bool.not_true,Bool.not_false,Bool.and_false,Bool.false_and,Bool.or_true,Bool.true_or,Bool.or_false,Bool.false_or,call_func,c_draw,c_loop]
          refine ⟨m - 1,_,by omega,?_,i,j + 1,X,_,by omega,by omega,hX,by rw [hfil,hA],hBn _ hB,rfl,rfl⟩
          repeat (first | exact leEnv_nil | refine leEnv_any _ ?_ | refine leEnv_same _ ?_)
      · obtain rfl : j = cons.length := by omega
        have d1 : ((cons.length : Int) < (cons.length : Int)) = False := eq_false (by omega)
        simp only [go_sem,imp_self,implies_true,reduceCtorEq,false_imp_iff,true_imp_iff,decide_true,decide_false,Int.toNat_natCast,Int.toNat_zero,Int.toNat_one,Int.natCast_nonneg,Int.le_refl,Nat.le_refl,Nat.reduceAdd,Nat.reduceMul,Nat.reduceLeDiff,Nat.reduceLT,Int.reduceLE,Int.reduceLT,Nat.reduceBEq,Nat.reduceEqDiff,Bool.not_true,Bool.not_false,Bool.and_false,Bool.false_and,Bool.or_true,Bool.true_or,Bool.or_false,Bool.false_or,call_func,c_draw,c_loop,d1]
        have hkept : X.take i = cons.filter (fun c => !q c) := by rw [hA,List.take_length]
        have hki : (cons.filter (fun c => !q c)).length = i := by rw [← hkept,List.length_take]; omega
        have hzl : (zerosOf Try.prog 72).length = 5 := by rw [zeros_of Try.aelem72 Try.azero41]; rfl
        have hza : (zerosOf Try.prog 72).all cellOk = true := by rw [zeros_of Try.aelem72 Try.azero41]; rfl
        have hfl : flatC X = flatC (cons.filter fun c => !q c) ++ flatC (X.drop i) := by rw [← hkept,← flatC_append,List.take_append_drop]
        refine ⟨⟨by omega,by omega⟩,?_,hza,⟨by omega,by omega⟩,?_⟩
        · rw [hzl,flatC_len,hX]; split <;> omega
        · have hz : ∀ (S : St) (d : Decidable (cap = 0)),K (.slc st.length 5 0 i cap) S → K (.slc st.length 5 (@ite Nat (cap = 0) d 0 0) i cap) S := fun S d => by cases d <;> exact id
          simp only [Nat.sub_zero]
          refine hz _ _ ?_
          by_cases h0 : cons.length - i = 0
          · rw [if_pos h0,hfl,List.append_assoc,← hki]
            exact h _ _ _ (by omega)
          · have h1 : cap ≠ i := by omega
            have h2 : (flatC X ++ t).take (i * 5) = flatC (cons.filter fun c => !q c) := by
              rw [hfl,List.append_assoc,← hki,← flatC_len,List.take_left]
            rw [if_neg h0,if_neg h1,h2]
            have := h cap (zeroL (zerosOf Try.prog 72) (cons.length - i) ++ (flatC X ++ t).drop (i * 5 + (zeroL (zerosOf Try.prog 72) (cons.length - i)).length)) ex (by omega)
            rw [hki] at this
            exact this
end Go.Proofs
set_option maxRecDepth 4000
namespace Go.Proofs
open Go Go.AL
def ofL (cons : List Cn) (s : ByteArray) : List Cn := cons.filter fun c => c.of_.toList == s.toList
def qOf (s : ByteArray) (c : Cn) : Bool := !(c.of_.toList == s.toList)
def pOf (s : ByteArray) : SV → Bool
  | .agg (_ :: .sc (.string o) :: _) => !(o.toList == s.toList)
  | _ => false
theorem chunks_flatC (l : List Cn) (t : List SV) : chunks true 5 0 l.length (flatC l ++ t) = l.map conSV := by
  unfold chunks
  refine List.ext_getElem (by simp) fun i h1 h2 => ?_
  have hi : i < l.length := by simpa using h2
  have := flatC_at l t hi
  simp only [List.getElem_map,List.getElem_range,chunk,if_true,Nat.zero_add,this]
  rw [List.getD_eq_getElem?_getD,List.getElem?_eq_getElem hi]
  rfl
theorem ids_flatC (n : Nat) (l : List Cn) : ∀ y ∈ flatC l,Ids n y := by
  intro y hy
  obtain ⟨x,hx,hy⟩ := List.mem_flatMap.1 hy
  obtain ⟨c,_,rfl⟩ := List.mem_map.1 hx
  have := (ids_con n c).mpr trivial
  unfold conSV at this
  rw [ids_agg] at this
  exact this y hy
theorem of_c (cons : List Cn) (hne : cons ≠ []) (hb : cons.length ≤ 100000) (s : ByteArray) (K : SV → St → Prop) (st : St) (h : K (consSV (ofL cons s)) st) :
    ACalls Try.prog 34 [consSV cons,.sc (.string s)] K st := by
  refine acalls_freeze true ?_
  refine acalls_go (M := []) Try.func34 rfl Try.results34 Try.ntmps34 ?_
  simp only [go_sem,imp_self,implies_true,reduceCtorEq,false_imp_iff,true_imp_iff,decide_true,decide_false,Int.toNat_natCast,Int.toNat_zero,Int.toNat_one,Int.natCast_nonneg,Int.le_refl,Nat.le_refl,Nat.reduceAdd,Nat.reduceMul,Nat.reduceLeDiff,Nat.reduceLT,Int.reduceLE,Int.reduceLT,Nat.reduceBEq,Nat.reduceEqDiff,Bool.not_true,Bool.not_false,Bool.and_false,Bool.false_and,Bool.or_true,Bool.true_or,Bool.or_false,Bool.false_or,call_func,c_draw,c_loop]
  refine clone_c cons hne hb _ _ fun cap ex hcap => ?_
  refine delete_c cons cap (qOf s) (pOf s) (fun c => rfl) 66 _ Try.abody66 hb hcap _ _ (fun x hx s' K h => of1_c x s K s' h) _ fun cap' t' ex' hc => ?_
  have e : (cons.filter fun c => !qOf s c) = ofL cons s := by unfold ofL qOf; simp
  rw [e] at hc ⊢
  refine ⟨_,_,_,_,_,_,flatC (ofL cons s) ++ t',rfl,rfl,Nat.le_refl _,by simp,?_,?_,?_⟩
  · rw [List.length_append,flatC_len]; omega
  · intro y hy
    rw [List.drop_zero,← flatC_len,List.take_left] at hy
    exact ids_flatC _ _ y hy
  · rw [chunks_flatC]; exact h
end Go.Proofs
