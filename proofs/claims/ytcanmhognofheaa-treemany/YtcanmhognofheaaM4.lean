/- sound. -/
import Derived.Test.YtcanmhognofheaaM3
import Derived.Test.YtcanmhognofheaaA9
set_option linter.all false
set_option linter.unusedSimpArgs false
set_option maxRecDepth 4000
namespace Go.Proofs
open Go Go.AL
theorem sound1o_c (c d : Cn) (id : Nat) (K : SV → St → Prop) (st : St) (hi : isObj st id) (ho : objAt st id = (conSV d).cells) (h : K (.sc (.bool (clash c d))) st) : ACalls Try.prog 36 [conSV c,.ptr id 0] K st := by
  refine acalls_go_pure [] Try.func36 rfl Try.results36 Try.ntmps36 ?_
  unfold clash at h
  have hi' : isObj st id = True := eq_true hi
  have ho' : objAt st id = [.sc (.string d.name),.sc (.string d.of_),.sc (.int .i64 d.tag),.sc (.int .i64 d.arity),.sc (.int .i64 d.many)] := ho
  clear ho
  simp only [go_sem,imp_self,implies_true,reduceCtorEq,false_imp_iff,true_imp_iff,decide_true,decide_false,Int.toNat_natCast,Int.toNat_zero,Int.toNat_one,Int.natCast_nonneg,Int.le_refl,Nat.le_refl,Nat.reduceAdd,Nat.reduceMul,Nat.reduceLeDiff,Nat.reduceLT,Int.reduceLE,Int.reduceLT,Nat.reduceBEq,Nat.reduceEqDiff,Bool.not_true,Bool.not_false,Bool.and_false,Bool.false_and,Bool.or_true,Bool.true_or,Bool.or_false,Bool.false_or,call_func,c_draw,c_loop,FinK,hi',ho']
  repeat' (first | exact h | apply And.intro)
  all_goals (intros; simp_all)
def badC (cons : List Cn) (i : Nat) (c : Cn) : Bool :=
  (((((cons.take i).any fun x => clash x c) || c.many != ((ofL cons c.of_).length : Int)) || decide (c.tag < 0) || decide (c.many ≤ c.tag)) || decide (c.arity < 0)) || decide (4 < c.arity)
def soundUpto (cons : List Cn) (n : Nat) : Bool := (List.range n).all fun i => !badC cons i (cons.getD i default)
def pClash (d : Cn) : SV → Bool
  | .agg [.sc (.string a),.sc (.string b),.sc (.int _ n),_,_] => clash ⟨a,b,n,0,0⟩ d
  | _ => false
theorem any_clash (d : Cn) (l : List Cn) : (l.map conSV).any (pClash d) = l.any fun x => clash x d := by
  rw [List.any_map]; rfl
theorem soundUpto_succ (cons : List Cn) (k : Nat) : soundUpto cons (k + 1) = (soundUpto cons k && !badC cons k (cons.getD k default)) := by
  unfold soundUpto
  rw [List.range_succ,List.all_append]
  simp
theorem soundUpto_false (cons : List Cn) {k n : Nat} (h : k < n) (hb : badC cons k (cons.getD k default) = true) : soundUpto cons n = false := by
  unfold soundUpto
  rw [List.all_eq_false]
  exact ⟨k,List.mem_range.2 h,by rw [hb]; decide⟩
theorem sound_c (cons : List Cn) (hb : cons.length ≤ 100000) (K : SV → St → Prop) (st : St) (h : K (.sc (.bool (soundUpto cons cons.length))) st) : ACalls Try.prog 16 [consSV cons] K st := by
  refine acalls_go_pure [] Try.func16 rfl Try.results16 Try.ntmps16 ?_
  simp only [go_sem,imp_self,implies_true,reduceCtorEq,false_imp_iff,true_imp_iff,decide_true,decide_false,Int.toNat_natCast,Int.toNat_zero,Int.toNat_one,Int.natCast_nonneg,Int.le_refl,Nat.le_refl,Nat.reduceAdd,Nat.reduceMul,Nat.reduceLeDiff,Nat.reduceLT,Int.reduceLE,Int.reduceLT,Nat.reduceBEq,Nat.reduceEqDiff,Bool.not_true,Bool.not_false,Bool.and_false,Bool.false_and,Bool.or_true,Bool.true_or,Bool.or_false,Bool.false_or,call_func,c_draw,c_loop]
  refine awp_rounds [] (fun m e s => ∃ (k : Nat) (ex : St),k + m = cons.length ∧ soundUpto cons k = true ∧
       e = [consSV cons,.any,.any,.any,.any,.any,.any,consSV cons,.sc (.int .i64 cons.length),.sc (.int .i64 k),.any,.any,.any,.any,.any,.any,.any,.any,.any,.any,.any,.any,.any,.any,.any,.any,.any,.any,.any,.any,.any,.any,.any,.any,.any,.any,.any,.any,.any,.any,.any,.any,.any,.any,.any,.any,.any,.any,.any,.any,.any,.any,.any,.any] ∧ s = st ++ ex) (n := cons.length) ?_
       ⟨0,[],by omega,rfl,rfl,by simp⟩ ?_
  · repeat (first | exact leEnv_nil | refine leEnv_any _ ?_ | refine leEnv_same _ ?_)
  · rintro m e s ⟨k,ex,hk,hs,rfl,rfl⟩
    by_cases hlt : k < cons.length
    · have i1 : (k : Int) < (cons.length : Int) := by omega
      have hw := wrap_succ k (by omega)
      have hne : cons ≠ [] := by rintro rfl; exact absurd hlt (Nat.not_lt_zero _)
      have i2 : (k : Int) ≤ (cons.length : Int) := by omega
      simp only [go_sem,imp_self,implies_true,reduceCtorEq,false_imp_iff,true_imp_iff,decide_true,decide_false,Int.toNat_natCast,Int.toNat_zero,Int.toNat_one,Int.natCast_nonneg,Int.le_refl,Nat.le_refl,Nat.reduceAdd,Nat.reduceMul,Nat.reduceLeDiff,Nat.reduceLT,Int.reduceLE,Int.reduceLT,Nat.reduceBEq,Nat.reduceEqDiff,Bool.not_true,Bool.not_false,Bool.and_false,Bool.false_and,Bool.or_true,Bool.true_or,Bool.or_false,Bool.false_or,call_func,c_draw,c_loop,i1,hw,getD_map' _ hlt]
      refine of_c cons hne hb _ _ _ ?_
      simp only [go_sem,imp_self,implies_true,reduceCtorEq,false_imp_iff,true_imp_iff,decide_true,decide_false,Int.toNat_natCast,Int.toNat_zero,Int.toNat_one,Int.natCast_nonneg,Int.le_refl,Nat.le_refl,Nat.reduceAdd,Nat.reduceMul,Nat.reduceLeDiff,Nat.reduceLT,Int.reduceLE,Int.reduceLT,Nat.reduceBEq,Nat.reduceEqDiff,Bool.not_true,Bool.not_false,Bool.and_false,Bool.false_and,Bool.or_true,Bool.true_or,Bool.or_false,Bool.false_or,call_func,c_draw,c_loop,i2]
      refine ⟨by omega,?_⟩
      rw [← List.map_take]
      refine contains20_c _ _ (pClash (cons.getD k default)) 36 _ Try.abody36 (fun x hx => ?_) (by simp; omega) _ (fun x hx K h => ?_) _ ?_
      · obtain ⟨c,_,rfl⟩ := List.mem_map.1 hx
        exact cellsOf_con c Try.aagg41 Try.asize41
      · obtain ⟨c,_,rfl⟩ := List.mem_map.1 hx
        exact sound1o_c c (cons.getD k default) _ K _ (by simp only [go_sem]) (by simp only [go_sem]) h
      rw [any_clash]
      have hbad : badC cons k (cons.getD k default) = badC cons k (cons.getD k default) := rfl
      conv at hbad => rhs; unfold badC
      have hF := soundUpto_false cons hlt
      have hT : badC cons k (cons.getD k default) = false → soundUpto cons (k + 1) = true := fun h => by rw [soundUpto_succ,hs,h]; rfl
      generalize cons.getD k default = d at *
      generalize (List.take k cons).any (fun x => clash x d) = a1 at *
      generalize (((ofL cons d.of_).length : Nat) : Int) = n1 at *
      simp only [go_sem,imp_self,implies_true,reduceCtorEq,false_imp_iff,true_imp_iff,decide_true,decide_false,Int.toNat_natCast,Int.toNat_zero,Int.toNat_one,Int.natCast_nonneg,Int.le_refl,Nat.le_refl,Nat.reduceAdd,Nat.reduceMul,Nat.reduceLeDiff,Nat.reduceLT,Int.reduceLE,Int.reduceLT,Nat.reduceBEq,Nat.reduceEqDiff,Bool.not_true,Bool.not_false,Bool.and_false,Bool.false_and,Bool.or_true,Bool.true_or,Bool.or_false,Bool.false_or,call_func,c_draw,c_loop,FinK]
      have nb : ∀ b : Bool,b = false → (!b) = true := by intro b h; simp [h]
      refine ⟨nb _,nb _,nb _,nb _,nb _,fun hx => ?_,fun hx => ?_⟩
      · rw [hF (hbad.trans hx)] at h
        exact h
      · refine ⟨m - 1,_,by omega,?_,k + 1,_,by omega,hT (hbad.trans hx),rfl,rfl⟩
        repeat (first | exact leEnv_nil | refine leEnv_any _ ?_ | refine leEnv_same _ ?_)
    · obtain rfl : k = cons.length := by omega
      have d1 : ((cons.length : Int) < (cons.length : Int)) = False := eq_false (by omega)
      simp only [go_sem,imp_self,implies_true,reduceCtorEq,false_imp_iff,true_imp_iff,decide_true,decide_false,Int.toNat_natCast,Int.toNat_zero,Int.toNat_one,Int.natCast_nonneg,Int.le_refl,Nat.le_refl,Nat.reduceAdd,Nat.reduceMul,Nat.reduceLeDiff,Nat.reduceLT,Int.reduceLE,Int.reduceLT,Nat.reduceBEq,Nat.reduceEqDiff,Bool.not_true,Bool.not_false,Bool.and_false,Bool.false_and,Bool.or_true,Bool.true_or,Bool.or_false,Bool.false_or,call_func,c_draw,c_loop,d1,FinK]
      rw [hs] at h
      exact h
end Go.Proofs
set_option maxRecDepth 4000
namespace Go.Proofs
open Go Go.AL
mutual
def cnt : Nd → Nat
  | .mk _ _ _ _ _ ks => 1 + cntL ks
def cntL : List Nd → Nat
  | [] => 0
  | n :: r => cnt n + cntL r
end
theorem cnt_eq (n : Nd) : cnt n = 1 + cntL n.kids := by cases n; simp [cnt,Nd.kids]
theorem cnt_pos (n : Nd) : 0 < cnt n := by rw [cnt_eq]; omega
theorem len_cntL : ∀ l : List Nd,l.length ≤ cntL l
  | [] => Nat.le_refl _
  | n :: r => by have := cnt_pos n; have := len_cntL r; simp only [List.length_cons,cntL]; omega
theorem mem_cntL {x : Nd} : ∀ {l : List Nd},x ∈ l → cnt x ≤ cntL l
  | n :: r,h => by
    simp only [cntL]
    cases h with
    | head => omega
    | tail _ h => have := mem_cntL h; omega
mutual
def sizeN (cons : List Cn) : Nd → Int × Bool
  | .mk k t num a ns ks =>
    if plainB (.mk k t num a ns ks) then
      if k == 24 || k == 4 then (1,true)
      else if k == 1 then (1,decide (0 ≤ num))
      else if k == 5 then
        match findC cons t with
        | none => (0,false)
        | some c => if c.arity != (ks.length : Int) then (0,false) else sizeL cons 1 ks
      else (0,false)
    else (0,false)
def sizeL (cons : List Cn) (m : Int) : List Nd → Int × Bool
  | [] => (m,true)
  | n :: r => if !(sizeN cons n).2 || decide (30 < IntKind.i64.wrap (m + (sizeN cons n).1)) then (IntKind.i64.wrap (m + (sizeN cons n).1),false) else sizeL cons (IntKind.i64.wrap (m + (sizeN cons n).1)) r
end
theorem sizeN_eq (cons : List Cn) (n : Nd) : sizeN cons n =
    if plainB n then
      if n.kind == 24 || n.kind == 4 then (1,true)
      else if n.kind == 1 then (1,decide (0 ≤ n.number))
      else if n.kind == 5 then
        match findC cons n.text with
        | none => (0,false)
        | some c => if c.arity != (n.kids.length : Int) then (0,false) else sizeL cons 1 n.kids
      else (0,false)
    else (0,false) := by cases n; rw [sizeN]; rfl
def pairSV (p : Int × Bool) : SV := .tuple [.sc (.int .i64 p.1),.sc (.bool p.2)]
theorem size_c (cons : List Cn) (hc : cons.length ≤ 100000) : ∀ (b : Nat),b ≤ 100000 → ∀ n : Nd,cnt n ≤ b → ∀ (K : SV → St → Prop) (st : St),K (pairSV (sizeN cons n)) st → ACalls Try.prog 17 [consSV cons,nodeSV n] K st
  | 0,_,n,h,_,_,_ => absurd h (by have := cnt_pos n; omega)
  | b + 1,hb,n,hn,K,st,h => by
    refine acalls_go_pure [] Try.func17 rfl Try.results17 Try.ntmps17 ?_
    have hk : n.kids.length ≤ b := by have := len_cntL n.kids; have := cnt_eq n; omega
    rw [sizeN_eq] at h
    simp only [go_sem,imp_self,implies_true,reduceCtorEq,false_imp_iff,true_imp_iff,decide_true,decide_false,Int.toNat_natCast,Int.toNat_zero,Int.toNat_one,Int.natCast_nonneg,Int.le_refl,Nat.le_refl,Nat.reduceAdd,Nat.reduceMul,Nat.reduceLeDiff,Nat.reduceLT,Int.reduceLE,Int.reduceLT,Nat.reduceBEq,Nat.reduceEqDiff,Bool.not_true,Bool.not_false,Bool.and_false,Bool.false_and,Bool.or_true,Bool.true_or,Bool.or_false,Bool.false_or,call_func,c_draw,c_loop]
    refine plain_c n _ _ ?_
    cases hp : plainB n
    · rw [hp] at h
      simp only [go_sem,imp_self,implies_true,reduceCtorEq,false_imp_iff,true_imp_iff,decide_true,decide_false,Int.toNat_natCast,Int.toNat_zero,Int.toNat_one,Int.natCast_nonneg,Int.le_refl,Nat.le_refl,Nat.reduceAdd,Nat.reduceMul,Nat.reduceLeDiff,Nat.reduceLT,Int.reduceLE,Int.reduceLT,Nat.reduceBEq,Nat.reduceEqDiff,Bool.not_true,Bool.not_false,Bool.and_false,Bool.false_and,Bool.or_true,Bool.true_or,Bool.or_false,Bool.false_or,call_func,c_draw,c_loop,FinK]
      exact h
    rw [hp,if_pos rfl] at h
    rw [nodeSV_eq]
    cases h24 : (n.kind == 24)
    case true =>
      simp only [h24,Bool.true_or,if_true] at h
      simp only [go_sem,imp_self,implies_true,reduceCtorEq,false_imp_iff,true_imp_iff,decide_true,decide_false,Int.toNat_natCast,Int.toNat_zero,Int.toNat_one,Int.natCast_nonneg,Int.le_refl,Nat.le_refl,Nat.reduceAdd,Nat.reduceMul,Nat.reduceLeDiff,Nat.reduceLT,Int.reduceLE,Int.reduceLT,Nat.reduceBEq,Nat.reduceEqDiff,Bool.not_true,Bool.not_false,Bool.and_false,Bool.false_and,Bool.or_true,Bool.true_or,Bool.or_false,Bool.false_or,call_func,c_draw,c_loop,FinK,h24]
      exact h
    cases h4 : (n.kind == 4)
    case true =>
      simp only [h24,h4,Bool.or_true,if_true] at h
      simp only [go_sem,imp_self,implies_true,reduceCtorEq,false_imp_iff,true_imp_iff,decide_true,decide_false,Int.toNat_natCast,Int.toNat_zero,Int.toNat_one,Int.natCast_nonneg,Int.le_refl,Nat.le_refl,Nat.reduceAdd,Nat.reduceMul,Nat.reduceLeDiff,Nat.reduceLT,Int.reduceLE,Int.reduceLT,Nat.reduceBEq,Nat.reduceEqDiff,Bool.not_true,Bool.not_false,Bool.and_false,Bool.false_and,Bool.or_true,Bool.true_or,Bool.or_false,Bool.false_or,call_func,c_draw,c_loop,FinK,h24,h4]
      exact h
    cases h1 : (n.kind == 1)
    case true =>
      simp only [h24,h4,h1,Bool.or_false,Bool.false_eq_true,if_false,if_true] at h
      simp only [go_sem,imp_self,implies_true,reduceCtorEq,false_imp_iff,true_imp_iff,decide_true,decide_false,Int.toNat_natCast,Int.toNat_zero,Int.toNat_one,Int.natCast_nonneg,Int.le_refl,Nat.le_refl,Nat.reduceAdd,Nat.reduceMul,Nat.reduceLeDiff,Nat.reduceLT,Int.reduceLE,Int.reduceLT,Nat.reduceBEq,Nat.reduceEqDiff,Bool.not_true,Bool.not_false,Bool.and_false,Bool.false_and,Bool.or_true,Bool.true_or,Bool.or_false,Bool.false_or,call_func,c_draw,c_loop,h24,h4,h1]
      refine awp_draw [] Try.mixed rfl ?_
      simp only [go_sem,imp_self,implies_true,reduceCtorEq,false_imp_iff,true_imp_iff,decide_true,decide_false,Int.toNat_natCast,Int.toNat_zero,Int.toNat_one,Int.natCast_nonneg,Int.le_refl,Nat.le_refl,Nat.reduceAdd,Nat.reduceMul,Nat.reduceLeDiff,Nat.reduceLT,Int.reduceLE,Int.reduceLT,Nat.reduceBEq,Nat.reduceEqDiff,Bool.not_true,Bool.not_false,Bool.and_false,Bool.false_and,Bool.or_true,Bool.true_or,Bool.or_false,Bool.false_or,call_func,c_draw,c_loop,FinK]
      exact h
    cases h5 : (n.kind == 5)
    case false =>
      simp only [h24,h4,h1,h5,Bool.or_false,Bool.false_eq_true,if_false,if_true] at h
      simp only [go_sem,imp_self,implies_true,reduceCtorEq,false_imp_iff,true_imp_iff,decide_true,decide_false,Int.toNat_natCast,Int.toNat_zero,Int.toNat_one,Int.natCast_nonneg,Int.le_refl,Nat.le_refl,Nat.reduceAdd,Nat.reduceMul,Nat.reduceLeDiff,Nat.reduceLT,Int.reduceLE,Int.reduceLT,Nat.reduceBEq,Nat.reduceEqDiff,Bool.not_true,Bool.not_false,Bool.and_false,Bool.false_and,Bool.or_true,Bool.true_or,Bool.or_false,Bool.false_or,call_func,c_draw,c_loop,FinK,h24,h4,h1,h5]
      exact h
    simp only [h24,h4,h1,h5,Bool.or_false,Bool.false_eq_true,if_false,if_true] at h
    simp only [go_sem,imp_self,implies_true,reduceCtorEq,false_imp_iff,true_imp_iff,decide_true,decide_false,Int.toNat_natCast,Int.toNat_zero,Int.toNat_one,Int.natCast_nonneg,Int.le_refl,Nat.le_refl,Nat.reduceAdd,Nat.reduceMul,Nat.reduceLeDiff,Nat.reduceLT,Int.reduceLE,Int.reduceLT,Nat.reduceBEq,Nat.reduceEqDiff,Bool.not_true,Bool.not_false,Bool.and_false,Bool.false_and,Bool.or_true,Bool.true_or,Bool.or_false,Bool.false_or,call_func,c_draw,c_loop,h24,h4,h1,h5]
    refine find_c cons n.text (by omega) _ _ ?_
    cases hf : findC cons n.text with
    | none =>
      simp only [hf] at h
      simp only [go_sem,imp_self,implies_true,reduceCtorEq,false_imp_iff,true_imp_iff,decide_true,decide_false,Int.toNat_natCast,Int.toNat_zero,Int.toNat_one,Int.natCast_nonneg,Int.le_refl,Nat.le_refl,Nat.reduceAdd,Nat.reduceMul,Nat.reduceLeDiff,Nat.reduceLT,Int.reduceLE,Int.reduceLT,Nat.reduceBEq,Nat.reduceEqDiff,Bool.not_true,Bool.not_false,Bool.and_false,Bool.false_and,Bool.or_true,Bool.true_or,Bool.or_false,Bool.false_or,call_func,c_draw,c_loop,FinK,Option.isSome_none,Option.getD_none]
      exact h
    | some c =>
      simp only [hf] at h
      cases ha : (c.arity != (n.kids.length : Int))
      case true =>
        simp only [ha,if_true] at h
        simp only [go_sem,imp_self,implies_true,reduceCtorEq,false_imp_iff,true_imp_iff,decide_true,decide_false,Int.toNat_natCast,Int.toNat_zero,Int.toNat_one,Int.natCast_nonneg,Int.le_refl,Nat.le_refl,Nat.reduceAdd,Nat.reduceMul,Nat.reduceLeDiff,Nat.reduceLT,Int.reduceLE,Int.reduceLT,Nat.reduceBEq,Nat.reduceEqDiff,Bool.not_true,Bool.not_false,Bool.and_false,Bool.false_and,Bool.or_true,Bool.true_or,Bool.or_false,Bool.false_or,call_func,c_draw,c_loop,FinK,Option.isSome_some,Option.getD_some,ha]
        exact h
      simp only [ha,Bool.false_eq_true,if_false] at h
      simp only [go_sem,imp_self,implies_true,reduceCtorEq,false_imp_iff,true_imp_iff,decide_true,decide_false,Int.toNat_natCast,Int.toNat_zero,Int.toNat_one,Int.natCast_nonneg,Int.le_refl,Nat.le_refl,Nat.reduceAdd,Nat.reduceMul,Nat.reduceLeDiff,Nat.reduceLT,Int.reduceLE,Int.reduceLT,Nat.reduceBEq,Nat.reduceEqDiff,Bool.not_true,Bool.not_false,Bool.and_false,Bool.false_and,Bool.or_true,Bool.true_or,Bool.or_false,Bool.false_or,call_func,c_draw,c_loop,Option.isSome_some,Option.getD_some,ha]
      refine awp_rounds [] (fun l e s => ∃ (k : Nat) (m : Int) (ex : St),k + l = n.kids.length ∧ sizeL cons 1 n.kids = sizeL cons m (n.kids.drop k) ∧
        e = [.slice .imm 5 (cons.map conSV),.any,.any,.any,.any,.any,.any,.any,.sc (.int .i64 m),.any,.any,.any,.any,.any,.any,.any,.any,.any,.any,.any,.any,.any,.any,.any,.any,.any,.any,.any,.any,.any,.any,.any,.any,.any,.any,.any,.any,.any,.any,.any,.any,.any,.any,.any,.any,.any,.slice .imm 6 (n.kids.map nodeSV),.sc (.int .i64 n.kids.length),.sc (.int .i64 k),.any,.any,.any,.any,.any,.any,.any,.any,.any,.any,.any,.any,.any,.any,.any,.any,.any,.any,.any,.any,.any] ∧ s = st ++ ex) (n := n.kids.length) ?_ ⟨0,1,_,by omega,rfl,rfl,rfl⟩ ?_
      · repeat (first | exact leEnv_nil | refine leEnv_any _ ?_ | refine leEnv_same _ ?_)
      · rintro l e s ⟨k,m,ex,hkl,hs,rfl,rfl⟩
        rw [hs] at h
        by_cases hlt : k < n.kids.length
        · have i1 : (k : Int) < (n.kids.length : Int) := by omega
          have hw := wrap_succ k (by omega)
          have hmem : n.kids.getD k default ∈ n.kids := by simp [List.getD_eq_getElem?_getD,hlt]
          have hcx : cnt (n.kids.getD k default) ≤ b := by have := mem_cntL hmem; have := cnt_eq n; omega
          have hdr : n.kids.drop k = n.kids.getD k default :: n.kids.drop (k + 1) := by
            rw [List.drop_eq_getElem_cons hlt,List.getD_eq_getElem?_getD,List.getElem?_eq_getElem hlt]; rfl
          rw [hdr,sizeL] at h hs
          simp only [go_sem,imp_self,implies_true,reduceCtorEq,false_imp_iff,true_imp_iff,decide_true,decide_false,Int.toNat_natCast,Int.toNat_zero,Int.toNat_one,Int.natCast_nonneg,Int.le_refl,Nat.le_refl,Nat.reduceAdd,Nat.reduceMul,Nat.reduceLeDiff,Nat.reduceLT,Int.reduceLE,Int.reduceLT,Nat.reduceBEq,Nat.reduceEqDiff,Bool.not_true,Bool.not_false,Bool.and_false,Bool.false_and,Bool.or_true,Bool.true_or,Bool.or_false,Bool.false_or,call_func,c_draw,c_loop,i1,hw,getD_map' _ hlt]
          refine size_c cons hc b (by omega) _ hcx _ _ ?_
          generalize n.kids.getD k default = x at *
          unfold pairSV at h ⊢
          generalize sizeN cons x = r at *
          obtain ⟨r1,r2⟩ := r
          simp only [go_sem,imp_self,implies_true,reduceCtorEq,false_imp_iff,true_imp_iff,decide_true,decide_false,Int.toNat_natCast,Int.toNat_zero,Int.toNat_one,Int.natCast_nonneg,Int.le_refl,Nat.le_refl,Nat.reduceAdd,Nat.reduceMul,Nat.reduceLeDiff,Nat.reduceLT,Int.reduceLE,Int.reduceLT,Nat.reduceBEq,Nat.reduceEqDiff,Bool.not_true,Bool.not_false,Bool.and_false,Bool.false_and,Bool.or_true,Bool.true_or,Bool.or_false,Bool.false_or,call_func,c_draw,c_loop,FinK]
          dsimp only at h hs
          refine ⟨fun hb => by simp [hb],fun hx => ?_,fun hx => ?_⟩
          · rw [if_pos hx] at h
            exact h
          · have hx' : ¬ ((!r2 || decide (30 < IntKind.i64.wrap (m + r1))) = true) := by rw [hx]; decide
            rw [if_neg hx'] at hs
            refine ⟨l - 1,_,by omega,?_,k + 1,_,_,by omega,hs,rfl,rfl⟩
            repeat (first | exact leEnv_nil | refine leEnv_any _ ?_ | refine leEnv_same _ ?_)
        · obtain rfl : k = n.kids.length := by omega
          have d1 : ((n.kids.length : Int) < (n.kids.length : Int)) = False := eq_false (by omega)
          rw [List.drop_length,sizeL] at h
          simp only [go_sem,imp_self,implies_true,reduceCtorEq,false_imp_iff,true_imp_iff,decide_true,decide_false,Int.toNat_natCast,Int.toNat_zero,Int.toNat_one,Int.natCast_nonneg,Int.le_refl,Nat.le_refl,Nat.reduceAdd,Nat.reduceMul,Nat.reduceLeDiff,Nat.reduceLT,Int.reduceLE,Int.reduceLT,Nat.reduceBEq,Nat.reduceEqDiff,Bool.not_true,Bool.not_false,Bool.and_false,Bool.false_and,Bool.or_true,Bool.true_or,Bool.or_false,Bool.false_or,call_func,c_draw,c_loop,d1,FinK]
          exact h
end Go.Proofs
set_option maxRecDepth 4000
namespace Go.Proofs
open Go Go.AL
def anyN : Nd := .mk 24 ⟨#[]⟩ 0 0 [] []
def conN (name : ByteArray) (l : List Nd) : Nd := .mk 5 name 0 0 [] l
theorem con_c (name : ByteArray) (l : List Nd) (K : SV → St → Prop) (st : St) (h : K (nodeSV (conN name l)) st) : ACalls Try.prog 5 [.sc (.string name),nodesSV l] K st := by
  rw [nodeSV_eq] at h
  refine acalls_le ?_
  refine acalls_go_pure [] Try.func5 rfl Try.results5 Try.ntmps5 ?_
  simp only [go_sem,imp_self,implies_true,reduceCtorEq,false_imp_iff,true_imp_iff,decide_true,decide_false,Int.toNat_natCast,Int.toNat_zero,Int.toNat_one,Int.natCast_nonneg,Int.le_refl,Nat.le_refl,Nat.reduceAdd,Nat.reduceMul,Nat.reduceLeDiff,Nat.reduceLT,Int.reduceLE,Int.reduceLT,Nat.reduceBEq,Nat.reduceEqDiff,Bool.not_true,Bool.not_false,Bool.and_false,Bool.false_and,Bool.or_true,Bool.true_or,Bool.or_false,Bool.false_or,call_func,c_draw,c_loop,FinK]
  refine ⟨⟨ids_slice (.inl rfl) fun x hx => (by cases hx),ids_nodes _ l⟩,_,?_,h⟩
  exact SVle.agg (.cons (SVle.refl _) (.cons (SVle.refl _) (.cons (SVle.refl _) (.cons (SVle.refl _) (.cons (SVle.nil _ _ _ (.inr rfl)) (.cons (SVle.refl _) .nil))))))
end Go.Proofs
set_option maxRecDepth 4000
namespace Go.Proofs
open Go Go.AL
theorem together1_c (c d : Nd) (id : Nat) (K : SV → St → Prop) (st : St) (hi : isObj st id) (ho : objAt st id = (nodeSV d).cells) (h : K (.sc (.bool (sameB c d))) st) : ACalls Try.prog 42 [nodeSV c,.ptr id 0] K st := by
  refine acalls_go_pure [] Try.func42 rfl Try.results42 Try.ntmps42 ?_
  have hi' : isObj st id = True := eq_true hi
  have e1 := cellsOf_node (P := Try.prog) (t := 27) d Try.aagg27 Try.asize27
  have e2 := cellsOf_node (P := Try.prog) (t := 27) c Try.aagg27 Try.asize27
  simp only [go_sem,imp_self,implies_true,reduceCtorEq,false_imp_iff,true_imp_iff,decide_true,decide_false,Int.toNat_natCast,Int.toNat_zero,Int.toNat_one,Int.natCast_nonneg,Int.le_refl,Nat.le_refl,Nat.reduceAdd,Nat.reduceMul,Nat.reduceLeDiff,Nat.reduceLT,Int.reduceLE,Int.reduceLT,Nat.reduceBEq,Nat.reduceEqDiff,Bool.not_true,Bool.not_false,Bool.and_false,Bool.false_and,Bool.or_true,Bool.true_or,Bool.or_false,Bool.false_or,call_func,c_draw,c_loop,FinK,hi',ho,e1,e2]
  refine same_c c d _ _ ?_
  simp only [go_sem,imp_self,implies_true,reduceCtorEq,false_imp_iff,true_imp_iff,decide_true,decide_false,Int.toNat_natCast,Int.toNat_zero,Int.toNat_one,Int.natCast_nonneg,Int.le_refl,Nat.le_refl,Nat.reduceAdd,Nat.reduceMul,Nat.reduceLeDiff,Nat.reduceLT,Int.reduceLE,Int.reduceLT,Nat.reduceBEq,Nat.reduceEqDiff,Bool.not_true,Bool.not_false,Bool.and_false,Bool.false_and,Bool.or_true,Bool.true_or,Bool.or_false,Bool.false_or,call_func,c_draw,c_loop,FinK]
  exact h
theorem means11_c (c : Nd) (d : Cn) (K : SV → St → Prop) (st : St) (h : K (.sc (.bool (c.text.toList == d.name.toList))) st) : ACalls Try.prog 49 [nodeSV c,.ref (conSV d).cells] K st := by
  refine acalls_go_pure [] Try.func49 rfl Try.results49 Try.ntmps49 ?_
  simp only [go_sem,imp_self,implies_true,reduceCtorEq,false_imp_iff,true_imp_iff,decide_true,decide_false,Int.toNat_natCast,Int.toNat_zero,Int.toNat_one,Int.natCast_nonneg,Int.le_refl,Nat.le_refl,Nat.reduceAdd,Nat.reduceMul,Nat.reduceLeDiff,Nat.reduceLT,Int.reduceLE,Int.reduceLT,Nat.reduceBEq,Nat.reduceEqDiff,Bool.not_true,Bool.not_false,Bool.and_false,Bool.false_and,Bool.or_true,Bool.true_or,Bool.or_false,Bool.false_or,call_func,c_draw,c_loop,FinK]
  exact h
end Go.Proofs
