import Derived.Test.YtnjiphlokjfdlaaGreatDoorM4
import Derived.Test.YtnjiphlokjfdlaaGreatDoorW16
set_option maxHeartbeats 4000000
set_option linter.unusedSimpArgs false
set_option linter.unusedVariables false
set_option maxRecDepth 8000
namespace Go.AL
theorem tokensL_ok : ∀ (m : Nat) (s : Tx) (k : Nat) (out : List Tk),s.length < m →
    (∀ a e,tokensL m s k out = .error (a,e) → e ≠ 0 ∧ a ≤ k + s.length) ∧ (∀ T,tokensL m s k out = .ok T → T.length ≤ out.length + s.length + 1)
  | 0,s,k,out,h => absurd h (by omega)
  | m + 1,s,k,out,h => by
    have hsk := skip_le false s
    cases hd : s.drop (skipN false s) with
    | nil =>
      rw [Go.Proofs.tokensL_end hd]
      refine ⟨fun a e h => (by cases h),fun T h => ?_⟩
      cases h; simp
    | cons c r =>
      rw [Go.Proofs.tokensL_step hd]
      have hl := congrArg List.length hd
      simp only [List.length_drop,List.length_cons] at hl
      generalize hR : nextR c (c :: r) ((k + skipN false s : Nat) : Int) = R
      obtain ⟨g,e,t,n⟩ := R
      obtain ⟨h1,h2,h3⟩ := tok_next hR
      rw [h1]
      by_cases he : e = 0
      · rw [if_pos he]
        obtain ⟨n1,n2,n3⟩ := h3 he
        simp only [List.length_cons] at n2
        obtain ⟨i1,i2⟩ := tokensL_ok m ((c :: r).drop n) (k + skipN false s + n) (out ++ [t]) (by simp only [List.length_drop,List.length_cons]; omega)
        simp only [List.length_drop,List.length_cons,List.length_append,List.length_nil] at i1 i2
        exact ⟨fun a e h => by have := i1 a e h; exact ⟨this.1,by omega⟩,fun T h => by have := i2 T h; omega⟩
      · rw [if_neg he]
        refine ⟨fun a e' h => ?_,fun T h => (by cases h)⟩
        cases h; exact ⟨he,by omega⟩
theorem lexF_err {s : Tx} {a : Nat} {e : Int} (h : lexF s = .error (a,e)) : e ≠ 0 := by
  unfold lexF at h
  split at h
  · cases h; decide
  · exact ((tokensL_ok _ _ _ _ (by omega)).1 _ _ h).1
theorem lexF_len {s : Tx} {T : List Tk} (h : lexF s = .ok T) : T.length ≤ 2001 := by
  unfold lexF at h
  split at h
  · cases h
  · have := (tokensL_ok _ _ _ _ (by omega)).2 _ h
    simp at this
    omega
end Go.AL
namespace Go.Proofs
open Go Go.AL
theorem le_nil0 (z : Nat) : SVle (.slice .full 0 []) (.slice .imm z []) := fun _ _ _ _ h => rep_nil_z (Rep.norm1 h) (.inr rfl)
theorem le_nd0 : SVle (.agg zNd) (ndSV nd0) := SVle.agg (.cons (SVle.refl _) (.cons (SVle.refl _) (.cons (SVle.refl _) (.cons (SVle.refl _) (.cons (le_nil0 1) (.cons (le_nil0 6) .nil))))))
theorem ids_nds3 (n : Nat) (x : SV) (a e : Value) (h : Ids n x) : Ids n (.tuple [x,.sc a,.sc e]) := by
  refine .tuple _ ?_
  intro i hi
  match i with
  | 0 => exact h
  | 1 => exact .sc _
  | 2 => exact .sc _
  | i + 3 => simp at hi; omega
theorem ids_zNd (n : Nat) : Ids n (.agg zNd) := by
  rw [ids_agg]
  intro x hx
  simp only [zNd,List.mem_cons,List.not_mem_nil,or_false] at hx
  rcases hx with rfl | rfl | rfl | rfl | rfl | rfl
  · exact .sc _
  · exact .sc _
  · exact .sc _
  · exact .sc _
  · exact ids_slice (.inr rfl) fun x hx => by cases hx
  · exact ids_slice (.inr rfl) fun x hx => by cases hx
theorem fin_prog {st ex : St} {K : SV → St → Prop} {x : SV} {nd : Nd} {a e : Value} (hi : Ids st.length x) (hx : norm1 x = x) (hle : SVle x (ndSV nd)) (hk : K (.tuple [ndSV nd,.sc a,.sc e]) st) : FinK st (LeK K) (.tuple [x,.sc a,.sc e]) (st ++ ex) := by
  have hn : norm (.tuple [x,.sc a,.sc e]) = .tuple [x,.sc a,.sc e] := by simp only [norm_tuple,List.map_cons,List.map_nil,hx]; rfl
  refine ⟨⟨ex,rfl⟩,?_,?_⟩
  · rw [hn]; exact ids_nds3 _ _ _ _ hi
  · rw [hn]; exact ⟨_,SVle.tuple (.cons hle (.cons (SVle.refl _) (.cons (SVle.refl _) .nil))),hk⟩
theorem tokensE_c {s : Tx} {gid : Nat} {m : Int} {K : SV → St → Prop} {st : St} (hg : GAt gid m st) (hz : s.length ≤ 100000) {a : Nat} {e : Int} (h : lexF s = .error (a,e)) (hk : ∀ x,K (.tuple [x,.sc (.int .i64 a),.sc (.int .i64 e)]) st) : ACalls Tryz.prog 27 [.sc (.string (ba s))] K st := by
  refine tokens_c hg ?_ hz
  rw [h]; exact hk
theorem tokensO_c {s : Tx} {gid : Nat} {m : Int} {K : SV → St → Prop} {st : St} (hg : GAt gid m st) (hz : s.length ≤ 100000) {T : List Tk} (h : lexF s = .ok T) (hk : K (.tuple [.slice .imm 4 (T.map tkSV),.sc (.int .i64 0),.sc (.int .i64 0)]) st) : ACalls Tryz.prog 27 [.sc (.string (ba s))] K st := by
  refine tokens_c hg ?_ hz
  rw [h]; exact hk
theorem programE_c {s : Tx} {gid : Nat} {m : Int} {K : SV → St → Prop} {st : St} (hg : GAt gid m st) (hz : s.length ≤ 100000) {a : Nat} {e : Int} (h : lexF s = .error (a,e)) (hk : K (.tuple [ndSV nd0,.sc (.int .i64 a),.sc (.int .i64 e)]) st) : ACalls Tryz.prog 19 [.sc (.string (ba s))] K st := by
  refine acalls_leK (acalls_go_pure [23] Tryz.func19 rfl Tryz.results19 Tryz.ntmps19 ?_)
  have he : (e != 0) = true := by simp [lexF_err h]
  simp only [go_sem]
  refine tokensE_c (gat_app hg) hz h fun x => ?_
  simp only [go_sem,he]
  exact fin_prog (ids_zNd _) rfl le_nd0 hk
theorem programO_c {s : Tx} {gid : Nat} {m : Int} {K : SV → St → Prop} {st : St} (hg : GAt gid m st) (hz : s.length ≤ 100000) {T : List Tk} (h : lexF s = .ok T) {nd : Nd} {q : PS} (hP : progF T (expF T 42) (tyF T 42) ⟨0,0,false,0,0⟩ = some (nd,q))
    (hk : K (.tuple [ndSV (if q.e = 0 then nd else nd0),.sc (.int .i64 (if q.e = 0 then 0 else q.bad)),.sc (.int .i64 q.e)]) st) : ACalls Tryz.prog 19 [.sc (.string (ba s))] K st := by
  refine acalls_leK (acalls_go_pure [23] Tryz.func19 rfl Tryz.results19 Tryz.ntmps19 ?_)
  have hT := lexF_len h
  have hpat : PAt T (st.length + 1) ⟨0,0,false,0,0⟩ (st ++ [.cells zNd,.cells (psL T ⟨0,0,false,0,0⟩)]) := by unfold PAt; simp
  have hset : ∀ X : Ob,(st ++ [Ob.cells zNd,Ob.cells (psL T ⟨0,0,false,0,0⟩)]).set (st.length + 1) X = st ++ [.cells zNd,X] := fun X => by
    rw [List.set_append_right _ _ (by omega)]; simp
  have hp17 := program_c (T := T) (by omega) (pid := st.length + 1) (expF_c (by omega) 42) (tyF_c (by omega) 42)
  have hrun := fun K => hp17 _ _ _ hP K _ hpat
  simp only [hset] at hrun
  have hps : psL T q = [.slice .imm 4 (T.map tkSV),.sc (.int .i64 q.pos),.sc (.int .i64 q.deep),.sc (.bool q.flat),.sc (.int .i64 q.bad),.sc (.int .i64 q.e)] := rfl
  rw [hps] at hrun
  by_cases he : q.e = 0
  · have c1 : (q.e != 0) = false := by simp [he]
    simp only [he,if_true] at hk
    simp only [go_sem]
    refine tokensO_c (gat_app hg) hz h ?_
    simp only [go_sem,d0n]
    refine hrun _ ?_
    simp only [go_sem,c1,zNd]
    exact fin_prog (ids_nd _ _) (norm1_nd _) (SVle.refl _) hk
  · have c1 : (q.e != 0) = true := by simp [he]
    simp only [he,if_false] at hk
    simp only [go_sem]
    refine tokensO_c (gat_app hg) hz h ?_
    simp only [go_sem,d0n]
    refine hrun _ ?_
    simp only [go_sem,c1]
    refine awp_drawW [] [(0,[]),(0,[12]),(0,[12]),(0,[12]),(0,[12]),(0,[12]),(0,[12]),(0,[12]),(0,[12]),(1,[12]),(0,[]),(0,[])] Tryz.mixed rfl ?_
    simp only [go_sem,drawW_n,drawW_0,drawW_1,drawW_2,drawW_3,pend_n,pend_c,headD_c,isStore_s,zNd]
    rw [dk_eff]
    refine ⟨.agg zNd,?_,?_⟩
    · simp only [go_sem]
      exact ⟨⟨[],by simp⟩,ids_zNd _,.inl rfl⟩
    simp only [go_sem,drawW_n,drawW_0,drawW_1,drawW_2,drawW_3,pend_n,pend_c,headD_c,isStore_s,zNd]
    exact fin_prog (ids_zNd _) rfl le_nd0 hk
theorem parseR {s : Tx} {nd : Nd} {a e : Int} (h : programF s = some (nd,a,e)) {gid : Nat} {m : Int} {K : SV → St → Prop} {st : St} (hg : GAt gid m st) (hz : s.length ≤ 100000) (hk : K (.tuple [ndSV nd,.sc (.int .i64 a),.sc (.int .i64 e)]) st) : ACalls Tryz.prog 19 [.sc (.string (ba s))] K st := by
  unfold programF at h
  cases hl : lexF s with
  | error x =>
    obtain ⟨b,f⟩ := x
    rw [hl] at h
    simp only [Option.some.injEq,Prod.mk.injEq] at h
    obtain ⟨rfl,rfl,rfl⟩ := h
    exact programE_c hg hz hl hk
  | ok T =>
    rw [hl] at h
    simp only [parseF,Option.map_eq_some_iff,Prod.exists] at h
    obtain ⟨n,q,hP,h⟩ := h
    refine programO_c hg hz hl hP ?_
    by_cases he : q.e = 0
    · simp only [he,if_true,Prod.mk.injEq] at h ⊢
      obtain ⟨rfl,rfl,rfl⟩ := h
      exact hk
    · simp only [he,if_false,Prod.mk.injEq] at h ⊢
      obtain ⟨rfl,rfl,rfl⟩ := h
      exact hk
end Go.Proofs
namespace Go.AL
def srcA : Tx := [100,111,32,49,32,43,32,50,32,42,32,51]
def srcB : Tx := [100,111,32,102,32,120,32,121]
def srcC : Tx := [100,111,32,40]
def ndA : Nd := .mk 30 [] 0 0 [] [.mk 13 [43] 0 3 [] [.mk 1 [] 1 3 [] [],.mk 13 [42] 0 7 [] [.mk 1 [] 2 7 [] [],.mk 1 [] 3 11 [] []]]]
def ndB : Nd := .mk 30 [] 0 0 [] [.mk 7 [] 0 3 [] [.mk 7 [] 0 3 [] [.mk 4 [102] 0 3 [] [],.mk 4 [120] 0 5 [] []],.mk 4 [121] 0 7 [] []]]
theorem srunA : programF srcA = some (ndA,0,0) := by kernel_rfl
theorem srunB : programF srcB = some (ndB,0,0) := by kernel_rfl
theorem srunC : programF srcC = some (nd0,4,14) := by kernel_rfl
end Go.AL
namespace Go.Proofs
open Go Go.AL
theorem e11 : (((1 : Nat) : Int) != 1) = false := rfl
theorem e22 : (((2 : Nat) : Int) != 2) = false := rfl
theorem parseR2 {s : Tx} {x : ByteArray} {nd : Nd} {a e : Int} (h : programF s = some (nd,a,e)) (hx : x = ba s) {gid : Nat} {m : Int} {K : SV → St → Prop} {st : St} (hg : GAt gid m st) (hz : s.length ≤ 100000) (hk : K (.tuple [ndSV nd,.sc (.int .i64 a),.sc (.int .i64 e)]) st) : ACalls Tryz.prog 19 [.sc (.string x)] K st := by
  subst hx; exact parseR h hg hz hk
theorem lives_c {gid : Nat} {m : Int} {K : SV → St → Prop} {st : St} (hg : GAt gid m st) (hk : K (.sc (.bool true)) st) : ACalls Tryz.prog 8 [] K st := by
  refine acalls_go_pure [] Tryz.func8 rfl Tryz.results8 Tryz.ntmps8 ?_
  simp -implicitDefEqProofs (maxSteps := 3000000) only [go_sem]
  refine parseR2 srunA rfl hg (by decide) ?_
  simp -implicitDefEqProofs (maxSteps := 3000000) only [go_sem]
  refine parseR2 srunB rfl (gat_app hg) (by decide) ?_
  simp -implicitDefEqProofs (maxSteps := 3000000) only [go_sem]
  refine parseR2 srunC rfl (gat_app hg) (by decide) ?_
  simp -implicitDefEqProofs (maxSteps := 3000000) only [go_sem,ndA,ndB,nd0,ndSV,ndSVs,e11,e22,beq_self_eq_true,Bool.and_self,forall_const]
  refine ⟨by decide,by decide,by decide,by decide,by decide,by decide,by decide,?_⟩
  exact fin_pure (ids_scv _ _) hk
end Go.Proofs
