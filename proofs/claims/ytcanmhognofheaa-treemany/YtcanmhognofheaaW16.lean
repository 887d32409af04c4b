/- means$2: means, by one constructor. -/
import Derived.Test.YtcanmhognofheaaW15
set_option linter.all false
set_option linter.unusedSimpArgs false
set_option maxRecDepth 8000
namespace Go.Proofs
open Go Go.AL
def headOf (c : Cn) : Nd := .mk 5 c.name 0 0 [] (List.replicate c.arity.toNat anyN)
def meaF (cons : List Cn) : Nat → List (List Nd) → List Nd → Bool
  | 0,_,_ => false
  | b + 1,rows,q =>
    if rows = [] ∨ q = [] then decide (rows = [])
    else if looseB (q.getD 0 default) = false then meaF cons b (underL rows (q.getD 0 default)) (belowL q (q.getD 0 default))
    else if (!(columnL rows).isEmpty && ((columnL rows).getD 0 default).kind == 5 && !((ofL cons (conOf cons ((columnL rows).getD 0 default)).of_).any fun c => !((columnL rows).any fun x => x.text.toList == c.name.toList))) = true then
      (ofL cons (conOf cons ((columnL rows).getD 0 default)).of_).any fun c => meaF cons b (underL rows (headOf c)) (belowL q (headOf c))
    else meaF cons b (othersL rows) (q.drop 1)
def MeaOk (cons : List Cn) (b : Nat) : Prop := ∀ (W : Nat) (rows : List (List Nd)) (q : List Nd),Good cons W rows → q.length = W → okL cons q = true → 6 * (nlR rows + nlL q) + W < b → ∀ (K : SV → St → Prop) (st : St),
  K (.sc (.bool (meaF cons b rows q))) st → ACalls Try.prog 19 [consSV cons,rowsSV rows,nodesSV q] K st
theorem mea2_c (cons : List Cn) (hlow : Low cons) (hfind : ∀ c ∈ cons,findC cons c.name = some c) (b : Nat) (hb : b ≤ 100000) (hm : MeaOk cons b) (W : Nat) (rows : List (List Nd)) (q : List Nd) (hg : Good cons (W + 1) rows) (hq : q.length = W + 1) (ho : okL cons q = true)
    (hne : columnL rows ≠ []) (hlt : 6 * (nlR rows + nlL q) + (W + 1) < b + 1) (hql : looseB (q.getD 0 default) = true) (c : Cn) (hc : c ∈ cons) (K : SV → St → Prop) (st : St)
    (h : K (.sc (.bool (meaF cons b (underL rows (headOf c)) (belowL q (headOf c))))) st) : ACalls Try.prog 50 [conSV c,.ref [nodesSV q],.ref [consSV cons],.ref [rowsSV rows]] K st := by
  refine acalls_go_pure [] Try.func50 rfl Try.results50 Try.ntmps50 ?_
  have ha := hlow.2 c hc
  obtain ⟨n,hn⟩ := Int.eq_ofNat_of_zero_le ha.1
  have hn4 : n ≤ 5 := by omega
  simp only [go_sem]
  refine awp_drawE [] [6,7] [] (fun s => ∃ l,s = st ++ l) Try.mixed rfl rfl rfl rfl ⟨[],by simp⟩ ?_
  refine dE_pure rfl rfl (.ref [.sc (.string c.name)]) (fun s _ => by simp only [go_sem]) ?_
  refine dE_pure rfl rfl (.sc (.string c.name)) (fun s _ => by simp only [go_sem]) ?_
  refine dE_pure rfl rfl (.ref [.sc (.int .i64 c.arity)]) (fun s _ => by simp only [go_sem]) ?_
  refine dE_pure rfl rfl (.sc (.int .i64 c.arity)) (fun s _ => by simp only [go_sem]) ?_
  refine dE_pure rfl rfl (.slice .full 6 ((List.replicate n anyN).map nodeSV)) (fun s _ => ?_) ?_
  · simp only [go_sem]
    refine ⟨_,?_,rfl⟩
    simp only [go_sem,hn]
    refine wild_c _ hn4 _ _ ⟨⟨[],by simp⟩,?_,.inl rfl⟩
    exact ids_slice (.inr rfl) (by have := ids_nodeL s.length (List.replicate n anyN); rwa [nodeL_eq] at this)
  refine dE_pure rfl rfl (.agg [.sc (.int .i64 5),.sc (.string c.name),.sc (.int .i64 0),.sc (.int .i64 0),.slice .full 0 [],.slice .full 6 ((List.replicate n anyN).map nodeSV)]) (fun s _ => ?_) ?_
  · simp only [go_sem]
    refine ⟨_,?_,rfl⟩
    simp only [go_sem]
    refine ⟨⟨[],by simp⟩,?_,.inl rfl⟩
    have h6 : Ids s.length (.slice .full 6 ((List.replicate n anyN).map nodeSV)) := ids_slice (.inr rfl) (by have := ids_nodeL s.length (List.replicate n anyN); rwa [nodeL_eq] at this)
    have h0 : Ids s.length (.slice .full 0 []) := ids_slice (.inr rfl) fun x hx => by cases hx
    simp only [ids_agg,List.forall_mem_cons,ids_sc,true_and]
    exact ⟨h0,h6,fun x hx => by cases hx⟩
  refine dE_turn rfl (.ptr st.length 0) (st ++ [.cells [.sc (.int .i64 0),.sc (.string ⟨#[]⟩),.sc (.int .i64 0),.sc (.int .i64 0),.slice .full 0 [],.slice .full 0 []]]) ?_ rfl ⟨_,rfl⟩ ?_
  · simp only [go_sem]
  refine dE_turn rfl .any (st ++ [.cells [.sc (.int .i64 5),.sc (.string c.name),.sc (.int .i64 0),.sc (.int .i64 0),.slice .full 0 [],.slice .full 6 ((List.replicate n anyN).map nodeSV)]]) ?_ rfl ⟨_,rfl⟩ ?_
  · simp only [go_sem]
  refine dE_end ?_
  simp only [go_sem]
  have hle : SVle (.agg [.sc (.int .i64 5),.sc (.string c.name),.sc (.int .i64 0),.sc (.int .i64 0),.slice .full 0 [],.slice .full 6 ((List.replicate n anyN).map nodeSV)]) (nodeSV (headOf c)) := by
    have e : c.arity.toNat = n := by omega
    rw [nodeSV_eq,headOf,e]
    exact SVle.agg (.cons (SVle.refl _) (.cons (SVle.refl _) (.cons (SVle.refl _) (.cons (SVle.refl _) (.cons (fun st σ w v h => (rep_nil_z h (.inl rfl)).norm1) (.cons (fun st σ w v h => h.norm1) .nil))))))
  have hlen : (headOf c).kids.length = n := by
    have e : c.arity.toNat = n := by omega
    simp [headOf,Nd.kids,e]
  have hokh : okB cons (headOf c) = true := by
    have e : c.arity.toNat = n := by omega
    rw [okB_eq]
    have h1 : plainB (headOf c) = true := by simp [plainB,headOf,Nd.kind,Nd.text,Nd.names,Nd.number,Nd.kids]
    rw [h1]
    simp only [headOf,Nd.kind,Nd.text,Nd.kids,hfind c hc,okL_anys,List.length_replicate,e,hn]
    simp
  have hqne : q ≠ [] := by rintro rfl; simp at hq
  have hbq : belowB q (headOf c) = true := by unfold belowB; rw [hql]; rfl
  have hbo := below_ok (W := W) hq ho hokh hbq
  have hgu := good_under hg hokh
  obtain ⟨p0,hp0⟩ := List.exists_mem_of_ne_nil _ hne
  obtain ⟨r0,hr0m,hr0e,hr0l⟩ := column_mem hp0
  have hnl := (under_nl (head := headOf c) hg.ne).2 ⟨r0,hr0m,by rw [hr0e]; exact hr0l⟩
  have hnq := (below_nl (head := headOf c) hqne).1
  have hq0 : (q.getD 0 default).kids.length ≤ 5 := by have := ok_len hlow (okL_all.1 ho _ (getD0_mem hqne)); omega
  have hwid : ∀ r ∈ rows,r.length ≤ 100000 := fun r hr => by rw [hg.wide r hr]; omega
  have hkid : ∀ r ∈ rows,(r.getD 0 default).kids.length ≤ 5 := fun r hr => by have := ok_len hlow (hg.head hr); omega
  refine acalls_args (args' := [nodesSV q,nodeSV (headOf c)]) (.cons (SVle.refl _) (.cons hle .nil)) ?_
  refine below_c q (headOf c) hqne (by omega) (by omega) hq0 _ _ ?_
  simp only [go_sem]
  refine awp_draw [] Try.mixed rfl ?_
  simp only [go_sem]
  refine ⟨rowsSV (underL rows (headOf c)),?_,?_⟩
  · simp only [go_sem]
    refine acalls_args (args' := [rowsSV rows,nodeSV (headOf c)]) (.cons (SVle.refl _) (.cons hle .nil)) ?_
    exact under_c rows (headOf c) hg.ne hg.len (by omega) hwid hkid _ _ ⟨⟨[],by simp⟩,ids_rows _ _,.inl rfl⟩
  simp only [go_sem]
  refine ⟨.sc (.bool (meaF cons b (underL rows (headOf c)) (belowL q (headOf c)))),?_,?_⟩
  · simp only [go_sem]
    exact hm _ _ _ hgu hbo.1 hbo.2 (by omega) _ _ ⟨⟨[],by simp⟩,.sc _,.inl rfl⟩
  simp only [go_sem]
  exact ⟨⟨_,rfl⟩,.sc _,h⟩
end Go.Proofs
