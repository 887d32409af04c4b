/- Check. -/
import Derived.Test.YtcanmhognofheaaW17
set_option linter.all false
set_option maxHeartbeats 4000000
set_option linter.unusedSimpArgs false
set_option maxRecDepth 8000
namespace Go.Proofs
open Go Go.AL
def ones (rows : List Nd) : List (List Nd) := rows.map fun p => [p]
def chkF (cons : List Cn) (B : Nat) (rows : List Nd) : Int × Int :=
  if 20 < rows.length ∨ soundUpto cons cons.length = false then (0,1)
  else if rows.any (fun p => !(sizeN cons p).2) then (0,1)
  else if togF cons B (ones rows) = false then (0,1)
  else match (List.range rows.length).find? (fun i => !meaF cons B ((ones rows).take i) [rows.getD i default]) with
    | some i => (i,27)
    | none => if meaF cons B (ones rows) [anyN] then (0,26) else (0,0)
mutual
theorem size_ok (cons : List Cn) : ∀ n : Nd,(sizeN cons n).2 = true → okB cons n = true
  | .mk k t num a ns ks,h => by
    rw [sizeN] at h
    rw [okB]
    split at h
    · rename_i hp
      rw [hp]
      split at h
      · rename_i h1
        rw [h1]; rfl
      · split at h
        · rename_i h1
          rw [h1]; simp
        · split at h
          · rename_i h1
            rw [h1]
            cases hf : findC cons t with
            | none => rw [hf] at h; cases h
            | some c =>
              rw [hf] at h
              simp only at h ⊢
              split at h
              · cases h
              · rename_i h2
                have h3 : (c.arity == (ks.length : Int)) = true := by simpa using h2
                rw [h3,size_okL cons 1 ks h]
                simp
          · cases h
    · cases h
theorem size_okL (cons : List Cn) : ∀ (m : Int) (l : List Nd),(sizeL cons m l).2 = true → okL cons l = true
  | m,[],_ => rfl
  | m,n :: r,h => by
    rw [sizeL] at h
    split at h
    · cases h
    · rename_i h1
      have h2 : (sizeN cons n).2 = true := by
        cases hh : (sizeN cons n).2 with
        | true => rfl
        | false => rw [hh] at h1; simp at h1
      rw [okL,size_ok cons n h2,size_okL cons _ r h]; rfl
end
theorem ones_len (rows : List Nd) : (ones rows).length = rows.length := by simp [ones]
theorem ones_good (cons : List Cn) (rows : List Nd) (hl : rows.length ≤ 100000) (h : rows.any (fun p => !(sizeN cons p).2) = false) : Good cons 1 (ones rows) := by
  rw [List.any_eq_false] at h
  refine ⟨by rw [ones_len]; exact hl,fun r hr => ?_,fun r hr => ?_⟩ <;> (unfold ones at hr; obtain ⟨p,hp,rfl⟩ := List.mem_map.1 hr)
  · rfl
  · have := size_ok cons p (by simpa using h p hp)
    rw [okL,this]; rfl
theorem ones_nl (rows : List Nd) : nlR (ones rows) = nlL rows := by
  induction rows with
  | nil => rfl
  | cons p r ih => show nlL [p] + nlR (ones r) = nl p + nlL r; rw [ih]; simp [nlL]
theorem Good.take {cons : List Cn} {W : Nat} {rows : List (List Nd)} (h : Good cons W rows) (k : Nat) : Good cons W (rows.take k) :=
  ⟨Nat.le_trans (by rw [List.length_take]; omega) h.len,fun r hr => h.wide r (List.mem_of_mem_take hr),fun r hr => h.ok r (List.mem_of_mem_take hr)⟩
theorem nlR_take : ∀ (rows : List (List Nd)) (k : Nat),nlR (rows.take k) ≤ nlR rows
  | [],k => by simp
  | r :: l,0 => by simp [nlR]
  | r :: l,k + 1 => by have := nlR_take l k; simp only [List.take_succ_cons,nlR]; omega
theorem ids_pair (n : Nat) (a b : Value) : Ids n (norm (.tuple [.sc a,.sc b])) := by
  refine .tuple _ fun i hi => ?_
  match i,hi with
  | 0,_ => exact .sc _
  | 1,_ => exact .sc _
theorem ones_snoc (rows : List Nd) {k : Nat} (h : k < rows.length) : (ones (rows.take (k + 1))).map nodesSV = (ones (rows.take k)).map nodesSV ++ [nodesSV [rows.getD k default]] := by
  rw [take_snoc' rows h]; simp [ones]
theorem find_range {n k : Nat} {p : Nat → Bool} (hk : k < n) (hp : p k = true) (hno : ∀ i,i < k → p i = false) : (List.range n).find? p = some k := by
  rw [List.find?_eq_some_iff_getElem]
  refine ⟨hp,k,by simpa using hk,by simp,fun j hj => ?_⟩
  simp [hno j hj]
theorem chk_c (cons : List Cn) (hlow : Low cons) (hfind : ∀ c ∈ cons,findC cons c.name = some c) (rows : List Nd) (hr : rows.length ≤ 1000) (hcnt : ∀ p ∈ rows,cnt p ≤ 100000) (hnl : 6 * nlL rows + 10 < 50000) (K : SV → St → Prop) (st : St)
    (h : K (.tuple [.sc (.int .i64 (chkF cons 100000 rows).1),.sc (.int .i64 (chkF cons 100000 rows).2)]) st) : ACalls Try.prog 10 [nodesSV rows,consSV cons] K st := by
  refine acalls_go_pure [] Try.func10 rfl Try.results10 Try.ntmps10 ?_
  unfold chkF at h
  by_cases h20 : 20 < rows.length
  · rw [if_pos (.inl h20)] at h
    have c0 : ((20 : Int) < (rows.length : Int)) = True := eq_true (by omega)
    simp only [go_sem,c0]
    exact ⟨⟨[],by simp⟩,ids_pair _ _ _,h⟩
  have c0 : ((20 : Int) < (rows.length : Int)) = False := eq_false (by omega)
  have hsc : soundUpto cons cons.length = false ∨ soundUpto cons cons.length = true := by cases soundUpto cons cons.length <;> simp
  refine hsc.elim (fun hs => ?_) (fun hs => ?_)
  · rw [if_pos (.inr hs)] at h
    simp only [go_sem,c0]
    refine sound_c cons hlow.1 _ _ ?_
    simp only [go_sem,hs,c0]
    exact ⟨⟨[],by simp⟩,ids_pair _ _ _,h⟩
  rw [if_neg (by rintro (h | h); exact h20 h; rw [hs] at h; cases h)] at h
  simp only [go_sem,c0]
  refine sound_c cons hlow.1 _ _ ?_
  simp only [go_sem,hs,c0]
  refine awp_own 7 1 0 rfl ?_
  simp only [go_sem]
  refine awp_rounds [] (fun l e s => ∃ (k ver : Nat) (ex : St),k + l = rows.length ∧ (∀ i,i < k → (sizeN cons (rows.getD i default)).2 = true) ∧ e = [.slice .imm 6 (rows.map nodeSV),.slice .imm 5 (cons.map conSV),.any,.any,.any,.any,.slice .imm 5 (cons.map conSV),.slice (.own st.length ver) 1 ((ones (rows.take k)).map nodesSV),.any,.any,.any,.any,.any,.any,.any,.any,.any,.any,.any,.any,.any,.any,.any,.slice .imm 6 (rows.map nodeSV),.sc (.int .i64 rows.length),.sc (.int .i64 k),.any,.any,.any,.any,.any,.any,.any,.any,.any,.any,.any,.any,.any,.any,.any,.any,.any,.any,.any,.any,.any,.any,.any,.any,.any,.any,.any,.any,.any,.any,.any,.any,.any,.any,.any,.any,.any,.any,.any,.any,.any] ∧ s = st ++ (.tok ver :: ex)) (n := rows.length) ?_ ⟨0,0,[],by omega,fun i hi => absurd hi (Nat.not_lt_zero _),rfl,rfl⟩ ?_
  · repeat (first | exact leEnv_nil | refine leEnv_any _ ?_ | refine leEnv_same _ ?_)
  · rintro l e s ⟨k,ver,ex,hkl,hsz,rfl,rfl⟩
    by_cases hlt : k < rows.length
    · have i1 : (k : Int) < (rows.length : Int) := by omega
      have hw := wrap_succ k (by omega)
      have hmemk : rows.getD k default ∈ rows := by simp [List.getD_eq_getElem?_getD,hlt]
      have hs2 : (sizeN cons (rows.getD k default)).2 = false ∨ (sizeN cons (rows.getD k default)).2 = true := by cases (sizeN cons (rows.getD k default)).2 <;> simp
      have hso := ones_snoc rows hlt
      have hlen : (ones (rows.take k)).length + 1 ≤ 1000000 := by rw [ones_len,List.length_take]; omega
      refine hs2.elim (fun hz => ?_) (fun hz => ?_)
      · have hany : (rows.any fun p => !(sizeN cons p).2) = true := by
          rw [List.any_eq_true]; exact ⟨_,hmemk,by rw [hz]; rfl⟩
        rw [if_pos hany] at h
        simp only [go_sem,i1,getD_map' _ hlt]
        refine size_c cons hlow.1 100000 (Nat.le_refl _) _ (hcnt _ hmemk) _ _ ?_
        simp only [go_sem,pairSV,hz]
        exact ⟨⟨_,rfl⟩,ids_pair _ _ _,h⟩
      · simp only [go_sem,i1,getD_map' _ hlt]
        refine size_c cons hlow.1 100000 (Nat.le_refl _) _ (hcnt _ hmemk) _ _ ?_
        have hso' : (ones (rows.take k)).map nodesSV ++ [SV.slice .imm 6 [nodeSV (rows.getD k default)]] = (ones (rows.take (k + 1))).map nodesSV := hso.symm
        simp only [go_sem,pairSV,hz,hw,hso']
        refine ⟨app37 hlen,l - 1,_,by omega,?_,k + 1,ver + 1,_,by omega,fun i hi => ?_,rfl,rfl⟩
        · repeat (first | exact leEnv_nil | refine leEnv_any _ ?_ | refine leEnv_same _ ?_)
        · by_cases e : i = k
          · rw [e]; exact hz
          · exact hsz i (by omega)
    · obtain rfl : k = rows.length := by omega
      have hany : (rows.any fun p => !(sizeN cons p).2) = false := by
        rw [List.any_eq_false]
        intro x hx
        obtain ⟨i,hi,rfl⟩ := List.mem_iff_getElem.1 hx
        have := hsz i hi
        have e : rows.getD i default = rows[i] := by rw [List.getD_eq_getElem?_getD,List.getElem?_eq_getElem hi]; rfl
        rw [e] at this
        rw [this]; decide
      rw [if_neg (by rw [hany]; decide)] at h
      have hgood := ones_good cons rows (by omega) hany
      have honl := ones_nl rows
      have htc : togF cons 100000 (ones rows) = false ∨ togF cons 100000 (ones rows) = true := by cases togF cons 100000 (ones rows) <;> simp
      have d1 : ((rows.length : Int) < (rows.length : Int)) = False := eq_false (by omega)
      refine htc.elim (fun ht => ?_) (fun ht => ?_)
      · rw [if_pos ht] at h
        simp only [go_sem,d1,List.take_length]
        refine acalls_args (args' := [consSV cons,rowsSV (ones rows)]) (.cons (SVle.refl _) (.cons (fun _ _ _ _ h => h.norm1) .nil)) ?_
        refine tog_c cons hlow 100000 (Nat.le_refl _) 1 (ones rows) hgood (by omega) _ _ ?_
        simp only [go_sem,ht]
        exact ⟨⟨_,rfl⟩,ids_pair _ _ _,h⟩
      rw [if_neg (by rw [ht]; decide)] at h
      simp only [go_sem,d1,List.take_length]
      refine acalls_args (args' := [consSV cons,rowsSV (ones rows)]) (.cons (SVle.refl _) (.cons (fun _ _ _ _ h => h.norm1) .nil)) ?_
      refine tog_c cons hlow 100000 (Nat.le_refl _) 1 (ones rows) hgood (by omega) _ _ ?_
      simp only [go_sem,ht,List.length_map,ones_len]
      refine awp_rounds [] (fun l e s => ∃ (k : Nat) (ex : St),k + l = rows.length ∧ (∀ i,i < k → meaF cons 100000 ((ones rows).take i) [rows.getD i default] = true) ∧ e = [.any,.any,.any,.any,.any,.any,.slice .imm 5 (cons.map conSV),.slice .imm 1 ((ones rows).map nodesSV),.any,.any,.any,.any,.any,.any,.any,.any,.any,.any,.any,.any,.any,.any,.any,.any,.any,.any,.any,.any,.any,.any,.any,.any,.any,.any,.any,.any,.any,.any,.any,.any,.any,.any,.any,.any,.any,.any,.any,.slice .imm 1 ((ones rows).map nodesSV),.sc (.int .i64 rows.length),.sc (.int .i64 k),.any,.any,.any,.any,.any,.any,.any,.any,.any,.any,.any,.any,.any,.any,.any,.any,.any] ∧ s = st ++ ex) (n := rows.length) ?_ ⟨0,_,by omega,fun i hi => absurd hi (Nat.not_lt_zero _),rfl,rfl⟩ ?_
      · repeat (first | exact leEnv_nil | refine leEnv_any _ ?_ | refine leEnv_same _ ?_ | refine leEnv_norm _ ?_)
      · rintro l e s ⟨k,ex,hkl,hme,rfl,rfl⟩
        by_cases hlt : k < rows.length
        · have i1 : (k : Int) < (rows.length : Int) := by omega
          have i2 : (k : Int) ≤ (rows.length : Int) := by omega
          have z0 : ((0 : Nat) : Int) ≤ (k : Int) := by omega
          have hw := wrap_succ k (by omega)
          have hmemk : rows.getD k default ∈ rows := by simp [List.getD_eq_getElem?_getD,hlt]
          have hget : ((ones rows).map nodesSV).getD k .any = .slice .imm 6 [nodeSV (rows.getD k default)] := by
            simp [ones,List.getD_eq_getElem?_getD,hlt,nodesSV]
          have hokk : okL cons [rows.getD k default] = true := hgood.ok _ (by unfold ones; exact List.mem_map.2 ⟨_,hmemk,rfl⟩)
          have hq1 : nlL [rows.getD k default] ≤ nlL rows := by
            have h1 := nlR_take (ones rows) (k + 1)
            have e1 : nlL [rows.getD k default] = nl (rows.getD k default) := by simp [nlL]
            rw [e1]
            clear h hme
            have : ∀ (l : List Nd) (x : Nd),x ∈ l → nl x ≤ nlL l := by
              intro l
              induction l with
              | nil => intro x hx; cases hx
              | cons y r ih =>
                intro x hx
                simp only [nlL]
                cases hx with
                | head => omega
                | tail _ hx => have := ih x hx; omega
            exact this rows _ hmemk
          have hnt := nlR_take (ones rows) k
          have hmc : meaF cons 100000 ((ones rows).take k) [rows.getD k default] = false ∨ meaF cons 100000 ((ones rows).take k) [rows.getD k default] = true := by
            cases meaF cons 100000 ((ones rows).take k) [rows.getD k default] <;> simp
          refine hmc.elim (fun hm => ?_) (fun hm => ?_)
          · have hf : (List.range rows.length).find? (fun i => !meaF cons 100000 ((ones rows).take i) [rows.getD i default]) = some k := find_range hlt (by rw [hm]; rfl) fun i hi => by rw [hme i hi]; rfl
            rw [hf] at h
            simp only [go_sem,i1,i2,z0,hget,List.length_map,ones_len,← List.map_take]
            refine mea_c cons hlow hfind 100000 (Nat.le_refl _) 1 ((ones rows).take k) [rows.getD k default] (hgood.take k) rfl hokk (by omega) _ _ ?_
            simp only [go_sem,hm]
            exact ⟨⟨_,rfl⟩,ids_pair _ _ _,h⟩
          · simp only [go_sem,i1,i2,z0,hget,List.length_map,ones_len,← List.map_take]
            refine mea_c cons hlow hfind 100000 (Nat.le_refl _) 1 ((ones rows).take k) [rows.getD k default] (hgood.take k) rfl hokk (by omega) _ _ ?_
            simp only [go_sem,hm,hw]
            refine ⟨l - 1,_,by omega,?_,k + 1,_,by omega,fun i hi => ?_,rfl,rfl⟩
            · repeat (first | exact leEnv_nil | refine leEnv_any _ ?_ | refine leEnv_same _ ?_)
            · by_cases e : i = k
              · rw [e]; exact hm
              · exact hme i (by omega)
        · obtain rfl : k = rows.length := by omega
          have hf : (List.range rows.length).find? (fun i => !meaF cons 100000 ((ones rows).take i) [rows.getD i default]) = none := by
            rw [List.find?_eq_none]
            intro i hi
            rw [hme i (List.mem_range.1 hi)]; decide
          rw [hf] at h
          have hmc : meaF cons 100000 (ones rows) [anyN] = false ∨ meaF cons 100000 (ones rows) [anyN] = true := by cases meaF cons 100000 (ones rows) [anyN] <;> simp
          have hok1 : okL cons [anyN] = true := by rw [okL,ok_any]; rfl
          have hn1 : nlL [anyN] = 0 := rfl
          refine hmc.elim (fun hm => ?_) (fun hm => ?_)
          · simp only [hm,Bool.false_eq_true,if_false] at h
            simp only [go_sem,d1]
            refine wild_c 1 (by omega) _ _ ?_
            simp only [go_sem]
            refine acalls_args (args' := [consSV cons,rowsSV (ones rows),nodesSV [anyN]]) (.cons (SVle.refl _) (.cons (SVle.refl _) (.cons (fun _ _ _ _ h => h.norm1) .nil))) ?_
            refine mea_c cons hlow hfind 100000 (Nat.le_refl _) 1 (ones rows) [anyN] hgood rfl hok1 (by omega) _ _ ?_
            simp only [go_sem,hm]
            exact ⟨⟨_,rfl⟩,ids_pair _ _ _,h⟩
          · simp only [hm,if_true] at h
            simp only [go_sem,d1]
            refine wild_c 1 (by omega) _ _ ?_
            simp only [go_sem]
            refine acalls_args (args' := [consSV cons,rowsSV (ones rows),nodesSV [anyN]]) (.cons (SVle.refl _) (.cons (SVle.refl _) (.cons (fun _ _ _ _ h => h.norm1) .nil))) ?_
            refine mea_c cons hlow hfind 100000 (Nat.le_refl _) 1 (ones rows) [anyN] hgood rfl hok1 (by omega) _ _ ?_
            simp only [go_sem,hm]
            exact ⟨⟨_,rfl⟩,ids_pair _ _ _,h⟩
end Go.Proofs
