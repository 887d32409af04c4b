import Derived.Test.YtnjiphlokjfdlaaGreatDoorM5
import Derived.Test.YtnjiphlokjfdlaaGreatDoorFacts
set_option linter.unusedSimpArgs false
set_option linter.unusedVariables false
set_option maxRecDepth 8000
namespace Go.AL
def tkSV (t : Tk) : SV := .agg [.sc (.int .i64 t.kind),.sc (.string (ba t.text)),.sc (.int .i64 t.num),.sc (.int .i64 t.pos)]
mutual
def ndSV : Nd → SV
  | .mk k t n a ns ks => .agg [.sc (.int .i64 k),.sc (.string (ba t)),.sc (.int .i64 n),.sc (.int .i64 a),.slice .imm 1 (ns.map fun x => .sc (.string (ba x))),.slice .imm 6 (ndSVs ks)]
def ndSVs : List Nd → List SV
  | [] => []
  | n :: r => ndSV n :: ndSVs r
end
theorem ndSVs_eq (l : List Nd) : ndSVs l = l.map ndSV := by
  induction l with
  | nil => rfl
  | cons n r ih => simp [ndSVs,ih]
def txSV (x : Tx) : SV := .sc (.string (ba x))
def ndCells (n : Nd) : List SV := [.sc (.int .i64 n.kind),.sc (.string (ba n.text)),.sc (.int .i64 n.num),.sc (.int .i64 n.pos),.slice .imm 1 (n.names.map txSV),.slice .imm 6 (n.kids.map ndSV)]
theorem ndSV_eq (n : Nd) : ndSV n = .agg [.sc (.int .i64 n.kind),.sc (.string (ba n.text)),.sc (.int .i64 n.num),.sc (.int .i64 n.pos),.slice .imm 1 (n.names.map txSV),.slice .imm 6 (n.kids.map ndSV)] := by
  cases n; simp [ndSV,ndSVs_eq,Nd.kind,Nd.text,Nd.num,Nd.pos,Nd.names,Nd.kids,txSV,Function.comp_def]
theorem cells_nd (n : Nd) : (ndSV n).cells = [.sc (.int .i64 n.kind),.sc (.string (ba n.text)),.sc (.int .i64 n.num),.sc (.int .i64 n.pos),.slice .imm 1 (n.names.map txSV),.slice .imm 6 (n.kids.map ndSV)] := by rw [ndSV_eq]; rfl
theorem cells_tk (t : Tk) : (tkSV t).cells = [.sc (.int .i64 t.kind),.sc (.string (ba t.text)),.sc (.int .i64 t.num),.sc (.int .i64 t.pos)] := rfl
def psL (T : List Tk) (p : PS) : List SV := [.slice .imm 4 (T.map tkSV),.sc (.int .i64 p.pos),.sc (.int .i64 p.deep),.sc (.bool p.flat),.sc (.int .i64 p.bad),.sc (.int .i64 p.e)]
def PAt (T : List Tk) (pid : Nat) (p : PS) (st : St) : Prop := st[pid]? = some (.cells (psL T p))
theorem norm_nd (n : Nd) : norm (ndSV n) = ndSV n := by rw [ndSV_eq]; rfl
theorem norm1_nd (n : Nd) : norm1 (ndSV n) = ndSV n := by rw [ndSV_eq]; rfl
theorem shape_nd (n : Nd) : shapeOk (ndSV n) = true := by rw [ndSV_eq]; rfl
theorem elem_nd (n : Nd) : elemOk (ndSV n) = true := by rw [ndSV_eq]; rfl
theorem strip_nd (n : Nd) : strip (ndSV n) = ndSV n := by rw [ndSV_eq]; rfl
theorem gIf_nd (n : Nd) (p : Prop) : gIf p (ndSV n) = True := by rw [ndSV_eq]; rfl
theorem nd_len (n : Nd) : (ndSV n).cells.length = 6 := by rw [cells_nd]; rfl
theorem all_nd (n : Nd) : (ndSV n).cells.all cellOk = true := elem_nd n
theorem cellsOf_nd {P : Program} {t : TypeId} (n : Nd) (h1 : aAgg P t = some true) (h2 : aSize P t = some 6) : cellsOf P t (ndSV n).cells = some (ndSV n) := by
  rw [cells_nd,ndSV_eq]
  simp [cellsOf,h1,h2]
theorem ids_tk (n : Nat) (t : Tk) : Ids n (tkSV t) = True := eq_true (by
  unfold tkSV; simp only [ids_agg,List.forall_mem_cons,ids_sc,true_and]; exact fun x hx => by cases hx)
theorem ids_txs (n : Nat) (m : AL.Mode) (hm : m = .imm ∨ m = .full) (z : Nat) (l : List Tx) : Ids n (.slice m z (l.map txSV)) :=
  ids_slice hm fun x hx y hy => by
    obtain ⟨t,_,rfl⟩ := List.mem_map.1 hx
    simp only [txSV,SV.cells,List.mem_singleton] at hy
    subst hy; exact .sc _
mutual
theorem ids_nd (n : Nat) : ∀ x : Nd,Ids n (ndSV x)
  | .mk k t m a ns ks => by
    simp only [ndSV,ids_agg,List.forall_mem_cons,ids_sc,true_and]
    exact ⟨ids_txs n _ (.inl rfl) 1 ns,ids_slice (.inl rfl) (ids_ndL n ks),fun x hx => by cases hx⟩
theorem ids_ndL (n : Nat) : ∀ l : List Nd,∀ x ∈ ndSVs l,∀ y ∈ x.cells,Ids n y
  | [] => fun x hx => by cases hx
  | a :: r => fun x hx y hy => by
    simp only [ndSVs,List.mem_cons] at hx
    rcases hx with rfl | hx
    · have := ids_nd n a
      rw [ndSV_eq,ids_agg] at this
      rw [cells_nd] at hy
      exact this y hy
    · exact ids_ndL n r x hx y hy
end
theorem ids_nds (n : Nat) (m : AL.Mode) (hm : m = .imm ∨ m = .full) (z : Nat) (l : List Nd) : Ids n (.slice m z (l.map ndSV)) := by
  have := ids_ndL n l
  rw [ndSVs_eq] at this
  exact ids_slice hm this
theorem tl_ba (l : Tx) : ByteArray.toList (ba l) = l := by rw [ByteArray.toList_eq]
theorem tl_mk (a : Array UInt8) : ByteArray.toList ⟨a⟩ = a.toList := by rw [ByteArray.toList_eq]
theorem objs_ps (n : Nat) (T : List Tk) (p : PS) : ObIds n (.cells (psL T p)) := by
  have : ∀ x ∈ psL T p,Ids n x := by
    unfold psL
    simp only [List.forall_mem_cons,ids_sc,true_and]
    refine ⟨ids_slice (.inl rfl) fun x hx y hy => ?_,fun x hx => by cases hx⟩
    obtain ⟨t,_,rfl⟩ := List.mem_map.1 hx
    rw [cells_tk] at hy
    simp only [List.mem_cons,List.not_mem_nil,or_false] at hy
    rcases hy with rfl | rfl | rfl | rfl <;> exact .sc _
  exact fun j hj => this _ (by
    rw [List.getD_eq_getElem?_getD,List.getElem?_eq_getElem hj]
    exact List.getElem_mem hj)
theorem set_id {T : List Tk} {pid : Nat} {p : PS} {st : St} (hp : PAt T pid p st) : st.set pid (.cells (psL T p)) = st := by
  obtain ⟨h1,h2⟩ := List.getElem?_eq_some_iff.1 hp
  rw [← h2,List.set_getElem_self]
theorem psat_set {T : List Tk} {pid : Nat} {p p' : PS} {st : St} (hp : PAt T pid p st) : PAt T pid p' (st.set pid (.cells (psL T p'))) := set_get (lt_of_get hp)
theorem psat_seta {T : List Tk} {pid : Nat} {p p' : PS} {st ex : St} (hp : PAt T pid p st) : PAt T pid p' (st.set pid (.cells (psL T p')) ++ ex) := get_app (psat_set hp) ex
theorem psat_app {T : List Tk} {pid : Nat} {p : PS} {st ex : St} (hp : PAt T pid p st) : PAt T pid p (st ++ ex) := get_app hp ex
theorem ids_none (n : Nat) : Ids n (oneOf []) = True := eq_true (.tuple _ (by intro i hi; cases hi))
theorem ids_scv (v : Value) (n : Nat) : Ids n (.sc v) = True := eq_true (.sc _)
theorem fin_m0 {st : St} {K : SV → St → Prop} {x y : SV} {ex : St} (hi : ∀ n,Ids n y = True) (hk : K y st) (hx : norm x = y) : FinM st K x (st ++ ex) := by
  subst hx; exact ⟨st,ex,rfl,Mod.refl _,by rw [hi]; trivial,hk⟩
theorem fin_z {T : List Tk} {pid : Nat} {p : PS} {st : St} {K : SV → St → Prop} {x y : SV} {ex : St} (hp : PAt T pid p st) (hi : ∀ n,Ids n y = True) (hk : K y (st.set pid (.cells (psL T p)))) (hx : norm x = y) : FinM st K x (st ++ ex) :=
  fin_m0 hi (by rw [set_id hp] at hk; exact hk) hx
theorem fin_z1 {T : List Tk} {pid : Nat} {p : PS} {st : St} {K : SV → St → Prop} {x y : SV} (hp : PAt T pid p st) (hi : ∀ n,Ids n y = True) (hk : K y (st.set pid (.cells (psL T p)))) (hx : norm x = y) : FinM st K x st := by
  have := fin_z (ex := []) hp hi hk hx
  rwa [List.append_nil] at this
theorem fin_m {T : List Tk} {pid : Nat} {p' : PS} {st : St} {K : SV → St → Prop} {x y : SV} {ex : St} (hi : ∀ n,Ids n y = True) (hk : K y (st.set pid (.cells (psL T p')))) (hx : norm x = y) : FinM st K x (st.set pid (.cells (psL T p')) ++ ex) := by
  subst hx; exact ⟨_,ex,rfl,(Mod.refl _).set _ _ (objs_ps _ _ _),by rw [hi]; trivial,hk⟩
theorem fin_m1 {T : List Tk} {pid : Nat} {p' : PS} {st : St} {K : SV → St → Prop} {x y : SV} (hi : ∀ n,Ids n y = True) (hk : K y (st.set pid (.cells (psL T p')))) (hx : norm x = y) : FinM st K x (st.set pid (.cells (psL T p'))) := by
  subst hx; exact ⟨_,[],(List.append_nil _).symm,(Mod.refl _).set _ _ (objs_ps _ _ _),by rw [hi]; trivial,hk⟩
theorem fin_pure {st : St} {K : SV → St → Prop} {x : SV} {ex : St} (hi : Ids st.length (norm x) = True) (hk : K (norm x) st) : FinK st K x (st ++ ex) := ⟨⟨ex,rfl⟩,by rw [hi]; trivial,hk⟩
attribute [go_sem] tkSV tl_ba tl_mk norm_nd norm1_nd shape_nd elem_nd strip_nd gIf_nd nd_len all_nd cellsOf_nd
end Go.AL
namespace Go.AL
def ndFull (k : Int) (t : Tx) (m a : Int) (x : SV) : SV := .agg [.sc (.int .i64 k),.sc (.string (ba t)),.sc (.int .i64 m),.sc (.int .i64 a),.slice .full 0 [],x]
theorem le_nds {m : AL.Mode} {z : Nat} {l : List Nd} (hz : z = 6 ∨ l = []) : SVle (norm1 (.slice m z (l.map ndSV))) (.slice .imm 6 (l.map ndSV)) := by
  rcases hz with rfl | rfl
  · exact SVle.refl _
  · exact SVle.nil .imm _ _ (.inr rfl)
theorem le_tx2 {m : AL.Mode} {z : Nat} {l : List Tx} (hz : z = 1 ∨ l = []) : SVle (norm1 (.slice m z (l.map txSV))) (.slice .imm 1 (l.map txSV)) := by
  rcases hz with rfl | rfl
  · exact SVle.refl _
  · exact SVle.nil .imm _ _ (.inr rfl)
def ndRaw (m1 m2 : AL.Mode) (z1 z2 : Nat) (n : Nd) : SV := .agg [.sc (.int .i64 n.kind),.sc (.string (ba n.text)),.sc (.int .i64 n.num),.sc (.int .i64 n.pos),.slice m1 z1 (n.names.map txSV),.slice m2 z2 (n.kids.map ndSV)]
theorem le_raw {m1 m2 : AL.Mode} {z1 z2 : Nat} {n : Nd} (h1 : z1 = 1 ∨ n.names = []) (h2 : z2 = 6 ∨ n.kids = []) : SVle (norm (ndRaw m1 m2 z1 z2 n)) (ndSV n) := by
  rw [ndSV_eq]
  exact SVle.agg (.cons (SVle.refl _) (.cons (SVle.refl _) (.cons (SVle.refl _) (.cons (SVle.refl _) (.cons (le_tx2 h1) (.cons (le_nds h2) .nil))))))
theorem ids_raw {m1 m2 : AL.Mode} {z1 z2 : Nat} {nd : Nd} (n : Nat) : Ids n (norm (ndRaw m1 m2 z1 z2 nd)) := by
  show Ids n (.agg _)
  rw [ids_agg]
  simp only [norm1,List.map_cons,List.map_nil,List.forall_mem_cons,ids_sc,true_and]
  exact ⟨ids_txs n _ (.inl rfl) z1 _,ids_nds n _ (.inl rfl) z2 _,fun x hx => by cases hx⟩
def LeK (K : SV → St → Prop) : SV → St → Prop := fun x s => ∃ y,SVle x y ∧ K y s
theorem acalls_leK {P : Program} {f : FuncId} {args : List SV} {K : SV → St → Prop} {st : St} (h : ACalls P f args (LeK K) st) : ACalls P f args K st := acalls_le h
theorem fin_nd {T : List Tk} {pid : Nat} {p' : PS} {nd : Nd} {st : St} {K : SV → St → Prop} {m1 m2 : AL.Mode} {z1 z2 : Nat} (hk : K (ndSV nd) (st.set pid (.cells (psL T p')))) (h1 : z1 = 1 ∨ nd.names = []) (h2 : z2 = 6 ∨ nd.kids = []) {ex : St} :
    FinM st (LeK K) (ndRaw m1 m2 z1 z2 nd) (st.set pid (.cells (psL T p')) ++ ex) :=
  ⟨_,ex,rfl,(Mod.refl _).set _ _ (objs_ps _ _ _),ids_raw _,_,le_raw h1 h2,hk⟩
theorem fin_ndz {T : List Tk} {pid : Nat} {p' : PS} {nd : Nd} {st : St} {K : SV → St → Prop} {m1 m2 : AL.Mode} {z1 z2 : Nat} (hp : PAt T pid p' st) (hk : K (ndSV nd) (st.set pid (.cells (psL T p')))) (h1 : z1 = 1 ∨ nd.names = []) (h2 : z2 = 6 ∨ nd.kids = []) {ex : St} :
    FinM st (LeK K) (ndRaw m1 m2 z1 z2 nd) (st ++ ex) := by
  have := fin_nd (m1 := m1) (m2 := m2) (z1 := z1) (z2 := z2) hk h1 h2 (ex := ex)
  rwa [set_id hp] at this
theorem fin_nd' {T : List Tk} {pid : Nat} {p' : PS} {nd : Nd} {st : St} {K : SV → St → Prop} (hk : K (ndSV nd) (st.set pid (.cells (psL T p')))) {ex : St} :
    FinM st (LeK K) (ndSV nd) (st.set pid (.cells (psL T p')) ++ ex) :=
  ⟨_,ex,rfl,(Mod.refl _).set _ _ (objs_ps _ _ _),by rw [norm_nd]; exact ids_nd _ _,_,by rw [norm_nd]; exact SVle.refl _,hk⟩
end Go.AL
namespace Go.AL
theorem ak_kind (n c : Nd) : (n.addKid c).kind = n.kind := by cases n; rfl
theorem ak_text (n c : Nd) : (n.addKid c).text = n.text := by cases n; rfl
theorem ak_num (n c : Nd) : (n.addKid c).num = n.num := by cases n; rfl
theorem ak_pos (n c : Nd) : (n.addKid c).pos = n.pos := by cases n; rfl
theorem ak_names (n c : Nd) : (n.addKid c).names = n.names := by cases n; rfl
theorem ak_kids (n c : Nd) : (n.addKid c).kids = n.kids ++ [c] := by cases n; rfl
def ndOwn (kid ver : Nat) (n : Nd) : List SV := [.sc (.int .i64 n.kind),.sc (.string (ba n.text)),.sc (.int .i64 n.num),.sc (.int .i64 n.pos),.slice .full 0 [],.slice (.own kid ver) 6 (n.kids.map ndSV)]
def zNd : List SV := [.sc (.int .i64 0),.sc (.string ⟨#[]⟩),.sc (.int .i64 0),.sc (.int .i64 0),.slice .full 0 [],.slice .full 0 []]
theorem own_add (kid ver : Nat) (n c : Nd) : ndOwn kid ver (n.addKid c) = [.sc (.int .i64 n.kind),.sc (.string (ba n.text)),.sc (.int .i64 n.num),.sc (.int .i64 n.pos),.slice .full 0 [],.slice (.own kid ver) 6 (n.kids.map ndSV ++ [ndSV c])] := by
  unfold ndOwn; rw [ak_kind,ak_text,ak_num,ak_pos,ak_kids]; simp
theorem fin_own {T : List Tk} {pid kid ver : Nat} {p' : PS} {nd : Nd} {st : St} {K : SV → St → Prop} (hk : K (ndSV nd) (st.set pid (.cells (psL T p')))) (hnm : nd.names = []) {ex : St} :
    FinM st (LeK K) (.agg (ndOwn kid ver nd)) (st.set pid (.cells (psL T p')) ++ ex) := by
  have := fin_nd (m1 := .full) (m2 := .own kid ver) (z1 := 0) (z2 := 6) hk (.inr hnm) (.inl rfl) (ex := ex)
  unfold ndRaw at this
  rw [hnm] at this
  exact this
theorem get_sx {st ex : St} {pid : Nat} {X : Ob} (k : Nat) : (st.set pid X ++ ex)[st.length + k]? = ex[k]? := by
  rw [List.getElem?_append_right (by simp)]; simp
theorem set_sx {st ex : St} {pid : Nat} {X Y : Ob} (k : Nat) : (st.set pid X ++ ex).set (st.length + k) Y = st.set pid X ++ ex.set k Y := by
  rw [List.set_append_right _ _ (by simp)]; simp
theorem len_sx {st : St} {pid : Nat} {X : Ob} : (st.set pid X).length = st.length := by simp
end Go.AL
namespace Go.AL
theorem an_kind (n : Nd) (c : Tx) : (n.addName c).kind = n.kind := by cases n; rfl
theorem an_text (n : Nd) (c : Tx) : (n.addName c).text = n.text := by cases n; rfl
theorem an_num (n : Nd) (c : Tx) : (n.addName c).num = n.num := by cases n; rfl
theorem an_pos (n : Nd) (c : Tx) : (n.addName c).pos = n.pos := by cases n; rfl
theorem an_names (n : Nd) (c : Tx) : (n.addName c).names = n.names ++ [c] := by cases n; rfl
theorem an_kids (n : Nd) (c : Tx) : (n.addName c).kids = n.kids := by cases n; rfl
def ndOwn2 (nid nver kid kver : Nat) (n : Nd) : List SV := [.sc (.int .i64 n.kind),.sc (.string (ba n.text)),.sc (.int .i64 n.num),.sc (.int .i64 n.pos),.slice (.own nid nver) 1 (n.names.map txSV),.slice (.own kid kver) 6 (n.kids.map ndSV)]
theorem fin_own2 {T : List Tk} {pid nid nver kid kver : Nat} {p' : PS} {nd : Nd} {st : St} {K : SV → St → Prop} (hk : K (ndSV nd) (st.set pid (.cells (psL T p')))) {ex : St} :
    FinM st (LeK K) (.agg (ndOwn2 nid nver kid kver nd)) (st.set pid (.cells (psL T p')) ++ ex) :=
  fin_nd (m1 := .own nid nver) (m2 := .own kid kver) (z1 := 1) (z2 := 6) hk (.inl rfl) (.inl rfl) (ex := ex)
def ndE (r : Nd) : SV := ndRaw .full .full 0 0 r
end Go.AL
