/- rest: cores whose Kids come first. -/
import Derived.Test.YtammbegfobhflaaGreatW6
import Derived.Shelf.Strings.Search3
import Derived.Test.YtammbegfobhflaaGreatA9
set_option linter.all false
set_option linter.unusedSimpArgs false
set_option linter.unusedVariables false
set_option maxRecDepth 8000
namespace Go.Proofs
open Go Go.AL
theorem Tryz.zero3 : zeroSV Tryz.prog 3 = some (i64 0) := by kernel_rfl
theorem get_num {T : St} (l : List (Int × Int)) (k : Int) : mapGet Tryz.prog 100 (T ++ [.map (numMap l)]) (.mp T.length) (i64 k) = some (i64 (lookL l k), (l.any fun p => p.1 == k)) := by
  rw [mapGet_int Tryz.amap100 Tryz.zero3 (by simp [mapAt]) (numMap_int l), getOr_num]
theorem ids_args (n : Nat) (l : List Int) : Ids n (.slice .full 1 (l.map i64)) := ids_i64s n _ (.inr rfl) l
theorem look_s {l : List (List Nat × St)} {x : List Nat} {t : St} : AL.look ((x, t) :: l) x = t := by
  have : eqN x x = true := by induction x with | nil => rfl | cons a r ih => simp [eqN, ih]
  simp [AL.look, this]
section
variable {Pc : Co → Prop} {E : Co → Bool → GS → GS} {s : St} {L : WL} {g : GS} {v : GV}
set_option maxHeartbeats 4000000 in
theorem rest_c (hE : HasE Pc E) (hF : FineE E) (hA : AtW s L g v) (c : Co) (hc : ∀ k ∈ c.kids, Pc k) (hl : c.kids.length ≤ 1000000) (hg : okG g) (K : SV → St → Prop)
    (h : ∀ v', K (.tuple []) (stW s L (restG E c g) v')) : ACalls Tryz.prog 24 [.ptr L.w 0, .agg [i64 c.kind, i64 c.number, str c.text, cosSV c.kids, i64 0, .slice .imm 1 [], .slice .imm 6 [], .slice .imm 4 [], bdsSV c.binds]] K s := by
  have a := gd_kids hF c.kids hg
  unfold restG at h
  refine acalls_go_mod [] Tryz.func24 rfl Tryz.results24 Tryz.ntmps24 ?_
  simp only [go_sem]
  refine kids_c hE hF hA c hc hl hg _ fun v1 => ?_
  obtain ⟨g1, hg1⟩ : ∃ g1, kidsG E c.kids g = g1 := ⟨_, rfl⟩
  simp only [hg1] at h a ⊢
  simp only [go_sem]
  obtain ⟨T, hT⟩ : ∃ T, stW s L g1 v1 = T := ⟨_, rfl⟩
  have hAT : AtW T L g1 v1 := by rw [← hT]; exact hA.turn _ _
  rw [hT]
  refine awp_drawD [] [0] [([], T), ([0], T ++ [Ob.map (numMap plainL)])] [[[]], [[], [0]], [[], [0]], [[0]], [[0]], [[0]]] Tryz.mixed rfl rfl rfl rfl rfl ?_
  refine dD_t1 (d := [0]) rfl rfl (.mp (List.length T)) rfl (by simp only [go_sem]; exact plain_c _ _ ⟨rfl, rfl⟩) ?_
  refine dD_p2 rfl (.ref [i64 c.kind]) (by simp only [go_sem]) (by simp only [go_sem]) ?_
  refine dD_p2 rfl (i64 c.kind) (by simp only [go_sem]) (by simp only [go_sem]) ?_
  refine dD_p1 rfl (i64 (lookL plainL c.kind)) ?_ ?_
  · show d1Spec Tryz.prog _ _ _ _ (T ++ [.map (numMap plainL)]) _
    simp only [go_sem, get_num]
  refine dD_p1 rfl (.sc (.bool (decide (0 < lookL plainL c.kind)))) (by simp only [go_sem]) ?_
  refine dD_p1 rfl (.sc (.bool (decide (0 < lookL plainL c.kind)))) (by simp only [go_sem]) ?_
  refine dD_end ?_
  obtain ⟨T1, hT1⟩ : ∃ t, T ++ [Ob.map (numMap plainL)] = t := ⟨_, rfl⟩
  have hAT1 : AtW T1 L g1 v1 := by rw [← hT1]; exact hAT.app _
  rw [show AL.look [([], T), ([0], T ++ [Ob.map (numMap plainL)])] [0] = T1 from hT1]
  by_cases k1 : 0 < plainO c.kind
  · have b1 : decide (0 < lookL plainL c.kind) = true := decide_eq_true k1
    rw [if_pos k1] at h
    simp only [go_sem, b1]
    refine awp_drawD [] [1, 5] [([], T1), ([1], (T1 ++ [Ob.map (numMap plainL)])), ([1, 5], stW (T1 ++ [Ob.map (numMap plainL)]) L (putG (lookL plainL c.kind) (0) (0) g1) (putV g1 v1))] [[[], [1]], [[]], [[], [1]], [[], [1]], [[1]], [[1]]] Tryz.mixed rfl rfl rfl rfl rfl ?_
    refine dD_p2 rfl (.ptr L.w 0) (by simp only [go_sem]) (by simp only [go_sem]) ?_
    refine dD_t1 (d := [1]) rfl rfl (.mp (List.length T1)) rfl (by simp only [go_sem]; exact plain_c _ _ ⟨rfl, rfl⟩) ?_
    refine dD_p2 rfl (.ref [i64 c.kind]) (by simp only [go_sem]) (by simp only [go_sem]) ?_
    refine dD_p2 rfl (i64 c.kind) (by simp only [go_sem]) (by simp only [go_sem]) ?_
    refine dD_p1 rfl (i64 (lookL plainL c.kind)) ?_ ?_
    · show d1Spec Tryz.prog _ _ _ _ (T1 ++ [Ob.map (numMap plainL)]) _
      simp only [go_sem, get_num]
    refine dD_t1 (d := [1, 5]) rfl rfl (i64 (atG (putG (lookL plainL c.kind) (0) (0) g1) : Nat)) rfl ?_ ?_
    · show effSpec Tryz.prog _ _ _ (T1 ++ [Ob.map (numMap plainL)]) _
      simp only [go_sem]
      exact put_k (hAT1.app _) _ _ 0 [] (fun h => absurd rfl h) (by simp) (by have := a.ok.1; omega) _ ⟨rfl, rfl⟩
    refine dD_end ?_
    simp only [go_sem, look_s]
    show FinM s K (.tuple []) (stW (T1 ++ [Ob.map (numMap plainL)]) L (putG (lookL plainL c.kind) (0) (0) g1) (putV g1 v1))
    rw [← hT1, ← hT, List.append_assoc, stW_sa hA]
    exact fin_tup hA (h _)
  have b1 : decide (0 < lookL plainL c.kind) = false := decide_eq_false k1
  rw [if_neg k1] at h
  simp only [go_sem, b1]
  refine awp_drawD [] [0] [([], T1), ([0], T1 ++ [Ob.map (numMap numberedL)])] [[[]], [[], [0]], [[], [0]], [[0]], [[0]], [[0]]] Tryz.mixed rfl rfl rfl rfl rfl ?_
  refine dD_t1 (d := [0]) rfl rfl (.mp (List.length T1)) rfl (by simp only [go_sem]; exact numbered_c _ _ ⟨rfl, rfl⟩) ?_
  refine dD_p2 rfl (.ref [i64 c.kind]) (by simp only [go_sem]) (by simp only [go_sem]) ?_
  refine dD_p2 rfl (i64 c.kind) (by simp only [go_sem]) (by simp only [go_sem]) ?_
  refine dD_p1 rfl (i64 (lookL numberedL c.kind)) ?_ ?_
  · show d1Spec Tryz.prog _ _ _ _ (T1 ++ [.map (numMap numberedL)]) _
    simp only [go_sem, get_num]
  refine dD_p1 rfl (.sc (.bool (decide (0 < lookL numberedL c.kind)))) (by simp only [go_sem]) ?_
  refine dD_p1 rfl (.sc (.bool (decide (0 < lookL numberedL c.kind)))) (by simp only [go_sem]) ?_
  refine dD_end ?_
  obtain ⟨T2, hT2⟩ : ∃ t, T1 ++ [Ob.map (numMap numberedL)] = t := ⟨_, rfl⟩
  have hAT2 : AtW T2 L g1 v1 := by rw [← hT2]; exact hAT1.app _
  rw [show AL.look [([], T1), ([0], T1 ++ [Ob.map (numMap numberedL)])] [0] = T2 from hT2]
  by_cases k2 : 0 < numO c.kind
  · have b2 : decide (0 < lookL numberedL c.kind) = true := decide_eq_true k2
    rw [if_pos k2] at h
    simp only [go_sem, b2]
    refine awp_drawD [] [1, 8] [([], T2), ([1], (T2 ++ [Ob.map (numMap numberedL)])), ([1, 8], stW (T2 ++ [Ob.map (numMap numberedL)]) L (putG (lookL numberedL c.kind) (c.number) (0) g1) (putV g1 v1))] [[[], [1]], [[]], [[], [1]], [[], [1]], [[1]], [[], [1]], [[], [1]], [[], [1]], [[1]]] Tryz.mixed rfl rfl rfl rfl rfl ?_
    refine dD_p2 rfl (.ptr L.w 0) (by simp only [go_sem]) (by simp only [go_sem]) ?_
    refine dD_t1 (d := [1]) rfl rfl (.mp (List.length T2)) rfl (by simp only [go_sem]; exact numbered_c _ _ ⟨rfl, rfl⟩) ?_
    refine dD_p2 rfl (.ref [i64 c.kind]) (by simp only [go_sem]) (by simp only [go_sem]) ?_
    refine dD_p2 rfl (i64 c.kind) (by simp only [go_sem]) (by simp only [go_sem]) ?_
    refine dD_p1 rfl (i64 (lookL numberedL c.kind)) ?_ ?_
    · show d1Spec Tryz.prog _ _ _ _ (T2 ++ [Ob.map (numMap numberedL)]) _
      simp only [go_sem, get_num]
    refine dD_p2 rfl (.ref [i64 c.number]) (by simp only [go_sem]) (by simp only [go_sem]) ?_
    refine dD_p2 rfl (i64 c.number) (by simp only [go_sem]) (by simp only [go_sem]) ?_
    refine dD_p2 rfl (.slice .full 1 [i64 c.number]) (by simp only [go_sem]; refine ⟨_, ?_, rfl⟩; simp only [go_sem]; exact ⟨⟨[], by simp⟩, ids_args _ [c.number], .inl rfl⟩) (by simp only [go_sem]; refine ⟨_, ?_, rfl⟩; simp only [go_sem]; exact ⟨⟨[], by simp⟩, ids_args _ [c.number], .inl rfl⟩) ?_
    refine dD_t1 (d := [1, 8]) rfl rfl (i64 (atG (putG (lookL numberedL c.kind) (c.number) (0) g1) : Nat)) rfl ?_ ?_
    · show effSpec Tryz.prog _ _ _ (T2 ++ [Ob.map (numMap numberedL)]) _
      simp only [go_sem]
      exact put_k (hAT2.app _) _ _ 1 [c.number] (fun _ => rfl) (by simp) (by have := a.ok.1; omega) _ ⟨rfl, rfl⟩
    refine dD_end ?_
    simp only [go_sem, look_s]
    show FinM s K (.tuple []) (stW (T2 ++ [Ob.map (numMap numberedL)]) L (putG (lookL numberedL c.kind) (c.number) (0) g1) (putV g1 v1))
    rw [← hT2, ← hT1, ← hT, List.append_assoc, List.append_assoc, stW_sa hA]
    exact fin_tup hA (h _)
  have b2 : decide (0 < lookL numberedL c.kind) = false := decide_eq_false k2
  rw [if_neg k2] at h
  simp only [go_sem, b2]
  refine awp_drawD [] [1, 11] [([], T2), ([1], (T2 ++ [Ob.map (numMap countedL)])), ([1, 11], stW (T2 ++ [Ob.map (numMap countedL)]) L (putG (lookL countedL c.kind) (c.number) (c.kids.length) g1) (putV g1 v1))] [[[], [1]], [[]], [[], [1]], [[], [1]], [[1]], [[], [1]], [[], [1]], [[], [1]], [[], [1]], [[], [1]], [[], [1]], [[1]]] Tryz.mixed rfl rfl rfl rfl rfl ?_
  refine dD_p2 rfl (.ptr L.w 0) (by simp only [go_sem]) (by simp only [go_sem]) ?_
  refine dD_t1 (d := [1]) rfl rfl (.mp (List.length T2)) rfl (by simp only [go_sem]; exact counted_c _ _ ⟨rfl, rfl⟩) ?_
  refine dD_p2 rfl (.ref [i64 c.kind]) (by simp only [go_sem]) (by simp only [go_sem]) ?_
  refine dD_p2 rfl (i64 c.kind) (by simp only [go_sem]) (by simp only [go_sem]) ?_
  refine dD_p1 rfl (i64 (lookL countedL c.kind)) ?_ ?_
  · show d1Spec Tryz.prog _ _ _ _ (T2 ++ [Ob.map (numMap countedL)]) _
    simp only [go_sem, get_num]
  refine dD_p2 rfl (.ref [i64 c.number]) (by simp only [go_sem]) (by simp only [go_sem]) ?_
  refine dD_p2 rfl (i64 c.number) (by simp only [go_sem]) (by simp only [go_sem]) ?_
  refine dD_p2 rfl (.ref [.slice .imm 9 (c.kids.map coSV)]) (by simp only [go_sem]) (by simp only [go_sem]) ?_
  refine dD_p2 rfl (.slice .imm 9 (c.kids.map coSV)) (by simp only [go_sem]) (by simp only [go_sem]) ?_
  refine dD_p2 rfl (i64 c.kids.length) (by simp only [go_sem, List.length_map]) (by simp only [go_sem, List.length_map]) ?_
  refine dD_p2 rfl (.slice .full 1 [i64 c.number, i64 c.kids.length]) (by simp only [go_sem]; refine ⟨_, ?_, rfl⟩; simp only [go_sem]; exact ⟨⟨[], by simp⟩, ids_args _ [c.number, c.kids.length], .inl rfl⟩) (by simp only [go_sem]; refine ⟨_, ?_, rfl⟩; simp only [go_sem]; exact ⟨⟨[], by simp⟩, ids_args _ [c.number, c.kids.length], .inl rfl⟩) ?_
  refine dD_t1 (d := [1, 11]) rfl rfl (i64 (atG (putG (lookL countedL c.kind) (c.number) (c.kids.length) g1) : Nat)) rfl ?_ ?_
  · show effSpec Tryz.prog _ _ _ (T2 ++ [Ob.map (numMap countedL)]) _
    simp only [go_sem]
    exact put_k (hAT2.app _) _ _ 1 [c.number, c.kids.length] (fun _ => rfl) (by simp) (by have := a.ok.1; omega) _ ⟨rfl, rfl⟩
  refine dD_end ?_
  simp only [go_sem, look_s]
  show FinM s K (.tuple []) (stW (T2 ++ [Ob.map (numMap countedL)]) L (putG (lookL countedL c.kind) (c.number) (c.kids.length) g1) (putV g1 v1))
  rw [← hT2, ← hT1, ← hT, List.append_assoc, List.append_assoc, stW_sa hA]
  exact fin_tup hA (h _)
end
end Go.Proofs
set_option linter.unusedSimpArgs false
set_option linter.unusedVariables false
set_option maxRecDepth 8000
namespace Go.Proofs
open Go Go.AL Go.Shelf
def Tryz.lays143_ren : Go.Shelf.Ren := ⟨fun | 143 => 23 | 219 => 49 | 217 => 68 | 225 => 69 | 224 => 70 | 267 => 71 | 266 => 90 | 314 => 91 | n => n, fun | 9 => 9 | 4 => 4 | 3 => 3 | 5 => 5 | 46 => 132 | 146 => 162 | 51 => 161 | n => n, fun | 1 => 0 | n => n⟩
theorem Tryz.lays143 : Go.Proofs.Lays.n143 Tryz.prog Tryz.lays143_ren := {
  mixed := by kernel_rfl
  f143 := Tryz.func23.trans (congrArg some (by kernel_rfl))
  f217 := Tryz.func68.trans (congrArg some (by kernel_rfl))
  f219 := Tryz.func49.trans (congrArg some (by kernel_rfl))
  f224 := Tryz.func70.trans (congrArg some (by kernel_rfl))
  f225 := Tryz.func69.trans (congrArg some (by kernel_rfl))
  f266 := Tryz.func90.trans (congrArg some (by kernel_rfl))
  f267 := Tryz.func71.trans (congrArg some (by kernel_rfl))
  f314 := Tryz.func91.trans (congrArg some (by kernel_rfl))
  t3 := Tryz.underlying3
  a3 := Tryz.isAgg3
  z3 := Tryz.sizeOf3
  v3 := Tryz.zeroValue3
  t4 := Tryz.underlying4
  a4 := Tryz.isAgg4
  z4 := Tryz.sizeOf4
  v4 := Tryz.zeroValue4
  t5 := Tryz.underlying5
  a5 := Tryz.isAgg5
  z5 := Tryz.sizeOf5
  v5 := Tryz.zeroValue5
  t9 := Tryz.underlying9
  a9 := Tryz.isAgg9
  z9 := Tryz.sizeOf9
  v9 := Tryz.zeroValue9
  t46 := Tryz.underlying132
  a46 := Tryz.isAgg132
  z46 := Tryz.sizeOf132
  v46 := Tryz.zeroValue132
  t51 := Tryz.underlying161
  a51 := Tryz.isAgg161
  z51 := Tryz.sizeOf161
  v51 := Tryz.zeroValue161
  t146 := Tryz.underlying162
  a146 := Tryz.isAgg162
  z146 := Tryz.sizeOf162
  v146 := Tryz.zeroValue162
  g1 := by kernel_rfl }
theorem index_s {s : St} (hg : ∃ (gid : Nat) (m : Int), s[gid]? = some (Ob.glob 0 (.int .i64 m))) (t : ByteArray) {K : SV → St → Prop} (hk : K (i64 (signO t)) s) : ACalls Tryz.prog 23 [str ⟨⟨signsL⟩⟩, str t] K s := by
  obtain ⟨gid, m, hst⟩ := hg
  refine acalls_of_calls (fun _ _ _ => .sc _) hk fun σ w vs hI hR => ?_
  rw [args_sc2 hR]
  have := Any.strings_Index Tryz.lays143 ⟨⟨signsL⟩⟩ t m w (by decide) (hI.glob hst)
  exact this
section
variable {Pc : Co → Prop} {E : Co → Bool → GS → GS} {s : St} {L : WL} {g : GS} {v : GV}
end
end Go.Proofs
set_option linter.unusedSimpArgs false
set_option linter.unusedVariables false
set_option maxRecDepth 8000
namespace Go.Proofs
open Go Go.AL
theorem Tryz.zero24 : zeroSV Tryz.prog 23 = some (.slice .full 0 []) := by kernel_rfl
section
variable {Pc : Co → Prop} {E : Co → Bool → GS → GS} {T : St} {L : WL} {g : GS} {v : GV}
def rowEs (n p : Nat) : List (Value × SV) := [(.int .i64 0, .slice (.own n 0) 1 [i64 (p : Int)])]
theorem rowEs_int (n p : Nat) : IntKeys (rowEs n p) := by
  intro q hq
  simp only [rowEs, List.mem_singleton] at hq
  subst hq
  exact ⟨_, rfl⟩
/-- What stands behind a tree that is none. -/
def treeSt (T : St) (L : WL) (g : GS) (v : GV) : St :=
  if 400 < g.code.length then T ++ [.map []] else stW T L (putG 16 0 0 g) (putV g v) ++ [.map (rowEs (T.length + 1) (atG (putG 16 0 0 g))), .tok 0]
set_option maxHeartbeats 4000000 in
theorem tree0_c (hA : AtW T L g v) (loc : Int) (hg : okG g) (K : SV → St → Prop) (h : K (.tuple []) (treeSt T L g v)) :
    ACalls Tryz.prog 66 [.ptr L.w 0, .agg [i64 0, .slice .imm 1 [], .slice .imm 6 [], .slice .imm 4 []], i64 loc, .mp T.length, i64 60] K (T ++ [.map []]) := by
  have hA1 := hA.app [Ob.map []]
  obtain ⟨⟨w1, w2, w3⟩, -, ⟨a1, a2, a3, a4⟩, -, -⟩ := hA1.facts
  refine acalls_go (M := []) Tryz.func66 rfl Tryz.results66 Tryz.ntmps66 ?_
  unfold treeSt at h
  have b60 : ((60 : Int) == 0) = false := rfl
  have b00 : ((0 : Int) == 0) = true := rfl
  by_cases hc : 400 < g.code.length
  · have c1 : decide ((400 : Int) < (g.code.length : Int)) = true := by simp; omega
    rw [if_pos hc] at h
    simp only [go_sem, w1, w2, w3, a1, a2, a3, a4, wOb, c1, b60]
    exact h
  · have c1 : decide ((400 : Int) < (g.code.length : Int)) = false := by simp; omega
    rw [if_neg hc] at h
    simp only [go_sem, w1, w2, w3, a1, a2, a3, a4, wOb, c1, b60, b00, List.length_nil, n0]
    have hget : ∀ X : St, X.length = T.length → mapGet Tryz.prog 128 (X ++ [Ob.map []]) (.mp T.length) (i64 0) = some (.slice .full 0 [], false) := by
      intro X hX
      rw [← hX, mapGet_int Tryz.amap128 Tryz.zero24 (by simp [mapAt]) intKeys_nil]
      rfl
    have hg0 := hget T rfl
    have hg1 := hget (stW T L (putG 16 0 0 g) (putV g v)) stW_len
    refine awp_drawW [] [(0, [10, 11]), (0, [10, 11]), (0, [10, 11]), (0, [10]), (0, [10]), (0, [10]), (0, [10]), (0, []), (3, [10]), (0, []), (3, [11]), (3, [12])] Tryz.mixed rfl ?_
    simp only [go_sem, drawW_n, drawW_0, drawW_1, drawW_2, drawW_3, pend_n, pend_c, headD_c, isStore_s, hg0]
    refine ⟨_, _, put_k hA1 16 _ 0 [] (fun h => absurd rfl h) (by simp) (by have := hg.1; omega) _ ⟨rfl, rfl⟩, ?_⟩
    rw [stW_app hA]
    simp only [List.getD_cons_zero, List.getD_cons_succ, List.getD_nil]
    simp only [go_sem, drawW_n, drawW_0, drawW_1, drawW_2, drawW_3, pend_n, pend_c, headD_c, isStore_s, hg1]
    have hput : ∀ (X : St) (y : SV) (N : St → Prop), X.length = T.length → putSpec Tryz.prog 128 (X ++ [Ob.map [], Ob.tok 0]) (.mp T.length) (i64 0) y N = N (X ++ [Ob.map [(.int .i64 0, y)], Ob.tok 0]) := by
      intro X y N hX
      rw [← hX, put_int Tryz.amap128 (es := []) (by simp [mapAt]) intKeys_nil]
      simp [mapPut, keyIdx]
    rw [dk_eff]
    refine ⟨.slice .full 1 [i64 (atG (putG 16 0 0 g) : Nat)], ?_, ?_⟩
    · simp only [go_sem]
      exact ⟨⟨[], by simp⟩, ids_args _ [_], .inl rfl⟩
    simp only [go_sem, stW_len]
    refine ⟨_, _, ⟨Tryz.app24 (by omega), rfl, rfl⟩, ?_⟩
    simp only [go_sem, hput _ _ _ stW_len]
    exact ⟨_, _, ⟨rfl, rfl⟩, h⟩
end
end Go.Proofs
