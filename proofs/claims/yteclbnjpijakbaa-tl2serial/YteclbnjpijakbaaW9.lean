/- The engine: the keys of a map in order. -/
import Derived.Test.YteclbnjpijakbaaW8
import Derived.Test.YteclbnjpijakbaaA8
import Derived.Shelf.Sort.Plain
import Derived.Shelf.Slices.In.SortNone
set_option linter.unusedSimpArgs false
set_option linter.unusedVariables false
set_option maxRecDepth 8000
namespace Go.Proofs
open Go Go.AL Go.Shelf
def Try.lays189_ren : Go.Shelf.Ren := ⟨fun | 189 => 81 | 125 => 102 | 257 => 101 | 128 => 142 | 129 => 143 | 294 => 133 | 295 => 134 | 296 => 135 | 297 => 136 | 298 => 137 | 299 => 138 | 216 => 139 | 300 => 140 | 301 => 141 | 328 => 154 | 329 => 155 | 330 => 156 | 331 => 157 | 332 => 158 | 215 => 152 | 343 => 169 | n => n, fun | 28 => 29 | 3 => 3 | 46 => 167 | 0 => 0 | 51 => 198 | 53 => 200 | 4 => 4 | 183 => 192 | 182 => 191 | 131 => 102 | 5 => 5 | 9 => 9 | 218 => 210 | 222 => 214 | 228 => 225 | 229 => 226 | n => n, fun | n => n⟩
theorem Try.lays189 : Go.Proofs.Lays.n189 Try.prog Try.lays189_ren := {
  mixed := by kernel_rfl
  f125 := Try.func102.trans (congrArg some (by kernel_rfl))
  f128 := Try.func142.trans (congrArg some (by kernel_rfl))
  f129 := Try.func143.trans (congrArg some (by kernel_rfl))
  f189 := Try.func81.trans (congrArg some (by kernel_rfl))
  f215 := Try.func152.trans (congrArg some (by kernel_rfl))
  f216 := Try.func139.trans (congrArg some (by kernel_rfl))
  f257 := Try.func101.trans (congrArg some (by kernel_rfl))
  f294 := Try.func133.trans (congrArg some (by kernel_rfl))
  f295 := Try.func134.trans (congrArg some (by kernel_rfl))
  f296 := Try.func135.trans (congrArg some (by kernel_rfl))
  f297 := Try.func136.trans (congrArg some (by kernel_rfl))
  f298 := Try.func137.trans (congrArg some (by kernel_rfl))
  f299 := Try.func138.trans (congrArg some (by kernel_rfl))
  f300 := Try.func140.trans (congrArg some (by kernel_rfl))
  f301 := Try.func141.trans (congrArg some (by kernel_rfl))
  f328 := Try.func154.trans (congrArg some (by kernel_rfl))
  f329 := Try.func155.trans (congrArg some (by kernel_rfl))
  f330 := Try.func156.trans (congrArg some (by kernel_rfl))
  f331 := Try.func157.trans (congrArg some (by kernel_rfl))
  f332 := Try.func158.trans (congrArg some (by kernel_rfl))
  f343 := Try.func169.trans (congrArg some (by kernel_rfl))
  t0 := Try.underlying0
  a0 := Try.isAgg0
  z0 := Try.sizeOf0
  v0 := Try.zeroValue0
  t3 := Try.underlying3
  a3 := Try.isAgg3
  z3 := Try.sizeOf3
  v3 := Try.zeroValue3
  t4 := Try.underlying4
  a4 := Try.isAgg4
  z4 := Try.sizeOf4
  v4 := Try.zeroValue4
  t5 := Try.underlying5
  a5 := Try.isAgg5
  z5 := Try.sizeOf5
  v5 := Try.zeroValue5
  t9 := Try.underlying9
  a9 := Try.isAgg9
  z9 := Try.sizeOf9
  v9 := Try.zeroValue9
  t28 := Try.underlying29
  a28 := Try.isAgg29
  z28 := Try.sizeOf29
  v28 := Try.zeroValue29
  t46 := Try.underlying167
  a46 := Try.isAgg167
  z46 := Try.sizeOf167
  v46 := Try.zeroValue167
  t51 := Try.underlying198
  a51 := Try.isAgg198
  z51 := Try.sizeOf198
  v51 := Try.zeroValue198
  t53 := Try.underlying200
  a53 := Try.isAgg200
  z53 := Try.sizeOf200
  v53 := Try.zeroValue200
  t131 := Try.underlying102
  a131 := Try.isAgg102
  z131 := Try.sizeOf102
  v131 := Try.zeroValue102
  t182 := Try.underlying191
  a182 := Try.isAgg191
  z182 := Try.sizeOf191
  v182 := Try.zeroValue191
  t183 := Try.underlying192
  a183 := Try.isAgg192
  z183 := Try.sizeOf192
  v183 := Try.zeroValue192
  t218 := Try.underlying210
  a218 := Try.isAgg210
  z218 := Try.sizeOf210
  v218 := Try.zeroValue210
  t222 := Try.underlying214
  a222 := Try.isAgg214
  z222 := Try.sizeOf214
  v222 := Try.zeroValue214
  t228 := Try.underlying225
  a228 := Try.isAgg225
  z228 := Try.sizeOf225
  v228 := Try.zeroValue225
  t229 := Try.underlying226
  a229 := Try.isAgg226
  z229 := Try.sizeOf226
  v229 := Try.zeroValue226 }

theorem sort_c {st : St} {id ver : Nat} {zs : List Int} (hid : st[id]? = some (.arr ver 1 (zs.map i64))) (hlen : zs.length < 4611686018427387904) (K : SV → St → Prop)
    (h : K (.tuple []) (st.set id (.arr ver 1 ((zs.mergeSort fun x y => decide (x ≤ y)).map i64)))) : ACalls Try.prog 81 [.arr id ver zs.length] K st :=
  sort_arr (fun blk off cap zs w h1 h2 h3 => Any.slices_Sort_int Try.lays189 blk off cap zs w h1 h2 h3) (fun p cap w => Any.slices_Sort_int_none Try.lays189 p cap w) hid hlen K h

theorem sort_nil_c {st : St} (K : SV → St → Prop) (h : K (.tuple []) st) : ACalls Try.prog 81 [.slice .full 0 []] K st := by
  intro σ w vs hI hR
  have hr := hR.2 0 (by simp)
  simp only [List.getD_cons_zero] at hr
  have hvs : vs = #[vs.getD 0 undef] := by
    have := hR.1
    simp only [List.length_cons, List.length_nil] at this
    apply Array.ext
    · simpa using this
    · intro i h1 h2
      have : i = 0 := by simp at h2; omega
      subst this
      simp [Array.getD, h1]
  rw [hvs]
  generalize vs.getD 0 undef = v at hr
  have key : ∃ p cap, v = .slice p 0 cap := by
    generalize hl : ([] : List SV) = l at hr
    cases hr with
    | nil => exact ⟨_, _, rfl⟩
    | slice m z l a cap => subst hl; exact ⟨_, _, rfl⟩
  obtain ⟨p, cap, rfl⟩ := key
  refine (Any.slices_Sort_int_none Try.lays189 p cap w).mono ?_
  rintro e w' ⟨rfl, rfl⟩
  exact ⟨_, .tuple [], st, σ, rfl, h, hI, .tuple [] #[] rfl (fun i hi => by cases hi), Ext.refl _ _ _⟩

/-- The keys below a bound, in order. -/
def keysUpto (f : FM) (n : Nat) : List Int := ((List.range n).filter fun k : Nat => (f (k : Int)).isSome).map fun k : Nat => (k : Int)

theorem mem_keysUpto {f : FM} {n : Nat} {k : Int} : k ∈ keysUpto f n ↔ (0 ≤ k ∧ k < (n : Int)) ∧ (f k).isSome = true := by
  unfold keysUpto
  simp only [List.mem_map, List.mem_filter, List.mem_range]
  constructor
  · rintro ⟨j, ⟨h1, h2⟩, rfl⟩
    exact ⟨⟨by omega, by omega⟩, h2⟩
  · rintro ⟨⟨h1, h2⟩, h3⟩
    exact ⟨k.toNat, ⟨by omega, by rw [Int.toNat_of_nonneg h1]; exact h3⟩, Int.toNat_of_nonneg h1⟩

theorem keysUpto_sorted (f : FM) (n : Nat) : (keysUpto f n).Pairwise (· < ·) := by
  unfold keysUpto
  rw [List.pairwise_map]
  refine (List.Pairwise.filter _ List.pairwise_lt_range).imp fun h => ?_
  omega

theorem mem_keys {S : PMap} {k : Int} : k ∈ S.map (·.1) ↔ (pmGet S k).isSome = true := by
  unfold pmGet
  simp only [List.mem_map, Option.isSome_map, List.find?_isSome, beq_iff_eq]

theorem sort_keys {S : PMap} {zs : List Int} {n : Nat} (ks : (S.map (·.1)).Nodup) (hz : zs.Perm (S.map (·.1))) (hb : ∀ k, (pmGet S k).isSome = true → 0 ≤ k ∧ k < (n : Int)) :
    (zs.mergeSort fun x y => decide (x ≤ y)) = keysUpto (pmGet S) n := by
  have h1 : (keysUpto (pmGet S) n).Pairwise (fun a b => decide (a ≤ b) = true) := (keysUpto_sorted _ _).imp fun h => by simp; omega
  have h2 : (zs.mergeSort fun x y => decide (x ≤ y)).Pairwise (fun a b => decide (a ≤ b) = true) := List.pairwise_mergeSort (fun a b c => by simp; omega) (fun a b => by simp; omega) zs
  have h3 : (zs.mergeSort fun x y => decide (x ≤ y)).Perm (S.map (·.1)) := (List.mergeSort_perm _ _).trans hz
  have h4 : (keysUpto (pmGet S) n).Nodup := (keysUpto_sorted _ _).imp fun h => by omega
  have h5 : (S.map (·.1)).Perm (keysUpto (pmGet S) n) := by
    rw [List.perm_ext_iff_of_nodup ks h4]
    intro a
    rw [mem_keys, mem_keysUpto]
    exact ⟨fun h => ⟨hb a h, h⟩, fun h => h.2⟩
  exact List.Perm.eq_of_pairwise (fun a b _ _ ha hb => by simp at ha hb; omega) h2 h1 (h3.trans h5)

theorem app_i64s {n : Nat} (h : n ≤ 1000000) : AppOk Try.prog 29 29 1 n := appOk_of Try.aelem29 Try.aelem29 Try.asize3 Try.azero3 rfl Try.abytes3 (by omega) h

theorem nodup_len {V : List Nat} {n : Nat} (hnd : V.Nodup) (hlt : ∀ j ∈ V, j < n) : V.length ≤ n := by
  have h1 : V.Perm ((List.range n).filter fun j => decide (j ∈ V)) := by
    rw [List.perm_ext_iff_of_nodup hnd (List.Pairwise.filter _ List.nodup_range)]
    intro a
    simp only [List.mem_filter, List.mem_range, decide_eq_true_eq]
    exact ⟨fun h => ⟨hlt a h, h⟩, fun h => h.2⟩
  rw [h1.length_eq]
  exact Nat.le_trans (List.length_filter_le _ _) (by simp)

theorem all_keys {S : PMap} {V : List Nat} (hnd : V.Nodup) (hall : ∀ j, j < S.length → j ∈ V) (hlt : ∀ j ∈ V, j < S.length) : (V.map fun j => (S.getD j default).1).Perm (S.map (·.1)) := by
  have h1 : V.Perm (List.range S.length) := by
    rw [List.perm_ext_iff_of_nodup hnd List.nodup_range]
    intro a
    rw [List.mem_range]
    exact ⟨hlt a, hall a⟩
  have h2 : (List.range S.length).map (fun j => (S.getD j default).1) = S.map (·.1) := by
    refine List.ext_getElem (by simp) fun i h1 h2 => ?_
    have hi : i < S.length := by simpa using h2
    simp [List.getD_eq_getElem?_getD, hi]
  rw [← h2]
  exact h1.map _

set_option maxHeartbeats 4000000 in
theorem sorted_c {st : St} {mid : Nat} {S : PMap} (hs : st[mid]? = some (.map (pmEs S))) (ks : (S.map (·.1)).Nodup) (hl : S.length ≤ 100000) {n : Nat} (hb : ∀ k, (pmGet S k).isSome = true → 0 ≤ k ∧ k < (n : Int)) (K : SV → St → Prop)
    (h : K (.slice .imm 1 ((keysUpto (pmGet S) n).map i64)) st) : ACalls Try.prog 61 [.mp mid] K st := by
  refine acalls_still ?_
  refine acalls_goA Try.func61 rfl Try.results61 Try.ntmps61 ?_
  refine awp_seq (awp_c (M := []) ?_)
  simp only [go_sem, reduceCtorEq, Nat.reduceAdd, Nat.reduceMul, Nat.reduceLeDiff, Nat.reduceLT, Int.reduceLE, Int.reduceLT, Int.reduceEq, Nat.reduceBEq, Nat.reduceEqDiff]
  refine awp_seq (awp_c (M := []) ?_)
  simp only [go_sem, reduceCtorEq, Nat.reduceAdd, Nat.reduceMul, Nat.reduceLeDiff, Nat.reduceLT, Int.reduceLE, Int.reduceLT, Int.reduceEq, Nat.reduceBEq, Nat.reduceEqDiff]
  refine awp_seq ?_
  refine awp_rangeMap [1000014] (x := 0) (a1 := 5) (a2 := 6) (d1 := 7) (d2 := 8) (d3 := 9) (X := 0) (Y := 1) (mid := mid) (es := pmEs S) ⟨rfl, rfl, rfl⟩ ⟨rfl, rfl, rfl⟩ ⟨rfl, rfl, rfl⟩ ⟨rfl, rfl, rfl⟩ ⟨rfl, rfl, rfl⟩ rfl (by decide) (by decide) (by decide) (by simp) rfl hs (by rw [Try.amap92]; rfl)
    (fun it V e s => ∃ t3 : SV, e = [.mp mid, .any, .any, t3, .any, .any, it, .any, .any, .any, .any, .any, .any, .any, .any, .any, .any, .any] ∧ ((V = [] ∧ t3 = .slice .full 0 [] ∧ s = st) ∨
      ∃ ver : Nat, V ≠ [] ∧ t3 = .arr st.length ver V.length ∧ s = st ++ [.arr ver 1 (V.map fun j => i64 (S.getD j default).1)])) ?_ ?_ ?_ ?_
  · intro it
    refine ⟨_, ?_, .slice .full 0 [], rfl, .inl ⟨rfl, rfl, rfl⟩⟩
    simp only [List.set_cons_succ, List.set_cons_zero]
    repeat (first | exact leEnv_nil | refine leEnv_any _ ?_ | refine leEnv_same _ ?_ | refine leEnv_norm _ ?_)
  · rintro it V e s ⟨t3, rfl, hV⟩
    refine ⟨?_, rfl, rfl⟩
    rcases hV with ⟨_, _, rfl⟩ | ⟨ver, _, _, rfl⟩
    · exact hs
    · rw [List.getElem?_append_left (lt_of_get hs)]; exact hs
  · rintro it V e s ⟨t3, rfl, hV⟩ hall hnd hlt
    have hperm : (V.map fun j => (S.getD j default).1).Perm (S.map (·.1)) := all_keys hnd (fun j hj => hall j (by simpa [pmEs] using hj)) (fun j hj => by simpa [pmEs] using hlt j hj)
    have hVl : V.length ≤ S.length := nodup_len hnd (fun j hj => by simpa [pmEs] using hlt j hj)
    have hk := sort_keys ks hperm hb
    rcases hV with ⟨rfl, rfl, rfl⟩ | ⟨ver, hne, rfl, rfl⟩
    · refine awp_c (M := []) ?_
      simp only [go_sem, reduceCtorEq, Nat.reduceAdd, Nat.reduceMul, Nat.reduceLeDiff, Nat.reduceLT, Int.reduceLE, Int.reduceLT, Int.reduceEq, Nat.reduceBEq, Nat.reduceEqDiff]
      refine sort_nil_c _ ?_
      simp only [go_sem, reduceCtorEq, Nat.reduceAdd, Nat.reduceMul, Nat.reduceLeDiff, Nat.reduceLT, Int.reduceLE, Int.reduceLT, Int.reduceEq, Nat.reduceBEq, Nat.reduceEqDiff]
      rw [← hk, List.map_nil, List.mergeSort_nil] at h
      exact .inl h
    · have hid : (st ++ [Ob.arr ver 1 ((V.map fun j => (S.getD j default).1).map i64)])[st.length]? = some (.arr ver 1 ((V.map fun j => (S.getD j default).1).map i64)) := by simp
      have hsc : ∀ K : SV → St → Prop, K (.tuple []) (st ++ [.arr ver 1 ((keysUpto (pmGet S) n).map i64)]) → ACalls Try.prog 81 [.arr st.length ver V.length] K (st ++ [.arr ver 1 (V.map fun j => i64 (S.getD j default).1)]) := by
        intro K hK
        have h7 := sort_c hid (by simp; omega) K (by
          rw [hk, List.set_append_right _ _ (Nat.le_refl _), Nat.sub_self]
          exact hK)
        simp only [List.length_map, List.map_map] at h7
        exact h7
      have hkl : V.length = (keysUpto (pmGet S) n).length := by rw [← hk, List.length_mergeSort, List.length_map]
      refine awp_c (M := []) ?_
      simp only [go_sem, reduceCtorEq, Nat.reduceAdd, Nat.reduceMul, Nat.reduceLeDiff, Nat.reduceLT, Int.reduceLE, Int.reduceLT, Int.reduceEq, Nat.reduceBEq, Nat.reduceEqDiff]
      refine hsc _ ?_
      simp only [go_sem, reduceCtorEq, Nat.reduceAdd, Nat.reduceMul, Nat.reduceLeDiff, Nat.reduceLT, Int.reduceLE, Int.reduceLT, Int.reduceEq, Nat.reduceBEq, Nat.reduceEqDiff]
      exact .inr ⟨ver, keysUpto (pmGet S) n, by rw [hkl], rfl, h⟩
  · rintro it V j e s ⟨t3, rfl, hV⟩ hnd hlt hj hjV
    have hj' : j < S.length := by simpa [pmEs] using hj
    rw [pm_getD hj']
    have happ := app_i64s (n := V.length + 1) (by have := nodup_len hnd (n := S.length) (fun j hj => by simpa [pmEs] using hlt j hj); omega)
    rcases hV with ⟨rfl, rfl, rfl⟩ | ⟨ver, hne, rfl, rfl⟩
    · simp only [go_sem, reduceCtorEq, Nat.reduceAdd, Nat.reduceMul, Nat.reduceLeDiff, Nat.reduceLT, Int.reduceLE, Int.reduceLT, Int.reduceEq, Nat.reduceBEq, Nat.reduceEqDiff, List.set_cons_succ, List.set_cons_zero]
      refine ⟨happ, _, ?_, _, rfl, .inr ⟨1, rfl, rfl⟩⟩
      repeat (first | exact leEnv_nil | refine leEnv_any _ ?_ | refine leEnv_same _ ?_ | refine leEnv_norm _ ?_)
    · have htk : (V.map fun j => i64 (S.getD j default).1).take V.length = V.map fun j => i64 (S.getD j default).1 := List.take_of_length_le (by simp)
      simp only [go_sem, reduceCtorEq, Nat.reduceAdd, Nat.reduceMul, Nat.reduceLeDiff, Nat.reduceLT, Int.reduceLE, Int.reduceLT, Int.reduceEq, Nat.reduceBEq, Nat.reduceEqDiff, List.set_cons_succ, List.set_cons_zero]
      refine ⟨happ, _, ?_, _, rfl, .inr ⟨ver + 1, by simp, rfl, ?_⟩⟩
      · repeat (first | exact leEnv_nil | refine leEnv_any _ ?_ | refine leEnv_same _ ?_ | refine leEnv_norm _ ?_)
      · rw [Nat.mul_one, htk, List.map_append]; rfl

end Go.Proofs
