/- The engine: the keys of a map in order. -/
import Derived.Test.YteclbnjpijakbaaM1
import Derived.Test.YteclbnjpijakbaaA8
import Derived.Shelf.Sort.Plain
import Derived.Shelf.Slices.In.SortNone
import Derived.Shelf.Slices.In.Clone
import Derived.Sort.EveryDepth
set_option linter.unusedSimpArgs false
set_option linter.unusedVariables false
set_option maxRecDepth 8000
namespace Go.Proofs
open Go Go.AL Go.Shelf
def Try.lays189_ren : Go.Shelf.Ren := ⟨fun | 189 => 81 | 125 => 102 | 257 => 101 | 128 => 142 | 129 => 143 | 294 => 133 | 295 => 134 | 296 => 135 | 297 => 136 | 298 => 137 | 299 => 138 | 216 => 139 | 300 => 140 | 301 => 141 | 328 => 154 | 329 => 155 | 330 => 156 | 331 => 157 | 332 => 158 | 215 => 152 | 343 => 169 | n => n, fun | 28 => 29 | 3 => 3 | 46 => 167 | 0 => 0 | 51 => 198 | 53 => 200 | 4 => 4 | 183 => 192 | 182 => 191 | 131 => 102 | 5 => 5 | 9 => 9 | 218 => 210 | 222 => 214 | 228 => 225 | 229 => 226 | n => n, fun | n => n⟩
theorem Try.lays189 : Go.Proofs.Lays.n189 Try.prog Try.lays189_ren := {
  mixed := by kernel_rfl
  f125 := Try.func102.trans (congrArg some (by kernel_rfl))
  f128 := Try.func142.trans (congrArg some (by kernel_rfl))
  f129 := Try.func143.trans (congrArg some (by kernel_rfl))
  f189 := Try.func81.trans (congrArg some (by kernel_rfl))
  f215 := Try.func152.trans (congrArg some (by kernel_rfl))
  f216 := Try.func139.trans (congrArg some (by kernel_rfl))
  f257 := Try.func101.trans (congrArg some (by kernel_rfl))
  f294 := Try.func133.trans (congrArg some (by kernel_rfl))
  f295 := Try.func134.trans (congrArg some (by kernel_rfl))
  f296 := Try.func135.trans (congrArg some (by kernel_rfl))
  f297 := Try.func136.trans (congrArg some (by kernel_rfl))
  f298 := Try.func137.trans (congrArg some (by kernel_rfl))
  f299 := Try.func138.trans (congrArg some (by kernel_rfl))
  f300 := Try.func140.trans (congrArg some (by kernel_rfl))
  f301 := Try.func141.trans (congrArg some (by kernel_rfl))
  f328 := Try.func154.trans (congrArg some (by kernel_rfl))
  f329 := Try.func155.trans (congrArg some (by kernel_rfl))
  f330 := Try.func156.trans (congrArg some (by kernel_rfl))
  f331 := Try.func157.trans (congrArg some (by kernel_rfl))
  f332 := Try.func158.trans (congrArg some (by kernel_rfl))
  f343 := Try.func169.trans (congrArg some (by kernel_rfl))
  t0 := Try.underlying0
  a0 := Try.isAgg0
  z0 := Try.sizeOf0
  v0 := Try.zeroValue0
  t3 := Try.underlying3
  a3 := Try.isAgg3
  z3 := Try.sizeOf3
  v3 := Try.zeroValue3
  t4 := Try.underlying4
  a4 := Try.isAgg4
  z4 := Try.sizeOf4
  v4 := Try.zeroValue4
  t5 := Try.underlying5
  a5 := Try.isAgg5
  z5 := Try.sizeOf5
  v5 := Try.zeroValue5
  t9 := Try.underlying9
  a9 := Try.isAgg9
  z9 := Try.sizeOf9
  v9 := Try.zeroValue9
  t28 := Try.underlying29
  a28 := Try.isAgg29
  z28 := Try.sizeOf29
  v28 := Try.zeroValue29
  t46 := Try.underlying167
  a46 := Try.isAgg167
  z46 := Try.sizeOf167
  v46 := Try.zeroValue167
  t51 := Try.underlying198
  a51 := Try.isAgg198
  z51 := Try.sizeOf198
  v51 := Try.zeroValue198
  t53 := Try.underlying200
  a53 := Try.isAgg200
  z53 := Try.sizeOf200
  v53 := Try.zeroValue200
  t131 := Try.underlying102
  a131 := Try.isAgg102
  z131 := Try.sizeOf102
  v131 := Try.zeroValue102
  t182 := Try.underlying191
  a182 := Try.isAgg191
  z182 := Try.sizeOf191
  v182 := Try.zeroValue191
  t183 := Try.underlying192
  a183 := Try.isAgg192
  z183 := Try.sizeOf192
  v183 := Try.zeroValue192
  t218 := Try.underlying210
  a218 := Try.isAgg210
  z218 := Try.sizeOf210
  v218 := Try.zeroValue210
  t222 := Try.underlying214
  a222 := Try.isAgg214
  z222 := Try.sizeOf214
  v222 := Try.zeroValue214
  t228 := Try.underlying225
  a228 := Try.isAgg225
  z228 := Try.sizeOf225
  v228 := Try.zeroValue225
  t229 := Try.underlying226
  a229 := Try.isAgg226
  z229 := Try.sizeOf226
  v229 := Try.zeroValue226 }

theorem sort_c {st : St} {id ver : Nat} {zs : List Int} (hid : st[id]? = some (.arr ver 1 (zs.map i64))) (hlen : zs.length < 4611686018427387904) (K : SV → St → Prop)
    (h : K (.tuple []) (st.set id (.arr ver 1 ((zs.mergeSort fun x y => decide (x ≤ y)).map i64)))) : ACalls Try.prog 81 [.arr id ver zs.length] K st :=
  sort_arr (fun blk off cap zs w h1 h2 h3 => Any.slices_Sort_int Try.lays189 blk off cap zs w h1 h2 h3) (fun p cap w => Any.slices_Sort_int_none Try.lays189 p cap w) hid hlen K h

theorem sort_nil_c {st : St} (K : SV → St → Prop) (h : K (.tuple []) st) : ACalls Try.prog 81 [.slice .full 0 []] K st := by
  intro σ w vs hI hR
  have hr := hR.2 0 (by simp)
  simp only [List.getD_cons_zero] at hr
  have hvs : vs = #[vs.getD 0 undef] := by
    have := hR.1
    simp only [List.length_cons, List.length_nil] at this
    apply Array.ext
    · simpa using this
    · intro i h1 h2
      have : i = 0 := by simp at h2; omega
      subst this
      simp [Array.getD, h1]
  rw [hvs]
  generalize vs.getD 0 undef = v at hr
  have key : ∃ p cap, v = .slice p 0 cap := by
    generalize hl : ([] : List SV) = l at hr
    cases hr with
    | nil => exact ⟨_, _, rfl⟩
    | slice m z l a cap => subst hl; exact ⟨_, _, rfl⟩
  obtain ⟨p, cap, rfl⟩ := key
  refine (Any.slices_Sort_int_none Try.lays189 p cap w).mono ?_
  rintro e w' ⟨rfl, rfl⟩
  exact ⟨_, .tuple [], st, σ, rfl, h, hI, .tuple [] #[] rfl (fun i hi => by cases hi), Ext.refl _ _ _⟩

/-- The keys below a bound, in order. -/
def keysUpto (f : FM) (n : Nat) : List Int := ((List.range n).filter fun k : Nat => (f (k : Int)).isSome).map fun k : Nat => (k : Int)

theorem mem_keysUpto {f : FM} {n : Nat} {k : Int} : k ∈ keysUpto f n ↔ (0 ≤ k ∧ k < (n : Int)) ∧ (f k).isSome = true := by
  unfold keysUpto
  simp only [List.mem_map, List.mem_filter, List.mem_range]
  constructor
  · rintro ⟨j, ⟨h1, h2⟩, rfl⟩
    exact ⟨⟨by omega, by omega⟩, h2⟩
  · rintro ⟨⟨h1, h2⟩, h3⟩
    exact ⟨k.toNat, ⟨by omega, by rw [Int.toNat_of_nonneg h1]; exact h3⟩, Int.toNat_of_nonneg h1⟩

theorem keysUpto_sorted (f : FM) (n : Nat) : (keysUpto f n).Pairwise (· < ·) := by
  unfold keysUpto
  rw [List.pairwise_map]
  refine (List.Pairwise.filter _ List.pairwise_lt_range).imp fun h => ?_
  omega

theorem mem_keys {S : PMap} {k : Int} : k ∈ S.map (·.1) ↔ (pmGet S k).isSome = true := by
  unfold pmGet
  simp only [List.mem_map, Option.isSome_map, List.find?_isSome, beq_iff_eq]

theorem sort_keys {S : PMap} {zs : List Int} {n : Nat} (ks : (S.map (·.1)).Nodup) (hz : zs.Perm (S.map (·.1))) (hb : ∀ k, (pmGet S k).isSome = true → 0 ≤ k ∧ k < (n : Int)) :
    (zs.mergeSort fun x y => decide (x ≤ y)) = keysUpto (pmGet S) n := by
  have h1 : (keysUpto (pmGet S) n).Pairwise (fun a b => decide (a ≤ b) = true) := (keysUpto_sorted _ _).imp fun h => by simp; omega
  have h2 : (zs.mergeSort fun x y => decide (x ≤ y)).Pairwise (fun a b => decide (a ≤ b) = true) := List.pairwise_mergeSort (fun a b c => by simp; omega) (fun a b => by simp; omega) zs
  have h3 : (zs.mergeSort fun x y => decide (x ≤ y)).Perm (S.map (·.1)) := (List.mergeSort_perm _ _).trans hz
  have h4 : (keysUpto (pmGet S) n).Nodup := (keysUpto_sorted _ _).imp fun h => by omega
  have h5 : (S.map (·.1)).Perm (keysUpto (pmGet S) n) := by
    rw [List.perm_ext_iff_of_nodup ks h4]
    intro a
    rw [mem_keys, mem_keysUpto]
    exact ⟨fun h => ⟨hb a h, h⟩, fun h => h.2⟩
  exact List.Perm.eq_of_pairwise (fun a b _ _ ha hb => by simp at ha hb; omega) h2 h1 (h3.trans h5)

theorem app_i64s {n : Nat} (h : n ≤ 1000000) : AppOk Try.prog 29 29 1 n := appOk_of Try.aelem29 Try.aelem29 Try.asize3 Try.azero3 rfl Try.abytes3 (by omega) h

theorem nodup_len {V : List Nat} {n : Nat} (hnd : V.Nodup) (hlt : ∀ j ∈ V, j < n) : V.length ≤ n := by
  have h1 : V.Perm ((List.range n).filter fun j => decide (j ∈ V)) := by
    rw [List.perm_ext_iff_of_nodup hnd (List.Pairwise.filter _ List.nodup_range)]
    intro a
    simp only [List.mem_filter, List.mem_range, decide_eq_true_eq]
    exact ⟨fun h => ⟨hlt a h, h⟩, fun h => h.2⟩
  rw [h1.length_eq]
  exact Nat.le_trans (List.length_filter_le _ _) (by simp)

theorem all_keys {S : PMap} {V : List Nat} (hnd : V.Nodup) (hall : ∀ j, j < S.length → j ∈ V) (hlt : ∀ j ∈ V, j < S.length) : (V.map fun j => (S.getD j default).1).Perm (S.map (·.1)) := by
  have h1 : V.Perm (List.range S.length) := by
    rw [List.perm_ext_iff_of_nodup hnd List.nodup_range]
    intro a
    rw [List.mem_range]
    exact ⟨hlt a, hall a⟩
  have h2 : (List.range S.length).map (fun j => (S.getD j default).1) = S.map (·.1) := by
    refine List.ext_getElem (by simp) fun i h1 h2 => ?_
    have hi : i < S.length := by simpa using h2
    simp [List.getD_eq_getElem?_getD, hi]
  rw [← h2]
  exact h1.map _

set_option maxHeartbeats 4000000 in
theorem sorted_c {st : St} {mid : Nat} {S : PMap} (hs : st[mid]? = some (.map (pmEs S))) (ks : (S.map (·.1)).Nodup) (hl : S.length ≤ 100000) {n : Nat} (hb : ∀ k, (pmGet S k).isSome = true → 0 ≤ k ∧ k < (n : Int)) (K : SV → St → Prop)
    (h : K (.slice .imm 1 ((keysUpto (pmGet S) n).map i64)) st) : ACalls Try.prog 61 [.mp mid] K st := by
  refine acalls_still ?_
  refine acalls_goA Try.func61 rfl Try.results61 Try.ntmps61 ?_
  refine awp_seq (awp_c (M := []) ?_)
  simp only [go_sem, reduceCtorEq, Nat.reduceAdd, Nat.reduceMul, Nat.reduceLeDiff, Nat.reduceLT, Int.reduceLE, Int.reduceLT, Int.reduceEq, Nat.reduceBEq, Nat.reduceEqDiff]
  refine awp_seq (awp_c (M := []) ?_)
  simp only [go_sem, reduceCtorEq, Nat.reduceAdd, Nat.reduceMul, Nat.reduceLeDiff, Nat.reduceLT, Int.reduceLE, Int.reduceLT, Int.reduceEq, Nat.reduceBEq, Nat.reduceEqDiff]
  refine awp_seq ?_
  refine awp_rangeMap [1000014] (x := 0) (a1 := 5) (a2 := 6) (d1 := 7) (d2 := 8) (d3 := 9) (X := 0) (Y := 1) (mid := mid) (es := pmEs S) ⟨rfl, rfl, rfl⟩ ⟨rfl, rfl, rfl⟩ ⟨rfl, rfl, rfl⟩ ⟨rfl, rfl, rfl⟩ ⟨rfl, rfl, rfl⟩ rfl (by decide) (by decide) (by decide) (by simp) rfl hs (by rw [Try.amap92]; rfl)
    (fun it V e s => ∃ t3 : SV, e = [.mp mid, .any, .any, t3, .any, .any, it, .any, .any, .any, .any, .any, .any, .any, .any, .any, .any, .any] ∧ ((V = [] ∧ t3 = .slice .full 0 [] ∧ s = st) ∨
      ∃ ver : Nat, V ≠ [] ∧ t3 = .arr st.length ver V.length ∧ s = st ++ [.arr ver 1 (V.map fun j => i64 (S.getD j default).1)])) ?_ ?_ ?_ ?_
  · intro it
    refine ⟨_, ?_, .slice .full 0 [], rfl, .inl ⟨rfl, rfl, rfl⟩⟩
    simp only [List.set_cons_succ, List.set_cons_zero]
    repeat (first | exact leEnv_nil | refine leEnv_any _ ?_ | refine leEnv_same _ ?_ | refine leEnv_norm _ ?_)
  · rintro it V e s ⟨t3, rfl, hV⟩
    refine ⟨?_, rfl, rfl⟩
    rcases hV with ⟨_, _, rfl⟩ | ⟨ver, _, _, rfl⟩
    · exact hs
    · rw [List.getElem?_append_left (lt_of_get hs)]; exact hs
  · rintro it V e s ⟨t3, rfl, hV⟩ hall hnd hlt
    have hperm : (V.map fun j => (S.getD j default).1).Perm (S.map (·.1)) := all_keys hnd (fun j hj => hall j (by simpa [pmEs] using hj)) (fun j hj => by simpa [pmEs] using hlt j hj)
    have hVl : V.length ≤ S.length := nodup_len hnd (fun j hj => by simpa [pmEs] using hlt j hj)
    have hk := sort_keys ks hperm hb
    rcases hV with ⟨rfl, rfl, rfl⟩ | ⟨ver, hne, rfl, rfl⟩
    · refine awp_c (M := []) ?_
      simp only [go_sem, reduceCtorEq, Nat.reduceAdd, Nat.reduceMul, Nat.reduceLeDiff, Nat.reduceLT, Int.reduceLE, Int.reduceLT, Int.reduceEq, Nat.reduceBEq, Nat.reduceEqDiff]
      refine sort_nil_c _ ?_
      simp only [go_sem, reduceCtorEq, Nat.reduceAdd, Nat.reduceMul, Nat.reduceLeDiff, Nat.reduceLT, Int.reduceLE, Int.reduceLT, Int.reduceEq, Nat.reduceBEq, Nat.reduceEqDiff]
      rw [← hk, List.map_nil, List.mergeSort_nil] at h
      exact .inl h
    · have hid : (st ++ [Ob.arr ver 1 ((V.map fun j => (S.getD j default).1).map i64)])[st.length]? = some (.arr ver 1 ((V.map fun j => (S.getD j default).1).map i64)) := by simp
      have hsc : ∀ K : SV → St → Prop, K (.tuple []) (st ++ [.arr ver 1 ((keysUpto (pmGet S) n).map i64)]) → ACalls Try.prog 81 [.arr st.length ver V.length] K (st ++ [.arr ver 1 (V.map fun j => i64 (S.getD j default).1)]) := by
        intro K hK
        have h7 := sort_c hid (by simp; omega) K (by
          rw [hk, List.set_append_right _ _ (Nat.le_refl _), Nat.sub_self]
          exact hK)
        simp only [List.length_map, List.map_map] at h7
        exact h7
      have hkl : V.length = (keysUpto (pmGet S) n).length := by rw [← hk, List.length_mergeSort, List.length_map]
      refine awp_c (M := []) ?_
      simp only [go_sem, reduceCtorEq, Nat.reduceAdd, Nat.reduceMul, Nat.reduceLeDiff, Nat.reduceLT, Int.reduceLE, Int.reduceLT, Int.reduceEq, Nat.reduceBEq, Nat.reduceEqDiff]
      refine hsc _ ?_
      simp only [go_sem, reduceCtorEq, Nat.reduceAdd, Nat.reduceMul, Nat.reduceLeDiff, Nat.reduceLT, Int.reduceLE, Int.reduceLT, Int.reduceEq, Nat.reduceBEq, Nat.reduceEqDiff]
      exact .inr ⟨ver, keysUpto (pmGet S) n, by rw [hkl], rfl, h⟩
  · rintro it V j e s ⟨t3, rfl, hV⟩ hnd hlt hj hjV
    have hj' : j < S.length := by simpa [pmEs] using hj
    rw [pm_getD hj']
    have happ := app_i64s (n := V.length + 1) (by have := nodup_len hnd (n := S.length) (fun j hj => by simpa [pmEs] using hlt j hj); omega)
    rcases hV with ⟨rfl, rfl, rfl⟩ | ⟨ver, hne, rfl, rfl⟩
    · simp only [go_sem, reduceCtorEq, Nat.reduceAdd, Nat.reduceMul, Nat.reduceLeDiff, Nat.reduceLT, Int.reduceLE, Int.reduceLT, Int.reduceEq, Nat.reduceBEq, Nat.reduceEqDiff, List.set_cons_succ, List.set_cons_zero]
      refine ⟨happ, _, ?_, _, rfl, .inr ⟨1, rfl, rfl⟩⟩
      repeat (first | exact leEnv_nil | refine leEnv_any _ ?_ | refine leEnv_same _ ?_ | refine leEnv_norm _ ?_)
    · have htk : (V.map fun j => i64 (S.getD j default).1).take V.length = V.map fun j => i64 (S.getD j default).1 := List.take_of_length_le (by simp)
      simp only [go_sem, reduceCtorEq, Nat.reduceAdd, Nat.reduceMul, Nat.reduceLeDiff, Nat.reduceLT, Int.reduceLE, Int.reduceLT, Int.reduceEq, Nat.reduceBEq, Nat.reduceEqDiff, List.set_cons_succ, List.set_cons_zero]
      refine ⟨happ, _, ?_, _, rfl, .inr ⟨ver + 1, by simp, rfl, ?_⟩⟩
      · repeat (first | exact leEnv_nil | refine leEnv_any _ ?_ | refine leEnv_same _ ?_ | refine leEnv_norm _ ?_)
      · rw [Nat.mul_one, htk, List.map_append]; rfl

end Go.Proofs
set_option linter.unusedSimpArgs false
set_option linter.unusedVariables false
set_option maxRecDepth 8000
namespace Go.Proofs
open Go Go.AL

def unlock (t : Int) (v : TV) : TV := if v.lock = t then { v with lock := -1 } else v

def abortF (E : EP) (t : Int) : Int × EP := match E.of t with
  | some x => if x.pointed then (1, E) else (0, { E with vars := E.vars.map (unlock t), txs := E.txs.set t.toNat none })
  | none => (1, E)

/-- The vars of which the first k are turned. -/
def someVars (g : TV → TV) (k : Nat) (l : List TV) : List TV := (l.take k).map g ++ l.drop k

theorem someVars_len (g : TV → TV) (k : Nat) (l : List TV) : (someVars g k l).length = l.length := by
  simp [someVars]; omega
theorem someVars_get (g : TV → TV) {k : Nat} {l : List TV} (h : k < l.length) : (someVars g k l).getD k default = l.getD k default := by
  simp only [someVars, List.getD_eq_getElem?_getD]
  rw [List.getElem?_append_right (by simp; omega)]
  simp [Nat.min_eq_left (Nat.le_of_lt h)]
theorem someVars_succ (g : TV → TV) {k : Nat} {l : List TV} (h : k < l.length) : someVars g (k + 1) l = (someVars g k l).set k (g (l.getD k default)) := by
  simp only [someVars]
  rw [List.take_succ_eq_append_getElem h, List.map_append, List.append_assoc, List.set_append_right _ _ (by simp; omega)]
  congr 1
  have e1 : k - (l.take k |>.map g).length = 0 := by simp; omega
  rw [e1]
  have e2 : l.drop k = l[k] :: l.drop (k + 1) := List.drop_eq_getElem_cons h
  have e3 : l.getD k default = l[k] := by simp [List.getD_eq_getElem?_getD, h]
  rw [e2, e3]
  rfl
theorem someVars_all (g : TV → TV) (l : List TV) : someVars g l.length l = l.map g := by simp [someVars]
theorem someVars_0 (g : TV → TV) (l : List TV) : someVars g 0 l = l := by simp [someVars]

theorem set_getD {l : List TV} {k : Nat} (h : k < l.length) : l.set k (l.getD k default) = l := by
  refine List.ext_getElem? fun i => ?_
  by_cases e : k = i
  · subst e; rw [List.getElem?_set_self h]; simp [List.getD_eq_getElem?_getD, h]
  · rw [List.getElem?_set_ne e]
theorem vars_put2 {l : List TV} {k : Nat} (h : k < l.length) (z : Int) : (l.flatMap tvSV).take (k * 3 + 2) ++ i64 z :: (l.flatMap tvSV).drop (k * 3 + 3) = (l.set k { l.getD k default with lock := z }).flatMap tvSV := by
  induction l generalizing k with
  | nil => cases h
  | cons x r ih =>
    cases k with
    | zero => rfl
    | succ k =>
      have := ih (k := k) (by simpa using h)
      rw [show (k + 1) * 3 + 2 = (k * 3 + 2) + 3 by omega, show (k + 1) * 3 + 3 = (k * 3 + 3) + 3 by omega]
      simp only [List.set_cons_succ, List.flatMap_cons, List.getD_cons_succ]
      rw [← this]
      rfl
theorem vars_put {l : List TV} {k : Nat} (h : k < l.length) (v : TV) : (l.flatMap tvSV).take (k * 3) ++ (tvSV v ++ (l.flatMap tvSV).drop (k * 3 + 3)) = (l.set k v).flatMap tvSV := by
  induction l generalizing k with
  | nil => cases h
  | cons x r ih =>
    cases k with
    | zero => rfl
    | succ k =>
      have := ih (k := k) (by simpa using h)
      rw [show (k + 1) * 3 = (k * 3) + 3 by omega, show k * 3 + 3 + 3 = (k * 3 + 3) + 3 by omega]
      simp only [List.set_cons_succ, List.flatMap_cons]
      rw [← this]
      rfl
theorem cells_put {E : EG} {t : Nat} (h : t < E.txs.length) (o : Option TX) : E.cells.take (2 + t) ++ txSV o :: E.cells.drop (2 + (t + 1)) = ({ E with txs := E.txs.set t o } : EG).cells := by
  unfold EG.cells
  rw [show 2 + t = t + 1 + 1 by omega, show 2 + (t + 1) = (t + 1) + 1 + 1 by omega]
  simp only [List.take_succ_cons, List.drop_succ_cons, List.cons_append, List.map_set]
  congr 2
  rw [List.set_eq_take_append_cons_drop, if_pos (by simpa using h)]

/-- Some vars have turned, and one thread's transaction is gone. -/
theorem eng_gone {st s : St} {E : EG} (hE : EngAt st E) {t : Nat} (ht : t < 8) {vs : List TV} (hvs : vs.length = E.vars.length) (hlen : st.length ≤ s.length) (h1 : s[E.id]? = some (.cells (E.cells.take (2 + t) ++ .sc (.pointer none) :: E.cells.drop (2 + (t + 1)))))
    (h2 : s[E.vid]? = some (.arr E.vver 3 (vs.flatMap tvSV))) (ho : ∀ j, j ≠ E.id → j ≠ E.vid → (∀ x, E.txs[t]? = some (some x) → ¬ x.has j) → j < st.length → s[j]? = st[j]?) :
    EngAt s { E with vars := vs, txs := E.txs.set t none } ∧ Fr st E s { E with vars := vs, txs := E.txs.set t none } := by
  have hl := hE.len
  refine eng_upd hE ht none rfl rfl rfl ?_ h2 (by show vs.length ≤ 4000; rw [hvs]; exact hE.many) hlen ho (fun x' hx' => by cases hx')
  rw [h1]
  have := cells_put (E := E) (t := t) (by omega) none
  rw [show txSV none = SV.sc (.pointer none) from rfl] at this
  rw [this]
  simp only [EG.cells, hvs]

set_option maxHeartbeats 4000000 in
theorem abort_c {st : St} {E : EG} (hE : EngAt st E) (t : Int) (K : SV → St → Prop)
    (h : ∀ s E', EngAt s E' → Fr st E s E' → E'.abs = (abortF E.abs t).2 → K (i64 (abortF E.abs t).1) s) : ACalls Try.prog 21 [.ptr E.id 0, i64 t] K st := by
  have hof := of_c hE t
  have hab := abs_of E t
  unfold abortF at h
  rw [hab] at h
  cases hx : E.of t with
  | none =>
    rw [hx] at hof h
    refine acalls_go (M := []) Try.func21 rfl Try.results21 Try.ntmps21 ?_
    simp only [go_sem, reduceCtorEq, Nat.reduceAdd, Nat.reduceMul, Nat.reduceLeDiff, Nat.reduceLT, Int.reduceLE, Int.reduceLT, Int.reduceEq, Nat.reduceBEq, Nat.reduceEqDiff]
    refine hof _ ?_
    simp only [txSV, go_sem, reduceCtorEq, Nat.reduceAdd, Nat.reduceMul, Nat.reduceLeDiff, Nat.reduceLT, Int.reduceLE, Int.reduceLT, Int.reduceEq, Nat.reduceBEq, Nat.reduceEqDiff]
    exact h st E hE (Fr.refl _ _) rfl
  | some x =>
    rw [hx] at hof h
    simp only [Option.map_some] at h
    obtain ⟨hti, htx⟩ := of_some hx
    have ht : t.toNat < 8 := by omega
    have hT := hE.tx _ x htx
    have g := cells_facts hT.cells
    have f := cells_facts hE.cells
    have w := arr_facts hE.vars
    cases hp : x.pointed with
    | true =>
      rw [if_pos (show x.abs.pointed = true from hp)] at h
      refine acalls_go (M := []) Try.func21 rfl Try.results21 Try.ntmps21 ?_
      simp only [go_sem, reduceCtorEq, Nat.reduceAdd, Nat.reduceMul, Nat.reduceLeDiff, Nat.reduceLT, Int.reduceLE, Int.reduceLT, Int.reduceEq, Nat.reduceBEq, Nat.reduceEqDiff]
      refine hof _ ?_
      simp only [txSV, go_sem, reduceCtorEq, Nat.reduceAdd, Nat.reduceMul, Nat.reduceLeDiff, Nat.reduceLT, Int.reduceLE, Int.reduceLT, Int.reduceEq, Nat.reduceBEq, Nat.reduceEqDiff, g.1, g.2.1, g.2.2, TX.cells, hp]
      exact h st E hE (Fr.refl _ _) rfl
    | false =>
      rw [if_neg (show ¬ x.abs.pointed = true from by rw [show x.abs.pointed = x.pointed from rfl, hp]; decide)] at h
      refine acalls_go (M := []) Try.func21 rfl Try.results21 Try.ntmps21 ?_
      simp only [go_sem, reduceCtorEq, Nat.reduceAdd, Nat.reduceMul, Nat.reduceLeDiff, Nat.reduceLT, Int.reduceLE, Int.reduceLT, Int.reduceEq, Nat.reduceBEq, Nat.reduceEqDiff]
      refine hof _ ?_
      simp only [txSV, go_sem, reduceCtorEq, Nat.reduceAdd, Nat.reduceMul, Nat.reduceLeDiff, Nat.reduceLT, Int.reduceLE, Int.reduceLT, Int.reduceEq, Nat.reduceBEq, Nat.reduceEqDiff, g.1, g.2.1, g.2.2, TX.cells, hp, f.1, f.2.1, f.2.2, EG.cells, w.1, w.2.1, w.2.2.1, w.2.2.2]
      refine awp_rounds [] (fun m e s => ∃ (k : Nat), k + m = E.vars.length ∧ e = [.ptr E.id 0, i64 t, .any, .any, .any, .any, .any, .any, .any, .any, .any, .any, .any, .any, .any, .any, .any, .any, .any, .any, .any, .any, i64 E.vars.length, i64 k, .any, .any, .any, .any, .any, .any, .any, .any, .any, .any, .any, .any, .any, .any, .any, .any, .any, .any, .any, .any, .any, .any, .any, .any, .any] ∧ s = st.set E.vid (.arr E.vver 3 ((someVars (unlock t) k E.vars).flatMap tvSV))) (n := E.vars.length) ?_ ⟨0, by omega, rfl, ?_⟩ ?_
      · repeat (first | exact leEnv_nil | refine leEnv_any _ ?_ | refine leEnv_same _ ?_ | refine leEnv_norm _ ?_)
      · rw [someVars_0, st_same hE.vars]
      rintro m e s ⟨k, hkm, rfl, hs⟩
      have h1 : s[E.id]? = some (.cells E.cells) := by rw [hs, List.getElem?_set_ne hE.vidne.symm]; exact hE.cells
      have h2 : s[E.vid]? = some (.arr E.vver 3 ((someVars (unlock t) k E.vars).flatMap tvSV)) := by rw [hs, List.getElem?_set_self (lt_of_get hE.vars)]
      have f1 := cells_facts h1
      have w1 := arr_facts h2
      by_cases hlt : k < E.vars.length
      · have c1 : (k : Int) < (E.vars.length : Int) := by omega
        have hw := wrapS k (by have := hE.many; omega)
        have c2 : (0 : Int) ≤ (k : Int) := by omega
        have hv := vars_drop2 (l := someVars (unlock t) k E.vars) (n := k) (by rw [someVars_len]; exact hlt)
        rw [someVars_get _ hlt] at hv
        have hsu := someVars_succ (unlock t) hlt
        have hlt2 : k < (someVars (unlock t) k E.vars).length := by rw [someVars_len]; exact hlt
        have hgy := someVars_get (unlock t) hlt
        generalize someVars (unlock t) k E.vars = vs at *
        generalize hy : E.vars.getD k default = y at *
        simp only [go_sem, reduceCtorEq, Nat.reduceAdd, Nat.reduceMul, Nat.reduceLeDiff, Nat.reduceLT, Int.reduceLE, Int.reduceLT, Int.reduceEq, Nat.reduceBEq, Nat.reduceEqDiff, c1, c2, f1.1, f1.2.1, f1.2.2, EG.cells, w1.1, w1.2.1, w1.2.2.1, w1.2.2.2, hv, hw, Int.toNat_natCast]
        have hvk : k < vs.length := hlt2
        refine ⟨fun c => ⟨by rw [vars_len]; omega, m - 1, _, by omega, ?_, k + 1, by omega, rfl, ?_⟩, fun c => ⟨m - 1, _, by omega, ?_, k + 1, by omega, rfl, ?_⟩⟩
        · repeat (first | exact leEnv_nil | refine leEnv_any _ ?_ | refine leEnv_same _ ?_ | refine leEnv_norm _ ?_)
        · have e := vars_put2 hvk (-1)
          rw [show SV.sc (Value.int IntKind.i64 (-1)) = i64 (-1) from rfl, e, hs, List.set_set, hsu, hgy]
          have c' : y.lock = t := by simpa using c
          simp only [unlock, c', if_true]
        · repeat (first | exact leEnv_nil | refine leEnv_any _ ?_ | refine leEnv_same _ ?_ | refine leEnv_norm _ ?_)
        · have c' : ¬ y.lock = t := by simpa using c
          rw [hsu, hs]
          simp only [unlock, c', if_false]
          rw [← hgy, set_getD hvk]
      · obtain rfl : k = E.vars.length := by omega
        rw [someVars_all] at h2 hs
        simp only [go_sem, reduceCtorEq, Nat.reduceAdd, Nat.reduceMul, Nat.reduceLeDiff, Nat.reduceLT, Int.reduceLE, Int.reduceLT, Int.reduceEq, Nat.reduceBEq, Nat.reduceEqDiff, Int.lt_irrefl, f1.1, f1.2.1, f1.2.2, Nat.mul_one]
        refine ⟨⟨hti.1, hti.2⟩, by rw [cells_len E hE.len]; omega, ?_⟩
        have hlen : s.length = st.length := by rw [hs, List.length_set]
        have hgo : ∀ j, j ≠ E.vid → s[j]? = st[j]? := fun j hj => by rw [hs, List.getElem?_set_ne (Ne.symm hj)]
        have key := eng_gone (s := s.set E.id (.cells (E.cells.take (2 + t.toNat) ++ .sc (.pointer none) :: E.cells.drop (2 + (t.toNat + 1))))) (vs := E.vars.map (unlock t)) hE ht (by simp) (by simp [hlen])
          (List.getElem?_set_self (lt_of_get h1)) (by rw [List.getElem?_set_ne hE.vidne]; exact h2) (fun j q1 q2 _ _ => by rw [List.getElem?_set_ne (Ne.symm q1)]; exact hgo j q2)
        exact h _ _ key.1 key.2 (by simp only [EG.abs, List.map_set]; rfl)

end Go.Proofs
set_option linter.unusedSimpArgs false
set_option linter.unusedVariables false
set_option maxRecDepth 8000
namespace Go.Proofs
open Go Go.AL

def TP.base (x : TP) : FM := x.maps.getD 0 (fun _ => none)
/-- One var is written back. -/
def putF (E : EP) (t : Int) (x : TP) : Int × EP := match x.left with
  | [] => (0, E)
  | n :: r => let vs := E.vars.set n.toNat ⟨(x.base n).getD 0, x.stamp, -1⟩
    if r = [] then (4, { E with vars := vs, txs := E.txs.set t.toNat none }) else (3, { E with vars := vs, txs := E.txs.set t.toNat (some { x with left := r }) })

def TX.setLeft (x : TX) (l : List Int) : TX := { x with left := l }

/-- The first map of a transaction. -/
theorem base_at {st : St} {x : TX} (hT : TxAt st x) (h1 : 1 ≤ x.mids.length) : ∃ cs, st[x.pid]? = some (.arr x.pver 1 cs) ∧ cs.drop 0 = .mp (x.mids.getD 0 0) :: cs.drop 1 ∧ st[x.mids.getD 0 0]? = some (.map (pmEs (x.maps.getD 0 []))) ∧ 0 < cs.length := by
  obtain ⟨cs, hp, hle, htk⟩ := hT.parts
  refine ⟨cs, hp, ?_, hT.maps 0 (by omega), Nat.lt_of_lt_of_le (Nat.lt_of_lt_of_le Nat.zero_lt_one h1) hle⟩
  cases hc : cs with
  | nil => rw [hc, List.length_nil] at hle; omega
  | cons c r =>
    rw [hc] at htk
    cases hm : x.mids with
    | nil => rw [hm] at h1; simp at h1
    | cons m q =>
      rw [hm] at htk
      simp only [List.length_cons, List.take_succ_cons, List.map_cons, List.cons.injEq] at htk
      simp [htk.1]

theorem TX.abs_base (x : TX) : x.abs.base = pmGet (x.maps.getD 0 []) := by
  unfold TP.base TX.abs
  simp only [List.getD_eq_getElem?_getD, List.getElem?_map]
  cases x.maps[0]? <;> rfl

set_option maxHeartbeats 4000000 in
theorem put_c {st : St} {E : EG} (hE : EngAt st E) (t : Int) (ht : 0 ≤ t ∧ t < 8) {x : TX} (hx : E.txs[t.toNat]? = some (some x)) (h1 : 1 ≤ x.mids.length) {n : Int} {r : List Int} (hl : x.left = n :: r) (hn : 0 ≤ n ∧ n < (E.vars.length : Int)) (K : SV → St → Prop)
    (h : ∀ s E', EngAt s E' → Fr st E s E' → E'.abs = (putF E.abs t x.abs).2 → K (i64 (putF E.abs t x.abs).1) s) : ACalls Try.prog 62 [.ptr E.id 0, i64 t, .ptr x.id 0] K st := by
  have hT := hE.tx _ x hx
  have g := cells_facts hT.cells
  obtain ⟨cs, hp, hd0, hm, hcl⟩ := base_at hT h1
  have s1d : ∃ s1, s1 = st.set x.id (.cells (x.setLeft r).cells) := ⟨_, rfl⟩
  obtain ⟨s1, hs1⟩ := s1d
  have hse : List.set st x.id (.cells [i64 x.start, i64 x.stamp, .slice (.own x.rid x.rver) 1 (x.reads.map i64), .arr x.pid x.pver x.mids.length, .sc (.bool x.commits), .sc (.bool x.pointed), .slice .imm 1 (r.map i64)]) = s1 := by rw [hs1]; rfl
  have hlt1 := lt_of_get hT.cells
  have a1 : s1[x.id]? = some (.cells (x.setLeft r).cells) := by rw [hs1, List.getElem?_set_self hlt1]
  have hne := hE.tx_ne hx (.inl rfl)
  have n2 : x.id ≠ x.pid := fun e => by have := hT.cells; rw [e, hp] at this; cases this
  have a2 : s1[E.id]? = some (.cells E.cells) := by rw [hs1, List.getElem?_set_ne hne.1]; exact hE.cells
  have a3 : s1[E.vid]? = some (.arr E.vver 3 (E.vars.flatMap tvSV)) := by rw [hs1, List.getElem?_set_ne hne.2]; exact hE.vars
  have a4 : s1[x.pid]? = some (.arr x.pver 1 cs) := by rw [hs1, List.getElem?_set_ne n2]; exact hp
  have a5 : s1[x.mids.getD 0 0]? = some (.map (pmEs (x.maps.getD 0 []))) := by rw [hs1, List.getElem?_set_ne (hT.ne_map hm).1.symm]; exact hm
  have b1 := cells_facts a1
  have b2 := cells_facts a2
  have b3 := arr_facts a3
  have b4 := arr_facts a4
  have b5 := map_facts a5
  have hi := pm_int (x.maps.getD 0 [])
  have hcl1 : (0 : Int) < (x.mids.length : Int) := by omega
  have hd0' : cs = .mp (x.mids.getD 0 0) :: cs.drop 1 := hd0
  have hnv : n.toNat < E.vars.length := by omega
  refine acalls_go (M := []) Try.func62 rfl Try.results62 Try.ntmps62 ?_
  simp only [go_sem, reduceCtorEq, Nat.reduceAdd, Nat.reduceMul, Nat.reduceLeDiff, Nat.reduceLT, Int.reduceLE, Int.reduceLT, Int.reduceEq, Nat.reduceBEq, Nat.reduceEqDiff, g.1, g.2.1, g.2.2, TX.cells, hl, List.map_cons]
  refine ⟨by omega, by omega, ?_⟩
  rw [hse]
  refine awp_drawD [] [19] [([], s1), ([19], s1.set E.vid (.arr E.vver 3 ((E.vars.set n.toNat ⟨(pmGet (x.maps.getD 0 []) n).getD 0, x.stamp, -1⟩).flatMap tvSV)))] [[[]], [[]], [[]], [[]], [[]], [[]], [[]], [[]], [[]], [[]], [[]], [[]], [[]], [[]], [[]], [[]], [[]], [[]], [[]], [[]]] Try.mixed rfl rfl rfl rfl rfl ?_
  refine dD_pA rfl (.ptr E.id 0) (by simp only [go_sem, reduceCtorEq, Nat.reduceAdd, Nat.reduceMul, Nat.reduceLeDiff, Nat.reduceLT, Int.reduceLE, Int.reduceLT, Int.reduceEq, Nat.reduceBEq, Nat.reduceEqDiff, look_c, eqN_nil, eqN_l, eqN_r, eqN_c, forall_cs, forall_nl]) ?_
  refine dD_pA rfl (.ptr E.id 0) (by simp only [go_sem, reduceCtorEq, Nat.reduceAdd, Nat.reduceMul, Nat.reduceLeDiff, Nat.reduceLT, Int.reduceLE, Int.reduceLT, Int.reduceEq, Nat.reduceBEq, Nat.reduceEqDiff, look_c, eqN_nil, eqN_l, eqN_r, eqN_c, forall_cs, forall_nl]) ?_
  refine dD_pA rfl (.ptr E.id 1) (by simp only [go_sem, reduceCtorEq, Nat.reduceAdd, Nat.reduceMul, Nat.reduceLeDiff, Nat.reduceLT, Int.reduceLE, Int.reduceLT, Int.reduceEq, Nat.reduceBEq, Nat.reduceEqDiff, look_c, eqN_nil, eqN_l, eqN_r, eqN_c, forall_cs, forall_nl]) ?_
  refine dD_pA rfl (.arr E.vid E.vver E.vars.length) (by simp only [go_sem, reduceCtorEq, Nat.reduceAdd, Nat.reduceMul, Nat.reduceLeDiff, Nat.reduceLT, Int.reduceLE, Int.reduceLT, Int.reduceEq, Nat.reduceBEq, Nat.reduceEqDiff, look_c, eqN_nil, eqN_l, eqN_r, eqN_c, forall_cs, forall_nl, b2.1, b2.2.1, b2.2.2, EG.cells]) ?_
  refine dD_pA rfl (i64 n) (by simp only [go_sem, reduceCtorEq, Nat.reduceAdd, Nat.reduceMul, Nat.reduceLeDiff, Nat.reduceLT, Int.reduceLE, Int.reduceLT, Int.reduceEq, Nat.reduceBEq, Nat.reduceEqDiff, look_c, eqN_nil, eqN_l, eqN_r, eqN_c, forall_cs, forall_nl]) ?_
  refine dD_pA rfl (.ptr x.id 0) (by simp only [go_sem, reduceCtorEq, Nat.reduceAdd, Nat.reduceMul, Nat.reduceLeDiff, Nat.reduceLT, Int.reduceLE, Int.reduceLT, Int.reduceEq, Nat.reduceBEq, Nat.reduceEqDiff, look_c, eqN_nil, eqN_l, eqN_r, eqN_c, forall_cs, forall_nl]) ?_
  refine dD_pA rfl (.ptr x.id 0) (by simp only [go_sem, reduceCtorEq, Nat.reduceAdd, Nat.reduceMul, Nat.reduceLeDiff, Nat.reduceLT, Int.reduceLE, Int.reduceLT, Int.reduceEq, Nat.reduceBEq, Nat.reduceEqDiff, look_c, eqN_nil, eqN_l, eqN_r, eqN_c, forall_cs, forall_nl]) ?_
  refine dD_pA rfl (.ptr x.id 3) (by simp only [go_sem, reduceCtorEq, Nat.reduceAdd, Nat.reduceMul, Nat.reduceLeDiff, Nat.reduceLT, Int.reduceLE, Int.reduceLT, Int.reduceEq, Nat.reduceBEq, Nat.reduceEqDiff, look_c, eqN_nil, eqN_l, eqN_r, eqN_c, forall_cs, forall_nl]) ?_
  refine dD_pA rfl (.arr x.pid x.pver x.mids.length) (by simp only [go_sem, reduceCtorEq, Nat.reduceAdd, Nat.reduceMul, Nat.reduceLeDiff, Nat.reduceLT, Int.reduceLE, Int.reduceLT, Int.reduceEq, Nat.reduceBEq, Nat.reduceEqDiff, look_c, eqN_nil, eqN_l, eqN_r, eqN_c, forall_cs, forall_nl, b1.1, b1.2.1, b1.2.2, TX.cells, TX.setLeft]) ?_
  refine dD_pA rfl (.aptr x.pid x.pver 0) (by simp only [go_sem, reduceCtorEq, Nat.reduceAdd, Nat.reduceMul, Nat.reduceLeDiff, Nat.reduceLT, Int.reduceLE, Int.reduceLT, Int.reduceEq, Nat.reduceBEq, Nat.reduceEqDiff, look_c, eqN_nil, eqN_l, eqN_r, eqN_c, forall_cs, forall_nl, b4.1, b4.2.1, b4.2.2.1, b4.2.2.2, hcl1]) ?_
  refine dD_pA rfl (.mp (x.mids.getD 0 0)) (by simp only [go_sem, reduceCtorEq, Nat.reduceAdd, Nat.reduceMul, Nat.reduceLeDiff, Nat.reduceLT, Int.reduceLE, Int.reduceLT, Int.reduceEq, Nat.reduceBEq, Nat.reduceEqDiff, look_c, eqN_nil, eqN_l, eqN_r, eqN_c, forall_cs, forall_nl, b4.1, b4.2.1, b4.2.2.1, b4.2.2.2]; rw [hd0']; simp only [go_sem, reduceCtorEq, Nat.reduceAdd, Nat.reduceMul, Nat.reduceLeDiff, Nat.reduceLT, Int.reduceLE, Int.reduceLT, Int.reduceEq, Nat.reduceBEq, Nat.reduceEqDiff]) ?_
  refine dD_pA rfl (i64 n) (by simp only [go_sem, reduceCtorEq, Nat.reduceAdd, Nat.reduceMul, Nat.reduceLeDiff, Nat.reduceLT, Int.reduceLE, Int.reduceLT, Int.reduceEq, Nat.reduceBEq, Nat.reduceEqDiff, look_c, eqN_nil, eqN_l, eqN_r, eqN_c, forall_cs, forall_nl]) ?_
  refine dD_pA rfl (i64 ((pmGet (x.maps.getD 0 []) n).getD 0)) (by simp only [go_sem, reduceCtorEq, Nat.reduceAdd, Nat.reduceMul, Nat.reduceLeDiff, Nat.reduceLT, Int.reduceLE, Int.reduceLT, Int.reduceEq, Nat.reduceBEq, Nat.reduceEqDiff, look_c, eqN_nil, eqN_l, eqN_r, eqN_c, forall_cs, forall_nl]; rw [mapGet_int Try.amap92 Try.zeroSV3 b5.2 hi, pm_get]; exact ⟨rfl, rfl⟩) ?_
  refine dD_pA rfl (.ptr x.id 0) (by simp only [go_sem, reduceCtorEq, Nat.reduceAdd, Nat.reduceMul, Nat.reduceLeDiff, Nat.reduceLT, Int.reduceLE, Int.reduceLT, Int.reduceEq, Nat.reduceBEq, Nat.reduceEqDiff, look_c, eqN_nil, eqN_l, eqN_r, eqN_c, forall_cs, forall_nl]) ?_
  refine dD_pA rfl (.ptr x.id 0) (by simp only [go_sem, reduceCtorEq, Nat.reduceAdd, Nat.reduceMul, Nat.reduceLeDiff, Nat.reduceLT, Int.reduceLE, Int.reduceLT, Int.reduceEq, Nat.reduceBEq, Nat.reduceEqDiff, look_c, eqN_nil, eqN_l, eqN_r, eqN_c, forall_cs, forall_nl]) ?_
  refine dD_pA rfl (.ptr x.id 1) (by simp only [go_sem, reduceCtorEq, Nat.reduceAdd, Nat.reduceMul, Nat.reduceLeDiff, Nat.reduceLT, Int.reduceLE, Int.reduceLT, Int.reduceEq, Nat.reduceBEq, Nat.reduceEqDiff, look_c, eqN_nil, eqN_l, eqN_r, eqN_c, forall_cs, forall_nl]) ?_
  refine dD_pA rfl (i64 x.stamp) (by simp only [go_sem, reduceCtorEq, Nat.reduceAdd, Nat.reduceMul, Nat.reduceLeDiff, Nat.reduceLT, Int.reduceLE, Int.reduceLT, Int.reduceEq, Nat.reduceBEq, Nat.reduceEqDiff, look_c, eqN_nil, eqN_l, eqN_r, eqN_c, forall_cs, forall_nl, b1.1, b1.2.1, b1.2.2, TX.cells, TX.setLeft]) ?_
  refine dD_pA rfl (.agg [i64 ((pmGet (x.maps.getD 0 []) n).getD 0), i64 x.stamp, i64 (-1)]) (by simp only [go_sem, reduceCtorEq, Nat.reduceAdd, Nat.reduceMul, Nat.reduceLeDiff, Nat.reduceLT, Int.reduceLE, Int.reduceLT, Int.reduceEq, Nat.reduceBEq, Nat.reduceEqDiff, look_c, eqN_nil, eqN_l, eqN_r, eqN_c, forall_cs, forall_nl]; refine ⟨_, ?_, rfl⟩; simp only [go_sem, reduceCtorEq, Nat.reduceAdd, Nat.reduceMul, Nat.reduceLeDiff, Nat.reduceLT, Int.reduceLE, Int.reduceLT, Int.reduceEq, Nat.reduceBEq, Nat.reduceEqDiff]; exact ⟨⟨[], by simp⟩, by simp only [go_sem, reduceCtorEq, Nat.reduceAdd, Nat.reduceMul, Nat.reduceLeDiff, Nat.reduceLT, Int.reduceLE, Int.reduceLT, Int.reduceEq, Nat.reduceBEq, Nat.reduceEqDiff], .inl rfl⟩) ?_
  refine dD_pA rfl (.aptr E.vid E.vver (n.toNat * 3)) (by simp only [go_sem, reduceCtorEq, Nat.reduceAdd, Nat.reduceMul, Nat.reduceLeDiff, Nat.reduceLT, Int.reduceLE, Int.reduceLT, Int.reduceEq, Nat.reduceBEq, Nat.reduceEqDiff, look_c, eqN_nil, eqN_l, eqN_r, eqN_c, forall_cs, forall_nl, b3.1, b3.2.1, b3.2.2.1, b3.2.2.2, hn.1, hn.2]) ?_
  refine dD_t1 (d := [19]) rfl rfl .any rfl (by simp only [go_sem, reduceCtorEq, Nat.reduceAdd, Nat.reduceMul, Nat.reduceLeDiff, Nat.reduceLT, Int.reduceLE, Int.reduceLT, Int.reduceEq, Nat.reduceBEq, Nat.reduceEqDiff, look_c, eqN_nil, eqN_l, eqN_r, eqN_c, forall_cs, forall_nl, b3.1, b3.2.1, b3.2.2.1, b3.2.2.2]; exact ⟨by rw [vars_len]; omega, by rw [← vars_put hnv]; rfl⟩) ?_
  refine dD_end ?_
  obtain ⟨vs, hvs⟩ : ∃ vs, vs = E.vars.set n.toNat ⟨(pmGet (x.maps.getD 0 []) n).getD 0, x.stamp, -1⟩ := ⟨_, rfl⟩
  have hvl : vs.length = E.vars.length := by rw [hvs, List.length_set]
  rw [← hvs]
  obtain ⟨s2, hs2⟩ : ∃ s2, s2 = s1.set E.vid (.arr E.vver 3 (vs.flatMap tvSV)) := ⟨_, rfl⟩
  show thenQ _ _ .normal _ (s1.set E.vid (.arr E.vver 3 (vs.flatMap tvSV)))
  rw [← hs2]
  have d1 : s2[x.id]? = some (.cells (x.setLeft r).cells) := by rw [hs2, List.getElem?_set_ne hne.2.symm]; exact a1
  have d2 : s2[E.id]? = some (.cells E.cells) := by rw [hs2, List.getElem?_set_ne hE.vidne.symm]; exact a2
  have e1 := cells_facts d1
  have e2 := cells_facts d2
  have hF : putF E.abs t x.abs = if r = [] then (4, { E.abs with vars := vs, txs := E.abs.txs.set t.toNat none }) else (3, { E.abs with vars := vs, txs := E.abs.txs.set t.toNat (some { x.abs with left := r }) }) := by
    unfold putF
    rw [show x.abs.left = n :: r from hl]
    simp only [TX.abs_base]
    rw [show (x.abs.stamp = x.stamp) from rfl, show E.abs.vars = E.vars from rfl, ← hvs]
  rw [hF] at h
  have hoth : ∀ j, j ≠ E.vid → j ≠ x.id → s2[j]? = st[j]? := fun j q1 q2 => by rw [hs2, List.getElem?_set_ne q1.symm, hs1, List.getElem?_set_ne q2.symm]
  have hl2 : s2.length = st.length := by rw [hs2, hs1]; simp
  have ht8 : t.toNat < 8 := by omega
  have d3 : s2[E.vid]? = some (.arr E.vver 3 (vs.flatMap tvSV)) := by rw [hs2, List.getElem?_set_self (lt_of_get a3)]
  cases hr : r with
  | nil =>
    rw [hr, if_pos rfl] at h
    simp only [go_sem, reduceCtorEq, Nat.reduceAdd, Nat.reduceMul, Nat.reduceLeDiff, Nat.reduceLT, Int.reduceLE, Int.reduceLT, Int.reduceEq, Nat.reduceBEq, Nat.reduceEqDiff, e1.1, e1.2.1, e1.2.2, TX.cells, TX.setLeft, hr]
    refine ⟨fun c => by simp at c, fun _ => ⟨⟨ht.1, ht.2⟩, e2.2.1 ▸ trivial, ?_⟩⟩
    rw [e2.2.2, Nat.mul_one]
    refine ⟨by rw [cells_len E hE.len]; omega, ?_⟩
    have key := eng_gone (s := s2.set E.id (.cells (E.cells.take (2 + t.toNat) ++ .sc (.pointer none) :: E.cells.drop (2 + (t.toNat + 1))))) (vs := vs) hE ht8 hvl (by simp [hl2])
      (List.getElem?_set_self (lt_of_get d2)) (by rw [List.getElem?_set_ne hE.vidne]; exact d3) (fun j q1 q2 q3 _ => by rw [List.getElem?_set_ne (Ne.symm q1)]; exact hoth j q2 (fun e => q3 x hx (.inl e)))
    exact h _ _ key.1 key.2 (by simp only [EG.abs, List.map_set]; rfl)
  | cons a q =>
    rw [if_neg (by rw [hr]; exact List.cons_ne_nil _ _)] at h
    simp only [go_sem, reduceCtorEq, Nat.reduceAdd, Nat.reduceMul, Nat.reduceLeDiff, Nat.reduceLT, Int.reduceLE, Int.reduceLT, Int.reduceEq, Nat.reduceBEq, Nat.reduceEqDiff, e1.1, e1.2.1, e1.2.2, TX.cells, TX.setLeft, hr]
    refine ⟨fun _ => ?_, fun c => by simp at c⟩
    have hT2 : TxAt s2 (x.setLeft r) := by
      obtain ⟨cs', hp', hle', htk'⟩ := hT.parts
      have hm2 : ∀ j, j ≠ E.vid → j ≠ x.id → x.has j → s2[j]? = st[j]? := fun j q1 q2 _ => hoth j q1 q2
      have nv : ∀ j, x.has j → j ≠ E.vid := fun j hj => (hE.tx_ne hx hj).2
      refine ⟨d1, ?_, ⟨cs', ?_, hle', htk'⟩, hT.len, fun i hi => ?_, hT.nodup, hT.keys⟩
      · exact (hoth x.rid (nv _ (.inr (.inl rfl))) (fun e => by have := hT.tok; rw [e, hT.cells] at this; cases this)).trans hT.tok
      · exact (hoth x.pid (nv _ (.inr (.inr (.inl rfl)))) n2.symm).trans hp'
      · have h5 := hT.maps i hi
        have hmm : x.mids.getD i 0 ∈ x.mids := by
          have hi' : i < x.mids.length := hi
          simp [List.getD_eq_getElem?_getD, hi']
        exact (hoth _ (nv _ (.inr (.inr (.inr hmm)))) (hT.ne_map h5).1).trans h5
    have hcells : ({ E with vars := vs, txs := E.txs.set t.toNat (some (x.setLeft r)) } : EG).cells = E.cells := by
      unfold EG.cells
      simp only [hvl, List.map_set]
      rw [show txSV (some (x.setLeft r)) = txSV (some x) from rfl, ← List.map_set, set_self hx]
    have key := eng_upd (s := s2) (E' := { E with vars := vs, txs := E.txs.set t.toNat (some (x.setLeft r)) }) hE ht8 (some (x.setLeft r)) rfl rfl rfl (by rw [hcells]; exact d2) d3 (by show vs.length ≤ 4000; rw [hvl]; exact hE.many) (by omega)
      (fun j q1 q2 q3 _ => hoth j q2 (fun e => q3 x hx (.inl e))) (fun x' hx' => by cases hx'; exact ⟨hT2, fun j hj => .inl ⟨x, hx, hj⟩⟩)
    exact h _ _ key.1 key.2 (by simp only [EG.abs, List.map_set, ← hr]; rfl)

end Go.Proofs
set_option linter.unusedSimpArgs false
set_option linter.unusedVariables false
set_option maxRecDepth 8000
namespace Go.Proofs
open Go Go.AL

/-- The first var that is not yet one's own is locked, or is another's. -/
def lockF (t : Int) (vars : List TV) : List Int → Option ((Int × Int) × List TV)
  | [] => none
  | n :: r => if (vars.getD n.toNat default).lock = t then lockF t vars r else
    if (vars.getD n.toNat default).lock = -1 then some ((1, 0), vars.set n.toNat { vars.getD n.toNat default with lock := t }) else some ((0, 32), vars)

def TP.commit (x : TP) : TP := { x with commits := true }
def stepF (E : EP) (t : Int) : (Int × Int) × EP := match E.of t with
  | none => ((0, 1), E)
  | some x => if 1 < x.maps.length then ((0, 1), E) else
    if x.pointed then (((putF (E.put t x.commit) t x.commit).1, 0), (putF (E.put t x.commit) t x.commit).2) else
    match lockF t E.vars (keysUpto x.base E.vars.length) with
    | some (a, vs) => (a, { E.put t x.commit with vars := vs })
    | none => if validL t x.start E.vars x.reads ≠ 0 then ((0, validL t x.start E.vars x.reads), E.put t x.commit) else
      if keysUpto x.base E.vars.length = [] then ((4, 0), { E with txs := E.txs.set t.toNat none }) else
      ((2, 0), { E.put t { x.commit with pointed := true, stamp := E.clock + 1, left := keysUpto x.base E.vars.length } with clock := E.clock + 1 })

def TX.commit (x : TX) : TX := { x with commits := true }

/-- A transaction's own cells have turned. -/
theorem TxAt.own {st : St} {x x' : TX} (hT : TxAt st x) (h1 : x'.id = x.id) (h2 : x'.rid = x.rid) (h3 : x'.rver = x.rver) (h4 : x'.pid = x.pid) (h5 : x'.pver = x.pver) (h6 : x'.mids = x.mids) (h7 : x'.maps = x.maps) :
    TxAt (st.set x.id (.cells x'.cells)) x' := by
  have hlt1 := lt_of_get hT.cells
  have n1 : x.id ≠ x.rid := fun e => by have := hT.cells; rw [e, hT.tok] at this; cases this
  obtain ⟨cs, hp, hle, htk⟩ := hT.parts
  have n2 : x.id ≠ x.pid := fun e => by have := hT.cells; rw [e, hp] at this; cases this
  refine ⟨by rw [h1]; exact List.getElem?_set_self hlt1, by rw [h2, h3, List.getElem?_set_ne n1]; exact hT.tok, ⟨cs, by rw [h4, h5, List.getElem?_set_ne n2]; exact hp, by rw [h6]; exact hle, by rw [h6]; exact htk⟩, by rw [h6, h7]; exact hT.len, fun i hi => ?_, by rw [h6]; exact hT.nodup, by rw [h7]; exact hT.keys⟩
  rw [h6] at hi ⊢
  rw [h7]
  have h9 := hT.maps i hi
  rw [List.getElem?_set_ne (hT.ne_map h9).1.symm]
  exact h9

theorem own_eng {st : St} {E : EG} (hE : EngAt st E) {t : Nat} (ht : t < 8) {x x' : TX} (hx : E.txs[t]? = some (some x)) (h1 : x'.id = x.id) (h2 : x'.rid = x.rid) (h3 : x'.rver = x.rver) (h4 : x'.pid = x.pid) (h5 : x'.pver = x.pver) (h6 : x'.mids = x.mids) (h7 : x'.maps = x.maps) :
    EngAt (st.set x.id (.cells x'.cells)) (E.setTx t x') ∧ Fr st E (st.set x.id (.cells x'.cells)) (E.setTx t x') :=
  eng_tx hE ht hx h1 (by simp) (fun j hj _ => List.getElem?_set_ne (fun e => hj (.inl e.symm))) ((hE.tx _ _ hx).own h1 h2 h3 h4 h5 h6 h7) fun j hj => .inl (by
    unfold TX.has at hj ⊢; rw [h1, h2, h4, h6] at hj; exact hj)

theorem keys_len {S : PMap} {n : Nat} (ks : (S.map (·.1)).Nodup) (hb : ∀ k, (pmGet S k).isSome = true → 0 ≤ k ∧ k < (n : Int)) : S.length ≤ n := by
  have h1 : ((S.map (·.1)).map Int.toNat).Nodup := by
    rw [List.Nodup, List.pairwise_map]
    refine List.Pairwise.imp_of_mem ?_ ks
    intro a b ha hb' hab e
    have q1 := hb a (mem_keys.1 ha)
    have q2 := hb b (mem_keys.1 hb')
    omega
  have h2 := nodup_len h1 (n := n) (fun j hj => by
    obtain ⟨a, ha, rfl⟩ := List.mem_map.1 hj
    have q1 := hb a (mem_keys.1 ha)
    omega)
  simpa using h2

set_option maxHeartbeats 8000000 in
theorem step_c {st : St} {E : EG} (hE : EngAt st E) (hF : Fine E) (t : Int) (K : SV → St → Prop)
    (h : ∀ s E', EngAt s E' → Fr st E s E' → E'.abs = (stepF E.abs t).2 → K (.tuple [i64 (stepF E.abs t).1.1, i64 (stepF E.abs t).1.2]) s) : ACalls Try.prog 22 [.ptr E.id 0, i64 t] K st := by
  have hof := of_c hE t
  have hab := abs_of E t
  unfold stepF at h
  rw [hab] at h
  cases hx : E.of t with
  | none =>
    rw [hx] at hof h
    refine acalls_go (M := []) Try.func22 rfl Try.results22 Try.ntmps22 ?_
    simp only [go_sem, reduceCtorEq, Nat.reduceAdd, Nat.reduceMul, Nat.reduceLeDiff, Nat.reduceLT, Int.reduceLE, Int.reduceLT, Int.reduceEq, Nat.reduceBEq, Nat.reduceEqDiff]
    refine hof _ ?_
    simp only [txSV, go_sem, reduceCtorEq, Nat.reduceAdd, Nat.reduceMul, Nat.reduceLeDiff, Nat.reduceLT, Int.reduceLE, Int.reduceLT, Int.reduceEq, Nat.reduceBEq, Nat.reduceEqDiff]
    exact h st E hE (Fr.refl _ _) rfl
  | some x =>
    rw [hx] at hof h
    simp only [Option.map_some, TX.abs_len, TX.abs_base] at h
    obtain ⟨hti, htx⟩ := of_some hx
    have ht : t.toNat < 8 := by omega
    have hT := hE.tx _ x htx
    have h1 := hF.one _ x htx
    have hml := hT.len
    have g := cells_facts hT.cells
    obtain ⟨cs, hp, hd0, hm, hcl⟩ := base_at hT h1
    have w := arr_facts hp
    by_cases c : 1 < x.maps.length
    · have c' : ((1 : Int) < (x.mids.length : Int)) = True := eq_true (by omega)
      rw [if_pos c] at h
      refine acalls_go (M := []) Try.func22 rfl Try.results22 Try.ntmps22 ?_
      simp only [go_sem, reduceCtorEq, Nat.reduceAdd, Nat.reduceMul, Nat.reduceLeDiff, Nat.reduceLT, Int.reduceLE, Int.reduceLT, Int.reduceEq, Nat.reduceBEq, Nat.reduceEqDiff]
      refine hof _ ?_
      simp only [txSV, go_sem, reduceCtorEq, Nat.reduceAdd, Nat.reduceMul, Nat.reduceLeDiff, Nat.reduceLT, Int.reduceLE, Int.reduceLT, Int.reduceEq, Nat.reduceBEq, Nat.reduceEqDiff, g.1, g.2.1, g.2.2, TX.cells, w.1, w.2.1, w.2.2.1, w.2.2.2, c']
      exact h st E hE (Fr.refl _ _) rfl
    · have c' : ((1 : Int) < (x.mids.length : Int)) = False := eq_false (by omega)
      rw [if_neg c] at h
      have hd0' : cs = .mp (x.mids.getD 0 0) :: cs.drop 1 := hd0
      have hcl1 : (0 : Int) < (x.mids.length : Int) := by omega
      have hcommit := own_eng hE ht htx (x' := x.commit) rfl rfl rfl rfl rfl rfl rfl
      obtain ⟨s1, hs1⟩ : ∃ s1, s1 = List.set st x.id (.cells x.commit.cells) := ⟨_, rfl⟩
      have hse : List.set st x.id (.cells [i64 x.start, i64 x.stamp, .slice (.own x.rid x.rver) 1 (x.reads.map i64), .arr x.pid x.pver x.mids.length, .sc (.bool true), .sc (.bool x.pointed), .slice .imm 1 (x.left.map i64)]) = s1 := by rw [hs1]; rfl
      rw [← hs1] at hcommit
      obtain ⟨hE1, hFr1⟩ := hcommit
      have hx1 : (E.setTx t.toNat x.commit).txs[t.toNat]? = some (some x.commit) := by
        show (E.txs.set _ _)[_]? = _
        rw [List.getElem?_set_self (lt_of_get htx)]
      have hT1 := hE1.tx _ _ hx1
      have hab1 : (E.setTx t.toNat x.commit).abs = E.abs.put t x.abs.commit := abs_put E t _
      have a1 := cells_facts hT1.cells
      obtain ⟨cs1, hp1, hd1, hm1, hcl2⟩ := base_at hT1 h1
      have hd1' : cs1 = .mp (x.mids.getD 0 0) :: cs1.drop 1 := hd1
      have b1 : inS s1 x.pid = True ∧ arrOk s1 x.pid x.pver = True ∧ arrZ s1 x.pid = 1 ∧ arrC s1 x.pid = cs1 := arr_facts hp1
      have e1 : inS s1 x.id = True ∧ isObj s1 x.id = True ∧ objAt s1 x.id = x.commit.cells := a1
      have hks := hT.keys (x.maps.getD 0 []) (by simp [List.getD_eq_getElem?_getD, show 0 < x.maps.length by omega])
      have hdom := hF.dom _ x htx (x.maps.getD 0 []) (by simp [List.getD_eq_getElem?_getD, show 0 < x.maps.length by omega])
      have hkl := keys_len hks hdom
      have hmany := hE.many
      have hm1' : s1[x.mids.getD 0 0]? = some (.map (pmEs (x.maps.getD 0 []))) := hm1
      have hsort := sorted_c hm1' hks (by omega) hdom
      obtain ⟨ks, hksd⟩ : ∃ ks, ks = keysUpto (pmGet (x.maps.getD 0 [])) E.vars.length := ⟨_, rfl⟩
      rw [show E.abs.vars = E.vars from rfl, ← hksd] at h
      rw [← hksd] at hsort
      cases hpt : x.pointed with
      | true =>
        rw [if_pos (show x.abs.pointed = true from hpt), ← hab1] at h
        obtain ⟨l1, l2⟩ := hF.left _ x htx hpt
        obtain ⟨n, r, hl⟩ : ∃ n r, x.left = n :: r := by cases hl : x.left with | nil => exact absurd hl l1 | cons n r => exact ⟨n, r, rfl⟩
        have hput := put_c hE1 t hti hx1 h1 (n := n) (r := r) hl (l2 n (by rw [hl]; simp))
        refine acalls_go (M := []) Try.func22 rfl Try.results22 Try.ntmps22 ?_
        simp only [go_sem, reduceCtorEq, Nat.reduceAdd, Nat.reduceMul, Nat.reduceLeDiff, Nat.reduceLT, Int.reduceLE, Int.reduceLT, Int.reduceEq, Nat.reduceBEq, Nat.reduceEqDiff]
        refine hof _ ?_
        simp only [txSV, go_sem, reduceCtorEq, Nat.reduceAdd, Nat.reduceMul, Nat.reduceLeDiff, Nat.reduceLT, Int.reduceLE, Int.reduceLT, Int.reduceEq, Nat.reduceBEq, Nat.reduceEqDiff, g.1, g.2.1, g.2.2, TX.cells, w.1, w.2.1, w.2.2.1, w.2.2.2, c', hse, e1.1, e1.2.1, e1.2.2, b1.1, b1.2.1, b1.2.2.1, b1.2.2.2, TX.commit, hcl1]
        rw [hd1']
        simp only [go_sem, reduceCtorEq, Nat.reduceAdd, Nat.reduceMul, Nat.reduceLeDiff, Nat.reduceLT, Int.reduceLE, Int.reduceLT, Int.reduceEq, Nat.reduceBEq, Nat.reduceEqDiff]
        refine hsort _ ?_
        simp only [txSV, go_sem, reduceCtorEq, Nat.reduceAdd, Nat.reduceMul, Nat.reduceLeDiff, Nat.reduceLT, Int.reduceLE, Int.reduceLT, Int.reduceEq, Nat.reduceBEq, Nat.reduceEqDiff, g.1, g.2.1, g.2.2, TX.cells, w.1, w.2.1, w.2.2.1, w.2.2.2, hse, b1.1, b1.2.1, b1.2.2.1, b1.2.2.2, hcl1, c', e1.1, e1.2.1, e1.2.2, TX.cells, TX.commit, hpt]
        refine hput _ fun s E' k1 k2 k3 => ?_
        simp only [go_sem, reduceCtorEq, Nat.reduceAdd, Nat.reduceMul, Nat.reduceLeDiff, Nat.reduceLT, Int.reduceLE, Int.reduceLT, Int.reduceEq, Nat.reduceBEq, Nat.reduceEqDiff]
        exact h s E' k1 (hFr1.trans k2) k3
      | false =>
        rw [if_neg (show ¬ x.abs.pointed = true from by rw [show x.abs.pointed = x.pointed from rfl, hpt]; decide)] at h
        have hkin : ∀ n ∈ ks, 0 ≤ n ∧ n < (E.vars.length : Int) := fun n hn => by rw [hksd] at hn; exact (mem_keysUpto.1 hn).1
        have hkl2 : ks.length ≤ 4000 := by
          rw [hksd]; unfold keysUpto
          rw [List.length_map]
          exact Nat.le_trans (List.length_filter_le _ _) (by simpa using hmany)
        have f1 : inS s1 E.id = True ∧ isObj s1 E.id = True ∧ objAt s1 E.id = i64 E.clock :: .arr E.vid E.vver E.vars.length :: (E.txs.set t.toNat (some x.commit)).map txSV := cells_facts hE1.cells
        have w1 : inS s1 E.vid = True ∧ arrOk s1 E.vid E.vver = True ∧ arrZ s1 E.vid = 3 ∧ arrC s1 E.vid = E.vars.flatMap tvSV := arr_facts hE1.vars
        refine acalls_go (M := []) Try.func22 rfl Try.results22 Try.ntmps22 ?_
        simp only [go_sem, reduceCtorEq, Nat.reduceAdd, Nat.reduceMul, Nat.reduceLeDiff, Nat.reduceLT, Int.reduceLE, Int.reduceLT, Int.reduceEq, Nat.reduceBEq, Nat.reduceEqDiff]
        refine hof _ ?_
        simp only [txSV, go_sem, reduceCtorEq, Nat.reduceAdd, Nat.reduceMul, Nat.reduceLeDiff, Nat.reduceLT, Int.reduceLE, Int.reduceLT, Int.reduceEq, Nat.reduceBEq, Nat.reduceEqDiff, g.1, g.2.1, g.2.2, TX.cells, w.1, w.2.1, w.2.2.1, w.2.2.2, c', hse, e1.1, e1.2.1, e1.2.2, b1.1, b1.2.1, b1.2.2.1, b1.2.2.2, TX.commit, hcl1]
        rw [hd1']
        simp only [go_sem, reduceCtorEq, Nat.reduceAdd, Nat.reduceMul, Nat.reduceLeDiff, Nat.reduceLT, Int.reduceLE, Int.reduceLT, Int.reduceEq, Nat.reduceBEq, Nat.reduceEqDiff]
        refine hsort _ ?_
        simp only [txSV, go_sem, reduceCtorEq, Nat.reduceAdd, Nat.reduceMul, Nat.reduceLeDiff, Nat.reduceLT, Int.reduceLE, Int.reduceLT, Int.reduceEq, Nat.reduceBEq, Nat.reduceEqDiff, g.1, g.2.1, g.2.2, TX.cells, w.1, w.2.1, w.2.2.1, w.2.2.2, hse, b1.1, b1.2.1, b1.2.2.1, b1.2.2.2, hcl1, c', e1.1, e1.2.1, e1.2.2, TX.cells, TX.commit, hpt]
        refine awp_rounds [] (fun m e s => ∃ (k : Nat), k + m = ks.length ∧ lockF t E.vars ks = lockF t E.vars (ks.drop k) ∧ e = [.ptr E.id 0, i64 t, .any, .any, .any, .any, .ptr x.id 0, .slice .imm 1 (ks.map i64), .any, .any, .any, .any, .any, .any, .any, .any, .any, .any, .any, .any, .any, .any, .any, .any, .any, .any, .any, .any, .any, .any, .any, .any, .any, .any, .any, .any, .any, .any, .any, .any, .any, .any, .slice .imm 1 (ks.map i64), i64 ks.length, i64 k, .any, .any, .any, .any, .any, .any, .any, .any, .any, .any, .any, .any, .any, .any, .any, .any, .any, .any, .any, .any, .any, .any, .any, .any, .any, .any, .any, .any, .any, .any, .any, .any, .any, .any, .any, .any, .any, .any, .any, .any, .any, .any, .any, .any, .any, .any, .any, .any, .any, .any, .any, .any, .any, .any, .any, .any, .any, .any, .any, .any, .any] ∧ s = s1) (n := ks.length) ?_ ⟨0, by omega, rfl, rfl, rfl⟩ ?_
        · repeat (first | exact leEnv_nil | refine leEnv_any _ ?_ | refine leEnv_same _ ?_ | refine leEnv_norm _ ?_)
        rintro m e s ⟨k, hkm, hlk, rfl, rfl⟩
        by_cases hlt : k < ks.length
        · have c1 : (k : Int) < (ks.length : Int) := by omega
          have hw := wrapS k (by omega)
          obtain ⟨n, hn⟩ : ∃ n, n = ks.getD k 0 := ⟨_, rfl⟩
          have hmem : n ∈ ks := by rw [hn]; simp [List.getD_eq_getElem?_getD, hlt]
          obtain ⟨n0, n1⟩ := hkin n hmem
          have hv := vars_drop2 (l := E.vars) (n := n.toNat) (by omega)
          rw [drop_i64 hlt, lockF, ← hn] at hlk
          obtain ⟨y, hy⟩ : ∃ y, y = E.vars.getD n.toNat default := ⟨_, rfl⟩
          rw [← hy] at hv hlk
          simp only [go_sem, reduceCtorEq, Nat.reduceAdd, Nat.reduceMul, Nat.reduceLeDiff, Nat.reduceLT, Int.reduceLE, Int.reduceLT, Int.reduceEq, Nat.reduceBEq, Nat.reduceEqDiff, c1, getD_i64 hlt]
          rw [← hn]
          simp only [go_sem, reduceCtorEq, Nat.reduceAdd, Nat.reduceMul, Nat.reduceLeDiff, Nat.reduceLT, Int.reduceLE, Int.reduceLT, Int.reduceEq, Nat.reduceBEq, Nat.reduceEqDiff, f1.1, f1.2.1, f1.2.2, w1.1, w1.2.1, w1.2.2.1, w1.2.2.2, n0, n1, hv, hw]
          refine ⟨fun c => ?_, fun c => ⟨fun d => ⟨by rw [vars_len]; omega, ?_⟩, fun d => ?_⟩⟩
          · rw [if_pos (by simpa using c)] at hlk
            refine ⟨m - 1, _, by omega, ?_, k + 1, by omega, hlk, rfl⟩
            repeat (first | exact leEnv_nil | refine leEnv_any _ ?_ | refine leEnv_same _ ?_ | refine leEnv_norm _ ?_)
          · rw [if_neg (by simpa using c), if_pos (by simpa using d)] at hlk
            rw [hlk] at h
            have hnl : n.toNat < E.vars.length := by omega
            have e := vars_put2 hnl t
            rw [show SV.sc (Value.int IntKind.i64 t) = i64 t from rfl, e, ← hy]
            have key := eng_core (s := s.set E.vid (.arr E.vver 3 ((E.vars.set n.toNat { y with lock := t }).flatMap tvSV))) (E' := { E.setTx t.toNat x.commit with vars := E.vars.set n.toNat { y with lock := t } }) hE1 rfl rfl rfl
              ((List.getElem?_set_ne hE.vidne.symm).trans (hE1.cells.trans (by simp [EG.cells, EG.setTx]))) (List.getElem?_set_self (lt_of_get hE1.vars)) (by simpa using hmany) (by simp) (fun j q1 q2 q3 => List.getElem?_set_ne (Ne.symm q2))
            exact h _ _ key.1 (hFr1.trans key.2) (by rw [← hab1]; rfl)
          · rw [if_neg (by simpa using c), if_neg (by simpa using d)] at hlk
            rw [hlk] at h
            exact h _ _ hE1 hFr1 (by rw [hab1]; rfl)
        · obtain rfl : k = ks.length := by omega
          rw [List.drop_length] at hlk
          rw [hlk] at h
          have hvl : ∀ K : SV → St → Prop, K (i64 (validL t x.start E.vars x.reads)) s → ACalls Try.prog 63 [.ptr E.id 0, i64 t, .ptr x.id 0] K s := valid_c hE1 t x.commit hT1 (hF.reads _ x htx).1 (hF.reads _ x htx).2.1
          rw [show x.abs.start = x.start from rfl, show x.abs.reads = x.reads from rfl] at h
          obtain ⟨c0, hc0⟩ : ∃ c0, c0 = validL t x.start E.vars x.reads := ⟨_, rfl⟩
          rw [← hc0] at hvl h
          have hcl9 := hF.clk
          have hw : IntKind.i64.wrap (E.clock + 1) = E.clock + 1 := by rw [IntWalk.i64_in _ (by omega)]
          have hne := (hE.tx_ne htx (.inl rfl)).1
          have hne' := hne.symm
          simp only [go_sem, reduceCtorEq, Nat.reduceAdd, Nat.reduceMul, Nat.reduceLeDiff, Nat.reduceLT, Int.reduceLE, Int.reduceLT, Int.reduceEq, Nat.reduceBEq, Nat.reduceEqDiff, Int.lt_irrefl]
          refine hvl _ ?_
          simp only [go_sem, reduceCtorEq, Nat.reduceAdd, Nat.reduceMul, Nat.reduceLeDiff, Nat.reduceLT, Int.reduceLE, Int.reduceLT, Int.reduceEq, Nat.reduceBEq, Nat.reduceEqDiff, f1.1, f1.2.1, f1.2.2, e1.1, e1.2.1, e1.2.2, TX.cells, TX.commit, hw, hne, hne']
          refine ⟨fun d => ?_, fun d => ⟨fun d2 => ?_, fun d2 => ?_⟩⟩
          · rw [if_pos (by simpa using d)] at h
            exact h _ _ hE1 hFr1 hab1
          · have hk0 : ks = [] := by simpa using d2
            rw [if_neg (by simpa using d), if_pos hk0] at h
            refine ⟨⟨hti.1, hti.2⟩, by rw [hE.len]; omega, ?_⟩
            rw [Nat.mul_one]
            have key := eng_gone (s := s.set E.id (.cells ((E.setTx t.toNat x.commit).cells.take (2 + t.toNat) ++ .sc (.pointer none) :: (E.setTx t.toNat x.commit).cells.drop (2 + (t.toNat + 1))))) (vs := E.vars) hE1 ht rfl (by simp)
              (List.getElem?_set_self (lt_of_get hE1.cells)) ((List.getElem?_set_ne hE.vidne).trans hE1.vars) (fun j q1 q2 q3 _ => List.getElem?_set_ne (Ne.symm q1))
            exact h _ _ key.1 (hFr1.trans key.2) (by simp only [EG.abs, EG.setTx, List.set_set, List.map_set]; rfl)
          · have hk0 : ks ≠ [] := by intro e; rw [e] at d2; simp at d2
            rw [if_neg (by simpa using d), if_neg hk0] at h
            have key := eng_core (s := s.set E.id (.cells ({ E.setTx t.toNat x.commit with clock := E.clock + 1 } : EG).cells)) (E' := { E.setTx t.toNat x.commit with clock := E.clock + 1 }) hE1 rfl rfl rfl
              (List.getElem?_set_self (lt_of_get hE1.cells)) ((List.getElem?_set_ne hE.vidne).trans hE1.vars) hmany (by simp) (fun j q1 q2 q3 => List.getElem?_set_ne (Ne.symm q1))
            have key2 := own_eng key.1 ht (x := x.commit) (x' := { x.commit with pointed := true, stamp := E.clock + 1, left := ks }) hx1 rfl rfl rfl rfl rfl rfl rfl
            exact h _ _ key2.1 ((hFr1.trans key.2).trans key2.2) (by simp only [EG.abs, EG.setTx, List.set_set, List.map_set]; rfl)

end Go.Proofs
set_option linter.unusedSimpArgs false
set_option linter.unusedVariables false
set_option maxRecDepth 8000
namespace Go.Proofs
open Go Go.AL Go.Shelf
def Try.lays15_ren : Go.Shelf.Ren := ⟨fun | 15 => 82 | n => n, fun | 22 => 29 | 3 => 3 | 4 => 4 | n => n, fun | n => n⟩
theorem Try.lays15 : Go.Proofs.Lays2.n15 Try.prog Try.lays15_ren := {
  mixed := by kernel_rfl
  f15 := Try.func82.trans (congrArg some (by kernel_rfl))
  t3 := Try.underlying3
  a3 := Try.isAgg3
  z3 := Try.sizeOf3
  v3 := Try.zeroValue3
  t4 := Try.underlying4
  a4 := Try.isAgg4
  z4 := Try.sizeOf4
  v4 := Try.zeroValue4
  t22 := Try.underlying29
  a22 := Try.isAgg29
  z22 := Try.sizeOf29
  v22 := Try.zeroValue29
  i3 := by kernel_rfl }

def indexF (l : List Int) (n : Int) : Int := match l.findIdx? fun a => decide (n = a) with | some i => (i : Int) | none => -1

theorem index_c {st : St} (m : AL.Mode) {l : List Int} (hl : l.length ≤ 1000000) (n : Int) (K : SV → St → Prop) (h : K (i64 (indexF l n)) st) : ACalls Try.prog 76 [.slice m 1 (l.map i64), i64 n] K st := by
  refine acalls_go_pure [] Try.func76 rfl Try.results76 Try.ntmps76 ?_
  simp only [go_sem, reduceCtorEq, Nat.reduceAdd, Nat.reduceMul, Nat.reduceLeDiff, Nat.reduceLT, Int.reduceLE, Int.reduceLT, Int.reduceEq, Nat.reduceBEq, Nat.reduceEqDiff]
  refine awp_rounds [] (fun r e s => ∃ (k : Nat), k + r = l.length ∧ indexF l n = (match (l.drop k).findIdx? fun a => decide (n = a) with | some i => ((k + i : Nat) : Int) | none => -1) ∧ e = [.slice m 1 (l.map i64), i64 n, .any, .any, .any, .any, .any, i64 l.length, i64 k, .any, .any, .any, .any, .any, .any, .any, .any, .any, .any] ∧ s = st) (n := l.length) ?_ ⟨0, by omega, by unfold indexF; rw [List.drop_zero]; split <;> simp, rfl, rfl⟩ ?_
  · repeat (first | exact leEnv_nil | refine leEnv_any _ ?_ | refine leEnv_same _ ?_ | refine leEnv_norm _ ?_)
  rintro r e s ⟨k, hkm, hv, rfl, rfl⟩
  by_cases hlt : k < l.length
  · have c1 : (k : Int) < (l.length : Int) := by omega
    have c2 : (0 : Int) ≤ (k : Int) := by omega
    have hw := wrapS k (by omega)
    rw [drop_i64 hlt, List.findIdx?_cons] at hv
    obtain ⟨a, ha⟩ : ∃ a, a = l.getD k 0 := ⟨_, rfl⟩
    rw [← ha] at hv
    simp only [go_sem, reduceCtorEq, Nat.reduceAdd, Nat.reduceMul, Nat.reduceLeDiff, Nat.reduceLT, Int.reduceLE, Int.reduceLT, Int.reduceEq, Nat.reduceBEq, Nat.reduceEqDiff, c1, c2, getD_i64 hlt, hw, Int.toNat_natCast]
    rw [← ha]
    refine ⟨fun c => ?_, fun c => ⟨r - 1, _, by omega, ?_, k + 1, by omega, ?_, rfl⟩⟩
    · rw [if_pos (by simpa using c)] at hv
      rw [hv] at h
      exact fin_sc h
    · repeat (first | exact leEnv_nil | refine leEnv_any _ ?_ | refine leEnv_same _ ?_ | refine leEnv_norm _ ?_)
    · rw [if_neg (by simpa using c)] at hv
      rw [hv]
      cases (l.drop (k + 1)).findIdx? fun a => decide (n = a) with
      | none => rfl
      | some i => simp only [Option.map_some]; rw [show k + (i + 1) = k + 1 + i by omega]
  · obtain rfl : k = l.length := by omega
    simp only [go_sem, reduceCtorEq, Nat.reduceAdd, Nat.reduceMul, Nat.reduceLeDiff, Nat.reduceLT, Int.reduceLE, Int.reduceLT, Int.reduceEq, Nat.reduceBEq, Nat.reduceEqDiff, Int.lt_irrefl]
    rw [hv, List.drop_length] at h
    exact fin_sc h

def containsF (l : List Int) (n : Int) : Bool := decide (n ∈ l)

theorem contains_c {st : St} (m : AL.Mode) {l : List Int} (hl : l.length ≤ 1000000) (n : Int) (K : SV → St → Prop) (h : K (.sc (.bool (containsF l n))) st) : ACalls Try.prog 52 [.slice m 1 (l.map i64), i64 n] K st := by
  have hi := index_c (st := st) m hl n
  have hc : decide (0 ≤ indexF l n) = containsF l n := by
    unfold indexF containsF
    cases hf : l.findIdx? fun a => decide (n = a) with
    | none =>
      rw [List.findIdx?_eq_none_iff] at hf
      have : n ∉ l := fun h => by have := hf n h; simp at this
      simp [this]
    | some i =>
      obtain ⟨hi1, hi2, _⟩ := List.findIdx?_eq_some_iff_getElem.1 hf
      have : n ∈ l := by
        have e : n = l[i] := by simpa using hi2
        rw [e]; exact List.getElem_mem _
      simp [this]
  refine acalls_go_pure [] Try.func52 rfl Try.results52 Try.ntmps52 ?_
  simp only [go_sem, reduceCtorEq, Nat.reduceAdd, Nat.reduceMul, Nat.reduceLeDiff, Nat.reduceLT, Int.reduceLE, Int.reduceLT, Int.reduceEq, Nat.reduceBEq, Nat.reduceEqDiff]
  refine hi _ ?_
  simp only [go_sem, reduceCtorEq, Nat.reduceAdd, Nat.reduceMul, Nat.reduceLeDiff, Nat.reduceLT, Int.reduceLE, Int.reduceLT, Int.reduceEq, Nat.reduceBEq, Nat.reduceEqDiff, hc]
  exact fin_sc h

theorem ids_nums (n : Nat) (m : AL.Mode) (l : List Int) : Ids n (.slice .imm 1 (l.map i64)) := by
  refine .slice _ _ _ (fun _ _ e => by cases e) fun i j hi hj => ?_
  have hi' : i < l.length := by simpa using hi
  have : j = 0 := by omega
  subst this
  have e : (l.map i64).getD i .any = i64 (l.getD i 0) := by simp [List.getD_eq_getElem?_getD, hi']
  rw [e]
  exact .sc _

theorem clone0_c {st : St} (m : AL.Mode) (K : SV → St → Prop) (h : K (.slice .imm 1 []) st) : ACalls Try.prog 82 [.slice m 1 []] K st := by
  intro σ w vs hI hR
  obtain ⟨v, rfl, hr⟩ := args_one hR
  generalize hl : ([] : List SV) = l at hr
  cases hr with
  | nil =>
    refine (calls_of_every_depth (P := Try.prog) fun D => AnyS.slices_Clone_int_nil_in Try.lays15 D 0 0 w).mono ?_
    rintro e w' ⟨rfl, rfl⟩
    exact ⟨_, _, st, σ, rfl, h, hI, .nil _ _ trivial, Ext.refl _ _ _⟩
  | slice m z l a cap =>
    subst hl
    refine (calls_of_every_depth (P := Try.prog) fun D => AnyS.slices_Clone_int_zero_in Try.lays15 D a cap w).mono ?_
    rintro e w' ⟨v', rfl, ⟨_, ho⟩, _, hb⟩
    refine ⟨v', _, st, σ, rfl, h, inv_below hI hb, ?_, ext_below hI hb⟩
    rcases ho with ⟨rfl, _⟩ | ⟨g, cap, cur, rfl, _⟩
    · exact .nil _ _ trivial
    · exact .slice .imm 1 [] ⟨g, 0, none⟩ cap (fun _ _ => default) (Nat.zero_le _) (fun h => absurd rfl h) (fun i hi => by cases hi) (fun i j hi => by cases hi) (fun i j hi => by cases hi) trivial

theorem clone_c {st : St} (m : AL.Mode) {l : List Int} (hl : l.length ≤ 1000000) (K : SV → St → Prop) (h : K (.slice .imm 1 (l.map i64)) st) : ACalls Try.prog 82 [.slice m 1 (l.map i64)] K st := by
  cases l with
  | nil => exact clone0_c m K h
  | cons a r =>
    refine acalls_go_pure [] Try.func82 rfl Try.results82 Try.ntmps82 ?_
    have hap := app_i64s (n := (a :: r).length) (by omega)
    simp only [go_sem, reduceCtorEq, Nat.reduceAdd, Nat.reduceMul, Nat.reduceLeDiff, Nat.reduceLT, Int.reduceLE, Int.reduceLT, Int.reduceEq, Nat.reduceBEq, Nat.reduceEqDiff]
    exact ⟨hap, ⟨[.tok 0], rfl⟩, ids_nums _ .imm (a :: r), h⟩

theorem reads_c {st : St} {E : EG} (hE : EngAt st E) (hF : Fine E) (t : Int) (K : SV → St → Prop) (h : K (.slice .imm 1 ((match E.of t with | some x => x.reads | none => []).map i64)) st) : ACalls Try.prog 64 [.ptr E.id 0, i64 t] K st := by
  refine acalls_as ?_
  refine acalls_go_pure [] Try.func64 rfl Try.results64 Try.ntmps64 ?_
  have hof := of_c hE t
  cases hx : E.of t with
  | none =>
    rw [hx] at hof h
    simp only [go_sem, reduceCtorEq, Nat.reduceAdd, Nat.reduceMul, Nat.reduceLeDiff, Nat.reduceLT, Int.reduceLE, Int.reduceLT, Int.reduceEq, Nat.reduceBEq, Nat.reduceEqDiff]
    refine hof _ ?_
    simp only [txSV, go_sem, reduceCtorEq, Nat.reduceAdd, Nat.reduceMul, Nat.reduceLeDiff, Nat.reduceLT, Int.reduceLE, Int.reduceLT, Int.reduceEq, Nat.reduceBEq, Nat.reduceEqDiff]
    exact ⟨⟨[], by simp⟩, .slice _ _ _ (fun _ _ e => by cases e) (fun i j hi => by cases hi), _, fun σ w v hr => rep_empty hr, h⟩
  | some x =>
    rw [hx] at hof h
    have hxx := (of_some hx).2
    have g := cells_facts (hE.tx _ x hxx).cells
    have tk := tokAt_eq (v' := x.rver) (hE.tx _ x hxx).tok
    have hcl := clone_c (st := st) (.own x.rid x.rver) (l := x.reads) (by have := (hF.reads _ x hxx).2.1; omega)
    simp only [go_sem, reduceCtorEq, Nat.reduceAdd, Nat.reduceMul, Nat.reduceLeDiff, Nat.reduceLT, Int.reduceLE, Int.reduceLT, Int.reduceEq, Nat.reduceBEq, Nat.reduceEqDiff]
    refine hof _ ?_
    simp only [txSV, go_sem, reduceCtorEq, Nat.reduceAdd, Nat.reduceMul, Nat.reduceLeDiff, Nat.reduceLT, Int.reduceLE, Int.reduceLT, Int.reduceEq, Nat.reduceBEq, Nat.reduceEqDiff, g.1, g.2.1, g.2.2, TX.cells]
    refine hcl _ ?_
    simp only [go_sem, reduceCtorEq, Nat.reduceAdd, Nat.reduceMul, Nat.reduceLeDiff, Nat.reduceLT, Int.reduceLE, Int.reduceLT, Int.reduceEq, Nat.reduceBEq, Nat.reduceEqDiff]
    exact ⟨⟨[], by simp⟩, ids_nums _ .imm x.reads, _, fun σ w v hr => hr, h⟩

end Go.Proofs
