/- The library's functions that the lexer calls: strings.IndexByte, HasPrefix, Contains, TrimLeft. -/
import Derived.Shelf.Strings.Search3
import Derived.Shelf.Strings.Prefix
import Derived.Shelf.Strings.Trim
import Derived.Test.YtnjiphlokjfdlaaDoorM5
import Derived.Test.YtnjiphlokjfdlaaDoorW1
import Derived.Test.YtnjiphlokjfdlaaDoorA9
import Derived.Test.YtnjiphlokjfdlaaDoorW2
set_option linter.unusedSimpArgs false
set_option linter.unusedVariables false
set_option maxRecDepth 8000
namespace Go.Proofs
open Go Go.AL Go.Shelf
def Tryd.lays217_ren : Go.Shelf.Ren := ⟨fun | 217 => 61 | 266 => 78 | n => n, fun | 9 => 9 | 5 => 5 | 3 => 3 | n => n, fun | n => n⟩
theorem Tryd.lays217 : Go.Proofs.Lays.n217 Tryd.prog Tryd.lays217_ren := {
  mixed := by kernel_rfl
  f217 := Tryd.func61.trans (congrArg some (by kernel_rfl))
  f266 := Tryd.func78.trans (congrArg some (by kernel_rfl))
  t3 := Tryd.underlying3
  a3 := Tryd.isAgg3
  z3 := Tryd.sizeOf3
  v3 := Tryd.zeroValue3
  t5 := Tryd.underlying5
  a5 := Tryd.isAgg5
  z5 := Tryd.sizeOf5
  v5 := Tryd.zeroValue5
  t9 := Tryd.underlying9
  a9 := Tryd.isAgg9
  z9 := Tryd.sizeOf9
  v9 := Tryd.zeroValue9 }
def Tryd.lays99_ren : Go.Shelf.Ren := ⟨fun | 99 => 62 | 206 => 79 | n => n, fun | 9 => 9 | 4 => 4 | 3 => 3 | n => n, fun | n => n⟩
theorem Tryd.lays99 : Go.Proofs.Lays.n99 Tryd.prog Tryd.lays99_ren := {
  mixed := by kernel_rfl
  f99 := Tryd.func62.trans (congrArg some (by kernel_rfl))
  f206 := Tryd.func79.trans (congrArg some (by kernel_rfl))
  t3 := Tryd.underlying3
  a3 := Tryd.isAgg3
  z3 := Tryd.sizeOf3
  v3 := Tryd.zeroValue3
  t4 := Tryd.underlying4
  a4 := Tryd.isAgg4
  z4 := Tryd.sizeOf4
  v4 := Tryd.zeroValue4
  t9 := Tryd.underlying9
  a9 := Tryd.isAgg9
  z9 := Tryd.sizeOf9
  v9 := Tryd.zeroValue9 }
def Tryd.lays144_ren : Go.Shelf.Ren := ⟨fun | 144 => 77 | 143 => 90 | 219 => 98 | 217 => 61 | 225 => 105 | 224 => 104 | 267 => 106 | 266 => 78 | 314 => 108 | n => n, fun | 9 => 9 | 4 => 4 | 3 => 3 | 5 => 5 | 46 => 113 | 146 => 120 | 51 => 119 | n => n, fun | 1 => 0 | n => n⟩
theorem Tryd.lays144 : Go.Proofs.Lays.n144 Tryd.prog Tryd.lays144_ren := {
  mixed := by kernel_rfl
  f143 := Tryd.func90.trans (congrArg some (by kernel_rfl))
  f144 := Tryd.func77.trans (congrArg some (by kernel_rfl))
  f217 := Tryd.func61.trans (congrArg some (by kernel_rfl))
  f219 := Tryd.func98.trans (congrArg some (by kernel_rfl))
  f224 := Tryd.func104.trans (congrArg some (by kernel_rfl))
  f225 := Tryd.func105.trans (congrArg some (by kernel_rfl))
  f266 := Tryd.func78.trans (congrArg some (by kernel_rfl))
  f267 := Tryd.func106.trans (congrArg some (by kernel_rfl))
  f314 := Tryd.func108.trans (congrArg some (by kernel_rfl))
  t3 := Tryd.underlying3
  a3 := Tryd.isAgg3
  z3 := Tryd.sizeOf3
  v3 := Tryd.zeroValue3
  t4 := Tryd.underlying4
  a4 := Tryd.isAgg4
  z4 := Tryd.sizeOf4
  v4 := Tryd.zeroValue4
  t5 := Tryd.underlying5
  a5 := Tryd.isAgg5
  z5 := Tryd.sizeOf5
  v5 := Tryd.zeroValue5
  t9 := Tryd.underlying9
  a9 := Tryd.isAgg9
  z9 := Tryd.sizeOf9
  v9 := Tryd.zeroValue9
  t46 := Tryd.underlying113
  a46 := Tryd.isAgg113
  z46 := Tryd.sizeOf113
  v46 := Tryd.zeroValue113
  t51 := Tryd.underlying119
  a51 := Tryd.isAgg119
  z51 := Tryd.sizeOf119
  v51 := Tryd.zeroValue119
  t146 := Tryd.underlying120
  a146 := Tryd.isAgg120
  z146 := Tryd.sizeOf120
  v146 := Tryd.zeroValue120
  g1 := by kernel_rfl }
def Tryd.lays161_ren : Go.Shelf.Ren := ⟨fun | 161 => 55 | 231 => 69 | 227 => 70 | 233 => 71 | 235 => 72 | 228 => 84 | 197 => 85 | 151 => 86 | 260 => 96 | 152 => 97 | 137 => 45 | 119 => 103 | 224 => 104 | 225 => 105 | 217 => 61 | 266 => 78 | n => n, fun | 9 => 9 | 4 => 4 | 3 => 3 | 5 => 5 | 117 => 86 | 116 => 85 | 0 => 0 | 124 => 89 | 105 => 96 | 21 => 21 | 119 => 112 | 46 => 113 | 139 => 116 | 138 => 115 | n => n, fun | 3 => 1 | 4 => 2 | n => n⟩
theorem Tryd.lays161 : Go.Proofs.Lays.n161 Tryd.prog Tryd.lays161_ren := {
  mixed := by kernel_rfl
  f119 := Tryd.func103.trans (congrArg some (by kernel_rfl))
  f137 := Tryd.func45.trans (congrArg some (by kernel_rfl))
  f151 := Tryd.func86.trans (congrArg some (by kernel_rfl))
  f152 := Tryd.func97.trans (congrArg some (by kernel_rfl))
  f161 := Tryd.func55.trans (congrArg some (by kernel_rfl))
  f197 := Tryd.func85.trans (congrArg some (by kernel_rfl))
  f217 := Tryd.func61.trans (congrArg some (by kernel_rfl))
  f224 := Tryd.func104.trans (congrArg some (by kernel_rfl))
  f225 := Tryd.func105.trans (congrArg some (by kernel_rfl))
  f227 := Tryd.func70.trans (congrArg some (by kernel_rfl))
  f228 := Tryd.func84.trans (congrArg some (by kernel_rfl))
  f231 := Tryd.func69.trans (congrArg some (by kernel_rfl))
  f233 := Tryd.func71.trans (congrArg some (by kernel_rfl))
  f235 := Tryd.func72.trans (congrArg some (by kernel_rfl))
  f260 := Tryd.func96.trans (congrArg some (by kernel_rfl))
  f266 := Tryd.func78.trans (congrArg some (by kernel_rfl))
  t0 := Tryd.underlying0
  a0 := Tryd.isAgg0
  z0 := Tryd.sizeOf0
  v0 := Tryd.zeroValue0
  t3 := Tryd.underlying3
  a3 := Tryd.isAgg3
  z3 := Tryd.sizeOf3
  v3 := Tryd.zeroValue3
  t4 := Tryd.underlying4
  a4 := Tryd.isAgg4
  z4 := Tryd.sizeOf4
  v4 := Tryd.zeroValue4
  t5 := Tryd.underlying5
  a5 := Tryd.isAgg5
  z5 := Tryd.sizeOf5
  v5 := Tryd.zeroValue5
  t9 := Tryd.underlying9
  a9 := Tryd.isAgg9
  z9 := Tryd.sizeOf9
  v9 := Tryd.zeroValue9
  t21 := Tryd.underlying21
  a21 := Tryd.isAgg21
  z21 := Tryd.sizeOf21
  v21 := Tryd.zeroValue21
  t46 := Tryd.underlying113
  a46 := Tryd.isAgg113
  z46 := Tryd.sizeOf113
  v46 := Tryd.zeroValue113
  t105 := Tryd.underlying96
  a105 := Tryd.isAgg96
  z105 := Tryd.sizeOf96
  v105 := Tryd.zeroValue96
  t116 := Tryd.underlying85
  a116 := Tryd.isAgg85
  z116 := Tryd.sizeOf85
  t117 := Tryd.underlying86
  a117 := Tryd.isAgg86
  z117 := Tryd.sizeOf86
  v117 := Tryd.zeroValue86
  t119 := Tryd.underlying112
  a119 := Tryd.isAgg112
  z119 := Tryd.sizeOf112
  t124 := Tryd.underlying89
  a124 := Tryd.isAgg89
  z124 := Tryd.sizeOf89
  v124 := Tryd.zeroValue89
  t138 := Tryd.underlying115
  a138 := Tryd.isAgg115
  z138 := Tryd.sizeOf115
  v138 := Tryd.zeroValue115
  t139 := Tryd.underlying116
  a139 := Tryd.isAgg116
  z139 := Tryd.sizeOf116
  v139 := Tryd.zeroValue116
  g3 := by kernel_rfl
  g4 := by kernel_rfl }
theorem indexByteL_c {s : Tx} {c : UInt8} {K : SV → St → Prop} {st : St} (hk : K (.sc (.int .i64 (Lib.indexByte s c))) st) : ACalls Tryd.prog 61 [.sc (.string (ba s)), .sc (.int .u8 c.toNat)] K st := by
  refine acalls_of_calls (fun _ _ _ => .sc _) hk fun σ w vs hI hR => ?_
  rw [args_sc2 hR]
  have := Any.stringslite_IndexByte Tryd.lays217 (ba s) c.toNat w
  simp at this
  exact this
set_option maxHeartbeats 4000000 in
theorem indexByte_c {s : Tx} {c : UInt8} {K : SV → St → Prop} {st : St} (hk : K (.sc (.int .i64 (Lib.indexByte s c))) st) : ACalls Tryd.prog 45 [.sc (.string (ba s)), .sc (.int .u8 c.toNat)] K st := by
  refine acalls_go_pure [] Tryd.func45 rfl Tryd.results45 Tryd.ntmps45 ?_
  simp only [go_sem, reduceCtorEq, Nat.reduceAdd, Nat.reduceMul, Nat.reduceLeDiff, Nat.reduceLT, Int.reduceLE, Int.reduceLT, Int.reduceEq, Nat.reduceBEq, Nat.reduceEqDiff]
  refine indexByteL_c ?_
  simp only [go_sem, reduceCtorEq, Nat.reduceAdd, Nat.reduceMul, Nat.reduceLeDiff, Nat.reduceLT, Int.reduceLE, Int.reduceLT, Int.reduceEq, Nat.reduceBEq, Nat.reduceEqDiff]
  have := fin_pure (ex := []) (x := .sc (.int .i64 (Lib.indexByte s c))) (K := K) (st := st) (ids_scv _ _) hk
  rwa [List.append_nil] at this
theorem hasPrefix_c {s p : Tx} {K : SV → St → Prop} {st : St} (hk : K (.sc (.bool (Lib.hasPrefix s p))) st) : ACalls Tryd.prog 62 [.sc (.string (ba s)), .sc (.string (ba p))] K st := by
  refine acalls_of_calls (fun _ _ _ => .sc _) hk fun σ w vs hI hR => ?_
  rw [args_sc2 hR]
  exact Any.strings_HasPrefix Tryd.lays99 (ba s) (ba p) w
theorem contains_s {gid g : Nat} {m : Int} (hg : g = Tryd.lays144_ren.g 1) {s p : Tx} {K : SV → St → Prop} {st : St} (hst : st[gid]? = some (.glob g (.int .i64 m))) (hs : s.length < 4294967281) (hk : K (.sc (.bool (Lib.contains s p))) st) : ACalls Tryd.prog 77 [.sc (.string (ba s)), .sc (.string (ba p))] K st := by
  refine acalls_of_calls (fun _ _ _ => .sc _) hk fun σ w vs hI hR => ?_
  rw [args_sc2 hR]
  exact Any.strings_Contains Tryd.lays144 (ba s) (ba p) m w hs (by rw [← hg]; exact hI.glob hst)
theorem trimLeft_c {s : Tx} {c : UInt8} (hc : c.toNat < 128) {K : SV → St → Prop} {st : St} (hk : K (.sc (.string (ba (s.dropWhile (· == c))))) st) : ACalls Tryd.prog 55 [.sc (.string (ba s)), .sc (.string (ba [c]))] K st := by
  refine acalls_of_calls (fun _ _ _ => .sc _) hk fun σ w vs hI hR => ?_
  rw [args_sc2 hR]
  exact Any.strings_TrimLeft_one Tryd.lays161 (ba s) c hc w
end Go.Proofs
set_option linter.unusedSimpArgs false
set_option linter.unusedVariables false
set_option maxRecDepth 8000
namespace Go.AL
theorem fin_pure1 {st : St} {K : SV → St → Prop} {x : SV} (hi : Ids st.length (norm x) = True) (hk : K (norm x) st) : FinK st K x st := by
  have := fin_pure (ex := []) hi hk
  rwa [List.append_nil] at this
theorem u8_ge (c d : UInt8) (n : Int) (h : (d.toNat : Int) = n) : decide (n ≤ (c.toNat : Int)) = decide (d ≤ c) := by
  subst h; rw [decide_eq_decide, UInt8.le_iff_toNat_le]; omega
theorem u8_le (c d : UInt8) (n : Int) (h : (d.toNat : Int) = n) : decide ((c.toNat : Int) ≤ n) = decide (c ≤ d) := by
  subst h; rw [decide_eq_decide, UInt8.le_iff_toNat_le]; omega
theorem u8_eq (c d : UInt8) (n : Int) (h : (d.toNat : Int) = n) : ((c.toNat : Int) == n) = (c == d) := by
  subst h
  rw [Bool.eq_iff_iff]
  simp only [beq_iff_eq]
  constructor
  · intro h; exact UInt8.toNat_inj.1 (by omega)
  · rintro rfl; rfl
theorem u8_ne (c d : UInt8) (n : Int) (h : (d.toNat : Int) = n) : ((c.toNat : Int) != n) = (c != d) := by
  unfold bne; rw [u8_eq c d n h]
end Go.AL
namespace Go.Proofs
open Go Go.AL
set_option maxHeartbeats 4000000 in
theorem digit_c {c : UInt8} {K : SV → St → Prop} {st : St} (hk : K (.sc (.bool (digitB c))) st) : ACalls Tryd.prog 39 [.sc (.int .u8 c.toNat)] K st := by
  refine acalls_go_pure [] Tryd.func39 rfl Tryd.results39 Tryd.ntmps39 ?_
  have e1 := u8_ge c 48 48 rfl
  have e2 := u8_le c 57 57 rfl
  unfold digitB at hk
  cases h1 : decide (48 ≤ c) with
  | false => rw [h1] at hk e1; simp only [go_sem, reduceCtorEq, Nat.reduceAdd, Nat.reduceMul, Nat.reduceLeDiff, Nat.reduceLT, Int.reduceLE, Int.reduceLT, Int.reduceEq, Nat.reduceBEq, Nat.reduceEqDiff, ge_iff_le, e1]; exact fin_pure1 (ids_scv _ _) hk
  | true => rw [h1] at hk e1; simp only [go_sem, reduceCtorEq, Nat.reduceAdd, Nat.reduceMul, Nat.reduceLeDiff, Nat.reduceLT, Int.reduceLE, Int.reduceLT, Int.reduceEq, Nat.reduceBEq, Nat.reduceEqDiff, ge_iff_le, e1, e2]; exact fin_pure1 (ids_scv _ _) hk
set_option maxHeartbeats 4000000 in
theorem small_c {c : UInt8} {K : SV → St → Prop} {st : St} (hk : K (.sc (.bool (smallB c))) st) : ACalls Tryd.prog 42 [.sc (.int .u8 c.toNat)] K st := by
  refine acalls_go_pure [] Tryd.func42 rfl Tryd.results42 Tryd.ntmps42 ?_
  have e1 := u8_ge c 97 97 rfl
  have e2 := u8_le c 122 122 rfl
  unfold smallB at hk
  cases h1 : decide (97 ≤ c) with
  | false => rw [h1] at hk e1; simp only [go_sem, reduceCtorEq, Nat.reduceAdd, Nat.reduceMul, Nat.reduceLeDiff, Nat.reduceLT, Int.reduceLE, Int.reduceLT, Int.reduceEq, Nat.reduceBEq, Nat.reduceEqDiff, ge_iff_le, e1]; exact fin_pure1 (ids_scv _ _) hk
  | true => rw [h1] at hk e1; simp only [go_sem, reduceCtorEq, Nat.reduceAdd, Nat.reduceMul, Nat.reduceLeDiff, Nat.reduceLT, Int.reduceLE, Int.reduceLT, Int.reduceEq, Nat.reduceBEq, Nat.reduceEqDiff, ge_iff_le, e1, e2]; exact fin_pure1 (ids_scv _ _) hk
set_option maxHeartbeats 4000000 in
theorem large_c {c : UInt8} {K : SV → St → Prop} {st : St} (hk : K (.sc (.bool (largeB c))) st) : ACalls Tryd.prog 43 [.sc (.int .u8 c.toNat)] K st := by
  refine acalls_go_pure [] Tryd.func43 rfl Tryd.results43 Tryd.ntmps43 ?_
  have e1 := u8_ge c 65 65 rfl
  have e2 := u8_le c 90 90 rfl
  unfold largeB at hk
  cases h1 : decide (65 ≤ c) with
  | false => rw [h1] at hk e1; simp only [go_sem, reduceCtorEq, Nat.reduceAdd, Nat.reduceMul, Nat.reduceLeDiff, Nat.reduceLT, Int.reduceLE, Int.reduceLT, Int.reduceEq, Nat.reduceBEq, Nat.reduceEqDiff, ge_iff_le, e1]; exact fin_pure1 (ids_scv _ _) hk
  | true => rw [h1] at hk e1; simp only [go_sem, reduceCtorEq, Nat.reduceAdd, Nat.reduceMul, Nat.reduceLeDiff, Nat.reduceLT, Int.reduceLE, Int.reduceLT, Int.reduceEq, Nat.reduceBEq, Nat.reduceEqDiff, ge_iff_le, e1, e2]; exact fin_pure1 (ids_scv _ _) hk
set_option maxHeartbeats 4000000 in
theorem inner_c {c : UInt8} {K : SV → St → Prop} {st : St} (hk : K (.sc (.bool (innerB c))) st) : ACalls Tryd.prog 59 [.sc (.int .u8 c.toNat)] K st := by
  refine acalls_go_pure [] Tryd.func59 rfl Tryd.results59 Tryd.ntmps59 ?_
  have e1 := u8_eq c 95 95 rfl
  unfold innerB at hk
  cases h1 : smallB c with
  | true =>
    rw [h1] at hk
    simp only [go_sem, reduceCtorEq, Nat.reduceAdd, Nat.reduceMul, Nat.reduceLeDiff, Nat.reduceLT, Int.reduceLE, Int.reduceLT, Int.reduceEq, Nat.reduceBEq, Nat.reduceEqDiff]
    refine small_c ?_
    simp only [go_sem, reduceCtorEq, Nat.reduceAdd, Nat.reduceMul, Nat.reduceLeDiff, Nat.reduceLT, Int.reduceLE, Int.reduceLT, Int.reduceEq, Nat.reduceBEq, Nat.reduceEqDiff, h1]
    exact fin_pure1 (ids_scv _ _) hk
  | false =>
    cases h2 : largeB c with
    | true =>
      rw [h1, h2] at hk
      simp only [go_sem, reduceCtorEq, Nat.reduceAdd, Nat.reduceMul, Nat.reduceLeDiff, Nat.reduceLT, Int.reduceLE, Int.reduceLT, Int.reduceEq, Nat.reduceBEq, Nat.reduceEqDiff]
      refine small_c ?_
      simp only [go_sem, reduceCtorEq, Nat.reduceAdd, Nat.reduceMul, Nat.reduceLeDiff, Nat.reduceLT, Int.reduceLE, Int.reduceLT, Int.reduceEq, Nat.reduceBEq, Nat.reduceEqDiff, h1]
      refine large_c ?_
      simp only [go_sem, reduceCtorEq, Nat.reduceAdd, Nat.reduceMul, Nat.reduceLeDiff, Nat.reduceLT, Int.reduceLE, Int.reduceLT, Int.reduceEq, Nat.reduceBEq, Nat.reduceEqDiff, h1, h2]
      exact fin_pure1 (ids_scv _ _) hk
    | false =>
      cases h3 : digitB c with
      | true =>
        rw [h1, h2, h3] at hk
        simp only [go_sem, reduceCtorEq, Nat.reduceAdd, Nat.reduceMul, Nat.reduceLeDiff, Nat.reduceLT, Int.reduceLE, Int.reduceLT, Int.reduceEq, Nat.reduceBEq, Nat.reduceEqDiff]
        refine small_c ?_
        simp only [go_sem, reduceCtorEq, Nat.reduceAdd, Nat.reduceMul, Nat.reduceLeDiff, Nat.reduceLT, Int.reduceLE, Int.reduceLT, Int.reduceEq, Nat.reduceBEq, Nat.reduceEqDiff, h1]
        refine large_c ?_
        simp only [go_sem, reduceCtorEq, Nat.reduceAdd, Nat.reduceMul, Nat.reduceLeDiff, Nat.reduceLT, Int.reduceLE, Int.reduceLT, Int.reduceEq, Nat.reduceBEq, Nat.reduceEqDiff, h1, h2]
        refine digit_c ?_
        simp only [go_sem, reduceCtorEq, Nat.reduceAdd, Nat.reduceMul, Nat.reduceLeDiff, Nat.reduceLT, Int.reduceLE, Int.reduceLT, Int.reduceEq, Nat.reduceBEq, Nat.reduceEqDiff, h1, h2, h3]
        exact fin_pure1 (ids_scv _ _) hk
      | false =>
        rw [h1, h2, h3] at hk
        simp only [go_sem, reduceCtorEq, Nat.reduceAdd, Nat.reduceMul, Nat.reduceLeDiff, Nat.reduceLT, Int.reduceLE, Int.reduceLT, Int.reduceEq, Nat.reduceBEq, Nat.reduceEqDiff]
        refine small_c ?_
        simp only [go_sem, reduceCtorEq, Nat.reduceAdd, Nat.reduceMul, Nat.reduceLeDiff, Nat.reduceLT, Int.reduceLE, Int.reduceLT, Int.reduceEq, Nat.reduceBEq, Nat.reduceEqDiff, h1]
        refine large_c ?_
        simp only [go_sem, reduceCtorEq, Nat.reduceAdd, Nat.reduceMul, Nat.reduceLeDiff, Nat.reduceLT, Int.reduceLE, Int.reduceLT, Int.reduceEq, Nat.reduceBEq, Nat.reduceEqDiff, h1, h2]
        refine digit_c ?_
        simp only [go_sem, reduceCtorEq, Nat.reduceAdd, Nat.reduceMul, Nat.reduceLeDiff, Nat.reduceLT, Int.reduceLE, Int.reduceLT, Int.reduceEq, Nat.reduceBEq, Nat.reduceEqDiff, h1, h2, h3, e1]
        exact fin_pure1 (ids_scv _ _) hk
set_option maxHeartbeats 4000000 in
theorem plain_c {c : UInt8} {K : SV → St → Prop} {st : St} (hk : K (.sc (.bool (plainB c))) st) : ACalls Tryd.prog 76 [.sc (.int .u8 c.toNat)] K st := by
  refine acalls_go_pure [] Tryd.func76 rfl Tryd.results76 Tryd.ntmps76 ?_
  have e1 := u8_ge c 32 32 rfl
  have e2 := u8_le c 126 126 rfl
  have e3 := u8_ne c 34 34 rfl
  have e4 := u8_ne c 92 92 rfl
  unfold plainB at hk
  cases h1 : decide (32 ≤ c) with
  | false => rw [h1] at hk e1; simp only [go_sem, reduceCtorEq, Nat.reduceAdd, Nat.reduceMul, Nat.reduceLeDiff, Nat.reduceLT, Int.reduceLE, Int.reduceLT, Int.reduceEq, Nat.reduceBEq, Nat.reduceEqDiff, ge_iff_le, e1]; exact fin_pure1 (ids_scv _ _) hk
  | true =>
    rw [h1] at hk e1
    cases h2 : decide (c ≤ 126) with
    | false => rw [h2] at hk e2; simp only [go_sem, reduceCtorEq, Nat.reduceAdd, Nat.reduceMul, Nat.reduceLeDiff, Nat.reduceLT, Int.reduceLE, Int.reduceLT, Int.reduceEq, Nat.reduceBEq, Nat.reduceEqDiff, ge_iff_le, e1, e2]; exact fin_pure1 (ids_scv _ _) hk
    | true =>
      rw [h2] at hk e2
      cases h3 : c != 34 with
      | false => rw [h3] at hk e3; simp only [go_sem, reduceCtorEq, Nat.reduceAdd, Nat.reduceMul, Nat.reduceLeDiff, Nat.reduceLT, Int.reduceLE, Int.reduceLT, Int.reduceEq, Nat.reduceBEq, Nat.reduceEqDiff, ge_iff_le, e1, e2, e3]; exact fin_pure1 (ids_scv _ _) hk
      | true => rw [h3] at hk e3; simp only [go_sem, reduceCtorEq, Nat.reduceAdd, Nat.reduceMul, Nat.reduceLeDiff, Nat.reduceLT, Int.reduceLE, Int.reduceLT, Int.reduceEq, Nat.reduceBEq, Nat.reduceEqDiff, ge_iff_le, e1, e2, e3, e4]; exact fin_pure1 (ids_scv _ _) hk
end Go.Proofs
set_option linter.unusedSimpArgs false
set_option linter.unusedVariables false
set_option maxRecDepth 8000
namespace Go.Proofs
open Go Go.AL
def u8SV (c : UInt8) : SV := .sc (.int .u8 c.toNat)
set_option maxHeartbeats 4000000 in
/-- slices.Index of bytes, over cells that are not written meanwhile. -/
theorem indexU_c {id : Nat} {l : Tx} (hl : l.length ≤ 1000000) {c : UInt8} {K : SV → St → Prop} {st : St} (hid : st[id]? = some (.cells (l.map u8SV))) (hk : K (.sc (.int .i64 (match l.findIdx? (· == c) with | some k => (k : Int) | none => -1))) st) :
    ACalls Tryd.prog 89 [.slc id 1 0 l.length l.length, .sc (.int .u8 c.toNat)] K st := by
  refine acalls_go_pure [] Tryd.func89 rfl Tryd.results89 Tryd.ntmps89 ?_
  have y := cells_facts hid
  simp only [go_sem, reduceCtorEq, Nat.reduceAdd, Nat.reduceMul, Nat.reduceLeDiff, Nat.reduceLT, Int.reduceLE, Int.reduceLT, Int.reduceEq, Nat.reduceBEq, Nat.reduceEqDiff]
  refine awp_rounds [] (fun k env s => ∃ j : Nat, k + j = l.length ∧ (l.take j).findIdx? (· == c) = none ∧ env = [.slc id 1 0 l.length l.length, .sc (.int .u8 c.toNat), .any, .any, .any, .any, .any, .sc (.int .i64 l.length), .sc (.int .i64 j), .any, .any, .any, .any, .any, .any, .any, .any, .any, .any] ∧ s = st) (n := l.length) ?_ ⟨0, by omega, by simp, rfl, rfl⟩ ?_
  · repeat (first | exact leEnv_nil | refine leEnv_any _ ?_ | refine leEnv_same _ ?_ | refine leEnv_norm _ ?_)
  rintro k env s ⟨j, hj, hx, rfl, rfl⟩
  by_cases hlt : j < l.length
  · have c1 : decide ((j : Int) < (l.length : Int)) = true := by simp; omega
    have hw : IntKind.i64.wrap ((j : Int) + 1) = ((j + 1 : Nat) : Int) := by rw [IntWalk.i64_in _ (by omega)]; rfl
    have hsp : l.findIdx? (· == c) = (((l.drop j).findIdx? (· == c)).map (· + j)) := by
      conv => lhs; rw [← List.take_append_drop j l, List.findIdx?_append, hx]
      simp [List.length_take, Nat.min_eq_left (Nat.le_of_lt hlt)]
    have hdr : l.drop j = l[j] :: l.drop (j + 1) := List.drop_eq_getElem_cons hlt
    have hdm : (l.map u8SV).drop j = u8SV l[j] :: (l.drop (j + 1)).map u8SV := by rw [← List.map_drop, hdr]; rfl
    have e1 := u8_eq c l[j] (l[j].toNat : Int) rfl
    cases hb : c == l[j] with
    | true =>
      have hb2 : l[j] = c := (beq_iff_eq.1 hb).symm
      rw [hb] at e1
      rw [hsp, hdr, List.findIdx?_cons, hb2] at hk
      simp only [BEq.rfl, if_true, Option.map_some, Nat.zero_add] at hk
      simp only [go_sem, reduceCtorEq, Nat.reduceAdd, Nat.reduceMul, Nat.reduceLeDiff, Nat.reduceLT, Int.reduceLE, Int.reduceLT, Int.reduceEq, Nat.reduceBEq, Nat.reduceEqDiff, c1, y.1, y.2.1, y.2.2, hdm, u8SV, e1, Nat.mul_one, Nat.zero_add]
      exact ⟨by omega, fin_pure1 (ids_scv _ _) hk⟩
    | false =>
      rw [hb] at e1
      simp only [go_sem, reduceCtorEq, Nat.reduceAdd, Nat.reduceMul, Nat.reduceLeDiff, Nat.reduceLT, Int.reduceLE, Int.reduceLT, Int.reduceEq, Nat.reduceBEq, Nat.reduceEqDiff, c1, y.1, y.2.1, y.2.2, hdm, u8SV, e1, hw, Nat.mul_one, Nat.zero_add]
      refine ⟨by omega, k - 1, _, by omega, ?_, j + 1, by omega, ?_, rfl⟩
      · repeat (first | exact leEnv_nil | refine leEnv_any _ ?_ | refine leEnv_same _ ?_ | refine leEnv_norm _ ?_)
      · rw [List.take_succ_eq_append_getElem hlt, List.findIdx?_append, hx]
        have hb3 : (l[j] == c) = false := by rw [beq_eq_false_iff_ne] at hb ⊢; exact fun h => hb h.symm
        simp [List.findIdx?_cons, hb3]
  · have c1 : decide ((j : Int) < (l.length : Int)) = false := by simp; omega
    rw [List.take_of_length_le (by omega)] at hx
    rw [hx] at hk
    simp only [go_sem, reduceCtorEq, Nat.reduceAdd, Nat.reduceMul, Nat.reduceLeDiff, Nat.reduceLT, Int.reduceLE, Int.reduceLT, Int.reduceEq, Nat.reduceBEq, Nat.reduceEqDiff, c1]
    exact fin_pure1 (ids_scv _ _) hk
end Go.Proofs
set_option linter.unusedSimpArgs false
set_option linter.unusedVariables false
set_option maxRecDepth 8000
namespace Go.Proofs
open Go Go.AL
def byteE (l : List (UInt8 × UInt8)) : List (Value × SV) := l.map fun q => (.int .u8 q.1.toNat, u8SV q.2)
def signE : List (UInt8 × UInt8) := [(110, 10), (34, 34), (92, 92)]
theorem keyGood_u8 {P : Program} {kt : TypeId} (n : Int) : keyGood P kt (.int .u8) (.int .u8 n) = true := by simp [keyGood, keyFits]
theorem byteE_all {P : Program} {kt : TypeId} (l : List (UInt8 × UInt8)) : (byteE l).all (fun q => keyGood P kt (.int .u8) q.1) = true := by
  rw [List.all_eq_true]
  intro q hq
  obtain ⟨a, _, rfl⟩ := List.mem_map.1 hq
  exact keyGood_u8 _
theorem putB_step {n v : UInt8} {st : St} {l : List (UInt8 × UInt8)} {N : St → Prop} (hn : mapPut (byteE l) (.int .u8 n.toNat) (u8SV v) = byteE (l ++ [(n, v)]))
    (h : N (st ++ [.map (byteE (l ++ [(n, v)]))])) : putSpec Tryd.prog 100 (st ++ [.map (byteE l)]) (.mp st.length) (.sc (.int .u8 n.toNat)) (u8SV v) N := by
  have hm : (st ++ [Ob.map (byteE l)])[st.length]? = some (.map (byteE l)) := by simp
  simp only [putSpec, mapOk, AL.keyOf, Tryd.amap100, (map_facts hm).2, keyGood_u8, byteE_all, Bool.and_self, if_true, hn]
  have : (st ++ [Ob.map (byteE l)]).set st.length (.map (byteE (l ++ [(n, v)]))) = st ++ [.map (byteE (l ++ [(n, v)]))] := by
    rw [List.set_append_right _ _ (Nat.le_refl _)]; simp
  rw [this]; exact h
theorem putB3 {st : St} {N : St → Prop} (h : N (st ++ [.map (byteE signE)])) :
    putSpec Tryd.prog 100 (st ++ [.map []]) (.mp st.length) (.sc (.int .u8 110)) (.sc (.int .u8 10)) fun x => putSpec Tryd.prog 100 x (.mp st.length) (.sc (.int .u8 34)) (.sc (.int .u8 34)) fun x => putSpec Tryd.prog 100 x (.mp st.length) (.sc (.int .u8 92)) (.sc (.int .u8 92)) N :=
  putB_step (l := []) (n := 110) (v := 10) rfl (putB_step (l := [(110, 10)]) (n := 34) (v := 34) rfl (putB_step (l := [(110, 10), (34, 34)]) (n := 92) (v := 92) rfl h))
set_option maxHeartbeats 4000000 in
theorem signsM_c {K : SV → St → Prop} {st : St} (hk : K (.mp st.length) (st ++ [.map (byteE signE)])) : ACalls Tryd.prog 87 [] K st := by
  refine acalls_go (M := []) Tryd.func87 rfl Tryd.results87 Tryd.ntmps87 ?_
  simp only [go_sem, reduceCtorEq, Nat.reduceAdd, Nat.reduceMul, Nat.reduceLeDiff, Nat.reduceLT, Int.reduceLE, Int.reduceLT, Int.reduceEq, Nat.reduceBEq, Nat.reduceEqDiff]
  exact putB3 hk
theorem keyEq_u (a b : UInt8) : keyEq (.int .u8 (a.toNat : Int)) (.int .u8 (b.toNat : Int)) = decide (a = b) := by
  have := keyEq1_iff (d := .int .u8) (a := .int .u8 (a.toNat : Int)) (b := .int .u8 (b.toNat : Int)) (by simp [keyFits]) (by simp [keyFits])
  by_cases hc : a = b
  · subst hc; simp only [decide_true]; exact this.2 rfl
  · simp only [hc, decide_false]
    cases hk : keyEq (.int .u8 (a.toNat : Int)) (.int .u8 (b.toNat : Int)) with
    | false => rfl
    | true => exact absurd (UInt8.toNat_inj.1 (Int.ofNat_inj.1 (Value.int.inj (this.1 hk)).2)) hc
theorem signs_get {st : St} {id : Nat} (hid : mapAt st id = some (byteE signE)) (hz : zeroSV Tryd.prog 5 = some (.sc (.int .u8 0))) (c : UInt8) : mapGet Tryd.prog 100 st (.mp id) (.sc (.int .u8 c.toNat)) =
    some (if c = 110 then (u8SV 10, true) else if c = 34 then (u8SV 34, true) else if c = 92 then (u8SV 92, true) else (u8SV 0, false)) := by
  simp only [mapGet, AL.keyOf, Tryd.amap100, hid, hz, keyGood_u8, byteE_all, Bool.and_self, if_true]
  unfold AL.keyIdx byteE signE
  simp only [List.map_cons, List.map_nil, List.findIdx?_cons, keyEq_u, List.findIdx?_nil]
  by_cases h1 : c = 110
  · simp [h1]
  by_cases h2 : c = 34
  · simp [h2]
  by_cases h3 : c = 92
  · simp [h3]
  · simp [h1, h2, h3, u8SV]
end Go.Proofs
set_option linter.unusedSimpArgs false
set_option linter.unusedVariables false
set_option maxRecDepth 8000
namespace Go.Proofs
open Go Go.AL
theorem Tryd.fieldsOk102 : aFieldsOk Tryd.prog 102 = true := by kernel_rfl
theorem Tryd.aF102_0 : aField Tryd.prog 102 0 = none := by kernel_rfl
theorem Tryd.aF102_1 : aField Tryd.prog 102 1 = none := by kernel_rfl
theorem Tryd.aF102_2 : aField Tryd.prog 102 2 = none := by kernel_rfl
theorem Tryd.aF102_3 : aField Tryd.prog 102 3 = none := by kernel_rfl
theorem Tryd.aF102_4 : aField Tryd.prog 102 4 = none := by kernel_rfl
theorem Tryd.aF102_5 : aField Tryd.prog 102 5 = none := by kernel_rfl
theorem Tryd.aF102_6 : aField Tryd.prog 102 6 = none := by kernel_rfl
theorem Tryd.aF102_7 : aField Tryd.prog 102 7 = none := by kernel_rfl
theorem Tryd.aF102_8 : aField Tryd.prog 102 8 = none := by kernel_rfl
theorem Tryd.aF102_9 : aField Tryd.prog 102 9 = none := by kernel_rfl
theorem Tryd.aF102_10 : aField Tryd.prog 102 10 = none := by kernel_rfl
theorem Tryd.aF102_11 : aField Tryd.prog 102 11 = none := by kernel_rfl
theorem Tryd.aF102_12 : aField Tryd.prog 102 12 = none := by kernel_rfl
theorem Tryd.aF102_13 : aField Tryd.prog 102 13 = none := by kernel_rfl
theorem Tryd.aF102_14 : aField Tryd.prog 102 14 = none := by kernel_rfl
theorem Tryd.aF102_15 : aField Tryd.prog 102 15 = none := by kernel_rfl
theorem Tryd.und102 : Tryd.prog.underlying 102 = some (.array 16 5) := by kernel_rfl
set_option maxHeartbeats 4000000 in
theorem sixteen_c {K : SV → St → Prop} {st : St} (hk : K (.agg (hexL.map u8SV)) st) : ACalls Tryd.prog 88 [] K st := by
  refine acalls_go_mod0 [] Tryd.func88 rfl Tryd.results88 Tryd.ntmps88 ?_
  simp only [go_sem, reduceCtorEq, Nat.reduceAdd, Nat.reduceMul, Nat.reduceLeDiff, Nat.reduceLT, Int.reduceLE, Int.reduceLT, Int.reduceEq, Nat.reduceBEq, Nat.reduceEqDiff, Tryd.und102, Tryd.fieldsOk102, Tryd.aF102_0, Tryd.aF102_1, Tryd.aF102_2, Tryd.aF102_3, Tryd.aF102_4, Tryd.aF102_5, Tryd.aF102_6, Tryd.aF102_7, Tryd.aF102_8, Tryd.aF102_9, Tryd.aF102_10, Tryd.aF102_11, Tryd.aF102_12, Tryd.aF102_13, Tryd.aF102_14, Tryd.aF102_15]
  refine ⟨st, _, rfl, Mod.refl _, ?_, hk⟩
  rw [ids_agg]
  intro x hx
  simp only [List.mem_cons, List.not_mem_nil, or_false] at hx
  rcases hx with h | h | h | h | h | h | h | h | h | h | h | h | h | h | h | h <;> subst h <;> exact .sc _
end Go.Proofs
