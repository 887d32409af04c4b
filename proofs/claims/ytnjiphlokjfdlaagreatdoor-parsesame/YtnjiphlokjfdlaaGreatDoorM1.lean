import Derived.Shelf.Strings.Search3
import Derived.Shelf.Strings.Prefix
import Derived.Shelf.Strings.Trim
import Derived.Test.YtnjiphlokjfdlaaGreatDoorM5
import Derived.Test.YtnjiphlokjfdlaaGreatDoorN8
import Derived.Test.YtnjiphlokjfdlaaGreatDoorA9
set_option maxHeartbeats 4000000
set_option linter.unusedSimpArgs false
set_option linter.unusedVariables false
set_option maxRecDepth 8000
namespace Go.Proofs
open Go Go.AL Go.Shelf
def Tryz.lays217_ren : Go.Shelf.Ren := ⟨fun | 217 => 74 | 266 => 92 | n => n,fun | 9 => 9 | 5 => 5 | 3 => 3 | n => n,fun | n => n⟩
theorem Tryz.lays217 : Go.Proofs.Lays.n217 Tryz.prog Tryz.lays217_ren := {
  mixed := by kernel_rfl
  f217 := Tryz.func74.trans (congrArg some (by kernel_rfl))
  f266 := Tryz.func92.trans (congrArg some (by kernel_rfl))
  t3 := Tryz.underlying3
  a3 := Tryz.isAgg3
  z3 := Tryz.sizeOf3
  v3 := Tryz.zeroValue3
  t5 := Tryz.underlying5
  a5 := Tryz.isAgg5
  z5 := Tryz.sizeOf5
  v5 := Tryz.zeroValue5
  t9 := Tryz.underlying9
  a9 := Tryz.isAgg9
  z9 := Tryz.sizeOf9
  v9 := Tryz.zeroValue9 }
def Tryz.lays99_ren : Go.Shelf.Ren := ⟨fun | 99 => 75 | 206 => 93 | n => n,fun | 9 => 9 | 4 => 4 | 3 => 3 | n => n,fun | n => n⟩
theorem Tryz.lays99 : Go.Proofs.Lays.n99 Tryz.prog Tryz.lays99_ren := {
  mixed := by kernel_rfl
  f99 := Tryz.func75.trans (congrArg some (by kernel_rfl))
  f206 := Tryz.func93.trans (congrArg some (by kernel_rfl))
  t3 := Tryz.underlying3
  a3 := Tryz.isAgg3
  z3 := Tryz.sizeOf3
  v3 := Tryz.zeroValue3
  t4 := Tryz.underlying4
  a4 := Tryz.isAgg4
  z4 := Tryz.sizeOf4
  v4 := Tryz.zeroValue4
  t9 := Tryz.underlying9
  a9 := Tryz.isAgg9
  z9 := Tryz.sizeOf9
  v9 := Tryz.zeroValue9 }
def Tryz.lays144_ren : Go.Shelf.Ren := ⟨fun | 144 => 91 | 143 => 106 | 219 => 117 | 217 => 74 | 225 => 125 | 224 => 124 | 267 => 126 | 266 => 92 | 314 => 128 | n => n,fun | 9 => 9 | 4 => 4 | 3 => 3 | 5 => 5 | 46 => 118 | 146 => 125 | 51 => 124 | n => n,fun | 1 => 0 | n => n⟩
theorem Tryz.lays144 : Go.Proofs.Lays.n144 Tryz.prog Tryz.lays144_ren := {
  mixed := by kernel_rfl
  f143 := Tryz.func106.trans (congrArg some (by kernel_rfl))
  f144 := Tryz.func91.trans (congrArg some (by kernel_rfl))
  f217 := Tryz.func74.trans (congrArg some (by kernel_rfl))
  f219 := Tryz.func117.trans (congrArg some (by kernel_rfl))
  f224 := Tryz.func124.trans (congrArg some (by kernel_rfl))
  f225 := Tryz.func125.trans (congrArg some (by kernel_rfl))
  f266 := Tryz.func92.trans (congrArg some (by kernel_rfl))
  f267 := Tryz.func126.trans (congrArg some (by kernel_rfl))
  f314 := Tryz.func128.trans (congrArg some (by kernel_rfl))
  t3 := Tryz.underlying3
  a3 := Tryz.isAgg3
  z3 := Tryz.sizeOf3
  v3 := Tryz.zeroValue3
  t4 := Tryz.underlying4
  a4 := Tryz.isAgg4
  z4 := Tryz.sizeOf4
  v4 := Tryz.zeroValue4
  t5 := Tryz.underlying5
  a5 := Tryz.isAgg5
  z5 := Tryz.sizeOf5
  v5 := Tryz.zeroValue5
  t9 := Tryz.underlying9
  a9 := Tryz.isAgg9
  z9 := Tryz.sizeOf9
  v9 := Tryz.zeroValue9
  t46 := Tryz.underlying118
  a46 := Tryz.isAgg118
  z46 := Tryz.sizeOf118
  v46 := Tryz.zeroValue118
  t51 := Tryz.underlying124
  a51 := Tryz.isAgg124
  z51 := Tryz.sizeOf124
  v51 := Tryz.zeroValue124
  t146 := Tryz.underlying125
  a146 := Tryz.isAgg125
  z146 := Tryz.sizeOf125
  v146 := Tryz.zeroValue125
  g1 := by kernel_rfl }
def Tryz.lays161_ren : Go.Shelf.Ren := ⟨fun | 161 => 68 | 231 => 83 | 227 => 84 | 233 => 85 | 235 => 86 | 228 => 100 | 197 => 101 | 151 => 102 | 260 => 115 | 152 => 116 | 137 => 58 | 119 => 123 | 224 => 124 | 225 => 125 | 217 => 74 | 266 => 92 | n => n,fun | 9 => 9 | 4 => 4 | 3 => 3 | 5 => 5 | 117 => 89 | 116 => 88 | 0 => 0 | 124 => 92 | 105 => 100 | 21 => 21 | 119 => 117 | 46 => 118 | 139 => 121 | 138 => 120 | n => n,fun | 3 => 1 | 4 => 2 | n => n⟩
theorem Tryz.lays161 : Go.Proofs.Lays.n161 Tryz.prog Tryz.lays161_ren := {
  mixed := by kernel_rfl
  f119 := Tryz.func123.trans (congrArg some (by kernel_rfl))
  f137 := Tryz.func58.trans (congrArg some (by kernel_rfl))
  f151 := Tryz.func102.trans (congrArg some (by kernel_rfl))
  f152 := Tryz.func116.trans (congrArg some (by kernel_rfl))
  f161 := Tryz.func68.trans (congrArg some (by kernel_rfl))
  f197 := Tryz.func101.trans (congrArg some (by kernel_rfl))
  f217 := Tryz.func74.trans (congrArg some (by kernel_rfl))
  f224 := Tryz.func124.trans (congrArg some (by kernel_rfl))
  f225 := Tryz.func125.trans (congrArg some (by kernel_rfl))
  f227 := Tryz.func84.trans (congrArg some (by kernel_rfl))
  f228 := Tryz.func100.trans (congrArg some (by kernel_rfl))
  f231 := Tryz.func83.trans (congrArg some (by kernel_rfl))
  f233 := Tryz.func85.trans (congrArg some (by kernel_rfl))
  f235 := Tryz.func86.trans (congrArg some (by kernel_rfl))
  f260 := Tryz.func115.trans (congrArg some (by kernel_rfl))
  f266 := Tryz.func92.trans (congrArg some (by kernel_rfl))
  t0 := Tryz.underlying0
  a0 := Tryz.isAgg0
  z0 := Tryz.sizeOf0
  v0 := Tryz.zeroValue0
  t3 := Tryz.underlying3
  a3 := Tryz.isAgg3
  z3 := Tryz.sizeOf3
  v3 := Tryz.zeroValue3
  t4 := Tryz.underlying4
  a4 := Tryz.isAgg4
  z4 := Tryz.sizeOf4
  v4 := Tryz.zeroValue4
  t5 := Tryz.underlying5
  a5 := Tryz.isAgg5
  z5 := Tryz.sizeOf5
  v5 := Tryz.zeroValue5
  t9 := Tryz.underlying9
  a9 := Tryz.isAgg9
  z9 := Tryz.sizeOf9
  v9 := Tryz.zeroValue9
  t21 := Tryz.underlying21
  a21 := Tryz.isAgg21
  z21 := Tryz.sizeOf21
  v21 := Tryz.zeroValue21
  t46 := Tryz.underlying118
  a46 := Tryz.isAgg118
  z46 := Tryz.sizeOf118
  v46 := Tryz.zeroValue118
  t105 := Tryz.underlying100
  a105 := Tryz.isAgg100
  z105 := Tryz.sizeOf100
  v105 := Tryz.zeroValue100
  t116 := Tryz.underlying88
  a116 := Tryz.isAgg88
  z116 := Tryz.sizeOf88
  t117 := Tryz.underlying89
  a117 := Tryz.isAgg89
  z117 := Tryz.sizeOf89
  v117 := Tryz.zeroValue89
  t119 := Tryz.underlying117
  a119 := Tryz.isAgg117
  z119 := Tryz.sizeOf117
  t124 := Tryz.underlying92
  a124 := Tryz.isAgg92
  z124 := Tryz.sizeOf92
  v124 := Tryz.zeroValue92
  t138 := Tryz.underlying120
  a138 := Tryz.isAgg120
  z138 := Tryz.sizeOf120
  v138 := Tryz.zeroValue120
  t139 := Tryz.underlying121
  a139 := Tryz.isAgg121
  z139 := Tryz.sizeOf121
  v139 := Tryz.zeroValue121
  g3 := by kernel_rfl
  g4 := by kernel_rfl }
theorem indexByteL_c {s : Tx} {c : UInt8} {K : SV → St → Prop} {st : St} (hk : K (.sc (.int .i64 (Lib.indexByte s c))) st) : ACalls Tryz.prog 74 [.sc (.string (ba s)),.sc (.int .u8 c.toNat)] K st := by
  refine acalls_of_calls (fun _ _ _ => .sc _) hk fun σ w vs hI hR => ?_
  rw [args_sc2 hR]
  have := Any.stringslite_IndexByte Tryz.lays217 (ba s) c.toNat w
  simp at this
  exact this
theorem indexByte_c {s : Tx} {c : UInt8} {K : SV → St → Prop} {st : St} (hk : K (.sc (.int .i64 (Lib.indexByte s c))) st) : ACalls Tryz.prog 58 [.sc (.string (ba s)),.sc (.int .u8 c.toNat)] K st := by
  refine acalls_go_pure [] Tryz.func58 rfl Tryz.results58 Tryz.ntmps58 ?_
  simp only [go_sem]
  refine indexByteL_c ?_
  simp only [go_sem]
  have := fin_pure (ex := []) (x := .sc (.int .i64 (Lib.indexByte s c))) (K := K) (st := st) (ids_scv _ _) hk
  rwa [List.append_nil] at this
theorem hasPrefix_c {s p : Tx} {K : SV → St → Prop} {st : St} (hk : K (.sc (.bool (Lib.hasPrefix s p))) st) : ACalls Tryz.prog 75 [.sc (.string (ba s)),.sc (.string (ba p))] K st := by
  refine acalls_of_calls (fun _ _ _ => .sc _) hk fun σ w vs hI hR => ?_
  rw [args_sc2 hR]
  exact Any.strings_HasPrefix Tryz.lays99 (ba s) (ba p) w
theorem contains_s {gid g : Nat} {m : Int} (hg : g = Tryz.lays144_ren.g 1) {s p : Tx} {K : SV → St → Prop} {st : St} (hst : st[gid]? = some (.glob g (.int .i64 m))) (hs : s.length < 4294967281) (hk : K (.sc (.bool (Lib.contains s p))) st) : ACalls Tryz.prog 91 [.sc (.string (ba s)),.sc (.string (ba p))] K st := by
  refine acalls_of_calls (fun _ _ _ => .sc _) hk fun σ w vs hI hR => ?_
  rw [args_sc2 hR]
  exact Any.strings_Contains Tryz.lays144 (ba s) (ba p) m w hs (by rw [← hg]; exact hI.glob hst)
theorem trimLeft_c {s : Tx} {c : UInt8} (hc : c.toNat < 128) {K : SV → St → Prop} {st : St} (hk : K (.sc (.string (ba (s.dropWhile (· == c))))) st) : ACalls Tryz.prog 68 [.sc (.string (ba s)),.sc (.string (ba [c]))] K st := by
  refine acalls_of_calls (fun _ _ _ => .sc _) hk fun σ w vs hI hR => ?_
  rw [args_sc2 hR]
  exact Any.strings_TrimLeft_one Tryz.lays161 (ba s) c hc w
end Go.Proofs
namespace Go.AL
theorem fin_pure1 {st : St} {K : SV → St → Prop} {x : SV} (hi : Ids st.length (norm x) = True) (hk : K (norm x) st) : FinK st K x st := by
  have := fin_pure (ex := []) hi hk
  rwa [List.append_nil] at this
theorem u8_ge (c d : UInt8) (n : Int) (h : (d.toNat : Int) = n) : decide (n ≤ (c.toNat : Int)) = decide (d ≤ c) := by
  subst h; rw [decide_eq_decide,UInt8.le_iff_toNat_le]; omega
theorem u8_le (c d : UInt8) (n : Int) (h : (d.toNat : Int) = n) : decide ((c.toNat : Int) ≤ n) = decide (c ≤ d) := by
  subst h; rw [decide_eq_decide,UInt8.le_iff_toNat_le]; omega
theorem u8_eq (c d : UInt8) (n : Int) (h : (d.toNat : Int) = n) : ((c.toNat : Int) == n) = (c == d) := by
  subst h
  rw [Bool.eq_iff_iff]
  simp only [beq_iff_eq]
  constructor
  · intro h; exact UInt8.toNat_inj.1 (by omega)
  · rintro rfl; rfl
theorem u8_ne (c d : UInt8) (n : Int) (h : (d.toNat : Int) = n) : ((c.toNat : Int) != n) = (c != d) := by
  unfold bne; rw [u8_eq c d n h]
end Go.AL
namespace Go.Proofs
open Go Go.AL
theorem digit_c {c : UInt8} {K : SV → St → Prop} {st : St} (hk : K (.sc (.bool (digitB c))) st) : ACalls Tryz.prog 52 [.sc (.int .u8 c.toNat)] K st := by
  refine acalls_go_pure [] Tryz.func52 rfl Tryz.results52 Tryz.ntmps52 ?_
  have e1 := u8_ge c 48 48 rfl
  have e2 := u8_le c 57 57 rfl
  unfold digitB at hk
  cases h1 : decide (48 ≤ c) with
  | false => rw [h1] at hk e1; simp only [go_sem,ge_iff_le,e1]; exact fin_pure1 (ids_scv _ _) hk
  | true => rw [h1] at hk e1; simp only [go_sem,ge_iff_le,e1,e2]; exact fin_pure1 (ids_scv _ _) hk
theorem small_c {c : UInt8} {K : SV → St → Prop} {st : St} (hk : K (.sc (.bool (smallB c))) st) : ACalls Tryz.prog 55 [.sc (.int .u8 c.toNat)] K st := by
  refine acalls_go_pure [] Tryz.func55 rfl Tryz.results55 Tryz.ntmps55 ?_
  have e1 := u8_ge c 97 97 rfl
  have e2 := u8_le c 122 122 rfl
  unfold smallB at hk
  cases h1 : decide (97 ≤ c) with
  | false => rw [h1] at hk e1; simp only [go_sem,ge_iff_le,e1]; exact fin_pure1 (ids_scv _ _) hk
  | true => rw [h1] at hk e1; simp only [go_sem,ge_iff_le,e1,e2]; exact fin_pure1 (ids_scv _ _) hk
theorem large_c {c : UInt8} {K : SV → St → Prop} {st : St} (hk : K (.sc (.bool (largeB c))) st) : ACalls Tryz.prog 56 [.sc (.int .u8 c.toNat)] K st := by
  refine acalls_go_pure [] Tryz.func56 rfl Tryz.results56 Tryz.ntmps56 ?_
  have e1 := u8_ge c 65 65 rfl
  have e2 := u8_le c 90 90 rfl
  unfold largeB at hk
  cases h1 : decide (65 ≤ c) with
  | false => rw [h1] at hk e1; simp only [go_sem,ge_iff_le,e1]; exact fin_pure1 (ids_scv _ _) hk
  | true => rw [h1] at hk e1; simp only [go_sem,ge_iff_le,e1,e2]; exact fin_pure1 (ids_scv _ _) hk
theorem inner_c {c : UInt8} {K : SV → St → Prop} {st : St} (hk : K (.sc (.bool (innerB c))) st) : ACalls Tryz.prog 72 [.sc (.int .u8 c.toNat)] K st := by
  refine acalls_go_pure [] Tryz.func72 rfl Tryz.results72 Tryz.ntmps72 ?_
  have e1 := u8_eq c 95 95 rfl
  unfold innerB at hk
  cases h1 : smallB c with
  | true =>
    rw [h1] at hk
    simp only [go_sem]
    refine small_c ?_
    simp only [go_sem,h1]
    exact fin_pure1 (ids_scv _ _) hk
  | false =>
    cases h2 : largeB c with
    | true =>
      rw [h1,h2] at hk
      simp only [go_sem]
      refine small_c ?_
      simp only [go_sem,h1]
      refine large_c ?_
      simp only [go_sem,h1,h2]
      exact fin_pure1 (ids_scv _ _) hk
    | false =>
      cases h3 : digitB c with
      | true =>
        rw [h1,h2,h3] at hk
        simp only [go_sem]
        refine small_c ?_
        simp only [go_sem,h1]
        refine large_c ?_
        simp only [go_sem,h1,h2]
        refine digit_c ?_
        simp only [go_sem,h1,h2,h3]
        exact fin_pure1 (ids_scv _ _) hk
      | false =>
        rw [h1,h2,h3] at hk
        simp only [go_sem]
        refine small_c ?_
        simp only [go_sem,h1]
        refine large_c ?_
        simp only [go_sem,h1,h2]
        refine digit_c ?_
        simp only [go_sem,h1,h2,h3,e1]
        exact fin_pure1 (ids_scv _ _) hk
theorem plain_c {c : UInt8} {K : SV → St → Prop} {st : St} (hk : K (.sc (.bool (plainB c))) st) : ACalls Tryz.prog 90 [.sc (.int .u8 c.toNat)] K st := by
  refine acalls_go_pure [] Tryz.func90 rfl Tryz.results90 Tryz.ntmps90 ?_
  have e1 := u8_ge c 32 32 rfl
  have e2 := u8_le c 126 126 rfl
  have e3 := u8_ne c 34 34 rfl
  have e4 := u8_ne c 92 92 rfl
  unfold plainB at hk
  cases h1 : decide (32 ≤ c) with
  | false => rw [h1] at hk e1; simp only [go_sem,ge_iff_le,e1]; exact fin_pure1 (ids_scv _ _) hk
  | true =>
    rw [h1] at hk e1
    cases h2 : decide (c ≤ 126) with
    | false => rw [h2] at hk e2; simp only [go_sem,ge_iff_le,e1,e2]; exact fin_pure1 (ids_scv _ _) hk
    | true =>
      rw [h2] at hk e2
      cases h3 : c != 34 with
      | false => rw [h3] at hk e3; simp only [go_sem,ge_iff_le,e1,e2,e3]; exact fin_pure1 (ids_scv _ _) hk
      | true => rw [h3] at hk e3; simp only [go_sem,ge_iff_le,e1,e2,e3,e4]; exact fin_pure1 (ids_scv _ _) hk
end Go.Proofs
namespace Go.Proofs
open Go Go.AL
def u8SV (c : UInt8) : SV := .sc (.int .u8 c.toNat)
theorem indexU_c {id : Nat} {l : Tx} (hl : l.length ≤ 1000000) {c : UInt8} {K : SV → St → Prop} {st : St} (hid : st[id]? = some (.cells (l.map u8SV))) (hk : K (.sc (.int .i64 (match l.findIdx? (· == c) with | some k => (k : Int) | none => -1))) st) :
    ACalls Tryz.prog 105 [.slc id 1 0 l.length l.length,.sc (.int .u8 c.toNat)] K st := by
  refine acalls_go_pure [] Tryz.func105 rfl Tryz.results105 Tryz.ntmps105 ?_
  have y := cells_facts hid
  simp only [go_sem]
  refine awp_rounds [] (fun k env s => ∃ j : Nat,k + j = l.length ∧ (l.take j).findIdx? (· == c) = none ∧ env = [.slc id 1 0 l.length l.length,.sc (.int .u8 c.toNat),.any,.any,.any,.any,.any,.sc (.int .i64 l.length),.sc (.int .i64 j),.any,.any,.any,.any,.any,.any,.any,.any,.any,.any] ∧ s = st) (n := l.length) ?_ ⟨0,by omega,by simp,rfl,rfl⟩ ?_
  · repeat (first | exact leEnv_nil | refine leEnv_any _ ?_ | refine leEnv_same _ ?_ | refine leEnv_norm _ ?_)
  rintro k env s ⟨j,hj,hx,rfl,rfl⟩
  by_cases hlt : j < l.length
  · have c1 : decide ((j : Int) < (l.length : Int)) = true := by simp; omega
    have hw : IntKind.i64.wrap ((j : Int) + 1) = ((j + 1 : Nat) : Int) := by rw [IntWalk.i64_in _ (by omega)]; rfl
    have hsp : l.findIdx? (· == c) = (((l.drop j).findIdx? (· == c)).map (· + j)) := by
      conv => lhs; rw [← List.take_append_drop j l,List.findIdx?_append,hx]
      simp [List.length_take,Nat.min_eq_left (Nat.le_of_lt hlt)]
    have hdr : l.drop j = l[j] :: l.drop (j + 1) := List.drop_eq_getElem_cons hlt
    have hdm : (l.map u8SV).drop j = u8SV l[j] :: (l.drop (j + 1)).map u8SV := by rw [← List.map_drop,hdr]; rfl
    have e1 := u8_eq c l[j] (l[j].toNat : Int) rfl
    cases hb : c == l[j] with
    | true =>
      have hb2 : l[j] = c := (beq_iff_eq.1 hb).symm
      rw [hb] at e1
      rw [hsp,hdr,List.findIdx?_cons,hb2] at hk
      simp only [BEq.rfl,if_true,Option.map_some,Nat.zero_add] at hk
      simp only [go_sem,c1,y.1,y.2.1,y.2.2,hdm,u8SV,e1,Nat.mul_one,Nat.zero_add]
      exact ⟨by omega,fin_pure1 (ids_scv _ _) hk⟩
    | false =>
      rw [hb] at e1
      simp only [go_sem,c1,y.1,y.2.1,y.2.2,hdm,u8SV,e1,hw,Nat.mul_one,Nat.zero_add]
      refine ⟨by omega,k - 1,_,by omega,?_,j + 1,by omega,?_,rfl⟩
      · repeat (first | exact leEnv_nil | refine leEnv_any _ ?_ | refine leEnv_same _ ?_ | refine leEnv_norm _ ?_)
      · rw [List.take_succ_eq_append_getElem hlt,List.findIdx?_append,hx]
        have hb3 : (l[j] == c) = false := by rw [beq_eq_false_iff_ne] at hb ⊢; exact fun h => hb h.symm
        simp [List.findIdx?_cons,hb3]
  · have c1 : decide ((j : Int) < (l.length : Int)) = false := by simp; omega
    rw [List.take_of_length_le (by omega)] at hx
    rw [hx] at hk
    simp only [go_sem,c1]
    exact fin_pure1 (ids_scv _ _) hk
end Go.Proofs
namespace Go.Proofs
open Go Go.AL
def byteE (l : List (UInt8 × UInt8)) : List (Value × SV) := l.map fun q => (.int .u8 q.1.toNat,u8SV q.2)
def signE : List (UInt8 × UInt8) := [(110,10),(34,34),(92,92)]
theorem keyGood_u8 {P : Program} {kt : TypeId} (n : Int) : keyGood P kt (.int .u8) (.int .u8 n) = true := by simp [keyGood,keyFits]
theorem byteE_all {P : Program} {kt : TypeId} (l : List (UInt8 × UInt8)) : (byteE l).all (fun q => keyGood P kt (.int .u8) q.1) = true := by
  rw [List.all_eq_true]
  intro q hq
  obtain ⟨a,_,rfl⟩ := List.mem_map.1 hq
  exact keyGood_u8 _
theorem putB_step {n v : UInt8} {st : St} {l : List (UInt8 × UInt8)} {N : St → Prop} (hn : mapPut (byteE l) (.int .u8 n.toNat) (u8SV v) = byteE (l ++ [(n,v)]))
    (h : N (st ++ [.map (byteE (l ++ [(n,v)]))])) : putSpec Tryz.prog 104 (st ++ [.map (byteE l)]) (.mp st.length) (.sc (.int .u8 n.toNat)) (u8SV v) N := by
  have hm : (st ++ [Ob.map (byteE l)])[st.length]? = some (.map (byteE l)) := by simp
  simp only [putSpec,mapOk,AL.keyOf,Tryz.amap104,(map_facts hm).2,keyGood_u8,byteE_all,Bool.and_self,if_true,hn]
  have : (st ++ [Ob.map (byteE l)]).set st.length (.map (byteE (l ++ [(n,v)]))) = st ++ [.map (byteE (l ++ [(n,v)]))] := by
    rw [List.set_append_right _ _ (Nat.le_refl _)]; simp
  rw [this]; exact h
theorem putB3 {st : St} {N : St → Prop} (h : N (st ++ [.map (byteE signE)])) :
    putSpec Tryz.prog 104 (st ++ [.map []]) (.mp st.length) (.sc (.int .u8 110)) (.sc (.int .u8 10)) fun x => putSpec Tryz.prog 104 x (.mp st.length) (.sc (.int .u8 34)) (.sc (.int .u8 34)) fun x => putSpec Tryz.prog 104 x (.mp st.length) (.sc (.int .u8 92)) (.sc (.int .u8 92)) N :=
  putB_step (l := []) (n := 110) (v := 10) rfl (putB_step (l := [(110,10)]) (n := 34) (v := 34) rfl (putB_step (l := [(110,10),(34,34)]) (n := 92) (v := 92) rfl h))
theorem signsM_c {K : SV → St → Prop} {st : St} (hk : K (.mp st.length) (st ++ [.map (byteE signE)])) : ACalls Tryz.prog 103 [] K st := by
  refine acalls_go (M := []) Tryz.func103 rfl Tryz.results103 Tryz.ntmps103 ?_
  simp only [go_sem]
  exact putB3 hk
theorem keyEq_u (a b : UInt8) : keyEq (.int .u8 (a.toNat : Int)) (.int .u8 (b.toNat : Int)) = decide (a = b) := by
  have := keyEq1_iff (d := .int .u8) (a := .int .u8 (a.toNat : Int)) (b := .int .u8 (b.toNat : Int)) (by simp [keyFits]) (by simp [keyFits])
  by_cases hc : a = b
  · subst hc; simp only [decide_true]; exact this.2 rfl
  · simp only [hc,decide_false]
    cases hk : keyEq (.int .u8 (a.toNat : Int)) (.int .u8 (b.toNat : Int)) with
    | false => rfl
    | true => exact absurd (UInt8.toNat_inj.1 (Int.ofNat_inj.1 (Value.int.inj (this.1 hk)).2)) hc
theorem signs_get {st : St} {id : Nat} (hid : mapAt st id = some (byteE signE)) (hz : zeroSV Tryz.prog 5 = some (.sc (.int .u8 0))) (c : UInt8) : mapGet Tryz.prog 104 st (.mp id) (.sc (.int .u8 c.toNat)) =
    some (if c = 110 then (u8SV 10,true) else if c = 34 then (u8SV 34,true) else if c = 92 then (u8SV 92,true) else (u8SV 0,false)) := by
  simp only [mapGet,AL.keyOf,Tryz.amap104,hid,hz,keyGood_u8,byteE_all,Bool.and_self,if_true]
  unfold AL.keyIdx byteE signE
  simp only [List.map_cons,List.map_nil,List.findIdx?_cons,keyEq_u,List.findIdx?_nil]
  by_cases h1 : c = 110
  · simp [h1]
  by_cases h2 : c = 34
  · simp [h2]
  by_cases h3 : c = 92
  · simp [h3]
  · simp [h1,h2,h3,u8SV]
end Go.Proofs
namespace Go.Proofs
open Go Go.AL
theorem Tryz.fieldsOk106 : aFieldsOk Tryz.prog 106 = true := by kernel_rfl
theorem Tryz.aF106_0 : aField Tryz.prog 106 0 = none := by kernel_rfl
theorem Tryz.aF106_1 : aField Tryz.prog 106 1 = none := by kernel_rfl
theorem Tryz.aF106_2 : aField Tryz.prog 106 2 = none := by kernel_rfl
theorem Tryz.aF106_3 : aField Tryz.prog 106 3 = none := by kernel_rfl
theorem Tryz.aF106_4 : aField Tryz.prog 106 4 = none := by kernel_rfl
theorem Tryz.aF106_5 : aField Tryz.prog 106 5 = none := by kernel_rfl
theorem Tryz.aF106_6 : aField Tryz.prog 106 6 = none := by kernel_rfl
theorem Tryz.aF106_7 : aField Tryz.prog 106 7 = none := by kernel_rfl
theorem Tryz.aF106_8 : aField Tryz.prog 106 8 = none := by kernel_rfl
theorem Tryz.aF106_9 : aField Tryz.prog 106 9 = none := by kernel_rfl
theorem Tryz.aF106_10 : aField Tryz.prog 106 10 = none := by kernel_rfl
theorem Tryz.aF106_11 : aField Tryz.prog 106 11 = none := by kernel_rfl
theorem Tryz.aF106_12 : aField Tryz.prog 106 12 = none := by kernel_rfl
theorem Tryz.aF106_13 : aField Tryz.prog 106 13 = none := by kernel_rfl
theorem Tryz.aF106_14 : aField Tryz.prog 106 14 = none := by kernel_rfl
theorem Tryz.aF106_15 : aField Tryz.prog 106 15 = none := by kernel_rfl
theorem Tryz.und106 : Tryz.prog.underlying 106 = some (.array 16 5) := by kernel_rfl
theorem sixteen_c {K : SV → St → Prop} {st : St} (hk : K (.agg (hexL.map u8SV)) st) : ACalls Tryz.prog 104 [] K st := by
  refine acalls_go_mod0 [] Tryz.func104 rfl Tryz.results104 Tryz.ntmps104 ?_
  simp only [go_sem,Tryz.und106,Tryz.fieldsOk106,Tryz.aF106_0,Tryz.aF106_1,Tryz.aF106_2,Tryz.aF106_3,Tryz.aF106_4,Tryz.aF106_5,Tryz.aF106_6,Tryz.aF106_7,Tryz.aF106_8,Tryz.aF106_9,Tryz.aF106_10,Tryz.aF106_11,Tryz.aF106_12,Tryz.aF106_13,Tryz.aF106_14,Tryz.aF106_15]
  refine ⟨st,_,rfl,Mod.refl _,?_,hk⟩
  rw [ids_agg]
  intro x hx
  simp only [List.mem_cons,List.not_mem_nil,or_false] at hx
  rcases hx with h | h | h | h | h | h | h | h | h | h | h | h | h | h | h | h <;> subst h <;> exact .sc _
end Go.Proofs
