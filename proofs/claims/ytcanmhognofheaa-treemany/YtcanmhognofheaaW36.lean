/- slices.SortFunc; tree.heads. -/
import Derived.Test.YtcanmhognofheaaW35
set_option linter.all false
set_option linter.unusedSimpArgs false
set_option linter.unusedVariables false
set_option maxRecDepth 8000
set_option maxRecDepth 100000
namespace Go.Proofs
open Go Go.AL
def lenT : List Nat := [0,1,2,2,3,3,3,3,4,4,4,4,4]
theorem len72_c (n : Nat) (hn : n ≤ 12) (K : SV → St → Prop) (st : St) (h : ∀ r : Int,K (i64 r) st) : ACalls Try.prog 72 [.sc (.int .u64 (n : Int))] K st := by
  have key : checkT Try.prog {} 200 72 [.sc (.int .u64 (n : Int))] (i64 (lenT.getD n 0)) = true := by
    match n,hn with
    | 0,_ => decide +kernel
    | 1,_ => decide +kernel
    | 2,_ => decide +kernel
    | 3,_ => decide +kernel
    | 4,_ => decide +kernel
    | 5,_ => decide +kernel
    | 6,_ => decide +kernel
    | 7,_ => decide +kernel
    | 8,_ => decide +kernel
    | 9,_ => decide +kernel
    | 10,_ => decide +kernel
    | 11,_ => decide +kernel
    | 12,_ => decide +kernel
    | n + 13,hn => exact absurd hn (by omega)
  exact acalls_checkT cfg_none Try.mixed 200 key (h _)
theorem aint117 : aInt Try.prog 117 = some .u64 := by kernel_rfl
theorem aint3 : aInt Try.prog 3 = some .i64 := by kernel_rfl
theorem sort54_c (id v n : Nat) (x0 : Nd) (L' : List Nd) (hn : L'.length + 1 = n) (hn2 : n ≤ 12) (f : Nd → Int) (g : FuncId) (caps : List SV) (hg : aBody Try.prog g = true) (st : St) (hid : st[id]? = some (.arr v 6 (flatN (x0 :: L'))))
    (hp : ∀ (x y : Nd) (s : St),(∃ cs,s = st.set id (.arr v 6 cs)) → ∀ K : SV → St → Prop,K (i64 (cmpF (f x) (f y))) s → ACalls Try.prog g ([nodeSV x,nodeSV y] ++ caps) K s)
    (K : SV → St → Prop) (h : K (.tuple []) (st.set id (.arr v 6 (flatN (sortF f (x0 :: L')))))) : ACalls Try.prog 54 [.arr id v n,.func (.func g) [] caps] K st := by
  refine acalls_go (M := []) Try.func54 rfl Try.results54 Try.ntmps54 ?_
  have q := arr_facts hid
  have w1 : IntKind.u64.wrap (n : Int) = (n : Int) := by rw [IntKind.wrap_u64]; omega
  have k1 : convOk Try.prog 3 117 (i64 n) = True := by rw [convOk_int _ _ (by rw [aint117]; rfl),aint3,aint117]; simp
  have k2 : convV Try.prog 117 (i64 n) = .sc (.int .u64 n) := by rw [convV_int _ _ aint117,w1]
  simp -implicitDefEqProofs (maxSteps := 2000000) only [↓ops_nil,↓ops_none,↓ops_some,↓kd_eff,↓dr_nil,↓dr_cons,↓d1_none,↓d1_some,↓eff_store,↓eff_box,↓eff_alloc,↓eff_build,↓eff_buildSlice,↓eff_call,↓eff_append,↓eff_copy,↓eff_cap,↓eff_clear,↓eff_make,↓reduceIte,↓c_condI,↓c_seqH,↓c_blockH,↓then_nH,↓then_rH,↓then_eH,↓block_nH,↓block_rH,↓block_eH,go_sem,q.1,q.2.1,q.2.2.1,q.2.2.2,k1,k2]
  refine len72_c n hn2 _ _ fun r => ?_
  simp -implicitDefEqProofs (maxSteps := 2000000) only [↓ops_nil,↓ops_none,↓ops_some,↓kd_eff,↓dr_nil,↓dr_cons,↓d1_none,↓d1_some,↓eff_store,↓eff_box,↓eff_alloc,↓eff_build,↓eff_buildSlice,↓eff_call,↓eff_append,↓eff_copy,↓eff_cap,↓eff_clear,↓eff_make,↓reduceIte,↓c_condI,↓c_seqH,↓c_blockH,↓then_nH,↓then_rH,↓then_eH,↓block_nH,↓block_rH,↓block_eH,go_sem]
  refine pdq71_c id v n x0 L' hn hn2 _ f g caps hg _ hid hp _ ?_
  simp -implicitDefEqProofs (maxSteps := 2000000) only [↓ops_nil,↓ops_none,↓ops_some,↓kd_eff,↓dr_nil,↓dr_cons,↓d1_none,↓d1_some,↓eff_store,↓eff_box,↓eff_alloc,↓eff_build,↓eff_buildSlice,↓eff_call,↓eff_append,↓eff_copy,↓eff_cap,↓eff_clear,↓eff_make,↓reduceIte,↓c_condI,↓c_seqH,↓c_blockH,↓then_nH,↓then_rH,↓then_eH,↓block_nH,↓block_rH,↓block_eH,go_sem]
  exact h
end Go.Proofs
