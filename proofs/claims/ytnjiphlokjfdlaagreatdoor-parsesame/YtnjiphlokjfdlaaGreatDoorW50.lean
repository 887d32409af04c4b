import Derived.Test.YtnjiphlokjfdlaaGreatDoorW49
set_option maxHeartbeats 4000000
set_option linter.unusedSimpArgs false
set_option linter.unusedVariables false
set_option maxRecDepth 8000
namespace Go.Proofs
open Go Go.AL
theorem rkey_c2 {w : Tx} {v : Bool} (hv : decide (w ∈ keysL) = v) {K : SV → St → Prop} {st : St} (hk : K (.sc (.bool v)) st) : ACalls Tryz.prog 33 [.sc (.string (ba w))] K st := by
  subst hv; exact rkey_c hk
def NameQ (s : Tx) (st : St) (z : Nat) (c0 : UInt8) (e : Exit) (env : List SV) (s' : St) : Prop := e = .exit 4 ∧ (∃ y71 y72 y73 y74 y75 y76 y77 y78 y79 y80 y81 y82 y83 y84 y85 y86 y87 y88 y89 y90 y91 y92 y93 y94 y95 y96 y97 y98,env = [.sc (.string (ba s)),.any,.ptr st.length 0,.any,.any,.sc (.int .u8 c0.toNat),.sc (.int .i64 z),.any,.any,.any,.any,.any,.any,.any,.any,.any,.any,.any,.any,.any,.any,.any,.any,.any,.any,.any,.any,.any,.any,.any,.any,.any,.any,.any,.any,.any,.any,.any,.any,.any,.any,.any,.any,.any,.any,.any,.any,.any,.any,.any,.any,.any,.any,.any,.any,.any,.any,.any,.any,.any,.any,.any,.any,.any,.any,.any,.any,.any,.any,.any,.any,y71,y72,y73,y74,y75,y76,y77,y78,y79,y80,y81,y82,y83,y84,y85,y86,y87,y88,y89,y90,y91,y92,y93,y94,y95,y96,y97,y98,.any,.any,.any,.any,.any,.any,.any,.any,.any,.any,.any,.any,.any,.any,.any,.any,.any,.any,.any,.any,.any,.any,.any,.any,.any,.any,.any,.any,.any,.any,.any,.any,.any,.any,.any,.any,.any,.any]) ∧ s' = st ++ [zTk]
theorem small_large : ∀ {c : UInt8},smallB c = true → largeB c = false := fun {c} => u8_all (P := fun c => smallB c = true → largeB c = false) (by decide +kernel) c
theorem rlow_c {s : Tx} (hs : s.length ≤ 100000) (h0 : 0 < s.length) (hd : digitB s[0] = false) (h34 : ¬ s[0] = 34) (hsm : smallB s[0] = true) {K : SV → St → Prop} {st : St} (hk : tokK (tokF s 0) K st) : ACalls Tryz.prog 20 [.sc (.string (ba s))] K st := by
  refine acalls_go_pure [] Tryz.func20 rfl Tryz.results20 Tryz.ntmps20 ?_
  have hg0 := ba_get h0
  have hin0 : innerB s[0] = true := by unfold innerB; simp [hsm]
  rw [tok_hd h0,hd,if_neg (by decide),if_neg h34,if_pos (by simp [hsm])] at hk
  have e34 := u8_eq s[0] 34 34 rfl
  have f34 : (s[0] == 34) = false := by simp [h34]
  have hz : 1 + spanN innerB (s.drop 1) = spanN innerB s := spanN_at (i := 0) (by simp) h0 hin0
  have hle := span_le innerB s
  obtain ⟨z,hzz⟩ : ∃ z,z = spanN innerB s := ⟨_,rfl⟩
  rw [← hzz] at hk
  generalize hc0 : s[0] = c0 at *
  simp only [go_sem,ba_size,hg0]
  refine ⟨by omega,?_⟩
  refine rdigit_c ?_
  simp only [go_sem,hd,e34,f34,ba_size,hg0]
  first | (unfold ACallsH; simp only [put_some,put_none',ev_tmp,List.set_cons_succ,List.set_cons_zero,List.getD_cons_succ,List.getD_cons_zero]) | skip
  refine rsmall_c ?_
  simp only [go_sem,hd,e34,f34,ba_size,hg0,hsm]
  refine AWp.mono (Q := NameQ s st z c0) ?_ ?_
  · refine awp_rounds [] (fun m env s' => ∃ i : Nat,m + i = s.length ∧ i + spanN innerB (s.drop i) = spanN innerB s ∧ env = [.sc (.string (ba s)),.any,.ptr st.length 0,.any,.any,.sc (.int .u8 c0.toNat),.sc (.int .i64 i),.any,.any,.any,.any,.any,.any,.any,.any,.any,.any,.any,.any,.any,.any,.any,.any,.any,.any,.any,.any,.any,.any,.any,.any,.any,.any,.any,.any,.any,.any,.any,.any,.any,.any,.any,.any,.any,.any,.any,.any,.any,.any,.any,.any,.any,.any,.any,.any,.any,.any,.any,.any,.any,.any,.any,.any,.any,.any,.any,.any,.any,.any,.any,.any,.any,.any,.any,.any,.any,.any,.any,.any,.any,.any,.any,.any,.any,.any,.any,.any,.any,.any,.any,.any,.any,.any,.any,.any,.any,.any,.any,.any,.any,.any,.any,.any,.any,.any,.any,.any,.any,.any,.any,.any,.any,.any,.any,.any,.any,.any,.any,.any,.any,.any,.any,.any,.any,.any,.any,.any,.any,.any,.any,.any,.any,.any,.any,.any,.any,.any] ∧ s' = st ++ [zTk]) (n := s.length - 1) ?_ ⟨1,by omega,hz,rfl,rfl⟩ ?_
    · repeat (first | exact leEnv_nil | refine leEnv_any _ ?_ | refine leEnv_same _ ?_ | refine leEnv_norm _ ?_)
    rintro m env s' ⟨i,hm,hi,rfl,rfl⟩
    have w1 : IntKind.i64.wrap ((i : Int) + 1) = ((i + 1 : Nat) : Int) := by rw [IntWalk.i64_in _ (by omega)]; rfl
    by_cases hl : i < s.length
    rotate_left
    · have c1 : decide ((i : Int) < (s.length : Int)) = false := by simp; omega
      have := spanN_end hi (fun h => absurd h hl)
      simp only [go_sem,ba_size,c1]
      obtain rfl : i = z := by omega
      exact ⟨rfl,⟨_,_,_,_,_,_,_,_,_,_,_,_,_,_,_,_,_,_,_,_,_,_,_,_,_,_,_,_,rfl⟩,rfl⟩
    have c1 : decide ((i : Int) < (s.length : Int)) = true := by simp; omega
    have hgi := ba_get hl
    obtain ⟨c,hc⟩ : ∃ c,c = s[i] := ⟨_,rfl⟩
    have hin : innerB c = innerB s[i] := by rw [hc]
    rw [← hc] at hgi
    have e95 := u8_eq c 95 95 rfl
    cases a1 : smallB c with
    | true =>
      have hin : innerB s[i] = true := by rw [← hc]; unfold innerB; simp [a1]
      simp only [go_sem,ba_size,c1,hgi]
      refine ⟨by omega,?_⟩
      first | (unfold ACallsH; simp only [put_some,put_none',ev_tmp,List.set_cons_succ,List.set_cons_zero,List.getD_cons_succ,List.getD_cons_zero]) | skip
      refine rsmall_c ?_
      simp only [go_sem,ba_size,c1,hgi,a1,w1]
      refine ⟨m - 1,_,by omega,?_,i + 1,by omega,spanN_at hi hl hin,rfl⟩
      repeat (first | exact leEnv_nil | refine leEnv_any _ ?_ | refine leEnv_same _ ?_ | refine leEnv_norm _ ?_)
    | false =>
      cases a2 : largeB c with
      | true =>
        have hin : innerB s[i] = true := by rw [← hc]; unfold innerB; simp [a2]
        simp only [go_sem,ba_size,c1,hgi]
        refine ⟨by omega,?_⟩
        first | (unfold ACallsH; simp only [put_some,put_none',ev_tmp,List.set_cons_succ,List.set_cons_zero,List.getD_cons_succ,List.getD_cons_zero]) | skip
        refine rsmall_c ?_
        simp only [go_sem,ba_size,c1,hgi,a1]
        refine ⟨by omega,?_⟩
        first | (unfold ACallsH; simp only [put_some,put_none',ev_tmp,List.set_cons_succ,List.set_cons_zero,List.getD_cons_succ,List.getD_cons_zero]) | skip
        refine rlarge_c ?_
        simp only [go_sem,ba_size,c1,hgi,a1,a2,w1]
        refine ⟨m - 1,_,by omega,?_,i + 1,by omega,spanN_at hi hl hin,rfl⟩
        repeat (first | exact leEnv_nil | refine leEnv_any _ ?_ | refine leEnv_same _ ?_ | refine leEnv_norm _ ?_)
      | false =>
        cases a3 : digitB c with
        | true =>
          have hin : innerB s[i] = true := by rw [← hc]; unfold innerB; simp [a3]
          simp only [go_sem,ba_size,c1,hgi]
          refine ⟨by omega,?_⟩
          first | (unfold ACallsH; simp only [put_some,put_none',ev_tmp,List.set_cons_succ,List.set_cons_zero,List.getD_cons_succ,List.getD_cons_zero]) | skip
          refine rsmall_c ?_
          simp only [go_sem,ba_size,c1,hgi,a1]
          refine ⟨by omega,?_⟩
          first | (unfold ACallsH; simp only [put_some,put_none',ev_tmp,List.set_cons_succ,List.set_cons_zero,List.getD_cons_succ,List.getD_cons_zero]) | skip
          refine rlarge_c ?_
          simp only [go_sem,ba_size,c1,hgi,a1,a2]
          refine ⟨by omega,?_⟩
          first | (unfold ACallsH; simp only [put_some,put_none',ev_tmp,List.set_cons_succ,List.set_cons_zero,List.getD_cons_succ,List.getD_cons_zero]) | skip
          refine rdigit_c ?_
          simp only [go_sem,ba_size,c1,hgi,a1,a2,a3,w1]
          refine ⟨m - 1,_,by omega,?_,i + 1,by omega,spanN_at hi hl hin,rfl⟩
          repeat (first | exact leEnv_nil | refine leEnv_any _ ?_ | refine leEnv_same _ ?_ | refine leEnv_norm _ ?_)
        | false =>
          by_cases h95 : c = 95
          · have f95 : (c == 95) = true := by simp [h95]
            have hin : innerB s[i] = true := by rw [← hc]; unfold innerB; simp [h95]
            simp only [go_sem,ba_size,c1,hgi]
            refine ⟨by omega,?_⟩
            first | (unfold ACallsH; simp only [put_some,put_none',ev_tmp,List.set_cons_succ,List.set_cons_zero,List.getD_cons_succ,List.getD_cons_zero]) | skip
            refine rsmall_c ?_
            simp only [go_sem,ba_size,c1,hgi,a1]
            refine ⟨by omega,?_⟩
            first | (unfold ACallsH; simp only [put_some,put_none',ev_tmp,List.set_cons_succ,List.set_cons_zero,List.getD_cons_succ,List.getD_cons_zero]) | skip
            refine rlarge_c ?_
            simp only [go_sem,ba_size,c1,hgi,a1,a2]
            refine ⟨by omega,?_⟩
            first | (unfold ACallsH; simp only [put_some,put_none',ev_tmp,List.set_cons_succ,List.set_cons_zero,List.getD_cons_succ,List.getD_cons_zero]) | skip
            refine rdigit_c ?_
            simp only [go_sem,ba_size,c1,hgi,a1,a2,a3,e95,f95,w1]
            refine ⟨by omega,m - 1,_,by omega,?_,i + 1,by omega,spanN_at hi hl hin,rfl⟩
            repeat (first | exact leEnv_nil | refine leEnv_any _ ?_ | refine leEnv_same _ ?_ | refine leEnv_norm _ ?_)
          · have f95 : (c == 95) = false := by simp [h95]
            have hin : innerB s[i] = false := by rw [← hc]; unfold innerB; simp [a1,a2,a3,h95]
            have := spanN_end hi (fun _ => hin)
            simp only [go_sem,ba_size,c1,hgi]
            refine ⟨by omega,?_⟩
            first | (unfold ACallsH; simp only [put_some,put_none',ev_tmp,List.set_cons_succ,List.set_cons_zero,List.getD_cons_succ,List.getD_cons_zero]) | skip
            refine rsmall_c ?_
            simp only [go_sem,ba_size,c1,hgi,a1]
            refine ⟨by omega,?_⟩
            first | (unfold ACallsH; simp only [put_some,put_none',ev_tmp,List.set_cons_succ,List.set_cons_zero,List.getD_cons_succ,List.getD_cons_zero]) | skip
            refine rlarge_c ?_
            simp only [go_sem,ba_size,c1,hgi,a1,a2]
            refine ⟨by omega,?_⟩
            first | (unfold ACallsH; simp only [put_some,put_none',ev_tmp,List.set_cons_succ,List.set_cons_zero,List.getD_cons_succ,List.getD_cons_zero]) | skip
            refine rdigit_c ?_
            simp only [go_sem,ba_size,c1,hgi,a1,a2,a3,e95,f95,w1]
            obtain rfl : i = z := by omega
            exact ⟨by omega,rfl,⟨_,_,_,_,_,_,_,_,_,_,_,_,_,_,_,_,_,_,_,_,_,_,_,_,_,_,_,_,rfl⟩,rfl⟩
  · rintro e env s' ⟨rfl,⟨y71,y72,y73,y74,y75,y76,y77,y78,y79,y80,y81,y82,y83,y84,y85,y86,y87,y88,y89,y90,y91,y92,y93,y94,y95,y96,y97,y98,rfl⟩,rfl⟩
    have hx : ∀ n,(ba s).extract 0 n = ba (s.take n) := fun n => by rw [ba_extract]; simp
    by_cases h16 : 16 < z
    · have c1 : decide ((16 : Int) < (z : Int)) = true := by simp; omega
      rw [if_pos h16] at hk
      simp only [go_sem,gt_iff_lt,c1,zTk]
      exact fin_pure (ids_tk3 _ ⟨0,[],0,0⟩ _ _) (hk ⟨0,[],0,0⟩ 0)
    · have c1 : decide ((16 : Int) < (z : Int)) = false := by simp; omega
      rw [if_neg h16] at hk
      have hlg : largeB c0 = false := small_large hsm
      rw [hlg,if_neg (by decide)] at hk
      by_cases hkey : s.take z ∈ keysL
      · have ck : decide (s.take z ∈ keysL) = true := by simp [hkey]
        rw [if_pos hkey] at hk
        simp only [go_sem,gt_iff_lt,c1,zTk,ba_size,hx]
        refine ⟨by omega,?_⟩
        first | (unfold ACallsH; simp only [put_some,put_none',ev_tmp,List.set_cons_succ,List.set_cons_zero,List.getD_cons_succ,List.getD_cons_zero]) | skip
        refine rlarge_c ?_
        simp only [go_sem,gt_iff_lt,c1,zTk,ba_size,hx,hlg]
        refine ⟨by omega,?_⟩
        first | (unfold ACallsH; simp only [put_some,put_none',ev_tmp,List.set_cons_succ,List.set_cons_zero,List.getD_cons_succ,List.getD_cons_zero]) | skip
        refine rkey_c2 ck ?_
        simp only [go_sem,gt_iff_lt,c1,zTk,ba_size,hx,hlg]
        exact fin_pure (ids_tk3 _ ⟨6,s.take z,0,0⟩ _ _) hk
      · have ck : decide (s.take z ∈ keysL) = false := by simp [hkey]
        rw [if_neg hkey] at hk
        simp only [go_sem,gt_iff_lt,c1,zTk,ba_size,hx]
        refine ⟨by omega,?_⟩
        first | (unfold ACallsH; simp only [put_some,put_none',ev_tmp,List.set_cons_succ,List.set_cons_zero,List.getD_cons_succ,List.getD_cons_zero]) | skip
        refine rlarge_c ?_
        simp only [go_sem,gt_iff_lt,c1,zTk,ba_size,hx,hlg]
        refine ⟨by omega,?_⟩
        first | (unfold ACallsH; simp only [put_some,put_none',ev_tmp,List.set_cons_succ,List.set_cons_zero,List.getD_cons_succ,List.getD_cons_zero]) | skip
        refine rkey_c2 ck ?_
        simp only [go_sem,gt_iff_lt,c1,zTk,ba_size,hx,hlg]
        exact fin_pure (ids_tk3 _ ⟨3,s.take z,0,0⟩ _ _) hk
theorem rbig_c {s : Tx} (hs : s.length ≤ 100000) (h0 : 0 < s.length) (hd : digitB s[0] = false) (h34 : ¬ s[0] = 34) (hsm : smallB s[0] = false) (hlg : largeB s[0] = true) {K : SV → St → Prop} {st : St} (hk : tokK (tokF s 0) K st) : ACalls Tryz.prog 20 [.sc (.string (ba s))] K st := by
  refine acalls_go_pure [] Tryz.func20 rfl Tryz.results20 Tryz.ntmps20 ?_
  have hg0 := ba_get h0
  have hin0 : innerB s[0] = true := by unfold innerB; simp [hsm,hlg]
  rw [tok_hd h0,hd,if_neg (by decide),if_neg h34,if_pos (by simp [hsm,hlg])] at hk
  have e34 := u8_eq s[0] 34 34 rfl
  have f34 : (s[0] == 34) = false := by simp [h34]
  have hz : 1 + spanN innerB (s.drop 1) = spanN innerB s := spanN_at (i := 0) (by simp) h0 hin0
  have hle := span_le innerB s
  obtain ⟨z,hzz⟩ : ∃ z,z = spanN innerB s := ⟨_,rfl⟩
  rw [← hzz] at hk
  generalize hc0 : s[0] = c0 at *
  simp only [go_sem,ba_size,hg0]
  refine ⟨by omega,?_⟩
  refine rdigit_c ?_
  simp only [go_sem,hd,e34,f34,ba_size,hg0]
  first | (unfold ACallsH; simp only [put_some,put_none',ev_tmp,List.set_cons_succ,List.set_cons_zero,List.getD_cons_succ,List.getD_cons_zero]) | skip
  refine rsmall_c ?_
  simp only [go_sem,hd,e34,f34,ba_size,hg0,hsm]
  first | (unfold ACallsH; simp only [put_some,put_none',ev_tmp,List.set_cons_succ,List.set_cons_zero,List.getD_cons_succ,List.getD_cons_zero]) | skip
  refine rlarge_c ?_
  simp only [go_sem,hd,e34,f34,ba_size,hg0,hsm,hlg]
  refine AWp.mono (Q := NameQ s st z c0) ?_ ?_
  · refine awp_rounds [] (fun m env s' => ∃ i : Nat,m + i = s.length ∧ i + spanN innerB (s.drop i) = spanN innerB s ∧ env = [.sc (.string (ba s)),.any,.ptr st.length 0,.any,.any,.sc (.int .u8 c0.toNat),.sc (.int .i64 i),.any,.any,.any,.any,.any,.any,.any,.any,.any,.any,.any,.any,.any,.any,.any,.any,.any,.any,.any,.any,.any,.any,.any,.any,.any,.any,.any,.any,.any,.any,.any,.any,.any,.any,.any,.any,.any,.any,.any,.any,.any,.any,.any,.any,.any,.any,.any,.any,.any,.any,.any,.any,.any,.any,.any,.any,.any,.any,.any,.any,.any,.any,.any,.any,.any,.any,.any,.any,.any,.any,.any,.any,.any,.any,.any,.any,.any,.any,.any,.any,.any,.any,.any,.any,.any,.any,.any,.any,.any,.any,.any,.any,.any,.any,.any,.any,.any,.any,.any,.any,.any,.any,.any,.any,.any,.any,.any,.any,.any,.any,.any,.any,.any,.any,.any,.any,.any,.any,.any,.any,.any,.any,.any,.any,.any,.any,.any,.any,.any,.any] ∧ s' = st ++ [zTk]) (n := s.length - 1) ?_ ⟨1,by omega,hz,rfl,rfl⟩ ?_
    · repeat (first | exact leEnv_nil | refine leEnv_any _ ?_ | refine leEnv_same _ ?_ | refine leEnv_norm _ ?_)
    rintro m env s' ⟨i,hm,hi,rfl,rfl⟩
    have w1 : IntKind.i64.wrap ((i : Int) + 1) = ((i + 1 : Nat) : Int) := by rw [IntWalk.i64_in _ (by omega)]; rfl
    by_cases hl : i < s.length
    rotate_left
    · have c1 : decide ((i : Int) < (s.length : Int)) = false := by simp; omega
      have := spanN_end hi (fun h => absurd h hl)
      simp only [go_sem,ba_size,c1]
      obtain rfl : i = z := by omega
      exact ⟨rfl,⟨_,_,_,_,_,_,_,_,_,_,_,_,_,_,_,_,_,_,_,_,_,_,_,_,_,_,_,_,rfl⟩,rfl⟩
    have c1 : decide ((i : Int) < (s.length : Int)) = true := by simp; omega
    have hgi := ba_get hl
    obtain ⟨c,hc⟩ : ∃ c,c = s[i] := ⟨_,rfl⟩
    have hin : innerB c = innerB s[i] := by rw [hc]
    rw [← hc] at hgi
    have e95 := u8_eq c 95 95 rfl
    cases a1 : smallB c with
    | true =>
      have hin : innerB s[i] = true := by rw [← hc]; unfold innerB; simp [a1]
      simp only [go_sem,ba_size,c1,hgi]
      refine ⟨by omega,?_⟩
      first | (unfold ACallsH; simp only [put_some,put_none',ev_tmp,List.set_cons_succ,List.set_cons_zero,List.getD_cons_succ,List.getD_cons_zero]) | skip
      refine rsmall_c ?_
      simp only [go_sem,ba_size,c1,hgi,a1,w1]
      refine ⟨m - 1,_,by omega,?_,i + 1,by omega,spanN_at hi hl hin,rfl⟩
      repeat (first | exact leEnv_nil | refine leEnv_any _ ?_ | refine leEnv_same _ ?_ | refine leEnv_norm _ ?_)
    | false =>
      cases a2 : largeB c with
      | true =>
        have hin : innerB s[i] = true := by rw [← hc]; unfold innerB; simp [a2]
        simp only [go_sem,ba_size,c1,hgi]
        refine ⟨by omega,?_⟩
        first | (unfold ACallsH; simp only [put_some,put_none',ev_tmp,List.set_cons_succ,List.set_cons_zero,List.getD_cons_succ,List.getD_cons_zero]) | skip
        refine rsmall_c ?_
        simp only [go_sem,ba_size,c1,hgi,a1]
        refine ⟨by omega,?_⟩
        first | (unfold ACallsH; simp only [put_some,put_none',ev_tmp,List.set_cons_succ,List.set_cons_zero,List.getD_cons_succ,List.getD_cons_zero]) | skip
        refine rlarge_c ?_
        simp only [go_sem,ba_size,c1,hgi,a1,a2,w1]
        refine ⟨m - 1,_,by omega,?_,i + 1,by omega,spanN_at hi hl hin,rfl⟩
        repeat (first | exact leEnv_nil | refine leEnv_any _ ?_ | refine leEnv_same _ ?_ | refine leEnv_norm _ ?_)
      | false =>
        cases a3 : digitB c with
        | true =>
          have hin : innerB s[i] = true := by rw [← hc]; unfold innerB; simp [a3]
          simp only [go_sem,ba_size,c1,hgi]
          refine ⟨by omega,?_⟩
          first | (unfold ACallsH; simp only [put_some,put_none',ev_tmp,List.set_cons_succ,List.set_cons_zero,List.getD_cons_succ,List.getD_cons_zero]) | skip
          refine rsmall_c ?_
          simp only [go_sem,ba_size,c1,hgi,a1]
          refine ⟨by omega,?_⟩
          first | (unfold ACallsH; simp only [put_some,put_none',ev_tmp,List.set_cons_succ,List.set_cons_zero,List.getD_cons_succ,List.getD_cons_zero]) | skip
          refine rlarge_c ?_
          simp only [go_sem,ba_size,c1,hgi,a1,a2]
          refine ⟨by omega,?_⟩
          first | (unfold ACallsH; simp only [put_some,put_none',ev_tmp,List.set_cons_succ,List.set_cons_zero,List.getD_cons_succ,List.getD_cons_zero]) | skip
          refine rdigit_c ?_
          simp only [go_sem,ba_size,c1,hgi,a1,a2,a3,w1]
          refine ⟨m - 1,_,by omega,?_,i + 1,by omega,spanN_at hi hl hin,rfl⟩
          repeat (first | exact leEnv_nil | refine leEnv_any _ ?_ | refine leEnv_same _ ?_ | refine leEnv_norm _ ?_)
        | false =>
          by_cases h95 : c = 95
          · have f95 : (c == 95) = true := by simp [h95]
            have hin : innerB s[i] = true := by rw [← hc]; unfold innerB; simp [h95]
            simp only [go_sem,ba_size,c1,hgi]
            refine ⟨by omega,?_⟩
            first | (unfold ACallsH; simp only [put_some,put_none',ev_tmp,List.set_cons_succ,List.set_cons_zero,List.getD_cons_succ,List.getD_cons_zero]) | skip
            refine rsmall_c ?_
            simp only [go_sem,ba_size,c1,hgi,a1]
            refine ⟨by omega,?_⟩
            first | (unfold ACallsH; simp only [put_some,put_none',ev_tmp,List.set_cons_succ,List.set_cons_zero,List.getD_cons_succ,List.getD_cons_zero]) | skip
            refine rlarge_c ?_
            simp only [go_sem,ba_size,c1,hgi,a1,a2]
            refine ⟨by omega,?_⟩
            first | (unfold ACallsH; simp only [put_some,put_none',ev_tmp,List.set_cons_succ,List.set_cons_zero,List.getD_cons_succ,List.getD_cons_zero]) | skip
            refine rdigit_c ?_
            simp only [go_sem,ba_size,c1,hgi,a1,a2,a3,e95,f95,w1]
            refine ⟨by omega,m - 1,_,by omega,?_,i + 1,by omega,spanN_at hi hl hin,rfl⟩
            repeat (first | exact leEnv_nil | refine leEnv_any _ ?_ | refine leEnv_same _ ?_ | refine leEnv_norm _ ?_)
          · have f95 : (c == 95) = false := by simp [h95]
            have hin : innerB s[i] = false := by rw [← hc]; unfold innerB; simp [a1,a2,a3,h95]
            have := spanN_end hi (fun _ => hin)
            simp only [go_sem,ba_size,c1,hgi]
            refine ⟨by omega,?_⟩
            first | (unfold ACallsH; simp only [put_some,put_none',ev_tmp,List.set_cons_succ,List.set_cons_zero,List.getD_cons_succ,List.getD_cons_zero]) | skip
            refine rsmall_c ?_
            simp only [go_sem,ba_size,c1,hgi,a1]
            refine ⟨by omega,?_⟩
            first | (unfold ACallsH; simp only [put_some,put_none',ev_tmp,List.set_cons_succ,List.set_cons_zero,List.getD_cons_succ,List.getD_cons_zero]) | skip
            refine rlarge_c ?_
            simp only [go_sem,ba_size,c1,hgi,a1,a2]
            refine ⟨by omega,?_⟩
            first | (unfold ACallsH; simp only [put_some,put_none',ev_tmp,List.set_cons_succ,List.set_cons_zero,List.getD_cons_succ,List.getD_cons_zero]) | skip
            refine rdigit_c ?_
            simp only [go_sem,ba_size,c1,hgi,a1,a2,a3,e95,f95,w1]
            obtain rfl : i = z := by omega
            exact ⟨by omega,rfl,⟨_,_,_,_,_,_,_,_,_,_,_,_,_,_,_,_,_,_,_,_,_,_,_,_,_,_,_,_,rfl⟩,rfl⟩
  · rintro e env s' ⟨rfl,⟨y71,y72,y73,y74,y75,y76,y77,y78,y79,y80,y81,y82,y83,y84,y85,y86,y87,y88,y89,y90,y91,y92,y93,y94,y95,y96,y97,y98,rfl⟩,rfl⟩
    have hx : ∀ n,(ba s).extract 0 n = ba (s.take n) := fun n => by rw [ba_extract]; simp
    by_cases h16 : 16 < z
    · have c1 : decide ((16 : Int) < (z : Int)) = true := by simp; omega
      rw [if_pos h16] at hk
      simp only [go_sem,gt_iff_lt,c1,zTk]
      exact fin_pure (ids_tk3 _ ⟨0,[],0,0⟩ _ _) (hk ⟨0,[],0,0⟩ 0)
    · have c1 : decide ((16 : Int) < (z : Int)) = false := by simp; omega
      rw [if_neg h16] at hk
      simp only [go_sem,gt_iff_lt,c1,zTk,ba_size,hx]
      refine ⟨by omega,?_⟩
      first | (unfold ACallsH; simp only [put_some,put_none',ev_tmp,List.set_cons_succ,List.set_cons_zero,List.getD_cons_succ,List.getD_cons_zero]) | skip
      refine rlarge_c ?_
      rw [hlg,if_pos rfl] at hk
      simp only [go_sem,gt_iff_lt,c1,zTk,ba_size,hx,hlg]
      exact fin_pure (ids_tk3 _ ⟨4,s.take z,0,0⟩ _ _) hk
theorem rtoken_c {s : Tx} (hs : s.length ≤ 100000) (h0 : 0 < s.length) {K : SV → St → Prop} {st : St} (hk : tokK (tokF s 0) K st) : ACalls Tryz.prog 20 [.sc (.string (ba s))] K st := by
  cases hd : digitB s[0] with
  | true => exact rnum_c hs h0 hd hk
  | false =>
    by_cases h34 : s[0] = 34
    · exact rtext_c hs h0 hd h34 hk
    cases hsm : smallB s[0] with
    | true => exact rlow_c hs h0 hd h34 hsm hk
    | false =>
      cases hlg : largeB s[0] with
      | true => exact rbig_c hs h0 hd h34 hsm hlg hk
      | false =>
        by_cases h45 : s[0] = 45
        · by_cases h1 : 1 < s.length
          · by_cases h62 : s[1] = 62
            · exact rarrow_c hs h0 hd h34 hsm hlg hk h1 h45 h62
            · exact rminus_c hs h0 hd h34 hsm hlg hk h45 (fun _ => h62)
          · exact rminus_c hs h0 hd h34 hsm hlg hk h45 (fun h => absurd h h1)
        · exact rother_c hs h0 hd h34 hsm hlg hk h45
end Go.Proofs
