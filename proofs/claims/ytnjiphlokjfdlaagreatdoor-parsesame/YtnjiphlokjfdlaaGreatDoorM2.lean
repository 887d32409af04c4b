import Derived.Test.YtnjiphlokjfdlaaGreatDoorM1
import Derived.Test.YtnjiphlokjfdlaaGreatDoorM5
set_option maxHeartbeats 4000000
set_option linter.unusedSimpArgs false
set_option linter.unusedVariables false
set_option maxRecDepth 8000
namespace Go.AL
def rL (s : Tx) (a : Nat) : List SV := [.sc (.string (ba s)),.sc (.int .i64 a)]
def RAt (s : Tx) (rid : Nat) (a : Nat) (st : St) : Prop := st[rid]? = some (.cells (rL s a))
theorem rfacts {s : Tx} {rid a : Nat} {st : St} (h : RAt s rid a st) : inS st rid = True ∧ isObj st rid = True ∧ objAt st rid = [.sc (.string (ba s)),.sc (.int .i64 a)] := cells_facts h
theorem rat_set {s : Tx} {rid a b : Nat} {st : St} (h : RAt s rid a st) : RAt s rid b (st.set rid (.cells (rL s b))) := set_get (lt_of_get h)
theorem rat_seta {s : Tx} {rid a b : Nat} {st ex : St} (h : RAt s rid a st) : RAt s rid b (st.set rid (.cells (rL s b)) ++ ex) := get_app (rat_set h) ex
theorem rat_app {s : Tx} {rid a : Nat} {st ex : St} (h : RAt s rid a st) : RAt s rid a (st ++ ex) := get_app h ex
theorem rset_id {s : Tx} {rid a : Nat} {st : St} (h : RAt s rid a st) : st.set rid (.cells (rL s a)) = st := by
  obtain ⟨h1,h2⟩ := List.getElem?_eq_some_iff.1 h
  rw [← h2,List.set_getElem_self]
theorem objs_r (n : Nat) (s : Tx) (a : Nat) : ObIds n (.cells (rL s a)) := by
  rw [obIds_cells]
  intro x hx
  simp only [rL,List.mem_cons,List.not_mem_nil,or_false] at hx
  rcases hx with rfl | rfl <;> exact .sc _
theorem fin_r {s : Tx} {rid a : Nat} {st : St} {K : SV → St → Prop} {x y : SV} {ex : St} (hi : ∀ n,Ids n y = True) (hk : K y (st.set rid (.cells (rL s a)))) (hx : norm x = y) : FinM st K x (st.set rid (.cells (rL s a)) ++ ex) := by
  subst hx; exact ⟨_,ex,rfl,(Mod.refl _).set _ _ (objs_r _ _ _),by rw [hi]; trivial,hk⟩
theorem fin_r1 {s : Tx} {rid a : Nat} {st : St} {K : SV → St → Prop} {x y : SV} (hi : ∀ n,Ids n y = True) (hk : K y (st.set rid (.cells (rL s a)))) (hx : norm x = y) : FinM st K x (st.set rid (.cells (rL s a))) := by
  have := fin_r (ex := []) hi hk hx
  rwa [List.append_nil] at this
theorem ba_size (s : Tx) : (ba s).size = s.length := by simp [ba,ByteArray.size]
theorem ba_get {s : Tx} {i : Nat} (h : i < s.length) : (ba s).get! i = s[i] := by
  show s.toArray[i]! = s[i]
  simp [h]
theorem ba_extract (s : Tx) (a b : Nat) : (ba s).extract a b = ba ((s.drop a).take (b - a)) := by
  apply ByteArray.ext
  rw [ByteArray.data_extract]
  apply Array.ext'
  simp [ba,List.extract_eq_take_drop]
theorem span_le (p : UInt8 → Bool) : ∀ l : Tx,spanN p l ≤ l.length
  | [] => Nat.le_refl _
  | c :: r => by
    unfold spanN
    have := span_le p r
    split <;> simp <;> omega
theorem spanN_t {p : UInt8 → Bool} {c : UInt8} {r : Tx} (h : p c = true) : spanN p (c :: r) = spanN p r + 1 := by rw [spanN,if_pos h]
theorem spanN_f {p : UInt8 → Bool} {c : UInt8} {r : Tx} (h : p c = false) : spanN p (c :: r) = 0 := by rw [spanN,if_neg (by rw [h]; decide)]
theorem drop_at {s : Tx} {a : Nat} (h : a < s.length) : s.drop a = s[a] :: s.drop (a + 1) := List.drop_eq_getElem_cons h
end Go.AL
namespace Go.Proofs
open Go Go.AL
def HB (g : FuncId) (pr : UInt8 → Bool) : Prop := ∀ (c : UInt8) (K : SV → St → Prop) (st : St),K (.sc (.bool (pr c))) st → ACalls Tryz.prog g [.sc (.int .u8 c.toNat)] K st
theorem run_c {s : Tx} (hs : s.length ≤ 1000000) {rid a : Nat} (ha : a ≤ s.length) {g : FuncId} {pr : UInt8 → Bool} (hg : HB g pr) (hb : aBody Tryz.prog g = true) {K : SV → St → Prop} {st : St} (hr : RAt s rid a st)
    (hk : K (.sc (.string (ba ((s.drop a).take (spanN pr (s.drop a)))))) (st.set rid (.cells (rL s (a + spanN pr (s.drop a)))))) : ACalls Tryz.prog 69 [.ptr rid 0,.func (.func g) [] []] K st := by
  refine acalls_go_mod [] Tryz.func69 rfl Tryz.results69 Tryz.ntmps69 ?_
  have y := rfacts hr
  simp only [go_sem,y.1,y.2.1,y.2.2]
  refine awp_rounds [] (fun m env st' => ∃ b : Nat,m + b = s.length ∧ a ≤ b ∧ b + spanN pr (s.drop b) = a + spanN pr (s.drop a) ∧ env = [.ptr rid 0,.func (.func g) [] [],.any,.any,.any,.sc (.int .i64 a),.any,.any,.any,.any,.any,.any,.any,.any,.any,.any,.any,.any,.any,.any,.any,.any,.any,.any,.any,.any,.any,.any,.any,.any,.any,.any,.any,.any,.any,.any,.any,.any,.any,.any,.any,.any,.any,.any,.any,.any,.any,.any,.any,.any] ∧ st' = st.set rid (.cells (rL s b))) (n := s.length - a) ?_ ⟨a,by omega,Nat.le_refl _,rfl,rfl,(rset_id hr).symm⟩ ?_
  · repeat (first | exact leEnv_nil | refine leEnv_any _ ?_ | refine leEnv_same _ ?_ | refine leEnv_norm _ ?_)
  rintro m env st' ⟨b,hm,hab,hz,rfl,rfl⟩
  have y := rfacts (rat_set (b := b) hr)
  by_cases hlt : b < s.length
  · have c1 : decide ((b : Int) < (s.length : Int)) = true := by simp; omega
    rw [drop_at hlt] at hz
    have hgt := ba_get hlt
    have hw : IntKind.i64.wrap ((b : Int) + 1) = ((b + 1 : Nat) : Int) := by rw [IntWalk.i64_in _ (by omega)]; rfl
    simp only [go_sem]
    refine awp_draw [] Tryz.mixed rfl ?_
    simp only [go_sem,y.1,y.2.1,y.2.2,ba_size,c1]
    refine ⟨by omega,?_⟩
    rw [dg_eff]
    refine ⟨by simp only [go_sem],.sc (.bool (pr s[b])),fun _ => ?_,?_⟩
    · simp only [go_sem,hgt,hb]
      exact hg _ _ _ ⟨⟨[],by simp⟩,.sc _,.inl rfl⟩
    simp only [go_sem,hw]
    refine ⟨fun hc => ?_,fun hc => ?_⟩
    · refine ⟨m - 1,_,by omega,?_,b + 1,by omega,by omega,?_,rfl,rfl⟩
      · repeat (first | exact leEnv_nil | refine leEnv_any _ ?_ | refine leEnv_same _ ?_ | refine leEnv_norm _ ?_)
      · rw [← hz,spanN_t hc]; omega
    · have hz' : b = a + spanN pr (s.drop a) := by rw [← hz,spanN_f hc]; rfl
      refine awp_draw [] Tryz.mixed rfl ?_
      simp only [go_sem,y.1,y.2.1,y.2.2,ba_size,ba_extract]
      refine ⟨by omega,?_⟩
      rw [show b - a = spanN pr (s.drop a) by omega]
      rw [← hz'] at hk
      exact fin_r1 (ids_scv _) hk rfl
  · have c1 : decide ((b : Int) < (s.length : Int)) = false := by simp; omega
    simp only [go_sem]
    refine awp_draw [] Tryz.mixed rfl ?_
    simp only [go_sem,y.1,y.2.1,y.2.2,ba_size,c1]
    rw [dg_eff]
    refine ⟨by simp only [go_sem],.sc (.bool false),(fun h => by cases h),?_⟩
    have hz' : b = a + spanN pr (s.drop a) := by
      rw [← hz,List.drop_of_length_le (by omega)]; rfl
    refine awp_draw [] Tryz.mixed rfl ?_
    simp only [go_sem,y.1,y.2.1,y.2.2,ba_size,ba_extract]
    refine ⟨by omega,?_⟩
    rw [show b - a = spanN pr (s.drop a) by omega]
    rw [← hz'] at hk
    exact fin_r1 (ids_scv _) hk rfl
theorem digits_c : HB 52 digitB := fun _ _ _ h => digit_c h
theorem inners_c : HB 72 innerB := fun _ _ _ h => inner_c h
end Go.Proofs
namespace Go.AL
theorem skip_blank {c : UInt8} {r : Tx} (h : c = 32 ∨ c = 9 ∨ c = 10) : skipN false (c :: r) = skipN false r + 1 := by rw [skipN,if_pos h]
theorem skip_stop {c : UInt8} {r : Tx} (h : ¬ (c = 32 ∨ c = 9 ∨ c = 10)) (h2 : ¬ c = 35) : skipN false (c :: r) = 0 := by rw [skipN,if_neg h,if_neg h2]
theorem skip_in : ∀ r : Tx,skipN true r = (if Lib.indexByte r 10 < 0 then r.length else (Lib.indexByte r 10).toNat + skipN false (r.drop (Lib.indexByte r 10).toNat))
  | [] => rfl
  | c :: r => by
    have ih := skip_in r
    have hge := Lib.indexByte_ge r 10
    rw [show skipN true (c :: r) = if c = 10 then skipN false r + 1 else skipN true r + 1 from rfl,show Lib.indexByte (c :: r) 10 = if c == 10 then 0 else if Lib.indexByte r 10 == -1 then -1 else Lib.indexByte r 10 + 1 by rw [Lib.indexByte]]
    by_cases hc : c = 10
    · subst hc
      simp [skip_blank]
    · have hb : (c == 10) = false := by simp [hc]
      rw [if_neg hc,ih]
      simp only [hb,Bool.false_eq_true,if_false]
      by_cases h1 : Lib.indexByte r 10 < 0
      · have h2 : Lib.indexByte r 10 = -1 := by omega
        simp [h2]
      · have h2 : ¬ Lib.indexByte r 10 = -1 := by omega
        have h3 : (Lib.indexByte r 10 + 1).toNat = (Lib.indexByte r 10).toNat + 1 := by omega
        have h4 : ¬ Lib.indexByte r 10 + 1 < 0 := by omega
        simp only [beq_iff_eq,h2,h1,h3,h4,if_false,List.drop_succ_cons]
        omega
theorem skip_hash {r : Tx} : skipN false (35 :: r) = (if Lib.indexByte (35 :: r) 10 < 0 then r.length + 1 else (Lib.indexByte (35 :: r) 10).toNat + skipN false ((35 :: r).drop (Lib.indexByte (35 :: r) 10).toNat)) := by
  have hge := Lib.indexByte_ge r 10
  have e : Lib.indexByte (35 :: r) 10 = if Lib.indexByte r 10 == -1 then -1 else Lib.indexByte r 10 + 1 := by
    rw [Lib.indexByte]; rfl
  rw [show skipN false (35 :: r) = skipN true r + 1 by rw [skipN,if_neg (by decide),if_pos rfl],skip_in,e]
  by_cases h1 : Lib.indexByte r 10 < 0
  · have h2 : Lib.indexByte r 10 = -1 := by omega
    simp [h2]
  · have h2 : ¬ Lib.indexByte r 10 = -1 := by omega
    have h3 : (Lib.indexByte r 10 + 1).toNat = (Lib.indexByte r 10).toNat + 1 := by omega
    have h4 : ¬ Lib.indexByte r 10 + 1 < 0 := by omega
    simp only [beq_iff_eq,h2,h1,h3,h4,if_false,List.drop_succ_cons]
    omega
theorem skip_le : ∀ (b : Bool) (l : Tx),skipN b l ≤ l.length
  | b,[] => by cases b <;> exact Nat.le_refl _
  | true,c :: r => by
    have h1 := skip_le false r
    have h2 := skip_le true r
    unfold skipN
    split <;> simp <;> omega
  | false,c :: r => by
    have h1 := skip_le false r
    have h2 := skip_le true r
    unfold skipN
    split
    · simp; omega
    · split <;> simp <;> omega
theorem index_lt {l : Tx} {c : UInt8} : Lib.indexByte l c < l.length := by
  induction l with
  | nil => show (-1 : Int) < 0; decide
  | cons b l ih =>
    unfold Lib.indexByte
    simp only [List.length_cons]
    split
    · omega
    · split
      · omega
      · omega
end Go.AL
namespace Go.AL
theorem take_rest (s : Tx) (b : Nat) : (s.drop b).take (s.length - b) = s.drop b := List.take_of_length_le (by simp)
end Go.AL
namespace Go.Proofs
open Go Go.AL
theorem skip_c {s : Tx} (hs : s.length ≤ 1000000) {rid a : Nat} (ha : a ≤ s.length) {K : SV → St → Prop} {st : St} (hr : RAt s rid a st)
    (hk : ∀ x,K x (st.set rid (.cells (rL s (a + skipN false (s.drop a)))))) : ACalls Tryz.prog 50 [.ptr rid 0] K st := by
  refine acalls_go_mod [] Tryz.func50 rfl Tryz.results50 Tryz.ntmps50 ?_
  refine awp_scope (awp_c (M := []) ?_)
  simp only [go_sem]
  refine awp_rounds [] (fun m env st' => ∃ b : Nat,m + b = s.length ∧ b + skipN false (s.drop b) = a + skipN false (s.drop a) ∧ env = [.ptr rid 0,.any,.any,.any,.any,.any,.any,.any,.any,.any,.any,.any,.any,.any,.any,.any,.any,.any,.any,.any,.any,.any,.any,.any,.any,.any,.any,.any,.any,.any,.any,.any,.any,.any,.any,.any,.any,.any,.any,.any,.any,.any,.any,.any,.any,.any,.any,.any,.any,.any,.any,.any,.any,.any,.any,.any,.any,.any,.any,.any,.any,.any,.any,.any,.any] ∧ st' = st.set rid (.cells (rL s b))) (n := s.length - a) ?_ ⟨a,by omega,rfl,rfl,(rset_id hr).symm⟩ ?_
  · repeat (first | exact leEnv_nil | refine leEnv_any _ ?_ | refine leEnv_same _ ?_ | refine leEnv_norm _ ?_)
  rintro m env st' ⟨b,hm,hz,rfl,rfl⟩
  have y := rfacts (rat_set (b := b) hr)
  by_cases hlt : b < s.length
  · have c1 : decide ((b : Int) < (s.length : Int)) = true := by simp; omega
    have hgt := ba_get hlt
    rw [drop_at hlt] at hz
    have e1 := u8_eq s[b] 32 32 rfl
    have e2 := u8_eq s[b] 9 9 rfl
    have e3 := u8_eq s[b] 10 10 rfl
    have e4 := u8_eq s[b] 35 35 rfl
    have hw : IntKind.i64.wrap ((b : Int) + 1) = ((b + 1 : Nat) : Int) := by rw [IntWalk.i64_in _ (by omega)]; rfl
    by_cases hbl : s[b] = 32 ∨ s[b] = 9 ∨ s[b] = 10
    · rw [skip_blank hbl] at hz
      by_cases k1 : s[b] = 32
      · have f1 : (s[b] == 32) = true := by simp [k1]
        simp only [go_sem]
        refine awp_draw [] Tryz.mixed rfl ?_
        simp only [go_sem,y.1,y.2.1,y.2.2,ba_size,c1]
        refine awp_draw [] Tryz.mixed rfl ?_
        simp only [go_sem,y.1,y.2.1,y.2.2,ba_size,c1]
        refine ⟨by omega,?_⟩
        simp only [go_sem,hgt,e1,f1,y.1,y.2.1,y.2.2,hw]
        refine ⟨m - 1,_,by omega,?_,b + 1,by omega,by omega,rfl,rfl⟩
        repeat (first | exact leEnv_nil | refine leEnv_any _ ?_ | refine leEnv_same _ ?_ | refine leEnv_norm _ ?_)
      · have f1 : (s[b] == 32) = false := by simp [k1]
        by_cases k2 : s[b] = 9
        · have f2 : (s[b] == 9) = true := by simp [k2]
          simp only [go_sem]
          refine awp_draw [] Tryz.mixed rfl ?_
          simp only [go_sem,y.1,y.2.1,y.2.2,ba_size,c1]
          refine awp_draw [] Tryz.mixed rfl ?_
          simp only [go_sem,y.1,y.2.1,y.2.2,ba_size,c1]
          refine ⟨by omega,?_⟩
          simp only [go_sem,hgt,e1,e2,f1,f2,y.1,y.2.1,y.2.2,hw]
          refine ⟨m - 1,_,by omega,?_,b + 1,by omega,by omega,rfl,rfl⟩
          repeat (first | exact leEnv_nil | refine leEnv_any _ ?_ | refine leEnv_same _ ?_ | refine leEnv_norm _ ?_)
        · have f2 : (s[b] == 9) = false := by simp [k2]
          have f3 : (s[b] == 10) = true := by
            rcases hbl with h | h | h
            · exact absurd h k1
            · exact absurd h k2
            · simp [h]
          simp only [go_sem]
          refine awp_draw [] Tryz.mixed rfl ?_
          simp only [go_sem,y.1,y.2.1,y.2.2,ba_size,c1]
          refine awp_draw [] Tryz.mixed rfl ?_
          simp only [go_sem,y.1,y.2.1,y.2.2,ba_size,c1]
          refine ⟨by omega,?_⟩
          simp only [go_sem,hgt,e1,e2,e3,f1,f2,f3,y.1,y.2.1,y.2.2,hw]
          refine ⟨m - 1,_,by omega,?_,b + 1,by omega,by omega,rfl,rfl⟩
          repeat (first | exact leEnv_nil | refine leEnv_any _ ?_ | refine leEnv_same _ ?_ | refine leEnv_norm _ ?_)
    · have f1 : (s[b] == 32) = false := by simp; exact fun h => hbl (.inl h)
      have f2 : (s[b] == 9) = false := by simp; exact fun h => hbl (.inr (.inl h))
      have f3 : (s[b] == 10) = false := by simp; exact fun h => hbl (.inr (.inr h))
      by_cases k4 : s[b] = 35
      · have f4 : (s[b] == 35) = true := by simp [k4]
        have hd : s.drop b = 35 :: s.drop (b + 1) := by rw [drop_at hlt,k4]
        rw [k4,skip_hash,← hd] at hz
        have hge := Lib.indexByte_ge (s.drop b) 10
        have hlt2 := index_lt (l := s.drop b) (c := 10)
        have hpos : Lib.indexByte (s.drop b) 10 ≠ 0 := by
          rw [hd,Lib.indexByte,if_neg (by decide)]
          have := Lib.indexByte_ge (s.drop (b + 1)) 10
          split
          · decide
          · rename_i h; simp at h; omega
        simp only [List.length_drop] at hz hlt2
        by_cases h0 : Lib.indexByte (s.drop b) 10 < 0
        · have c2 : decide (Lib.indexByte (s.drop b) 10 < 0) = true := by simp [h0]
          rw [if_pos h0] at hz
          simp only [go_sem]
          refine awp_draw [] Tryz.mixed rfl ?_
          simp only [go_sem,y.1,y.2.1,y.2.2,ba_size,c1]
          refine awp_draw [] Tryz.mixed rfl ?_
          simp only [go_sem,y.1,y.2.1,y.2.2,ba_size,c1]
          refine ⟨by omega,?_⟩
          simp only [go_sem,hgt,e1,e2,e3,e4,f1,f2,f3,f4,y.1,y.2.1,y.2.2,hw]
          refine awp_draw [] Tryz.mixed rfl ?_
          simp only [go_sem,y.1,y.2.1,y.2.2,ba_size,ba_extract,take_rest]
          refine ⟨by omega,?_⟩
          rw [dk_eff]
          refine ⟨.sc (.int .i64 (Lib.indexByte (s.drop b) 10)),?_,?_⟩
          · simp only [go_sem]
            exact indexByte_c (c := 10) ⟨⟨[],by simp⟩,.sc _,.inl rfl⟩
          have hw2 : IntKind.i64.wrap ((s.length : Int) - (b : Int)) = ((s.length - b : Nat) : Int) := by rw [IntWalk.i64_in _ (by omega)]; omega
          have hw3 : IntKind.i64.wrap ((b : Int) + ((s.length - b : Nat) : Int)) = ((s.length : Nat) : Int) := by rw [IntWalk.i64_in _ (by omega)]; omega
          simp only [go_sem,c2]
          refine awp_draw [] Tryz.mixed rfl ?_
          simp only [go_sem,y.1,y.2.1,y.2.2,ba_size,hw2,hw3]
          refine ⟨0,_,by omega,?_,s.length,by omega,by rw [List.drop_of_length_le (Nat.le_refl _)]; show s.length + 0 = _; omega,rfl,rfl⟩
          repeat (first | exact leEnv_nil | refine leEnv_any _ ?_ | refine leEnv_same _ ?_ | refine leEnv_norm _ ?_)
        · have c2 : decide (Lib.indexByte (s.drop b) 10 < 0) = false := by simp [h0]
          rw [if_neg h0,List.drop_drop] at hz
          simp only [go_sem]
          refine awp_draw [] Tryz.mixed rfl ?_
          simp only [go_sem,y.1,y.2.1,y.2.2,ba_size,c1]
          refine awp_draw [] Tryz.mixed rfl ?_
          simp only [go_sem,y.1,y.2.1,y.2.2,ba_size,c1]
          refine ⟨by omega,?_⟩
          simp only [go_sem,hgt,e1,e2,e3,e4,f1,f2,f3,f4,y.1,y.2.1,y.2.2,hw]
          refine awp_draw [] Tryz.mixed rfl ?_
          simp only [go_sem,y.1,y.2.1,y.2.2,ba_size,ba_extract,take_rest]
          refine ⟨by omega,?_⟩
          rw [dk_eff]
          refine ⟨.sc (.int .i64 (Lib.indexByte (s.drop b) 10)),?_,?_⟩
          · simp only [go_sem]
            exact indexByte_c (c := 10) ⟨⟨[],by simp⟩,.sc _,.inl rfl⟩
          have hw4 : IntKind.i64.wrap ((b : Int) + Lib.indexByte (s.drop b) 10) = ((b + (Lib.indexByte (s.drop b) 10).toNat : Nat) : Int) := by rw [IntWalk.i64_in _ (by omega)]; omega
          simp only [go_sem,c2,y.1,y.2.1,y.2.2,hw4]
          refine ⟨m - (Lib.indexByte (s.drop b) 10).toNat,_,by omega,?_,b + (Lib.indexByte (s.drop b) 10).toNat,by omega,by omega,rfl,rfl⟩
          repeat (first | exact leEnv_nil | refine leEnv_any _ ?_ | refine leEnv_same _ ?_ | refine leEnv_norm _ ?_)
      · have f4 : (s[b] == 35) = false := by simp [k4]
        rw [skip_stop hbl k4] at hz
        simp only [go_sem]
        refine awp_draw [] Tryz.mixed rfl ?_
        simp only [go_sem,y.1,y.2.1,y.2.2,ba_size,c1]
        refine awp_draw [] Tryz.mixed rfl ?_
        simp only [go_sem,y.1,y.2.1,y.2.2,ba_size,c1]
        refine ⟨by omega,?_⟩
        simp only [go_sem,hgt,e1,e2,e3,e4,f1,f2,f3,f4,y.1,y.2.1,y.2.2]
        rw [← hz] at hk
        exact fin_r1 ids_none (hk _) rfl
  · have c1 : decide ((b : Int) < (s.length : Int)) = false := by simp; omega
    rw [List.drop_of_length_le (show s.length ≤ b by omega)] at hz
    simp only [go_sem]
    refine awp_draw [] Tryz.mixed rfl ?_
    simp only [go_sem,y.1,y.2.1,y.2.2,ba_size,c1]
    rw [← hz] at hk
    exact fin_r1 ids_none (hk _) rfl
end Go.Proofs
namespace Go.AL
def GAt (gid : Nat) (m : Int) (st : St) : Prop := st[gid]? = some (.glob 0 (.int .i64 m))
theorem ba_app (a b : Tx) : ba a ++ ba b = ba (a ++ b) := by
  apply ByteArray.ext
  rw [ByteArray.data_append]
  apply Array.ext'
  simp [ba]
theorem wrap_ba (s : Tx) : (⟨#[32]⟩ ++ ba s ++ ⟨#[32]⟩ : ByteArray) = ba (32 :: (s ++ [32])) := by
  rw [show (⟨#[32]⟩ : ByteArray) = ba [32] from rfl,ba_app,ba_app]; rfl
theorem gat_app {gid : Nat} {m : Int} {st ex : St} (h : GAt gid m st) : GAt gid m (st ++ ex) := get_app h ex
end Go.AL
namespace Go.Proofs
open Go Go.AL
theorem key_c {gid : Nat} {m : Int} {s : Tx} (hs : s.length ≤ 1000) (h1 : s ≠ []) (hb : ∀ c ∈ s,c ≠ 32) {K : SV → St → Prop} {st : St} (hg : GAt gid m st) (hk : K (.sc (.bool (decide (s ∈ keysL)))) st) : ACalls Tryz.prog 73 [.sc (.string (ba s))] K st := by
  refine acalls_go_pure [] Tryz.func73 rfl Tryz.results73 Tryz.ntmps73 ?_
  have c1 : (s == []) = false := by simp [h1]
  simp only [go_sem,c1]
  refine contains_s (p := [32]) rfl hg (by omega) ?_
  rw [no_blank s hb]
  simp only [go_sem,c1]
  refine ⟨by simp; omega,by simp; omega,?_⟩
  rw [wrap_ba]
  refine contains_s (s := keysText) (p := 32 :: (s ++ [32])) rfl hg (by decide) ?_
  rw [keys_ok s hb]
  simp only [go_sem,c1]
  exact fin_pure1 (ids_scv _ _) hk
def TkAt (tid : Nat) (t : Tk) (st : St) : Prop := st[tid]? = some (.cells [.sc (.int .i64 t.kind),.sc (.string (ba t.text)),.sc (.int .i64 t.num),.sc (.int .i64 t.pos)])
def tkL (t : Tk) : List SV := [.sc (.int .i64 t.kind),.sc (.string (ba t.text)),.sc (.int .i64 t.num),.sc (.int .i64 t.pos)]
theorem objs_t (n : Nat) (t : Tk) : ObIds n (.cells (tkL t)) := by
  rw [obIds_cells]
  intro x hx
  simp only [tkL,List.mem_cons,List.not_mem_nil,or_false] at hx
  rcases hx with rfl | rfl | rfl | rfl <;> exact .sc _
def st2 (st : St) (rid tid : Nat) (s : Tx) (a : Nat) (t : Tk) : St := (st.set tid (.cells (tkL t))).set rid (.cells (rL s a))
theorem rat_ne {s : Tx} {rid tid a : Nat} (hne : rid ≠ tid) {X : Ob} {st : St} (h : RAt s rid a st) : RAt s rid a (st.set tid X) := by
  unfold RAt; rw [List.getElem?_set_ne (fun e => hne e.symm)]; exact h
theorem tat_ne {t : Tk} {rid tid : Nat} (hne : rid ≠ tid) {X : Ob} {st : St} (h : TkAt tid t st) : TkAt tid t (st.set rid X) := by
  unfold TkAt; rw [List.getElem?_set_ne hne]; exact h
theorem fin_2 {s : Tx} {rid tid a : Nat} {t : Tk} {st : St} {K : SV → St → Prop} {x y : SV} (hi : ∀ n,Ids n y = True) (hk : K y (st2 st rid tid s a t)) (hx : norm x = y) : FinM st K x ((st.set tid (.cells (tkL t))).set rid (.cells (rL s a))) := by
  subst hx
  exact ⟨_,[],(List.append_nil _).symm,((Mod.refl _).set _ _ (objs_t _ _)).set _ _ (objs_r _ _ _),by rw [hi]; trivial,hk⟩
theorem prefix2 {s : Tx} {a : Nat} (h : Lib.hasPrefix (s.drop a) [45,62] = true) : a + 2 ≤ s.length := by
  unfold Lib.hasPrefix at h
  have := (List.isPrefixOf_iff_prefix.1 h).length_le
  simp at this; omega
theorem odd_c {rid tid : Nat} {K : SV → St → Prop} {st : St} (hk : K (.sc (.int .i64 10)) st) : ACalls Tryz.prog 51 [.ptr rid 0,.ptr tid 0] K st := by
  refine acalls_go_pure [] Tryz.func51 rfl Tryz.results51 Tryz.ntmps51 ?_
  simp only [go_sem]
  exact fin_pure1 (ids_scv _ _) hk
theorem sign_c {s : Tx} (hs : s.length ≤ 1000000) {rid tid a : Nat} (hne : rid ≠ tid) (ha : a < s.length) {t : Tk} {K : SV → St → Prop} {st : St} (hr : RAt s rid a st) (ht : TkAt tid t st) (n : Nat) (hn : n = if Lib.hasPrefix (s.drop a) [45,62] then 2 else 1)
    (hk : K (.sc (.int .i64 0)) (st2 st rid tid s (a + n) ⟨5,(s.drop a).take n,t.num,t.pos⟩)) : ACalls Tryz.prog 59 [.ptr rid 0,.ptr tid 0] K st := by
  refine acalls_go_mod [] Tryz.func59 rfl Tryz.results59 Tryz.ntmps59 ?_
  have y := rfacts hr
  have z := cells_facts ht
  cases hb : Lib.hasPrefix (s.drop a) [45,62] with
  | true =>
    rw [hb] at hn
    simp only [if_true] at hn
    subst hn
    simp only [go_sem]
    refine awp_draw [] Tryz.mixed rfl ?_
    simp only [go_sem,y.1,y.2.1,y.2.2,ba_size,ba_extract,take_rest]
    refine ⟨by omega,?_⟩
    rw [dk_eff]
    refine ⟨.sc (.bool true),?_,?_⟩
    · simp only [go_sem]
      refine hasPrefix_c (p := [45,62]) ?_
      rw [hb]
      exact ⟨⟨[],by simp⟩,.sc _,.inl rfl⟩
    have hl2 := prefix2 hb
    simp only [go_sem]
    have hw : IntKind.i64.wrap ((a : Int) + 2) = ((a + 2 : Nat) : Int) := by rw [IntWalk.i64_in _ (by omega)]; rfl
    have q := fun X => rfacts (rat_ne hne (X := X) hr)
    have q1 := fun X => (q X).1
    have q2 := fun X => (q X).2.1
    have q3 := fun X => (q X).2.2
    refine awp_drawW [] [(0,[]),(0,[22]),(0,[]),(0,[]),(0,[]),(0,[]),(0,[]),(0,[]),(0,[]),(0,[]),(0,[]),(0,[]),(0,[]),(0,[]),(0,[22]),(0,[22]),(0,[22]),(0,[]),(0,[]),(1,[22]),(0,[]),(0,[]),(1,[23])] Tryz.mixed rfl ?_
    simp only [go_sem,drawW_n,drawW_0,drawW_1,drawW_2,drawW_3,pend_n,pend_c,headD_c,isStore_s,y.1,y.2.1,y.2.2,z.1,z.2.1,z.2.2,q1,q2,q3,ba_size,ba_extract,hw]
    refine ⟨⟨by omega,by omega⟩,⟨by omega,by omega⟩,?_⟩
    rw [show a + 2 - a = 2 by omega]
    exact fin_2 (ids_scv _) hk rfl
  | false =>
    rw [hb] at hn
    simp only [Bool.false_eq_true,if_false] at hn
    subst hn
    simp only [go_sem]
    refine awp_draw [] Tryz.mixed rfl ?_
    simp only [go_sem,y.1,y.2.1,y.2.2,ba_size,ba_extract,take_rest]
    refine ⟨by omega,?_⟩
    rw [dk_eff]
    refine ⟨.sc (.bool false),?_,?_⟩
    · simp only [go_sem]
      refine hasPrefix_c (p := [45,62]) ?_
      rw [hb]
      exact ⟨⟨[],by simp⟩,.sc _,.inl rfl⟩
    simp only [go_sem]
    have hw : IntKind.i64.wrap ((a : Int) + 1) = ((a + 1 : Nat) : Int) := by rw [IntWalk.i64_in _ (by omega)]; rfl
    have q := fun X => rfacts (rat_ne hne (X := X) hr)
    have q1 := fun X => (q X).1
    have q2 := fun X => (q X).2.1
    have q3 := fun X => (q X).2.2
    refine awp_drawW [] [(0,[]),(0,[22]),(0,[]),(0,[]),(0,[]),(0,[]),(0,[]),(0,[]),(0,[]),(0,[]),(0,[]),(0,[]),(0,[]),(0,[]),(0,[22]),(0,[22]),(0,[22]),(0,[]),(0,[]),(1,[22]),(0,[]),(0,[]),(1,[23])] Tryz.mixed rfl ?_
    simp only [go_sem,drawW_n,drawW_0,drawW_1,drawW_2,drawW_3,pend_n,pend_c,headD_c,isStore_s,y.1,y.2.1,y.2.2,z.1,z.2.1,z.2.2,q1,q2,q3,ba_size,ba_extract,hw]
    refine ⟨⟨by omega,by omega⟩,⟨by omega,by omega⟩,?_⟩
    rw [show a + 1 - a = 1 by omega]
    exact fin_2 (ids_scv _) hk rfl
end Go.Proofs
namespace Go.AL
def nameF (w : Tx) (t : Tk) : Int × Tk :=
  if 16 < w.length then (12,⟨t.kind,w,t.num,t.pos⟩) else if largeB (w.headD 0) then (0,⟨4,w,t.num,t.pos⟩) else if w ∈ keysL then (0,⟨6,w,t.num,t.pos⟩) else (0,⟨3,w,t.num,t.pos⟩)
theorem span_take (p : UInt8 → Bool) (l : Tx) : (l.take (spanN p l)).length = spanN p l := by
  rw [List.length_take]; have := span_le p l; omega
theorem ba_hd {w : Tx} (h : w ≠ []) : (ba w).get! 0 = w.headD 0 := by
  cases w with
  | nil => exact absurd rfl h
  | cons c r => rfl
end Go.AL
namespace Go.Proofs
open Go Go.AL
theorem run_c2 {s : Tx} (hs : s.length ≤ 1000000) {rid a : Nat} (ha : a ≤ s.length) {g : FuncId} {pr : UInt8 → Bool} (hg : HB g pr) (hb : aBody Tryz.prog g = true) {K : SV → St → Prop} {st : St} (hr : RAt s rid a st) {z : Nat} {w : Tx} (hz : spanN pr (s.drop a) = z) (hw : (s.drop a).take z = w)
    (hk : K (.sc (.string (ba w))) (st.set rid (.cells (rL s (a + z))))) : ACalls Tryz.prog 69 [.ptr rid 0,.func (.func g) [] []] K st := by
  subst hz; subst hw; exact run_c hs ha hg hb hr hk
theorem fin_2c {s : Tx} {rid tid a : Nat} {t : Tk} (hne : rid ≠ tid) {st : St} {K : SV → St → Prop} {x y : SV} (hi : ∀ n,Ids n y = True) (hk : K y (st2 st rid tid s a t)) (hx : norm x = y) : FinM st K x ((st.set rid (.cells (rL s a))).set tid (.cells (tkL t))) := by
  rw [List.set_comm _ _ hne]; exact fin_2 hi hk hx
theorem name_c {s : Tx} (hs : s.length ≤ 1000000) {rid tid gid a : Nat} {m : Int} (hne : rid ≠ tid) (hgr : gid ≠ rid) (hgt : gid ≠ tid) (ha : a < s.length) (hin : innerB s[a] = true) {t : Tk} {K : SV → St → Prop} {st : St} (hg : GAt gid m st) (hr : RAt s rid a st) (ht : TkAt tid t st)
    (hk : K (.sc (.int .i64 (nameF ((s.drop a).take (spanN innerB (s.drop a))) t).1)) (st2 st rid tid s (a + spanN innerB (s.drop a)) (nameF ((s.drop a).take (spanN innerB (s.drop a))) t).2)) : ACalls Tryz.prog 57 [.ptr rid 0,.ptr tid 0] K st := by
  refine acalls_go_mod [] Tryz.func57 rfl Tryz.results57 Tryz.ntmps57 ?_
  have hlen := span_take innerB (s.drop a)
  have hpos : 0 < spanN innerB (s.drop a) := by rw [drop_at ha,spanN_t hin]; omega
  have hle := span_le innerB (s.drop a)
  have hall := key_word (l := s.drop a)
  have hne0 : (s.drop a).take (spanN innerB (s.drop a)) ≠ [] := by intro e; rw [e] at hlen; simp at hlen; omega
  have hhd := ba_hd hne0
  simp only [List.length_drop] at hle
  generalize hz : spanN innerB (s.drop a) = z at *
  generalize hw : (s.drop a).take z = w at *
  have z1 := cells_facts (tat_ne (rid := rid) (X := .cells (rL s (a + z))) hne ht)
  have g1 : GAt gid m (st.set rid (.cells (rL s (a + z)))) := by unfold GAt; rw [List.getElem?_set_ne (fun e => hgr e.symm)]; exact hg
  have g2 : ∀ X,GAt gid m ((st.set rid (.cells (rL s (a + z)))).set tid X) := fun X => by unfold GAt; rw [List.getElem?_set_ne (fun e => hgt e.symm)]; exact g1
  unfold nameF at hk
  by_cases h16 : 16 < w.length
  · have c1 : decide ((16 : Int) < (w.length : Int)) = true := by simp; omega
    rw [if_pos h16] at hk
    simp only [go_sem]
    refine run_c2 hs (by omega) inners_c rfl hr hz hw ?_
    simp only [go_sem,z1.1,z1.2.1,z1.2.2,ba_size,gt_iff_lt,c1]
    exact fin_2c hne (ids_scv _) hk rfl
  · have c1 : decide ((16 : Int) < (w.length : Int)) = false := by simp; omega
    rw [if_neg h16] at hk
    cases hL : largeB (w.headD 0) with
    | true =>
      rw [hL,if_pos rfl] at hk
      simp only [go_sem]
      refine run_c2 hs (by omega) inners_c rfl hr hz hw ?_
      simp only [go_sem,z1.1,z1.2.1,z1.2.2,ba_size,gt_iff_lt,c1,hhd]
      refine ⟨by omega,?_⟩
      first | (unfold ACallsH; simp only [put_some,put_none',ev_tmp,List.set_cons_succ,List.set_cons_zero,List.getD_cons_succ,List.getD_cons_zero]) | skip
      refine large_c ?_
      simp only [go_sem,hL,z1.1,z1.2.1,z1.2.2]
      exact fin_2c hne (ids_scv _) hk rfl
    | false =>
      rw [hL,if_neg (by decide)] at hk
      by_cases hK : w ∈ keysL
      · have c2 : decide (w ∈ keysL) = true := by simp [hK]
        rw [if_pos hK] at hk
        simp only [go_sem]
        refine run_c2 hs (by omega) inners_c rfl hr hz hw ?_
        simp only [go_sem,z1.1,z1.2.1,z1.2.2,ba_size,gt_iff_lt,c1,hhd]
        refine ⟨by omega,?_⟩
        first | (unfold ACallsH; simp only [put_some,put_none',ev_tmp,List.set_cons_succ,List.set_cons_zero,List.getD_cons_succ,List.getD_cons_zero]) | skip
        refine large_c ?_
        simp only [go_sem,hL,z1.1,z1.2.1,z1.2.2]
        first | (unfold ACallsH; simp only [put_some,put_none',ev_tmp,List.set_cons_succ,List.set_cons_zero,List.getD_cons_succ,List.getD_cons_zero]) | skip
        refine key_c (by omega) hne0 (fun c hc => inner_nb (hall c hc)) (g2 _) ?_
        simp only [go_sem,c2,z1.1,z1.2.1,z1.2.2]
        exact fin_2c hne (ids_scv _) hk rfl
      · have c2 : decide (w ∈ keysL) = false := by simp [hK]
        rw [if_neg hK] at hk
        simp only [go_sem]
        refine run_c2 hs (by omega) inners_c rfl hr hz hw ?_
        simp only [go_sem,z1.1,z1.2.1,z1.2.2,ba_size,gt_iff_lt,c1,hhd]
        refine ⟨by omega,?_⟩
        first | (unfold ACallsH; simp only [put_some,put_none',ev_tmp,List.set_cons_succ,List.set_cons_zero,List.getD_cons_succ,List.getD_cons_zero]) | skip
        refine large_c ?_
        simp only [go_sem,hL,z1.1,z1.2.1,z1.2.2]
        first | (unfold ACallsH; simp only [put_some,put_none',ev_tmp,List.set_cons_succ,List.set_cons_zero,List.getD_cons_succ,List.getD_cons_zero]) | skip
        refine key_c (by omega) hne0 (fun c hc => inner_nb (hall c hc)) (g2 _) ?_
        simp only [go_sem,c2,z1.1,z1.2.1,z1.2.2]
        exact fin_2c hne (ids_scv _) hk rfl
end Go.Proofs
