/- The engine: Read's range, told over abstract values. -/
import Derived.Test.YteclbnjpijakbaaW13
import Derived.Test.YteclbnjpijakbaaW15
import Derived.Test.YteclbnjpijakbaaA8
set_option linter.unusedSimpArgs false
set_option linter.unusedVariables false
set_option maxRecDepth 8000
namespace Go.Proofs
open Go Go.AL Go.RowKit

theorem lit73 (t : Array Value) (h : t.size = 73) : t = #[t.getD 0 undef, t.getD 1 undef, t.getD 2 undef, t.getD 3 undef, t.getD 4 undef, t.getD 5 undef, t.getD 6 undef, t.getD 7 undef, t.getD 8 undef, t.getD 9 undef, t.getD 10 undef, t.getD 11 undef, t.getD 12 undef, t.getD 13 undef, t.getD 14 undef, t.getD 15 undef, t.getD 16 undef, t.getD 17 undef, t.getD 18 undef, t.getD 19 undef, t.getD 20 undef, t.getD 21 undef, t.getD 22 undef, t.getD 23 undef, t.getD 24 undef, t.getD 25 undef, t.getD 26 undef, t.getD 27 undef, t.getD 28 undef, t.getD 29 undef, t.getD 30 undef, t.getD 31 undef, t.getD 32 undef, t.getD 33 undef, t.getD 34 undef, t.getD 35 undef, t.getD 36 undef, t.getD 37 undef, t.getD 38 undef, t.getD 39 undef, t.getD 40 undef, t.getD 41 undef, t.getD 42 undef, t.getD 43 undef, t.getD 44 undef, t.getD 45 undef, t.getD 46 undef, t.getD 47 undef, t.getD 48 undef, t.getD 49 undef, t.getD 50 undef, t.getD 51 undef, t.getD 52 undef, t.getD 53 undef, t.getD 54 undef, t.getD 55 undef, t.getD 56 undef, t.getD 57 undef, t.getD 58 undef, t.getD 59 undef, t.getD 60 undef, t.getD 61 undef, t.getD 62 undef, t.getD 63 undef, t.getD 64 undef, t.getD 65 undef, t.getD 66 undef, t.getD 67 undef, t.getD 68 undef, t.getD 69 undef, t.getD 70 undef, t.getD 71 undef, t.getD 72 undef] := by
  have e : t.toList = (List.range 73).map fun i => t.getD i undef := by
    refine List.ext_getElem (by simp [h]) fun i h1 h2 => ?_
    have hi : i < t.size := by simpa using h1
    simp [Array.getD, hi]
  apply Array.toList_inj.1
  rw [e]
  rfl

theorem range_al {fn : Func} {K : SV → St → Prop} {st0 : St} {σ0 : Sig} {w0 : World} {rest : Code} {st : St} {σ : Sig} {w : World} {a : Act} {env : List SV} (i6 i7 pid pver : Nat) (n : Int) (mids : List Nat) (maps : List PMap) (cs : List SV) (x6 x7 : SV)
    (hI : Inv st σ w) (hR : RepEnv st σ w env a.tmps) (hd : a.defers = []) (hX : Ext st0 σ0 w0 st σ w) (hlen : env.length = 73)
    (e5 : env.getD 5 .any = .ref [i64 n]) (e6 : env.getD 6 .any = .ptr i6 0) (e7 : env.getD 7 .any = .ptr i7 0) (e29 : env.getD 29 .any = .func (.func 75) [] [.ref [.arr pid pver mids.length]])
    (h6 : st[i6]? = some (.cells [x6])) (h7 : st[i7]? = some (.cells [x7])) (h67 : i6 ≠ i7)
    (hp : st[pid]? = some (.arr pver 1 cs)) (hle : mids.length ≤ cs.length) (htk : cs.take mids.length = mids.map .mp) (hm : ∀ i, i < mids.length → st[mids.getD i 0]? = some (.map (pmEs (maps.getD i [])))) (h1 : 1 ≤ mids.length) (hk : mids.length ≤ 1000000)
    (hn : (∀ j, j < mids.length → pmGet (maps.getD j []) n = none) → AWp Try.prog rest (RetQ Try.prog fn K) env st)
    (hf : ∀ v j, j < mids.length → pmGet (maps.getD j []) n = some v → (∀ i, j < i → i < mids.length → pmGet (maps.getD i []) n = none) → RetQ Try.prog fn K .ret env ((st.set i6 (.cells [i64 v])).set i7 (.cells [i64 0]))) :
    readRange.wp Try.prog (fun e a' w' => match e with | .normal => rest.wp Try.prog (MPost Try.prog fn K st0 σ0 w0) a' w' | e => MPost Try.prog fn K st0 σ0 w0 e a' w') a w := by
  obtain ⟨t, ds⟩ := a
  simp only at hd hR
  subst hd
  have r5 := hR.get 5
  have r6 := hR.get 6
  have r7 := hR.get 7
  have r29 := hR.get 29
  rw [e5] at r5; rw [e6] at r6; rw [e7] at r7; rw [e29] at r29
  have hsz : t.size = 73 := hR.1.trans hlen
  have hlit := lit73 t hsz
  generalize hv5 : t.getD 5 undef = v5 at r5
  generalize hv6 : t.getD 6 undef = v6 at r6
  generalize hv7 : t.getD 7 undef = v7 at r7
  generalize hv29 : t.getD 29 undef = v29 at r29
  obtain ⟨B6, y6, T6, m6, q6⟩ := hI.cell1 h6
  obtain ⟨B7, y7, T7, m7, q7⟩ := hI.cell1 h7
  have h67' : B6 ≠ B7 := by
    rintro rfl
    exact h67 (hI.inj _ _ _ (lt_of_get h6) (lt_of_get h7) m6 m7)
  have p6 : v6 = .pointer (some ⟨B6, 0, none⟩) := by
    cases r6 with
    | ptr id off b' hkk hb => rw [m6] at hb; cases hb; rfl
  have p7 : v7 = .pointer (some ⟨B7, 0, none⟩) := by
    cases r7 with
    | ptr id off b' hkk hb => rw [m7] at hb; cases hb; rfl
  obtain ⟨B5, o5, p5, c5⟩ : ∃ B5 o5, v5 = .pointer (some ⟨B5, o5, none⟩) ∧ w.cell? ⟨B5, o5, none⟩ = some (.int .i64 n) := by
    cases r5 with
    | ref cells b' o' vals hc hr =>
      refine ⟨b', o', rfl, ?_⟩
      have := (hc 0 (by simp)).1
      have hr0 := rep_sc (hr 0 (by simp))
      rw [hr0] at this
      simpa using this
  obtain ⟨Bs, bo, b, cap, ps, cS, cA, vals, T, μp, hh, hcap⟩ : ∃ Bs bo b cap, v29 = .func (.func 75) #[] #[.pointer (some ⟨Bs, bo, none⟩)] ∧ w.cell? ⟨Bs, bo, none⟩ = some (.slice (some ⟨b, 0, none⟩) mids.length cap) ∧ mids.length ≤ cap ∧
      ∃ vals T, σ.μ pid = some b ∧ w.heap[b]? = some (.cells vals T (0, 0)) ∧ cap ≤ vals.size := by
    cases r29 with
    | func fn first captured vf vc q1 q2 s1 s2 =>
      have hvf : vf = #[] := Array.eq_empty_of_size_eq_zero (by simpa using q1)
      have s0 := s2 0 (by simp)
      simp only [List.getD_cons_zero] at s0
      have hvc : vc = #[vc.getD 0 default] := by
        simp only [List.length_cons, List.length_nil] at q2
        apply Array.ext
        · simpa using q2
        · intro i z1 z2
          have : i = 0 := by simp at z2; omega
          subst this
          simp [Array.getD, z1]
      rw [hvf, hvc]
      generalize vc.getD 0 default = vq at s0
      cases s0 with
      | ref cells b' o' vals' hc hr =>
        have z1 := (hc 0 (by simp)).1
        have z2 := hr 0 (by simp)
        simp only [List.getD_cons_zero] at z2
        generalize vals' 0 = va at z1 z2
        cases z2 with
        | arr _ _ _ v0 z cs' v ho hk' hv hh' =>
          rw [hp] at hk'; cases hk'
          obtain ⟨_, y⟩ := hh' rfl
          rcases y with ⟨_, y2, _⟩ | ⟨bb, cap, vals2, T, y1, rfl, y3, y4, y5⟩
          · omega
          · exact ⟨b', o', bb, cap, rfl, by simpa using z1, y3, vals2, T, y1, y4, by omega⟩
  subst p6 p7 p5 ps
  obtain ⟨k, hkd⟩ : ∃ k, k = mids.length := ⟨_, rfl⟩
  obtain ⟨mid, hmid⟩ : ∃ mid : Nat → Nat, mid = fun j => min j (k - 1) := ⟨_, rfl⟩
  have hml : ∀ j, mid j < mids.length := fun j => by rw [hmid]; simp only; omega
  have hmj : ∀ j, j < mids.length → mid j = j := fun j hj => by rw [hmid]; simp only; omega
  have hμ : ∀ j, ∃ bb, σ.μ (mids.getD (mid j) 0) = some bb := fun j => by
    obtain ⟨bb, _, _, z, _⟩ := hI.maps _ _ (hm _ (hml j))
    exact ⟨bb, z⟩
  have hcells : ∀ j, j < mids.length → w.cell? ⟨b, 0 + j, none⟩ = some (.map (some ((σ.μ (mids.getD (mid j) 0)).getD 0))) := by
    intro j hj
    rcases hI.arrs pid pver 1 cs hp with ⟨z1, _⟩ | ⟨b', vals', T', z1, z2, z3, z4, z5⟩
    · rw [μp] at z1; cases z1
    rw [μp] at z1; cases z1
    rw [hh] at z2; cases z2
    have y1 := z4 j (by omega)
    have y2 : cs.getD j .any = .mp (mids.getD j 0) := by
      have h3 : (cs.take mids.length)[j]? = (mids.map SV.mp)[j]? := by rw [htk]
      rw [List.getElem?_take_of_lt hj, List.getElem?_map, List.getElem?_eq_getElem hj] at h3
      simp [List.getD_eq_getElem?_getD, h3, hj]
    rw [y2] at y1
    have y3 : vals.getD j default = .map (some ((σ.μ (mids.getD (mid j) 0)).getD 0)) := by
      generalize vals.getD j default = vv at y1
      cases y1 with
      | mp _ bb hkk hb => rw [hmj j hj, hb]; rfl
    have y4 : j < vals.size := by omega
    rw [Array.getD_eq_getD_getElem?, Array.getElem?_eq_getElem y4] at y3
    simp only [Option.getD_some] at y3
    simp [World.cell?, hh, y4, y3]
  have hlt : Bs < w.heap.size ∧ b < w.heap.size := by
    refine ⟨?_, lt_of_some hh⟩
    unfold World.cell? at cS
    cases hx : w.heap[Bs]? with
    | none => simp [hx] at cS
    | some o => exact lt_of_some hx
  have hfin : ∀ (D : Nat), MPost Try.prog fn K st0 σ0 w0 = MPost Try.prog fn K st0 σ0 w0 := fun _ => rfl
  rw [hlit, hv5, hv6, hv7, hv29]
  refine range_wp w (fun i => t.getD i undef) B5 o5 B6 B7 Bs bo b cap mids.length (fun j => (σ.μ (mids.getD (mid j) 0)).getD 0) n (fun j => pmGet (maps.getD (mid j) []) n) _ c5 y6 y7 T6 T7 q6 q7 h67' h1 hk cS hlt.1 hlt.2 hcells ?_ ?_ ?_
  · intro j W hB
    have hIW := inv_below hI hB
    obtain ⟨bb, hbb⟩ := hμ j
    have hmm := hm _ (hml j)
    have hg := mapGet_int (P := Try.prog) (n := n) Try.amap92 Try.zeroSV3 (mapAt_eq hmm) (pm_int _)
    rw [pm_get] at hg
    have hrm : Rep st σ W (.mp (mids.getD (mid j) 0)) (.map (some ((σ.μ (mids.getD (mid j) 0)).getD 0))) := by
      rw [hbb]
      exact .mp _ bb ⟨_, hmm⟩ hbb
    obtain ⟨v, z1, z2⟩ := run_lookup hIW hg hrm (.sc (.int .i64 n)) true
    rw [rep_sc z2] at z1
    exact z1
  · intro D W hD hnn hB hmk
    obtain ⟨k1, k2, k3⟩ := lay_mark hI hB hD hmk
    refine wp_mark (hn fun j hj => ?_) k1 ?_ rfl (hX.trans k2) (Nat.le_trans hX.size hD) k3 hmk
    · have := hnn j hj
      rw [hmj j hj] at this
      exact this
    · have := hR.ext k2
      rw [hlit, hv5, hv6, hv7, hv29] at this
      exact this
  · intro D W j v hD hj hv hrest hB hmk
    obtain ⟨g1, g2⟩ := hI.set1 h6 m6 (.int .i64 v)
    have h7' : (st.set i6 (.cells [.sc (.int .i64 v)]))[i7]? = some (.cells [x7]) := by rw [List.getElem?_set_ne h67]; exact h7
    obtain ⟨g3, g4⟩ := g1.set1 h7' m7 (.int .i64 0)
    have hsz2 : ((w.setCell ⟨B6, 0, none⟩ (.int .i64 v)).setCell ⟨B7, 0, none⟩ (.int .i64 0)).heap.size = w.heap.size := by simp [World.setCell]
    obtain ⟨k1, k2, k3⟩ := lay_mark g3 (by rw [hsz2]; exact hB) (by rw [hsz2]; exact hD) hmk
    have hXX := (g2.trans g4).trans k2
    refine ⟨env, _, _, hf v j hj (by rw [hmj j hj] at hv; exact hv) (fun i z1 z2 => by have := hrest i z1 z2; rw [hmj i z2] at this; exact this), k1, ?_, hX.trans hXX, .inr ⟨D, rfl, Nat.le_trans hX.size hD, k3, hmk⟩⟩
    have := hR.ext hXX
    rw [hlit, hv5, hv6, hv7, hv29] at this
    exact this

end Go.Proofs
