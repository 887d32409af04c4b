/- Codes, cores: what the layers 12 to 15 speak of, as data. -/
import Derived.Test.YtammbegfobhflaaGreatA9
import Derived.Lib.Index
namespace Go.AL
structure In where
  op : Int
  a : Int
  b : Int
  deriving DecidableEq
instance : Inhabited In := ⟨⟨0, 0, 0⟩⟩
structure Bn where
  loc : Int
  path : List Int
instance : Inhabited Bn := ⟨⟨0, []⟩⟩
/-- A core (its tree is none). -/
inductive Co where
  | mk (kind number : Int) (text : ByteArray) (kids : List Co) (binds : List (List Bn))
namespace Co
def kind : Co → Int | mk k _ _ _ _ => k
def number : Co → Int | mk _ n _ _ _ => n
def text : Co → ByteArray | mk _ _ t _ _ => t
def kids : Co → List Co | mk _ _ _ ks _ => ks
def binds : Co → List (List Bn) | mk _ _ _ _ b => b
end Co
def noC : Co := .mk 0 0 ⟨#[]⟩ [] []
instance : Inhabited Co := ⟨noC⟩
structure Bd where
  kept : Int
  locals : Int
  stack : Int
  code : List In
instance : Inhabited Bd := ⟨⟨0, 0, 0, []⟩⟩
structure Cd where
  funs : List Bd
  ints : List Int
  texts : List ByteArray
  lets : Int
instance : Inhabited Cd := ⟨⟨[], [], [], 0⟩⟩
/-- A depth and marks (of a kind, with a depth). -/
structure Sta where
  depth : Int
  marks : List (Int × Int)
  deriving DecidableEq
instance : Inhabited Sta := ⟨⟨0, []⟩⟩
structure Fu where
  kept : Int
  locals : Int
  body : Co
instance : Inhabited Fu := ⟨⟨0, 0, noC⟩⟩
end Go.AL
set_option linter.all false
namespace Go.AL
def kidC (c : Co) (i : Nat) : Co := c.kids.getD i noC
/-- What is written: the code, the constants, the texts. -/
structure GS where
  code : List In
  ints : List Int
  texts : List ByteArray
def putG (op a b : Int) (g : GS) : GS := if g.code.length ≤ 400 then { g with code := g.code ++ [⟨op, a, b⟩] } else g
def atG (g : GS) : Nat := g.code.length - 1
/-- An instruction goes to the next place. -/
def hereG (p : Nat) (g : GS) : GS :=
  let i := g.code.getD p default
  { g with code := g.code.set p (if i.op = 18 then ⟨i.op, i.a, g.code.length⟩ else ⟨i.op, g.code.length, i.b⟩) }
def heresG (l : List Nat) (g : GS) : GS := l.foldl (fun g p => hereG p g) g
def intG (n : Int) (g : GS) : Nat × GS := match g.ints.findIdx? (· == n) with
  | some k => (k, g)
  | none => (g.ints.length, { g with ints := g.ints ++ [n] })
def textG (s : ByteArray) (g : GS) : Nat × GS := match g.texts.findIdx? (fun x => x.data.toList == s.data.toList) with
  | some k => (k, g)
  | none => (g.texts.length, { g with texts := g.texts ++ [s] })
def lookL (l : List (Int × Int)) (k : Int) : Int := ((l.find? fun p => p.1 == k).map (·.2)).getD 0
def plainL : List (Int × Int) := [(16, 24), (17, 23), (18, 25), (22, 31), (23, 32), (24, 33), (20, 30), (5, 5)]
def numberedL : List (Int × Int) := [(3, 3), (4, 4), (6, 6), (25, 8)]
def countedL : List (Int × Int) := [(7, 10), (8, 11)]
def plainO (k : Int) : Int := lookL plainL k
def numO (k : Int) : Int := lookL numberedL k
def cntO (k : Int) : Int := lookL countedL k
/-- The place of a sign; below 0: it is none. -/
def signsL : List UInt8 := [43, 45, 42, 47, 37, 61, 60]
def signO (t : ByteArray) : Int := Lib.index signsL t.data.toList
def lookG (loc : Int) (path : List Int) (g : GS) : GS := path.foldl (fun g i => putG 12 i 0 g) (putG 3 loc 0 g)
def bindsG (loc : Int) (l : List Bn) (g : GS) : GS := l.foldl (fun g b => putG 7 b.loc 0 (lookG loc b.path g)) g
def kidsG (f : Co → Bool → GS → GS) (l : List Co) (g : GS) : GS := l.foldl (fun g k => f k false g) g
/-- The rows of a match, from the i-th one on; p: where one goes to the first one. -/
def rowsG (f : Co → Bool → GS → GS) (c : Co) (last : Bool) (p : Option Nat) : Nat → List (List Bn) → List Nat → GS → List Nat × GS
  | _, [], ends, g => (ends, g)
  | i, b :: r, ends, g =>
    let g1 := if i = 0 then (match p with | some q => hereG q g | none => g) else g
    let g2 := f (kidC c (i + 1)) last (bindsG c.number b g1)
    if last = false ∧ r ≠ [] then
      let g3 := putG 16 0 0 g2
      rowsG f c last p (i + 1) r (ends ++ [atG g3]) g3
    else rowsG f c last p (i + 1) r ends g2
def letG (E : Co → Bool → GS → GS) (c : Co) (last : Bool) (g : GS) : GS := E (kidC c 1) last (putG 7 c.number 0 (E (kidC c 0) false g))
def seqG (E : Co → Bool → GS → GS) (c : Co) (last : Bool) (g : GS) : GS :=
  E (kidC c 1) last (if (kidC c 0).kind = 25 then E (kidC c 0) false g else putG 9 0 0 (E (kidC c 0) false g))
def branchG (E : Co → Bool → GS → GS) (c : Co) (last : Bool) (g : GS) : GS :=
  let g2 := putG 17 0 0 (E (kidC c 0) false g)
  let g3 := E (kidC c 1) last g2
  if last then E (kidC c 2) last (hereG (atG g2) g3)
  else
    let g4 := putG 16 0 0 g3
    hereG (atG g4) (E (kidC c 2) last (hereG (atG g2) g4))
def matchG (E : Co → Bool → GS → GS) (c : Co) (last : Bool) (g : GS) : GS :=
  let g1 := putG 7 c.number 0 (E (kidC c 0) false g)
  if 400 < g1.code.length then
    let r := rowsG E c last none 0 c.binds [] g1
    heresG r.1 r.2
  else
    let g2 := putG 16 0 0 g1
    let r := rowsG E c last (some (atG g2)) 0 c.binds [] g2
    heresG r.1 r.2
def callG (E : Co → Bool → GS → GS) (c : Co) (last : Bool) (g : GS) : GS := putG (if last then 14 else 13) 0 0 (kidsG E c.kids g)
def eitherG (E : Co → Bool → GS → GS) (c : Co) (b e : Int) (set : Bool) (g : GS) : GS :=
  let g1 := putG b 0 0 g
  let g3 := putG 16 0 0 (putG e 0 0 (E (kidC c 0) false g1))
  let g4 := hereG (atG g1) g3
  hereG (atG g3) (E (kidC c 1) false (if set then putG 7 c.number 0 g4 else g4))
def restG (E : Co → Bool → GS → GS) (c : Co) (g : GS) : GS :=
  let g1 := kidsG E c.kids g
  if 0 < plainO c.kind then putG (plainO c.kind) 0 0 g1
  else if 0 < numO c.kind then putG (numO c.kind) c.number 0 g1
  else putG (cntO c.kind) c.number c.kids.length g1
def retG (last : Bool) (g : GS) : GS := if last then putG 15 0 0 g else g
def opG (E : Co → Bool → GS → GS) (c : Co) (g : GS) : GS :=
  if c.text.data.toList = [94] then putG 20 0 0 (kidsG E c.kids g) else putG 19 (max (signO c.text) 0) 0 (kidsG E c.kids g)
def expG : Nat → Co → Bool → GS → GS
  | 0, _, _, g => g
  | d + 1, c, last, g =>
    if 400 < g.code.length then g
    else if c.kind = 10 then letG (expG d) c last g
    else if c.kind = 15 then seqG (expG d) c last g
    else if c.kind = 11 then branchG (expG d) c last g
    else if c.kind = 12 then matchG (expG d) c last g
    else if c.kind = 9 then callG (expG d) c last g
    else if c.kind = 1 then retG last (putG 1 (intG c.number g).1 0 (intG c.number g).2)
    else if c.kind = 2 then retG last (putG 2 (textG c.text g).1 0 (textG c.text g).2)
    else if c.kind = 13 then retG last (eitherG (expG d) c 21 22 true g)
    else if c.kind = 21 then retG last (eitherG (expG d) c 28 29 false g)
    else if c.kind = 19 then retG last (putG 27 0 0 (expG d (kidC c 0) false (putG 26 0 0 g)))
    else if c.kind = 14 then retG last (opG (expG d) c g)
    else retG last (restG (expG d) c g)
def apartB (k : Int) : Bool := k == 10 || k == 15 || k == 11 || k == 12 || k == 13 || k == 21 || k == 19
def needsL (f : Co → Int) (apart : Bool) : Nat → List Co → Int → Int
  | _, [], n => n
  | i, k :: r, n => needsL f apart (i + 1) r (max n ((if apart then 0 else (i : Int)) + f k))
def needsG : Nat → Co → Int
  | 0, _ => 1
  | d + 1, c => needsL (needsG d) (apartB c.kind) 0 c.kids 1
/-! The document's. -/
structure GR where
  ints : List Int
  texts : List ByteArray
  many : Bool
def intR (n : Int) (g : GR) : Nat × GR := match g.ints.findIdx? (· == n) with
  | some k => (k, g)
  | none => (g.ints.length, { g with ints := g.ints ++ [n] })
def kidsR (f : Co → Nat → GR → List In × GR) (base : Nat) : List Co → List In → GR → List In × GR
  | [], out, g => (out, g)
  | k :: r, out, g => let (o, g1) := f k (base + out.length) g; kidsR f base r (out ++ o) g1
/-- Of the kinds 1, 14 (+), 15 alone. -/
def expR : Nat → Co → Nat → Bool → GR → List In × GR
  | 0, _, _, _, g => ([], g)
  | d + 1, c, base, last, g0 =>
    let g : GR := if 400 < base then { g0 with many := true } else g0
    if g.many then ([], g)
    else if c.kind = 15 then
      let (out, g1) := expR d (kidC c 0) base false g
      let out := out ++ [⟨9, 0, 0⟩]
      let (o, g2) := expR d (kidC c 1) (base + out.length) last g1
      (out ++ o, g2)
    else if c.kind = 1 then
      let (k, g1) := intR c.number g
      (if last then [⟨1, k, 0⟩, ⟨15, 0, 0⟩] else [⟨1, k, 0⟩], g1)
    else
      let (out, g1) := kidsR (fun k b g => expR d k b false g) base c.kids [] g
      let out := out ++ [⟨19, 0, 0⟩]
      (if last then out ++ [⟨15, 0, 0⟩] else out, g1)
def manyC (kind : Nat) : Nat → Co
  | 0 => .mk 1 0 ⟨#[]⟩ [] []
  | n + 1 => let x : Co := .mk 1 ((n + 1 : Int) * (kind / 2 : Nat)) ⟨#[]⟩ [] []
    if kind = 1 then .mk 14 0 ⟨⟨[43]⟩⟩ [x, manyC kind n] [] else .mk 15 0 ⟨#[]⟩ [x, manyC kind n] []
theorem int_len (n : Int) (g : GS) : (intG n g).2.code = g.code ∧ (intG n g).2.texts = g.texts := by
  unfold intG; split <;> exact ⟨rfl, rfl⟩
/-- What is said of the kinds 1, 14, 15. -/
def inK : Nat → Co → Bool
  | 0, _ => false
  | d + 1, c => c.kind == 1 || (c.kind == 14 && c.text.data.toList == [43] && c.kids.all (inK d)) || (c.kind == 15 && inK d (kidC c 0) && inK d (kidC c 1) && (kidC c 0).kind != 25)
theorem put_ok (op a b : Int) (g : GS) (h : g.code.length ≤ 400) : putG op a b g = ⟨g.code ++ [⟨op, a, b⟩], g.ints, g.texts⟩ := by
  unfold putG; rw [if_pos h]
theorem put_no (op a b : Int) (g : GS) (h : 400 < g.code.length) : putG op a b g = g := by
  unfold putG; rw [if_neg (by omega)]
/-- They go together: as long as there is room the same stands in both. -/
def Tog (base : Nat) (code : List In) (texts : List ByteArray) (g : GS) (out : List In) (r : GR) : Prop :=
  (base + out.length ≤ 400 ∧ r.many = false ∧ g.code = code ++ out ∧ g.ints = r.ints ∧ g.texts = texts) ∨ (400 < g.code.length ∧ (r.many = true ∨ 400 < base + out.length))
theorem Tog.put {base : Nat} {code : List In} {texts : List ByteArray} {g : GS} {out : List In} {r : GR} (hb : code.length = base) (h : Tog base code texts g out r) (op a b : Int) :
    Tog base code texts (putG op a b g) (out ++ [⟨op, a, b⟩]) r := by
  rcases h with ⟨h1, h2, h3, h4, h5⟩ | ⟨h1, h2⟩
  · have hl : g.code.length ≤ 400 := by rw [h3, List.length_append]; omega
    rw [put_ok _ _ _ _ hl]
    by_cases k : base + (out.length + 1) ≤ 400
    · exact .inl ⟨by rw [List.length_append]; exact k, h2, by rw [h3, List.append_assoc], h4, h5⟩
    · refine .inr ⟨?_, .inr ?_⟩
      · simp only [List.length_append, h3, List.length_cons, List.length_nil]; omega
      · simp only [List.length_append, List.length_cons, List.length_nil]; omega
  · rw [put_no _ _ _ _ h1]
    refine .inr ⟨h1, h2.imp id fun h => ?_⟩
    rw [List.length_append]; omega
/-- What a pair of ways through a core does. -/
def Goes (e : Co → Bool → GS → GS) (r : Co → Nat → Bool → GR → List In × GR) (c : Co) : Prop :=
  ∀ (last : Bool) (base : Nat) (code : List In) (texts : List ByteArray) (g : GS) (out : List In) (q : GR), code.length = base → Tog base code texts g out q →
    Tog base code texts (e c last g) (out ++ (r c (base + out.length) last q).1) (r c (base + out.length) last q).2
theorem kids_goes {e : Co → Bool → GS → GS} {r : Co → Nat → Bool → GR → List In × GR} {base : Nat} {code : List In} {texts : List ByteArray} (hb : code.length = base) :
    ∀ (l : List Co), (∀ c ∈ l, Goes e r c) → ∀ (o1 out : List In) (g : GS) (q : GR), Tog base code texts g (o1 ++ out) q →
      Tog base code texts (kidsG e l g) (o1 ++ (kidsR (fun k b g => r k b false g) (base + o1.length) l out q).1) (kidsR (fun k b g => r k b false g) (base + o1.length) l out q).2
  | [], _, o1, out, g, q, h => h
  | c :: l, hc, o1, out, g, q, h => by
    have h1 := hc c (List.mem_cons_self ..) false base code texts g (o1 ++ out) q hb h
    rw [List.length_append, ← Nat.add_assoc, List.append_assoc] at h1
    exact kids_goes hb l (fun x hx => hc x (List.mem_cons_of_mem _ hx)) o1 _ _ _ h1
theorem exp_goes : ∀ (d : Nat) (c : Co), inK d c = true → Goes (expG d) (expR d) c := by
  intro d
  induction d with
  | zero => intro c h; cases h
  | succ d ih =>
    intro c hc last base code texts g out q hb h
    unfold expR
    simp only
    by_cases hbad : 400 < g.code.length
    · have hg : expG (d + 1) c last g = g := by unfold expG; rw [if_pos hbad]
      rw [hg]
      have hq : (if 400 < base + out.length then ({ q with many := true } : GR) else q).many = true := by
        rcases h with ⟨h1, h2, h3, h4, h5⟩ | ⟨h1, h2⟩
        · rw [h3, List.length_append] at hbad; omega
        · by_cases k : 400 < base + out.length
          · rw [if_pos k]
          · rw [if_neg k]; exact h2.resolve_right k
      rw [if_pos hq]
      exact .inr ⟨hbad, .inl hq⟩
    have ⟨h1, h2, h3, h4, h5⟩ : base + out.length ≤ 400 ∧ q.many = false ∧ g.code = code ++ out ∧ g.ints = q.ints ∧ g.texts = texts := h.resolve_right fun k => hbad k.1
    have hq0 : (if 400 < base + out.length then ({ q with many := true } : GR) else q) = q := if_neg (by omega)
    rw [hq0, if_neg (by rw [h2]; exact Bool.false_ne_true)]
    unfold expG
    rw [if_neg hbad]
    unfold inK at hc
    simp only [Bool.or_eq_true, Bool.and_eq_true, beq_iff_eq, bne_iff_ne, ne_eq] at hc
    rcases hc with (hk | ⟨⟨hk, ht⟩, hall⟩) | ⟨⟨⟨hk, h0⟩, h1'⟩, hne⟩
    · simp only [hk, Int.reduceEq, if_false, if_true, retG]
      have hi : (intG c.number g).1 = (intR c.number q).1 ∧ (intG c.number g).2.ints = (intR c.number q).2.ints ∧ (intR c.number q).2.many = false := by
        unfold intG intR
        rw [h4]
        split
        · exact ⟨rfl, h4, h2⟩
        · exact ⟨rfl, rfl, h2⟩
      obtain ⟨i1, i2⟩ := int_len c.number g
      have ht : Tog base code texts (intG c.number g).2 out (intR c.number q).2 := .inl ⟨h1, hi.2.2, i1.trans h3, hi.2.1, i2.trans h5⟩
      have hp := ht.put hb 1 (intG c.number g).1 0
      rw [hi.1] at hp ⊢
      cases last
      · exact hp
      · have := hp.put hb 15 0 0
        rw [List.append_assoc] at this
        exact this
    · have h94 : ¬([43] : List UInt8) = [94] := by decide
      simp only [hk, Int.reduceEq, if_false, if_true, false_or, retG, opG, ht, if_neg h94]
      have hs : max (signO c.text) 0 = 0 := by unfold signO; rw [ht]; decide
      rw [hs]
      have hk := kids_goes hb (e := expG d) (r := expR d) c.kids (fun x hx => ih x (List.all_eq_true.1 hall x hx)) out [] g q (by rw [List.append_nil]; exact h)
      have hp := hk.put hb 19 0 0
      rw [List.append_assoc] at hp
      cases last
      · exact hp
      · have := hp.put hb 15 0 0
        rw [List.append_assoc] at this
        exact this
    · simp only [hk, Int.reduceEq, if_false, if_true, seqG, hne]
      have a1 := ih (kidC c 0) h0 false base code texts g out q hb h
      have a2 := a1.put hb 9 0 0
      rw [List.append_assoc] at a2
      have a3 := ih (kidC c 1) h1' last base code texts _ _ _ hb a2
      rw [List.append_assoc, List.length_append, ← Nat.add_assoc] at a3
      exact a3
theorem many_in (kind : Nat) : ∀ (n d : Nat), n < d → inK d (manyC kind n) = true
  | 0, d + 1, _ => rfl
  | n + 1, d + 2, h => by
    have ih := many_in kind n (d + 1) (by omega)
    unfold manyC inK
    simp only
    by_cases k : kind = 1
    · rw [if_pos k]
      simp only [Co.kind, Co.text, Co.kids, List.all_cons, List.all_nil, ih]
      rfl
    · rw [if_neg k]
      simp only [Co.kind, kidC, Co.kids, List.getD_cons_zero, List.getD_cons_succ, ih]
      rfl
/-- Both make the same, or both are too great. -/
theorem many_law (kind n d : Nat) (h : n < d) : Tog 0 [] [] (expG d (manyC kind n) true ⟨[], [], []⟩) (expR d (manyC kind n) 0 true ⟨[], [], false⟩).1 (expR d (manyC kind n) 0 true ⟨[], [], false⟩).2 := by
  have := exp_goes d (manyC kind n) (many_in kind n d h) true 0 [] [] ⟨[], [], []⟩ [] ⟨[], [], false⟩ rfl (.inl ⟨by simp, rfl, rfl, rfl, rfl⟩)
  exact this
end Go.AL
set_option linter.all false
namespace Go.AL
/-- What an instruction asks of its operands, takes, puts. -/
def effF (c : Cd) (n : Nat) (i : In) : Bool × Int × Int :=
  let f := c.funs.getD n default
  if i.op = 1 then (decide (i.a < c.ints.length), 0, 1)
  else if i.op = 2 then (decide (i.a < c.texts.length), 0, 1)
  else if i.op = 3 then (decide (i.a < f.locals), 0, 1)
  else if i.op = 4 then (decide (i.a < f.kept), 0, 1)
  else if i.op = 5 then (decide (0 < n), 0, 1)
  else if i.op = 6 then (decide (i.a < c.lets), 0, 1)
  else if i.op = 7 then (decide (i.a < f.locals), 1, 0)
  else if i.op = 8 then (decide (i.a < c.lets), 1, 0)
  else if i.op = 9 then (true, 1, 0)
  else if i.op = 10 then (decide (i.a ≤ 199) && decide (1 ≤ i.b) && decide (i.b ≤ 4), i.b, 1)
  else if i.op = 11 then (decide (0 < i.a) && decide (i.a < c.funs.length) && (c.funs.getD i.a.toNat default).kept == i.b, i.b, 1)
  else if i.op = 12 then (decide (i.a < 4), 1, 1)
  else if i.op = 13 then (true, 2, 1)
  else if i.op = 14 then (true, 2, 0)
  else if i.op = 15 then (true, 1, 0)
  else if i.op = 17 then (true, 1, 0)
  else if i.op = 18 then (true, 1, 0)
  else if i.op = 19 then (decide (i.a < 7), 2, 1)
  else if i.op = 20 then (true, 2, 1)
  else if i.op = 23 then (true, 1, 0)
  else if i.op = 24 then (true, 1, 1)
  else if i.op = 25 then (true, 1, 1)
  else if i.op = 31 then (true, 1, 1)
  else if i.op = 32 then (true, 1, 1)
  else if i.op = 33 then (true, 2, 1)
  else (true, 0, 0)
def baseF (s : Sta) : Int := match s.marks.getLast? with | some m => m.2 | none => 0
def withF (s : Sta) (k : Int) : Sta := ⟨s.depth, s.marks ++ [(k, s.depth)]⟩
def wants (op : Int) : Int := if op = 27 then 26 else if op = 29 then 28 else 21
/-- Where an instruction goes, and with which state (t: the state with what it takes and puts); none: it may not be there. -/
def goF (i : In) (q : Int) (s t : Sta) : Option (List (Int × Sta)) :=
  if i.op = 14 ∨ i.op = 15 then (if s.marks = [] then some [] else none)
  else if i.op = 23 ∨ i.op = 30 then some []
  else if i.op = 16 then some [(i.a, s)]
  else if i.op = 17 then some [(q, t), (i.a, t)]
  else if i.op = 18 then some [(q, t), (i.b, t)]
  else if i.op = 21 then some [(q, withF s 21), (i.a, ⟨s.depth + 1, s.marks⟩)]
  else if i.op = 28 then some [(q, withF s 28), (i.a, s)]
  else if i.op = 26 then (if s.marks.any (fun m => m.1 == 26) then none else some [(q, withF s 26)])
  else if i.op = 22 ∨ i.op = 27 ∨ i.op = 29 then
    (match s.marks.getLast? with
    | none => none
    | some m => if m.1 = wants i.op then some [(q, ⟨s.depth, s.marks.dropLast⟩)] else none)
  else some [(q, t)]
def nextF (c : Cd) (n : Nat) (p : Nat) (s : Sta) : Option (List (Int × Sta)) :=
  let i := (c.funs.getD n default).code.getD p default
  let e := effF c n i
  if e.1 = false ∨ s.depth - e.2.1 < baseF s then none
  else goF i ((p : Int) + 1) s ⟨s.depth - e.2.1 + e.2.2, s.marks⟩
/-! The engine's walk: what is still to be looked at. -/
inductive WR where
  | bad
  | on (had : List (Option Sta)) (l : List (Int × Sta))
  | done (had : List (Option Sta))
def stepE (c : Cd) (n : Nat) (had : List (Option Sta)) (l : List (Int × Sta)) : WR :=
  match l with
  | [] => .done had
  | (p, s) :: r =>
    if (had.length : Int) ≤ p ∨ (c.funs.getD n default).stack < s.depth then .bad
    else match had.getD p.toNat none with
      | none => match nextF c n p.toNat s with
        | none => .bad
        | some m => .on (had.set p.toNat (some s)) (m.reverse ++ r)
      | some s' => if s' = s then .on had r else .bad
def walkE (c : Cd) (n : Nat) : Nat → List (Option Sta) → List (Int × Sta) → Option (List (Option Sta))
  | 0, _, _ => none
  | b + 1, had, l => match stepE c n had l with
    | .bad => none
    | .done h => some h
    | .on h l' => walkE c n b h l'
def noneE (h : List (Option Sta)) : Nat := h.countP (·.isNone)
/-- What is told of each place goes together. -/
def Closed (c : Cd) (n : Nat) (h : List (Option Sta)) (l : List (Int × Sta)) : Prop :=
  ∀ p s, h.getD p none = some s → ∃ m, nextF c n p s = some m ∧ ∀ t ∈ m, t ∈ l ∨ (0 ≤ t.1 ∧ h.getD t.1.toNat none = some t.2)
def Begun (h : List (Option Sta)) (l : List (Int × Sta)) : Prop := ((0 : Int), (⟨0, []⟩ : Sta)) ∈ l ∨ h.getD 0 none = some ⟨0, []⟩
def Low (c : Cd) (n : Nat) (h : List (Option Sta)) : Prop := ∀ p s, h.getD p none = some s → s.depth ≤ (c.funs.getD n default).stack
theorem getD_setO {h : List (Option Sta)} {p q : Nat} {x : Option Sta} : (h.set p x).getD q none = if p = q ∧ p < h.length then x else h.getD q none := by
  simp only [List.getD_eq_getElem?_getD, List.getElem?_set]
  by_cases e : p = q
  · subst e
    by_cases l : p < h.length <;> simp [l]
  · simp [e]
theorem lt_of_getD {h : List (Option Sta)} {p : Nat} {s : Sta} (k : h.getD p none = some s) : p < h.length := by
  rw [List.getD_eq_getElem?_getD] at k
  cases Nat.lt_or_ge p h.length with
  | inl l => exact l
  | inr l => rw [List.getElem?_eq_none l] at k; cases k
/-- Nothing goes to a place below the first one. -/
def PosT (c : Cd) (n : Nat) : Prop := ∀ p s m, nextF c n p s = some m → ∀ t ∈ m, 0 ≤ t.1
theorem go_pos {i : In} {q : Int} {s t : Sta} {m : List (Int × Sta)} (ha : 0 ≤ i.a) (hb : 0 ≤ i.b) (hq : 0 ≤ q) (hm : goF i q s t = some m) : ∀ u ∈ m, 0 ≤ u.1 := by
  intro u hu
  unfold goF at hm
  repeat' split at hm
  all_goals first
    | cases hm; done
    | (simp only [Option.some.injEq] at hm; subst hm; first | (simp only [List.not_mem_nil] at hu; done) | (simp only [List.not_mem_nil, List.mem_cons, or_false] at hu; rcases hu with rfl | rfl <;> first | exact hq | exact ha | exact hb) | (simp only [List.not_mem_nil, List.mem_cons, or_false] at hu; subst hu; first | exact hq | exact ha | exact hb))
theorem pos_of {c : Cd} {n : Nat} (h : ∀ i ∈ (c.funs.getD n default).code, 0 ≤ i.a ∧ 0 ≤ i.b) : PosT c n := by
  intro p s m hm t ht
  have hi : 0 ≤ ((c.funs.getD n default).code.getD p default).a ∧ 0 ≤ ((c.funs.getD n default).code.getD p default).b := by
    rw [List.getD_eq_getElem?_getD]
    cases e : (c.funs.getD n default).code[p]? with
    | none => exact ⟨Int.le_refl _, Int.le_refl _⟩
    | some i => exact h i (List.mem_of_getElem? e)
  have hq : (0 : Int) ≤ (p : Int) + 1 := by omega
  unfold nextF at hm
  simp only at hm
  split at hm
  · cases hm
  · exact go_pos hi.1 hi.2 hq hm t ht
theorem E_step {c : Cd} {n : Nat} (hp : PosT c n) {had : List (Option Sta)} {l : List (Int × Sta)} (h0 : ∀ t ∈ l, 0 ≤ t.1) (h1 : Closed c n had l) (h2 : Low c n had) (h3 : Begun had l) :
    match stepE c n had l with
    | .bad => True
    | .done h => h = had ∧ l = []
    | .on h l' => h.length = had.length ∧ (∀ t ∈ l', 0 ≤ t.1) ∧ Closed c n h l' ∧ Low c n h ∧ Begun h l' := by
  cases l with
  | nil => exact ⟨rfl, rfl⟩
  | cons t r =>
    obtain ⟨p, s⟩ := t
    unfold stepE
    simp only
    by_cases hb : (had.length : Int) ≤ p ∨ (c.funs.getD n default).stack < s.depth
    · rw [if_pos hb]; trivial
    rw [if_neg hb]
    have hpp : 0 ≤ p := h0 _ (List.mem_cons_self ..)
    have hpl : p.toNat < had.length := by omega
    have hr0 : ∀ t ∈ r, 0 ≤ t.1 := fun t ht => h0 t (List.mem_cons_of_mem _ ht)
    cases e : had.getD p.toNat none with
    | none =>
      simp only
      cases em : nextF c n p.toNat s with
      | none => trivial
      | some m =>
        simp only
        refine ⟨List.length_set .., ?_, ?_, ?_, ?_⟩
        · intro t ht
          rcases List.mem_append.1 ht with ht | ht
          · exact hp _ _ _ em t (List.mem_reverse.1 ht)
          · exact hr0 t ht
        · intro q u hu
          rw [getD_setO] at hu
          by_cases hq : p.toNat = q ∧ p.toNat < had.length
          · rw [if_pos hq] at hu
            cases hu
            rw [← hq.1]
            exact ⟨m, em, fun t ht => .inl (List.mem_append.2 (.inl (List.mem_reverse.2 ht)))⟩
          · rw [if_neg hq] at hu
            obtain ⟨m', hm', hall⟩ := h1 q u hu
            refine ⟨m', hm', fun t ht => ?_⟩
            rcases hall t ht with h | ⟨h, h'⟩
            · rcases List.mem_cons.1 h with h | h
              · subst h
                refine .inr ⟨hpp, ?_⟩
                rw [getD_setO, if_pos ⟨rfl, hpl⟩]
              · exact .inl (List.mem_append.2 (.inr h))
            · refine .inr ⟨h, ?_⟩
              rw [getD_setO]
              by_cases k : p.toNat = t.1.toNat ∧ p.toNat < had.length
              · rw [k.1] at e
                rw [e] at h'
                cases h'
              · rw [if_neg k]; exact h'
        · intro q u hu
          rw [getD_setO] at hu
          by_cases hq : p.toNat = q ∧ p.toNat < had.length
          · rw [if_pos hq] at hu
            cases hu
            omega
          · rw [if_neg hq] at hu
            exact h2 q u hu
        · rcases h3 with h | h
          · rcases List.mem_cons.1 h with h | h
            · cases h
              right
              rw [getD_setO, if_pos ⟨rfl, hpl⟩]
            · exact .inl (List.mem_append.2 (.inr h))
          · right
            rw [getD_setO]
            by_cases k : p.toNat = 0 ∧ p.toNat < had.length
            · rw [k.1] at e
              rw [e] at h
              cases h
            · rw [if_neg k]; exact h
    | some s' =>
      simp only
      by_cases hs : s' = s
      · subst hs
        rw [if_pos rfl]
        refine ⟨rfl, hr0, ?_, h2, ?_⟩
        · intro q u hu
          obtain ⟨m', hm', hall⟩ := h1 q u hu
          refine ⟨m', hm', fun t ht => ?_⟩
          rcases hall t ht with h | h
          · rcases List.mem_cons.1 h with h | h
            · subst h
              exact .inr ⟨hpp, e⟩
            · exact .inl h
          · exact .inr h
        · rcases h3 with h | h
          · rcases List.mem_cons.1 h with h | h
            · cases h
              exact .inr e
            · exact .inl h
          · exact .inr h
      · rw [if_neg hs]; trivial
theorem E_closed {c : Cd} {n : Nat} (hp : PosT c n) : ∀ (b : Nat) (had : List (Option Sta)) (l : List (Int × Sta)) (H : List (Option Sta)), walkE c n b had l = some H → (∀ t ∈ l, 0 ≤ t.1) → Closed c n had l → Low c n had → Begun had l →
    H.length = had.length ∧ Closed c n H [] ∧ Low c n H ∧ Begun H [] := by
  intro b
  induction b with
  | zero => intro had l H h; cases h
  | succ b ih =>
    intro had l H h h0 h1 h2 h3
    have hs := E_step hp h0 h1 h2 h3
    unfold walkE at h
    cases e : stepE c n had l with
    | bad => rw [e] at h; cases h
    | done h' =>
      rw [e] at h hs
      cases h
      obtain ⟨rfl, rfl⟩ := hs
      exact ⟨rfl, h1, h2, h3⟩
    | on h' l' =>
      rw [e] at h hs
      obtain ⟨a1, a2, a3, a4, a5⟩ := hs
      obtain ⟨b1, b2⟩ := ih h' l' H h a2 a3 a4 a5
      exact ⟨b1.trans a1, b2⟩
/-! The document's walk. -/
def handF (all : List (Option Sta)) (stack : Int) (t : Int × Sta) : Option (List (Option Sta)) :=
  if (all.length : Int) ≤ t.1 ∨ stack < t.2.depth then none
  else match all.getD t.1.toNat none with
    | none => some (all.set t.1.toNat (some t.2))
    | some s => if s = t.2 then some (all.set t.1.toNat (some t.2)) else none
def handL (stack : Int) : List (Option Sta) → List (Int × Sta) → Option (List (Option Sta))
  | all, [] => some all
  | all, t :: r => match handF all stack t with | none => none | some a => handL stack a r
def stepR (c : Cd) (n : Nat) (p : Nat) (all : List (Option Sta)) : Option (List (Option Sta)) :=
  let s := (all.getD p none).getD default
  match nextF c n p s with
  | none => none
  | some m => if (c.funs.getD n default).stack < s.depth then none else handL (c.funs.getD n default).stack all m.reverse
def openR (all : List (Option Sta)) (done : List Bool) (p : Nat) : Bool := !done.getD p false && (all.getD p none).isSome
def walkR (c : Cd) (n : Nat) : Nat → List (Option Sta) → List Bool → Option (List (Option Sta))
  | 0, _, _ => none
  | b + 1, all, done => match (List.range all.length).find? (openR all done) with
    | none => some all
    | some p => match stepR c n p all with
      | none => none
      | some a => walkR c n b a (done.set p true)
def Sub (a h : List (Option Sta)) : Prop := a.length = h.length ∧ ∀ p s, a.getD p none = some s → h.getD p none = some s
theorem hand_sub {all H : List (Option Sta)} {stack : Int} {t : Int × Sta} (h : Sub all H) (h0 : 0 ≤ t.1) (h1 : H.getD t.1.toNat none = some t.2) (h2 : t.2.depth ≤ stack) :
    ∃ a, handF all stack t = some a ∧ Sub a H := by
  have hl := lt_of_getD h1
  have e : handF all stack t = some (all.set t.1.toNat (some t.2)) := by
    unfold handF
    have hl' := h.1
    rw [if_neg (by omega)]
    cases e : all.getD t.1.toNat none with
    | none => rfl
    | some s =>
      have := h.2 _ _ e
      rw [h1] at this
      cases this
      simp
  refine ⟨_, e, by rw [List.length_set]; exact h.1, fun p s hs => ?_⟩
  rw [getD_setO] at hs
  by_cases k : t.1.toNat = p ∧ t.1.toNat < all.length
  · rw [if_pos k] at hs
    cases hs
    rw [← k.1]; exact h1
  · rw [if_neg k] at hs
    exact h.2 p s hs
theorem handL_sub {H : List (Option Sta)} {stack : Int} : ∀ (m : List (Int × Sta)) (all : List (Option Sta)), Sub all H → (∀ t ∈ m, 0 ≤ t.1 ∧ H.getD t.1.toNat none = some t.2 ∧ t.2.depth ≤ stack) →
    ∃ a, handL stack all m = some a ∧ Sub a H
  | [], all, h, _ => ⟨all, rfl, h⟩
  | t :: r, all, h, k => by
    obtain ⟨k1, k2, k3⟩ := k t (List.mem_cons_self ..)
    obtain ⟨a, ha, hs⟩ := hand_sub h k1 k2 k3
    obtain ⟨a', ha', hs'⟩ := handL_sub r a hs fun t ht => k t (List.mem_cons_of_mem _ ht)
    exact ⟨a', by unfold handL; rw [ha]; exact ha', hs'⟩
def falses (d : List Bool) : Nat := d.countP (fun x => !x)
theorem falses_set : ∀ {d : List Bool} {p : Nat}, p < d.length → d.getD p false = false → falses (d.set p true) + 1 = falses d
  | [], _, h, _ => absurd h (Nat.not_lt_zero _)
  | x :: d, 0, _, h => by
    have : x = false := h
    subst this
    simp [falses]
  | x :: d, p + 1, h, k => by
    have := falses_set (d := d) (p := p) (Nat.lt_of_succ_lt_succ h) k
    simp only [falses, List.set_cons_succ, List.countP_cons] at *
    omega
theorem R_of_closed {c : Cd} {n : Nat} {H : List (Option Sta)} (h1 : Closed c n H []) (h2 : Low c n H) : ∀ (b : Nat) (all : List (Option Sta)) (done : List Bool), Sub all H → done.length = H.length → falses done < b →
    ∃ a, walkR c n b all done = some a := by
  intro b
  induction b with
  | zero => intro all done _ _ h; exact absurd h (Nat.not_lt_zero _)
  | succ b ih =>
    intro all done hs hl hf
    unfold walkR
    cases e : (List.range all.length).find? (openR all done) with
    | none => exact ⟨all, rfl⟩
    | some p =>
      simp only
      have hp := List.find?_some e
      have hpl : p < all.length := List.mem_range.1 (List.mem_of_find?_eq_some e)
      unfold openR at hp
      simp only [Bool.and_eq_true, Bool.not_eq_true'] at hp
      obtain ⟨hd, hsm⟩ := hp
      obtain ⟨s, hsv⟩ := Option.isSome_iff_exists.1 hsm
      have hH := hs.2 p s hsv
      obtain ⟨m, hm, hall⟩ := h1 p s hH
      obtain ⟨a, ha, hsa⟩ := handL_sub (stack := (c.funs.getD n default).stack) m.reverse all hs fun t ht => by
        rcases hall t (List.mem_reverse.1 ht) with h | ⟨h, h'⟩
        · cases h
        · exact ⟨h, h', h2 _ _ h'⟩
      have hst : stepR c n p all = some a := by
        unfold stepR
        simp only [hsv, Option.getD_some, hm]
        rw [if_neg (by have := h2 p s hH; omega)]
        exact ha
      rw [hst]
      have hsl := hs.1
      have hfs := falses_set (d := done) (p := p) (by omega) hd
      exact ih a (done.set p true) hsa (by rw [List.length_set]; exact hl) (by omega)
/-- What the engine takes, the document takes. -/
theorem ref_of_engine {c : Cd} {n : Nat} (hp : PosT c n) {b : Nat} {H : List (Option Sta)} {len : Nat} (h : walkE c n b (List.replicate len none) [(0, ⟨0, []⟩)] = some H) (b' : Nat) (hb : len < b') :
    ∃ a, walkR c n b' ((List.replicate len none).set 0 (some ⟨0, []⟩)) (List.replicate len false) = some a := by
  have hn : ∀ q, (List.replicate len (none : Option Sta)).getD q none = none := by
    intro q
    rw [List.getD_eq_getElem?_getD, List.getElem?_replicate]
    split <;> rfl
  obtain ⟨k1, k2, k3, k4⟩ := E_closed hp b _ _ H h (by intro t ht; cases ht with | head => exact Int.le_refl _ | tail _ h => cases h) (fun q s hq => by rw [hn] at hq; cases hq) (fun q s hq => by rw [hn] at hq; cases hq) (.inl (List.mem_cons_self ..))
  rw [List.length_replicate] at k1
  have h0 : H.getD 0 none = some ⟨0, []⟩ := by
    rcases k4 with h | h
    · cases h
    · exact h
  refine R_of_closed k2 k3 b' _ _ ⟨by rw [List.length_set, List.length_replicate, k1], fun q s hq => ?_⟩ (by rw [List.length_replicate, k1]) ?_
  · rw [getD_setO] at hq
    by_cases k : 0 = q ∧ 0 < (List.replicate len (none : Option Sta)).length
    · rw [if_pos k] at hq
      cases hq
      rw [← k.1]; exact h0
    · rw [if_neg k, hn] at hq; cases hq
  · have : falses (List.replicate len false) = len := by
      unfold falses
      rw [List.countP_replicate]
      simp
    omega
theorem hand_spec {all a : List (Option Sta)} {stack : Int} {t : Int × Sta} (h0 : 0 ≤ t.1) (h : handF all stack t = some a) :
    a.length = all.length ∧ t.2.depth ≤ stack ∧ a.getD t.1.toNat none = some t.2 ∧ (∀ p s, all.getD p none = some s → a.getD p none = some s) ∧ (∀ p s, a.getD p none = some s → all.getD p none = some s ∨ (s = t.2)) := by
  unfold handF at h
  by_cases hb : (all.length : Int) ≤ t.1 ∨ stack < t.2.depth
  · rw [if_pos hb] at h; cases h
  rw [if_neg hb] at h
  have hl : t.1.toNat < all.length := by omega
  have e : a = all.set t.1.toNat (some t.2) ∧ ∀ s, all.getD t.1.toNat none = some s → s = t.2 := by
    cases e : all.getD t.1.toNat none with
    | none => rw [e] at h; cases h; exact ⟨rfl, fun s hs => by cases hs⟩
    | some s =>
      rw [e] at h
      simp only at h
      by_cases k : s = t.2
      · rw [if_pos k] at h; cases h; exact ⟨rfl, fun s' hs => by cases hs; exact k⟩
      · rw [if_neg k] at h; cases h
  obtain ⟨rfl, es⟩ := e
  refine ⟨List.length_set .., by omega, by rw [getD_setO, if_pos ⟨rfl, hl⟩], fun p s hs => ?_, fun p s hs => ?_⟩
  · rw [getD_setO]
    by_cases k : t.1.toNat = p ∧ t.1.toNat < all.length
    · rw [if_pos k]
      rw [← k.1] at hs
      rw [es s hs]
    · rw [if_neg k]; exact hs
  · rw [getD_setO] at hs
    by_cases k : t.1.toNat = p ∧ t.1.toNat < all.length
    · rw [if_pos k] at hs; cases hs; exact .inr rfl
    · rw [if_neg k] at hs; exact .inl hs
theorem handL_spec {stack : Int} : ∀ (m : List (Int × Sta)) (all a : List (Option Sta)), (∀ t ∈ m, 0 ≤ t.1) → handL stack all m = some a →
    a.length = all.length ∧ (∀ p s, all.getD p none = some s → a.getD p none = some s) ∧ (∀ t ∈ m, a.getD t.1.toNat none = some t.2) ∧ (∀ p s, a.getD p none = some s → all.getD p none = some s ∨ s.depth ≤ stack)
  | [], all, a, _, h => by
    cases h
    exact ⟨rfl, fun _ _ h => h, fun t ht => (by cases ht), fun _ _ h => .inl h⟩
  | t :: r, all, a, h0, h => by
    unfold handL at h
    cases e : handF all stack t with
    | none => rw [e] at h; cases h
    | some b =>
      rw [e] at h
      obtain ⟨k1, k2, k3, k4, k5⟩ := hand_spec (h0 t (List.mem_cons_self ..)) e
      obtain ⟨j1, j2, j3, j4⟩ := handL_spec r b a (fun u hu => h0 u (List.mem_cons_of_mem _ hu)) h
      refine ⟨j1.trans k1, fun p s hs => j2 p s (k4 p s hs), fun u hu => ?_, fun p s hs => ?_⟩
      · rcases List.mem_cons.1 hu with rfl | hu
        · exact j2 _ _ k3
        · exact j3 u hu
      · rcases j4 p s hs with h | h
        · rcases k5 p s h with h | h
          · exact .inl h
          · exact .inr (h ▸ k2)
        · exact .inr h
/-- What is done goes together. -/
def DoneOk (c : Cd) (n : Nat) (all : List (Option Sta)) (done : List Bool) : Prop :=
  ∀ p s, done.getD p false = true → all.getD p none = some s → ∃ m, nextF c n p s = some m ∧ ∀ t ∈ m, 0 ≤ t.1 ∧ all.getD t.1.toNat none = some t.2
theorem R_closed {c : Cd} {n : Nat} (hp : PosT c n) : ∀ (b : Nat) (all : List (Option Sta)) (done : List Bool) (H : List (Option Sta)), walkR c n b all done = some H → done.length = all.length →
    DoneOk c n all done → (∀ p, done.getD p false = true → (all.getD p none).isSome = true) → Low c n all → all.getD 0 none = some ⟨0, []⟩ → H.length = all.length ∧ Closed c n H [] ∧ Low c n H ∧ H.getD 0 none = some ⟨0, []⟩ := by
  intro b
  induction b with
  | zero => intro all done H h; cases h
  | succ b ih =>
    intro all done H h hl h1 h2 h3 h4
    unfold walkR at h
    cases e : (List.range all.length).find? (openR all done) with
    | none =>
      rw [e] at h
      cases h
      refine ⟨rfl, fun p s hs => ?_, h3, h4⟩
      have hpl := lt_of_getD hs
      have := List.find?_eq_none.1 e p (List.mem_range.2 hpl)
      unfold openR at this
      rw [hs] at this
      simp only [Option.isSome_some, Bool.and_true, Bool.not_eq_true', Bool.not_eq_false] at this
      obtain ⟨m, hm, hall⟩ := h1 p s this hs
      exact ⟨m, hm, fun t ht => .inr (hall t ht)⟩
    | some p =>
      rw [e] at h
      simp only at h
      have ho := List.find?_some e
      have hpl : p < all.length := List.mem_range.1 (List.mem_of_find?_eq_some e)
      unfold openR at ho
      simp only [Bool.and_eq_true, Bool.not_eq_true'] at ho
      obtain ⟨hd, hsm⟩ := ho
      obtain ⟨s, hs⟩ := Option.isSome_iff_exists.1 hsm
      cases est : stepR c n p all with
      | none => rw [est] at h; cases h
      | some a =>
        rw [est] at h
        simp only at h
        unfold stepR at est
        simp only [hs, Option.getD_some] at est
        cases em : nextF c n p s with
        | none => rw [em] at est; cases est
        | some m =>
          rw [em] at est
          simp only at est
          by_cases hst : (c.funs.getD n default).stack < s.depth
          · rw [if_pos hst] at est; cases est
          rw [if_neg hst] at est
          have hpm : ∀ t ∈ m.reverse, 0 ≤ t.1 := fun t ht => hp _ _ _ em t (List.mem_reverse.1 ht)
          obtain ⟨k1, k2, k3, k4⟩ := handL_spec m.reverse all a hpm est
          have hdl : p < done.length := by omega
          have gd : ∀ q, (done.set p true).getD q false = if p = q then true else done.getD q false := by
            intro q
            simp only [List.getD_eq_getElem?_getD, List.getElem?_set]
            by_cases e : p = q
            · subst e; simp [hdl]
            · simp [e]
          obtain ⟨i1, i2⟩ := ih a (done.set p true) H h (by rw [List.length_set, hl, k1]) (fun q u hq hu => by
            rw [gd] at hq
            by_cases e : p = q
            · subst e
              have := k2 p s hs
              rw [this] at hu
              cases hu
              exact ⟨m, em, fun t ht => ⟨hpm t (List.mem_reverse.2 ht), k3 t (List.mem_reverse.2 ht)⟩⟩
            · rw [if_neg e] at hq
              obtain ⟨v, hv⟩ := Option.isSome_iff_exists.1 (h2 q hq)
              have hv' := k2 q v hv
              rw [hv'] at hu
              cases hu
              obtain ⟨m', hm', hall⟩ := h1 q _ hq hv
              exact ⟨m', hm', fun t ht => ⟨(hall t ht).1, k2 _ _ (hall t ht).2⟩⟩) (fun q hq => by
            rw [gd] at hq
            by_cases e : p = q
            · subst e; rw [k2 p s hs]; rfl
            · rw [if_neg e] at hq
              obtain ⟨v, hv⟩ := Option.isSome_iff_exists.1 (h2 q hq)
              rw [k2 q v hv]; rfl) (fun q u hu => by
            rcases k4 q u hu with h | h
            · exact h3 q u h
            · exact h) (k2 _ _ h4)
          exact ⟨i1.trans k1, i2⟩
theorem noneE_set : ∀ {h : List (Option Sta)} {p : Nat} {s : Sta}, p < h.length → h.getD p none = none → noneE (h.set p (some s)) + 1 = noneE h
  | [], _, _, h, _ => absurd h (Nat.not_lt_zero _)
  | x :: d, 0, _, _, h => by
    have : x = none := h
    subst this
    simp [noneE]
  | x :: d, p + 1, s, h, k => by
    have := noneE_set (h := d) (p := p) (s := s) (Nat.lt_of_succ_lt_succ h) k
    simp only [noneE, List.set_cons_succ, List.countP_cons] at *
    omega
theorem go_len {i : In} {q : Int} {s t : Sta} {m : List (Int × Sta)} (hm : goF i q s t = some m) : m.length ≤ 2 := by
  unfold goF at hm
  repeat' split at hm
  all_goals first
    | cases hm; done
    | (simp only [Option.some.injEq] at hm; subst hm; simp)
theorem next_len {c : Cd} {n p : Nat} {s : Sta} {m : List (Int × Sta)} (hm : nextF c n p s = some m) : m.length ≤ 2 := by
  unfold nextF at hm
  simp only at hm
  split at hm
  · cases hm
  · exact go_len hm
theorem E_of_closed {c : Cd} {n : Nat} {H : List (Option Sta)} (h1 : Closed c n H []) (h2 : Low c n H) : ∀ (b : Nat) (had : List (Option Sta)) (l : List (Int × Sta)), Sub had H → (∀ t ∈ l, 0 ≤ t.1 ∧ H.getD t.1.toNat none = some t.2) →
    2 * noneE had + l.length < b → ∃ h, walkE c n b had l = some h := by
  intro b
  induction b with
  | zero => intro had l _ _ h; exact absurd h (Nat.not_lt_zero _)
  | succ b ih =>
    intro had l hs hl hf
    unfold walkE
    cases l with
    | nil => exact ⟨had, rfl⟩
    | cons t r =>
      obtain ⟨p, s⟩ := t
      obtain ⟨h0, hH⟩ := hl _ (List.mem_cons_self ..)
      simp only at h0 hH
      have hpl := lt_of_getD hH
      have hlen := hs.1
      have hr : ∀ t ∈ r, 0 ≤ t.1 ∧ H.getD t.1.toNat none = some t.2 := fun t ht => hl t (List.mem_cons_of_mem _ ht)
      simp only [List.length_cons] at hf
      have hb : ¬((had.length : Int) ≤ p ∨ (c.funs.getD n default).stack < s.depth) := by
        have := h2 _ _ hH
        omega
      cases e : had.getD p.toNat none with
      | none =>
        obtain ⟨m, hm, hall⟩ := h1 _ _ hH
        have est : stepE c n had ((p, s) :: r) = .on (had.set p.toNat (some s)) (m.reverse ++ r) := by
          unfold stepE
          simp only
          rw [if_neg hb, e]
          simp only
          rw [hm]
        rw [est]
        have hn := noneE_set (h := had) (p := p.toNat) (s := s) (by omega) e
        have hml := next_len hm
        refine ih _ _ ⟨by rw [List.length_set]; exact hs.1, fun q u hu => ?_⟩ (fun t ht => ?_) (by rw [List.length_append, List.length_reverse]; omega)
        · rw [getD_setO] at hu
          by_cases k : p.toNat = q ∧ p.toNat < had.length
          · rw [if_pos k] at hu; cases hu; rw [← k.1]; exact hH
          · rw [if_neg k] at hu; exact hs.2 q u hu
        · rcases List.mem_append.1 ht with ht | ht
          · rcases hall t (List.mem_reverse.1 ht) with h | h
            · cases h
            · exact h
          · exact hr t ht
      | some s' =>
        have := hs.2 _ _ e
        rw [hH] at this
        cases this
        have est : stepE c n had ((p, s) :: r) = .on had r := by
          unfold stepE
          simp only
          rw [if_neg hb, e]
          simp
        rw [est]
        exact ih _ _ hs hr (by omega)
/-- What the document takes, the engine takes. -/
theorem engine_of_ref {c : Cd} {n : Nat} (hp : PosT c n) {b : Nat} {a : List (Option Sta)} {len : Nat} (hlen : 0 < len) (hst : 0 ≤ (c.funs.getD n default).stack)
    (h : walkR c n b ((List.replicate len none).set 0 (some ⟨0, []⟩)) (List.replicate len false) = some a) (b' : Nat) (hb : 2 * len + 1 < b') :
    ∃ H, walkE c n b' (List.replicate len none) [(0, ⟨0, []⟩)] = some H := by
  have hn : ∀ q, (List.replicate len (none : Option Sta)).getD q none = none := by
    intro q
    rw [List.getD_eq_getElem?_getD, List.getElem?_replicate]
    split <;> rfl
  have hf : ∀ q, (List.replicate len false).getD q false = false := by
    intro q
    rw [List.getD_eq_getElem?_getD, List.getElem?_replicate]
    split <;> rfl
  obtain ⟨k1, k2, k3, k4⟩ := R_closed hp b _ _ a h (by simp) (fun q s hq => by rw [hf] at hq; cases hq) (fun q hq => by rw [hf] at hq; cases hq) (fun q s hs => by
    rw [getD_setO] at hs
    by_cases k : 0 = q ∧ 0 < (List.replicate len (none : Option Sta)).length
    · rw [if_pos k] at hs; cases hs; exact hst
    · rw [if_neg k, hn] at hs; cases hs) (by rw [getD_setO, if_pos ⟨rfl, by simpa using hlen⟩])
  rw [List.length_set, List.length_replicate] at k1
  refine E_of_closed k2 k3 b' _ _ ⟨by rw [List.length_replicate, k1], fun q s hq => by rw [hn] at hq; cases hq⟩ (fun t ht => ?_) ?_
  · cases ht with
    | head => exact ⟨Int.le_refl _, k4⟩
    | tail _ h => cases h
  · have : noneE (List.replicate len none) = len := by
      unfold noneE
      rw [List.countP_replicate]
      simp
    simp only [this, List.length_cons, List.length_nil]
    omega
end Go.AL
set_option linter.all false
namespace Go.AL
def usesF (op : Int) : Int :=
  if op = 10 ∨ op = 11 ∨ op = 18 then 2
  else if op = 1 ∨ op = 2 ∨ op = 3 ∨ op = 4 ∨ op = 6 ∨ op = 7 ∨ op = 8 ∨ op = 12 ∨ op = 16 ∨ op = 17 ∨ op = 19 ∨ op = 21 ∨ op = 28 then 1
  else if op < 1 ∨ 33 < op then -1 else 0
def inB (n a b : Int) : Bool := decide (a ≤ n) && decide (n ≤ b)
def instrB (i : In) : Bool := decide (0 ≤ usesF i.op) && (inB i.a 0 65535 && (inB i.b 0 65535 && ((decide (1 ≤ usesF i.op) || i.a == 0) && (decide (2 ≤ usesF i.op) || i.b == 0))))
def bodyB (f : Bd) : Bool := inB f.kept 0 59 && (inB f.locals 0 60 && (inB f.stack 1 60 && (inB f.code.length 1 400 && f.code.all instrB)))
def mayF (c : Cd) : Bool := (inB c.funs.length 1 120 && (decide (c.ints.length ≤ 120) && (decide (c.texts.length ≤ 120) && inB c.lets 0 60))) &&
  (c.funs.all bodyB && (c.ints.all (fun n => inB n (-4611686018427387904) 4611686018427387903) && c.texts.all fun s => decide (s.size ≤ 60)))
def lenF (c : Cd) (n : Nat) : Nat := (c.funs.getD n default).code.length
def walkEF (c : Cd) (n : Nat) : Option (List (Option Sta)) := walkE c n (2 * lenF c n + 2) (List.replicate (lenF c n) none) [(0, ⟨0, []⟩)]
def walkRF (c : Cd) (n : Nat) : Option (List (Option Sta)) := walkR c n (lenF c n + 1) ((List.replicate (lenF c n) none).set 0 (some ⟨0, []⟩)) (List.replicate (lenF c n) false)
def codeF (c : Cd) : Int := if mayF c then (if (List.range c.funs.length).all (fun n => (walkEF c n).isSome) then 0 else 30) else 1
def refF (c : Cd) : Int := if mayF c then (if (List.range c.funs.length).all (fun n => (walkRF c n).isSome) then 0 else 30) else 1
theorem may_body {c : Cd} (h : mayF c = true) {n : Nat} (hn : n < c.funs.length) : bodyB (c.funs.getD n default) = true := by
  unfold mayF at h
  simp only [Bool.and_eq_true] at h
  have := List.all_eq_true.1 h.2.1
  exact this _ (by simp [List.getD_eq_getElem?_getD, hn])
theorem body_pos {f : Bd} (h : bodyB f = true) : (∀ i ∈ f.code, 0 ≤ i.a ∧ 0 ≤ i.b) ∧ 0 < f.code.length ∧ 0 ≤ f.stack := by
  unfold bodyB at h
  simp only [Bool.and_eq_true, inB, decide_eq_true_eq] at h
  obtain ⟨h1, h2, h3, h4, h5⟩ := h
  refine ⟨fun i hi => ?_, by omega, by omega⟩
  have := List.all_eq_true.1 h5 i hi
  unfold instrB inB at this
  simp only [Bool.and_eq_true, decide_eq_true_eq] at this
  exact ⟨this.2.1.1, this.2.2.1.1⟩
theorem walks_eq {c : Cd} (h : mayF c = true) {n : Nat} (hn : n < c.funs.length) : (walkEF c n).isSome = (walkRF c n).isSome := by
  obtain ⟨h1, h2, h3⟩ := body_pos (may_body h hn)
  have hp := pos_of (c := c) (n := n) h1
  rw [Bool.eq_iff_iff, Option.isSome_iff_exists, Option.isSome_iff_exists]
  constructor
  · rintro ⟨H, hH⟩
    exact ref_of_engine (len := lenF c n) hp hH _ (by omega)
  · rintro ⟨a, ha⟩
    exact engine_of_ref (len := lenF c n) hp h2 h3 ha _ (by omega)
theorem all_congr' {α : Type} {f g : α → Bool} : ∀ {l : List α}, (∀ x ∈ l, f x = g x) → l.all f = l.all g
  | [], _ => rfl
  | x :: l, h => by rw [List.all_cons, List.all_cons, h x List.mem_cons_self, all_congr' (l := l) fun y hy => h y (List.mem_cons_of_mem _ hy)]
/-- The engine and the document tell the same of a code. -/
theorem code_law (c : Cd) : codeF c = refF c := by
  unfold codeF refF
  by_cases h : mayF c = true
  · rw [if_pos h, if_pos h, all_congr' fun n hn => walks_eq h (List.mem_range.1 hn)]
  · rw [if_neg h, if_neg h]
end Go.AL
set_option linter.all false
namespace Go.AL
def okG (g : GS) : Prop := g.code.length ≤ 401 ∧ g.ints.length ≤ 200 + g.code.length ∧ g.texts.length ≤ 200 + g.code.length
structure Gd (g g' : GS) : Prop where
  ok : okG g'
  le : g.code.length ≤ g'.code.length
theorem Gd.trans {a b c : GS} (h : Gd a b) (k : Gd b c) : Gd a c := ⟨k.ok, Nat.le_trans h.le k.le⟩
theorem gd_self {g : GS} (h : okG g) : Gd g g := ⟨h, Nat.le_refl _⟩
theorem gd_put {g : GS} (h : okG g) (op a b : Int) : Gd g (putG op a b g) := by
  unfold okG at h
  unfold putG
  split
  · refine ⟨?_, by simp⟩
    unfold okG; simp; omega
  · exact ⟨h, Nat.le_refl _⟩
theorem put_pos (op a b : Int) (g : GS) : 0 < (putG op a b g).code.length := by
  unfold putG; split
  · simp
  · omega
theorem put_at (op a b : Int) (g : GS) : atG (putG op a b g) < (putG op a b g).code.length := by
  have := put_pos op a b g
  unfold atG; omega
theorem gd_here {g : GS} (h : okG g) (p : Nat) : Gd g (hereG p g) := by
  unfold okG at h
  refine ⟨?_, by simp [hereG]⟩
  unfold okG hereG; simp; exact h
theorem gd_heres : ∀ (l : List Nat) {g : GS}, okG g → Gd g (heresG l g)
  | [], g, h => gd_self h
  | p :: l, g, h => (gd_here h p).trans (gd_heres l (gd_here h p).ok)
theorem gd_int {g : GS} (h : okG g) (hc : g.code.length ≤ 400) (n op a b : Int) : Gd g (putG op a b (intG n g).2) := by
  unfold okG at h
  have e := int_len n g
  have e2 : (intG n g).2.ints.length ≤ g.ints.length + 1 := by unfold intG; split <;> simp
  rw [put_ok _ _ _ _ (by rw [e.1]; exact hc)]
  refine ⟨?_, by simp [e.1]⟩
  unfold okG; simp [e.1, e.2]; omega
theorem text_len (n : ByteArray) (g : GS) : (textG n g).2.code = g.code ∧ (textG n g).2.ints = g.ints := by
  unfold textG; split <;> exact ⟨rfl, rfl⟩
theorem gd_text {g : GS} (h : okG g) (hc : g.code.length ≤ 400) (n : ByteArray) (op a b : Int) : Gd g (putG op a b (textG n g).2) := by
  unfold okG at h
  have e := text_len n g
  have e2 : (textG n g).2.texts.length ≤ g.texts.length + 1 := by unfold textG; split <;> simp
  rw [put_ok _ _ _ _ (by rw [e.1]; exact hc)]
  refine ⟨?_, by simp [e.1]⟩
  unfold okG; simp [e.1, e.2]; omega
def FineE (E : Co → Bool → GS → GS) : Prop := ∀ c last g, okG g → Gd g (E c last g)
section
variable {E : Co → Bool → GS → GS}
theorem gd_kids (hE : FineE E) : ∀ (l : List Co) {g : GS}, okG g → Gd g (kidsG E l g)
  | [], g, h => gd_self h
  | c :: l, g, h => (hE c false g h).trans (gd_kids hE l (hE c false g h).ok)
theorem gd_let (hE : FineE E) (c : Co) (last : Bool) {g : GS} (h : okG g) : Gd g (letG E c last g) := by
  have a := hE (kidC c 0) false g h
  have b := a.trans (gd_put a.ok 7 c.number 0)
  exact b.trans (hE _ _ _ b.ok)
theorem gd_seq (hE : FineE E) (c : Co) (last : Bool) {g : GS} (h : okG g) : Gd g (seqG E c last g) := by
  have a := hE (kidC c 0) false g h
  unfold seqG
  split
  · exact a.trans (hE _ _ _ a.ok)
  · have b := a.trans (gd_put a.ok 9 0 0)
    exact b.trans (hE _ _ _ b.ok)
theorem gd_branch (hE : FineE E) (c : Co) (last : Bool) {g : GS} (h : okG g) : Gd g (branchG E c last g) := by
  have a := hE (kidC c 0) false g h
  have b := a.trans (gd_put a.ok 17 0 0)
  have d := b.trans (hE (kidC c 1) last _ b.ok)
  unfold branchG
  cases last
  · have e := d.trans (gd_put d.ok 16 0 0)
    have f := e.trans (gd_here e.ok (atG (putG 17 0 0 (E (kidC c 0) false g))))
    have i := f.trans (hE (kidC c 2) false _ f.ok)
    exact i.trans (gd_here i.ok _)
  · have f := d.trans (gd_here d.ok (atG (putG 17 0 0 (E (kidC c 0) false g))))
    exact f.trans (hE (kidC c 2) true _ f.ok)
theorem gd_look (loc : Int) (path : List Int) {g : GS} (h : okG g) : Gd g (lookG loc path g) := by
  have key : ∀ (l : List Int) {g : GS}, okG g → Gd g (l.foldl (fun g i => putG 12 i 0 g) g) := by
    intro l
    induction l with
    | nil => exact fun h => gd_self h
    | cons i l ih => exact fun h => (gd_put h 12 i 0).trans (ih (gd_put h 12 i 0).ok)
  have a := gd_put h 3 loc 0
  exact a.trans (key path a.ok)
theorem gd_binds (loc : Int) : ∀ (l : List Bn) {g : GS}, okG g → Gd g (bindsG loc l g)
  | [], g, h => gd_self h
  | b :: l, g, h => by
    have a := gd_look loc b.path h
    have k := a.trans (gd_put a.ok 7 b.loc 0)
    exact k.trans (gd_binds loc l k.ok)
/-- One row. -/
def rowG (E : Co → Bool → GS → GS) (c : Co) (last : Bool) (p : Option Nat) (i : Nat) (b : List Bn) (g : GS) : GS :=
  E (kidC c (i + 1)) last (bindsG c.number b (if i = 0 then (match p with | some q => hereG q g | none => g) else g))
theorem gd_row (hE : FineE E) (c : Co) (last : Bool) (p : Option Nat) (i : Nat) (b : List Bn) {g : GS} (h : okG g) : Gd g (rowG E c last p i b g) := by
  have a : Gd g (if i = 0 then (match p with | some q => hereG q g | none => g) else g) := by
    split
    · cases p with
      | none => exact gd_self h
      | some q => exact gd_here h q
    · exact gd_self h
  have k := a.trans (gd_binds c.number b a.ok)
  exact k.trans (hE _ _ _ k.ok)
theorem rows_cons (c : Co) (last : Bool) (p : Option Nat) (i : Nat) (b : List Bn) (r : List (List Bn)) (ends : List Nat) (g : GS) : rowsG E c last p i (b :: r) ends g =
    if last = false ∧ r ≠ [] then rowsG E c last p (i + 1) r (ends ++ [atG (putG 16 0 0 (rowG E c last p i b g))]) (putG 16 0 0 (rowG E c last p i b g))
    else rowsG E c last p (i + 1) r ends (rowG E c last p i b g) := rfl
theorem gd_rows (hE : FineE E) (c : Co) (last : Bool) (p : Option Nat) : ∀ (l : List (List Bn)) (i : Nat) (ends : List Nat) {g : GS}, okG g → (∀ x ∈ ends, x < g.code.length) →
    Gd g (rowsG E c last p i l ends g).2 ∧ ∀ x ∈ (rowsG E c last p i l ends g).1, x < (rowsG E c last p i l ends g).2.code.length
  | [], i, ends, g, h, hx => ⟨gd_self h, hx⟩
  | b :: r, i, ends, g, h, hx => by
    have a := gd_row hE c last p i b h
    rw [rows_cons]
    split
    · have k := a.trans (gd_put a.ok 16 0 0)
      have hat := put_at 16 0 0 (rowG E c last p i b g)
      obtain ⟨h1, h2⟩ := gd_rows hE c last p r (i + 1) (ends ++ [atG (putG 16 0 0 (rowG E c last p i b g))]) k.ok (fun x hm => by
        rcases List.mem_append.1 hm with hm | hm
        · have := hx x hm
          have := k.le
          omega
        · simp only [List.mem_singleton] at hm
          subst hm; exact hat)
      exact ⟨k.trans h1, h2⟩
    · obtain ⟨h1, h2⟩ := gd_rows hE c last p r (i + 1) ends a.ok (fun x hm => by have := hx x hm; have := a.le; omega)
      exact ⟨a.trans h1, h2⟩
theorem gd_match (hE : FineE E) (c : Co) (last : Bool) {g : GS} (h : okG g) : Gd g (matchG E c last g) := by
  have a := hE (kidC c 0) false g h
  have b := a.trans (gd_put a.ok 7 c.number 0)
  unfold matchG
  simp only
  split
  · have k := (gd_rows hE c last none c.binds 0 [] b.ok (fun x hx => by cases hx)).1
    have k := b.trans k
    exact k.trans (gd_heres _ k.ok)
  · have d := b.trans (gd_put b.ok 16 0 0)
    have k := (gd_rows hE c last (some (atG (putG 16 0 0 (putG 7 c.number 0 (E (kidC c 0) false g))))) c.binds 0 [] d.ok (fun x hx => by cases hx)).1
    have k := d.trans k
    exact k.trans (gd_heres _ k.ok)
theorem gd_call (hE : FineE E) (c : Co) (last : Bool) {g : GS} (h : okG g) : Gd g (callG E c last g) := by
  have a := gd_kids hE c.kids h
  exact a.trans (gd_put a.ok _ 0 0)
theorem gd_either (hE : FineE E) (c : Co) (b e : Int) (set : Bool) {g : GS} (h : okG g) : Gd g (eitherG E c b e set g) := by
  have a1 := gd_put h b 0 0
  have a2 := a1.trans (hE (kidC c 0) false _ a1.ok)
  have a3 := a2.trans (gd_put a2.ok e 0 0)
  have a4 := a3.trans (gd_put a3.ok 16 0 0)
  have a5 := a4.trans (gd_here a4.ok (atG (putG b 0 0 g)))
  unfold eitherG
  simp only
  cases set
  · have a6 := a5.trans (hE (kidC c 1) false _ a5.ok)
    exact a6.trans (gd_here a6.ok _)
  · have a6 := a5.trans (gd_put a5.ok 7 c.number 0)
    have a7 := a6.trans (hE (kidC c 1) false _ a6.ok)
    exact a7.trans (gd_here a7.ok _)
theorem gd_ret (last : Bool) {g : GS} (h : okG g) : Gd g (retG last g) := by
  unfold retG; split
  · exact gd_put h 15 0 0
  · exact gd_self h
theorem gd_op (hE : FineE E) (c : Co) {g : GS} (h : okG g) : Gd g (opG E c g) := by
  have a := gd_kids hE c.kids h
  unfold opG; split
  · exact a.trans (gd_put a.ok 20 0 0)
  · exact a.trans (gd_put a.ok 19 _ 0)
theorem gd_rest (hE : FineE E) (c : Co) {g : GS} (h : okG g) : Gd g (restG E c g) := by
  have a := gd_kids hE c.kids h
  unfold restG; simp only; split
  · exact a.trans (gd_put a.ok _ _ _)
  · split
    · exact a.trans (gd_put a.ok _ _ _)
    · exact a.trans (gd_put a.ok _ _ _)
end
theorem gd_exp : ∀ d : Nat, FineE (expG d)
  | 0 => fun c last g h => gd_self h
  | d + 1 => fun c last g h => by
    have ih := gd_exp d
    have ret : ∀ {g' : GS}, Gd g g' → Gd g (retG last g') := fun k => k.trans (gd_ret last k.ok)
    unfold expG
    by_cases h0 : 400 < g.code.length
    · rw [if_pos h0]; exact gd_self h
    rw [if_neg h0]
    have hc : g.code.length ≤ 400 := by omega
    split
    · exact gd_let ih c last h
    split
    · exact gd_seq ih c last h
    split
    · exact gd_branch ih c last h
    split
    · exact gd_match ih c last h
    split
    · exact gd_call ih c last h
    split
    · exact ret (gd_int h hc _ _ _ _)
    split
    · exact ret (gd_text h hc _ _ _ _)
    split
    · exact ret (gd_either ih c 21 22 true h)
    split
    · exact ret (gd_either ih c 28 29 false h)
    split
    · have a1 := gd_put h 26 0 0
      have a2 := a1.trans (ih (kidC c 0) false _ a1.ok)
      exact ret (a2.trans (gd_put a2.ok 27 0 0))
    split
    · exact ret (gd_op ih c h)
    · exact ret (gd_rest ih c h)
end Go.AL
set_option linter.all false
namespace Go.AL
def farI (i : In) : Bool := i.op == 18 && decide (65535 < i.a)
/-- What is too much. -/
def manyG (D : Nat) (b : Co) (g : GS) : Bool := g.code.any farI || (decide (400 < g.code.length) || (decide (120 < g.ints.length) || (decide (120 < g.texts.length) || decide (60 < needsG D b))))
def genL (D : Nat) (lets : Int) : List Fu → Nat → List Int → List ByteArray → List Bd → Cd × Int × Int
  | [], _, is, ts, bs => if codeF ⟨bs, is, ts, lets⟩ = 0 then (⟨bs, is, ts, lets⟩, 0, 0) else (default, 0, 1)
  | f :: r, n, is, ts, bs =>
    let g := expG D f.body true ⟨[], is, ts⟩
    if manyG D f.body g then (default, n, 16) else genL D lets r (n + 1) g.ints g.texts (bs ++ [⟨f.kept, f.locals, needsG D f.body, g.code⟩])
theorem genL_nil (D : Nat) (lets : Int) (n : Nat) (is : List Int) (ts : List ByteArray) (bs : List Bd) : genL D lets [] n is ts bs = if codeF ⟨bs, is, ts, lets⟩ = 0 then (⟨bs, is, ts, lets⟩, 0, 0) else (default, 0, 1) := rfl
theorem genL_cons (D : Nat) (lets : Int) (f : Fu) (r : List Fu) (n : Nat) (is : List Int) (ts : List ByteArray) (bs : List Bd) : genL D lets (f :: r) n is ts bs =
    if manyG D f.body (expG D f.body true ⟨[], is, ts⟩) then (default, (n : Int), 16) else genL D lets r (n + 1) (expG D f.body true ⟨[], is, ts⟩).ints (expG D f.body true ⟨[], is, ts⟩).texts (bs ++ [⟨f.kept, f.locals, needsG D f.body, (expG D f.body true ⟨[], is, ts⟩).code⟩]) := rfl
def genF (D : Nat) (l : List Fu) (lets : Int) : Cd × Int × Int := genL D lets l 0 [] [] []
/-! What the law asks about: a core cut (few kids, so deep). -/
end Go.AL
set_option linter.all false
namespace Go.AL
def liveX : Co := .mk 1 1 ⟨#[]⟩ [] []
def liveF : Fu := ⟨0, 0, .mk 14 0 ⟨#[43]⟩ [liveX, liveX] []⟩
def liveC : Cd := ⟨[⟨0, 0, 2, [⟨1, 0, 0⟩, ⟨1, 0, 0⟩, ⟨19, 0, 0⟩, ⟨15, 0, 0⟩]⟩], [1], [], 0⟩
theorem live_gen : genF 3 [liveF] 0 = (liveC, 0, 0) := by
  have h1 : expG 3 liveF.body true ⟨[], [], []⟩ = ⟨[⟨1, 0, 0⟩, ⟨1, 0, 0⟩, ⟨19, 0, 0⟩, ⟨15, 0, 0⟩], [1], []⟩ := by rfl
  have h2 : needsG 3 liveF.body = 2 := by rfl
  have h3 : codeF liveC = 0 := by decide +kernel
  unfold genF
  rw [genL_cons, h1]
  have h4 : manyG 3 liveF.body ⟨[⟨1, 0, 0⟩, ⟨1, 0, 0⟩, ⟨19, 0, 0⟩, ⟨15, 0, 0⟩], [1], []⟩ = false := by unfold manyG; rw [h2]; decide
  rw [h4, if_neg Bool.false_ne_true, genL_nil, h2]
  have h5 : codeF ⟨[] ++ [⟨liveF.kept, liveF.locals, 2, [⟨1, 0, 0⟩, ⟨1, 0, 0⟩, ⟨19, 0, 0⟩, ⟨15, 0, 0⟩]⟩], [1], [], 0⟩ = 0 := h3
  rw [if_pos h5]
  rfl
end Go.AL
set_option linter.all false
namespace Go.AL
def leafC (m : Int) : Co := .mk 1 m ⟨#[]⟩ [] []
def manyX (g : GR) (base : Nat) : GR := if 400 < base then { g with many := true } else g
theorem manyC_succ (kind n : Nat) : manyC kind (n + 1) = if kind = 1 then .mk 14 0 ⟨⟨[43]⟩⟩ [leafC ((n + 1 : Int) * (kind / 2 : Nat)), manyC kind n] [] else .mk 15 0 ⟨#[]⟩ [leafC ((n + 1 : Int) * (kind / 2 : Nat)), manyC kind n] [] := rfl
theorem expR_leaf (d : Nat) (m : Int) (base : Nat) (last : Bool) (g : GR) : expR (d + 1) (leafC m) base last g =
    if (manyX g base).many then ([], manyX g base) else (if last then [⟨1, (intR m (manyX g base)).1, 0⟩, ⟨15, 0, 0⟩] else [⟨1, (intR m (manyX g base)).1, 0⟩], (intR m (manyX g base)).2) := rfl
theorem expR_seq (d kind n : Nat) (hk : kind ≠ 1) (base : Nat) (last : Bool) (g : GR) : expR (d + 1) (manyC kind (n + 1)) base last g =
    if (manyX g base).many then ([], manyX g base) else
      let x := expR d (leafC ((n + 1 : Int) * (kind / 2 : Nat))) base false (manyX g base)
      let y := expR d (manyC kind n) (base + (x.1 ++ [(⟨9, 0, 0⟩ : In)]).length) last x.2
      ((x.1 ++ [⟨9, 0, 0⟩]) ++ y.1, y.2) := by
  rw [manyC_succ, if_neg hk]
  rfl
theorem expR_op (d n : Nat) (base : Nat) (last : Bool) (g : GR) : expR (d + 1) (manyC 1 (n + 1)) base last g =
    if (manyX g base).many then ([], manyX g base) else
      let x := expR d (leafC ((n + 1 : Int) * (1 / 2 : Nat))) base false (manyX g base)
      let y := expR d (manyC 1 n) (base + x.1.length) false x.2
      (if last then ((x.1 ++ y.1) ++ [⟨19, 0, 0⟩]) ++ [⟨15, 0, 0⟩] else (x.1 ++ y.1) ++ [⟨19, 0, 0⟩], y.2) := rfl
theorem intR_len (m : Int) (g : GR) : (intR m g).2.ints.length ≤ g.ints.length + 1 := by
  unfold intR; split <;> simp
theorem manyX_ints (g : GR) (base : Nat) : (manyX g base).ints = g.ints := by unfold manyX; split <;> rfl
theorem leaf_len (d : Nat) (m : Int) (base : Nat) (last : Bool) (g : GR) : (expR (d + 1) (leafC m) base last g).1.length ≤ 2 ∧ (expR (d + 1) (leafC m) base last g).2.ints.length ≤ g.ints.length + 1 := by
  rw [expR_leaf]
  split
  · rw [manyX_ints]; simp
  · have := intR_len m (manyX g base)
    rw [manyX_ints] at this
    cases last <;> simp <;> exact this
theorem many_len (kind : Nat) : ∀ (n d base : Nat) (last : Bool) (g : GR), n < d → (expR d (manyC kind n) base last g).1.length ≤ 4 * n + 2 ∧ (expR d (manyC kind n) base last g).2.ints.length ≤ g.ints.length + (n + 1)
  | 0, d + 1, base, last, g, _ => leaf_len d 0 base last g
  | n + 1, d + 1 + 1, base, last, g, h => by
    by_cases hk : kind = 1
    · subst hk
      rw [expR_op]
      split
      · rw [manyX_ints]; simp
      · have a := leaf_len d ((n + 1 : Int) * (1 / 2 : Nat)) base false (manyX g base)
        rw [manyX_ints] at a
        simp only
        have b := many_len 1 n (d + 1) (base + (expR (d + 1) (leafC ((n + 1 : Int) * (1 / 2 : Nat))) base false (manyX g base)).1.length) false (expR (d + 1) (leafC ((n + 1 : Int) * (1 / 2 : Nat))) base false (manyX g base)).2 (by omega)
        constructor
        · cases last <;> simp only [Bool.false_eq_true, if_true, if_false, List.length_append, List.length_cons, List.length_nil] <;> omega
        · omega
    · rw [expR_seq _ _ _ hk]
      split
      · rw [manyX_ints]; simp
      · have a := leaf_len d ((n + 1 : Int) * (kind / 2 : Nat)) base false (manyX g base)
        rw [manyX_ints] at a
        simp only
        have b := many_len kind n (d + 1) (base + ((expR (d + 1) (leafC ((n + 1 : Int) * (kind / 2 : Nat))) base false (manyX g base)).1 ++ [(⟨9, 0, 0⟩ : In)]).length) last (expR (d + 1) (leafC ((n + 1 : Int) * (kind / 2 : Nat))) base false (manyX g base)).2 (by omega)
        constructor
        · simp only [List.length_append, List.length_cons, List.length_nil] at b ⊢; omega
        · omega
/-! Whole. -/
def manyRB (D : Nat) (b : Co) (l : List In) (g : GR) : Bool := l.any farI || (g.many || (decide (400 < l.length) || (decide (120 < g.ints.length) || (decide (120 < g.texts.length) || decide (60 < needsG D b)))))
/-- One function's code, as the document makes it. -/
def refG (D : Nat) (b : Co) : Cd × Int × Int :=
  let x := expR D b 0 true ⟨[], [], false⟩
  if manyRB D b x.1 x.2 then (default, 0, 16) else
    let c : Cd := ⟨[⟨0, 0, needsG D b, x.1⟩], x.2.ints, x.2.texts, 0⟩
    if refF c = 0 then (c, 0, 0) else (default, 0, 1)
theorem intR_texts (m : Int) (g : GR) : (intR m g).2.texts = g.texts ∧ (intR m g).2.many = g.many := by unfold intR; split <;> exact ⟨rfl, rfl⟩
theorem manyX_texts (g : GR) (base : Nat) : (manyX g base).texts = g.texts := by unfold manyX; split <;> rfl
theorem leaf_texts (d : Nat) (m : Int) (base : Nat) (last : Bool) (g : GR) : (expR (d + 1) (leafC m) base last g).2.texts = g.texts := by
  rw [expR_leaf]
  split
  · exact manyX_texts g base
  · exact (intR_texts m _).1.trans (manyX_texts g base)
theorem many_texts (kind : Nat) : ∀ (n d base : Nat) (last : Bool) (g : GR), n < d → (expR d (manyC kind n) base last g).2.texts = g.texts
  | 0, d + 1, base, last, g, _ => leaf_texts d 0 base last g
  | n + 1, d + 1 + 1, base, last, g, h => by
    by_cases hk : kind = 1
    · subst hk
      rw [expR_op]
      split
      · exact manyX_texts g base
      · simp only
        rw [many_texts 1 n (d + 1) _ _ _ (by omega), leaf_texts, manyX_texts]
    · rw [expR_seq _ _ _ hk]
      split
      · exact manyX_texts g base
      · simp only
        rw [many_texts kind n (d + 1) _ _ _ (by omega), leaf_texts, manyX_texts]
/-- Both make the same of it. -/
theorem gen_ref (kind n D : Nat) (h : n < D) : genF D [⟨0, 0, manyC kind n⟩] 0 = refG D (manyC kind n) := by
  have hT := many_law kind n D h
  have htx := many_texts kind n D 0 true ⟨[], [], false⟩ h
  unfold refG genF
  rw [genL_cons]
  simp only
  obtain ⟨g, hg⟩ : ∃ g, expG D (manyC kind n) true ⟨[], [], []⟩ = g := ⟨_, rfl⟩
  obtain ⟨x, hx⟩ : ∃ x, expR D (manyC kind n) 0 true ⟨[], [], false⟩ = x := ⟨_, rfl⟩
  rw [hg, hx] at hT
  rw [hx] at htx
  rw [hg, hx]
  rcases hT with ⟨h1, h2, h3, h4, h5⟩ | ⟨h1, h2⟩
  · rw [List.nil_append] at h3
    have e : manyG D (manyC kind n) g = manyRB D (manyC kind n) x.1 x.2 := by
      unfold manyG manyRB
      rw [h2, h3, h4, h5, htx]
      rfl
    rw [e]
    split
    · rfl
    · rw [genL_nil, ← code_law, h3, h4, h5, htx]
      rfl
  · have e1 : manyG D (manyC kind n) g = true := by unfold manyG; simp [h1]
    have e2 : manyRB D (manyC kind n) x.1 x.2 = true := by
      unfold manyRB
      rcases h2 with h2 | h2
      · simp [h2]
      · have : 400 < x.1.length := by simpa using h2
        simp [this]
    rw [e1, e2, if_pos rfl, if_pos rfl]
    rfl
end Go.AL
