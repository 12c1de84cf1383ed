/- How abstract values stand for the model's values, and the abstract heap for the world. -/
import Derived.Test.YtpfbkblgefddlaaAvBase
namespace Go.Proofs.Ytpfbkblgefddlaa.Av
set_option linter.unusedSimpArgs false
set_option linter.unusedVariables false
open Go

structure Place where
  blk : Option Nat
  sz : Nat
  cap : Nat

abbrev PlF := Nat → Option Place

/-- where objects lie; to which cell (object, element, cell) a block belongs -/
structure Pl where
  at' : PlF
  hid : Nat → Option (Nat × Nat × Nat)

instance : CoeFun Pl (fun _ => PlF) := ⟨Pl.at'⟩
instance : Coe Pl PlF := ⟨Pl.at'⟩

/-- the blocks that belong to the walk (or to a caller) -/
def ownOf (own0 : Nat → Prop) (π : Pl) (b : Nat) : Prop := (own0 b ∨ (π.hid b).isSome = true) ∨ ∃ id p, π id = some p ∧ p.blk = some b

inductive Rel (w : World) (own : Nat → Prop) (π : PlF) (N : Nat) : AV → Value → Prop where
  | top (v : Value) : Rel w own π N .top v
  | undef : Rel w own π N .undef Go.undef
  | int (k : IntKind) (n : Int) : Rel w own π N (.int k n) (.int k n)
  | bool (b : Bool) : Rel w own π N (.bool b) (.bool b)
  | str (s : List UInt8) : Rel w own π N (.str s) (.string ⟨s.toArray⟩)
  | agg (vs : List AV) (cs : Array Value) (hl : cs.size = vs.length) (h : ∀ (i : Nat) x u, vs[i]? = some x → cs[i]? = some u → Rel w own π N x u) : Rel w own π N (.agg vs) (.agg cs)
  | tup (vs : List AV) (cs : Array Value) (hl : cs.size = vs.length) (h : ∀ (i : Nat) x u, vs[i]? = some x → cs[i]? = some u → Rel w own π N x u) : Rel w own π N (.tup vs) (.tuple cs)
  | refLive (id off len b cap : Nat) (p : Place) (hp : π id = some p) (hb : p.blk = some b) (h1 : len ≤ cap) (h2 : off + cap ≤ p.cap) :
      Rel w own π N (.ref id off len) (.slice (some ⟨b, off * p.sz, none⟩) len cap)
  | refEnd (id off o b : Nat) (p : Place) (hp : π id = some p) (hb : p.blk = some b) : Rel w own π N (.ref id off 0) (.slice (some ⟨b, o, none⟩) 0 0)
  | refNil (id : Nat) (a : Option Addr) (p : Place) (hp : π id = some p) (hb : p.blk = none) : Rel w own π N (.ref id 0 0) (.slice a 0 0)
  | refDead (id off len : Nat) (a : Option Addr) (cap : Nat) (hp : π id = none) (hn : id < N) : Rel w own π N (.ref id off len) (.slice a len cap)
  | snil (a : Option Addr) : Rel w own π N .snil (.slice a 0 0)
  | valNil (a : Option Addr) (cap : Nat) : Rel w own π N (.val []) (.slice a 0 cap)
  | val (rows : List (List AV)) (g off cap s : Nat) (us : Nat → Nat → Value) (ho : ¬ own g) (hg : g < w.heap.size) (hc : rows.length ≤ cap) (hm : rows.length ≤ 9223372036854775807)
      (hs : ∀ (i : Nat) row, rows[i]? = some row → row.length = s)
      (hf : ∀ (i : Nat) row x, rows[i]? = some row → x ∈ row → x.free = true)
      (hu : ∀ (i j : Nat) row x, rows[i]? = some row → row[j]? = some x → w.cell? ⟨g, off + (i * s + j), none⟩ = some (us i j))
      (h : ∀ (i j : Nat) row x, rows[i]? = some row → row[j]? = some x → Rel w own π N x (us i j)) :
      Rel w own π N (.val rows) (.slice (some ⟨g, off, none⟩) rows.length cap)
  | tmp (rows : List (List AV)) (g off cap s : Nat) (us : Nat → Nat → Value) (ho : ¬ own g) (hg : g < w.heap.size) (hc : rows.length ≤ cap) (hm : rows.length ≤ 9223372036854775807)
      (hs : ∀ (i : Nat) row, rows[i]? = some row → row.length = s)
      (hu : ∀ (i j : Nat) row x, rows[i]? = some row → row[j]? = some x → w.cell? ⟨g, off + (i * s + j), none⟩ = some (us i j))
      (h1 : ∀ (i j : Nat) row x, rows[i]? = some row → row[j]? = some x → (us i j).oneCell' = true)
      (h : ∀ (i j : Nat) row x, rows[i]? = some row → row[j]? = some x → Rel w own π N x (us i j)) :
      Rel w own π N (.tmp rows) (.slice (some ⟨g, off, none⟩) rows.length cap)
  | ptrLive (id i off b : Nat) (p : Place) (hp : π id = some p) (hb : p.blk = some b) : Rel w own π N (.ptr id i off) (.pointer (some ⟨b, i * p.sz + off, none⟩))
  | ptrDead (id i off : Nat) (ad : Addr) (hp : π id = none) (hn : id < N) : Rel w own π N (.ptr id i off) (.pointer (some ad))
  | rptr (row : List AV) (off g o : Nat) (us : Nat → Value) (ho : ¬ own g) (hg : g < w.heap.size)
      (hf : ∀ x, x ∈ row → x.freeT = true)
      (hu : ∀ (j : Nat) x, row[j]? = some x → w.cell? ⟨g, o + j, none⟩ = some (us j))
      (h : ∀ (j : Nat) x, row[j]? = some x → Rel w own π N x (us j)) :
      Rel w own π N (.rptr row off) (.pointer (some ⟨g, o + off, none⟩))
  | pnil : Rel w own π N .pnil (.pointer none)
  | fn (f : Nat) (caps : List AV) (cs : Array Value) (hl : cs.size = caps.length) (h : ∀ (i : Nat) x u, caps[i]? = some x → cs[i]? = some u → Rel w own π N x u) : Rel w own π N (.fn f caps) (.func (.func f) #[] cs)
  | fnil : Rel w own π N .fnil .nilFunc
  | maybe (c d : Prop) (b : Bool) (h1 : b = true → c) (h2 : b = false → d) : Rel w own π N (.maybe c d) (.bool b)

/-- From one moment to a later one: what is not the walk's own is as it was, objects do not move but may die. -/
structure Mono (own0 : Nat → Prop) (π π' : Pl) (n n' : Nat) (w w' : World) : Prop where
  size : w.heap.size ≤ w'.heap.size
  kept : ∀ b, b < w.heap.size → ¬ ownOf own0 π b → w'.heap[b]? = w.heap[b]? ∧ ¬ ownOf own0 π' b
  pl : ∀ id p, π id = some p → (π' id = some p ∨ π' id = none) ∧ id < n
  dead : ∀ id, π id = none → id < n → π' id = none
  le : n ≤ n'
  os : w'.os = w.os
  tape : w'.tape = w.tape
  output : w'.output = w.output

theorem Mono.refl {own0 : Nat → Prop} {π : Pl} {n : Nat} {w : World} (h : ∀ id p, π id = some p → id < n) : Mono own0 π π n n w w :=
  ⟨Nat.le_refl _, fun _ _ h => ⟨rfl, h⟩, fun _ _ hp => ⟨.inl hp, h _ _ hp⟩, fun _ h _ => h, Nat.le_refl _, rfl, rfl, rfl⟩

theorem Mono.trans {own0 : Nat → Prop} {π π' π'' : Pl} {n n' n'' : Nat} {w w' w'' : World} (h : Mono own0 π π' n n' w w') (k : Mono own0 π' π'' n' n'' w' w'') : Mono own0 π π'' n n'' w w'' where
  size := Nat.le_trans h.size k.size
  kept b hb ho := by
    obtain ⟨h1, h2⟩ := h.kept b hb ho
    obtain ⟨k1, k2⟩ := k.kept b (Nat.lt_of_lt_of_le hb h.size) h2
    exact ⟨k1.trans h1, k2⟩
  pl id p hp := by
    obtain ⟨h1, h2⟩ := h.pl id p hp
    refine ⟨?_, h2⟩
    rcases h1 with h1 | h1
    · exact (k.pl id p h1).1
    · exact .inr (k.dead id h1 (Nat.lt_of_lt_of_le h2 h.le))
  dead id hp hn := k.dead id (h.dead id hp hn) (Nat.lt_of_lt_of_le hn h.le)
  le := Nat.le_trans h.le k.le
  os := k.os.trans h.os
  tape := k.tape.trans h.tape
  output := k.output.trans h.output

theorem cell?_of_heap {w w' : World} {a : Addr} (h : w'.heap[a.block]? = w.heap[a.block]?) : w'.cell? a = w.cell? a := by simp [World.cell?, h]

theorem Rel.mono {own0 : Nat → Prop} {π π' : Pl} {n n' : Nat} {w w' : World} (m : Mono own0 π π' n n' w w') {x : AV} {v : Value} (h : Rel w (ownOf own0 π) π n x v) :
    Rel w' (ownOf own0 π') π' n' x v := by
  induction h with
  | top v => exact .top v
  | undef => exact .undef
  | int k n => exact .int k n
  | bool b => exact .bool b
  | str s => exact .str s
  | agg vs cs hl _ ih => exact .agg vs cs hl ih
  | tup vs cs hl _ ih => exact .tup vs cs hl ih
  | refLive id off len b cap p hp hb h1 h2 =>
    rcases (m.pl id p hp).1 with h | h
    · exact .refLive id off len b cap p h hb h1 h2
    · exact .refDead id off len _ _ h (Nat.lt_of_lt_of_le (m.pl id p hp).2 m.le)
  | refEnd id off o b p hp hb =>
    rcases (m.pl id p hp).1 with h | h
    · exact .refEnd id off o b p h hb
    · exact .refDead id off 0 _ _ h (Nat.lt_of_lt_of_le (m.pl id p hp).2 m.le)
  | refNil id a p hp hb =>
    rcases (m.pl id p hp).1 with h | h
    · exact .refNil id a p h hb
    · exact .refDead id 0 0 _ _ h (Nat.lt_of_lt_of_le (m.pl id p hp).2 m.le)
  | refDead id off len v cap hp hn => exact .refDead id off len v cap (m.dead id hp hn) (Nat.lt_of_lt_of_le hn m.le)
  | snil a => exact .snil a
  | valNil a cap => exact .valNil a cap
  | val rows g off cap s us ho hg hc hm hs hf hu _ ih =>
    obtain ⟨k1, k2⟩ := m.kept g hg ho
    exact .val rows g off cap s us k2 (Nat.lt_of_lt_of_le hg m.size) hc hm hs hf (fun i j row x h1 h2 => (cell?_of_heap k1).trans (hu i j row x h1 h2)) ih
  | tmp rows g off cap s us ho hg hc hm hs hu ho1 _ ih =>
    obtain ⟨k1, k2⟩ := m.kept g hg ho
    exact .tmp rows g off cap s us k2 (Nat.lt_of_lt_of_le hg m.size) hc hm hs (fun i j row x h1 h2 => (cell?_of_heap k1).trans (hu i j row x h1 h2)) ho1 ih
  | ptrLive id i off b p hp hb =>
    rcases (m.pl id p hp).1 with h | h
    · exact .ptrLive id i off b p h hb
    · exact .ptrDead id i off _ h (Nat.lt_of_lt_of_le (m.pl id p hp).2 m.le)
  | ptrDead id i off v hp hn => exact .ptrDead id i off v (m.dead id hp hn) (Nat.lt_of_lt_of_le hn m.le)
  | rptr row off g o us ho hg hf hu _ ih =>
    obtain ⟨k1, k2⟩ := m.kept g hg ho
    exact .rptr row off g o us k2 (Nat.lt_of_lt_of_le hg m.size) hf (fun j x h1 => (cell?_of_heap k1).trans (hu j x h1)) ih
  | pnil => exact .pnil
  | fn f caps cs hl _ ih => exact .fn f caps cs hl ih
  | fnil => exact .fnil
  | maybe c d b h1 h2 => exact .maybe c d b h1 h2

theorem freeT_of_free {x : AV} (h : x.free = true) : x.freeT = true := by cases x <;> simp_all [AV.freeT, AV.free]

/-- A cell without references stands for what it stands for whatever the objects are. -/
theorem Rel.free {w w' : World} {own own' : Nat → Prop} {π π' : PlF} {n n' : Nat} (hk : ∀ b, b < w.heap.size → ¬ own b → w'.heap[b]? = w.heap[b]? ∧ ¬ own' b) (hs : w.heap.size ≤ w'.heap.size)
    {x : AV} {v : Value} (h : Rel w own π n x v) (hf : x.freeT = true) : Rel w' own' π' n' x v := by
  induction h with
  | top v => exact .top v
  | undef => simp [AV.freeT, AV.free] at hf
  | int k n => exact .int k n
  | bool b => exact .bool b
  | str s => exact .str s
  | agg vs cs hl _ ih => simp [AV.freeT, AV.free] at hf
  | tup vs cs hl _ ih => simp [AV.freeT, AV.free] at hf
  | refLive => simp [AV.freeT, AV.free] at hf
  | refEnd => simp [AV.freeT, AV.free] at hf
  | refNil => simp [AV.freeT, AV.free] at hf
  | refDead => simp [AV.freeT, AV.free] at hf
  | snil a => exact .snil a
  | valNil a cap => exact .valNil a cap
  | val rows g off cap s us ho hg hc hm hs' hf' hu _ ih =>
    obtain ⟨k1, k2⟩ := hk g hg ho
    exact .val rows g off cap s us k2 (Nat.lt_of_lt_of_le hg hs) hc hm hs' hf' (fun i j row x h1 h2 => (cell?_of_heap k1).trans (hu i j row x h1 h2))
      (fun i j row x h1 h2 => ih i j row x h1 h2 (freeT_of_free (hf' i row x h1 (List.mem_of_getElem? h2))))
  | tmp => simp [AV.freeT, AV.free] at hf
  | ptrLive => simp [AV.freeT, AV.free] at hf
  | ptrDead => simp [AV.freeT, AV.free] at hf
  | rptr row off g o us ho hg hf' hu _ ih =>
    obtain ⟨k1, k2⟩ := hk g hg ho
    exact .rptr row off g o us k2 (Nat.lt_of_lt_of_le hg hs) hf' (fun j x h1 => (cell?_of_heap k1).trans (hu j x h1))
      (fun j x h1 => ih j x h1 (hf' x (List.mem_of_getElem? h1)))
  | pnil => exact .pnil
  | fn f caps cs hl h ih =>
    refine .fn f caps cs hl (fun i x u h1 h2 => ?_)
    simp [AV.freeT, AV.free] at hf
    subst hf
    simp at h1
  | fnil => exact .fnil
  | maybe => simp [AV.freeT, AV.free] at hf

theorem Rel.free_same {w : World} {own : Nat → Prop} {π π' : PlF} {n n' : Nat} {x : AV} {v : Value} (h : Rel w own π n x v) (hf : x.free = true) : Rel w own π' n' x v :=
  h.free (fun _ _ h => ⟨rfl, h⟩) (Nat.le_refl _) (freeT_of_free hf)

/-- A row of elements without references lies where its place says. -/
def ArrAt (w : World) (own : Nat → Prop) (π : PlF) (n : Nat) (p : Place) (s : Nat) (rows : List (List AV)) : Prop :=
  p.sz = s ∧ (∀ (i : Nat) row, rows[i]? = some row → row.length = s ∧ ∀ x ∈ row, x.free = true) ∧
      match p.blk with
      | none => rows = []
      | some b => ∃ cur e, w.heap[b]? = some (.cells cur e (0, 0)) ∧ cur.size = p.cap * s ∧ (rows.length ≤ p.cap ∧ rows.length ≤ 140737488355328) ∧ p.cap ≤ maxLen ∧
          ∀ (i j : Nat) row x u, rows[i]? = some row → row[j]? = some x → cur[i * s + j]? = some u → Rel w own π n x u

/-- what a cell that owns rows holds -/
def OwnAt (w : World) (own : Nat → Prop) (π : Pl) (n id i j z : Nat) (rs : List (List AV)) (u : Value) : Prop :=
  (rs = [] ∧ ∃ a, u = .slice a 0 0) ∨ ∃ (q : Place) (b cap : Nat), q.blk = some b ∧ π.hid b = some (id, i, j) ∧ u = .slice (some ⟨b, 0, none⟩) rs.length cap ∧ rs.length ≤ cap ∧ cap ≤ q.cap ∧ ArrAt w own π n q z rs

def CellAt (w : World) (own : Nat → Prop) (π : Pl) (n id i j : Nat) (x : AV) (u : Value) : Prop := match x with
  | .own z rs => OwnAt w own π n id i j z rs u
  | x => Rel w own π n x u

/-- .. of elements that may own rows -/
def NstAt (w : World) (own : Nat → Prop) (π : Pl) (n id : Nat) (p : Place) (s : Nat) (rows : List (List AV)) : Prop :=
  p.sz = s ∧ (∀ (i : Nat) row, rows[i]? = some row → row.length = s) ∧
      match p.blk with
      | none => rows = []
      | some b => ∃ cur e, w.heap[b]? = some (.cells cur e (0, 0)) ∧ cur.size = p.cap * s ∧ (rows.length ≤ p.cap ∧ rows.length ≤ 140737488355328) ∧ p.cap ≤ maxLen ∧
          ∀ (i j : Nat) row x u, rows[i]? = some row → row[j]? = some x → cur[i * s + j]? = some u → CellAt w own π n id i j x u

/-- An object of the walk's own lies where its place says. -/
def ObjAt (w : World) (own : Nat → Prop) (π : Pl) (n id : Nat) (p : Place) : AObj → Prop
  | .box row => ∃ b cur e, p.blk = some b ∧ w.heap[b]? = some (.cells cur e (0, 0)) ∧ cur.size = row.length ∧ ∀ (j : Nat) x u, row[j]? = some x → cur[j]? = some u → Rel w own π n x u
  | .arr s rows => ArrAt w own π n p s rows
  | .nst s rows => NstAt w own π n id p s rows ∧ ∀ (i : Nat) row, rows[i]? = some row → ∀ x ∈ row, x.sld
  | .arx s rows => NstAt w own π n id p s rows

theorem ArrAt.mono {own0 : Nat → Prop} {π π' : Pl} {n n' : Nat} {w w' : World} (m : Mono own0 π π' n n' w w') {p : Place} {s : Nat} {rows : List (List AV)} (h : ArrAt w (ownOf own0 π) π n p s rows)
    (hk : ∀ b, p.blk = some b → w'.heap[b]? = w.heap[b]?) : ArrAt w' (ownOf own0 π') π' n' p s rows := by
  obtain ⟨h0, h1, h2⟩ := h
  refine ⟨h0, h1, ?_⟩
  cases hb : p.blk with
  | none => simpa [hb] using h2
  | some b =>
    simp only [hb] at h2
    obtain ⟨cur, e, g1, g2, g3, g4, g5⟩ := h2
    exact ⟨cur, e, (hk b hb).trans g1, g2, g3, g4, fun i j row x u a1 a2 a3 => (g5 i j row x u a1 a2 a3).mono m⟩

theorem CellAt.mono {own0 : Nat → Prop} {π π' : Pl} {n n' : Nat} {w w' : World} (m : Mono own0 π π' n n' w w') {id id' i j : Nat} {x : AV} {u : Value} (h : CellAt w (ownOf own0 π) π n id i j x u)
    (hh : ∀ b, π.hid b = some (id, i, j) → w'.heap[b]? = w.heap[b]? ∧ π'.hid b = some (id', i, j)) : CellAt w' (ownOf own0 π') π' n' id' i j x u := by
  unfold CellAt at h ⊢
  split
  · rename_i z rs
    rcases h with h | ⟨q, b, cap, h1, h2, h3, h4, h5, h6⟩
    · exact .inl h
    · obtain ⟨k1, k2⟩ := hh b h2
      exact .inr ⟨q, b, cap, h1, k2, h3, h4, h5, h6.mono m (fun b' hb' => by rw [h1] at hb'; cases hb'; exact k1)⟩
  · rename_i hx
    have h : Rel w (ownOf own0 π) π n x u := by
      split at h
      · rename_i z rs; exact absurd rfl (hx z rs)
      · exact h
    exact h.mono m

theorem NstAt.mono {own0 : Nat → Prop} {π π' : Pl} {n n' : Nat} {w w' : World} (m : Mono own0 π π' n n' w w') {id id' : Nat} {p : Place} {s : Nat} {rows : List (List AV)} (h : NstAt w (ownOf own0 π) π n id p s rows)
    (hk : ∀ b, p.blk = some b → w'.heap[b]? = w.heap[b]?) (hh : ∀ b i j, π.hid b = some (id, i, j) → w'.heap[b]? = w.heap[b]? ∧ π'.hid b = some (id', i, j)) : NstAt w' (ownOf own0 π') π' n' id' p s rows := by
  obtain ⟨h0, h1, h2⟩ := h
  refine ⟨h0, h1, ?_⟩
  cases hb : p.blk with
  | none => simpa [hb] using h2
  | some b =>
    simp only [hb] at h2
    obtain ⟨cur, e, g1, g2, g3, g4, g5⟩ := h2
    exact ⟨cur, e, (hk b hb).trans g1, g2, g3, g4, fun i j row x u a1 a2 a3 => (g5 i j row x u a1 a2 a3).mono m (fun b hb => hh b i j hb)⟩

theorem ObjAt.mono {own0 : Nat → Prop} {π π' : Pl} {n n' : Nat} {w w' : World} (m : Mono own0 π π' n n' w w') {id : Nat} {p : Place} {o : AObj} (h : ObjAt w (ownOf own0 π) π n id p o)
    (hk : ∀ b, p.blk = some b → w'.heap[b]? = w.heap[b]?) (hh : ∀ b i j, π.hid b = some (id, i, j) → w'.heap[b]? = w.heap[b]? ∧ π'.hid b = some (id, i, j)) : ObjAt w' (ownOf own0 π') π' n' id p o := by
  cases o with
  | box row =>
    obtain ⟨b, cur, e, h1, h2, h3, h4⟩ := h
    exact ⟨b, cur, e, h1, (hk b h1).trans h2, h3, fun j x u hx hu => (h4 j x u hx hu).mono m⟩
  | arr s rows => exact ArrAt.mono m h hk
  | nst s rows => exact ⟨NstAt.mono m h.1 hk hh, h.2⟩
  | arx s rows => exact NstAt.mono m h hk hh

/-- The abstract heap stands for the world. -/
structure HSim (own0 : Nat → Prop) (π : Pl) (h : Heap) (n : Nat) (w : World) : Prop where
  dom : ∀ id, h id = none → π id = none
  obj : ∀ id o, h id = some o → id < n ∧ ∃ p, π id = some p ∧ ObjAt w (ownOf own0 π) π n id p o
  inj : ∀ id id' p p' b, π id = some p → π id' = some p' → p.blk = some b → p'.blk = some b → id = id'
  sep : ∀ id p b, π id = some p → p.blk = some b → ¬ own0 b
  old : ∀ b, own0 b → b < w.heap.size
  hid : ∀ b k, π.hid b = some k → ¬ own0 b ∧ b < w.heap.size ∧ k.1 < n ∧ ∀ id p, π id = some p → p.blk ≠ some b

theorem HSim.lt {own0 : Nat → Prop} {π : Pl} {h : Heap} {n : Nat} {w : World} (s : HSim own0 π h n w) {id : Nat} {p : Place} (hp : π id = some p) : id < n ∧ ∃ o, h id = some o ∧ ObjAt w (ownOf own0 π) π n id p o := by
  cases ho : h id with
  | none => rw [s.dom id ho] at hp; cases hp
  | some o =>
    obtain ⟨h1, p', h2, h3⟩ := s.obj id o ho
    rw [hp] at h2; cases h2
    exact ⟨h1, o, rfl, h3⟩

theorem ObjAt.blk_lt {w : World} {own : Nat → Prop} {π : Pl} {n id : Nat} {p : Place} {o : AObj} (h : ObjAt w own π n id p o) {b : Nat} (hb : p.blk = some b) : b < w.heap.size := by
  have key : ∀ s rows, NstAt w own π n id p s rows → b < w.heap.size := by
    rintro s rows ⟨_, _, h2⟩
    simp only [hb] at h2
    obtain ⟨cur, e, g1, _⟩ := h2
    exact (Array.getElem?_eq_some_iff.1 g1).1
  cases o with
  | box row =>
    obtain ⟨b', cur, e, h1, h2, _⟩ := h
    rw [hb] at h1; cases h1
    exact (Array.getElem?_eq_some_iff.1 h2).1
  | arr s rows =>
    obtain ⟨_, _, h2⟩ := h
    simp only [hb] at h2
    obtain ⟨cur, e, g1, _⟩ := h2
    exact (Array.getElem?_eq_some_iff.1 g1).1
  | nst s rows => exact key s rows h.1
  | arx s rows => exact key s rows h

theorem HSim.blk_lt {own0 : Nat → Prop} {π : Pl} {h : Heap} {n : Nat} {w : World} (s : HSim own0 π h n w) {id : Nat} {p : Place} {b : Nat} (hp : π id = some p) (hb : p.blk = some b) : b < w.heap.size := by
  obtain ⟨_, o, _, ho⟩ := s.lt hp
  exact ho.blk_lt hb

/-- What the whole call leaves as it was. -/
structure Fr (w0 : World) (pass : Nat → Prop) (π : Pl) (w : World) : Prop where
  os : w.os = w0.os
  tape : w.tape = w0.tape
  output : w.output = w0.output
  size : w0.heap.size ≤ w.heap.size
  kept : ∀ b, b < w0.heap.size → ¬ pass b → w.heap[b]? = w0.heap[b]?
  blk : ∀ id p b, π id = some p → p.blk = some b → w0.heap.size ≤ b ∨ pass b
  hid : ∀ b k, π.hid b = some k → w0.heap.size ≤ b ∨ pass b

/-- The walk's knowledge at a moment. -/
structure Sim (w0 : World) (pass own0 : Nat → Prop) (π : Pl) (e : Env) (h : Heap) (n : Nat) (a : Act) (w : World) : Prop where
  hs : HSim own0 π h n w
  fr : Fr w0 pass π w
  env : ∀ t, Rel w (ownOf own0 π) π n (e t) (a.tmps.getD t Go.undef)

/-- A step of the world that the walk can follow. -/
structure Go1 (w0 : World) (pass own0 : Nat → Prop) (π : Pl) (n : Nat) (w : World) (π' : Pl) (h' : Heap) (n' : Nat) (w' : World) : Prop where
  mono : Mono own0 π π' n n' w w'
  hs : HSim own0 π' h' n' w'
  fr : Fr w0 pass π' w'

theorem Sim.put {w0 : World} {pass own0 : Nat → Prop} {π π' : Pl} {e : Env} {h h' : Heap} {n n' : Nat} {a : Act} {w w' : World} (s : Sim w0 pass own0 π e h n a w)
    (g : Go1 w0 pass own0 π n w π' h' n' w') {x : AV} {v : Value} (hr : Rel w' (ownOf own0 π') π' n' x v) (d : Nat) (hd : d < a.tmps.size) :
    Sim w0 pass own0 π' (e.upd d x) h' n' (a.put (some d) v) w' := by
  refine ⟨g.hs, g.fr, fun t => ?_⟩
  simp only [Env.upd, Act.put]
  by_cases ht : t = d
  · subst ht; simpa [hd] using hr
  · rw [if_neg ht]
    have : (a.tmps.setIfInBounds d v).getD t Go.undef = a.tmps.getD t Go.undef := by
      simp only [Array.getD_eq_getD_getElem?, Array.getElem?_setIfInBounds_ne (Ne.symm ht)]
    rw [this]
    exact (s.env t).mono g.mono

theorem Sim.put_none {w0 : World} {pass own0 : Nat → Prop} {π π' : Pl} {e : Env} {h h' : Heap} {n n' : Nat} {a : Act} {w w' : World} (s : Sim w0 pass own0 π e h n a w)
    (g : Go1 w0 pass own0 π n w π' h' n' w') (v : Value) : Sim w0 pass own0 π' e h' n' (a.put none v) w' :=
  ⟨g.hs, g.fr, fun t => (s.env t).mono g.mono⟩

theorem Sim.stay {w0 : World} {pass own0 : Nat → Prop} {π : Pl} {e : Env} {h : Heap} {n : Nat} {a : Act} {w : World} (s : Sim w0 pass own0 π e h n a w) :
    Go1 w0 pass own0 π n w π h n w :=
  ⟨.refl fun _ _ hp => (s.hs.lt hp).1, s.hs, s.fr⟩


/-! ### three ways in which the world goes on -/

/-- One object more (number n), another one perhaps gone. -/
def plAdd (π : Pl) (kill : Option Nat) (n : Nat) (p : Place) : Pl where
  at' j := if j = n then some p else if kill = some j then none else π j
  hid b := (π.hid b).map fun k => if kill = some k.1 then (n, k.2) else k
theorem plAdd_at (π : Pl) (kill : Option Nat) (n : Nat) (p : Place) (j : Nat) : plAdd π kill n p j = if j = n then some p else if kill = some j then none else π j := rfl
def hpAdd (h : Heap) (kill : Option Nat) (n : Nat) (o : AObj) : Heap := fun j => if j = n then some o else if kill = some j then none else h j

theorem hpAdd_none (h : Heap) (n : Nat) (o : AObj) : hpAdd h none n o = h.set n o := by
  funext j; simp [hpAdd, Heap.set]
theorem hpAdd_some (h : Heap) (id n : Nat) (o : AObj) : hpAdd h (some id) n o = (h.del id).set n o := by
  funext j; simp only [hpAdd, Heap.set, Heap.del, Option.some.injEq, eq_comm (a := id)]

structure Adds (own0 : Nat → Prop) (π : Pl) (h : Heap) (n : Nat) (w : World) (kill : Option Nat) (p : Place) (w' : World) : Prop where
  hs : HSim own0 π h n w
  size : w.heap.size ≤ w'.heap.size
  os : w'.os = w.os
  tape : w'.tape = w.tape
  output : w'.output = w.output
  blk : p.blk = none ∨ p.blk = some w.heap.size ∨ ∃ id q, kill = some id ∧ π id = some q ∧ p.blk = q.blk
  kept : ∀ b, b < w.heap.size → p.blk ≠ some b → w'.heap[b]? = w.heap[b]?

theorem plAdd_hid {π : Pl} {kill : Option Nat} {n : Nat} {p : Place} {b : Nat} {k : Nat × Nat × Nat} (h : (plAdd π kill n p).hid b = some k) : ∃ k0, π.hid b = some k0 ∧ k = if kill = some k0.1 then (n, k0.2) else k0 := by
  obtain ⟨k0, h1, h2⟩ := Option.map_eq_some_iff.1 (show (π.hid b).map _ = some k from h)
  exact ⟨k0, h1, h2.symm⟩
theorem plAdd_hid_some {π : Pl} {kill : Option Nat} {n : Nat} {p : Place} {b : Nat} : ((plAdd π kill n p).hid b).isSome = (π.hid b).isSome := by
  show ((π.hid b).map _).isSome = _
  simp

theorem Adds.ne_hid {own0 : Nat → Prop} {π : Pl} {h : Heap} {n : Nat} {w w' : World} {kill : Option Nat} {p : Place} (a : Adds own0 π h n w kill p w') {b : Nat} {k : Nat × Nat × Nat} (hb : π.hid b = some k) : p.blk ≠ some b := by
  obtain ⟨_, h2, _, h4⟩ := a.hs.hid b k hb
  intro hp
  rcases a.blk with h1 | h1 | ⟨id, q, _, h5, h6⟩
  · rw [h1] at hp; cases hp
  · rw [h1] at hp; cases hp; omega
  · exact h4 id q h5 (h6 ▸ hp)

theorem Adds.mono {own0 : Nat → Prop} {π : Pl} {h : Heap} {n : Nat} {w w' : World} {kill : Option Nat} {p : Place} (a : Adds own0 π h n w kill p w') :
    Mono own0 π (plAdd π kill n p) n (n + 1) w w' where
  size := a.size
  kept b hb ho := by
    have hne : p.blk ≠ some b := by
      intro hp
      rcases a.blk with h1 | h1 | ⟨id, q, _, h2, h3⟩
      · rw [h1] at hp; cases hp
      · rw [h1] at hp; cases hp; omega
      · exact ho (.inr ⟨id, q, h2, h3 ▸ hp⟩)
    refine ⟨a.kept b hb hne, ?_⟩
    rintro (h1 | ⟨id, q, h1, h2⟩)
    · rw [plAdd_hid_some] at h1
      exact ho (.inl h1)
    · rw [plAdd_at] at h1
      split at h1
      · cases h1; exact hne h2
      · split at h1
        · cases h1
        · exact ho (.inr ⟨id, q, h1, h2⟩)
  pl id q hq := by
    have hlt := (a.hs.lt hq).1
    refine ⟨?_, hlt⟩
    simp only [plAdd_at]
    rw [if_neg (by omega)]
    split
    · exact .inr rfl
    · exact .inl hq
  dead id hq hn := by
    rw [plAdd_at]
    rw [if_neg (by omega)]
    split
    · rfl
    · exact hq
  le := Nat.le_succ n
  os := a.os
  tape := a.tape
  output := a.output

theorem Adds.go {w0 : World} {pass own0 : Nat → Prop} {π : Pl} {h : Heap} {n : Nat} {w w' : World} {kill : Option Nat} {p : Place} {o : AObj} (a : Adds own0 π h n w kill p w')
    (fr : Fr w0 pass π w) (ho : ObjAt w' (ownOf own0 (plAdd π kill n p)) (plAdd π kill n p) (n + 1) n p o) :
    Go1 w0 pass own0 π n w (plAdd π kill n p) (hpAdd h kill n o) (n + 1) w' where
  mono := a.mono
  hs := by
    have hlt : ∀ {id q}, π id = some q → id ≠ n := fun hq => Nat.ne_of_lt (a.hs.lt hq).1
    have hinj : ∀ id q b, π id = some q → kill ≠ some id → q.blk = some b → p.blk ≠ some b := by
      intro id q b h1 h2 h3 h4
      rcases a.blk with h5 | h5 | ⟨id', q', h6, h7, h8⟩
      · rw [h5] at h4; cases h4
      · rw [h5] at h4; cases h4
        have := a.hs.blk_lt h1 h3
        omega
      · have := a.hs.inj id id' q q' b h1 h7 h3 (h8 ▸ h4)
        subst this
        exact h2 h6
    refine ⟨?_, ?_, ?_, ?_, ?_, ?_⟩
    · intro id hid
      unfold hpAdd at hid
      rw [plAdd_at]
      split at hid
      · cases hid
      · rename_i hne
        rw [if_neg hne]
        split at hid
        · rename_i hk; rw [if_pos hk]
        · rename_i hk; rw [if_neg hk]; exact a.hs.dom id hid
    · intro id o' hid
      unfold hpAdd at hid
      split at hid
      · rename_i he; subst he; cases hid
        exact ⟨Nat.lt_succ_self _, p, by simp [plAdd], ho⟩
      · rename_i hne
        split at hid
        · cases hid
        · rename_i hk
          obtain ⟨h1, q, h2, h3⟩ := a.hs.obj id o' hid
          refine ⟨Nat.lt_succ_of_lt h1, q, by simp [plAdd, hne, hk, h2], h3.mono a.mono (fun b hb => a.kept b (a.hs.blk_lt h2 hb) (hinj id q b h2 hk hb)) (fun b i j hb => ⟨a.kept b (a.hs.hid b _ hb).2.1 (a.ne_hid hb), ?_⟩)⟩
          show (π.hid b).map _ = _
          rw [hb, Option.map_some, if_neg hk]
    · intro id id' q q' b h1 h2 h3 h4
      rw [plAdd_at] at h1 h2
      split at h1
      · rename_i he
        cases h1
        split at h2
        · rename_i he'; rw [he, he']
        · split at h2
          · cases h2
          · rename_i hk; exact absurd h3 (hinj id' q' b h2 hk h4)
      · split at h1
        · cases h1
        · rename_i hk
          split at h2
          · cases h2; exact absurd h4 (hinj id q b h1 hk h3)
          · split at h2
            · cases h2
            · exact a.hs.inj id id' q q' b h1 h2 h3 h4
    · intro id q b h1 h2
      rw [plAdd_at] at h1
      split at h1
      · cases h1
        rcases a.blk with h5 | h5 | ⟨id', q', h6, h7, h8⟩
        · rw [h5] at h2; cases h2
        · rw [h5] at h2; cases h2
          intro h0; have := a.hs.old _ h0; omega
        · exact a.hs.sep id' q' b h7 (h8 ▸ h2)
      · split at h1
        · cases h1
        · exact a.hs.sep id q b h1 h2
    · intro b hb; exact Nat.lt_of_lt_of_le (a.hs.old b hb) a.size
    · intro b k hb
      obtain ⟨k0, hb0, rfl⟩ := plAdd_hid hb
      obtain ⟨g1, g2, g3, g4⟩ := a.hs.hid b k0 hb0
      refine ⟨g1, Nat.lt_of_lt_of_le g2 a.size, ?_, fun id q hq => ?_⟩
      · split
        · exact Nat.lt_succ_self n
        · exact Nat.lt_succ_of_lt g3
      · rw [plAdd_at] at hq
        split at hq
        · cases hq; exact a.ne_hid hb0
        · split at hq
          · cases hq
          · exact g4 id q hq
  fr := by
    refine ⟨a.os.trans fr.os, a.tape.trans fr.tape, a.output.trans fr.output, Nat.le_trans fr.size a.size, ?_, ?_, ?_⟩
    · intro b hb hp
      have hne : p.blk ≠ some b := by
        intro h4
        rcases a.blk with h5 | h5 | ⟨id', q', h6, h7, h8⟩
        · rw [h5] at h4; cases h4
        · rw [h5] at h4; cases h4; have := fr.size; omega
        · rcases fr.blk id' q' b h7 (h8 ▸ h4) with h | h
          · omega
          · exact hp h
      exact (a.kept b (Nat.lt_of_lt_of_le hb fr.size) hne).trans (fr.kept b hb hp)
    · intro id q b h1 h2
      rw [plAdd_at] at h1
      split at h1
      · cases h1
        rcases a.blk with h5 | h5 | ⟨id', q', h6, h7, h8⟩
        · rw [h5] at h2; cases h2
        · rw [h5] at h2; cases h2; exact .inl fr.size
        · exact fr.blk id' q' b h7 (h8 ▸ h2)
      · split at h1
        · cases h1
        · exact fr.blk id q b h1 h2
    · intro b k hb
      obtain ⟨k0, hb0, _⟩ := plAdd_hid hb
      exact fr.hid b k0 hb0

/-- An object's cells are written. -/
structure Writes (own0 : Nat → Prop) (π : Pl) (h : Heap) (n : Nat) (w : World) (id : Nat) (p : Place) (b : Nat) (w' : World) : Prop where
  hs : HSim own0 π h n w
  hp : π id = some p
  hb : p.blk = some b
  size : w'.heap.size = w.heap.size
  os : w'.os = w.os
  tape : w'.tape = w.tape
  output : w'.output = w.output
  kept : ∀ k, k ≠ b → w'.heap[k]? = w.heap[k]?

theorem Writes.mono {own0 : Nat → Prop} {π : Pl} {h : Heap} {n : Nat} {w w' : World} {id : Nat} {p : Place} {b : Nat} (a : Writes own0 π h n w id p b w') : Mono own0 π π n n w w' where
  size := by rw [a.size]; exact Nat.le_refl _
  kept k _ ho := ⟨a.kept k (fun e => ho (.inr ⟨id, p, a.hp, e ▸ a.hb⟩)), ho⟩
  pl _ _ hq := ⟨.inl hq, (a.hs.lt hq).1⟩
  dead _ hq _ := hq
  le := Nat.le_refl _
  os := a.os
  tape := a.tape
  output := a.output

theorem Writes.go {w0 : World} {pass own0 : Nat → Prop} {π : Pl} {h : Heap} {n : Nat} {w w' : World} {id : Nat} {p : Place} {b : Nat} {o : AObj} (a : Writes own0 π h n w id p b w')
    (fr : Fr w0 pass π w) (ho : ObjAt w' (ownOf own0 π) π n id p o) : Go1 w0 pass own0 π n w π (h.set id o) n w' where
  mono := a.mono
  hs := by
    refine ⟨?_, ?_, a.hs.inj, a.hs.sep, fun k hk => by rw [a.size]; exact a.hs.old k hk, fun k i hk => by rw [a.size]; exact a.hs.hid k i hk⟩
    · intro j hj
      unfold Heap.set at hj
      split at hj
      · cases hj
      · exact a.hs.dom j hj
    · intro j o' hj
      unfold Heap.set at hj
      split at hj
      · rename_i he; subst he; cases hj
        exact ⟨(a.hs.lt a.hp).1, p, a.hp, ho⟩
      · rename_i hne
        obtain ⟨h1, q, h2, h3⟩ := a.hs.obj j o' hj
        exact ⟨h1, q, h2, h3.mono a.mono (fun k hk => a.kept k (fun e => hne (a.hs.inj j id q p b h2 a.hp (e ▸ hk) a.hb))) (fun k i j hk => ⟨a.kept k (fun e => (a.hs.hid k _ hk).2.2.2 id p a.hp (e ▸ a.hb)), hk⟩)⟩
  fr := by
    refine ⟨a.os.trans fr.os, a.tape.trans fr.tape, a.output.trans fr.output, by rw [a.size]; exact fr.size, ?_, fr.blk, fr.hid⟩
    intro k hk hp
    refine (a.kept k ?_).trans (fr.kept k hk hp)
    intro e
    rcases fr.blk id p b a.hp a.hb with h | h
    · omega
    · exact hp (e ▸ h)

end Go.Proofs.Ytpfbkblgefddlaa.Av
