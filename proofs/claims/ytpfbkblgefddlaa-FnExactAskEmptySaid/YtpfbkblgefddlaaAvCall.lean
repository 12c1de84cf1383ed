/- Calls: what is asked of a contract, and how a caller uses it. -/
import Derived.Test.YtpfbkblgefddlaaAvOps4
namespace Go.Proofs.Ytpfbkblgefddlaa.Av
set_option linter.unusedSimpArgs false
set_option linter.unusedVariables false
open Go

theorem getElem?_mapIds (f : Nat → Option Nat) : ∀ (vs : List AV) (i : Nat), (AV.mapIds f vs)[i]? = (vs[i]?).map (AV.mapId f)
  | [], i => by simp [AV.mapIds]
  | v :: r, 0 => by simp [AV.mapIds]
  | v :: r, i + 1 => by simp [AV.mapIds, getElem?_mapIds f r i]

theorem length_mapIds (f : Nat → Option Nat) : ∀ (vs : List AV), (AV.mapIds f vs).length = vs.length
  | [] => by simp [AV.mapIds]
  | v :: r => by simp [AV.mapIds, length_mapIds f r]

section
variable {P : Program} {w0 : World} {pass own0 : Nat → Prop} {π : Pl} {e : Env} {h : Heap} {n : Nat} {a : Act} {w : World}

theorem Rel.mapId {own own' : Nat → Prop} {π π' : PlF} {N N' : Nat} {f : Nat → Option Nat} (ho : ∀ b, own' b → own b) (hp : ∀ id j p, f id = some j → π id = some p → π' j = some p)
    (hd : ∀ id j, f id = some j → π id = none → id < N → π' j = none ∧ j < N') {x : AV} {v : Value} (h : Rel w own π N x v) : Rel w own' π' N' (x.mapId f) v := by
  have hk : ∀ b, b < w.heap.size → ¬ own b → w.heap[b]? = w.heap[b]? ∧ ¬ own' b := fun b _ h => ⟨rfl, fun g => h (ho b g)⟩
  induction h with
  | top v => exact .top v
  | undef => exact .undef
  | int k n => exact .int k n
  | bool b => exact .bool b
  | str s => exact .str s
  | agg vs cs hl h ih =>
    refine .agg _ cs (by rw [length_mapIds]; exact hl) (fun i x u h1 h2 => ?_)
    rw [getElem?_mapIds] at h1
    obtain ⟨y, hy, rfl⟩ := Option.map_eq_some_iff.1 h1
    exact ih i y u hy h2
  | tup vs cs hl h ih =>
    refine .tup _ cs (by rw [length_mapIds]; exact hl) (fun i x u h1 h2 => ?_)
    rw [getElem?_mapIds] at h1
    obtain ⟨y, hy, rfl⟩ := Option.map_eq_some_iff.1 h1
    exact ih i y u hy h2
  | refLive id off len b cap p hpp hb h1 h2 =>
    simp only [AV.mapId]
    split
    · rename_i j hj; exact .refLive _ _ _ _ _ p (hp id j p hj hpp) hb h1 h2
    · exact .top _
  | refEnd id off o b p hpp hb =>
    simp only [AV.mapId]
    split
    · rename_i j hj; exact .refEnd _ _ _ _ p (hp id j p hj hpp) hb
    · exact .top _
  | refNil id a p hpp hb =>
    simp only [AV.mapId]
    split
    · rename_i j hj; exact .refNil _ a p (hp id j p hj hpp) hb
    · exact .top _
  | refDead id off len v cap hpp hn =>
    simp only [AV.mapId]
    split
    · rename_i j hj; exact .refDead _ _ _ _ _ (hd id j hj hpp hn).1 (hd id j hj hpp hn).2
    · exact .top _
  | snil a => exact .snil a
  | valNil ad cap => exact .valNil ad cap
  | val rows g off cap s us ho' hg hc hm hs hf hu h _ =>
    exact .val rows g off cap s us (hk g hg ho').2 hg hc hm hs hf hu (fun i j row x h1 h2 => (h i j row x h1 h2).free hk (Nat.le_refl _) (freeT_of_free (hf i row x h1 (List.mem_of_getElem? h2))))
  | tmp => exact .top _
  | ptrLive id i off b p hpp hb =>
    simp only [AV.mapId]
    split
    · rename_i j hj; exact .ptrLive _ _ _ _ p (hp id j p hj hpp) hb
    · exact .top _
  | ptrDead id i off v hpp hn =>
    simp only [AV.mapId]
    split
    · rename_i j hj; exact .ptrDead _ _ _ _ (hd id j hj hpp hn).1 (hd id j hj hpp hn).2
    · exact .top _
  | rptr row off g o us ho' hg hf hu h _ =>
    exact .rptr row off g o us (hk g hg ho').2 hg hf hu (fun j x h1 => (h j x h1).free hk (Nat.le_refl _) (hf x (List.mem_of_getElem? h1)))
  | pnil => exact .pnil
  | fn g caps cs hl h ih =>
    refine .fn g _ cs (by rw [length_mapIds]; exact hl) (fun i x u h1 h2 => ?_)
    rw [getElem?_mapIds] at h1
    obtain ⟨y, hy, rfl⟩ := Option.map_eq_some_iff.1 h1
    exact ih i y u hy h2
  | fnil => exact .fnil
  | maybe c d b h1 h2 => exact .maybe c d b h1 h2

theorem ArrAt.less {own own' : Nat → Prop} {π π' : PlF} {N N' : Nat} (ho : ∀ b, own' b → own b) {p : Place} {s : Nat} {rows : List (List AV)} (h : ArrAt w own π N p s rows) : ArrAt w own' π' N' p s rows := by
  obtain ⟨h1, h2, h3⟩ := h
  refine ⟨h1, h2, ?_⟩
  cases hb : p.blk with
  | none => simpa [hb] using h3
  | some b =>
    simp only [hb] at h3 ⊢
    obtain ⟨cur, e, g1, g2, g3, g4, g5⟩ := h3
    refine ⟨cur, e, g1, g2, g3, g4, fun i j row x u a1 a2 a3 => ?_⟩
    exact (g5 i j row x u a1 a2 a3).free (fun b _ h => ⟨rfl, fun g => h (ho b g)⟩) (Nat.le_refl _) (freeT_of_free ((h2 i row a1).2 x (List.mem_of_getElem? a2)))

theorem OwnAt.less {own own' : Nat → Prop} {π π' : Pl} {N N' id id' i j z : Nat} {rs : List (List AV)} {u : Value} (ho : ∀ b, own' b → own b) (hh : ∀ b, π.hid b = some (id, i, j) → π'.hid b = some (id', i, j)) (h : OwnAt w own π N id i j z rs u) :
    OwnAt w own' π' N' id' i j z rs u := by
  rcases h with h | ⟨q, b, cap, h1, h2, h3, h4, h5, h6⟩
  · exact .inl h
  · exact .inr ⟨q, b, cap, h1, hh b h2, h3, h4, h5, h6.less ho⟩

theorem seal_mapIds {f : Nat → Option Nat} {row : List AV} (h : ∀ x ∈ row, x.sld) : AV.mapIds f row = row := by
  induction row with
  | nil => simp [AV.mapIds]
  | cons x r ih =>
    have hx := h x (by simp)
    simp only [AV.mapIds]
    rw [ih (fun y hy => h y (by simp [hy]))]
    congr 1
    cases x <;> simp [AV.sld, AV.free] at hx <;> simp [AV.mapId]
    rename_i fn caps
    subst hx
    simp [AV.mapIds]

theorem ObjAt.mapId {own own' : Nat → Prop} {π π' : Pl} {N N' id id' : Nat} {f : Nat → Option Nat} (ho : ∀ b, own' b → own b) (hp : ∀ id j p, f id = some j → π id = some p → π' j = some p)
    (hd : ∀ id j, f id = some j → π id = none → id < N → π' j = none ∧ j < N') (hh : ∀ b i j, π.hid b = some (id, i, j) → π'.hid b = some (id', i, j)) {p : Place} {o : AObj} (h : ObjAt w own π N id p o) : ObjAt w own' π' N' id' p (o.mapId f) := by
  have key : ∀ s rows, NstAt w own π N id p s rows → NstAt w own' π' N' id' p s (rows.map (AV.mapIds f)) := by
    rintro s rows ⟨h1, h2, h3⟩
    refine ⟨h1, fun i row hr => ?_, ?_⟩
    · simp only [List.getElem?_map, Option.map_eq_some_iff] at hr
      obtain ⟨row0, hr0, rfl⟩ := hr
      rw [length_mapIds]; exact h2 i row0 hr0
    cases hb : p.blk with
    | none => simp only [hb] at h3; subst h3; rfl
    | some b =>
      simp only [hb] at h3 ⊢
      obtain ⟨cur, e, g1, g2, g3, g4, g5⟩ := h3
      refine ⟨cur, e, g1, g2, by simpa using g3, g4, fun i j row x u a1 a2 a3 => ?_⟩
      simp only [List.getElem?_map, Option.map_eq_some_iff] at a1
      obtain ⟨row0, hr0, rfl⟩ := a1
      rw [getElem?_mapIds] at a2
      obtain ⟨x0, hx0, rfl⟩ := Option.map_eq_some_iff.1 a2
      have hc := g5 i j row0 x0 u hr0 hx0 a3
      by_cases hl : x0.lone = true
      · refine (cellAt_lone ?_).2 (((cellAt_lone hl).1 hc).mapId ho hp hd)
        cases x0 <;> simp only [AV.mapId] <;> first | rfl | (split <;> rfl) | (simp [AV.lone] at hl)
      · cases x0 <;> simp [AV.lone] at hl
        exact OwnAt.less ho (fun b hb => hh b i j hb) hc
  cases o with
  | box row =>
    obtain ⟨b, cur, e, h1, h2, h3, h4⟩ := h
    refine ⟨b, cur, e, h1, h2, by rw [length_mapIds]; exact h3, fun j x u hx hu => ?_⟩
    rw [getElem?_mapIds] at hx
    obtain ⟨y, hy, rfl⟩ := Option.map_eq_some_iff.1 hx
    exact (h4 j y u hy hu).mapId ho hp hd
  | arr s rows => exact ArrAt.less ho h
  | nst s rows =>
    have hk := key s rows h.1
    have e : rows.map (AV.mapIds f) = rows := by
      conv => rhs; rw [← List.map_id rows]
      refine List.map_congr_left fun row hr => ?_
      obtain ⟨i, hi⟩ := List.getElem?_of_mem hr
      exact seal_mapIds (h.2 i row hi)
    rw [e] at hk
    exact ⟨hk, h.2⟩
  | arx s rows => exact key s rows h

def Rels (w : World) (own : Nat → Prop) (π : PlF) (N : Nat) (xs : List AV) (vs : List Value) : Prop :=
  xs.length = vs.length ∧ ∀ (i : Nat) x v, xs[i]? = some x → vs[i]? = some v → Rel w own π N x v

def noPl : Pl := ⟨fun _ => none, fun _ => none⟩
/-- the blocks of the objects -/
def Pl.has (π : Pl) (b : Nat) : Prop := (∃ id p, π id = some p ∧ p.blk = some b) ∨ (π.hid b).isSome = true
def objsH (objs : List AObj) : Heap := fun id => objs[id]?
def objsO (objs : List (Option AObj)) : Heap := fun id => (objs[id]?).join

structure Ext (w w' : World) (may : Nat → Prop) : Prop where
  os : w'.os = w.os
  tape : w'.tape = w.tape
  output : w'.output = w.output
  size : w.heap.size ≤ w'.heap.size
  kept : ∀ b, b < w.heap.size → ¬ may b → w'.heap[b]? = w.heap[b]?

/-- A function that reads what it is handed, and returns new memory alone. -/
def PureSound (P : Program) (f : Nat) (R : List AV → AV → List AObj → Prop) : Prop :=
  ∀ (w : World) (own : Nat → Prop) (xs : List AV) (vs : Array Value) (r : AV) (objs : List AObj), Rels w own noPl 0 xs vs.toList → R xs r objs →
    Calls P f vs w fun e w' => ∃ v π, e = .returned v ∧ Ext w w' (fun _ => False) ∧ HSim (· < w.heap.size) π (objsH objs) objs.length w' ∧ Rel w' (ownOf (· < w.heap.size) π) π objs.length r v

def GFun := List AV → List AObj → (AV → List (Option AObj) → Prop) → Prop

/-- A function that is handed k own objects. -/
def GenSound (P : Program) (f k : Nat) (G : GFun) : Prop :=
  ∀ (w : World) (own0 : Nat → Prop) (π : Pl) (objs : List AObj) (xs : List AV) (vs : Array Value) (Q : AV → List (Option AObj) → Prop), objs.length = k → HSim own0 π (objsH objs) k w →
    Rels w (ownOf own0 π) π k xs vs.toList → G xs objs Q →
    Calls P f vs w fun e w' => ∃ v π' r out, e = .returned v ∧ Q r out ∧ k ≤ out.length ∧ Ext w w' π.has ∧
      (∀ id p, π id = some p → π' id = some p ∨ π' id = none) ∧ (∀ b, π'.has b → w.heap.size ≤ b ∨ π.has b) ∧
      HSim own0 π' (objsO out) out.length w' ∧ Rel w' (ownOf own0 π') π' out.length r v

/-- nothing of the walk's own in it -/
def AV.freeA : AV → Bool
  | .agg vs => vs.all AV.free
  | v => v.free

/-- A function whose results may lead into what it was handed. -/
def LooseSound (P : Program) (f : Nat) (R : List AV → AV → List AObj → Prop) : Prop :=
  ∀ (w : World) (own : Nat → Prop) (xs : List AV) (vs : Array Value) (r : AV) (objs : List AObj), (∀ b, own b → b < w.heap.size) → Rels w own noPl 0 xs vs.toList → R xs r objs →
    Calls P f vs w fun e w' => ∃ v π, e = .returned v ∧ Ext w w' (fun _ => False) ∧ HSim own π (objsH objs) objs.length w' ∧ (∀ b, π.has b → w.heap.size ≤ b) ∧ Rel w' (ownOf own π) π objs.length r v

inductive Spec where
  | pure (R : List AV → AV → List AObj → Prop)
  | loose (R : List AV → AV → List AObj → Prop)
  | gen (k : Nat) (G : GFun)

def Spec.Sound (P : Program) (f : Nat) : Spec → Prop
  | .pure R => PureSound P f R
  | .loose R => LooseSound P f R
  | .gen k G => GenSound P f k G

def callPure (R : List AV → AV → List AObj → Prop) (args : List AV) (h : Heap) (n : Nat) (K : Kont) : Prop :=
  ∃ r objs, R (args.map (AV.snap h)) r objs ∧ K (r.mapId (shift n)) (addObjs h n (objs.map (AObj.mapId (shift n)))) (n + objs.length)

def callLoose (R : List AV → AV → List AObj → Prop) (args : List AV) (h : Heap) (n : Nat) (K : Kont) : Prop :=
  args.all AV.freeA = true ∧ callPure R args h n K

def callGen (k : Nat) (G : GFun) (args : List AV) (h : Heap) (n : Nat) (K : Kont) : Prop :=
  (reach h args).length = k ∧ (∀ id ∈ reach h args, (h id).isSome = true) ∧
    G (args.map (AV.mapId (place (reach h args)))) ((reach h args).map fun id => ((h id).getD default).mapId (place (reach h args)))
      fun r out => K (r.mapId (unplace (reach h args) n)) (setObjs h n (reach h args) (out.map fun o => o.map (AObj.mapId (unplace (reach h args) n)))) (n + (out.length - k))

def Spec.call : Spec → List AV → Heap → Nat → Kont → Prop
  | .pure R => callPure R
  | .loose R => callLoose R
  | .gen k G => callGen k G

/-! ### a caller of a function that only reads -/

theorem rel_thaw (s : HSim own0 π h n w) {id i j : Nat} {x : AV} {u : Value} (hx : x.sld) (hr : CellAt w (ownOf own0 π) π n id i j x u) : Rel w own0 noPl 0 x.thaw u ∧ x.thaw.free = true := by
  have hk : ∀ b, b < w.heap.size → ¬ ownOf own0 π b → w.heap[b]? = w.heap[b]? ∧ ¬ own0 b := fun b _ h => ⟨rfl, fun g => h (.inl (.inl g))⟩
  by_cases hl : x.lone = true
  · have hr := (cellAt_lone hl).1 hr
    have hf : x.free = true := by cases x <;> first | exact hx | (simp [AV.lone] at hl)
    have ht : x.thaw = x := by cases x <;> first | rfl | (simp [AV.lone] at hl)
    rw [ht]
    exact ⟨hr.free hk (Nat.le_refl _) (freeT_of_free hf), hf⟩
  · cases x <;> simp [AV.lone] at hl
    rename_i z rs
    refine ⟨?_, rfl⟩
    rcases hr with ⟨rfl, ad, rfl⟩ | ⟨q, b, cap, h1, h2, rfl, h4, h5, h6, h7, h8⟩
    · exact .valNil ad 0
    · simp only [h1] at h8
      obtain ⟨cur, e, g1, g2, g3, g4, g5⟩ := h8
      obtain ⟨k1, k2, _, _⟩ := s.hid b _ h2
      have hcell : ∀ (i j : Nat) row x, rs[i]? = some row → row[j]? = some x → w.cell? ⟨b, 0 + (i * z + j), none⟩ = some (cur.getD (i * z + j) Go.undef) ∧ Rel w (ownOf own0 π) π n x (cur.getD (i * z + j) Go.undef) := by
        intro i j row x hr hx
        have hj : j < z := by rw [← (h7 i row hr).1]; exact (List.getElem?_eq_some_iff.1 hx).1
        have hlt : i * z + j < cur.size := by rw [g2]; exact idx_lt (by have := (List.getElem?_eq_some_iff.1 hr).1; omega) hj
        have e1 : cur.getD (i * z + j) Go.undef = cur[i * z + j] := by simp [hlt]
        rw [e1, Nat.zero_add, cell_of_row w b _ cur e (0, 0) g1]
        exact ⟨Array.getElem?_eq_getElem hlt, g5 i j row x _ hr hx (Array.getElem?_eq_getElem hlt)⟩
      exact Rel.val (w := w) (own := own0) (π := noPl) (N := 0) rs b 0 cap z (fun i j => cur.getD (i * z + j) Go.undef) k1 k2 h4 (by omega) (fun i row hr => (h7 i row hr).1) (fun i row x hr hx => (h7 i row hr).2 x hx)
        (fun i j row x hr hx => (hcell i j row x hr hx).1) (fun i j row x hr hx => (hcell i j row x hr hx).2.free hk (Nat.le_refl _) (freeT_of_free ((h7 i row hr).2 x (List.mem_of_getElem? hx))))

theorem rel_snap1 (s : HSim own0 π h n w) {x : AV} {v : Value} (hr : Rel w (ownOf own0 π) π n x v) : Rel w own0 noPl 0 (x.snap1 h) v := by
  have hk : ∀ b, b < w.heap.size → ¬ ownOf own0 π b → w.heap[b]? = w.heap[b]? ∧ ¬ own0 b := fun b _ h => ⟨rfl, fun g => h (.inl (.inl g))⟩
  cases x <;> simp only [AV.snap1] <;> first | exact .top _ | skip
  · cases hr; exact .int _ _
  · cases hr; exact .bool _
  · cases hr; exact .str _
  · rename_i id off len
    split
    · rename_i q rows ho
      split
      · rename_i hle
        obtain ⟨_, p, hp, hq⟩ := s.obj id _ ho
        obtain ⟨hsz, hfr, hbk⟩ := hq
        have hsl : (sub rows off len).length = len := length_sub _ _ _ hle
        cases hr with
        | refLive _ _ _ b cap p' hp' hb h1 h2 =>
          rw [hp] at hp'; cases hp'
          simp only [hb] at hbk
          obtain ⟨cur, e', g1, g2, g3, g4, g5⟩ := hbk
          by_cases hlen0 : len = 0
          · subst hlen0
            have : sub rows off 0 = [] := by simp [sub]
            rw [this]; exact .valNil _ _
          · have hget : ∀ (i : Nat) row, (sub rows off len)[i]? = some row → i < len ∧ rows[off + i]? = some row := by
              intro i row hr
              rw [getElem?_sub] at hr
              split at hr
              · rename_i hi; exact ⟨hi, hr⟩
              · cases hr
            have hcell : ∀ (i j : Nat) row x, (sub rows off len)[i]? = some row → row[j]? = some x → w.cell? ⟨b, off * p.sz + (i * q + j), none⟩ = some (cur.getD ((off + i) * q + j) Go.undef) ∧ Rel w (ownOf own0 π) π n x (cur.getD ((off + i) * q + j) Go.undef) := by
              intro i j row x hr hx
              obtain ⟨hi, h3⟩ := hget i row hr
              have hj : j < q := by rw [← (hfr _ row h3).1]; exact (List.getElem?_eq_some_iff.1 hx).1
              have hlt : (off + i) * q + j < cur.size := by
                rw [g2]; exact idx_lt (by have := (List.getElem?_eq_some_iff.1 h3).1; omega) hj
              have e1 : cur.getD ((off + i) * q + j) Go.undef = cur[(off + i) * q + j] := by simp [hlt]
              rw [e1]
              refine ⟨?_, g5 _ j row x _ h3 hx (Array.getElem?_eq_getElem hlt)⟩
              rw [hsz, ← Nat.add_assoc, ← Nat.add_mul, cell_of_row w b _ cur e' (0, 0) g1]
              exact Array.getElem?_eq_getElem hlt
            have hbo : ¬ own0 b := s.sep id p b hp hb
            have hblt := s.blk_lt hp hb
            have := Rel.val (w := w) (own := own0) (π := noPl) (N := 0) (sub rows off len) b (off * p.sz) cap q (fun i j => cur.getD ((off + i) * q + j) Go.undef) hbo hblt (by omega) (by omega)
              (fun i row hr => (hfr _ row (hget i row hr).2).1) (fun i row x hr hx => (hfr _ row (hget i row hr).2).2 x hx) (fun i j row x hr hx => (hcell i j row x hr hx).1)
              (fun i j row x hr hx => (hcell i j row x hr hx).2.free hk (Nat.le_refl _) (freeT_of_free ((hfr _ row (hget i row hr).2).2 x (List.mem_of_getElem? hx))))
            rwa [hsl] at this
        | refEnd _ _ o b p' hp' hb =>
          have : sub rows off 0 = [] := by simp [sub]
          rw [this]; exact .valNil _ _
        | refNil _ ad p' hp' hb =>
          have : sub rows 0 0 = [] := by simp [sub]
          rw [this]; exact .valNil _ _
        | refDead _ _ _ _ _ hd _ => rw [hp] at hd; cases hd
      · exact .top _
    · rename_i q rows ho
      split
      · rename_i hle
        obtain ⟨_, p, hp, ⟨hsz, hfr, hbk⟩, hseal⟩ := s.obj id _ ho
        have hsl : ((sub rows off len).map (List.map AV.thaw)).length = len := by rw [List.length_map]; exact length_sub _ _ _ hle
        cases hr with
        | refLive _ _ _ b cap p' hp' hb h1 h2 =>
          rw [hp] at hp'; cases hp'
          simp only [hb] at hbk
          obtain ⟨cur, e', g1, g2, g3, g4, g5⟩ := hbk
          by_cases hlen0 : len = 0
          · subst hlen0
            have : sub rows off 0 = [] := by simp [sub]
            rw [this]; exact .valNil _ _
          · have hget : ∀ (i : Nat) row, ((sub rows off len).map (List.map AV.thaw))[i]? = some row → ∃ row0, row = row0.map AV.thaw ∧ rows[off + i]? = some row0 := by
              intro i row hr
              simp only [List.getElem?_map, Option.map_eq_some_iff] at hr
              obtain ⟨row0, hr, rfl⟩ := hr
              rw [getElem?_sub] at hr
              split at hr
              · exact ⟨row0, rfl, hr⟩
              · cases hr
            have hcell : ∀ (i j : Nat) row x, ((sub rows off len).map (List.map AV.thaw))[i]? = some row → row[j]? = some x → w.cell? ⟨b, off * p.sz + (i * q + j), none⟩ = some (cur.getD ((off + i) * q + j) Go.undef) ∧ Rel w own0 noPl 0 x (cur.getD ((off + i) * q + j) Go.undef) ∧ x.free = true := by
              intro i j row x hr hx
              obtain ⟨row0, rfl, h3⟩ := hget i row hr
              simp only [List.getElem?_map, Option.map_eq_some_iff] at hx
              obtain ⟨x0, hx0, rfl⟩ := hx
              have hj : j < q := by rw [← hfr _ row0 h3]; exact (List.getElem?_eq_some_iff.1 hx0).1
              have hlt : (off + i) * q + j < cur.size := by
                rw [g2]; exact idx_lt (by have := (List.getElem?_eq_some_iff.1 h3).1; omega) hj
              have e1 : cur.getD ((off + i) * q + j) Go.undef = cur[(off + i) * q + j] := by simp [hlt]
              rw [e1]
              refine ⟨?_, rel_thaw s (hseal _ row0 h3 x0 (List.mem_of_getElem? hx0)) (g5 _ j row0 x0 _ h3 hx0 (Array.getElem?_eq_getElem hlt))⟩
              rw [hsz, ← Nat.add_assoc, ← Nat.add_mul, cell_of_row w b _ cur e' (0, 0) g1]
              exact Array.getElem?_eq_getElem hlt
            have hbo : ¬ own0 b := s.sep id p b hp hb
            have hblt := s.blk_lt hp hb
            have := Rel.val (w := w) (own := own0) (π := noPl) (N := 0) ((sub rows off len).map (List.map AV.thaw)) b (off * p.sz) cap q (fun i j => cur.getD ((off + i) * q + j) Go.undef) hbo hblt (by omega) (by omega)
              (fun i row hr => by obtain ⟨row0, rfl, h3⟩ := hget i row hr; rw [List.length_map]; exact hfr _ row0 h3)
              (fun i row x hr hx => by obtain ⟨j, hj⟩ := List.getElem?_of_mem hx; exact (hcell i j row x hr hj).2.2) (fun i j row x hr hx => (hcell i j row x hr hx).1)
              (fun i j row x hr hx => (hcell i j row x hr hx).2.1)
            rwa [hsl] at this
        | refEnd _ _ o b p' hp' hb =>
          have : sub rows off 0 = [] := by simp [sub]
          rw [this]; exact .valNil _ _
        | refNil _ ad p' hp' hb =>
          have : sub rows 0 0 = [] := by simp [sub]
          rw [this]; exact .valNil _ _
        | refDead _ _ _ _ _ hd _ => rw [hp] at hd; cases hd
      · exact .top _
    · exact .top _
  · cases hr; exact .valNil _ _
  · exact hr.free hk (Nat.le_refl _) rfl
  · exact hr.free hk (Nat.le_refl _) rfl
  · cases hr; exact .pnil
  · split
    · rename_i f caps hc
      cases hr with
      | fn _ _ cs hl _ =>
        have : caps = [] := by simpa using hc
        subst this
        exact .fn f [] cs hl (by simp)
    · exact .top _
  · cases hr; exact .fnil


theorem freeT_snap1 (x : AV) : (x.snap1 h).freeT = true := by
  cases x <;> simp only [AV.snap1] <;> first | rfl | skip
  · split
    · split <;> rfl
    · split <;> rfl
    · rfl
  · split <;> rfl

theorem rel_snap (s : HSim own0 π h n w) {x : AV} {v : Value} (hr : Rel w (ownOf own0 π) π n x v) : Rel w own0 noPl 0 (x.snap h) v := by
  have hk : ∀ b, b < w.heap.size → ¬ ownOf own0 π b → w.heap[b]? = w.heap[b]? ∧ ¬ own0 b := fun b _ h => ⟨rfl, fun g => h (.inl (.inl g))⟩
  cases x <;> simp only [AV.snap] <;> first | exact rel_snap1 s hr | skip
  · rename_i vs
    cases hr with
    | agg _ cs hl hh =>
      refine .agg _ cs (by simpa using hl) (fun i x u h1 h2 => ?_)
      simp only [List.getElem?_map, Option.map_eq_some_iff] at h1
      obtain ⟨y, hy, rfl⟩ := h1
      exact rel_snap1 s (hh i y u hy h2)
  · rename_i id i off
    split
    · rename_i row ho
      split
      · rename_i hi0
        subst hi0
        obtain ⟨p, hp, hq, hv⟩ := ptr_live s hr ho
        obtain ⟨b, cur, e', h1, h2, h3, h4⟩ := hq
        rw [hv b h1, Nat.zero_mul, Nat.zero_add]
        have hbo : ¬ own0 b := s.sep id p b hp h1
        have hblt := s.blk_lt hp h1
        have hc : ∀ (j : Nat) y, row[j]? = some y → w.cell? ⟨b, j, none⟩ = some (cur.getD j Go.undef) ∧ Rel w (ownOf own0 π) π n y (cur.getD j Go.undef) := by
          intro j y hy
          have hlt : j < cur.size := by rw [h3]; exact (List.getElem?_eq_some_iff.1 hy).1
          have e1 : cur.getD j Go.undef = cur[j] := by simp [hlt]
          rw [e1, cell_of_row w b j cur e' (0, 0) h2]
          exact ⟨Array.getElem?_eq_getElem hlt, h4 j y _ hy (Array.getElem?_eq_getElem hlt)⟩
        have := Rel.rptr (w := w) (own := own0) (π := noPl) (N := 0) (row.map (AV.snap1 h)) off b 0 (fun j => cur.getD j Go.undef) hbo hblt
          (fun x hx => by simp only [List.mem_map] at hx; obtain ⟨y, _, rfl⟩ := hx; exact freeT_snap1 y)
          (fun j x hx => by
            simp only [List.getElem?_map, Option.map_eq_some_iff] at hx
            obtain ⟨y, hy, rfl⟩ := hx
            rw [Nat.zero_add]; exact (hc j y hy).1)
          (fun j x hx => by
            simp only [List.getElem?_map, Option.map_eq_some_iff] at hx
            obtain ⟨y, hy, rfl⟩ := hx
            exact rel_snap1 s (hc j y hy).2)
        simpa using this
      · exact .top _
    · rename_i q rows ho
      split
      · rename_i row hrow
        obtain ⟨p, hp, hq, hv⟩ := ptr_live s hr ho
        obtain ⟨hsz, hfr, hbk⟩ := hq
        have hil : i < rows.length := (List.getElem?_eq_some_iff.1 hrow).1
        cases hb : p.blk with
        | none => simp only [hb] at hbk; subst hbk; simp at hil
        | some b =>
          simp only [hb] at hbk
          obtain ⟨cur, e', g1, g2, g3, g4, g5⟩ := hbk
          rw [hv b hb]
          have hbo : ¬ own0 b := s.sep id p b hp hb
          have hblt := s.blk_lt hp hb
          have hc : ∀ (j : Nat) y, row[j]? = some y → w.cell? ⟨b, i * p.sz + j, none⟩ = some (cur.getD (i * q + j) Go.undef) ∧ Rel w (ownOf own0 π) π n y (cur.getD (i * q + j) Go.undef) := by
            intro j y hy
            have hj : j < q := by rw [← (hfr _ row hrow).1]; exact (List.getElem?_eq_some_iff.1 hy).1
            have hlt : i * q + j < cur.size := by rw [g2]; exact idx_lt (by omega) hj
            have e1 : cur.getD (i * q + j) Go.undef = cur[i * q + j] := by simp [hlt]
            rw [e1, hsz, cell_of_row w b _ cur e' (0, 0) g1]
            exact ⟨Array.getElem?_eq_getElem hlt, g5 i j row y _ hrow hy (Array.getElem?_eq_getElem hlt)⟩
          exact Rel.rptr (w := w) (own := own0) (π := noPl) (N := 0) row off b (i * p.sz) (fun j => cur.getD (i * q + j) Go.undef) hbo hblt
            (fun x hx => freeT_of_free ((hfr _ row hrow).2 x hx)) (fun j x hx => (hc j x hx).1)
            (fun j x hx => (hc j x hx).2.free hk (Nat.le_refl _) (freeT_of_free ((hfr _ row hrow).2 x (List.mem_of_getElem? hx))))
      · exact .top _
    · rename_i q rows ho
      split
      · rename_i row hrow
        obtain ⟨p, hp, ⟨⟨hsz, hfr, hbk⟩, hseal⟩, hv⟩ := ptr_live s hr ho
        have hil : i < rows.length := (List.getElem?_eq_some_iff.1 hrow).1
        cases hb : p.blk with
        | none => simp only [hb] at hbk; subst hbk; simp at hil
        | some b =>
          simp only [hb] at hbk
          obtain ⟨cur, e', g1, g2, g3, g4, g5⟩ := hbk
          rw [hv b hb]
          have hbo : ¬ own0 b := s.sep id p b hp hb
          have hblt := s.blk_lt hp hb
          have hc : ∀ (j : Nat) y, (row.map AV.thaw)[j]? = some y → w.cell? ⟨b, i * p.sz + j, none⟩ = some (cur.getD (i * q + j) Go.undef) ∧ Rel w own0 noPl 0 y (cur.getD (i * q + j) Go.undef) ∧ y.free = true := by
            intro j y hy
            simp only [List.getElem?_map, Option.map_eq_some_iff] at hy
            obtain ⟨x0, hx0, rfl⟩ := hy
            have hj : j < q := by rw [← hfr _ row hrow]; exact (List.getElem?_eq_some_iff.1 hx0).1
            have hlt : i * q + j < cur.size := by rw [g2]; exact idx_lt (by omega) hj
            have e1 : cur.getD (i * q + j) Go.undef = cur[i * q + j] := by simp [hlt]
            rw [e1, hsz, cell_of_row w b _ cur e' (0, 0) g1]
            exact ⟨Array.getElem?_eq_getElem hlt, rel_thaw s (hseal _ row hrow x0 (List.mem_of_getElem? hx0)) (g5 i j row x0 _ hrow hx0 (Array.getElem?_eq_getElem hlt))⟩
          exact Rel.rptr (w := w) (own := own0) (π := noPl) (N := 0) (row.map AV.thaw) off b (i * p.sz) (fun j => cur.getD (i * q + j) Go.undef) hbo hblt
            (fun x hx => by obtain ⟨j, hj⟩ := List.getElem?_of_mem hx; exact freeT_of_free (hc j x hj).2.2) (fun j x hx => (hc j x hx).1)
            (fun j x hx => (hc j x hx).2.1)
      · exact .top _
    · exact .top _
    · exact .top _

theorem addObjs_eq : ∀ (objs : List AObj) (h : Heap) (n j : Nat), addObjs h n objs j = if n ≤ j ∧ j < n + objs.length then objs[j - n]? else h j
  | [], h, n, j => by simp [addObjs]; omega
  | o :: r, h, n, j => by
    simp only [addObjs, addObjs_eq r, List.length_cons, Heap.set]
    by_cases h1 : j = n
    · subst h1; rw [if_neg (by omega), if_pos rfl, if_pos (by omega)]; simp
    · by_cases h2 : n + 1 ≤ j ∧ j < n + 1 + r.length
      · rw [if_pos h2, if_pos (by omega)]
        have : j - n = (j - (n + 1)) + 1 := by omega
        rw [this, List.getElem?_cons_succ]
      · rw [if_neg h2, if_neg h1, if_neg (by omega)]

def CallDone (P : Program) (w0 : World) (pass own0 : Nat → Prop) (π : Pl) (n : Nat) (w : World) (f : Nat) (vs : Array Value) (K : Kont) : Prop :=
  Calls P f vs w fun e w' => ∃ v π' x h' n', e = .returned v ∧ Go1 w0 pass own0 π n w π' h' n' w' ∧ Rel w' (ownOf own0 π') π' n' x v ∧ K x h' n'

theorem call_back (s : Sim w0 pass own0 π e h n a w) {w' : World} {ownr : Nat → Prop} {πr : Pl} {objs : List AObj} {r : AV} {v : Value} (E : Ext w w' (fun _ => False)) (H : HSim ownr πr (objsH objs) objs.length w') (hnew : ∀ b, πr.has b → w.heap.size ≤ b)
    (hle : ∀ b, ownOf own0 π b → ownr b) (hrel : Rel w' (ownOf ownr πr) πr objs.length r v) :
    ∃ π', Go1 w0 pass own0 π n w π' (addObjs h n (objs.map (AObj.mapId (shift n)))) (n + objs.length) w' ∧ Rel w' (ownOf own0 π') π' (n + objs.length) (r.mapId (shift n)) v := by
  let π' : Pl := ⟨fun j => if j < n then π j else πr (j - n), fun b => match π.hid b with
    | some k => some k
    | none => (πr.hid b).map fun (k : Nat × Nat × Nat) => (n + k.1, k.2)⟩
  have hat : ∀ j, π' j = if j < n then π j else πr (j - n) := fun _ => rfl
  have hπlt : ∀ {id p}, π id = some p → id < n := fun hp => (s.hs.lt hp).1
  have hπr : ∀ {id p}, πr id = some p → id < objs.length := fun hp => (H.lt hp).1
  have hnewb : ∀ {id p b}, πr id = some p → p.blk = some b → w.heap.size ≤ b := fun hp hb => hnew _ (.inl ⟨_, _, hp, hb⟩)
  have hnewh : ∀ {b k}, πr.hid b = some k → w.heap.size ≤ b ∧ π.hid b = none := by
    intro b k hb
    have h1 := hnew b (.inr (by rw [hb]; rfl))
    refine ⟨h1, ?_⟩
    cases hk : π.hid b with
    | none => rfl
    | some k' => have := (s.hs.hid b k' hk).2.1; omega
  have hhid : ∀ {b k}, π'.hid b = some k → π.hid b = some k ∨ ∃ k0, πr.hid b = some k0 ∧ k = (n + k0.1, k0.2) := by
    intro b k hb
    have hb : (match π.hid b with | some k => some k | none => (πr.hid b).map fun (k : Nat × Nat × Nat) => (n + k.1, k.2)) = some k := hb
    split at hb
    · rename_i k' hk; rw [hk, hb]; exact .inl rfl
    · obtain ⟨k0, h1, h2⟩ := Option.map_eq_some_iff.1 hb
      exact .inr ⟨k0, h1, h2.symm⟩
  have hhid1 : ∀ {b k}, π.hid b = some k → π'.hid b = some k := by
    intro b k hb
    show (match π.hid b with | some k => some k | none => (πr.hid b).map fun (k : Nat × Nat × Nat) => (n + k.1, k.2)) = some k
    rw [hb]
  have hhid2 : ∀ {b : Nat} {k : Nat × Nat × Nat}, πr.hid b = some k → π'.hid b = some (n + k.1, k.2) := by
    intro b k hb
    show (match π.hid b with | some k => some k | none => (πr.hid b).map fun (k : Nat × Nat × Nat) => (n + k.1, k.2)) = _
    rw [(hnewh hb).2, hb]; rfl
  have hown : ∀ b, ownOf own0 π' b → ownOf ownr πr b := by
    rintro b ((h1 | h1) | ⟨id, p, h1, h2⟩)
    · exact .inl (.inl (hle b (.inl (.inl h1))))
    · obtain ⟨k, hk⟩ := Option.isSome_iff_exists.1 h1
      rcases hhid hk with hk | ⟨k0, hk, _⟩
      · exact .inl (.inl (hle b (.inl (.inr (by rw [hk]; rfl)))))
      · exact .inl (.inr (by rw [hk]; rfl))
    · rw [hat] at h1
      split at h1
      · exact .inl (.inl (hle b (.inr ⟨id, p, h1, h2⟩)))
      · exact .inr ⟨_, p, h1, h2⟩
  have hsh : ∀ id j p, shift n id = some j → πr id = some p → π' j = some p := by
    intro id j p h1 h2
    simp only [shift, Option.some.injEq] at h1
    subst h1
    rw [hat, if_neg (by omega), Nat.add_sub_cancel_left]; exact h2
  have hdd : ∀ id j, shift n id = some j → πr id = none → id < objs.length → π' j = none ∧ j < n + objs.length := by
    intro id j h1 h2 h3
    simp only [shift, Option.some.injEq] at h1
    subst h1
    exact ⟨by rw [hat, if_neg (by omega), Nat.add_sub_cancel_left]; exact h2, by omega⟩
  have M : Mono own0 π π' n (n + objs.length) w w' := by
    refine ⟨E.size, fun b hb ho => ⟨E.kept b hb (by simp), ?_⟩, fun id p hp => ⟨.inl ?_, hπlt hp⟩, fun id hp hn => ?_, Nat.le_add_right _ _, E.os, E.tape, E.output⟩
    · rintro ((h1 | h1) | ⟨id, p, h1, h2⟩)
      · exact ho (.inl (.inl h1))
      · obtain ⟨k, hk⟩ := Option.isSome_iff_exists.1 h1
        rcases hhid hk with hk | ⟨k0, hk, _⟩
        · exact ho (.inl (.inr (by rw [hk]; rfl)))
        · have := (hnewh hk).1; omega
      · rw [hat] at h1
        split at h1
        · exact ho (.inr ⟨id, p, h1, h2⟩)
        · have := hnewb h1 h2; omega
    · rw [hat, if_pos (hπlt hp)]; exact hp
    · rw [hat, if_pos hn]; exact hp
  have HS : HSim own0 π' (addObjs h n (objs.map (AObj.mapId (shift n)))) (n + objs.length) w' := by
    refine ⟨?_, ?_, ?_, ?_, fun b hb => Nat.lt_of_lt_of_le (s.hs.old b hb) E.size, ?_⟩
    · intro id hid
      rw [addObjs_eq] at hid
      simp only [List.length_map, List.getElem?_map] at hid
      rw [hat]
      split at hid
      · rename_i hc
        rw [if_neg (by omega)]
        exact H.dom _ (by simpa [objsH] using hid)
      · rename_i hc
        split
        · exact s.hs.dom id hid
        · cases hp : πr (id - n) with
          | none => rfl
          | some p => have := hπr hp; omega
    · intro id o hid
      rw [addObjs_eq] at hid
      simp only [List.length_map, List.getElem?_map] at hid
      split at hid
      · rename_i hc
        obtain ⟨o', ho', rfl⟩ := Option.map_eq_some_iff.1 hid
        obtain ⟨h1, p, h2, h3⟩ := H.obj (id - n) o' ho'
        refine ⟨by omega, p, by rw [hat, if_neg (by omega)]; exact h2, h3.mapId hown hsh hdd (fun b i j hb => ?_)⟩
        rw [hhid2 hb]
        have : n + (id - n) = id := by omega
        rw [this]
      · obtain ⟨h1, p, h2, h3⟩ := s.hs.obj id o hid
        exact ⟨by omega, p, by rw [hat, if_pos h1]; exact h2, h3.mono M (fun b hb => E.kept b (s.hs.blk_lt h2 hb) (by simp)) (fun b i j hb => ⟨E.kept b (s.hs.hid b _ hb).2.1 (by simp), hhid1 hb⟩)⟩
    · intro id id' p p' b h1 h2 h3 h4
      rw [hat] at h1 h2
      split at h1 <;> split at h2
      · exact s.hs.inj id id' p p' b h1 h2 h3 h4
      · have := s.hs.blk_lt h1 h3; have := hnewb h2 h4; omega
      · have := s.hs.blk_lt h2 h4; have := hnewb h1 h3; omega
      · have := H.inj _ _ p p' b h1 h2 h3 h4; omega
    · intro id p b h1 h2
      rw [hat] at h1
      split at h1
      · exact s.hs.sep id p b h1 h2
      · intro h0; have := s.hs.old b h0; have := hnewb h1 h2; omega
    · intro b k hb
      rcases hhid hb with hk | ⟨k0, hk, rfl⟩
      · obtain ⟨g1, g2, g3, g4⟩ := s.hs.hid b k hk
        refine ⟨g1, Nat.lt_of_lt_of_le g2 E.size, by omega, fun id p hp hpb => ?_⟩
        rw [hat] at hp
        split at hp
        · exact g4 id p hp hpb
        · have := hnewb hp hpb; omega
      · obtain ⟨g1, g2, g3, g4⟩ := H.hid b k0 hk
        have hge := (hnewh hk).1
        refine ⟨fun h0 => by have := s.hs.old b h0; omega, g2, by dsimp only; omega, fun id p hp hpb => ?_⟩
        rw [hat] at hp
        split at hp
        · have := s.hs.blk_lt hp hpb; omega
        · exact g4 _ p hp hpb
  refine ⟨π', ⟨M, HS, ?_⟩, hrel.mapId hown hsh hdd⟩
  refine ⟨E.os.trans s.fr.os, E.tape.trans s.fr.tape, E.output.trans s.fr.output, Nat.le_trans s.fr.size E.size, fun b hb hp => ?_, fun id p b h1 h2 => ?_, fun b k hb => ?_⟩
  · exact (E.kept b (Nat.lt_of_lt_of_le hb s.fr.size) (by simp)).trans (s.fr.kept b hb hp)
  · rw [hat] at h1
    split at h1
    · exact s.fr.blk id p b h1 h2
    · exact .inl (Nat.le_trans s.fr.size (hnewb h1 h2))
  · rcases hhid hb with hk | ⟨k0, hk, _⟩
    · exact s.fr.hid b k hk
    · exact .inl (Nat.le_trans s.fr.size (hnewh hk).1)

theorem own_lt (s : HSim own0 π h n w) {b : Nat} (hb : ownOf own0 π b) : b < w.heap.size := by
  rcases hb with (hb | hb) | ⟨id, p, h1, h2⟩
  · exact s.old b hb
  · obtain ⟨k, hk⟩ := Option.isSome_iff_exists.1 hb
    exact (s.hid b k hk).2.1
  · exact s.blk_lt h1 h2

theorem call_pure (s : Sim w0 pass own0 π e h n a w) {f : Nat} {R : List AV → AV → List AObj → Prop} (hf : PureSound P f R) {xs : List AV} {vs : Array Value} (hr : Rels w (ownOf own0 π) π n xs vs.toList) {K : Kont}
    (hk : callPure R xs h n K) : CallDone P w0 pass own0 π n w f vs K := by
  obtain ⟨r, objs, hR, hk⟩ := hk
  refine (hf w own0 (xs.map (AV.snap h)) vs r objs ⟨by simpa using hr.1, fun i x v h1 h2 => ?_⟩ hR).mono ?_
  · simp only [List.getElem?_map, Option.map_eq_some_iff] at h1
    obtain ⟨y, hy, rfl⟩ := h1
    exact rel_snap s.hs (hr.2 i y v hy h2)
  · rintro e' w' ⟨v, πr, rfl, E, H, hrel⟩
    obtain ⟨π', g1, g2⟩ := call_back s E H (fun b hb => by
      rcases hb with ⟨id, p, h1, h2⟩ | hb
      · have := H.sep _ _ _ h1 h2; omega
      · obtain ⟨k, hk⟩ := Option.isSome_iff_exists.1 hb
        have := (H.hid b k hk).1; omega) (fun b hb => own_lt s.hs hb) hrel
    exact ⟨v, π', _, _, _, rfl, g1, g2, hk⟩

theorem rel_snap1_free {own : Nat → Prop} {x : AV} {v : Value} (hf : x.free = true) (hr : Rel w own π n x v) : Rel w own noPl 0 (x.snap1 h) v := by
  cases x <;> simp only [AV.snap1] <;> first | exact .top _ | (exact hr.free_same hf) | (simp [AV.free] at hf; done) | skip
  · cases hr; exact .valNil _ _
  · rename_i f caps
    simp only [AV.free] at hf
    rw [if_pos hf]
    have : caps = [] := by simpa using hf
    subst this
    exact hr.free_same rfl

theorem rel_snap_free {own : Nat → Prop} {x : AV} {v : Value} (hf : x.freeA = true) (hr : Rel w own π n x v) : Rel w own noPl 0 (x.snap h) v := by
  cases x <;> simp only [AV.snap] <;> first | exact rel_snap1_free hf hr | (simp [AV.freeA, AV.free] at hf; done) | skip
  rename_i vs
  cases hr with
  | agg _ cs hl hh =>
    refine .agg _ cs (by simpa using hl) (fun i x u h1 h2 => ?_)
    simp only [List.getElem?_map, Option.map_eq_some_iff] at h1
    obtain ⟨y, hy, rfl⟩ := h1
    simp only [AV.freeA, List.all_eq_true] at hf
    exact rel_snap1_free (hf y (List.mem_of_getElem? hy)) (hh i y u hy h2)

theorem call_loose (s : Sim w0 pass own0 π e h n a w) {f : Nat} {R : List AV → AV → List AObj → Prop} (hf : LooseSound P f R) {xs : List AV} {vs : Array Value} (hr : Rels w (ownOf own0 π) π n xs vs.toList) {K : Kont}
    (hk : callLoose R xs h n K) : CallDone P w0 pass own0 π n w f vs K := by
  obtain ⟨hfree, r, objs, hR, hk⟩ := hk
  refine (hf w (ownOf own0 π) (xs.map (AV.snap h)) vs r objs (fun b hb => own_lt s.hs hb) ⟨by simpa using hr.1, fun i x v h1 h2 => ?_⟩ hR).mono ?_
  · simp only [List.getElem?_map, Option.map_eq_some_iff] at h1
    obtain ⟨y, hy, rfl⟩ := h1
    exact rel_snap_free ((List.all_eq_true.1 hfree) y (List.mem_of_getElem? hy)) (hr.2 i y v hy h2)
  · rintro e' w' ⟨v, πr, rfl, E, H, hnew, hrel⟩
    obtain ⟨π', g1, g2⟩ := call_back s E H hnew (fun b hb => hb) hrel
    exact ⟨v, π', _, _, _, rfl, g1, g2, hk⟩

end
end Go.Proofs.Ytpfbkblgefddlaa.Av
