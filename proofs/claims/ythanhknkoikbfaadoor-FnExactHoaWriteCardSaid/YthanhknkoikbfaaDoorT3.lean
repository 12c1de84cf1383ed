/- Part 3 of the proof of FnExactHoaWriteCardSaid: AvCall to AvDrd2. Conditions: none. -/
import Derived.Test.YthanhknkoikbfaaDoorT2
import Derived.MapKept
import Derived.Carry
import Derived.Maps.RangeRun
import Derived.Laws.BytesString
import Derived.Laws.BytesArg
import Derived.Laws.IdiomStrings
import Derived.Laws.Small
import Derived.Laws.StructEq
import Derived.Lib.AppendZerosOnto
import Derived.Orders
set_option linter.unusedSimpArgs false
set_option linter.unusedVariables false
namespace Go.Proofs.YthanhknkoikbfaaDoor.Av
open Go
theorem getElem?_mapIds (f : Nat → Option Nat) : ∀ (vs : List AV) (i : Nat), (AV.mapIds f vs)[i]? = (vs[i]?).map (AV.mapId f)
  | [], i => by simp [AV.mapIds]
  | v :: r, 0 => by simp [AV.mapIds]
  | v :: r, i + 1 => by simp [AV.mapIds, getElem?_mapIds f r i]
theorem length_mapIds (f : Nat → Option Nat) : ∀ (vs : List AV), (AV.mapIds f vs).length = vs.length
  | [] => by simp [AV.mapIds]
  | v :: r => by simp [AV.mapIds, length_mapIds f r]
section
variable {P : Program} {w0 : World} {pass own0 : Nat → Prop} {π : Pl} {e : Env} {h : Heap} {n : Nat} {a : Act} {w : World}
theorem Rel.mapId {own own' : Nat → Prop} {π π' : PlF} {N N' : Nat} {f : Nat → Option Nat} (ho : ∀ b, own' b → own b) (hp : ∀ id j p, f id = some j → π id = some p → π' j = some p)
    (hd : ∀ id j, f id = some j → π id = none → id < N → π' j = none ∧ j < N') {x : AV} {v : Value} (h : Rel w own π N x v) : Rel w own' π' N' (x.mapId f) v := by
  have hk : ∀ b, b < w.heap.size → ¬ own b → w.heap[b]? = w.heap[b]? ∧ ¬ own' b := fun b _ h => ⟨rfl, fun g => h (ho b g)⟩
  induction h with
  | top v => exact .top v
  | undef => exact .undef
  | int k n => exact .int k n
  | bool b => exact .bool b
  | str s => exact .str s
  | agg vs cs hl h ih =>
    refine .agg _ cs (by rw [length_mapIds]; exact hl) (fun i x u h1 h2 => ?_)
    rw [getElem?_mapIds] at h1
    obtain ⟨y, hy, rfl⟩ := Option.map_eq_some_iff.1 h1
    exact ih i y u hy h2
  | tup vs cs hl h ih =>
    refine .tup _ cs (by rw [length_mapIds]; exact hl) (fun i x u h1 h2 => ?_)
    rw [getElem?_mapIds] at h1
    obtain ⟨y, hy, rfl⟩ := Option.map_eq_some_iff.1 h1
    exact ih i y u hy h2
  | refLive id off len b cap p hpp hb h1 h2 =>
    simp only [AV.mapId]
    split
    · rename_i j hj; exact .refLive _ _ _ _ _ p (hp id j p hj hpp) hb h1 h2
    · exact .top _
  | refEnd id off o b p hpp hb =>
    simp only [AV.mapId]
    split
    · rename_i j hj; exact .refEnd _ _ _ _ p (hp id j p hj hpp) hb
    · exact .top _
  | refNil id a p hpp hb =>
    simp only [AV.mapId]
    split
    · rename_i j hj; exact .refNil _ a p (hp id j p hj hpp) hb
    · exact .top _
  | refDead id off len v cap hpp hn =>
    simp only [AV.mapId]
    split
    · rename_i j hj; exact .refDead _ _ _ _ _ (hd id j hj hpp hn).1 (hd id j hj hpp hn).2
    · exact .top _
  | snil a => exact .snil a
  | valNil ad cap => exact .valNil ad cap
  | val rows g off cap s us ho' hg hc hm hs hf hu h _ =>
    exact .val rows g off cap s us (hk g hg ho').2 hg hc hm hs hf hu (fun i j row x h1 h2 => (h i j row x h1 h2).free hk (Nat.le_refl _) (freeT_of_free (hf i row x h1 (List.mem_of_getElem? h2))))
  | tmp => exact .top _
  | ptrLive id i off b p hpp hb =>
    simp only [AV.mapId]
    split
    · rename_i j hj; exact .ptrLive _ _ _ _ p (hp id j p hj hpp) hb
    · exact .top _
  | ptrDead id i off v hpp hn =>
    simp only [AV.mapId]
    split
    · rename_i j hj; exact .ptrDead _ _ _ _ (hd id j hj hpp hn).1 (hd id j hj hpp hn).2
    · exact .top _
  | rptr row off g o us ho' hg hf hu h _ =>
    exact .rptr row off g o us (hk g hg ho').2 hg hf hu (fun j x h1 => (h j x h1).free hk (Nat.le_refl _) (hf x (List.mem_of_getElem? h1)))
  | pnil => exact .pnil
  | fn g caps cs hl h ih =>
    refine .fn g _ cs (by rw [length_mapIds]; exact hl) (fun i x u h1 h2 => ?_)
    rw [getElem?_mapIds] at h1
    obtain ⟨y, hy, rfl⟩ := Option.map_eq_some_iff.1 h1
    exact ih i y u hy h2
  | fnil => exact .fnil
  | maybe c d b h1 h2 => exact .maybe c d b h1 h2
  | mpLive id b p hpp hb =>
    simp only [AV.mapId]
    split
    · rename_i j hj; exact .mpLive _ _ p (hp id j p hj hpp) hb
    · exact .top _
  | mpDead id b hpp hn =>
    simp only [AV.mapId]
    split
    · rename_i j hj; exact .mpDead _ _ (hd id j hj hpp hn).1 (hd id j hj hpp hn).2
    · exact .top _
theorem ArrAt.less {own own' : Nat → Prop} {π π' : PlF} {N N' : Nat} (ho : ∀ b, own' b → own b) {p : Place} {s : Nat} {rows : List (List AV)} (h : ArrAt w own π N p s rows) : ArrAt w own' π' N' p s rows := by
  obtain ⟨h1, h2, h3⟩ := h
  refine ⟨h1, h2, ?_⟩
  cases hb : p.blk with
  | none => simpa [hb] using h3
  | some b =>
    simp only [hb] at h3 ⊢
    obtain ⟨cur, e, g1, g2, g3, g4, g5⟩ := h3
    refine ⟨cur, e, g1, g2, g3, g4, fun i j row x u a1 a2 a3 => ?_⟩
    exact (g5 i j row x u a1 a2 a3).free (fun b _ h => ⟨rfl, fun g => h (ho b g)⟩) (Nat.le_refl _) (freeT_of_free ((h2 i row a1).2 x (List.mem_of_getElem? a2)))
theorem OwnAt.less {own own' : Nat → Prop} {π π' : Pl} {N N' id id' i j z : Nat} {rs : List (List AV)} {u : Value} (ho : ∀ b, own' b → own b) (hh : ∀ b, π.hid b = some (id, i, j) → π'.hid b = some (id', i, j)) (h : OwnAt w own π N id i j z rs u) :
    OwnAt w own' π' N' id' i j z rs u := by
  rcases h with h | ⟨q, b, cap, h1, h2, h3, h4, h5, h6⟩
  · exact .inl h
  · exact .inr ⟨q, b, cap, h1, hh b h2, h3, h4, h5, h6.less ho⟩
theorem seal_mapIds {f : Nat → Option Nat} {row : List AV} (h : ∀ x ∈ row, x.sld) : AV.mapIds f row = row := by
  induction row with
  | nil => simp [AV.mapIds]
  | cons x r ih =>
    have hx := h x (by simp)
    simp only [AV.mapIds]
    rw [ih (fun y hy => h y (by simp [hy]))]
    congr 1
    cases x <;> simp [AV.sld, AV.free] at hx <;> simp [AV.mapId]
    rename_i fn caps
    subst hx
    simp [AV.mapIds]
theorem ObjAt.mapId {own own' : Nat → Prop} {π π' : Pl} {N N' id id' : Nat} {f : Nat → Option Nat} (ho : ∀ b, own' b → own b) (hp : ∀ id j p, f id = some j → π id = some p → π' j = some p)
    (hd : ∀ id j, f id = some j → π id = none → id < N → π' j = none ∧ j < N') (hh : ∀ b i j, π.hid b = some (id, i, j) → π'.hid b = some (id', i, j)) {p : Place} {o : AObj} (h : ObjAt w own π N id p o) : ObjAt w own' π' N' id' p (o.mapId f) := by
  have key : ∀ s rows, NstAt w own π N id p s rows → NstAt w own' π' N' id' p s (rows.map (AV.mapIds f)) := by
    rintro s rows ⟨h1, h2, h3⟩
    refine ⟨h1, fun i row hr => ?_, ?_⟩
    · simp only [List.getElem?_map, Option.map_eq_some_iff] at hr
      obtain ⟨row0, hr0, rfl⟩ := hr
      rw [length_mapIds]; exact h2 i row0 hr0
    cases hb : p.blk with
    | none => simp only [hb] at h3; subst h3; rfl
    | some b =>
      simp only [hb] at h3 ⊢
      obtain ⟨cur, e, g1, g2, g3, g4, g5⟩ := h3
      refine ⟨cur, e, g1, g2, by simpa using g3, g4, fun i j row x u a1 a2 a3 => ?_⟩
      simp only [List.getElem?_map, Option.map_eq_some_iff] at a1
      obtain ⟨row0, hr0, rfl⟩ := a1
      rw [getElem?_mapIds] at a2
      obtain ⟨x0, hx0, rfl⟩ := Option.map_eq_some_iff.1 a2
      have hc := g5 i j row0 x0 u hr0 hx0 a3
      by_cases hl : x0.lone = true
      · refine (cellAt_lone ?_).2 (((cellAt_lone hl).1 hc).mapId ho hp hd)
        cases x0 <;> simp only [AV.mapId] <;> first | rfl | (split <;> rfl) | (simp [AV.lone] at hl)
      · cases x0 <;> simp [AV.lone] at hl
        exact OwnAt.less ho (fun b hb => hh b i j hb) hc
  cases o with
  | box row =>
    obtain ⟨b, cur, e, h1, h2, h3, h4⟩ := h
    refine ⟨b, cur, e, h1, h2, by rw [length_mapIds]; exact h3, fun j x u hx hu => ?_⟩
    rw [getElem?_mapIds] at hx
    obtain ⟨y, hy, rfl⟩ := Option.map_eq_some_iff.1 hx
    exact (h4 j y u hy hu).mapId ho hp hd
  | arr s rows => exact ArrAt.less ho h
  | nst s rows =>
    have hk := key s rows h.1
    have e : rows.map (AV.mapIds f) = rows := by
      conv => rhs; rw [← List.map_id rows]
      refine List.map_congr_left fun row hr => ?_
      obtain ⟨i, hi⟩ := List.getElem?_of_mem hr
      exact seal_mapIds (h.2 i row hi)
    rw [e] at hk
    exact ⟨hk, h.2⟩
  | arx s rows => exact key s rows h
  | map st es => exact h
  | itr st cur left =>
    obtain ⟨b, g, ents, clock, seen, h1, h2, h3, h4, h5⟩ := h
    exact ⟨b, g, ents, clock, seen, h1, h2, fun hg => h3 (ho g hg), h4, h5⟩
def Rels (w : World) (own : Nat → Prop) (π : PlF) (N : Nat) (xs : List AV) (vs : List Value) : Prop :=
  xs.length = vs.length ∧ ∀ (i : Nat) x v, xs[i]? = some x → vs[i]? = some v → Rel w own π N x v
def noPl : Pl := ⟨fun _ => none, fun _ => none⟩
def Pl.has (π : Pl) (b : Nat) : Prop := (∃ id p, π id = some p ∧ p.blk = some b) ∨ (π.hid b).isSome = true
def objsH (objs : List AObj) : Heap := fun id => objs[id]?
def objsO (objs : List (Option AObj)) : Heap := fun id => (objs[id]?).join
structure Ext (w w' : World) (may : Nat → Prop) : Prop where
  os : w'.os = w.os
  tape : TapeLe w w'
  output : w'.output = w.output
  size : w.heap.size ≤ w'.heap.size
  kept : ∀ b, b < w.heap.size → ¬ may b → w'.heap[b]? = w.heap[b]?
def PureSound (P : Program) (f : Nat) (R : List AV → AV → List AObj → Prop) : Prop :=
  ∀ (w : World) (own : Nat → Prop) (xs : List AV) (vs : Array Value) (r : AV) (objs : List AObj), Rels w own noPl 0 xs vs.toList → R xs r objs →
    Calls P f vs w fun e w' => ∃ v π, e = .returned v ∧ Ext w w' (fun _ => False) ∧ HSim (· < w.heap.size) π (objsH objs) objs.length w' ∧ Rel w' (ownOf (· < w.heap.size) π) π objs.length r v
def GFun := List AV → List AObj → (AV → List (Option AObj) → Prop) → Prop
def GenSound (P : Program) (f k : Nat) (G : GFun) : Prop :=
  ∀ (w : World) (own0 : Nat → Prop) (π : Pl) (objs : List AObj) (xs : List AV) (vs : Array Value) (Q : AV → List (Option AObj) → Prop), objs.length = k → HSim own0 π (objsH objs) k w →
    Rels w (ownOf own0 π) π k xs vs.toList → G xs objs Q →
    Calls P f vs w fun e w' => ∃ v π' r out, e = .returned v ∧ Q r out ∧ k ≤ out.length ∧ Ext w w' π.has ∧
      (∀ id p, π id = some p → π' id = some p ∨ π' id = none) ∧ (∀ b, π'.has b → w.heap.size ≤ b ∨ π.has b) ∧
      HSim own0 π' (objsO out) out.length w' ∧ Rel w' (ownOf own0 π') π' out.length r v
def AV.freeA : AV → Bool
  | .agg vs => vs.all AV.free
  | v => v.free
def LooseSound (P : Program) (f : Nat) (R : List AV → AV → List AObj → Prop) : Prop :=
  ∀ (w : World) (own : Nat → Prop) (xs : List AV) (vs : Array Value) (r : AV) (objs : List AObj), (∀ b, own b → b < w.heap.size) → Rels w own noPl 0 xs vs.toList → R xs r objs →
    Calls P f vs w fun e w' => ∃ v π, e = .returned v ∧ Ext w w' (fun _ => False) ∧ HSim own π (objsH objs) objs.length w' ∧ (∀ b, π.has b → w.heap.size ≤ b) ∧ Rel w' (ownOf own π) π objs.length r v
inductive Spec where
  | pure (R : List AV → AV → List AObj → Prop)
  | loose (R : List AV → AV → List AObj → Prop)
  | gen (k : Nat) (G : GFun)
def Spec.Sound (P : Program) (f : Nat) : Spec → Prop
  | .pure R => PureSound P f R
  | .loose R => LooseSound P f R
  | .gen k G => GenSound P f k G
def callPure (R : List AV → AV → List AObj → Prop) (args : List AV) (h : Heap) (n : Nat) (K : Kont) : Prop :=
  ∃ r objs, R (args.map (AV.snap h)) r objs ∧ K (r.mapId (shift n)) (addObjs h n (objs.map (AObj.mapId (shift n)))) (n + objs.length)
def callLoose (R : List AV → AV → List AObj → Prop) (args : List AV) (h : Heap) (n : Nat) (K : Kont) : Prop :=
  args.all AV.freeA = true ∧ callPure R args h n K
def callGen (k : Nat) (G : GFun) (args : List AV) (h : Heap) (n : Nat) (K : Kont) : Prop :=
  (reach h args).length = k ∧ (∀ id ∈ reach h args, (h id).isSome = true) ∧
    G (args.map (AV.mapId (place (reach h args)))) ((reach h args).map fun id => ((h id).getD default).mapId (place (reach h args)))
      fun r out => K (r.mapId (unplace (reach h args) n)) (setObjs h n (reach h args) (out.map fun o => o.map (AObj.mapId (unplace (reach h args) n)))) (n + (out.length - k))
def Spec.call : Spec → List AV → Heap → Nat → Kont → Prop
  | .pure R => callPure R
  | .loose R => callLoose R
  | .gen k G => callGen k G
/-! ### a caller of a function that only reads -/
theorem rel_thaw (s : HSim own0 π h n w) {id i j : Nat} {x : AV} {u : Value} (hx : x.sld) (hr : CellAt w (ownOf own0 π) π n id i j x u) : Rel w own0 noPl 0 x.thaw u ∧ x.thaw.free = true := by
  have hk : ∀ b, b < w.heap.size → ¬ ownOf own0 π b → w.heap[b]? = w.heap[b]? ∧ ¬ own0 b := fun b _ h => ⟨rfl, fun g => h (.inl (.inl g))⟩
  by_cases hl : x.lone = true
  · have hr := (cellAt_lone hl).1 hr
    have hf : x.free = true := by cases x <;> first | exact hx | (simp [AV.lone] at hl)
    have ht : x.thaw = x := by cases x <;> first | rfl | (simp [AV.lone] at hl)
    rw [ht]
    exact ⟨hr.free hk (Nat.le_refl _) (freeT_of_free hf), hf⟩
  · cases x <;> simp [AV.lone] at hl
    rename_i z rs
    refine ⟨?_, rfl⟩
    rcases hr with ⟨rfl, ad, rfl⟩ | ⟨q, b, cap, h1, h2, rfl, h4, h5, h6, h7, h8⟩
    · exact .valNil ad 0
    · simp only [h1] at h8
      obtain ⟨cur, e, g1, g2, g3, g4, g5⟩ := h8
      obtain ⟨k1, k2, _, _⟩ := s.hid b _ h2
      have hcell : ∀ (i j : Nat) row x, rs[i]? = some row → row[j]? = some x → w.cell? ⟨b, 0 + (i * z + j), none⟩ = some (cur.getD (i * z + j) Go.undef) ∧ Rel w (ownOf own0 π) π n x (cur.getD (i * z + j) Go.undef) := by
        intro i j row x hr hx
        have hj : j < z := by rw [← (h7 i row hr).1]; exact (List.getElem?_eq_some_iff.1 hx).1
        have hlt : i * z + j < cur.size := by rw [g2]; exact idx_lt (by have := (List.getElem?_eq_some_iff.1 hr).1; omega) hj
        have e1 : cur.getD (i * z + j) Go.undef = cur[i * z + j] := by simp [hlt]
        rw [e1, Nat.zero_add, cell_of_row w b _ cur e (0, 0) g1]
        exact ⟨Array.getElem?_eq_getElem hlt, g5 i j row x _ hr hx (Array.getElem?_eq_getElem hlt)⟩
      exact Rel.val (w := w) (own := own0) (π := noPl) (N := 0) rs b 0 cap z (fun i j => cur.getD (i * z + j) Go.undef) k1 k2 h4 (by omega) (fun i row hr => (h7 i row hr).1) (fun i row x hr hx => (h7 i row hr).2 x hx)
        (fun i j row x hr hx => (hcell i j row x hr hx).1) (fun i j row x hr hx => (hcell i j row x hr hx).2.free hk (Nat.le_refl _) (freeT_of_free ((h7 i row hr).2 x (List.mem_of_getElem? hx))))
theorem rel_snap1 (s : HSim own0 π h n w) {x : AV} {v : Value} (hr : Rel w (ownOf own0 π) π n x v) : Rel w own0 noPl 0 (x.snap1 h) v := by
  have hk : ∀ b, b < w.heap.size → ¬ ownOf own0 π b → w.heap[b]? = w.heap[b]? ∧ ¬ own0 b := fun b _ h => ⟨rfl, fun g => h (.inl (.inl g))⟩
  cases x <;> simp only [AV.snap1] <;> first | exact .top _ | skip
  · cases hr; exact .int _ _
  · cases hr; exact .bool _
  · cases hr; exact .str _
  · rename_i id off len
    split
    · rename_i q rows ho
      split
      · rename_i hle
        obtain ⟨_, p, hp, hq⟩ := s.obj id _ ho
        obtain ⟨hsz, hfr, hbk⟩ := hq
        have hsl : (sub rows off len).length = len := length_sub _ _ _ hle
        cases hr with
        | refLive _ _ _ b cap p' hp' hb h1 h2 =>
          rw [hp] at hp'; cases hp'
          simp only [hb] at hbk
          obtain ⟨cur, e', g1, g2, g3, g4, g5⟩ := hbk
          by_cases hlen0 : len = 0
          · subst hlen0
            have : sub rows off 0 = [] := by simp [sub]
            rw [this]; exact .valNil _ _
          · have hget : ∀ (i : Nat) row, (sub rows off len)[i]? = some row → i < len ∧ rows[off + i]? = some row := by
              intro i row hr
              rw [getElem?_sub] at hr
              split at hr
              · rename_i hi; exact ⟨hi, hr⟩
              · cases hr
            have hcell : ∀ (i j : Nat) row x, (sub rows off len)[i]? = some row → row[j]? = some x → w.cell? ⟨b, off * p.sz + (i * q + j), none⟩ = some (cur.getD ((off + i) * q + j) Go.undef) ∧ Rel w (ownOf own0 π) π n x (cur.getD ((off + i) * q + j) Go.undef) := by
              intro i j row x hr hx
              obtain ⟨hi, h3⟩ := hget i row hr
              have hj : j < q := by rw [← (hfr _ row h3).1]; exact (List.getElem?_eq_some_iff.1 hx).1
              have hlt : (off + i) * q + j < cur.size := by
                rw [g2]; exact idx_lt (by have := (List.getElem?_eq_some_iff.1 h3).1; omega) hj
              have e1 : cur.getD ((off + i) * q + j) Go.undef = cur[(off + i) * q + j] := by simp [hlt]
              rw [e1]
              refine ⟨?_, g5 _ j row x _ h3 hx (Array.getElem?_eq_getElem hlt)⟩
              rw [hsz, ← Nat.add_assoc, ← Nat.add_mul, cell_of_row w b _ cur e' (0, 0) g1]
              exact Array.getElem?_eq_getElem hlt
            have hbo : ¬ own0 b := s.sep id p b hp hb
            have hblt := s.blk_lt hp hb
            have := Rel.val (w := w) (own := own0) (π := noPl) (N := 0) (sub rows off len) b (off * p.sz) cap q (fun i j => cur.getD ((off + i) * q + j) Go.undef) hbo hblt (by omega) (by omega)
              (fun i row hr => (hfr _ row (hget i row hr).2).1) (fun i row x hr hx => (hfr _ row (hget i row hr).2).2 x hx) (fun i j row x hr hx => (hcell i j row x hr hx).1)
              (fun i j row x hr hx => (hcell i j row x hr hx).2.free hk (Nat.le_refl _) (freeT_of_free ((hfr _ row (hget i row hr).2).2 x (List.mem_of_getElem? hx))))
            rwa [hsl] at this
        | refEnd _ _ o b p' hp' hb =>
          have : sub rows off 0 = [] := by simp [sub]
          rw [this]; exact .valNil _ _
        | refNil _ ad p' hp' hb =>
          have : sub rows 0 0 = [] := by simp [sub]
          rw [this]; exact .valNil _ _
        | refDead _ _ _ _ _ hd _ => rw [hp] at hd; cases hd
      · exact .top _
    · rename_i q rows ho
      split
      · rename_i hle
        obtain ⟨_, p, hp, ⟨hsz, hfr, hbk⟩, hseal⟩ := s.obj id _ ho
        have hsl : ((sub rows off len).map (List.map AV.thaw)).length = len := by rw [List.length_map]; exact length_sub _ _ _ hle
        cases hr with
        | refLive _ _ _ b cap p' hp' hb h1 h2 =>
          rw [hp] at hp'; cases hp'
          simp only [hb] at hbk
          obtain ⟨cur, e', g1, g2, g3, g4, g5⟩ := hbk
          by_cases hlen0 : len = 0
          · subst hlen0
            have : sub rows off 0 = [] := by simp [sub]
            rw [this]; exact .valNil _ _
          · have hget : ∀ (i : Nat) row, ((sub rows off len).map (List.map AV.thaw))[i]? = some row → ∃ row0, row = row0.map AV.thaw ∧ rows[off + i]? = some row0 := by
              intro i row hr
              simp only [List.getElem?_map, Option.map_eq_some_iff] at hr
              obtain ⟨row0, hr, rfl⟩ := hr
              rw [getElem?_sub] at hr
              split at hr
              · exact ⟨row0, rfl, hr⟩
              · cases hr
            have hcell : ∀ (i j : Nat) row x, ((sub rows off len).map (List.map AV.thaw))[i]? = some row → row[j]? = some x → w.cell? ⟨b, off * p.sz + (i * q + j), none⟩ = some (cur.getD ((off + i) * q + j) Go.undef) ∧ Rel w own0 noPl 0 x (cur.getD ((off + i) * q + j) Go.undef) ∧ x.free = true := by
              intro i j row x hr hx
              obtain ⟨row0, rfl, h3⟩ := hget i row hr
              simp only [List.getElem?_map, Option.map_eq_some_iff] at hx
              obtain ⟨x0, hx0, rfl⟩ := hx
              have hj : j < q := by rw [← hfr _ row0 h3]; exact (List.getElem?_eq_some_iff.1 hx0).1
              have hlt : (off + i) * q + j < cur.size := by
                rw [g2]; exact idx_lt (by have := (List.getElem?_eq_some_iff.1 h3).1; omega) hj
              have e1 : cur.getD ((off + i) * q + j) Go.undef = cur[(off + i) * q + j] := by simp [hlt]
              rw [e1]
              refine ⟨?_, rel_thaw s (hseal _ row0 h3 x0 (List.mem_of_getElem? hx0)) (g5 _ j row0 x0 _ h3 hx0 (Array.getElem?_eq_getElem hlt))⟩
              rw [hsz, ← Nat.add_assoc, ← Nat.add_mul, cell_of_row w b _ cur e' (0, 0) g1]
              exact Array.getElem?_eq_getElem hlt
            have hbo : ¬ own0 b := s.sep id p b hp hb
            have hblt := s.blk_lt hp hb
            have := Rel.val (w := w) (own := own0) (π := noPl) (N := 0) ((sub rows off len).map (List.map AV.thaw)) b (off * p.sz) cap q (fun i j => cur.getD ((off + i) * q + j) Go.undef) hbo hblt (by omega) (by omega)
              (fun i row hr => by obtain ⟨row0, rfl, h3⟩ := hget i row hr; rw [List.length_map]; exact hfr _ row0 h3)
              (fun i row x hr hx => by obtain ⟨j, hj⟩ := List.getElem?_of_mem hx; exact (hcell i j row x hr hj).2.2) (fun i j row x hr hx => (hcell i j row x hr hx).1)
              (fun i j row x hr hx => (hcell i j row x hr hx).2.1)
            rwa [hsl] at this
        | refEnd _ _ o b p' hp' hb =>
          have : sub rows off 0 = [] := by simp [sub]
          rw [this]; exact .valNil _ _
        | refNil _ ad p' hp' hb =>
          have : sub rows 0 0 = [] := by simp [sub]
          rw [this]; exact .valNil _ _
        | refDead _ _ _ _ _ hd _ => rw [hp] at hd; cases hd
      · exact .top _
    · exact .top _
  · cases hr; exact .valNil _ _
  · exact hr.free hk (Nat.le_refl _) rfl
  · exact hr.free hk (Nat.le_refl _) rfl
  · cases hr; exact .pnil
  · split
    · rename_i f caps hc
      cases hr with
      | fn _ _ cs hl _ =>
        have : caps = [] := by simpa using hc
        subst this
        exact .fn f [] cs hl (by simp)
    · exact .top _
  · cases hr; exact .fnil
theorem freeT_snap1 (x : AV) : (x.snap1 h).freeT = true := by
  cases x <;> simp only [AV.snap1] <;> first | rfl | skip
  · split
    · split <;> rfl
    · split <;> rfl
    · rfl
  · split <;> rfl
theorem rel_snap (s : HSim own0 π h n w) {x : AV} {v : Value} (hr : Rel w (ownOf own0 π) π n x v) : Rel w own0 noPl 0 (x.snap h) v := by
  have hk : ∀ b, b < w.heap.size → ¬ ownOf own0 π b → w.heap[b]? = w.heap[b]? ∧ ¬ own0 b := fun b _ h => ⟨rfl, fun g => h (.inl (.inl g))⟩
  cases x <;> simp only [AV.snap] <;> first | exact rel_snap1 s hr | skip
  · rename_i vs
    cases hr with
    | agg _ cs hl hh =>
      refine .agg _ cs (by simpa using hl) (fun i x u h1 h2 => ?_)
      simp only [List.getElem?_map, Option.map_eq_some_iff] at h1
      obtain ⟨y, hy, rfl⟩ := h1
      exact rel_snap1 s (hh i y u hy h2)
  · rename_i id i off
    split
    · rename_i row ho
      split
      · rename_i hi0
        subst hi0
        obtain ⟨p, hp, hq, hv⟩ := ptr_live s hr ho
        obtain ⟨b, cur, e', h1, h2, h3, h4⟩ := hq
        rw [hv b h1, Nat.zero_mul, Nat.zero_add]
        have hbo : ¬ own0 b := s.sep id p b hp h1
        have hblt := s.blk_lt hp h1
        have hc : ∀ (j : Nat) y, row[j]? = some y → w.cell? ⟨b, j, none⟩ = some (cur.getD j Go.undef) ∧ Rel w (ownOf own0 π) π n y (cur.getD j Go.undef) := by
          intro j y hy
          have hlt : j < cur.size := by rw [h3]; exact (List.getElem?_eq_some_iff.1 hy).1
          have e1 : cur.getD j Go.undef = cur[j] := by simp [hlt]
          rw [e1, cell_of_row w b j cur e' (0, 0) h2]
          exact ⟨Array.getElem?_eq_getElem hlt, h4 j y _ hy (Array.getElem?_eq_getElem hlt)⟩
        have := Rel.rptr (w := w) (own := own0) (π := noPl) (N := 0) (row.map (AV.snap1 h)) off b 0 (fun j => cur.getD j Go.undef) hbo hblt
          (fun x hx => by simp only [List.mem_map] at hx; obtain ⟨y, _, rfl⟩ := hx; exact freeT_snap1 y)
          (fun j x hx => by
            simp only [List.getElem?_map, Option.map_eq_some_iff] at hx
            obtain ⟨y, hy, rfl⟩ := hx
            rw [Nat.zero_add]; exact (hc j y hy).1)
          (fun j x hx => by
            simp only [List.getElem?_map, Option.map_eq_some_iff] at hx
            obtain ⟨y, hy, rfl⟩ := hx
            exact rel_snap1 s (hc j y hy).2)
        simpa using this
      · exact .top _
    · rename_i q rows ho
      split
      · rename_i row hrow
        obtain ⟨p, hp, hq, hv⟩ := ptr_live s hr ho
        obtain ⟨hsz, hfr, hbk⟩ := hq
        have hil : i < rows.length := (List.getElem?_eq_some_iff.1 hrow).1
        cases hb : p.blk with
        | none => simp only [hb] at hbk; subst hbk; simp at hil
        | some b =>
          simp only [hb] at hbk
          obtain ⟨cur, e', g1, g2, g3, g4, g5⟩ := hbk
          rw [hv b hb]
          have hbo : ¬ own0 b := s.sep id p b hp hb
          have hblt := s.blk_lt hp hb
          have hc : ∀ (j : Nat) y, row[j]? = some y → w.cell? ⟨b, i * p.sz + j, none⟩ = some (cur.getD (i * q + j) Go.undef) ∧ Rel w (ownOf own0 π) π n y (cur.getD (i * q + j) Go.undef) := by
            intro j y hy
            have hj : j < q := by rw [← (hfr _ row hrow).1]; exact (List.getElem?_eq_some_iff.1 hy).1
            have hlt : i * q + j < cur.size := by rw [g2]; exact idx_lt (by omega) hj
            have e1 : cur.getD (i * q + j) Go.undef = cur[i * q + j] := by simp [hlt]
            rw [e1, hsz, cell_of_row w b _ cur e' (0, 0) g1]
            exact ⟨Array.getElem?_eq_getElem hlt, g5 i j row y _ hrow hy (Array.getElem?_eq_getElem hlt)⟩
          exact Rel.rptr (w := w) (own := own0) (π := noPl) (N := 0) row off b (i * p.sz) (fun j => cur.getD (i * q + j) Go.undef) hbo hblt
            (fun x hx => freeT_of_free ((hfr _ row hrow).2 x hx)) (fun j x hx => (hc j x hx).1)
            (fun j x hx => (hc j x hx).2.free hk (Nat.le_refl _) (freeT_of_free ((hfr _ row hrow).2 x (List.mem_of_getElem? hx))))
      · exact .top _
    · rename_i q rows ho
      split
      · rename_i row hrow
        obtain ⟨p, hp, ⟨⟨hsz, hfr, hbk⟩, hseal⟩, hv⟩ := ptr_live s hr ho
        have hil : i < rows.length := (List.getElem?_eq_some_iff.1 hrow).1
        cases hb : p.blk with
        | none => simp only [hb] at hbk; subst hbk; simp at hil
        | some b =>
          simp only [hb] at hbk
          obtain ⟨cur, e', g1, g2, g3, g4, g5⟩ := hbk
          rw [hv b hb]
          have hbo : ¬ own0 b := s.sep id p b hp hb
          have hblt := s.blk_lt hp hb
          have hc : ∀ (j : Nat) y, (row.map AV.thaw)[j]? = some y → w.cell? ⟨b, i * p.sz + j, none⟩ = some (cur.getD (i * q + j) Go.undef) ∧ Rel w own0 noPl 0 y (cur.getD (i * q + j) Go.undef) ∧ y.free = true := by
            intro j y hy
            simp only [List.getElem?_map, Option.map_eq_some_iff] at hy
            obtain ⟨x0, hx0, rfl⟩ := hy
            have hj : j < q := by rw [← hfr _ row hrow]; exact (List.getElem?_eq_some_iff.1 hx0).1
            have hlt : i * q + j < cur.size := by rw [g2]; exact idx_lt (by omega) hj
            have e1 : cur.getD (i * q + j) Go.undef = cur[i * q + j] := by simp [hlt]
            rw [e1, hsz, cell_of_row w b _ cur e' (0, 0) g1]
            exact ⟨Array.getElem?_eq_getElem hlt, rel_thaw s (hseal _ row hrow x0 (List.mem_of_getElem? hx0)) (g5 i j row x0 _ hrow hx0 (Array.getElem?_eq_getElem hlt))⟩
          exact Rel.rptr (w := w) (own := own0) (π := noPl) (N := 0) (row.map AV.thaw) off b (i * p.sz) (fun j => cur.getD (i * q + j) Go.undef) hbo hblt
            (fun x hx => by obtain ⟨j, hj⟩ := List.getElem?_of_mem hx; exact freeT_of_free (hc j x hj).2.2) (fun j x hx => (hc j x hx).1)
            (fun j x hx => (hc j x hx).2.1)
      · exact .top _
    · exact .top _
    · exact .top _
    · exact .top _
    · exact .top _
theorem addObjs_eq : ∀ (objs : List AObj) (h : Heap) (n j : Nat), addObjs h n objs j = if n ≤ j ∧ j < n + objs.length then objs[j - n]? else h j
  | [], h, n, j => by simp [addObjs]; omega
  | o :: r, h, n, j => by
    simp only [addObjs, addObjs_eq r, List.length_cons, Heap.set]
    by_cases h1 : j = n
    · subst h1; rw [if_neg (by omega), if_pos rfl, if_pos (by omega)]; simp
    · by_cases h2 : n + 1 ≤ j ∧ j < n + 1 + r.length
      · rw [if_pos h2, if_pos (by omega)]
        have : j - n = (j - (n + 1)) + 1 := by omega
        rw [this, List.getElem?_cons_succ]
      · rw [if_neg h2, if_neg h1, if_neg (by omega)]
def CallDone (P : Program) (w0 : World) (pass own0 : Nat → Prop) (π : Pl) (n : Nat) (w : World) (f : Nat) (vs : Array Value) (K : Kont) : Prop :=
  Calls P f vs w fun e w' => ∃ v π' x h' n', e = .returned v ∧ Go1 w0 pass own0 π n w π' h' n' w' ∧ Rel w' (ownOf own0 π') π' n' x v ∧ K x h' n'
theorem call_back (s : Sim w0 pass own0 π e h n a w) {w' : World} {ownr : Nat → Prop} {πr : Pl} {objs : List AObj} {r : AV} {v : Value} (E : Ext w w' (fun _ => False)) (H : HSim ownr πr (objsH objs) objs.length w') (hnew : ∀ b, πr.has b → w.heap.size ≤ b)
    (hle : ∀ b, ownOf own0 π b → ownr b) (hrel : Rel w' (ownOf ownr πr) πr objs.length r v) :
    ∃ π', Go1 w0 pass own0 π n w π' (addObjs h n (objs.map (AObj.mapId (shift n)))) (n + objs.length) w' ∧ Rel w' (ownOf own0 π') π' (n + objs.length) (r.mapId (shift n)) v := by
  let π' : Pl := ⟨fun j => if j < n then π j else πr (j - n), fun b => match π.hid b with
    | some k => some k
    | none => (πr.hid b).map fun (k : Nat × Nat × Nat) => (n + k.1, k.2)⟩
  have hat : ∀ j, π' j = if j < n then π j else πr (j - n) := fun _ => rfl
  have hπlt : ∀ {id p}, π id = some p → id < n := fun hp => (s.hs.lt hp).1
  have hπr : ∀ {id p}, πr id = some p → id < objs.length := fun hp => (H.lt hp).1
  have hnewb : ∀ {id p b}, πr id = some p → p.blk = some b → w.heap.size ≤ b := fun hp hb => hnew _ (.inl ⟨_, _, hp, hb⟩)
  have hnewh : ∀ {b k}, πr.hid b = some k → w.heap.size ≤ b ∧ π.hid b = none := by
    intro b k hb
    have h1 := hnew b (.inr (by rw [hb]; rfl))
    refine ⟨h1, ?_⟩
    cases hk : π.hid b with
    | none => rfl
    | some k' => have := (s.hs.hid b k' hk).2.1; omega
  have hhid : ∀ {b k}, π'.hid b = some k → π.hid b = some k ∨ ∃ k0, πr.hid b = some k0 ∧ k = (n + k0.1, k0.2) := by
    intro b k hb
    have hb : (match π.hid b with | some k => some k | none => (πr.hid b).map fun (k : Nat × Nat × Nat) => (n + k.1, k.2)) = some k := hb
    split at hb
    · rename_i k' hk; rw [hk, hb]; exact .inl rfl
    · obtain ⟨k0, h1, h2⟩ := Option.map_eq_some_iff.1 hb
      exact .inr ⟨k0, h1, h2.symm⟩
  have hhid1 : ∀ {b k}, π.hid b = some k → π'.hid b = some k := by
    intro b k hb
    show (match π.hid b with | some k => some k | none => (πr.hid b).map fun (k : Nat × Nat × Nat) => (n + k.1, k.2)) = some k
    rw [hb]
  have hhid2 : ∀ {b : Nat} {k : Nat × Nat × Nat}, πr.hid b = some k → π'.hid b = some (n + k.1, k.2) := by
    intro b k hb
    show (match π.hid b with | some k => some k | none => (πr.hid b).map fun (k : Nat × Nat × Nat) => (n + k.1, k.2)) = _
    rw [(hnewh hb).2, hb]; rfl
  have hown : ∀ b, ownOf own0 π' b → ownOf ownr πr b := by
    rintro b ((h1 | h1) | ⟨id, p, h1, h2⟩)
    · exact .inl (.inl (hle b (.inl (.inl h1))))
    · obtain ⟨k, hk⟩ := Option.isSome_iff_exists.1 h1
      rcases hhid hk with hk | ⟨k0, hk, _⟩
      · exact .inl (.inl (hle b (.inl (.inr (by rw [hk]; rfl)))))
      · exact .inl (.inr (by rw [hk]; rfl))
    · rw [hat] at h1
      split at h1
      · exact .inl (.inl (hle b (.inr ⟨id, p, h1, h2⟩)))
      · exact .inr ⟨_, p, h1, h2⟩
  have hsh : ∀ id j p, shift n id = some j → πr id = some p → π' j = some p := by
    intro id j p h1 h2
    simp only [shift, Option.some.injEq] at h1
    subst h1
    rw [hat, if_neg (by omega), Nat.add_sub_cancel_left]; exact h2
  have hdd : ∀ id j, shift n id = some j → πr id = none → id < objs.length → π' j = none ∧ j < n + objs.length := by
    intro id j h1 h2 h3
    simp only [shift, Option.some.injEq] at h1
    subst h1
    exact ⟨by rw [hat, if_neg (by omega), Nat.add_sub_cancel_left]; exact h2, by omega⟩
  have M : Mono own0 π π' n (n + objs.length) w w' := by
    refine ⟨E.size, fun b hb ho => ⟨E.kept b hb (by simp), ?_⟩, fun id p hp => ⟨.inl ?_, hπlt hp⟩, fun id hp hn => ?_, Nat.le_add_right _ _, E.os, E.tape, E.output⟩
    · rintro ((h1 | h1) | ⟨id, p, h1, h2⟩)
      · exact ho (.inl (.inl h1))
      · obtain ⟨k, hk⟩ := Option.isSome_iff_exists.1 h1
        rcases hhid hk with hk | ⟨k0, hk, _⟩
        · exact ho (.inl (.inr (by rw [hk]; rfl)))
        · have := (hnewh hk).1; omega
      · rw [hat] at h1
        split at h1
        · exact ho (.inr ⟨id, p, h1, h2⟩)
        · have := hnewb h1 h2; omega
    · rw [hat, if_pos (hπlt hp)]; exact hp
    · rw [hat, if_pos hn]; exact hp
  have HS : HSim own0 π' (addObjs h n (objs.map (AObj.mapId (shift n)))) (n + objs.length) w' := by
    refine ⟨?_, ?_, ?_, ?_, fun b hb => Nat.lt_of_lt_of_le (s.hs.old b hb) E.size, ?_⟩
    · intro id hid
      rw [addObjs_eq] at hid
      simp only [List.length_map, List.getElem?_map] at hid
      rw [hat]
      split at hid
      · rename_i hc
        rw [if_neg (by omega)]
        exact H.dom _ (by simpa [objsH] using hid)
      · rename_i hc
        split
        · exact s.hs.dom id hid
        · cases hp : πr (id - n) with
          | none => rfl
          | some p => have := hπr hp; omega
    · intro id o hid
      rw [addObjs_eq] at hid
      simp only [List.length_map, List.getElem?_map] at hid
      split at hid
      · rename_i hc
        obtain ⟨o', ho', rfl⟩ := Option.map_eq_some_iff.1 hid
        obtain ⟨h1, p, h2, h3⟩ := H.obj (id - n) o' ho'
        refine ⟨by omega, p, by rw [hat, if_neg (by omega)]; exact h2, h3.mapId hown hsh hdd (fun b i j hb => ?_)⟩
        rw [hhid2 hb]
        have : n + (id - n) = id := by omega
        rw [this]
      · obtain ⟨h1, p, h2, h3⟩ := s.hs.obj id o hid
        exact ⟨by omega, p, by rw [hat, if_pos h1]; exact h2, h3.mono M (fun b hb => E.kept b (s.hs.blk_lt h2 hb) (by simp)) (fun b i j hb => ⟨E.kept b (s.hs.hid b _ hb).2.1 (by simp), hhid1 hb⟩)⟩
    · intro id id' p p' b h1 h2 h3 h4
      rw [hat] at h1 h2
      split at h1 <;> split at h2
      · exact s.hs.inj id id' p p' b h1 h2 h3 h4
      · have := s.hs.blk_lt h1 h3; have := hnewb h2 h4; omega
      · have := s.hs.blk_lt h2 h4; have := hnewb h1 h3; omega
      · have := H.inj _ _ p p' b h1 h2 h3 h4; omega
    · intro id p b h1 h2
      rw [hat] at h1
      split at h1
      · exact s.hs.sep id p b h1 h2
      · intro h0; have := s.hs.old b h0; have := hnewb h1 h2; omega
    · intro b k hb
      rcases hhid hb with hk | ⟨k0, hk, rfl⟩
      · obtain ⟨g1, g2, g3, g4⟩ := s.hs.hid b k hk
        refine ⟨g1, Nat.lt_of_lt_of_le g2 E.size, by omega, fun id p hp hpb => ?_⟩
        rw [hat] at hp
        split at hp
        · exact g4 id p hp hpb
        · have := hnewb hp hpb; omega
      · obtain ⟨g1, g2, g3, g4⟩ := H.hid b k0 hk
        have hge := (hnewh hk).1
        refine ⟨fun h0 => by have := s.hs.old b h0; omega, g2, by dsimp only; omega, fun id p hp hpb => ?_⟩
        rw [hat] at hp
        split at hp
        · have := s.hs.blk_lt hp hpb; omega
        · exact g4 _ p hp hpb
  refine ⟨π', ⟨M, HS, ?_⟩, hrel.mapId hown hsh hdd⟩
  refine ⟨E.os.trans s.fr.os, E.tape.trans s.fr.tape, E.output.trans s.fr.output, Nat.le_trans s.fr.size E.size, fun b hb hp => ?_, fun id p b h1 h2 => ?_, fun b k hb => ?_⟩
  · exact (E.kept b (Nat.lt_of_lt_of_le hb s.fr.size) (by simp)).trans (s.fr.kept b hb hp)
  · rw [hat] at h1
    split at h1
    · exact s.fr.blk id p b h1 h2
    · exact .inl (Nat.le_trans s.fr.size (hnewb h1 h2))
  · rcases hhid hb with hk | ⟨k0, hk, _⟩
    · exact s.fr.hid b k hk
    · exact .inl (Nat.le_trans s.fr.size (hnewh hk).1)
theorem own_lt (s : HSim own0 π h n w) {b : Nat} (hb : ownOf own0 π b) : b < w.heap.size := by
  rcases hb with (hb | hb) | ⟨id, p, h1, h2⟩
  · exact s.old b hb
  · obtain ⟨k, hk⟩ := Option.isSome_iff_exists.1 hb
    exact (s.hid b k hk).2.1
  · exact s.blk_lt h1 h2
theorem call_pure (s : Sim w0 pass own0 π e h n a w) {f : Nat} {R : List AV → AV → List AObj → Prop} (hf : PureSound P f R) {xs : List AV} {vs : Array Value} (hr : Rels w (ownOf own0 π) π n xs vs.toList) {K : Kont}
    (hk : callPure R xs h n K) : CallDone P w0 pass own0 π n w f vs K := by
  obtain ⟨r, objs, hR, hk⟩ := hk
  refine (hf w own0 (xs.map (AV.snap h)) vs r objs ⟨by simpa using hr.1, fun i x v h1 h2 => ?_⟩ hR).mono ?_
  · simp only [List.getElem?_map, Option.map_eq_some_iff] at h1
    obtain ⟨y, hy, rfl⟩ := h1
    exact rel_snap s.hs (hr.2 i y v hy h2)
  · rintro e' w' ⟨v, πr, rfl, E, H, hrel⟩
    obtain ⟨π', g1, g2⟩ := call_back s E H (fun b hb => by
      rcases hb with ⟨id, p, h1, h2⟩ | hb
      · have := H.sep _ _ _ h1 h2; omega
      · obtain ⟨k, hk⟩ := Option.isSome_iff_exists.1 hb
        have := (H.hid b k hk).1; omega) (fun b hb => own_lt s.hs hb) hrel
    exact ⟨v, π', _, _, _, rfl, g1, g2, hk⟩
theorem rel_snap1_free {own : Nat → Prop} {x : AV} {v : Value} (hf : x.free = true) (hr : Rel w own π n x v) : Rel w own noPl 0 (x.snap1 h) v := by
  cases x <;> simp only [AV.snap1] <;> first | exact .top _ | (exact hr.free_same hf) | (simp [AV.free] at hf; done) | skip
  · cases hr; exact .valNil _ _
  · rename_i f caps
    simp only [AV.free] at hf
    rw [if_pos hf]
    have : caps = [] := by simpa using hf
    subst this
    exact hr.free_same rfl
theorem rel_snap_free {own : Nat → Prop} {x : AV} {v : Value} (hf : x.freeA = true) (hr : Rel w own π n x v) : Rel w own noPl 0 (x.snap h) v := by
  cases x <;> simp only [AV.snap] <;> first | exact rel_snap1_free hf hr | (simp [AV.freeA, AV.free] at hf; done) | skip
  rename_i vs
  cases hr with
  | agg _ cs hl hh =>
    refine .agg _ cs (by simpa using hl) (fun i x u h1 h2 => ?_)
    simp only [List.getElem?_map, Option.map_eq_some_iff] at h1
    obtain ⟨y, hy, rfl⟩ := h1
    simp only [AV.freeA, List.all_eq_true] at hf
    exact rel_snap1_free (hf y (List.mem_of_getElem? hy)) (hh i y u hy h2)
theorem call_loose (s : Sim w0 pass own0 π e h n a w) {f : Nat} {R : List AV → AV → List AObj → Prop} (hf : LooseSound P f R) {xs : List AV} {vs : Array Value} (hr : Rels w (ownOf own0 π) π n xs vs.toList) {K : Kont}
    (hk : callLoose R xs h n K) : CallDone P w0 pass own0 π n w f vs K := by
  obtain ⟨hfree, r, objs, hR, hk⟩ := hk
  refine (hf w (ownOf own0 π) (xs.map (AV.snap h)) vs r objs (fun b hb => own_lt s.hs hb) ⟨by simpa using hr.1, fun i x v h1 h2 => ?_⟩ hR).mono ?_
  · simp only [List.getElem?_map, Option.map_eq_some_iff] at h1
    obtain ⟨y, hy, rfl⟩ := h1
    exact rel_snap_free ((List.all_eq_true.1 hfree) y (List.mem_of_getElem? hy)) (hr.2 i y v hy h2)
  · rintro e' w' ⟨v, πr, rfl, E, H, hnew, hrel⟩
    obtain ⟨π', g1, g2⟩ := call_back s E H hnew (fun b hb => hb) hrel
    exact ⟨v, π', _, _, _, rfl, g1, g2, hk⟩
end
theorem place_get : ∀ {l : List Nat} {id j : Nat}, place l id = some j → l[j]? = some id
  | [], id, j, h => by simp [place] at h
  | a :: r, id, j, h => by
    simp only [place] at h
    split at h
    · rename_i he; cases h; simp [he]
    · obtain ⟨k, hk, rfl⟩ := Option.map_eq_some_iff.1 h
      simpa using place_get hk
theorem place_mem : ∀ {l : List Nat} {id : Nat}, id ∈ l → ∃ j, place l id = some j
  | [], id, h => by cases h
  | a :: r, id, h => by
    simp only [place]
    split
    · exact ⟨0, rfl⟩
    · rename_i hne
      rcases List.mem_cons.1 h with rfl | h
      · exact absurd rfl hne
      · obtain ⟨j, hj⟩ := place_mem h; exact ⟨j + 1, by simp [hj]⟩
theorem place_none {l : List Nat} {id : Nat} (h : place l id = none) : id ∉ l := fun hm => by
  obtain ⟨j, hj⟩ := place_mem hm; rw [h] at hj; cases hj
theorem place_at : ∀ {l : List Nat}, l.Nodup → ∀ {i id : Nat}, l[i]? = some id → place l id = some i
  | [], _, i, id, h => by simp at h
  | a :: r, hn, 0, id, h => by simp at h; subst h; simp [place]
  | a :: r, hn, i + 1, id, h => by
    have h' : r[i]? = some id := by simpa using h
    obtain ⟨h1, h2⟩ := List.nodup_cons.1 hn
    simp only [place]
    rw [if_neg (fun he : a = id => h1 (by rw [he]; exact List.mem_of_getElem? h')), place_at h2 h']
    rfl
theorem unplace_lt : ∀ (l : List Nat) (n i : Nat), i < l.length → unplace l n i = l[i]?
  | [], n, i, h => by simp at h
  | a :: r, n, 0, _ => by simp [unplace]
  | a :: r, n, i + 1, h => by simp [unplace, unplace_lt r n i (by simpa using h)]
theorem unplace_ge : ∀ (l : List Nat) (n i : Nat), l.length ≤ i → unplace l n i = some (n + (i - l.length))
  | [], n, i, _ => by simp [unplace]
  | a :: r, n, 0, h => by simp at h
  | a :: r, n, i + 1, h => by simp [unplace, unplace_ge r n i (by simpa using h)]
theorem nodup_once : ∀ l : List Nat, (once l).Nodup
  | [] => by simp [once]
  | a :: r => by
    exact List.nodup_cons.2 ⟨fun hm => by simp [List.mem_filter] at hm, (nodup_once r).filter _⟩
theorem setObjs_nil : ∀ (out : List (Option AObj)) (h : Heap) (n j : Nat), setObjs h n [] out j = if n ≤ j ∧ j < n + out.length then ((out[j - n]?).join).or (h j) else h j
  | [], h, n, j => by simp [setObjs]
  | o :: r, h, n, j => by
    have key : ∀ h' : Heap, (∀ k, k ≠ n → h' k = h k) → h' n = o.or (h n) → setObjs h' (n + 1) [] r j = if n ≤ j ∧ j < n + (o :: r).length then (((o :: r)[j - n]?).join).or (h j) else h j := by
      intro h' h1 h2
      rw [setObjs_nil r h' (n + 1) j]
      simp only [List.length_cons]
      by_cases hj : j = n
      · subst hj; rw [if_neg (by omega), if_pos (by omega), h2]; simp
      · by_cases hc : n + 1 ≤ j ∧ j < n + 1 + r.length
        · rw [if_pos hc, if_pos (by omega), h1 j hj]
          have : j - n = (j - (n + 1)) + 1 := by omega
          rw [this, List.getElem?_cons_succ]
        · rw [if_neg hc, if_neg (by omega), h1 j hj]
    cases o with
    | none => simp only [setObjs]; exact key h (fun _ _ => rfl) (by simp)
    | some o => simp only [setObjs]; exact key (h.set n o) (fun k hk => by simp [Heap.set, hk]) (by simp [Heap.set])
theorem setObjs_eq : ∀ (l : List Nat) (out : List (Option AObj)) (h : Heap) (n j : Nat), l.Nodup → (∀ id ∈ l, id < n) → l.length ≤ out.length →
    setObjs h n l out j = match place l j with
      | some i => (out[i]?).join
      | none => if n ≤ j ∧ j < n + (out.length - l.length) then ((out[l.length + (j - n)]?).join).or (h j) else h j
  | [], out, h, n, j, _, _, _ => by rw [setObjs_nil]; simp [place]
  | a :: l, [], h, n, j, _, _, hl => by simp at hl
  | a :: l, o :: r, h, n, j, hn, hlt, hl => by
    obtain ⟨h1, h2⟩ := List.nodup_cons.1 hn
    have ha : a < n := hlt a (by simp)
    have key : ∀ h' : Heap, (∀ k, k ≠ a → h' k = h k) → h' a = o → setObjs h' n l r j = match place (a :: l) j with
      | some i => ((o :: r)[i]?).join
      | none => if n ≤ j ∧ j < n + ((o :: r).length - (a :: l).length) then (((o :: r)[(a :: l).length + (j - n)]?).join).or (h j) else h j := by
      intro h' k1 k2
      rw [setObjs_eq l r h' n j h2 (fun id hid => hlt id (by simp [hid])) (by simpa using hl)]
      simp only [place]
      by_cases hj : a = j
      · subst hj
        have hp : place l a = none := by
          cases hp : place l a with
          | none => rfl
          | some i => exact absurd (List.mem_of_getElem? (place_get hp)) h1
        rw [hp, if_pos rfl, if_neg (by omega), k2]; simp
      · rw [if_neg hj]
        cases hp : place l j with
        | some i => simp
        | none =>
          simp only [Option.map_none, List.length_cons, k1 j (Ne.symm hj)]
          have e1 : r.length + 1 - (l.length + 1) = r.length - l.length := by omega
          have e2 : l.length + 1 + (j - n) = (l.length + (j - n)) + 1 := by omega
          rw [e1, e2, List.getElem?_cons_succ]
    cases o with
    | none => simp only [setObjs]; exact key (h.del a) (fun k hk => by simp [Heap.del, hk]) (by simp [Heap.del])
    | some o => simp only [setObjs]; exact key (h.set a o) (fun k hk => by simp [Heap.set, hk]) (by simp [Heap.set])
section
variable {P : Program} {w0 : World} {pass own0 : Nat → Prop} {π : Pl} {e : Env} {h : Heap} {n : Nat} {a : Act} {w : World}
theorem call_gen (s : Sim w0 pass own0 π e h n a w) {f k : Nat} {G : GFun} (hf : GenSound P f k G) {xs : List AV} {vs : Array Value} (hr : Rels w (ownOf own0 π) π n xs vs.toList) {K : Kont}
    (hk : callGen k G xs h n K) : CallDone P w0 pass own0 π n w f vs K := by
  obtain ⟨hlen, halive, hG⟩ := hk
  generalize hL : reach h xs = L at hlen halive hG
  have hnd : L.Nodup := by rw [← hL]; exact nodup_once _
  subst hlen
  have hπlt : ∀ {id p}, π id = some p → id < n := fun hp => (s.hs.lt hp).1
  have hlive : ∀ id ∈ L, ∃ o p, h id = some o ∧ π id = some p ∧ ObjAt w (ownOf own0 π) π n id p o := fun id hid => live_some s.hs (halive id hid)
  have hLlt : ∀ id ∈ L, id < n := fun id hid => by obtain ⟨_, p, _, hp, _⟩ := hlive id hid; exact hπlt hp
  -- the callee's view
  let own1 : Nat → Prop := fun b => own0 b ∨ (∃ id p, id ∉ L ∧ π id = some p ∧ p.blk = some b) ∨ ∃ k, π.hid b = some k ∧ k.1 ∉ L
  let π1 : Pl := ⟨fun i => (L[i]?).bind π, fun b => (π.hid b).bind fun k => (place L k.1).map fun i => (i, k.2)⟩
  have hat1 : ∀ i, π1 i = (L[i]?).bind π := fun _ => rfl
  have hhid1 : ∀ {b k}, π1.hid b = some k → ∃ k0, π.hid b = some k0 ∧ place L k0.1 = some k.1 ∧ k.2 = k0.2 := by
    intro b k hb
    have hb : ((π.hid b).bind fun (k : Nat × Nat × Nat) => (place L k.1).map fun i => (i, k.2)) = some k := hb
    obtain ⟨k0, h1, h2⟩ := Option.bind_eq_some_iff.1 hb
    obtain ⟨i, h3, h4⟩ := Option.map_eq_some_iff.1 h2
    subst h4
    exact ⟨k0, h1, h3, rfl⟩
  have hhid1' : ∀ {b i c d j}, π.hid b = some (j, c, d) → place L j = some i → π1.hid b = some (i, c, d) := by
    intro b i c d j h1 h2
    show ((π.hid b).bind fun (k : Nat × Nat × Nat) => (place L k.1).map fun i => (i, k.2)) = _
    rw [h1, Option.bind_some]
    dsimp only
    rw [h2]; rfl
  have hhas1 : ∀ {b}, π1.has b → (∃ id p, id ∈ L ∧ π id = some p ∧ p.blk = some b) ∨ ∃ k, π.hid b = some k ∧ k.1 ∈ L := by
    rintro b (⟨i, p, h1, h2⟩ | hb)
    · rw [hat1, Option.bind_eq_some_iff] at h1
      obtain ⟨id, hi, h1⟩ := h1
      exact .inl ⟨id, p, List.mem_of_getElem? hi, h1, h2⟩
    · obtain ⟨k, hk⟩ := Option.isSome_iff_exists.1 hb
      obtain ⟨k0, h1, h2, _⟩ := hhid1 hk
      exact .inr ⟨k0, h1, List.mem_of_getElem? (place_get h2)⟩
  have hhas1o : ∀ {b}, π1.has b → ownOf own0 π b := by
    intro b hb
    rcases hhas1 hb with ⟨id, p, _, h1, h2⟩ | ⟨k, h1, _⟩
    · exact .inr ⟨id, p, h1, h2⟩
    · exact .inl (.inr (by rw [h1]; rfl))
  have hown1o : ∀ {b}, own1 b → ownOf own0 π b := by
    rintro b (h1 | ⟨id, p, _, h1, h2⟩ | ⟨k, h1, _⟩)
    · exact .inl (.inl h1)
    · exact .inr ⟨id, p, h1, h2⟩
    · exact .inl (.inr (by rw [h1]; rfl))
  have hown1 : ∀ b, ownOf own1 π1 b → ownOf own0 π b := by
    rintro b ((h1 | h1) | ⟨i, p, h1, h2⟩)
    · exact hown1o h1
    · exact hhas1o (.inr h1)
    · exact hhas1o (.inl ⟨i, p, h1, h2⟩)
  have hp1 : ∀ id j p, place L id = some j → π id = some p → π1 j = some p := by
    intro id j p h1 h2
    rw [hat1, place_get h1, Option.bind_some]; exact h2
  have hd1 : ∀ id j, place L id = some j → π id = none → id < n → π1 j = none ∧ j < L.length := by
    intro id j h1 h2 _
    obtain ⟨_, p, _, hp, _⟩ := hlive id (List.mem_of_getElem? (place_get h1))
    rw [h2] at hp; cases hp
  have H1 : HSim own1 π1 (objsH (L.map fun id => ((h id).getD default).mapId (place L))) L.length w := by
    refine ⟨?_, ?_, ?_, ?_, ?_, ?_⟩
    · intro i hi
      simp only [objsH, List.getElem?_map, Option.map_eq_none_iff] at hi
      rw [hat1, hi, Option.bind_none]
    · intro i o hi
      simp only [objsH, List.getElem?_map, Option.map_eq_some_iff] at hi
      obtain ⟨id, hid, rfl⟩ := hi
      obtain ⟨o, p, ho, hp, hq⟩ := hlive id (List.mem_of_getElem? hid)
      refine ⟨(List.getElem?_eq_some_iff.1 hid).1, p, by rw [hat1, hid, Option.bind_some]; exact hp, ?_⟩
      rw [ho]
      exact hq.mapId hown1 hp1 hd1 (fun b c d hb => hhid1' hb (place_at hnd hid))
    · intro i j p p' b h1 h2 h3 h4
      rw [hat1, Option.bind_eq_some_iff] at h1 h2
      obtain ⟨id, hi, h1⟩ := h1
      obtain ⟨id', hj, h2⟩ := h2
      have := s.hs.inj id id' p p' b h1 h2 h3 h4
      subst this
      have e1 := place_at hnd hi
      have e2 := place_at hnd hj
      rw [e1] at e2; cases e2; rfl
    · intro i p b h1 h2
      rw [hat1, Option.bind_eq_some_iff] at h1
      obtain ⟨id, hi, h1⟩ := h1
      rintro (h3 | ⟨id', p', h3, h4, h5⟩ | ⟨k, h3, _⟩)
      · exact s.hs.sep id p b h1 h2 h3
      · have := s.hs.inj id id' p p' b h1 h4 h2 h5
        subst this
        exact h3 (List.mem_of_getElem? hi)
      · exact (s.hs.hid b k h3).2.2.2 id p h1 h2
    · intro b hb
      exact own_lt s.hs (hown1o hb)
    · intro b k hb
      obtain ⟨k0, h1, h2, h3⟩ := hhid1 hb
      obtain ⟨g1, g2, g3, g4⟩ := s.hs.hid b k0 h1
      have hmem := List.mem_of_getElem? (place_get h2)
      refine ⟨?_, g2, (List.getElem?_eq_some_iff.1 (place_get h2)).1, fun i p hp hpb => ?_⟩
      · rintro (h4 | ⟨id', p', _, h4, h5⟩ | ⟨k', h4, h5⟩)
        · exact g1 h4
        · exact g4 id' p' h4 h5
        · rw [h1] at h4; cases h4; exact h5 hmem
      · rw [hat1, Option.bind_eq_some_iff] at hp
        obtain ⟨id, _, hp⟩ := hp
        exact g4 id p hp hpb
  have hargs : Rels w (ownOf own1 π1) π1 L.length (xs.map (AV.mapId (place L))) vs.toList := by
    refine ⟨by simpa using hr.1, fun i x v h1 h2 => ?_⟩
    simp only [List.getElem?_map, Option.map_eq_some_iff] at h1
    obtain ⟨y, hy, rfl⟩ := h1
    exact (hr.2 i y v hy h2).mapId hown1 hp1 hd1
  refine (hf w own1 π1 _ _ vs _ (by simp) H1 hargs hG).mono ?_
  rintro e' w' ⟨v, π2, r, out, rfl, hQ, hko, E, hsurv, hblk, H2, hrel⟩
  -- back to the caller
  let π' : Pl := ⟨fun j => match place L j with
    | some i => π2 i
    | none => if j < n then π j else π2 (L.length + (j - n)), fun b => match π2.hid b with
    | some k => (unplace L n k.1).map fun j => (j, k.2)
    | none => match π.hid b with
      | some k => if k.1 ∈ L then none else some k
      | none => none⟩
  have hat : ∀ j, π' j = match place L j with
    | some i => π2 i
    | none => if j < n then π j else π2 (L.length + (j - n)) := fun _ => rfl
  have hhe : ∀ b, π'.hid b = match π2.hid b with
    | some k => (unplace L n k.1).map fun j => (j, k.2)
    | none => match π.hid b with
      | some k => if k.1 ∈ L then none else some k
      | none => none := fun _ => rfl
  have hhid : ∀ {b k}, π'.hid b = some k → (∃ k2, π2.hid b = some k2 ∧ unplace L n k2.1 = some k.1 ∧ k.2 = k2.2) ∨ (π2.hid b = none ∧ π.hid b = some k ∧ k.1 ∉ L) := by
    intro b k hb
    rw [hhe] at hb
    split at hb
    · rename_i k2 hk2
      obtain ⟨j, h1, h2⟩ := Option.map_eq_some_iff.1 hb
      subst h2
      exact .inl ⟨k2, hk2, h1, rfl⟩
    · rename_i hk2
      split at hb
      · rename_i k' hk'
        split at hb
        · cases hb
        · rename_i hnm
          cases hb
          exact .inr ⟨hk2, hk', hnm⟩
      · cases hb
  have hhid2 : ∀ {b i j c d}, π2.hid b = some (i, c, d) → unplace L n i = some j → π'.hid b = some (j, c, d) := by
    intro b i j c d h1 h2
    rw [hhe, h1]
    dsimp only
    rw [h2]; rfl
  have hhid3 : ∀ {b k}, π.hid b = some k → k.1 ∉ L → π'.hid b = some k := by
    intro b k h1 h2
    have hno : π2.hid b = none := by
      cases h3 : π2.hid b with
      | none => rfl
      | some k2 => exact absurd (.inr (.inr ⟨k, h1, h2⟩)) (H2.hid b k2 h3).1
    rw [hhe, hno, h1]
    dsimp only
    rw [if_neg h2]
  have h2lt : ∀ {i p}, π2 i = some p → i < out.length := fun hp => (H2.lt hp).1
  -- where blocks of π2 lie
  have hb2 : ∀ {b}, π2.has b → w.heap.size ≤ b ∨ (∃ id q, id ∈ L ∧ π id = some q ∧ q.blk = some b) ∨ ∃ k, π.hid b = some k ∧ k.1 ∈ L := by
    intro b hb
    rcases hblk b hb with h | h
    · exact .inl h
    · exact .inr (hhas1 h)
  have hkept : ∀ b, b < w.heap.size → (∀ id p, id ∈ L → π id = some p → p.blk ≠ some b) → (∀ k, π.hid b = some k → k.1 ∉ L) → w'.heap[b]? = w.heap[b]? := by
    intro b hb hno hno2
    refine E.kept b hb (fun hh => ?_)
    rcases hhas1 hh with ⟨id, p, h1, h2, h3⟩ | ⟨k, h1, h2⟩
    · exact hno id p h1 h2 h3
    · exact hno2 k h1 h2
  have hown2 : ∀ b, ownOf own0 π' b → ownOf own1 π2 b := by
    rintro b ((h1 | h1) | ⟨j, p, h1, h2⟩)
    · exact .inl (.inl (.inl h1))
    · obtain ⟨k, hk⟩ := Option.isSome_iff_exists.1 h1
      rcases hhid hk with ⟨k2, h2, _, _⟩ | ⟨_, h2, h3⟩
      · exact .inl (.inr (by rw [h2]; rfl))
      · exact .inl (.inl (.inr (.inr ⟨k, h2, h3⟩)))
    · rw [hat] at h1
      split at h1
      · exact .inr ⟨_, p, h1, h2⟩
      · rename_i hpl
        split at h1
        · exact .inl (.inl (.inr (.inl ⟨j, p, place_none hpl, h1, h2⟩)))
        · exact .inr ⟨_, p, h1, h2⟩
  have hun : ∀ i j, unplace L n i = some j → π' j = π2 i ∧ (i < out.length → j < n + (out.length - L.length)) := by
    intro i j h1
    by_cases hi : i < L.length
    · rw [unplace_lt L n i hi] at h1
      have hj := hLlt j (List.mem_of_getElem? h1)
      refine ⟨by rw [hat, place_at hnd h1], fun _ => by omega⟩
    · rw [unplace_ge L n i (by omega)] at h1
      cases h1
      have hpl : place L (n + (i - L.length)) = none := by
        cases hp : place L (n + (i - L.length)) with
        | none => rfl
        | some q => have := hLlt _ (List.mem_of_getElem? (place_get hp)); omega
      refine ⟨?_, fun h => by omega⟩
      rw [hat, hpl]
      dsimp only
      rw [if_neg (by omega)]
      congr 1; omega
  have hp2 : ∀ i j p, unplace L n i = some j → π2 i = some p → π' j = some p := fun i j p h1 h2 => (hun i j h1).1.trans h2
  have hd2 : ∀ i j, unplace L n i = some j → π2 i = none → i < out.length → π' j = none ∧ j < n + (out.length - L.length) := fun i j h1 h2 h3 => ⟨(hun i j h1).1.trans h2, (hun i j h1).2 h3⟩
  have hback : ∀ {b}, π2.has b → b < w.heap.size → ownOf own0 π b := by
    intro b h1 h2
    rcases hb2 h1 with h | ⟨id, q, _, h4, h5⟩ | ⟨k, h4, _⟩
    · omega
    · exact .inr ⟨id, q, h4, h5⟩
    · exact .inl (.inr (by rw [h4]; rfl))
  have M : Mono own0 π π' n (n + (out.length - L.length)) w w' := by
    refine ⟨E.size, fun b hb ho => ⟨hkept b hb (fun id p _ h1 h2 => ho (.inr ⟨id, p, h1, h2⟩)) (fun k hk _ => ho (.inl (.inr (by rw [hk]; rfl)))), ?_⟩, fun id p hp => ⟨?_, hπlt hp⟩, fun id hp hn => ?_, Nat.le_add_right _ _, E.os, E.tape, E.output⟩
    · intro h1
      rcases hown2 b h1 with (h2 | h2) | ⟨i, p, h2, h3⟩
      · exact ho (hown1o h2)
      · exact ho (hback (.inr h2) hb)
      · exact ho (hback (.inl ⟨i, p, h2, h3⟩) hb)
    · rw [hat]
      split
      · rename_i i hi
        exact hsurv i p (hp1 id i p hi hp)
      · rw [if_pos (hπlt hp)]; exact .inl hp
    · rw [hat]
      split
      · rename_i i hi
        exact absurd hp (by obtain ⟨_, p, _, hp', _⟩ := hlive id (List.mem_of_getElem? (place_get hi)); rw [hp']; simp)
      · rw [if_pos hn]; exact hp
  have hset : ∀ j, setObjs h n L (out.map fun o => o.map (AObj.mapId (unplace L n))) j = match place L j with
      | some i => ((objsO out) i).map (AObj.mapId (unplace L n))
      | none => if n ≤ j ∧ j < n + (out.length - L.length) then (((objsO out) (L.length + (j - n))).map (AObj.mapId (unplace L n))).or (h j) else h j := by
    intro j
    have hjoin : ∀ i : Nat, ((out.map fun o => o.map (AObj.mapId (unplace L n)))[i]?).join = ((objsO out) i).map (AObj.mapId (unplace L n)) := by
      intro i
      simp only [List.getElem?_map, objsO]
      cases out[i]? with
      | none => rfl
      | some o => rfl
    rw [setObjs_eq L _ h n j hnd hLlt (by simpa using hko)]
    simp only [hjoin, List.length_map]
  have hge : ∀ j, n ≤ j → h j = none := by
    intro j hj
    cases ho : h j with
    | none => rfl
    | some o => have := (s.hs.obj j o ho).1; omega
  have HS : HSim own0 π' (setObjs h n L (out.map fun o => o.map (AObj.mapId (unplace L n)))) (n + (out.length - L.length)) w' := by
    have cls : ∀ j p, π' j = some p → (∃ i, unplace L n i = some j ∧ π2 i = some p) ∨ (place L j = none ∧ j < n ∧ π j = some p) := by
      intro j p h1
      rw [hat] at h1
      split at h1
      · rename_i i hi
        have := place_get hi
        exact .inl ⟨i, by rw [unplace_lt L n i (List.getElem?_eq_some_iff.1 this).1]; exact this, h1⟩
      · rename_i hpl
        split at h1
        · rename_i hlt; exact .inr ⟨hpl, hlt, h1⟩
        · exact .inl ⟨_, by rw [unplace_ge L n _ (by omega)]; congr 1; omega, h1⟩
    refine ⟨?_, ?_, ?_, ?_, fun b hb => Nat.lt_of_lt_of_le (s.hs.old b hb) E.size, ?_⟩
    · intro j hj
      rw [hset] at hj
      rw [hat]
      split at hj
      · rename_i i hi
        try simp only [hi]
        exact H2.dom i (by simpa using hj)
      · rename_i hpl
        try simp only [hpl]
        split at hj
        · rename_i hc
          rw [if_neg (by omega)]
          refine H2.dom _ ?_
          cases hx : objsO out (L.length + (j - n)) with
          | none => rfl
          | some o => rw [hx] at hj; simp at hj
        · split
          · exact s.hs.dom j hj
          · cases hp : π2 (L.length + (j - n)) with
            | none => rfl
            | some p => have := h2lt hp; omega
    · intro j o hj
      rw [hset] at hj
      rw [hat]
      split at hj
      · rename_i i hi
        try simp only [hi]
        obtain ⟨o', ho', rfl⟩ := Option.map_eq_some_iff.1 hj
        obtain ⟨h1, p, h2, h3⟩ := H2.obj i o' ho'
        have hg := place_get hi
        have := hLlt j (List.mem_of_getElem? hg)
        exact ⟨by omega, p, h2, h3.mapId hown2 hp2 hd2 (fun b c d hb => hhid2 hb (by rw [unplace_lt L n i (List.getElem?_eq_some_iff.1 hg).1]; exact hg))⟩
      · rename_i hpl
        try simp only [hpl]
        split at hj
        · rename_i hc
          rw [hge j hc.1] at hj
          simp only [Option.or_none] at hj
          obtain ⟨o', ho', rfl⟩ := Option.map_eq_some_iff.1 hj
          obtain ⟨h1, p, h2, h3⟩ := H2.obj _ o' ho'
          refine ⟨by omega, p, ?_, h3.mapId hown2 hp2 hd2 (fun b c d hb => hhid2 hb (by rw [unplace_ge L n _ (by omega)]; congr 1; omega))⟩
          rw [if_neg (by omega)]; exact h2
        · obtain ⟨h1, p, h2, h3⟩ := s.hs.obj j o hj
          refine ⟨by omega, p, by rw [if_pos h1]; exact h2, h3.mono M (fun b hb => hkept b (s.hs.blk_lt h2 hb) (fun id q hid h4 h5 => ?_) (fun k hk _ => (s.hs.hid b k hk).2.2.2 j p h2 hb)) (fun b c d hb => ⟨hkept b (s.hs.hid b _ hb).2.1 (fun id q _ h4 h5 => (s.hs.hid b _ hb).2.2.2 id q h4 h5) (fun k hk => by rw [hb] at hk; cases hk; exact place_none hpl), hhid3 hb (place_none hpl)⟩)⟩
          have := s.hs.inj id j q p b h4 h2 h5 hb
          subst this
          exact place_none hpl hid
    · intro i j p p' b h1 h2 h3 h4
      have mixed : ∀ i j p p', unplace L n i = some j → π2 i = some p → p.blk = some b → ∀ j', place L j' = none → π j' = some p' → p'.blk = some b → False := by
        intro i j p p' _ k2 k3 j' k4 k5 k6
        rcases hb2 (.inl ⟨i, p, k2, k3⟩) with h | ⟨id, q, k7, k8, k9⟩ | ⟨k, k7, _⟩
        · have := s.hs.blk_lt k5 k6; omega
        · have := s.hs.inj id j' q p' b k8 k5 k9 k6
          subst this; exact place_none k4 k7
        · exact (s.hs.hid b k k7).2.2.2 j' p' k5 k6
      rcases cls i p h1 with ⟨i1, a1, a2⟩ | ⟨a1, a2, a3⟩ <;> rcases cls j p' h2 with ⟨i2, b1, b2⟩ | ⟨b1, b2, b3⟩
      · have := H2.inj i1 i2 p p' b a2 b2 h3 h4
        subst this; rw [a1] at b1; cases b1; rfl
      · exact (mixed i1 i p p' a1 a2 h3 j b1 b3 h4).elim
      · exact (mixed i2 j p' p b1 b2 h4 i a1 a3 h3).elim
      · exact s.hs.inj i j p p' b a3 b3 h3 h4
    · intro j p b h1 h2 h0
      rcases cls j p h1 with ⟨i, a1, a2⟩ | ⟨a1, a2, a3⟩
      · exact H2.sep i p b a2 h2 (.inl h0)
      · exact s.hs.sep j p b a3 h2 h0
    · intro b k hb
      rcases hhid hb with ⟨k2, g1, g2, g3⟩ | ⟨g1, g2, g3⟩
      · obtain ⟨c1, c2, c3, c4⟩ := H2.hid b k2 g1
        refine ⟨fun h0 => c1 (.inl h0), c2, (hun _ _ g2).2 c3, fun j p hp hpb => ?_⟩
        rcases cls j p hp with ⟨i, a1, a2⟩ | ⟨a1, a2, a3⟩
        · exact c4 i p a2 hpb
        · exact c1 (.inr (.inl ⟨j, p, place_none a1, a3, hpb⟩))
      · obtain ⟨c1, c2, c3, c4⟩ := s.hs.hid b k g2
        refine ⟨c1, Nat.lt_of_lt_of_le c2 E.size, by omega, fun j p hp hpb => ?_⟩
        rcases cls j p hp with ⟨i, a1, a2⟩ | ⟨a1, a2, a3⟩
        · exact H2.sep i p b a2 hpb (.inr (.inr ⟨k, g2, g3⟩))
        · exact c4 j p a3 hpb
  refine ⟨v, π', _, _, _, rfl, ⟨M, HS, ?_⟩, hrel.mapId hown2 hp2 hd2, hQ⟩
  have old : ∀ {b}, π2.has b → w0.heap.size ≤ b ∨ pass b := by
    intro b hb
    rcases hb2 hb with h | ⟨id, q, _, h3, h4⟩ | ⟨k, h3, _⟩
    · exact .inl (Nat.le_trans s.fr.size h)
    · exact s.fr.blk id q b h3 h4
    · exact s.fr.hid b k h3
  refine ⟨E.os.trans s.fr.os, E.tape.trans s.fr.tape, E.output.trans s.fr.output, Nat.le_trans s.fr.size E.size, fun b hb hp => ?_, fun j p b h1 h2 => ?_, fun b k hb => ?_⟩
  · refine (hkept b (Nat.lt_of_lt_of_le hb s.fr.size) (fun id p _ h1 h2 => ?_) (fun k hk _ => ?_)).trans (s.fr.kept b hb hp)
    · rcases s.fr.blk id p b h1 h2 with h | h
      · omega
      · exact hp h
    · rcases s.fr.hid b k hk with h | h
      · omega
      · exact hp h
  · rw [hat] at h1
    split at h1
    · exact old (.inl ⟨_, p, h1, h2⟩)
    · split at h1
      · exact s.fr.blk j p b h1 h2
      · exact old (.inl ⟨_, p, h1, h2⟩)
  · rcases hhid hb with ⟨k2, g1, _, _⟩ | ⟨_, g2, _⟩
    · exact old (.inr (by rw [g1]; rfl))
    · exact s.fr.hid b k g2
end
theorem cMap_spec {P : Program} {t : TypeId} {st : Bool} (h : cMap P t = some st) : st = false ∧ ∃ k e i, P.underlying t = some (.map k e) ∧ P.underlying k = some (.int .i64) ∧ P.info? e = some i ∧ i.zero = some (.int .i64 0) := by
  unfold cMap at h
  split at h
  · rename_i k e ht
    split at h
    · rename_i hk hz
      cases h
      obtain ⟨i, hi, hz⟩ := Option.bind_eq_some_iff.1 hz
      exact ⟨rfl, k, e, i, ht, hk, hi, hz⟩
    · cases h
  · cases h
theorem cMapOp_spec {P : Program} {t : TypeId} {f : Bool → Tag} {l : List Operand} {tag : Tag} {args : List Opd} (h : cMapOp P t f l = (tag, args)) : (tag = .no ∧ args = []) ∨ ∃ st, cMap P t = some st ∧ tag = f st ∧ cOpds l = some args := by
  unfold cMapOp at h
  split at h
  · rename_i st l' h1 h2
    cases h
    exact .inr ⟨st, h1, rfl, h2⟩
  · cases h; exact .inl ⟨rfl, rfl⟩
theorem ents_len {st : Bool} {l : List MapEntry} {es : List MEnt} (h : Ents st l es) : l.length = es.length := by
  have := congrArg List.length h
  simpa using this
theorem ents_at {st : Bool} {l : List MapEntry} {es : List MEnt} (h : Ents st l es) {j : Nat} {x : MapEntry} (hj : l[j]? = some x) : ∃ e, es[j]? = some e ∧ x.key = keyVal st e.1 ∧ x.val = .int .i64 e.2 := by
  have := congrArg (fun l => l[j]?) h
  simp only [List.getElem?_map, hj, Option.map_some] at this
  cases he : es[j]? with
  | none => rw [he] at this; cases this
  | some e =>
    rw [he] at this
    simp only [Option.map_some, Option.some.injEq, Prod.mk.injEq] at this
    exact ⟨e, rfl, this.1, this.2⟩
theorem ents_of {st : Bool} {l : List MapEntry} {es : List MEnt} (hl : l.length = es.length) (h : ∀ (j : Nat) (x : MapEntry) (e : MEnt), l[j]? = some x → es[j]? = some e → x.key = keyVal st e.1 ∧ x.val = .int .i64 e.2) : Ents st l es := by
  refine List.ext_getElem (by simpa using hl) fun i h1 h2 => ?_
  simp only [List.length_map] at h1 h2
  obtain ⟨k1, k2⟩ := h i _ _ (List.getElem?_eq_getElem h1) (List.getElem?_eq_getElem h2)
  simp [k1, k2]
section
variable {es : List MEnt} {l : List MapEntry}
theorem keys_int (hk : KeysOk false es) (he : Ents false l es) : ∀ x ∈ l, MapKept.IsKey (.int .i64) x.key := by
  intro x hx
  obtain ⟨j, hj⟩ := List.getElem?_of_mem hx
  obtain ⟨e, h1, h2, _⟩ := ents_at he hj
  obtain ⟨n, hn⟩ := hk.2 e (List.mem_of_getElem? h1) rfl
  rw [h2, hn]
  rfl
theorem same_key (hk : KeysOk false es) {i j : Nat} {a b : MEnt} (hi : es[i]? = some a) (hj : es[j]? = some b) (h : a.1 = b.1) : i = j := by
  have hn := hk.1
  have h1 : (es.map (·.1))[i]? = some a.1 := by simp [hi]
  have h2 : (es.map (·.1))[j]? = some a.1 := by simp [hj, h]
  have hlt := (List.getElem?_eq_some_iff.1 h1).1
  have hlt2 := (List.getElem?_eq_some_iff.1 h2).1
  rw [List.getElem?_eq_getElem hlt] at h1
  rw [List.getElem?_eq_getElem hlt2] at h2
  rcases Nat.lt_trichotomy i j with h3 | h3 | h3
  · exact absurd ((Option.some.inj h1).trans (Option.some.inj h2).symm) (List.pairwise_iff_getElem.1 hn i j hlt hlt2 h3)
  · exact h3
  · exact absurd ((Option.some.inj h2).trans (Option.some.inj h1).symm) (List.pairwise_iff_getElem.1 hn j i hlt2 hlt h3)
theorem find_int (hk : KeysOk false es) (he : Ents false l es) (n : Int) :
    (Instr.findNow (.int .i64) (.int .i64 n) l 0 = some none ∧ mhas es [.i n] = false ∧ mget es [.i n] = 0 ∧ ∀ x ∈ l, x.key ≠ .int .i64 n) ∨
    ∃ j x e, Instr.findNow (.int .i64) (.int .i64 n) l 0 = some (some (j, .int .i64 e.2)) ∧ l[j]? = some x ∧ es[j]? = some e ∧ e.1 = [.i n] ∧ x.key = .int .i64 n ∧ mhas es [.i n] = true ∧ mget es [.i n] = e.2 := by
  rcases MapKept.findNow_spec (d := .int .i64) (k := .int .i64 n) rfl l 0 (keys_int hk he) with ⟨h1, h2⟩ | ⟨j, x, h1, h2, h3⟩
  · have hno : ∀ e ∈ es, e.1 ≠ [.i n] := fun e hm hc => by
      obtain ⟨j, hj⟩ := List.getElem?_of_mem hm
      have hlt := (List.getElem?_eq_some_iff.1 hj).1
      have hl : j < l.length := by rw [ents_len he]; exact hlt
      obtain ⟨e', g1, g2, _⟩ := ents_at he (List.getElem?_eq_getElem hl)
      rw [hj] at g1; cases g1
      refine h2 l[j] (List.getElem_mem hl) ?_
      rw [g2, hc]; rfl
    refine .inl ⟨h1, ?_, ?_, h2⟩
    · unfold mhas
      rw [List.any_eq_false]
      intro e hm
      simpa using hno e hm
    · unfold mget
      rw [List.find?_eq_none.2 (fun e hm => by simpa using hno e hm)]
  · obtain ⟨e, g1, g2, g3⟩ := ents_at he h2
    obtain ⟨m, hm⟩ := hk.2 e (List.mem_of_getElem? g1) rfl
    have hmn : m = n := by
      rw [h3, hm] at g2
      have : (Value.int .i64 n) = .int .i64 m := g2
      cases this; rfl
    subst hmn
    rw [Nat.zero_add, g3] at h1
    refine .inr ⟨j, x, e, h1, h2, g1, hm, h3, ?_, ?_⟩
    · unfold mhas
      rw [List.any_eq_true]
      exact ⟨e, List.mem_of_getElem? g1, by simpa using hm⟩
    · unfold mget
      cases hf : es.find? fun e => decide (e.1 = [.i m]) with
      | none =>
        have := List.find?_eq_none.1 hf e (List.mem_of_getElem? g1)
        simp [hm] at this
      | some e' =>
        have h5 := List.find?_some hf
        have h6 := List.mem_of_find?_eq_some hf
        obtain ⟨i, hi⟩ := List.getElem?_of_mem h6
        have := same_key hk hi g1 (by rw [hm]; simpa using h5)
        subst this
        rw [g1] at hi; cases hi
        rfl
end
section
variable {P : Program} {w0 : World} {pass own0 : Nat → Prop} {π : Pl} {e : Env} {h : Heap} {n : Nat} {a : Act} {w : World}
theorem snd_mkm (s : Sim w0 pass own0 π e h n a w) (t : TypeId) {st : Bool} {K : Kont} (hk : sem (.mkm st) [] h n K) : Done P w0 pass own0 π n w (Instr.makeMap t none) K := by
  have A := adds_new s.hs (.map #[] 0) w (.inl rfl) 0 0
  refine ⟨_, _, _, _, _, _, (show (Instr.makeMap t none).run P w = .ok (.map (some w.heap.size)) (w.alloc (.map #[] 0)) from rfl), A.go s.fr (o := .map st []) ?_, ?_, by rw [hpAdd_none]; exact hk⟩
  · exact ⟨_, #[], 0, rfl, heap_alloc_new _ _, rfl, ⟨by simp, by simp⟩, ⟨by simp, by simp⟩⟩
  · exact .mpLive n _ ⟨some w.heap.size, 0, 0⟩ (by simp [plAdd]) rfl
theorem map_live (s : HSim own0 π h n w) {id : Nat} {u : Value} (hr : Rel w (ownOf own0 π) π n (.mp id) u) {st : Bool} {es : List MEnt} (ho : h id = some (.map st es)) :
    ∃ p b ents clock, u = .map (some b) ∧ π id = some p ∧ p.blk = some b ∧ w.heap[b]? = some (.map ents clock) ∧ Ents st ents.toList es ∧ Borns ents.toList clock ∧ KeysOk st es := by
  obtain ⟨_, p, hp, b, ents, clock, h1, h2, h3⟩ := s.obj id _ ho
  cases hr with
  | mpLive _ b' p' hp' hb' =>
    rw [hp] at hp'; cases hp'
    rw [h1] at hb'; cases hb'
    exact ⟨p, b, ents, clock, rfl, hp, h1, h2, h3⟩
  | mpDead _ _ hd _ => rw [hp] at hd; cases hd
theorem key_of {own : Nat → Prop} {y : AV} {v : Value} (hy : Rel w own π n y v) {k : List Sc} (hk : keyOf false y = some k) : ∃ m, k = [.i m] ∧ v = .int .i64 m := by
  cases hy <;> simp only [keyOf] at hk <;> first | cases hk | skip
  rename_i kk m
  cases kk <;> simp only [keyOf] at hk <;> first | cases hk | skip
  exact ⟨m, rfl, rfl⟩
theorem run_look (s : HSim own0 π h n w) {t : TypeId} {st : Bool} (ht : cMap P t = some st) {id : Nat} {u v : Value} (hx : Rel w (ownOf own0 π) π n (.mp id) u) {y : AV} (hy : Rel w (ownOf own0 π) π n y v)
    {es : List MEnt} (ho : h id = some (.map st es)) {k : List Sc} (hk : keyOf st y = some k) (ok : Bool) :
    (Instr.lookup t u v ok).run P w = .ok (if ok then .tuple #[.int .i64 (mget es k), .bool (mhas es k)] else .int .i64 (mget es k)) w := by
  obtain ⟨rfl, kt, et, i, hm, hkt, hi, hz⟩ := cMap_spec ht
  obtain ⟨p, b, ents, clock, rfl, hp, hb, hw, he, hbn, hks⟩ := map_live s hx ho
  obtain ⟨m, rfl, rfl⟩ := key_of hy hk
  have hzero : (zeroValue et).run P w = .ok (.int .i64 0) w := by simp [zeroValue, typeInfo, hi, hz]
  have hck := fun em => MapKept.run_checkKey (P := P) (w := w) hkt (show MapKept.IsKey (.int .i64) (.int .i64 m) from rfl) em 9999
  rcases find_int hks he m with ⟨h1, h2, h3, _⟩ | ⟨j, x, e', h1, h2, h3, h4, h5, h6, h7⟩
  · rw [h2, h3]
    cases ok <;> simp [Instr.lookup, run_underlying hm, MapKept.run_getObj_map hw, hck, MapKept.run_findKey hkt h1, hzero, Result.andThen]
  · rw [h6, h7]
    cases ok <;> simp [Instr.lookup, run_underlying hm, MapKept.run_getObj_map hw, hck, MapKept.run_findKey hkt h1, Result.andThen]
theorem snd_mlk (s : Sim w0 pass own0 π e h n a w) {t : TypeId} {st : Bool} (ht : cMap P t = some st) {x y : AV} {u v : Value} (hx : Rel w (ownOf own0 π) π n x u) (hy : Rel w (ownOf own0 π) π n y v) {K : Kont}
    (hk : sem (.mlk st) [x, y] h n K) : Done P w0 pass own0 π n w (Instr.lookup t u v false) K := by
  cases x <;> simp only [sem] at hk <;> first | exact hk.elim | skip
  split at hk
  · rename_i st' es k ho hkk
    obtain ⟨rfl, hk⟩ := hk
    exact done_same s (run_look s.hs ht hx hy ho hkk false) (.int _ _) hk
  · exact hk.elim
theorem snd_mlo (s : Sim w0 pass own0 π e h n a w) {t : TypeId} {st : Bool} (ht : cMap P t = some st) {x y : AV} {u v : Value} (hx : Rel w (ownOf own0 π) π n x u) (hy : Rel w (ownOf own0 π) π n y v) {K : Kont}
    (hk : sem (.mlo st) [x, y] h n K) : Done P w0 pass own0 π n w (Instr.lookup t u v true) K := by
  cases x <;> simp only [sem] at hk <;> first | exact hk.elim | skip
  split at hk
  · rename_i st' es k ho hkk
    obtain ⟨rfl, hk⟩ := hk
    refine done_same s (run_look s.hs ht hx hy ho hkk true) (.tup _ _ (by simp) fun i x u h1 h2 => ?_) hk
    rcases i with _ | _ | i
    · simp at h1 h2; subst h1; subst h2; exact .int _ _
    · simp at h1 h2; subst h1; subst h2; exact .bool _
    · simp at h1
  · exact hk.elim
theorem mset_keys {es : List MEnt} (hk : KeysOk false es) (m q : Int) : KeysOk false (mset es [.i m] q) := by
  unfold mset
  split
  · have e1 : (es.map fun e => if e.1 = [.i m] then ([Sc.i m], q) else e).map (·.1) = es.map (·.1) := by
      rw [List.map_map]
      refine List.map_congr_left fun e _ => ?_
      simp only [Function.comp]
      split
      · rename_i h; exact h.symm
      · rfl
    refine ⟨by rw [e1]; exact hk.1, fun e he _ => ?_⟩
    obtain ⟨e0, h0, rfl⟩ := List.mem_map.1 he
    split
    · exact ⟨m, rfl⟩
    · exact hk.2 e0 h0 rfl
  · rename_i hno
    have hno : mhas es [.i m] = false := by simpa using hno
    unfold mhas at hno
    rw [List.any_eq_false] at hno
    refine ⟨?_, fun e he _ => ?_⟩
    · rw [List.map_append, List.nodup_append]
      refine ⟨hk.1, by simp, fun a ha b hb hab => ?_⟩
      simp at hb
      subst hb
      obtain ⟨e, he, h2⟩ := List.mem_map.1 ha
      have := hno e he
      simp at this
      exact this (h2.trans hab)
    · rcases List.mem_append.1 he with he | he
      · exact hk.2 e he rfl
      · simp at he; subst he; exact ⟨m, rfl⟩
theorem snd_mup (s : Sim w0 pass own0 π e h n a w) {t : TypeId} {st : Bool} (ht : cMap P t = some st) {x y z : AV} {u v q : Value} (hx : Rel w (ownOf own0 π) π n x u) (hy : Rel w (ownOf own0 π) π n y v) (hz : Rel w (ownOf own0 π) π n z q)
    {K : Kont} (hk : sem (.mup st) [x, y, z] h n K) : ∃ w' h', (Instr.mapUpdate t u v q).run P w = .ok () w' ∧ Go1 w0 pass own0 π n w π h' n w' ∧ K .undef h' n := by
  cases x <;> simp only [sem] at hk <;> first | exact hk.elim | skip
  cases z <;> (try simp only [] at hk) <;> first | exact hk.elim | skip
  rename_i id kk q'
  cases kk <;> (try simp only [] at hk) <;> first | exact hk.elim | skip
  cases hz
  split at hk
  · rename_i st' es k ho hkk
    obtain ⟨rfl, hk⟩ := hk
    obtain ⟨rfl, kt, et, i, hm, hkt, hi, hzz⟩ := cMap_spec ht
    obtain ⟨p, b, ents, clock, rfl, hp, hb, hw, he, hbn, hks⟩ := map_live s.hs hx ho
    obtain ⟨m, rfl, rfl⟩ := key_of hy hkk
    have hck := MapKept.run_checkKey (P := P) (w := w) hkt (show MapKept.IsKey (.int .i64) (.int .i64 m) from rfl) false 9999
    have hst := MapKept.run_keyThatStays (P := P) (w := w) (d := .int .i64) (k := .int .i64 m) rfl
    have hkeys := mset_keys hks m q'
    have W : ∀ o, Writes own0 π h n w id p b { w with heap := w.heap.setIfInBounds b o } := fun o =>
      ⟨s.hs, hp, hb, by simp, rfl, ⟨rfl, .inl (by first | exact Nat.le_refl _ | exact Nat.le_succ _)⟩, rfl, fun k hne => (MapKept.heap_set (o' := o) hw).2 k hne⟩
    rcases find_int hks he m with ⟨h1, h2, h3, h4⟩ | ⟨j, x, e', h1, h2, h3, h4, h5, h6, h7⟩
    · refine ⟨_, _, ?_, (W (.map (ents.push { key := .int .i64 m, val := .int .i64 q', born := clock }) (clock + 1))).go s.fr (o := .map false (mset es [.i m] q')) ?_, hk⟩
      · simp [Instr.mapUpdate, run_underlying hm, MapKept.run_getObj_map hw, hck, MapKept.run_findKey hkt h1, MapKept.run_setObj_map _ hw, Result.andThen]
      · refine ⟨b, _, _, hb, (MapKept.heap_set hw).1, ?_, ⟨?_, ?_⟩, hkeys⟩
        · unfold mset
          rw [h2]
          simp only [Bool.false_eq_true, if_false, Array.toList_push]
          unfold Ents at he ⊢
          rw [List.map_append, List.map_append, he]
          rfl
        · rw [Array.toList_push, List.map_append, List.nodup_append]
          refine ⟨hbn.1, by simp, fun c hc d hd hcd => ?_⟩
          simp at hd
          subst hd
          obtain ⟨x, hx1, hx2⟩ := List.mem_map.1 hc
          have := hbn.2 x hx1
          omega
        · intro x hx1
          rw [Array.toList_push] at hx1
          rcases List.mem_append.1 hx1 with hx1 | hx1
          · have := hbn.2 x hx1; omega
          · simp at hx1; subst hx1; simp
    · have hj : j < ents.size := by have := (List.getElem?_eq_some_iff.1 h2).1; simpa using this
      have hkey : ((ents[j]?).map (·.key)).getD (.int .i64 m) = .int .i64 m := by
        rw [Array.getElem?_toList] at h2
        rw [h2]
        exact h5
      refine ⟨_, _, ?_, (W (.map (ents.modify j fun e => { e with key := .int .i64 m, val := .int .i64 q' }) clock)).go s.fr (o := .map false (mset es [.i m] q')) ?_, hk⟩
      · simp [Instr.mapUpdate, run_underlying hm, MapKept.run_getObj_map hw, hck, MapKept.run_findKey hkt h1, hkey, hst, MapKept.run_setObj_map _ hw, Result.andThen]
      · have hmod : ∀ i, (ents.modify j fun e => { e with key := .int .i64 m, val := .int .i64 q' }).toList[i]? = (ents.toList[i]?).map fun e => if j = i then { e with key := .int .i64 m, val := .int .i64 q' } else e := by
          intro i
          rw [Array.getElem?_toList, Array.getElem?_modify, Array.getElem?_toList]
          by_cases hji : j = i
          · simp only [if_pos hji]
          · simp only [if_neg hji]
            cases ents[i]? <;> rfl
        refine ⟨b, _, _, hb, (MapKept.heap_set hw).1, ?_, ⟨?_, ?_⟩, hkeys⟩
        · unfold mset
          rw [h6, if_pos rfl]
          refine ents_of (by have := ents_len he; simpa using this) fun i x1 e1 g1 g2 => ?_
          rw [hmod] at g1
          obtain ⟨x0, k1, rfl⟩ := Option.map_eq_some_iff.1 g1
          rw [List.getElem?_map] at g2
          obtain ⟨e0, k2, rfl⟩ := Option.map_eq_some_iff.1 g2
          obtain ⟨e2, k3, k4, k5⟩ := ents_at he k1
          rw [k2] at k3; cases k3
          by_cases hji : j = i
          · subst hji
            rw [h3] at k2; cases k2
            rw [if_pos rfl, if_pos h4]
            exact ⟨rfl, rfl⟩
          · rw [if_neg hji, if_neg (fun hc => hji (same_key hks h3 k2 (h4.trans hc.symm)))]
            exact ⟨k4, k5⟩
        · have e1 : (ents.modify j fun e => { e with key := .int .i64 m, val := .int .i64 q' }).toList.map (·.born) = ents.toList.map (·.born) := by
            refine List.ext_getElem? fun i => ?_
            rw [List.getElem?_map, List.getElem?_map, hmod]
            cases ents.toList[i]? with
            | none => rfl
            | some x0 => simp only [Option.map_some]; split <;> rfl
          rw [e1]; exact hbn.1
        · intro x1 hx1
          obtain ⟨i, hi⟩ := List.getElem?_of_mem hx1
          rw [hmod] at hi
          obtain ⟨x0, k1, rfl⟩ := Option.map_eq_some_iff.1 hi
          have := hbn.2 x0 (List.mem_of_getElem? k1)
          split <;> exact this
  · exact hk.elim
/-! ### a way through a map -/
theorem left_none (ents : Array MapEntry) : leftE ents #[] = ents.toList := by
  unfold leftE
  rw [Array.filter_eq_self.2 (fun x _ => by simp)]
theorem snd_rng (s : Sim w0 pass own0 π e h n a w) {t : TypeId} {st : Bool} (ht : cMap P t = some st) {x : AV} {u : Value} (hx : Rel w (ownOf own0 π) π n x u) {K : Kont}
    (hk : sem (.rng st) [x] h n K) : Done P w0 pass own0 π n w (Instr.range t u) K := by
  cases x <;> simp only [sem] at hk <;> first | exact hk.elim | skip
  rename_i id
  split at hk
  · rename_i st' es ho
    obtain ⟨rfl, hk⟩ := hk
    obtain ⟨rfl, kt, et, i, hm, hkt, hi, hzz⟩ := cMap_spec ht
    obtain ⟨p, b, ents, clock, rfl, hp, hb, hw, he, hbn, hks⟩ := map_live s.hs hx ho
    have hblt := s.hs.blk_lt hp hb
    have A : Adds own0 π h n w (some id) ⟨some w.heap.size, 0, 0⟩ (w.alloc (.mapIter (some b) clock #[] clock)) :=
      ⟨s.hs, by simp, rfl, ⟨rfl, .inl (by first | exact Nat.le_refl _ | exact Nat.le_succ _)⟩, rfl, .inr (.inl rfl), fun k hk' _ => heap_alloc_old _ _ hk'⟩
    refine ⟨_, _, _, _, _, _, run_range_map w t kt et b ents clock hm hw, A.go s.fr (o := .itr false none es) ?_, ref_new _ _ _ _ _ _ rfl _, by rw [hpAdd_some]; exact hk⟩
    refine ⟨_, b, ents, clock, #[], rfl, heap_alloc_new _ _, ?_, ?_, ?_, hbn, by rw [left_none]; exact he, fun _ hc => by cases hc⟩
    · rintro ((h1 | h1) | ⟨j, q, h1, h2⟩)
      · exact s.hs.sep id p b hp hb h1
      · rw [plAdd_hid_some] at h1
        obtain ⟨k, hk2⟩ := Option.isSome_iff_exists.1 h1
        exact (s.hs.hid b k hk2).2.2.2 id p hp hb
      · rw [plAdd_at] at h1
        split at h1
        · cases h1
          cases h2
          omega
        · split at h1
          · cases h1
          · rename_i h3
            have := s.hs.inj j id q p b h1 hp h2 hb
            exact h3 (by rw [this])
    · have := heap_alloc_new w (.mapIter (some b) clock #[] clock)
      have := (Array.getElem?_eq_some_iff.1 this).1
      omega
    · rw [heap_alloc_old _ _ hblt]; exact hw
  · exact hk.elim
theorem itr_live (s : HSim own0 π h n w) {id i off : Nat} {u : Value} (hr : Rel w (ownOf own0 π) π n (.ptr id i off) u) (hi : i = 0 ∧ off = 0) {st : Bool} {cur : Option MEnt} {left : List MEnt} (ho : h id = some (.itr st cur left)) :
    ∃ p b g ents clock seen, u = .pointer (some ⟨b, 0, none⟩) ∧ π id = some p ∧ p.blk = some b ∧ w.heap[b]? = some (.mapIter (some g) clock seen clock) ∧ ¬ ownOf own0 π g ∧ g < w.heap.size ∧ w.heap[g]? = some (.map ents clock) ∧
      Borns ents.toList clock ∧ Ents st (leftE ents seen) left ∧ ∀ e, cur = some e → ∃ x ∈ ents.toList, (∃ sn : Array Nat, seen = sn.push x.born) ∧ Ents st [x] [e] := by
  obtain ⟨rfl, rfl⟩ := hi
  obtain ⟨_, p, hp, b, g, ents, clock, seen, h1, h2⟩ := s.obj id _ ho
  cases hr with
  | ptrLive _ _ _ b' p' hp' hb' =>
    rw [hp] at hp'; cases hp'
    rw [h1] at hb'; cases hb'
    exact ⟨p, b, g, ents, clock, seen, by simp, hp, h1, h2⟩
  | ptrDead _ _ _ _ hd _ => rw [hp] at hd; cases hd
theorem rel_key {own : Nat → Prop} {st : Bool} {k : List Sc} : Rel w own π n (keyAV st k) (keyVal st k) := by
  have sc : ∀ a : Sc, Rel w own π n a.av a.val := fun a => by cases a <;> first | exact .int _ _ | exact .bool _
  cases st with
  | true =>
    refine .agg _ _ (by simp) fun i x u h1 h2 => ?_
    simp only [List.getElem?_map, List.getElem?_toArray] at h1 h2
    cases hc : k[i]? with
    | none => rw [hc] at h1; cases h1
    | some a =>
      rw [hc] at h1 h2
      cases h1; cases h2
      exact sc a
  | false =>
    cases k with
    | nil => exact .top _
    | cons a r => exact sc a
theorem rel_tup1 {own : Nat → Prop} {x : AV} {v : Value} (h : Rel w own π n x v) : Rel w own π n (.tup [x]) (.tuple #[v]) := by
  refine .tup _ _ (by simp) fun i y u h1 h2 => ?_
  rcases i with _ | i
  · simp at h1 h2; subst h1; subst h2; exact h
  · simp at h1
theorem rel_tup2 {own : Nat → Prop} {x y : AV} {v u : Value} (h : Rel w own π n x v) (h' : Rel w own π n y u) : Rel w own π n (.tup [x, y]) (.tuple #[v, u]) := by
  refine .tup _ _ (by simp) fun i z u h1 h2 => ?_
  rcases i with _ | _ | i
  · simp at h1 h2; subst h1; subst h2; exact h
  · simp at h1 h2; subst h1; subst h2; exact h'
  · simp at h1
theorem rel_tup3 {own : Nat → Prop} {x y z : AV} {v u q : Value} (h : Rel w own π n x v) (h' : Rel w own π n y u) (h'' : Rel w own π n z q) : Rel w own π n (.tup [x, y, z]) (.tuple #[v, u, q]) := by
  refine .tup _ _ (by simp) fun i z u h1 h2 => ?_
  rcases i with _ | _ | _ | i
  · simp at h1 h2; subst h1; subst h2; exact h
  · simp at h1 h2; subst h1; subst h2; exact h'
  · simp at h1 h2; subst h1; subst h2; exact h''
  · simp at h1
theorem ents_one {st : Bool} {x : MapEntry} {e : MEnt} (h : Ents st [x] [e]) : x.key = keyVal st e.1 ∧ x.val = .int .i64 e.2 := by
  unfold Ents at h
  simpa using h
theorem snd_ent (s : Sim w0 pass own0 π e h n a w) {x : AV} {u : Value} (hx : Rel w (ownOf own0 π) π n x u) {K : Kont} (hk : sem .ent [x] h n K) : Done P w0 pass own0 π n w (Instr.entry u) K := by
  cases x <;> try (exact hk.elim)
  rename_i id i off
  rcases i with _ | i
  case succ => exact hk.elim
  rcases off with _ | off
  case succ => exact hk.elim
  simp only [sem] at hk
  split at hk
  · rename_i st e' left ho
    obtain ⟨p, b, g, ents, clock, seen, rfl, hp, hb, hw, hg, hgl, hwg, hbn, he, hc⟩ := itr_live s.hs hx ⟨rfl, rfl⟩ ho
    obtain ⟨x, hx1, ⟨sn, rfl⟩, hx2⟩ := hc e' rfl
    obtain ⟨k1, k2⟩ := ents_one hx2
    refine done_same s (run_entry_at w b g clock sn ents clock x hw hwg hx1 hbn.1) ?_ hk
    rw [k1, k2]
    exact rel_tup2 rel_key (.int _ _)
  · exact hk.elim
def nextK (vs : List AV) (h : Heap) (n : Nat) (K : Kont) : Prop := match vs with
  | [.ptr id 0 0] => (match h id with
    | some (.itr st _ left) => (left = [] → K (.tup [.bool false]) h n) ∧ ∀ pre e post, left = pre ++ e :: post → K (.tup [.bool true, keyAV st e.1, .int .i64 e.2]) (h.set id (.itr st (some e) (pre ++ post))) n
    | _ => False)
  | _ => False
theorem filter_out {L : List MapEntry} {A B : List MapEntry} {x : MapEntry} (hL : L = A ++ x :: B) (hn : (L.map (·.born)).Nodup) : (L.filter fun e => !(e.born == x.born)) = A ++ B := by
  subst hL
  rw [List.map_append, List.map_cons, List.nodup_append] at hn
  obtain ⟨_, h2, h3⟩ := hn
  rw [List.nodup_cons] at h2
  rw [List.filter_append, List.filter_cons]
  have e1 : (A.filter fun e => !(e.born == x.born)) = A := List.filter_eq_self.2 fun y hy => by
    have := h3 y.born (List.mem_map.2 ⟨y, hy, rfl⟩) x.born (by simp)
    simpa using this
  have e2 : (B.filter fun e => !(e.born == x.born)) = B := List.filter_eq_self.2 fun y hy => by
    have : y.born ≠ x.born := fun hc => h2.1 (hc ▸ List.mem_map.2 ⟨y, hy, rfl⟩)
    simpa using this
  rw [e1, e2]
  simp
theorem leftE_push (ents : Array MapEntry) (seen : Array Nat) (b : Nat) : leftE ents (seen.push b) = (leftE ents seen).filter fun e => !(e.born == b) := by
  unfold leftE
  rw [Array.toList_filter, Array.toList_filter, List.filter_filter]
  refine List.filter_congr fun x _ => ?_
  rw [Array.contains_push, Bool.not_or, Bool.and_comm]
theorem snd_nxt (s : Sim w0 pass own0 π e h n a w) {x : AV} {u : Value} (hx : Rel w (ownOf own0 π) π n x u) (ty : TypeId) {K : Kont} (hk : nextK [x] h n K) : Done P w0 pass own0 π n w (Instr.next u false ty) K := by
  unfold nextK at hk
  split at hk <;> first | exact hk.elim | skip
  rename_i id heq
  cases heq
  split at hk
  · rename_i st cur left ho
    obtain ⟨p, b, g, ents, clock, seen, rfl, hp, hb, hw, hg, hgl, hwg, hbn, he, hc⟩ := itr_live s.hs hx ⟨rfl, rfl⟩ ho
    obtain ⟨h1, h2⟩ := hk
    rcases run_next_at (P := P) w ty b g clock clock seen ents clock hw hwg hbn.2 (Nat.le_refl _) with ⟨k1, k2⟩ | ⟨y, k1, w1, k2, k3⟩
    · have hl : left = [] := by
        have := ents_len he
        refine List.eq_nil_of_length_eq_zero ?_
        rw [← this]
        simpa [leftE, leftOf] using k1
      exact done_same s k2 (rel_tup1 (.bool _)) (h1 hl)
    · have hy : y ∈ leftE ents seen := k1
      obtain ⟨A, B, hAB⟩ := List.append_of_mem hy
      have hnd : ((leftE ents seen).map (·.born)).Nodup := by
        unfold leftE
        rw [Array.toList_filter]
        exact hbn.1.sublist (List.filter_sublist.map _)
      have he2 := he
      unfold Ents at he2
      rw [hAB, List.map_append, List.map_cons] at he2
      obtain ⟨pre, r, g1, g2, g3⟩ := List.map_eq_append_iff.1 he2.symm
      obtain ⟨e1, post, g4, g5, g6⟩ := List.map_eq_cons_iff.1 g3
      subst g4
      have hyk : y.key = keyVal st e1.1 ∧ y.val = .int .i64 e1.2 := by
        have := g5.symm
        simpa using this
      have hbg : b ≠ g := fun hbg => hg (hbg ▸ .inr ⟨id, p, hp, hb⟩)
      have hw1 : w1.heap = w.heap ∧ w1.os = w.os ∧ TapeLe w w1 ∧ w1.output = w.output := by rcases k2 with rfl | rfl <;> exact ⟨rfl, rfl, ⟨rfl, .inl (by first | exact Nat.le_refl _ | exact Nat.le_succ _)⟩, rfl⟩
      have hset := MapKept.heap_set (w := w) (o' := .mapIter (some g) clock (seen.push y.born) clock) hw
      have W : Writes own0 π h n w id p b (ChangeMaps.setBlock w1 b (.mapIter (some g) clock (seen.push y.born) clock)) := by
        refine ⟨s.hs, hp, hb, ?_, hw1.2.1, ⟨hw1.2.2.1.1, hw1.2.2.1.2⟩, hw1.2.2.2, fun k hne => ?_⟩
        · simp [ChangeMaps.setBlock, hw1.1]
        · show (w1.heap.setIfInBounds _ _)[k]? = _
          rw [hw1.1]; exact hset.2 k hne
      refine ⟨_, _, _, _, _, _, k3, W.go s.fr (o := .itr st (some e1) (pre ++ post)) ?_, ?_, h2 pre e1 post g1⟩
      · refine ⟨b, g, ents, clock, seen.push y.born, hb, ?_, hg, ?_, ?_, hbn, ?_, fun e2 hc2 => ?_⟩
        · show (w1.heap.setIfInBounds _ _)[b]? = _
          rw [hw1.1]; exact hset.1
        · show g < (w1.heap.setIfInBounds _ _).size
          rw [hw1.1]; simpa using hgl
        · show (w1.heap.setIfInBounds _ _)[g]? = _
          rw [hw1.1, hset.2 g (Ne.symm hbg)]; exact hwg
        · rw [leftE_push, filter_out hAB hnd]
          unfold Ents
          rw [List.map_append, List.map_append, g2, g6]
        · cases hc2
          refine ⟨y, ?_, ⟨seen, rfl⟩, ?_⟩
          · have := hy
            unfold leftE at this
            rw [Array.toList_filter] at this
            exact (List.mem_filter.1 this).1
          · unfold Ents
            simp [hyk.1, hyk.2]
      · rw [hyk.1, hyk.2]
        exact rel_tup3 (.bool _) rel_key (.int _ _)
  · exact hk.elim
end
section
variable {P : Program} {w0 : World} {pass own0 : Nat → Prop} {π : Pl} {e : Env} {h : Heap} {n : Nat} {a : Act} {w : World}
theorem set_same {id : Nat} {o : AObj} (ho : h id = some o) : h.set id o = h := by
  funext j
  unfold Heap.set
  split
  · rename_i hj; subst hj; exact ho.symm
  · rfl
theorem snd_cpy (s : Sim w0 pass own0 π e h n a w) {t u ty el : TypeId} {z : Nat} (ht : cElem P t = some el) (hz : cSize P el = some z) (hz0 : 0 < z) {x y : AV} {v1 v2 : Value}
    (hx : Rel w (ownOf own0 π) π n x v1) (hy : Rel w (ownOf own0 π) π n y v2) {K : Kont} (hk : sem (.cpy z) [x, y] h n K) : Done P w0 pass own0 π n w (Builtin.copy_ #[t, u] ty #[v1, v2]) K := by
  unfold cSize at hz
  obtain ⟨inf, hi, hiz⟩ := Option.map_eq_some_iff.1 hz
  cases x <;> simp only [sem] at hk <;> first | exact hk.elim | skip
  rename_i id off len
  split at hk
  · rename_i q rows more ho hm
    obtain ⟨rfl, h1, h2, h3, hk⟩ := hk
    obtain ⟨news, S⟩ := src_of (P := P) s hz0 hy hm h3
    have hfree := rows_free_of s hy hm
    obtain ⟨_, p, hp, hq⟩ := s.hs.obj id _ ho
    obtain ⟨hsz, hfr, hbk⟩ := hq
    have hmin : Nat.min more.length len = more.length := Nat.min_eq_left h2
    have hnil : len = 0 → more = [] := fun h0 => List.eq_nil_of_length_eq_zero (by omega)
    have hsame : more = [] → h.set id (.arr q (rows.take off ++ more ++ rows.drop (off + more.length))) = h := fun h0 => by
      subst h0
      simp only [List.append_nil, List.length_nil, Nat.add_zero, List.take_append_drop]
      exact set_same ho
    have hno : ∀ (ad : Option Addr) (c : Nat), more = [] → v1 = .slice ad len c → Done P w0 pass own0 π n w (Builtin.copy_ #[t, u] ty #[v1, v2]) K := fun ad c h0 hv => by
      have hn0 : news = [] := List.eq_nil_of_length_eq_zero (by rw [S.size, h0]; simp)
      have hf := S.first w rfl
      rw [hsame h0] at hk
      rw [h0] at hk hf hmin
      have hl := S.len w
      rw [h0] at hl
      refine done_same s (v := goInt 0) ?_ (.int .i64 0) hk
      rw [hv]
      cases ad <;> simp [Builtin.copy_, run_underlying (cElem_eq ht), hl, sizeOf, typeInfo, hi, hiz, hf, hn0, storeCells]
      all_goals simp_all [storeCells]
    cases hx with
    | refLive _ _ _ b cap p' hp' hb g1 g2 =>
      rw [hp] at hp'; cases hp'
      simp only [hb] at hbk
      obtain ⟨cur, e', c1, c2, c3, c4, c5⟩ := hbk
      have hfit : off * q + news.length ≤ cur.size := by rw [S.size, c2, ← Nat.add_mul]; exact Nat.mul_le_mul_right _ (by omega)
      have hst := run_storeCells_at P b (off * q) e' news 0 cur w c1 (by simpa using hfit) S.one
      simp only [Nat.add_zero] at hst
      have W := writes_row s hp hb ((cur.toList.take (off * q) ++ news ++ cur.toList.drop (off * q + news.length)).toArray)
      have hrl : (rows.take off ++ more ++ rows.drop (off + more.length)).length = rows.length := by
        simp only [List.length_append, List.length_take, List.length_drop]; omega
      refine ⟨goInt more.length, _, π, .int .i64 more.length, _, n, ?_, W.go s.fr (o := .arr q (rows.take off ++ more ++ rows.drop (off + more.length))) ?_, .int .i64 _, hk⟩
      · simp [Builtin.copy_, run_underlying (cElem_eq ht), S.len w, hmin, sizeOf, typeInfo, hi, hiz, S.first w rfl, hsz, hst]
      · refine ⟨hsz, fun i row hr => ?_, ?_⟩
        · rw [getElem?_splice _ _ _ _ (by omega)] at hr
          split at hr
          · exact hfr i row hr
          · split at hr
            · exact ⟨S.rowl _ row hr, hfree _ row hr⟩
            · exact hfr i row hr
        · simp only [hb]
          refine ⟨_, e', setRow_heap w b cur _ e' _ c1, ?_, by rw [hrl]; exact c3, c4, ?_⟩
          · simp only [List.size_toArray, List.length_append, List.length_take, List.length_drop, Array.length_toList]; omega
          · intro i j row x u' hr hx' hu'
            refine Rel.mono W.mono ?_
            rw [getElem?_splice _ _ _ _ (by omega)] at hr
            rw [List.getElem?_toArray, getElem?_splice _ _ _ _ (by simpa using hfit), S.size] at hu'
            by_cases k1 : i < off
            · rw [if_pos k1] at hr
              have hj : j < q := by rw [← (hfr i row hr).1]; exact (List.getElem?_eq_some_iff.1 hx').1
              have := idx_lt k1 hj
              rw [if_pos this] at hu'
              exact c5 i j row x u' hr hx' (by simpa using hu')
            · rw [if_neg k1] at hr
              have hge : off * q ≤ i * q := Nat.mul_le_mul_right _ (by omega)
              rw [if_neg (by omega)] at hu'
              by_cases k2 : i < off + more.length
              · rw [if_pos k2] at hr
                have hj : j < q := by rw [← S.rowl _ row hr]; exact (List.getElem?_eq_some_iff.1 hx').1
                have := idx_lt k2 hj
                rw [Nat.add_mul] at this
                rw [if_pos this] at hu'
                refine S.rel (i - off) j row x u' hr hx' ?_
                rw [← hu', Nat.sub_mul]
                congr 1; omega
              · rw [if_neg k2] at hr
                have hge2 : (off + more.length) * q ≤ i * q := Nat.mul_le_mul_right _ (by omega)
                rw [Nat.add_mul] at hge2
                rw [if_neg (by omega)] at hu'
                exact c5 i j row x u' hr hx' (by simpa using hu')
    | refEnd _ _ o b p' hp' hb => exact hno _ _ (hnil rfl) rfl
    | refNil _ ad p' hp' hb => exact hno _ _ (hnil rfl) rfl
    | refDead _ _ _ _ _ hd _ => rw [hp] at hd; cases hd
  · exact hk.elim
end
theorem cOpE_tag (P : Program) (op : Op) : (cOpE P op).1 = .b2s ∨ (cOpE P op).1 = .s2b ∨ (∃ l, (cOpE P op).1 = .aidx l) ∨ (∃ g, (cOpE P op).1 = .beq g) ∨ (∃ g ks, (cOpE P op).1 = .aeq g ks) ∨ (∃ g, (cOpE P op).1 = .bnil g) ∨ (cOpE P op).1 = .cap ∨ (∃ s b z, (cOpE P op).1 = .apz s b z) ∨ (∃ st, (cOpE P op).1 = .mkm st ∨ (cOpE P op).1 = .mlk st ∨ (cOpE P op).1 = .mlo st ∨ (cOpE P op).1 = .mup st ∨ (cOpE P op).1 = .rng st) ∨ (cOpE P op).1 = .nxt ∨ (cOpE P op).1 = .ent ∨ (∃ s, (cOpE P op).1 = .cpy s) ∨ (cOpE P op).1 = .no := by
  unfold cOpE cMapOp
  (repeat' split) <;> simp
theorem cOpE_call (P : Program) (op : Op) (f : Nat) (l : List Opd) : cOpE P op ≠ (.call f, l) := by
  intro h
  have := cOpE_tag P op
  rw [h] at this
  simp at this
theorem cOpE_dyn (P : Program) (op : Op) (l : List Opd) : cOpE P op ≠ (.dyn, l) := by
  intro h
  have := cOpE_tag P op
  rw [h] at this
  simp at this
section
variable {P : Program} {w0 : World} {pass own0 : Nat → Prop} {π : Pl} {e : Env} {h : Heap} {n : Nat} {a : Act} {w : World}
theorem slice_of_rows (s : HSim own0 π h n w) {x : AV} {v : Value} (hr : Rel w (ownOf own0 π) π n x v) {more : List (List AV)} (hm : rowsOf h x = some more) : ∃ ad c, v = .slice ad more.length c := by
  cases x <;> simp only [rowsOf] at hm <;> first | cases hm | skip
  · rename_i id off len
    split at hm
    · rename_i q rows ho
      split at hm
      · rename_i hle
        cases hm
        rw [length_sub _ _ _ hle]
        obtain ⟨_, p, hp, _⟩ := s.obj id _ ho
        cases hr with
        | refLive _ _ _ b cap p' hp' hb h1 h2 => exact ⟨_, _, rfl⟩
        | refEnd _ _ o b p' hp' hb => exact ⟨_, _, rfl⟩
        | refNil _ ad p' hp' hb => exact ⟨_, _, rfl⟩
        | refDead _ _ _ _ _ hd _ => rw [hp] at hd; cases hd
      · cases hm
    · cases hm
  · cases hr; exact ⟨_, _, rfl⟩
  · cases hr with
    | valNil ad cap => exact ⟨_, _, rfl⟩
    | val => exact ⟨_, _, rfl⟩
theorem zeroCells_at {z : Array Value} {k i j : Nat} (hi : i < k) (hj : j < z.size) : (Builtin.zeroCells z k)[i * z.size + j]? = z[j]? := by
  have hlt : i * z.size + j < k * z.size := by
    have := Nat.mul_le_mul_right z.size (show i + 1 ≤ k by omega)
    rw [Nat.add_mul] at this
    omega
  unfold Builtin.zeroCells
  rw [Array.getElem?_map]
  have hsz : (Array.range (k * z.size)).size = k * z.size := Array.size_range
  rw [Array.getElem?_eq_getElem (by rw [hsz]; exact hlt)]
  simp only [Array.getElem_range, Option.map_some]
  rw [Nat.add_comm, Nat.add_mul_mod_self_right, Nat.mod_eq_of_lt hj, getElem!_pos z j hj]
  exact (Array.getElem?_eq_getElem hj).symm
theorem snd_apz (s : Sim w0 pass own0 π e h n a w) {t u ty el : TypeId} {k' : IntKind} {z b : Nat} {zero : List AV} (ht : cElem P t = some el) (hu : P.underlying u = some (.int k')) (hz : cSize P el = some z) (hb : cBytes P el = some b) (hzero : cZero P el = some zero)
    (hzl : zero.length = z) (hz0 : 0 < z) {x y : AV} {v1 v2 : Value} (hx : Rel w (ownOf own0 π) π n x v1) (hy : Rel w (ownOf own0 π) π n y v2) {K : Kont} (hk : sem (.apz z b zero) [x, y] h n K) :
    Done P w0 pass own0 π n w (Builtin.append_ #[t, u] ty #[v1, v2]) K := by
  cases x <;> cases y <;> simp only [sem] at hk <;> first | exact hk.elim | skip
  rename_i k1 l
  obtain ⟨h0, hbytes, hm, hk⟩ := hk
  cases hy
  obtain ⟨ad, rfl⟩ : ∃ ad, v1 = Value.slice ad 0 0 := by cases hx with | snil ad => exact ⟨ad, rfl⟩
  obtain ⟨inf, zv, hi, hzv, hcv⟩ := cZero_spec hzero
  have hz' : inf.size = z := by simpa [cSize, hi] using hz
  have hb' : inf.bytes = b := by simpa [cBytes, hi] using hb
  subst hz'; subst hb'
  obtain ⟨m, rfl⟩ : ∃ m : Nat, l = m := ⟨l.toNat, by omega⟩
  have hbm : m * inf.bytes ≤ 140737488355328 := by
    refine Int.ofNat_le.1 ?_
    rw [Int.natCast_mul, Int.mul_comm]
    exact hbytes
  have hr := Lib.run_append_grow_zeros (P := P) w t u ty el inf zv k1 k' (cElem_eq ht) hu hi hzv ad 0 0 [] (by cases ad <;> simp [Builtin.firstCells, loadCells, loadCellsFrom]) m (by omega) hz0 (by omega) (by omega) (by omega) (by
    rw [Nat.zero_add, nextslicecap_zero (by omega)]; omega)
  rw [Nat.zero_add] at hr
  have hge := grownCap_ge w m 0 el
  have hcm := grownCap_le_maxLen w m 0 el (by simp only [maxLen]; omega)
  have A0 := adds_new s.hs (.cells (([] : List Value).toArray ++ Builtin.zeroCells zv.cells m ++ Builtin.zeroCells zv.cells (grownCap w m 0 el - m)) el) w.drew (.inr rfl) inf.size (grownCap w m 0 el)
  obtain ⟨g1, g2⟩ := rel_zero (w := w) (own := ownOf own0 π) (π := π) (n := n) hcv
  have hsz : zv.cells.size = inf.size := by rw [g1, hzl]
  refine ⟨_, _, _, _, _, _, hr, A0.go s.fr (o := .arr inf.size (List.replicate m zero)) ?_, ref_own _ _ _ _ _ _ _ _ rfl _ hge (Nat.le_refl _), by rw [hpAdd_none]; exact hk⟩
  refine objAt_arr (heap_alloc_new w.drew _) ?_ (by simp; omega) hcm ?_ ?_
  · simp only [Array.size_append, List.size_toArray, List.length_nil, Nat.zero_add, size_zeroCells, hsz, ← Nat.add_mul]
    congr 1; omega
  · intro i row hr
    rw [List.getElem?_replicate] at hr
    split at hr
    · cases hr; exact ⟨hzl, free_zero hzero⟩
    · cases hr
  · intro i j row x u hr hx hu
    rw [List.getElem?_replicate] at hr
    split at hr
    · rename_i him
      cases hr
      refine Rel.mono A0.mono (g2 j x u hx ?_)
      have hj : j < inf.size := by rw [← hzl]; exact (List.getElem?_eq_some_iff.1 hx).1
      have hlt : i * inf.size + j < m * inf.size := by
        have := Nat.mul_le_mul_right inf.size (show i + 1 ≤ m by omega)
        rw [Nat.add_mul] at this
        omega
      rw [Array.getElem?_append_left (by simp [size_zeroCells, hsz]; omega)] at hu
      have hz1 := zeroCells_at (z := zv.cells) (k := m) (i := i) (j := j) him (by omega)
      rw [hsz] at hz1
      rw [← hz1]
      simpa using hu
    · cases hr
theorem snd_b2s (s : Sim w0 pass own0 π e h n a w) {src dst el : TypeId} (hs : P.underlying src = some (.slice el)) (he : P.underlying el = some (.int .u8)) (hd : P.underlying dst = some .string) {x : AV} {v : Value}
    (hr : Rel w (ownOf own0 π) π n x v) {bs : List UInt8} (hb : rowsOf h x = some (bs.map byteRow)) {K : Kont} (hk : K (.str bs) h n) : Done P w0 pass own0 π n w (convert src dst v) K := by
  obtain ⟨news, S⟩ := src_of (P := P) s (z := 1) (by decide) hr hb (by intro r hr; simp at hr; obtain ⟨b, _, rfl⟩ := hr; rfl)
  obtain ⟨ad, c, rfl⟩ := slice_of_rows s.hs hr hb
  refine done_same s (v := .string ⟨bs.toArray⟩) ?_ (.str bs) hk
  rw [run_convert_bytes_string w src dst el _ _ _ hs he hd]
  have hn : news = bs.map fun b => Value.int .u8 b.toNat := by
    have hsz := S.size
    apply List.ext_getElem (by simpa using hsz)
    intro i h1 h2
    have hib : i < bs.length := by simpa using h2
    have := S.rel i 0 (byteRow bs[i]) (.int .u8 bs[i].toNat) news[i] (by simp [List.getElem?_eq_getElem hib]) rfl (by rw [Nat.mul_one, Nat.add_zero, List.getElem?_eq_getElem h1])
    generalize news[i] = u at this
    cases this
    simp
  cases ad with
  | none =>
    have hf := S.first w rfl
    simp only [Builtin.firstCells] at hf
    have hnil : news = [] := by
      have : (Result.ok #[] w : Result (Array Value)) = .ok news.toArray w := hf
      simpa using this.symm
    rw [hnil] at hn
    have : bs = [] := by simpa using hn.symm
    subst this
    rfl
  | some ad =>
    have hf := S.first w rfl
    simp only [Builtin.firstCells, Nat.mul_one] at hf
    rw [hn] at hf
    have hf' : (loadCells ad (bs.map byteRow).length).run P w = .ok ((bs.map fun b => (b.toNat : Int)).map (Value.int .u8)).toArray w := by
      rw [hf]; simp [Function.comp_def]
    rw [run_bytesToString w ad _ _ _ hf', foldl_push_byteCells]
    have he0 : ByteArray.empty.data = #[] := rfl
    rw [he0]
    simp
theorem go_ext (s : Sim w0 pass own0 π e h n a w) {w' : World} (E : Ext w w' (fun _ => False)) : Go1 w0 pass own0 π n w π h n w' := by
  have hk : ∀ b, b < w.heap.size → w'.heap[b]? = w.heap[b]? := fun b hb => E.kept b hb (by simp)
  have M : Mono own0 π π n n w w' := ⟨E.size, fun b hb ho => ⟨hk b hb, ho⟩, fun id p hp => ⟨.inl hp, (s.hs.lt hp).1⟩, fun _ hp _ => hp, Nat.le_refl _, E.os, E.tape, E.output⟩
  refine ⟨M, ⟨s.hs.dom, fun id o ho => ?_, s.hs.inj, s.hs.sep, fun b hb => Nat.lt_of_lt_of_le (s.hs.old b hb) M.size, fun b k hb => ?_⟩, ?_⟩
  · obtain ⟨h1, p, h2, h3⟩ := s.hs.obj id o ho
    exact ⟨h1, p, h2, h3.mono M (fun b hb => hk b (s.hs.blk_lt h2 hb)) (fun b i j hb => ⟨hk b (s.hs.hid b _ hb).2.1, hb⟩)⟩
  · obtain ⟨g1, g2, g3, g4⟩ := s.hs.hid b k hb
    exact ⟨g1, Nat.lt_of_lt_of_le g2 M.size, g3, g4⟩
  · exact ⟨E.os.trans s.fr.os, E.tape.trans s.fr.tape, E.output.trans s.fr.output, Nat.le_trans s.fr.size E.size, fun b hb hp => (hk b (Nat.lt_of_lt_of_le hb s.fr.size)).trans (s.fr.kept b hb hp), fun id p b h1 h2 => s.fr.blk id p b h1 h2, s.fr.hid⟩
theorem ext_alloc (w : World) (o : Obj) : Ext w (w.drew.alloc o) (fun _ => False) := by
  refine ⟨rfl, ⟨rfl, .inl (by first | exact Nat.le_refl _ | exact Nat.le_succ _)⟩, rfl, ?_, fun b hb _ => ?_⟩
  · show w.heap.size ≤ (w.heap.push o).size
    rw [Array.size_push]; omega
  · show (w.heap.push o)[b]? = w.heap[b]?
    rw [Array.getElem?_push, if_neg (by omega)]
theorem alloc_lt (w : World) (o : Obj) : w.heap.size < (w.drew.alloc o).heap.size := by
  show w.heap.size < (w.heap.push o).size
  rw [Array.size_push]; omega
theorem snd_s2b (s : Sim w0 pass own0 π e h n a w) {src dst el : TypeId} (hs : P.underlying src = some .string) (hd : P.underlying dst = some (.slice el)) (he : P.underlying el = some (.int .u8)) {bs : List UInt8} {v : Value}
    (hr : Rel w (ownOf own0 π) π n (.str bs) v) (hb : bs.length ≤ 140737488355328) {K : Kont} (hk : K (.val (bs.map byteRow)) h n) : Done P w0 pass own0 π n w (convert src dst v) K := by
  cases hr
  have hrun := run_bytes_of_string (P := P) w src dst el ⟨bs.toArray⟩ hs hd he
  refine ⟨_, _, π, _, h, n, hrun, go_ext s (ext_alloc _ _), ?_, hk⟩
  have hsz : ByteArray.size ⟨bs.toArray⟩ = bs.length := by simp [ByteArray.size]
  rw [hsz]
  have hge := grownCap_ge w bs.length 0 el
  have hown : ¬ ownOf own0 π w.heap.size := fun h1 => by have := own_lt s.hs h1; omega
  have := Rel.val (w := w.drew.alloc (.cells (bytesRow ⟨bs.toArray⟩ (grownCap w bs.length 0 el)) el ((bytesRow ⟨bs.toArray⟩ (grownCap w bs.length 0 el)).size, (bytesRow ⟨bs.toArray⟩ (grownCap w bs.length 0 el)).size + 1)))
    (own := ownOf own0 π) (π := π) (N := n) (bs.map byteRow) w.heap.size 0 (grownCap w bs.length 0 el) 1 (fun i j => .int .u8 (bs.getD i 0).toNat) hown (alloc_lt _ _) (by simpa using hge) (by simp; omega)
    (fun i row hr => by simp at hr; obtain ⟨b, _, rfl⟩ := hr; rfl)
    (fun i row x hr hx => by simp at hr; obtain ⟨b, _, rfl⟩ := hr; simp [byteRow] at hx; subst hx; rfl)
    (fun i j row x hr hx => by
      simp only [List.getElem?_map, Option.map_eq_some_iff] at hr
      obtain ⟨b, hb', rfl⟩ := hr
      have hj : j = 0 := by
        have := (List.getElem?_eq_some_iff.1 hx).1
        simp [byteRow] at this; omega
      subst hj
      have hc := World.cell?_alloc_mark w.drew (bytesRow ⟨bs.toArray⟩ (grownCap w bs.length 0 el)) el ((bytesRow ⟨bs.toArray⟩ (grownCap w bs.length 0 el)).size, (bytesRow ⟨bs.toArray⟩ (grownCap w bs.length 0 el)).size + 1) i
      have hil := (List.getElem?_eq_some_iff.1 hb').1
      simp only [Nat.mul_one, Nat.zero_add, Nat.add_zero]
      refine hc.trans ?_
      simp only [bytesRow]
      rw [Array.getElem?_append, if_pos (by simpa using hil)]
      simp [hb', List.getD_eq_getElem?_getD])
    (fun i j row x hr hx => by
      simp only [List.getElem?_map, Option.map_eq_some_iff] at hr
      obtain ⟨b, hb', rfl⟩ := hr
      have hj : j = 0 := by
        have := (List.getElem?_eq_some_iff.1 hx).1
        simp [byteRow] at this; omega
      subst hj
      simp [byteRow] at hx; subst hx
      simp only [List.getD_eq_getElem?_getD, hb', Option.getD_some]
      exact .int _ _)
  simpa using this
theorem snd_aidx (s : Sim w0 pass own0 π e h n a w) {t el : TypeId} {len : Nat} (ht : P.underlying t = some (.array len el)) (ha : cAgg P el = some false) (hz : cSize P el = some 1) {vs : List AV} {v u : Value} {k : IntKind} {i : Int} {c : AV}
    (hr : Rel w (ownOf own0 π) π n (.agg vs) v) (hu : Rel w (ownOf own0 π) π n (.int k i) u) (h0 : 0 ≤ i) (h1 : i < len) (hc : vs[i.toNat]? = some c) {K : Kont} (hk : K c h n) : Done P w0 pass own0 π n w (Instr.index t v u) K := by
  cases hu
  cases hr with
  | agg _ cs hl hh =>
    have hil := (List.getElem?_eq_some_iff.1 hc).1
    have hci : cs[i.toNat]? = some cs[i.toNat] := Array.getElem?_eq_getElem (by omega)
    refine done_same s (v := cs[i.toNat]) ?_ (hh _ _ _ hc hci) hk
    unfold cSize at hz
    obtain ⟨inf, hi, hinf⟩ := Option.map_eq_some_iff.1 hz
    unfold cAgg at ha
    cases hd : P.underlying el with
    | none => simp [hd] at ha
    | some d =>
      have hagg : (isAgg el).run P w = .ok false w := by cases d <;> simp [hd] at ha <;> simp [isAgg, run_underlying hd]
      simp [Instr.index, asIntOf, run_underlying ht, h0, h1, sizeOf, typeInfo, hi, hinf, part, hagg, hci]
theorem snd_bslv (s : Sim w0 pass own0 π e h n a w) {t el : TypeId} {len z : Nat} {parts : Array (Nat × Operand)} (ht : cElem P t = some el) (hz : cSize P el = some z)
    (h1 : parts.toList.length = len) (h2 : inOrder parts.toList 0 = true) (h3 : 0 < z) (hzv : ((P.info? el).bind (·.zero)).isSome = true) {l : List Opd} (hl : cOpds (parts.toList.map (·.2)) = some l)
    {K : Kont} (hk : sem (.bslv z) (l.map (Opd.ev e)) h n K) : Done P w0 pass own0 π n w (Instr.buildSlice t len (parts.map fun (i, x) => (i, a.eval x))) K := by
  simp only [sem] at hk
  obtain ⟨hok, hsmall, hk⟩ := hk
  have hokc : ∀ v ∈ l.map (Opd.ev e), ∀ c ∈ v.cells, c.okc anyH := by
    intro v hv c hc
    split at hk
    · rename_i hall
      exact okc_of_free ((List.all_eq_true.1 ((List.all_eq_true.1 hall) v hv)) c hc)
    · exact hk.1 v hv c hc
  obtain ⟨hll, cells, k1, k2, k3⟩ := bsl_run s ht hz h1 h2 h3 hzv hl (fun v hv => ⟨hok v hv, hokc v hv⟩) hsmall
  simp only [List.length_map] at hsmall
  rw [hll] at hsmall
  have hle : len ≤ len * z := Nat.le_mul_of_pos_right _ h3
  have E : Ext w (w.alloc (.cells cells el)) (fun _ => False) := by
    refine ⟨rfl, ⟨rfl, .inl (by first | exact Nat.le_refl _ | exact Nat.le_succ _)⟩, rfl, ?_, fun b hb _ => ?_⟩
    · show w.heap.size ≤ (w.heap.push _).size
      rw [Array.size_push]; omega
    · show (w.heap.push _)[b]? = w.heap[b]?
      rw [Array.getElem?_push, if_neg (by omega)]
  have G := go_ext s E
  have hown : ¬ ownOf own0 π w.heap.size := fun h1 => by have := own_lt s.hs h1; omega
  have hrl : ((l.map (Opd.ev e)).map AV.cells).length = len := by simp [hll]
  have hcell : ∀ (i : Nat) (row : List AV), ((l.map (Opd.ev e)).map AV.cells)[i]? = some row → row.length = z ∧ ∀ x ∈ row, x.okc anyH := by
    intro i row hr
    simp only [List.getElem?_map, Option.map_eq_some_iff] at hr
    obtain ⟨y, ⟨o, ho, rfl⟩, rfl⟩ := hr
    have hm : o.ev e ∈ l.map (Opd.ev e) := by simp only [List.mem_map]; exact ⟨o, List.mem_of_getElem? ho, rfl⟩
    exact ⟨hok _ hm, hokc _ hm⟩
  have hpos : ∀ (i j : Nat) (row : List AV) (x : AV), ((l.map (Opd.ev e)).map AV.cells)[i]? = some row → row[j]? = some x → i * z + j < cells.size := by
    intro i j row x hr hx
    have hi := (List.getElem?_eq_some_iff.1 hr).1
    have hj := (List.getElem?_eq_some_iff.1 hx).1
    rw [(hcell i row hr).1] at hj
    rw [hrl] at hi
    rw [k2]
    have : i * z + z ≤ len * z := by rw [← Nat.succ_mul]; exact Nat.mul_le_mul_right _ hi
    omega
  have hcc : ∀ (i j : Nat) (row : List AV) (x : AV), ((l.map (Opd.ev e)).map AV.cells)[i]? = some row → row[j]? = some x → (w.alloc (.cells cells el)).cell? ⟨w.heap.size, 0 + (i * z + j), none⟩ = some (cells.getD (i * z + j) Go.undef) := by
    intro i j row x hr hx
    have hp := hpos i j row x hr hx
    rw [Nat.zero_add]
    refine (World.cell?_alloc_mark w cells el (0, 0) (i * z + j)).trans ?_
    simp [Array.getD_eq_getD_getElem?, hp]
  have hrr : ∀ (i j : Nat) (row : List AV) (x : AV), ((l.map (Opd.ev e)).map AV.cells)[i]? = some row → row[j]? = some x → Rel (w.alloc (.cells cells el)) (ownOf own0 π) π n x (cells.getD (i * z + j) Go.undef) := by
    intro i j row x hr hx
    have hp := hpos i j row x hr hx
    have := (k3 i j row x cells[i * z + j] hr hx (Array.getElem?_eq_getElem hp)).mono G.mono
    simpa [Array.getD_eq_getD_getElem?, hp] using this
  split at hk
  · rename_i hall
    refine ⟨_, _, π, _, h, n, k1, G, ?_, hk⟩
    have hfree : ∀ (i : Nat) (row : List AV), ((l.map (Opd.ev e)).map AV.cells)[i]? = some row → ∀ x ∈ row, x.free = true := by
      intro i row hr x hx
      simp only [List.getElem?_map, Option.map_eq_some_iff] at hr
      obtain ⟨y, ⟨o, ho, rfl⟩, rfl⟩ := hr
      exact (List.all_eq_true.1 ((List.all_eq_true.1 hall) (o.ev e) (by simp only [List.mem_map]; exact ⟨o, List.mem_of_getElem? ho, rfl⟩))) x hx
    have hR := Rel.val (w := w.alloc (.cells cells el)) (own := ownOf own0 π) (π := π) (N := n) ((l.map (Opd.ev e)).map AV.cells) w.heap.size 0 len z (fun i j => cells.getD (i * z + j) Go.undef) hown
      (by show w.heap.size < (w.heap.push _).size; rw [Array.size_push]; omega) (by omega) (by omega) (fun i row hr => (hcell i row hr).1) (fun i row x hr hx => hfree i row hr x hx) hcc hrr
    rw [hrl] at hR
    exact hR
  · refine ⟨_, _, π, _, h, n, k1, G, ?_, hk.2⟩
    have hR := Rel.tmp (w := w.alloc (.cells cells el)) (own := ownOf own0 π) (π := π) (N := n) ((l.map (Opd.ev e)).map AV.cells) w.heap.size 0 len z (fun i j => cells.getD (i * z + j) Go.undef) hown
      (by show w.heap.size < (w.heap.push _).size; rw [Array.size_push]; omega) (by omega) (by omega) (fun i row hr => (hcell i row hr).1) hcc
      (fun i j row x hr hx => (one_of_okc (hrr i j row x hr hx) ((hcell i row hr).2 x (List.mem_of_getElem? hx))).1) hrr
    rw [hrl] at hR
    exact hR
theorem snd_bsle (s : Sim w0 pass own0 π e h n a w) {t el : TypeId} {len z : Nat} {parts : Array (Nat × Operand)} (ht : cElem P t = some el) (hz : cSize P el = some z)
    (h1 : parts.toList.length = len) (h2 : inOrder parts.toList 0 = true) (h3 : 0 < z) (hzv : ((P.info? el).bind (·.zero)).isSome = true) (hl : cOpds (parts.toList.map (·.2)) = some [])
    {K : Kont} (hk : sem .bsle (([] : List Opd).map (Opd.ev e)) h n K) : Done P w0 pass own0 π n w (Instr.buildSlice t len (parts.map fun (i, x) => (i, a.eval x))) K := by
  simp only [List.map_nil, sem] at hk
  obtain ⟨hll, cells, k1, k2, k3⟩ := bsl_run s ht hz h1 h2 h3 hzv hl (by simp) (by simp)
  have hl0 : len = 0 := by simpa using hll.symm
  subst hl0
  have E : Ext w (w.alloc (.cells cells el)) (fun _ => False) := by
    refine ⟨rfl, ⟨rfl, .inl (by first | exact Nat.le_refl _ | exact Nat.le_succ _)⟩, rfl, ?_, fun b hb _ => ?_⟩
    · show w.heap.size ≤ (w.heap.push _).size
      rw [Array.size_push]; omega
    · show (w.heap.push _)[b]? = w.heap[b]?
      rw [Array.getElem?_push, if_neg (by omega)]
  exact ⟨_, _, π, _, h, n, k1, go_ext s E, .snil _, hk⟩
theorem op_doneV0 (s : Sim w0 pass own0 π e h n a w) {o : Oper} {z : Nat} (hc : cOpT P o.op = some (.bsl z, [])) {K : Kont} (hk : sem .bsle (([] : List Opd).map (Opd.ev e)) h n K) :
    OpDone P w0 pass own0 π n w (execOp a.eval o) K := by
  have hc' : cOp P o.op = some (.bsl z, []) := by
    unfold cOpT at hc
    split at hc
    · rename_i x hx; rw [hx]; exact hc
    · exfalso
      have := cOpE_tag P o.op
      rw [Option.some.inj hc] at this
      simp at this
  unfold cOp at hc'
  unfold execOp
  split at hc' <;> first | (exfalso; (repeat' split at hc') <;> simp at hc' <;> done) | skip
  rename_i t len parts hop
  rw [hop]
  split at hc'
  · rename_i el hel
    split at hc'
    · rename_i zz hz
      split at hc'
      · rename_i hcond
        obtain ⟨l, h1, h2⟩ := map_some hc'
        cases h2
        exact opDone_value (snd_bsle s hel hz hcond.1 hcond.2.1 hcond.2.2.1 hcond.2.2.2 h1 hk)
      · cases hc'
    · cases hc'
  · cases hc'
theorem op_doneV (s : Sim w0 pass own0 π e h n a w) {o : Oper} {z : Nat} {args : List Opd} (hc : cOpT P o.op = some (.bsl z, args)) {K : Kont} (hk : sem (.bslv z) (args.map (Opd.ev e)) h n K) :
    OpDone P w0 pass own0 π n w (execOp a.eval o) K := by
  have hc' : cOp P o.op = some (.bsl z, args) := by
    unfold cOpT at hc
    split at hc
    · rename_i x hx; rw [hx]; exact hc
    · exfalso
      have := cOpE_tag P o.op
      rw [Option.some.inj hc] at this
      simp at this
  unfold cOp at hc'
  unfold execOp
  split at hc' <;> first | (exfalso; (repeat' split at hc') <;> simp at hc' <;> done) | skip
  rename_i t len parts hop
  rw [hop]
  split at hc'
  · rename_i el hel
    split at hc'
    · rename_i zz hz
      split at hc'
      · rename_i hcond
        obtain ⟨l, h1, h2⟩ := map_some hc'
        cases h2
        exact opDone_value (snd_bslv s hel hz hcond.1 hcond.2.1 hcond.2.2.1 hcond.2.2.2 h1 hk)
      · cases hc'
    · cases hc'
  · cases hc'
theorem cBoolEq_spec {op : BinOp} {t : TypeId} (h : cBoolEq P op t = true) : P.underlying t = some .bool ∧ (op = .eql ∨ op = .neq) := by
  unfold cBoolEq at h
  split at h
  · exact ⟨by assumption, .inl rfl⟩
  · exact ⟨by assumption, .inr rfl⟩
  · cases h
theorem run_part1 {t : TypeId} (ht : (∃ k, P.underlying t = some (.int k)) ∨ P.underlying t = some .bool ∨ P.underlying t = some .string) {cs : Array Value} {i : Nat} {u : Value} (hu : cs[i]? = some u) : (part t cs i).run P w = .ok u w := by
  rcases ht with ⟨k, ht⟩ | ht | ht <;> simp [part, isAgg, run_underlying ht, hu]
theorem eqCells_cons {k : Nat} {ks : List Nat} {xs ys : List AV} {c : Bool} (h : eqCells (k :: ks) xs ys = some c) : ∃ x xs' y ys' b c', xs = x :: xs' ∧ ys = y :: ys' ∧ eqCells ks xs' ys' = some c' ∧ c = (b && c') ∧
    ((k = 0 ∧ ∃ kd a a', x = .int kd a ∧ y = .int kd a' ∧ b = (a == a')) ∨ (k = 1 ∧ ∃ a a', x = .bool a ∧ y = .bool a' ∧ b = (a == a')) ∨ (k = 2 ∧ ∃ a a', x = .str a ∧ y = .str a' ∧ b = (a == a'))) := by
  cases xs with
  | nil => simp [eqCells] at h
  | cons x xs =>
    cases ys with
    | nil => rcases k with _ | _ | _ | k <;> cases x <;> simp [eqCells] at h
    | cons y ys =>
      rcases k with _ | _ | _ | k
      · cases x <;> cases y <;> simp only [eqCells, reduceCtorEq] at h
        rename_i k1 a k2 b
        split at h
        · rename_i hk
          subst hk
          obtain ⟨c', h1, h2⟩ := Option.map_eq_some_iff.1 h
          exact ⟨_, _, _, _, a == b, c', rfl, rfl, h1, h2.symm, .inl ⟨rfl, k1, a, b, rfl, rfl, rfl⟩⟩
        · cases h
      · cases x <;> cases y <;> first | (simp [eqCells] at h; done) | skip
        rename_i a b
        have h : (eqCells ks xs ys).map (fun c => (a == b) && c) = some c := h
        obtain ⟨c', h1, h2⟩ := Option.map_eq_some_iff.1 h
        exact ⟨_, _, _, _, a == b, c', rfl, rfl, h1, h2.symm, .inr (.inl ⟨rfl, a, b, rfl, rfl, rfl⟩)⟩
      · cases x <;> cases y <;> first | (simp [eqCells] at h; done) | skip
        rename_i a b
        have h : (eqCells ks xs ys).map (fun c => (a == b) && c) = some c := h
        obtain ⟨c', h1, h2⟩ := Option.map_eq_some_iff.1 h
        exact ⟨_, _, _, _, a == b, c', rfl, rfl, h1, h2.symm, .inr (.inr ⟨rfl, a, b, rfl, rfl, rfl⟩)⟩
      · cases x <;> cases y <;> simp [eqCells] at h
theorem run_eqFields {own : Nat → Prop} {π : Pl} {n : Nat} : ∀ (fs : List Field) (i : Nat) (ks : List Nat) (xs ys : List AV) (c : Bool) (us vs : Array Value), cFieldKs P i fs = some ks → eqCells ks xs ys = some c →
    (∀ (j : Nat) x, xs[j]? = some x → ∃ u, us[i + j]? = some u ∧ Rel w own π n x u) → (∀ (j : Nat) x, ys[j]? = some x → ∃ u, vs[i + j]? = some u ∧ Rel w own π n x u) → (Op.eqFields 9999 us vs fs).run P w = .ok c w
  | [], i, ks, xs, ys, c, us, vs, hk, hc, hx, hy => by
    simp only [cFieldKs, Option.some.injEq] at hk
    subst hk
    unfold eqCells at hc
    split at hc <;> simp_all [Op.eqFields]
  | f :: fs, i, ks, xs, ys, c, us, vs, hk, hc, hx, hy => by
    simp only [cFieldKs] at hk
    split at hk
    · cases hk
    · rename_i hf
      have hf1 : ¬ f.name = "_" := fun h => hf (.inl h)
      have hf2 : f.offset = i := Classical.byContradiction fun h => hf (.inr h)
      have hstep : ∀ (x y : AV) (xs' ys' : List AV) (ks' : List Nat) (b c' : Bool), xs = x :: xs' → ys = y :: ys' → cFieldKs P (i + 1) fs = some ks' → eqCells ks' xs' ys' = some c' → c = (b && c') →
          ((∃ k, P.underlying f.type = some (.int k)) ∨ P.underlying f.type = some .bool ∨ P.underlying f.type = some .string) →
          (∀ u v, Rel w own π n x u → Rel w own π n y v → (Op.equalIn 9999 f.type u v).run P w = .ok b w) → (Op.eqFields 9999 us vs (f :: fs)).run P w = .ok c w := by
        intro x y xs' ys' ks' b c' ex ey hk' hc' ec ht he
        subst ex; subst ey; subst ec
        obtain ⟨u, hu, ru⟩ := hx 0 x rfl
        obtain ⟨v, hv, rv⟩ := hy 0 y rfl
        rw [Nat.add_zero] at hu hv
        have ih := run_eqFields fs (i + 1) ks' xs' ys' c' us vs hk' hc' (fun j z hz => by have := hx (j + 1) z (by simpa using hz); rwa [show i + (j + 1) = i + 1 + j by omega] at this)
          (fun j z hz => by have := hy (j + 1) z (by simpa using hz); rwa [show i + (j + 1) = i + 1 + j by omega] at this)
        simp only [Op.eqFields, ne_eq, hf1, not_false_eq_true, if_true, hf2, Sem.run_bind, run_part1 (w := w) ht hu, run_part1 (w := w) ht hv, Result.andThen_ok, he u v ru rv]
        cases b
        · simp
        · simpa using ih
      split at hk
      · rename_i k ht
        obtain ⟨ks', hk', rfl⟩ := Option.map_eq_some_iff.1 hk
        obtain ⟨x, xs', y, ys', b, c', rfl, rfl, h1, h2, h3⟩ := eqCells_cons hc
        rcases h3 with ⟨_, kd, a, a', rfl, rfl, rfl⟩ | ⟨h, _⟩ | ⟨h, _⟩
        · refine hstep _ _ xs' ys' ks' (a == a') c' rfl rfl hk' h1 h2 (.inl ⟨k, ht⟩) (fun u v ru rv => ?_)
          cases ru; cases rv
          exact run_equalIn_int w 9998 f.type _ _ _ _ ht
        · cases h
        · cases h
      · rename_i ht
        obtain ⟨ks', hk', rfl⟩ := Option.map_eq_some_iff.1 hk
        obtain ⟨x, xs', y, ys', b, c', rfl, rfl, h1, h2, h3⟩ := eqCells_cons hc
        rcases h3 with ⟨h, _⟩ | ⟨_, a, a', rfl, rfl, rfl⟩ | ⟨h, _⟩
        · cases h
        · refine hstep _ _ xs' ys' ks' (a == a') c' rfl rfl hk' h1 h2 (.inr (.inl ht)) (fun u v ru rv => ?_)
          cases ru; cases rv
          exact run_equalIn_bool' w 9998 f.type _ _ ht
        · cases h
      · rename_i ht
        obtain ⟨ks', hk', rfl⟩ := Option.map_eq_some_iff.1 hk
        obtain ⟨x, xs', y, ys', b, c', rfl, rfl, h1, h2, h3⟩ := eqCells_cons hc
        rcases h3 with ⟨h, _⟩ | ⟨h, _⟩ | ⟨_, a, a', rfl, rfl, rfl⟩
        · cases h
        · cases h
        · refine hstep _ _ xs' ys' ks' (a == a') c' rfl rfl hk' h1 h2 (.inr (.inr ht)) (fun u v ru rv => ?_)
          cases ru; cases rv
          have e := run_equalIn_string (P := P) w 9998 f.type ⟨a.toArray⟩ ⟨a'.toArray⟩ ht
          rw [e, ByteArray.toList_eq, ByteArray.toList_eq]
      · cases hk
theorem cNilEq_spec {P : Program} {op : BinOp} {t : TypeId} {y : Operand} {g : Bool} (h : cNilEq P op t y = some g) :
    ∃ el, P.underlying t = some (.slice el) ∧ y = .const (.slice none 0 0) ∧ ((op = .eql ∧ g = false) ∨ (op = .neq ∧ g = true)) := by
  unfold cNilEq at h
  split at h
  · rename_i el ht; cases h; exact ⟨el, ht, rfl, .inl ⟨rfl, rfl⟩⟩
  · rename_i el ht; cases h; exact ⟨el, ht, rfl, .inr ⟨rfl, rfl⟩⟩
  · cases h
theorem run_eqIn_slice_nil0 {P : Program} (w : World) (d : Nat) (t e : TypeId) (a : Option Addr) (l c : Nat) (h : P.underlying t = some (.slice e)) : (Op.equalIn (d + 1) t (.slice a l c) (.slice none 0 0)).run P w = .ok a.isNone w := by
  cases a <;> simp [Op.equalIn, run_underlying h]
theorem run_eq_slice_nil0 {P : Program} (w : World) (t e : TypeId) (a : Option Addr) (l c : Nat) (h : P.underlying t = some (.slice e)) : (Op.equalIn 10000 t (.slice a l c) (.slice none 0 0)).run P w = .ok a.isNone w :=
  run_eqIn_slice_nil0 w 9999 t e a l c h
theorem run_eql_slice_nil0 {P : Program} (w : World) (t e : TypeId) (a : Option Addr) (l c : Nat) (h : P.underlying t = some (.slice e)) : (binOp .eql t (.slice a l c) (.slice none 0 0)).run P w = .ok (.bool a.isNone) w := by
  simp only [binOp]
  simp [Op.equal, Op.maxDepth, run_eq_slice_nil0 w t e a l c h]
theorem run_neq_slice_nil0 {P : Program} (w : World) (t e : TypeId) (a : Option Addr) (l c : Nat) (h : P.underlying t = some (.slice e)) : (binOp .neq t (.slice a l c) (.slice none 0 0)).run P w = .ok (.bool (!a.isNone)) w := by
  simp only [binOp]
  simp [Op.equal, Op.maxDepth, run_eq_slice_nil0 w t e a l c h]
theorem cStructEq_spec {op : BinOp} {t : TypeId} {g : Bool} {ks : List Nat} (h : cStructEq P op t = some (g, ks)) :
    ∃ fs, P.underlying t = some (.struct fs) ∧ P.stoodInHeld t = false ∧ P.eqGuardType P.depth t = false ∧ cFieldKs P 0 fs.toList = some ks ∧ ((op = .eql ∧ g = false) ∨ (op = .neq ∧ g = true)) := by
  unfold cStructEq at h
  split at h
  · rename_i fs ht
    split at h
    · rename_i hh
      split at h
      · obtain ⟨ks', h1, h2⟩ := Option.map_eq_some_iff.1 h
        cases h2
        exact ⟨fs, ht, hh.1, hh.2, h1, .inl ⟨rfl, rfl⟩⟩
      · obtain ⟨ks', h1, h2⟩ := Option.map_eq_some_iff.1 h
        cases h2
        exact ⟨fs, ht, hh.1, hh.2, h1, .inr ⟨rfl, rfl⟩⟩
      · cases h
    · cases h
  · cases h
theorem op_doneT (s : Sim w0 pass own0 π e h n a w) {o : Oper} {tag : Tag} {args : List Opd} (hc : cOpT P o.op = some (tag, args)) {K : Kont} (hk : sem tag (args.map (Opd.ev e)) h n K) :
    OpDone P w0 pass own0 π n w (execOp a.eval o) K := by
  unfold cOpT at hc
  split at hc
  · rename_i x hx
    rw [hc] at hx
    exact op_done s hx hk
  · rename_i hnone
    have hc := Option.some.inj hc
    unfold execOp
    unfold cOpE at hc
    split at hc
    · rename_i src dst x hop
      rw [hop]
      split at hc
      · rename_i el hs hd
        split at hc
        · rename_i l he hl
          cases hc
          obtain ⟨y, rfl, hy⟩ := cOpds1 hl
          simp only [List.map_cons, List.map_nil, sem] at hk
          obtain ⟨bs, hb, hk⟩ := hk
          exact opDone_value (snd_b2s s hs he hd (rel_opd s hy) hb hk)
        · cases hc; exact hk.elim
      · rename_i el hs hd
        split at hc
        · rename_i l he hl
          cases hc
          obtain ⟨y, rfl, hy⟩ := cOpds1 hl
          have r1 := rel_opd s hy
          simp only [List.map_cons, List.map_nil] at hk
          generalize Opd.ev e y = yy at r1 hk
          cases yy <;> simp only [sem] at hk <;> first | exact hk.elim | skip
          exact opDone_value (snd_s2b s hs hd he r1 hk.1 hk.2)
        · cases hc; exact hk.elim
      · cases hc; exact hk.elim
    · rename_i t x i hop
      rw [hop]
      split at hc
      · rename_i len el ht
        split at hc
        · rename_i l ha hz hl
          cases hc
          obtain ⟨x', i', rfl, hx', hi'⟩ := cOpds2 hl
          have r1 := rel_opd s hx'
          have r2 := rel_opd s hi'
          simp only [List.map_cons, List.map_nil] at hk
          generalize Opd.ev e x' = xx at r1 hk
          generalize Opd.ev e i' = ii at r2 hk
          cases xx <;> simp only [sem] at hk <;> first | exact hk.elim | skip
          cases ii <;> simp only [] at hk <;> first | exact hk.elim | skip
          obtain ⟨k0, k1, k2⟩ := hk
          split at k2
          · rename_i c hcc
            exact opDone_value (snd_aidx s ht ha hz r1 r2 k0 k1 hcc k2)
          · exact k2.elim
        · cases hc; exact hk.elim
      · cases hc; exact hk.elim
    · rename_i op t x y t' hop
      rw [hop]
      split at hc
      · rename_i hb
        obtain ⟨ht, ho⟩ := cBoolEq_spec hb
        split at hc
        all_goals first | (cases hc; exact hk.elim) | skip
        all_goals
          rename_i l hl
          cases hc
          obtain ⟨x', y', rfl, hx', hy'⟩ := cOpds2 hl
          have r1 := rel_opd s hx'
          have r2 := rel_opd s hy'
          simp only [List.map_cons, List.map_nil] at hk
          generalize Opd.ev e x' = xx at r1 hk
          generalize Opd.ev e y' = yy at r2 hk
          cases xx <;> simp only [sem] at hk <;> first | exact hk.elim | skip
          cases yy <;> simp only [] at hk <;> first | exact hk.elim | skip
          rename_i b1 b2
          have hu : a.eval x = .bool b1 := by generalize a.eval x = u at r1; cases r1; rfl
          have hv : a.eval y = .bool b2 := by generalize a.eval y = u at r2; cases r2; rfl
          refine opDone_value (done_same s (v := _) (x := .bool _) ?_ (.bool _) hk)
          simp [hu, hv, eqGuard, run_eql_bool, run_neq_bool, ht]
      · split at hc
        · rename_i g ks l hst hl
          cases hc
          obtain ⟨fs, ht, hsi, heg, hks, hop'⟩ := cStructEq_spec hst
          obtain ⟨x', y', rfl, hx', hy'⟩ := cOpds2 hl
          have r1 := rel_opd s hx'
          have r2 := rel_opd s hy'
          simp only [List.map_cons, List.map_nil] at hk
          generalize Opd.ev e x' = xx at r1 hk
          generalize Opd.ev e y' = yy at r2 hk
          cases xx <;> simp only [sem] at hk <;> first | exact hk.elim | skip
          cases yy <;> simp only [] at hk <;> first | exact hk.elim | skip
          rename_i xs ys
          split at hk
          · rename_i c hcc
            have hu : ∃ us, a.eval x = .agg us ∧ us.size = xs.length ∧ ∀ (i : Nat) x u, xs[i]? = some x → us[i]? = some u → Rel w (ownOf own0 π) π n x u := by
              generalize a.eval x = u at r1; cases r1 with | agg _ us h1 h2 => exact ⟨us, rfl, h1, h2⟩
            have hv : ∃ us, a.eval y = .agg us ∧ us.size = ys.length ∧ ∀ (i : Nat) x u, ys[i]? = some x → us[i]? = some u → Rel w (ownOf own0 π) π n x u := by
              generalize a.eval y = u at r2; cases r2 with | agg _ us h1 h2 => exact ⟨us, rfl, h1, h2⟩
            obtain ⟨us, eu, su, hu⟩ := hu
            obtain ⟨vs, ev, sv, hv⟩ := hv
            have get : ∀ (l : List AV) (us : Array Value), us.size = l.length → (∀ (i : Nat) x u, l[i]? = some x → us[i]? = some u → Rel w (ownOf own0 π) π n x u) → ∀ (j : Nat) x, l[j]? = some x → ∃ u, us[0 + j]? = some u ∧ Rel w (ownOf own0 π) π n x u := by
              intro l us hs hh j x hx
              have hlt := (List.getElem?_eq_some_iff.1 hx).1
              have hj : us[j]? = some us[j] := Array.getElem?_eq_getElem (by omega)
              exact ⟨us[j], by rw [Nat.zero_add]; exact hj, hh j x _ hx hj⟩
            have hrun := run_eqFields (P := P) (w := w) fs.toList 0 ks xs ys c us vs hks hcc (get xs us su hu) (get ys vs sv hv)
            have hft : P.fieldsOf t = fs := by unfold Program.fieldsOf; rw [ht]
            have heq : (Op.equalIn 10000 t (.agg us) (.agg vs)).run P w = .ok c w := by
              rw [show (10000 : Nat) = 9999 + 1 from rfl, run_equalIn_struct w 9999 t us vs (by rw [hft]; exact ht) hsi, hft]
              exact hrun
            refine opDone_value (done_same s (v := _) (x := .bool _) ?_ (.bool _) hk)
            rcases hop' with ⟨rfl, rfl⟩ | ⟨rfl, rfl⟩
            · simp [eu, ev, run_eqGuard_agg, heg, run_eql_struct, heq]
            · simp [eu, ev, run_eqGuard_agg, heg, run_neq_struct, heq]
          · exact hk.elim
        · split at hc
          · rename_i g l hnl hl
            cases hc
            obtain ⟨el, ht, rfl, hop'⟩ := cNilEq_spec hnl
            obtain ⟨x', rfl, hx'⟩ := cOpds1 hl
            have r1 := rel_opd s hx'
            simp only [List.map_cons, List.map_nil] at hk
            generalize Opd.ev e x' = xx at r1 hk
            have key : ∀ (c : Prop) (ad : Option Addr) (len cap : Nat), a.eval x = .slice ad len cap → (ad = none → c) → K (maybeN g c) h n →
                Done P w0 pass own0 π n w (do eqGuard op t x (.const (.slice none 0 0)) (a.eval x) (a.eval (.const (.slice none 0 0))); binOp op t (a.eval x) (a.eval (.const (.slice none 0 0)))) K := by
              intro c ad len cap hu hcc hk
              have he2 : a.eval (.const (.slice none 0 0)) = .slice none 0 0 := rfl
              rw [hu, he2]
              rcases hop' with ⟨rfl, rfl⟩ | ⟨rfl, rfl⟩
              · refine done_same s (v := .bool ad.isNone) (x := .maybe c True) ?_ (.maybe _ _ _ (fun hh => hcc (by simpa using hh)) (fun _ => trivial)) hk
                simp [eqGuard, run_eql_slice_nil0 w t el ad len cap ht]
              · refine done_same s (v := .bool (!ad.isNone)) (x := .maybe True c) ?_ (.maybe _ _ _ (fun _ => trivial) (fun hh => hcc (by simpa using hh))) hk
                simp [eqGuard, run_neq_slice_nil0 w t el ad len cap ht]
            refine opDone_value ?_
            cases xx <;> simp only [sem] at hk <;> first | exact hk.elim | skip
            · rename_i id off len
              split at hk
              · rename_i o ho
                generalize hu : a.eval x = u at r1
                cases r1 with
                | refLive _ _ _ b cap p hp hb h1 h2 => rw [← hu]; exact key (len = 0) _ _ _ hu (fun hh => by cases hh) hk
                | refEnd => rw [← hu]; exact key _ _ _ _ hu (fun hh => by cases hh) hk
                | refNil => rw [← hu]; exact key _ _ _ _ hu (fun _ => rfl) hk
                | refDead _ _ _ ad cap hd hn =>
                  obtain ⟨_, p, hp, _⟩ := s.hs.obj _ _ ho
                  rw [hd] at hp; cases hp
              · exact hk.elim
            · generalize hu : a.eval x = u at r1
              cases r1 with
              | snil ad => rw [← hu]; exact key True _ _ _ hu (fun _ => trivial) hk
            · generalize hu : a.eval x = u at r1
              cases r1 with
              | valNil ad cap => rw [← hu]; exact key _ _ _ _ hu (fun _ => rfl) hk
              | val => rw [← hu]; exact key _ _ _ _ hu (fun hh => by cases hh) hk
          · cases hc; exact hk.elim
    · rename_i c hop
      obtain ⟨callee, cargs, ctys⟩ := c
      rw [hop]
      split at hc
      · rename_i hcal
        have hcal : callee = .builtin .cap := hcal
        subst hcal
        split at hc
        · rename_i t x ht hargs
          split at hc
          · rename_i el l hsl hl
            cases hc
            obtain ⟨y, rfl, hy⟩ := cOpds1 hl
            have r1 := rel_opd s hy
            simp only [List.map_cons, List.map_nil] at hk
            generalize Opd.ev e y = yy at r1 hk
            cases yy <;> simp only [sem] at hk <;> first | exact hk.elim | skip
            have e1 : ctys = #[t] := Array.toList_inj.1 (by simpa using ht)
            have e2 : cargs = #[x] := Array.toList_inj.1 (by simpa using hargs)
            subst e1; subst e2
            obtain ⟨ad, hu⟩ : ∃ ad, a.eval x = Value.slice ad 0 0 := by generalize a.eval x = u at r1; cases r1 with | snil ad => exact ⟨ad, rfl⟩
            have hd : Done P w0 pass own0 π n w (Builtin.cap_ #[t] o.type #[a.eval x]) K := by
              rw [hu]
              exact done_same s (v := goInt 0) (by simp [Builtin.cap_, run_underlying hsl]) (.int .i64 0) hk
            have := opDone_value hd
            simpa [resolve, invoke, builtin] using this
          · cases hc; exact hk.elim
        · cases hc; exact hk.elim
      · rename_i hcal
        have hcal : callee = .builtin .append := hcal
        subst hcal
        split at hc
        · rename_i t u x y ht hargs
          split at hc
          · rename_i el k' l hel hu hl
            split at hc
            · rename_i z b zero hz hb hzero
              split at hc
              · rename_i hcond
                cases hc
                obtain ⟨x', y', rfl, hx', hy'⟩ := cOpds2 hl
                have := snd_apz (P := P) (ty := o.type) s hel hu hz hb hzero hcond.1 hcond.2 (rel_opd s hx') (rel_opd s hy') (K := K) (by simpa using hk)
                have := opDone_value this
                have e1 : ctys = #[t, u] := Array.toList_inj.1 (by simpa using ht)
                have e2 : cargs = #[x, y] := Array.toList_inj.1 (by simpa using hargs)
                subst e1; subst e2
                simpa [resolve, invoke, builtin] using this
              · cases hc; exact hk.elim
            · cases hc; exact hk.elim
          · cases hc; exact hk.elim
        · cases hc; exact hk.elim
      · rename_i hcal
        have hcal : callee = .builtin .copy := hcal
        subst hcal
        split at hc
        · rename_i t u x y ht hargs
          split at hc
          · rename_i el l hel hl
            split at hc
            · rename_i z hz
              cases hc
              obtain ⟨x', y', rfl, hx', hy'⟩ := cOpds2 hl
              have := snd_cpy (P := P) (u := u) (ty := o.type) s hel hz (Nat.succ_pos z) (rel_opd s hx') (rel_opd s hy') (K := K) (by simpa using hk)
              have := opDone_value this
              have e1 : ctys = #[t, u] := Array.toList_inj.1 (by simpa using ht)
              have e2 : cargs = #[x, y] := Array.toList_inj.1 (by simpa using hargs)
              subst e1; subst e2
              simpa [resolve, invoke, builtin] using this
            · cases hc; exact hk.elim
          · cases hc; exact hk.elim
        · cases hc; exact hk.elim
      · cases hc; exact hk.elim
    · rename_i t hop
      rw [hop]
      rcases cMapOp_spec hc with ⟨rfl, rfl⟩ | ⟨st, ht, rfl, hl⟩
      · exact hk.elim
      · cases hl
        exact opDone_value (snd_mkm s t hk)
    · rename_i t m k c hop
      rw [hop]
      rcases cMapOp_spec hc with ⟨rfl, rfl⟩ | ⟨st, ht, rfl, hl⟩
      · exact hk.elim
      · obtain ⟨x', y', rfl, hx', hy'⟩ := cOpds2 hl
        cases c
        · exact opDone_value (snd_mlk s ht (rel_opd s hx') (rel_opd s hy') hk)
        · exact opDone_value (snd_mlo s ht (rel_opd s hx') (rel_opd s hy') hk)
    · rename_i t m k v hop
      rw [hop]
      rcases cMapOp_spec hc with ⟨rfl, rfl⟩ | ⟨st, ht, rfl, hl⟩
      · exact hk.elim
      · obtain ⟨x', y', z', rfl, hx', hy', hz'⟩ := cOpds3 hl
        obtain ⟨w', h', q1, q2, q3⟩ := snd_mup s ht (rel_opd s hx') (rel_opd s hy') (rel_opd s hz') hk
        exact ⟨.skip, Go.undef, w', π, .undef, h', n, by simp [q1], rfl, q2, .undef, q3⟩
    · rename_i t m hop
      rw [hop]
      rcases cMapOp_spec hc with ⟨rfl, rfl⟩ | ⟨st, ht, rfl, hl⟩
      · exact hk.elim
      · obtain ⟨x', rfl, hx'⟩ := cOpds1 hl
        exact opDone_value (snd_rng s ht (rel_opd s hx') hk)
    · split at hc <;> (cases hc; exact hk.elim)
    · rename_i m hop
      rw [hop]
      split at hc
      · rename_i l hl
        cases hc
        obtain ⟨x', rfl, hx'⟩ := cOpds1 hl
        exact opDone_value (snd_ent s (rel_opd s hx') hk)
      · cases hc; exact hk.elim
    · cases hc; exact hk.elim
end
abbrev Ctx := Nat → Option Spec
def Env.updo (e : Env) (d : Option Nat) (v : AV) : Env := match d with
  | some t => e.upd t v
  | none => e
abbrev CallF := Nat → List AV → Heap → Nat → Kont → Prop
def opX (C : CallF) (o : IOper) (e : Env) (h : Heap) (n : Nat) (K : Kont) : Prop :=
  match o.tag with
  | .call f => C f (o.args.map (Opd.ev e)) h n K
  | .dyn => (match o.args.map (Opd.ev e) with
    | .fn f caps :: r => C f (r ++ caps) h n K
    | _ => False)
  | t => sem t (o.args.map (Opd.ev e)) h n K
def CK (Γ : Ctx) : CallF := fun f xs h n K => match Γ f with
  | some S => S.call xs h n K
  | none => False
def opN (C : CallF) (o : IOper) (e : Env) (h : Heap) (n : Nat) (K : Kont) : Prop :=
  match o.tag with
  | .nxt => nextK (o.args.map (Opd.ev e)) h n K
  | _ => opX C o e h n K
def opK (Γ : Ctx) (o : IOper) (e : Env) (h : Heap) (n : Nat) (K : Kont) : Prop := opN (CK Γ) o e h n K
def guardK (o : IOper) (e : Env) (yes no : Prop) : Prop := match o.g with
  | none => yes
  | some (t, b) => match e t with
    | .bool c => (c = b → yes) ∧ (c ≠ b → no)
    | .undef => no
    | _ => False
def regK (Γ : Ctx) : List IOper → Env → Heap → Nat → (Env → Heap → Nat → Prop) → Prop
  | [], e, h, n, K => K e h n
  | o :: r, e, h, n, K => guardK o e (opK Γ o e h n fun v h' n' => regK Γ r (e.updo o.dst v) h' n' K) (regK Γ r (e.updo o.dst .undef) h n K)
def CtxSound (P : Program) (Γ : Ctx) : Prop := ∀ f S, Γ f = some S → S.Sound P f
structure Anch where
  k : Nat
  pl : Pl
def Anch.at (A : Anch) (π : Pl) (n : Nat) : Prop := A.k ≤ n ∧ ∀ id, id < A.k → π id = A.pl id ∨ π id = none
theorem Anch.at_mono {A : Anch} {own0 : Nat → Prop} {π π' : Pl} {n n' : Nat} {w w' : World} (h : A.at π n) (m : Mono own0 π π' n n' w w') : A.at π' n' := by
  refine ⟨Nat.le_trans h.1 m.le, fun id hid => ?_⟩
  cases hp : π id with
  | none => exact .inr (m.dead id hp (Nat.lt_of_lt_of_le hid h.1))
  | some p =>
    rcases h.2 id hid with h1 | h1
    · rcases (m.pl id p hp).1 with h2 | h2
      · exact .inl (by rw [h2, ← h1, hp])
      · exact .inr h2
    · rw [hp] at h1; cases h1
section
variable {P : Program} {w0 : World} {pass own0 : Nat → Prop} {A : Anch} {π : Pl} {e : Env} {h : Heap} {n : Nat} {a : Act} {w : World}
def St (w0 : World) (pass own0 : Nat → Prop) (A : Anch) (N : Nat) (e : Env) (h : Heap) (n : Nat) (a : Act) (w : World) : Prop :=
  a.defers = [] ∧ a.tmps.size = N ∧ ∃ π, A.at π n ∧ Sim w0 pass own0 π e h n a w
theorem St.put {N : Nat} {π' : Pl} {h' : Heap} {n' : Nat} {w' : World} (hd : a.defers = []) (hs : a.tmps.size = N) (hA : A.at π n) (s : Sim w0 pass own0 π e h n a w) (g : Go1 w0 pass own0 π n w π' h' n' w') {x : AV} {v : Value} (hr : Rel w' (ownOf own0 π') π' n' x v)
    (d : Option Nat) (hdst : ∀ t, d = some t → t < N) : St w0 pass own0 A N (e.updo d x) h' n' (a.put d v) w' := by
  cases d with
  | none => exact ⟨hd, hs, π', Anch.at_mono hA g.mono, s.put_none g v⟩
  | some t => exact ⟨hd, by simp [Act.put, hs], π', Anch.at_mono hA g.mono, s.put g hr t (by rw [hs]; exact hdst t rfl)⟩
theorem getD_bool {l : Array Value} {d : Nat} {c : Bool} (h : l.getD d Go.undef = .bool c) : l[d]? = some (.bool c) := by
  rw [Array.getD_eq_getD_getElem?] at h
  cases hq : l[d]? with
  | none => rw [hq] at h; simp [Go.undef] at h
  | some v => rw [hq] at h; simp at h; rw [h]
theorem call_sound (s : Sim w0 pass own0 π e h n a w) {f : Nat} {S : Spec} (hf : S.Sound P f) {xs : List AV} {vs : Array Value} (hr : Rels w (ownOf own0 π) π n xs vs.toList) {K : Kont} (hk : S.call xs h n K) :
    CallDone P w0 pass own0 π n w f vs K := by
  cases S with
  | pure R => exact call_pure s hf hr hk
  | loose R => exact call_loose s hf hr hk
  | gen k G => exact call_gen s hf hr hk
theorem rels_opds (s : Sim w0 pass own0 π e h n a w) {xs : List Operand} {ys : List Opd} (hc : cOpds xs = some ys) : Rels w (ownOf own0 π) π n (ys.map (Opd.ev e)) (xs.map a.eval) := rel_opds s xs ys hc
theorem run_call {o : Oper} {c : Call} (hop : o.op = .call c) {fv : Operand} (hcal : c.callee = .value fv) {f : Nat} {cs : Array Value} (hfv : a.eval fv = .func (.func f) #[] cs) {fn : Func} (hfn : P.funcs[f]? = some fn) (hb : fn.body.isSome = true)
    (hname : fn.name ≠ "runtime.NumGoroutine") : (execOp a.eval o).run P w = .ok (.enter f (c.args.map a.eval ++ cs)) w := by
  obtain ⟨b, hb⟩ := Option.isSome_iff_exists.1 hb
  simp [execOp, hop, resolve, hcal, Deferred.ofValue, hfv, invoke, callFunc, hfn, hb, hname]
theorem cOp_call {op : Op} {f : Nat} {args : List Opd} (h : cOp P op = some (.call f, args)) : ∃ c, op = .call c ∧ c.callee = .value (.func f) ∧ cOpds c.args.toList = some args := by
  unfold cOp at h
  cases op <;> simp only [] at h
  case call c =>
    refine ⟨c, rfl, ?_⟩
    (repeat' split at h) <;> simp_all
  all_goals (repeat' split at h) <;> first | (simp at h; done) | simp_all
theorem cOp_dyn {op : Op} {args : List Opd} (h : cOp P op = some (.dyn, args)) : ∃ c t l, op = .call c ∧ c.callee = .value (.tmp t) ∧ cOpds c.args.toList = some l ∧ args = .t t :: l := by
  unfold cOp at h
  cases op <;> simp only [] at h
  case call c =>
    refine ⟨c, ?_⟩
    (repeat' split at h) <;> simp_all
    obtain ⟨l, h1, h2⟩ := h
    exact ⟨l, h1, h2.symm⟩
  all_goals (repeat' split at h) <;> first | (simp at h; done) | simp_all
theorem cOpT_call {op : Op} {f : Nat} {args : List Opd} (h : cOpT P op = some (.call f, args)) : cOp P op = some (.call f, args) := by
  unfold cOpT at h
  split at h
  · rename_i x hx; rw [hx]; exact h
  · first | exact absurd (Option.some.inj h) (cOpE_call _ _ _ _) | exact absurd (Option.some.inj h) (cOpE_dyn _ _ _)
theorem cOpT_dyn {op : Op} {args : List Opd} (h : cOpT P op = some (.dyn, args)) : cOp P op = some (.dyn, args) := by
  unfold cOpT at h
  split at h
  · rename_i x hx; rw [hx]; exact h
  · first | exact absurd (Option.some.inj h) (cOpE_call _ _ _ _) | exact absurd (Option.some.inj h) (cOpE_dyn _ _ _)
theorem upon_calls {o : Oper} {f : Nat} {vs : Array Value} (hrun : (execOp a.eval o).run P w = .ok (.enter f vs) w) {K : Kont} (hc : CallDone P w0 pass own0 π n w f vs K) {KK : Act → World → Prop} {Q : Exit → Act → World → Prop}
    (hk : ∀ v π' x h' n' w', Go1 w0 pass own0 π n w π' h' n' w' → Rel w' (ownOf own0 π') π' n' x v → K x h' n' → KK (a.put o.dst v) w') : o.wp P a w KK Q := by
  unfold Oper.wp
  rw [hrun, Oper.upon_enter]
  refine Calls.mono hc ?_
  rintro e w' ⟨v, π', x, h', n', rfl, g, hr, hkk⟩
  exact hk v π' x h' n' w' g hr hkk
def HasBody (P : Program) (f : Nat) : Prop := ∃ fn, P.funcs[f]? = some fn ∧ fn.body.isSome = true ∧ fn.name ≠ "runtime.NumGoroutine"
def CtxBody (P : Program) (Γ : Ctx) : Prop := ∀ f S, Γ f = some S → HasBody P f
def CallOk (P : Program) (C : CallF) : Prop := ∀ f, (∃ xs h n K, C f xs h n K) → HasBody P f ∧
  ∀ (w0 : World) (pass own0 : Nat → Prop) (π : Pl) (e : Env) (h : Heap) (n : Nat) (a : Act) (w : World) (xs : List AV) (vs : Array Value) (K : Kont), Sim w0 pass own0 π e h n a w → Rels w (ownOf own0 π) π n xs vs.toList → C f xs h n K → CallDone P w0 pass own0 π n w f vs K
theorem callOk_K {Γ : Ctx} (hΓ : CtxSound P Γ) (hB : CtxBody P Γ) : CallOk P (CK Γ) := by
  rintro f ⟨xs, h, n, K, hc⟩
  unfold CK at hc
  cases hS : Γ f with
  | none => simp [hS] at hc
  | some S =>
    refine ⟨hB f S hS, fun w0 pass own0 π e h n a w xs vs K s hr hk => ?_⟩
    simp only [CK, hS] at hk
    exact call_sound s (hΓ f S hS) hr hk
theorem cTag_spec (ops : Array Oper) (o : Oper) (tag : Tag) (args : List Opd) : cTag ops o tag args = tag ∨ (∃ z, tag = .bsl z ∧ cTag ops o tag args = .bslv z) ∨ ∃ z, tag = .bsl z ∧ args = [] ∧ cTag ops o tag args = .bsle := by
  unfold cTag
  split
  · exact .inr (.inr ⟨_, rfl, rfl, rfl⟩)
  · rename_i s _ _
    by_cases hv : varArg ops o = true
    · exact .inr (.inl ⟨s, rfl, by rw [if_pos hv]⟩)
    · exact .inl (by rw [if_neg hv])
  · exact .inl rfl
theorem cOpT_nxt {op : Op} {args : List Opd} (h : cOpT P op = some (.nxt, args)) : ∃ m, op = .next m false ∧ cOpds [m] = some args := by
  unfold cOpT at h
  split at h
  · rename_i x hx
    cases h
    exfalso
    unfold cOp at hx
    (repeat' split at hx) <;> simp at hx
  · have h := Option.some.inj h
    unfold cOpE cMapOp at h
    (repeat' split at h) <;> first | (cases h; done) | skip
    all_goals first | (cases h; exact ⟨_, rfl, by assumption⟩) | (simp at h; done) | (simp at h; subst h; exact ⟨_, rfl, by assumption⟩)
theorem op_doneN (s : Sim w0 pass own0 π e h n a w) {o : Oper} {args : List Opd} (hc : cOpT P o.op = some (.nxt, args)) {K : Kont} (hk : nextK (args.map (Opd.ev e)) h n K) :
    OpDone P w0 pass own0 π n w (execOp a.eval o) K := by
  obtain ⟨m, hop, hl⟩ := cOpT_nxt hc
  obtain ⟨y, rfl, hy⟩ := cOpds1 hl
  unfold execOp
  rw [hop]
  exact opDone_value (snd_nxt s (rel_opd s hy) o.type hk)
theorem guardK_imp {o : IOper} {e : Env} {A A' B : Prop} (hA : A → A') (h : guardK o e A B) : guardK o e A' B := by
  obtain ⟨d, tg, ar, g⟩ := o
  cases g with
  | none => exact hA h
  | some gb =>
    obtain ⟨t, b⟩ := gb
    unfold guardK at h ⊢
    simp only [] at h ⊢
    split <;> rename_i hv <;> simp only [hv] at h
    · exact ⟨fun hc => hA (h.1 hc), h.2⟩
    · exact h
theorem oper_soundN {C : CallF} (hC : CallOk P C) {ops : Array Oper} {o : Oper} {io : IOper} (hc : cOper P ops o = some io) {N : Nat} (hdst : ∀ t, io.dst = some t → t < N) (st : St w0 pass own0 A N e h n a w)
    {K : Env → Heap → Nat → Prop} (hk : guardK io e (opN C io e h n fun v h' n' => K (e.updo io.dst v) h' n') (K (e.updo io.dst .undef) h n)) {Q : Exit → Act → World → Prop} {KK : Act → World → Prop}
    (hKK : ∀ e' h' n' a' w', K e' h' n' → St w0 pass own0 A N e' h' n' a' w' → KK a' w') :
    if Region.wanted o (yielded ops a.tmps) then o.wp P a w KK Q ∨ (o.asks P a w ∧ LetsOut Q) else KK (a.put o.dst Go.undef) w := by
  obtain ⟨hdef, hsz, π, hA, s⟩ := st
  unfold cOper at hc
  split at hc
  case h_2 => cases hc
  rename_i tag args hop
  have hio : io.dst = o.dst ∧ io.tag = cTag ops o tag args ∧ io.args = args := by
    split at hc
    · cases hc; exact ⟨rfl, rfl, rfl⟩
    · split at hc
      · cases hc; exact ⟨rfl, rfl, rfl⟩
      · cases hc
  obtain ⟨e1, e2, e3⟩ := hio
  have yes : opN C io e h n (fun v h' n' => K (e.updo io.dst v) h' n') → o.wp P a w KK Q := by
    intro hy
    have fin : ∀ v π' x h' n' w', Go1 w0 pass own0 π n w π' h' n' w' → Rel w' (ownOf own0 π') π' n' x v → K (e.updo io.dst x) h' n' → KK (a.put o.dst v) w' := by
      intro v π' x h' n' w' g hr hkk
      refine hKK _ _ _ _ _ hkk ?_
      rw [← e1]
      exact St.put hdef hsz hA s g hr io.dst hdst
    have hnx : io.tag = .nxt → o.wp P a w KK Q := by
      intro ht
      unfold opN at hy
      rw [ht, e3] at hy
      have htag : tag = .nxt := by
        rw [e2] at ht
        rcases cTag_spec ops o tag args with hct | ⟨z, _, hct⟩ | ⟨z, _, _, hct⟩ <;> rw [hct] at ht <;> first | exact ht | cases ht
      subst htag
      obtain ⟨nx, v, w', π', x, h', n', g1, g2, g3, g4, g5⟩ := op_doneN (P := P) s hop hy
      unfold Oper.wp
      rw [g1]
      cases nx <;> simp only [nextVal, Option.some.injEq] at g2 <;> first | (cases g2; done) | skip
      · subst g2; rw [Oper.upon_value]; exact fin _ _ _ _ _ _ g3 g4 g5
      · subst g2; rw [Oper.upon_skip]; exact fin _ _ _ _ _ _ g3 g4 g5
    by_cases htn : io.tag = .nxt
    · exact hnx htn
    have hy : opX C io e h n (fun v h' n' => K (e.updo io.dst v) h' n') := by
      unfold opN at hy
      split at hy
      · rename_i ht; exact absurd ht htn
      · exact hy
    clear hnx htn
    unfold opX at hy
    rw [e2, e3] at hy
    have plain : sem tag (args.map (Opd.ev e)) h n (fun v h' n' => K (e.updo io.dst v) h' n') → o.wp P a w KK Q := by
      intro hy
      obtain ⟨nx, v, w', π', x, h', n', g1, g2, g3, g4, g5⟩ := op_doneT (P := P) s hop hy
      unfold Oper.wp
      rw [g1]
      cases nx <;> simp only [nextVal, Option.some.injEq] at g2 <;> first | (cases g2; done) | skip
      · subst g2; rw [Oper.upon_value]; exact fin _ _ _ _ _ _ g3 g4 g5
      · subst g2; rw [Oper.upon_skip]; exact fin _ _ _ _ _ _ g3 g4 g5
    have docall : ∀ (c : Call) (fv : Operand) (f : Nat) (cs : Array Value) (caps : List AV) (l : List Opd), o.op = .call c → c.callee = .value fv → a.eval fv = .func (.func f) #[] cs → cOpds c.args.toList = some l →
        Rels w (ownOf own0 π) π n caps cs.toList → C f (l.map (Opd.ev e) ++ caps) h n (fun v h' n' => K (e.updo io.dst v) h' n') → o.wp P a w KK Q := by
      intro c fv f cs caps l h1 h2 h3 h4 h5 h7
      obtain ⟨⟨fn, b1, b2, b3⟩, hcall⟩ := hC f ⟨_, _, _, _, h7⟩
      refine upon_calls (run_call (P := P) h1 h2 h3 b1 b2 b3) (hcall w0 pass own0 π e h n a w _ _ _ s ?_ h7) fin
      obtain ⟨r1, r2⟩ := rels_opds s h4
      refine ⟨by simp [r1, h5.1], fun i x v k1 k2 => ?_⟩
      simp only [Array.toList_append, Array.toList_map] at k2
      rw [List.getElem?_append] at k1 k2
      rw [r1] at k1
      split at k1
      · rename_i hlt; rw [if_pos hlt] at k2; exact r2 i x v k1 k2
      · rename_i hlt; rw [if_neg hlt] at k2; exact h5.2 _ x v k1 k2
    rcases cTag_spec ops o tag args with hct | ⟨z, rfl, hct⟩ | ⟨z, rfl, rfl, hct⟩
    case inr.inr =>
      rw [hct] at hy
      simp only [] at hy
      obtain ⟨nx, v, w', π', x, h', n', g1, g2, g3, g4, g5⟩ := op_doneV0 (P := P) s hop hy
      unfold Oper.wp
      rw [g1]
      cases nx <;> simp only [nextVal, Option.some.injEq] at g2 <;> first | (cases g2; done) | skip
      · subst g2; rw [Oper.upon_value]; exact fin _ _ _ _ _ _ g3 g4 g5
      · subst g2; rw [Oper.upon_skip]; exact fin _ _ _ _ _ _ g3 g4 g5
    case inr.inl =>
      rw [hct] at hy
      simp only [] at hy
      obtain ⟨nx, v, w', π', x, h', n', g1, g2, g3, g4, g5⟩ := op_doneV (P := P) s hop hy
      unfold Oper.wp
      rw [g1]
      cases nx <;> simp only [nextVal, Option.some.injEq] at g2 <;> first | (cases g2; done) | skip
      · subst g2; rw [Oper.upon_value]; exact fin _ _ _ _ _ _ g3 g4 g5
      · subst g2; rw [Oper.upon_skip]; exact fin _ _ _ _ _ _ g3 g4 g5
    rw [hct] at hy
    split at hy
    · rename_i f
      obtain ⟨c, g1, g2, g3⟩ := cOp_call (cOpT_call hop)
      exact docall c _ f #[] [] args g1 g2 rfl g3 ⟨rfl, by simp⟩ (by simpa using hy)
    · obtain ⟨c, t, l, g1, g2, g3, rfl⟩ := cOp_dyn (cOpT_dyn hop)
      split at hy
      · rename_i f caps r hl
        simp only [List.map_cons, List.cons.injEq] at hl
        obtain ⟨k1, rfl⟩ := hl
        have hrel := s.env t
        have k1' : e t = .fn f caps := k1
        rw [k1'] at hrel
        generalize hv : a.tmps.getD t Go.undef = v at hrel
        cases hrel with
        | fn _ _ cs hl hh =>
          exact docall c (.tmp t) f cs caps l g1 g2 hv g3 ⟨by simpa using hl.symm, fun i x v h1 h2 => hh i x v h1 (by simpa using h2)⟩ hy
      · exact hy.elim
    · exact plain hy
  have no : K (e.updo io.dst .undef) h n → KK (a.put o.dst Go.undef) w := by
    intro hn
    refine hKK _ _ _ _ _ hn ?_
    rw [← e1]
    exact St.put hdef hsz hA s s.stay .undef io.dst hdst
  unfold guardK at hk
  cases hg : o.guard with
  | none =>
    have hig : io.g = none := by rw [hg] at hc; cases hc; rfl
    rw [hig] at hk
    have hw : Region.wanted o (yielded ops a.tmps) = true := by simp [Region.wanted, hg]
    rw [if_pos hw]
    exact .inl (yes hk)
  | some gb =>
    obtain ⟨j, b⟩ := gb
    rw [hg] at hc
    simp only [] at hc
    split at hc
    · rename_i d hd
      cases hc
      simp only [] at hk
      have hrel := s.env d
      have hyl : yielded ops a.tmps j = match a.tmps[d]? with | some (.bool c) => some c | _ => none := by
        simp only [yielded, hd, Option.bind_some]
        rfl
      cases hed : e d <;> rw [hed] at hk hrel <;> simp only [] at hk <;> first | exact hk.elim | skip
      · have hnw : ¬ (Region.wanted o (yielded ops a.tmps) = true) := by
          generalize hv : a.tmps.getD d Go.undef = v at hrel
          cases hrel
          have : yielded ops a.tmps j = none := by
            rw [hyl]
            rw [Array.getD_eq_getD_getElem?] at hv
            cases hq : a.tmps[d]? with
            | none => rfl
            | some u => rw [hq] at hv; simp at hv; rw [hv]; rfl
          simp [Region.wanted, hg, this]
        rw [if_neg hnw]
        exact no hk
      · rename_i c
        have hyc : yielded ops a.tmps j = some c := by
          generalize hv : a.tmps.getD d Go.undef = v at hrel
          cases hrel
          rw [hyl, getD_bool hv]
        by_cases hcb : c = b
        · have hw : Region.wanted o (yielded ops a.tmps) = true := by simp [Region.wanted, hg, hyc, hcb]
          rw [if_pos hw]
          exact .inl (yes (hk.1 hcb))
        · have hnw : ¬ (Region.wanted o (yielded ops a.tmps) = true) := by simp [Region.wanted, hg, hyc, hcb]
          rw [if_neg hnw]
          exact no (hk.2 hcb)
    · cases hc
theorem opX_opN {C : CallF} {o : IOper} {e : Env} {h : Heap} {n : Nat} {K : Kont} (hk : opX C o e h n K) : opN C o e h n K := by
  unfold opN
  split
  · rename_i ht
    unfold opX at hk
    rw [ht] at hk
    exact hk.elim
  · exact hk
theorem oper_sound {C : CallF} (hC : CallOk P C) {ops : Array Oper} {o : Oper} {io : IOper} (hc : cOper P ops o = some io) {N : Nat} (hdst : ∀ t, io.dst = some t → t < N) (st : St w0 pass own0 A N e h n a w)
    {K : Env → Heap → Nat → Prop} (hk : guardK io e (opX C io e h n fun v h' n' => K (e.updo io.dst v) h' n') (K (e.updo io.dst .undef) h n)) {Q : Exit → Act → World → Prop} {KK : Act → World → Prop}
    (hKK : ∀ e' h' n' a' w', K e' h' n' → St w0 pass own0 A N e' h' n' a' w' → KK a' w') :
    if Region.wanted o (yielded ops a.tmps) then o.wp P a w KK Q ∨ (o.asks P a w ∧ LetsOut Q) else KK (a.put o.dst Go.undef) w :=
  oper_soundN hC hc hdst st (guardK_imp opX_opN hk) hKK
theorem reg_sound {Γ : Ctx} (hC : CallOk P (CK Γ)) {ops : Array Oper} {N : Nat} {Q : Exit → Act → World → Prop} : ∀ (l : List Nat) (ios : List IOper) (e : Env) (h : Heap) (n : Nat) (a : Act) (w : World) (K : Env → Heap → Nat → Prop),
    l.length = ios.length → (∀ (i : Nat) k io, l[i]? = some k → ios[i]? = some io → ∃ o, ops[k]? = some o ∧ cOper P ops o = some io ∧ ∀ t, io.dst = some t → t < N) →
    St w0 pass own0 A N e h n a w → regK Γ ios e h n K → (∀ e' h' n' a' w', K e' h' n' → St w0 pass own0 A N e' h' n' a' w' → Q .normal a' w') → wpOps P ops Q l a w
  | [], [], e, h, n, a, w, K, _, _, st, hk, hQ => hQ _ _ _ _ _ hk st
  | k :: l, io :: ios, e, h, n, a, w, K, hl, hc, st, hk, hQ => by
    obtain ⟨o, ho, hco, hdst⟩ := hc 0 k io rfl rfl
    simp only [wpOps, ho]
    exact oper_soundN (P := P) hC hco hdst st (K := fun e h n => regK Γ ios e h n K) hk (fun e' h' n' a' w' hk' st' => reg_sound hC l ios e' h' n' a' w' K (by simpa using hl) (fun i k io h1 h2 => hc (i + 1) k io (by simpa using h1) (by simpa using h2)) st' hk' hQ)
  | [], _ :: _, _, _, _, _, _, _, hl, _, _, _, _ => by simp at hl
  | _ :: _, [], _, _, _, _, _, _, hl, _, _, _, _ => by simp at hl
theorem reg_sound2 {Γ : Ctx} (hC : CallOk P (CK Γ)) {ops : Array Oper} {N : Nat} {Q : Exit → Act → World → Prop} {l2 : List Nat} : ∀ (l : List Nat) (ios : List IOper) (e : Env) (h : Heap) (n : Nat) (a : Act) (w : World) (K : Env → Heap → Nat → Prop),
    l.length = ios.length → (∀ (i : Nat) k io, l[i]? = some k → ios[i]? = some io → ∃ o, ops[k]? = some o ∧ cOper P ops o = some io ∧ ∀ t, io.dst = some t → t < N) →
    St w0 pass own0 A N e h n a w → regK Γ ios e h n K → (∀ e' h' n' a' w', K e' h' n' → St w0 pass own0 A N e' h' n' a' w' → wpOps P ops Q l2 a' w') → wpOps P ops Q (l ++ l2) a w
  | [], [], e, h, n, a, w, K, _, _, st, hk, hQ => hQ _ _ _ _ _ hk st
  | k :: l, io :: ios, e, h, n, a, w, K, hl, hc, st, hk, hQ => by
    obtain ⟨o, ho, hco, hdst⟩ := hc 0 k io rfl rfl
    simp only [List.cons_append, wpOps, ho]
    exact oper_soundN (P := P) hC hco hdst st (K := fun e h n => regK Γ ios e h n K) hk (fun e' h' n' a' w' hk' st' => reg_sound2 hC l ios e' h' n' a' w' K (by simpa using hl) (fun i k io h1 h2 => hc (i + 1) k io (by simpa using h1) (by simpa using h2)) st' hk' hQ)
  | [], _ :: _, _, _, _, _, _, _, hl, _, _, _, _ => by simp at hl
  | _ :: _, [], _, _, _, _, _, _, hl, _, _, _, _ => by simp at hl
end
theorem semInt_ang {op : BinOp} {k : IntKind} {a b : Int} {K : AV → Prop} : semInt op k a b K ↔ ∃ v, semInt op k a b (· = v) ∧ K v := by
  unfold semInt; cases op <;> simp [and_assoc]
theorem semShift_ang {op : BinOp} {k : IntKind} {a b : Int} {K : AV → Prop} : semShift op k a b K ↔ ∃ v, semShift op k a b (· = v) ∧ K v := by
  unfold semShift; cases op <;> simp [and_assoc]
theorem semStr_ang {op : BinOp} {a b : List UInt8} {K : AV → Prop} : semStr op a b K ↔ ∃ v, semStr op a b (· = v) ∧ K v := by
  unfold semStr; cases op <;> simp [and_assoc]
theorem semBin_ang {op : BinOp} {x y : AV} {K : AV → Prop} : semBin op x y K ↔ ∃ v, semBin op x y (· = v) ∧ K v := by
  unfold semBin
  split
  · split
    · exact semShift_ang
    · rw [semInt_ang]; simp [and_assoc]
  · exact semStr_ang
  · simp
def eqK (v : AV) (h : Heap) (n : Nat) : Kont := fun v' h' n' => v' = v ∧ h' = h ∧ n' = n
theorem sem_ang (tag : Tag) (vs : List AV) (h : Heap) (n : Nat) (K : Kont) : sem tag vs h n K ↔ ∃ v h' n', sem tag vs h n (eqK v h' n') ∧ K v h' n' := by
  unfold sem
  split
  case h_2 c a b =>
    cases c <;> simp [eqK, and_assoc]
  case h_3 =>
    rw [semBin_ang]
    constructor
    · rintro ⟨v, h1, h2⟩
      exact ⟨v, h, n, by rw [semBin_ang]; exact ⟨v, h1, rfl, rfl, rfl⟩, h2⟩
    · rintro ⟨v, h', n', h1, h2⟩
      rw [semBin_ang] at h1
      obtain ⟨v', g1, rfl, rfl, rfl⟩ := h1
      exact ⟨v', g1, h2⟩
  all_goals (repeat' split)
  all_goals simp [eqK, and_assoc]
  constructor
  · rintro ⟨bs, h1, h2⟩; exact ⟨_, _, _, ⟨bs, h1, rfl, rfl, rfl⟩, h2⟩
  · rintro ⟨v, h', n', ⟨bs, h1, rfl, rfl, rfl⟩, h2⟩; exact ⟨bs, h1, h2⟩
def Tag.kind : Tag → Nat
  | .mv | .pick | .bin _ | .not | .neg | .cvt _ | .idx | .fld1 _ | .fldn _ _ | .sls _ _ | .max | .min | .ext _ | .lens | .mkf _ | .s2b | .aidx _ | .beq _ | .aeq _ _ | .bslv _ | .bsle | .cap | .fadr _ | .len | .nck | .no => 0
  | .ld1 | .ldn _ | .iadr _ | .bld _ _ | .slc _ _ _ | .call _ | .dyn | .b2s | .slc3 _ | .bnil _ | .mlk _ | .mlo _ | .ent => 1
  | .box _ | .alc _ | .st _ | .bsl _ | .mks _ _ _ | .app _ _ | .apz _ _ _ | .mkm _ | .mup _ | .rng _ | .nxt | .cpy _ => 2
theorem sem_quiet {tag : Tag} (hq : tag.kind ≤ 1) {vs : List AV} {h h' : Heap} {n n' : Nat} {v : AV} (hs : sem tag vs h n (eqK v h' n')) : h' = h ∧ n' = n := by
  unfold sem at hs
  split at hs
  case h_2 c a b =>
    cases c
    · exact ⟨(hs.2 rfl).2.1.symm, (hs.2 rfl).2.2.symm⟩
    · exact ⟨(hs.1 rfl).2.1.symm, (hs.1 rfl).2.2.symm⟩
  case h_3 =>
    rw [semBin_ang] at hs
    obtain ⟨v', _, _, rfl, rfl⟩ := hs
    exact ⟨rfl, rfl⟩
  all_goals simp only [Tag.kind] at hq
  all_goals (repeat' split at hs)
  all_goals simp [eqK] at hs
  all_goals first | (obtain ⟨_, rfl, rfl⟩ := hs; exact ⟨rfl, rfl⟩) | (obtain ⟨_, _, rfl, rfl⟩ := hs; exact ⟨rfl, rfl⟩) | (obtain ⟨_, _, _, rfl, rfl⟩ := hs; exact ⟨rfl, rfl⟩) | (obtain ⟨_, _, _, _, rfl, rfl⟩ := hs; exact ⟨rfl, rfl⟩) | (obtain ⟨_, _, _, _, _, rfl, rfl⟩ := hs; exact ⟨rfl, rfl⟩) | (obtain ⟨_, _, _, _, _, _, rfl, rfl⟩ := hs; exact ⟨rfl, rfl⟩) | omega
theorem sem_pure {tag : Tag} (hq : tag.kind = 0) {vs : List AV} {h h2 : Heap} {n n2 : Nat} {v : AV} (hs : sem tag vs h n (eqK v h n)) : sem tag vs h2 n2 (eqK v h2 n2) := by
  unfold sem at hs ⊢
  split at hs
  case h_2 c a b =>
    exact ⟨fun hc => ⟨(hs.1 hc).1, rfl, rfl⟩, fun hc => ⟨(hs.2 hc).1, rfl, rfl⟩⟩
  case h_3 =>
    rw [semBin_ang] at hs ⊢
    obtain ⟨v', h1, h2, _, _⟩ := hs
    exact ⟨v', h1, h2, rfl, rfl⟩
  all_goals simp only [Tag.kind] at hq
  all_goals (repeat' split at hs)
  all_goals simp_all [eqK]
  all_goals first | (rw [if_neg (by omega)]; exact hs) | exact hs.1 | (exact hs.2 ▸ hs.1) | exact hs.2.2.1 | exact fun v hv => (hs.1 v hv).2
def AV.snapT (h : Heap) : AV → AV
  | .tup vs => .tup (vs.map (AV.snap h))
  | v => v.snap h
def callD (R : List AV → AV → List AObj → Prop) (args : List AV) (h : Heap) (n : Nat) (K : Kont) : Prop :=
  ∃ r objs, R (args.map (AV.snap h)) r objs ∧ K (r.snapT (objsH objs)) h n
def CD (Γ : Ctx) : CallF := fun f xs h n K => match Γ f with
  | some (.pure R) => callD R xs h n K
  | some (.loose R) => xs.all AV.freeA = true ∧ callD R xs h n K
  | _ => False
def opD (Γ : Ctx) (o : IOper) (e : Env) (h : Heap) (n : Nat) (K : Kont) : Prop := opX (CD Γ) o e h n K
def drwK (Γ : Ctx) : List IOper → Env → Heap → Nat → (Env → Heap → Nat → Prop) → Prop
  | [], e, h, n, K => K e h n
  | o :: r, e, h, n, K => guardK o e (opD Γ o e h n fun v h' n' => drwK Γ r (e.updo o.dst v) h' n' K) (drwK Γ r (e.updo o.dst .undef) h n K)
def IOper.reads (o : IOper) : List Nat := (o.args.filterMap fun x => match x with | .t n => some n | .c _ => none) ++ (match o.g with | some (t, _) => [t] | none => [])
def apartB (i j : IOper) : Bool :=
  (match i.dst with
   | some d => !(j.reads.contains d) && j.dst != some d
   | none => true) &&
  (match j.dst with
   | some d => !(i.reads.contains d)
   | none => true) &&
  (i.tag.kind == 0 || j.tag.kind == 0 || (decide (i.tag.kind ≤ 1) && decide (j.tag.kind ≤ 1)))
theorem CD_ang (Γ : Ctx) (f : Nat) (xs : List AV) (h : Heap) (n : Nat) (K : Kont) : CD Γ f xs h n K ↔ ∃ v h' n', CD Γ f xs h n (eqK v h' n') ∧ K v h' n' := by
  unfold CD
  split
  · simp only [callD, eqK]
    constructor
    · rintro ⟨r, objs, h1, h2⟩; exact ⟨_, _, _, ⟨r, objs, h1, rfl, rfl, rfl⟩, h2⟩
    · rintro ⟨v, h', n', ⟨r, objs, h1, rfl, rfl, rfl⟩, h2⟩; exact ⟨r, objs, h1, h2⟩
  · simp only [callD, eqK]
    constructor
    · rintro ⟨h0, r, objs, h1, h2⟩; exact ⟨_, _, _, ⟨h0, r, objs, h1, rfl, rfl, rfl⟩, h2⟩
    · rintro ⟨v, h', n', ⟨h0, r, objs, h1, rfl, rfl, rfl⟩, h2⟩; exact ⟨h0, r, objs, h1, h2⟩
  · simp
theorem CD_quiet {Γ : Ctx} {f : Nat} {xs : List AV} {h h' : Heap} {n n' : Nat} {v : AV} (hs : CD Γ f xs h n (eqK v h' n')) : (h' = h ∧ n' = n) ∧ ∀ n2, CD Γ f xs h n2 (eqK v h n2) := by
  unfold CD at hs ⊢
  split at hs
  · obtain ⟨r, objs, h1, h2, rfl, rfl⟩ := hs; exact ⟨⟨rfl, rfl⟩, fun n2 => ⟨r, objs, h1, h2, rfl, rfl⟩⟩
  · obtain ⟨h0, r, objs, h1, h2, rfl, rfl⟩ := hs; exact ⟨⟨rfl, rfl⟩, fun n2 => ⟨h0, r, objs, h1, h2, rfl, rfl⟩⟩
  · exact hs.elim
theorem opD_ang (Γ : Ctx) (o : IOper) (e : Env) (h : Heap) (n : Nat) (K : Kont) : opD Γ o e h n K ↔ ∃ v h' n', opD Γ o e h n (eqK v h' n') ∧ K v h' n' := by
  unfold opD opX
  split
  · exact CD_ang _ _ _ _ _ _
  · split
    · exact CD_ang _ _ _ _ _ _
    · simp
  · exact sem_ang _ _ _ _ _
theorem opD_quiet {Γ : Ctx} {o : IOper} (hq : o.tag.kind ≤ 1) {e : Env} {h h' : Heap} {n n' : Nat} {v : AV} (hs : opD Γ o e h n (eqK v h' n')) : h' = h ∧ n' = n := by
  unfold opD opX at hs
  split at hs
  · exact (CD_quiet hs).1
  · split at hs
    · exact (CD_quiet hs).1
    · exact hs.elim
  · exact sem_quiet hq hs
theorem opD_pure {Γ : Ctx} {o : IOper} (hq : o.tag.kind = 0) {e : Env} {h h2 : Heap} {n n2 : Nat} {v : AV} (hs : opD Γ o e h n (eqK v h n)) : opD Γ o e h2 n2 (eqK v h2 n2) := by
  unfold opD opX at hs ⊢
  split at hs
  · rename_i ht; rw [ht] at hq; cases hq
  · rename_i ht; rw [ht] at hq; cases hq
  · exact sem_pure hq hs
def stepR (Γ : Ctx) (o : IOper) (e : Env) (h : Heap) (n : Nat) (v : AV) (h' : Heap) (n' : Nat) : Prop :=
  guardK o e (opD Γ o e h n (eqK v h' n')) (v = .undef ∧ h' = h ∧ n' = n)
theorem guardK_ang {o : IOper} {e : Env} {α : Type} (A : α → Prop) (B : α → Prop) (K : α → Prop) (yes no : Prop) (hy : yes ↔ ∃ x, A x ∧ K x) (hn : no ↔ ∃ x, B x ∧ K x) :
    guardK o e yes no ↔ ∃ x, guardK o e (A x) (B x) ∧ K x := by
  unfold guardK
  split
  · exact hy
  · split
    · rename_i b _ _ c _
      by_cases hcb : c = b
      · simp only [hcb, true_implies, ne_eq, not_true, false_implies, and_true]; exact hy
      · simp only [hcb, false_implies, ne_eq, not_false_iff, true_implies, true_and]; exact hn
    · exact hn
    · simp
theorem drwK_cons (Γ : Ctx) (o : IOper) (r : List IOper) (e : Env) (h : Heap) (n : Nat) (K : Env → Heap → Nat → Prop) :
    drwK Γ (o :: r) e h n K ↔ ∃ v h' n', stepR Γ o e h n v h' n' ∧ drwK Γ r (e.updo o.dst v) h' n' K := by
  simp only [drwK, stepR]
  have := guardK_ang (o := o) (e := e) (α := AV × Heap × Nat) (fun x => opD Γ o e h n (eqK x.1 x.2.1 x.2.2)) (fun x => x.1 = .undef ∧ x.2.1 = h ∧ x.2.2 = n) (fun x => drwK Γ r (e.updo o.dst x.1) x.2.1 x.2.2 K)
    (opD Γ o e h n fun v h' n' => drwK Γ r (e.updo o.dst v) h' n' K) (drwK Γ r (e.updo o.dst .undef) h n K)
    (by rw [opD_ang]; constructor
        · rintro ⟨v, h', n', h1, h2⟩; exact ⟨(v, h', n'), h1, h2⟩
        · rintro ⟨⟨v, h', n'⟩, h1, h2⟩; exact ⟨v, h', n', h1, h2⟩)
    (by constructor
        · intro h1; exact ⟨(.undef, h, n), ⟨rfl, rfl, rfl⟩, h1⟩
        · rintro ⟨⟨v, h', n'⟩, ⟨rfl, rfl, rfl⟩, h2⟩; exact h2)
  rw [this]
  constructor
  · rintro ⟨⟨v, h', n'⟩, h1, h2⟩; exact ⟨v, h', n', h1, h2⟩
  · rintro ⟨v, h', n', h1, h2⟩; exact ⟨(v, h', n'), h1, h2⟩
theorem stepR_quiet {Γ : Ctx} {o : IOper} (hq : o.tag.kind ≤ 1) {e : Env} {h h' : Heap} {n n' : Nat} {v : AV} (hs : stepR Γ o e h n v h' n') : h' = h ∧ n' = n := by
  unfold stepR guardK at hs
  split at hs
  · exact opD_quiet hq hs
  · split at hs
    · rename_i b _ _ c _
      by_cases hcb : c = b
      · exact opD_quiet hq (hs.1 hcb)
      · exact (hs.2 hcb).2
    · exact hs.2
    · exact hs.elim
theorem stepR_map {Γ : Ctx} {o : IOper} {e : Env} {h h2 : Heap} {n n2 : Nat} {v : AV} (ho : opD Γ o e h n (eqK v h n) → opD Γ o e h2 n2 (eqK v h2 n2)) (hs : stepR Γ o e h n v h n) : stepR Γ o e h2 n2 v h2 n2 := by
  unfold stepR guardK at hs ⊢
  split at hs
  · exact ho hs
  · split at hs
    · exact ⟨fun hc => ho (hs.1 hc), fun hc => ⟨(hs.2 hc).1, rfl, rfl⟩⟩
    · exact ⟨hs.1, rfl, rfl⟩
    · exact hs.elim
theorem ev_congr {e e2 : Env} : ∀ (l : List Opd), (∀ n, .t n ∈ l → e n = e2 n) → l.map (Opd.ev e) = l.map (Opd.ev e2)
  | [], _ => rfl
  | x :: r, h => by
    simp only [List.map_cons]
    rw [ev_congr r (fun n hn => h n (by simp [hn]))]
    congr 1
    cases x with
    | t n => exact h n (by simp)
    | c v => rfl
theorem stepR_env {Γ : Ctx} {o : IOper} {e e2 : Env} (he : ∀ n ∈ o.reads, e n = e2 n) {h h' : Heap} {n n' : Nat} {v : AV} (hs : stepR Γ o e h n v h' n') : stepR Γ o e2 h n v h' n' := by
  have h1 : o.args.map (Opd.ev e) = o.args.map (Opd.ev e2) := ev_congr _ (fun n hn => he n (by
    simp only [IOper.reads, List.mem_append, List.mem_filterMap]
    exact .inl ⟨.t n, hn, rfl⟩))
  have h2 : opD Γ o e h n (eqK v h' n') = opD Γ o e2 h n (eqK v h' n') := by unfold opD opX; simp only [h1]
  unfold stepR guardK at hs ⊢
  rw [← h2]
  split at hs
  · exact hs
  · rename_i t b hg
    rw [← he t (by simp [IOper.reads, hg])]
    exact hs
theorem updo_comm (e : Env) (i j : Option Nat) (v u : AV) (h : ∀ d, i = some d → j ≠ some d) : (e.updo i v).updo j u = (e.updo j u).updo i v := by
  cases i with
  | none => rfl
  | some d =>
    cases j with
    | none => rfl
    | some d' =>
      have hne : d ≠ d' := fun e => h d rfl (by rw [e])
      funext s
      simp only [Env.updo, Env.upd]
      by_cases h1 : s = d
      · subst h1; simp [hne]
      · by_cases h2 : s = d'
        · subst h2; simp [Ne.symm hne]
        · simp [h1, h2]
theorem updo_ne (e : Env) (i : Option Nat) (v : AV) (t : Nat) (h : ∀ d, i = some d → d ≠ t) : (e.updo i v) t = e t := by
  cases i with
  | none => rfl
  | some d => simp only [Env.updo, Env.upd]; rw [if_neg (Ne.symm (h d rfl))]
theorem swap {Γ : Ctx} {i j : IOper} (hap : apartB i j = true) {e : Env} {h : Heap} {n : Nat} {K : Env → Heap → Nat → Prop}
    (hk : ∃ v h1 n1, stepR Γ i e h n v h1 n1 ∧ ∃ u h2 n2, stepR Γ j (e.updo i.dst v) h1 n1 u h2 n2 ∧ K ((e.updo i.dst v).updo j.dst u) h2 n2) :
    ∃ u h1 n1, stepR Γ j e h n u h1 n1 ∧ ∃ v h2 n2, stepR Γ i (e.updo j.dst u) h1 n1 v h2 n2 ∧ K ((e.updo j.dst u).updo i.dst v) h2 n2 := by
  obtain ⟨v, h1, n1, hi, u, h2, n2, hj, hK⟩ := hk
  simp only [apartB, Bool.and_eq_true, Bool.or_eq_true, beq_iff_eq, decide_eq_true_eq] at hap
  obtain ⟨⟨a1, a2⟩, a3⟩ := hap
  have b1 : ∀ d, i.dst = some d → d ∉ j.reads ∧ j.dst ≠ some d := by
    intro d hd; rw [hd] at a1; simpa using a1
  have b2 : ∀ d, j.dst = some d → d ∉ i.reads := by
    intro d hd; rw [hd] at a2; simpa using a2
  have hj' : stepR Γ j e h1 n1 u h2 n2 := stepR_env (fun t ht => updo_ne e i.dst v t (fun d hd e => (b1 d hd).1 (e ▸ ht))) hj
  have hi' : stepR Γ i (e.updo j.dst u) h n v h1 n1 := stepR_env (fun t ht => (updo_ne e j.dst u t (fun d hd e => b2 d hd (e ▸ ht))).symm) hi
  rw [updo_comm e i.dst j.dst v u (fun d hd => (b1 d hd).2)] at hK
  rcases a3 with (k0 | k0) | ⟨k1, k2⟩
  · obtain ⟨rfl, rfl⟩ := stepR_quiet (by omega) hi
    exact ⟨u, h2, n2, hj', v, h2, n2, stepR_map (fun q => opD_pure k0 q) hi', hK⟩
  · obtain ⟨rfl, rfl⟩ := stepR_quiet (by omega) hj
    exact ⟨u, h, n, stepR_map (fun q => opD_pure k0 q) hj', v, h2, n2, hi', hK⟩
  · obtain ⟨rfl, rfl⟩ := stepR_quiet k1 hi
    obtain ⟨rfl, rfl⟩ := stepR_quiet k2 hj
    exact ⟨u, h2, n2, hj', v, h2, n2, hi', hK⟩
theorem drw_first {Γ : Ctx} {o : IOper} {r : List IOper} {K : Env → Heap → Nat → Prop} : ∀ (l : List IOper) (e : Env) (h : Heap) (n : Nat), (∀ x ∈ l, apartB x o = true) → drwK Γ (l ++ o :: r) e h n K → drwK Γ (o :: (l ++ r)) e h n K
  | [], e, h, n, _, hk => hk
  | x :: l, e, h, n, hap, hk => by
    rw [List.cons_append, drwK_cons] at hk
    obtain ⟨v, h1, n1, hx, hk⟩ := hk
    have := drw_first l _ _ _ (fun y hy => hap y (by simp [hy])) hk
    rw [drwK_cons] at this
    obtain ⟨u, h2, n2, ho, hk⟩ := this
    obtain ⟨u', h1', n1', g1, v', h2', n2', g2, g3⟩ := swap (hap x (by simp)) (K := fun e h n => drwK Γ (l ++ r) e h n K) ⟨v, h1, n1, hx, u, h2, n2, ho, hk⟩
    rw [drwK_cons]
    refine ⟨u', h1', n1', g1, ?_⟩
    rw [List.cons_append, drwK_cons]
    exact ⟨v', h2', n2', g2, g3⟩
theorem Rel.ofNo {w : World} {own own' : Nat → Prop} {π' : PlF} {N' : Nat} (ho : ∀ b, own' b → own b) {x : AV} {v : Value} (h : Rel w own noPl 0 x v) : Rel w own' π' N' x v := by
  induction h with
  | top v => exact .top v
  | undef => exact .undef
  | int k n => exact .int k n
  | bool b => exact .bool b
  | str s => exact .str s
  | agg vs cs hl _ ih => exact .agg vs cs hl ih
  | tup vs cs hl _ ih => exact .tup vs cs hl ih
  | refLive id off len b cap p hp hb h1 h2 => cases hp
  | refEnd id off o b p hp hb => cases hp
  | refNil id a p hp hb => cases hp
  | refDead id off len v cap hp hn => exact absurd hn (Nat.not_lt_zero _)
  | snil a => exact .snil a
  | valNil a cap => exact .valNil a cap
  | val rows g off cap s us hg hc hm hs hf hu h1 _ ih => exact .val rows g off cap s us (fun k => hg (ho _ k)) hc hm hs hf hu h1 ih
  | tmp rows g off cap s us hg hc hm hs hf hu h1 _ ih => exact .tmp rows g off cap s us (fun k => hg (ho _ k)) hc hm hs hf hu h1 ih
  | ptrLive id i off b p hp hb => cases hp
  | ptrDead id i off v hp hn => exact absurd hn (Nat.not_lt_zero _)
  | rptr row off g o us hg hf hu h1 _ ih => exact .rptr row off g o us (fun k => hg (ho _ k)) hf hu h1 ih
  | pnil => exact .pnil
  | fn f caps cs hl _ ih => exact .fn f caps cs hl ih
  | fnil => exact .fnil
  | maybe c d b h1 h2 => exact .maybe c d b h1 h2
  | mpLive id b p hp hb => cases hp
  | mpDead id b hp hn => exact absurd hn (Nat.not_lt_zero _)
section
variable {P : Program} {w0 : World} {pass own0 : Nat → Prop} {A : Anch} {π : Pl} {e : Env} {h : Heap} {n : Nat} {a : Act} {w : World}
theorem HSim.mono (s : HSim own0 π h n w) {w' : World} (m : Mono own0 π π n n w w') (hk : ∀ b, b < w.heap.size → w'.heap[b]? = w.heap[b]?) : HSim own0 π h n w' := by
  refine ⟨s.dom, fun id o ho => ?_, s.inj, s.sep, fun b hb => Nat.lt_of_lt_of_le (s.old b hb) m.size, fun b k hb => ?_⟩
  rotate_left
  · obtain ⟨g1, g2, g3, g4⟩ := s.hid b k hb
    exact ⟨g1, Nat.lt_of_lt_of_le g2 m.size, g3, g4⟩
  obtain ⟨h1, p, h2, h3⟩ := s.obj id o ho
  exact ⟨h1, p, h2, h3.mono m (fun b hb => hk b (s.blk_lt h2 hb)) (fun b i j hb => ⟨hk b (s.hid b _ hb).2.1, hb⟩)⟩
theorem go_same (s : Sim w0 pass own0 π e h n a w) {w' : World} (E : Ext w w' (fun _ => False)) : Go1 w0 pass own0 π n w π h n w' := by
  have hk : ∀ b, b < w.heap.size → w'.heap[b]? = w.heap[b]? := fun b hb => E.kept b hb (by simp)
  have M : Mono own0 π π n n w w' := ⟨E.size, fun b hb ho => ⟨hk b hb, ho⟩, fun id p hp => ⟨.inl hp, (s.hs.lt hp).1⟩, fun _ hp _ => hp, Nat.le_refl _, E.os, E.tape, E.output⟩
  refine ⟨M, s.hs.mono M hk, ?_⟩
  exact ⟨E.os.trans s.fr.os, E.tape.trans s.fr.tape, E.output.trans s.fr.output, Nat.le_trans s.fr.size E.size, fun b hb hp => (hk b (Nat.lt_of_lt_of_le hb s.fr.size)).trans (s.fr.kept b hb hp), fun id p b h1 h2 => s.fr.blk id p b h1 h2, s.fr.hid⟩
theorem rel_snapT (s : HSim own0 π h n w) {x : AV} {v : Value} (hr : Rel w (ownOf own0 π) π n x v) : Rel w own0 noPl 0 (x.snapT h) v := by
  cases x <;> simp only [AV.snapT] <;> first | exact rel_snap s hr | skip
  cases hr with
  | tup vs cs hl hh =>
    refine .tup _ cs (by simpa using hl) (fun i x u h1 h2 => ?_)
    simp only [List.getElem?_map, Option.map_eq_some_iff] at h1
    obtain ⟨y, hy, rfl⟩ := h1
    exact rel_snap s (hh i y u hy h2)
theorem callOk_D {Γ : Ctx} (hΓ : CtxSound P Γ) (hB : CtxBody P Γ) : CallOk P (CD Γ) := by
  rintro f ⟨xs, h, n, K, hc⟩
  unfold CD at hc
  cases hS : Γ f with
  | none => simp [hS] at hc
  | some S =>
    refine ⟨hB f S hS, fun w0 pass own0 π e h n a w xs vs K s hr hk => ?_⟩
    simp only [CD, hS] at hk
    cases S with
    | gen k G => exact hk.elim
    | loose R =>
      obtain ⟨hfree, r, objs, hR, hk⟩ := hk
      have hold : ∀ b, ownOf own0 π b → b < w.heap.size := fun b hb => own_lt s.hs hb
      refine (hΓ f _ hS w (ownOf own0 π) (xs.map (AV.snap h)) vs r objs hold ⟨by simpa using hr.1, fun i x v h1 h2 => ?_⟩ hR).mono ?_
      · simp only [List.getElem?_map, Option.map_eq_some_iff] at h1
        obtain ⟨y, hy, rfl⟩ := h1
        exact rel_snap_free ((List.all_eq_true.1 hfree) y (List.mem_of_getElem? hy)) (hr.2 i y v hy h2)
      · rintro e' w' ⟨v, πr, rfl, E, H, _, hrel⟩
        exact ⟨v, π, _, h, n, rfl, go_same s E, (rel_snapT H hrel).ofNo (fun b hb => hb), hk⟩
    | pure R =>
      obtain ⟨r, objs, hR, hk⟩ := hk
      refine (hΓ f _ hS w own0 (xs.map (AV.snap h)) vs r objs ⟨by simpa using hr.1, fun i x v h1 h2 => ?_⟩ hR).mono ?_
      · simp only [List.getElem?_map, Option.map_eq_some_iff] at h1
        obtain ⟨y, hy, rfl⟩ := h1
        exact rel_snap s.hs (hr.2 i y v hy h2)
      · rintro e' w' ⟨v, πr, rfl, E, H, hrel⟩
        refine ⟨v, π, _, h, n, rfl, go_same s E, (rel_snapT H hrel).ofNo (fun b hb => own_lt s.hs hb), hk⟩
theorem St.drawn {N : Nat} (st : St w0 pass own0 A N e h n a w) : St w0 pass own0 A N e h n a { w with drawn := w.drawn + 1 } := by
  obtain ⟨h1, h2, π, hA, s⟩ := st
  have g := go_same s (w' := { w with drawn := w.drawn + 1 }) ⟨rfl, ⟨rfl, .inl (Nat.le_succ _)⟩, rfl, Nat.le_refl _, fun _ _ _ => rfl⟩
  exact ⟨h1, h2, π, hA, g.2, g.3, fun t => (s.env t).mono g.1⟩
/-! ### the orders -/
def direct (o : Oper) : List Nat := (o.after.toList.filter (Region.binds .any)).map (·.on)
def befG : List Oper → List (List Nat) → List (List Nat)
  | [], acc => acc
  | o :: r, acc => befG r (acc ++ [(List.range acc.length).filter fun k => (direct o).any fun d => d == k || (acc.getD d []).contains k])
def apartFrom (ios : List IOper) (io : IOper) (bs : List Nat) : Nat → Bool
  | 0 => true
  | i + 1 => apartFrom ios io bs i && (bs.contains i || match ios[i]? with
    | some x => apartB x io
    | none => false)
def drwOkG (ios : List IOper) (bs : List (List Nat)) : List Oper → Nat → Bool
  | [], _ => true
  | o :: r, j => (direct o).all (· < j) && (match ios[j]? with
    | some io => apartFrom ios io (bs.getD j []) j
    | none => false) && drwOkG ios bs r (j + 1)
def drwOk (ops : Array Oper) (ios : List IOper) : Bool := drwOkG ios (befG ops.toList []) ops.toList 0
theorem apartFrom_spec {ios : List IOper} {io : IOper} {bs : List Nat} : ∀ (m : Nat), apartFrom ios io bs m = true → ∀ i, i < m → i ∈ bs ∨ ∃ x, ios[i]? = some x ∧ apartB x io = true
  | 0, _, i, hi => by omega
  | m + 1, h, i, hi => by
    simp only [apartFrom, Bool.and_eq_true, Bool.or_eq_true] at h
    by_cases him : i = m
    · subst him
      rcases h.2 with h2 | h2
      · exact .inl (by simpa using h2)
      · split at h2
        · rename_i x hx; exact .inr ⟨x, hx, h2⟩
        · cases h2
    · exact apartFrom_spec m h.1 i (by omega)
theorem drwOkG_spec {ios : List IOper} {bs : List (List Nat)} : ∀ (l : List Oper) (j0 : Nat), drwOkG ios bs l j0 = true → ∀ i o, l[i]? = some o →
    (∀ d ∈ direct o, d < j0 + i) ∧ ∃ io, ios[j0 + i]? = some io ∧ ∀ k, k < j0 + i → k ∈ bs.getD (j0 + i) [] ∨ ∃ x, ios[k]? = some x ∧ apartB x io = true
  | [], _, _, i, o, h => by simp at h
  | o' :: r, j0, hh, 0, o, h => by
    simp only [drwOkG, Bool.and_eq_true, List.all_eq_true, decide_eq_true_eq] at hh
    simp at h; subst h
    refine ⟨hh.1.1, ?_⟩
    obtain ⟨⟨_, h2⟩, _⟩ := hh
    split at h2
    · rename_i io hio; exact ⟨io, hio, apartFrom_spec _ h2⟩
    · cases h2
  | o' :: r, j0, hh, i + 1, o, h => by
    simp only [drwOkG, Bool.and_eq_true] at hh
    have := drwOkG_spec r (j0 + 1) hh.2 i o (by simpa using h)
    have e : j0 + 1 + i = j0 + (i + 1) := by omega
    rwa [e] at this
def Closed (ops : Array Oper) (L : Nat → Prop) : Prop := ∀ (j : Nat) (o : Oper), ops[j]? = some o → L j → ∀ d ∈ direct o, L d
def GoodB (ops : Array Oper) (L : Nat → Prop) (acc : List (List Nat)) : Prop := ∀ (j : Nat) (l : List Nat) (o : Oper), acc[j]? = some l → ops[j]? = some o → (∀ d ∈ direct o, L d) → ∀ k ∈ l, L k
theorem befG_good {ops : Array Oper} {L : Nat → Prop} (hL : Closed ops L) : ∀ (l : List Oper) (acc : List (List Nat)), (∀ i o, l[i]? = some o → ops[acc.length + i]? = some o) → GoodB ops L acc → GoodB ops L (befG l acc)
  | [], acc, _, h => h
  | o :: r, acc, hl, h => by
    refine befG_good hL r _ (fun i o' ho' => ?_) ?_
    · have := hl (i + 1) o' (by simpa using ho')
      rw [List.length_append]; simp only [List.length_singleton]
      have e : acc.length + 1 + i = acc.length + (i + 1) := by omega
      rw [e]; exact this
    · intro j l o' hj ho' hd k hk
      rw [List.getElem?_append] at hj
      split at hj
      · exact h j l o' hj ho' hd k hk
      · rename_i hge
        have hj0 : j = acc.length := by
          have := (List.getElem?_eq_some_iff.1 hj).1
          simp at this; omega
        subst hj0
        simp at hj; subst hj
        have ho2 := hl 0 o rfl
        rw [Nat.add_zero, ho'] at ho2
        cases ho2
        simp only [List.mem_filter, List.any_eq_true, Bool.or_eq_true, beq_iff_eq] at hk
        obtain ⟨_, d, hd1, hd2⟩ := hk
        rcases hd2 with rfl | hd2
        · exact hd d hd1
        · have hLd := hd d hd1
          have hlen : d < acc.length := by
            by_cases hc : d < acc.length
            · exact hc
            · simp [List.getElem?_eq_none (Nat.le_of_not_lt hc)] at hd2
          rw [List.getElem?_eq_getElem hlen] at hd2
          have hkk : k ∈ acc[d] := by simpa using hd2
          by_cases hop : d < ops.size
          · exact h d acc[d] ops[d] (List.getElem?_eq_getElem hlen) (Array.getElem?_eq_getElem hop) (hL d _ (Array.getElem?_eq_getElem hop) hLd) k hkk
          · have := (Array.getElem?_eq_some_iff.1 ho').1; omega
def unlisted (listed : Array Bool) (m : Nat) : List Nat := (List.range m).filter fun i => !listed.getD i true
theorem mem_unlisted {listed : Array Bool} {m i : Nat} : i ∈ unlisted listed m ↔ i < m ∧ listed.getD i true = false := by
  simp [unlisted]
theorem range_split {m i : Nat} (h : i < m) : List.range m = List.range i ++ i :: (List.range' (i + 1) (m - (i + 1))) := by
  rw [List.range_eq_range', List.range_eq_range']
  have e : m = i + (1 + (m - (i + 1))) := by omega
  conv => lhs; rw [e]
  rw [← List.range'_append_1, ← List.range'_append_1]
  simp [List.range'_one]
theorem getD_set {listed : Array Bool} {i j : Nat} (d : Bool) : i ≠ j → (listed.setIfInBounds i true).getD j d = listed.getD j d := fun h => by
  simp [Array.getD_eq_getD_getElem?, Array.getElem?_setIfInBounds_ne h]
theorem unlisted_split {listed : Array Bool} {m i : Nat} (hi : i < m) (hl : listed.getD i true = false) :
    ∃ l r, unlisted listed m = l ++ i :: r ∧ unlisted (listed.setIfInBounds i true) m = l ++ r ∧ ∀ x ∈ l, x < i ∧ listed.getD x true = false := by
  refine ⟨(List.range i).filter fun k => !listed.getD k true, (List.range' (i + 1) (m - (i + 1))).filter fun k => !listed.getD k true, ?_, ?_, ?_⟩
  · unfold unlisted
    rw [range_split hi, List.filter_append, List.filter_cons, hl]
    simp
  · unfold unlisted
    rw [range_split hi, List.filter_append, List.filter_cons]
    have h1 : (listed.setIfInBounds i true).getD i true = true := by
      simp [Array.getD_eq_getD_getElem?, Array.getElem?_setIfInBounds_self]
      split <;> simp
    rw [h1]
    simp only [Bool.not_true, Bool.false_eq_true, if_false]
    congr 1
    · refine List.filter_congr fun k hk => ?_
      rw [getD_set _ (by simp at hk; omega)]
    · refine List.filter_congr fun k hk => ?_
      rw [getD_set _ (by simp [List.mem_range'_1] at hk; omega)]
  · intro x hx
    simpa [List.mem_filter] using hx
theorem mapM_at {ios : List IOper} {l : List Nat} {y : List IOper} (h : l.map (fun i => ios[i]?) = y.map some) {i : Nat} {k : Nat} (hk : l[i]? = some k) : ∃ io, ios[k]? = some io ∧ y[i]? = some io := by
  have := congrArg (fun z => z[i]?) h
  simp only [List.getElem?_map, hk, Option.map_some] at this
  cases hy : y[i]? with
  | none => rw [hy] at this; simp at this
  | some io => rw [hy] at this; simp at this; exact ⟨io, this, rfl⟩
theorem split_map {ios : List IOper} {l : List Nat} {i : Nat} {r : List Nat} {y : List IOper} (h : (l ++ i :: r).map (fun i => ios[i]?) = y.map some) :
    ∃ yl io yr, y = yl ++ io :: yr ∧ ios[i]? = some io ∧ l.map (fun i => ios[i]?) = yl.map some ∧ (l ++ r).map (fun i => ios[i]?) = (yl ++ yr).map some := by
  rw [List.map_append] at h
  obtain ⟨yl, y2, rfl, h1, h2⟩ := List.map_eq_append_iff.1 h.symm
  rw [List.map_cons] at h2
  obtain ⟨io, yr, rfl, h3, h4⟩ := List.map_eq_cons_iff.1 h2
  exact ⟨yl, io, yr, rfl, h3.symm, h1.symm, by simp [h1, h4]⟩
theorem any_sound {Γ : Ctx} (hC : CallOk P (CD Γ)) {ops : Array Oper} {ios : List IOper} {N : Nat} {Q : Exit → Act → World → Prop} {K : Env → Heap → Nat → Prop}
    (hc : ∀ (i : Nat) io, ios[i]? = some io → ∃ o, ops[i]? = some o ∧ cOper P ops o = some io ∧ ∀ t, io.dst = some t → t < N) (hok : drwOk ops ios = true)
    (hQ : ∀ e' h' n' a' w', K e' h' n' → St w0 pass own0 A N e' h' n' a' w' → Q .normal a' w') :
    ∀ (fuel : Nat) (listed : Array Bool) (y : List IOper) (e : Env) (h : Heap) (n : Nat) (a : Act) (w : World), listed.size = ops.size → (unlisted listed ops.size).length = fuel →
      (unlisted listed ops.size).map (fun i => ios[i]?) = y.map some → Closed ops (fun k => listed.getD k false = true) → St w0 pass own0 A N e h n a w → drwK Γ y e h n K →
      wpAny P .any ops Q fuel listed a w := by
  have hbs : ∀ (j : Nat) o, ops[j]? = some o → (∀ d ∈ direct o, d < j) ∧ ∃ io, ios[j]? = some io ∧ ∀ k, k < j → k ∈ (befG ops.toList []).getD j [] ∨ ∃ x, ios[k]? = some x ∧ apartB x io = true := by
    intro j o ho
    have := drwOkG_spec _ _ hok j o (by simpa using ho)
    rwa [Nat.zero_add] at this
  have hDF : ∀ (listed : Array Bool) (i : Nat), i < listed.size → (listed.getD i true = false ↔ ¬ listed.getD i false = true) := by
    intro listed i hi
    simp [Array.getD_eq_getD_getElem?, hi]
  have rdy : ∀ (listed : Array Bool) (y : List IOper), listed.size = ops.size → Closed ops (fun k => listed.getD k false = true) → Region.ready .any ops listed = [] → unlisted listed ops.size = [] := by
    intro listed y hs hcl hr
    cases hu : unlisted listed ops.size with
    | nil => rfl
    | cons i r =>
      exfalso
      have hi := (mem_unlisted (listed := listed) (m := ops.size) (i := i)).1 (by rw [hu]; simp)
      have hir : i ∈ Region.ready .any ops listed := by
        rw [mem_ready]
        refine ⟨hi.2, ops[i], Array.getElem?_eq_getElem hi.1, fun ed he hb => ?_⟩
        have hd : ed.on ∈ direct ops[i] := by
          simp only [direct, List.mem_map, List.mem_filter]
          exact ⟨ed, ⟨by simpa using he, hb⟩, rfl⟩
        have hlt := (hbs i _ (Array.getElem?_eq_getElem hi.1)).1 _ hd
        by_cases hn : listed.getD ed.on false = true
        · exact hn
        · exfalso
          have hm : ed.on ∈ unlisted listed ops.size := mem_unlisted.2 ⟨by omega, (hDF listed ed.on (by omega)).2 hn⟩
          obtain ⟨l, r', h1, _, h3⟩ := unlisted_split (m := ops.size) (i := i) hi.1 hi.2
          rw [hu] at h1
          have hsorted : (unlisted listed ops.size).Pairwise (· < ·) := List.Pairwise.filter _ List.pairwise_lt_range
          rw [hu] at hsorted hm
          rw [List.pairwise_cons] at hsorted
          rcases List.mem_cons.1 hm with h | h
          · omega
          · have := hsorted.1 _ h; omega
      rw [hr] at hir
      simp at hir
  intro fuel
  induction fuel with
  | zero =>
    intro listed y e h n a w hs hf hy hcl st hk
    have hnil : unlisted listed ops.size = [] := List.eq_nil_of_length_eq_zero hf
    rw [hnil] at hy
    have hy0 : y = [] := by cases y <;> simp_all
    subst hy0
    refine ⟨?_, hQ _ _ _ _ _ hk st⟩
    cases hr : Region.ready .any ops listed with
    | nil => rfl
    | cons i r =>
      have := (mem_ready (md := .any) (ops := ops) (listed := listed) (j := i)).1 (by rw [hr]; simp)
      obtain ⟨h1, o, h2, _⟩ := this
      have : i ∈ unlisted listed ops.size := mem_unlisted.2 ⟨(Array.getElem?_eq_some_iff.1 h2).1, h1⟩
      rw [hnil] at this; simp at this
  | succ fuel ih =>
    intro listed y e h n a w hs hf hy hcl st hk
    refine ⟨fun hr => ?_, fun i hi => ?_⟩
    · have := rdy listed y hs hcl hr
      rw [this] at hf; simp at hf
    · rw [mem_ready] at hi
      obtain ⟨hl, o, ho, hed⟩ := hi
      have him : i < ops.size := (Array.getElem?_eq_some_iff.1 ho).1
      obtain ⟨l, r, h1, h2, h3⟩ := unlisted_split (m := ops.size) him hl
      have hdir : ∀ d ∈ direct o, listed.getD d false = true := by
        intro d hd
        simp only [direct, List.mem_map, List.mem_filter] at hd
        obtain ⟨ed, ⟨g1, g2⟩, rfl⟩ := hd
        exact hed ed (by simpa using g1) g2
      rw [h1] at hy hf
      obtain ⟨yl, io, yr, rfl, g1, g2, g3⟩ := split_map hy
      obtain ⟨o', ho', hco, hdst⟩ := hc i io g1
      rw [ho] at ho'; cases ho'
      have hgood := befG_good hcl ops.toList [] (fun i o h => by simpa using h) (fun j l o hj => by simp at hj)
      have hap : ∀ x ∈ yl, apartB x io = true := by
        intro x hx
        obtain ⟨q, hq⟩ := List.getElem?_of_mem hx
        have hlen : l.length = yl.length := by simpa using congrArg List.length g2
        have hqlt := (List.getElem?_eq_some_iff.1 hq).1
        obtain ⟨io', k1, k2⟩ := mapM_at g2 (i := q) (k := l[q]'(by omega)) (List.getElem?_eq_getElem (by omega))
        rw [hq] at k2; cases k2
        obtain ⟨m1, m2⟩ := h3 (l[q]'(by omega)) (List.getElem_mem _)
        obtain ⟨_, io2, b1, b2⟩ := hbs i o ho
        rw [g1] at b1; cases b1
        rcases b2 _ m1 with b2 | ⟨x', b2, b3⟩
        · exfalso
          have : (befG ops.toList [])[i]? = some ((befG ops.toList []).getD i []) := by
            rw [List.getD_eq_getElem?_getD] at b2 ⊢
            cases hh : (befG ops.toList [])[i]? with
            | none => rw [hh] at b2; simp at b2
            | some z => rfl
          have hLL := hgood i _ o this ho hdir _ b2
          exact ((hDF listed _ (by omega)).1 m2) hLL
        · rw [k1] at b2; cases b2; exact b3
      have hk' := drw_first yl e h n hap hk
      unfold wpOp
      simp only [ho]
      refine oper_sound (P := P) hC hco hdst st (K := fun e h n => drwK Γ (yl ++ yr) e h n K) hk' ?_
      intro e' h' n' a' w' hk'' st'
      refine ih (listed.setIfInBounds i true) (yl ++ yr) e' h' n' a' w' (by simpa using hs) ?_ (by rw [h2]; exact g3) ?_ st' hk''
      · rw [h2]; simp at hf ⊢; omega
      · intro j oj hoj hj d hd
        have hgd : ∀ k, listed.getD k false = true → (listed.setIfInBounds i true).getD k false = true := by
          intro k hk
          by_cases hik : i = k
          · subst hik; simp [Array.getD_eq_getD_getElem?, hs, him]
          · rw [getD_set _ hik]; exact hk
        by_cases hij : i = j
        · subst hij
          rw [ho] at hoj; cases hoj
          exact hgd d (hdir d hd)
        · rw [getD_set _ hij] at hj
          exact hgd d (hcl j oj hoj hj d hd)
theorem drw_sound {Γ : Ctx} (hC : CallOk P (CD Γ)) {ops : Array Oper} {ios : List IOper} {N : Nat} {Q : Exit → Act → World → Prop} {K : Env → Heap → Nat → Prop}
    (hc : ∀ (i : Nat) io, ios[i]? = some io → ∃ o, ops[i]? = some o ∧ cOper P ops o = some io ∧ ∀ t, io.dst = some t → t < N) (hlen : ios.length = ops.size) (hok : drwOk ops ios = true)
    (hQ : ∀ e' h' n' a' w', K e' h' n' → St w0 pass own0 A N e' h' n' a' w' → Q .normal a' w') (st : St w0 pass own0 A N e h n a w) (hk : drwK Γ ios e h n K) :
    wpAny P .any ops Q ops.size (Array.replicate ops.size false) a w := by
  have hu : unlisted (Array.replicate ops.size false) ops.size = List.range ops.size := by
    unfold unlisted
    rw [List.filter_eq_self]
    intro i hi
    simp at hi
    simp [Array.getD_eq_getD_getElem?, hi]
  refine any_sound (P := P) hC hc hok hQ ops.size _ ios e h n a w (by simp) (by rw [hu]; simp) ?_ ?_ st hk
  · rw [hu, ← hlen]
    apply List.ext_getElem? 
    intro i
    by_cases hi : i < ios.length
    · simp [hi]
    · simp [hi]
  · intro j o hj hl
    exfalso
    have := (Array.getElem?_eq_some_iff.1 hj).1
    simp [Array.getD_eq_getD_getElem?, this] at hl
end
def Tag.isCall : Tag → Bool
  | .call _ => true
  | .dyn => true
  | _ => false
def IOper.wr (o : IOper) : Bool := o.tag.isCall || o.tag.kind == 2
structure DRec where
  i : Nat
  w : Bool
  ids : List Nat
  hb : Heap
  ha : Heap
structure CallGood (C : CallF) : Prop where
  mono : ∀ f xs h n (K K' : Kont), (∀ v h' n', K v h' n' → K' v h' n') → C f xs h n K → C f xs h n K'
  nv : ∀ f xs h n (K : Kont), C f xs h n K → ∃ v h' n', K v h' n'
section
variable {C : CallF} (hC : CallGood C)
include hC
end
def sapB (i j : IOper) : Bool :=
  (match i.dst with
   | some d => !(j.reads.contains d) && j.dst != some d
   | none => true) &&
  (match j.dst with
   | some d => !(i.reads.contains d)
   | none => true) && !(i.wr && j.wr)
section
variable {C : CallF} (hC : CallGood C)
include hC
end
def sapFrom (ios : List IOper) (io : IOper) (bs : List Nat) : Nat → Bool
  | 0 => true
  | i + 1 => sapFrom ios io bs i && (bs.contains i || match ios[i]? with
    | some x => sapB x io
    | none => false)
def drdOkG (ios : List IOper) (bs : List (List Nat)) : List Oper → Nat → Bool
  | [], _ => true
  | o :: r, j => (direct o).all (· < j) && (match ios[j]? with
    | some io => sapFrom ios io (bs.getD j []) j
    | none => false) && drdOkG ios bs r (j + 1)
def drdOk (ops : Array Oper) (ios : List IOper) : Bool := drdOkG ios (befG ops.toList []) ops.toList 0
section
variable {P : Program} {w0 : World} {pass own0 : Nat → Prop} {A : Anch} {π : Pl} {e : Env} {h : Heap} {n : Nat} {a : Act} {w : World}
end
end Go.Proofs.YthanhknkoikbfaaDoor.Av
