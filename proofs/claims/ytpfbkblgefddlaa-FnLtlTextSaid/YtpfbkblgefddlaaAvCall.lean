/- Calls: what is asked of a contract, and how a caller uses it. -/
import Derived.Test.YtpfbkblgefddlaaAvOps4
namespace Go.Proofs.Ytpfbkblgefddlaa.Av
set_option linter.unusedSimpArgs false
set_option linter.unusedVariables false
open Go

theorem getElem?_mapIds (f : Nat → Option Nat) : ∀ (vs : List AV) (i : Nat), (AV.mapIds f vs)[i]? = (vs[i]?).map (AV.mapId f)
  | [], i => by simp [AV.mapIds]
  | v :: r, 0 => by simp [AV.mapIds]
  | v :: r, i + 1 => by simp [AV.mapIds, getElem?_mapIds f r i]

theorem length_mapIds (f : Nat → Option Nat) : ∀ (vs : List AV), (AV.mapIds f vs).length = vs.length
  | [] => by simp [AV.mapIds]
  | v :: r => by simp [AV.mapIds, length_mapIds f r]

section
variable {P : Program} {w0 : World} {pass own0 : Nat → Prop} {π : Pl} {e : Env} {h : Heap} {n : Nat} {a : Act} {w : World}

theorem Rel.mapId {own own' : Nat → Prop} {π π' : Pl} {N N' : Nat} {f : Nat → Option Nat} (ho : ∀ b, own' b → own b) (hp : ∀ id j p, f id = some j → π id = some p → π' j = some p)
    (hd : ∀ id j, f id = some j → π id = none → id < N → π' j = none ∧ j < N') {x : AV} {v : Value} (h : Rel w own π N x v) : Rel w own' π' N' (x.mapId f) v := by
  have hk : ∀ b, b < w.heap.size → ¬ own b → w.heap[b]? = w.heap[b]? ∧ ¬ own' b := fun b _ h => ⟨rfl, fun g => h (ho b g)⟩
  induction h with
  | top v => exact .top v
  | undef => exact .undef
  | int k n => exact .int k n
  | bool b => exact .bool b
  | str s => exact .str s
  | agg vs cs hl h ih =>
    refine .agg _ cs (by rw [length_mapIds]; exact hl) (fun i x u h1 h2 => ?_)
    rw [getElem?_mapIds] at h1
    obtain ⟨y, hy, rfl⟩ := Option.map_eq_some_iff.1 h1
    exact ih i y u hy h2
  | tup vs cs hl h ih =>
    refine .tup _ cs (by rw [length_mapIds]; exact hl) (fun i x u h1 h2 => ?_)
    rw [getElem?_mapIds] at h1
    obtain ⟨y, hy, rfl⟩ := Option.map_eq_some_iff.1 h1
    exact ih i y u hy h2
  | refLive id off len b cap p hpp hb h1 h2 =>
    simp only [AV.mapId]
    split
    · rename_i j hj; exact .refLive _ _ _ _ _ p (hp id j p hj hpp) hb h1 h2
    · exact .top _
  | refEnd id off o b p hpp hb =>
    simp only [AV.mapId]
    split
    · rename_i j hj; exact .refEnd _ _ _ _ p (hp id j p hj hpp) hb
    · exact .top _
  | refNil id a p hpp hb =>
    simp only [AV.mapId]
    split
    · rename_i j hj; exact .refNil _ a p (hp id j p hj hpp) hb
    · exact .top _
  | refDead id off len v cap hpp hn =>
    simp only [AV.mapId]
    split
    · rename_i j hj; exact .refDead _ _ _ _ _ (hd id j hj hpp hn).1 (hd id j hj hpp hn).2
    · exact .top _
  | snil a => exact .snil a
  | valNil ad cap => exact .valNil ad cap
  | val rows g off cap s us ho' hg hc hm hs hf hu h _ =>
    exact .val rows g off cap s us (hk g hg ho').2 hg hc hm hs hf hu (fun i j row x h1 h2 => (h i j row x h1 h2).free hk (Nat.le_refl _) (freeT_of_free (hf i row x h1 (List.mem_of_getElem? h2))))
  | ptrLive id i off b p hpp hb =>
    simp only [AV.mapId]
    split
    · rename_i j hj; exact .ptrLive _ _ _ _ p (hp id j p hj hpp) hb
    · exact .top _
  | ptrDead id i off v hpp hn =>
    simp only [AV.mapId]
    split
    · rename_i j hj; exact .ptrDead _ _ _ _ (hd id j hj hpp hn).1 (hd id j hj hpp hn).2
    · exact .top _
  | rptr row off g o us ho' hg hf hu h _ =>
    exact .rptr row off g o us (hk g hg ho').2 hg hf hu (fun j x h1 => (h j x h1).free hk (Nat.le_refl _) (hf x (List.mem_of_getElem? h1)))
  | pnil => exact .pnil
  | fn g caps cs hl h ih =>
    refine .fn g _ cs (by rw [length_mapIds]; exact hl) (fun i x u h1 h2 => ?_)
    rw [getElem?_mapIds] at h1
    obtain ⟨y, hy, rfl⟩ := Option.map_eq_some_iff.1 h1
    exact ih i y u hy h2
  | fnil => exact .fnil

theorem ObjAt.mapId {own own' : Nat → Prop} {π π' : Pl} {N N' : Nat} {f : Nat → Option Nat} (ho : ∀ b, own' b → own b) (hp : ∀ id j p, f id = some j → π id = some p → π' j = some p)
    (hd : ∀ id j, f id = some j → π id = none → id < N → π' j = none ∧ j < N') {p : Place} {o : AObj} (h : ObjAt w own π N p o) : ObjAt w own' π' N' p (o.mapId f) := by
  cases o with
  | box row =>
    obtain ⟨b, cur, e, h1, h2, h3, h4⟩ := h
    refine ⟨b, cur, e, h1, h2, by rw [length_mapIds]; exact h3, fun j x u hx hu => ?_⟩
    rw [getElem?_mapIds] at hx
    obtain ⟨y, hy, rfl⟩ := Option.map_eq_some_iff.1 hx
    exact (h4 j y u hy hu).mapId ho hp hd
  | arr s rows =>
    obtain ⟨h1, h2, h3⟩ := h
    refine ⟨h1, h2, ?_⟩
    cases hb : p.blk with
    | none => simpa [hb] using h3
    | some b =>
      simp only [hb] at h3 ⊢
      obtain ⟨cur, e, g1, g2, g3, g4, g5⟩ := h3
      refine ⟨cur, e, g1, g2, g3, g4, fun i j row x u a1 a2 a3 => ?_⟩
      exact (g5 i j row x u a1 a2 a3).free (fun b _ h => ⟨rfl, fun g => h (ho b g)⟩) (Nat.le_refl _) (freeT_of_free ((h2 i row a1).2 x (List.mem_of_getElem? a2)))

def Rels (w : World) (own : Nat → Prop) (π : Pl) (N : Nat) (xs : List AV) (vs : List Value) : Prop :=
  xs.length = vs.length ∧ ∀ (i : Nat) x v, xs[i]? = some x → vs[i]? = some v → Rel w own π N x v

def noPl : Pl := fun _ => none
def objsH (objs : List AObj) : Heap := fun id => objs[id]?
def objsO (objs : List (Option AObj)) : Heap := fun id => (objs[id]?).join

structure Ext (w w' : World) (may : Nat → Prop) : Prop where
  os : w'.os = w.os
  tape : w'.tape = w.tape
  output : w'.output = w.output
  size : w.heap.size ≤ w'.heap.size
  kept : ∀ b, b < w.heap.size → ¬ may b → w'.heap[b]? = w.heap[b]?

/-- A function that reads what it is handed, and returns new memory alone. -/
def PureSound (P : Program) (f : Nat) (R : List AV → AV → List AObj → Prop) : Prop :=
  ∀ (w : World) (own : Nat → Prop) (xs : List AV) (vs : Array Value) (r : AV) (objs : List AObj), Rels w own noPl 0 xs vs.toList → R xs r objs →
    Calls P f vs w fun e w' => ∃ v π, e = .returned v ∧ Ext w w' (fun _ => False) ∧ HSim (· < w.heap.size) π (objsH objs) objs.length w' ∧ Rel w' (ownOf (· < w.heap.size) π) π objs.length r v

def GFun := List AV → List AObj → (AV → List (Option AObj) → Prop) → Prop

/-- A function that is handed k own objects. -/
def GenSound (P : Program) (f k : Nat) (G : GFun) : Prop :=
  ∀ (w : World) (own0 : Nat → Prop) (π : Pl) (objs : List AObj) (xs : List AV) (vs : Array Value) (Q : AV → List (Option AObj) → Prop), objs.length = k → HSim own0 π (objsH objs) k w →
    Rels w (ownOf own0 π) π k xs vs.toList → G xs objs Q →
    Calls P f vs w fun e w' => ∃ v π' r out, e = .returned v ∧ Q r out ∧ k ≤ out.length ∧ Ext w w' (fun b => ∃ id p, π id = some p ∧ p.blk = some b) ∧
      (∀ id p, π id = some p → π' id = some p ∨ π' id = none) ∧ (∀ id p b, π' id = some p → p.blk = some b → w.heap.size ≤ b ∨ ∃ id' p', π id' = some p' ∧ p'.blk = some b) ∧
      HSim own0 π' (objsO out) out.length w' ∧ Rel w' (ownOf own0 π') π' out.length r v

/-- nothing of the walk's own in it -/
def AV.freeA : AV → Bool
  | .agg vs => vs.all AV.free
  | v => v.free

/-- A function whose results may lead into what it was handed. -/
def LooseSound (P : Program) (f : Nat) (R : List AV → AV → List AObj → Prop) : Prop :=
  ∀ (w : World) (own : Nat → Prop) (xs : List AV) (vs : Array Value) (r : AV) (objs : List AObj), (∀ b, own b → b < w.heap.size) → Rels w own noPl 0 xs vs.toList → R xs r objs →
    Calls P f vs w fun e w' => ∃ v π, e = .returned v ∧ Ext w w' (fun _ => False) ∧ HSim own π (objsH objs) objs.length w' ∧ (∀ id p b, π id = some p → p.blk = some b → w.heap.size ≤ b) ∧ Rel w' (ownOf own π) π objs.length r v

inductive Spec where
  | pure (R : List AV → AV → List AObj → Prop)
  | loose (R : List AV → AV → List AObj → Prop)
  | gen (k : Nat) (G : GFun)

def Spec.Sound (P : Program) (f : Nat) : Spec → Prop
  | .pure R => PureSound P f R
  | .loose R => LooseSound P f R
  | .gen k G => GenSound P f k G

def callPure (R : List AV → AV → List AObj → Prop) (args : List AV) (h : Heap) (n : Nat) (K : Kont) : Prop :=
  ∃ r objs, R (args.map (AV.snap h)) r objs ∧ K (r.mapId (shift n)) (addObjs h n (objs.map (AObj.mapId (shift n)))) (n + objs.length)

def callLoose (R : List AV → AV → List AObj → Prop) (args : List AV) (h : Heap) (n : Nat) (K : Kont) : Prop :=
  args.all AV.freeA = true ∧ callPure R args h n K

def callGen (k : Nat) (G : GFun) (args : List AV) (h : Heap) (n : Nat) (K : Kont) : Prop :=
  (reach h args).length = k ∧ (∀ id ∈ reach h args, (h id).isSome = true) ∧
    G (args.map (AV.mapId (place (reach h args)))) ((reach h args).map fun id => ((h id).getD default).mapId (place (reach h args)))
      fun r out => K (r.mapId (unplace (reach h args) n)) (setObjs h n (reach h args) (out.map fun o => o.map (AObj.mapId (unplace (reach h args) n)))) (n + (out.length - k))

def Spec.call : Spec → List AV → Heap → Nat → Kont → Prop
  | .pure R => callPure R
  | .loose R => callLoose R
  | .gen k G => callGen k G

/-! ### a caller of a function that only reads -/

theorem rel_snap1 (s : HSim own0 π h n w) {x : AV} {v : Value} (hr : Rel w (ownOf own0 π) π n x v) : Rel w own0 noPl 0 (x.snap1 h) v := by
  have hk : ∀ b, b < w.heap.size → ¬ ownOf own0 π b → w.heap[b]? = w.heap[b]? ∧ ¬ own0 b := fun b _ h => ⟨rfl, fun g => h (.inl g)⟩
  cases x <;> simp only [AV.snap1] <;> first | exact .top _ | skip
  · cases hr; exact .int _ _
  · cases hr; exact .bool _
  · cases hr; exact .str _
  · rename_i id off len
    split
    · rename_i q rows ho
      split
      · rename_i hle
        obtain ⟨_, p, hp, hq⟩ := s.obj id _ ho
        obtain ⟨hsz, hfr, hbk⟩ := hq
        have hsl : (sub rows off len).length = len := length_sub _ _ _ hle
        cases hr with
        | refLive _ _ _ b cap p' hp' hb h1 h2 =>
          rw [hp] at hp'; cases hp'
          simp only [hb] at hbk
          obtain ⟨cur, e', g1, g2, g3, g4, g5⟩ := hbk
          by_cases hlen0 : len = 0
          · subst hlen0
            have : sub rows off 0 = [] := by simp [sub]
            rw [this]; exact .valNil _ _
          · have hget : ∀ (i : Nat) row, (sub rows off len)[i]? = some row → i < len ∧ rows[off + i]? = some row := by
              intro i row hr
              rw [getElem?_sub] at hr
              split at hr
              · rename_i hi; exact ⟨hi, hr⟩
              · cases hr
            have hcell : ∀ (i j : Nat) row x, (sub rows off len)[i]? = some row → row[j]? = some x → w.cell? ⟨b, off * p.sz + (i * q + j), none⟩ = some (cur.getD ((off + i) * q + j) Go.undef) ∧ Rel w (ownOf own0 π) π n x (cur.getD ((off + i) * q + j) Go.undef) := by
              intro i j row x hr hx
              obtain ⟨hi, h3⟩ := hget i row hr
              have hj : j < q := by rw [← (hfr _ row h3).1]; exact (List.getElem?_eq_some_iff.1 hx).1
              have hlt : (off + i) * q + j < cur.size := by
                rw [g2]; exact idx_lt (by have := (List.getElem?_eq_some_iff.1 h3).1; omega) hj
              have e1 : cur.getD ((off + i) * q + j) Go.undef = cur[(off + i) * q + j] := by simp [hlt]
              rw [e1]
              refine ⟨?_, g5 _ j row x _ h3 hx (Array.getElem?_eq_getElem hlt)⟩
              rw [hsz, ← Nat.add_assoc, ← Nat.add_mul, cell_of_row w b _ cur e' (0, 0) g1]
              exact Array.getElem?_eq_getElem hlt
            have hbo : ¬ own0 b := s.sep id p b hp hb
            have hblt := s.blk_lt hp hb
            have := Rel.val (w := w) (own := own0) (π := noPl) (N := 0) (sub rows off len) b (off * p.sz) cap q (fun i j => cur.getD ((off + i) * q + j) Go.undef) hbo hblt (by omega) (by omega)
              (fun i row hr => (hfr _ row (hget i row hr).2).1) (fun i row x hr hx => (hfr _ row (hget i row hr).2).2 x hx) (fun i j row x hr hx => (hcell i j row x hr hx).1)
              (fun i j row x hr hx => (hcell i j row x hr hx).2.free hk (Nat.le_refl _) (freeT_of_free ((hfr _ row (hget i row hr).2).2 x (List.mem_of_getElem? hx))))
            rwa [hsl] at this
        | refEnd _ _ o b p' hp' hb =>
          have : sub rows off 0 = [] := by simp [sub]
          rw [this]; exact .valNil _ _
        | refNil _ ad p' hp' hb =>
          have : sub rows 0 0 = [] := by simp [sub]
          rw [this]; exact .valNil _ _
        | refDead _ _ _ _ _ hd _ => rw [hp] at hd; cases hd
      · exact .top _
    · exact .top _
  · cases hr; exact .valNil _ _
  · exact hr.free hk (Nat.le_refl _) rfl
  · exact hr.free hk (Nat.le_refl _) rfl
  · cases hr; exact .pnil
  · split
    · rename_i f caps hc
      cases hr with
      | fn _ _ cs hl _ =>
        have : caps = [] := by simpa using hc
        subst this
        exact .fn f [] cs hl (by simp)
    · exact .top _
  · cases hr; exact .fnil


theorem freeT_snap1 (x : AV) : (x.snap1 h).freeT = true := by
  cases x <;> simp only [AV.snap1] <;> first | rfl | skip
  · split
    · split <;> rfl
    · rfl
  · split <;> rfl

theorem rel_snap (s : HSim own0 π h n w) {x : AV} {v : Value} (hr : Rel w (ownOf own0 π) π n x v) : Rel w own0 noPl 0 (x.snap h) v := by
  have hk : ∀ b, b < w.heap.size → ¬ ownOf own0 π b → w.heap[b]? = w.heap[b]? ∧ ¬ own0 b := fun b _ h => ⟨rfl, fun g => h (.inl g)⟩
  cases x <;> simp only [AV.snap] <;> first | exact rel_snap1 s hr | skip
  · rename_i vs
    cases hr with
    | agg _ cs hl hh =>
      refine .agg _ cs (by simpa using hl) (fun i x u h1 h2 => ?_)
      simp only [List.getElem?_map, Option.map_eq_some_iff] at h1
      obtain ⟨y, hy, rfl⟩ := h1
      exact rel_snap1 s (hh i y u hy h2)
  · rename_i id i off
    split
    · rename_i row ho
      split
      · rename_i hi0
        subst hi0
        obtain ⟨p, hp, hq, hv⟩ := ptr_live s hr ho
        obtain ⟨b, cur, e', h1, h2, h3, h4⟩ := hq
        rw [hv b h1, Nat.zero_mul, Nat.zero_add]
        have hbo : ¬ own0 b := s.sep id p b hp h1
        have hblt := s.blk_lt hp h1
        have hc : ∀ (j : Nat) y, row[j]? = some y → w.cell? ⟨b, j, none⟩ = some (cur.getD j Go.undef) ∧ Rel w (ownOf own0 π) π n y (cur.getD j Go.undef) := by
          intro j y hy
          have hlt : j < cur.size := by rw [h3]; exact (List.getElem?_eq_some_iff.1 hy).1
          have e1 : cur.getD j Go.undef = cur[j] := by simp [hlt]
          rw [e1, cell_of_row w b j cur e' (0, 0) h2]
          exact ⟨Array.getElem?_eq_getElem hlt, h4 j y _ hy (Array.getElem?_eq_getElem hlt)⟩
        have := Rel.rptr (w := w) (own := own0) (π := noPl) (N := 0) (row.map (AV.snap1 h)) off b 0 (fun j => cur.getD j Go.undef) hbo hblt
          (fun x hx => by simp only [List.mem_map] at hx; obtain ⟨y, _, rfl⟩ := hx; exact freeT_snap1 y)
          (fun j x hx => by
            simp only [List.getElem?_map, Option.map_eq_some_iff] at hx
            obtain ⟨y, hy, rfl⟩ := hx
            rw [Nat.zero_add]; exact (hc j y hy).1)
          (fun j x hx => by
            simp only [List.getElem?_map, Option.map_eq_some_iff] at hx
            obtain ⟨y, hy, rfl⟩ := hx
            exact rel_snap1 s (hc j y hy).2)
        simpa using this
      · exact .top _
    · rename_i q rows ho
      split
      · rename_i row hrow
        obtain ⟨p, hp, hq, hv⟩ := ptr_live s hr ho
        obtain ⟨hsz, hfr, hbk⟩ := hq
        have hil : i < rows.length := (List.getElem?_eq_some_iff.1 hrow).1
        cases hb : p.blk with
        | none => simp only [hb] at hbk; subst hbk; simp at hil
        | some b =>
          simp only [hb] at hbk
          obtain ⟨cur, e', g1, g2, g3, g4, g5⟩ := hbk
          rw [hv b hb]
          have hbo : ¬ own0 b := s.sep id p b hp hb
          have hblt := s.blk_lt hp hb
          have hc : ∀ (j : Nat) y, row[j]? = some y → w.cell? ⟨b, i * p.sz + j, none⟩ = some (cur.getD (i * q + j) Go.undef) ∧ Rel w (ownOf own0 π) π n y (cur.getD (i * q + j) Go.undef) := by
            intro j y hy
            have hj : j < q := by rw [← (hfr _ row hrow).1]; exact (List.getElem?_eq_some_iff.1 hy).1
            have hlt : i * q + j < cur.size := by rw [g2]; exact idx_lt (by omega) hj
            have e1 : cur.getD (i * q + j) Go.undef = cur[i * q + j] := by simp [hlt]
            rw [e1, hsz, cell_of_row w b _ cur e' (0, 0) g1]
            exact ⟨Array.getElem?_eq_getElem hlt, g5 i j row y _ hrow hy (Array.getElem?_eq_getElem hlt)⟩
          exact Rel.rptr (w := w) (own := own0) (π := noPl) (N := 0) row off b (i * p.sz) (fun j => cur.getD (i * q + j) Go.undef) hbo hblt
            (fun x hx => freeT_of_free ((hfr _ row hrow).2 x hx)) (fun j x hx => (hc j x hx).1)
            (fun j x hx => (hc j x hx).2.free hk (Nat.le_refl _) (freeT_of_free ((hfr _ row hrow).2 x (List.mem_of_getElem? hx))))
      · exact .top _
    · exact .top _

theorem addObjs_eq : ∀ (objs : List AObj) (h : Heap) (n j : Nat), addObjs h n objs j = if n ≤ j ∧ j < n + objs.length then objs[j - n]? else h j
  | [], h, n, j => by simp [addObjs]; omega
  | o :: r, h, n, j => by
    simp only [addObjs, addObjs_eq r, List.length_cons, Heap.set]
    by_cases h1 : j = n
    · subst h1; rw [if_neg (by omega), if_pos rfl, if_pos (by omega)]; simp
    · by_cases h2 : n + 1 ≤ j ∧ j < n + 1 + r.length
      · rw [if_pos h2, if_pos (by omega)]
        have : j - n = (j - (n + 1)) + 1 := by omega
        rw [this, List.getElem?_cons_succ]
      · rw [if_neg h2, if_neg h1, if_neg (by omega)]

def CallDone (P : Program) (w0 : World) (pass own0 : Nat → Prop) (π : Pl) (n : Nat) (w : World) (f : Nat) (vs : Array Value) (K : Kont) : Prop :=
  Calls P f vs w fun e w' => ∃ v π' x h' n', e = .returned v ∧ Go1 w0 pass own0 π n w π' h' n' w' ∧ Rel w' (ownOf own0 π') π' n' x v ∧ K x h' n'

theorem call_pure (s : Sim w0 pass own0 π e h n a w) {f : Nat} {R : List AV → AV → List AObj → Prop} (hf : PureSound P f R) {xs : List AV} {vs : Array Value} (hr : Rels w (ownOf own0 π) π n xs vs.toList) {K : Kont}
    (hk : callPure R xs h n K) : CallDone P w0 pass own0 π n w f vs K := by
  obtain ⟨r, objs, hR, hk⟩ := hk
  refine (hf w own0 (xs.map (AV.snap h)) vs r objs ⟨by simpa using hr.1, fun i x v h1 h2 => ?_⟩ hR).mono ?_
  · simp only [List.getElem?_map, Option.map_eq_some_iff] at h1
    obtain ⟨y, hy, rfl⟩ := h1
    exact rel_snap s.hs (hr.2 i y v hy h2)
  · rintro e' w' ⟨v, πr, rfl, E, H, hrel⟩
    let π' : Pl := fun j => if j < n then π j else πr (j - n)
    have hπlt : ∀ {id p}, π id = some p → id < n := fun hp => (s.hs.lt hp).1
    have hπr : ∀ {id p}, πr id = some p → id < objs.length := fun hp => (H.lt hp).1
    have hnew : ∀ {id p b}, πr id = some p → p.blk = some b → w.heap.size ≤ b := fun hp hb => by have := H.sep _ _ _ hp hb; omega
    have hown : ∀ b, ownOf own0 π' b → ownOf (· < w.heap.size) πr b := by
      rintro b (h1 | ⟨id, p, h1, h2⟩)
      · exact .inl (s.hs.old b h1)
      · simp only [π'] at h1
        split at h1
        · exact .inl (s.hs.blk_lt h1 h2)
        · exact .inr ⟨_, p, h1, h2⟩
    have hsh : ∀ id j p, shift n id = some j → πr id = some p → π' j = some p := by
      intro id j p h1 h2
      simp only [shift, Option.some.injEq] at h1
      subst h1
      simp only [π']
      rw [if_neg (by omega), Nat.add_sub_cancel_left]; exact h2
    have hdd : ∀ id j, shift n id = some j → πr id = none → id < objs.length → π' j = none ∧ j < n + objs.length := by
      intro id j h1 h2 h3
      simp only [shift, Option.some.injEq] at h1
      subst h1
      exact ⟨by simp only [π']; rw [if_neg (by omega), Nat.add_sub_cancel_left]; exact h2, by omega⟩
    have M : Mono own0 π π' n (n + objs.length) w w' := by
      refine ⟨E.size, fun b hb ho => ⟨E.kept b hb (by simp), ?_⟩, fun id p hp => ⟨.inl ?_, hπlt hp⟩, fun id hp hn => ?_, Nat.le_add_right _ _, E.os, E.tape, E.output⟩
      · rintro (h1 | ⟨id, p, h1, h2⟩)
        · exact ho (.inl h1)
        · simp only [π'] at h1
          split at h1
          · exact ho (.inr ⟨id, p, h1, h2⟩)
          · have := hnew h1 h2; omega
      · simp only [π']; rw [if_pos (hπlt hp)]; exact hp
      · simp only [π']; rw [if_pos hn]; exact hp
    have HS : HSim own0 π' (addObjs h n (objs.map (AObj.mapId (shift n)))) (n + objs.length) w' := by
      refine ⟨?_, ?_, ?_, ?_, fun b hb => Nat.lt_of_lt_of_le (s.hs.old b hb) E.size⟩
      · intro id hid
        rw [addObjs_eq] at hid
        simp only [List.length_map, List.getElem?_map] at hid
        simp only [π']
        split at hid
        · rename_i hc
          rw [if_neg (by omega)]
          exact H.dom _ (by simpa [objsH] using hid)
        · rename_i hc
          split
          · exact s.hs.dom id hid
          · cases hp : πr (id - n) with
            | none => rfl
            | some p => have := hπr hp; omega
      · intro id o hid
        rw [addObjs_eq] at hid
        simp only [List.length_map, List.getElem?_map] at hid
        split at hid
        · rename_i hc
          obtain ⟨o', ho', rfl⟩ := Option.map_eq_some_iff.1 hid
          obtain ⟨h1, p, h2, h3⟩ := H.obj (id - n) o' ho'
          refine ⟨by omega, p, ?_, h3.mapId hown hsh hdd⟩
          simp only [π']; rw [if_neg (by omega)]; exact h2
        · obtain ⟨h1, p, h2, h3⟩ := s.hs.obj id o hid
          refine ⟨by omega, p, by simp only [π']; rw [if_pos h1]; exact h2, h3.mono M (fun b hb => E.kept b (s.hs.blk_lt h2 hb) (by simp))⟩
      · intro id id' p p' b h1 h2 h3 h4
        simp only [π'] at h1 h2
        split at h1 <;> split at h2
        · exact s.hs.inj id id' p p' b h1 h2 h3 h4
        · have := s.hs.blk_lt h1 h3; have := hnew h2 h4; omega
        · have := s.hs.blk_lt h2 h4; have := hnew h1 h3; omega
        · have := H.inj _ _ p p' b h1 h2 h3 h4; omega
      · intro id p b h1 h2
        simp only [π'] at h1
        split at h1
        · exact s.hs.sep id p b h1 h2
        · intro h0; have := s.hs.old b h0; have := hnew h1 h2; omega
    refine ⟨v, π', _, _, _, rfl, ⟨M, HS, ?_⟩, hrel.mapId hown hsh hdd, hk⟩
    refine ⟨E.os.trans s.fr.os, E.tape.trans s.fr.tape, E.output.trans s.fr.output, Nat.le_trans s.fr.size E.size, fun b hb hp => ?_, fun id p b h1 h2 => ?_⟩
    · exact (E.kept b (Nat.lt_of_lt_of_le hb s.fr.size) (by simp)).trans (s.fr.kept b hb hp)
    · simp only [π'] at h1
      split at h1
      · exact s.fr.blk id p b h1 h2
      · exact .inl (Nat.le_trans s.fr.size (hnew h1 h2))


theorem rel_snap1_free {own : Nat → Prop} {x : AV} {v : Value} (hf : x.free = true) (hr : Rel w own π n x v) : Rel w own noPl 0 (x.snap1 h) v := by
  cases x <;> simp only [AV.snap1] <;> first | exact .top _ | (exact hr.free_same hf) | (simp [AV.free] at hf; done) | skip
  · cases hr; exact .valNil _ _
  · rename_i f caps
    simp only [AV.free] at hf
    rw [if_pos hf]
    have : caps = [] := by simpa using hf
    subst this
    exact hr.free_same rfl

theorem rel_snap_free {own : Nat → Prop} {x : AV} {v : Value} (hf : x.freeA = true) (hr : Rel w own π n x v) : Rel w own noPl 0 (x.snap h) v := by
  cases x <;> simp only [AV.snap] <;> first | exact rel_snap1_free hf hr | (simp [AV.freeA, AV.free] at hf; done) | skip
  rename_i vs
  cases hr with
  | agg _ cs hl hh =>
    refine .agg _ cs (by simpa using hl) (fun i x u h1 h2 => ?_)
    simp only [List.getElem?_map, Option.map_eq_some_iff] at h1
    obtain ⟨y, hy, rfl⟩ := h1
    simp only [AV.freeA, List.all_eq_true] at hf
    exact rel_snap1_free (hf y (List.mem_of_getElem? hy)) (hh i y u hy h2)

theorem call_loose (s : Sim w0 pass own0 π e h n a w) {f : Nat} {R : List AV → AV → List AObj → Prop} (hf : LooseSound P f R) {xs : List AV} {vs : Array Value} (hr : Rels w (ownOf own0 π) π n xs vs.toList) {K : Kont}
    (hk : callLoose R xs h n K) : CallDone P w0 pass own0 π n w f vs K := by
  obtain ⟨hfree, r, objs, hR, hk⟩ := hk
  have hold : ∀ b, ownOf own0 π b → b < w.heap.size := by
    rintro b (hb | ⟨id, p, h1, h2⟩)
    · exact s.hs.old b hb
    · exact s.hs.blk_lt h1 h2
  refine (hf w (ownOf own0 π) (xs.map (AV.snap h)) vs r objs hold ⟨by simpa using hr.1, fun i x v h1 h2 => ?_⟩ hR).mono ?_
  · simp only [List.getElem?_map, Option.map_eq_some_iff] at h1
    obtain ⟨y, hy, rfl⟩ := h1
    exact rel_snap_free ((List.all_eq_true.1 hfree) y (List.mem_of_getElem? hy)) (hr.2 i y v hy h2)
  · rintro e' w' ⟨v, πr, rfl, E, H, hnew, hrel⟩
    let π' : Pl := fun j => if j < n then π j else πr (j - n)
    have hπlt : ∀ {id p}, π id = some p → id < n := fun hp => (s.hs.lt hp).1
    have hπr : ∀ {id p}, πr id = some p → id < objs.length := fun hp => (H.lt hp).1
    have hown : ∀ b, ownOf own0 π' b → ownOf (ownOf own0 π) πr b := by
      rintro b (h1 | ⟨id, p, h1, h2⟩)
      · exact .inl (.inl h1)
      · simp only [π'] at h1
        split at h1
        · exact .inl (.inr ⟨id, p, h1, h2⟩)
        · exact .inr ⟨_, p, h1, h2⟩
    have hsh : ∀ id j p, shift n id = some j → πr id = some p → π' j = some p := by
      intro id j p h1 h2
      simp only [shift, Option.some.injEq] at h1
      subst h1
      simp only [π']
      rw [if_neg (by omega), Nat.add_sub_cancel_left]; exact h2
    have hdd : ∀ id j, shift n id = some j → πr id = none → id < objs.length → π' j = none ∧ j < n + objs.length := by
      intro id j h1 h2 h3
      simp only [shift, Option.some.injEq] at h1
      subst h1
      exact ⟨by simp only [π']; rw [if_neg (by omega), Nat.add_sub_cancel_left]; exact h2, by omega⟩
    have M : Mono own0 π π' n (n + objs.length) w w' := by
      refine ⟨E.size, fun b hb ho => ⟨E.kept b hb (by simp), ?_⟩, fun id p hp => ⟨.inl ?_, hπlt hp⟩, fun id hp hn => ?_, Nat.le_add_right _ _, E.os, E.tape, E.output⟩
      · rintro (h1 | ⟨id, p, h1, h2⟩)
        · exact ho (.inl h1)
        · simp only [π'] at h1
          split at h1
          · exact ho (.inr ⟨id, p, h1, h2⟩)
          · have := hnew _ _ _ h1 h2; omega
      · simp only [π']; rw [if_pos (hπlt hp)]; exact hp
      · simp only [π']; rw [if_pos hn]; exact hp
    have HS : HSim own0 π' (addObjs h n (objs.map (AObj.mapId (shift n)))) (n + objs.length) w' := by
      refine ⟨?_, ?_, ?_, ?_, fun b hb => Nat.lt_of_lt_of_le (s.hs.old b hb) E.size⟩
      · intro id hid
        rw [addObjs_eq] at hid
        simp only [List.length_map, List.getElem?_map] at hid
        simp only [π']
        split at hid
        · rename_i hc
          rw [if_neg (by omega)]
          exact H.dom _ (by simpa [objsH] using hid)
        · rename_i hc
          split
          · exact s.hs.dom id hid
          · cases hp : πr (id - n) with
            | none => rfl
            | some p => have := hπr hp; omega
      · intro id o hid
        rw [addObjs_eq] at hid
        simp only [List.length_map, List.getElem?_map] at hid
        split at hid
        · rename_i hc
          obtain ⟨o', ho', rfl⟩ := Option.map_eq_some_iff.1 hid
          obtain ⟨h1, p, h2, h3⟩ := H.obj (id - n) o' ho'
          refine ⟨by omega, p, ?_, h3.mapId hown hsh hdd⟩
          simp only [π']; rw [if_neg (by omega)]; exact h2
        · obtain ⟨h1, p, h2, h3⟩ := s.hs.obj id o hid
          refine ⟨by omega, p, by simp only [π']; rw [if_pos h1]; exact h2, h3.mono M (fun b hb => E.kept b (s.hs.blk_lt h2 hb) (by simp))⟩
      · intro id id' p p' b h1 h2 h3 h4
        simp only [π'] at h1 h2
        split at h1 <;> split at h2
        · exact s.hs.inj id id' p p' b h1 h2 h3 h4
        · have := s.hs.blk_lt h1 h3; have := hnew _ _ _ h2 h4; omega
        · have := s.hs.blk_lt h2 h4; have := hnew _ _ _ h1 h3; omega
        · have := H.inj _ _ p p' b h1 h2 h3 h4; omega
      · intro id p b h1 h2
        simp only [π'] at h1
        split at h1
        · exact s.hs.sep id p b h1 h2
        · intro h0; have := s.hs.old b h0; have := hnew _ _ _ h1 h2; omega
    refine ⟨v, π', _, _, _, rfl, ⟨M, HS, ?_⟩, hrel.mapId hown hsh hdd, hk⟩
    refine ⟨E.os.trans s.fr.os, E.tape.trans s.fr.tape, E.output.trans s.fr.output, Nat.le_trans s.fr.size E.size, fun b hb hp => ?_, fun id p b h1 h2 => ?_⟩
    · exact (E.kept b (Nat.lt_of_lt_of_le hb s.fr.size) (by simp)).trans (s.fr.kept b hb hp)
    · simp only [π'] at h1
      split at h1
      · exact s.fr.blk id p b h1 h2
      · exact .inl (Nat.le_trans s.fr.size (hnew _ _ _ h1 h2))

end
end Go.Proofs.Ytpfbkblgefddlaa.Av
