/- Rows that become what a cell owns, and back: the world stays, the way of telling it changes. -/
import Derived.Test.YtpfbkblgefddlaaAvLoop
namespace Go.Proofs.Ytpfbkblgefddlaa.Av
set_option linter.unusedSimpArgs false
set_option linter.unusedVariables false
open Go

/-- free, or rows of its own -/
def AV.sealed : AV → Bool
  | .own _ _ => true
  | v => v.free

/-- the same world, told otherwise -/
inductive Turn : Heap → Nat → Heap → Nat → Prop where
  | refl (h : Heap) (n : Nat) : Turn h n h n
  | fold {h h2 : Heap} {n n2 : Nat} (k m i j z y : Nat) (rows row rs) (ho : h k = some (.arx z rows)) (hm : h m = some (.arr y rs)) (hk : m ≠ k) (hr : rows[i]? = some row) (len : Nat) (hl : rs.length = len) (hc : row[j]? = some (.ref m 0 len))
      (t : Turn ((h.del m).set k (.arx z (rows.set i (row.set j (.own y rs))))) n h2 n2) : Turn h n h2 n2
  | nil {h h2 : Heap} {n n2 : Nat} (k i j z y : Nat) (rows row) (ho : h k = some (.arx z rows)) (hr : rows[i]? = some row) (hc : row[j]? = some .snil)
      (t : Turn (h.set k (.arx z (rows.set i (row.set j (.own y []))))) n h2 n2) : Turn h n h2 n2
  | lax {h h2 : Heap} {n n2 : Nat} (k z : Nat) (rows) (ho : h k = some (.arr z rows) ∨ h k = some (.nst z rows)) (t : Turn (h.set k (.arx z rows)) n h2 n2) : Turn h n h2 n2
  | clos {h h2 : Heap} {n n2 : Nat} (k z : Nat) (rows) (ho : h k = some (.arx z rows)) (hs : ∀ row ∈ rows, ∀ c ∈ row, c.sealed = true) (t : Turn (h.set k (.nst z rows)) n h2 n2) : Turn h n h2 n2
  | unfold {h h2 : Heap} {n n2 : Nat} (k i j z y : Nat) (rows row rs) (ho : h k = some (.arx z rows)) (hr : rows[i]? = some row) (hc : row[j]? = some (.own y rs)) (len : Nat) (hl : rs.length = len)
      (t : Turn ((h.set k (.arx z (rows.set i (row.set j (.ref n 0 len))))).set n (.arr y rs)) (n + 1) h2 n2) : Turn h n h2 n2

section
variable {P : Program} {w0 : World} {pass own0 : Nat → Prop} {π π' : Pl} {e : Env} {h h2 : Heap} {n n' n2 : Nat} {a : Act} {w : World}

theorem NstAt.swap (m : Mono own0 π π' n n' w w) {k i j : Nat} {p : Place} {z : Nat} {rows : List (List AV)} {row : List AV} {x x' : AV} (h : NstAt w (ownOf own0 π) π n k p z rows)
    (hh : ∀ b i' j', (i', j') ≠ (i, j) → π.hid b = some (k, i', j') → π'.hid b = some (k, i', j')) (hr : rows[i]? = some row) (hc : row[j]? = some x)
    (hx : ∀ b cur e u, p.blk = some b → w.heap[b]? = some (.cells cur e (0, 0)) → cur[i * z + j]? = some u → CellAt w (ownOf own0 π) π n k i j x u → CellAt w (ownOf own0 π') π' n' k i j x' u) :
    NstAt w (ownOf own0 π') π' n' k p z (rows.set i (row.set j x')) := by
  obtain ⟨h0, h1, h2⟩ := h
  have hil := (List.getElem?_eq_some_iff.1 hr).1
  have hjl := (List.getElem?_eq_some_iff.1 hc).1
  refine ⟨h0, fun i' row' hr' => ?_, ?_⟩
  · rw [List.getElem?_set] at hr'
    by_cases hi : i = i'
    · subst hi
      rw [if_pos rfl, if_pos hil] at hr'
      cases hr'; simpa using h1 i row hr
    · rw [if_neg hi] at hr'
      exact h1 i' row' hr'
  · cases hb : p.blk with
    | none => simp only [hb] at h2; subst h2; simp at hil
    | some b =>
      simp only [hb] at h2
      obtain ⟨cur, e, g1, g2, g3, g4, g5⟩ := h2
      refine ⟨cur, e, g1, g2, by simpa using g3, g4, fun i' j' row' x0 u a1 a2 a3 => ?_⟩
      have old : ∀ i' j' row' x0, (i', j') ≠ (i, j) → rows[i']? = some row' → row'[j']? = some x0 → cur[i' * z + j']? = some u → CellAt w (ownOf own0 π') π' n' k i' j' x0 u :=
        fun i' j' row' x0 hne a1 a2 a3 => (g5 i' j' row' x0 u a1 a2 a3).mono m fun b hb => ⟨rfl, hh b i' j' hne hb⟩
      rw [List.getElem?_set] at a1
      by_cases hi : i = i'
      · subst hi
        rw [if_pos rfl, if_pos hil] at a1
        cases a1
        rw [List.getElem?_set] at a2
        by_cases hj : j = j'
        · subst hj
          rw [if_pos rfl, if_pos hjl] at a2
          cases a2
          exact hx b cur e u hb g1 a3 (g5 i j row x u hr hc a3)
        · rw [if_neg hj] at a2
          exact old i j' row x0 (by simp; omega) hr a2 a3
      · rw [if_neg hi] at a1
        exact old i' j' row' x0 (by simp; omega) a1 a2 a3

def plFold (π : Pl) (k m i j : Nat) : Pl where
  at' id := if id = m then none else π id
  hid b := if (π m).bind Place.blk = some b then some (k, i, j) else π.hid b
theorem plFold_at (π : Pl) (k m i j id : Nat) : plFold π k m i j id = if id = m then none else π id := rfl
theorem plFold_hid (π : Pl) (k m i j b : Nat) : (plFold π k m i j).hid b = if (π m).bind Place.blk = some b then some (k, i, j) else π.hid b := rfl

def plUn (π : Pl) (n : Nat) (p : Place) : Pl where
  at' id := if id = n then some p else π id
  hid b := if p.blk = some b then none else π.hid b
theorem plUn_at (π : Pl) (n : Nat) (p : Place) (id : Nat) : plUn π n p id = if id = n then some p else π id := rfl
theorem plUn_hid (π : Pl) (n : Nat) (p : Place) (b : Nat) : (plUn π n p).hid b = if p.blk = some b then none else π.hid b := rfl

theorem go_self (hs : HSim own0 π h n w) (fr : Fr w0 pass π w) {k : Nat} {o o' : AObj} (ho : h k = some o) (hx : ∀ p, π k = some p → ObjAt w (ownOf own0 π) π n k p o → ObjAt w (ownOf own0 π) π n k p o') :
    Go1 w0 pass own0 π n w π (h.set k o') n w := by
  refine ⟨.refl fun _ _ hp => (hs.lt hp).1, ⟨fun id hid => ?_, fun id o1 hid => ?_, hs.inj, hs.sep, hs.old, hs.hid⟩, fr⟩
  · unfold Heap.set at hid
    split at hid
    · cases hid
    · exact hs.dom id hid
  · unfold Heap.set at hid
    split at hid
    · rename_i he; subst he; cases hid
      obtain ⟨g1, p, g2, g3⟩ := hs.obj _ _ ho
      exact ⟨g1, p, g2, hx p g2 g3⟩
    · exact hs.obj id o1 hid

theorem go_fold (hs : HSim own0 π h n w) (fr : Fr w0 pass π w) {k m i j z y : Nat} {rows rs : List (List AV)} {row : List AV} (ho : h k = some (.arx z rows)) (hm : h m = some (.arr y rs)) (hk : m ≠ k)
    (hr : rows[i]? = some row) (hc : row[j]? = some (.ref m 0 rs.length)) :
    Go1 w0 pass own0 π n w (plFold π k m i j) ((h.del m).set k (.arx z (rows.set i (row.set j (.own y rs))))) n w := by
  obtain ⟨gm, q, hq, hqo⟩ := hs.obj m _ hm
  obtain ⟨gk, p, hp, hpo⟩ := hs.obj k _ ho
  have hid0 : ∀ b v, π.hid b = some v → (plFold π k m i j).hid b = some v := by
    intro b v hb
    rw [plFold_hid, if_neg, hb]
    rw [hq]
    exact (hs.hid b v hb).2.2.2 m q hq
  have hidb : ∀ b, q.blk = some b → (plFold π k m i j).hid b = some (k, i, j) := by
    intro b hb
    rw [plFold_hid, if_pos]
    rw [hq]; exact hb
  have hidc : ∀ b v, (plFold π k m i j).hid b = some v → (q.blk = some b ∧ v = (k, i, j)) ∨ π.hid b = some v := by
    intro b v hb
    rw [plFold_hid] at hb
    split at hb
    · rename_i h1
      rw [hq] at h1
      cases hb; exact .inl ⟨h1, rfl⟩
    · exact .inr hb
  have hat : ∀ id r, plFold π k m i j id = some r → id ≠ m ∧ π id = some r := by
    intro id r h1
    rw [plFold_at] at h1
    split at h1
    · cases h1
    · rename_i hne; exact ⟨hne, h1⟩
  have mono : Mono own0 π (plFold π k m i j) n n w w := by
    refine ⟨Nat.le_refl _, fun b hb hno => ⟨rfl, ?_⟩, fun id r h1 => ⟨?_, (hs.lt h1).1⟩, fun id h1 _ => ?_, Nat.le_refl _, rfl, rfl, rfl⟩
    · rintro ((h1 | h1) | ⟨id, r, h1, h2⟩)
      · exact hno (.inl (.inl h1))
      · obtain ⟨v, hv⟩ := Option.isSome_iff_exists.1 h1
        rcases hidc b v hv with ⟨h3, _⟩ | h3
        · exact hno (.inr ⟨m, q, hq, h3⟩)
        · exact hno (.inl (.inr (by rw [h3]; rfl)))
      · exact hno (.inr ⟨id, r, (hat id r h1).2, h2⟩)
    · rw [plFold_at]
      split
      · exact .inr rfl
      · exact .inl h1
    · rw [plFold_at]
      split
      · rfl
      · exact h1
  refine ⟨mono, ⟨fun id hid => ?_, fun id o1 hid => ?_, fun id id' r r' b h1 h2 => hs.inj id id' r r' b (hat _ _ h1).2 (hat _ _ h2).2, fun id r b h1 => hs.sep id r b (hat _ _ h1).2, hs.old, fun b v hb => ?_⟩,
    ⟨fr.os, fr.tape, fr.output, fr.size, fr.kept, fun id r b h1 => fr.blk id r b (hat _ _ h1).2, fun b v hb => ?_⟩⟩
  · unfold Heap.set at hid
    split at hid
    · cases hid
    · unfold Heap.del at hid
      rw [plFold_at]
      split
      · rfl
      · rename_i hne; rw [if_neg hne] at hid; exact hs.dom id hid
  · unfold Heap.set at hid
    split at hid
    · rename_i he; subst he; cases hid
      refine ⟨gk, p, by rw [plFold_at, if_neg (Ne.symm hk)]; exact hp, ?_⟩
      refine NstAt.swap mono hpo (fun b i' j' _ hb => hid0 b _ hb) hr hc (fun _ _ _ u _ _ _ hu => ?_)
      have hu : Rel w (ownOf own0 π) π n (.ref m 0 rs.length) u := hu
      show OwnAt _ _ _ _ _ _ _ _ _ _
      generalize hl : rs.length = len at hu
      cases hu with
      | refLive _ _ _ b cap p' hp' hb h1 h2 =>
        rw [hq] at hp'; cases hp'
        refine .inr ⟨q, b, cap, hb, hidb b hb, by rw [Nat.zero_mul, hl], by omega, by omega, ?_⟩
        exact ArrAt.mono mono hqo (fun _ _ => rfl)
      | refEnd => exact .inl ⟨List.length_eq_zero_iff.1 hl, _, rfl⟩
      | refNil => exact .inl ⟨List.length_eq_zero_iff.1 hl, _, rfl⟩
      | refDead _ _ _ _ _ hd _ => rw [hq] at hd; cases hd
    · rename_i hne
      unfold Heap.del at hid
      split at hid
      · cases hid
      · rename_i hne2
        obtain ⟨g1, r, g2, g3⟩ := hs.obj id o1 hid
        exact ⟨g1, r, by rw [plFold_at, if_neg hne2]; exact g2, g3.mono mono (fun _ _ => rfl) (fun b i' j' hb => ⟨rfl, hid0 b _ hb⟩)⟩
  · rcases hidc b v hb with ⟨h3, rfl⟩ | h3
    · refine ⟨hs.sep m q b hq h3, hs.blk_lt hq h3, gk, fun id r h1 h2 => ?_⟩
      exact (hat _ _ h1).1 (hs.inj id m r q b (hat _ _ h1).2 hq h2 h3)
    · obtain ⟨g1, g2, g3, g4⟩ := hs.hid b v h3
      exact ⟨g1, g2, g3, fun id r h1 => g4 id r (hat _ _ h1).2⟩
  · rcases hidc b v hb with ⟨h3, _⟩ | h3
    · exact fr.blk m q b hq h3
    · exact fr.hid b v h3

theorem go_unfold (hs : HSim own0 π h n w) (fr : Fr w0 pass π w) {k i j z y : Nat} {rows rs : List (List AV)} {row : List AV} (ho : h k = some (.arx z rows))
    (hr : rows[i]? = some row) (hc : row[j]? = some (.own y rs)) :
    ∃ π', Go1 w0 pass own0 π n w π' ((h.set k (.arx z (rows.set i (row.set j (.ref n 0 rs.length))))).set n (.arr y rs)) (n + 1) w := by
  obtain ⟨gk, p, hp, hpo⟩ := hs.obj k _ ho
  obtain ⟨bp, u0, hbp, hcell0, hu0⟩ := nst_at hpo hr hc
  have hu0 : OwnAt w (ownOf own0 π) π n k i j y rs u0 := hu0
  obtain ⟨q, hq1, hq2, hq3⟩ : ∃ q : Place, (∀ π' : Pl, Mono own0 π π' n (n + 1) w w → ArrAt w (ownOf own0 π') π' (n + 1) q y rs) ∧
      (∀ b, q.blk = some b → π.hid b = some (k, i, j)) ∧ ∀ π' : Pl, π' n = some q → Rel w (ownOf own0 π') π' (n + 1) (.ref n 0 rs.length) u0 := by
    rcases hu0 with ⟨rfl, ad, rfl⟩ | ⟨q, b, cap, h1, h2, rfl, h4, h5, h6⟩
    · refine ⟨⟨none, y, 0⟩, fun π' m => ⟨rfl, fun i row h => by simp at h, rfl⟩, (fun b hb => by cases hb), fun π' hq => ?_⟩
      exact .refNil n _ ⟨none, y, 0⟩ hq rfl
    · refine ⟨q, fun π' m => h6.mono m (fun _ _ => rfl), fun b' hb' => by rw [h1] at hb'; cases hb'; exact h2, fun π' hq => ?_⟩
      have := Rel.refLive (w := w) (own := ownOf own0 π') (N := n + 1) n 0 rs.length b cap q hq h1 h4 (by omega)
      rwa [Nat.zero_mul] at this
  have hidc : ∀ b v, (plUn π n q).hid b = some v → q.blk ≠ some b ∧ π.hid b = some v := by
    intro b v hb
    rw [plUn_hid] at hb
    split at hb
    · cases hb
    · rename_i h1; exact ⟨h1, hb⟩
  have hid0 : ∀ b v, v ≠ (k, i, j) → π.hid b = some v → (plUn π n q).hid b = some v := by
    intro b v hv hb
    rw [plUn_hid, if_neg, hb]
    intro h1
    have := hq2 b h1
    rw [hb] at this; cases this; exact hv rfl
  have hat : ∀ id r, plUn π n q id = some r → (id = n ∧ r = q) ∨ (id ≠ n ∧ π id = some r) := by
    intro id r h1
    rw [plUn_at] at h1
    split at h1
    · rename_i he; cases h1; exact .inl ⟨he, rfl⟩
    · rename_i he; exact .inr ⟨he, h1⟩
  have hlt : ∀ id r, π id = some r → id ≠ n := fun id r h1 => Nat.ne_of_lt (hs.lt h1).1
  have mono : Mono own0 π (plUn π n q) n (n + 1) w w := by
    refine ⟨Nat.le_refl _, fun b hb hno => ⟨rfl, ?_⟩, fun id r h1 => ⟨?_, (hs.lt h1).1⟩, fun id h1 hl => ?_, Nat.le_succ _, rfl, rfl, rfl⟩
    · rintro ((h1 | h1) | ⟨id, r, h1, h2⟩)
      · exact hno (.inl (.inl h1))
      · obtain ⟨v, hv⟩ := Option.isSome_iff_exists.1 h1
        exact hno (.inl (.inr (by rw [(hidc b v hv).2]; rfl)))
      · rcases hat id r h1 with ⟨_, rfl⟩ | ⟨_, h3⟩
        · exact hno (.inl (.inr (by rw [hq2 b h2]; rfl)))
        · exact hno (.inr ⟨id, r, h3, h2⟩)
    · rw [plUn_at, if_neg (hlt id r h1)]
      exact .inl h1
    · rw [plUn_at, if_neg (by omega)]
      exact h1
  have hkn : k ≠ n := Nat.ne_of_lt gk
  refine ⟨plUn π n q, mono, ⟨fun id hid => ?_, fun id o1 hid => ?_, fun id id' r r' b h1 h2 h3 h4 => ?_, fun id r b h1 h2 => ?_, hs.old, fun b v hb => ?_⟩,
    ⟨fr.os, fr.tape, fr.output, fr.size, fr.kept, fun id r b h1 h2 => ?_, fun b v hb => fr.hid b v (hidc b v hb).2⟩⟩
  · unfold Heap.set at hid
    split at hid
    · cases hid
    · rename_i hne
      split at hid
      · cases hid
      · rw [plUn_at, if_neg hne]; exact hs.dom id hid
  · unfold Heap.set at hid
    split at hid
    · rename_i he; subst he; cases hid
      exact ⟨Nat.lt_succ_self _, q, by rw [plUn_at, if_pos rfl], hq1 _ mono⟩
    · rename_i hne
      split at hid
      · rename_i he; subst he; cases hid
        refine ⟨Nat.lt_succ_of_lt gk, p, by rw [plUn_at, if_neg hkn]; exact hp, ?_⟩
        refine NstAt.swap mono hpo (fun b i' j' hne' hb => hid0 b _ (by intro hh; cases hh; exact hne' rfl) hb) hr hc (fun b cur e u h1 h2 h3 _ => ?_)
        rw [hbp] at h1; cases h1
        rw [hpo.1, cell_of_row w bp _ cur e (0, 0) h2, h3] at hcell0
        cases hcell0
        exact hq3 _ (by rw [plUn_at, if_pos rfl])
      · rename_i hne2
        obtain ⟨g1, r, g2, g3⟩ := hs.obj id o1 hid
        exact ⟨Nat.lt_succ_of_lt g1, r, by rw [plUn_at, if_neg hne]; exact g2, g3.mono mono (fun _ _ => rfl) (fun b i' j' hb => ⟨rfl, hid0 b _ (by intro hh; cases hh; exact hne2 rfl) hb⟩)⟩
  · rcases hat id r h1 with ⟨rfl, rfl⟩ | ⟨g1, g2⟩
    · rcases hat id' r' h2 with ⟨rfl, rfl⟩ | ⟨g3, g4⟩
      · rfl
      · exact absurd h4 ((hs.hid b _ (hq2 b h3)).2.2.2 id' r' g4)
    · rcases hat id' r' h2 with ⟨rfl, rfl⟩ | ⟨g3, g4⟩
      · exact absurd h3 ((hs.hid b _ (hq2 b h4)).2.2.2 id r g2)
      · exact hs.inj id id' r r' b g2 g4 h3 h4
  · rcases hat id r h1 with ⟨rfl, rfl⟩ | ⟨g1, g2⟩
    · exact (hs.hid b _ (hq2 b h2)).1
    · exact hs.sep id r b g2 h2
  · obtain ⟨h1, h2⟩ := hidc b v hb
    obtain ⟨g1, g2, g3, g4⟩ := hs.hid b v h2
    refine ⟨g1, g2, Nat.lt_succ_of_lt g3, fun id r h5 => ?_⟩
    rcases hat id r h5 with ⟨rfl, rfl⟩ | ⟨g5, g6⟩
    · exact h1
    · exact g4 id r g6
  · rcases hat id r h1 with ⟨rfl, rfl⟩ | ⟨g1, g2⟩
    · exact fr.hid b _ (hq2 b h2)
    · exact fr.blk id r b g2 h2


theorem sealed_seal (hs : HSim own0 π h n w) {k z : Nat} {rows : List (List AV)} {p : Place} (ho : NstAt w (ownOf own0 π) π n k p z rows) (hc : ∀ row ∈ rows, ∀ c ∈ row, c.sealed = true) :
    ∀ (i : Nat) row, rows[i]? = some row → ∀ x ∈ row, x.sld := by
  intro i row hr x hx
  have h1 := hc row (List.mem_of_getElem? hr) x hx
  by_cases hl : x.lone = true
  · cases x <;> simp_all [AV.sld, AV.sealed, AV.lone]
  · cases x <;> simp [AV.lone] at hl
    rename_i y rs
    obtain ⟨j, hj⟩ := List.getElem?_of_mem hx
    obtain ⟨b, u, _, _, hu⟩ := nst_at ho hr hj
    rcases (show OwnAt _ _ _ _ _ _ _ _ _ _ from hu) with ⟨rfl, _⟩ | ⟨_, _, _, _, _, _, _, _, h2⟩
    · simp [AV.sld]
    · intro r hr
      obtain ⟨t, ht⟩ := List.getElem?_of_mem hr
      exact h2.2.1 t r ht

theorem arr_nst {own : Nat → Prop} {k z : Nat} {rows : List (List AV)} {p : Place} (ho : ArrAt w own π n p z rows) : NstAt w own π n k p z rows := by
  obtain ⟨h0, h1, h2⟩ := ho
  refine ⟨h0, fun i row hr => (h1 i row hr).1, ?_⟩
  cases hb : p.blk with
  | none => simpa only [hb] using h2
  | some b =>
    simp only [hb] at h2
    obtain ⟨cur, e, g1, g2, g3, g4, g5⟩ := h2
    refine ⟨cur, e, g1, g2, g3, g4, fun i j row x u a1 a2 a3 => ?_⟩
    have hf := (h1 i row a1).2 x (List.mem_of_getElem? a2)
    exact (cellAt_lone (by cases x <;> simp_all [AV.lone, AV.free])).2 (g5 i j row x u a1 a2 a3)

theorem turn_sim {A : Anch} (t : Turn h n h2 n2) : ∀ {π : Pl}, A.at π n → Sim w0 pass own0 π e h n a w → ∃ π', A.at π' n2 ∧ Sim w0 pass own0 π' e h2 n2 a w := by
  have step : ∀ {π π' : Pl} {h h1 : Heap} {n n1 : Nat}, Go1 w0 pass own0 π n w π' h1 n1 w → A.at π n → Sim w0 pass own0 π e h n a w → A.at π' n1 ∧ Sim w0 pass own0 π' e h1 n1 a w :=
    fun g hA s => ⟨Anch.at_mono hA g.mono, ⟨g.hs, g.fr, fun t => (s.env t).mono g.mono⟩⟩
  induction t with
  | refl h n => exact fun hA s => ⟨_, hA, s⟩
  | fold k m i j z y rows row rs ho hm hk hr len hl hc t ih =>
    intro π hA s
    subst hl
    obtain ⟨hA, s⟩ := step (go_fold s.hs s.fr ho hm hk hr hc) hA s
    exact ih hA s
  | nil k i j z y rows row ho hr hc t ih =>
    intro π hA s
    obtain ⟨hA, s⟩ := step (go_self s.hs s.fr (o' := .arx z (rows.set i (row.set j (.own y [])))) ho fun p hp hpo => NstAt.swap (x' := .own y []) (.refl fun _ _ hp => (s.hs.lt hp).1) hpo (fun b i' j' _ hb => hb) hr hc (fun _ _ _ u _ _ _ hu => by
      have hu : Rel w (ownOf own0 π) π _ .snil u := hu
      cases hu with
      | snil ad => exact .inl ⟨rfl, ad, rfl⟩)) hA s
    exact ih hA s
  | lax k z rows ho t ih =>
    intro π hA s
    rcases ho with ho | ho
    · obtain ⟨hA, s⟩ := step (go_self s.hs s.fr (o' := .arx z rows) ho fun p hp hpo => arr_nst hpo) hA s
      exact ih hA s
    · obtain ⟨hA, s⟩ := step (go_self s.hs s.fr (o' := .arx z rows) ho fun p hp hpo => hpo.1) hA s
      exact ih hA s
  | clos k z rows ho hs t ih =>
    intro π hA s
    obtain ⟨hA, s⟩ := step (go_self s.hs s.fr (o' := .nst z rows) ho fun p hp hpo => ⟨hpo, sealed_seal s.hs hpo hs⟩) hA s
    exact ih hA s
  | unfold k i j z y rows row rs ho hr hc len hl t ih =>
    intro π hA s
    subst hl
    obtain ⟨π', g⟩ := go_unfold s.hs s.fr ho hr hc
    obtain ⟨hA, s⟩ := step g hA s
    exact ih hA s

theorem St.turn {N : Nat} {A : Anch} (t : Turn h n h2 n2) (st : St w0 pass own0 A N e h n a w) : St w0 pass own0 A N e h2 n2 a w := by
  obtain ⟨h1, h3, π, hA, s⟩ := st
  exact ⟨h1, h3, turn_sim t hA s⟩

theorem Turn.trans {h h1 h2 : Heap} {n n1 n2 : Nat} (t : Turn h n h1 n1) (t2 : Turn h1 n1 h2 n2) : Turn h n h2 n2 := by
  induction t with
  | refl => exact t2
  | fold k m i j z y rows row rs ho hm hk hr len hl hc t ih => exact .fold k m i j z y rows row rs ho hm hk hr len hl hc (ih t2)
  | nil k i j z y rows row ho hr hc t ih => exact .nil k i j z y rows row ho hr hc (ih t2)
  | lax k z rows ho t ih => exact .lax k z rows ho (ih t2)
  | clos k z rows ho hs t ih => exact .clos k z rows ho hs (ih t2)
  | unfold k i j z y rows row rs ho hr hc len hl t ih => exact .unfold k i j z y rows row rs ho hr hc len hl (ih t2)

end

section
variable {P : Program} {N k : Nat} {K : XK} {e : Env} {h h2 : Heap} {n n2 : Nat}

/-- ahead of a statement -/
theorem Aw.turn {ic : ICode} (t : Turn h n h2 n2) (hw : Aw P N k ic K e h2 n2) : Aw P N k ic K e h n :=
  fun c hc w0 pass own0 A hA a w st => hw c hc w0 pass own0 A hA a w (st.turn t)

def TurnK (K : XK) : XK := fun x e h n => ∃ h2 n2, Turn h n h2 n2 ∧ K x e h2 n2

/-- at its end -/
theorem Aw.unturn {ic : ICode} (hw : Aw P N k ic (TurnK K) e h n) : Aw P N k ic K e h n := by
  intro c hc w0 pass own0 A hA a w st
  refine wp_mono (hw c hc w0 pass own0 A hA a w st) ?_
  rintro x a' w' ⟨e', h', n', ⟨h2, n2, t, hk⟩, st'⟩
  exact ⟨e', h2, n2, hk, st'.turn t⟩


theorem Lp.turn {x : ICode} (t : Turn h n h2 n2) (hl : Lp P N k x K e h2 n2) : Lp P N k x K e h n := ⟨Aw.turn t hl.1⟩

/-- a loop; each round may begin and end with the world told otherwise -/
theorem Lp.introT {α : Type} (inv : α → Prop) (m : α → Nat) (L : α → List (Nat × AV)) (O : α → List (Option AObj)) {x : ICode} (h0 : ∃ a, inv a ∧ ∃ σ, CovN σ e h (L a) (O a) k)
    (round : ∀ a, inv a → Aw P N k x (thenK (fun e' h' n' => ∃ h2 n2, Turn h' n' h2 n2 ∧ ∃ a', inv a' ∧ m a' < m a ∧ ∃ σ, CovN σ e' h2 (L a') (O a') k) K) (envL (L a)) (objsO (O a)) (O a).length) : Lp P N k x K e h n := by
  refine Lp.intro inv m L O h0 fun a ha => Aw.unturn (Aw.mono ?_ (round a ha))
  intro x e h n hk
  cases x <;> simp only [thenK] at hk ⊢ <;> first | exact ⟨h, n, .refl h n, hk⟩ | exact hk

end
end Go.Proofs.Ytpfbkblgefddlaa.Av
