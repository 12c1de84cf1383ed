/- Each operation, but calls, second part: make, slice, len, append, and the rest. -/
import Derived.Test.YtpfbkblgefddlaaAvOps
namespace Go.Proofs.Ytpfbkblgefddlaa.Av
set_option linter.unusedSimpArgs false
set_option linter.unusedVariables false
open Go

section
variable {P : Program} {w0 : World} {pass own0 : Nat → Prop} {π : Pl} {e : Env} {h : Heap} {n : Nat} {a : Act} {w : World}

theorem snd_mks (s : Sim w0 pass own0 π e h n a w) {t el : TypeId} {z b : Nat} {zero : List AV} (ht : cElem P t = some el) (hz : cSize P el = some z) (hb : cBytes P el = some b) (hzero : cZero P el = some zero) (hzl : zero.length = z) (hz0 : 0 < z)
    (hfree : ∀ c ∈ zero, c.free = true)
    {x y : AV} {u v : Value} (hx : Rel w (ownOf own0 π) π n x u) (hy : Rel w (ownOf own0 π) π n y v) {K : Kont} (hk : sem (.mks z b zero) [x, y] h n K) : Done P w0 pass own0 π n w (Instr.makeSlice t u v) K := by
  cases x <;> cases y <;> simp only [sem] at hk <;> first | exact hk.elim | skip
  rename_i k1 l k2 c
  obtain ⟨h0, hlc, hbytes, hcm, hk⟩ := hk
  cases hx; cases hy
  obtain ⟨inf, zv, hi, hzv, hcv⟩ := cZero_spec hzero
  have hz' : inf.size = z := by simpa [cSize, hi] using hz
  have hb' : inf.bytes = b := by simpa [cBytes, hi] using hb
  subst hz'; subst hb'
  have hr := run_make (P := P) w t el inf zv (cElem_eq ht) hi hzv k1 k2 l c h0 hlc (by omega) (by omega)
  have A := adds_new s.hs (.cells (madeCells zv.cells (c.toNat * inf.size)) el) w (.inl rfl) inf.size c.toNat
  obtain ⟨g1, g2⟩ := rel_zero (w := w) (own := ownOf own0 π) (π := π) (n := n) hcv
  refine ⟨_, _, _, _, _, _, hr, A.go s.fr (o := .arr inf.size (List.replicate l.toNat zero)) ?_, ref_own _ _ _ _ _ _ _ _ rfl _ (by omega) (Nat.le_refl _), by rw [hpAdd_none]; exact hk⟩
  refine objAt_arr (heap_alloc_new _ _) (size_madeCells _ _) (by simp; omega) (by simp only [maxLen]; omega) ?_ ?_
  · intro i row hr
    rw [List.getElem?_replicate] at hr
    split at hr
    · cases hr; exact ⟨hzl, hfree⟩
    · cases hr
  · intro i j row x u hr hx hu
    rw [List.getElem?_replicate] at hr
    split at hr
    · cases hr
      refine Rel.mono A.mono (g2 j x u hx ?_)
      have hj : j < inf.size := by rw [← hzl]; exact (List.getElem?_eq_some_iff.1 hx).1
      have hsz : zv.cells.size = inf.size := by rw [g1, hzl]
      unfold madeCells at hu
      simp only [Array.getElem?_map, Option.map_eq_some_iff] at hu
      obtain ⟨q, hq, rfl⟩ := hu
      obtain ⟨hq1, hq2⟩ := Array.getElem?_eq_some_iff.1 hq
      simp at hq2
      subst hq2
      rw [hsz, Nat.add_comm, Nat.add_mul_mod_self_right, Nat.mod_eq_of_lt hj]
      rw [getElem!_pos zv.cells j (by omega)]
      exact Array.getElem?_eq_getElem (by omega)
    · cases hr


/-! ### cuts -/

def optVals (lo hi : Option Operand) (a : Act) : Option Value × Option Value := (lo.map a.eval, hi.map a.eval)

theorem run_bounds (isS : Bool) (len cap : Nat) (lo hi : Option Value) (x y : Int) (hx : lo = none ∧ x = 0 ∨ ∃ k, lo = some (.int k x)) (hy : hi = none ∧ y = len ∨ ∃ k, hi = some (.int k y))
    (h0 : 0 ≤ x) (h1 : x ≤ y) (h2 : y ≤ cap) : (Instr.sliceBounds isS len cap lo hi none).run P w = .ok (x.toNat, y.toNat, cap) w := by
  have B : ∀ (k : IntKind) (i : Int) (m : Nat) (code : BoundsCode), 0 ≤ i → i ≤ m → (Instr.sliceBound (.int k i) m code).run P w = .ok i.toNat w := by
    intro k i m code h0 h1; simp [Instr.sliceBound, asIntOf, h0, h1]
  have hy0 : 0 ≤ y := by omega
  have hyn : x ≤ (y.toNat : Int) := by omega
  rcases hx with ⟨rfl, rfl⟩ | ⟨k, rfl⟩ <;> rcases hy with ⟨rfl, rfl⟩ | ⟨k', rfl⟩
  · simp [Instr.sliceBounds]
  · simp [Instr.sliceBounds, B _ _ _ _ hy0 h2]
  · simp at hyn; simp [Instr.sliceBounds, B _ _ _ _ h0 h1]
  · simp [Instr.sliceBounds, B _ _ _ _ hy0 h2, B _ _ _ _ h0 hyn]

theorem int_of_rel {own : Nat → Prop} {z : AV} {v : Value} (hr : Rel w own π n z v) {k : IntKind} {x : Int} (hz : z = .int k x) : v = .int k x := by
  subst hz; cases hr; rfl

/-- the bounds of a cut -/
theorem opt_bounds (s : Sim w0 pass own0 π e h n a w) {lo hi : Option Operand} {l : List Opd} (hc : cOpds (oList lo ++ oList hi) = some l) {len : Nat} {x y : Int} (ho : optArgs lo.isSome hi.isSome (l.map (Opd.ev e)) len = some (x, y)) :
    (lo.map a.eval = none ∧ x = 0 ∨ ∃ k, lo.map a.eval = some (.int k x)) ∧ (hi.map a.eval = none ∧ y = len ∨ ∃ k, hi.map a.eval = some (.int k y)) := by
  cases lo with
  | none =>
    cases hi with
    | none =>
      simp [oList, cOpds] at hc; subst hc
      simp [optArgs] at ho
      exact ⟨.inl ⟨rfl, ho.1.symm⟩, .inl ⟨rfl, ho.2.symm⟩⟩
    | some q =>
      obtain ⟨z, rfl, hz⟩ := cOpds1 (show cOpds [q] = some l from hc)
      have hr := rel_opd s hz
      simp only [List.map_cons, List.map_nil, Option.isSome_none, Option.isSome_some] at ho
      generalize hE : Opd.ev e z = zz at hr ho
      cases zz <;> simp [optArgs] at ho
      obtain ⟨rfl, rfl⟩ := ho
      exact ⟨.inl ⟨rfl, rfl⟩, .inr ⟨_, by simp [int_of_rel hr rfl]; rfl⟩⟩
  | some p =>
    cases hi with
    | none =>
      obtain ⟨z, rfl, hz⟩ := cOpds1 (show cOpds [p] = some l from hc)
      have hr := rel_opd s hz
      simp only [List.map_cons, List.map_nil, Option.isSome_none, Option.isSome_some] at ho
      generalize hE : Opd.ev e z = zz at hr ho
      cases zz <;> simp [optArgs] at ho
      obtain ⟨rfl, rfl⟩ := ho
      exact ⟨.inr ⟨_, by simp [int_of_rel hr rfl]; rfl⟩, .inl ⟨rfl, rfl⟩⟩
    | some q =>
      obtain ⟨z, z', rfl, hz, hz'⟩ := cOpds2 (show cOpds [p, q] = some l from hc)
      have hr := rel_opd s hz
      have hr' := rel_opd s hz'
      simp only [List.map_cons, List.map_nil, Option.isSome_some] at ho
      generalize hE : Opd.ev e z = zz at hr ho
      generalize hE' : Opd.ev e z' = zz' at hr' ho
      cases zz <;> cases zz' <;> simp [optArgs] at ho
      obtain ⟨rfl, rfl⟩ := ho
      exact ⟨.inr ⟨_, by simp [int_of_rel hr rfl]; rfl⟩, .inr ⟨_, by simp [int_of_rel hr' rfl]; rfl⟩⟩

theorem run_slc {t el : TypeId} {z : Nat} (ht : P.underlying t = some (.slice el)) (hz : cSize P el = some z) (ad : Option Addr) (len cap : Nat) (lo hi : Option Value) (x y : Int)
    (hx : lo = none ∧ x = 0 ∨ ∃ k, lo = some (.int k x)) (hy : hi = none ∧ y = len ∨ ∃ k, hi = some (.int k y)) (h0 : 0 ≤ x) (h1 : x ≤ y) (h2 : y ≤ cap) :
    (Instr.sliceAt t (.slice ad len cap) lo hi none).run P w = .ok (.slice (if cap = x.toNat then ad else ad.map (·.add (x.toNat * z))) (y.toNat - x.toNat) (cap - x.toNat)) w := by
  unfold cSize at hz
  obtain ⟨inf, hi', rfl⟩ := Option.map_eq_some_iff.1 hz
  have hb := run_bounds (P := P) (w := w) true len cap lo hi x y hx hy h0 h1 h2
  simp [Instr.sliceAt, Instr.slice, run_underlying ht, hb, sizeOf, typeInfo, hi']

theorem snd_slc (s : Sim w0 pass own0 π e h n a w) {t el : TypeId} {z : Nat} (ht : P.underlying t = some (.slice el)) (hz : cSize P el = some z) {u : Value} {lo hi : Option Operand} {l : List Opd} {x : AV}
    (hr : Rel w (ownOf own0 π) π n x u) (hc : cOpds (oList lo ++ oList hi) = some l) {K : Kont} (hk : sem (.slc z lo.isSome hi.isSome) (x :: l.map (Opd.ev e)) h n K) :
    Done P w0 pass own0 π n w (Instr.sliceAt t u (lo.map a.eval) (hi.map a.eval) none) K := by
  cases x <;> simp only [sem] at hk <;> first | exact hk.elim | skip
  · rename_i id off len
    split at hk
    · rename_i x y q rows ho hid
      obtain ⟨h0, h1, h2, rfl, hk⟩ := hk
      obtain ⟨bx, b_y⟩ := opt_bounds s hc ho
      obtain ⟨_, p, hp, hq'⟩ := s.hs.obj id _ hid
      obtain ⟨hsz, _, _⟩ := hq'
      have e1 : (y - x).toNat = y.toNat - x.toNat := by omega
      cases hr with
      | refLive _ _ _ b cap p' hp' hb g1 g2 =>
        rw [hp] at hp'; cases hp'
        refine done_same s (run_slc ht hz _ _ _ _ _ x y bx b_y h0 h1 (by omega)) ?_ hk
        rw [e1]
        split
        · rename_i hcap
          have : y.toNat - x.toNat = 0 := by omega
          rw [this, show cap - x.toNat = 0 by omega]
          exact .refEnd _ _ _ _ _ hp hb
        · rw [Option.map_some, Addr.add_lit, hsz, ← Nat.add_mul]
          have := Rel.refLive (w := w) (own := ownOf own0 π) (N := n) id (off + x.toNat) (y.toNat - x.toNat) b (cap - x.toNat) p hp hb (by omega) (by omega)
          rwa [hsz] at this
      | refEnd _ _ o' b p' hp' hb =>
        refine done_same s (run_slc ht hz _ _ _ _ _ x y bx b_y h0 h1 (by omega)) ?_ hk
        have hx0 : x.toNat = 0 := by omega
        have hy0 : y.toNat = 0 := by omega
        simp only [e1, hx0, hy0, if_true, Nat.sub_self]
        exact .refEnd _ _ _ _ _ hp' hb
      | refNil _ ad p' hp' hb =>
        refine done_same s (run_slc ht hz _ _ _ _ _ x y bx b_y h0 h1 (by omega)) ?_ hk
        have hx0 : x.toNat = 0 := by omega
        have hy0 : y.toNat = 0 := by omega
        simp only [e1, hx0, hy0, if_true, Nat.sub_self]
        exact .refNil _ _ _ hp' hb
      | refDead _ _ _ _ _ hd _ => rw [hp] at hd; cases hd
    · exact hk.elim
  · split at hk
    · rename_i x y ho
      obtain ⟨h0, h1, hk⟩ := hk
      subst h0; subst h1
      obtain ⟨bx, b_y⟩ := opt_bounds s hc ho
      cases hr with
      | snil ad => exact done_same s (v := .slice ad 0 0) (by simpa using run_slc (w := w) ht hz ad 0 0 _ _ 0 0 bx b_y (by omega) (by omega) (by omega)) (.snil ad) hk
    · exact hk.elim
  · rename_i rows
    split at hk
    · rename_i x y ho
      obtain ⟨h0, h1, h2, hrl, hk⟩ := hk
      obtain ⟨bx, b_y⟩ := opt_bounds s hc ho
      have e1 : (y - x).toNat = y.toNat - x.toNat := by omega
      rw [e1] at hk
      have hsubl : (sub rows x.toNat (y.toNat - x.toNat)).length = y.toNat - x.toNat := length_sub _ _ _ (by omega)
      cases hr with
      | valNil ad cap =>
        have hx0 : x.toNat = 0 := by simp at h2; omega
        have hy0 : y.toNat = 0 := by simp at h2; omega
        refine done_same s (run_slc ht hz _ _ _ _ _ x y bx b_y h0 h1 (by simp at h2; omega)) ?_ hk
        simp only [hx0, hy0, Nat.sub_self]
        exact .valNil _ _
      | val _ g off cap q us ho' hg hcp hm hs hf hu hh =>
        refine done_same s (run_slc ht hz _ _ _ _ _ x y bx b_y h0 h1 (by omega)) ?_ hk
        by_cases hn0 : y.toNat - x.toNat = 0
        · rw [hn0]
          have : sub rows x.toNat 0 = [] := by simp [sub]
          rw [this]
          exact .valNil _ _
        · have hq : q = z := by
            have hlt : x.toNat < rows.length := by omega
            have := hs x.toNat rows[x.toNat] (List.getElem?_eq_getElem hlt)
            rw [← this]; exact hrl _ (List.getElem_mem hlt)
          subst hq
          rw [if_neg (by omega), Option.map_some, Addr.add_lit]
          have hget : ∀ (i : Nat) row, (sub rows x.toNat (y.toNat - x.toNat))[i]? = some row → rows[x.toNat + i]? = some row := by
            intro i row hr
            rw [getElem?_sub] at hr
            split at hr
            · exact hr
            · cases hr
          have := Rel.val (w := w) (own := ownOf own0 π) (π := π) (N := n) (sub rows x.toNat (y.toNat - x.toNat)) g (off + x.toNat * q) (cap - x.toNat) q (fun i j => us (x.toNat + i) j) ho' hg (by rw [hsubl]; omega) (by rw [hsubl]; omega) (fun i row hr => hs _ row (hget i row hr)) (fun i row c hr hx => hf _ row c (hget i row hr) hx)
            (fun i j row c hr hx => by rw [← hu _ j row c (hget i row hr) hx, Nat.add_mul]; simp only [Nat.add_assoc]) (fun i j row c hr hx => hh _ j row c (hget i row hr) hx)
          rwa [hsubl] at this
    · exact hk.elim

theorem run_slc3 {t el : TypeId} {z : Nat} (ht : P.underlying t = some (.slice el)) (hz : cSize P el = some z) (ad : Option Addr) (len cap : Nat) (k k' : IntKind) (b m : Int)
    (h0 : 0 ≤ b) (h1 : b ≤ m) (h2 : m ≤ cap) :
    (Instr.sliceAt t (.slice ad len cap) none (some (.int k b)) (some (.int k' m))).run P w = .ok (.slice (if m.toNat = 0 then ad else ad.map (·.add (0 * z))) b.toNat m.toNat) w := by
  unfold cSize at hz
  obtain ⟨inf, hi', rfl⟩ := Option.map_eq_some_iff.1 hz
  have B : ∀ (k : IntKind) (i : Int) (q : Nat) (code : BoundsCode), 0 ≤ i → i ≤ q → (Instr.sliceBound (.int k i) q code).run P w = .ok i.toNat w := by
    intro k i q code h0 h1; simp [Instr.sliceBound, asIntOf, h0, h1]
  have hb : (Instr.sliceBounds true len cap none (some (.int k b)) (some (.int k' m))).run P w = .ok (0, b.toNat, m.toNat) w := by
    simp [Instr.sliceBounds, B k' m cap _ (by omega) h2, B k b m.toNat _ h0 (by omega)]
  simp [Instr.sliceAt, Instr.slice, run_underlying ht, hb, sizeOf, typeInfo, hi']

set_option maxHeartbeats 1000000 in
theorem snd_slc3 (s : Sim w0 pass own0 π e h n a w) {t el : TypeId} {z : Nat} (ht : P.underlying t = some (.slice el)) (hz : cSize P el = some z) {u u1 u2 : Value} {x x1 x2 : AV}
    (hr : Rel w (ownOf own0 π) π n x u) (hr1 : Rel w (ownOf own0 π) π n x1 u1) (hr2 : Rel w (ownOf own0 π) π n x2 u2) {K : Kont} (hk : sem (.slc3 z) [x, x1, x2] h n K) :
    Done P w0 pass own0 π n w (Instr.sliceAt t u none (some u1) (some u2)) K := by
  cases x <;> cases x1 <;> cases x2 <;> simp only [sem] at hk <;> first | exact hk.elim | skip
  · rename_i id off len k b k' m
    cases hr1; cases hr2
    obtain ⟨h0, h1, h2, hk⟩ := hk
    split at hk
    · rename_i q rows hid
      obtain ⟨rfl, hk⟩ := hk
      obtain ⟨_, p, hp, hq'⟩ := s.hs.obj id _ hid
      obtain ⟨hsz, _, _⟩ := hq'
      cases hr with
      | refLive _ _ _ b' cap p' hp' hb g1 g2 =>
        rw [hp] at hp'; cases hp'
        refine done_same s (run_slc3 ht hz _ _ _ _ _ b m h0 h1 (by omega)) ?_ hk
        split
        · rename_i hm
          have : b.toNat = 0 := by omega
          rw [this, hm]
          exact .refEnd _ _ _ _ _ hp hb
        · rw [Option.map_some, Addr.add_lit, hsz, Nat.zero_mul, Nat.add_zero]
          have := Rel.refLive (w := w) (own := ownOf own0 π) (N := n) id off b.toNat b' m.toNat p hp hb (by omega) (by omega)
          rwa [hsz] at this
      | refEnd _ _ o' b' p' hp' hb =>
        refine done_same s (run_slc3 ht hz _ _ _ _ _ b m h0 h1 (by omega)) ?_ hk
        have hx0 : b.toNat = 0 := by omega
        have hy0 : m.toNat = 0 := by omega
        simp only [hx0, hy0, if_true]
        exact .refEnd _ _ _ _ _ hp' hb
      | refNil _ ad p' hp' hb =>
        refine done_same s (run_slc3 ht hz _ _ _ _ _ b m h0 h1 (by omega)) ?_ hk
        have hx0 : b.toNat = 0 := by omega
        have hy0 : m.toNat = 0 := by omega
        simp only [hx0, hy0, if_true]
        exact .refNil _ _ _ hp' hb
      | refDead _ _ _ _ _ hd _ => rw [hp] at hd; cases hd
    · exact hk.elim
  · rename_i k b k' m
    cases hr1; cases hr2
    obtain ⟨rfl, rfl, hk⟩ := hk
    cases hr with
    | snil ad =>
      refine done_same s (run_slc3 ht hz _ _ _ _ _ 0 0 (by omega) (by omega) (by omega)) ?_ hk
      simp only [Int.toNat_zero, if_true]
      exact .snil ad
  · rename_i rows k b k' m
    cases hr1; cases hr2
    obtain ⟨h0, h1, h2, hrl, hk⟩ := hk
    have hlen : (rows.take b.toNat).length = b.toNat := by rw [List.length_take]; omega
    have hget : ∀ (i : Nat) row, (rows.take b.toNat)[i]? = some row → rows[i]? = some row := by
      intro i row hr
      rw [List.getElem?_take] at hr
      split at hr
      · exact hr
      · cases hr
    cases hr with
    | valNil ad cap =>
      have hx0 : b.toNat = 0 := by simp at h2; omega
      have hy0 : m.toNat = 0 := by simp at h2; omega
      refine done_same s (run_slc3 ht hz _ _ _ _ _ b m h0 h1 (by simp at h2; omega)) ?_ hk
      simp only [hx0, hy0, if_true, List.take_nil]
      exact .valNil _ _
    | val _ g off cap q us ho' hg hcp hm hs hf hu hh =>
      refine done_same s (run_slc3 ht hz _ _ _ _ _ b m h0 h1 (by omega)) ?_ hk
      by_cases hn0 : b.toNat = 0
      · rw [hn0, List.take_zero]
        exact .valNil _ _
      · rw [if_neg (by omega), Option.map_some, Addr.add_lit, Nat.zero_mul, Nat.add_zero]
        have := Rel.val (w := w) (own := ownOf own0 π) (π := π) (N := n) (rows.take b.toNat) g off m.toNat q us ho' hg (by rw [hlen]; omega) (by rw [hlen]; omega) (fun i row hr => hs _ row (hget i row hr)) (fun i row c hr hx => hf _ row c (hget i row hr) hx)
          (fun i j row c hr hx => hu i j row c (hget i row hr) hx) (fun i j row c hr hx => hh i j row c (hget i row hr) hx)
        rwa [hlen] at this

theorem snd_sls (s : Sim w0 pass own0 π e h n a w) {t : TypeId} (ht : P.underlying t = some .string) {u : Value} {lo hi : Option Operand} {l : List Opd} {x : AV}
    (hr : Rel w (ownOf own0 π) π n x u) (hc : cOpds (oList lo ++ oList hi) = some l) {K : Kont} (hk : sem (.sls lo.isSome hi.isSome) (x :: l.map (Opd.ev e)) h n K) :
    Done P w0 pass own0 π n w (Instr.sliceAt t u (lo.map a.eval) (hi.map a.eval) none) K := by
  cases x <;> simp only [sem] at hk <;> first | exact hk.elim | skip
  rename_i l'
  split at hk
  · rename_i x y ho
    obtain ⟨h0, h1, h2, hk⟩ := hk
    obtain ⟨bx, b_y⟩ := opt_bounds s hc ho
    cases hr
    have hb := run_bounds (P := P) (w := w) false l'.length l'.length _ _ x y bx b_y h0 h1 h2
    refine done_same s (v := .string (ByteArray.extract ⟨l'.toArray⟩ x.toNat y.toNat)) ?_ ?_ hk
    · have hsz : (⟨l'.toArray⟩ : ByteArray).size = l'.length := rfl
      simp [Instr.sliceAt, Instr.slice, run_underlying ht, hsz, hb]
    · have : (ByteArray.extract ⟨l'.toArray⟩ x.toNat y.toNat) = ⟨(sub l' x.toNat (y - x).toNat).toArray⟩ := by
        apply ByteArray.ext
        have e1 : (y - x).toNat = y.toNat - x.toNat := by omega
        simp [sub, e1, List.take_drop]
      rw [this]
      exact .str _
  · exact hk.elim


theorem snd_lens (s : Sim w0 pass own0 π e h n a w) {t : TypeId} (ht : P.underlying t = some .string) (ty : TypeId) {x : AV} {v : Value} (hr : Rel w (ownOf own0 π) π n x v)
    {K : Kont} (hk : sem .lens [x] h n K) : Done P w0 pass own0 π n w (Builtin.len_ #[t] ty #[v]) K := by
  cases x <;> simp only [sem] at hk <;> first | exact hk.elim | skip
  rename_i l
  cases hr
  exact done_same s (run_len_string (P := P) w t ty ⟨l.toArray⟩ ht) (.int _ _) hk

theorem snd_len (s : Sim w0 pass own0 π e h n a w) {t el : TypeId} (hel : P.underlying t = some (.slice el)) (ty : TypeId) {x : AV} {v : Value} (hr : Rel w (ownOf own0 π) π n x v)
    {K : Kont} (hk : sem .len [x] h n K) : Done P w0 pass own0 π n w (Builtin.len_ #[t] ty #[v]) K := by
  have run : ∀ (ad : Option Addr) (len cap : Nat), (Builtin.len_ #[t] ty #[.slice ad len cap]).run P w = .ok (goInt len) w := by
    intro ad len cap
    simp [Builtin.len_, run_underlying hel]
  cases x <;> simp only [sem] at hk <;> first | exact hk.elim | skip
  · rename_i id off len
    cases hr with
    | refLive => exact done_same s (run _ _ _) (.int _ _) hk
    | refEnd => exact done_same s (run _ _ _) (.int _ _) hk
    | refNil => exact done_same s (run _ _ _) (.int _ _) hk
    | refDead => exact done_same s (run _ _ _) (.int _ _) hk
  · cases hr; exact done_same s (run _ _ _) (.int _ _) hk
  · cases hr with
    | valNil => exact done_same s (run _ _ _) (.int _ _) hk
    | val => exact done_same s (run _ _ _) (.int _ _) hk

/-! ### small ones -/

theorem snd_max (s : Sim w0 pass own0 π e h n a w) (tys : Array TypeId) (ty : TypeId) {x y : AV} {u v : Value} (hx : Rel w (ownOf own0 π) π n x u) (hy : Rel w (ownOf own0 π) π n y v)
    {K : Kont} (hk : sem .max [x, y] h n K) : Done P w0 pass own0 π n w (Builtin.max_ tys ty #[u, v]) K := by
  cases x <;> cases y <;> simp only [sem] at hk <;> first | exact hk.elim | skip
  cases hx; cases hy
  exact done_same s (by simp [Builtin.max_, Builtin.max2]) (.int _ _) hk

theorem snd_min (s : Sim w0 pass own0 π e h n a w) (tys : Array TypeId) (ty : TypeId) {x y : AV} {u v : Value} (hx : Rel w (ownOf own0 π) π n x u) (hy : Rel w (ownOf own0 π) π n y v)
    {K : Kont} (hk : sem .min [x, y] h n K) : Done P w0 pass own0 π n w (Builtin.min_ tys ty #[u, v]) K := by
  cases x <;> cases y <;> simp only [sem] at hk <;> first | exact hk.elim | skip
  cases hx; cases hy
  exact done_same s (by simp [Builtin.min_, Builtin.min2]) (.int _ _) hk

theorem snd_ext (s : Sim w0 pass own0 π e h n a w) (i : Nat) {x : AV} {u : Value} (hx : Rel w (ownOf own0 π) π n x u) {K : Kont} (hk : sem (.ext i) [x] h n K) : Done P w0 pass own0 π n w (Instr.extract u i) K := by
  cases x <;> simp only [sem] at hk <;> first | exact hk.elim | skip
  rename_i vs
  cases hc : vs[i]? with
  | none => simp [hc] at hk
  | some c =>
    simp only [hc] at hk
    cases hx with
    | tup _ cs hl hh =>
      have hlt : i < cs.size := by rw [hl]; exact (List.getElem?_eq_some_iff.1 hc).1
      have hu : cs[i]? = some cs[i] := Array.getElem?_eq_getElem hlt
      exact done_same s (v := cs[i]) (by simp [Instr.extract, hlt]) (hh _ _ _ hc hu) hk

end
end Go.Proofs.Ytpfbkblgefddlaa.Av
