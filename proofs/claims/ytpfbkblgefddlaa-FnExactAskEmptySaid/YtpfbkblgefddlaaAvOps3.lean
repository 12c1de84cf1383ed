/- append. -/
import Derived.Test.YtpfbkblgefddlaaAvOps2
namespace Go.Proofs.Ytpfbkblgefddlaa.Av
set_option linter.unusedSimpArgs false
set_option linter.unusedVariables false
open Go

section
variable {P : Program} {w0 : World} {pass own0 : Nat → Prop} {π : Pl} {e : Env} {h : Heap} {n : Nat} {a : Act} {w : World}

theorem run_app_room {t ty el : TypeId} {i : TypeInfo} (ht : P.underlying t = some (.slice el)) (hi : P.info? el = some i) (g sLen sCap : Nat) (cur : Array Value) (e' : TypeId)
    (hg : w.heap[g]? = some (.cells cur e' (0, 0))) (src : Value) (m : Nat) (news : List Value) (hlen : (Builtin.lenOf src).run P w = .ok m w) (hf : (Builtin.firstCells i.size m src).run P w = .ok news.toArray w)
    (h1 : ∀ u ∈ news, u.oneCell' = true) (hroom : sLen + m ≤ sCap) (hfit : sLen * i.size + news.length ≤ cur.size) :
    (Builtin.append_ #[t, t] ty #[.slice (some ⟨g, 0, none⟩) sLen sCap, src]).run P w =
      .ok (.slice (some ⟨g, 0, none⟩) (sLen + m) sCap) (w.setRow g (cur.toList.take (sLen * i.size) ++ news ++ cur.toList.drop (sLen * i.size + news.length)).toArray) := by
  have hst := run_storeCells_at P g (sLen * i.size) e' news 0 cur w hg (by simpa using hfit) h1
  simp only [Nat.add_zero] at hst
  simp [Builtin.append_, run_underlying ht, sizeOf, typeInfo, hi, hlen, hroom, hf, Addr.add_lit, hst]

theorem run_app_nil {t ty el : TypeId} {i : TypeInfo} (ht : P.underlying t = some (.slice el)) (hi : P.info? el = some i) (ad : Option Addr) (src : Value) (hlen : (Builtin.lenOf src).run P w = .ok 0 w)
    (hf : (Builtin.firstCells i.size 0 src).run P w = .ok #[] w) :
    (Builtin.append_ #[t, t] ty #[.slice ad 0 0, src]).run P w = .ok (.slice ad 0 0) w := by
  cases ad <;> simp [Builtin.append_, run_underlying ht, sizeOf, typeInfo, hi, hlen, hf, storeCells]

theorem run_app_grow {t ty el : TypeId} {i : TypeInfo} {z : Value} (ht : P.underlying t = some (.slice el)) (hi : P.info? el = some i) (hz : i.zero = some z)
    (base : Option Addr) (sLen sCap : Nat) (olds : List Value) (hold : (Builtin.firstCells i.size sLen (.slice base sLen sCap)).run P w.drew = .ok olds.toArray w.drew)
    (src : Value) (m : Nat) (news : List Value) (hlen : (Builtin.lenOf src).run P w = .ok m w) (hf : (Builtin.firstCells i.size m src).run P w.drew = .ok news.toArray w.drew)
    (hgr : sCap < sLen + m) (h63 : ((sLen + m : Nat) : Int) ≤ 9223372036854775807) (hfit : Builtin.nextslicecap (sLen + m) sCap * i.bytes ≤ 281474976710656) :
    (Builtin.append_ #[t, t] ty #[.slice base sLen sCap, src]).run P w =
      .ok (.slice (some ⟨w.heap.size, 0, none⟩) (sLen + m) (grownCap w (sLen + m) sCap el))
        (w.drew.alloc (.cells (olds.toArray ++ (news.toArray ++ Builtin.zeroCells z.cells (grownCap w (sLen + m) sCap el - (sLen + m)))) el)) := by
  have hn : ¬ (sLen + m ≤ sCap) := by omega
  have h63' : ¬ (9223372036854775807 < ((sLen : Int) + (m : Int))) := by omega
  have h48' : ¬ (281474976710656 < Builtin.nextslicecap (sLen + m) sCap * i.bytes) := by omega
  simp [Builtin.append_, run_underlying ht, sizeOf, typeInfo, zeroValue, hi, hz, hlen, hn, h63', h48', Question.forced, hold, hf, newRow, grownCap]

/-- The cells of the rows that are appended. -/
structure Src (P : Program) (w : World) (own : Nat → Prop) (π : Pl) (n s : Nat) (src : Value) (more : List (List AV)) (news : List Value) : Prop where
  len : ∀ w1 : World, (Builtin.lenOf src).run P w1 = .ok more.length w1
  first : ∀ w1 : World, w1.heap = w.heap → (Builtin.firstCells s more.length src).run P w1 = .ok news.toArray w1
  size : news.length = more.length * s
  one : ∀ u ∈ news, u.oneCell' = true
  rel : ∀ (i j : Nat) row x u, more[i]? = some row → row[j]? = some x → news[i * s + j]? = some u → Rel w own π n x u
  rowl : ∀ (i : Nat) row, more[i]? = some row → row.length = s


theorem src_nil (w : World) (own : Nat → Prop) (π : Pl) (n s : Nat) (ad : Option Addr) (c : Nat) : Src P w own π n s (.slice ad 0 c) [] [] where
  len w1 := by simp [Builtin.lenOf]
  first w1 _ := by cases ad <;> simp [Builtin.firstCells, loadCells, loadCellsFrom]
  size := by simp
  one := by simp
  rel := by simp
  rowl := by simp

/-- rows of cells in a block, flat -/
theorem src_cells {own : Nat → Prop} {s g off c : Nat} {more : List (List AV)} (hs0 : 0 < s) (hfree : ∀ (i : Nat) row, more[i]? = some row → row.length = s)
    (hc : ∀ (i j : Nat) row x, more[i]? = some row → row[j]? = some x → ∃ u, w.cell? ⟨g, off + (i * s + j), none⟩ = some u ∧ Rel w own π n x u ∧ u.oneCell' = true) :
    ∃ news, Src P w own π n s (.slice (some ⟨g, off, none⟩) more.length c) more news := by
  have hrow : ∀ k : Nat, k < more.length * s → ∃ row x, more[k / s]? = some row ∧ row[k % s]? = some x := by
    intro k hk
    have h1 : k / s < more.length := by rw [Nat.div_lt_iff_lt_mul hs0]; exact hk
    have h2 := hfree _ _ (List.getElem?_eq_getElem h1)
    have h3 : k % s < (more[k / s]).length := by rw [h2]; exact Nat.mod_lt _ hs0
    exact ⟨_, _, List.getElem?_eq_getElem h1, List.getElem?_eq_getElem h3⟩
  have hex : ∀ k : Nat, ∃ u, k < more.length * s → w.cell? ⟨g, off + k, none⟩ = some u ∧ ∀ row x, more[k / s]? = some row → row[k % s]? = some x → Rel w own π n x u ∧ u.oneCell' = true := by
    intro k
    by_cases hk : k < more.length * s
    · obtain ⟨row, x, h1, h2⟩ := hrow k hk
      obtain ⟨u, h3, h4⟩ := hc _ _ row x h1 h2
      refine ⟨u, fun _ => ⟨?_, fun row' x' h1' h2' => ?_⟩⟩
      · rw [← h3, Nat.mul_comm, Nat.div_add_mod]
      · rw [h1] at h1'; cases h1'; rw [h2] at h2'; cases h2'; exact h4
    · exact ⟨Go.undef, fun h => absurd h hk⟩
  obtain ⟨f, hf⟩ := Classical.axiomOfChoice hex
  have hnews : ∀ (k : Nat) u, ((List.range (more.length * s)).map f)[k]? = some u → k < more.length * s ∧ u = f k := by
    intro k u hk
    simp only [List.getElem?_map, Option.map_eq_some_iff] at hk
    obtain ⟨q, hq, rfl⟩ := hk
    obtain ⟨h1, h2⟩ := List.getElem?_eq_some_iff.1 hq
    simp at h1 h2; subst h2; exact ⟨h1, rfl⟩
  refine ⟨(List.range (more.length * s)).map f, ⟨fun w1 => by simp [Builtin.lenOf], ?_, by simp, ?_, ?_, hfree⟩⟩
  · intro w1 hw1
    refine run_firstCells_some (P := P) w1 s more.length ⟨g, off, none⟩ more.length c _ (by simp) ?_
    intro j v hj
    obtain ⟨h1, rfl⟩ := hnews j v hj
    rw [Addr.add_lit, ← (hf j h1).1]
    simp [World.cell?, hw1]
  · intro u hu
    obtain ⟨k, hk⟩ := List.getElem?_of_mem hu
    obtain ⟨h1, rfl⟩ := hnews k u hk
    obtain ⟨row, x, g1, g2⟩ := hrow k h1
    exact ((hf k h1).2 row x g1 g2).2
  · intro i j row x u h1 h2 h3
    obtain ⟨h4, rfl⟩ := hnews _ u h3
    have hj : j < s := by rw [← hfree _ _ h1]; exact (List.getElem?_eq_some_iff.1 h2).1
    have e1 : (i * s + j) / s = i := by rw [Nat.add_comm, Nat.add_mul_div_right _ _ hs0, Nat.div_eq_of_lt hj, Nat.zero_add]
    have e2 : (i * s + j) % s = j := by rw [Nat.add_comm, Nat.add_mul_mod_self_right, Nat.mod_eq_of_lt hj]
    exact ((hf _ h4).2 row x (by rw [e1]; exact h1) (by rw [e2]; exact h2)).1

theorem one_of_free {own : Nat → Prop} (x : AV) (u : Value) (hf : x.free = true) (hr : Rel w own π n x u) : u.oneCell' = true :=
  (one_of_okc hr (okc_of_free (h := anyH) hf)).1

theorem src_of (s : Sim w0 pass own0 π e h n a w) {z : Nat} (hz0 : 0 < z) {x : AV} {v : Value} (hr : Rel w (ownOf own0 π) π n x v) {more : List (List AV)} (hm : rowsOf h x = some more) (hl : ∀ r ∈ more, r.length = z) :
    ∃ news, Src P w (ownOf own0 π) π n z v more news := by
  cases x <;> simp only [rowsOf] at hm <;> first | cases hm | skip
  · rename_i id off len
    split at hm
    · rename_i q rows ho
      split at hm
      · rename_i hle
        cases hm
        obtain ⟨_, p, hp, hq⟩ := s.hs.obj id _ ho
        obtain ⟨hsz, hfr, hbk⟩ := hq
        have hget : ∀ (i : Nat) row, (sub rows off len)[i]? = some row → i < len ∧ rows[off + i]? = some row := by
          intro i row hr
          rw [getElem?_sub] at hr
          split at hr
          · rename_i hi; exact ⟨hi, hr⟩
          · cases hr
        have hsl : (sub rows off len).length = len := length_sub _ _ _ hle
        cases hr with
        | refLive _ _ _ b cap p' hp' hb h1 h2 =>
          rw [hp] at hp'; cases hp'
          simp only [hb] at hbk
          obtain ⟨cur, e', g1, g2, g3, g4, g5⟩ := hbk
          by_cases hlen0 : len = 0
          · subst hlen0
            have : sub rows off 0 = [] := by simp [sub]
            rw [this]
            exact ⟨[], src_nil _ _ _ _ _ _ _⟩
          · have hqz : q = z := by
              have hlt : off < rows.length := by omega
              have h3 := (hfr off rows[off] (List.getElem?_eq_getElem hlt)).1
              rw [← h3]
              refine hl _ (List.mem_of_getElem? (i := 0) ?_)
              rw [getElem?_sub, if_pos (by omega)]
              exact List.getElem?_eq_getElem hlt
            subst hqz
            have := src_cells (P := P) (w := w) (own := ownOf own0 π) (π := π) (n := n) (g := b) (off := off * p.sz) (c := cap) (more := sub rows off len) hz0 (fun i row hr => (hfr _ row (hget i row hr).2).1)
              (fun i j row x hr hx => by
                have h3 := (hget i row hr).2
                have hj : j < q := by rw [← (hfr _ row h3).1]; exact (List.getElem?_eq_some_iff.1 hx).1
                have hlt : (off + i) * q + j < cur.size := by
                  rw [g2]; exact idx_lt (by have := (List.getElem?_eq_some_iff.1 h3).1; omega) hj
                have hrel := g5 _ j row x _ h3 hx (Array.getElem?_eq_getElem hlt)
                refine ⟨cur[(off + i) * q + j], ?_, hrel, one_of_free x _ ((hfr _ row h3).2 x (List.mem_of_getElem? hx)) hrel⟩
                rw [hsz, ← Nat.add_assoc, ← Nat.add_mul, cell_of_row w b _ cur e' (0, 0) g1]
                exact Array.getElem?_eq_getElem hlt)
            rwa [hsl] at this
        | refEnd _ _ o b p' hp' hb =>
          have : sub rows off 0 = [] := by simp [sub]
          rw [this]; exact ⟨[], src_nil _ _ _ _ _ _ _⟩
        | refNil _ ad p' hp' hb =>
          have : sub rows 0 0 = [] := by simp [sub]
          rw [this]; exact ⟨[], src_nil _ _ _ _ _ _ _⟩
        | refDead _ _ _ _ _ hd _ => rw [hp] at hd; cases hd
      · cases hm
    · cases hm
  · cases hr; exact ⟨[], src_nil _ _ _ _ _ _ _⟩
  · cases hr with
    | valNil => exact ⟨[], src_nil _ _ _ _ _ _ _⟩
    | val _ g off cap q us ho' hg hcp hm' hs hf hu hh =>
      by_cases hlen0 : more.length = 0
      · have := List.eq_nil_of_length_eq_zero hlen0
        subst this
        exact ⟨[], src_nil _ _ _ _ _ _ _⟩
      · have hq : q = z := by
          have hlt : 0 < more.length := by omega
          rw [← hs 0 more[0] (List.getElem?_eq_getElem hlt)]; exact hl _ (List.getElem_mem hlt)
        subst hq
        exact src_cells (P := P) hz0 (fun i row hr => hs i row hr) (fun i j row x hr hx => ⟨_, hu i j row x hr hx, hh i j row x hr hx, one_of_free x _ (hf i row x hr (List.mem_of_getElem? hx)) (hh i j row x hr hx)⟩)

theorem src_tmp {z : Nat} (hz0 : 0 < z) {x : AV} {v : Value} {own : Nat → Prop} (hr : Rel w own π n x v) {more : List (List AV)} (hm : x.rowsX = some more) (hl : ∀ r ∈ more, r.length = z) :
    ∃ news, Src P w own π n z v more news := by
  cases x <;> simp only [AV.rowsX] at hm <;> first | cases hm | skip
  cases hr with
  | tmp _ g off cap q us ho' hg hcp hm' hs hu h1 hh =>
    by_cases hlen0 : more.length = 0
    · have := List.eq_nil_of_length_eq_zero hlen0
      subst this
      exact ⟨[], ⟨fun w1 => by simp [Builtin.lenOf], fun w1 _ => by simp [Builtin.firstCells, loadCells, loadCellsFrom], by simp, by simp, by simp, by simp⟩⟩
    · have hq : q = z := by
        have hlt : 0 < more.length := by omega
        rw [← hs 0 more[0] (List.getElem?_eq_getElem hlt)]; exact hl _ (List.getElem_mem hlt)
      subst hq
      exact src_cells (P := P) hz0 (fun i row hr => hs i row hr) (fun i j row x hr hx => ⟨_, hu i j row x hr hx, hh i j row x hr hx, h1 i j row x hr hx⟩)

theorem rows_free_of (s : Sim w0 pass own0 π e h n a w) {x : AV} {v : Value} (hr : Rel w (ownOf own0 π) π n x v) {more : List (List AV)} (hm : rowsOf h x = some more) : ∀ (i : Nat) row, more[i]? = some row → ∀ y ∈ row, y.free = true := by
  cases x <;> simp only [rowsOf] at hm <;> first | cases hm | skip
  · rename_i id off len
    split at hm
    · rename_i q rows ho
      split at hm
      · cases hm
        obtain ⟨_, p, hp, hq⟩ := s.hs.obj id _ ho
        intro i row hr'
        rw [getElem?_sub] at hr'
        split at hr'
        · exact (hq.2.1 _ row hr').2
        · cases hr'
      · cases hm
    · cases hm
  · simp
  · cases hr with
    | valNil => simp
    | val _ g off cap q us ho' hg hcp hm' hs hf hu hh => exact fun i row hr' y hy => hf i row y hr' hy

theorem nst_of_arr {own : Nat → Prop} {id : Nat} {p : Place} {q : Nat} {rows : List (List AV)} (h : ArrAt w own π n p q rows) : NstAt w own π n id p q rows := by
  obtain ⟨h1, h2, h3⟩ := h
  refine ⟨h1, fun i row hr => (h2 i row hr).1, ?_⟩
  cases hb : p.blk with
  | none => simpa [hb] using h3
  | some b =>
    simp only [hb] at h3
    obtain ⟨cur, e, g1, g2, g3, g4, g5⟩ := h3
    refine ⟨cur, e, g1, g2, g3, g4, fun i j row x u a1 a2 a3 => (cellAt_lone ?_).2 (g5 i j row x u a1 a2 a3)⟩
    have := (h2 i row a1).2 x (List.mem_of_getElem? a2)
    cases x <;> first | rfl | (simp [AV.free] at this)
theorem arr_of_nst {own : Nat → Prop} {id : Nat} {p : Place} {q : Nat} {rows : List (List AV)} (h : NstAt w own π n id p q rows) (hf : ∀ (i : Nat) row, rows[i]? = some row → ∀ x ∈ row, x.free = true) : ArrAt w own π n p q rows := by
  obtain ⟨h1, h2, h3⟩ := h
  refine ⟨h1, fun i row hr => ⟨h2 i row hr, hf i row hr⟩, ?_⟩
  cases hb : p.blk with
  | none => simpa [hb] using h3
  | some b =>
    simp only [hb] at h3
    obtain ⟨cur, e, g1, g2, g3, g4, g5⟩ := h3
    refine ⟨cur, e, g1, g2, g3, g4, fun i j row x u a1 a2 a3 => (cellAt_lone ?_).1 (g5 i j row x u a1 a2 a3)⟩
    have := hf i row a1 x (List.mem_of_getElem? a2)
    cases x <;> first | rfl | (simp [AV.free] at this)

/-- What an append leaves: the cells of the object that comes. -/
theorem app_cells {own : Nat → Prop} {s len id : Nat} {rows more : List (List AV)} {cells : List Value} (hold : rows.length = len)
    (h1 : ∀ (i j : Nat) row x u, rows[i]? = some row → row[j]? = some x → cells[i * s + j]? = some u → CellAt w own π n id i j x u)
    (h2 : ∀ (i j : Nat) row x u, more[i]? = some row → row[j]? = some x → cells[(len + i) * s + j]? = some u → Rel w own π n x u) :
    ∀ (i j : Nat) row x u, (rows ++ more)[i]? = some row → row[j]? = some x → cells[i * s + j]? = some u → CellAt w own π n id i j x u := by
  intro i j row x u hr hx hu
  rw [List.getElem?_append] at hr
  split at hr
  · exact h1 i j row x u hr hx hu
  · rename_i hge
    have hrel := h2 (i - len) j row x u (by rw [hold] at hr; exact hr) hx (by rw [show len + (i - len) = i by omega]; exact hu)
    refine (cellAt_lone ?_).2 hrel
    cases x <;> first | rfl | cases hrel

theorem rows_len {s : Nat} {rs more : List (List AV)} (h1 : ∀ (i : Nat) row, rs[i]? = some row → row.length = s) (h2 : ∀ (i : Nat) row, more[i]? = some row → row.length = s) :
    ∀ (i : Nat) row, (rs ++ more)[i]? = some row → row.length = s := by
  intro i row hr
  rw [List.getElem?_append] at hr
  split at hr
  · exact h1 i row hr
  · exact h2 _ row hr

/-- what is told of an append: the object that comes -/
def AppDone (P : Program) (own0 : Nat → Prop) (π : Pl) (h : Heap) (n : Nat) (w : World) (kill : Option Nat) (z len : Nat) (rows : List (List AV)) (m : Sem Value) : Prop :=
  ∃ v w' p, m.run P w = .ok v w' ∧ Adds own0 π h n w kill p w' ∧ NstAt w' (ownOf own0 (plAdd π kill n p)) (plAdd π kill n p) (n + 1) n p z rows ∧ Rel w' (ownOf own0 (plAdd π kill n p)) (plAdd π kill n p) (n + 1) (.ref n 0 len) v

theorem app_grow (s : Sim w0 pass own0 π e h n a w) {t ty el : TypeId} {z b : Nat} {zero : List AV} (ht : cElem P t = some el) (hz : cSize P el = some z) (hb : cBytes P el = some b) (hzero : cZero P el = some zero) (hzl : zero.length = z) (hz0 : 0 < z)
    (kill : Option Nat) (base : Option Addr) (sLen sCap : Nat) (rs : List (List AV)) (hrs : rs.length = sLen) (hrf : ∀ (i : Nat) row, rs[i]? = some row → row.length = z)
    (olds : List Value) (hol : olds.length = sLen * z) (hold : (Builtin.firstCells z sLen (.slice base sLen sCap)).run P w.drew = .ok olds.toArray w.drew) (id : Nat) (hkill : kill = some id ∨ rs = [])
    (hor : ∀ (i j : Nat) row x u, rs[i]? = some row → row[j]? = some x → olds[i * z + j]? = some u → CellAt w (ownOf own0 π) π n id i j x u)
    {src : Value} {more : List (List AV)} {news : List Value} (S : Src P w (ownOf own0 π) π n z src more news) (hgr : sCap < sLen + more.length)
    (hbytes : (sLen + more.length) * b ≤ 140737488355328) (hm : sLen + more.length ≤ 140737488355328) :
    AppDone P own0 π h n w kill z (sLen + more.length) (rs ++ more) (Builtin.append_ #[t, t] ty #[.slice base sLen sCap, src]) := by
  obtain ⟨inf, zv, hi, hzv, hcv⟩ := cZero_spec hzero
  have hz' : inf.size = z := by simpa [cSize, hi] using hz
  have hb' : inf.bytes = b := by simpa [cBytes, hi] using hb
  subst hz'; subst hb'
  obtain ⟨g1, _⟩ := rel_zero (w := w) (own := ownOf own0 π) (π := π) (n := n) hcv
  have hr := run_app_grow (P := P) (w := w) (ty := ty) (cElem_eq ht) hi hzv base sLen sCap olds hold src more.length news (S.len w) (S.first w.drew rfl) hgr (by omega) (growslice_fits hgr hbytes)
  have hge := grownCap_ge w (sLen + more.length) sCap el
  have hcm := grownCap_le_maxLen w (sLen + more.length) sCap el (by simp only [maxLen]; omega)
  have A0 := adds_new s.hs (.cells (olds.toArray ++ (news.toArray ++ Builtin.zeroCells zv.cells (grownCap w (sLen + more.length) sCap el - (sLen + more.length)))) el) w.drew (.inr rfl) inf.size (grownCap w (sLen + more.length) sCap el)
  have A : Adds own0 π h n w kill ⟨some w.heap.size, inf.size, grownCap w (sLen + more.length) sCap el⟩ _ := ⟨A0.hs, A0.size, A0.os, A0.tape, A0.output, .inr (.inl rfl), A0.kept⟩
  have hlen : (rs ++ more).length = sLen + more.length := by rw [List.length_append, hrs]
  refine ⟨_, _, _, hr, A, ?_, ref_own _ _ _ _ _ _ _ _ rfl _ hge (Nat.le_refl _)⟩
  refine ⟨rfl, rows_len hrf S.rowl, _, el, heap_alloc_new w.drew _, ?_, (by rw [hlen]; exact ⟨hge, hm⟩), hcm, ?_⟩
  · simp only [Array.size_append, List.size_toArray, size_zeroCells, g1, hzl, hol, S.size, ← Nat.add_mul]
    congr 1; omega
  · intro i j row x u hr' hx hu
    have hi' : i < sLen + more.length := by rw [← hlen]; exact (List.getElem?_eq_some_iff.1 hr').1
    have hj : j < inf.size := by rw [← rows_len hrf S.rowl i row hr']; exact (List.getElem?_eq_some_iff.1 hx).1
    have hlt := idx_lt hi' hj
    have hu' : (olds ++ news)[i * inf.size + j]? = some u := by
      rw [← Array.append_assoc, Array.getElem?_append_left (by simp [hol, S.size, ← Nat.add_mul]; omega)] at hu
      simpa using hu
    refine app_cells (cells := olds ++ news) hrs ?_ ?_ i j row x u hr' hx hu'
    · intro i j row x u h1 h2 h3
      have hi1 : i < sLen := by rw [← hrs]; exact (List.getElem?_eq_some_iff.1 h1).1
      have hj1 : j < inf.size := by rw [← hrf i row h1]; exact (List.getElem?_eq_some_iff.1 h2).1
      rcases hkill with hkill | hkill
      · refine CellAt.mono A.mono (hor i j row x u h1 h2 ?_) (fun k hk => ⟨A.kept k (s.hs.hid k _ hk).2.1 (A.ne_hid hk), ?_⟩)
        · rw [List.getElem?_append_left (by rw [hol]; exact idx_lt hi1 hj1)] at h3
          exact h3
        · show (π.hid k).map _ = _
          rw [hk, Option.map_some, if_pos hkill]
      · rw [hkill] at h1; simp at h1
    · intro i j row x u h1 h2 h3
      refine Rel.mono A.mono (S.rel i j row x u h1 h2 ?_)
      rw [List.getElem?_append_right (by rw [hol, Nat.add_mul]; omega), hol, Nat.add_mul] at h3
      rw [show i * inf.size + j = sLen * inf.size + i * inf.size + j - sLen * inf.size by omega]
      exact h3

theorem app_ref (s : Sim w0 pass own0 π e h n a w) {t ty el : TypeId} {z b : Nat} {zero : List AV} (ht : cElem P t = some el) (hz : cSize P el = some z) (hb : cBytes P el = some b) (hzero : cZero P el = some zero) (hzl : zero.length = z) (hz0 : 0 < z)
    {id len : Nat} {u v : Value} (hx : Rel w (ownOf own0 π) π n (.ref id 0 len) u) {p : Place} (hp : π id = some p) {rows : List (List AV)} (hq : NstAt w (ownOf own0 π) π n id p z rows) (hle : len ≤ rows.length)
    {more : List (List AV)} {news : List Value} (S : Src P w (ownOf own0 π) π n z v more news) (hbytes : (len + more.length) * b ≤ 140737488355328) (hm : len + more.length ≤ 140737488355328) :
    AppDone P own0 π h n w (some id) z (len + more.length) (rows.take len ++ more) (Builtin.append_ #[t, t] ty #[u, v]) := by
  obtain ⟨inf, zv, hi, hzv, hcv⟩ := cZero_spec hzero
  have hz' : inf.size = z := by simpa [cSize, hi] using hz
  obtain ⟨hsz, hfr, hbk⟩ := hq
  have htl : (rows.take len).length = len := by simp [List.length_take]; omega
  have htf : ∀ (i : Nat) row, (rows.take len)[i]? = some row → row.length = z := by
    intro i row hr
    rw [List.getElem?_take] at hr
    split at hr
    · exact hfr i row hr
    · cases hr
  cases hx with
  | refLive _ _ _ blk cap p' hp' hbl h1 h2 =>
    rw [hp] at hp'; cases hp'
    simp only [hbl] at hbk
    obtain ⟨cur, e', g1, g2, g3, g4, g5⟩ := hbk
    have hcell : ∀ (i j : Nat) row x u, (rows.take len)[i]? = some row → row[j]? = some x → cur[i * z + j]? = some u → CellAt w (ownOf own0 π) π n id i j x u := by
      intro i j row x u hr hx hu
      rw [List.getElem?_take] at hr
      split at hr
      · exact g5 i j row x u hr hx hu
      · cases hr
    have hlc : len * z ≤ cur.size := by rw [g2]; exact Nat.mul_le_mul_right _ (by omega)
    by_cases hroom : len + more.length ≤ cap
    · have hfit : len * z + news.length ≤ cur.size := by rw [S.size, g2, ← Nat.add_mul]; exact Nat.mul_le_mul_right _ (by omega)
      have hr := run_app_room (P := P) (w := w) (ty := ty) (cElem_eq ht) hi blk len cap cur e' g1 v more.length news (S.len w) (by rw [hz']; exact S.first w rfl) S.one hroom (by rw [hz']; exact hfit)
      rw [hz'] at hr
      have A : Adds own0 π h n w (some id) p (w.setRow blk (cur.toList.take (len * z) ++ news ++ cur.toList.drop (len * z + news.length)).toArray) :=
        ⟨s.hs, by simp [World.setRow], rfl, rfl, rfl, .inr (.inr ⟨id, p, rfl, hp, rfl⟩), fun k _ hk => setRow_other w blk k _ (fun e => hk (e ▸ hbl))⟩
      have hrow := setRow_heap w blk cur ((cur.toList.take (len * z) ++ news ++ cur.toList.drop (len * z + news.length)).toArray) e' _ g1
      refine ⟨_, _, _, by rw [Nat.zero_mul]; exact hr, A, ?_, ref_own _ _ _ _ _ _ _ _ hbl _ hroom (by omega)⟩
      refine ⟨hsz, rows_len htf S.rowl, ?_⟩
      simp only [hbl]
      refine ⟨_, e', hrow, ?_, by rw [List.length_append, htl]; omega, g4, ?_⟩
      · simp only [List.size_toArray, List.length_append, List.length_take, List.length_drop, Array.length_toList]; omega
      · intro i j row x u hr' hx' hu'
        have hu2 : (cur.toList.take (len * z) ++ news ++ cur.toList.drop (len * z + news.length))[i * z + j]? = some u := by simpa using hu'
        refine app_cells htl ?_ ?_ i j row x u hr' hx' hu2
        · intro i j row x u k1 k2 k3
          have hi1 : i < len := by rw [← htl]; exact (List.getElem?_eq_some_iff.1 k1).1
          have hj1 : j < z := by rw [← htf i row k1]; exact (List.getElem?_eq_some_iff.1 k2).1
          rw [getElem?_splice _ _ _ _ (by simpa using hfit), if_pos (idx_lt hi1 hj1)] at k3
          refine CellAt.mono A.mono (hcell i j row x u k1 k2 (by simpa using k3)) (fun k hk => ⟨A.kept k (s.hs.hid k _ hk).2.1 (A.ne_hid hk), ?_⟩)
          show (π.hid k).map _ = _
          rw [hk, Option.map_some, if_pos rfl]
        · intro i j row x u k1 k2 k3
          have hi1 : i < more.length := (List.getElem?_eq_some_iff.1 k1).1
          have hj1 : j < z := by rw [← S.rowl i row k1]; exact (List.getElem?_eq_some_iff.1 k2).1
          have := idx_lt hi1 hj1
          rw [getElem?_splice _ _ _ _ (by simpa using hfit), Nat.add_mul, if_neg (by omega), S.size, if_pos (by omega)] at k3
          refine Rel.mono A.mono (S.rel i j row x u k1 k2 ?_)
          rw [← k3]; congr 1; omega
    · refine app_grow s ht hz hb hzero hzl hz0 (some id) (some ⟨blk, 0 * p.sz, none⟩) len cap (rows.take len) htl htf (cur.toList.take (len * z)) (by simp; omega) ?_ id (.inl rfl) ?_ S (by omega) hbytes hm
      · rw [Nat.zero_mul]
        refine run_firstCells_some (P := P) w.drew z len ⟨blk, 0, none⟩ len cap _ (by simp; omega) (fun j u hj => ?_)
        rw [Addr.add_lit, Nat.zero_add, cell_of_row w.drew blk j cur e' (0, 0) g1]
        rw [List.getElem?_take] at hj
        split at hj
        · simpa using hj
        · cases hj
      · intro i j row x u k1 k2 k3
        rw [List.getElem?_take] at k3
        split at k3
        · exact hcell i j row x u k1 k2 (by simpa using k3)
        · cases k3
  | refEnd _ _ o' blk p' hp' hbl =>
    rw [hp] at hp'; cases hp'
    by_cases hm0 : more.length = 0
    · have : more = [] := List.eq_nil_of_length_eq_zero hm0
      subst this
      have hr := run_app_nil (P := P) (w := w) (ty := ty) (cElem_eq ht) hi (some ⟨blk, o', none⟩) v (S.len w) (by
        have := S.first w rfl
        have hn : news = [] := List.eq_nil_of_length_eq_zero (by rw [S.size]; simp)
        rw [hn] at this
        rw [hz']; exact this)
      have A : Adds own0 π h n w (some id) p w := ⟨s.hs, Nat.le_refl _, rfl, rfl, rfl, .inr (.inr ⟨id, p, rfl, hp, rfl⟩), fun _ _ _ => rfl⟩
      refine ⟨_, _, _, hr, A, ?_, ?_⟩
      · refine ⟨hsz, by simp, ?_⟩
        simp only [hbl] at hbk ⊢
        obtain ⟨cur, e', g1, g2, g3, g4, g5⟩ := hbk
        exact ⟨cur, e', g1, g2, by simp, g4, by simp⟩
      · exact .refEnd n 0 o' blk p (by simp [plAdd]) hbl
    · have := app_grow s ht hz hb hzero hzl hz0 (ty := ty) (some id) (some ⟨blk, o', none⟩) 0 0 [] rfl (by simp) [] (by simp) (by simp [Builtin.firstCells, loadCells, loadCellsFrom]) id (.inl rfl) (by simp) S (by omega) hbytes hm
      simpa using this
  | refNil _ ad p' hp' hbl =>
    rw [hp] at hp'; cases hp'
    by_cases hm0 : more.length = 0
    · have : more = [] := List.eq_nil_of_length_eq_zero hm0
      subst this
      have hr := run_app_nil (P := P) (w := w) (ty := ty) (cElem_eq ht) hi ad v (S.len w) (by
        have := S.first w rfl
        have hn : news = [] := List.eq_nil_of_length_eq_zero (by rw [S.size]; simp)
        rw [hn] at this
        rw [hz']; exact this)
      have A : Adds own0 π h n w (some id) p w := ⟨s.hs, Nat.le_refl _, rfl, rfl, rfl, .inl hbl, fun _ _ _ => rfl⟩
      refine ⟨_, _, _, hr, A, ?_, ?_⟩
      · exact ⟨hsz, by simp, by simp [hbl]⟩
      · exact .refNil n ad p (by simp [plAdd]) hbl
    · have := app_grow s ht hz hb hzero hzl hz0 (ty := ty) (some id) ad 0 0 [] rfl (by simp) [] (by simp) (by cases ad <;> simp [Builtin.firstCells, loadCells, loadCellsFrom]) id (.inl rfl) (by simp) S (by omega) hbytes hm
      simpa using this
  | refDead _ _ _ _ _ hd _ => rw [hp] at hd; cases hd

theorem snd_app (s : Sim w0 pass own0 π e h n a w) {t ty el : TypeId} {z b : Nat} {zero : List AV} (ht : cElem P t = some el) (hz : cSize P el = some z) (hb : cBytes P el = some b) (hzero : cZero P el = some zero) (hzl : zero.length = z) (hz0 : 0 < z)
    {x y : AV} {u v : Value} (hx : Rel w (ownOf own0 π) π n x u) (hy : Rel w (ownOf own0 π) π n y v) {K : Kont} (hk : sem (.app z b) [x, y] h n K) : Done P w0 pass own0 π n w (Builtin.append_ #[t, t] ty #[u, v]) K := by
  obtain ⟨inf, zv, hi, hzv, hcv⟩ := cZero_spec hzero
  have hz' : inf.size = z := by simpa [cSize, hi] using hz
  cases x <;> simp only [sem] at hk <;> first | exact hk.elim | skip
  · rename_i id off len
    obtain ⟨rfl, hk⟩ := hk
    split at hk
    · rename_i q rows more hid hmore
      obtain ⟨rfl, hle, hml, hbytes, hm, hk⟩ := hk
      obtain ⟨news, S⟩ := src_of (P := P) s hz0 hy hmore hml
      obtain ⟨_, p, hp, hq⟩ := s.hs.obj id _ hid
      rw [← hpAdd_some] at hk
      obtain ⟨v', w', p', k1, A, k2, k3⟩ := app_ref s ht hz hb hzero hzl hz0 (ty := ty) hx hp (nst_of_arr (id := id) hq) hle S hbytes hm
      refine ⟨_, _, _, _, _, _, k1, A.go s.fr (o := .arr q (rows.take len ++ more)) (arr_of_nst k2 ?_), k3, hk⟩
      intro i row hr y hy'
      rw [List.getElem?_append] at hr
      split at hr
      · rw [List.getElem?_take] at hr
        split at hr
        · exact (hq.2.1 i row hr).2 y hy'
        · cases hr
      · exact rows_free_of s hy hmore _ row hr y hy'
    · rename_i o hid hno
      split at hk
      · rename_i q rows more hox hmore
        obtain ⟨rfl, hle, hml, hbytes, hm, hk⟩ := hk
        obtain ⟨news, S⟩ := src_tmp (P := P) hz0 hy hmore hml
        obtain ⟨_, p, hp, hq⟩ := s.hs.obj id _ hid
        rw [← hpAdd_some] at hk
        have hq' : NstAt w (ownOf own0 π) π n id p q rows := by
          cases o with
          | box row => cases hox
          | arr q' rows' => cases hox; exact nst_of_arr hq
          | nst q' rows' => cases hox; exact hq.1
          | arx q' rows' => cases hox; exact hq
        obtain ⟨v', w', p', k1, A, k2, k3⟩ := app_ref s ht hz hb hzero hzl hz0 (ty := ty) hx hp hq' hle S hbytes hm
        exact ⟨_, _, _, _, _, _, k1, A.go s.fr (o := .arx q (rows.take len ++ more)) k2, k3, hk⟩
      · exact hk.elim
    · exact hk.elim
  · split at hk
    · rename_i more hmore
      obtain ⟨hml, hbytes, hm, hk⟩ := hk
      obtain ⟨news, S⟩ := src_of (P := P) s hz0 hy hmore hml
      rw [← hpAdd_none] at hk
      obtain ⟨ad, rfl⟩ : ∃ ad, u = Value.slice ad 0 0 := by cases hx with | snil ad => exact ⟨ad, rfl⟩
      by_cases hm0 : more.length = 0
      · have : more = [] := List.eq_nil_of_length_eq_zero hm0
        subst this
        have hr := run_app_nil (P := P) (w := w) (ty := ty) (cElem_eq ht) hi ad v (S.len w) (by
          have := S.first w rfl
          have hn : news = [] := List.eq_nil_of_length_eq_zero (by rw [S.size]; simp)
          rw [hn] at this
          rw [hz']; exact this)
        have A : Adds own0 π h n w none ⟨none, z, 0⟩ w := ⟨s.hs, Nat.le_refl _, rfl, rfl, rfl, .inl rfl, fun _ _ _ => rfl⟩
        refine ⟨_, _, _, _, _, _, hr, A.go s.fr (o := .arr z []) ?_, ?_, hk⟩
        · exact ⟨rfl, by simp, rfl⟩
        · exact .refNil n ad ⟨none, z, 0⟩ (by simp [plAdd]) rfl
      · obtain ⟨v', w', p', k1, A, k2, k3⟩ := app_grow s ht hz hb hzero hzl hz0 (ty := ty) none ad 0 0 [] rfl (by simp) [] (by simp) (by cases ad <;> simp [Builtin.firstCells, loadCells, loadCellsFrom]) 0 (.inr rfl) (by simp) S (by omega) (by simpa using hbytes) (by simpa using hm)
        exact ⟨_, _, _, _, _, _, k1, A.go s.fr (o := .arr z more) (arr_of_nst (by simpa using k2) (rows_free_of s hy hmore)), k3, by simpa using hk⟩
    · exact hk.elim

end
end Go.Proofs.Ytpfbkblgefddlaa.Av
