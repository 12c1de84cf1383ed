/- Conversions of bytes, indexes into arrays; operations that are never reached. -/
import Derived.Test.YtpfbkblgefddlaaAvCall
import Derived.Laws.BytesString
import Derived.Laws.BytesArg
import Derived.Laws.IdiomStrings
import Derived.Laws.Small
import Derived.Laws.StructEq
import Derived.Lib.AppendZerosOnto
namespace Go.Proofs.Ytpfbkblgefddlaa.Av
set_option linter.unusedSimpArgs false
set_option linter.unusedVariables false
open Go

theorem cOpE_tag (P : Program) (op : Op) : (cOpE P op).1 = .b2s ∨ (cOpE P op).1 = .s2b ∨ (∃ l, (cOpE P op).1 = .aidx l) ∨ (∃ g, (cOpE P op).1 = .beq g) ∨ (∃ g ks, (cOpE P op).1 = .aeq g ks) ∨ (∃ g, (cOpE P op).1 = .bnil g) ∨ (cOpE P op).1 = .cap ∨ (∃ s b z, (cOpE P op).1 = .apz s b z) ∨ (cOpE P op).1 = .no := by
  unfold cOpE
  (repeat' split) <;> simp

theorem cOpE_call (P : Program) (op : Op) (f : Nat) (l : List Opd) : cOpE P op ≠ (.call f, l) := by
  intro h
  have := cOpE_tag P op
  rw [h] at this
  simp at this

theorem cOpE_dyn (P : Program) (op : Op) (l : List Opd) : cOpE P op ≠ (.dyn, l) := by
  intro h
  have := cOpE_tag P op
  rw [h] at this
  simp at this

section
variable {P : Program} {w0 : World} {pass own0 : Nat → Prop} {π : Pl} {e : Env} {h : Heap} {n : Nat} {a : Act} {w : World}

theorem slice_of_rows (s : HSim own0 π h n w) {x : AV} {v : Value} (hr : Rel w (ownOf own0 π) π n x v) {more : List (List AV)} (hm : rowsOf h x = some more) : ∃ ad c, v = .slice ad more.length c := by
  cases x <;> simp only [rowsOf] at hm <;> first | cases hm | skip
  · rename_i id off len
    split at hm
    · rename_i q rows ho
      split at hm
      · rename_i hle
        cases hm
        rw [length_sub _ _ _ hle]
        obtain ⟨_, p, hp, _⟩ := s.obj id _ ho
        cases hr with
        | refLive _ _ _ b cap p' hp' hb h1 h2 => exact ⟨_, _, rfl⟩
        | refEnd _ _ o b p' hp' hb => exact ⟨_, _, rfl⟩
        | refNil _ ad p' hp' hb => exact ⟨_, _, rfl⟩
        | refDead _ _ _ _ _ hd _ => rw [hp] at hd; cases hd
      · cases hm
    · cases hm
  · cases hr; exact ⟨_, _, rfl⟩
  · cases hr with
    | valNil ad cap => exact ⟨_, _, rfl⟩
    | val => exact ⟨_, _, rfl⟩

theorem zeroCells_at {z : Array Value} {k i j : Nat} (hi : i < k) (hj : j < z.size) : (Builtin.zeroCells z k)[i * z.size + j]? = z[j]? := by
  have hlt : i * z.size + j < k * z.size := by
    have := Nat.mul_le_mul_right z.size (show i + 1 ≤ k by omega)
    rw [Nat.add_mul] at this
    omega
  unfold Builtin.zeroCells
  rw [Array.getElem?_map]
  have hsz : (Array.range (k * z.size)).size = k * z.size := Array.size_range
  rw [Array.getElem?_eq_getElem (by rw [hsz]; exact hlt)]
  simp only [Array.getElem_range, Option.map_some]
  rw [Nat.add_comm, Nat.add_mul_mod_self_right, Nat.mod_eq_of_lt hj, getElem!_pos z j hj]
  exact (Array.getElem?_eq_getElem hj).symm

theorem snd_apz (s : Sim w0 pass own0 π e h n a w) {t u ty el : TypeId} {k' : IntKind} {z b : Nat} {zero : List AV} (ht : cElem P t = some el) (hu : P.underlying u = some (.int k')) (hz : cSize P el = some z) (hb : cBytes P el = some b) (hzero : cZero P el = some zero)
    (hzl : zero.length = z) (hz0 : 0 < z) {x y : AV} {v1 v2 : Value} (hx : Rel w (ownOf own0 π) π n x v1) (hy : Rel w (ownOf own0 π) π n y v2) {K : Kont} (hk : sem (.apz z b zero) [x, y] h n K) :
    Done P w0 pass own0 π n w (Builtin.append_ #[t, u] ty #[v1, v2]) K := by
  cases x <;> cases y <;> simp only [sem] at hk <;> first | exact hk.elim | skip
  rename_i k1 l
  obtain ⟨h0, hbytes, hm, hk⟩ := hk
  cases hy
  obtain ⟨ad, rfl⟩ : ∃ ad, v1 = Value.slice ad 0 0 := by cases hx with | snil ad => exact ⟨ad, rfl⟩
  obtain ⟨inf, zv, hi, hzv, hcv⟩ := cZero_spec hzero
  have hz' : inf.size = z := by simpa [cSize, hi] using hz
  have hb' : inf.bytes = b := by simpa [cBytes, hi] using hb
  subst hz'; subst hb'
  obtain ⟨m, rfl⟩ : ∃ m : Nat, l = m := ⟨l.toNat, by omega⟩
  have hbm : m * inf.bytes ≤ 140737488355328 := by
    refine Int.ofNat_le.1 ?_
    rw [Int.natCast_mul, Int.mul_comm]
    exact hbytes
  have hr := Lib.run_append_grow_zeros (P := P) w t u ty el inf zv k1 k' (cElem_eq ht) hu hi hzv ad 0 0 [] (by cases ad <;> simp [Builtin.firstCells, loadCells, loadCellsFrom]) m (by omega) hz0 (by omega) (by omega) (by omega) (by
    rw [Nat.zero_add, nextslicecap_zero (by omega)]; omega)
  rw [Nat.zero_add] at hr
  have hge := grownCap_ge w m 0 el
  have hcm := grownCap_le_maxLen w m 0 el (by simp only [maxLen]; omega)
  have A0 := adds_new s.hs (.cells (([] : List Value).toArray ++ Builtin.zeroCells zv.cells m ++ Builtin.zeroCells zv.cells (grownCap w m 0 el - m)) el) w.drew (.inr rfl) inf.size (grownCap w m 0 el)
  obtain ⟨g1, g2⟩ := rel_zero (w := w) (own := ownOf own0 π) (π := π) (n := n) hcv
  have hsz : zv.cells.size = inf.size := by rw [g1, hzl]
  refine ⟨_, _, _, _, _, _, hr, A0.go s.fr (o := .arr inf.size (List.replicate m zero)) ?_, ref_own _ _ _ _ _ _ _ _ rfl _ hge (Nat.le_refl _), by rw [hpAdd_none]; exact hk⟩
  refine objAt_arr (heap_alloc_new w.drew _) ?_ (by simp; omega) hcm ?_ ?_
  · simp only [Array.size_append, List.size_toArray, List.length_nil, Nat.zero_add, size_zeroCells, hsz, ← Nat.add_mul]
    congr 1; omega
  · intro i row hr
    rw [List.getElem?_replicate] at hr
    split at hr
    · cases hr; exact ⟨hzl, free_zero hzero⟩
    · cases hr
  · intro i j row x u hr hx hu
    rw [List.getElem?_replicate] at hr
    split at hr
    · rename_i him
      cases hr
      refine Rel.mono A0.mono (g2 j x u hx ?_)
      have hj : j < inf.size := by rw [← hzl]; exact (List.getElem?_eq_some_iff.1 hx).1
      have hlt : i * inf.size + j < m * inf.size := by
        have := Nat.mul_le_mul_right inf.size (show i + 1 ≤ m by omega)
        rw [Nat.add_mul] at this
        omega
      rw [Array.getElem?_append_left (by simp [size_zeroCells, hsz]; omega)] at hu
      have hz1 := zeroCells_at (z := zv.cells) (k := m) (i := i) (j := j) him (by omega)
      rw [hsz] at hz1
      rw [← hz1]
      simpa using hu
    · cases hr

theorem snd_b2s (s : Sim w0 pass own0 π e h n a w) {src dst el : TypeId} (hs : P.underlying src = some (.slice el)) (he : P.underlying el = some (.int .u8)) (hd : P.underlying dst = some .string) {x : AV} {v : Value}
    (hr : Rel w (ownOf own0 π) π n x v) {bs : List UInt8} (hb : rowsOf h x = some (bs.map byteRow)) {K : Kont} (hk : K (.str bs) h n) : Done P w0 pass own0 π n w (convert src dst v) K := by
  obtain ⟨news, S⟩ := src_of (P := P) s (z := 1) (by decide) hr hb (by intro r hr; simp at hr; obtain ⟨b, _, rfl⟩ := hr; rfl)
  obtain ⟨ad, c, rfl⟩ := slice_of_rows s.hs hr hb
  refine done_same s (v := .string ⟨bs.toArray⟩) ?_ (.str bs) hk
  rw [run_convert_bytes_string w src dst el _ _ _ hs he hd]
  have hn : news = bs.map fun b => Value.int .u8 b.toNat := by
    have hsz := S.size
    apply List.ext_getElem (by simpa using hsz)
    intro i h1 h2
    have hib : i < bs.length := by simpa using h2
    have := S.rel i 0 (byteRow bs[i]) (.int .u8 bs[i].toNat) news[i] (by simp [List.getElem?_eq_getElem hib]) rfl (by rw [Nat.mul_one, Nat.add_zero, List.getElem?_eq_getElem h1])
    generalize news[i] = u at this
    cases this
    simp
  cases ad with
  | none =>
    have hf := S.first w rfl
    simp only [Builtin.firstCells] at hf
    have hnil : news = [] := by
      have : (Result.ok #[] w : Result (Array Value)) = .ok news.toArray w := hf
      simpa using this.symm
    rw [hnil] at hn
    have : bs = [] := by simpa using hn.symm
    subst this
    rfl
  | some ad =>
    have hf := S.first w rfl
    simp only [Builtin.firstCells, Nat.mul_one] at hf
    rw [hn] at hf
    have hf' : (loadCells ad (bs.map byteRow).length).run P w = .ok ((bs.map fun b => (b.toNat : Int)).map (Value.int .u8)).toArray w := by
      rw [hf]; simp [Function.comp_def]
    rw [run_bytesToString w ad _ _ _ hf', foldl_push_byteCells]
    have he0 : ByteArray.empty.data = #[] := rfl
    rw [he0]
    simp

theorem go_ext (s : Sim w0 pass own0 π e h n a w) {w' : World} (E : Ext w w' (fun _ => False)) : Go1 w0 pass own0 π n w π h n w' := by
  have hk : ∀ b, b < w.heap.size → w'.heap[b]? = w.heap[b]? := fun b hb => E.kept b hb (by simp)
  have M : Mono own0 π π n n w w' := ⟨E.size, fun b hb ho => ⟨hk b hb, ho⟩, fun id p hp => ⟨.inl hp, (s.hs.lt hp).1⟩, fun _ hp _ => hp, Nat.le_refl _, E.os, E.tape, E.output⟩
  refine ⟨M, ⟨s.hs.dom, fun id o ho => ?_, s.hs.inj, s.hs.sep, fun b hb => Nat.lt_of_lt_of_le (s.hs.old b hb) M.size, fun b k hb => ?_⟩, ?_⟩
  · obtain ⟨h1, p, h2, h3⟩ := s.hs.obj id o ho
    exact ⟨h1, p, h2, h3.mono M (fun b hb => hk b (s.hs.blk_lt h2 hb)) (fun b i j hb => ⟨hk b (s.hs.hid b _ hb).2.1, hb⟩)⟩
  · obtain ⟨g1, g2, g3, g4⟩ := s.hs.hid b k hb
    exact ⟨g1, Nat.lt_of_lt_of_le g2 M.size, g3, g4⟩
  · exact ⟨E.os.trans s.fr.os, E.tape.trans s.fr.tape, E.output.trans s.fr.output, Nat.le_trans s.fr.size E.size, fun b hb hp => (hk b (Nat.lt_of_lt_of_le hb s.fr.size)).trans (s.fr.kept b hb hp), fun id p b h1 h2 => s.fr.blk id p b h1 h2, s.fr.hid⟩

theorem ext_alloc (w : World) (o : Obj) : Ext w (w.drew.alloc o) (fun _ => False) := by
  refine ⟨rfl, rfl, rfl, ?_, fun b hb _ => ?_⟩
  · show w.heap.size ≤ (w.heap.push o).size
    rw [Array.size_push]; omega
  · show (w.heap.push o)[b]? = w.heap[b]?
    rw [Array.getElem?_push, if_neg (by omega)]

theorem alloc_lt (w : World) (o : Obj) : w.heap.size < (w.drew.alloc o).heap.size := by
  show w.heap.size < (w.heap.push o).size
  rw [Array.size_push]; omega

theorem snd_s2b (s : Sim w0 pass own0 π e h n a w) {src dst el : TypeId} (hs : P.underlying src = some .string) (hd : P.underlying dst = some (.slice el)) (he : P.underlying el = some (.int .u8)) {bs : List UInt8} {v : Value}
    (hr : Rel w (ownOf own0 π) π n (.str bs) v) (hb : bs.length ≤ 140737488355328) {K : Kont} (hk : K (.val (bs.map byteRow)) h n) : Done P w0 pass own0 π n w (convert src dst v) K := by
  cases hr
  have hrun := run_bytes_of_string (P := P) w src dst el ⟨bs.toArray⟩ hs hd he
  refine ⟨_, _, π, _, h, n, hrun, go_ext s (ext_alloc _ _), ?_, hk⟩
  have hsz : ByteArray.size ⟨bs.toArray⟩ = bs.length := by simp [ByteArray.size]
  rw [hsz]
  have hge := grownCap_ge w bs.length 0 el
  have hown : ¬ ownOf own0 π w.heap.size := fun h1 => by have := own_lt s.hs h1; omega
  have := Rel.val (w := w.drew.alloc (.cells (bytesRow ⟨bs.toArray⟩ (grownCap w bs.length 0 el)) el ((bytesRow ⟨bs.toArray⟩ (grownCap w bs.length 0 el)).size, (bytesRow ⟨bs.toArray⟩ (grownCap w bs.length 0 el)).size + 1)))
    (own := ownOf own0 π) (π := π) (N := n) (bs.map byteRow) w.heap.size 0 (grownCap w bs.length 0 el) 1 (fun i j => .int .u8 (bs.getD i 0).toNat) hown (alloc_lt _ _) (by simpa using hge) (by simp; omega)
    (fun i row hr => by simp at hr; obtain ⟨b, _, rfl⟩ := hr; rfl)
    (fun i row x hr hx => by simp at hr; obtain ⟨b, _, rfl⟩ := hr; simp [byteRow] at hx; subst hx; rfl)
    (fun i j row x hr hx => by
      simp only [List.getElem?_map, Option.map_eq_some_iff] at hr
      obtain ⟨b, hb', rfl⟩ := hr
      have hj : j = 0 := by
        have := (List.getElem?_eq_some_iff.1 hx).1
        simp [byteRow] at this; omega
      subst hj
      have hc := World.cell?_alloc_mark w.drew (bytesRow ⟨bs.toArray⟩ (grownCap w bs.length 0 el)) el ((bytesRow ⟨bs.toArray⟩ (grownCap w bs.length 0 el)).size, (bytesRow ⟨bs.toArray⟩ (grownCap w bs.length 0 el)).size + 1) i
      have hil := (List.getElem?_eq_some_iff.1 hb').1
      simp only [Nat.mul_one, Nat.zero_add, Nat.add_zero]
      refine hc.trans ?_
      simp only [bytesRow]
      rw [Array.getElem?_append, if_pos (by simpa using hil)]
      simp [hb', List.getD_eq_getElem?_getD])
    (fun i j row x hr hx => by
      simp only [List.getElem?_map, Option.map_eq_some_iff] at hr
      obtain ⟨b, hb', rfl⟩ := hr
      have hj : j = 0 := by
        have := (List.getElem?_eq_some_iff.1 hx).1
        simp [byteRow] at this; omega
      subst hj
      simp [byteRow] at hx; subst hx
      simp only [List.getD_eq_getElem?_getD, hb', Option.getD_some]
      exact .int _ _)
  simpa using this

theorem snd_aidx (s : Sim w0 pass own0 π e h n a w) {t el : TypeId} {len : Nat} (ht : P.underlying t = some (.array len el)) (ha : cAgg P el = some false) (hz : cSize P el = some 1) {vs : List AV} {v u : Value} {k : IntKind} {i : Int} {c : AV}
    (hr : Rel w (ownOf own0 π) π n (.agg vs) v) (hu : Rel w (ownOf own0 π) π n (.int k i) u) (h0 : 0 ≤ i) (h1 : i < len) (hc : vs[i.toNat]? = some c) {K : Kont} (hk : K c h n) : Done P w0 pass own0 π n w (Instr.index t v u) K := by
  cases hu
  cases hr with
  | agg _ cs hl hh =>
    have hil := (List.getElem?_eq_some_iff.1 hc).1
    have hci : cs[i.toNat]? = some cs[i.toNat] := Array.getElem?_eq_getElem (by omega)
    refine done_same s (v := cs[i.toNat]) ?_ (hh _ _ _ hc hci) hk
    unfold cSize at hz
    obtain ⟨inf, hi, hinf⟩ := Option.map_eq_some_iff.1 hz
    unfold cAgg at ha
    cases hd : P.underlying el with
    | none => simp [hd] at ha
    | some d =>
      have hagg : (isAgg el).run P w = .ok false w := by cases d <;> simp [hd] at ha <;> simp [isAgg, run_underlying hd]
      simp [Instr.index, asIntOf, run_underlying ht, h0, h1, sizeOf, typeInfo, hi, hinf, part, hagg, hci]

theorem snd_bslv (s : Sim w0 pass own0 π e h n a w) {t el : TypeId} {len z : Nat} {parts : Array (Nat × Operand)} (ht : cElem P t = some el) (hz : cSize P el = some z)
    (h1 : parts.toList.length = len) (h2 : inOrder parts.toList 0 = true) (h3 : 0 < z) (hzv : ((P.info? el).bind (·.zero)).isSome = true) {l : List Opd} (hl : cOpds (parts.toList.map (·.2)) = some l)
    {K : Kont} (hk : sem (.bslv z) (l.map (Opd.ev e)) h n K) : Done P w0 pass own0 π n w (Instr.buildSlice t len (parts.map fun (i, x) => (i, a.eval x))) K := by
  simp only [sem] at hk
  obtain ⟨hok, hsmall, hk⟩ := hk
  have hokc : ∀ v ∈ l.map (Opd.ev e), ∀ c ∈ v.cells, c.okc anyH := by
    intro v hv c hc
    split at hk
    · rename_i hall
      exact okc_of_free ((List.all_eq_true.1 ((List.all_eq_true.1 hall) v hv)) c hc)
    · exact hk.1 v hv c hc
  obtain ⟨hll, cells, k1, k2, k3⟩ := bsl_run s ht hz h1 h2 h3 hzv hl (fun v hv => ⟨hok v hv, hokc v hv⟩) hsmall
  simp only [List.length_map] at hsmall
  rw [hll] at hsmall
  have hle : len ≤ len * z := Nat.le_mul_of_pos_right _ h3
  have E : Ext w (w.alloc (.cells cells el)) (fun _ => False) := by
    refine ⟨rfl, rfl, rfl, ?_, fun b hb _ => ?_⟩
    · show w.heap.size ≤ (w.heap.push _).size
      rw [Array.size_push]; omega
    · show (w.heap.push _)[b]? = w.heap[b]?
      rw [Array.getElem?_push, if_neg (by omega)]
  have G := go_ext s E
  have hown : ¬ ownOf own0 π w.heap.size := fun h1 => by have := own_lt s.hs h1; omega
  have hrl : ((l.map (Opd.ev e)).map AV.cells).length = len := by simp [hll]
  have hcell : ∀ (i : Nat) (row : List AV), ((l.map (Opd.ev e)).map AV.cells)[i]? = some row → row.length = z ∧ ∀ x ∈ row, x.okc anyH := by
    intro i row hr
    simp only [List.getElem?_map, Option.map_eq_some_iff] at hr
    obtain ⟨y, ⟨o, ho, rfl⟩, rfl⟩ := hr
    have hm : o.ev e ∈ l.map (Opd.ev e) := by simp only [List.mem_map]; exact ⟨o, List.mem_of_getElem? ho, rfl⟩
    exact ⟨hok _ hm, hokc _ hm⟩
  have hpos : ∀ (i j : Nat) (row : List AV) (x : AV), ((l.map (Opd.ev e)).map AV.cells)[i]? = some row → row[j]? = some x → i * z + j < cells.size := by
    intro i j row x hr hx
    have hi := (List.getElem?_eq_some_iff.1 hr).1
    have hj := (List.getElem?_eq_some_iff.1 hx).1
    rw [(hcell i row hr).1] at hj
    rw [hrl] at hi
    rw [k2]
    have : i * z + z ≤ len * z := by rw [← Nat.succ_mul]; exact Nat.mul_le_mul_right _ hi
    omega
  have hcc : ∀ (i j : Nat) (row : List AV) (x : AV), ((l.map (Opd.ev e)).map AV.cells)[i]? = some row → row[j]? = some x → (w.alloc (.cells cells el)).cell? ⟨w.heap.size, 0 + (i * z + j), none⟩ = some (cells.getD (i * z + j) Go.undef) := by
    intro i j row x hr hx
    have hp := hpos i j row x hr hx
    rw [Nat.zero_add]
    refine (World.cell?_alloc_mark w cells el (0, 0) (i * z + j)).trans ?_
    simp [Array.getD_eq_getD_getElem?, hp]
  have hrr : ∀ (i j : Nat) (row : List AV) (x : AV), ((l.map (Opd.ev e)).map AV.cells)[i]? = some row → row[j]? = some x → Rel (w.alloc (.cells cells el)) (ownOf own0 π) π n x (cells.getD (i * z + j) Go.undef) := by
    intro i j row x hr hx
    have hp := hpos i j row x hr hx
    have := (k3 i j row x cells[i * z + j] hr hx (Array.getElem?_eq_getElem hp)).mono G.mono
    simpa [Array.getD_eq_getD_getElem?, hp] using this
  split at hk
  · rename_i hall
    refine ⟨_, _, π, _, h, n, k1, G, ?_, hk⟩
    have hfree : ∀ (i : Nat) (row : List AV), ((l.map (Opd.ev e)).map AV.cells)[i]? = some row → ∀ x ∈ row, x.free = true := by
      intro i row hr x hx
      simp only [List.getElem?_map, Option.map_eq_some_iff] at hr
      obtain ⟨y, ⟨o, ho, rfl⟩, rfl⟩ := hr
      exact (List.all_eq_true.1 ((List.all_eq_true.1 hall) (o.ev e) (by simp only [List.mem_map]; exact ⟨o, List.mem_of_getElem? ho, rfl⟩))) x hx
    have hR := Rel.val (w := w.alloc (.cells cells el)) (own := ownOf own0 π) (π := π) (N := n) ((l.map (Opd.ev e)).map AV.cells) w.heap.size 0 len z (fun i j => cells.getD (i * z + j) Go.undef) hown
      (by show w.heap.size < (w.heap.push _).size; rw [Array.size_push]; omega) (by omega) (by omega) (fun i row hr => (hcell i row hr).1) (fun i row x hr hx => hfree i row hr x hx) hcc hrr
    rw [hrl] at hR
    exact hR
  · refine ⟨_, _, π, _, h, n, k1, G, ?_, hk.2⟩
    have hR := Rel.tmp (w := w.alloc (.cells cells el)) (own := ownOf own0 π) (π := π) (N := n) ((l.map (Opd.ev e)).map AV.cells) w.heap.size 0 len z (fun i j => cells.getD (i * z + j) Go.undef) hown
      (by show w.heap.size < (w.heap.push _).size; rw [Array.size_push]; omega) (by omega) (by omega) (fun i row hr => (hcell i row hr).1) hcc
      (fun i j row x hr hx => (one_of_okc (hrr i j row x hr hx) ((hcell i row hr).2 x (List.mem_of_getElem? hx))).1) hrr
    rw [hrl] at hR
    exact hR

theorem snd_bsle (s : Sim w0 pass own0 π e h n a w) {t el : TypeId} {len z : Nat} {parts : Array (Nat × Operand)} (ht : cElem P t = some el) (hz : cSize P el = some z)
    (h1 : parts.toList.length = len) (h2 : inOrder parts.toList 0 = true) (h3 : 0 < z) (hzv : ((P.info? el).bind (·.zero)).isSome = true) (hl : cOpds (parts.toList.map (·.2)) = some [])
    {K : Kont} (hk : sem .bsle (([] : List Opd).map (Opd.ev e)) h n K) : Done P w0 pass own0 π n w (Instr.buildSlice t len (parts.map fun (i, x) => (i, a.eval x))) K := by
  simp only [List.map_nil, sem] at hk
  obtain ⟨hll, cells, k1, k2, k3⟩ := bsl_run s ht hz h1 h2 h3 hzv hl (by simp) (by simp)
  have hl0 : len = 0 := by simpa using hll.symm
  subst hl0
  have E : Ext w (w.alloc (.cells cells el)) (fun _ => False) := by
    refine ⟨rfl, rfl, rfl, ?_, fun b hb _ => ?_⟩
    · show w.heap.size ≤ (w.heap.push _).size
      rw [Array.size_push]; omega
    · show (w.heap.push _)[b]? = w.heap[b]?
      rw [Array.getElem?_push, if_neg (by omega)]
  exact ⟨_, _, π, _, h, n, k1, go_ext s E, .snil _, hk⟩

/-- a row without elements -/
theorem op_doneV0 (s : Sim w0 pass own0 π e h n a w) {o : Oper} {z : Nat} (hc : cOpT P o.op = some (.bsl z, [])) {K : Kont} (hk : sem .bsle (([] : List Opd).map (Opd.ev e)) h n K) :
    OpDone P w0 pass own0 π n w (execOp a.eval o) K := by
  have hc' : cOp P o.op = some (.bsl z, []) := by
    unfold cOpT at hc
    split at hc
    · rename_i x hx; rw [hx]; exact hc
    · exfalso
      have := cOpE_tag P o.op
      rw [Option.some.inj hc] at this
      simp at this
  unfold cOp at hc'
  unfold execOp
  split at hc' <;> first | (exfalso; (repeat' split at hc') <;> simp at hc' <;> done) | skip
  rename_i t len parts hop
  rw [hop]
  split at hc'
  · rename_i el hel
    split at hc'
    · rename_i zz hz
      split at hc'
      · rename_i hcond
        obtain ⟨l, h1, h2⟩ := map_some hc'
        cases h2
        exact opDone_value (snd_bsle s hel hz hcond.1 hcond.2.1 hcond.2.2.1 hcond.2.2.2 h1 hk)
      · cases hc'
    · cases hc'
  · cases hc'

/-- a row of elements that nobody writes -/
theorem op_doneV (s : Sim w0 pass own0 π e h n a w) {o : Oper} {z : Nat} {args : List Opd} (hc : cOpT P o.op = some (.bsl z, args)) {K : Kont} (hk : sem (.bslv z) (args.map (Opd.ev e)) h n K) :
    OpDone P w0 pass own0 π n w (execOp a.eval o) K := by
  have hc' : cOp P o.op = some (.bsl z, args) := by
    unfold cOpT at hc
    split at hc
    · rename_i x hx; rw [hx]; exact hc
    · exfalso
      have := cOpE_tag P o.op
      rw [Option.some.inj hc] at this
      simp at this
  unfold cOp at hc'
  unfold execOp
  split at hc' <;> first | (exfalso; (repeat' split at hc') <;> simp at hc' <;> done) | skip
  rename_i t len parts hop
  rw [hop]
  split at hc'
  · rename_i el hel
    split at hc'
    · rename_i zz hz
      split at hc'
      · rename_i hcond
        obtain ⟨l, h1, h2⟩ := map_some hc'
        cases h2
        exact opDone_value (snd_bslv s hel hz hcond.1 hcond.2.1 hcond.2.2.1 hcond.2.2.2 h1 hk)
      · cases hc'
    · cases hc'
  · cases hc'

theorem cBoolEq_spec {op : BinOp} {t : TypeId} (h : cBoolEq P op t = true) : P.underlying t = some .bool ∧ (op = .eql ∨ op = .neq) := by
  unfold cBoolEq at h
  split at h
  · exact ⟨by assumption, .inl rfl⟩
  · exact ⟨by assumption, .inr rfl⟩
  · cases h

theorem run_part1 {t : TypeId} (ht : (∃ k, P.underlying t = some (.int k)) ∨ P.underlying t = some .bool ∨ P.underlying t = some .string) {cs : Array Value} {i : Nat} {u : Value} (hu : cs[i]? = some u) : (part t cs i).run P w = .ok u w := by
  rcases ht with ⟨k, ht⟩ | ht | ht <;> simp [part, isAgg, run_underlying ht, hu]

theorem eqCells_cons {k : Nat} {ks : List Nat} {xs ys : List AV} {c : Bool} (h : eqCells (k :: ks) xs ys = some c) : ∃ x xs' y ys' b c', xs = x :: xs' ∧ ys = y :: ys' ∧ eqCells ks xs' ys' = some c' ∧ c = (b && c') ∧
    ((k = 0 ∧ ∃ kd a a', x = .int kd a ∧ y = .int kd a' ∧ b = (a == a')) ∨ (k = 1 ∧ ∃ a a', x = .bool a ∧ y = .bool a' ∧ b = (a == a')) ∨ (k = 2 ∧ ∃ a a', x = .str a ∧ y = .str a' ∧ b = (a == a'))) := by
  cases xs with
  | nil => simp [eqCells] at h
  | cons x xs =>
    cases ys with
    | nil => rcases k with _ | _ | _ | k <;> cases x <;> simp [eqCells] at h
    | cons y ys =>
      rcases k with _ | _ | _ | k
      · cases x <;> cases y <;> simp only [eqCells, reduceCtorEq] at h
        rename_i k1 a k2 b
        split at h
        · rename_i hk
          subst hk
          obtain ⟨c', h1, h2⟩ := Option.map_eq_some_iff.1 h
          exact ⟨_, _, _, _, a == b, c', rfl, rfl, h1, h2.symm, .inl ⟨rfl, k1, a, b, rfl, rfl, rfl⟩⟩
        · cases h
      · cases x <;> cases y <;> first | (simp [eqCells] at h; done) | skip
        rename_i a b
        have h : (eqCells ks xs ys).map (fun c => (a == b) && c) = some c := h
        obtain ⟨c', h1, h2⟩ := Option.map_eq_some_iff.1 h
        exact ⟨_, _, _, _, a == b, c', rfl, rfl, h1, h2.symm, .inr (.inl ⟨rfl, a, b, rfl, rfl, rfl⟩)⟩
      · cases x <;> cases y <;> first | (simp [eqCells] at h; done) | skip
        rename_i a b
        have h : (eqCells ks xs ys).map (fun c => (a == b) && c) = some c := h
        obtain ⟨c', h1, h2⟩ := Option.map_eq_some_iff.1 h
        exact ⟨_, _, _, _, a == b, c', rfl, rfl, h1, h2.symm, .inr (.inr ⟨rfl, a, b, rfl, rfl, rfl⟩)⟩
      · cases x <;> cases y <;> simp [eqCells] at h

theorem run_eqFields {own : Nat → Prop} {π : Pl} {n : Nat} : ∀ (fs : List Field) (i : Nat) (ks : List Nat) (xs ys : List AV) (c : Bool) (us vs : Array Value), cFieldKs P i fs = some ks → eqCells ks xs ys = some c →
    (∀ (j : Nat) x, xs[j]? = some x → ∃ u, us[i + j]? = some u ∧ Rel w own π n x u) → (∀ (j : Nat) x, ys[j]? = some x → ∃ u, vs[i + j]? = some u ∧ Rel w own π n x u) → (Op.eqFields 9999 us vs fs).run P w = .ok c w
  | [], i, ks, xs, ys, c, us, vs, hk, hc, hx, hy => by
    simp only [cFieldKs, Option.some.injEq] at hk
    subst hk
    unfold eqCells at hc
    split at hc <;> simp_all [Op.eqFields]
  | f :: fs, i, ks, xs, ys, c, us, vs, hk, hc, hx, hy => by
    simp only [cFieldKs] at hk
    split at hk
    · cases hk
    · rename_i hf
      have hf1 : ¬ f.name = "_" := fun h => hf (.inl h)
      have hf2 : f.offset = i := Classical.byContradiction fun h => hf (.inr h)
      have hstep : ∀ (x y : AV) (xs' ys' : List AV) (ks' : List Nat) (b c' : Bool), xs = x :: xs' → ys = y :: ys' → cFieldKs P (i + 1) fs = some ks' → eqCells ks' xs' ys' = some c' → c = (b && c') →
          ((∃ k, P.underlying f.type = some (.int k)) ∨ P.underlying f.type = some .bool ∨ P.underlying f.type = some .string) →
          (∀ u v, Rel w own π n x u → Rel w own π n y v → (Op.equalIn 9999 f.type u v).run P w = .ok b w) → (Op.eqFields 9999 us vs (f :: fs)).run P w = .ok c w := by
        intro x y xs' ys' ks' b c' ex ey hk' hc' ec ht he
        subst ex; subst ey; subst ec
        obtain ⟨u, hu, ru⟩ := hx 0 x rfl
        obtain ⟨v, hv, rv⟩ := hy 0 y rfl
        rw [Nat.add_zero] at hu hv
        have ih := run_eqFields fs (i + 1) ks' xs' ys' c' us vs hk' hc' (fun j z hz => by have := hx (j + 1) z (by simpa using hz); rwa [show i + (j + 1) = i + 1 + j by omega] at this)
          (fun j z hz => by have := hy (j + 1) z (by simpa using hz); rwa [show i + (j + 1) = i + 1 + j by omega] at this)
        simp only [Op.eqFields, ne_eq, hf1, not_false_eq_true, if_true, hf2, Sem.run_bind, run_part1 (w := w) ht hu, run_part1 (w := w) ht hv, Result.andThen_ok, he u v ru rv]
        cases b
        · simp
        · simpa using ih
      split at hk
      · rename_i k ht
        obtain ⟨ks', hk', rfl⟩ := Option.map_eq_some_iff.1 hk
        obtain ⟨x, xs', y, ys', b, c', rfl, rfl, h1, h2, h3⟩ := eqCells_cons hc
        rcases h3 with ⟨_, kd, a, a', rfl, rfl, rfl⟩ | ⟨h, _⟩ | ⟨h, _⟩
        · refine hstep _ _ xs' ys' ks' (a == a') c' rfl rfl hk' h1 h2 (.inl ⟨k, ht⟩) (fun u v ru rv => ?_)
          cases ru; cases rv
          exact run_equalIn_int w 9998 f.type _ _ _ _ ht
        · cases h
        · cases h
      · rename_i ht
        obtain ⟨ks', hk', rfl⟩ := Option.map_eq_some_iff.1 hk
        obtain ⟨x, xs', y, ys', b, c', rfl, rfl, h1, h2, h3⟩ := eqCells_cons hc
        rcases h3 with ⟨h, _⟩ | ⟨_, a, a', rfl, rfl, rfl⟩ | ⟨h, _⟩
        · cases h
        · refine hstep _ _ xs' ys' ks' (a == a') c' rfl rfl hk' h1 h2 (.inr (.inl ht)) (fun u v ru rv => ?_)
          cases ru; cases rv
          exact run_equalIn_bool' w 9998 f.type _ _ ht
        · cases h
      · rename_i ht
        obtain ⟨ks', hk', rfl⟩ := Option.map_eq_some_iff.1 hk
        obtain ⟨x, xs', y, ys', b, c', rfl, rfl, h1, h2, h3⟩ := eqCells_cons hc
        rcases h3 with ⟨h, _⟩ | ⟨h, _⟩ | ⟨_, a, a', rfl, rfl, rfl⟩
        · cases h
        · cases h
        · refine hstep _ _ xs' ys' ks' (a == a') c' rfl rfl hk' h1 h2 (.inr (.inr ht)) (fun u v ru rv => ?_)
          cases ru; cases rv
          have e := run_equalIn_string (P := P) w 9998 f.type ⟨a.toArray⟩ ⟨a'.toArray⟩ ht
          rw [e, ByteArray.toList_eq, ByteArray.toList_eq]
      · cases hk

theorem cNilEq_spec {P : Program} {op : BinOp} {t : TypeId} {y : Operand} {g : Bool} (h : cNilEq P op t y = some g) :
    ∃ el, P.underlying t = some (.slice el) ∧ y = .const (.slice none 0 0) ∧ ((op = .eql ∧ g = false) ∨ (op = .neq ∧ g = true)) := by
  unfold cNilEq at h
  split at h
  · rename_i el ht; cases h; exact ⟨el, ht, rfl, .inl ⟨rfl, rfl⟩⟩
  · rename_i el ht; cases h; exact ⟨el, ht, rfl, .inr ⟨rfl, rfl⟩⟩
  · cases h

theorem run_eqIn_slice_nil0 {P : Program} (w : World) (d : Nat) (t e : TypeId) (a : Option Addr) (l c : Nat) (h : P.underlying t = some (.slice e)) : (Op.equalIn (d + 1) t (.slice a l c) (.slice none 0 0)).run P w = .ok a.isNone w := by
  cases a <;> simp [Op.equalIn, run_underlying h]
theorem run_eq_slice_nil0 {P : Program} (w : World) (t e : TypeId) (a : Option Addr) (l c : Nat) (h : P.underlying t = some (.slice e)) : (Op.equalIn 10000 t (.slice a l c) (.slice none 0 0)).run P w = .ok a.isNone w :=
  run_eqIn_slice_nil0 w 9999 t e a l c h
theorem run_eql_slice_nil0 {P : Program} (w : World) (t e : TypeId) (a : Option Addr) (l c : Nat) (h : P.underlying t = some (.slice e)) : (binOp .eql t (.slice a l c) (.slice none 0 0)).run P w = .ok (.bool a.isNone) w := by
  simp only [binOp]
  simp [Op.equal, Op.maxDepth, run_eq_slice_nil0 w t e a l c h]
theorem run_neq_slice_nil0 {P : Program} (w : World) (t e : TypeId) (a : Option Addr) (l c : Nat) (h : P.underlying t = some (.slice e)) : (binOp .neq t (.slice a l c) (.slice none 0 0)).run P w = .ok (.bool (!a.isNone)) w := by
  simp only [binOp]
  simp [Op.equal, Op.maxDepth, run_eq_slice_nil0 w t e a l c h]

theorem cStructEq_spec {op : BinOp} {t : TypeId} {g : Bool} {ks : List Nat} (h : cStructEq P op t = some (g, ks)) :
    ∃ fs, P.underlying t = some (.struct fs) ∧ P.stoodInHeld t = false ∧ P.eqGuardType P.depth t = false ∧ cFieldKs P 0 fs.toList = some ks ∧ ((op = .eql ∧ g = false) ∨ (op = .neq ∧ g = true)) := by
  unfold cStructEq at h
  split at h
  · rename_i fs ht
    split at h
    · rename_i hh
      split at h
      · obtain ⟨ks', h1, h2⟩ := Option.map_eq_some_iff.1 h
        cases h2
        exact ⟨fs, ht, hh.1, hh.2, h1, .inl ⟨rfl, rfl⟩⟩
      · obtain ⟨ks', h1, h2⟩ := Option.map_eq_some_iff.1 h
        cases h2
        exact ⟨fs, ht, hh.1, hh.2, h1, .inr ⟨rfl, rfl⟩⟩
      · cases h
    · cases h
  · cases h

theorem op_doneT (s : Sim w0 pass own0 π e h n a w) {o : Oper} {tag : Tag} {args : List Opd} (hc : cOpT P o.op = some (tag, args)) {K : Kont} (hk : sem tag (args.map (Opd.ev e)) h n K) :
    OpDone P w0 pass own0 π n w (execOp a.eval o) K := by
  unfold cOpT at hc
  split at hc
  · rename_i x hx
    rw [hc] at hx
    exact op_done s hx hk
  · rename_i hnone
    have hc := Option.some.inj hc
    unfold execOp
    unfold cOpE at hc
    split at hc
    · rename_i src dst x hop
      rw [hop]
      split at hc
      · rename_i el hs hd
        split at hc
        · rename_i l he hl
          cases hc
          obtain ⟨y, rfl, hy⟩ := cOpds1 hl
          simp only [List.map_cons, List.map_nil, sem] at hk
          obtain ⟨bs, hb, hk⟩ := hk
          exact opDone_value (snd_b2s s hs he hd (rel_opd s hy) hb hk)
        · cases hc; exact hk.elim
      · rename_i el hs hd
        split at hc
        · rename_i l he hl
          cases hc
          obtain ⟨y, rfl, hy⟩ := cOpds1 hl
          have r1 := rel_opd s hy
          simp only [List.map_cons, List.map_nil] at hk
          generalize Opd.ev e y = yy at r1 hk
          cases yy <;> simp only [sem] at hk <;> first | exact hk.elim | skip
          exact opDone_value (snd_s2b s hs hd he r1 hk.1 hk.2)
        · cases hc; exact hk.elim
      · cases hc; exact hk.elim
    · rename_i t x i hop
      rw [hop]
      split at hc
      · rename_i len el ht
        split at hc
        · rename_i l ha hz hl
          cases hc
          obtain ⟨x', i', rfl, hx', hi'⟩ := cOpds2 hl
          have r1 := rel_opd s hx'
          have r2 := rel_opd s hi'
          simp only [List.map_cons, List.map_nil] at hk
          generalize Opd.ev e x' = xx at r1 hk
          generalize Opd.ev e i' = ii at r2 hk
          cases xx <;> simp only [sem] at hk <;> first | exact hk.elim | skip
          cases ii <;> simp only [] at hk <;> first | exact hk.elim | skip
          obtain ⟨k0, k1, k2⟩ := hk
          split at k2
          · rename_i c hcc
            exact opDone_value (snd_aidx s ht ha hz r1 r2 k0 k1 hcc k2)
          · exact k2.elim
        · cases hc; exact hk.elim
      · cases hc; exact hk.elim
    · rename_i op t x y t' hop
      rw [hop]
      split at hc
      · rename_i hb
        obtain ⟨ht, ho⟩ := cBoolEq_spec hb
        split at hc
        all_goals first | (cases hc; exact hk.elim) | skip
        all_goals
          rename_i l hl
          cases hc
          obtain ⟨x', y', rfl, hx', hy'⟩ := cOpds2 hl
          have r1 := rel_opd s hx'
          have r2 := rel_opd s hy'
          simp only [List.map_cons, List.map_nil] at hk
          generalize Opd.ev e x' = xx at r1 hk
          generalize Opd.ev e y' = yy at r2 hk
          cases xx <;> simp only [sem] at hk <;> first | exact hk.elim | skip
          cases yy <;> simp only [] at hk <;> first | exact hk.elim | skip
          rename_i b1 b2
          have hu : a.eval x = .bool b1 := by generalize a.eval x = u at r1; cases r1; rfl
          have hv : a.eval y = .bool b2 := by generalize a.eval y = u at r2; cases r2; rfl
          refine opDone_value (done_same s (v := _) (x := .bool _) ?_ (.bool _) hk)
          simp [hu, hv, eqGuard, run_eql_bool, run_neq_bool, ht]
      · split at hc
        · rename_i g ks l hst hl
          cases hc
          obtain ⟨fs, ht, hsi, heg, hks, hop'⟩ := cStructEq_spec hst
          obtain ⟨x', y', rfl, hx', hy'⟩ := cOpds2 hl
          have r1 := rel_opd s hx'
          have r2 := rel_opd s hy'
          simp only [List.map_cons, List.map_nil] at hk
          generalize Opd.ev e x' = xx at r1 hk
          generalize Opd.ev e y' = yy at r2 hk
          cases xx <;> simp only [sem] at hk <;> first | exact hk.elim | skip
          cases yy <;> simp only [] at hk <;> first | exact hk.elim | skip
          rename_i xs ys
          split at hk
          · rename_i c hcc
            have hu : ∃ us, a.eval x = .agg us ∧ us.size = xs.length ∧ ∀ (i : Nat) x u, xs[i]? = some x → us[i]? = some u → Rel w (ownOf own0 π) π n x u := by
              generalize a.eval x = u at r1; cases r1 with | agg _ us h1 h2 => exact ⟨us, rfl, h1, h2⟩
            have hv : ∃ us, a.eval y = .agg us ∧ us.size = ys.length ∧ ∀ (i : Nat) x u, ys[i]? = some x → us[i]? = some u → Rel w (ownOf own0 π) π n x u := by
              generalize a.eval y = u at r2; cases r2 with | agg _ us h1 h2 => exact ⟨us, rfl, h1, h2⟩
            obtain ⟨us, eu, su, hu⟩ := hu
            obtain ⟨vs, ev, sv, hv⟩ := hv
            have get : ∀ (l : List AV) (us : Array Value), us.size = l.length → (∀ (i : Nat) x u, l[i]? = some x → us[i]? = some u → Rel w (ownOf own0 π) π n x u) → ∀ (j : Nat) x, l[j]? = some x → ∃ u, us[0 + j]? = some u ∧ Rel w (ownOf own0 π) π n x u := by
              intro l us hs hh j x hx
              have hlt := (List.getElem?_eq_some_iff.1 hx).1
              have hj : us[j]? = some us[j] := Array.getElem?_eq_getElem (by omega)
              exact ⟨us[j], by rw [Nat.zero_add]; exact hj, hh j x _ hx hj⟩
            have hrun := run_eqFields (P := P) (w := w) fs.toList 0 ks xs ys c us vs hks hcc (get xs us su hu) (get ys vs sv hv)
            have hft : P.fieldsOf t = fs := by unfold Program.fieldsOf; rw [ht]
            have heq : (Op.equalIn 10000 t (.agg us) (.agg vs)).run P w = .ok c w := by
              rw [show (10000 : Nat) = 9999 + 1 from rfl, run_equalIn_struct w 9999 t us vs (by rw [hft]; exact ht) hsi, hft]
              exact hrun
            refine opDone_value (done_same s (v := _) (x := .bool _) ?_ (.bool _) hk)
            rcases hop' with ⟨rfl, rfl⟩ | ⟨rfl, rfl⟩
            · simp [eu, ev, run_eqGuard_agg, heg, run_eql_struct, heq]
            · simp [eu, ev, run_eqGuard_agg, heg, run_neq_struct, heq]
          · exact hk.elim
        · split at hc
          · rename_i g l hnl hl
            cases hc
            obtain ⟨el, ht, rfl, hop'⟩ := cNilEq_spec hnl
            obtain ⟨x', rfl, hx'⟩ := cOpds1 hl
            have r1 := rel_opd s hx'
            simp only [List.map_cons, List.map_nil] at hk
            generalize Opd.ev e x' = xx at r1 hk
            have key : ∀ (c : Prop) (ad : Option Addr) (len cap : Nat), a.eval x = .slice ad len cap → (ad = none → c) → K (maybeN g c) h n →
                Done P w0 pass own0 π n w (do eqGuard op t x (.const (.slice none 0 0)) (a.eval x) (a.eval (.const (.slice none 0 0))); binOp op t (a.eval x) (a.eval (.const (.slice none 0 0)))) K := by
              intro c ad len cap hu hcc hk
              have he2 : a.eval (.const (.slice none 0 0)) = .slice none 0 0 := rfl
              rw [hu, he2]
              rcases hop' with ⟨rfl, rfl⟩ | ⟨rfl, rfl⟩
              · refine done_same s (v := .bool ad.isNone) (x := .maybe c True) ?_ (.maybe _ _ _ (fun hh => hcc (by simpa using hh)) (fun _ => trivial)) hk
                simp [eqGuard, run_eql_slice_nil0 w t el ad len cap ht]
              · refine done_same s (v := .bool (!ad.isNone)) (x := .maybe True c) ?_ (.maybe _ _ _ (fun _ => trivial) (fun hh => hcc (by simpa using hh))) hk
                simp [eqGuard, run_neq_slice_nil0 w t el ad len cap ht]
            refine opDone_value ?_
            cases xx <;> simp only [sem] at hk <;> first | exact hk.elim | skip
            · rename_i id off len
              split at hk
              · rename_i o ho
                generalize hu : a.eval x = u at r1
                cases r1 with
                | refLive _ _ _ b cap p hp hb h1 h2 => rw [← hu]; exact key (len = 0) _ _ _ hu (fun hh => by cases hh) hk
                | refEnd => rw [← hu]; exact key _ _ _ _ hu (fun hh => by cases hh) hk
                | refNil => rw [← hu]; exact key _ _ _ _ hu (fun _ => rfl) hk
                | refDead _ _ _ ad cap hd hn =>
                  obtain ⟨_, p, hp, _⟩ := s.hs.obj _ _ ho
                  rw [hd] at hp; cases hp
              · exact hk.elim
            · generalize hu : a.eval x = u at r1
              cases r1 with
              | snil ad => rw [← hu]; exact key True _ _ _ hu (fun _ => trivial) hk
            · generalize hu : a.eval x = u at r1
              cases r1 with
              | valNil ad cap => rw [← hu]; exact key _ _ _ _ hu (fun _ => rfl) hk
              | val => rw [← hu]; exact key _ _ _ _ hu (fun hh => by cases hh) hk
          · cases hc; exact hk.elim
    · rename_i c hop
      obtain ⟨callee, cargs, ctys⟩ := c
      rw [hop]
      split at hc
      · rename_i hcal
        have hcal : callee = .builtin .cap := hcal
        subst hcal
        split at hc
        · rename_i t x ht hargs
          split at hc
          · rename_i el l hsl hl
            cases hc
            obtain ⟨y, rfl, hy⟩ := cOpds1 hl
            have r1 := rel_opd s hy
            simp only [List.map_cons, List.map_nil] at hk
            generalize Opd.ev e y = yy at r1 hk
            cases yy <;> simp only [sem] at hk <;> first | exact hk.elim | skip
            have e1 : ctys = #[t] := Array.toList_inj.1 (by simpa using ht)
            have e2 : cargs = #[x] := Array.toList_inj.1 (by simpa using hargs)
            subst e1; subst e2
            obtain ⟨ad, hu⟩ : ∃ ad, a.eval x = Value.slice ad 0 0 := by generalize a.eval x = u at r1; cases r1 with | snil ad => exact ⟨ad, rfl⟩
            have hd : Done P w0 pass own0 π n w (Builtin.cap_ #[t] o.type #[a.eval x]) K := by
              rw [hu]
              exact done_same s (v := goInt 0) (by simp [Builtin.cap_, run_underlying hsl]) (.int .i64 0) hk
            have := opDone_value hd
            simpa [resolve, invoke, builtin] using this
          · cases hc; exact hk.elim
        · cases hc; exact hk.elim
      · rename_i hcal
        have hcal : callee = .builtin .append := hcal
        subst hcal
        split at hc
        · rename_i t u x y ht hargs
          split at hc
          · rename_i el k' l hel hu hl
            split at hc
            · rename_i z b zero hz hb hzero
              split at hc
              · rename_i hcond
                cases hc
                obtain ⟨x', y', rfl, hx', hy'⟩ := cOpds2 hl
                have := snd_apz (P := P) (ty := o.type) s hel hu hz hb hzero hcond.1 hcond.2 (rel_opd s hx') (rel_opd s hy') (K := K) (by simpa using hk)
                have := opDone_value this
                have e1 : ctys = #[t, u] := Array.toList_inj.1 (by simpa using ht)
                have e2 : cargs = #[x, y] := Array.toList_inj.1 (by simpa using hargs)
                subst e1; subst e2
                simpa [resolve, invoke, builtin] using this
              · cases hc; exact hk.elim
            · cases hc; exact hk.elim
          · cases hc; exact hk.elim
        · cases hc; exact hk.elim
      · cases hc; exact hk.elim
    · cases hc; exact hk.elim

end
end Go.Proofs.Ytpfbkblgefddlaa.Av
