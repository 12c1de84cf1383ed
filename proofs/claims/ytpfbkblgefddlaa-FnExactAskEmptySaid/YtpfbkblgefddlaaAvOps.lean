/- Each operation, but calls: what it does in the model is what `sem` says. -/
import Derived.Test.YtpfbkblgefddlaaAvComp
import Derived.Laws.Strings
import Derived.Laws.Slices
import Derived.Laws.Tables
namespace Go.Proofs.Ytpfbkblgefddlaa.Av
set_option linter.unusedSimpArgs false
set_option linter.unusedVariables false
open Go

section
variable {P : Program} {w0 : World} {pass own0 : Nat → Prop} {π : Pl} {e : Env} {h : Heap} {n : Nat} {a : Act} {w : World}

theorem rel_cVal1 {own : Nat → Prop} {v : Value} {x : AV} (hc : cVal1 v = some x) : Rel w own π n x v := by
  unfold cVal1 at hc
  split at hc <;> first | cases hc | skip
  · exact .int _ _
  · exact .bool _
  · rename_i s; have := Rel.str (w := w) (own := own) (π := π) (N := n) s.data.toList; simpa using this
  · exact .snil none
  · exact .pnil
  · exact .fnil

theorem rel_cVals {own : Nat → Prop} : ∀ (vs : List Value) (xs : List AV), cVals vs = some xs → vs.length = xs.length ∧ ∀ (i : Nat) x u, xs[i]? = some x → vs[i]? = some u → Rel w own π n x u
  | [], xs, hc => by cases hc; simp
  | v :: r, xs, hc => by
    unfold cVals at hc
    split at hc
    · rename_i x y h1 h2
      cases hc
      obtain ⟨g1, g2⟩ := rel_cVals r y h2
      refine ⟨by simp [g1], fun i z u hz hu => ?_⟩
      cases i with
      | zero => simp at hz hu; subst hz; subst hu; exact rel_cVal1 h1
      | succ i => exact g2 i z u (by simpa using hz) (by simpa using hu)
    · cases hc

theorem rel_cVal {own : Nat → Prop} {v : Value} {x : AV} (hc : cVal v = some x) : Rel w own π n x v := by
  unfold cVal at hc
  split at hc
  · rename_i cs
    cases hv : cVals cs.toList with
    | none => simp [hv] at hc
    | some xs =>
      simp [hv] at hc; subst hc
      obtain ⟨g1, g2⟩ := rel_cVals (w := w) (own := own) (π := π) (n := n) _ _ hv
      exact .agg xs cs (by simpa using g1) (fun i x u h1 h2 => g2 i x u h1 (by simpa using h2))
  · exact rel_cVal1 hc

theorem rel_opd (s : Sim w0 pass own0 π e h n a w) {x : Operand} {y : Opd} (hc : cOpd x = some y) : Rel w (ownOf own0 π) π n (y.ev e) (a.eval x) := by
  cases x with
  | tmp t => simp [cOpd] at hc; subst hc; exact s.env t
  | const v =>
    simp [cOpd] at hc
    obtain ⟨x, h1, rfl⟩ := hc
    exact rel_cVal h1
  | global g => simp [cOpd] at hc
  | func f => simp [cOpd] at hc; subst hc; exact .fn f [] #[] rfl (by simp)

theorem cOpds1 {x : Operand} {l : List Opd} (hc : cOpds [x] = some l) : ∃ y, l = [y] ∧ cOpd x = some y := by
  simp only [cOpds] at hc
  cases h1 : cOpd x <;> simp [h1] at hc
  exact ⟨_, hc.symm, rfl⟩
theorem cOpds2 {x y : Operand} {l : List Opd} (hc : cOpds [x, y] = some l) : ∃ a b, l = [a, b] ∧ cOpd x = some a ∧ cOpd y = some b := by
  simp only [cOpds] at hc
  cases h1 : cOpd x <;> cases h2 : cOpd y <;> simp [h1, h2] at hc
  exact ⟨_, _, hc.symm, rfl, rfl⟩
theorem cOpds3 {x y z : Operand} {l : List Opd} (hc : cOpds [x, y, z] = some l) : ∃ a b c, l = [a, b, c] ∧ cOpd x = some a ∧ cOpd y = some b ∧ cOpd z = some c := by
  simp only [cOpds] at hc
  cases h1 : cOpd x <;> cases h2 : cOpd y <;> cases h3 : cOpd z <;> simp [h1, h2, h3] at hc
  exact ⟨_, _, _, hc.symm, rfl, rfl, rfl⟩

/-- operands one by one -/
theorem rel_opds (s : Sim w0 pass own0 π e h n a w) : ∀ (xs : List Operand) (ys : List Opd), cOpds xs = some ys →
    (ys.map (Opd.ev e)).length = (xs.map a.eval).length ∧ ∀ (i : Nat) x u, (ys.map (Opd.ev e))[i]? = some x → (xs.map a.eval)[i]? = some u → Rel w (ownOf own0 π) π n x u
  | [], ys, hc => by simp [cOpds] at hc; subst hc; simp
  | x :: r, ys, hc => by
    simp only [cOpds] at hc
    cases h1 : cOpd x with
    | none => simp [h1] at hc
    | some y =>
      cases h2 : cOpds r with
      | none => simp [h1, h2] at hc
      | some z =>
        simp [h1, h2] at hc; subst hc
        obtain ⟨g1, g2⟩ := rel_opds s r z h2
        refine ⟨by simpa using g1, fun i u v hu hv => ?_⟩
        cases i with
        | zero => simp at hu hv; subst hu; subst hv; exact rel_opd s h1
        | succ i => exact g2 i u v (by simpa using hu) (by simpa using hv)

/-- The value that an operation leaves in its slot. -/
def nextVal : Next → Option Value
  | .value v => some v
  | .skip => some Go.undef
  | _ => none

/-- what is to be shown of an operation -/
def Done (P : Program) (w0 : World) (pass own0 : Nat → Prop) (π : Pl) (n : Nat) (w : World) (s : Sem Value) (K : Kont) : Prop :=
  ∃ v w' π' x h' n', s.run P w = .ok v w' ∧ Go1 w0 pass own0 π n w π' h' n' w' ∧ Rel w' (ownOf own0 π') π' n' x v ∧ K x h' n'

theorem done_same (s : Sim w0 pass own0 π e h n a w) {m : Sem Value} {K : Kont} {v : Value} {x : AV} (hr : m.run P w = .ok v w) (hx : Rel w (ownOf own0 π) π n x v) (hk : K x h n) :
    Done P w0 pass own0 π n w m K := ⟨v, w, π, x, h, n, hr, s.stay, hx, hk⟩

theorem snd_int (op : BinOp) (k : IntKind) (x y : Int) {K : AV → Prop} (hk : semInt op k x y K) (hns : ¬ (op = .shl ∨ op = .shr)) (t : TypeId) :
    ∃ v z, (binOp op t (.int k x) (.int k y)).run P w = .ok v w ∧ (∀ own π n, Rel w own π n z v) ∧ K z := by
  unfold semInt at hk
  cases op <;> first | (simp at hns; done) | skip
  all_goals simp only [] at hk
  all_goals first | exact hk.elim | skip
  all_goals
    first
      | (obtain ⟨_, rfl, hk⟩ := hk; exact ⟨_, _, by simp [binOp, Op.intArith, Op.intBits], fun _ _ _ => .int _ _, hk⟩)
      | (obtain ⟨h0, _, rfl, hk⟩ := hk; exact ⟨_, _, by simp [binOp, Op.intDiv, h0], fun _ _ _ => .int _ _, hk⟩)
      | exact ⟨_, _, by simp [binOp, Op.intArith, Op.intBits], fun _ _ _ => .int _ _, hk⟩
      | exact ⟨_, _, by simp [binOp, Op.intCmp], fun _ _ _ => .bool _, hk⟩
      | exact ⟨_, _, by simp [binOp, Op.intDiv, hk.1], fun _ _ _ => .int _ _, hk.2⟩

theorem snd_shift (op : BinOp) (k k' : IntKind) (x y : Int) {K : AV → Prop} (hk : semShift op k x y K) (t : TypeId) :
    ∃ v z, (binOp op t (.int k x) (.int k' y)).run P w = .ok v w ∧ (∀ own π n, Rel w own π n z v) ∧ K z := by
  unfold semShift at hk
  cases op <;> simp only [] at hk
  all_goals first | exact hk.elim | skip
  all_goals
    obtain ⟨h0, hk⟩ := hk
    have h0' : ¬ y < 0 := by omega
    exact ⟨_, _, by simp [binOp, Op.shift, h0', Nat.min_def, Nat.min], fun _ _ _ => .int _ _, hk⟩


theorem snd_str (op : BinOp) (x y : List UInt8) {K : AV → Prop} (hk : semStr op x y K) (t : TypeId) :
    ∃ v z, (binOp op t (.string ⟨x.toArray⟩) (.string ⟨y.toArray⟩)).run P w = .ok v w ∧ (∀ own π n, Rel w own π n z v) ∧ K z := by
  unfold semStr at hk
  cases op <;> simp only [] at hk
  all_goals first | exact hk.elim | skip
  · obtain ⟨h0, hk⟩ := hk
    refine ⟨.string ⟨(x ++ y).toArray⟩, _, ?_, fun _ _ _ => .str _, hk⟩
    have h1 : ¬ (((x.length + y.length : Nat) : Int) > IntKind.i64.max) := by
      simp only [IntKind.max, IntKind.signed, IntKind.bits]; omega
    simp [binOp, Op.stringOp, ByteArray.size] at h1 ⊢
    rw [if_neg (by omega)]
    simp
    apply ByteArray.ext
    simp
  · exact ⟨_, _, by simp [binOp, Op.stringOp], fun _ _ _ => .bool _, hk⟩
  · exact ⟨_, _, by simp [binOp, Op.stringOp], fun _ _ _ => .bool _, hk⟩

theorem snd_bin {own : Nat → Prop} (op : BinOp) {x y : AV} {u v : Value} (hx : Rel w own π n x u) (hy : Rel w own π n y v) {K : AV → Prop} (hk : semBin op x y K) (t : TypeId) :
    ∃ r z, (binOp op t u v).run P w = .ok r w ∧ (∀ own π n, Rel w own π n z r) ∧ K z := by
  unfold semBin at hk
  split at hk
  · rename_i k a k' b
    cases hx; cases hy
    split at hk
    · exact snd_shift op k k' a b hk t
    · rename_i hns
      obtain ⟨rfl, hk⟩ := hk
      exact snd_int op k a b hk hns t
  · rename_i a b
    cases hx; cases hy
    exact snd_str op a b hk t
  · exact hk.elim

/-- A cell that may be stored is one cell. -/
theorem okc_of_free {x : AV} (hf : x.free = true) : x.okc h := by cases x <;> simp [AV.free, AV.okc] at hf ⊢

theorem one_of_okc {own : Nat → Prop} {x : AV} {v : Value} (hr : Rel w own π n x v) (ho : x.okc h) : v.oneCell' = true ∧ v.cells = #[v] := by
  cases hr <;> simp only [AV.okc] at ho <;> first | exact ⟨rfl, rfl⟩ | exact ho.elim

/-- A value's cells stand for the cells. -/
theorem rel_cells {own : Nat → Prop} {x : AV} {v : Value} (hr : Rel w own π n x v) (ho : ∀ c ∈ x.cells, c.okc h) :
    v.cells.size = x.cells.length ∧ (∀ (j : Nat) c u, x.cells[j]? = some c → v.cells[j]? = some u → Rel w own π n c u) ∧ ∀ u ∈ v.cells.toList, u.oneCell' = true := by
  have key : x.okc h → x.cells = [x] → v.cells.size = x.cells.length ∧ (∀ (j : Nat) c u, x.cells[j]? = some c → v.cells[j]? = some u → Rel w own π n c u) ∧ ∀ u ∈ v.cells.toList, u.oneCell' = true := by
    intro h1 h2
    obtain ⟨g1, g2⟩ := one_of_okc hr h1
    rw [h2, g2]
    refine ⟨rfl, fun j c u hc hu => ?_, fun u hu => ?_⟩
    · cases j with
      | zero => simp at hc hu; subst hc; subst hu; exact hr
      | succ j => simp at hc
    · simp at hu; subst hu; exact g1
  cases hx : x with
  | agg vs =>
    subst hx
    cases hr with
    | agg _ cs hl hh =>
      refine ⟨hl, hh, fun u hu => ?_⟩
      obtain ⟨j, hj⟩ := List.getElem?_of_mem hu
      have hj' : cs[j]? = some u := by simpa [Value.cells] using hj
      have hlt : j < vs.length := by rw [← hl]; exact (Array.getElem?_eq_some_iff.1 hj').1
      have hc : vs[j]? = some vs[j] := List.getElem?_eq_getElem hlt
      exact (one_of_okc (hh j _ u hc hj') (ho _ (by simp [AV.cells]))).1
  | _ =>
    subst hx
    exact key (ho _ (by simp [AV.cells])) (by simp [AV.cells])

theorem run_newVar (t : TypeId) (v : Value) : (newVar t v).run P w = .ok ⟨w.heap.size, 0, none⟩ (w.alloc (.cells v.cells t)) := by
  simp [newVar, newRow]

theorem adds_new (hs : HSim own0 π h n w) (o : Obj) (w1 : World) (h1 : w1 = w ∨ w1 = w.drew) (s c : Nat) : Adds own0 π h n w none ⟨some w.heap.size, s, c⟩ (w1.alloc o) := by
  refine ⟨hs, ?_, ?_, ?_, ?_, .inr (.inl rfl), ?_⟩
  · rcases h1 with rfl | rfl <;> simp
  · rcases h1 with rfl | rfl <;> rfl
  · rcases h1 with rfl | rfl <;> rfl
  · rcases h1 with rfl | rfl <;> rfl
  · intro b hb _
    rcases h1 with rfl | rfl
    · exact heap_alloc_old _ o b hb
    · exact heap_alloc_old _ o b hb

theorem ref_new (w : World) (own : Nat → Prop) (π : Pl) (kill : Option Nat) (n : Nat) (p : Place) {b : Nat} (hb : p.blk = some b) (N : Nat) : Rel w own (plAdd π kill n p) N (.ptr n 0 0) (.pointer (some ⟨b, 0, none⟩)) := by
  have := Rel.ptrLive (w := w) (own := own) (N := N) n 0 0 b p (π := plAdd π kill n p) (by simp [plAdd]) hb
  simpa using this

/-- A new variable. -/
theorem snd_var (s : Sim w0 pass own0 π e h n a w) {row : List AV} {v : Value} (t : TypeId) {K : Kont} (hl : v.cells.size = row.length)
    (hr : ∀ (j : Nat) c u, row[j]? = some c → v.cells[j]? = some u → Rel w (ownOf own0 π) π n c u) (hk : K (.ptr n 0 0) (h.set n (.box row)) (n + 1)) :
    Done P w0 pass own0 π n w (do pure (.pointer (some (← newVar t v)))) K := by
  have A := adds_new s.hs (.cells v.cells t) w (.inl rfl) 0 0
  refine ⟨_, _, _, _, _, _, by simp [run_newVar], A.go s.fr (o := .box row) ?_, ref_new _ _ _ _ _ _ rfl _, by rw [hpAdd_none]; exact hk⟩
  exact ⟨_, v.cells, t, rfl, by rw [heap_alloc_new], hl, fun j x u hx hu => (hr j x u hx hu).mono A.mono⟩


/-! ### loads and stores -/

def AObj.rowAt : AObj → Nat → Option (List AV)
  | .box row, i => if i = 0 then some row else none
  | .arr _ rows, i => rows[i]?
  | .nst _ rows, i => rows[i]?
  | .arx _ rows, i => rows[i]?

/-- its cells own nothing -/
def AObj.plain : AObj → Bool
  | .box _ => true
  | .arr _ _ => true
  | _ => false

theorem cellAt_lone {own : Nat → Prop} {id i j : Nat} {x : AV} {u : Value} (hx : x.lone = true) : CellAt w own π n id i j x u ↔ Rel w own π n x u := by
  cases x <;> first | exact Iff.rfl | (simp [AV.lone] at hx)

theorem idx_lt {i j s c : Nat} (hi : i < c) (hj : j < s) : i * s + j < c * s := by
  have h1 : (i + 1) * s ≤ c * s := Nat.mul_le_mul_right s hi
  have h2 : (i + 1) * s = i * s + s := by rw [Nat.add_mul, Nat.one_mul]
  omega

theorem nst_at {own : Nat → Prop} {id : Nat} {p : Place} {s : Nat} {rows : List (List AV)} (ho : NstAt w own π n id p s rows) {i j : Nat} {row : List AV} {x : AV} (hr : rows[i]? = some row) (hx : row[j]? = some x) :
    ∃ b u, p.blk = some b ∧ w.cell? ⟨b, i * p.sz + j, none⟩ = some u ∧ CellAt w own π n id i j x u := by
  obtain ⟨h1, h2, h3⟩ := ho
  have hi : i < rows.length := (List.getElem?_eq_some_iff.1 hr).1
  cases hb : p.blk with
  | none => simp only [hb] at h3; subst h3; simp at hi
  | some b =>
    simp only [hb] at h3
    obtain ⟨cur, e, g1, g2, g3, g4, g5⟩ := h3
    have hj : j < s := by rw [← h2 i row hr]; exact (List.getElem?_eq_some_iff.1 hx).1
    have hlt : i * s + j < cur.size := by rw [g2]; exact idx_lt (by omega) hj
    refine ⟨b, cur[i * s + j], rfl, ?_, g5 i j row x _ hr hx (Array.getElem?_eq_getElem hlt)⟩
    rw [h1, cell_of_row w b _ cur e (0, 0) g1]
    exact Array.getElem?_eq_getElem hlt

theorem cell_at {own : Nat → Prop} {id : Nat} {p : Place} {o : AObj} (ho : ObjAt w own π n id p o) {i j : Nat} {row : List AV} {x : AV} (hr : o.rowAt i = some row) (hx : row[j]? = some x) :
    ∃ b u, p.blk = some b ∧ w.cell? ⟨b, i * p.sz + j, none⟩ = some u ∧ (o.plain = true ∨ x.lone = true → Rel w own π n x u) := by
  cases o with
  | box row' =>
    simp only [AObj.rowAt] at hr
    split at hr
    · rename_i hi; subst hi; cases hr
      obtain ⟨b, cur, e, h1, h2, h3, h4⟩ := ho
      have hlt : j < cur.size := by rw [h3]; exact (List.getElem?_eq_some_iff.1 hx).1
      refine ⟨b, cur[j], h1, ?_, fun _ => h4 j x _ hx (Array.getElem?_eq_getElem hlt)⟩
      rw [Nat.zero_mul, Nat.zero_add, cell_of_row w b j cur e (0, 0) h2]
      exact Array.getElem?_eq_getElem hlt
    · cases hr
  | arr s rows =>
    simp only [AObj.rowAt] at hr
    obtain ⟨h1, h2, h3⟩ := ho
    have hi : i < rows.length := (List.getElem?_eq_some_iff.1 hr).1
    cases hb : p.blk with
    | none => simp only [hb] at h3; subst h3; simp at hi
    | some b =>
      simp only [hb] at h3
      obtain ⟨cur, e, g1, g2, g3, g4, g5⟩ := h3
      have hj : j < s := by rw [← (h2 i row hr).1]; exact (List.getElem?_eq_some_iff.1 hx).1
      have hlt : i * s + j < cur.size := by rw [g2]; exact idx_lt (by omega) hj
      refine ⟨b, cur[i * s + j], rfl, ?_, fun _ => g5 i j row x _ hr hx (Array.getElem?_eq_getElem hlt)⟩
      rw [h1, cell_of_row w b _ cur e (0, 0) g1]
      exact Array.getElem?_eq_getElem hlt
  | nst s rows =>
    obtain ⟨b, u, h1, h2, h3⟩ := nst_at ho.1 hr hx
    exact ⟨b, u, h1, h2, fun h => (cellAt_lone (h.resolve_left (by simp [AObj.plain]))).1 h3⟩
  | arx s rows =>
    obtain ⟨b, u, h1, h2, h3⟩ := nst_at ho hr hx
    exact ⟨b, u, h1, h2, fun h => (cellAt_lone (h.resolve_left (by simp [AObj.plain]))).1 h3⟩

/-- a pointer to a row of an own object, or to memory that nobody writes: its cells -/
def rowOf (h : Heap) : AV → Option (List AV × Nat)
  | .ptr id i off => match h id with
    | some o => (o.rowAt i).map fun r => (r, off)
    | none => none
  | .rptr row off => some (row, off)
  | _ => none

/-- a cell that may be read -/
def okRow (h : Heap) (x c : AV) : Prop := match x with
  | .ptr id _ _ => match h id with
    | some o => o.plain = true ∨ c.lone = true
    | none => False
  | _ => True

theorem ptr_live (hs : HSim own0 π h n w) {own : Nat → Prop} {id i off : Nat} {v : Value} (hr : Rel w own π n (.ptr id i off) v) {o : AObj} (ho : h id = some o) :
    ∃ p, π id = some p ∧ ObjAt w (ownOf own0 π) π n id p o ∧ ∀ b, p.blk = some b → v = .pointer (some ⟨b, i * p.sz + off, none⟩) := by
  obtain ⟨_, p, hp, hq⟩ := hs.obj id o ho
  refine ⟨p, hp, hq, ?_⟩
  cases hr with
  | ptrLive _ _ _ b' p' hp' hb' =>
    rw [hp] at hp'; cases hp'
    intro b hb
    rw [hb] at hb'; cases hb'; rfl
  | ptrDead _ _ _ _ hd _ => rw [hp] at hd; cases hd

theorem cells_of_ptr (hs : HSim own0 π h n w) {x : AV} {v : Value} (hr : Rel w (ownOf own0 π) π n x v) {row : List AV} {off : Nat} (hw : rowOf h x = some (row, off)) (hne : off < row.length) :
    ∃ ad : Addr, v = .pointer (some ad) ∧ ad.spot = none ∧ ∀ (j : Nat) c, row[off + j]? = some c → okRow h x c → ∃ u, w.cell? ⟨ad.block, ad.off + j, none⟩ = some u ∧ Rel w (ownOf own0 π) π n c u := by
  cases x <;> simp only [rowOf] at hw <;> first | cases hw | skip
  · rename_i id i off'
    cases ho : h id with
    | none => simp [ho] at hw
    | some o =>
      simp only [ho, Option.map_eq_some_iff, Prod.mk.injEq] at hw
      obtain ⟨r, hr1, rfl, rfl⟩ := hw
      obtain ⟨p, hp, hq, hv⟩ := ptr_live hs hr ho
      obtain ⟨b, u, hb, _, _⟩ := cell_at hq hr1 (List.getElem?_eq_getElem hne)
      refine ⟨_, hv b hb, rfl, fun j c hc hk => ?_⟩
      obtain ⟨b', u, hb', h1, h2⟩ := cell_at hq hr1 hc
      rw [hb] at hb'; cases hb'
      simp only [okRow, ho] at hk
      exact ⟨u, by rw [← h1, Nat.add_assoc], h2 hk⟩
  · cases hr with
    | rptr _ _ g o us ho hg hf hu hh =>
      refine ⟨_, rfl, rfl, fun j c hc _ => ⟨us (off + j), ?_, hh _ c hc⟩⟩
      rw [← hu _ c hc, Nat.add_assoc]

theorem run_ld1 {t : TypeId} (ha : cAgg P t = some false) {ad : Addr} {u : Value} (hu : w.cell? ad = some u) : (Instr.loadAt t (.pointer (some ad))).run P w = .ok u w := by
  unfold cAgg at ha
  cases hd : P.underlying t with
  | none => simp [hd] at ha
  | some d =>
    cases d <;> simp [hd] at ha <;> simp [Instr.loadAt, Instr.sureAddr, loadVar, isAgg, run_underlying hd, load, Sem.run, hu]

theorem run_ldn {t : TypeId} (ha : cAgg P t = some true) {s : Nat} (hs : cSize P t = some s) {ad : Addr} {cs : List Value} (hl : cs.length = s)
    (hu : ∀ j v, cs[j]? = some v → w.cell? (ad.add j) = some v) : (Instr.loadAt t (.pointer (some ad))).run P w = .ok (.agg cs.toArray) w := by
  unfold cSize at hs
  obtain ⟨i, hi, rfl⟩ := Option.map_eq_some_iff.1 hs
  have hc := run_loadCells_list (P := P) w ad cs hu
  rw [hl] at hc
  unfold cAgg at ha
  cases hd : P.underlying t with
  | none => simp [hd] at ha
  | some d =>
    cases d <;> simp [hd] at ha <;> simp [Instr.loadAt, Instr.sureAddr, loadVar, isAgg, run_underlying hd, sizeOf, typeInfo, hi, hc]

theorem add_eq (ad : Addr) (h : ad.spot = none) (j : Nat) : ad.add j = ⟨ad.block, ad.off + j, none⟩ := by
  cases ad; simp at h; subst h; exact Addr.add_lit _ _ _

theorem snd_ld1 (s : Sim w0 pass own0 π e h n a w) {t : TypeId} (ha : cAgg P t = some false) {x c : AV} {v : Value} (hr : Rel w (ownOf own0 π) π n x v) {row : List AV} {off : Nat} (hw : rowOf h x = some (row, off))
    (hc : row[off]? = some c) (hok : okRow h x c) {K : Kont} (hk : K c h n) : Done P w0 pass own0 π n w (Instr.loadAt t v) K := by
  obtain ⟨ad, rfl, hsp, hcells⟩ := cells_of_ptr s.hs hr hw (List.getElem?_eq_some_iff.1 hc).1
  obtain ⟨u, h1, h2⟩ := hcells 0 c (by simpa using hc) hok
  refine done_same s (run_ld1 ha (u := u) ?_) h2 hk
  rw [← h1]; cases ad; simp at hsp; subst hsp; rfl

theorem getElem?_sub {α : Type} (l : List α) (off s j : Nat) : (sub l off s)[j]? = if j < s then l[off + j]? else none := by
  simp only [sub, List.getElem?_take, List.getElem?_drop]

theorem length_sub {α : Type} (l : List α) (off s : Nat) (h : off + s ≤ l.length) : (sub l off s).length = s := by
  simp only [sub, List.length_take, List.length_drop]; omega

theorem snd_ldn (s : Sim w0 pass own0 π e h n a w) {t : TypeId} (ha : cAgg P t = some true) {z : Nat} (hz : cSize P t = some z) {x : AV} {v : Value} (hr : Rel w (ownOf own0 π) π n x v) {row : List AV} {off : Nat} (hw : rowOf h x = some (row, off))
    (hc : off + z ≤ row.length) (hz0 : 0 < z) (hok : ∀ c ∈ sub row off z, okRow h x c) {K : Kont} (hk : K (.agg (sub row off z)) h n) : Done P w0 pass own0 π n w (Instr.loadAt t v) K := by
  obtain ⟨ad, rfl, hsp, hcells⟩ := cells_of_ptr s.hs hr hw (by omega)
  have hex : ∀ j : Nat, ∃ u, j < z → w.cell? ⟨ad.block, ad.off + j, none⟩ = some u ∧ ∀ c, row[off + j]? = some c → Rel w (ownOf own0 π) π n c u := by
    intro j
    by_cases hj : j < z
    · obtain ⟨u, h1, h2⟩ := hcells j row[off + j] (List.getElem?_eq_getElem (by omega)) (hok _ (List.mem_of_getElem? (i := j) (by rw [getElem?_sub, if_pos hj]; exact List.getElem?_eq_getElem (by omega))))
      exact ⟨u, fun _ => ⟨h1, fun c hc => by rw [List.getElem?_eq_getElem (by omega)] at hc; cases hc; exact h2⟩⟩
    · exact ⟨Go.undef, fun h => absurd h hj⟩
  obtain ⟨f, hf⟩ := Classical.axiomOfChoice hex
  have hcs : ∀ (j : Nat) u, ((List.range z).map f)[j]? = some u → j < z ∧ u = f j := by
    intro j u hj
    simp only [List.getElem?_map, Option.map_eq_some_iff] at hj
    obtain ⟨k, hk, rfl⟩ := hj
    obtain ⟨h1, h2⟩ := List.getElem?_eq_some_iff.1 hk
    simp at h1 h2; subst h2; exact ⟨h1, rfl⟩
  refine done_same s (run_ldn ha hz (cs := (List.range z).map f) (by simp) ?_) ?_ hk
  · intro j u hj
    obtain ⟨h1, rfl⟩ := hcs j u hj
    rw [add_eq ad hsp]
    exact (hf j h1).1
  · refine .agg _ _ (by simp [length_sub _ _ _ hc]) (fun j c u h1 h2 => ?_)
    obtain ⟨h3, rfl⟩ := hcs j u (by simpa using h2)
    rw [getElem?_sub, if_pos h3] at h1
    exact (hf j h3).2 c h1


theorem getElem?_splice {α : Type} (l m : List α) (o j : Nat) (h : o + m.length ≤ l.length) :
    (l.take o ++ m ++ l.drop (o + m.length))[j]? = if j < o then l[j]? else if j < o + m.length then m[j - o]? else l[j]? := by
  simp only [List.getElem?_append, List.length_append, List.length_take, List.getElem?_take, List.getElem?_drop]
  have ho : min o l.length = o := by omega
  rw [ho]
  by_cases h1 : j < o
  · simp [h1]; omega
  · by_cases h2 : j < o + m.length
    · simp [h1, h2]
    · have : o + m.length + (j - (o + m.length)) = j := by omega
      simp [h1, h2, this]

theorem length_setCells (row : List AV) (off : Nat) (cs : List AV) (h : off + cs.length ≤ row.length) : (setCells row off cs).length = row.length := by
  simp only [setCells, List.length_append, List.length_take, List.length_drop]; omega

theorem run_st {t : TypeId} {z : Nat} (hz : cSize P t = some z) {g o : Nat} {v : Value} {cur : Array Value} {e' : TypeId} (hg : w.heap[g]? = some (.cells cur e' (0, 0))) (hv : v.cells.size = z)
    (hl : o + z ≤ cur.size) (h1 : ∀ u ∈ v.cells.toList, u.oneCell' = true) :
    (Instr.storeAt t (.pointer (some ⟨g, o, none⟩)) v).run P w = .ok () (w.setRow g (cur.toList.take o ++ v.cells.toList ++ cur.toList.drop (o + z)).toArray) := by
  unfold cSize at hz
  obtain ⟨i, hi, rfl⟩ := Option.map_eq_some_iff.1 hz
  have hst := run_storeCells_at P g o e' v.cells.toList 0 cur w hg (by simp [hv, hl]) h1
  simp only [Nat.add_zero, Array.length_toList, hv] at hst
  simp [Instr.storeAt, Instr.sureAddr, storeVar, sizeOf, typeInfo, hi, hv, hst]

theorem writes_row (s : Sim w0 pass own0 π e h n a w) {id : Nat} {p : Place} {b : Nat} (hp : π id = some p) (hb : p.blk = some b) (cs : Array Value) : Writes own0 π h n w id p b (w.setRow b cs) :=
  ⟨s.hs, hp, hb, by simp [World.setRow], rfl, rfl, rfl, fun k hk => setRow_other w b k cs hk⟩

theorem snd_st (s : Sim w0 pass own0 π e h n a w) {t : TypeId} {z : Nat} (hz : cSize P t = some z) {id i off : Nat} {x : AV} {u v : Value} (hp : Rel w (ownOf own0 π) π n (.ptr id i off) u) (hx : Rel w (ownOf own0 π) π n x v)
    (hl : x.cells.length = z) (hz0 : 0 < z) (hok : ∀ c ∈ x.cells, c.okc h) {o : AObj} (ho : h id = some o) {row : List AV} (hrow : o.rowAt i = some row) (hlen : off + z ≤ row.length)
    (o' : AObj) (ho' : o' = match o with | .box _ => .box (setCells row off x.cells) | .arr q rows => .arr q (rows.set i (setCells row off x.cells)) | .nst q rows => .nst q (rows.set i (setCells row off x.cells)) | .arx q rows => .arx q (rows.set i (setCells row off x.cells)))
    (hfree : (match o with | .box _ => True | .arr _ _ => ∀ c ∈ x.cells, c.free = true | .nst _ _ => ∀ c ∈ x.cells, c.free = true | .arx _ _ => True)) :
    ∃ w', (Instr.storeAt t u v).run P w = .ok () w' ∧ Go1 w0 pass own0 π n w π (h.set id o') n w' := by
  obtain ⟨p, hpi, hq, hu⟩ := ptr_live s.hs hp ho
  obtain ⟨hc1, hc2, hc3⟩ := rel_cells hx hok
  obtain ⟨b, _, hb, _, _⟩ := cell_at hq hrow (List.getElem?_eq_getElem (show off < row.length by omega))
  rw [hu b hb]
  have hsub : ∀ (j : Nat) c q, x.cells[j]? = some c → v.cells.toList[j]? = some q → Rel w (ownOf own0 π) π n c q := fun j c q h1 h2 => hc2 j c q h1 (by simpa using h2)
  have hvl : v.cells.toList.length = z := by simp [hc1, hl]
  have hset : ∀ (j : Nat), (setCells row off x.cells)[j]? = if j < off then row[j]? else if j < off + z then x.cells[j - off]? else row[j]? := by
    intro j; rw [← hl]; exact getElem?_splice row x.cells off j (by omega)
  have key : ∀ (q : Nat) (rows : List (List AV)), rows[i]? = some row → NstAt w (ownOf own0 π) π n id p q rows →
      ∃ w', (Instr.storeAt t (.pointer (some ⟨b, i * p.sz + off, none⟩)) v).run P w = .ok () w' ∧ Writes own0 π h n w id p b w' ∧ NstAt w' (ownOf own0 π) π n id p q (rows.set i (setCells row off x.cells)) := by
    rintro q rows hrow ⟨h1, h2, h3⟩
    simp only [hb] at h3
    obtain ⟨cur, e', g1, g2, g3, g4, g5⟩ := h3
    have hi : i < rows.length := (List.getElem?_eq_some_iff.1 hrow).1
    have hrl : row.length = q := h2 i row hrow
    have hbound : i * q + off + z ≤ cur.size := by
      have := idx_lt (i := i) (j := off + z - 1) (s := q) (c := p.cap) (by omega) (by omega)
      rw [g2]; omega
    have W := writes_row s hpi hb ((cur.toList.take (i * q + off) ++ v.cells.toList ++ cur.toList.drop (i * q + off + z)).toArray)
    refine ⟨_, by rw [h1]; exact run_st hz g1 (by rw [hc1, hl]) hbound hc3, W, ?_⟩
    have hnew : ∀ (i' : Nat) r, (rows.set i (setCells row off x.cells))[i']? = some r → (i' = i ∧ r = setCells row off x.cells) ∨ (i' ≠ i ∧ rows[i']? = some r) := by
      intro i' r hr
      by_cases he : i' = i
      · subst he; rw [List.getElem?_set_self hi] at hr; cases hr; exact .inl ⟨rfl, rfl⟩
      · rw [List.getElem?_set_ne (Ne.symm he)] at hr; exact .inr ⟨he, hr⟩
    have hmono : ∀ {i' j' : Nat} {c : AV} {u : Value}, CellAt w (ownOf own0 π) π n id i' j' c u → CellAt (w.setRow b ((cur.toList.take (i * q + off) ++ v.cells.toList ++ cur.toList.drop (i * q + off + z)).toArray)) (ownOf own0 π) π n id i' j' c u := by
      intro i' j' c u hc
      exact CellAt.mono W.mono hc (fun k hk => ⟨W.kept k (fun e => (s.hs.hid k _ hk).2.2.2 id p hpi (e ▸ hb)), hk⟩)
    refine ⟨h1, fun i' r hr => ?_, ?_⟩
    · rcases hnew i' r hr with ⟨rfl, rfl⟩ | ⟨_, hr⟩
      · rw [length_setCells _ _ _ (by omega)]; exact hrl
      · exact h2 i' r hr
    · simp only [hb]
      refine ⟨_, e', setRow_heap w b cur _ e' _ g1, ?_, by simpa using g3, g4, ?_⟩
      · simp only [List.size_toArray, List.length_append, List.length_take, List.length_drop, hvl, Array.length_toList]; omega
      · intro i' j r c u' hr hc hu'
        refine hmono ?_
        rw [List.getElem?_toArray, ← hvl, getElem?_splice _ _ _ _ (by simp [hvl]; omega), hvl] at hu'
        rcases hnew i' r hr with ⟨rfl, rfl⟩ | ⟨hne, hr⟩
        · rw [hset] at hc
          by_cases k1 : j < off
          · rw [if_pos k1] at hc; rw [if_pos (by omega)] at hu'; exact g5 i' j row c u' hrow hc (by simpa using hu')
          · rw [if_neg k1] at hc; rw [if_neg (by omega)] at hu'
            by_cases k2 : j < off + z
            · rw [if_pos k2] at hc; rw [if_pos (by omega)] at hu'
              have hlone : c.lone = true := by
                have := hok c (List.mem_of_getElem? hc)
                cases c <;> first | rfl | exact this.elim
              exact (cellAt_lone hlone).2 (hsub _ c u' hc (by rw [← hu']; congr 1; omega))
            · rw [if_neg k2] at hc; rw [if_neg (by omega)] at hu'; exact g5 i' j row c u' hrow hc (by simpa using hu')
        · have hj : j < q := by rw [← h2 i' r hr]; exact (List.getElem?_eq_some_iff.1 hc).1
          have hout : ¬ (i * q + off ≤ i' * q + j ∧ i' * q + j < i * q + off + z) := by
            rcases Nat.lt_or_gt_of_ne hne with h | h
            · have := idx_lt (i := i') (j := j) (s := q) (c := i) h hj; omega
            · have h5 : (i + 1) * q ≤ i' * q := Nat.mul_le_mul_right q h
              rw [Nat.add_mul, Nat.one_mul] at h5; omega
          have hu2 : cur.toList[i' * q + j]? = some u' := by
            split at hu'
            · exact hu'
            · split at hu'
              · omega
              · exact hu'
          exact g5 i' j r c u' hr hc (by simpa using hu2)
  cases o with
  | box row' =>
    simp only [AObj.rowAt] at hrow
    split at hrow
    · rename_i hi; subst hi; cases hrow
      obtain ⟨b', cur, e', h1, h2, h3, h4⟩ := hq
      rw [hb] at h1; cases h1
      have W := writes_row s hpi hb ((cur.toList.take off ++ v.cells.toList ++ cur.toList.drop (off + z)).toArray)
      refine ⟨_, by rw [Nat.zero_mul, Nat.zero_add]; exact run_st hz h2 (by rw [hc1, hl]) (by omega) hc3, W.go s.fr ?_⟩
      subst ho'
      refine ⟨b, _, e', hb, setRow_heap w b cur _ e' _ h2, ?_, ?_⟩
      · simp only [List.size_toArray, List.length_append, List.length_take, List.length_drop, hvl, Array.length_toList]
        rw [length_setCells _ _ _ (by omega)]; omega
      · intro j c q hc hq'
        refine Rel.mono W.mono ?_
        rw [hset] at hc
        rw [List.getElem?_toArray, ← hvl, getElem?_splice _ _ _ _ (by simp [hvl]; omega), hvl] at hq'
        by_cases g1 : j < off
        · rw [if_pos g1] at hc hq'; exact h4 j c q hc (by simpa using hq')
        · rw [if_neg g1] at hc hq'
          by_cases g2 : j < off + z
          · rw [if_pos g2] at hc hq'; exact hsub _ c q hc hq'
          · rw [if_neg g2] at hc hq'; exact h4 j c q hc (by simpa using hq')
    · cases hrow
  | arr q rows =>
    simp only [AObj.rowAt] at hrow
    obtain ⟨h1, h2, h3⟩ := hq
    simp only [hb] at h3
    obtain ⟨cur, e', g1, g2, g3, g4, g5⟩ := h3
    have hi : i < rows.length := (List.getElem?_eq_some_iff.1 hrow).1
    have hrl : row.length = q := (h2 i row hrow).1
    have hbound : i * q + off + z ≤ cur.size := by
      have := idx_lt (i := i) (j := off + z - 1) (s := q) (c := p.cap) (by omega) (by omega)
      rw [g2]; omega
    have W := writes_row s hpi hb ((cur.toList.take (i * q + off) ++ v.cells.toList ++ cur.toList.drop (i * q + off + z)).toArray)
    refine ⟨_, by rw [h1]; exact run_st hz g1 (by rw [hc1, hl]) hbound hc3, W.go s.fr ?_⟩
    subst ho'
    have hnew : ∀ (i' : Nat) r, (rows.set i (setCells row off x.cells))[i']? = some r → (i' = i ∧ r = setCells row off x.cells) ∨ (i' ≠ i ∧ rows[i']? = some r) := by
      intro i' r hr
      by_cases he : i' = i
      · subst he; rw [List.getElem?_set_self hi] at hr; cases hr; exact .inl ⟨rfl, rfl⟩
      · rw [List.getElem?_set_ne (Ne.symm he)] at hr; exact .inr ⟨he, hr⟩
    refine ⟨h1, fun i' r hr => ?_, ?_⟩
    · rcases hnew i' r hr with ⟨rfl, rfl⟩ | ⟨_, hr⟩
      · refine ⟨by rw [length_setCells _ _ _ (by omega)]; exact hrl, fun c hc => ?_⟩
        simp only [setCells, List.mem_append] at hc
        rcases hc with (hc | hc) | hc
        · exact (h2 i' row hrow).2 c (List.mem_of_mem_take hc)
        · exact hfree c hc
        · exact (h2 i' row hrow).2 c (List.mem_of_mem_drop hc)
      · exact h2 i' r hr
    · simp only [hb]
      refine ⟨_, e', setRow_heap w b cur _ e' _ g1, ?_, by simpa using g3, g4, ?_⟩
      · simp only [List.size_toArray, List.length_append, List.length_take, List.length_drop, hvl, Array.length_toList]; omega
      · intro i' j r c u' hr hc hu'
        refine Rel.mono W.mono ?_
        rw [List.getElem?_toArray, ← hvl, getElem?_splice _ _ _ _ (by simp [hvl]; omega), hvl] at hu'
        rcases hnew i' r hr with ⟨rfl, rfl⟩ | ⟨hne, hr⟩
        · rw [hset] at hc
          by_cases k1 : j < off
          · rw [if_pos k1] at hc; rw [if_pos (by omega)] at hu'; exact g5 i' j row c u' hrow hc (by simpa using hu')
          · rw [if_neg k1] at hc; rw [if_neg (by omega)] at hu'
            by_cases k2 : j < off + z
            · rw [if_pos k2] at hc; rw [if_pos (by omega)] at hu'
              exact hsub _ c u' hc (by rw [← hu']; congr 1; omega)
            · rw [if_neg k2] at hc; rw [if_neg (by omega)] at hu'; exact g5 i' j row c u' hrow hc (by simpa using hu')
        · have hj : j < q := by rw [← (h2 i' r hr).1]; exact (List.getElem?_eq_some_iff.1 hc).1
          have hout : ¬ (i * q + off ≤ i' * q + j ∧ i' * q + j < i * q + off + z) := by
            rcases Nat.lt_or_gt_of_ne hne with h | h
            · have := idx_lt (i := i') (j := j) (s := q) (c := i) h hj; omega
            · have h5 : (i + 1) * q ≤ i' * q := Nat.mul_le_mul_right q h
              rw [Nat.add_mul, Nat.one_mul] at h5; omega
          have hu2 : cur.toList[i' * q + j]? = some u' := by
            split at hu'
            · exact hu'
            · split at hu'
              · omega
              · exact hu'
          exact g5 i' j r c u' hr hc (by simpa using hu2)

  | nst q rows =>
    obtain ⟨w', g1, W, g2⟩ := key q rows hrow hq.1
    subst ho'
    refine ⟨w', g1, W.go s.fr ⟨g2, fun i' r hr c hc => ?_⟩⟩
    by_cases he : i' = i
    · subst he
      rw [List.getElem?_set_self (List.getElem?_eq_some_iff.1 hrow).1] at hr; cases hr
      simp only [setCells, List.mem_append] at hc
      rcases hc with (hc | hc) | hc
      · exact hq.2 i' row hrow c (List.mem_of_mem_take hc)
      · have hf := hfree c hc
        cases c <;> first | exact hf | (simp [AV.free] at hf)
      · exact hq.2 i' row hrow c (List.mem_of_mem_drop hc)
    · rw [List.getElem?_set_ne (Ne.symm he)] at hr
      exact hq.2 i' r hr c hc
  | arx q rows =>
    obtain ⟨w', g1, W, g2⟩ := key q rows hrow hq
    subst ho'
    exact ⟨w', g1, W.go s.fr g2⟩

/-! ### addresses -/

theorem cElem_eq {t el : TypeId} (h : cElem P t = some el) : P.underlying t = some (.slice el) := by
  unfold cElem at h
  split at h
  · rename_i hd; cases h; exact hd
  · cases h

theorem live_some (hs : HSim own0 π h n w) {id : Nat} (hl : (h id).isSome = true) : ∃ o p, h id = some o ∧ π id = some p ∧ ObjAt w (ownOf own0 π) π n id p o := by
  obtain ⟨o, ho⟩ := Option.isSome_iff_exists.1 hl
  obtain ⟨_, p, hp, hq⟩ := hs.obj id o ho
  exact ⟨o, p, ho, hp, hq⟩

theorem snd_fadr (s : Sim w0 pass own0 π e h n a w) {t : TypeId} {fs : Array Field} {i : Nat} {f : Field} (ht : P.underlying t = some (.struct fs)) (hf : fs[i]? = some f) {m : Nat} (hz : cSize P f.type = some (m + 1))
    {x : AV} {v : Value} (hr : Rel w (ownOf own0 π) π n x v) {K : Kont} (hk : sem (.fadr f.offset) [x] h n K) : Done P w0 pass own0 π n w (Instr.fieldAt t v i) K := by
  unfold cSize at hz
  obtain ⟨inf, hi, hsz⟩ := Option.map_eq_some_iff.1 hz
  have run : ∀ ad : Addr, (Instr.fieldAt t (.pointer (some ad)) i).run P w = .ok (.pointer (some (ad.add f.offset))) w := by
    intro ad
    simp [Instr.fieldAt, run_underlying ht, hf, Instr.sureAddr, fieldPlace, sizeOf, typeInfo, hi, hsz]
  cases x <;> simp only [sem] at hk <;> first | exact hk.elim | skip
  · rename_i id j off
    cases hr with
    | ptrLive _ _ _ b p' hp' hb =>
      refine done_same s (run _) ?_ hk
      rw [Addr.add_lit, Nat.add_assoc]
      exact .ptrLive _ _ _ _ _ hp' hb
    | ptrDead _ _ _ ad hd hn => exact done_same s (run ad) (.ptrDead _ _ _ _ hd hn) hk
  · cases hr with
    | rptr row off g o us ho hg hf hu hh =>
      refine done_same s (run _) ?_ hk
      rw [Addr.add_lit, Nat.add_assoc]
      exact .rptr _ _ g o us ho hg hf hu hh

theorem run_iadr {t el : TypeId} {z : Nat} (ht : cElem P t = some el) (hz : cSize P el = some z) (ad : Addr) (len cap : Nat) (k : IntKind) (i : Int) (h0 : 0 ≤ i) (h1 : i < len) :
    (Instr.indexAt t (.slice (some ad) len cap) (.int k i)).run P w = .ok (.pointer (some (ad.add (i.toNat * z)))) w := by
  unfold cSize at hz
  obtain ⟨inf, hi, rfl⟩ := Option.map_eq_some_iff.1 hz
  simp [Instr.indexAt, asIntOf, run_underlying (cElem_eq ht), h0, h1, sizeOf, typeInfo, hi]

theorem snd_iadr (s : Sim w0 pass own0 π e h n a w) {t el : TypeId} {z : Nat} (ht : cElem P t = some el) (hz : cSize P el = some z) {x y : AV} {u v : Value} (hx : Rel w (ownOf own0 π) π n x u) (hy : Rel w (ownOf own0 π) π n y v)
    {K : Kont} (hk : sem (.iadr z) [x, y] h n K) : Done P w0 pass own0 π n w (Instr.indexAt t u v) K := by
  cases x <;> cases y <;> simp only [sem] at hk <;> first | exact hk.elim | skip
  · rename_i id off len k i
    obtain ⟨h0, h1, hk⟩ := hk
    have key : ∀ (q : Nat) (o : AObj), h id = some o → (∀ p, ObjAt w (ownOf own0 π) π n id p o → p.sz = q) → q = z ∧ K (.ptr id (off + i.toNat) 0) h n → Done P w0 pass own0 π n w (Instr.indexAt t u v) K := by
      rintro q o ho hsz ⟨rfl, hk2⟩
      obtain ⟨_, p, hp, hq⟩ := s.hs.obj id _ ho
      have hsz := hsz p hq
      cases hy
      cases hx with
      | refLive _ _ _ b cap p' hp' hb h2 h3 =>
        rw [hp] at hp'; cases hp'
        refine done_same s (run_iadr ht hz _ _ _ _ _ h0 h1) ?_ hk2
        rw [Addr.add_lit, hsz, ← Nat.add_mul]
        have := Rel.ptrLive (w := w) (own := ownOf own0 π) (N := n) id (off + i.toNat) 0 b p hp hb
        rwa [hsz, Nat.add_zero] at this
      | refEnd => omega
      | refNil => omega
      | refDead _ _ _ _ _ hd _ => rw [hp] at hd; cases hd
    cases ho : h id with
    | none => simp [ho] at hk
    | some o =>
      cases o with
      | box row => simp [ho] at hk
      | arr q rows => simp only [ho] at hk; exact key q _ ho (fun p hq => hq.1) hk
      | nst q rows => simp only [ho] at hk; exact key q _ ho (fun p hq => hq.1.1) hk
      | arx q rows => simp only [ho] at hk; exact key q _ ho (fun p hq => hq.1) hk
  · rename_i rows k i
    obtain ⟨h0, hk⟩ := hk
    cases hr : rows[i.toNat]? with
    | none => simp [hr] at hk
    | some row =>
      simp only [hr] at hk
      obtain ⟨hl, hk⟩ := hk
      have hlt : i.toNat < rows.length := (List.getElem?_eq_some_iff.1 hr).1
      cases hy
      cases hx with
      | valNil => simp at hlt
      | val _ g off cap q us ho hg hc hm hs hf hu hh =>
        refine done_same s (run_iadr ht hz _ _ _ _ _ h0 (by omega)) ?_ hk
        have hq : q = z := by rw [← hs _ _ hr, hl]
        subst hq
        rw [Addr.add_lit]
        have := Rel.rptr (w := w) (own := ownOf own0 π) (π := π) (N := n) row 0 g (off + i.toNat * q) (us i.toNat) ho hg (fun x hx => freeT_of_free (hf _ _ x hr hx))
          (fun j x hx => by rw [← hu _ j _ x hr hx, Nat.add_assoc]) (fun j x hx => hh _ j _ x hr hx)
        simpa using this

theorem snd_idx (s : Sim w0 pass own0 π e h n a w) {t : TypeId} (ht : P.underlying t = some .string) {x y : AV} {u v : Value} (hx : Rel w (ownOf own0 π) π n x u) (hy : Rel w (ownOf own0 π) π n y v)
    {K : Kont} (hk : sem .idx [x, y] h n K) : Done P w0 pass own0 π n w (Instr.index t u v) K := by
  cases x <;> cases y <;> simp only [sem] at hk <;> first | exact hk.elim | skip
  rename_i l k i
  obtain ⟨h0, hk⟩ := hk
  cases hr : l[i.toNat]? with
  | none => simp [hr] at hk
  | some b =>
    simp only [hr] at hk
    obtain ⟨hlt, hb⟩ := List.getElem?_eq_some_iff.1 hr
    cases hx; cases hy
    refine done_same s (x := .int .u8 b.toNat) (v := .int .u8 b.toNat) ?_ (.int _ _) hk
    rw [run_index_string w t _ _ _ ht]
    have hsz : (⟨l.toArray⟩ : ByteArray).size = l.length := rfl
    rw [dif_pos ⟨h0, by rw [hsz]; omega⟩]
    subst hb
    rfl

/-! ### parts of structs -/

theorem snd_fld1 (s : Sim w0 pass own0 π e h n a w) {t : TypeId} {fs : Array Field} {i : Nat} {f : Field} (ht : P.underlying t = some (.struct fs)) (hf : fs[i]? = some f) (ha : cAgg P f.type = some false)
    {x : AV} {v : Value} (hr : Rel w (ownOf own0 π) π n x v) {K : Kont} (hk : sem (.fld1 f.offset) [x] h n K) : Done P w0 pass own0 π n w (Instr.field t v i) K := by
  cases x <;> simp only [sem] at hk <;> first | exact hk.elim | skip
  rename_i vs
  cases hc : vs[f.offset]? with
  | none => simp [hc] at hk
  | some c =>
    simp only [hc] at hk
    cases hr with
    | agg _ cs hl hh =>
      have hlt : f.offset < cs.size := by rw [hl]; exact (List.getElem?_eq_some_iff.1 hc).1
      have hu : cs[f.offset]? = some cs[f.offset] := Array.getElem?_eq_getElem hlt
      refine done_same s (v := cs[f.offset]) ?_ (hh _ _ _ hc hu) hk
      unfold cAgg at ha
      cases hd : P.underlying f.type with
      | none => simp [hd] at ha
      | some d => cases d <;> simp [hd] at ha <;> simp [Instr.field, run_underlying ht, hf, asAgg, part, isAgg, run_underlying hd, hlt]

theorem snd_fldn (s : Sim w0 pass own0 π e h n a w) {t : TypeId} {fs : Array Field} {i : Nat} {f : Field} (ht : P.underlying t = some (.struct fs)) (hf : fs[i]? = some f) (ha : cAgg P f.type = some true) {z : Nat} (hz : cSize P f.type = some z)
    {x : AV} {v : Value} (hr : Rel w (ownOf own0 π) π n x v) {K : Kont} (hk : sem (.fldn f.offset z) [x] h n K) : Done P w0 pass own0 π n w (Instr.field t v i) K := by
  unfold cSize at hz
  obtain ⟨inf, hi, rfl⟩ := Option.map_eq_some_iff.1 hz
  cases x <;> simp only [sem] at hk <;> first | exact hk.elim | skip
  rename_i vs
  obtain ⟨hlen, hk⟩ := hk
  cases hr with
  | agg _ cs hl hh =>
    refine done_same s (v := .agg (cs.extract f.offset (f.offset + inf.size))) ?_ ?_ hk
    · unfold cAgg at ha
      cases hd : P.underlying f.type with
      | none => simp [hd] at ha
      | some d => cases d <;> simp [hd] at ha <;> simp [Instr.field, run_underlying ht, hf, asAgg, part, isAgg, run_underlying hd, sizeOf, typeInfo, hi]
    · refine .agg _ _ (by simp [length_sub _ _ _ hlen]; omega) (fun j c u h1 h2 => ?_)
      rw [getElem?_sub] at h1
      simp only [Array.getElem?_extract] at h2
      split at h1
      · rename_i hj
        rw [if_pos (by omega)] at h2
        exact hh _ c u h1 h2
      · cases h1

/-! ### literals -/

theorem getElem?_foldl_set (cs : List Value) : ∀ (off k : Nat) (acc : Array Value) (j : Nat), off + k + cs.length ≤ acc.size →
    ((cs.zipIdx k).foldl (fun a (x : Value × Nat) => a.setIfInBounds (off + x.2) x.1) acc).size = acc.size ∧
    ((cs.zipIdx k).foldl (fun a (x : Value × Nat) => a.setIfInBounds (off + x.2) x.1) acc)[j]? = if off + k ≤ j ∧ j < off + k + cs.length then cs[j - (off + k)]? else acc[j]? := by
  induction cs with
  | nil => intro off k acc j _; simp; omega
  | cons c r ih =>
    intro off k acc j hl
    simp only [List.length_cons] at hl
    simp only [List.zipIdx_cons, List.foldl_cons, List.length_cons]
    obtain ⟨h1, h2⟩ := ih off (k + 1) (acc.setIfInBounds (off + k) c) j (by simp; omega)
    refine ⟨by rw [h1]; simp, ?_⟩
    rw [h2]
    by_cases g1 : off + (k + 1) ≤ j ∧ j < off + (k + 1) + r.length
    · rw [if_pos g1, if_pos (by omega)]
      have : j - (off + k) = (j - (off + (k + 1))) + 1 := by omega
      rw [this, List.getElem?_cons_succ]
    · rw [if_neg g1]
      by_cases g2 : j = off + k
      · subst g2
        rw [if_pos (by omega)]
        simp only [Nat.sub_self, List.getElem?_cons_zero]
        rw [Array.getElem?_setIfInBounds_self_of_lt (by omega)]
      · rw [if_neg (by omega), Array.getElem?_setIfInBounds_ne (Ne.symm g2)]

theorem fill_rel (place : Nat → Option (Nat × Nat)) : ∀ (parts : List (Nat × Value)) (ps : List (Nat × Nat)) (vs row : List AV) (cells : Array Value) (row' : List AV),
    parts.length = ps.length → (∀ (i : Nat) x q, parts[i]? = some x → ps[i]? = some q → place x.1 = some q) →
    parts.length = vs.length → (∀ (i : Nat) x y, parts[i]? = some x → vs[i]? = some y → Rel w (ownOf own0 π) π n y x.2) →
    (∀ y ∈ vs, ∀ c ∈ y.cells, c.okc h) →
    cells.size = row.length → (∀ (j : Nat) c u, row[j]? = some c → cells[j]? = some u → Rel w (ownOf own0 π) π n c u) →
    fillRow row ps vs = some row' →
    ∃ cells', Instr.fill place cells parts = some cells' ∧ cells'.size = row'.length ∧ ∀ (j : Nat) c u, row'[j]? = some c → cells'[j]? = some u → Rel w (ownOf own0 π) π n c u
  | [], [], [], row, cells, row', _, _, _, _, _, h1, h2, h3 => by
    simp [fillRow] at h3; subst h3
    exact ⟨cells, rfl, h1, h2⟩
  | (i, v) :: parts, (off, sz) :: ps, y :: vs, row, cells, row', l1, hp, l2, hv, hok, h1, h2, h3 => by
    simp only [fillRow] at h3
    split at h3
    · rename_i hc
      obtain ⟨hc1, hc2⟩ := hc
      have hpl := hp 0 _ _ rfl rfl
      simp only at hpl
      obtain ⟨g1, g2, g3⟩ := rel_cells (hv 0 _ _ rfl rfl) (hok y (by simp))
      simp only at g1 g2
      have hfold := fun j => getElem?_foldl_set v.cells.toList off 0 cells j (by simp [g1, hc1, h1]; omega)
      simp only [Nat.add_zero, Array.length_toList, g1, hc1] at hfold
      have := fill_rel place parts ps vs (setCells row off y.cells) ((v.cells.toList.zipIdx 0).foldl (fun a (x : Value × Nat) => a.setIfInBounds (off + x.2) x.1) cells) row'
        (by simpa using l1) (fun i x q hx hq => hp (i + 1) x q (by simpa using hx) (by simpa using hq))
        (by simpa using l2) (fun i x q hx hq => hv (i + 1) x q (by simpa using hx) (by simpa using hq)) (fun z hz => hok z (by simp [hz]))
        (by rw [(hfold 0).1, length_setCells _ _ _ (by omega)]; exact h1)
        (fun j c u hc' hu => by
          rw [(hfold j).2] at hu
          simp only [setCells] at hc'
          rw [getElem?_splice _ _ _ _ (by omega), hc1] at hc'
          by_cases k1 : j < off
          · rw [if_pos k1] at hc'; rw [if_neg (by omega)] at hu; exact h2 j c u hc' hu
          · rw [if_neg k1] at hc'
            by_cases k2 : j < off + sz
            · rw [if_pos k2] at hc'; rw [if_pos (by omega)] at hu; exact g2 _ c u hc' (by simpa using hu)
            · rw [if_neg k2] at hc'; rw [if_neg (by omega)] at hu; exact h2 j c u hc' hu)
        h3
      obtain ⟨cells', q1, q2, q3⟩ := this
      refine ⟨cells', ?_, q2, q3⟩
      simp only [Instr.fill, hpl]
      rw [if_neg (by simp [g1, hc1, h1]; omega)]
      have e1 : (v.cells.zipIdx.foldl (fun cs (x : Value × Nat) => cs.setIfInBounds (off + x.2) x.1) cells) = (v.cells.toList.zipIdx 0).foldl (fun a (x : Value × Nat) => a.setIfInBounds (off + x.2) x.1) cells := by
        rw [← Array.foldl_toList, Array.toList_zipIdx]
      exact (congrArg (fun q => Instr.fill place q parts) e1).trans q1
    · cases h3
  | [], _ :: _, _, _, _, _, l1, _, _, _, _, _, _, _ => by simp at l1
  | _ :: _, [], _, _, _, _, l1, _, _, _, _, _, _, _ => by simp at l1
  | [], [], _ :: _, _, _, _, _, _, l2, _, _, _, _, _ => by simp at l2
  | _ :: _, _ :: _, [], _, _, _, _, _, l2, _, _, _, _, _ => by simp at l2


theorem cPlaces_spec (place : Nat → Option (Nat × Nat)) : ∀ (parts : List (Nat × Operand)) (ps : List (Nat × Nat)), cPlaces place parts = some ps →
    parts.length = ps.length ∧ ∀ (i : Nat) x q, parts[i]? = some x → ps[i]? = some q → place x.1 = some q
  | [], ps, hc => by simp [cPlaces] at hc; subst hc; simp
  | (k, o) :: r, ps, hc => by
    simp only [cPlaces] at hc
    split at hc
    · rename_i f y h1 h2
      cases hc
      obtain ⟨g1, g2⟩ := cPlaces_spec place r y h2
      refine ⟨by simp [g1], fun i x q hx hq => ?_⟩
      cases i with
      | zero => simp at hx hq; subst hx; subst hq; exact h1
      | succ i => exact g2 i x q (by simpa using hx) (by simpa using hq)
    · cases hc

theorem cZero_spec {t : TypeId} {z : List AV} (hz : cZero P t = some z) : ∃ i v, P.info? t = some i ∧ i.zero = some v ∧ cVals v.cells.toList = some z := by
  unfold cZero at hz
  split at hz
  · rename_i v h1
    cases hi : P.info? t with
    | none => simp [hi] at h1
    | some i => exact ⟨i, v, rfl, by simpa [hi] using h1, hz⟩
  · cases hz

theorem rel_zero {own : Nat → Prop} {v : Value} {z : List AV} (hz : cVals v.cells.toList = some z) : v.cells.size = z.length ∧ ∀ (j : Nat) c u, z[j]? = some c → v.cells[j]? = some u → Rel w own π n c u := by
  obtain ⟨h1, h2⟩ := rel_cVals (w := w) (own := own) (π := π) (n := n) _ _ hz
  exact ⟨by simpa using h1, fun j c u hc hu => h2 j c u hc (by simpa using hu)⟩

/-- the parts, evaluated -/
theorem rel_parts (s : Sim w0 pass own0 π e h n a w) {parts : List (Nat × Operand)} {l : List Opd} (hc : cOpds (parts.map (·.2)) = some l) :
    parts.length = l.length ∧ ∀ (i : Nat) x y, (parts.map fun (k, o) => (k, a.eval o))[i]? = some x → (l.map (Opd.ev e))[i]? = some y → Rel w (ownOf own0 π) π n y x.2 := by
  obtain ⟨h1, h2⟩ := rel_opds s _ _ hc
  refine ⟨by simpa using h1.symm, fun i x y hx hy => ?_⟩
  simp only [List.getElem?_map, Option.map_eq_some_iff] at hx
  obtain ⟨q, hq, rfl⟩ := hx
  exact h2 i y _ hy (by simp [hq])

theorem snd_bld (s : Sim w0 pass own0 π e h n a w) {t : TypeId} {parts : Array (Nat × Operand)} {z : List AV} {ps : List (Nat × Nat)} {place : Nat → Option (Nat × Nat)} (hz : cZero P t = some z)
    (hp : cPlaces place parts.toList = some ps) {l : List Opd} (hl : cOpds (parts.toList.map (·.2)) = some l)
    (hb : ∀ zv ps' cells, (P.info? t).bind (·.zero) = some zv → Instr.fill place zv.cells ps' = some cells → P.built t ps' = some cells)
    {K : Kont} (hk : sem (.bld z ps) (l.map (Opd.ev e)) h n K) : Done P w0 pass own0 π n w (Instr.build t (parts.map fun (i, x) => (i, a.eval x))) K := by
  simp only [sem] at hk
  obtain ⟨hok, hk⟩ := hk
  split at hk
  · rename_i row hrow
    obtain ⟨i, v, hi, hv, hcv⟩ := cZero_spec hz
    obtain ⟨g1, g2⟩ := rel_zero (w := w) (own := ownOf own0 π) (π := π) (n := n) hcv
    obtain ⟨q1, q2⟩ := rel_parts s hl
    obtain ⟨r1, r2⟩ := cPlaces_spec place _ _ hp
    obtain ⟨cells, k1, k2, k3⟩ := fill_rel place (parts.toList.map fun (k, o) => (k, a.eval o)) ps (l.map (Opd.ev e)) z v.cells row
      (by simpa using r1) (fun i x q hx hq => by
        simp only [List.getElem?_map, Option.map_eq_some_iff] at hx
        obtain ⟨y, hy, rfl⟩ := hx
        exact r2 i y q hy hq)
      (by simpa using q1) q2 hok g1 g2 hrow
    refine done_same s (v := .agg cells) (run_build w t _ cells (hb v _ cells (by simp [hi, hv]) (by simpa using k1))) (.agg _ _ k2 k3) hk
  · exact hk.elim

theorem inOrder_spec : ∀ (parts : List (Nat × Operand)) (k : Nat), inOrder parts k = true → ∀ (i : Nat) x, parts[i]? = some x → x.1 = k + i
  | [], _, _, i, x, hx => by simp at hx
  | (j, o) :: r, k, hi, i, x, hx => by
    simp only [inOrder, Bool.and_eq_true, beq_iff_eq] at hi
    cases i with
    | zero => simp at hx; subst hx; exact hi.1
    | succ i => have := inOrder_spec r (k + 1) hi.2 i x (by simpa using hx); omega


/-! ### slices made -/

theorem fillRow_rows (z : Nat) : ∀ (vs : List AV) (k : Nat) (row : List AV), (∀ v ∈ vs, v.cells.length = z) → (k + vs.length) * z ≤ row.length →
    ∃ row', fillRow row ((List.range' k vs.length).map fun i => (i * z, z)) vs = some row' ∧ row'.length = row.length ∧
      (∀ i j, j < z → i < vs.length → row'[(k + i) * z + j]? = (vs[i]?.map AV.cells).bind (·[j]?)) ∧ ∀ j, j < k * z → row'[j]? = row[j]?
  | [], k, row, _, _ => ⟨row, by simp [fillRow], rfl, fun i j _ h => by simp at h, fun _ _ => rfl⟩
  | v :: vs, k, row, hv, hl => by
    have hvl : v.cells.length = z := hv v (by simp)
    simp only [List.length_cons] at hl
    have e1 : (k + (vs.length + 1)) * z = k * z + z + vs.length * z := by rw [Nat.add_mul, Nat.add_mul, Nat.one_mul]; omega
    have e2 : (k + 1 + vs.length) * z = k * z + z + vs.length * z := by rw [Nat.add_mul, Nat.add_mul, Nat.one_mul]
    have hlen := length_setCells row (k * z) v.cells (by omega)
    obtain ⟨row', h1, h2, h3, h4⟩ := fillRow_rows z vs (k + 1) (setCells row (k * z) v.cells) (fun u hu => hv u (by simp [hu])) (by rw [hlen, e2]; omega)
    refine ⟨row', ?_, by rw [h2, hlen], ?_, ?_⟩
    · simp only [List.length_cons, List.range'_succ, List.map_cons, fillRow]
      rw [if_pos ⟨hvl, by omega⟩]
      exact h1
    · intro i j hj hi
      cases i with
      | zero =>
        simp only [Nat.add_zero, List.getElem?_cons_zero, Option.map_some, Option.bind_some]
        rw [h4 _ (by rw [Nat.add_mul, Nat.one_mul]; omega)]
        simp only [setCells]
        rw [getElem?_splice _ _ _ _ (by omega), if_neg (by omega), if_pos (by omega)]
        congr 1; omega
      | succ i =>
        have := h3 i j hj (by simpa using hi)
        rw [show k + (i + 1) = k + 1 + i by omega, this]
        simp
    · intro j hj
      rw [h4 j (by rw [Nat.add_mul, Nat.one_mul]; omega)]
      simp only [setCells]
      rw [getElem?_splice _ _ _ _ (by omega), if_pos hj]

theorem rel_top_row (w : World) (own : Nat → Prop) (π : Pl) (n k : Nat) : ∀ (j : Nat) c (u : Value), (List.replicate k AV.top)[j]? = some c → Rel w own π n c u := by
  intro j c u hc
  rw [List.getElem?_replicate] at hc
  split at hc
  · cases hc; exact .top u
  · cases hc

/-- A new row of elements: its object. -/
theorem objAt_arr {own : Nat → Prop} {s c b : Nat} {rows : List (List AV)} {cur : Array Value} {t : TypeId} (hb : w.heap[b]? = some (.cells cur t (0, 0))) (hc : cur.size = c * s) (hl : rows.length ≤ c ∧ rows.length ≤ 140737488355328) (hm : c ≤ maxLen)
    (hr : ∀ (i : Nat) row, rows[i]? = some row → row.length = s ∧ ∀ x ∈ row, x.free = true)
    (h : ∀ (i j : Nat) row x u, rows[i]? = some row → row[j]? = some x → cur[i * s + j]? = some u → Rel w own π n x u) {id : Nat} : ObjAt w own π n id ⟨some b, s, c⟩ (.arr s rows) :=
  ⟨rfl, hr, cur, t, hb, hc, hl, hm, h⟩

theorem ref_own (w : World) (own : Nat → Prop) (π : Pl) (kill : Option Nat) (n len cap : Nat) (p : Place) {b : Nat} (hb : p.blk = some b) (N : Nat) (h1 : len ≤ cap) (h2 : cap ≤ p.cap) :
    Rel w own (plAdd π kill n p) N (.ref n 0 len) (.slice (some ⟨b, 0, none⟩) len cap) := by
  have := Rel.refLive (w := w) (own := own) (N := N) n 0 len b cap p (π := plAdd π kill n p) (by simp [plAdd]) hb h1 (by omega)
  simpa using this

theorem bsl_run (s : Sim w0 pass own0 π e h n a w) {t el : TypeId} {len z : Nat} {parts : Array (Nat × Operand)} (ht : cElem P t = some el) (hz : cSize P el = some z)
    (h1 : parts.toList.length = len) (h2 : inOrder parts.toList 0 = true) (h3 : 0 < z) (hzv : ((P.info? el).bind (·.zero)).isSome = true) {l : List Opd} (hl : cOpds (parts.toList.map (·.2)) = some l)
    (hok : ∀ v ∈ l.map (Opd.ev e), v.cells.length = z ∧ ∀ c ∈ v.cells, c.okc anyH) (hsmall : (l.map (Opd.ev e)).length * z ≤ 16777216) :
    l.length = len ∧ ∃ cells, (Instr.buildSlice t len (parts.map fun (i, x) => (i, a.eval x))).run P w = .ok (.slice (some ⟨w.heap.size, 0, none⟩) len len) (w.alloc (.cells cells el)) ∧
      cells.size = len * z ∧ ∀ (i j : Nat) row x u, ((l.map (Opd.ev e)).map AV.cells)[i]? = some row → row[j]? = some x → cells[i * z + j]? = some u → Rel w (ownOf own0 π) π n x u := by
  unfold cSize at hz
  obtain ⟨inf, hi, hiz⟩ := Option.map_eq_some_iff.1 hz
  subst hiz
  obtain ⟨zv, hzv⟩ := Option.isSome_iff_exists.1 hzv
  simp only [hi, Option.bind_some] at hzv
  obtain ⟨q1, q2⟩ := rel_parts s hl
  simp only [List.length_map] at hsmall
  have hll : l.length = len := by rw [← q1, h1]
  rw [hll] at hsmall
  refine ⟨hll, ?_⟩
  have key : ∀ init : Array Value, init.size = len * inf.size → ∃ cells, Instr.fill (fun i => some (i * inf.size, inf.size)) init (parts.toList.map fun (i, x) => (i, a.eval x)) = some cells ∧
      cells.size = len * inf.size ∧ ∀ (i j : Nat) row x u, ((l.map (Opd.ev e)).map AV.cells)[i]? = some row → row[j]? = some x → cells[i * inf.size + j]? = some u → Rel w (ownOf own0 π) π n x u := by
    intro init hinit
    obtain ⟨row', f1, f2, f3, _⟩ := fillRow_rows inf.size (l.map (Opd.ev e)) 0 (List.replicate (len * inf.size) .top) (fun v hv => (hok v hv).1) (by simp [hll])
    obtain ⟨cells, k1, k2, k3⟩ := fill_rel (fun i => some (i * inf.size, inf.size)) (parts.toList.map fun (k, o) => (k, a.eval o)) _ (l.map (Opd.ev e)) (List.replicate (len * inf.size) .top)
      init row'
      (by simp [q1, hll]) (fun i x q hx hq => by
        simp only [List.getElem?_map, Option.map_eq_some_iff] at hx hq
        obtain ⟨y, hy, rfl⟩ := hx
        obtain ⟨r, hr, rfl⟩ := hq
        have e1 := inOrder_spec _ _ h2 i y hy
        obtain ⟨hlt, e2⟩ := List.getElem?_eq_some_iff.1 hr
        simp at e2
        simp only [e1, ← e2, Nat.zero_add])
      (by simp [q1, hll]) q2 (fun y hy c hc => (hok y hy).2 c hc) (by simp [hinit]) (fun j c u hc _ => rel_top_row w _ π n _ j c u hc) f1
    refine ⟨cells, k1, by rw [k2, f2]; simp, fun i j row x u hr hx hu => ?_⟩
    simp only [List.getElem?_map, Option.map_eq_some_iff] at hr
    obtain ⟨y, ⟨o, ho, rfl⟩, rfl⟩ := hr
    have hil : i < l.length := (List.getElem?_eq_some_iff.1 ho).1
    have hj : j < inf.size := by
      rw [← (hok (o.ev e) (by simp only [List.mem_map]; exact ⟨o, List.mem_of_getElem? ho, rfl⟩)).1]
      exact (List.getElem?_eq_some_iff.1 hx).1
    have := f3 i j hj (by simpa using hil)
    rw [Nat.zero_add] at this
    refine k3 _ x u ?_ hu
    rw [this]
    simp [ho, hx]
  have hno : ¬ (16777216 < len * inf.size) := by omega
  by_cases hz0 : len * inf.size = 0
  · obtain ⟨cells, k1, k2, k3⟩ := key ((Array.range (len * inf.size)).map ((#[] : Array Value)[· % (#[] : Array Value).size]!)) (by simp)
    refine ⟨cells, ?_, k2, k3⟩
    have k1' : Instr.fill (fun i => some (i * inf.size, inf.size)) ((Array.range (len * inf.size)).map ((#[] : Array Value)[· % (#[] : Array Value).size]!)) (parts.map fun (i, x) => (i, a.eval x)).toList = some cells := by
      rw [Array.toList_map]; exact k1
    simp only [hz0] at k1'
    simp [Instr.buildSlice, run_underlying (cElem_eq ht), sizeOf, typeInfo, hi, hz0, newRow]
    simp at k1'
    simp [k1']
  · obtain ⟨cells, k1, k2, k3⟩ := key ((Array.range (len * inf.size)).map (zv.cells[· % zv.cells.size]!)) (by simp)
    refine ⟨cells, ?_, k2, k3⟩
    have k1' : Instr.fill (fun i => some (i * inf.size, inf.size)) ((Array.range (len * inf.size)).map (zv.cells[· % zv.cells.size]!)) (parts.map fun (i, x) => (i, a.eval x)).toList = some cells := by
      rw [Array.toList_map]; exact k1
    simp [Instr.buildSlice, run_underlying (cElem_eq ht), sizeOf, typeInfo, zeroValue, hi, hz0, hzv, newRow, hno]
    simp at k1'
    simp [k1']

theorem snd_bsl (s : Sim w0 pass own0 π e h n a w) {t el : TypeId} {len z : Nat} {parts : Array (Nat × Operand)} (ht : cElem P t = some el) (hz : cSize P el = some z)
    (h1 : parts.toList.length = len) (h2 : inOrder parts.toList 0 = true) (h3 : 0 < z) (hzv : ((P.info? el).bind (·.zero)).isSome = true) {l : List Opd} (hl : cOpds (parts.toList.map (·.2)) = some l)
    {K : Kont} (hk : sem (.bsl z) (l.map (Opd.ev e)) h n K) : Done P w0 pass own0 π n w (Instr.buildSlice t len (parts.map fun (i, x) => (i, a.eval x))) K := by
  simp only [sem] at hk
  obtain ⟨hok, hsmall, hk⟩ := hk
  obtain ⟨hll, cells, k1, k2, k3⟩ := bsl_run s ht hz h1 h2 h3 hzv hl (fun v hv => ⟨(hok v hv).1, fun c hc => okc_of_free ((hok v hv).2 c hc)⟩) hsmall
  simp only [List.length_map] at hk hsmall
  rw [hll] at hk hsmall
  have A := adds_new s.hs (.cells cells el) w (.inl rfl) z len
  refine ⟨_, _, _, _, _, _, k1, A.go s.fr (o := .arr z ((l.map (Opd.ev e)).map AV.cells)) ?_, ref_own _ _ _ _ _ _ _ _ rfl _ (Nat.le_refl _) (Nat.le_refl _), by rw [hpAdd_none]; exact hk⟩
  · refine objAt_arr (heap_alloc_new _ _) k2 (by have : len * 1 ≤ len * z := Nat.mul_le_mul_left _ h3; simp [hll]; omega) (by simp only [maxLen]; have : len * 1 ≤ len * z := Nat.mul_le_mul_left _ h3; omega) ?_ ?_
    · intro i row hr
      simp only [List.getElem?_map, Option.map_eq_some_iff] at hr
      obtain ⟨y, ⟨o, ho, rfl⟩, rfl⟩ := hr
      exact hok _ (by simp only [List.mem_map]; exact ⟨o, List.mem_of_getElem? ho, rfl⟩)
    · intro i j row x u hr hx hu
      exact (k3 i j row x u hr hx hu).mono A.mono

end
end Go.Proofs.Ytpfbkblgefddlaa.Av
